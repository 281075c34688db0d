/- Machines of layer 6 that step by turns, in plain Lean: what each adds to the sum, and to what is begun. -/
import Derived.Test.YtlkniogapdhcpaaAddL
namespace Go.Proofs.Ytlkniogapdhcpaa
open Go.RowKit
set_option linter.unusedVariables false
set_option linter.unusedSimpArgs false
/-- what a machine has added to the sum so far; what it has begun -/
def cb (d : Int) (t : AS) : Int := if t.st = 5 then d - t.v else if t.st = 6 ∨ t.st = 9 then d else 0
def ob (t : AS) : Int := if 4 ≤ t.st ∧ t.st ≤ 7 then 1 else 0
structure MI6 (b s : Nat) (g d : Int) (t : AS) : Prop where
  inv : AInv b s g d t
  vi : 2 ≤ t.st → t.st ≤ 5 → t.v = pVal t.w + d
structure StepL (b s : Nat) (d : Int) (t t' : AS) : Prop where
  sum : sP t'.W b s - cb d t' = sP t.W b s - cb d t
  bd : rd t'.W (b + 1) - rd t'.W (b + 2) - ob t' = rd t.W (b + 1) - rd t.W (b + 2) - ob t
  gl : rd t.W b - 8796093022208 ≤ rd t'.W b ∧ rd t'.W b ≤ rd t.W b + 8796093022208
  bg : rd t.W (b + 1) ≤ rd t'.W (b + 1) ∧ rd t'.W (b + 1) ≤ rd t.W (b + 1) + 1
  dn : rd t.W (b + 2) ≤ rd t'.W (b + 2) ∧ rd t'.W (b + 2) ≤ rd t.W (b + 2) + 1
section
variable {b s : Nat} {g d : Int}
theorem casW_far (W : List Int) (i j : Nat) (a y : Int) (h : i ≠ j) : rd (casW W i a y) j = rd W j := by
  unfold casW
  split
  · rw [rd_set, if_neg (fun e => h e.1.symm)]
  · rfl
theorem cb_miss (s : Nat) (d : Int) (t : AS) : cb d (aMiss s t) = 0 ∧ ob (aMiss s t) = 0 := by
  unfold aMiss
  split <;> simp [cb, ob]
theorem MI6.stepL {t : AS} (h : MI6 b s g d t) (h0 : -2305843009213693952 ≤ rd t.W b ∧ rd t.W b ≤ 2305843009213693952) (h1 : -2305843009213693952 ≤ rd t.W (b + 1) ∧ rd t.W (b + 1) ≤ 2305843009213693952) (h2 : -2305843009213693952 ≤ rd t.W (b + 2) ∧ rd t.W (b + 2) ≤ 2305843009213693952) :
    StepL b s d t (aNext b s g d t) := by
  obtain ⟨W, L, st, x, lv, sp, w, v⟩ := t
  obtain ⟨⟨ln, wl, s1, g1, d1, lw, xb, nx, lb, pb, vb, gr⟩, vi⟩ := h
  simp only at *
  have hs8 : 1 ≤ s ∧ s ≤ 8 := by unfold p2 at s1; omega
  rcases st_cases nx with rfl | rfl | rfl | rfl | rfl | rfl | rfl | rfl | rfl | rfl
  · exact ⟨by simp [aNext, cb], by simp [aNext, ob], by simp only [aNext]; omega, by simp only [aNext]; omega, by simp only [aNext]; omega⟩
  · refine ⟨?_, ?_, by simp only [aNext]; omega, by simp only [aNext]; omega, by simp only [aNext]; omega⟩
    · simp only [aNext]
      split <;> simp [cb]
    · simp only [aNext]
      split <;> simp [ob]
  · have pb' := pb (by omega) (by omega)
    have vb' := vb rfl
    have vi' := vi (by omega) (by omega)
    obtain ⟨i, rfl⟩ : ∃ i, sp = b + 4 + i := ⟨sp - (b + 4), by omega⟩
    have f0 := casW_far W (b + 4 + i) b w (pNext6 w v) (by omega)
    have f1 := casW_far W (b + 4 + i) (b + 1) w (pNext6 w v) (by omega)
    have f2 := casW_far W (b + 4 + i) (b + 2) w (pNext6 w v) (by omega)
    by_cases hq : rd W (b + 4 + i) = w
    · have e : aNext b s g d ⟨W, L, 2, x, lv, b + 4 + i, w, v⟩ = ⟨casW W (b + 4 + i) w (pNext6 w v), L ++ [⟨3, (b + 4 + i : Nat), w, pNext6 w v, rd W (b + 4 + i) == w⟩], 9, x, lv, b + 4 + i, w, v⟩ := by simp [aNext, hq]
      rw [e]
      refine ⟨?_, by show rd (casW W (b + 4 + i) w (pNext6 w v)) (b + 1) - rd (casW W (b + 4 + i) w (pNext6 w v)) (b + 2) - ob _ = _; rw [f1, f2]; simp [ob], by simp only; rw [f0]; omega, by simp only; rw [f1]; omega, by simp only; rw [f2]; omega⟩
      show sP (casW W (b + 4 + i) w (pNext6 w v)) b s - cb d _ = _
      rw [casW_eq hq, sP_stripe _ _ _ _ _ (by omega) (by omega), pVal_next _ _ (by omega), hq]
      simp [cb]
      omega
    · have e : aNext b s g d ⟨W, L, 2, x, lv, b + 4 + i, w, v⟩ = aMiss s ⟨casW W (b + 4 + i) w (pNext6 w v), L ++ [⟨3, (b + 4 + i : Nat), w, pNext6 w v, rd W (b + 4 + i) == w⟩], 2, x, lv, b + 4 + i, w, v⟩ := by simp [aNext, hq]
      rw [e]
      have cm := cb_miss s d ⟨casW W (b + 4 + i) w (pNext6 w v), L ++ [⟨3, (b + 4 + i : Nat), w, pNext6 w v, rd W (b + 4 + i) == w⟩], 2, x, lv, b + 4 + i, w, v⟩
      have hw := casW_ne (W := W) (i := b + 4 + i) (a := w) (y := pNext6 w v) hq
      exact ⟨by rw [cm.1, aMiss_W]; simp only; rw [hw]; simp [cb], by rw [cm.2, aMiss_W]; simp only; rw [hw]; simp [ob], by rw [aMiss_W]; simp only; rw [hw]; omega, by rw [aMiss_W]; simp only; rw [hw]; omega, by rw [aMiss_W]; simp only; rw [hw]; omega⟩
  · have r : ∀ j, rd (W.set (b + 1) (wrap64 (rd W (b + 1) + 1))) j = if b + 1 = j then rd W (b + 1) + 1 else rd W j := fun j => by rw [rd_set_in (by omega), wrap64_in (by omega)]
    refine ⟨?_, ?_, ?_, ?_, ?_⟩
    · simp only [aNext]
      rw [sP_out _ _ _ _ _ (by omega)]
      simp [cb]
    · simp only [aNext]
      rw [r, if_pos rfl, r, if_neg (by omega)]
      simp [ob]
      omega
    · simp only [aNext]; rw [r, if_neg (by omega)]; omega
    · simp only [aNext]; rw [r, if_pos rfl]; omega
    · simp only [aNext]; rw [r, if_neg (by omega)]; omega
  · have pb' := pb (by omega) (by omega)
    have vi' := vi (by omega) (by omega)
    obtain ⟨i, rfl⟩ : ∃ i, sp = b + 4 + i := ⟨sp - (b + 4), by omega⟩
    have f0 := casW_far W (b + 4 + i) b w (pNext6 w 0) (by omega)
    have f1 := casW_far W (b + 4 + i) (b + 1) w (pNext6 w 0) (by omega)
    have f2 := casW_far W (b + 4 + i) (b + 2) w (pNext6 w 0) (by omega)
    refine ⟨?_, ?_, by simp only [aNext]; rw [f0]; omega, by simp only [aNext]; rw [f1]; omega, by simp only [aNext]; rw [f2]; omega⟩
    · by_cases hq : rd W (b + 4 + i) = w
      · simp only [aNext, if_pos hq]
        rw [casW_eq hq, sP_stripe _ _ _ _ _ (by omega) (by omega), pVal_zero, hq]
        simp [cb]
        omega
      · simp only [aNext, if_neg hq]
        rw [casW_ne hq]
        simp [cb]
    · simp only [aNext]
      rw [f1, f2]
      split <;> simp [ob]
  · have vi' := vi (by omega) (by omega)
    have hp := pVal_bd w
    have r : ∀ j, rd (W.set b (wrap64 (rd W b + v))) j = if b = j then rd W b + v else rd W j := fun j => by rw [rd_set_in (by omega), wrap64_in (by omega)]
    refine ⟨?_, ?_, ?_, ?_, ?_⟩
    · simp only [aNext]
      rw [sP_glob _ _ _ _ (by omega), wrap64_in (by omega)]
      simp [cb]
      omega
    · simp only [aNext]
      rw [r, if_neg (by omega), r, if_neg (by omega)]
      simp [ob]
    · simp only [aNext]; rw [r, if_pos rfl]; omega
    · simp only [aNext]; rw [r, if_neg (by omega)]; omega
    · simp only [aNext]; rw [r, if_neg (by omega)]; omega
  · have r : ∀ j, rd (W.set (b + 2) (wrap64 (rd W (b + 2) + 1))) j = if b + 2 = j then rd W (b + 2) + 1 else rd W j := fun j => by rw [rd_set_in (by omega), wrap64_in (by omega)]
    refine ⟨?_, ?_, ?_, ?_, ?_⟩
    · simp only [aNext]
      rw [sP_out _ _ _ _ _ (by omega)]
      simp [cb]
    · simp only [aNext]
      rw [r, if_neg (by omega), r, if_pos rfl]
      simp [ob]
      omega
    · simp only [aNext]; rw [r, if_neg (by omega)]; omega
    · simp only [aNext]; rw [r, if_neg (by omega)]; omega
    · simp only [aNext]; rw [r, if_pos rfl]; omega
  · have r : ∀ j, rd (W.set (b + 2) (wrap64 (rd W (b + 2) + 1))) j = if b + 2 = j then rd W (b + 2) + 1 else rd W j := fun j => by rw [rd_set_in (by omega), wrap64_in (by omega)]
    have cm := cb_miss s d ⟨W.set (b + 2) (wrap64 (rd W (b + 2) + 1)), L ++ [⟨2, (b + 2 : Nat), 1, wrap64 (rd W (b + 2) + 1), false⟩], 7, x, lv, sp, w, v⟩
    refine ⟨?_, ?_, ?_, ?_, ?_⟩
    · simp only [aNext]
      rw [cm.1, aMiss_W]
      simp only
      rw [sP_out _ _ _ _ _ (by omega)]
      simp [cb]
    · simp only [aNext]
      rw [cm.2, aMiss_W]
      simp only
      rw [r, if_neg (by omega), r, if_pos rfl]
      simp [ob]
      omega
    · simp only [aNext]; rw [aMiss_W]; simp only; rw [r, if_neg (by omega)]; omega
    · simp only [aNext]; rw [aMiss_W]; simp only; rw [r, if_neg (by omega)]; omega
    · simp only [aNext]; rw [aMiss_W]; simp only; rw [r, if_pos rfl]; omega
  · have f0 := casW_far W (b + 3) b lv (2 * lv) (by omega)
    have f1 := casW_far W (b + 3) (b + 1) lv (2 * lv) (by omega)
    have f2 := casW_far W (b + 3) (b + 2) lv (2 * lv) (by omega)
    refine ⟨?_, by simp only [aNext]; rw [f1, f2]; simp [ob], by simp only [aNext]; rw [f0]; omega, by simp only [aNext]; rw [f1]; omega, by simp only [aNext]; rw [f2]; omega⟩
    simp only [aNext]
    have hs : sP (casW W (b + 3) lv (2 * lv)) b s = sP W b s := by
      unfold casW
      split
      · exact sP_out _ _ _ _ _ (by omega)
      · rfl
    rw [hs]
    simp [cb]
  · rw [aNext_over rfl]
    exact ⟨rfl, rfl, by omega, by omega, by omega⟩
theorem vi_miss (s : Nat) (d : Int) (t : AS) : 2 ≤ (aMiss s t).st → (aMiss s t).st ≤ 5 → (aMiss s t).v = pVal (aMiss s t).w + d := by
  unfold aMiss
  split <;> (intro h1 h2; simp at h1 h2)
theorem MI6.step {t : AS} (h : MI6 b s g d t) : MI6 b s g d (aNext b s g d t) := by
  refine ⟨h.inv.step, ?_⟩
  obtain ⟨W, L, st, x, lv, sp, w, v⟩ := t
  obtain ⟨⟨ln, wl, s1, g1, d1, lw, xb, nx, lb, pb, vb, gr⟩, vi⟩ := h
  simp only at *
  rcases st_cases nx with rfl | rfl | rfl | rfl | rfl | rfl | rfl | rfl | rfl | rfl
  · intro h1 _; simp [aNext] at h1
  · intro _ _; rfl
  · by_cases hq : rd W sp = w
    · intro _ h2; simp [aNext, hq] at h2
    · have e : aNext b s g d ⟨W, L, 2, x, lv, sp, w, v⟩ = aMiss s ⟨casW W sp w (pNext6 w v), L ++ [⟨3, sp, w, pNext6 w v, rd W sp == w⟩], 2, x, lv, sp, w, v⟩ := by simp [aNext, hq]
      rw [e]; exact vi_miss _ _ _
  · intro _ _; exact vi (by omega) (by omega)
  · intro _ _; exact vi (by omega) (by omega)
  · intro _ h2; simp [aNext] at h2
  · intro _ h2; simp [aNext] at h2
  · exact vi_miss _ _ _
  · intro h1 _; simp [aNext] at h1
  · rw [aNext_over rfl]; exact vi
/-- another one's step -/
theorem MI6.other {t : AS} (h : MI6 b s g d t) (W : List Int) (L : List Acc) (h1 : W.length = t.W.length) (h2 : p2 (rd W (b + 3)) ∧ rd W (b + 3) ≤ s) : MI6 b s g d { t with W := W, L := L } :=
  ⟨⟨by simp only; rw [h1]; exact h.inv.ln, by simp only; rw [h1]; exact h.inv.wl, h.inv.s1, h.inv.g1, h.inv.d1, h2, h.inv.xb, h.inv.nx, h.inv.lb, h.inv.pb, h.inv.vb, h.inv.gr⟩, h.vi⟩
/-- how many steps a machine needs yet, if it is alone -/
def need6 (t : AS) : Nat :=
  match t.st with
  | 0 => 6
  | 1 => 5
  | 2 => if rd t.W t.sp = t.w then 1 else 8
  | 3 => if rd t.W t.sp = t.w then 4 else 10
  | 4 => if rd t.W t.sp = t.w then 3 else 9
  | 5 => 2
  | 6 => 1
  | 7 => 8
  | 8 => 7
  | _ => 0
theorem need6_le (t : AS) : need6 t ≤ 10 := by
  unfold need6
  split <;> (try split) <;> omega
theorem need6_miss (s : Nat) (t : AS) : need6 (aMiss s t) ≤ 7 := by
  unfold aMiss
  split <;> simp [need6]
theorem need6_step {t : AS} (h : AInv b s g d t) (h9 : t.st ≠ 9) : need6 (aNext b s g d t) + 1 ≤ need6 t := by
  obtain ⟨W, L, st, x, lv, sp, w, v⟩ := t
  obtain ⟨ln, wl, s1, g1, d1, lw, xb, nx, lb, pb, vb, gr⟩ := h
  simp only at *
  rcases st_cases nx with rfl | rfl | rfl | rfl | rfl | rfl | rfl | rfl | rfl | rfl
  · simp [aNext, need6]
  · simp only [aNext]
    split <;> simp [need6]
  · by_cases hq : rd W sp = w
    · have e : aNext b s g d ⟨W, L, 2, x, lv, sp, w, v⟩ = ⟨casW W sp w (pNext6 w v), L ++ [⟨3, sp, w, pNext6 w v, rd W sp == w⟩], 9, x, lv, sp, w, v⟩ := by simp [aNext, hq]
      rw [e]; simp [need6, hq]
    · have e : aNext b s g d ⟨W, L, 2, x, lv, sp, w, v⟩ = aMiss s ⟨casW W sp w (pNext6 w v), L ++ [⟨3, sp, w, pNext6 w v, rd W sp == w⟩], 2, x, lv, sp, w, v⟩ := by simp [aNext, hq]
      rw [e]
      have := need6_miss s ⟨casW W sp w (pNext6 w v), L ++ [⟨3, sp, w, pNext6 w v, rd W sp == w⟩], 2, x, lv, sp, w, v⟩
      simp only [need6, if_neg hq] at *
      omega
  · have pb' := pb (by omega) (by omega)
    have e : rd (W.set (b + 1) (wrap64 (rd W (b + 1) + 1))) sp = rd W sp := by rw [rd_set, if_neg (by omega)]
    simp only [aNext, need6, e]
    split <;> omega
  · simp only [aNext]
    by_cases hq : rd W sp = w
    · simp [need6, hq]
    · simp [need6, hq]
  · simp [aNext, need6]
  · simp [aNext, need6]
  · simp only [aNext]
    have := need6_miss s ⟨W.set (b + 2) (wrap64 (rd W (b + 2) + 1)), L ++ [⟨2, (b + 2 : Nat), 1, wrap64 (rd W (b + 2) + 1), false⟩], 7, x, lv, sp, w, v⟩
    simp only [need6] at *
    omega
  · simp [aNext, need6]
  · exact absurd rfl h9
end
end Go.Proofs.Ytlkniogapdhcpaa
