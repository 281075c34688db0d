/- What a machine of layer 6 computes, in plain Lean: stages 0 begin, 1 look, 2 keep, 3 open, 4 empty, 5 flush, 6 close, 7 undo, 8 grow, 9 over. -/
import Derived.Test.YtlkniogapdhcpaaAddE
import Derived.Test.YtlkniogapdhcpaaAddN
import Derived.Test.YtlkniogapdhcpaaPlay
import Derived.Test.YtlkniogapdhcpaaPoolP
namespace Go.Proofs.Ytlkniogapdhcpaa
open Go.RowKit
set_option linter.unusedVariables false
set_option linter.unusedSimpArgs false

structure AS where
  W : List Int
  L : List Acc
  st : Nat
  x : Int
  lv : Int
  sp : Nat
  w : Int
  v : Int
def p2 (n : Int) : Prop := n = 1 ∨ n = 2 ∨ n = 4 ∨ n = 8
section
variable (b s : Nat) (g d : Int)
def aMiss (t : AS) : AS := if t.lv < s then { t with st := 8 } else { t with st := 0, x := dNext t.x }
def aNext (t : AS) : AS :=
  match t.st with
  | 0 => { t with L := t.L ++ [⟨1, (b + 3 : Nat), rd t.W (b + 3), 0, false⟩], lv := rd t.W (b + 3), sp := b + 4 + (t.x % rd t.W (b + 3)).toNat, st := 1 }
  | 1 => { t with L := t.L ++ [⟨1, t.sp, rd t.W t.sp, 0, false⟩], w := rd t.W t.sp, v := pVal (rd t.W t.sp) + d, st := if max (pVal (rd t.W t.sp) + d) (-(pVal (rd t.W t.sp) + d)) < g then 2 else 3 }
  | 2 => let u : AS := { t with W := casW t.W t.sp t.w (pNext6 t.w t.v), L := t.L ++ [⟨3, t.sp, t.w, pNext6 t.w t.v, rd t.W t.sp == t.w⟩] }
         if rd t.W t.sp = t.w then { u with st := 9 } else aMiss s u
  | 3 => { t with W := t.W.set (b + 1) (wrap64 (rd t.W (b + 1) + 1)), L := t.L ++ [⟨2, (b + 1 : Nat), 1, wrap64 (rd t.W (b + 1) + 1), false⟩], st := 4 }
  | 4 => { t with W := casW t.W t.sp t.w (pNext6 t.w 0), L := t.L ++ [⟨3, t.sp, t.w, pNext6 t.w 0, rd t.W t.sp == t.w⟩], st := if rd t.W t.sp = t.w then 5 else 7 }
  | 5 => { t with W := t.W.set b (wrap64 (rd t.W b + t.v)), L := t.L ++ [⟨2, b, t.v, wrap64 (rd t.W b + t.v), false⟩], st := 6 }
  | 6 => { t with W := t.W.set (b + 2) (wrap64 (rd t.W (b + 2) + 1)), L := t.L ++ [⟨2, (b + 2 : Nat), 1, wrap64 (rd t.W (b + 2) + 1), false⟩], st := 9 }
  | 7 => aMiss s { t with W := t.W.set (b + 2) (wrap64 (rd t.W (b + 2) + 1)), L := t.L ++ [⟨2, (b + 2 : Nat), 1, wrap64 (rd t.W (b + 2) + 1), false⟩] }
  | 8 => { t with W := casW t.W (b + 3) t.lv (2 * t.lv), L := t.L ++ [⟨3, (b + 3 : Nat), t.lv, 2 * t.lv, rd t.W (b + 3) == t.lv⟩], x := dNext t.x, st := 0 }
  | _ => t
def aStp (t : AS) : AS × Bool := (aNext b s g d t, decide ((aNext b s g d t).st = 9))
def aPk (t : AS) (i : Nat) (x : Int) : AS := { t with W := t.W.set i x }

/-- what holds of a machine, and of its words -/
structure AInv (t : AS) : Prop where
  ln : b + 4 + s ≤ t.W.length
  wl : t.W.length ≤ 10000
  s1 : p2 s
  g1 : 1 ≤ g ∧ g ≤ 2147483647
  d1 : -4398046511104 ≤ d ∧ d ≤ 4398046511104
  lw : p2 (rd t.W (b + 3)) ∧ rd t.W (b + 3) ≤ s
  xb : 0 ≤ t.x ∧ t.x < 4294967296
  nx : t.st ≤ 9
  lb : 1 ≤ t.st → t.st ≤ 8 → p2 t.lv ∧ t.lv ≤ s
  pb : 1 ≤ t.st → t.st ≤ 8 → b + 4 ≤ t.sp ∧ t.sp < b + 4 + s
  vb : t.st = 2 → -g < t.v ∧ t.v < g
  gr : t.st = 8 → t.lv < s
variable {b s g d}
theorem dNext_bd (x : Int) : 0 ≤ dNext x ∧ dNext x < 4294967296 := by
  unfold dNext
  exact dSt_bd _ (by split <;> omega) 3
theorem AInv.poke {t : AS} (h : AInv b s g d t) (i : Nat) (y : Int) (hi : i = b + 3 → p2 y ∧ y ≤ s) : AInv b s g d (aPk t i y) := by
  refine ⟨by simpa [aPk] using h.ln, by simpa [aPk] using h.wl, h.s1, h.g1, h.d1, ?_, h.xb, h.nx, h.lb, h.pb, h.vb, h.gr⟩
  show p2 (rd (t.W.set i y) (b + 3)) ∧ rd (t.W.set i y) (b + 3) ≤ s
  rw [rd_set]
  split
  · rename_i e; exact hi e.1.symm
  · exact h.lw
theorem aMiss_W (s : Nat) (t : AS) : (aMiss s t).W = t.W := by unfold aMiss; split <;> rfl
theorem aMiss_L (s : Nat) (t : AS) : (aMiss s t).L = t.L := by unfold aMiss; split <;> rfl
theorem aMiss_st (s : Nat) (t : AS) : (aMiss s t).st ≤ 8 := by unfold aMiss; split <;> simp
theorem aNext_over {t : AS} (h : t.st = 9) : aNext b s g d t = t := by simp [aNext, h]
theorem st_cases {n : Nat} (h : n ≤ 9) : n = 0 ∨ n = 1 ∨ n = 2 ∨ n = 3 ∨ n = 4 ∨ n = 5 ∨ n = 6 ∨ n = 7 ∨ n = 8 ∨ n = 9 := by omega
theorem aNext_len (t : AS) : (aNext b s g d t).W.length = t.W.length := by
  unfold aNext
  split <;> first | rfl | (simp [casW_length, aMiss_W]; done) | (split <;> simp [casW_length, aMiss_W]; done) | simp [casW_length]
theorem aNext_log (t : AS) (h : t.st < 9) : (aNext b s g d t).L.length = t.L.length + 1 := by
  obtain ⟨W, L, st, x, lv, sp, w, v⟩ := t
  have h' : st < 9 := h
  have h9 : st = 0 ∨ st = 1 ∨ st = 2 ∨ st = 3 ∨ st = 4 ∨ st = 5 ∨ st = 6 ∨ st = 7 ∨ st = 8 := by omega
  clear h h'
  rcases h9 with rfl | rfl | rfl | rfl | rfl | rfl | rfl | rfl | rfl <;> simp only [aNext] <;> (try split) <;> simp [aMiss_L]
theorem p2_double {l s : Int} (hl : p2 l) (hs : p2 s) (h : l < s) : p2 (2 * l) ∧ 2 * l ≤ s := by
  unfold p2 at *
  omega
theorem AInv.miss {t : AS} (ln : b + 4 + s ≤ t.W.length) (wl : t.W.length ≤ 10000) (s1 : p2 s) (g1 : 1 ≤ g ∧ g ≤ 2147483647) (d1 : -4398046511104 ≤ d ∧ d ≤ 4398046511104) (lw : p2 (rd t.W (b + 3)) ∧ rd t.W (b + 3) ≤ s) (xb : 0 ≤ t.x ∧ t.x < 4294967296)
    (lb : p2 t.lv ∧ t.lv ≤ s) (pb : b + 4 ≤ t.sp ∧ t.sp < b + 4 + s) : AInv b s g d (aMiss s t) := by
  unfold aMiss
  split
  · rename_i hc
    exact ⟨ln, wl, s1, g1, d1, lw, xb, by show (8 : Nat) ≤ 9; omega, fun _ _ => lb, fun _ _ => pb, fun h => by simp at h, fun _ => hc⟩
  · exact ⟨ln, wl, s1, g1, d1, lw, dNext_bd _, by show (0 : Nat) ≤ 9; omega, fun h => by simp at h, fun h => by simp at h, fun h => by simp at h, fun h => by simp at h⟩
set_option maxHeartbeats 1000000 in
theorem AInv.step {t : AS} (h : AInv b s g d t) : AInv b s g d (aNext b s g d t) := by
  obtain ⟨W, L, st, x, lv, sp, w, v⟩ := t
  obtain ⟨ln, wl, s1, g1, d1, lw, xb, nx, lb, pb, vb, gr⟩ := h
  simp only at *
  rcases st_cases nx with rfl | rfl | rfl | rfl | rfl | rfl | rfl | rfl | rfl | rfl
  · have h1 : 1 ≤ rd W (b + 3) := by have := lw.1; unfold p2 at this; omega
    have h2 := Int.emod_nonneg x (show rd W (b + 3) ≠ 0 by omega)
    have h3 := Int.emod_lt_of_pos x (show 0 < rd W (b + 3) by omega)
    have hp : b + 4 ≤ b + 4 + (x % rd W (b + 3)).toNat ∧ b + 4 + (x % rd W (b + 3)).toNat < b + 4 + s := by
      have := lw.2
      omega
    exact ⟨ln, wl, s1, g1, d1, lw, xb, by show (1 : Nat) ≤ 9; omega, fun _ _ => lw, fun _ _ => hp, fun h => by simp [aNext] at h, fun h => by simp [aNext] at h⟩
  · have lb' := lb (by omega) (by omega)
    have pb' := pb (by omega) (by omega)
    refine ⟨ln, wl, s1, g1, d1, lw, xb, ?_, fun _ _ => lb', fun _ _ => pb', ?_, ?_⟩
    · show (if max (pVal (rd W sp) + d) (-(pVal (rd W sp) + d)) < g then 2 else 3) ≤ 9
      split <;> omega
    · intro h
      have h' : (if max (pVal (rd W sp) + d) (-(pVal (rd W sp) + d)) < g then 2 else 3) = 2 := h
      show -g < pVal (rd W sp) + d ∧ pVal (rd W sp) + d < g
      split at h'
      · omega
      · omega
    · intro h
      have h' : (if max (pVal (rd W sp) + d) (-(pVal (rd W sp) + d)) < g then 2 else 3) = 8 := h
      split at h' <;> omega
  · have lb' := lb (by omega) (by omega)
    have pb' := pb (by omega) (by omega)
    have hne : ¬ (b + 3 = sp ∧ sp < W.length) := by omega
    have hl : (casW W sp w (pNext6 w v)).length = W.length := casW_length _ _ _ _
    have hr : rd (casW W sp w (pNext6 w v)) (b + 3) = rd W (b + 3) := by rw [rd_casW, if_neg (fun h => hne h.1)]
    by_cases hc : rd W sp = w
    · have e : aNext b s g d ⟨W, L, 2, x, lv, sp, w, v⟩ = ⟨casW W sp w (pNext6 w v), L ++ [⟨3, sp, w, pNext6 w v, rd W sp == w⟩], 9, x, lv, sp, w, v⟩ := by simp [aNext, hc]
      rw [e]
      exact ⟨by rw [hl]; exact ln, by rw [hl]; exact wl, s1, g1, d1, by rw [hr]; exact lw, xb, by show (9 : Nat) ≤ 9; omega, fun _ h => by simp at h, fun _ h => by simp at h, fun h => by simp at h, fun h => by simp at h⟩
    · have e : aNext b s g d ⟨W, L, 2, x, lv, sp, w, v⟩ = aMiss s ⟨casW W sp w (pNext6 w v), L ++ [⟨3, sp, w, pNext6 w v, rd W sp == w⟩], 2, x, lv, sp, w, v⟩ := by simp [aNext, hc]
      rw [e]
      exact AInv.miss (by rw [hl]; exact ln) (by rw [hl]; exact wl) s1 g1 d1 (by rw [hr]; exact lw) xb lb' pb'
  · have lb' := lb (by omega) (by omega)
    have pb' := pb (by omega) (by omega)
    exact ⟨by simpa [aNext] using ln, by simpa [aNext] using wl, s1, g1, d1, by simpa [aNext, rd_set] using lw, xb, by show (4 : Nat) ≤ 9; omega, fun _ _ => lb', fun _ _ => pb', fun h => by simp [aNext] at h, fun h => by simp [aNext] at h⟩
  · have lb' := lb (by omega) (by omega)
    have pb' := pb (by omega) (by omega)
    have hne : ¬ (b + 3 = sp ∧ sp < W.length) := by omega
    have hl : (casW W sp w (pNext6 w 0)).length = W.length := casW_length _ _ _ _
    have hr : rd (casW W sp w (pNext6 w 0)) (b + 3) = rd W (b + 3) := by rw [rd_casW, if_neg (fun h => hne h.1)]
    refine ⟨by show _ ≤ (casW W sp w (pNext6 w 0)).length; rw [hl]; exact ln, by show (casW W sp w (pNext6 w 0)).length ≤ _; rw [hl]; exact wl, s1, g1, d1, by show p2 (rd (casW W sp w (pNext6 w 0)) (b + 3)) ∧ rd (casW W sp w (pNext6 w 0)) (b + 3) ≤ _; rw [hr]; exact lw, xb, ?_, fun _ _ => lb', fun _ _ => pb', fun h => ?_, fun h => ?_⟩
    · show (if rd W sp = w then 5 else 7) ≤ 9
      split <;> omega
    · have h' : (if rd W sp = w then 5 else 7) = 2 := h
      split at h' <;> omega
    · have h' : (if rd W sp = w then 5 else 7) = 8 := h
      split at h' <;> omega
  · have lb' := lb (by omega) (by omega)
    have pb' := pb (by omega) (by omega)
    exact ⟨by simpa [aNext] using ln, by simpa [aNext] using wl, s1, g1, d1, by simpa [aNext, rd_set] using lw, xb, by show (6 : Nat) ≤ 9; omega, fun _ _ => lb', fun _ _ => pb', fun h => by simp [aNext] at h, fun h => by simp [aNext] at h⟩
  · exact ⟨by simpa [aNext] using ln, by simpa [aNext] using wl, s1, g1, d1, by simpa [aNext, rd_set] using lw, xb, by show (9 : Nat) ≤ 9; omega, fun _ h => by simp [aNext] at h, fun _ h => by simp [aNext] at h, fun h => by simp [aNext] at h, fun h => by simp [aNext] at h⟩
  · have lb' := lb (by omega) (by omega)
    have pb' := pb (by omega) (by omega)
    exact AInv.miss (t := ⟨W.set (b + 2) (wrap64 (rd W (b + 2) + 1)), L ++ [⟨2, (b + 2 : Nat), 1, wrap64 (rd W (b + 2) + 1), false⟩], 7, x, lv, sp, w, v⟩) (by simpa using ln) (by simpa using wl) s1 g1 d1 (by simpa [rd_set] using lw) xb lb' pb'
  · have lb' := lb (by omega) (by omega)
    have pb' := pb (by omega) (by omega)
    have hd := p2_double lb'.1 s1 (gr rfl)
    have hl : (casW W (b + 3) lv (2 * lv)).length = W.length := casW_length _ _ _ _
    have hr : p2 (rd (casW W (b + 3) lv (2 * lv)) (b + 3)) ∧ rd (casW W (b + 3) lv (2 * lv)) (b + 3) ≤ s := by
      rw [rd_casW]
      split
      · exact hd
      · exact lw
    exact ⟨by show _ ≤ (casW W (b + 3) lv (2 * lv)).length; rw [hl]; exact ln, by show (casW W (b + 3) lv (2 * lv)).length ≤ _; rw [hl]; exact wl, s1, g1, d1, hr, dNext_bd _, by show (0 : Nat) ≤ 9; omega, fun h => by simp [aNext] at h, fun h => by simp [aNext] at h, fun h => by simp [aNext] at h, fun h => by simp [aNext] at h⟩
  · rw [aNext_over rfl]
    exact ⟨ln, wl, s1, g1, d1, lw, xb, nx, fun _ h => by simp at h, fun _ h => by simp at h, fun h => by simp at h, fun h => by simp at h⟩
end
end Go.Proofs.Ytlkniogapdhcpaa
