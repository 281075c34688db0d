/- What a machine of layer 6 does to its counter's words, in plain Lean: sums, the gate, a machine that is alone. -/
import Derived.Test.YtlkniogapdhcpaaAddP
import Derived.Test.YtlkniogapdhcpaaAddSum
namespace Go.Proofs.Ytlkniogapdhcpaa
open Go.RowKit
set_option linter.unusedVariables false
set_option linter.unusedSimpArgs false
theorem wrap64_in {x : Int} (h : -9223372036854775808 ≤ x ∧ x ≤ 9223372036854775807) : wrap64 x = x := by unfold wrap64; omega
theorem rd_set_in {l : List Int} {i j : Nat} {x : Int} (h : i < l.length) : rd (l.set i x) j = if i = j then x else rd l j := by
  rw [rd_set]
  by_cases hj : i = j
  · rw [if_pos ⟨hj.symm, by omega⟩, if_pos hj]
  · rw [if_neg (fun h => hj h.1.symm), if_neg hj]
/-- the sum, without wraps -/
def sP (W : List Int) (b : Nat) : Nat → Int
  | 0 => rd W b
  | u + 1 => sP W b u + pVal (rd W (b + 4 + u))
theorem sP_bd (W : List Int) (b : Nat) (u : Nat) : rd W b - 2147483648 * u ≤ sP W b u ∧ sP W b u ≤ rd W b + 2147483648 * u := by
  induction u with
  | zero => simp [sP]
  | succ u ih =>
    have := pVal_bd (rd W (b + 4 + u))
    simp only [sP]
    omega
theorem sumN_eq {W : List Int} {b : Nat} (h : -4611686018427387904 ≤ rd W b ∧ rd W b ≤ 4611686018427387904) (u : Nat) (hu : u ≤ 1000000) : sumN W b u = sP W b u := by
  induction u with
  | zero => rfl
  | succ u ih =>
    have h1 := sP_bd W b u
    have h2 := pVal_bd (rd W (b + 4 + u))
    simp only [sP, sumN]
    rw [ih (by omega), wrap64_in (by omega)]
theorem sP_out (W : List Int) (b u j : Nat) (y : Int) (h : j ≠ b ∧ (j < b + 4 ∨ b + 4 + u ≤ j)) : sP (W.set j y) b u = sP W b u := by
  induction u with
  | zero => simp only [sP]; rw [rd_set, if_neg (by omega)]
  | succ u ih =>
    simp only [sP]
    rw [ih (by omega), rd_set, if_neg (by omega)]
theorem sP_glob (W : List Int) (b u : Nat) (y : Int) (h : b < W.length) : sP (W.set b y) b u = sP W b u + (y - rd W b) := by
  induction u with
  | zero => simp only [sP]; rw [rd_set, if_pos ⟨rfl, h⟩]; omega
  | succ u ih =>
    simp only [sP]
    rw [ih, rd_set, if_neg (by omega)]
    omega
theorem sP_stripe (W : List Int) (b u i : Nat) (y : Int) (hi : i < u) (h : b + 4 + i < W.length) : sP (W.set (b + 4 + i) y) b u = sP W b u + (pVal y - pVal (rd W (b + 4 + i))) := by
  induction u with
  | zero => omega
  | succ u ih =>
    by_cases hc : i = u
    · subst hc
      simp only [sP]
      rw [sP_out _ _ _ _ _ (by omega), rd_set, if_pos ⟨rfl, h⟩]
      omega
    · simp only [sP]
      rw [ih (by omega), rd_set, if_neg (by omega)]
      omega
/-- the stripes' values are within the gate -/
def GateAt (W : List Int) (b s : Nat) (g : Int) : Prop := ∀ i, i < s → -g < pVal (rd W (b + 4 + i)) ∧ pVal (rd W (b + 4 + i)) < g
theorem GateAt.set {W : List Int} {b s : Nat} {g : Int} (h : GateAt W b s g) (j : Nat) (y : Int) (hy : (b + 4 ≤ j ∧ j < b + 4 + s) → -g < pVal y ∧ pVal y < g) : GateAt (W.set j y) b s g := by
  intro i hi
  rw [rd_set]
  split
  · rename_i e
    exact hy (by omega)
  · exact h i hi
theorem sP_gate {W : List Int} {b s : Nat} {g : Int} (h : GateAt W b s g) (u : Nat) (hu : u ≤ s) : rd W b - u * (g - 1) ≤ sP W b u ∧ sP W b u ≤ rd W b + u * (g - 1) := by
  induction u with
  | zero => simp [sP]
  | succ u ih =>
    have h1 := ih (by omega)
    have h2 := h u (by omega)
    simp only [sP]
    rw [show ((u + 1 : Nat) : Int) * (g - 1) = (u : Int) * (g - 1) + (g - 1) from by rw [show ((u + 1 : Nat) : Int) = (u : Int) + 1 from by omega, Int.add_mul, Int.one_mul]]
    omega
theorem pVal_zero (w : Int) : pVal (pNext6 w 0) = 0 := pVal_next w 0 (by omega)
theorem casW_eq {W : List Int} {i : Nat} {a y : Int} (h : rd W i = a) : casW W i a y = W.set i y := by unfold casW; rw [if_pos (by simpa using h)]
theorem casW_ne {W : List Int} {i : Nat} {a y : Int} (h : ¬ rd W i = a) : casW W i a y = W := by unfold casW; rw [if_neg (by simpa using h)]

/-- what a machine that was alone did: n accesses -/
structure Alone (b s : Nat) (g d : Int) (W : List Int) (W' : List Int) (n : Nat) : Prop where
  ln : W'.length = W.length
  out : ∀ j, (j < b ∨ b + 4 + s ≤ j) → rd W' j = rd W j
  n36 : (n = 3 ∧ rd W' b = rd W b ∧ rd W' (b + 1) = rd W (b + 1) ∧ rd W' (b + 2) = rd W (b + 2)) ∨ (n = 6 ∧ rd W' (b + 1) = wrap64 (rd W (b + 1) + 1) ∧ rd W' (b + 2) = wrap64 (rd W (b + 2) + 1))
  lv : rd W' (b + 3) = rd W (b + 3)
  sum : sP W' b s = sP W b s + d
  gl : rd W b - 4398046511104 * 2 ≤ rd W' b ∧ rd W' b ≤ rd W b + 4398046511104 * 2
  gate : GateAt W b s g → GateAt W' b s g
  d0 : GateAt W b s g → d = 0 → n = 3
section
variable {b s : Nat} {g d : Int}
theorem playF_step {τ : Type} (stp : τ → τ × Bool) (pk : τ → Nat → Int → τ) (len k n : Nat) (t : τ) (h : (stp t).2 = false) : playF stp pk len [] (k + 1) n t = playF stp pk len [] k (n + 1) (stp t).1 := by
  show (if (stp (pokeAll pk len n [] t)).2 = true then _ else _) = _
  rw [show pokeAll pk len n [] t = t from rfl, if_neg (by simp [h])]
theorem playF_last {τ : Type} (stp : τ → τ × Bool) (pk : τ → Nat → Int → τ) (len k n : Nat) (t : τ) (h : (stp t).2 = true) : playF stp pk len [] (k + 1) n t = ((stp t).1, n + 1, true) := by
  show (if (stp (pokeAll pk len n [] t)).2 = true then _ else _) = _
  rw [show pokeAll pk len n [] t = t from rfl, if_pos h]
theorem aStp_no {t u : AS} (h : aNext b s g d t = u) (h9 : u.st ≠ 9) : (aStp b s g d t).2 = false ∧ (aStp b s g d t).1 = u := by
  unfold aStp
  rw [h]
  exact ⟨by simpa using h9, rfl⟩
theorem aStp_yes {t u : AS} (h : aNext b s g d t = u) (h9 : u.st = 9) : (aStp b s g d t).2 = true ∧ (aStp b s g d t).1 = u := by
  unfold aStp
  rw [h]
  exact ⟨by simpa using h9, rfl⟩
set_option maxHeartbeats 2000000 in
theorem alone {W : List Int} {L : List Acc} {x lv w v : Int} {sp : Nat} (h : AInv b s g d ⟨W, L, 0, x, lv, sp, w, v⟩) (hg : -4611686018427387904 ≤ rd W b ∧ rd W b ≤ 4611686018427387904) (len k : Nat) :
    ∃ t' n, playF (aStp b s g d) aPk len [] (k + 6) 0 ⟨W, L, 0, x, lv, sp, w, v⟩ = (t', n, true) ∧ t'.st = 9 ∧ t'.L.length = L.length + n ∧ Alone b s g d W t'.W n := by
  obtain ⟨ln, wl, s1, g1, d1, lw, xb, nx, lb, pb, vb, gr⟩ := h
  simp only at *
  have h1 : 1 ≤ rd W (b + 3) := by have := lw.1; unfold p2 at this; omega
  have h2 := Int.emod_nonneg x (show rd W (b + 3) ≠ 0 by omega)
  have h3 := Int.emod_lt_of_pos x (show 0 < rd W (b + 3) by omega)
  obtain ⟨i, hi⟩ : ∃ i, i = (x % rd W (b + 3)).toNat := ⟨_, rfl⟩
  have his : i < s := by have := lw.2; omega
  have hvb := pVal_bd (rd W (b + 4 + i))
  obtain ⟨y, hy⟩ : ∃ y, y = pVal (rd W (b + 4 + i)) + d := ⟨_, rfl⟩
  have e1 : aNext b s g d ⟨W, L, 0, x, lv, sp, w, v⟩ = ⟨W, L ++ [⟨1, (b + 3 : Nat), rd W (b + 3), 0, false⟩], 1, x, rd W (b + 3), b + 4 + i, w, v⟩ := by rw [hi]; rfl
  obtain ⟨a1, b1⟩ := aStp_no e1 (by simp)
  by_cases hc : max y (-y) < g
  · have e2 : aNext b s g d ⟨W, L ++ [⟨1, (b + 3 : Nat), rd W (b + 3), 0, false⟩], 1, x, rd W (b + 3), b + 4 + i, w, v⟩ = ⟨W, L ++ [⟨1, (b + 3 : Nat), rd W (b + 3), 0, false⟩] ++ [⟨1, (b + 4 + i : Nat), rd W (b + 4 + i), 0, false⟩], 2, x, rd W (b + 3), b + 4 + i, rd W (b + 4 + i), y⟩ := by simp only [aNext]; rw [← hy, if_pos hc]
    obtain ⟨a2, b2⟩ := aStp_no e2 (by simp)
    have e3 : aNext b s g d ⟨W, L ++ [⟨1, (b + 3 : Nat), rd W (b + 3), 0, false⟩] ++ [⟨1, (b + 4 + i : Nat), rd W (b + 4 + i), 0, false⟩], 2, x, rd W (b + 3), b + 4 + i, rd W (b + 4 + i), y⟩ = ⟨W.set (b + 4 + i) (pNext6 (rd W (b + 4 + i)) y), L ++ [⟨1, (b + 3 : Nat), rd W (b + 3), 0, false⟩] ++ [⟨1, (b + 4 + i : Nat), rd W (b + 4 + i), 0, false⟩] ++ [⟨3, (b + 4 + i : Nat), rd W (b + 4 + i), pNext6 (rd W (b + 4 + i)) y, true⟩], 9, x, rd W (b + 3), b + 4 + i, rd W (b + 4 + i), y⟩ := by simp [aNext, casW_eq]
    obtain ⟨a3, b3⟩ := aStp_yes e3 rfl
    refine ⟨_, 3, by rw [show k + 6 = (k + 3) + 1 + 1 + 1 from by omega, playF_step _ _ _ _ _ _ a1, b1, playF_step _ _ _ _ _ _ a2, b2, playF_last _ _ _ _ _ _ a3, b3], rfl, by simp, ?_⟩
    have hp : pVal (pNext6 (rd W (b + 4 + i)) y) = y := pVal_next _ _ (by omega)
    refine ⟨by simp, fun j hj => by rw [rd_set, if_neg (by omega)], Or.inl ⟨rfl, by rw [rd_set, if_neg (by omega)], by rw [rd_set, if_neg (by omega)], by rw [rd_set, if_neg (by omega)]⟩, by rw [rd_set, if_neg (by omega)], ?_, by rw [rd_set, if_neg (by omega)]; omega, fun hG => hG.set _ _ (fun _ => by rw [hp]; omega), fun _ _ => rfl⟩
    rw [sP_stripe _ _ _ _ _ his (by omega), hp]
    omega
  · have e2 : aNext b s g d ⟨W, L ++ [⟨1, (b + 3 : Nat), rd W (b + 3), 0, false⟩], 1, x, rd W (b + 3), b + 4 + i, w, v⟩ = ⟨W, L ++ [⟨1, (b + 3 : Nat), rd W (b + 3), 0, false⟩] ++ [⟨1, (b + 4 + i : Nat), rd W (b + 4 + i), 0, false⟩], 3, x, rd W (b + 3), b + 4 + i, rd W (b + 4 + i), y⟩ := by simp only [aNext]; rw [← hy, if_neg hc]
    obtain ⟨a2, b2⟩ := aStp_no e2 (by simp)
    have hl2 : (L ++ [(⟨1, (b + 3 : Nat), rd W (b + 3), 0, false⟩ : Acc)] ++ [(⟨1, (b + 4 + i : Nat), rd W (b + 4 + i), 0, false⟩ : Acc)]).length = L.length + 2 := by simp
    generalize hw0 : rd W (b + 4 + i) = w0 at *
    generalize L ++ [(⟨1, (b + 3 : Nat), rd W (b + 3), 0, false⟩ : Acc)] ++ [⟨1, (b + 4 + i : Nat), w0, 0, false⟩] = L2 at *
    have e3 : aNext b s g d ⟨W, L2, 3, x, rd W (b + 3), b + 4 + i, w0, y⟩ = ⟨W.set (b + 1) (wrap64 (rd W (b + 1) + 1)), L2 ++ [⟨2, (b + 1 : Nat), 1, wrap64 (rd W (b + 1) + 1), false⟩], 4, x, rd W (b + 3), b + 4 + i, w0, y⟩ := rfl
    obtain ⟨a3, b3⟩ := aStp_no e3 (by simp)
    obtain ⟨W1, hW1⟩ : ∃ W1, W1 = W.set (b + 1) (wrap64 (rd W (b + 1) + 1)) := ⟨_, rfl⟩
    have r1 : ∀ j, rd W1 j = if b + 1 = j then wrap64 (rd W (b + 1) + 1) else rd W j := fun j => by rw [hW1, rd_set_in (by omega)]
    have l1 : W1.length = W.length := by rw [hW1]; simp
    have q1 : sP W1 b s = sP W b s := by rw [hW1]; exact sP_out _ _ _ _ _ (by omega)
    rw [← hW1] at b3
    have e4 : aNext b s g d ⟨W1, L2 ++ [⟨2, (b + 1 : Nat), 1, wrap64 (rd W (b + 1) + 1), false⟩], 4, x, rd W (b + 3), b + 4 + i, w0, y⟩ = ⟨W1.set (b + 4 + i) (pNext6 w0 0), L2 ++ [⟨2, (b + 1 : Nat), 1, wrap64 (rd W (b + 1) + 1), false⟩] ++ [⟨3, (b + 4 + i : Nat), w0, pNext6 w0 0, true⟩], 5, x, rd W (b + 3), b + 4 + i, w0, y⟩ := by
      have hr : rd W1 (b + 4 + i) = w0 := by rw [r1, if_neg (by omega), hw0]
      simp [aNext, casW_eq, hr]
    obtain ⟨a4, b4⟩ := aStp_no e4 (by simp)
    obtain ⟨W2, hW2⟩ : ∃ W2, W2 = W1.set (b + 4 + i) (pNext6 w0 0) := ⟨_, rfl⟩
    have r2 : ∀ j, rd W2 j = if b + 4 + i = j then pNext6 w0 0 else rd W1 j := fun j => by rw [hW2, rd_set_in (by omega)]
    have l2 : W2.length = W.length := by rw [hW2]; simp [l1]
    have q2 : sP W2 b s = sP W b s - pVal w0 := by rw [hW2, sP_stripe _ _ _ _ _ his (by omega), q1, pVal_zero, r1, if_neg (by omega), hw0]; omega
    have g2 : GateAt W b s g → GateAt W2 b s g := fun hG => by rw [hW2, hW1]; exact (hG.set _ _ (fun h => by omega)).set _ _ (fun _ => by rw [pVal_zero]; omega)
    rw [← hW2] at b4
    have e5 : aNext b s g d ⟨W2, L2 ++ [⟨2, (b + 1 : Nat), 1, wrap64 (rd W (b + 1) + 1), false⟩] ++ [⟨3, (b + 4 + i : Nat), w0, pNext6 w0 0, true⟩], 5, x, rd W (b + 3), b + 4 + i, w0, y⟩ = ⟨W2.set b (wrap64 (rd W2 b + y)), L2 ++ [⟨2, (b + 1 : Nat), 1, wrap64 (rd W (b + 1) + 1), false⟩] ++ [⟨3, (b + 4 + i : Nat), w0, pNext6 w0 0, true⟩] ++ [⟨2, b, y, wrap64 (rd W2 b + y), false⟩], 6, x, rd W (b + 3), b + 4 + i, w0, y⟩ := rfl
    obtain ⟨a5, b5⟩ := aStp_no e5 (by simp)
    have hb2 : rd W2 b = rd W b := by rw [r2, if_neg (by omega), r1, if_neg (by omega)]
    have hwr : wrap64 (rd W2 b + y) = rd W b + y := by rw [hb2, wrap64_in (by omega)]
    rw [hwr] at b5
    obtain ⟨W3, hW3⟩ : ∃ W3, W3 = W2.set b (rd W b + y) := ⟨_, rfl⟩
    have r3 : ∀ j, rd W3 j = if b = j then rd W b + y else rd W2 j := fun j => by rw [hW3, rd_set_in (by omega)]
    have l3 : W3.length = W.length := by rw [hW3]; simp [l2]
    have q3 : sP W3 b s = sP W b s + d := by rw [hW3, sP_glob _ _ _ _ (by omega), q2, hb2]; omega
    have g3 : GateAt W b s g → GateAt W3 b s g := fun hG => by rw [hW3]; exact (g2 hG).set _ _ (fun h => by omega)
    rw [← hW3] at b5
    have e6 : aNext b s g d ⟨W3, L2 ++ [⟨2, (b + 1 : Nat), 1, wrap64 (rd W (b + 1) + 1), false⟩] ++ [⟨3, (b + 4 + i : Nat), w0, pNext6 w0 0, true⟩] ++ [⟨2, b, y, rd W b + y, false⟩], 6, x, rd W (b + 3), b + 4 + i, w0, y⟩ = ⟨W3.set (b + 2) (wrap64 (rd W3 (b + 2) + 1)), L2 ++ [⟨2, (b + 1 : Nat), 1, wrap64 (rd W (b + 1) + 1), false⟩] ++ [⟨3, (b + 4 + i : Nat), w0, pNext6 w0 0, true⟩] ++ [⟨2, b, y, rd W b + y, false⟩] ++ [⟨2, (b + 2 : Nat), 1, wrap64 (rd W3 (b + 2) + 1), false⟩], 9, x, rd W (b + 3), b + 4 + i, w0, y⟩ := rfl
    obtain ⟨a6, b6⟩ := aStp_yes e6 rfl
    have r4 : ∀ j, rd (W3.set (b + 2) (wrap64 (rd W3 (b + 2) + 1))) j = if b + 2 = j then wrap64 (rd W (b + 2) + 1) else rd W3 j := fun j => by
      rw [rd_set_in (by omega)]
      by_cases hj : b + 2 = j
      · rw [if_pos hj, if_pos hj, r3, if_neg (by omega), r2, if_neg (by omega), r1, if_neg (by omega)]
      · rw [if_neg hj, if_neg hj]
    have rr : ∀ j, j ≠ b → j ≠ b + 1 → j ≠ b + 2 → j ≠ b + 4 + i → rd (W3.set (b + 2) (wrap64 (rd W3 (b + 2) + 1))) j = rd W j := fun j h0 h1 h2 h4 => by
      rw [r4, if_neg (by omega), r3, if_neg (by omega), r2, if_neg (by omega), r1, if_neg (by omega)]
    refine ⟨_, 6, by rw [playF_step _ _ _ _ _ _ a1, b1, playF_step _ _ _ _ _ _ a2, b2, playF_step _ _ _ _ _ _ a3, b3, playF_step _ _ _ _ _ _ a4, b4, playF_step _ _ _ _ _ _ a5, b5, playF_last _ _ _ _ _ _ a6, b6], rfl, by simp [hl2], ?_⟩
    refine ⟨by simp [l3], fun j hj => rr j (by omega) (by omega) (by omega) (by omega), Or.inr ⟨rfl, ?_, ?_⟩, rr _ (by omega) (by omega) (by omega) (by omega), ?_, ?_, fun hG => (g3 hG).set _ _ (fun h => by omega), fun hG hd => ?_⟩
    · rw [r4, if_neg (by omega), r3, if_neg (by omega), r2, if_neg (by omega), r1, if_pos rfl]
    · rw [r4, if_pos rfl]
    · rw [sP_out _ _ _ _ _ (by omega), q3]
    · rw [r4, if_neg (by omega), r3, if_pos rfl]
      omega
    · have := hG i his
      rw [hw0] at this
      omega
end
end Go.Proofs.Ytlkniogapdhcpaa
