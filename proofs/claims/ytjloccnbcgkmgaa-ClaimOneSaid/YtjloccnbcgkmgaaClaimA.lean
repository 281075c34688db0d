/- A claim alone, in plain Lean: the first free ticket from the start on. -/
import Derived.Test.YtjloccnbcgkmgaaClaimL
namespace Go.Proofs.Ytjloccnbcgkmgaa
open Go.RowKit
set_option linter.unusedVariables false
set_option linter.unusedSimpArgs false
theorem st10_next (v : Int) : st10 (pNext6 v 1) = 1 := by unfold st10; rw [pVal_next v 1 (by omega)]; rfl
theorem st10_ne {v : Int} (h : st10 v = 0) : pNext6 v 1 ≠ v := by
  intro e
  have h1 := st10_next v
  rw [e, h] at h1
  cases h1
/-- what a claim does that is alone, from the ticket j on -/
structure CAlone (K s q : Nat) (W : List Int) (j : Nat) (r : CS × Nat × Bool) : Prop where
  is : r.2.2 = true
  no : (∀ i, j ≤ i → i < K → st10 (rd W (q + 2 * ck K s i)) ≠ 0) → r.1.fin = 2 ∧ r.1.W = W ∧ r.1.set = 0 ∧ r.1.n = 0
  yes : ∀ f, j ≤ f → f < K → st10 (rd W (q + 2 * ck K s f)) = 0 → (∀ i, j ≤ i → i < f → st10 (rd W (q + 2 * ck K s i)) ≠ 0) →
    r.1.fin = 1 ∧ r.1.W = W.set (q + 2 * ck K s f) (pNext6 (rd W (q + 2 * ck K s f)) 1) ∧ r.1.set = pNext6 (rd W (q + 2 * ck K s f)) 1 ∧ r.1.n = ck K s f
theorem cAlone (K s q len : Nat) (W : List Int) (h1 : 1 ≤ K) (hq : q + 2 * K ≤ W.length) : ∀ (d j k m : Nat) (L : List Acc) (saw : Int), j + d = K → 1 ≤ d → 2 * d ≤ k →
    CAlone K s q W j (playF (cStp K s q) cPk len [] k m ⟨W, L, j, false, saw, 0, 0, 0⟩) := by
  intro d
  induction d with
  | zero => intro j k m L saw h hd; omega
  | succ d ih =>
    intro j k m L saw hj hd hk
    obtain ⟨k, rfl⟩ : ∃ k', k = k' + 2 := ⟨k - 2, by omega⟩
    have hck := ck_lt (s := s) (j := j) h1
    rw [playF_one, show pokeAll cPk len (m : Int) [] (⟨W, L, j, false, saw, 0, 0, 0⟩ : CS) = ⟨W, L, j, false, saw, 0, 0, 0⟩ from rfl]
    by_cases hst : st10 (rd W (q + 2 * ck K s j)) = 0
    · have e1 : cNext K s q (⟨W, L, j, false, saw, 0, 0, 0⟩ : CS) = ⟨W, L ++ [⟨1, (q + 2 * ck K s j : Nat), rd W (q + 2 * ck K s j), 0, false⟩], j, true, rd W (q + 2 * ck K s j), 0, 0, 0⟩ := by
        unfold cNext
        rw [if_pos rfl, if_pos rfl, if_pos hst]
        rfl
      have e2 : (cStp K s q (⟨W, L, j, false, saw, 0, 0, 0⟩ : CS)).2 = false := by unfold cStp; rw [e1]; rfl
      have e3 : (cStp K s q (⟨W, L, j, false, saw, 0, 0, 0⟩ : CS)).1 = ⟨W, L ++ [⟨1, (q + 2 * ck K s j : Nat), rd W (q + 2 * ck K s j), 0, false⟩], j, true, rd W (q + 2 * ck K s j), 0, 0, 0⟩ := e1
      rw [e2, e3, if_neg (by simp), playF_one]
      generalize L ++ [(⟨1, (q + 2 * ck K s j : Nat), rd W (q + 2 * ck K s j), 0, false⟩ : Acc)] = L2
      rw [show pokeAll cPk len ((m + 1 : Nat) : Int) [] (⟨W, L2, j, true, rd W (q + 2 * ck K s j), 0, 0, 0⟩ : CS) = ⟨W, L2, j, true, rd W (q + 2 * ck K s j), 0, 0, 0⟩ from rfl]
      have e4 : ∃ L3, cNext K s q (⟨W, L2, j, true, rd W (q + 2 * ck K s j), 0, 0, 0⟩ : CS) = ⟨W.set (q + 2 * ck K s j) (pNext6 (rd W (q + 2 * ck K s j)) 1), L3, j, true, rd W (q + 2 * ck K s j), pNext6 (rd W (q + 2 * ck K s j)) 1, 1, ck K s j⟩ := by
        refine ⟨L2 ++ [⟨3, (q + 2 * ck K s j : Nat), rd W (q + 2 * ck K s j), pNext6 (rd W (q + 2 * ck K s j)) 1, rd W (q + 2 * ck K s j) == rd W (q + 2 * ck K s j)⟩], ?_⟩
        unfold cNext
        rw [if_pos rfl, if_neg (by simp), if_pos rfl]
        simp [cTake, casW]
      obtain ⟨L3, e4⟩ := e4
      have e5 : (cStp K s q (⟨W, L2, j, true, rd W (q + 2 * ck K s j), 0, 0, 0⟩ : CS)).2 = true := by unfold cStp; rw [e4]; rfl
      have e6 : (cStp K s q (⟨W, L2, j, true, rd W (q + 2 * ck K s j), 0, 0, 0⟩ : CS)).1 = _ := e4
      rw [e5, e6, if_pos rfl]
      refine ⟨rfl, fun h => absurd hst (h j (Nat.le_refl _) (by omega)), fun f hf1 hf2 hf3 hf4 => ?_⟩
      obtain rfl : f = j := by
        by_cases h : f = j
        · exact h
        · exact absurd hst (hf4 j (Nat.le_refl _) (by omega))
      exact ⟨rfl, rfl, rfl, rfl⟩
    · have e1 : cNext K s q (⟨W, L, j, false, saw, 0, 0, 0⟩ : CS) = cNx K ⟨W, L ++ [⟨1, (q + 2 * ck K s j : Nat), rd W (q + 2 * ck K s j), 0, false⟩], j, true, rd W (q + 2 * ck K s j), 0, 0, 0⟩ := by
        unfold cNext
        rw [if_pos rfl, if_pos rfl, if_neg hst]
        rfl
      have e3 : (cStp K s q (⟨W, L, j, false, saw, 0, 0, 0⟩ : CS)).1 = cNx K ⟨W, L ++ [⟨1, (q + 2 * ck K s j : Nat), rd W (q + 2 * ck K s j), 0, false⟩], j, true, rd W (q + 2 * ck K s j), 0, 0, 0⟩ := e1
      by_cases hl : j + 1 = K
      · have e2 : (cStp K s q (⟨W, L, j, false, saw, 0, 0, 0⟩ : CS)).2 = true := by unfold cStp; rw [e1]; simp [cNx, hl]
        rw [e2, e3, if_pos rfl]
        refine ⟨rfl, fun _ => ⟨by simp [cNx, hl], rfl, rfl, rfl⟩, fun f hf1 hf2 hf3 _ => ?_⟩
        obtain rfl : f = j := by omega
        exact absurd hf3 hst
      · have e2 : (cStp K s q (⟨W, L, j, false, saw, 0, 0, 0⟩ : CS)).2 = false := by unfold cStp; rw [e1]; simp [cNx, hl]
        have e4 : ∀ L2 : List Acc, cNx K (⟨W, L2, j, true, rd W (q + 2 * ck K s j), 0, 0, 0⟩ : CS) = ⟨W, L2, j + 1, false, rd W (q + 2 * ck K s j), 0, 0, 0⟩ := by intro L2; simp [cNx, hl]
        rw [e2, e3, if_neg (by simp), e4]
        have h := ih (j + 1) (k + 1) (m + 1) (L ++ [⟨1, (q + 2 * ck K s j : Nat), rd W (q + 2 * ck K s j), 0, false⟩]) (rd W (q + 2 * ck K s j)) (by omega) (by omega) (by omega)
        refine ⟨h.is, fun hn => h.no (fun i hi => hn i (by omega)), fun f hf1 hf2 hf3 hf4 => ?_⟩
        have hfj : f ≠ j := by rintro rfl; exact hst hf3
        exact h.yes f (by omega) hf2 hf3 (fun i hi => hf4 i (by omega))
/-- the first free ticket of d, from the j-th on -/
def fF (K s q : Nat) (W : List Int) : Nat → Nat → Int
  | 0, _ => -1
  | d + 1, j => if st10 (rd W (q + 2 * ck K s j)) = 0 then (ck K s j : Nat) else fF K s q W d (j + 1)
theorem fF_cases (K s q : Nat) (W : List Int) : ∀ d j, (fF K s q W d j = -1 ∧ ∀ i, j ≤ i → i < j + d → st10 (rd W (q + 2 * ck K s i)) ≠ 0) ∨
    (∃ f, j ≤ f ∧ f < j + d ∧ st10 (rd W (q + 2 * ck K s f)) = 0 ∧ (∀ i, j ≤ i → i < f → st10 (rd W (q + 2 * ck K s i)) ≠ 0) ∧ fF K s q W d j = (ck K s f : Nat)) := by
  intro d
  induction d with
  | zero => intro j; exact Or.inl ⟨rfl, fun i h1 h2 => by omega⟩
  | succ d ih =>
    intro j
    by_cases h : st10 (rd W (q + 2 * ck K s j)) = 0
    · exact Or.inr ⟨j, Nat.le_refl _, by omega, h, fun i h1 h2 => by omega, by simp [fF, h]⟩
    · have e : fF K s q W (d + 1) j = fF K s q W d (j + 1) := by simp [fF, h]
      rw [e]
      rcases ih (j + 1) with ⟨h1, h2⟩ | ⟨f, h1, h2, h3, h4, h5⟩
      · refine Or.inl ⟨h1, fun i hi1 hi2 => ?_⟩
        by_cases hij : i = j
        · rw [hij]; exact h
        · exact h2 i (by omega) (by omega)
      · refine Or.inr ⟨f, by omega, by omega, h3, fun i hi1 hi2 => ?_, h5⟩
        by_cases hij : i = j
        · rw [hij]; exact h
        · exact h4 i (by omega) hi2
theorem CAlone.first {K s q : Nat} {W : List Int} {r : CS × Nat × Bool} (h : CAlone K s q W 0 r) (h1 : 1 ≤ K) :
    (fF K s q W K 0 = -1 ∧ r.1.fin = 2 ∧ r.1.W = W ∧ r.1.set = 0 ∧ r.1.n = 0) ∨
    (∃ f : Nat, f < K ∧ fF K s q W K 0 = (f : Int) ∧ st10 (rd W (q + 2 * f)) = 0 ∧ r.1.fin = 1 ∧ r.1.W = W.set (q + 2 * f) (pNext6 (rd W (q + 2 * f)) 1) ∧ r.1.set = pNext6 (rd W (q + 2 * f)) 1 ∧ r.1.n = f) := by
  rcases fF_cases K s q W K 0 with ⟨h2, h3⟩ | ⟨f, h2, h3, h4, h5, h6⟩
  · have := h.no (fun i hi hk => h3 i hi (by omega))
    exact Or.inl ⟨h2, this⟩
  · have := h.yes f h2 (by omega) h4 h5
    exact Or.inr ⟨ck K s f, ck_lt h1, h6, h4, this.1, this.2.1, this.2.2.1, this.2.2.2⟩
end Go.Proofs.Ytjloccnbcgkmgaa
