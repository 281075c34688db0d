/- A claim looks at each ticket once at most, in plain Lean. -/
import Derived.Test.YtjloccnbcgkmgaaClaimL
namespace Go.Proofs.Ytjloccnbcgkmgaa
open Go.RowKit
set_option linter.unusedVariables false
set_option linter.unusedSimpArgs false
/-- the words that were looked at -/
def ldsOf (L : List Acc) : List Int := (L.filter (fun x => x.kind == 1)).map (fun x => x.w)
theorem ldsOf_load (L : List Acc) (w a b : Int) (c : Bool) : ldsOf (L ++ [⟨1, w, a, b, c⟩]) = ldsOf L ++ [w] := by simp [ldsOf]
theorem ldsOf_cas (L : List Acc) (w a b : Int) (c : Bool) : ldsOf (L ++ [⟨3, w, a, b, c⟩]) = ldsOf L := by simp [ldsOf]
def CLd (K s q : Nat) (t : CS) : Prop := t.j + (if t.seen = true then 1 else 0) ≤ K ∧ ldsOf t.L = (List.range (t.j + (if t.seen = true then 1 else 0))).map (fun j => ((q + 2 * ck K s j : Nat) : Int))
section
variable {K s q : Nat}
theorem CLd.words {t : CS} (h : CLd K s q t) (W' : List Int) : CLd K s q { t with W := W' } := h
theorem CLd.step {t : CS} (h : CLd K s q t) (hj : t.fin ≠ 2 → t.j < K) : CLd K s q (cNext K s q t) := by
  obtain ⟨h1, h2⟩ := h
  unfold cNext
  split
  · rename_i h0
    have hjk := hj (by omega)
    split
    · rename_i hs
      rw [hs] at h2
      simp only [Bool.false_eq_true, if_false, Nat.add_zero] at h2
      have e : ldsOf (cLook K s q t).L = (List.range (t.j + 1)).map (fun j => ((q + 2 * ck K s j : Nat) : Int)) := by
        show ldsOf (t.L ++ [_]) = _
        rw [ldsOf_load, h2, List.range_succ, List.map_append]
        rfl
      split
      · refine ⟨by show t.j + (if true = true then 1 else 0) ≤ K; simp; omega, ?_⟩
        rw [e]
        rfl
      · refine ⟨by show t.j + 1 + 0 ≤ K; omega, ?_⟩
        show ldsOf (cLook K s q t).L = _
        rw [e]
        rfl
    · rename_i hs
      have hs' : t.seen = true := by simpa using hs
      rw [hs'] at h2
      simp only [if_true] at h2
      have e : ldsOf (cTake K s q t).L = (List.range (t.j + 1)).map (fun j => ((q + 2 * ck K s j : Nat) : Int)) := by
        show ldsOf (t.L ++ [_]) = _
        rw [ldsOf_cas, h2]
      split
      · refine ⟨?_, ?_⟩
        · show t.j + (if t.seen = true then 1 else 0) ≤ K
          rw [hs']; simp; omega
        · show ldsOf (cTake K s q t).L = (List.range (t.j + (if t.seen = true then 1 else 0))).map _
          rw [e, hs']
          rfl
      · refine ⟨by show t.j + 1 + 0 ≤ K; omega, ?_⟩
        show ldsOf (cTake K s q t).L = _
        rw [e]
        rfl
  · exact ⟨h1, h2⟩
theorem cPlay_lds (len : Nat) (l : List Pk) : ∀ (k m : Nat) (t : CS), CInv K q t → CLd K s q t → CLd K s q (playF (cStp K s q) cPk len l k m t).1 := by
  intro k
  induction k with
  | zero => intro m t hi h; exact h
  | succ k ih =>
    intro m t hi h
    obtain ⟨W', e, hl⟩ := cPoke_any len m l t
    rw [playF_one, e]
    have hi2 := hi.words W' hl
    have h2 := (h.words W').step (s := s) hi2.jb
    split
    · exact h2
    · exact ih (m + 1) _ (hi2.step (s := s)) h2
theorem ck_inj' {i j : Nat} (hi : i < K) (hj : j < K) (hij : i ≤ j) (h : (s + i) % K = (s + j) % K) : i = j := by
  have h1 : s + i + (j - i) = s + j := by omega
  rw [← h1] at h
  have h2 := Nat.div_add_mod (s + i) K
  have h3 := Nat.div_add_mod (s + i + (j - i)) K
  rw [← h] at h3
  have h4 : K * ((s + i + (j - i)) / K) = K * ((s + i) / K) + (j - i) := by omega
  rcases Nat.lt_trichotomy ((s + i + (j - i)) / K) ((s + i) / K) with h5 | h5 | h5
  · have := Nat.mul_le_mul_left K (Nat.le_of_lt h5)
    omega
  · rw [h5] at h4
    omega
  · have := Nat.mul_le_mul_left K h5
    rw [Nat.mul_succ] at this
    omega
theorem ck_inj {i j : Nat} (hi : i < K) (hj : j < K) (h : ck K s i = ck K s j) : i = j := by
  unfold ck at h
  rcases Nat.le_total i j with hij | hij
  · exact ck_inj' hi hj hij h
  · exact (ck_inj' hj hi hij h.symm).symm
theorem CLd.nodup {t : CS} (h : CLd K s q t) : (ldsOf t.L).Nodup := by
  rw [h.2]
  refine List.Pairwise.map (R := fun a b => a ≠ b ∧ a < K ∧ b < K) _ ?_ ?_
  · rintro a b ⟨hab, ha, hb⟩ e
    exact hab (ck_inj (s := s) ha hb (by omega))
  · have hn := List.nodup_range (n := t.j + (if t.seen = true then 1 else 0))
    refine List.Pairwise.imp_of_mem (fun {a b} ha hb hab => ⟨hab, ?_, ?_⟩) hn
    · have := List.mem_range.1 ha; have := h.1; omega
    · have := List.mem_range.1 hb; have := h.1; omega
end
end Go.Proofs.Ytjloccnbcgkmgaa
