/- The law's own table of tickets that were looked at, in plain Lean. -/
import Derived.Test.YtjloccnbcgkmgaaClaimD
import Derived.Test.YtjloccnbcgkmgaaClaimR
namespace Go.Proofs.Ytjloccnbcgkmgaa
open Go.RowKit
set_option linter.unusedVariables false
set_option linter.unusedSimpArgs false
theorem ldsOf_snoc (L : List Acc) (i : Nat) (h : i < L.length) : ldsOf (L.take (i + 1)) = ldsOf (L.take i) ++ (if L[i].kind = 1 then [L[i].w] else []) := by
  rw [List.take_succ_eq_append_getElem h]
  unfold ldsOf
  rw [List.filter_append, List.map_append]
  by_cases hk : L[i].kind = 1 <;> simp [hk]
structure MInv (K q : Nat) (L : List Acc) (i k : Nat) (H : List Bool) : Prop where
  hl : H.length = 16
  at_ : ∀ k', k' < K → (h : k' < H.length) → H[k'] = decide (((q + 2 * k' : Nat) : Int) ∈ ldsOf (L.take (if k' < k then i + 1 else i)))
theorem MInv.start (K q : Nat) (L : List Acc) : MInv K q L 0 0 (List.replicate 16 false) := ⟨by simp, fun k' _ h => by rw [List.getElem_replicate, if_neg (Nat.not_lt_zero _)]; rfl⟩
theorem MInv.row {K q : Nat} {L : List Acc} {i : Nat} {H : List Bool} (h : MInv K q L i K H) : MInv K q L (i + 1) 0 H :=
  ⟨h.hl, fun k' hk hl => by have := h.at_ k' hk hl; rw [if_pos hk] at this; simpa using this⟩
theorem MInv.no {K q : Nat} {L : List Acc} {i k : Nat} {H : List Bool} (h : MInv K q L i k H) (hi : i < L.length) (hn : ¬ (L[i].w = ((q + 2 * k : Nat) : Int) ∧ L[i].kind = 1)) : MInv K q L i (k + 1) H := by
  refine ⟨h.hl, fun k' hk hl => ?_⟩
  rw [h.at_ k' hk hl]
  by_cases h1 : k' < k
  · rw [if_pos h1, if_pos (by omega)]
  · by_cases h2 : k' = k
    · subst h2
      rw [if_neg h1, if_pos (by omega), ldsOf_snoc L i hi]
      by_cases hk1 : L[i].kind = 1
      · have hw : ((q + 2 * k' : Nat) : Int) ≠ L[i].w := fun e => hn ⟨e.symm, hk1⟩
        simp only [hk1, if_true, List.mem_append, List.mem_singleton, hw, or_false]
      · simp only [hk1, if_false, List.append_nil]
    · rw [if_neg h1, if_neg (by omega)]
theorem MInv.yes {K q : Nat} {L : List Acc} {i k : Nat} {H : List Bool} (h : MInv K q L i k H) (hi : i < L.length) (hk : k < K) (hK : K ≤ 16) (hw : L[i].w = ((q + 2 * k : Nat) : Int)) (h1 : L[i].kind = 1) (hnd : (ldsOf L).Nodup) :
    (∃ hl : k < H.length, H[k] = false) ∧ MInv K q L i (k + 1) (H.set k true) := by
  have hl : k < H.length := by rw [h.hl]; omega
  have hs := ldsOf_snoc L i hi
  rw [h1, if_pos rfl, hw] at hs
  have hsub : (ldsOf (L.take (i + 1))).Nodup := by
    have e : ldsOf L = ldsOf (L.take (i + 1)) ++ ldsOf (L.drop (i + 1)) := by
      unfold ldsOf
      rw [← List.map_append, ← List.filter_append, List.take_append_drop]
    rw [e] at hnd
    exact (List.nodup_append.1 hnd).1
  have hno : ¬ ((q + 2 * k : Nat) : Int) ∈ ldsOf (L.take i) := by
    intro hm
    rw [hs] at hsub
    exact (List.nodup_append.1 hsub).2.2 _ hm _ (List.mem_singleton.2 rfl) rfl
  refine ⟨⟨hl, ?_⟩, by simp [h.hl], fun k' hk' hl' => ?_⟩
  · rw [h.at_ k hk hl, if_neg (Nat.lt_irrefl _)]
    exact decide_eq_false hno
  · by_cases e : k' = k
    · subst e
      rw [List.getElem_set_self, if_pos (by omega), hs]
      simp
    · rw [List.getElem_set_ne (by omega), h.at_ k' hk' (by simpa using hl')]
      by_cases h3 : k' < k
      · rw [if_pos h3, if_pos (by omega)]
      · rw [if_neg h3, if_neg (by omega)]
end Go.Proofs.Ytjloccnbcgkmgaa
