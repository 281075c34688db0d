/- What the words of a counter are, as the laws of layer 6 lay it. -/
import Derived.Test.YtlkniogapdhcpaaLawSixD
import Derived.Test.YtlkniogapdhcpaaLawSixC
import Derived.Test.YtlkniogapdhcpaaAddL
import Derived.Test.YtlkniogapdhcpaaAddS
namespace Go.Proofs.Ytlkniogapdhcpaa
open Go.RowKit
set_option linter.unusedVariables false
set_option linter.unusedSimpArgs false
structure WF6 (b s : Nat) (g l gl : Int) (W : List Int) : Prop where
  ln : W.length = b + 4 + s + 3
  gl : rd W b = gl
  bg : rd W (b + 1) = 0
  dn : rd W (b + 2) = 0
  lv : rd W (b + 3) = l
  gate : GateAt W b s g
theorem pVal_word6 (ver val : Int) (h : -2147483648 ≤ val ∧ val ≤ 2147483647) : pVal (word6 ver val) = val := by
  unfold pVal word6 wrap32 wrap64
  omega
theorem words6_low (b g : Nat) (Z V U : List Int) (i j : Nat) (h : j < b + 4) : rd (words6 b g Z V U i) j = rd Z j := by
  induction i with
  | zero => rfl
  | succ i ih => rw [words6, rd_set, if_neg (by omega), ih]
theorem words6_stripe (b g : Nat) (Z V U : List Int) (n i : Nat) (hi : i < n) (hl : b + 4 + n ≤ Z.length) : rd (words6 b g Z V U n) (b + 4 + i) = word6 (rd V i) ((rd U i).tmod g) := by
  induction n with
  | zero => omega
  | succ n ih =>
    rw [words6, rd_set_in (by rw [words6_length]; omega)]
    by_cases hc : b + 4 + n = b + 4 + i
    · rw [if_pos hc]; obtain rfl : n = i := by omega
      rfl
    · rw [if_neg hc]; exact ih (by omega) (by omega)
theorem wf6 (b s g : Nat) (gl l : Int) (V U : List Int) (hg : 1 ≤ g ∧ g ≤ 40) : WF6 b s g l gl (words6 b g (zero6 b s gl l) V U s) := by
  have hz := zero6_length b s gl l
  have hr : ∀ j, rd (zero6 b s gl l) j = if b + 3 = j then l else if b = j then gl else 0 := fun j => by
    unfold zero6
    rw [rd_set_in (by simp; omega), rd_set_in (by simp; omega), rd_rep6]
  refine ⟨by rw [words6_length, hz], ?_, ?_, ?_, ?_, fun i hi => ?_⟩
  · rw [words6_low _ _ _ _ _ _ _ (by omega), hr, if_neg (by omega), if_pos rfl]
  · rw [words6_low _ _ _ _ _ _ _ (by omega), hr, if_neg (by omega), if_neg (by omega)]
  · rw [words6_low _ _ _ _ _ _ _ (by omega), hr, if_neg (by omega), if_neg (by omega)]
  · rw [words6_low _ _ _ _ _ _ _ (by omega), hr, if_pos rfl]
  · rw [words6_stripe _ _ _ _ _ _ _ hi (by omega), pVal_word6 _ _ (by have := tmod_bd (rd U i) (g : Int) (by omega); omega)]
    have := tmod_bd (rd U i) (g : Int) (by omega)
    omega
theorem dBegin_bd (n : Int) : 0 ≤ dBegin n ∧ dBegin n < 4294967296 := ⟨Int.emod_nonneg _ (by omega), Int.emod_lt_of_pos _ (by omega)⟩
theorem Ints.blk_ {w : World} {g : Nat} {W : List Int} (h : Ints w g W) : ∃ cs, Blk w g 3 cs := by
  obtain ⟨cur, hg, _, _⟩ := h
  exact ⟨cur.toList, by unfold Blk; simpa using hg⟩
section
variable {B : Nat} {w w' : World} {m a x g : Nat} {lv : Value} {W W2 : List Int} {L : List Acc} {ds : List Value}
theorem adplay_ints (hg : Ints w g W2) (hm : MemAt B w m a lv W L) (hx : Blk w x 95 ds) (hga : g ≠ a) (hk : Keep (fun k => (k = m ∨ k = a ∨ k = x ∨ lv.ownBlock = some k) ∨ w.heap.size ≤ k) w w') : Ints w' g W2 := hk.ints hg (by
  obtain ⟨cs, hb⟩ := hg.blk_
  rintro ((h | h | h | h) | h)
  · exact hb.ne hm.mem (by decide) h
  · exact hga h
  · exact hb.ne hx (by decide) h
  · exact ownBlock_ne hm.log hb (by decide) h.symm
  · have := hg.lt; omega)
theorem adplay_far (hm : MemAt B w m a lv W L) (h1 : B ≤ x) (hk : Keep (fun k => (k = m ∨ k = a ∨ k = x ∨ lv.ownBlock = some k) ∨ w.heap.size ≤ k) w w') (w0 : World) (h0 : Keep0 w0 w) (hB : w0.heap.size ≤ B) : Keep0 w0 w' := keep_far6 h0 hk (by
  rintro k ((rfl | rfl | rfl | h) | h)
  · exact Nat.le_trans hB hm.bm
  · exact Nat.le_trans hB hm.ba
  · exact Nat.le_trans hB h1
  · exact Nat.le_trans hB (hm.log.lt k h).1
  · exact Nat.le_trans h0.size h)
end
/-- stripes and the live ones -/
theorem sz4_p2 (n : Int) : p2 (sz4 n) := by
  unfold p2
  rcases sz4_cases n with ⟨_, h⟩ | ⟨_, h⟩ | ⟨_, h⟩ | ⟨_, h⟩ <;> rw [h] <;> omega
theorem p2_min {a b : Int} (h1 : p2 a) (h2 : p2 b) : p2 (min a b) ∧ min a b ≤ b := by
  unfold p2 at *
  omega
theorem poked6_length (b s : Nat) (g l : Int) (K : List Pk) : (poked6 b s g l K).length ≤ K.length := List.length_filterMap_le _ _
theorem poked6_mem {b s : Nat} {g l : Int} {K : List Pk} {p : Pk} (h : p ∈ poked6 b s g l K) (hg : 1 ≤ g ∧ g ≤ 2147483647) : 0 ≤ p.w ∧ p.w < (b : Int) + 4 + s ∧ (p.w = (b : Int) + 3 → p.x = l) ∧ ((b : Int) + 4 ≤ p.w → -g < pVal p.x ∧ pVal p.x < g) := by
  unfold poked6 at h
  rw [List.mem_filterMap] at h
  obtain ⟨q, _, hq⟩ := h
  unfold fp6 at hq
  split at hq
  · cases hq
  · split at hq
    · cases hq
      refine ⟨by simp only; omega, by simp only; omega, fun _ => rfl, fun h => ?_⟩
      simp only at h
      omega
    · split at hq
      · cases hq
        have hb := tmod_bd (pVal q.x) g hg.1
        refine ⟨by simp only; omega, by simp only; omega, fun h => ?_, fun _ => ?_⟩
        · simp only at h
          omega
        · simp only
          rw [pVal_next _ _ (by omega)]
          omega
      · cases hq
        refine ⟨by omega, by omega, fun h => ?_, fun h => ?_⟩ <;> omega
theorem okPokes6 {b s : Nat} {g l : Int} {K : List Pk} (hg : 1 ≤ g ∧ g ≤ 2147483647) (hl : p2 l ∧ l ≤ (s : Int)) : okPokesA b s (poked6 b s g l K) := by
  intro p hp e
  have := (poked6_mem hp hg).2.2.1 (by omega)
  rw [this]
  exact hl
end Go.Proofs.Ytlkniogapdhcpaa
