/- mem.Words, with the room that its slice has. -/
import Derived.Test.YtlkniogapdhcpaaMemC
namespace Go.Proofs.Ytlkniogapdhcpaa
open Go.RowKit
set_option linter.unusedVariables false
set_option linter.unusedSimpArgs false

set_option maxHeartbeats 1000000 in
theorem clone_intsC (w : World) (a n c : Nat) (W : List Int) (hn : n = W.length) (hW : W.length ≤ 1000000000) (ha : ∀ i, i < W.length → w.cell? ⟨a, i, none⟩ = some (i64 (rd W i))) :
    Calls Try.prog 39 #[.slice (some ⟨a, 0, none⟩) n c] w fun e w' =>
      ∃ g c', e = .returned (.slice (some ⟨g, 0, none⟩) W.length c') ∧ Ints w' g W ∧ Keep (fun _ => False) w w' ∧ w.heap.size ≤ g ∧ W.length ≤ c' := by
  subst hn
  obtain ⟨i0, hti, hz0, hz1, hz2⟩ := info_parts info_int
  have HI := hid hti
  clear hti
  have HA := hid ha
  clear ha
  go_enter Try.func39, Try.ntmps39
  go_wp2_with (at_builtin; refine wpl_append_own ?a1 (.tmp 5) (.tmp 6) 33 ?a2 (w.heap.size) 3 i0 ?z 1 8 ?a3 ?a4 ?a5 ?a6 ?a7 ?a8 ?a9 (.slice (some ⟨w.heap.size, 0, none⟩) 0 0) (0) ([]) ?a10 ?hown (⟨a, 0, none⟩) (W.length) (c) (ints W) ?a11 ?a12 ?hnews ?hone ?h63 ?hby ?hbase ?_; (case a1 => rfl); (case a2 => rfl); (case a3 => exact Try.underlying33); (case a4 => exact HI.out); (case a5 => exact hz0); (case a6 => exact hz1); (case a7 => exact hz2); (case a8 => rfl); (case a9 => decide); (case a10 => rfl); (case a11 => rfl); (case a12 => simp [ints]); (case hown => exact World.ownsRow_made w #[] 0 (Nat.le_refl _) (by unfold maxLen; omega) (by simp)); (case h63 => unfold maxLen; omega); (case hby => omega); (case hnews => intro j u hj; have hjl : j < W.length := (by have := (List.getElem?_eq_some_iff.1 hj).1; simpa [ints] using this); have e1 : (⟨a, 0, none⟩ : Addr).add j = ⟨a, j, none⟩ := addr_add a j; rw [e1, World.cell?_alloc_lt _ _ _ (World.block_lt_of_cell? _ _ (HA.out j hjl)), HA.out j hjl, ← hj, ints_get W j hjl]); (case hone => exact ints_one W); (case hbase => simp); intro A c' w3 hown3 hg3 hsl3; have HW := hid hown3; have HG := hid hg3; have HS := hid hsl3; clear hown3 hg3 hsl3)
  have hA : A ≠ none := fun e => by have := (HS.out.2 e).1; cases this
  have h0 := HW.out
  simp only [Nat.zero_add, List.nil_append] at h0
  have hcap : W.length ≤ c' := by
    rcases h0.2 with ⟨e, e0⟩ | ⟨g, cap, cur, e, _, _, hle, _⟩
    · omega
    · cases e; exact hle
  obtain ⟨g, rfl, hg, hb⟩ := ints_of_row h0 hA
  go_ret
  exact ⟨g, _, rfl, hg, Keep.grown ((Keep.refl _ w).alloc _) HG.out (fun k hk e => by simp [Value.ownBlock] at e; omega), hb, hcap⟩
section
variable {B : Nat} {w : World} {m a : Nat} {lv : Value} {W : List Int} {L : List Acc}
set_option maxHeartbeats 400000 in
theorem mem_WordsC (hm : MemAt B w m a lv W L) (hW : W.length ≤ 1000000000) :
    Calls Try.prog 25 #[ptr m] w fun e w' => ∃ g c', e = .returned (.slice (some ⟨g, 0, none⟩) W.length c') ∧ Ints w' g W ∧ Keep (fun _ => False) w w' ∧ w.heap.size ≤ g ∧ W.length ≤ c' := by
  have hms := hm.mem.k2
  have H := fun n c hn => clone_intsC w a n c W hn hW (fun i hi => (hm.words.cell i).trans (ints_get W i hi))
  have HH := hid H
  clear hm H
  go_enter Try.func25, Try.ntmps25
  go_wp2_with fail
  refine (HH.out _ _ rfl).mono ?_
  rintro e w' ⟨g, c', rfl, hp⟩
  have HP := hid hp
  clear hp
  go_wp2_with fail
  go_ret
  exact ⟨g, c', rfl, HP.out⟩
end
end Go.Proofs.Ytlkniogapdhcpaa
