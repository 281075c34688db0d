/- A row of accesses, read. -/
import Derived.Test.YtdjfeapncpcmgaaHeadThree
import Derived.Test.YtdjfeapncpcmgaaRowThree
namespace Go.Proofs.Ytdjfeapncpcmgaa
open Go.RowKit
set_option linter.unusedVariables false
set_option linter.unusedSimpArgs false

theorem opsAt.keep {w w' : World} {A : Option Addr} {l : List MOp} (h : opsAt w A l) (hk : Keep0 w w') : opsAt w' A l := by
  rcases h with h | ⟨b, o, e1, h⟩
  · exact Or.inl h
  · refine Or.inr ⟨b, o, e1, fun i hi => ?_⟩
    obtain ⟨h0, h1, h2, h3⟩ := h i hi
    have hb := World.block_lt_of_cell? _ _ h0
    simp only at hb
    exact ⟨(cell_old hk hb (fun x => x) _).trans h0, (cell_old hk hb (fun x => x) _).trans h1, (cell_old hk hb (fun x => x) _).trans h2, (cell_old hk hb (fun x => x) _).trans h3⟩
/-- an access, read: its four cells, and where they lie -/
theorem opsAt.cell {w : World} {A : Option Addr} {l : List MOp} (h : opsAt w A l) (hl : 0 < l.length) : ∃ b o, A = some ⟨b, o, none⟩ ∧ ∀ i (hi : i < l.length), w.cell? ⟨b, o + i * 4, none⟩ = some (i64 l[i].kind) ∧ w.cell? ⟨b, o + i * 4 + 1, none⟩ = some (i64 l[i].w) ∧ w.cell? ⟨b, o + i * 4 + 2, none⟩ = some (i64 l[i].a) ∧ w.cell? ⟨b, o + i * 4 + 3, none⟩ = some (i64 l[i].b) ∧ b < w.heap.size := by
  rcases h with rfl | ⟨b, o, e1, h⟩
  · simp at hl
  · exact ⟨b, o, e1, fun i hi => by
      obtain ⟨h0, h1, h2, h3⟩ := h i hi
      exact ⟨h0, h1, h2, h3, World.block_lt_of_cell? _ _ h0⟩⟩
theorem opL_length (o : MOp) (W : List Int) : (opL o W).length ≤ 1 := by
  unfold opL
  repeat (first | split | simp)
theorem rd_set_ne (W : List Int) {i j : Nat} (x : Int) (h : i ≠ j) : rd (W.set i x) j = rd W j := by simp [rd, List.getD, List.getElem?_set_ne h]
theorem opW_other (o : MOp) (W : List Int) (j : Nat) (h : (rd W j == rd (opW o W) j) = false) : o.w.toNat = j ∧ o.kind ≠ 1 ∧ (o.kind = 3 → opP o W = true) := by
  have hne : rd W j ≠ rd (opW o W) j := by simpa using h
  refine ⟨?_, ?_, ?_⟩
  · apply Decidable.byContradiction
    intro hj
    apply hne
    unfold opW casW
    repeat (first | split | rfl | rw [rd_set_ne _ _ hj])
  · intro h1
    apply hne
    simp [opW, h1]
  · intro h3
    by_cases hb : rd W o.w.toNat = o.a
    · simp [opP, h3, hb]
    · exfalso
      apply hne
      simp [opW, h3, casW, hb]
theorem MemAt.lt {B : Nat} {w : World} {m a : Nat} {lv : Value} {W : List Int} {L : List Acc} (h : MemAt B w m a lv W L) (k : Nat) (hk : MF m a lv k) : k < w.heap.size := by
  rcases hk with rfl | rfl | hk
  · exact h.mem.lt
  · exact h.words.lt
  · exact (h.log.lt k hk).2
end Go.Proofs.Ytdjfeapncpcmgaa
