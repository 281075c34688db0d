/- Rows of pokes. -/
import Derived.Test.YtlkniogapdhcpaaRowPool
namespace Go.Proofs.Ytlkniogapdhcpaa
open Go.RowKit
set_option linter.unusedVariables false
set_option linter.unusedSimpArgs false
set_option maxRecDepth 100000

theorem pksAt.keep {w w' : World} {A : Option Addr} {l : List Pk} (h : pksAt w A l) (hk : Keep0 w w') : pksAt w' A l := by
  rcases h with h | ⟨b, o, e1, h⟩
  · exact Or.inl h
  · refine Or.inr ⟨b, o, e1, fun i hi => ?_⟩
    obtain ⟨h0, h1, h2⟩ := h i hi
    have hb := World.block_lt_of_cell? _ _ h0
    simp only at hb
    exact ⟨(cell_old hk hb (fun x => x) _).trans h0, (cell_old hk hb (fun x => x) _).trans h1, (cell_old hk hb (fun x => x) _).trans h2⟩
theorem pksAt.cell {w : World} {A : Option Addr} {l : List Pk} (h : pksAt w A l) (hl : 0 < l.length) : ∃ b o, A = some ⟨b, o, none⟩ ∧ ∀ i (h : i < l.length), w.cell? ⟨b, o + i * 3, none⟩ = some (i64 l[i].at_) ∧ w.cell? ⟨b, o + i * 3 + 1, none⟩ = some (i64 l[i].w) ∧ w.cell? ⟨b, o + i * 3 + 2, none⟩ = some (i64 l[i].x) := by
  rcases h with rfl | h
  · simp at hl
  · exact h
def Pk.cells (p : Pk) : List Value := [i64 p.at_, i64 p.w, i64 p.x]
def pksCells (l : List Pk) : List Value := l.flatMap Pk.cells
theorem pksCells_snoc (l : List Pk) (p : Pk) : pksCells (l ++ [p]) = pksCells l ++ p.cells := by simp [pksCells]
theorem pksCells_length (l : List Pk) : (pksCells l).length = l.length * 3 := by
  induction l with
  | nil => rfl
  | cons x l ih => rw [show pksCells (x :: l) = x.cells ++ pksCells l from rfl, List.length_append, ih, List.length_cons]; simp [Pk.cells]; omega
theorem pksCells_get (l : List Pk) (i : Nat) (h : i < l.length) (f : Nat) (hf : f < 3) : (pksCells l)[i * 3 + f]? = l[i].cells[f]? := by
  induction l generalizing i with
  | nil => simp at h
  | cons x l ih =>
    rw [show pksCells (x :: l) = x.cells ++ pksCells l from rfl]
    cases i with
    | zero => rw [List.getElem?_append_left (by simp [Pk.cells]; omega)]; simp
    | succ i =>
      rw [List.getElem?_append_right (by simp [Pk.cells]; omega), ← show (pksCells l)[i * 3 + f]? = (x :: l)[i + 1].cells[f]? from by simpa using ih i (by simpa using h)]
      congr 1
      simp [Pk.cells]; omega
theorem pks_of_row {w : World} {B : Nat} {A : Option Addr} {n c : Nat} {l : List Pk} (h : w.ownsRow B 72 3 (.slice A n c) n (pksCells l)) (hn : n = l.length) : pksAt w A l := by
  rcases h.2 with ⟨e, h0⟩ | ⟨g, cap, cur, e, _, _, _⟩
  · left; rw [h0] at hn; exact List.eq_nil_of_length_eq_zero hn.symm
  · cases e
    refine Or.inr ⟨g, 0, rfl, fun i hi => ?_⟩
    have hc := h.cells (g := g) rfl
    have key : ∀ f u, f < 3 → l[i].cells[f]? = some u → w.cell? ⟨g, 0 + i * 3 + f, none⟩ = some u := fun f u hf hu => by
      have h1 := hc (i * 3 + f) u ((pksCells_get l i hi f hf).trans hu)
      rw [addr_add] at h1
      rw [Nat.zero_add]
      exact h1
    exact ⟨key 0 _ (by omega) rfl, key 1 _ (by omega) rfl, key 2 _ (by omega) rfl⟩

theorem info_poke : (Try.prog.info? 72).map (fun i => (i.zero, i.size, i.bytes)) = some (some (.agg #[.int .i64 0, .int .i64 0, .int .i64 0]), 3, 24) := by kernel_rfl
theorem pksAt.at_ {w : World} {A : Option Addr} {l : List Pk} (h : pksAt w A l) : ∃ b o, (0 < l.length → A = some ⟨b, o, none⟩ ∧ b < w.heap.size) ∧ ∀ i (hi : i < l.length), w.cell? ⟨b, o + i * 3, none⟩ = some (i64 l[i].at_) ∧ w.cell? ⟨b, o + i * 3 + 1, none⟩ = some (i64 l[i].w) ∧ w.cell? ⟨b, o + i * 3 + 2, none⟩ = some (i64 l[i].x) := by
  rcases h with rfl | ⟨b, o, e1, h⟩
  · exact ⟨0, 0, fun h => by simp at h, fun i hi => by simp at hi⟩
  · refine ⟨b, o, fun h0 => ⟨e1, ?_⟩, h⟩
    have hb := World.block_lt_of_cell? _ _ (h 0 h0).1
    exact hb
end Go.Proofs.Ytlkniogapdhcpaa
