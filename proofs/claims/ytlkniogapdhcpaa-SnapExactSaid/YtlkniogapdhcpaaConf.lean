/- Settings: breadlineref04.Right, in; breadlinelaw04.Great, Base. -/
import Derived.Test.YtlkniogapdhcpaaPlan
namespace Go.Proofs.Ytlkniogapdhcpaa
open Go.RowKit
set_option linter.unusedVariables false
set_option linter.unusedSimpArgs false

/-- a slice of numbers, as it lies: nil, or somewhere in a block -/
def IntsAt (w : World) (A : Option Addr) (l : List Int) : Prop := (l = []) ∨ ∃ b o, A = some ⟨b, o, none⟩ ∧ ∀ i, i < l.length → w.cell? ⟨b, o + i, none⟩ = some (i64 (rd l i))

def inB (n lo hi : Int) : Bool := decide (lo ≤ n ∧ n ≤ hi)
theorem inB_iff {n lo hi : Int} : inB n lo hi = true ↔ lo ≤ n ∧ n ≤ hi := by simp [inB]
def restB (P L : List Int) : Nat → Nat → Bool
  | 0, _ => true
  | d + 1, i => (inB (rd L i) 0 1099511627776 && (if i = 0 then rd P i == -1 else inB (rd P i) 0 (i - 1))) && restB P L d (i + 1)
def stripesB (s : Int) : Bool := s == 1 || s == 2 || s == 4 || s == 8
def headB (t s g l r k : Int) (pn ln : Nat) : Bool :=
  inB t 1 8 && stripesB s && inB g 1 1048576 && inB l 0 1048576 && inB r 1 8 && inB k 1 16 && inB pn 1 12 && !((ln : Int) != pn)
def rightB (t s g l r k : Int) (P L : List Int) : Bool := headB t s g l r k P.length L.length && restB P L P.length 0
theorem stripes_cases {s : Int} (h : stripesB s = true) : s = 1 ∨ s = 2 ∨ s = 4 ∨ s = 8 := by
  simp [stripesB] at h; omega

theorem IntsAt.cell {w : World} {A : Option Addr} {l : List Int} (h : IntsAt w A l) (hl : 0 < l.length) : ∃ b o, A = some ⟨b, o, none⟩ ∧ (∀ i, i < l.length → w.cell? ⟨b, o + i, none⟩ = some (i64 (rd l i))) := by
  rcases h with rfl | h
  · simp at hl
  · exact h
theorem IntsAt.keep {w w' : World} {A : Option Addr} {l : List Int} (h : IntsAt w A l) (hk : Keep0 w w') : IntsAt w' A l := by
  rcases h with h | ⟨b, o, e1, h⟩
  · exact Or.inl h
  · refine Or.inr ⟨b, o, e1, fun i hi => ?_⟩
    rw [cell_old hk (World.block_lt_of_cell? _ _ (h i hi)) (fun x => x)]
    exact h i hi
theorem restB_stop (P L : List Int) (d i : Nat) (h : (inB (rd L i) 0 1099511627776 && (if i = 0 then rd P i == -1 else inB (rd P i) 0 (i - 1))) = false) : restB P L (d + 1) i = false := by simp only [restB, h, Bool.false_and]
theorem restB_go (P L : List Int) (d i : Nat) (h : (inB (rd L i) 0 1099511627776 && (if i = 0 then rd P i == -1 else inB (rd P i) 0 (i - 1))) = true) : restB P L (d + 1) i = restB P L d (i + 1) := by simp only [restB, h, Bool.true_and]

end Go.Proofs.Ytlkniogapdhcpaa
