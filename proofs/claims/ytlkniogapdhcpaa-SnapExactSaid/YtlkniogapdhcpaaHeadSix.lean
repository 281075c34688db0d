/- breadlinelaw06.head. -/
import Derived.Test.YtlkniogapdhcpaaAddS
import Derived.Test.YtlkniogapdhcpaaAddSum
import Derived.Test.YtlkniogapdhcpaaLawSixB
namespace Go.Proofs.Ytlkniogapdhcpaa
open Go.RowKit
set_option linter.unusedVariables false
set_option linter.unusedSimpArgs false
set_option maxRecDepth 100000
theorem AInv.start {b s : Nat} {g d : Int} {W : List Int} {L : List Acc} {x : Int} (ln : b + 4 + s ≤ W.length) (wl : W.length ≤ 10000) (s1 : p2 s) (g1 : 1 ≤ g ∧ g ≤ 2147483647) (d1 : -4398046511104 ≤ d ∧ d ≤ 4398046511104) (lw : p2 (rd W (b + 3)) ∧ rd W (b + 3) ≤ s) (xb : 0 ≤ x ∧ x < 4294967296) :
    AInv b s g d ⟨W, L, 0, x, 0, 0, 0, 0⟩ :=
  ⟨ln, wl, s1, g1, d1, lw, xb, by show (0 : Nat) ≤ 9; omega, fun h => by simp at h, fun h => by simp at h, fun h => by simp at h, fun h => by simp at h⟩
theorem head6_a : playF (aStp 0 2 4 3) aPk 6 [] 20 0 ⟨[0, 0, 0, 1, 0, 0], [], 0, 2654435761, 0, 0, 0, 0⟩ = (⟨[0, 0, 0, 1, 4294967299, 0], [⟨1, (3 : Nat), 1, 0, false⟩, ⟨1, (4 : Nat), 0, 0, false⟩, ⟨3, (4 : Nat), 0, 4294967299, true⟩], 9, 2654435761, 1, 4, 0, 3⟩, 3, true) := by kernel_rfl
theorem head6_b : playF (aStp 0 2 4 2) aPk 6 [] 20 0 ⟨[0, 0, 0, 1, 4294967299, 0], [⟨1, (3 : Nat), 1, 0, false⟩, ⟨1, (4 : Nat), 0, 0, false⟩, ⟨3, (4 : Nat), 0, 4294967299, true⟩], 0, 1013904226, 0, 0, 0, 0⟩ = (⟨[5, 1, 1, 1, 8589934592, 0], [⟨1, (3 : Nat), 1, 0, false⟩, ⟨1, (4 : Nat), 0, 0, false⟩, ⟨3, (4 : Nat), 0, 4294967299, true⟩, ⟨1, (3 : Nat), 1, 0, false⟩, ⟨1, (4 : Nat), 4294967299, 0, false⟩, ⟨2, (1 : Nat), 1, 1, false⟩, ⟨3, (4 : Nat), 4294967299, 8589934592, true⟩, ⟨2, (0 : Nat), 5, 5, false⟩, ⟨2, (2 : Nat), 1, 1, false⟩], 9, 1013904226, 1, 4, 4294967299, 5⟩, 6, true) := by kernel_rfl
theorem ans6_eq (w : World) : (binOp BinOp.eql 45 (.agg #[i64 0, i64 0, .bool false, i64 0]) (.agg #[i64 0, i64 0, .bool false, i64 0])).run Try.prog w = .ok (.bool true) w := by kernel_rfl
end Go.Proofs.Ytlkniogapdhcpaa
