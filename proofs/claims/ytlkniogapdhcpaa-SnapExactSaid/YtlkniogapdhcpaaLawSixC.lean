/- breadlinelaw06: laid. -/
import Derived.Test.YtlkniogapdhcpaaLawSixB
namespace Go.Proofs.Ytlkniogapdhcpaa
open Go.RowKit
set_option linter.unusedVariables false
set_option linter.unusedSimpArgs false
set_option maxRecDepth 100000
theorem take_pad6 (W : List Int) (n i : Nat) (hn : n = W.length) (h : i < n) : (W.take i ++ List.replicate (n - i) 0).set i (rd W i) = W.take (i + 1) ++ List.replicate (n - (i + 1)) 0 := by
  subst hn
  have e : W[i]? = some (rd W i) := by simp [rd, h]
  rw [List.set_append_right _ _ (by rw [List.length_take]; omega), List.length_take, Nat.min_eq_left (by omega), Nat.sub_self, List.take_add_one, e, show W.length - i = (W.length - (i + 1)) + 1 from by omega, List.replicate_succ]
  simp
end Go.Proofs.Ytlkniogapdhcpaa
