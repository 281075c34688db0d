/- breadlineref01: Value, Version, Next. -/
import Derived.Test.YtlkniogapdhcpaaRefWord
namespace Go.Proofs.Ytlkniogapdhcpaa
open Go.RowKit
set_option linter.unusedVariables false
set_option linter.unusedSimpArgs false
set_option maxRecDepth 100000
theorem ref1_Value (n : Int) (w : World) : Calls Try.prog 57 #[i64 n] w (fun e w' => e = .returned (i64 (pVal n)) ∧ w = w') := by
  have y1 : wrap64 ((IntKind.u64.wrap n).tmod 4294967296) = n % 4294967296 := by rw [IntKind.wrap_u64, Int.tmod_eq_emod_of_nonneg (by omega)]; unfold wrap64; omega
  have hm := Int.emod_nonneg n (show (4294967296 : Int) ≠ 0 by omega)
  have hm1 := Int.emod_lt_of_pos n (show (0 : Int) < 4294967296 by omega)
  by_cases hc : 2147483648 ≤ n % 4294967296
  · have y2 : wrap64 (n % 4294967296 - 4294967296) = n % 4294967296 - 4294967296 := by unfold wrap64; omega
    have hp : pVal n = n % 4294967296 - 4294967296 := by unfold pVal wrap32; omega
    rw [hp]
    clear hp
    go_enter Try.func57, Try.ntmps57
    go_wp2_with fail
    go_ret
    exact ⟨rfl, rfl⟩
  · have hp : pVal n = n % 4294967296 := by unfold pVal wrap32; omega
    rw [hp]
    clear hp
    go_enter Try.func57, Try.ntmps57
    go_wp2_with fail
    go_ret
    exact ⟨rfl, rfl⟩
end Go.Proofs.Ytlkniogapdhcpaa
