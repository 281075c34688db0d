/- breadlineref01: Word. -/
import Derived.Test.YtlkniogapdhcpaaPack
namespace Go.Proofs.Ytlkniogapdhcpaa
open Go.RowKit
set_option linter.unusedVariables false
set_option linter.unusedSimpArgs false
set_option maxRecDepth 100000
def word6 (ver val : Int) : Int := wrap64 (ver * 4294967296 + val % 4294967296)
theorem ref1_Word (ver val : Int) (w : World) (h1 : 0 ≤ ver ∧ ver ≤ 4294967295) (h2 : -2147483648 ≤ val ∧ val ≤ 2147483647) :
    Calls Try.prog 31 #[i64 ver, i64 val] w (fun e w' => e = .returned (.tuple #[i64 (word6 ver val), .bool true]) ∧ w = w') := by
  have g1 : ¬ ver < 0 := by omega
  have g2 : ¬ (4294967296 ≤ ver) := by omega
  have g3 : ¬ val < -2147483648 := by omega
  have g4 : ¬ (2147483648 ≤ val) := by omega
  have y1 : IntKind.u64.wrap ver = ver := by rw [IntKind.wrap_u64]; omega
  have y2 : IntKind.u64.wrap (ver * 4294967296) = ver * 4294967296 := by rw [IntKind.wrap_u64]; omega
  have y3 := or_u64i ver (val % 4294967296) (by omega) (by omega)
  go_enter Try.func31, Try.ntmps31
  go_wp2_with fail
  go_ret2
  exact ⟨by rw [word6, ← y3]; rfl, rfl⟩
end Go.Proofs.Ytlkniogapdhcpaa
