/- breadlinelaw06: Size, amount; ref01: Word, Value, Next. -/
import Derived.Test.YtlkniogapdhcpaaPack
import Derived.Test.YtlkniogapdhcpaaRowPool
import Derived.Test.YtlkniogapdhcpaaPlay
import Derived.Test.YtlkniogapdhcpaaRefWord
namespace Go.Proofs.Ytlkniogapdhcpaa
open Go.RowKit
set_option linter.unusedVariables false
set_option linter.unusedSimpArgs false
set_option maxRecDepth 100000

def sz4 (n : Int) : Int := if n % 4 = 0 then 1 else if n % 4 = 1 then 2 else if n % 4 = 2 then 4 else 8
theorem sz4_bd (n : Int) : 1 ≤ sz4 n ∧ sz4 n ≤ 8 := by unfold sz4; repeat' split <;> omega
theorem sz4_cases (n : Int) : (n % 4 = 0 ∧ sz4 n = 1) ∨ (n % 4 = 1 ∧ sz4 n = 2) ∨ (n % 4 = 2 ∧ sz4 n = 4) ∨ (n % 4 = 3 ∧ sz4 n = 8) := by
  have : n % 4 = 0 ∨ n % 4 = 1 ∨ n % 4 = 2 ∨ n % 4 = 3 := by omega
  rcases this with h | h | h | h <;> simp [sz4, h]
set_option maxHeartbeats 2000000 in
theorem law6_Size (ba sr ga gl li : Int) (VA : Option Addr) (vn vc : Nat) (UA : Option Addr) (un uc : Nat) (w : World) (h0 : 0 ≤ ba ∧ ba ≤ 255) (h1 : 0 ≤ sr ∧ sr ≤ 255) (h2 : 0 ≤ ga ∧ ga ≤ 65535) (h4 : 0 ≤ li ∧ li ≤ 255) :
    Calls Try.prog 10 #[.agg #[.int .u8 ba, .int .u8 sr, .int .u16 ga, .int .i32 gl, .int .u8 li, .slice VA vn vc, .slice UA un uc]] w (Ret (.tuple #[i64 (ba % 8), i64 (sz4 sr), i64 (ga % 40 + 1), i64 (min (sz4 li) (sz4 sr))]) w) := by
  rcases sz4_cases sr with ⟨q1, r1⟩ | ⟨q1, r1⟩ | ⟨q1, r1⟩ | ⟨q1, r1⟩
  all_goals rcases sz4_cases li with ⟨q2, r2⟩ | ⟨q2, r2⟩ | ⟨q2, r2⟩ | ⟨q2, r2⟩
  all_goals rw [r1, r2]
  all_goals clear r1 r2
  all_goals go_enter Try.func10, Try.ntmps10
  all_goals go_wp2_with fail
  all_goals go_region
  all_goals go_wp2_with fail
  all_goals exact bodyPost_ret (by simp [results, Try.results10, go_sem] <;> decide) rfl ⟨rfl, ((Keep.refl _ _).alloc _).drew⟩
end Go.Proofs.Ytlkniogapdhcpaa
