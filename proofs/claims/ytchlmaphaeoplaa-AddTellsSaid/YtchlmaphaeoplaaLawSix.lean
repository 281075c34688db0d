/- breadlinelaw06: Size, amount; ref01: Word, Value, Next. -/
import Derived.Test.YtchlmaphaeoplaaPack
import Derived.Test.YtchlmaphaeoplaaRowPool
import Derived.Test.YtchlmaphaeoplaaPlay
namespace Go.Proofs.Ytchlmaphaeoplaa
open Go.RowKit
set_option linter.unusedVariables false
set_option linter.unusedSimpArgs false
set_option maxRecDepth 100000

def sz4 (n : Int) : Int := if n % 4 = 0 then 1 else if n % 4 = 1 then 2 else if n % 4 = 2 then 4 else 8
theorem sz4_bd (n : Int) : 1 ≤ sz4 n ∧ sz4 n ≤ 8 := by unfold sz4; repeat' split <;> omega
theorem sz4_cases (n : Int) : (n % 4 = 0 ∧ sz4 n = 1) ∨ (n % 4 = 1 ∧ sz4 n = 2) ∨ (n % 4 = 2 ∧ sz4 n = 4) ∨ (n % 4 = 3 ∧ sz4 n = 8) := by
  have : n % 4 = 0 ∨ n % 4 = 1 ∨ n % 4 = 2 ∨ n % 4 = 3 := by omega
  rcases this with h | h | h | h <;> simp [sz4, h]
set_option maxHeartbeats 2000000 in
theorem law6_Size (ba sr ga gl li : Int) (VA : Option Addr) (vn vc : Nat) (UA : Option Addr) (un uc : Nat) (w : World) (h0 : 0 ≤ ba ∧ ba ≤ 255) (h1 : 0 ≤ sr ∧ sr ≤ 255) (h2 : 0 ≤ ga ∧ ga ≤ 65535) (h4 : 0 ≤ li ∧ li ≤ 255) :
    Calls Try.prog 10 #[.agg #[.int .u8 ba, .int .u8 sr, .int .u16 ga, .int .i32 gl, .int .u8 li, .slice VA vn vc, .slice UA un uc]] w (Ret (.tuple #[i64 (ba % 8), i64 (sz4 sr), i64 (ga % 40 + 1), i64 (min (sz4 li) (sz4 sr))]) w) := by
  rcases sz4_cases sr with ⟨q1, r1⟩ | ⟨q1, r1⟩ | ⟨q1, r1⟩ | ⟨q1, r1⟩
  all_goals rcases sz4_cases li with ⟨q2, r2⟩ | ⟨q2, r2⟩ | ⟨q2, r2⟩ | ⟨q2, r2⟩
  all_goals rw [r1, r2]
  all_goals clear r1 r2
  all_goals go_enter Try.func10, Try.ntmps10
  all_goals go_wp2_with fail
  all_goals go_region
  all_goals go_wp2_with fail
  all_goals exact bodyPost_ret (by simp [results, Try.results10, go_sem] <;> decide) rfl ⟨rfl, ((Keep.refl _ _).alloc _).drew⟩
theorem law6_amount (d : Int) (w : World) (hd : -2147483648 ≤ d ∧ d ≤ 2147483647) : Calls Try.prog 16 #[.int .i32 d] w (fun e w' => e = .returned (i64 (d.tmod 1048576)) ∧ w = w') := by
  go_enter Try.func16, Try.ntmps16
  go_wp2_with fail
  go_ret
  exact ⟨rfl, rfl⟩
def word6 (ver val : Int) : Int := wrap64 (ver * 4294967296 + val % 4294967296)
theorem ref1_Word (ver val : Int) (w : World) (h1 : 0 ≤ ver ∧ ver ≤ 4294967295) (h2 : -2147483648 ≤ val ∧ val ≤ 2147483647) :
    Calls Try.prog 31 #[i64 ver, i64 val] w (fun e w' => e = .returned (.tuple #[i64 (word6 ver val), .bool true]) ∧ w = w') := by
  have g1 : ¬ ver < 0 := by omega
  have g2 : ¬ (4294967296 ≤ ver) := by omega
  have g3 : ¬ val < -2147483648 := by omega
  have g4 : ¬ (2147483648 ≤ val) := by omega
  have y1 : IntKind.u64.wrap ver = ver := by rw [IntKind.wrap_u64]; omega
  have y2 : IntKind.u64.wrap (ver * 4294967296) = ver * 4294967296 := by rw [IntKind.wrap_u64]; omega
  have y3 := or_u64i ver (val % 4294967296) (by omega) (by omega)
  go_enter Try.func31, Try.ntmps31
  go_wp2_with fail
  go_ret2
  exact ⟨by rw [word6, ← y3]; rfl, rfl⟩
end Go.Proofs.Ytchlmaphaeoplaa
