/- package pack: words of a version and a value; package draw: a thread's first draw, and one of so many. -/
import Derived.Test.YtlkniogapdhcpaaMemC
import Derived.Deep.RegionLaw
import Derived.Laws.Bits64
namespace Go.Proofs.Ytlkniogapdhcpaa
open Go.RowKit
set_option linter.unusedVariables false
set_option linter.unusedSimpArgs false
set_option maxRecDepth 100000

/-- a word's value -/
def pVal (n : Int) : Int := wrap32 (n % 4294967296)
/-- the next word, of a value -/
def pNext6 (n v : Int) : Int := wrap64 ((n % 18446744073709551616 / 4294967296 + 1) % 4294967296 * 4294967296 + v % 4294967296)
theorem pVal_bd (n : Int) : -2147483648 ≤ pVal n ∧ pVal n ≤ 2147483647 := by unfold pVal wrap32; omega
theorem pVal_next (n v : Int) (h : -2147483648 ≤ v ∧ v ≤ 2147483647) : pVal (pNext6 n v) = v := by
  unfold pVal pNext6 wrap32 wrap64
  omega
theorem or_u64 (a b : Nat) (ha : a < 4294967296) (hb : b < 4294967296) : bits .or .u64 ((a : Int) * 4294967296) (b : Int) = (a : Int) * 4294967296 + b := by
  have e : 4294967296 * a + b = 4294967296 * a ||| b := Nat.two_pow_add_eq_or_of_lt (i := 32) hb a
  have h1 : (BitVec.ofInt 64 ((a : Int) * 4294967296)).toNat = 4294967296 * a := by
    rw [show ((a : Int) * 4294967296) = ((4294967296 * a : Nat) : Int) from by omega, BitVec.ofInt_natCast, BitVec.toNat_ofNat]; exact Nat.mod_eq_of_lt (by omega)
  have h2 : (BitVec.ofInt 64 (b : Int)).toNat = b := by
    rw [BitVec.ofInt_natCast, BitVec.toNat_ofNat]; exact Nat.mod_eq_of_lt (by omega)
  show IntKind.u64.wrap ((BitVec.ofInt 64 ((a : Int) * 4294967296) ||| BitVec.ofInt 64 (b : Int)).toNat : Int) = _
  rw [BitVec.toNat_or, h1, h2, ← e, IntKind.wrap_u64]
  omega
theorem or_u64i (a b : Int) (ha : 0 ≤ a ∧ a < 4294967296) (hb : 0 ≤ b ∧ b < 4294967296) : bits .or .u64 (a * 4294967296) b = a * 4294967296 + b := by
  obtain ⟨a, rfl⟩ := Int.eq_ofNat_of_zero_le ha.1
  obtain ⟨b, rfl⟩ := Int.eq_ofNat_of_zero_le hb.1
  exact or_u64 a b (by omega) (by omega)

set_option maxHeartbeats 400000 in
theorem pack_Value (n : Int) (w : World) : Calls Try.prog 40 #[i64 n] w (fun e w' => e = .returned (i64 (pVal n)) ∧ w = w') := by
  have hv : wrap64 (wrap32 (IntKind.u64.wrap n % 4294967296)) = pVal n := by rw [IntKind.wrap_u64]; unfold pVal wrap32 wrap64; omega
  go_enter Try.func40, Try.ntmps40
  go_wp2_with fail
  go_ret
  exact ⟨by rw [← hv]; rfl, rfl⟩
set_option maxHeartbeats 400000 in
theorem pack_with (a b : Int) (n : Int) (w : World) (hab : 0 ≤ (a / 4294967296 + b)) : Calls Try.prog 73 #[.int .u64 a, .int .u32 b, i64 n] w (fun e w' => e = .returned (.int .u64 ((a / 4294967296 + b) % 4294967296 * 4294967296 + n % 4294967296)) ∧ w = w') := by
  have hv : bits BinOp.or IntKind.u64 ((a / 4294967296 + b) % 4294967296 * 4294967296) (wrap32 n % 4294967296) = (a / 4294967296 + b) % 4294967296 * 4294967296 + n % 4294967296 := by
    rw [or_u64i _ _ (by omega) (by omega)]
    unfold wrap32
    omega
  go_enter Try.func73, Try.ntmps73
  go_wp2_with fail
  go_ret
  exact ⟨by rw [← hv]; rfl, rfl⟩
set_option maxHeartbeats 400000 in
theorem pack_state (n : Int) (w : World) (h : -2147483648 ≤ n ∧ n ≤ 2147483647) : Calls Try.prog 72 #[i64 0, i64 n] w (fun e w' => e = .returned (i64 0) ∧ w = w') := by
  have hv : (n != wrap64 (wrap32 n)) = false := by
    have : wrap64 (wrap32 n) = n := by unfold wrap32 wrap64; omega
    rw [this]; simp
  go_enter Try.func72, Try.ntmps72
  go_wp2_with fail
  go_ret
  exact ⟨rfl, rfl⟩
set_option maxHeartbeats 400000 in
theorem pack_Next (n v : Int) (w : World) (h : -2147483648 ≤ v ∧ v ≤ 2147483647) : Calls Try.prog 66 #[i64 n, i64 v] w (fun e w' => e = .returned (.tuple #[i64 (pNext6 n v), .bool true]) ∧ w = w') := by
  have hw : 0 ≤ IntKind.u64.wrap n := by rw [IntKind.wrap_u64]; omega
  have hx : wrap64 ((IntKind.u64.wrap n / 4294967296 + 1) % 4294967296 * 4294967296 + v % 4294967296) = pNext6 n v := by rw [IntKind.wrap_u64]; rfl
  go_enter Try.func66, Try.ntmps66
  go_wp2_with fail
  refine (pack_state v _ h).mono ?_
  rintro e w1 ⟨rfl, rfl⟩
  go_wp2_with fail
  refine (pack_with (IntKind.u64.wrap n) 1 v _ (by omega)).mono ?_
  rintro e w2 ⟨rfl, rfl⟩
  go_wp2_with fail
  go_ret2
  exact ⟨by rw [← hx]; rfl, rfl⟩
/-- a thread's first draw -/
def dBegin (n : Int) : Int := (n + 1) * 2654435761 % 4294967296
set_option maxHeartbeats 400000 in
theorem draw_Begin (n : Int) (w : World) (h : 0 ≤ n ∧ n ≤ 1000) : Calls Try.prog 41 #[i64 n] w (fun e w' => e = .returned (i64 (dBegin n)) ∧ w = w') := by
  have y1 : IntKind.i64.wrap (n + 1) = n + 1 := IntWalk.i64_in _ (by omega)
  have y2 : IntKind.i64.wrap ((n + 1) * 2654435761) = (n + 1) * 2654435761 := IntWalk.i64_in _ (by omega)
  go_enter Try.func41, Try.ntmps41
  go_wp2_with fail
  go_ret
  exact ⟨rfl, rfl⟩
set_option maxHeartbeats 400000 in
theorem draw_Pick (x n : Int) (w : World) (hx : 0 ≤ x ∧ x ≤ 9223372036854775807) (hn : 1 ≤ n) : Calls Try.prog 53 #[i64 x, i64 n] w (fun e w' => e = .returned (i64 (x % n)) ∧ w = w') := by
  have hn0 : n ≠ 0 := by omega
  have y : x.tmod n = x % n := Int.tmod_eq_emod_of_nonneg hx.1
  go_enter Try.func53, Try.ntmps53
  go_wp2_with fail
  go_ret
  exact ⟨rfl, rfl⟩
end Go.Proofs.Ytlkniogapdhcpaa
