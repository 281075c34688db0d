/- Contracts and plain laws for UsageWay, part 2: what the walk of the law leans on. -/
import Derived.Deep.RegionLaw
import Derived.Laws.Bits64
import Derived.Test.YthaceckccobgeaaGreatZUsageWay1
namespace Go.Proofs.YthaceckccobgeaaGreat
open Go.RowKit
set_option linter.unusedVariables false
set_option linter.unusedSimpArgs false
set_option maxRecDepth 100000
def pVal (n : Int) : Int := wrap32 (n % 4294967296)
def pNext6 (n v : Int) : Int := wrap64 ((n % 18446744073709551616 / 4294967296 + 1) % 4294967296 * 4294967296 + v % 4294967296)
theorem pVal_bd (n : Int) : -2147483648 ≤ pVal n ∧ pVal n ≤ 2147483647 := by unfold pVal wrap32; omega
theorem pVal_next (n v : Int) (h : -2147483648 ≤ v ∧ v ≤ 2147483647) : pVal (pNext6 n v) = v := by
 unfold pVal pNext6 wrap32 wrap64
 omega
theorem or_u64 (a b : Nat) (ha : a < 4294967296) (hb : b < 4294967296) : bits .or .u64 ((a : Int) * 4294967296) (b : Int) = (a : Int) * 4294967296 + b := by
 have e : 4294967296 * a + b = 4294967296 * a ||| b := Nat.two_pow_add_eq_or_of_lt (i := 32) hb a
 have h1 : (BitVec.ofInt 64 ((a : Int) * 4294967296)).toNat = 4294967296 * a := by
  rw [show ((a : Int) * 4294967296) = ((4294967296 * a : Nat) : Int) from by omega, BitVec.ofInt_natCast, BitVec.toNat_ofNat]; exact Nat.mod_eq_of_lt (by omega)
 have h2 : (BitVec.ofInt 64 (b : Int)).toNat = b := by
  rw [BitVec.ofInt_natCast, BitVec.toNat_ofNat]; exact Nat.mod_eq_of_lt (by omega)
 show IntKind.u64.wrap ((BitVec.ofInt 64 ((a : Int) * 4294967296) ||| BitVec.ofInt 64 (b : Int)).toNat : Int) = _
 rw [BitVec.toNat_or, h1, h2, ← e, IntKind.wrap_u64]
 omega
theorem or_u64i (a b : Int) (ha : 0 ≤ a ∧ a < 4294967296) (hb : 0 ≤ b ∧ b < 4294967296) : bits .or .u64 (a * 4294967296) b = a * 4294967296 + b := by
 obtain ⟨a, rfl⟩ := Int.eq_ofNat_of_zero_le ha.1
 obtain ⟨b, rfl⟩ := Int.eq_ofNat_of_zero_le hb.1
 exact or_u64 a b (by omega) (by omega)
set_option maxHeartbeats 400000 in
theorem pack_Value (n : Int) (w : World) : Calls Tryz.prog 81 #[i64 n] w (fun e w' => e = .returned (i64 (pVal n)) ∧ w = w') := by
 have hv : wrap64 (wrap32 (IntKind.u64.wrap n % 4294967296)) = pVal n := by rw [IntKind.wrap_u64]; unfold pVal wrap32 wrap64; omega
 go_enter Tryz.func81, Tryz.ntmps81
 go_wp2_with fail
 go_ret
 exact ⟨by rw [← hv]; rfl, rfl⟩
def dBegin (n : Int) : Int := (n + 1) * 2654435761 % 4294967296
end Go.Proofs.YthaceckccobgeaaGreat

namespace Go.Proofs.YthaceckccobgeaaGreat
open Go.RowKit
set_option linter.unusedVariables false
set_option linter.unusedSimpArgs false
set_option maxRecDepth 100000
def word6 (ver val : Int) : Int := wrap64 (ver * 4294967296 + val % 4294967296)
theorem ref1_Word (ver val : Int) (w : World) (h1 : 0 ≤ ver ∧ ver ≤ 4294967295) (h2 : -2147483648 ≤ val ∧ val ≤ 2147483647) :
 Calls Tryz.prog 113 #[i64 ver, i64 val] w (fun e w' => e = .returned (.tuple #[i64 (word6 ver val), .bool true]) ∧ w = w') := by
 have g1 : ¬ ver < 0 := by omega
 have g2 : ¬ (4294967296 ≤ ver) := by omega
 have g3 : ¬ val < -2147483648 := by omega
 have g4 : ¬ (2147483648 ≤ val) := by omega
 have y1 : IntKind.u64.wrap ver = ver := by rw [IntKind.wrap_u64]; omega
 have y2 : IntKind.u64.wrap (ver * 4294967296) = ver * 4294967296 := by rw [IntKind.wrap_u64]; omega
 have y3 := or_u64i ver (val % 4294967296) (by omega) (by omega)
 go_enter Tryz.func113, Tryz.ntmps113
 go_wp2_with fail
 go_ret2
 exact ⟨by rw [word6, ← y3]; rfl, rfl⟩
end Go.Proofs.YthaceckccobgeaaGreat

namespace Go.Proofs.YthaceckccobgeaaGreat
open Go.RowKit
set_option linter.unusedVariables false
set_option linter.unusedSimpArgs false
set_option maxRecDepth 100000
theorem ref1_Value (n : Int) (w : World) : Calls Tryz.prog 96 #[i64 n] w (fun e w' => e = .returned (i64 (pVal n)) ∧ w = w') := by
 have y1 : wrap64 ((IntKind.u64.wrap n).tmod 4294967296) = n % 4294967296 := by rw [IntKind.wrap_u64, Int.tmod_eq_emod_of_nonneg (by omega)]; unfold wrap64; omega
 have hm := Int.emod_nonneg n (show (4294967296 : Int) ≠ 0 by omega)
 have hm1 := Int.emod_lt_of_pos n (show (0 : Int) < 4294967296 by omega)
 by_cases hc : 2147483648 ≤ n % 4294967296
 · have y2 : wrap64 (n % 4294967296 - 4294967296) = n % 4294967296 - 4294967296 := by unfold wrap64; omega
   have hp : pVal n = n % 4294967296 - 4294967296 := by unfold pVal wrap32; omega
   rw [hp]
   clear hp
   go_enter Tryz.func96, Tryz.ntmps96
   go_wp2_with fail
   go_ret
   exact ⟨rfl, rfl⟩
 · have hp : pVal n = n % 4294967296 := by unfold pVal wrap32; omega
   rw [hp]
   clear hp
   go_enter Tryz.func96, Tryz.ntmps96
   go_wp2_with fail
   go_ret
   exact ⟨rfl, rfl⟩
theorem ref1_Version (n : Int) (w : World) : Calls Tryz.prog 112 #[i64 n] w (fun e w' => e = .returned (i64 (n % 18446744073709551616 / 4294967296)) ∧ w = w') := by
 have y1 : IntKind.i64.wrap (IntKind.u64.wrap n / 4294967296) = n % 18446744073709551616 / 4294967296 := by rw [IntKind.wrap_u64, IntWalk.i64_in _ (by omega)]
 go_enter Tryz.func112, Tryz.ntmps112
 go_wp2_with fail
 go_ret
 exact ⟨rfl, rfl⟩
theorem ref1_Next (n v : Int) (w : World) (h : -2147483648 ≤ v ∧ v ≤ 2147483647) : Calls Tryz.prog 93 #[i64 n, i64 v] w (fun e w' => e = .returned (.tuple #[i64 (pNext6 n v), .bool true]) ∧ w = w') := by
 have hv : pNext6 n v = word6 ((n % 18446744073709551616 / 4294967296 + 1) % 4294967296) v := rfl
 rw [hv]
 clear hv
 have hb : 0 ≤ n % 18446744073709551616 / 4294967296 ∧ n % 18446744073709551616 / 4294967296 ≤ 4294967295 := by omega
 go_enter Tryz.func93, Tryz.ntmps93
 go_wp2_with fail
 refine (ref1_Version n _).mono ?_
 rintro e w1 ⟨rfl, rfl⟩
 generalize hu : n % 18446744073709551616 / 4294967296 = u at *
 have HU := hid hu
 clear hu
 have y1 : IntKind.i64.wrap (u + 1) = u + 1 := IntWalk.i64_in _ (by omega)
 by_cases hc : u + 1 = 4294967296
 · have h0 : (u + 1) % 4294967296 = 0 := by omega
   have H0 := hid h0
   clear h0
   go_wp2_with fail
   refine (ref1_Word 0 v _ (by omega) h).mono ?_
   rintro e w1 ⟨rfl, rfl⟩
   go_wp2_with fail
   go_ret2
   exact ⟨by rw [HU.out, H0.out]; rfl, rfl⟩
 · have h0 : (u + 1) % 4294967296 = u + 1 := by omega
   have H0 := hid h0
   clear h0
   go_wp2_with fail
   refine (ref1_Word (u + 1) v _ (by omega) h).mono ?_
   rintro e w1 ⟨rfl, rfl⟩
   go_wp2_with fail
   go_ret2
   exact ⟨by rw [HU.out, H0.out]; rfl, rfl⟩
end Go.Proofs.YthaceckccobgeaaGreat
