/- breadlineref01: Value, Version, Next. -/
import Derived.Test.YtjloccnbcgkmgaaRefWord
namespace Go.Proofs.Ytjloccnbcgkmgaa
open Go.RowKit
set_option linter.unusedVariables false
set_option linter.unusedSimpArgs false
set_option maxRecDepth 100000
theorem ref1_Value (n : Int) (w : World) : Calls Try.prog 43 #[i64 n] w (fun e w' => e = .returned (i64 (pVal n)) ∧ w = w') := by
  have y1 : wrap64 ((IntKind.u64.wrap n).tmod 4294967296) = n % 4294967296 := by rw [IntKind.wrap_u64, Int.tmod_eq_emod_of_nonneg (by omega)]; unfold wrap64; omega
  have hm := Int.emod_nonneg n (show (4294967296 : Int) ≠ 0 by omega)
  have hm1 := Int.emod_lt_of_pos n (show (0 : Int) < 4294967296 by omega)
  by_cases hc : 2147483648 ≤ n % 4294967296
  · have y2 : wrap64 (n % 4294967296 - 4294967296) = n % 4294967296 - 4294967296 := by unfold wrap64; omega
    have hp : pVal n = n % 4294967296 - 4294967296 := by unfold pVal wrap32; omega
    rw [hp]
    clear hp
    go_enter Try.func43, Try.ntmps43
    go_wp2_with fail
    go_ret
    exact ⟨rfl, rfl⟩
  · have hp : pVal n = n % 4294967296 := by unfold pVal wrap32; omega
    rw [hp]
    clear hp
    go_enter Try.func43, Try.ntmps43
    go_wp2_with fail
    go_ret
    exact ⟨rfl, rfl⟩
theorem ref1_Version (n : Int) (w : World) : Calls Try.prog 79 #[i64 n] w (fun e w' => e = .returned (i64 (n % 18446744073709551616 / 4294967296)) ∧ w = w') := by
  have y1 : IntKind.i64.wrap (IntKind.u64.wrap n / 4294967296) = n % 18446744073709551616 / 4294967296 := by rw [IntKind.wrap_u64, IntWalk.i64_in _ (by omega)]
  go_enter Try.func79, Try.ntmps79
  go_wp2_with fail
  go_ret
  exact ⟨rfl, rfl⟩
theorem ref1_Next (n v : Int) (w : World) (h : -2147483648 ≤ v ∧ v ≤ 2147483647) : Calls Try.prog 76 #[i64 n, i64 v] w (fun e w' => e = .returned (.tuple #[i64 (pNext6 n v), .bool true]) ∧ w = w') := by
  have hv : pNext6 n v = word6 ((n % 18446744073709551616 / 4294967296 + 1) % 4294967296) v := rfl
  rw [hv]
  clear hv
  have hb : 0 ≤ n % 18446744073709551616 / 4294967296 ∧ n % 18446744073709551616 / 4294967296 ≤ 4294967295 := by omega
  go_enter Try.func76, Try.ntmps76
  go_wp2_with fail
  refine (ref1_Version n _).mono ?_
  rintro e w1 ⟨rfl, rfl⟩
  generalize hu : n % 18446744073709551616 / 4294967296 = u at *
  have HU := hid hu
  clear hu
  have y1 : IntKind.i64.wrap (u + 1) = u + 1 := IntWalk.i64_in _ (by omega)
  by_cases hc : u + 1 = 4294967296
  · have h0 : (u + 1) % 4294967296 = 0 := by omega
    have H0 := hid h0
    clear h0
    go_wp2_with fail
    refine (ref1_Word 0 v _ (by omega) h).mono ?_
    rintro e w1 ⟨rfl, rfl⟩
    go_wp2_with fail
    go_ret2
    exact ⟨by rw [HU.out, H0.out]; rfl, rfl⟩
  · have h0 : (u + 1) % 4294967296 = u + 1 := by omega
    have H0 := hid h0
    clear h0
    go_wp2_with fail
    refine (ref1_Word (u + 1) v _ (by omega) h).mono ?_
    rintro e w1 ⟨rfl, rfl⟩
    go_wp2_with fail
    go_ret2
    exact ⟨by rw [HU.out, H0.out]; rfl, rfl⟩
end Go.Proofs.Ytjloccnbcgkmgaa
