/- SameInts: two slices with the same numbers. -/
import Derived.Test.YtlkniogapdhcpaaConf
import Derived.Deep.RegionLaw
namespace Go.Proofs.Ytlkniogapdhcpaa
open Go.RowKit
set_option linter.unusedVariables false
set_option linter.unusedSimpArgs false

theorem Ints.at_ {w : World} {g : Nat} {l : List Int} (h : Ints w g l) : IntsAt w (some ⟨g, 0, none⟩) l :=
  Or.inr ⟨g, 0, rfl, fun i hi => by rw [Nat.zero_add]; exact h.cell i hi⟩

set_option maxHeartbeats 1000000 in
theorem same_ints (A C : Option Addr) (l : List Int) (c1 c2 : Nat) (w : World) (hA : IntsAt w A l) (hC : IntsAt w C l) (hl : l.length ≤ 1000000000) :
    Calls Try.prog 24 #[.slice A l.length c1, .slice C l.length c2] w (Ret (.bool true) w) := by
  have HA := hid hA
  have HC := hid hC
  clear hA hC
  go_enter Try.func24, Try.ntmps24
  go_wp2_with fail
  go_loopw [5] (fun v wr => ∃ i : Nat, i ≤ l.length ∧ v = .int .i64 i ∧ Keep0 w wr) (fun v _ => l.length - (intOf v).toNat)
  case atStart => exact ⟨0, Nat.zero_le _, rfl, Keep.refl _ _⟩
  case round =>
    obtain ⟨i, hi, rfl, hk⟩ := hrel
    have HK := hid hk
    clear hk
    by_cases hlt : i < l.length
    · obtain ⟨b1, o1, rfl, hc1⟩ := (HA.out.keep HK.out).cell (by omega)
      obtain ⟨b2, o2, rfl, hc2⟩ := (HC.out.keep HK.out).cell (by omega)
      have q1 := hc1 i hlt
      have q2 := hc2 i hlt
      have z1 := World.block_lt_of_cell? _ _ q1
      have z2 := World.block_lt_of_cell? _ _ q2
      simp only at z1 z2
      clear hc1 hc2
      go_wp2_with fail
      go_region
      go_wp2_with fail
      go_roundw
      case rel => exact ⟨i + 1, by omega, by go_num, by repeat (with_reducible first | exact Keep.refl _ _ | exact HK.out | apply Keep.alloc | apply Keep.drewN | apply Keep.drew)⟩
      case measure => simp [intOf]; omega
    · go_wp2_with fail
      go_ret
      exact ⟨rfl, HK.out⟩
end Go.Proofs.Ytlkniogapdhcpaa
