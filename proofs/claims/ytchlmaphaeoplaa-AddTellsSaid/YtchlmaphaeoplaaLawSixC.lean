/- breadlinelaw06: laid. -/
import Derived.Test.YtchlmaphaeoplaaLawSixB
namespace Go.Proofs.Ytchlmaphaeoplaa
open Go.RowKit
set_option linter.unusedVariables false
set_option linter.unusedSimpArgs false
set_option maxRecDepth 100000
theorem take_pad6 (W : List Int) (n i : Nat) (hn : n = W.length) (h : i < n) : (W.take i ++ List.replicate (n - i) 0).set i (rd W i) = W.take (i + 1) ++ List.replicate (n - (i + 1)) 0 := by
  subst hn
  have e : W[i]? = some (rd W i) := by simp [rd, h]
  rw [List.set_append_right _ _ (by rw [List.length_take]; omega), List.length_take, Nat.min_eq_left (by omega), Nat.sub_self, List.take_add_one, e, show W.length - i = (W.length - (i + 1)) + 1 from by omega, List.replicate_succ]
  simp
set_option maxHeartbeats 2000000 in
theorem law6_laid (B : Nat) (w : World) (gb c n : Nat) (W : List Int) (hW : Ints w gb W) (hn : n = W.length) (h1 : W.length ≤ 10000) (hB : B ≤ w.heap.size) :
    Calls Try.prog 12 #[.slice (some ⟨gb, 0, none⟩) n c] w fun e w' => ∃ m a lv, e = .returned (ptr m) ∧ MemAt B w' m a lv W [] ∧ Keep0 w w' ∧ w.heap.size ≤ m ∧ w.heap.size ≤ a := by
  subst hn
  have HW := hid hW
  clear hW
  go_enter Try.func12, Try.ntmps12
  go_wp2_with fail
  refine (mem_New B W.length _ hB (by omega) (by omega)).mono ?_
  rintro e w1 ⟨m, a, lv, rfl, hm, hk, hzm, hza⟩
  rw [Int.toNat_natCast] at hm
  have HM1 := hid hm
  have HK1 : Hid (Keep0 w w1) := hid hk
  clear hm hk
  go_wp2_with fail
  go_loopw [4] (fun v wr => ∃ i : Nat, i ≤ W.length ∧ v = .int .i64 i ∧ MemAt B wr m a lv (W.take i ++ List.replicate (W.length - i) 0) [] ∧ Keep0 w wr) (fun v _ => W.length - (intOf v).toNat)
  case atStart => exact ⟨0, Nat.zero_le _, rfl, by simpa using HM1.out, HK1.out⟩
  case round =>
    obtain ⟨i, hi, rfl, hm, hk⟩ := hrel
    clear HM1 HK1
    have HM := hid hm
    have HK := hid hk
    clear hm hk
    by_cases hlt : i < W.length
    · have hir := HK.out.ints HW.out (fun h => h)
      have c1 := hir.cell i hlt
      have z1 := hir.lt
      have hx := take_pad6 W W.length i rfl hlt
      have HX := hid hx
      clear hx hir
      go_wp2_with fail
      refine (mem_Poke i (rd W i) HM.out (by omega) (by simp; omega)).mono ?_
      rintro e w2 ⟨rfl, hm, hk⟩
      rw [Int.toNat_natCast, HX.out] at hm
      have HM2 := hid hm
      have HK2 : Hid (Keep0 w w2) := hid (keep_far6 HK.out hk (fun k e => by have e' : k = a := e; omega))
      clear hm hk c1
      go_wp2_with fail
      go_roundw
      case rel => exact ⟨i + 1, by omega, by go_num, HM2.out, HK2.out⟩
      case measure => simp [intOf]; omega
    · obtain rfl : i = W.length := by omega
      have hm := HM.out
      rw [List.take_of_length_le (Nat.le_refl _), Nat.sub_self] at hm
      simp only [List.replicate_zero, List.append_nil] at hm
      have HM2 := hid hm
      clear hm
      go_wp2_with fail
      go_ret
      exact ⟨m, a, lv, rfl, HM2.out, HK.out, hzm, hza⟩
end Go.Proofs.Ytchlmaphaeoplaa
