/- packages slot and claim: a machine's small functions. -/
import Derived.Test.YtjloccnbcgkmgaaPack
import Derived.Test.YtjloccnbcgkmgaaRegion
import Derived.Test.YtjloccnbcgkmgaaPlan
import Derived.Test.YtjloccnbcgkmgaaClaimP
namespace Go.Proofs.Ytjloccnbcgkmgaa
open Go.RowKit
set_option linter.unusedVariables false
set_option linter.unusedSimpArgs false
set_option maxRecDepth 100000
set_option maxHeartbeats 400000 in
theorem slot_known (v : Int) (w : World) : Calls Try.prog 48 #[i64 v] w (fun e w' => e = .returned (.bool (decide (0 ≤ v ∧ v ≤ 3))) ∧ w = w') := by
  by_cases h0 : 0 ≤ v
  · have g1 : decide (0 ≤ v) = true := by simpa using h0
    have y : decide (0 ≤ v ∧ v ≤ 3) = decide (v ≤ 3) := by simp [h0]
    rw [y]
    clear y
    go_enter Try.func48, Try.ntmps48
    go_wp2_with fail
    go_ret
    exact ⟨rfl, rfl⟩
  · have g1 : decide (0 ≤ v) = false := by simpa using h0
    have y : decide (0 ≤ v ∧ v ≤ 3) = false := by simp [h0]
    rw [y]
    clear y
    go_enter Try.func48, Try.ntmps48
    go_wp2_with fail
    go_ret
    exact ⟨rfl, rfl⟩
set_option maxHeartbeats 400000 in
theorem slot_State (v : Int) (w : World) : Calls Try.prog 22 #[i64 v] w (fun e w' => e = .returned (i64 (st10 v)) ∧ w = w') := by
  have hk := slot_known (pVal v) w
  unfold st10
  by_cases hc : 0 ≤ pVal v ∧ pVal v ≤ 3
  · rw [if_pos hc]
    rw [decide_eq_true hc] at hk
    have HK := hid hk
    clear hk hc
    go_enter Try.func22, Try.ntmps22
    go_wp2_with fail
    refine (pack_Value v _).mono ?_
    rintro e w1 ⟨rfl, rfl⟩
    go_wp2_with fail
    refine HK.out.mono ?_
    rintro e w1 ⟨rfl, rfl⟩
    go_wp2_with fail
    go_ret
    exact ⟨rfl, rfl⟩
  · rw [if_neg hc]
    rw [decide_eq_false hc] at hk
    have HK := hid hk
    clear hk hc
    go_enter Try.func22, Try.ntmps22
    go_wp2_with fail
    refine (pack_Value v _).mono ?_
    rintro e w1 ⟨rfl, rfl⟩
    go_wp2_with fail
    refine HK.out.mono ?_
    rintro e w1 ⟨rfl, rfl⟩
    go_wp2_with fail
    go_ret
    exact ⟨rfl, rfl⟩
set_option maxHeartbeats 400000 in
theorem slot_Turn (v k : Int) (hk : 0 ≤ k ∧ k ≤ 3) (w : World) : Calls Try.prog 65 #[i64 v, i64 k] w (fun e w' => e = .returned (.tuple #[i64 (pNext6 v k), .bool true]) ∧ w = w') := by
  have hq := slot_known k w
  rw [decide_eq_true hk] at hq
  have HQ := hid hq
  have HP := hid (fun w => pack_Next v k w (by omega))
  clear hq hk
  go_enter Try.func65, Try.ntmps65
  go_wp2_with fail
  refine HQ.out.mono ?_
  rintro e w1 ⟨rfl, rfl⟩
  go_wp2_with fail
  refine (HP.out _).mono ?_
  rintro e w1 ⟨rfl, rfl⟩
  go_wp2_with fail
  go_ret2
  exact ⟨rfl, rfl⟩
section
variable {w : World} {x : Nat} {v0 v1 v2 v3 v4 v5 v6 v7 : Value}
set_option maxHeartbeats 1000000 in
theorem claim_next (gl o n c : Nat) (sn : Bool) (saw : Int) (hx : Blk w x 73 [v0, v1, v2, v3, v4, v5, v6, v7, .slice (some ⟨gl, o, none⟩) n c, .bool sn, i64 saw, i64 0, .bool false, i64 0, i64 0, .bool false, i64 0]) (hn : 1 ≤ n) (hc : n ≤ c) :
    Calls Try.prog 41 #[ptr x] w fun e w' => e = .returned (.tuple #[]) ∧ Keep (fun k => k = x) w w' ∧
      Blk w' x 73 [v0, v1, v2, v3, v4, v5, v6, v7, .slice (some ⟨gl, if c = 1 then o else o + 1, none⟩) (n - 1) (c - 1), .bool false, i64 saw, i64 0, .bool (decide (n = 1)), i64 (if n = 1 then 3 else 0), i64 0, .bool false, i64 0] := by
  have qx := hx.k17
  have HX := hid hx
  clear hx
  by_cases h1 : n = 1
  · subst h1
    by_cases c1 : c = 1
    · subst c1
      simp only [Nat.sub_self, if_true, decide_true]
      go_enter Try.func41, Try.ntmps41
      go_wp2_with fail
      go_end0
      have h := ((((((HX.out.set 8 (.slice (some ⟨gl, o, none⟩) 0 0)).set 9 (.bool false)).set 13 (i64 3)).set 14 (i64 0)).set 15 (.bool false)).set 16 (i64 0)).set 12 (.bool true)
      simp only [List.set_cons_succ, List.set_cons_zero] at h
      refine ⟨rfl, ?_, h⟩
      repeat (with_reducible first | exact Keep.refl _ _ | refine Keep.set ?_ _ _ (fun _ => rfl))
    · rw [if_neg c1]
      simp only [Nat.sub_self, if_true, decide_true]
      go_enter Try.func41, Try.ntmps41
      go_wp2_with fail
      go_end0
      have h := ((((((HX.out.set 8 (.slice (some ⟨gl, o + 1, none⟩) 0 (c - 1))).set 9 (.bool false)).set 13 (i64 3)).set 14 (i64 0)).set 15 (.bool false)).set 16 (i64 0)).set 12 (.bool true)
      simp only [List.set_cons_succ, List.set_cons_zero] at h
      refine ⟨rfl, ?_, h⟩
      repeat (with_reducible first | exact Keep.refl _ _ | refine Keep.set ?_ _ _ (fun _ => rfl))
  · have c1 : ¬ c = 1 := by omega
    have y : (((n - 1 : Nat) : Int) == 0) = false := by simp; omega
    rw [if_neg c1, if_neg h1, decide_eq_false h1]
    go_enter Try.func41, Try.ntmps41
    go_wp2_with fail
    go_end0
    have h := (HX.out.set 8 (.slice (some ⟨gl, o + 1, none⟩) (n - 1) (c - 1))).set 9 (.bool false)
    simp only [List.set_cons_succ, List.set_cons_zero] at h
    refine ⟨rfl, ?_, h⟩
    repeat (with_reducible first | exact Keep.refl _ _ | refine Keep.set ?_ _ _ (fun _ => rfl))
end
end Go.Proofs.Ytjloccnbcgkmgaa
