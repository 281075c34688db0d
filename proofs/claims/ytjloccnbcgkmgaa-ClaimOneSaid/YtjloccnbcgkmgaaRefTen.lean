/- breadlineref10: State, Turn. -/
import Derived.Test.YtjloccnbcgkmgaaRefOne
import Derived.Test.YtjloccnbcgkmgaaClaimP
namespace Go.Proofs.Ytjloccnbcgkmgaa
open Go.RowKit
set_option linter.unusedVariables false
set_option linter.unusedSimpArgs false
set_option maxRecDepth 100000
set_option maxHeartbeats 400000 in
theorem ref10_State (v : Int) (w : World) : Calls Try.prog 15 #[i64 v] w (fun e w' => e = .returned (i64 (st10 v)) ∧ w = w') := by
  have HV := hid (ref1_Value v w)
  by_cases h0 : pVal v < 0
  · have e : st10 v = -1 := by unfold st10; rw [if_neg (by omega)]
    have g1 : decide (pVal v < 0) = true := decide_eq_true h0
    rw [e]
    clear e h0
    go_enter Try.func15, Try.ntmps15
    go_wp2_with fail
    refine HV.out.mono ?_
    rintro e w1 ⟨rfl, rfl⟩
    go_wp2_with fail
    go_ret
    exact ⟨rfl, rfl⟩
  · have g1 : decide (pVal v < 0) = false := decide_eq_false h0
    by_cases h3 : 3 < pVal v
    · have e : st10 v = -1 := by unfold st10; rw [if_neg (by omega)]
      have g2 : decide (3 < pVal v) = true := decide_eq_true h3
      rw [e]
      clear e h0 h3
      go_enter Try.func15, Try.ntmps15
      go_wp2_with fail
      refine HV.out.mono ?_
      rintro e w1 ⟨rfl, rfl⟩
      go_wp2_with fail
      go_ret
      exact ⟨rfl, rfl⟩
    · have e : st10 v = pVal v := by unfold st10; rw [if_pos (by omega)]
      have g2 : decide (3 < pVal v) = false := decide_eq_false h3
      rw [e]
      clear e h0 h3
      go_enter Try.func15, Try.ntmps15
      go_wp2_with fail
      refine HV.out.mono ?_
      rintro e w1 ⟨rfl, rfl⟩
      go_wp2_with fail
      go_ret
      exact ⟨rfl, rfl⟩
set_option maxHeartbeats 400000 in
theorem ref10_Turn (v : Int) (w : World) : Calls Try.prog 70 #[i64 v, i64 1] w (fun e w' => e = .returned (.tuple #[i64 (pNext6 v 1), .bool true]) ∧ w = w') := by
  have HV := hid (ref1_Next v 1 w (by omega))
  go_enter Try.func70, Try.ntmps70
  go_wp2_with fail
  refine HV.out.mono ?_
  rintro e w1 ⟨rfl, rfl⟩
  go_wp2_with fail
  go_ret2
  exact ⟨rfl, rfl⟩
end Go.Proofs.Ytjloccnbcgkmgaa
