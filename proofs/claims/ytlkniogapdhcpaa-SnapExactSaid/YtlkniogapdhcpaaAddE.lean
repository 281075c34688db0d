/- package add: Step, New, Ans. -/
import Derived.Test.YtlkniogapdhcpaaAddD
namespace Go.Proofs.Ytlkniogapdhcpaa
open Go.RowKit
set_option linter.unusedVariables false
set_option linter.unusedSimpArgs false
set_option maxRecDepth 100000
section
variable {B : Nat} {w : World} {m a x : Nat} {lv : Value} {W : List Int} {L : List Acc} {b st g d x0 lv6 sp ww vv : Int} {nx : Value}
@[go_sem] theorem step_ne (F : FuncId) (w : World) : (binOp BinOp.neq 93 (.func (.func F) #[] #[]) .nilFunc).run Try.prog w = .ok (.bool true) w := by rfl
@[go_sem] theorem step_eq (F : FuncId) (w : World) : (binOp BinOp.eql 93 (.func (.func F) #[] #[]) .nilFunc).run Try.prog w = .ok (.bool false) w := by rfl
@[go_sem] theorem store_func (P : Program) (w : World) (a : Addr) (m : Mode) (G : FuncId) : (store a (.func (.func G) #[] #[]) m).run P w = stored P w a (.func (.func G) #[] #[]) m := run_store P w a _ m rfl
@[go_sem] theorem store_nilFunc (P : Program) (w : World) (a : Addr) (m : Mode) : (store a .nilFunc m).run P w = stored P w a .nilFunc m := run_store P w a _ m rfl
@[go_sem] theorem step_nn (w : World) : (binOp BinOp.neq 93 .nilFunc .nilFunc).run Try.prog w = .ok (.bool false) w := by rfl
@[go_sem] theorem step_nq (w : World) : (binOp BinOp.eql 93 .nilFunc .nilFunc).run Try.prog w = .ok (.bool true) w := by rfl
/-- a step of a machine whose next function is F -/
theorem add_Step_end (hx : Blk w x 95 [i64 b, i64 st, i64 g, i64 d, i64 x0, i64 lv6, i64 sp, i64 ww, i64 vv, .nilFunc]) :
    Calls Try.prog 28 #[ptr x, ptr m] w (fun e w' => e = .returned (.bool true) ∧ w = w') := by
  have qx := hx.k10
  clear hx
  go_enter Try.func28, Try.ntmps28
  go_wp2_with fail
  go_ret
  exact ⟨rfl, rfl⟩
set_option maxHeartbeats 1000000 in
theorem add_Step (F : FuncId) (x0' lv6' sp' ww' vv' : Int) (nx' : Value) (W' : List Int) (L' : List Acc) (fin : Bool) (hnx : (nx' = .nilFunc ∧ fin = true) ∨ (∃ G, nx' = .func (.func G) #[] #[] ∧ fin = false)) (hm : MemAt B w m a lv W L) (hx : Blk w x 95 [i64 b, i64 st, i64 g, i64 d, i64 x0, i64 lv6, i64 sp, i64 ww, i64 vv, .func (.func F) #[] #[]])
    (hF : ∀ (args : Array Value) (w : World), (callFunc F args).run Try.prog w = .ok (.enter F args) w)
    (hS : Calls Try.prog F #[ptr x, ptr m] w (AddP B w m a lv x [i64 b, i64 st, i64 g, i64 d, i64 x0', i64 lv6', i64 sp', i64 ww', i64 vv', .func (.func F) #[] #[]] W' L' nx')) :
    Calls Try.prog 28 #[ptr x, ptr m] w fun e w' => e = .returned (.bool fin) ∧ ∃ lv', MemAt B w' m a lv' W' L' ∧ Blk w' x 95 [i64 b, i64 st, i64 g, i64 d, i64 x0', i64 lv6', i64 sp', i64 ww', i64 vv', nx'] ∧ Keep (fun k => MF m a lv k ∨ k = x) w w' ∧ (∀ k, lv'.ownBlock = some k → lv.ownBlock = some k ∨ w.heap.size ≤ k) := by
  have HX := hid hx
  have HM := hid hm
  have HS := hid hS
  have HN := hid hnx
  have qx := hx.k10
  clear hx hm hS hnx
  go_enter Try.func28, Try.ntmps28
  go_wp2_with fail
  refine HS.out.mono ?_
  rintro e w1 ⟨rfl, lv1, hm1, hx1, hk1, ho1⟩
  have HM1 := hid hm1
  have HX1 := hid hx1
  have HK1 := hid hk1
  have HO1 := hid ho1
  have qx1 := HX1.out.k10
  clear hm1 hx1 hk1 ho1 qx
  rcases HN.out with ⟨rfl, rfl⟩ | ⟨G, rfl, rfl⟩
  all_goals go_wp2_with fail
  all_goals go_ret
  · have hks : Keep (fun k => k = x) w1 (w1.setCell ⟨x, 9, none⟩ .nilFunc) := (Keep.refl _ _).set _ _ (fun _ => rfl)
    exact ⟨rfl, lv1, HM1.out.keep hks (fun k h e => am_far HM1.out HX1.out (by have e' : k = x := e; exact e' ▸ h)), HX1.out.set 9 _, HK1.out.trans (hks.mono (fun _ h => Or.inr h)) (fun _ _ h => h), HO1.out⟩
  · have hks : Keep (fun k => k = x) w1 (w1.setCell ⟨x, 9, none⟩ (.func (.func G) #[] #[])) := (Keep.refl _ _).set _ _ (fun _ => rfl)
    exact ⟨rfl, lv1, HM1.out.keep hks (fun k h e => am_far HM1.out HX1.out (by have e' : k = x := e; exact e' ▸ h)), HX1.out.set 9 _, HK1.out.trans (hks.mono (fun _ h => Or.inr h)) (fun _ _ h => h), HO1.out⟩
/-- a new machine, of no step -/
theorem add_New (b st g d : Int) (th : Nat) (w : World) (hth : th ≤ 1000) (x7 : Nat) (hx7 : (x7 : Int) = dBegin th) :
    Calls Try.prog 27 #[i64 b, i64 st, i64 g, i64 d, i64 (th : Int)] w fun e w' => ∃ x, e = .returned (ptr x) ∧ w.heap.size ≤ x ∧ Keep0 w w' ∧ Blk w' x 95 [i64 b, i64 st, i64 g, i64 d, i64 (x7 : Int), i64 0, i64 0, i64 0, i64 0, .func (.func 42) #[] #[]] := by
  have HB := hid (draw_Begin th w (by omega))
  rw [← hx7] at HB
  clear hx7
  go_enter Try.func27, Try.ntmps27
  go_wp2_with fail
  refine HB.out.mono ?_
  rintro e w1 ⟨rfl, rfl⟩
  go_wp2_with fail
  go_ret
  exact ⟨w.heap.size, rfl, Nat.le_refl _, (Keep.refl _ _).alloc _, Blk.made rfl rfl⟩
end
end Go.Proofs.Ytlkniogapdhcpaa
