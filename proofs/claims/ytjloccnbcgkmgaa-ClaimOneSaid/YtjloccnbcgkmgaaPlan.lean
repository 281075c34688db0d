/- Which word is whose: package plan. -/
import Derived.Test.YtjloccnbcgkmgaaMemC
namespace Go.Proofs.Ytjloccnbcgkmgaa
open Go.RowKit
set_option linter.unusedVariables false
set_option linter.unusedSimpArgs false

set_option maxHeartbeats 400000 in
theorem plan_each (t s g l r k : Int) (PA : Option Addr) (pn pc : Nat) (LA : Option Addr) (ln lc : Nat) (w : World) (hs0 : 1 ≤ s) (hs1 : s ≤ 8) :
    Calls Try.prog 67 #[.agg #[i64 t, i64 s, i64 g, i64 l, i64 r, i64 k, .slice PA pn pc, .slice LA ln lc]] w (Ret (i64 (6 + 2 * s)) w) := by
  go_enter Try.func67, Try.ntmps67
  go_wp2_with fail
  go_ret
  exact ⟨rfl, by repeat (with_reducible first | exact Keep.refl _ _ | apply Keep.alloc | apply Keep.drewN | apply Keep.drew)⟩

set_option maxHeartbeats 400000 in
theorem plan_node (t s g l r k : Int) (PA : Option Addr) (pn pc : Nat) (LA : Option Addr) (ln lc : Nat) (v : Int) (w : World) (hs0 : 1 ≤ s) (hs1 : s ≤ 8) (h0 : 0 ≤ v) (h1 : v ≤ 1000) :
    Calls Try.prog 46 #[.agg #[i64 t, i64 s, i64 g, i64 l, i64 r, i64 k, .slice PA pn pc, .slice LA ln lc], i64 v] w (Ret (i64 (v * (6 + 2 * s))) w) := by
  have hm := mul_bd 1000 22 h0 h1 (show 0 ≤ 6 + 2 * s by omega) (by omega)
  go_enter Try.func46, Try.ntmps46
  go_wp2_with fail
  refine (plan_each t s g l r k PA pn pc LA ln lc _ hs0 hs1).mono ?_
  rintro e w1 ⟨rfl, hk1⟩
  have HK1 : Hid (Keep0 w w1) := hid (Keep0.step (by repeat (with_reducible first | exact Keep.refl _ _ | apply Keep.alloc | apply Keep.drewN | apply Keep.drew)) hk1)
  clear hk1
  go_wp2_with fail
  go_ret
  exact ⟨rfl, by repeat (with_reducible first | exact Keep.refl _ _ | exact HK1.out | apply Keep.alloc | apply Keep.drewN | apply Keep.drew)⟩

set_option maxHeartbeats 400000 in
theorem plan_Limit (t s g l r k : Int) (PA : Option Addr) (pn pc : Nat) (LA : Option Addr) (ln lc : Nat) (v : Int) (w : World) (hs0 : 1 ≤ s) (hs1 : s ≤ 8) (h0 : 0 ≤ v) (h1 : v ≤ 1000) :
    Calls Try.prog 54 #[.agg #[i64 t, i64 s, i64 g, i64 l, i64 r, i64 k, .slice PA pn pc, .slice LA ln lc], i64 v] w (Ret (i64 (v * (6 + 2 * s))) w) := by
  go_enter Try.func54, Try.ntmps54
  go_wp2_with fail
  refine (plan_node t s g l r k PA pn pc LA ln lc v _ hs0 hs1 h0 h1).mono ?_
  rintro e w1 ⟨rfl, hk1⟩
  have HK1 : Hid (Keep0 w w1) := hid (Keep0.step (by repeat (with_reducible first | exact Keep.refl _ _ | apply Keep.alloc | apply Keep.drewN | apply Keep.drew)) hk1)
  clear hk1
  go_wp2_with fail
  go_ret
  exact ⟨rfl, by repeat (with_reducible first | exact Keep.refl _ _ | exact HK1.out | apply Keep.alloc | apply Keep.drewN | apply Keep.drew)⟩

set_option maxHeartbeats 400000 in
theorem plan_Avail (t s g l r k : Int) (PA : Option Addr) (pn pc : Nat) (LA : Option Addr) (ln lc : Nat) (v : Int) (w : World) (hs0 : 1 ≤ s) (hs1 : s ≤ 8) (h0 : 0 ≤ v) (h1 : v ≤ 1000) :
    Calls Try.prog 55 #[.agg #[i64 t, i64 s, i64 g, i64 l, i64 r, i64 k, .slice PA pn pc, .slice LA ln lc], i64 v] w (Ret (i64 (v * (6 + 2 * s) + 1)) w) := by
  have hm := mul_bd 1000 22 h0 h1 (show 0 ≤ 6 + 2 * s by omega) (by omega)
  go_enter Try.func55, Try.ntmps55
  go_wp2_with fail
  refine (plan_Limit t s g l r k PA pn pc LA ln lc v _ hs0 hs1 h0 h1).mono ?_
  rintro e w1 ⟨rfl, hk1⟩
  have HK1 : Hid (Keep0 w w1) := hid (Keep0.step (by repeat (with_reducible first | exact Keep.refl _ _ | apply Keep.alloc | apply Keep.drewN | apply Keep.drew)) hk1)
  clear hk1
  go_wp2_with fail
  go_ret
  exact ⟨rfl, by repeat (with_reducible first | exact Keep.refl _ _ | exact HK1.out | apply Keep.alloc | apply Keep.drewN | apply Keep.drew)⟩

set_option maxHeartbeats 400000 in
theorem plan_Lease (t s g l r k : Int) (PA : Option Addr) (pn pc : Nat) (LA : Option Addr) (ln lc : Nat) (v u : Int) (w : World) (hs0 : 1 ≤ s) (hs1 : s ≤ 8) (h0 : 0 ≤ v) (h1 : v ≤ 1000) (hu0 : 0 ≤ u) (hu1 : u ≤ 1000) :
    Calls Try.prog 72 #[.agg #[i64 t, i64 s, i64 g, i64 l, i64 r, i64 k, .slice PA pn pc, .slice LA ln lc], i64 v, i64 u] w (Ret (i64 (v * (6 + 2 * s) + 2 + u)) w) := by
  have hm := mul_bd 1000 22 h0 h1 (show 0 ≤ 6 + 2 * s by omega) (by omega)
  go_enter Try.func72, Try.ntmps72
  go_wp2_with fail
  refine (plan_Limit t s g l r k PA pn pc LA ln lc v _ hs0 hs1 h0 h1).mono ?_
  rintro e w1 ⟨rfl, hk1⟩
  have HK1 : Hid (Keep0 w w1) := hid (Keep0.step (by repeat (with_reducible first | exact Keep.refl _ _ | apply Keep.alloc | apply Keep.drewN | apply Keep.drew)) hk1)
  clear hk1
  go_wp2_with fail
  go_ret
  exact ⟨rfl, by repeat (with_reducible first | exact Keep.refl _ _ | exact HK1.out | apply Keep.alloc | apply Keep.drewN | apply Keep.drew)⟩

set_option maxHeartbeats 400000 in
theorem plan_Counter (t s g l r k : Int) (PA : Option Addr) (pn pc : Nat) (LA : Option Addr) (ln lc : Nat) (v : Int) (w : World) (hs0 : 1 ≤ s) (hs1 : s ≤ 8) (h0 : 0 ≤ v) (h1 : v ≤ 1000) :
    Calls Try.prog 56 #[.agg #[i64 t, i64 s, i64 g, i64 l, i64 r, i64 k, .slice PA pn pc, .slice LA ln lc], i64 v] w (Ret (i64 (v * (6 + 2 * s) + 2 + s)) w) := by
  go_enter Try.func56, Try.ntmps56
  go_wp2_with fail
  refine (plan_Lease t s g l r k PA pn pc LA ln lc v s _ hs0 hs1 h0 h1 (by omega) (by omega)).mono ?_
  rintro e w1 ⟨rfl, hk1⟩
  have HK1 : Hid (Keep0 w w1) := hid (Keep0.step (by repeat (with_reducible first | exact Keep.refl _ _ | apply Keep.alloc | apply Keep.drewN | apply Keep.drew)) hk1)
  clear hk1
  go_wp2_with fail
  go_ret
  exact ⟨rfl, by repeat (with_reducible first | exact Keep.refl _ _ | exact HK1.out | apply Keep.alloc | apply Keep.drewN | apply Keep.drew)⟩

set_option maxHeartbeats 400000 in
theorem plan_Ticket (t s g l r k : Int) (PA : Option Addr) (pn pc : Nat) (LA : Option Addr) (ln lc : Nat) (v : Int) (w : World) (hs0 : 1 ≤ s) (hs1 : s ≤ 8) (h0 : 0 ≤ v) (h1 : v ≤ 1000) (hp : pn ≤ 1000) :
    Calls Try.prog 20 #[.agg #[i64 t, i64 s, i64 g, i64 l, i64 r, i64 k, .slice PA pn pc, .slice LA ln lc], i64 v] w (Ret (i64 (pn * (6 + 2 * s) + 2 * v)) w) := by
  have hm := mul_bd 1000 22 (show (0 : Int) ≤ pn by omega) (by omega) (show 0 ≤ 6 + 2 * s by omega) (by omega)
  go_enter Try.func20, Try.ntmps20
  go_wp2_with fail
  refine (plan_node t s g l r k PA pn pc LA ln lc pn _ hs0 hs1 (by omega) (by omega)).mono ?_
  rintro e w1 ⟨rfl, hk1⟩
  have HK1 : Hid (Keep0 w w1) := hid (Keep0.step (by repeat (with_reducible first | exact Keep.refl _ _ | apply Keep.alloc | apply Keep.drewN | apply Keep.drew)) hk1)
  clear hk1
  go_wp2_with fail
  go_ret
  exact ⟨rfl, by repeat (with_reducible first | exact Keep.refl _ _ | exact HK1.out | apply Keep.alloc | apply Keep.drewN | apply Keep.drew)⟩

set_option maxHeartbeats 400000 in
theorem plan_Size (t s g l r k : Int) (PA : Option Addr) (pn pc : Nat) (LA : Option Addr) (ln lc : Nat) (w : World) (hs0 : 1 ≤ s) (hs1 : s ≤ 8) (hk0 : 0 ≤ k) (hk1 : k ≤ 1000) (hp : pn ≤ 1000) :
    Calls Try.prog 52 #[.agg #[i64 t, i64 s, i64 g, i64 l, i64 r, i64 k, .slice PA pn pc, .slice LA ln lc]] w (Ret (i64 (pn * (6 + 2 * s) + 2 * k)) w) := by
  go_enter Try.func52, Try.ntmps52
  go_wp2_with fail
  refine (plan_Ticket t s g l r k PA pn pc LA ln lc k _ hs0 hs1 hk0 hk1 hp).mono ?_
  rintro e w1 ⟨rfl, hk1⟩
  have HK1 : Hid (Keep0 w w1) := hid (Keep0.step (by repeat (with_reducible first | exact Keep.refl _ _ | apply Keep.alloc | apply Keep.drewN | apply Keep.drew)) hk1)
  clear hk1
  go_wp2_with fail
  go_ret
  exact ⟨rfl, by repeat (with_reducible first | exact Keep.refl _ _ | exact HK1.out | apply Keep.alloc | apply Keep.drewN | apply Keep.drew)⟩

end Go.Proofs.Ytjloccnbcgkmgaa
