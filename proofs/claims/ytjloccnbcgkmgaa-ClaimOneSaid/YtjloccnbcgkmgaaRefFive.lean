/- Which word is whose, told a second time: package breadlineref05. -/
import Derived.Test.YtjloccnbcgkmgaaPlan
import Derived.Deep.RegionLaw
namespace Go.Proofs.Ytjloccnbcgkmgaa
open Go.RowKit
set_option linter.unusedVariables false
set_option linter.unusedSimpArgs false

set_option maxHeartbeats 400000 in
theorem ref_Limit (t s g l r k : Int) (PA : Option Addr) (pn pc : Nat) (LA : Option Addr) (ln lc : Nat) (v : Int) (w : World) (hs0 : 1 ≤ s) (hs1 : s ≤ 8) (h0 : 0 ≤ v) (h1 : v ≤ 1000) :
    Calls Try.prog 44 #[.agg #[i64 t, i64 s, i64 g, i64 l, i64 r, i64 k, .slice PA pn pc, .slice LA ln lc], i64 v] w (Ret (i64 (v * (6 + 2 * s))) w) := by
  have hm := mul_bd 1000 22 h0 h1 (show 0 ≤ 6 + 2 * s by omega) (by omega)
  go_enter Try.func44, Try.ntmps44
  go_wp2_with fail
  go_ret
  exact ⟨rfl, by repeat (with_reducible first | exact Keep.refl _ _ | apply Keep.alloc | apply Keep.drewN | apply Keep.drew)⟩

set_option maxHeartbeats 400000 in
theorem ref_Avail (t s g l r k : Int) (PA : Option Addr) (pn pc : Nat) (LA : Option Addr) (ln lc : Nat) (v : Int) (w : World) (hs0 : 1 ≤ s) (hs1 : s ≤ 8) (h0 : 0 ≤ v) (h1 : v ≤ 1000) :
    Calls Try.prog 60 #[.agg #[i64 t, i64 s, i64 g, i64 l, i64 r, i64 k, .slice PA pn pc, .slice LA ln lc], i64 v] w (Ret (i64 (v * (6 + 2 * s) + 1)) w) := by
  have hm := mul_bd 1000 22 h0 h1 (show 0 ≤ 6 + 2 * s by omega) (by omega)
  go_enter Try.func60, Try.ntmps60
  go_wp2_with fail
  refine (ref_Limit t s g l r k PA pn pc LA ln lc v _ hs0 hs1 h0 h1).mono ?_
  rintro e w1 ⟨rfl, hk1⟩
  have HK1 : Hid (Keep0 w w1) := hid (Keep0.step (by repeat (with_reducible first | exact Keep.refl _ _ | apply Keep.alloc | apply Keep.drewN | apply Keep.drew)) hk1)
  clear hk1
  go_wp2_with fail
  go_ret
  exact ⟨rfl, by repeat (with_reducible first | exact Keep.refl _ _ | exact HK1.out | apply Keep.alloc | apply Keep.drewN | apply Keep.drew)⟩

set_option maxHeartbeats 1000000 in
theorem ref_Counter (t s g l r k : Int) (PA : Option Addr) (pn pc : Nat) (LA : Option Addr) (ln lc : Nat) (v : Int) (w : World) (hs0 : 1 ≤ s) (hs1 : s ≤ 8) (h0 : 0 ≤ v) (h1 : v ≤ 1000) :
    Calls Try.prog 61 #[.agg #[i64 t, i64 s, i64 g, i64 l, i64 r, i64 k, .slice PA pn pc, .slice LA ln lc], i64 v] w (Ret (i64 (v * (6 + 2 * s) + 2 + s)) w) := by
  have hm := mul_bd 1000 22 h0 h1 (show 0 ≤ 6 + 2 * s by omega) (by omega)
  have y1 : IntKind.i64.wrap (v * (6 + 2 * s) + 2) = v * (6 + 2 * s) + 2 := IntWalk.i64_in _ (by omega)
  have y2 : IntKind.i64.wrap (v * (6 + 2 * s) + 2 + s) = v * (6 + 2 * s) + 2 + s := IntWalk.i64_in _ (by omega)
  have HB : Hid (Blk (w.alloc (.cells #[i64 t, i64 s, i64 g, i64 l, i64 r, i64 k, .slice PA pn pc, .slice LA ln lc] 24)) w.heap.size 24 [i64 t, i64 s, i64 g, i64 l, i64 r, i64 k, .slice PA pn pc, .slice LA ln lc]) := hid (Blk.made rfl rfl)
  have HK : Hid (Keep0 w (w.alloc (.cells #[i64 t, i64 s, i64 g, i64 l, i64 r, i64 k, .slice PA pn pc, .slice LA ln lc] 24))) := hid ((Keep.refl _ _).alloc _)
  go_enter Try.func61, Try.ntmps61
  go_wp2_with fail
  go_region_law (go_simp; go_at_call 44; refine (ref_Limit t s g l r k PA pn pc LA ln lc v _ hs0 hs1 h0 h1).mono ?_; rintro e w1 ⟨rfl, hk⟩; have T := hk.blk (show Blk _ _ _ _ from by repeat (first | exact HB.out | apply Blk.drew)) (fun h => h); have q := T.k8; have HK1 := hid (Keep0.step (by repeat (first | exact HK.out | apply Keep.drew)) hk); clear T hk)
  all_goals
    go_wp2_with fail
    go_ret
    exact ⟨rfl, HK1.out⟩

set_option maxHeartbeats 1000000 in
theorem ref_Ticket (t s g l r k : Int) (PA : Option Addr) (pn pc : Nat) (LA : Option Addr) (ln lc : Nat) (v : Int) (w : World) (hs0 : 1 ≤ s) (hs1 : s ≤ 8) (h0 : 0 ≤ v) (h1 : v ≤ 1000) (hp : pn ≤ 1000) :
    Calls Try.prog 16 #[.agg #[i64 t, i64 s, i64 g, i64 l, i64 r, i64 k, .slice PA pn pc, .slice LA ln lc], i64 v] w (Ret (i64 (pn * (6 + 2 * s) + 2 * v)) w) := by
  have hm := mul_bd 1000 22 (show (0 : Int) ≤ pn by omega) (by omega) (show 0 ≤ 6 + 2 * s by omega) (by omega)
  have y1 : IntKind.i64.wrap (2 * v) = 2 * v := IntWalk.i64_in _ (by omega)
  have y2 : IntKind.i64.wrap (pn * (6 + 2 * s) + 2 * v) = pn * (6 + 2 * s) + 2 * v := IntWalk.i64_in _ (by omega)
  go_enter Try.func16, Try.ntmps16
  go_wp2_with fail
  refine (ref_Limit t s g l r k PA pn pc LA ln lc pn _ hs0 hs1 (by omega) (by omega)).mono ?_
  rintro e w1 ⟨rfl, hk⟩
  have HK1 : Hid (Keep0 w w1) := hid (Keep0.step (by repeat (with_reducible first | exact Keep.refl _ _ | apply Keep.alloc | apply Keep.drewN | apply Keep.drew)) hk)
  clear hk
  go_wp2_with fail
  go_ret
  exact ⟨rfl, HK1.out⟩

set_option maxHeartbeats 400000 in
theorem ref_Size (t s g l r k : Int) (PA : Option Addr) (pn pc : Nat) (LA : Option Addr) (ln lc : Nat) (w : World) (hs0 : 1 ≤ s) (hs1 : s ≤ 8) (hk0 : 0 ≤ k) (hk1 : k ≤ 1000) (hp : pn ≤ 1000) :
    Calls Try.prog 59 #[.agg #[i64 t, i64 s, i64 g, i64 l, i64 r, i64 k, .slice PA pn pc, .slice LA ln lc]] w (Ret (i64 (pn * (6 + 2 * s) + 2 * k)) w) := by
  go_enter Try.func59, Try.ntmps59
  go_wp2_with fail
  refine (ref_Ticket t s g l r k PA pn pc LA ln lc k _ hs0 hs1 hk0 hk1 hp).mono ?_
  rintro e w1 ⟨rfl, hk1⟩
  have HK1 : Hid (Keep0 w w1) := hid (Keep0.step (by repeat (with_reducible first | exact Keep.refl _ _ | apply Keep.alloc | apply Keep.drewN | apply Keep.drew)) hk1)
  clear hk1
  go_wp2_with fail
  go_ret
  exact ⟨rfl, by repeat (with_reducible first | exact Keep.refl _ _ | exact HK1.out | apply Keep.alloc | apply Keep.drewN | apply Keep.drew)⟩
end Go.Proofs.Ytjloccnbcgkmgaa
