/- package add: close, flush, empty, keep. -/
import Derived.Test.YtlkniogapdhcpaaAdd
namespace Go.Proofs.Ytlkniogapdhcpaa
open Go.RowKit
set_option linter.unusedVariables false
set_option linter.unusedSimpArgs false
set_option maxRecDepth 100000
section
variable {B : Nat} {w : World} {m a x : Nat} {lv : Value} {W : List Int} {L : List Acc} {b st g d x0 lv6 sp ww vv : Int} {nx : Value}
set_option maxHeartbeats 1000000 in
theorem add_close (i1 : Nat) (hm : MemAt B w m a lv W L) (hx : Blk w x 95 [i64 b, i64 st, i64 g, i64 d, i64 x0, i64 lv6, i64 sp, i64 ww, i64 vv, nx]) (h1 : (i1 : Int) = b + 2) (hi : i1 < W.length) (hL : L.length ≤ 1000000000) (hW : W.length ≤ 10000) :
    Calls Try.prog 75 #[ptr x, ptr m] w (AddP B w m a lv x [i64 b, i64 st, i64 g, i64 d, i64 x0, i64 lv6, i64 sp, i64 ww, i64 vv, nx] (W.set i1 (wrap64 (rd W i1 + 1))) (L ++ [⟨2, i1, 1, wrap64 (rd W i1 + 1), false⟩]) .nilFunc) := by
  have HX := hid hx
  have HM := hid hm
  have HW := hid (add_word 2 hx (by omega))
  rw [← h1] at HW
  have HA := hid (mem_Add1 i1 1 hm hi hL)
  have hxm := am_far hm hx
  clear hx hm h1
  go_enter Try.func75, Try.ntmps75
  go_wp2_with fail
  refine HW.out.mono ?_
  rintro e w1 ⟨rfl, rfl⟩
  go_wp2_with fail
  refine HA.out.mono ?_
  rintro e w2 ⟨rfl, lv1, hm1, hk1, ho1⟩
  have HM1 := hid hm1
  have HK1 := hid hk1
  have HO1 := hid ho1
  have HX1 := hid (hk1.blk HX.out hxm)
  clear hm1 hk1 ho1
  go_wp2_with fail
  go_ret
  exact addP_of HM1.out HK1.out HO1.out HX1.out (Keep.refl _ _) HX1.out
set_option maxHeartbeats 2000000 in
theorem add_flush (i0 : Nat) (hm : MemAt B w m a lv W L) (hx : Blk w x 95 [i64 b, i64 st, i64 g, i64 d, i64 x0, i64 lv6, i64 sp, i64 ww, i64 vv, nx]) (h1 : (i0 : Int) = b + 0) (hi : i0 < W.length) (hL : L.length ≤ 1000000000) (hW : W.length ≤ 10000) :
    Calls Try.prog 70 #[ptr x, ptr m] w (AddP B w m a lv x [i64 b, i64 st, i64 g, i64 d, i64 x0, i64 lv6, i64 sp, i64 ww, i64 vv, nx] (W.set i0 (wrap64 (rd W i0 + vv))) (L ++ [⟨2, i0, vv, wrap64 (rd W i0 + vv), false⟩]) (.func (.func 75) #[] #[])) := by
  have HX := hid hx
  have HM := hid hm
  have qx := hx.k10
  have hw0 : -9223372036854775808 ≤ b + 0 ∧ b + 0 ≤ 9223372036854775807 := by omega
  have H1 := hid h1
  clear hx hm h1
  go_enter Try.func70, Try.ntmps70
  go_wp2_with fail
  apply wp_region_text (WI := fun S wx => Blk wx x 95 [i64 b, i64 st, i64 g, i64 d, i64 x0, i64 lv6, i64 sp, i64 ww, i64 vv, nx] ∧ (S 7 = false → MemAt B wx m a lv W L ∧ Keep0 w wx) ∧ (S 7 = true → MemPost B w m a lv (W.set i0 (wrap64 (rd W i0 + vv))) (L ++ [⟨2, i0, vv, wrap64 (rd W i0 + vv), false⟩]) wx)) (by kernel_rfl) (by kernel_rfl)
  case hob =>
    apply Oblig.cons
    case h =>
      intro S w1 hwi hSi hd hcl
      apply StepOk.intro
      intro K hK
      have qx3 := hwi.1.k10
      go_simp
      apply hK
      · rfl
      · conv => (lhs; whnf)
      · exact hwi
    simp only [put_lit, put_none]
    try dsimp only [List.set_cons_succ, List.set_cons_zero]
    apply Oblig.cons
    case h =>
      intro S w1 hwi hSi hd hcl
      apply StepOk.intro
      intro K hK
      have qx3 := hwi.1.k10
      go_simp
      apply hK
      · rfl
      · conv => (lhs; whnf)
      · exact hwi
    simp only [put_lit, put_none]
    try dsimp only [List.set_cons_succ, List.set_cons_zero]
    apply Oblig.cons
    case h =>
      intro S w1 hwi hSi hd hcl
      apply StepOk.intro
      intro K hK
      have qx3 := hwi.1.k10
      go_simp
      refine (show Calls Try.prog 52 #[ptr x, i64 0] w1 (fun e w' => e = .returned (i64 (i0 : Int)) ∧ w1 = w') from by rw [H1.out]; exact add_word 0 hwi.1 hw0).mono ?_
      rintro e w2 ⟨rfl, rfl⟩
      apply hK
      · rfl
      · conv => (lhs; whnf)
      · exact hwi
    simp only [put_lit, put_none]
    try dsimp only [List.set_cons_succ, List.set_cons_zero]
    apply Oblig.cons
    case h =>
      intro S w1 hwi hSi hd hcl
      apply StepOk.intro
      intro K hK
      have qx3 := hwi.1.k10
      go_simp
      apply hK
      · rfl
      · conv => (lhs; whnf)
      · exact hwi
    simp only [put_lit, put_none]
    try dsimp only [List.set_cons_succ, List.set_cons_zero]
    apply Oblig.cons
    case h =>
      intro S w1 hwi hSi hd hcl
      apply StepOk.intro
      intro K hK
      have qx3 := hwi.1.k10
      go_simp
      apply hK
      · rfl
      · conv => (lhs; whnf)
      · exact hwi
    simp only [put_lit, put_none]
    try dsimp only [List.set_cons_succ, List.set_cons_zero]
    apply Oblig.cons
    case h =>
      intro S w1 hwi hSi hd hcl
      apply StepOk.intro
      intro K hK
      have qx3 := hwi.1.k10
      go_simp
      apply hK
      · rfl
      · conv => (lhs; whnf)
      · exact hwi
    simp only [put_lit, put_none]
    try dsimp only [List.set_cons_succ, List.set_cons_zero]
    apply Oblig.cons
    case h =>
      intro S w1 hwi hSi hd hcl
      apply StepOk.intro
      intro K hK
      have qx3 := hwi.1.k10
      go_simp
      apply hK
      · rfl
      · conv => (lhs; whnf)
      · exact hwi
    simp only [put_lit, put_none]
    try dsimp only [List.set_cons_succ, List.set_cons_zero]
    apply Oblig.cons
    case h =>
      intro S w1 hwi hSi hd hcl
      apply StepOk.intro
      intro K hK
      have qx3 := hwi.1.k10
      go_simp
      refine (mem_Add1 i0 vv (hwi.2.1 hSi).1 hi hL).mono ?_
      rintro e w2 ⟨rfl, hp⟩
      obtain ⟨lvq, hq1, hq2, hq3⟩ := id hp
      have hblk := hq2.blk hwi.1 (am_far (hwi.2.1 hSi).1 hwi.1)
      have hpp := hp.before (hwi.2.1 hSi).2
      apply hK
      · rfl
      · conv => (lhs; whnf)
      · exact ⟨hblk, fun h => by simp [upd] at h, fun _ => hpp⟩
    simp only [put_lit, put_none]
    try dsimp only [List.set_cons_succ, List.set_cons_zero]
    exact Oblig.nil
  case h0 =>
    exact ⟨HX.out.drew, fun _ => ⟨HM.out.same (Keep.refl _ _).drew, (Keep.refl _ _).drew⟩, fun h => by cases h⟩
  case hend =>
    intro S wx hwi hall
    obtain ⟨lv1, hm, hk, ho⟩ := hwi.2.2 (hall 7 (by decide))
    have HX1 := hid hwi.1
    have HM1 := hid hm
    have HK1 := hid hk
    have HO1 := hid ho
    clear hwi hall hm hk ho
    go_wp2_with fail
    go_ret
    exact addP_of HM1.out HK1.out HO1.out HX1.out (Keep.refl _ _) HX1.out
end
end Go.Proofs.Ytlkniogapdhcpaa
