/- package add: again, miss, undo, grow, keep (where it is not done). -/
import Derived.Test.YtlkniogapdhcpaaAddD
import Derived.Test.YtlkniogapdhcpaaDraw
namespace Go.Proofs.Ytlkniogapdhcpaa
open Go.RowKit
set_option linter.unusedVariables false
set_option linter.unusedSimpArgs false
set_option maxRecDepth 100000
section
variable {B : Nat} {w : World} {m a x : Nat} {lv : Value} {W : List Int} {L : List Acc} {b st g d x0 lv6 sp ww vv : Int} {nx : Value}
set_option maxHeartbeats 1000000 in
theorem add_again (hx : Blk w x 95 [i64 b, i64 st, i64 g, i64 d, i64 x0, i64 lv6, i64 sp, i64 ww, i64 vv, nx]) (h : 0 ≤ x0 ∧ x0 < 4294967296) :
    Calls Try.prog 68 #[ptr x] w (fun e w' => e = .returned (.func (.func 42) #[] #[]) ∧ Blk w' x 95 [i64 b, i64 st, i64 g, i64 d, i64 (dNext x0), i64 lv6, i64 sp, i64 ww, i64 vv, nx] ∧ Keep (fun k => k = x) w w') := by
  have HX := hid hx
  have qx := hx.k10
  clear hx
  go_enter Try.func68, Try.ntmps68
  go_wp2_with fail
  refine (draw_Next x0 _ (by omega)).mono ?_
  rintro e w1 ⟨rfl, hk⟩
  have HX1 := hid (hk.blk HX.out (fun h => h))
  have qx1 := HX1.out.k10
  have HK := hid hk
  clear hk qx
  go_wp2_with fail
  go_ret
  exact ⟨rfl, HX1.out.set 4 _, (HK.out.to).set _ _ (fun _ => rfl)⟩
/-- what miss tells: the function that is next, and the draw -/
def missF (st lv6 : Int) : Value := if lv6 < st then .func (.func 67) #[] #[] else .func (.func 42) #[] #[]
def missX (st lv6 x0 : Int) : Int := if lv6 < st then x0 else dNext x0
def MissP (w : World) (x : Nat) (b st g d x0 lv6 sp ww vv : Int) (nx : Value) (e : Ending) (w' : World) : Prop :=
  e = .returned (missF st lv6) ∧ Blk w' x 95 [i64 b, i64 st, i64 g, i64 d, i64 (missX st lv6 x0), i64 lv6, i64 sp, i64 ww, i64 vv, nx] ∧ Keep (fun k => k = x) w w'
set_option maxHeartbeats 1000000 in
theorem add_miss (hx : Blk w x 95 [i64 b, i64 st, i64 g, i64 d, i64 x0, i64 lv6, i64 sp, i64 ww, i64 vv, nx]) (h : 0 ≤ x0 ∧ x0 < 4294967296) :
    Calls Try.prog 62 #[ptr x] w (MissP w x b st g d x0 lv6 sp ww vv nx) := by
  have HX := hid hx
  have qx := hx.k10
  clear hx
  by_cases hc : lv6 < st
  · go_enter Try.func62, Try.ntmps62
    go_wp2_with fail
    go_region
    go_wp2_with fail
    go_ret
    exact ⟨by unfold missF; rw [if_pos hc]; rfl, by unfold missX; rw [if_pos hc]; exact HX.out.drew, (Keep.refl _ _).drew⟩
  · go_enter Try.func62, Try.ntmps62
    go_wp2_with fail
    go_region
    go_wp2_with fail
    refine (add_again HX.out.drew h).mono ?_
    rintro e w1 ⟨rfl, hx1, hk⟩
    have HX1 := hid hx1
    have HK := hid hk
    clear hx1 hk
    go_wp2_with fail
    go_ret
    exact ⟨by unfold missF; rw [if_neg (by omega)]; rfl, by unfold missX; rw [if_neg (by omega)]; exact HX1.out, ((Keep.refl _ _).drew).trans HK.out (fun _ _ h => h)⟩
theorem missF_ok (st lv6 : Int) : ∃ G, missF st lv6 = .func (.func G) #[] #[] := by unfold missF; split <;> exact ⟨_, rfl⟩
set_option maxHeartbeats 1000000 in
theorem add_undo (i1 : Nat) (hm : MemAt B w m a lv W L) (hx : Blk w x 95 [i64 b, i64 st, i64 g, i64 d, i64 x0, i64 lv6, i64 sp, i64 ww, i64 vv, nx]) (h1 : (i1 : Int) = b + 2) (hi : i1 < W.length) (hL : L.length ≤ 1000000000) (hW : W.length ≤ 10000) (hxb : 0 ≤ x0 ∧ x0 < 4294967296) :
    Calls Try.prog 71 #[ptr x, ptr m] w (AddP B w m a lv x [i64 b, i64 st, i64 g, i64 d, i64 (missX st lv6 x0), i64 lv6, i64 sp, i64 ww, i64 vv, nx] (W.set i1 (wrap64 (rd W i1 + 1))) (L ++ [⟨2, i1, 1, wrap64 (rd W i1 + 1), false⟩]) (missF st lv6)) := by
  have HX := hid hx
  have HM := hid hm
  have HW := hid (add_word 2 hx (by omega))
  rw [← h1] at HW
  have HA := hid (mem_Add1 i1 1 hm hi hL)
  have hxm := am_far hm hx
  clear hx hm h1
  go_enter Try.func71, Try.ntmps71
  go_wp2_with fail
  refine HW.out.mono ?_
  rintro e w1 ⟨rfl, rfl⟩
  go_wp2_with fail
  refine HA.out.mono ?_
  rintro e w2 ⟨rfl, lv1, hm1, hk1, ho1⟩
  have HM1 := hid hm1
  have HK1 := hid hk1
  have HO1 := hid ho1
  have HX1 := hid (hk1.blk HX.out hxm)
  clear hm1 hk1 ho1
  go_wp2_with fail
  refine (add_miss HX1.out hxb).mono ?_
  rintro e w3 ⟨rfl, hx3, hk3⟩
  have HX3 := hid hx3
  have HK3 := hid hk3
  clear hx3 hk3
  go_wp2_with fail
  go_ret
  exact addP_of HM1.out HK1.out HO1.out HX1.out HK3.out HX3.out
set_option maxHeartbeats 2000000 in
theorem add_grow (i1 : Nat) (hm : MemAt B w m a lv W L) (hx : Blk w x 95 [i64 b, i64 st, i64 g, i64 d, i64 x0, i64 lv6, i64 sp, i64 ww, i64 vv, nx]) (h1 : (i1 : Int) = b + 3) (hi : i1 < W.length) (hL : L.length ≤ 1000000000) (hW : W.length ≤ 10000) (hxb : 0 ≤ x0 ∧ x0 < 4294967296) (hlb : 1 ≤ lv6 ∧ lv6 ≤ 100) :
    Calls Try.prog 67 #[ptr x, ptr m] w (AddP B w m a lv x [i64 b, i64 st, i64 g, i64 d, i64 (dNext x0), i64 lv6, i64 sp, i64 ww, i64 vv, nx] (casW W i1 lv6 (2 * lv6)) (L ++ [⟨3, i1, lv6, 2 * lv6, rd W i1 == lv6⟩]) (.func (.func 42) #[] #[])) := by
  have HX := hid hx
  have HM := hid hm
  have qx := hx.k10
  have hw0 : -9223372036854775808 ≤ b + 3 ∧ b + 3 ≤ 9223372036854775807 := by omega
  have H1 := hid h1
  have y1 : IntKind.i64.wrap (2 * lv6) = 2 * lv6 := IntWalk.i64_in _ (by omega)
  clear hx hm h1
  go_enter Try.func67, Try.ntmps67
  go_wp2_with fail
  apply wp_region_text (WI := fun S wx => Blk wx x 95 [i64 b, i64 st, i64 g, i64 d, i64 x0, i64 lv6, i64 sp, i64 ww, i64 vv, nx] ∧ (S 12 = false → MemAt B wx m a lv W L ∧ Keep0 w wx) ∧ (S 12 = true → MemPost B w m a lv (casW W i1 lv6 (2 * lv6)) (L ++ [⟨3, i1, lv6, 2 * lv6, rd W i1 == lv6⟩]) wx)) (by kernel_rfl) (by kernel_rfl)
  case hob =>
    apply Oblig.cons
    case h =>
      intro S w1 hwi hSi hd hcl
      apply StepOk.intro
      intro K hK
      have qx3 := hwi.1.k10
      go_simp
      apply hK
      · rfl
      · conv => (lhs; whnf)
      · exact hwi
    simp only [put_lit, put_none]
    try dsimp only [List.set_cons_succ, List.set_cons_zero]
    apply Oblig.cons
    case h =>
      intro S w1 hwi hSi hd hcl
      apply StepOk.intro
      intro K hK
      have qx3 := hwi.1.k10
      go_simp
      apply hK
      · rfl
      · conv => (lhs; whnf)
      · exact hwi
    simp only [put_lit, put_none]
    try dsimp only [List.set_cons_succ, List.set_cons_zero]
    apply Oblig.cons
    case h =>
      intro S w1 hwi hSi hd hcl
      apply StepOk.intro
      intro K hK
      have qx3 := hwi.1.k10
      go_simp
      refine (show Calls Try.prog 52 #[ptr x, i64 3] w1 (fun e w' => e = .returned (i64 (i1 : Int)) ∧ w1 = w') from by rw [H1.out]; exact add_word 3 hwi.1 hw0).mono ?_
      rintro e w2 ⟨rfl, rfl⟩
      apply hK
      · rfl
      · conv => (lhs; whnf)
      · exact hwi
    simp only [put_lit, put_none]
    try dsimp only [List.set_cons_succ, List.set_cons_zero]
    apply Oblig.cons
    case h =>
      intro S w1 hwi hSi hd hcl
      apply StepOk.intro
      intro K hK
      have qx3 := hwi.1.k10
      go_simp
      apply hK
      · rfl
      · conv => (lhs; whnf)
      · exact hwi
    simp only [put_lit, put_none]
    try dsimp only [List.set_cons_succ, List.set_cons_zero]
    apply Oblig.cons
    case h =>
      intro S w1 hwi hSi hd hcl
      apply StepOk.intro
      intro K hK
      have qx3 := hwi.1.k10
      go_simp
      apply hK
      · rfl
      · conv => (lhs; whnf)
      · exact hwi
    simp only [put_lit, put_none]
    try dsimp only [List.set_cons_succ, List.set_cons_zero]
    apply Oblig.cons
    case h =>
      intro S w1 hwi hSi hd hcl
      apply StepOk.intro
      intro K hK
      have qx3 := hwi.1.k10
      go_simp
      apply hK
      · rfl
      · conv => (lhs; whnf)
      · exact hwi
    simp only [put_lit, put_none]
    try dsimp only [List.set_cons_succ, List.set_cons_zero]
    apply Oblig.cons
    case h =>
      intro S w1 hwi hSi hd hcl
      apply StepOk.intro
      intro K hK
      have qx3 := hwi.1.k10
      go_simp
      apply hK
      · rfl
      · conv => (lhs; whnf)
      · exact hwi
    simp only [put_lit, put_none]
    try dsimp only [List.set_cons_succ, List.set_cons_zero]
    apply Oblig.cons
    case h =>
      intro S w1 hwi hSi hd hcl
      apply StepOk.intro
      intro K hK
      have qx3 := hwi.1.k10
      go_simp
      apply hK
      · rfl
      · conv => (lhs; whnf)
      · exact hwi
    simp only [put_lit, put_none]
    try dsimp only [List.set_cons_succ, List.set_cons_zero]
    apply Oblig.cons
    case h =>
      intro S w1 hwi hSi hd hcl
      apply StepOk.intro
      intro K hK
      have qx3 := hwi.1.k10
      go_simp
      apply hK
      · rfl
      · conv => (lhs; whnf)
      · exact hwi
    simp only [put_lit, put_none]
    try dsimp only [List.set_cons_succ, List.set_cons_zero]
    apply Oblig.cons
    case h =>
      intro S w1 hwi hSi hd hcl
      apply StepOk.intro
      intro K hK
      have qx3 := hwi.1.k10
      go_simp
      apply hK
      · rfl
      · conv => (lhs; whnf)
      · exact hwi
    simp only [put_lit, put_none]
    try dsimp only [List.set_cons_succ, List.set_cons_zero]
    apply Oblig.cons
    case h =>
      intro S w1 hwi hSi hd hcl
      apply StepOk.intro
      intro K hK
      have qx3 := hwi.1.k10
      go_simp
      apply hK
      · rfl
      · conv => (lhs; whnf)
      · exact hwi
    simp only [put_lit, put_none]
    try dsimp only [List.set_cons_succ, List.set_cons_zero]
    apply Oblig.cons
    case h =>
      intro S w1 hwi hSi hd hcl
      apply StepOk.intro
      intro K hK
      have qx3 := hwi.1.k10
      go_simp
      apply hK
      · rfl
      · conv => (lhs; whnf)
      · exact hwi
    simp only [put_lit, put_none]
    try dsimp only [List.set_cons_succ, List.set_cons_zero]
    apply Oblig.cons
    case h =>
      intro S w1 hwi hSi hd hcl
      apply StepOk.intro
      intro K hK
      have qx3 := hwi.1.k10
      go_simp
      refine (show Calls Try.prog 60 #[ptr m, i64 (i1 : Int), i64 lv6, i64 (2 * lv6)] w1 (fun e w2 => e = .returned (.bool (rd W i1 == lv6)) ∧ MemPost B w1 m a lv (casW W i1 lv6 (2 * lv6)) (L ++ [⟨3, i1, lv6, 2 * lv6, rd W i1 == lv6⟩]) w2) from by have h := mem_Cas (i1 : Int) lv6 (2 * lv6) (hwi.2.1 hSi).1 (by omega) (by omega) hL; rw [Int.toNat_natCast] at h; exact h).mono ?_
      rintro e w2 ⟨rfl, hp⟩
      obtain ⟨lvq, hq1, hq2, hq3⟩ := id hp
      have hblk := hq2.blk hwi.1 (am_far (hwi.2.1 hSi).1 hwi.1)
      have hpp := hp.before (hwi.2.1 hSi).2
      apply hK
      · rfl
      · conv => (lhs; whnf)
      · exact ⟨hblk, fun h => by simp [upd] at h, fun _ => hpp⟩
    simp only [put_lit, put_none]
    try dsimp only [List.set_cons_succ, List.set_cons_zero]
    exact Oblig.nil
  case h0 =>
    exact ⟨HX.out.drew, fun _ => ⟨HM.out.same (Keep.refl _ _).drew, (Keep.refl _ _).drew⟩, fun h => by cases h⟩
  case hend =>
    intro S wx hwi hall
    obtain ⟨lv1, hm, hk, ho⟩ := hwi.2.2 (hall 12 (by decide))
    have HX1 := hid hwi.1
    have HM1 := hid hm
    have HK1 := hid hk
    have HO1 := hid ho
    clear hwi hall hm hk ho
    go_wp2_with fail
    refine (add_again HX1.out hxb).mono ?_
    rintro e w3 ⟨rfl, hx3, hk3⟩
    have HX3 := hid hx3
    have HK3 := hid hk3
    clear hx3 hk3
    go_wp2_with fail
    go_ret
    exact addP_of HM1.out HK1.out HO1.out HX1.out HK3.out HX3.out
set_option maxHeartbeats 2000000 in
theorem add_keep_no (sp0 : Nat) (hm : MemAt B w m a lv W L) (hx : Blk w x 95 [i64 b, i64 st, i64 g, i64 d, i64 x0, i64 lv6, i64 (sp0 : Int), i64 ww, i64 vv, nx]) (hi : sp0 < W.length) (hL : L.length ≤ 1000000000) (hv : -2147483648 ≤ vv ∧ vv ≤ 2147483647) (hcb : (rd W sp0 == ww) = false) (hxb : 0 ≤ x0 ∧ x0 < 4294967296) :
    Calls Try.prog 58 #[ptr x, ptr m] w (AddP B w m a lv x [i64 b, i64 st, i64 g, i64 d, i64 (missX st lv6 x0), i64 lv6, i64 (sp0 : Int), i64 ww, i64 vv, nx] (casW W sp0 ww (pNext6 ww vv)) (L ++ [⟨3, sp0, ww, pNext6 ww vv, false⟩]) (missF st lv6)) := by
  have HX := hid hx
  have HM := hid hm
  have qx := hx.k10
  clear hx hm
  go_enter Try.func58, Try.ntmps58
  go_wp2_with fail
  apply wp_region_text (WI := fun S wx => Blk wx x 95 [i64 b, i64 st, i64 g, i64 d, i64 x0, i64 lv6, i64 (sp0 : Int), i64 ww, i64 vv, nx] ∧ (S 15 = false → MemAt B wx m a lv W L ∧ Keep0 w wx) ∧ (S 15 = true → MemPost B w m a lv (casW W sp0 ww (pNext6 ww vv)) (L ++ [⟨3, sp0, ww, pNext6 ww vv, false⟩]) wx)) (by kernel_rfl) (by kernel_rfl)
  case hob =>
    apply Oblig.cons
    case h =>
      intro S w1 hwi hSi hd hcl
      apply StepOk.intro
      intro K hK
      have qx3 := hwi.1.k10
      go_simp
      apply hK
      · rfl
      · conv => (lhs; whnf)
      · exact hwi
    simp only [put_lit, put_none]
    try dsimp only [List.set_cons_succ, List.set_cons_zero]
    apply Oblig.cons
    case h =>
      intro S w1 hwi hSi hd hcl
      apply StepOk.intro
      intro K hK
      have qx3 := hwi.1.k10
      go_simp
      apply hK
      · rfl
      · conv => (lhs; whnf)
      · exact hwi
    simp only [put_lit, put_none]
    try dsimp only [List.set_cons_succ, List.set_cons_zero]
    apply Oblig.cons
    case h =>
      intro S w1 hwi hSi hd hcl
      apply StepOk.intro
      intro K hK
      have qx3 := hwi.1.k10
      go_simp
      apply hK
      · rfl
      · conv => (lhs; whnf)
      · exact hwi
    simp only [put_lit, put_none]
    try dsimp only [List.set_cons_succ, List.set_cons_zero]
    apply Oblig.cons
    case h =>
      intro S w1 hwi hSi hd hcl
      apply StepOk.intro
      intro K hK
      have qx3 := hwi.1.k10
      go_simp
      apply hK
      · rfl
      · conv => (lhs; whnf)
      · exact hwi
    simp only [put_lit, put_none]
    try dsimp only [List.set_cons_succ, List.set_cons_zero]
    apply Oblig.cons
    case h =>
      intro S w1 hwi hSi hd hcl
      apply StepOk.intro
      intro K hK
      have qx3 := hwi.1.k10
      go_simp
      apply hK
      · rfl
      · conv => (lhs; whnf)
      · exact hwi
    simp only [put_lit, put_none]
    try dsimp only [List.set_cons_succ, List.set_cons_zero]
    apply Oblig.cons
    case h =>
      intro S w1 hwi hSi hd hcl
      apply StepOk.intro
      intro K hK
      have qx3 := hwi.1.k10
      go_simp
      apply hK
      · rfl
      · conv => (lhs; whnf)
      · exact hwi
    simp only [put_lit, put_none]
    try dsimp only [List.set_cons_succ, List.set_cons_zero]
    apply Oblig.cons
    case h =>
      intro S w1 hwi hSi hd hcl
      apply StepOk.intro
      intro K hK
      have qx3 := hwi.1.k10
      go_simp
      apply hK
      · rfl
      · conv => (lhs; whnf)
      · exact hwi
    simp only [put_lit, put_none]
    try dsimp only [List.set_cons_succ, List.set_cons_zero]
    apply Oblig.cons
    case h =>
      intro S w1 hwi hSi hd hcl
      apply StepOk.intro
      intro K hK
      have qx3 := hwi.1.k10
      go_simp
      apply hK
      · rfl
      · conv => (lhs; whnf)
      · exact hwi
    simp only [put_lit, put_none]
    try dsimp only [List.set_cons_succ, List.set_cons_zero]
    apply Oblig.cons
    case h =>
      intro S w1 hwi hSi hd hcl
      apply StepOk.intro
      intro K hK
      have qx3 := hwi.1.k10
      go_simp
      apply hK
      · rfl
      · conv => (lhs; whnf)
      · exact hwi
    simp only [put_lit, put_none]
    try dsimp only [List.set_cons_succ, List.set_cons_zero]
    apply Oblig.cons
    case h =>
      intro S w1 hwi hSi hd hcl
      apply StepOk.intro
      intro K hK
      have qx3 := hwi.1.k10
      go_simp
      apply hK
      · rfl
      · conv => (lhs; whnf)
      · exact hwi
    simp only [put_lit, put_none]
    try dsimp only [List.set_cons_succ, List.set_cons_zero]
    apply Oblig.cons
    case h =>
      intro S w1 hwi hSi hd hcl
      apply StepOk.intro
      intro K hK
      have qx3 := hwi.1.k10
      go_simp
      apply hK
      · rfl
      · conv => (lhs; whnf)
      · exact hwi
    simp only [put_lit, put_none]
    try dsimp only [List.set_cons_succ, List.set_cons_zero]
    apply Oblig.cons
    case h =>
      intro S w1 hwi hSi hd hcl
      apply StepOk.intro
      intro K hK
      have qx3 := hwi.1.k10
      go_simp
      apply hK
      · rfl
      · conv => (lhs; whnf)
      · exact hwi
    simp only [put_lit, put_none]
    try dsimp only [List.set_cons_succ, List.set_cons_zero]
    apply Oblig.cons
    case h =>
      intro S w1 hwi hSi hd hcl
      apply StepOk.intro
      intro K hK
      have qx3 := hwi.1.k10
      go_simp
      apply hK
      · rfl
      · conv => (lhs; whnf)
      · exact hwi
    simp only [put_lit, put_none]
    try dsimp only [List.set_cons_succ, List.set_cons_zero]
    apply Oblig.cons
    case h =>
      intro S w1 hwi hSi hd hcl
      apply StepOk.intro
      intro K hK
      have qx3 := hwi.1.k10
      go_simp
      apply hK
      · rfl
      · conv => (lhs; whnf)
      · exact hwi
    simp only [put_lit, put_none]
    try dsimp only [List.set_cons_succ, List.set_cons_zero]
    apply Oblig.cons
    case h =>
      intro S w1 hwi hSi hd hcl
      apply StepOk.intro
      intro K hK
      have qx3 := hwi.1.k10
      go_simp
      refine (add_with vv hwi.1 (by omega)).mono ?_
      rintro e w2 ⟨rfl, rfl⟩
      apply hK
      · rfl
      · conv => (lhs; whnf)
      · exact hwi
    simp only [put_lit, put_none]
    try dsimp only [List.set_cons_succ, List.set_cons_zero]
    apply Oblig.cons
    case h =>
      intro S w1 hwi hSi hd hcl
      apply StepOk.intro
      intro K hK
      have qx3 := hwi.1.k10
      go_simp
      refine (show Calls Try.prog 60 #[ptr m, i64 (sp0 : Int), i64 ww, i64 (pNext6 ww vv)] w1 (fun e w2 => e = .returned (.bool false) ∧ MemPost B w1 m a lv (casW W sp0 ww (pNext6 ww vv)) (L ++ [⟨3, sp0, ww, pNext6 ww vv, false⟩]) w2) from by have h := mem_Cas (sp0 : Int) ww (pNext6 ww vv) (hwi.2.1 hSi).1 (by omega) (by omega) hL; rw [Int.toNat_natCast, hcb] at h; exact h).mono ?_
      rintro e w2 ⟨rfl, hp⟩
      obtain ⟨lvq, hq1, hq2, hq3⟩ := id hp
      have hblk := hq2.blk hwi.1 (am_far (hwi.2.1 hSi).1 hwi.1)
      have hpp := hp.before (hwi.2.1 hSi).2
      apply hK
      · rfl
      · conv => (lhs; whnf)
      · exact ⟨hblk, fun h => by simp [upd] at h, fun _ => hpp⟩
    simp only [put_lit, put_none]
    try dsimp only [List.set_cons_succ, List.set_cons_zero]
    exact Oblig.nil
  case h0 =>
    exact ⟨HX.out.drew, fun _ => ⟨HM.out.same (Keep.refl _ _).drew, (Keep.refl _ _).drew⟩, fun h => by cases h⟩
  case hend =>
    intro S wx hwi hall
    obtain ⟨lv1, hm, hk, ho⟩ := hwi.2.2 (hall 15 (by decide))
    have HX1 := hid hwi.1
    have HM1 := hid hm
    have HK1 := hid hk
    have HO1 := hid ho
    clear hwi hall hm hk ho
    go_wp2_with fail
    refine (add_miss HX1.out hxb).mono ?_
    rintro e w3 ⟨rfl, hx3, hk3⟩
    have HX3 := hid hx3
    have HK3 := hid hk3
    clear hx3 hk3
    go_wp2_with fail
    go_ret
    exact addP_of HM1.out HK1.out HO1.out HX1.out HK3.out HX3.out
end
end Go.Proofs.Ytlkniogapdhcpaa
