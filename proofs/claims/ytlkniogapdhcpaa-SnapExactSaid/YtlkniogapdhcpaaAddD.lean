/- package add: look, begin. -/
import Derived.Test.YtlkniogapdhcpaaAddC
namespace Go.Proofs.Ytlkniogapdhcpaa
open Go.RowKit
set_option linter.unusedVariables false
set_option linter.unusedSimpArgs false
set_option maxRecDepth 100000
section
variable {B : Nat} {w : World} {m a x : Nat} {lv : Value} {W : List Int} {L : List Acc} {b st g d x0 lv6 sp ww vv : Int} {nx : Value}
set_option maxHeartbeats 2000000 in
theorem add_look (sp0 : Nat) (hm : MemAt B w m a lv W L) (hx : Blk w x 95 [i64 b, i64 st, i64 g, i64 d, i64 x0, i64 lv6, i64 (sp0 : Int), i64 ww, i64 vv, nx]) (hi : sp0 < W.length) (hL : L.length ≤ 1000000000) (hd : -4398046511104 ≤ d ∧ d ≤ 4398046511104) (wo vn : Int) (ho : wo = rd W sp0) (hvn : vn = pVal wo + d) (rv : Value) (hrv : rv = if max vn (-vn) < g then .func (.func 58) #[] #[] else .func (.func 59) #[] #[]) :
    Calls Try.prog 54 #[ptr x, ptr m] w (AddP B w m a lv x [i64 b, i64 st, i64 g, i64 d, i64 x0, i64 lv6, i64 (sp0 : Int), i64 wo, i64 vn, nx] W (L ++ [⟨1, sp0, wo, 0, false⟩]) rv) := by
  have HX := hid hx
  have HM := hid hm
  have qx := hx.k10
  have hpb := pVal_bd wo
  have hvb : -4398046511104 - 2147483648 ≤ vn ∧ vn ≤ 4398046511104 + 2147483648 := by omega
  have y1 : IntKind.i64.wrap (pVal wo + d) = vn := by rw [hvn]; exact IntWalk.i64_in _ (by omega)
  have y2 : IntKind.i64.wrap (-vn) = -vn := IntWalk.i64_in _ (by omega)
  have HA := hid (mem_Load (sp0 : Int) hm (by omega) (by omega) hL)
  rw [Int.toNat_natCast, ← ho] at HA
  have hxm := am_far hm hx
  have HV := hid hvn
  have HR := hid hrv
  clear hx hm ho hvn hrv
  go_enter Try.func54, Try.ntmps54
  go_wp2_with fail
  refine HA.out.mono ?_
  rintro e w1 ⟨rfl, lv1, hm1, hk1, ho1⟩
  have HM1 := hid hm1
  have HK1 := hid hk1
  have HO1 := hid ho1
  have HX1 := hid (hk1.blk HX.out hxm)
  have qx1 := HX1.out.k10
  clear hm1 hk1 ho1 qx
  go_wp2_with fail
  have HX2 := hid (HX1.out.set 7 (i64 wo))
  have HW : Hid (Keep (fun k => k = x) w1 (w1.setCell ⟨x, 7, none⟩ (i64 wo))) := hid ((Keep.refl _ _).set _ _ (fun _ => rfl))
  generalize w1.setCell ⟨x, 7, none⟩ (i64 wo) = wr at *
  apply wp_region_text (WI := fun S wx => (S 13 = false → Blk wx x 95 [i64 b, i64 st, i64 g, i64 d, i64 x0, i64 lv6, i64 (sp0 : Int), i64 wo, i64 vv, nx]) ∧ (S 13 = true → Blk wx x 95 [i64 b, i64 st, i64 g, i64 d, i64 x0, i64 lv6, i64 (sp0 : Int), i64 wo, i64 vn, nx]) ∧ Keep (fun k => k = x) wr wx) (by kernel_rfl) (by kernel_rfl)
  case hob =>
    apply Oblig.cons
    case h =>
      intro S w1 hwi hSi hd hcl
      apply StepOk.intro
      intro K hK
      have hSn : S 13 = false := by
        cases h20 : S 13 with
        | false => rfl
        | true => exact absurd (hcl 13 _ rfl h20 ⟨0, .phase⟩ (by simp) rfl) (by rw [hSi]; decide)
      have qx3 := (hwi.1 hSn).k10
      go_simp
      apply hK
      · rfl
      · conv => (lhs; whnf)
      · exact hwi
    simp only [put_lit, put_none]
    try dsimp only [List.set_cons_succ, List.set_cons_zero]
    apply Oblig.cons
    case h =>
      intro S w1 hwi hSi hd hcl
      apply StepOk.intro
      intro K hK
      have hSn : S 13 = false := by
        cases h20 : S 13 with
        | false => rfl
        | true => exact absurd (hcl 13 _ rfl h20 ⟨1, .phase⟩ (by simp) rfl) (by rw [hSi]; decide)
      have qx3 := (hwi.1 hSn).k10
      go_simp
      apply hK
      · rfl
      · conv => (lhs; whnf)
      · exact hwi
    simp only [put_lit, put_none]
    try dsimp only [List.set_cons_succ, List.set_cons_zero]
    apply Oblig.cons
    case h =>
      intro S w1 hwi hSi hd hcl
      apply StepOk.intro
      intro K hK
      have hSn : S 13 = false := by
        cases h20 : S 13 with
        | false => rfl
        | true => exact absurd (hcl 13 _ rfl h20 ⟨2, .phase⟩ (by simp) rfl) (by rw [hSi]; decide)
      have qx3 := (hwi.1 hSn).k10
      go_simp
      apply hK
      · rfl
      · conv => (lhs; whnf)
      · exact hwi
    simp only [put_lit, put_none]
    try dsimp only [List.set_cons_succ, List.set_cons_zero]
    apply Oblig.cons
    case h =>
      intro S w1 hwi hSi hd hcl
      apply StepOk.intro
      intro K hK
      have hSn : S 13 = false := by
        cases h20 : S 13 with
        | false => rfl
        | true => exact absurd (hcl 13 _ rfl h20 ⟨3, .phase⟩ (by simp) rfl) (by rw [hSi]; decide)
      have qx3 := (hwi.1 hSn).k10
      go_simp
      apply hK
      · rfl
      · conv => (lhs; whnf)
      · exact hwi
    simp only [put_lit, put_none]
    try dsimp only [List.set_cons_succ, List.set_cons_zero]
    apply Oblig.cons
    case h =>
      intro S w1 hwi hSi hd hcl
      apply StepOk.intro
      intro K hK
      have hSn : S 13 = false := by
        cases h20 : S 13 with
        | false => rfl
        | true => exact absurd (hcl 13 _ rfl h20 ⟨4, .phase⟩ (by simp) rfl) (by rw [hSi]; decide)
      have qx3 := (hwi.1 hSn).k10
      go_simp
      apply hK
      · rfl
      · conv => (lhs; whnf)
      · exact hwi
    simp only [put_lit, put_none]
    try dsimp only [List.set_cons_succ, List.set_cons_zero]
    apply Oblig.cons
    case h =>
      intro S w1 hwi hSi hd hcl
      apply StepOk.intro
      intro K hK
      have hSn : S 13 = false := by
        cases h20 : S 13 with
        | false => rfl
        | true => exact absurd (hcl 13 _ rfl h20 ⟨5, .phase⟩ (by simp) rfl) (by rw [hSi]; decide)
      have qx3 := (hwi.1 hSn).k10
      go_simp
      refine (pack_Value wo _).mono ?_
      rintro e w2 ⟨rfl, rfl⟩
      apply hK
      · rfl
      · conv => (lhs; whnf)
      · exact hwi
    simp only [put_lit, put_none]
    try dsimp only [List.set_cons_succ, List.set_cons_zero]
    apply Oblig.cons
    case h =>
      intro S w1 hwi hSi hd hcl
      apply StepOk.intro
      intro K hK
      have hSn : S 13 = false := by
        cases h20 : S 13 with
        | false => rfl
        | true => exact absurd (hcl 13 _ rfl h20 ⟨6, .phase⟩ (by simp) rfl) (by rw [hSi]; decide)
      have qx3 := (hwi.1 hSn).k10
      go_simp
      apply hK
      · rfl
      · conv => (lhs; whnf)
      · exact hwi
    simp only [put_lit, put_none]
    try dsimp only [List.set_cons_succ, List.set_cons_zero]
    apply Oblig.cons
    case h =>
      intro S w1 hwi hSi hd hcl
      apply StepOk.intro
      intro K hK
      have hSn : S 13 = false := by
        cases h20 : S 13 with
        | false => rfl
        | true => exact absurd (hcl 13 _ rfl h20 ⟨7, .phase⟩ (by simp) rfl) (by rw [hSi]; decide)
      have qx3 := (hwi.1 hSn).k10
      go_simp
      apply hK
      · rfl
      · conv => (lhs; whnf)
      · exact hwi
    simp only [put_lit, put_none]
    try dsimp only [List.set_cons_succ, List.set_cons_zero]
    apply Oblig.cons
    case h =>
      intro S w1 hwi hSi hd hcl
      apply StepOk.intro
      intro K hK
      have hSn : S 13 = false := by
        cases h20 : S 13 with
        | false => rfl
        | true => exact absurd (hcl 13 _ rfl h20 ⟨8, .phase⟩ (by simp) rfl) (by rw [hSi]; decide)
      have qx3 := (hwi.1 hSn).k10
      go_simp
      apply hK
      · rfl
      · conv => (lhs; whnf)
      · exact hwi
    simp only [put_lit, put_none]
    try dsimp only [List.set_cons_succ, List.set_cons_zero]
    apply Oblig.cons
    case h =>
      intro S w1 hwi hSi hd hcl
      apply StepOk.intro
      intro K hK
      have hSn : S 13 = false := by
        cases h20 : S 13 with
        | false => rfl
        | true => exact absurd (hcl 13 _ rfl h20 ⟨9, .phase⟩ (by simp) rfl) (by rw [hSi]; decide)
      have qx3 := (hwi.1 hSn).k10
      go_simp
      apply hK
      · rfl
      · conv => (lhs; whnf)
      · exact hwi
    simp only [put_lit, put_none]
    try dsimp only [List.set_cons_succ, List.set_cons_zero]
    apply Oblig.cons
    case h =>
      intro S w1 hwi hSi hd hcl
      apply StepOk.intro
      intro K hK
      have hSn : S 13 = false := by
        cases h20 : S 13 with
        | false => rfl
        | true => exact absurd (hcl 13 _ rfl h20 ⟨10, .phase⟩ (by simp) rfl) (by rw [hSi]; decide)
      have qx3 := (hwi.1 hSn).k10
      go_simp
      apply hK
      · rfl
      · conv => (lhs; whnf)
      · exact hwi
    simp only [put_lit, put_none]
    try dsimp only [List.set_cons_succ, List.set_cons_zero]
    apply Oblig.cons
    case h =>
      intro S w1 hwi hSi hd hcl
      apply StepOk.intro
      intro K hK
      go_simp
      apply hK
      · rfl
      · conv => (lhs; whnf)
      · exact hwi
    simp only [put_lit, put_none]
    try dsimp only [List.set_cons_succ, List.set_cons_zero]
    apply Oblig.cons
    case h =>
      intro S w1 hwi hSi hd hcl
      apply StepOk.intro
      intro K hK
      go_simp
      apply hK
      · rfl
      · conv => (lhs; whnf)
      · exact hwi
    simp only [put_lit, put_none]
    try dsimp only [List.set_cons_succ, List.set_cons_zero]
    apply Oblig.cons
    case h =>
      intro S w1 hwi hSi hd hcl
      apply StepOk.intro
      intro K hK
      have qx4 := (hwi.1 hSi).k10
      go_simp
      have hks : Keep (fun k => k = x) w1 (w1.setCell ⟨x, 8, none⟩ (i64 vn)) := (Keep.refl _ _).set _ _ (fun _ => rfl)
      apply hK
      · rfl
      · conv => (lhs; whnf)
      · exact ⟨fun h => by simp [upd] at h, fun _ => (hwi.1 hSi).set 8 (i64 vn), hwi.2.2.trans hks (fun _ _ h => h)⟩
    simp only [put_lit, put_none]
    try dsimp only [List.set_cons_succ, List.set_cons_zero]
    exact Oblig.nil
  case h0 =>
    exact ⟨fun _ => HX2.out.drew, fun h => (by cases h), (Keep.refl _ _).drew⟩
  case hend =>
    intro S wx hwi hall
    obtain ⟨-, h1, h2⟩ := hwi
    have HX3 := hid (h1 (hall 13 (by decide)))
    have HW3 := hid (HW.out.trans h2 (fun _ _ h => h))
    have qx3 := HX3.out.k10
    clear h1 h2 hall qx1
    go_wp2_with fail
    go_region
    go_wp2_with fail
    all_goals go_ret
    all_goals (first | (rw [HR.out, if_pos (by omega)]; exact addP_of HM1.out HK1.out HO1.out HX1.out (HW3.out.trans (Keep.refl _ _).drew (fun _ _ h => h)) HX3.out.drew) | (rw [HR.out, if_neg (by omega)]; exact addP_of HM1.out HK1.out HO1.out HX1.out (HW3.out.trans (Keep.refl _ _).drew (fun _ _ h => h)) HX3.out.drew))
set_option maxHeartbeats 2000000 in
theorem add_begin (lv7 s7 : Nat) (x7 : Nat) (hm : MemAt B w m a lv W L) (hx : Blk w x 95 [i64 b, i64 st, i64 g, i64 d, i64 (x7 : Int), i64 lv6, i64 sp, i64 ww, i64 vv, nx]) (hi : (lv7 : Int) = b + 3) (hi2 : lv7 < W.length) (hL : L.length ≤ 1000000000) (hW : W.length ≤ 10000) (nl : Int) (hnl : nl = rd W lv7) (hnb : 1 ≤ nl ∧ nl ≤ 10000) (hsp : (s7 : Int) = b + (4 + x7 % nl)) (hxb : (x7 : Int) ≤ 4294967296) (hb : 0 ≤ b ∧ b ≤ 10000) :
    Calls Try.prog 42 #[ptr x, ptr m] w (AddP B w m a lv x [i64 b, i64 st, i64 g, i64 d, i64 (x7 : Int), i64 nl, i64 (s7 : Int), i64 ww, i64 vv, nx] W (L ++ [⟨1, lv7, nl, 0, false⟩]) (.func (.func 54) #[] #[])) := by
  have HX := hid hx
  have HM := hid hm
  have HWd := hid (add_word 3 hx (by omega))
  rw [← hi] at HWd
  have HA := hid (mem_Load (lv7 : Int) hm (by omega) (by omega) hL)
  rw [Int.toNat_natCast, ← hnl] at HA
  have hxm := am_far hm hx
  have hm0 : 0 ≤ (x7 : Int) % nl := Int.emod_nonneg _ (by omega)
  have hm1 : (x7 : Int) % nl < nl := Int.emod_lt_of_pos _ (by omega)
  have y1 : IntKind.i64.wrap (4 + (x7 : Int) % nl) = 4 + (x7 : Int) % nl := IntWalk.i64_in _ (by omega)
  have HSP := hid hsp
  clear hx hm hnl hi hsp
  go_enter Try.func42, Try.ntmps42
  go_wp2_with fail
  refine HWd.out.mono ?_
  rintro e w1 ⟨rfl, rfl⟩
  go_wp2_with fail
  refine HA.out.mono ?_
  rintro e w1 ⟨rfl, lv1, hm1, hk1, ho1⟩
  have HM1 := hid hm1
  have HK1 := hid hk1
  have HO1 := hid ho1
  have HX1 := hid (hk1.blk HX.out hxm)
  have qx1 := HX1.out.k10
  clear hm1 hk1 ho1
  go_wp2_with fail
  have HX2 := hid (HX1.out.set 5 (i64 nl))
  have HW : Hid (Keep (fun k => k = x) w1 (w1.setCell ⟨x, 5, none⟩ (i64 nl))) := hid ((Keep.refl _ _).set _ _ (fun _ => rfl))
  generalize w1.setCell ⟨x, 5, none⟩ (i64 nl) = wr at *
  clear qx1
  apply wp_region_text (WI := fun S wx => (S 15 = false → Blk wx x 95 [i64 b, i64 st, i64 g, i64 d, i64 (x7 : Int), i64 nl, i64 sp, i64 ww, i64 vv, nx]) ∧ (S 15 = true → Blk wx x 95 [i64 b, i64 st, i64 g, i64 d, i64 (x7 : Int), i64 nl, i64 (s7 : Int), i64 ww, i64 vv, nx]) ∧ Keep (fun k => k = x) wr wx) (by kernel_rfl) (by kernel_rfl)
  case hob =>
    apply Oblig.cons
    case h =>
      intro S w1 hwi hSi hd hcl
      apply StepOk.intro
      intro K hK
      have hSn : S 15 = false := by
        cases h20 : S 15 with
        | false => rfl
        | true => exact absurd (hcl 15 _ rfl h20 ⟨0, .phase⟩ (by simp) rfl) (by rw [hSi]; decide)
      have qx3 := (hwi.1 hSn).k10
      go_simp
      apply hK
      · rfl
      · conv => (lhs; whnf)
      · exact hwi
    simp only [put_lit, put_none]
    try dsimp only [List.set_cons_succ, List.set_cons_zero]
    apply Oblig.cons
    case h =>
      intro S w1 hwi hSi hd hcl
      apply StepOk.intro
      intro K hK
      have hSn : S 15 = false := by
        cases h20 : S 15 with
        | false => rfl
        | true => exact absurd (hcl 15 _ rfl h20 ⟨1, .phase⟩ (by simp) rfl) (by rw [hSi]; decide)
      have qx3 := (hwi.1 hSn).k10
      go_simp
      apply hK
      · rfl
      · conv => (lhs; whnf)
      · exact hwi
    simp only [put_lit, put_none]
    try dsimp only [List.set_cons_succ, List.set_cons_zero]
    apply Oblig.cons
    case h =>
      intro S w1 hwi hSi hd hcl
      apply StepOk.intro
      intro K hK
      have hSn : S 15 = false := by
        cases h20 : S 15 with
        | false => rfl
        | true => exact absurd (hcl 15 _ rfl h20 ⟨2, .phase⟩ (by simp) rfl) (by rw [hSi]; decide)
      have qx3 := (hwi.1 hSn).k10
      go_simp
      apply hK
      · rfl
      · conv => (lhs; whnf)
      · exact hwi
    simp only [put_lit, put_none]
    try dsimp only [List.set_cons_succ, List.set_cons_zero]
    apply Oblig.cons
    case h =>
      intro S w1 hwi hSi hd hcl
      apply StepOk.intro
      intro K hK
      have hSn : S 15 = false := by
        cases h20 : S 15 with
        | false => rfl
        | true => exact absurd (hcl 15 _ rfl h20 ⟨3, .phase⟩ (by simp) rfl) (by rw [hSi]; decide)
      have qx3 := (hwi.1 hSn).k10
      go_simp
      apply hK
      · rfl
      · conv => (lhs; whnf)
      · exact hwi
    simp only [put_lit, put_none]
    try dsimp only [List.set_cons_succ, List.set_cons_zero]
    apply Oblig.cons
    case h =>
      intro S w1 hwi hSi hd hcl
      apply StepOk.intro
      intro K hK
      have hSn : S 15 = false := by
        cases h20 : S 15 with
        | false => rfl
        | true => exact absurd (hcl 15 _ rfl h20 ⟨4, .phase⟩ (by simp) rfl) (by rw [hSi]; decide)
      have qx3 := (hwi.1 hSn).k10
      go_simp
      apply hK
      · rfl
      · conv => (lhs; whnf)
      · exact hwi
    simp only [put_lit, put_none]
    try dsimp only [List.set_cons_succ, List.set_cons_zero]
    apply Oblig.cons
    case h =>
      intro S w1 hwi hSi hd hcl
      apply StepOk.intro
      intro K hK
      have hSn : S 15 = false := by
        cases h20 : S 15 with
        | false => rfl
        | true => exact absurd (hcl 15 _ rfl h20 ⟨5, .phase⟩ (by simp) rfl) (by rw [hSi]; decide)
      have qx3 := (hwi.1 hSn).k10
      go_simp
      apply hK
      · rfl
      · conv => (lhs; whnf)
      · exact hwi
    simp only [put_lit, put_none]
    try dsimp only [List.set_cons_succ, List.set_cons_zero]
    apply Oblig.cons
    case h =>
      intro S w1 hwi hSi hd hcl
      apply StepOk.intro
      intro K hK
      have hSn : S 15 = false := by
        cases h20 : S 15 with
        | false => rfl
        | true => exact absurd (hcl 15 _ rfl h20 ⟨6, .phase⟩ (by simp) rfl) (by rw [hSi]; decide)
      have qx3 := (hwi.1 hSn).k10
      go_simp
      apply hK
      · rfl
      · conv => (lhs; whnf)
      · exact hwi
    simp only [put_lit, put_none]
    try dsimp only [List.set_cons_succ, List.set_cons_zero]
    apply Oblig.cons
    case h =>
      intro S w1 hwi hSi hd hcl
      apply StepOk.intro
      intro K hK
      have hSn : S 15 = false := by
        cases h20 : S 15 with
        | false => rfl
        | true => exact absurd (hcl 15 _ rfl h20 ⟨7, .phase⟩ (by simp) rfl) (by rw [hSi]; decide)
      have qx3 := (hwi.1 hSn).k10
      go_simp
      apply hK
      · rfl
      · conv => (lhs; whnf)
      · exact hwi
    simp only [put_lit, put_none]
    try dsimp only [List.set_cons_succ, List.set_cons_zero]
    apply Oblig.cons
    case h =>
      intro S w1 hwi hSi hd hcl
      apply StepOk.intro
      intro K hK
      have hSn : S 15 = false := by
        cases h20 : S 15 with
        | false => rfl
        | true => exact absurd (hcl 15 _ rfl h20 ⟨8, .phase⟩ (by simp) rfl) (by rw [hSi]; decide)
      have qx3 := (hwi.1 hSn).k10
      go_simp
      apply hK
      · rfl
      · conv => (lhs; whnf)
      · exact hwi
    simp only [put_lit, put_none]
    try dsimp only [List.set_cons_succ, List.set_cons_zero]
    apply Oblig.cons
    case h =>
      intro S w1 hwi hSi hd hcl
      apply StepOk.intro
      intro K hK
      have hSn : S 15 = false := by
        cases h20 : S 15 with
        | false => rfl
        | true => exact absurd (hcl 15 _ rfl h20 ⟨9, .phase⟩ (by simp) rfl) (by rw [hSi]; decide)
      have qx3 := (hwi.1 hSn).k10
      go_simp
      apply hK
      · rfl
      · conv => (lhs; whnf)
      · exact hwi
    simp only [put_lit, put_none]
    try dsimp only [List.set_cons_succ, List.set_cons_zero]
    apply Oblig.cons
    case h =>
      intro S w1 hwi hSi hd hcl
      apply StepOk.intro
      intro K hK
      have hSn : S 15 = false := by
        cases h20 : S 15 with
        | false => rfl
        | true => exact absurd (hcl 15 _ rfl h20 ⟨10, .phase⟩ (by simp) rfl) (by rw [hSi]; decide)
      have qx3 := (hwi.1 hSn).k10
      go_simp
      refine (draw_Pick (x7 : Int) nl _ (by omega) (by omega)).mono ?_
      rintro e w2 ⟨rfl, rfl⟩
      apply hK
      · rfl
      · conv => (lhs; whnf)
      · exact hwi
    simp only [put_lit, put_none]
    try dsimp only [List.set_cons_succ, List.set_cons_zero]
    apply Oblig.cons
    case h =>
      intro S w1 hwi hSi hd hcl
      apply StepOk.intro
      intro K hK
      have hSn : S 15 = false := by
        cases h20 : S 15 with
        | false => rfl
        | true => exact absurd (hcl 15 _ rfl h20 ⟨11, .phase⟩ (by simp) rfl) (by rw [hSi]; decide)
      have qx3 := (hwi.1 hSn).k10
      go_simp
      apply hK
      · rfl
      · conv => (lhs; whnf)
      · exact hwi
    simp only [put_lit, put_none]
    try dsimp only [List.set_cons_succ, List.set_cons_zero]
    apply Oblig.cons
    case h =>
      intro S w1 hwi hSi hd hcl
      apply StepOk.intro
      intro K hK
      have hSn : S 15 = false := by
        cases h20 : S 15 with
        | false => rfl
        | true => exact absurd (hcl 15 _ rfl h20 ⟨12, .phase⟩ (by simp) rfl) (by rw [hSi]; decide)
      have qx3 := (hwi.1 hSn).k10
      go_simp
      refine (show Calls Try.prog 52 #[ptr x, i64 (4 + (x7 : Int) % nl)] w1 (fun e w' => e = .returned (i64 (s7 : Int)) ∧ w1 = w') from by rw [HSP.out]; exact add_word (4 + (x7 : Int) % nl) (hwi.1 hSn) (by omega)).mono ?_
      rintro e w2 ⟨rfl, rfl⟩
      apply hK
      · rfl
      · conv => (lhs; whnf)
      · exact hwi
    simp only [put_lit, put_none]
    try dsimp only [List.set_cons_succ, List.set_cons_zero]
    apply Oblig.cons
    case h =>
      intro S w1 hwi hSi hd hcl
      apply StepOk.intro
      intro K hK
      go_simp
      apply hK
      · rfl
      · conv => (lhs; whnf)
      · exact hwi
    simp only [put_lit, put_none]
    try dsimp only [List.set_cons_succ, List.set_cons_zero]
    apply Oblig.cons
    case h =>
      intro S w1 hwi hSi hd hcl
      apply StepOk.intro
      intro K hK
      go_simp
      apply hK
      · rfl
      · conv => (lhs; whnf)
      · exact hwi
    simp only [put_lit, put_none]
    try dsimp only [List.set_cons_succ, List.set_cons_zero]
    apply Oblig.cons
    case h =>
      intro S w1 hwi hSi hd hcl
      apply StepOk.intro
      intro K hK
      have qx4 := (hwi.1 hSi).k10
      go_simp
      have hks : Keep (fun k => k = x) w1 (w1.setCell ⟨x, 6, none⟩ (i64 (s7 : Int))) := (Keep.refl _ _).set _ _ (fun _ => rfl)
      apply hK
      · rfl
      · conv => (lhs; whnf)
      · exact ⟨fun h => by simp [upd] at h, fun _ => (hwi.1 hSi).set 6 (i64 (s7 : Int)), hwi.2.2.trans hks (fun _ _ h => h)⟩
    simp only [put_lit, put_none]
    try dsimp only [List.set_cons_succ, List.set_cons_zero]
    exact Oblig.nil
  case h0 =>
    exact ⟨fun _ => HX2.out.drew, fun h => (by cases h), (Keep.refl _ _).drew⟩
  case hend =>
    intro S wx hwi hall
    obtain ⟨-, h1, h2⟩ := hwi
    have HX3 := hid (h1 (hall 15 (by decide)))
    have HW3 := hid (HW.out.trans h2 (fun _ _ h => h))
    have qx3 := HX3.out.k10
    clear h1 h2 hall
    go_wp2_with fail
    go_ret
    exact addP_of HM1.out HK1.out HO1.out HX1.out HW3.out HX3.out
end
end Go.Proofs.Ytlkniogapdhcpaa
