/- ClaimAlone: alone a machine has the first free ticket. -/
import Derived.Test.YtjloccnbcgkmgaaLawClaim
import Derived.Test.YtjloccnbcgkmgaaHeadClaim
import Derived.Test.YtjloccnbcgkmgaaClaimA
import Derived.Test.YtjloccnbcgkmgaaRowThree
import Derived.Test.YtjloccnbcgkmgaaRefTen
import Derived.Test.YtjloccnbcgkmgaaWordsC
namespace Go.Proofs.Ytjloccnbcgkmgaa
open Go.RowKit
set_option linter.unusedVariables false
set_option linter.unusedSimpArgs false
set_option maxRecDepth 100000
set_option maxHeartbeats 4000000 in
theorem claimAlone_walk {w : World} {v0 v1 : Value} (hc : ConfIn w v0) (hv : ∃ l, IntsIn w v1 l) (st : Int) (hst : (Lit.int .u16 st).wf = true) : Calls Try.prog 5 #[v0, v1, .int .u16 st] w (Ret (.bool true) w) := by
  have hst := bounds_u16 hst
  obtain ⟨t, s, g, l, r, k, P, L, PA, pc, LA, lc, rfl, hP, hL, hp1, hl1⟩ := hc
  obtain ⟨V, VA, vc, rfl, hv1, hV⟩ := hv
  have HGD := hid (fun (w' : World) (hk : Keep0 w w') => law11_Good t s g l r k PA P pc LA L lc VA V.length vc none 0 0 w' (hP.keep hk) (hL.keep hk) hp1 hl1)
  have HLI := hid hL
  have HVI := hid hV
  clear hP hL hV hp1 hl1
  have HK0 : Hid (Keep0 w (w.alloc (.cells #[i64 t, i64 s, i64 g, i64 l, i64 r, i64 k, .slice PA P.length pc, .slice LA L.length lc] 24))) := hid ((Keep.refl _ _).alloc _)
  have hs0 : 0 ≤ st % 1001 := Int.emod_nonneg _ (by omega)
  have hs1 : st % 1001 < 1001 := Int.emod_lt_of_pos _ (by omega)
  obtain ⟨S, hS⟩ := Int.eq_ofNat_of_zero_le hs0
  have HS := hid hS
  have hS9 : S < 1001 := by omega
  clear hS hs0 hs1
  
  go_enter Try.func5, Try.ntmps5
  go_wp2_with fail
  have HB : Hid (Blk (w.alloc (.cells #[i64 t, i64 s, i64 g, i64 l, i64 r, i64 k, .slice PA P.length pc, .slice LA L.length lc] 24)) w.heap.size 24 [i64 t, i64 s, i64 g, i64 l, i64 r, i64 k, .slice PA P.length pc, .slice LA L.length lc]) := hid (Blk.made rfl rfl)
  have qHB := HB.out.k8
  refine (law11_head _).mono ?_
  rintro e w1 ⟨rfl, hk⟩
  have HK1 : Hid (Keep0 w w1) := hid (Keep0.step (by repeat (with_reducible first | exact Keep.refl _ _ | exact HK0.out | apply Keep.alloc | apply Keep.drewN | apply Keep.drew)) hk)
  have THB := hk.blk (show Blk _ _ _ _ from by repeat (with_reducible first | exact HB.out | apply Blk.alloc | apply Blk.drewN | apply Blk.drew)) (fun h => h)
  clear hk qHB HB HK0
  have HB := hid THB
  clear THB
  have qHB := HB.out.k8
  go_wp2_with fail
  refine (HGD.out _ HK1.out).mono ?_
  rintro e w2 ⟨rfl, hk⟩
  have HK2 : Hid (Keep0 w w2) := hid (Keep0.step (by repeat (with_reducible first | exact Keep.refl _ _ | exact HK1.out | apply Keep.alloc | apply Keep.drewN | apply Keep.drew)) hk)
  have THB := hk.blk (show Blk _ _ _ _ from by repeat (with_reducible first | exact HB.out | apply Blk.alloc | apply Blk.drewN | apply Blk.drew)) (fun h => h)
  clear hk qHB HB HK1
  have HB := hid THB
  clear THB
  have qHB := HB.out.k8
  clear HGD
  cases hgood : good11 t s g l r k P L V.length 0
  · go_wp2_with fail
    go_ret
    exact ⟨rfl, HK2.out⟩
  simp only [good11, Bool.and_eq_true, decide_eq_true_eq] at hgood
  obtain ⟨⟨hgood, hv40⟩, hk40⟩ := hgood
  have R := Right.of hgood
  clear hgood hv1
  obtain ⟨K, rfl⟩ := Int.eq_ofNat_of_zero_le (show 0 ≤ k by have := R.k; omega)
  have hs := R.sb
  have hp := R.p
  have hK : 1 ≤ K ∧ K ≤ 16 := by have := R.k; omega
  have hm4 := mul_bd 12 22 (show (0 : Int) ≤ P.length by omega) (by omega) (show 0 ≤ 6 + 2 * s by omega) (by omega)
  obtain ⟨q, hq⟩ : ∃ q : Nat, (q : Int) = P.length * (6 + 2 * s) := ⟨((P.length : Int) * (6 + 2 * s)).toNat, by omega⟩
  have hq264 : q ≤ 264 := by omega
  have HWO := hid (fun (w' : World) (hk : Keep0 w w') => law11_words t s g l r K q PA P pc LA L lc VA V vc w' (HLI.out.keep hk) (HVI.out.keep hk) R hq hv40)
  have hln : q + 2 * K = (words11 s K P.length q L V).length := by rw [words11, tkW_length, freshW_length]; omega
  have HQ := hid hq
  have HR := hid R
  clear hm4 R hq HLI HVI
  generalize words11 s K P.length q L V = WW at *
  have hWm : WW.length ≤ 10000 := by omega
  have hW0 : 0 < WW.length := by omega
  have hk2s := HK2.out.size
  go_wp2_with fail
  refine (HWO.out _ HK2.out).mono ?_
  rintro e w3 ⟨WA, Wc, rfl, how, hk⟩
  have HK3 : Hid (Keep0 w w3) := hid (Keep0.step (by repeat (with_reducible first | exact Keep.refl _ _ | exact HK2.out | apply Keep.alloc | apply Keep.drewN | apply Keep.drew)) hk)
  have THB := hk.blk (show Blk _ _ _ _ from by repeat (with_reducible first | exact HB.out | apply Blk.alloc | apply Blk.drewN | apply Blk.drew)) (fun h => h)
  clear hk qHB HB HK2
  have HB := hid THB
  clear THB
  have qHB := HB.out.k8
  obtain ⟨wg, rfl, hwg, hwge⟩ := ints_own how (by omega) rfl
  have HWG := hid hwg
  clear hwg HWO
  have hwz : w.heap.size ≤ wg := Nat.le_trans hk2s hwge
  clear hk2s
  clear how hwge
  have hwg3 := HWG.out.lt
  have hk3s := HK3.out.size
  go_wp2_with fail
  refine (law8_Laid w.heap.size _ _ _ WW HWG.out.at_ hWm HK3.out.size).mono ?_
  rintro e w4 ⟨m, a, lv, rfl, hm, hk, hzm, hza⟩
  have HK4 : Hid (Keep0 w w4) := hid (Keep0.step (by repeat (with_reducible first | exact Keep.refl _ _ | exact HK3.out | apply Keep.alloc | apply Keep.drewN | apply Keep.drew)) hk)
  have THB := hk.blk (show Blk _ _ _ _ from by repeat (with_reducible first | exact HB.out | apply Blk.alloc | apply Blk.drewN | apply Blk.drew)) (fun h => h)
  have THWG := hk.ints (show Ints _ _ _ from by repeat (with_reducible first | exact HWG.out | apply Ints.alloc | apply Ints.drewN | apply Ints.drew)) (fun h => h)
  clear hk qHB HB HWG HK3
  have HB := hid THB
  clear THB
  have qHB := HB.out.k8
  have HWG := hid THWG
  clear THWG
  have HM := hid hm
  have hzm' : w.heap.size ≤ m := Nat.le_trans hk3s hzm
  have hza' : w.heap.size ≤ a := Nat.le_trans hk3s hza
  clear hk3s
  have hwgm : wg ≠ a := by omega
  have hwgm2 : wg ≠ m := by omega
  clear hm hzm hza hwg3
  go_wp2_with fail
  rw [HS.out]
  go_wp2_with fail
  have haz := HM.out.words.lt
  have hks := HK4.out.size
  refine (claim_New ⟨t, s, g, l, r, PA, P.length, pc, LA, L.length, lc⟩ K (S) _ hK (by omega)).mono ?_
  rintro e w5 ⟨x, gl, cc, rfl, hx, hgl, hcap, hk, hcl, hr⟩
  have HK5 : Hid (Keep0 w w5) := hid (Keep0.step (by repeat (with_reducible first | exact Keep.refl _ _ | exact HK4.out | apply Keep.alloc | apply Keep.drewN | apply Keep.drew)) hk)
  have THB := hk.blk (show Blk _ _ _ _ from by repeat (with_reducible first | exact HB.out | apply Blk.alloc | apply Blk.drewN | apply Blk.drew)) (fun h => h)
  have THWG := hk.ints (show Ints _ _ _ from by repeat (with_reducible first | exact HWG.out | apply Ints.alloc | apply Ints.drewN | apply Ints.drew)) (fun h => h)
  have THM := MemAt.same (by repeat (with_reducible first | exact HM.out | apply MemAt.alloc | apply MemAt.drew)) hk
  clear hk qHB HB HWG HM HK4
  have HB := hid THB
  clear THB
  have qHB := HB.out.k8
  have HWG := hid THWG
  clear THWG
  have HM := hid THM
  clear THM
  have hga : gl ≠ a := by omega
  have HX := hid (hcl WW [])
  have HR := hid hr
  have HCO : Hid (COk ⟨t, s, g, l, r, PA, P.length, pc, LA, L.length, lc⟩ K q cc) := hid ⟨HQ.out, hs, (by show P.length ≤ 1000; omega), hcap⟩
  have hzx : w.heap.size ≤ x := Nat.le_trans hks hx
  clear hks haz hx hgl hcap hcl hr
  go_wp2_with fail
  have hci : CInv K q ⟨WW, [], 0, false, 0, 0, 0, 0⟩ := CInv.start (by omega) (by omega) hK
  have hp := play_claim (B := w.heap.size) (w := w5) (m := m) (a := a) (x := x) (lv := lv) (K := K) (s := S) (q := q) ⟨WW, [], 0, false, 0, 0, 0, 0⟩ [] none 0 0 0 (100) HM.out HX.out HR.out hga hci HCO.out (by simp) (by omega) (by simp) (fun h => by simp at h) (fun i h => by simp at h)
  rw [show (CS.mk WW [] 0 false 0 0 0 0).W.length = WW.length from rfl] at hp
  have hal := cAlone K S q WW.length WW hK.1 (by omega) K 0 100 0 [] 0 (by omega) hK.1 (by omega)
  generalize playF (cStp K S q) cPk WW.length [] 100 0 ⟨WW, [], 0, false, 0, 0, 0, 0⟩ = pf at *
  obtain ⟨pt, pn, pb⟩ := pf
  have hpb := hal.is
  simp only at hp hpb
  subst hpb
  refine hp.mono ?_
  rintro e w6 ⟨rfl, ⟨kk, lv', hm, ho, hx, _, _, hin, _, hr, _⟩, hk⟩
  have THB := clplay_keeps HB.out HM.out HX.out (by decide) (by decide) (by decide) (by decide) hk
  have THWG := clplay_ints HWG.out HM.out HX.out hwgm hk
  have HK6 : Hid (Keep0 w w6) := hid (clplay_far HM.out hzx hk HK5.out rfl)
  clear hp ho HM HX HR HK5 hk qHB HB HWG
  obtain ⟨lv, hlv⟩ : ∃ v, v = lv' := ⟨_, rfl⟩
  subst hlv
  have HM := hid hm
  have HX := hid hx
  have HI := hid hin
  clear hm hx hr hin hci
  have HB := hid THB
  clear THB
  have qHB := HB.out.k8
  have HWG := hid THWG
  clear THWG
  have HAL := hid (hal.first hK.1)
  have hwl := HI.out.ln
  clear hal
  have y0 : IntKind.i64.wrap ((K : Int) - 1) = (K : Int) - 1 := IntWalk.i64_in _ (by omega)
  go_wp2_with fail
  go_loopw [14, 15] (fun v u wr => ∃ j : Nat, j ≤ K ∧ u = .int .i64 ((j : Int) - 1) ∧ v = .int .i64 (fF K S q WW (K - j) j) ∧ Keep0 w6 wr) (fun _ u _ => (intOf u + 1).toNat)
  case atStart => exact ⟨K, Nat.le_refl _, rfl, by rw [Nat.sub_self]; rfl, Keep.refl _ _⟩
  case round =>
    obtain ⟨j, hj, rfl, rfl, hk⟩ := hrel
    have HKR := hid hk
    have HBR := hid (hk.blk HB.out (fun h => h))
    have HWR := hid (hk.ints HWG.out (fun h => h))
    have qbr := HBR.out.k8
    clear hk qHB
    rcases j with _ | i
    · rw [Nat.sub_zero]
      rcases HAL.out with ⟨f1, f2, f3, f4, f5⟩ | ⟨f, f0, f1, fz, f2, f3, f4, f5⟩
      · rw [f1]
        rw [f3] at HM
        have HM2 := hid (HM.out.same HKR.out)
        have HX2 := hid (HX.out.keep HKR.out (fun h => h))
        have HK7 : Hid (Keep0 w wr) := hid (Keep0.step HK6.out HKR.out)
        clear HM HX HK6 HKR HB HWG HAL
        go_wp2_with fail
        refine (mem_Words HM2.out (by omega)).mono ?_
        rintro e w8 ⟨g8, c8, rfl, hi, hk, hg8⟩
        have HI8 := hid hi
        have HK8 : Hid (Keep0 w w8) := hid (Keep0.step HK7.out hk)
        have HX8 := hid (HX2.out.keep hk (fun h => h))
        have HW8 := hid (hk.ints HWR.out (fun h => h))
        have HB8 := hid (hk.blk HBR.out (fun h => h))
        clear hi hk HK7 HX2 HWR HBR qbr HM2
        go_wp2_with fail
        go_loopw [17] (fun v wr => ∃ i : Nat, i ≤ WW.length ∧ v = .int .i64 i ∧ Keep0 w8 wr) (fun v _ => WW.length - (intOf v).toNat)
        case atStart => exact ⟨0, Nat.zero_le _, rfl, Keep.refl _ _⟩
        case round =>
          obtain ⟨i, hi, rfl, hk⟩ := hrel
          have HKS := hid hk
          have HBS := hid (hk.blk HB8.out (fun h => h))
          have HWS := hid (hk.ints HW8.out (fun h => h))
          have HIS := hid (hk.ints HI8.out (fun h => h))
          clear hk
          by_cases hlt : i < WW.length
          · have c1 := HWS.out.cell i hlt
            have c2 := HIS.out.cell i hlt
            go_wp2_with fail
            go_quiet (fail)
            go_wp2_with fail
            go_roundw
            case rel => exact ⟨i + 1, by omega, by go_num, HKS.out.drewN _⟩
            case measure => simp [intOf]; omega
          · obtain rfl : i = WW.length := by omega
            have HX9 := hid (HX8.out.keep HKS.out (fun h => h))
            have HK9 : Hid (Keep0 w wr) := hid (Keep0.step HK8.out HKS.out)
            have hA : clAns pt = .agg #[i64 3, i64 0, .bool false, i64 0] := by simp [clAns, f2, f5]
            have hans := cl_Ans HX9.out
            rw [hA] at hans
            have HW0 := hid f4
            clear hA f2 f4 f5 f1 f3
            go_wp2_with fail
            refine hans.mono ?_
            rintro e w10 ⟨rfl, hk⟩
            have HK10 : Hid (Keep0 w w10) := hid (Keep0.step HK9.out hk)
            have HX10 := hid (HX9.out.keep hk (fun h => h))
            clear hk hans
            go_wp2_with fail
            refine (show Calls Try.prog 21 #[ptr x] w10 (Ret (i64 0) w10) from by rw [← HW0.out]; exact cl_Word HX10.out).mono ?_
            rintro e w11 ⟨rfl, hk⟩
            have HK11 : Hid (Keep0 w w11) := hid (Keep0.step HK10.out hk)
            clear hk
            go_wp2_with fail
            go_ret
            exact ⟨rfl, HK11.out⟩
      · rw [f1]
        have hpl : q + 2 * f < WW.length := by omega
        have HPT := hid (fun (w' : World) => plan_Ticket t s g l r (K : Int) PA P.length pc LA L.length lc (f : Int) w' hs.1 hs.2 (by omega) (by omega) (by omega))
        rw [← HQ.out, show (q : Int) + 2 * (f : Int) = ((q + 2 * f : Nat) : Int) by push_cast; rfl] at HPT
        generalize q + 2 * f = p at *
        have hnx := st10_ne fz
        have hn1 := st10_next (rd WW p)
        have HST := hid (fun (w' : World) => slot_State (pNext6 (rd WW p) 1) w')
        rw [hn1] at HST
        generalize hnn : pNext6 (rd WW p) 1 = nx at *
        rw [f3] at HM
        have hll : (WW.set p nx).length = WW.length := by simp
        have hV1 : rd (WW.set p nx) p = nx := by rw [rd_set, if_pos ⟨rfl, hpl⟩]
        have hV2 : ∀ i, i ≠ p → rd (WW.set p nx) i = rd WW i := fun i hi => by rw [rd_set, if_neg (fun h => hi h.1)]
        have HM2 := hid (HM.out.same HKR.out)
        have hmw := mem_Words HM2.out (by rw [hll]; omega)
        rw [hll] at hmw
        have HV1 := hid hV1
        have HV2 := hid hV2
        have HLL := hid hll
        have HMW := hid hmw
        generalize WW.set p nx = VV at *
        have HX2 := hid (HX.out.keep HKR.out (fun h => h))
        have HK7 : Hid (Keep0 w wr) := hid (Keep0.step HK6.out HKR.out)
        have HF2 := hid f2
        have HF4 := hid f4
        have HF5 := hid f5
        clear HM HX HK6 HKR HB HWG HAL hmw hV1 hV2 hll hnn f1 f2 f3 f4 f5 fz hn1
        go_wp2_with fail
        refine HMW.out.mono ?_
        rintro e w8 ⟨g8, c8, rfl, hi, hk, hg8⟩
        have HI8 := hid hi
        have HK8 : Hid (Keep0 w w8) := hid (Keep0.step HK7.out hk)
        have HX8 := hid (HX2.out.keep hk (fun h => h))
        have HW8 := hid (hk.ints HWR.out (fun h => h))
        have HB8 := hid (hk.blk HBR.out (fun h => h))
        clear hi hk HK7 HX2 HWR HBR qbr HM2 HMW
        go_wp2_with fail
        go_loopw [17] (fun v wr => ∃ i : Nat, i ≤ WW.length ∧ v = .int .i64 i ∧ Keep0 w8 wr) (fun v _ => WW.length - (intOf v).toNat)
        case atStart => exact ⟨0, Nat.zero_le _, rfl, Keep.refl _ _⟩
        case round =>
          obtain ⟨i, hi, rfl, hk⟩ := hrel
          have HKS := hid hk
          have HBS := hid (hk.blk HB8.out (fun h => h))
          have HWS := hid (hk.ints HW8.out (fun h => h))
          have HIS := hid (hk.ints HI8.out (fun h => h))
          clear hk
          by_cases hlt : i < WW.length
          · have c1 := HWS.out.cell i hlt
            have c2 := HIS.out.cell i (by rw [HLL.out]; exact hlt)
            by_cases hip : i = p
            · subst hip
              rw [HV1.out] at c2
              have y6 : (nx != rd WW i) = true := by simpa using hnx
              generalize hrw : rd WW i = rw0 at *
              go_wp2_with fail
              apply wp_region_text (WI := fun S wx => Keep0 wr wx) (by kernel_rfl) (by kernel_rfl)
              case hob =>
                apply Oblig.cons
                case h =>
                  intro S w1 hwi hSi hd hcl
                  apply StepOk.intro
                  intro K hK
                  have cb := (hwi.blk HBS.out (fun h => h)).k8
                  have qw := (hwi.ints HWS.out (fun h => h)).cell i hlt
                  rw [hrw] at qw
                  have qi := (hwi.ints HIS.out (fun h => h)).cell i (by rw [HLL.out]; exact hlt)
                  rw [HV1.out] at qi
                  go_simp
                  apply hK
                  · rfl
                  · conv => (lhs; whnf)
                  · exact hwi
                simp only [put_lit, put_none]
                try dsimp only [List.set_cons_succ, List.set_cons_zero]
                apply Oblig.cons
                case h =>
                  intro S w1 hwi hSi hd hcl
                  apply StepOk.intro
                  intro K hK
                  have cb := (hwi.blk HBS.out (fun h => h)).k8
                  have qw := (hwi.ints HWS.out (fun h => h)).cell i hlt
                  rw [hrw] at qw
                  have qi := (hwi.ints HIS.out (fun h => h)).cell i (by rw [HLL.out]; exact hlt)
                  rw [HV1.out] at qi
                  go_simp
                  apply hK
                  · rfl
                  · conv => (lhs; whnf)
                  · exact hwi
                simp only [put_lit, put_none]
                try dsimp only [List.set_cons_succ, List.set_cons_zero]
                apply Oblig.cons
                case h =>
                  intro S w1 hwi hSi hd hcl
                  apply StepOk.intro
                  intro K hK
                  have cb := (hwi.blk HBS.out (fun h => h)).k8
                  have qw := (hwi.ints HWS.out (fun h => h)).cell i hlt
                  rw [hrw] at qw
                  have qi := (hwi.ints HIS.out (fun h => h)).cell i (by rw [HLL.out]; exact hlt)
                  rw [HV1.out] at qi
                  go_simp
                  apply hK
                  · rfl
                  · conv => (lhs; whnf)
                  · exact hwi
                simp only [put_lit, put_none]
                try dsimp only [List.set_cons_succ, List.set_cons_zero]
                apply Oblig.cons
                case h =>
                  intro S w1 hwi hSi hd hcl
                  apply StepOk.intro
                  intro K hK
                  have cb := (hwi.blk HBS.out (fun h => h)).k8
                  have qw := (hwi.ints HWS.out (fun h => h)).cell i hlt
                  rw [hrw] at qw
                  have qi := (hwi.ints HIS.out (fun h => h)).cell i (by rw [HLL.out]; exact hlt)
                  rw [HV1.out] at qi
                  go_simp
                  apply hK
                  · rfl
                  · conv => (lhs; whnf)
                  · exact hwi
                simp only [put_lit, put_none]
                try dsimp only [List.set_cons_succ, List.set_cons_zero]
                apply Oblig.cons
                case h =>
                  intro S w1 hwi hSi hd hcl
                  apply StepOk.intro
                  intro K hK
                  have cb := (hwi.blk HBS.out (fun h => h)).k8
                  have qw := (hwi.ints HWS.out (fun h => h)).cell i hlt
                  rw [hrw] at qw
                  have qi := (hwi.ints HIS.out (fun h => h)).cell i (by rw [HLL.out]; exact hlt)
                  rw [HV1.out] at qi
                  go_simp
                  apply hK
                  · rfl
                  · conv => (lhs; whnf)
                  · exact hwi
                simp only [put_lit, put_none]
                try dsimp only [List.set_cons_succ, List.set_cons_zero]
                apply Oblig.cons
                case h =>
                  intro S w1 hwi hSi hd hcl
                  apply StepOk.intro
                  intro K hK
                  have cb := (hwi.blk HBS.out (fun h => h)).k8
                  have qw := (hwi.ints HWS.out (fun h => h)).cell i hlt
                  rw [hrw] at qw
                  have qi := (hwi.ints HIS.out (fun h => h)).cell i (by rw [HLL.out]; exact hlt)
                  rw [HV1.out] at qi
                  go_simp
                  apply hK
                  · rfl
                  · conv => (lhs; whnf)
                  · exact hwi
                simp only [put_lit, put_none]
                try dsimp only [List.set_cons_succ, List.set_cons_zero]
                apply Oblig.cons
                case h =>
                  intro S w1 hwi hSi hd hcl
                  apply StepOk.intro
                  intro K hK
                  have cb := (hwi.blk HBS.out (fun h => h)).k8
                  have qw := (hwi.ints HWS.out (fun h => h)).cell i hlt
                  rw [hrw] at qw
                  have qi := (hwi.ints HIS.out (fun h => h)).cell i (by rw [HLL.out]; exact hlt)
                  rw [HV1.out] at qi
                  go_simp
                  apply hK
                  · rfl
                  · conv => (lhs; whnf)
                  · exact hwi
                simp only [put_lit, put_none]
                try dsimp only [List.set_cons_succ, List.set_cons_zero]
                apply Oblig.cons
                case h =>
                  intro S w1 hwi hSi hd hcl
                  apply StepOk.intro
                  intro K hK
                  have cb := (hwi.blk HBS.out (fun h => h)).k8
                  have qw := (hwi.ints HWS.out (fun h => h)).cell i hlt
                  rw [hrw] at qw
                  have qi := (hwi.ints HIS.out (fun h => h)).cell i (by rw [HLL.out]; exact hlt)
                  rw [HV1.out] at qi
                  go_simp
                  apply hK
                  · rfl
                  · conv => (lhs; whnf)
                  · exact hwi
                simp only [put_lit, put_none]
                try dsimp only [List.set_cons_succ, List.set_cons_zero]
                apply Oblig.cons
                case h =>
                  intro S w1 hwi hSi hd hcl
                  apply StepOk.intro
                  intro K hK
                  have cb := (hwi.blk HBS.out (fun h => h)).k8
                  have qw := (hwi.ints HWS.out (fun h => h)).cell i hlt
                  rw [hrw] at qw
                  have qi := (hwi.ints HIS.out (fun h => h)).cell i (by rw [HLL.out]; exact hlt)
                  rw [HV1.out] at qi
                  go_simp
                  apply hK
                  · rfl
                  · conv => (lhs; whnf)
                  · exact hwi
                simp only [put_lit, put_none]
                try dsimp only [List.set_cons_succ, List.set_cons_zero]
                apply Oblig.cons
                case h =>
                  intro S w1 hwi hSi hd hcl
                  apply StepOk.intro
                  intro K hK
                  have cb := (hwi.blk HBS.out (fun h => h)).k8
                  have qw := (hwi.ints HWS.out (fun h => h)).cell i hlt
                  rw [hrw] at qw
                  have qi := (hwi.ints HIS.out (fun h => h)).cell i (by rw [HLL.out]; exact hlt)
                  rw [HV1.out] at qi
                  go_simp
                  apply hK
                  · rfl
                  · conv => (lhs; whnf)
                  · exact hwi
                simp only [put_lit, put_none]
                try dsimp only [List.set_cons_succ, List.set_cons_zero]
                apply Oblig.cons
                case h =>
                  intro S w1 hwi hSi hd hcl
                  apply StepOk.intro
                  intro K hK
                  have cb := (hwi.blk HBS.out (fun h => h)).k8
                  have qw := (hwi.ints HWS.out (fun h => h)).cell i hlt
                  rw [hrw] at qw
                  have qi := (hwi.ints HIS.out (fun h => h)).cell i (by rw [HLL.out]; exact hlt)
                  rw [HV1.out] at qi
                  go_simp
                  apply hK
                  · rfl
                  · conv => (lhs; whnf)
                  · exact hwi
                simp only [put_lit, put_none]
                try dsimp only [List.set_cons_succ, List.set_cons_zero]
                apply Oblig.cons
                case h =>
                  intro S w1 hwi hSi hd hcl
                  apply StepOk.intro
                  intro K hK
                  have cb := (hwi.blk HBS.out (fun h => h)).k8
                  have qw := (hwi.ints HWS.out (fun h => h)).cell i hlt
                  rw [hrw] at qw
                  have qi := (hwi.ints HIS.out (fun h => h)).cell i (by rw [HLL.out]; exact hlt)
                  rw [HV1.out] at qi
                  go_simp
                  apply hK
                  · rfl
                  · conv => (lhs; whnf)
                  · exact hwi
                simp only [put_lit, put_none]
                try dsimp only [List.set_cons_succ, List.set_cons_zero]
                apply Oblig.cons
                case h =>
                  intro S w1 hwi hSi hd hcl
                  apply StepOk.intro
                  intro K hK
                  have cb := (hwi.blk HBS.out (fun h => h)).k8
                  have qw := (hwi.ints HWS.out (fun h => h)).cell i hlt
                  rw [hrw] at qw
                  have qi := (hwi.ints HIS.out (fun h => h)).cell i (by rw [HLL.out]; exact hlt)
                  rw [HV1.out] at qi
                  go_simp
                  apply hK
                  · rfl
                  · conv => (lhs; whnf)
                  · exact hwi
                simp only [put_lit, put_none]
                try dsimp only [List.set_cons_succ, List.set_cons_zero]
                apply Oblig.cons
                case h =>
                  intro S w1 hwi hSi hd hcl
                  apply StepOk.intro
                  intro K hK
                  have cb := (hwi.blk HBS.out (fun h => h)).k8
                  have qw := (hwi.ints HWS.out (fun h => h)).cell i hlt
                  rw [hrw] at qw
                  have qi := (hwi.ints HIS.out (fun h => h)).cell i (by rw [HLL.out]; exact hlt)
                  rw [HV1.out] at qi
                  go_simp
                  apply hK
                  · rfl
                  · conv => (lhs; whnf)
                  · exact hwi
                simp only [put_lit, put_none]
                try dsimp only [List.set_cons_succ, List.set_cons_zero]
                apply Oblig.cons
                case h =>
                  intro S w1 hwi hSi hd hcl
                  apply StepOk.intro
                  intro K hK
                  have cb := (hwi.blk HBS.out (fun h => h)).k8
                  have qw := (hwi.ints HWS.out (fun h => h)).cell i hlt
                  rw [hrw] at qw
                  have qi := (hwi.ints HIS.out (fun h => h)).cell i (by rw [HLL.out]; exact hlt)
                  rw [HV1.out] at qi
                  go_simp
                  apply hK
                  · rfl
                  · conv => (lhs; whnf)
                  · exact hwi
                simp only [put_lit, put_none]
                try dsimp only [List.set_cons_succ, List.set_cons_zero]
                apply Oblig.cons
                case h =>
                  intro S w1 hwi hSi hd hcl
                  apply StepOk.intro
                  intro K hK
                  have cb := (hwi.blk HBS.out (fun h => h)).k8
                  have qw := (hwi.ints HWS.out (fun h => h)).cell i hlt
                  rw [hrw] at qw
                  have qi := (hwi.ints HIS.out (fun h => h)).cell i (by rw [HLL.out]; exact hlt)
                  rw [HV1.out] at qi
                  go_simp
                  apply hK
                  · rfl
                  · conv => (lhs; whnf)
                  · exact hwi
                simp only [put_lit, put_none]
                try dsimp only [List.set_cons_succ, List.set_cons_zero]
                apply Oblig.cons
                case h =>
                  intro S w1 hwi hSi hd hcl
                  apply StepOk.intro
                  intro K hK
                  have cb := (hwi.blk HBS.out (fun h => h)).k8
                  have qw := (hwi.ints HWS.out (fun h => h)).cell i hlt
                  rw [hrw] at qw
                  have qi := (hwi.ints HIS.out (fun h => h)).cell i (by rw [HLL.out]; exact hlt)
                  rw [HV1.out] at qi
                  go_simp
                  refine (HPT.out _).mono ?_
                  rintro e w2 ⟨rfl, hk⟩
                  apply hK
                  · rfl
                  · conv => (lhs; whnf)
                  · exact hwi.trans hk (fun _ _ h => h)
                simp only [put_lit, put_none]
                try dsimp only [List.set_cons_succ, List.set_cons_zero]
                apply Oblig.cons
                case h =>
                  intro S w1 hwi hSi hd hcl
                  apply StepOk.intro
                  intro K hK
                  have cb := (hwi.blk HBS.out (fun h => h)).k8
                  have qw := (hwi.ints HWS.out (fun h => h)).cell i hlt
                  rw [hrw] at qw
                  have qi := (hwi.ints HIS.out (fun h => h)).cell i (by rw [HLL.out]; exact hlt)
                  rw [HV1.out] at qi
                  go_simp
                  apply hK
                  · rfl
                  · conv => (lhs; whnf)
                  · exact hwi
                simp only [put_lit, put_none]
                try dsimp only [List.set_cons_succ, List.set_cons_zero]
                apply Oblig.cons
                case h =>
                  intro S w1 hwi hSi hd hcl
                  apply StepOk.intro
                  intro K hK
                  have cb := (hwi.blk HBS.out (fun h => h)).k8
                  have qw := (hwi.ints HWS.out (fun h => h)).cell i hlt
                  rw [hrw] at qw
                  have qi := (hwi.ints HIS.out (fun h => h)).cell i (by rw [HLL.out]; exact hlt)
                  rw [HV1.out] at qi
                  go_simp
                  apply hK
                  · rfl
                  · conv => (lhs; whnf)
                  · exact hwi
                simp only [put_lit, put_none]
                try dsimp only [List.set_cons_succ, List.set_cons_zero]
                apply Oblig.cons
                case h =>
                  intro S w1 hwi hSi hd hcl
                  apply StepOk.intro
                  intro K hK
                  have cb := (hwi.blk HBS.out (fun h => h)).k8
                  have qw := (hwi.ints HWS.out (fun h => h)).cell i hlt
                  rw [hrw] at qw
                  have qi := (hwi.ints HIS.out (fun h => h)).cell i (by rw [HLL.out]; exact hlt)
                  rw [HV1.out] at qi
                  go_simp
                  apply hK
                  · rfl
                  · conv => (lhs; whnf)
                  · exact hwi
                simp only [put_lit, put_none]
                try dsimp only [List.set_cons_succ, List.set_cons_zero]
                exact Oblig.nil
              case h0 =>
                exact (Keep.refl _ _).drew
              case hend =>
                intro S wx hwi hall
                have HKX := hid hwi
                clear hwi hall
                go_wp2_with fail
                go_roundw
                case rel => exact ⟨i + 1, by omega, by go_num, HKS.out.trans HKX.out (fun _ _ h => h)⟩
                case measure => first | (simp [intOf]; done) | (simp [intOf]; omega)
            · rw [HV2.out i hip] at c2
              go_wp2_with fail
              go_quiet (fail)
              go_wp2_with fail
              go_roundw
              case rel => exact ⟨i + 1, by omega, by go_num, HKS.out.drewN _⟩
              case measure => simp [intOf]; omega
          · obtain rfl : i = WW.length := by omega
            have HX9 := hid (HX8.out.keep HKS.out (fun h => h))
            have HK9 : Hid (Keep0 w wr) := hid (Keep0.step HK8.out HKS.out)
            have hA : clAns pt = .agg #[i64 0, i64 (f : Int), .bool false, i64 0] := by simp [clAns, HF2.out, HF5.out]
            have HA := hid hA
            have qbs := HBS.out.k8
            have y6 : (nx != rd WW p) = true := by simpa using hnx
            generalize hrw : rd WW p = rw0 at *
            clear hA HX8 HK8 HW8 HI8 HB8 HKS HV2
            go_wp2_with fail
            refine (HPT.out _).mono ?_
            rintro e w10 ⟨rfl, hk⟩
            have HK10 : Hid (Keep0 w w10) := hid (Keep0.step HK9.out hk)
            have HX10 := hid (HX9.out.keep hk (fun h => h))
            have HW10 := hid (hk.ints HWS.out (fun h => h))
            have HI10 := hid (hk.ints HIS.out (fun h => h))
            clear hk HX9 HWS HIS HBS HK9 qbs HPT
            go_wp2_with fail
            apply wp_region_text (WI := fun S wx => Keep0 w10 wx) (by kernel_rfl) (by kernel_rfl)
            case hob =>
              apply Oblig.cons
              case h =>
                intro S w1 hwi hSi hd hcl
                apply StepOk.intro
                intro K hK
                have qw := (hwi.ints HW10.out (fun h => h)).cell p hpl
                rw [hrw] at qw
                have qi := (hwi.ints HI10.out (fun h => h)).cell p (by rw [HLL.out]; exact hpl)
                rw [HV1.out] at qi
                go_simp
                apply hK
                · rfl
                · conv => (lhs; whnf)
                · exact hwi
              simp only [put_lit, put_none]
              try dsimp only [List.set_cons_succ, List.set_cons_zero]
              apply Oblig.cons
              case h =>
                intro S w1 hwi hSi hd hcl
                apply StepOk.intro
                intro K hK
                have qw := (hwi.ints HW10.out (fun h => h)).cell p hpl
                rw [hrw] at qw
                have qi := (hwi.ints HI10.out (fun h => h)).cell p (by rw [HLL.out]; exact hpl)
                rw [HV1.out] at qi
                go_simp
                apply hK
                · rfl
                · conv => (lhs; whnf)
                · exact hwi
              simp only [put_lit, put_none]
              try dsimp only [List.set_cons_succ, List.set_cons_zero]
              apply Oblig.cons
              case h =>
                intro S w1 hwi hSi hd hcl
                apply StepOk.intro
                intro K hK
                have qw := (hwi.ints HW10.out (fun h => h)).cell p hpl
                rw [hrw] at qw
                have qi := (hwi.ints HI10.out (fun h => h)).cell p (by rw [HLL.out]; exact hpl)
                rw [HV1.out] at qi
                go_simp
                apply hK
                · rfl
                · conv => (lhs; whnf)
                · exact hwi
              simp only [put_lit, put_none]
              try dsimp only [List.set_cons_succ, List.set_cons_zero]
              apply Oblig.cons
              case h =>
                intro S w1 hwi hSi hd hcl
                apply StepOk.intro
                intro K hK
                have qw := (hwi.ints HW10.out (fun h => h)).cell p hpl
                rw [hrw] at qw
                have qi := (hwi.ints HI10.out (fun h => h)).cell p (by rw [HLL.out]; exact hpl)
                rw [HV1.out] at qi
                go_simp
                refine (show Calls Try.prog 17 #[ptr x] w1 (Ret (.agg #[i64 0, i64 (f : Int), .bool false, i64 0]) w1) from by rw [← HA.out]; exact cl_Ans (HX10.out.keep hwi (fun h => h))).mono ?_
                rintro e w2 ⟨rfl, hk⟩
                apply hK
                · rfl
                · conv => (lhs; whnf)
                · exact hwi.trans hk (fun _ _ h => h)
              simp only [put_lit, put_none]
              try dsimp only [List.set_cons_succ, List.set_cons_zero]
              apply Oblig.cons
              case h =>
                intro S w1 hwi hSi hd hcl
                apply StepOk.intro
                intro K hK
                have qw := (hwi.ints HW10.out (fun h => h)).cell p hpl
                rw [hrw] at qw
                have qi := (hwi.ints HI10.out (fun h => h)).cell p (by rw [HLL.out]; exact hpl)
                rw [HV1.out] at qi
                go_simp
                apply hK
                · rfl
                · conv => (lhs; whnf)
                · exact hwi
              simp only [put_lit, put_none]
              try dsimp only [List.set_cons_succ, List.set_cons_zero]
              apply Oblig.cons
              case h =>
                intro S w1 hwi hSi hd hcl
                apply StepOk.intro
                intro K hK
                have qw := (hwi.ints HW10.out (fun h => h)).cell p hpl
                rw [hrw] at qw
                have qi := (hwi.ints HI10.out (fun h => h)).cell p (by rw [HLL.out]; exact hpl)
                rw [HV1.out] at qi
                go_simp
                apply hK
                · rfl
                · conv => (lhs; whnf)
                · exact hwi
              simp only [put_lit, put_none]
              try dsimp only [List.set_cons_succ, List.set_cons_zero]
              apply Oblig.cons
              case h =>
                intro S w1 hwi hSi hd hcl
                apply StepOk.intro
                intro K hK
                have qw := (hwi.ints HW10.out (fun h => h)).cell p hpl
                rw [hrw] at qw
                have qi := (hwi.ints HI10.out (fun h => h)).cell p (by rw [HLL.out]; exact hpl)
                rw [HV1.out] at qi
                go_simp
                apply hK
                · rfl
                · conv => (lhs; whnf)
                · exact hwi
              simp only [put_lit, put_none]
              try dsimp only [List.set_cons_succ, List.set_cons_zero]
              apply Oblig.cons
              case h =>
                intro S w1 hwi hSi hd hcl
                apply StepOk.intro
                intro K hK
                have qw := (hwi.ints HW10.out (fun h => h)).cell p hpl
                rw [hrw] at qw
                have qi := (hwi.ints HI10.out (fun h => h)).cell p (by rw [HLL.out]; exact hpl)
                rw [HV1.out] at qi
                go_simp
                apply hK
                · rfl
                · conv => (lhs; whnf)
                · exact hwi
              simp only [put_lit, put_none]
              try dsimp only [List.set_cons_succ, List.set_cons_zero]
              apply Oblig.cons
              case h =>
                intro S w1 hwi hSi hd hcl
                apply StepOk.intro
                intro K hK
                have qw := (hwi.ints HW10.out (fun h => h)).cell p hpl
                rw [hrw] at qw
                have qi := (hwi.ints HI10.out (fun h => h)).cell p (by rw [HLL.out]; exact hpl)
                rw [HV1.out] at qi
                go_simp
                apply hK
                · rfl
                · conv => (lhs; whnf)
                · exact hwi
              simp only [put_lit, put_none]
              try dsimp only [List.set_cons_succ, List.set_cons_zero]
              apply Oblig.cons
              case h =>
                intro S w1 hwi hSi hd hcl
                apply StepOk.intro
                intro K hK
                have qw := (hwi.ints HW10.out (fun h => h)).cell p hpl
                rw [hrw] at qw
                have qi := (hwi.ints HI10.out (fun h => h)).cell p (by rw [HLL.out]; exact hpl)
                rw [HV1.out] at qi
                go_simp
                apply hK
                · rfl
                · conv => (lhs; whnf)
                · exact hwi
              simp only [put_lit, put_none]
              try dsimp only [List.set_cons_succ, List.set_cons_zero]
              apply Oblig.cons
              case h =>
                intro S w1 hwi hSi hd hcl
                apply StepOk.intro
                intro K hK
                have qw := (hwi.ints HW10.out (fun h => h)).cell p hpl
                rw [hrw] at qw
                have qi := (hwi.ints HI10.out (fun h => h)).cell p (by rw [HLL.out]; exact hpl)
                rw [HV1.out] at qi
                go_simp
                apply hK
                · rfl
                · conv => (lhs; whnf)
                · exact hwi
              simp only [put_lit, put_none]
              try dsimp only [List.set_cons_succ, List.set_cons_zero]
              apply Oblig.cons
              case h =>
                intro S w1 hwi hSi hd hcl
                apply StepOk.intro
                intro K hK
                have qw := (hwi.ints HW10.out (fun h => h)).cell p hpl
                rw [hrw] at qw
                have qi := (hwi.ints HI10.out (fun h => h)).cell p (by rw [HLL.out]; exact hpl)
                rw [HV1.out] at qi
                go_simp
                apply hK
                · rfl
                · conv => (lhs; whnf)
                · exact hwi
              simp only [put_lit, put_none]
              try dsimp only [List.set_cons_succ, List.set_cons_zero]
              apply Oblig.cons
              case h =>
                intro S w1 hwi hSi hd hcl
                apply StepOk.intro
                intro K hK
                have qw := (hwi.ints HW10.out (fun h => h)).cell p hpl
                rw [hrw] at qw
                have qi := (hwi.ints HI10.out (fun h => h)).cell p (by rw [HLL.out]; exact hpl)
                rw [HV1.out] at qi
                go_simp
                apply hK
                · rfl
                · conv => (lhs; whnf)
                · exact hwi
              simp only [put_lit, put_none]
              try dsimp only [List.set_cons_succ, List.set_cons_zero]
              apply Oblig.cons
              case h =>
                intro S w1 hwi hSi hd hcl
                apply StepOk.intro
                intro K hK
                have qw := (hwi.ints HW10.out (fun h => h)).cell p hpl
                rw [hrw] at qw
                have qi := (hwi.ints HI10.out (fun h => h)).cell p (by rw [HLL.out]; exact hpl)
                rw [HV1.out] at qi
                go_simp
                apply hK
                · rfl
                · conv => (lhs; whnf)
                · exact hwi
              simp only [put_lit, put_none]
              try dsimp only [List.set_cons_succ, List.set_cons_zero]
              apply Oblig.cons
              case h =>
                intro S w1 hwi hSi hd hcl
                apply StepOk.intro
                intro K hK
                have qw := (hwi.ints HW10.out (fun h => h)).cell p hpl
                rw [hrw] at qw
                have qi := (hwi.ints HI10.out (fun h => h)).cell p (by rw [HLL.out]; exact hpl)
                rw [HV1.out] at qi
                go_simp
                refine (show Calls Try.prog 21 #[ptr x] w1 (Ret (i64 nx) w1) from by rw [← HF4.out]; exact cl_Word (HX10.out.keep hwi (fun h => h))).mono ?_
                rintro e w2 ⟨rfl, hk⟩
                apply hK
                · rfl
                · conv => (lhs; whnf)
                · exact hwi.trans hk (fun _ _ h => h)
              simp only [put_lit, put_none]
              try dsimp only [List.set_cons_succ, List.set_cons_zero]
              apply Oblig.cons
              case h =>
                intro S w1 hwi hSi hd hcl
                apply StepOk.intro
                intro K hK
                have qw := (hwi.ints HW10.out (fun h => h)).cell p hpl
                rw [hrw] at qw
                have qi := (hwi.ints HI10.out (fun h => h)).cell p (by rw [HLL.out]; exact hpl)
                rw [HV1.out] at qi
                go_simp
                apply hK
                · rfl
                · conv => (lhs; whnf)
                · exact hwi
              simp only [put_lit, put_none]
              try dsimp only [List.set_cons_succ, List.set_cons_zero]
              apply Oblig.cons
              case h =>
                intro S w1 hwi hSi hd hcl
                apply StepOk.intro
                intro K hK
                have qw := (hwi.ints HW10.out (fun h => h)).cell p hpl
                rw [hrw] at qw
                have qi := (hwi.ints HI10.out (fun h => h)).cell p (by rw [HLL.out]; exact hpl)
                rw [HV1.out] at qi
                go_simp
                apply hK
                · rfl
                · conv => (lhs; whnf)
                · exact hwi
              simp only [put_lit, put_none]
              try dsimp only [List.set_cons_succ, List.set_cons_zero]
              apply Oblig.cons
              case h =>
                intro S w1 hwi hSi hd hcl
                apply StepOk.intro
                intro K hK
                have qw := (hwi.ints HW10.out (fun h => h)).cell p hpl
                rw [hrw] at qw
                have qi := (hwi.ints HI10.out (fun h => h)).cell p (by rw [HLL.out]; exact hpl)
                rw [HV1.out] at qi
                go_simp
                apply hK
                · rfl
                · conv => (lhs; whnf)
                · exact hwi
              simp only [put_lit, put_none]
              try dsimp only [List.set_cons_succ, List.set_cons_zero]
              apply Oblig.cons
              case h =>
                intro S w1 hwi hSi hd hcl
                apply StepOk.intro
                intro K hK
                have qw := (hwi.ints HW10.out (fun h => h)).cell p hpl
                rw [hrw] at qw
                have qi := (hwi.ints HI10.out (fun h => h)).cell p (by rw [HLL.out]; exact hpl)
                rw [HV1.out] at qi
                go_simp
                apply hK
                · rfl
                · conv => (lhs; whnf)
                · exact hwi
              simp only [put_lit, put_none]
              try dsimp only [List.set_cons_succ, List.set_cons_zero]
              apply Oblig.cons
              case h =>
                intro S w1 hwi hSi hd hcl
                apply StepOk.intro
                intro K hK
                have qw := (hwi.ints HW10.out (fun h => h)).cell p hpl
                rw [hrw] at qw
                have qi := (hwi.ints HI10.out (fun h => h)).cell p (by rw [HLL.out]; exact hpl)
                rw [HV1.out] at qi
                go_simp
                apply hK
                · rfl
                · conv => (lhs; whnf)
                · exact hwi
              simp only [put_lit, put_none]
              try dsimp only [List.set_cons_succ, List.set_cons_zero]
              apply Oblig.cons
              case h =>
                intro S w1 hwi hSi hd hcl
                apply StepOk.intro
                intro K hK
                have qw := (hwi.ints HW10.out (fun h => h)).cell p hpl
                rw [hrw] at qw
                have qi := (hwi.ints HI10.out (fun h => h)).cell p (by rw [HLL.out]; exact hpl)
                rw [HV1.out] at qi
                go_simp
                apply hK
                · rfl
                · conv => (lhs; whnf)
                · exact hwi
              simp only [put_lit, put_none]
              try dsimp only [List.set_cons_succ, List.set_cons_zero]
              apply Oblig.cons
              case h =>
                intro S w1 hwi hSi hd hcl
                apply StepOk.intro
                intro K hK
                have qw := (hwi.ints HW10.out (fun h => h)).cell p hpl
                rw [hrw] at qw
                have qi := (hwi.ints HI10.out (fun h => h)).cell p (by rw [HLL.out]; exact hpl)
                rw [HV1.out] at qi
                go_simp
                apply hK
                · rfl
                · conv => (lhs; whnf)
                · exact hwi
              simp only [put_lit, put_none]
              try dsimp only [List.set_cons_succ, List.set_cons_zero]
              apply Oblig.cons
              case h =>
                intro S w1 hwi hSi hd hcl
                apply StepOk.intro
                intro K hK
                have qw := (hwi.ints HW10.out (fun h => h)).cell p hpl
                rw [hrw] at qw
                have qi := (hwi.ints HI10.out (fun h => h)).cell p (by rw [HLL.out]; exact hpl)
                rw [HV1.out] at qi
                go_simp
                refine (HST.out _).mono ?_
                rintro e w2 ⟨rfl, rfl⟩
                apply hK
                · rfl
                · conv => (lhs; whnf)
                · exact hwi
              simp only [put_lit, put_none]
              try dsimp only [List.set_cons_succ, List.set_cons_zero]
              apply Oblig.cons
              case h =>
                intro S w1 hwi hSi hd hcl
                apply StepOk.intro
                intro K hK
                have qw := (hwi.ints HW10.out (fun h => h)).cell p hpl
                rw [hrw] at qw
                have qi := (hwi.ints HI10.out (fun h => h)).cell p (by rw [HLL.out]; exact hpl)
                rw [HV1.out] at qi
                go_simp
                apply hK
                · rfl
                · conv => (lhs; whnf)
                · exact hwi
              simp only [put_lit, put_none]
              try dsimp only [List.set_cons_succ, List.set_cons_zero]
              apply Oblig.cons
              case h =>
                intro S w1 hwi hSi hd hcl
                apply StepOk.intro
                intro K hK
                have qw := (hwi.ints HW10.out (fun h => h)).cell p hpl
                rw [hrw] at qw
                have qi := (hwi.ints HI10.out (fun h => h)).cell p (by rw [HLL.out]; exact hpl)
                rw [HV1.out] at qi
                go_simp
                apply hK
                · rfl
                · conv => (lhs; whnf)
                · exact hwi
              simp only [put_lit, put_none]
              try dsimp only [List.set_cons_succ, List.set_cons_zero]
              apply Oblig.cons
              case h =>
                intro S w1 hwi hSi hd hcl
                apply StepOk.intro
                intro K hK
                have qw := (hwi.ints HW10.out (fun h => h)).cell p hpl
                rw [hrw] at qw
                have qi := (hwi.ints HI10.out (fun h => h)).cell p (by rw [HLL.out]; exact hpl)
                rw [HV1.out] at qi
                go_simp
                apply hK
                · rfl
                · conv => (lhs; whnf)
                · exact hwi
              simp only [put_lit, put_none]
              try dsimp only [List.set_cons_succ, List.set_cons_zero]
              apply Oblig.cons
              case h =>
                intro S w1 hwi hSi hd hcl
                apply StepOk.intro
                intro K hK
                have qw := (hwi.ints HW10.out (fun h => h)).cell p hpl
                rw [hrw] at qw
                have qi := (hwi.ints HI10.out (fun h => h)).cell p (by rw [HLL.out]; exact hpl)
                rw [HV1.out] at qi
                go_simp
                apply hK
                · rfl
                · conv => (lhs; whnf)
                · exact hwi
              simp only [put_lit, put_none]
              try dsimp only [List.set_cons_succ, List.set_cons_zero]
              apply Oblig.cons
              case h =>
                intro S w1 hwi hSi hd hcl
                apply StepOk.intro
                intro K hK
                have qw := (hwi.ints HW10.out (fun h => h)).cell p hpl
                rw [hrw] at qw
                have qi := (hwi.ints HI10.out (fun h => h)).cell p (by rw [HLL.out]; exact hpl)
                rw [HV1.out] at qi
                go_simp
                apply hK
                · rfl
                · conv => (lhs; whnf)
                · exact hwi
              simp only [put_lit, put_none]
              try dsimp only [List.set_cons_succ, List.set_cons_zero]
              apply Oblig.cons
              case h =>
                intro S w1 hwi hSi hd hcl
                apply StepOk.intro
                intro K hK
                have qw := (hwi.ints HW10.out (fun h => h)).cell p hpl
                rw [hrw] at qw
                have qi := (hwi.ints HI10.out (fun h => h)).cell p (by rw [HLL.out]; exact hpl)
                rw [HV1.out] at qi
                go_simp
                apply hK
                · rfl
                · conv => (lhs; whnf)
                · exact hwi
              simp only [put_lit, put_none]
              try dsimp only [List.set_cons_succ, List.set_cons_zero]
              apply Oblig.cons
              case h =>
                intro S w1 hwi hSi hd hcl
                apply StepOk.intro
                intro K hK
                have qw := (hwi.ints HW10.out (fun h => h)).cell p hpl
                rw [hrw] at qw
                have qi := (hwi.ints HI10.out (fun h => h)).cell p (by rw [HLL.out]; exact hpl)
                rw [HV1.out] at qi
                go_simp
                apply hK
                · rfl
                · conv => (lhs; whnf)
                · exact hwi
              simp only [put_lit, put_none]
              try dsimp only [List.set_cons_succ, List.set_cons_zero]
              apply Oblig.cons
              case h =>
                intro S w1 hwi hSi hd hcl
                apply StepOk.intro
                intro K hK
                have qw := (hwi.ints HW10.out (fun h => h)).cell p hpl
                rw [hrw] at qw
                have qi := (hwi.ints HI10.out (fun h => h)).cell p (by rw [HLL.out]; exact hpl)
                rw [HV1.out] at qi
                go_simp
                apply hK
                · rfl
                · conv => (lhs; whnf)
                · exact hwi
              simp only [put_lit, put_none]
              try dsimp only [List.set_cons_succ, List.set_cons_zero]
              apply Oblig.cons
              case h =>
                intro S w1 hwi hSi hd hcl
                apply StepOk.intro
                intro K hK
                have qw := (hwi.ints HW10.out (fun h => h)).cell p hpl
                rw [hrw] at qw
                have qi := (hwi.ints HI10.out (fun h => h)).cell p (by rw [HLL.out]; exact hpl)
                rw [HV1.out] at qi
                go_simp
                apply hK
                · rfl
                · conv => (lhs; whnf)
                · exact hwi
              simp only [put_lit, put_none]
              try dsimp only [List.set_cons_succ, List.set_cons_zero]
              apply Oblig.cons
              case h =>
                intro S w1 hwi hSi hd hcl
                apply StepOk.intro
                intro K hK
                have qw := (hwi.ints HW10.out (fun h => h)).cell p hpl
                rw [hrw] at qw
                have qi := (hwi.ints HI10.out (fun h => h)).cell p (by rw [HLL.out]; exact hpl)
                rw [HV1.out] at qi
                go_simp
                apply hK
                · rfl
                · conv => (lhs; whnf)
                · exact hwi
              simp only [put_lit, put_none]
              try dsimp only [List.set_cons_succ, List.set_cons_zero]
              apply Oblig.cons
              case h =>
                intro S w1 hwi hSi hd hcl
                apply StepOk.intro
                intro K hK
                have qw := (hwi.ints HW10.out (fun h => h)).cell p hpl
                rw [hrw] at qw
                have qi := (hwi.ints HI10.out (fun h => h)).cell p (by rw [HLL.out]; exact hpl)
                rw [HV1.out] at qi
                go_simp
                apply hK
                · rfl
                · conv => (lhs; whnf)
                · exact hwi
              simp only [put_lit, put_none]
              try dsimp only [List.set_cons_succ, List.set_cons_zero]
              apply Oblig.cons
              case h =>
                intro S w1 hwi hSi hd hcl
                apply StepOk.intro
                intro K hK
                have qw := (hwi.ints HW10.out (fun h => h)).cell p hpl
                rw [hrw] at qw
                have qi := (hwi.ints HI10.out (fun h => h)).cell p (by rw [HLL.out]; exact hpl)
                rw [HV1.out] at qi
                go_simp
                apply hK
                · rfl
                · conv => (lhs; whnf)
                · exact hwi
              simp only [put_lit, put_none]
              try dsimp only [List.set_cons_succ, List.set_cons_zero]
              apply Oblig.cons
              case h =>
                intro S w1 hwi hSi hd hcl
                apply StepOk.intro
                intro K hK
                have qw := (hwi.ints HW10.out (fun h => h)).cell p hpl
                rw [hrw] at qw
                have qi := (hwi.ints HI10.out (fun h => h)).cell p (by rw [HLL.out]; exact hpl)
                rw [HV1.out] at qi
                go_simp
                apply hK
                · rfl
                · conv => (lhs; whnf)
                · exact hwi
              simp only [put_lit, put_none]
              try dsimp only [List.set_cons_succ, List.set_cons_zero]
              apply Oblig.cons
              case h =>
                intro S w1 hwi hSi hd hcl
                apply StepOk.intro
                intro K hK
                have qw := (hwi.ints HW10.out (fun h => h)).cell p hpl
                rw [hrw] at qw
                have qi := (hwi.ints HI10.out (fun h => h)).cell p (by rw [HLL.out]; exact hpl)
                rw [HV1.out] at qi
                go_simp
                apply hK
                · rfl
                · conv => (lhs; whnf)
                · exact hwi
              simp only [put_lit, put_none]
              try dsimp only [List.set_cons_succ, List.set_cons_zero]
              exact Oblig.nil
            case h0 =>
              exact (Keep.refl _ _).drew
            case hend =>
              intro S wx hwi hall
              have HKX := hid hwi
              clear hwi hall
              go_wp2_with fail
              go_ret
              exact ⟨rfl, HK10.out.trans HKX.out (fun _ _ h => h)⟩
    · have e1 : (((i + 1 : Nat) : Int) - 1) = (i : Int) := by push_cast; omega
      rw [e1]
      have hc := ck_lt (s := S) (j := i) hK.1
      have HFF := hid (show fF K S q WW (K - i) i = if st10 (rd WW (q + 2 * ck K S i)) = 0 then ((ck K S i : Nat) : Int) else fF K S q WW (K - (i + 1)) (i + 1) from by rw [show K - i = (K - (i + 1)) + 1 by omega]; rfl)
      have HTK := hid (fun (w' : World) => ref_Ticket t s g l r (K : Int) PA P.length pc LA L.length lc ((ck K S i : Nat) : Int) w' hs.1 hs.2 (by omega) (by omega) (by omega))
      rw [← HQ.out, show (q : Int) + 2 * ((ck K S i : Nat) : Int) = ((q + 2 * ck K S i : Nat) : Int) by push_cast; rfl] at HTK
      have y1 : IntKind.i64.wrap ((S : Int) + (i : Int)) = (S : Int) + (i : Int) := IntWalk.i64_in _ (by omega)
      have y2 : ((S : Int) + (i : Int)).tmod (K : Int) = ((ck K S i : Nat) : Int) := by rw [Int.tmod_eq_emod_of_nonneg (by omega)]; unfold ck; push_cast; rfl
      have y3 : ¬ K = 0 := by omega
      have y4 : IntKind.i64.wrap ((i : Int) - 1) = (i : Int) - 1 := IntWalk.i64_in _ (by omega)
      generalize ck K S i = c at *
      generalize fF K S q WW (K - (i + 1)) (i + 1) = f0 at *
      have hpl : q + 2 * c < WW.length := by omega
      generalize q + 2 * c = p at *
      have HST := hid (fun w' => ref10_State (rd WW p) w')
      by_cases hz : st10 (rd WW p) = 0
      · rw [if_pos hz] at HFF
        rw [hz] at HST
        clear hz
        go_wp2_with fail
        apply wp_region_text (WI := fun S wx => Keep0 wr wx) (by kernel_rfl) (by kernel_rfl)
        case hob =>
          apply Oblig.cons
          case h =>
            intro S w1 hwi hSi hd hcl
            apply StepOk.intro
            intro K hK
            have cb := (hwi.blk HBR.out (fun h => h)).k8
            have qw := (hwi.ints HWR.out (fun h => h)).cell p hpl
            go_simp
            apply hK
            · rfl
            · conv => (lhs; whnf)
            · exact hwi
          simp only [put_lit, put_none]
          try dsimp only [List.set_cons_succ, List.set_cons_zero]
          apply Oblig.cons
          case h =>
            intro S w1 hwi hSi hd hcl
            apply StepOk.intro
            intro K hK
            have cb := (hwi.blk HBR.out (fun h => h)).k8
            have qw := (hwi.ints HWR.out (fun h => h)).cell p hpl
            go_simp
            apply hK
            · rfl
            · conv => (lhs; whnf)
            · exact hwi
          simp only [put_lit, put_none]
          try dsimp only [List.set_cons_succ, List.set_cons_zero]
          apply Oblig.cons
          case h =>
            intro S w1 hwi hSi hd hcl
            apply StepOk.intro
            intro K hK
            have cb := (hwi.blk HBR.out (fun h => h)).k8
            have qw := (hwi.ints HWR.out (fun h => h)).cell p hpl
            go_simp
            apply hK
            · rfl
            · conv => (lhs; whnf)
            · exact hwi
          simp only [put_lit, put_none]
          try dsimp only [List.set_cons_succ, List.set_cons_zero]
          apply Oblig.cons
          case h =>
            intro S w1 hwi hSi hd hcl
            apply StepOk.intro
            intro K hK
            have cb := (hwi.blk HBR.out (fun h => h)).k8
            have qw := (hwi.ints HWR.out (fun h => h)).cell p hpl
            go_simp
            apply hK
            · rfl
            · conv => (lhs; whnf)
            · exact hwi
          simp only [put_lit, put_none]
          try dsimp only [List.set_cons_succ, List.set_cons_zero]
          apply Oblig.cons
          case h =>
            intro S w1 hwi hSi hd hcl
            apply StepOk.intro
            intro K hK
            have cb := (hwi.blk HBR.out (fun h => h)).k8
            have qw := (hwi.ints HWR.out (fun h => h)).cell p hpl
            go_simp
            apply hK
            · rfl
            · conv => (lhs; whnf)
            · exact hwi
          simp only [put_lit, put_none]
          try dsimp only [List.set_cons_succ, List.set_cons_zero]
          apply Oblig.cons
          case h =>
            intro S w1 hwi hSi hd hcl
            apply StepOk.intro
            intro K hK
            have cb := (hwi.blk HBR.out (fun h => h)).k8
            have qw := (hwi.ints HWR.out (fun h => h)).cell p hpl
            go_simp
            apply hK
            · rfl
            · conv => (lhs; whnf)
            · exact hwi
          simp only [put_lit, put_none]
          try dsimp only [List.set_cons_succ, List.set_cons_zero]
          apply Oblig.cons
          case h =>
            intro S w1 hwi hSi hd hcl
            apply StepOk.intro
            intro K hK
            have cb := (hwi.blk HBR.out (fun h => h)).k8
            have qw := (hwi.ints HWR.out (fun h => h)).cell p hpl
            go_simp
            apply hK
            · rfl
            · conv => (lhs; whnf)
            · exact hwi
          simp only [put_lit, put_none]
          try dsimp only [List.set_cons_succ, List.set_cons_zero]
          apply Oblig.cons
          case h =>
            intro S w1 hwi hSi hd hcl
            apply StepOk.intro
            intro K hK
            have cb := (hwi.blk HBR.out (fun h => h)).k8
            have qw := (hwi.ints HWR.out (fun h => h)).cell p hpl
            go_simp
            apply hK
            · rfl
            · conv => (lhs; whnf)
            · exact hwi
          simp only [put_lit, put_none]
          try dsimp only [List.set_cons_succ, List.set_cons_zero]
          apply Oblig.cons
          case h =>
            intro S w1 hwi hSi hd hcl
            apply StepOk.intro
            intro K hK
            have cb := (hwi.blk HBR.out (fun h => h)).k8
            have qw := (hwi.ints HWR.out (fun h => h)).cell p hpl
            go_simp
            refine (HTK.out _).mono ?_
            rintro e w2 ⟨rfl, hk⟩
            apply hK
            · rfl
            · conv => (lhs; whnf)
            · exact hwi.trans hk (fun _ _ h => h)
          simp only [put_lit, put_none]
          try dsimp only [List.set_cons_succ, List.set_cons_zero]
          apply Oblig.cons
          case h =>
            intro S w1 hwi hSi hd hcl
            apply StepOk.intro
            intro K hK
            have cb := (hwi.blk HBR.out (fun h => h)).k8
            have qw := (hwi.ints HWR.out (fun h => h)).cell p hpl
            go_simp
            apply hK
            · rfl
            · conv => (lhs; whnf)
            · exact hwi
          simp only [put_lit, put_none]
          try dsimp only [List.set_cons_succ, List.set_cons_zero]
          apply Oblig.cons
          case h =>
            intro S w1 hwi hSi hd hcl
            apply StepOk.intro
            intro K hK
            have cb := (hwi.blk HBR.out (fun h => h)).k8
            have qw := (hwi.ints HWR.out (fun h => h)).cell p hpl
            go_simp
            apply hK
            · rfl
            · conv => (lhs; whnf)
            · exact hwi
          simp only [put_lit, put_none]
          try dsimp only [List.set_cons_succ, List.set_cons_zero]
          apply Oblig.cons
          case h =>
            intro S w1 hwi hSi hd hcl
            apply StepOk.intro
            intro K hK
            have cb := (hwi.blk HBR.out (fun h => h)).k8
            have qw := (hwi.ints HWR.out (fun h => h)).cell p hpl
            go_simp
            refine (HST.out _).mono ?_
            rintro e w2 ⟨rfl, rfl⟩
            apply hK
            · rfl
            · conv => (lhs; whnf)
            · exact hwi
          simp only [put_lit, put_none]
          try dsimp only [List.set_cons_succ, List.set_cons_zero]
          apply Oblig.cons
          case h =>
            intro S w1 hwi hSi hd hcl
            apply StepOk.intro
            intro K hK
            have cb := (hwi.blk HBR.out (fun h => h)).k8
            have qw := (hwi.ints HWR.out (fun h => h)).cell p hpl
            go_simp
            apply hK
            · rfl
            · conv => (lhs; whnf)
            · exact hwi
          simp only [put_lit, put_none]
          try dsimp only [List.set_cons_succ, List.set_cons_zero]
          exact Oblig.nil
        case h0 =>
          exact (Keep.refl _ _).drew
        case hend =>
          intro S wx hwi hall
          have HKX := hid hwi
          have qb2 := (hwi.blk HBR.out (fun h => h)).k8
          clear hwi hall
          go_wp2_with fail
          go_roundw
          case rel => exact ⟨i, by omega, rfl, by rw [HFF.out], HKR.out.trans HKX.out (fun _ _ h => h)⟩
          case measure => first | (simp [intOf]; done) | (simp [intOf]; omega)
      · rw [if_neg hz] at HFF
        have y5 : (st10 (rd WW p) == 0) = false := by simpa using hz
        clear hz
        generalize st10 (rd WW p) = sz at *
        go_wp2_with fail
        apply wp_region_text (WI := fun S wx => Keep0 wr wx) (by kernel_rfl) (by kernel_rfl)
        case hob =>
          apply Oblig.cons
          case h =>
            intro S w1 hwi hSi hd hcl
            apply StepOk.intro
            intro K hK
            have cb := (hwi.blk HBR.out (fun h => h)).k8
            have qw := (hwi.ints HWR.out (fun h => h)).cell p hpl
            go_simp
            apply hK
            · rfl
            · conv => (lhs; whnf)
            · exact hwi
          simp only [put_lit, put_none]
          try dsimp only [List.set_cons_succ, List.set_cons_zero]
          apply Oblig.cons
          case h =>
            intro S w1 hwi hSi hd hcl
            apply StepOk.intro
            intro K hK
            have cb := (hwi.blk HBR.out (fun h => h)).k8
            have qw := (hwi.ints HWR.out (fun h => h)).cell p hpl
            go_simp
            apply hK
            · rfl
            · conv => (lhs; whnf)
            · exact hwi
          simp only [put_lit, put_none]
          try dsimp only [List.set_cons_succ, List.set_cons_zero]
          apply Oblig.cons
          case h =>
            intro S w1 hwi hSi hd hcl
            apply StepOk.intro
            intro K hK
            have cb := (hwi.blk HBR.out (fun h => h)).k8
            have qw := (hwi.ints HWR.out (fun h => h)).cell p hpl
            go_simp
            apply hK
            · rfl
            · conv => (lhs; whnf)
            · exact hwi
          simp only [put_lit, put_none]
          try dsimp only [List.set_cons_succ, List.set_cons_zero]
          apply Oblig.cons
          case h =>
            intro S w1 hwi hSi hd hcl
            apply StepOk.intro
            intro K hK
            have cb := (hwi.blk HBR.out (fun h => h)).k8
            have qw := (hwi.ints HWR.out (fun h => h)).cell p hpl
            go_simp
            apply hK
            · rfl
            · conv => (lhs; whnf)
            · exact hwi
          simp only [put_lit, put_none]
          try dsimp only [List.set_cons_succ, List.set_cons_zero]
          apply Oblig.cons
          case h =>
            intro S w1 hwi hSi hd hcl
            apply StepOk.intro
            intro K hK
            have cb := (hwi.blk HBR.out (fun h => h)).k8
            have qw := (hwi.ints HWR.out (fun h => h)).cell p hpl
            go_simp
            apply hK
            · rfl
            · conv => (lhs; whnf)
            · exact hwi
          simp only [put_lit, put_none]
          try dsimp only [List.set_cons_succ, List.set_cons_zero]
          apply Oblig.cons
          case h =>
            intro S w1 hwi hSi hd hcl
            apply StepOk.intro
            intro K hK
            have cb := (hwi.blk HBR.out (fun h => h)).k8
            have qw := (hwi.ints HWR.out (fun h => h)).cell p hpl
            go_simp
            apply hK
            · rfl
            · conv => (lhs; whnf)
            · exact hwi
          simp only [put_lit, put_none]
          try dsimp only [List.set_cons_succ, List.set_cons_zero]
          apply Oblig.cons
          case h =>
            intro S w1 hwi hSi hd hcl
            apply StepOk.intro
            intro K hK
            have cb := (hwi.blk HBR.out (fun h => h)).k8
            have qw := (hwi.ints HWR.out (fun h => h)).cell p hpl
            go_simp
            apply hK
            · rfl
            · conv => (lhs; whnf)
            · exact hwi
          simp only [put_lit, put_none]
          try dsimp only [List.set_cons_succ, List.set_cons_zero]
          apply Oblig.cons
          case h =>
            intro S w1 hwi hSi hd hcl
            apply StepOk.intro
            intro K hK
            have cb := (hwi.blk HBR.out (fun h => h)).k8
            have qw := (hwi.ints HWR.out (fun h => h)).cell p hpl
            go_simp
            apply hK
            · rfl
            · conv => (lhs; whnf)
            · exact hwi
          simp only [put_lit, put_none]
          try dsimp only [List.set_cons_succ, List.set_cons_zero]
          apply Oblig.cons
          case h =>
            intro S w1 hwi hSi hd hcl
            apply StepOk.intro
            intro K hK
            have cb := (hwi.blk HBR.out (fun h => h)).k8
            have qw := (hwi.ints HWR.out (fun h => h)).cell p hpl
            go_simp
            refine (HTK.out _).mono ?_
            rintro e w2 ⟨rfl, hk⟩
            apply hK
            · rfl
            · conv => (lhs; whnf)
            · exact hwi.trans hk (fun _ _ h => h)
          simp only [put_lit, put_none]
          try dsimp only [List.set_cons_succ, List.set_cons_zero]
          apply Oblig.cons
          case h =>
            intro S w1 hwi hSi hd hcl
            apply StepOk.intro
            intro K hK
            have cb := (hwi.blk HBR.out (fun h => h)).k8
            have qw := (hwi.ints HWR.out (fun h => h)).cell p hpl
            go_simp
            apply hK
            · rfl
            · conv => (lhs; whnf)
            · exact hwi
          simp only [put_lit, put_none]
          try dsimp only [List.set_cons_succ, List.set_cons_zero]
          apply Oblig.cons
          case h =>
            intro S w1 hwi hSi hd hcl
            apply StepOk.intro
            intro K hK
            have cb := (hwi.blk HBR.out (fun h => h)).k8
            have qw := (hwi.ints HWR.out (fun h => h)).cell p hpl
            go_simp
            apply hK
            · rfl
            · conv => (lhs; whnf)
            · exact hwi
          simp only [put_lit, put_none]
          try dsimp only [List.set_cons_succ, List.set_cons_zero]
          apply Oblig.cons
          case h =>
            intro S w1 hwi hSi hd hcl
            apply StepOk.intro
            intro K hK
            have cb := (hwi.blk HBR.out (fun h => h)).k8
            have qw := (hwi.ints HWR.out (fun h => h)).cell p hpl
            go_simp
            refine (HST.out _).mono ?_
            rintro e w2 ⟨rfl, rfl⟩
            apply hK
            · rfl
            · conv => (lhs; whnf)
            · exact hwi
          simp only [put_lit, put_none]
          try dsimp only [List.set_cons_succ, List.set_cons_zero]
          apply Oblig.cons
          case h =>
            intro S w1 hwi hSi hd hcl
            apply StepOk.intro
            intro K hK
            have cb := (hwi.blk HBR.out (fun h => h)).k8
            have qw := (hwi.ints HWR.out (fun h => h)).cell p hpl
            go_simp
            apply hK
            · rfl
            · conv => (lhs; whnf)
            · exact hwi
          simp only [put_lit, put_none]
          try dsimp only [List.set_cons_succ, List.set_cons_zero]
          exact Oblig.nil
        case h0 =>
          exact (Keep.refl _ _).drew
        case hend =>
          intro S wx hwi hall
          have HKX := hid hwi
          have qb2 := (hwi.blk HBR.out (fun h => h)).k8
          clear hwi hall
          go_wp2_with fail
          go_roundw
          case rel => exact ⟨i, by omega, rfl, by rw [HFF.out], HKR.out.trans HKX.out (fun _ _ h => h)⟩
          case measure => first | (simp [intOf]; done) | (simp [intOf]; omega)
end Go.Proofs.Ytjloccnbcgkmgaa
