/- ClaimEnd: behind its end a machine does nothing more. -/
import Derived.Test.YtjloccnbcgkmgaaLawClaim
import Derived.Test.YtjloccnbcgkmgaaHeadClaim
import Derived.Test.YtjloccnbcgkmgaaClaimL
import Derived.Test.YtjloccnbcgkmgaaRowThree
import Derived.Test.YtjloccnbcgkmgaaLog
import Derived.Test.YtjloccnbcgkmgaaGhost
namespace Go.Proofs.Ytjloccnbcgkmgaa
open Go.RowKit
set_option linter.unusedVariables false
set_option linter.unusedSimpArgs false
set_option maxRecDepth 100000
def endD (n : Nat) : Nat → Value → World → Prop
  | 9 => fun u w => ∃ A c, u = .slice A n c
  | _ => fun _ _ => True
theorem endD_stable {n : Nat} : Stable (endD n) := by
  intro i u w w' h hk
  unfold endD at *
  split at h <;> first | exact h | trivial
set_option maxHeartbeats 4000000 in
theorem claimEnd_walk {w : World} {v0 v1 : Value} (hc : ConfIn w v0) (hv : ∃ l, IntsIn w v1 l) (st : Int) (hst : (Lit.int .u16 st).wf = true) (most : Int) (hy : (Lit.int .u8 most).wf = true) : Calls Try.prog 7 #[v0, v1, .int .u16 st, .int .u8 most] w (Ret (.bool true) w) := by
  have hst := bounds_u16 hst
  have hy := bounds_u8 hy
  obtain ⟨t, s, g, l, r, k, P, L, PA, pc, LA, lc, rfl, hP, hL, hp1, hl1⟩ := hc
  obtain ⟨V, VA, vc, rfl, hv1, hV⟩ := hv
  have HGD := hid (fun (w' : World) (hk : Keep0 w w') => law11_Good t s g l r k PA P pc LA L lc VA V.length vc none 0 0 w' (hP.keep hk) (hL.keep hk) hp1 hl1)
  have HLI := hid hL
  have HVI := hid hV
  clear hP hL hV hp1 hl1
  have HK0 : Hid (Keep0 w (w.alloc (.cells #[i64 t, i64 s, i64 g, i64 l, i64 r, i64 k, .slice PA P.length pc, .slice LA L.length lc] 24))) := hid ((Keep.refl _ _).alloc _)
  have hs0 : 0 ≤ st % 1001 := Int.emod_nonneg _ (by omega)
  have hs1 : st % 1001 < 1001 := Int.emod_lt_of_pos _ (by omega)
  obtain ⟨S, hS⟩ := Int.eq_ofNat_of_zero_le hs0
  have HS := hid hS
  have hS9 : S < 1001 := by omega
  clear hS hs0 hs1
  have hq0 : 0 ≤ most % 10 := Int.emod_nonneg _ (by omega)
  have hq1 : most % 10 < 10 := Int.emod_lt_of_pos _ (by omega)
  obtain ⟨mo, hmo⟩ := Int.eq_ofNat_of_zero_le hq0
  have HMO := hid hmo
  have hmo9 : mo < 10 := by omega
  clear hmo hq0 hq1
  
  go_enter Try.func7, Try.ntmps7
  go_wp2_with fail
  have HB : Hid (Blk (w.alloc (.cells #[i64 t, i64 s, i64 g, i64 l, i64 r, i64 k, .slice PA P.length pc, .slice LA L.length lc] 24)) w.heap.size 24 [i64 t, i64 s, i64 g, i64 l, i64 r, i64 k, .slice PA P.length pc, .slice LA L.length lc]) := hid (Blk.made rfl rfl)
  have qHB := HB.out.k8
  refine (law11_head _).mono ?_
  rintro e w1 ⟨rfl, hk⟩
  have HK1 : Hid (Keep0 w w1) := hid (Keep0.step (by repeat (with_reducible first | exact Keep.refl _ _ | exact HK0.out | apply Keep.alloc | apply Keep.drewN | apply Keep.drew)) hk)
  have THB := hk.blk (show Blk _ _ _ _ from by repeat (with_reducible first | exact HB.out | apply Blk.alloc | apply Blk.drewN | apply Blk.drew)) (fun h => h)
  clear hk qHB HB HK0
  have HB := hid THB
  clear THB
  have qHB := HB.out.k8
  go_wp2_with fail
  refine (HGD.out _ HK1.out).mono ?_
  rintro e w2 ⟨rfl, hk⟩
  have HK2 : Hid (Keep0 w w2) := hid (Keep0.step (by repeat (with_reducible first | exact Keep.refl _ _ | exact HK1.out | apply Keep.alloc | apply Keep.drewN | apply Keep.drew)) hk)
  have THB := hk.blk (show Blk _ _ _ _ from by repeat (with_reducible first | exact HB.out | apply Blk.alloc | apply Blk.drewN | apply Blk.drew)) (fun h => h)
  clear hk qHB HB HK1
  have HB := hid THB
  clear THB
  have qHB := HB.out.k8
  clear HGD
  cases hgood : good11 t s g l r k P L V.length 0
  · go_wp2_with fail
    go_ret
    exact ⟨rfl, HK2.out⟩
  simp only [good11, Bool.and_eq_true, decide_eq_true_eq] at hgood
  obtain ⟨⟨hgood, hv40⟩, hk40⟩ := hgood
  have R := Right.of hgood
  clear hgood hv1
  obtain ⟨K, rfl⟩ := Int.eq_ofNat_of_zero_le (show 0 ≤ k by have := R.k; omega)
  have hs := R.sb
  have hp := R.p
  have hK : 1 ≤ K ∧ K ≤ 16 := by have := R.k; omega
  have hm4 := mul_bd 12 22 (show (0 : Int) ≤ P.length by omega) (by omega) (show 0 ≤ 6 + 2 * s by omega) (by omega)
  obtain ⟨q, hq⟩ : ∃ q : Nat, (q : Int) = P.length * (6 + 2 * s) := ⟨((P.length : Int) * (6 + 2 * s)).toNat, by omega⟩
  have hq264 : q ≤ 264 := by omega
  have HWO := hid (fun (w' : World) (hk : Keep0 w w') => law11_words t s g l r K q PA P pc LA L lc VA V vc w' (HLI.out.keep hk) (HVI.out.keep hk) R hq hv40)
  have hln : q + 2 * K = (words11 s K P.length q L V).length := by rw [words11, tkW_length, freshW_length]; omega
  have HQ := hid hq
  have HR := hid R
  clear hm4 R hq HLI HVI
  generalize words11 s K P.length q L V = WW at *
  have hWm : WW.length ≤ 10000 := by omega
  have hW0 : 0 < WW.length := by omega
  have hk2s := HK2.out.size
  go_wp2_with fail
  refine (HWO.out _ HK2.out).mono ?_
  rintro e w3 ⟨WA, Wc, rfl, how, hk⟩
  have HK3 : Hid (Keep0 w w3) := hid (Keep0.step (by repeat (with_reducible first | exact Keep.refl _ _ | exact HK2.out | apply Keep.alloc | apply Keep.drewN | apply Keep.drew)) hk)
  have THB := hk.blk (show Blk _ _ _ _ from by repeat (with_reducible first | exact HB.out | apply Blk.alloc | apply Blk.drewN | apply Blk.drew)) (fun h => h)
  clear hk qHB HB HK2
  have HB := hid THB
  clear THB
  have qHB := HB.out.k8
  obtain ⟨wg, rfl, hwg, hwge⟩ := ints_own how (by omega) rfl
  have HWG := hid hwg
  clear hwg HWO
  have hwz : w.heap.size ≤ wg := Nat.le_trans hk2s hwge
  clear hk2s
  clear how hwge
  have hwg3 := HWG.out.lt
  have hk3s := HK3.out.size
  go_wp2_with fail
  refine (law8_Laid w.heap.size _ _ _ WW HWG.out.at_ hWm HK3.out.size).mono ?_
  rintro e w4 ⟨m, a, lv, rfl, hm, hk, hzm, hza⟩
  have HK4 : Hid (Keep0 w w4) := hid (Keep0.step (by repeat (with_reducible first | exact Keep.refl _ _ | exact HK3.out | apply Keep.alloc | apply Keep.drewN | apply Keep.drew)) hk)
  have THB := hk.blk (show Blk _ _ _ _ from by repeat (with_reducible first | exact HB.out | apply Blk.alloc | apply Blk.drewN | apply Blk.drew)) (fun h => h)
  have THWG := hk.ints (show Ints _ _ _ from by repeat (with_reducible first | exact HWG.out | apply Ints.alloc | apply Ints.drewN | apply Ints.drew)) (fun h => h)
  clear hk qHB HB HWG HK3
  have HB := hid THB
  clear THB
  have qHB := HB.out.k8
  have HWG := hid THWG
  clear THWG
  have HM := hid hm
  have hzm' : w.heap.size ≤ m := Nat.le_trans hk3s hzm
  have hza' : w.heap.size ≤ a := Nat.le_trans hk3s hza
  clear hk3s
  have hwgm : wg ≠ a := by omega
  have hwgm2 : wg ≠ m := by omega
  clear hm hzm hza hwg3
  clear HWG
  go_wp2_with fail
  rw [HS.out]
  have haz := HM.out.words.lt
  have hks := HK4.out.size
  refine (claim_New ⟨t, s, g, l, r, PA, P.length, pc, LA, L.length, lc⟩ K (S) _ hK (by omega)).mono ?_
  rintro e w5 ⟨x, gl, cc, rfl, hx, hgl, hcap, hk, hcl, hr⟩
  have HK5 : Hid (Keep0 w w5) := hid (Keep0.step (by repeat (with_reducible first | exact Keep.refl _ _ | exact HK4.out | apply Keep.alloc | apply Keep.drewN | apply Keep.drew)) hk)
  have THB := hk.blk (show Blk _ _ _ _ from by repeat (with_reducible first | exact HB.out | apply Blk.alloc | apply Blk.drewN | apply Blk.drew)) (fun h => h)
  have THM := MemAt.same (by repeat (with_reducible first | exact HM.out | apply MemAt.alloc | apply MemAt.drew)) hk
  clear hk qHB HB HM HK4
  have HB := hid THB
  clear THB
  have qHB := HB.out.k8
  have HM := hid THM
  clear THM
  have hga : gl ≠ a := by omega
  have HX := hid (hcl WW [])
  have HR := hid hr
  have HCO : Hid (COk ⟨t, s, g, l, r, PA, P.length, pc, LA, L.length, lc⟩ K q cc) := hid ⟨HQ.out, hs, (by show P.length ≤ 1000; omega), hcap⟩
  have hzx : w.heap.size ≤ x := Nat.le_trans hks hx
  clear hks haz hx hgl hcap hcl hr
  clear qHB HB
  go_wp2_with fail
  rw [HMO.out]
  have hci : CInv K q ⟨WW, [], 0, false, 0, 0, 0, 0⟩ := CInv.start (by omega) (by omega) hK
  have hp := play_claim (B := w.heap.size) (w := w5) (m := m) (a := a) (x := x) (lv := lv) (K := K) (s := S) (q := q) ⟨WW, [], 0, false, 0, 0, 0, 0⟩ [] none 0 0 0 (mo) HM.out HX.out HR.out hga hci HCO.out (by simp) (by omega) (by simp) (fun h => by simp at h) (fun i h => by simp at h)
  rw [show (CS.mk WW [] 0 false 0 0 0 0).W.length = WW.length from rfl] at hp
  have hcp := cPlay (K := K) (s := S) (q := q) WW.length [] (mo) 0 ⟨WW, [], 0, false, 0, 0, 0, 0⟩ rfl rfl hci
  generalize playF (cStp K (S) q) cPk WW.length [] (mo) 0 ⟨WW, [], 0, false, 0, 0, 0, 0⟩ = pf at *
  obtain ⟨pt, pn, pb⟩ := pf
  simp only at hp
  refine hp.mono ?_
  rintro e w6 ⟨rfl, ⟨kk, lv', hm, ho, hx, _, _, hin, _, hr, _⟩, hk⟩
  have HK6 : Hid (Keep0 w w6) := hid (clplay_far HM.out hzx hk HK5.out rfl)
  clear hp ho HM HX HR HK5 hk 
  obtain ⟨lv, hlv⟩ : ∃ v, v = lv' := ⟨_, rfl⟩
  subst hlv
  have HM := hid hm
  have HX := hid hx
  have HI := hid hin
  clear hm hx hr hin hci
  have hle := hcp.le
  have hlg := hcp.log
  simp only at hle hlg
  cases pb
  · obtain ⟨hf, hn⟩ := hcp.not rfl
    simp only at hf hn
    obtain rfl : pn = mo := by omega
    have hz := HI.out.z hf
    have ha : clAns pt = .agg #[i64 0, i64 0, .bool false, i64 0] := by simp [clAns, hf, hz.2]
    have HW0 := hid hz.1
    have hans := cl_Ans HX.out
    rw [ha] at hans
    clear hf hn hz ha hcp hle hlg
    go_wp2_with fail
    refine hans.mono ?_
    rintro e w7 ⟨rfl, hk⟩
    have HK7 : Hid (Keep0 w w7) := hid (Keep0.step HK6.out hk)
    have HX1 := hid (HX.out.keep hk (fun h => h))
    clear hk hans HX
    go_wp2_with fail
    refine (show Calls Try.prog 21 #[ptr x] _ (Ret (i64 0) _) from by rw [← HW0.out]; exact cl_Word (HX1.out.alloc _)).mono ?_
    rintro e w8 ⟨rfl, hk⟩
    have HK8 : Hid (Keep0 w w8) := hid (Keep0.step (by repeat (with_reducible first | exact Keep.refl _ _ | exact HK7.out | apply Keep.alloc | apply Keep.drewN | apply Keep.drew)) hk)
    clear hk
    go_wp2_with fail
    rw [HMO.out]
    go_wp2_with fail
    go_ret
    exact ⟨by show Ending.returned (.bool (((pn : Nat) : Int) == ((pn : Nat) : Int))) = _; rw [beq_self_eq_true], HK8.out⟩
  · have hf := hcp.told rfl
    simp only at hf
    obtain ⟨ae, an, hae⟩ : ∃ ae an : Int, clAns pt = .agg #[i64 ae, i64 an, .bool false, i64 0] := ⟨_, _, rfl⟩
    have HAE := hid hae
    have hans := cl_Ans HX.out
    rw [hae] at hans
    have HF := hid hf
    have HLL := hid hlg
    have hpn : pn ≤ 10 := by omega
    clear hf hcp hae hlg hle
    go_wp2_with fail
    refine hans.mono ?_
    rintro e w7 ⟨rfl, hk⟩
    have HK7 : Hid (Keep0 w w7) := hid (Keep0.step HK6.out hk)
    have HX1 := hid (HX.out.keep hk (fun h => h))
    have HM1 := hid (HM.out.same hk)
    clear hk hans HX HM HK6
    have HA9 : Hid (Blk (w7.alloc (.cells #[i64 ae, i64 an, .bool false, i64 0] 40)) w7.heap.size 40 [i64 ae, i64 an, .bool false, i64 0]) := hid (Blk.made rfl rfl)
    have HX9 := hid (HX1.out.alloc (.cells #[i64 ae, i64 an, .bool false, i64 0] 40))
    have HM9 := hid (HM1.out.same ((Keep.refl _ w7).alloc (.cells #[i64 ae, i64 an, .bool false, i64 0] 40)))
    have HK9 := hid (HK7.out.alloc (.cells #[i64 ae, i64 an, .bool false, i64 0] 40))
    go_wp2_with fail
    clear HX1 HM1 HK7
    generalize w7.alloc (.cells #[i64 ae, i64 an, .bool false, i64 0] 40) = w9 at *
    go_loopw [15] (fun v wr => ∃ i : Nat, i ≤ 4 ∧ v = .int .i64 i ∧ Keep0 w9 wr) (fun v _ => 4 - (intOf v).toNat)
    case atStart => exact ⟨0, by omega, rfl, Keep.refl _ _⟩
    case round =>
      obtain ⟨i, hi, rfl, hk⟩ := hrel
      have HKK := hid hk
      have HXR := hid (HX9.out.keep hk (fun h => h))
      have HAR := hid (hk.blk HA9.out (fun h => h))
      have HMR := hid (HM9.out.same hk)
      have HKR : Hid (Keep0 w wr) := hid (Keep0.step HK9.out hk)
      clear hk
      by_cases hlt : i < 4
      · go_wp2_with fail
        refine (cl_over (m := m) HXR.out HF.out).mono ?_
        rintro e w10 ⟨rfl, rfl⟩
        go_wp2_with fail
        go_roundw
        case rel => exact ⟨i + 1, by omega, by go_num, HKK.out⟩
        case measure => simp [intOf]; omega
      · obtain rfl : i = 4 := by omega
        go_wp2_with fail
        apply wp_region_free (WI := fun S gh wx => Keep0 wr wx ∧ GWI (endD pn) S gh wx) (by kernel_rfl) (by kernel_rfl)
        case hob =>
          apply ObligF.fixed
          case h =>
            intro S gh w1 hwi hSi hd hcl
            apply StepOk.intro
            intro K hK
            have qa := (hwi.1.blk HAR.out (fun h => h)).k4
            go_simp
            apply hK
            · rfl
            · conv => (lhs; whnf)
            · exact ⟨hwi.1, GWI.fixed hwi.2 trivial⟩
          simp only [put_lit, put_none]
          try dsimp only [List.set_cons_succ, List.set_cons_zero]
          apply ObligF.fixed
          case h =>
            intro S gh w1 hwi hSi hd hcl
            apply StepOk.intro
            intro K hK
            have qa := (hwi.1.blk HAR.out (fun h => h)).k4
            go_simp
            apply hK
            · rfl
            · conv => (lhs; whnf)
            · exact ⟨hwi.1, GWI.fixed hwi.2 trivial⟩
          simp only [put_lit, put_none]
          try dsimp only [List.set_cons_succ, List.set_cons_zero]
          apply ObligF.fixed
          case h =>
            intro S gh w1 hwi hSi hd hcl
            apply StepOk.intro
            intro K hK
            have qa := (hwi.1.blk HAR.out (fun h => h)).k4
            go_simp
            apply hK
            · rfl
            · conv => (lhs; whnf)
            · exact ⟨hwi.1, GWI.fixed hwi.2 trivial⟩
          simp only [put_lit, put_none]
          try dsimp only [List.set_cons_succ, List.set_cons_zero]
          apply ObligF.fixed
          case h =>
            intro S gh w1 hwi hSi hd hcl
            apply StepOk.intro
            intro K hK
            have qa := (hwi.1.blk HAR.out (fun h => h)).k4
            go_simp
            refine (show Calls Try.prog 17 #[ptr x] w1 (Ret (.agg #[i64 ae, i64 an, .bool false, i64 0]) w1) from by have h := cl_Ans (HXR.out.keep hwi.1 (fun h => h)); rw [HAE.out] at h; exact h).mono ?_
            rintro e w2 ⟨rfl, hk⟩
            apply hK
            · rfl
            · conv => (lhs; whnf)
            · exact ⟨Keep0.step hwi.1 hk, GWI.fixed (hwi.2.keep endD_stable hk) trivial⟩
          simp only [put_lit, put_none]
          try dsimp only [List.set_cons_succ, List.set_cons_zero]
          apply ObligF.fixed
          case h =>
            intro S gh w1 hwi hSi hd hcl
            apply StepOk.intro
            intro K hK
            have qa := (hwi.1.blk HAR.out (fun h => h)).k4
            go_simp
            apply hK
            · rfl
            · conv => (lhs; whnf)
            · exact ⟨hwi.1, GWI.fixed hwi.2 trivial⟩
          simp only [put_lit, put_none]
          try dsimp only [List.set_cons_succ, List.set_cons_zero]
          apply ObligF.fixed
          case h =>
            intro S gh w1 hwi hSi hd hcl
            apply StepOk.intro
            intro K hK
            have qa := (hwi.1.blk HAR.out (fun h => h)).k4
            go_simp
            apply hK
            · rfl
            · conv => (lhs; whnf)
            · exact ⟨hwi.1, GWI.fixed hwi.2 trivial⟩
          simp only [put_lit, put_none]
          try dsimp only [List.set_cons_succ, List.set_cons_zero]
          apply ObligF.fixed
          case h =>
            intro S gh w1 hwi hSi hd hcl
            apply StepOk.intro
            intro K hK
            have qa := (hwi.1.blk HAR.out (fun h => h)).k4
            go_simp
            apply hK
            · rfl
            · conv => (lhs; whnf)
            · exact ⟨hwi.1, GWI.fixed hwi.2 trivial⟩
          simp only [put_lit, put_none]
          try dsimp only [List.set_cons_succ, List.set_cons_zero]
          apply ObligF.fixed
          case h =>
            intro S gh w1 hwi hSi hd hcl
            apply StepOk.intro
            intro K hK
            have qa := (hwi.1.blk HAR.out (fun h => h)).k4
            go_simp
            apply hK
            · rfl
            · conv => (lhs; whnf)
            · exact ⟨hwi.1, GWI.fixed hwi.2 trivial⟩
          simp only [put_lit, put_none]
          try dsimp only [List.set_cons_succ, List.set_cons_zero]
          apply ObligF.fixed
          case h =>
            intro S gh w1 hwi hSi hd hcl
            apply StepOk.intro
            intro K hK
            have qa := (hwi.1.blk HAR.out (fun h => h)).k4
            go_simp
            apply hK
            · rfl
            · conv => (lhs; whnf)
            · exact ⟨hwi.1, GWI.fixed hwi.2 trivial⟩
          simp only [put_lit, put_none]
          try dsimp only [List.set_cons_succ, List.set_cons_zero]
          apply ObligF.free
          case h =>
            intro S gh w1 hwi hSi hd hcl
            apply StepG.intro
            intro K hK
            have qa := (hwi.1.blk HAR.out (fun h => h)).k4
            go_simp
            refine (mem_Log (HMR.out.same hwi.1) (by rw [HLL.out]; omega)).mono ?_
            rintro e w2 ⟨A2, c2, rfl, _, hk⟩
            rw [HLL.out]
            apply hK
            · rfl
            · exact ⟨Keep0.step hwi.1 hk, GWI.free (hwi.2.keep endD_stable hk) ⟨_, c2, rfl⟩⟩
          simp only [put_lit, put_none]
          try dsimp only [List.set_cons_succ, List.set_cons_zero]
          apply ObligF.fixed
          case h =>
            intro S gh w1 hwi hSi hd hcl
            apply StepOk.intro
            intro K hK
            have qa := (hwi.1.blk HAR.out (fun h => h)).k4
            obtain ⟨A1, c1, e1⟩ := hwi.2 9 (hd ⟨9, .data⟩ (by simp) rfl)
            rw [e1]
            go_simp
            apply hK
            · rfl
            · conv => (lhs; whnf)
            · exact ⟨hwi.1, GWI.fixed hwi.2 trivial⟩
          simp only [put_lit, put_none]
          try dsimp only [List.set_cons_succ, List.set_cons_zero]
          apply ObligF.fixed
          case h =>
            intro S gh w1 hwi hSi hd hcl
            apply StepOk.intro
            intro K hK
            have qa := (hwi.1.blk HAR.out (fun h => h)).k4
            go_simp
            apply hK
            · rfl
            · conv => (lhs; whnf)
            · exact ⟨hwi.1, GWI.fixed hwi.2 trivial⟩
          simp only [put_lit, put_none]
          try dsimp only [List.set_cons_succ, List.set_cons_zero]
          apply ObligF.fixed
          case h =>
            intro S gh w1 hwi hSi hd hcl
            apply StepOk.intro
            intro K hK
            have qa := (hwi.1.blk HAR.out (fun h => h)).k4
            go_simp
            apply hK
            · rfl
            · conv => (lhs; whnf)
            · exact ⟨hwi.1, GWI.fixed hwi.2 trivial⟩
          simp only [put_lit, put_none]
          try dsimp only [List.set_cons_succ, List.set_cons_zero]
          apply ObligF.fixed
          case h =>
            intro S gh w1 hwi hSi hd hcl
            apply StepOk.intro
            intro K hK
            have qa := (hwi.1.blk HAR.out (fun h => h)).k4
            go_simp
            apply hK
            · rfl
            · conv => (lhs; whnf)
            · exact ⟨hwi.1, GWI.fixed hwi.2 trivial⟩
          simp only [put_lit, put_none]
          try dsimp only [List.set_cons_succ, List.set_cons_zero]
          apply ObligF.fixed
          case h =>
            intro S gh w1 hwi hSi hd hcl
            apply StepOk.intro
            intro K hK
            have qa := (hwi.1.blk HAR.out (fun h => h)).k4
            go_simp
            apply hK
            · rfl
            · conv => (lhs; whnf)
            · exact ⟨hwi.1, GWI.fixed hwi.2 trivial⟩
          simp only [put_lit, put_none]
          try dsimp only [List.set_cons_succ, List.set_cons_zero]
          exact ObligF.nil
        case h0 =>
          exact ⟨(Keep.refl _ _).drew, GWI.start _ _ _⟩
        case hend =>
          intro S gh wx hwi hall
          have HKX := hid hwi.1
          clear hwi hall
          go_wp2_with fail
          go_ret
          exact ⟨rfl, HKR.out.trans HKX.out (fun _ _ h => h)⟩
end Go.Proofs.Ytjloccnbcgkmgaa
