/- ClaimRow: one behind the other. -/
import Derived.Test.YtjloccnbcgkmgaaLawClaim
import Derived.Test.YtjloccnbcgkmgaaHeadClaim
import Derived.Test.YtjloccnbcgkmgaaClaimR
import Derived.Test.YtjloccnbcgkmgaaRowThree
import Derived.Test.YtjloccnbcgkmgaaRefTen
namespace Go.Proofs.Ytjloccnbcgkmgaa
open Go.RowKit
set_option linter.unusedVariables false
set_option linter.unusedSimpArgs false
set_option maxRecDepth 100000
theorem info_bool : (Try.prog.info? 4).map (fun i => (i.zero, i.size, i.bytes)) = some (some (.bool false), 1, 1) := by kernel_rfl
theorem made_bools (n : Nat) : madeCells (Value.bool false).cells n = (List.replicate n (Value.bool false)).toArray := by
  apply Array.ext
  · simp [madeCells]
  · intro i h1 h2
    have e : i % 1 = 0 := Nat.mod_one i
    simp [madeCells, Value.cells, e]
theorem bool_far {w : World} {B m a hb : Nat} {lv : Value} {W : List Int} {L : List Acc} {cs : List Value} (hm : MemAt B w m a lv W L) (hx : Blk w hb 4 cs) : ¬ MF m a lv hb := by
  rintro (h | h | h)
  · exact hx.ne hm.mem (by decide) h
  · exact hx.ne hm.words (by decide) h
  · exact ownBlock_ne hm.log hx (by decide) h.symm
set_option maxHeartbeats 4000000 in
theorem claimRow_walk {w : World} {v0 v1 : Value} (hc : ConfIn w v0) (hv : ∃ l, IntsIn w v1 l) (st : Int) (hst : (Lit.int .u16 st).wf = true) : Calls Try.prog 4 #[v0, v1, .int .u16 st] w (Ret (.bool true) w) := by
  have hst := bounds_u16 hst
  obtain ⟨t, s, g, l, r, k, P, L, PA, pc, LA, lc, rfl, hP, hL, hp1, hl1⟩ := hc
  obtain ⟨V, VA, vc, rfl, hv1, hV⟩ := hv
  have HGD := hid (fun (w' : World) (hk : Keep0 w w') => law11_Good t s g l r k PA P pc LA L lc VA V.length vc none 0 0 w' (hP.keep hk) (hL.keep hk) hp1 hl1)
  have HLI := hid hL
  have HVI := hid hV
  clear hP hL hV hp1 hl1
  have HK0 : Hid (Keep0 w (w.alloc (.cells #[i64 t, i64 s, i64 g, i64 l, i64 r, i64 k, .slice PA P.length pc, .slice LA L.length lc] 24))) := hid ((Keep.refl _ _).alloc _)
  go_enter Try.func4, Try.ntmps4
  go_wp2_with fail
  have HB : Hid (Blk (w.alloc (.cells #[i64 t, i64 s, i64 g, i64 l, i64 r, i64 k, .slice PA P.length pc, .slice LA L.length lc] 24)) w.heap.size 24 [i64 t, i64 s, i64 g, i64 l, i64 r, i64 k, .slice PA P.length pc, .slice LA L.length lc]) := hid (Blk.made rfl rfl)
  have qHB := HB.out.k8
  refine (law11_head _).mono ?_
  rintro e w1 ⟨rfl, hk⟩
  have HK1 : Hid (Keep0 w w1) := hid (Keep0.step (by repeat (with_reducible first | exact Keep.refl _ _ | exact HK0.out | apply Keep.alloc | apply Keep.drewN | apply Keep.drew)) hk)
  have THB := hk.blk (show Blk _ _ _ _ from by repeat (with_reducible first | exact HB.out | apply Blk.alloc | apply Blk.drewN | apply Blk.drew)) (fun h => h)
  clear hk qHB HB HK0
  have HB := hid THB
  clear THB
  have qHB := HB.out.k8
  go_wp2_with fail
  refine (HGD.out _ HK1.out).mono ?_
  rintro e w2 ⟨rfl, hk⟩
  have HK2 : Hid (Keep0 w w2) := hid (Keep0.step (by repeat (with_reducible first | exact Keep.refl _ _ | exact HK1.out | apply Keep.alloc | apply Keep.drewN | apply Keep.drew)) hk)
  have THB := hk.blk (show Blk _ _ _ _ from by repeat (with_reducible first | exact HB.out | apply Blk.alloc | apply Blk.drewN | apply Blk.drew)) (fun h => h)
  clear hk qHB HB HK1
  have HB := hid THB
  clear THB
  have qHB := HB.out.k8
  clear HGD
  cases hgood : good11 t s g l r k P L V.length 0
  · go_wp2_with fail
    go_ret
    exact ⟨rfl, HK2.out⟩
  simp only [good11, Bool.and_eq_true, decide_eq_true_eq] at hgood
  obtain ⟨⟨hgood, hv40⟩, hk40⟩ := hgood
  have R := Right.of hgood
  clear hgood hv1
  obtain ⟨K, rfl⟩ := Int.eq_ofNat_of_zero_le (show 0 ≤ k by have := R.k; omega)
  have hs := R.sb
  have hp := R.p
  have hK : 1 ≤ K ∧ K ≤ 16 := by have := R.k; omega
  have hm4 := mul_bd 12 22 (show (0 : Int) ≤ P.length by omega) (by omega) (show 0 ≤ 6 + 2 * s by omega) (by omega)
  obtain ⟨q, hq⟩ : ∃ q : Nat, (q : Int) = P.length * (6 + 2 * s) := ⟨((P.length : Int) * (6 + 2 * s)).toNat, by omega⟩
  have hq264 : q ≤ 264 := by omega
  have HWO := hid (fun (w' : World) (hk : Keep0 w w') => law11_words t s g l r K q PA P pc LA L lc VA V vc w' (HLI.out.keep hk) (HVI.out.keep hk) R hq hv40)
  have hln : q + 2 * K = (words11 s K P.length q L V).length := by rw [words11, tkW_length, freshW_length]; omega
  have HQ := hid hq
  have HR := hid R
  clear hm4 R hq HLI HVI
  generalize words11 s K P.length q L V = WW at *
  have hWm : WW.length ≤ 10000 := by omega
  have hW0 : 0 < WW.length := by omega
  have hk2s := HK2.out.size
  go_wp2_with fail
  refine (HWO.out _ HK2.out).mono ?_
  rintro e w3 ⟨WA, Wc, rfl, how, hk⟩
  have HK3 : Hid (Keep0 w w3) := hid (Keep0.step (by repeat (with_reducible first | exact Keep.refl _ _ | exact HK2.out | apply Keep.alloc | apply Keep.drewN | apply Keep.drew)) hk)
  have THB := hk.blk (show Blk _ _ _ _ from by repeat (with_reducible first | exact HB.out | apply Blk.alloc | apply Blk.drewN | apply Blk.drew)) (fun h => h)
  clear hk qHB HB HK2
  have HB := hid THB
  clear THB
  have qHB := HB.out.k8
  obtain ⟨wg, rfl, hwg, hwge⟩ := ints_own how (by omega) rfl
  have HWG := hid hwg
  clear hwg HWO
  have hwz : w.heap.size ≤ wg := Nat.le_trans hk2s hwge
  clear hk2s
  clear how hwge
  have hwg3 := HWG.out.lt
  have hk3s := HK3.out.size
  go_wp2_with fail
  refine (law8_Laid w.heap.size _ _ _ WW HWG.out.at_ hWm HK3.out.size).mono ?_
  rintro e w4 ⟨m, a, lv, rfl, hm, hk, hzm, hza⟩
  have HK4 : Hid (Keep0 w w4) := hid (Keep0.step (by repeat (with_reducible first | exact Keep.refl _ _ | exact HK3.out | apply Keep.alloc | apply Keep.drewN | apply Keep.drew)) hk)
  have THB := hk.blk (show Blk _ _ _ _ from by repeat (with_reducible first | exact HB.out | apply Blk.alloc | apply Blk.drewN | apply Blk.drew)) (fun h => h)
  have THWG := hk.ints (show Ints _ _ _ from by repeat (with_reducible first | exact HWG.out | apply Ints.alloc | apply Ints.drewN | apply Ints.drew)) (fun h => h)
  clear hk qHB HB HWG HK3
  have HB := hid THB
  clear THB
  have qHB := HB.out.k8
  have HWG := hid THWG
  clear THWG
  have HM := hid hm
  have hzm' : w.heap.size ≤ m := Nat.le_trans hk3s hzm
  have hza' : w.heap.size ≤ a := Nat.le_trans hk3s hza
  clear hk3s
  have hwgm : wg ≠ a := by omega
  have hwgm2 : wg ≠ m := by omega
  clear hm hzm hza hwg3
  go_wp2_with fail
  go_loopw [10, 11] (fun v u wr => ∃ j : Nat, j ≤ K ∧ u = .int .i64 (j : Int) ∧ v = .int .i64 (fC q WW j : Int) ∧ Keep0 w4 wr) (fun _ u _ => K - (intOf u).toNat)
  case atStart => exact ⟨0, Nat.zero_le _, rfl, rfl, Keep.refl _ _⟩
  case round =>
    obtain ⟨j, hj, rfl, rfl, hk⟩ := hrel
    have HKR := hid hk
    have HBR := hid (hk.blk HB.out (fun h => h))
    have HWR := hid (hk.ints HWG.out (fun h => h))
    have qbr := HBR.out.k8
    clear hk qHB
    by_cases hlt : j < K
    · have HTK := hid (fun (w' : World) => ref_Ticket t s g l r (K : Int) PA P.length pc LA L.length lc (j : Int) w' hs.1 hs.2 (by omega) (by omega) (by omega))
      rw [← HQ.out, show (q : Int) + 2 * (j : Int) = ((q + 2 * j : Nat) : Int) by push_cast; rfl] at HTK
      have HFC := hid (show fC q WW (j + 1) = fC q WW j + (if st10 (rd WW (q + 2 * j)) = 0 then 1 else 0) from rfl)
      have hfl := fC_le q WW j
      have hpl : q + 2 * j < WW.length := by omega
      generalize q + 2 * j = p at *
      have HST := hid (fun w' => ref10_State (rd WW p) w')
      have y4 : IntKind.i64.wrap ((j : Int) + 1) = (j : Int) + 1 := IntWalk.i64_in _ (by omega)
      generalize fC q WW j = f0 at *
      have y5 : IntKind.i64.wrap ((f0 : Int) + 1) = (f0 : Int) + 1 := IntWalk.i64_in _ (by omega)
      go_wp2_with fail
      refine (HTK.out _).mono ?_
      rintro e w20 ⟨rfl, hk⟩
      have qw := (hk.ints HWR.out (fun h => h)).cell p hpl
      have HK20 := hid (HKR.out.trans hk (fun _ _ h => h))
      clear hk
      go_wp2_with fail
      refine (HST.out _).mono ?_
      rintro e w21 ⟨rfl, rfl⟩
      by_cases hz : st10 (rd WW p) = 0
      · rw [if_pos hz] at HFC
        rw [hz]
        go_wp2_with fail
        go_roundw
        case rel => exact ⟨j + 1, by omega, by go_num, by rw [HFC.out]; go_num, HK20.out⟩
        case measure => first | (simp [intOf]; done) | (simp [intOf]; omega)
      · rw [if_neg hz] at HFC
        have y6 : (st10 (rd WW p) == 0) = false := by simpa using hz
        generalize st10 (rd WW p) = sz at *
        go_wp2_with fail
        go_roundw
        case rel => exact ⟨j + 1, by omega, by go_num, by rw [HFC.out, Nat.add_zero], HK20.out⟩
        case measure => first | (simp [intOf]; done) | (simp [intOf]; omega)
    · obtain rfl : K = j := by omega
      have hF := fC_le q WW K
      have HRS := hid (show RI K q WW.length (fC q WW K) 0 WW (List.replicate 16 false) from ⟨rfl, by simp, Or.inl (by omega), fun k hk h ht => by rw [List.getElem_replicate] at ht; cases ht⟩)
      generalize fC q WW K = F at *
      have HMR := hid (HM.out.same HKR.out)
      have HK9 : Hid (Keep0 w wr) := hid (Keep0.step HK4.out HKR.out)
      clear HM HK4 HB HWG HKR HWR
      obtain ⟨ib0, hib, hb0, hb1, hb2⟩ := info_parts info_bool
      have hmk := fun w => run_make (P := Try.prog) w 34 4 ib0 (.bool false) Try.underlying34 hib hb0 .i64 .i64 16 16 (by omega) (by omega) (by rw [hb2]; omega) (by omega)
      simp only [hb1, Nat.mul_one, made_bools, show (16 : Int).toNat = 16 from rfl] at hmk
      clear hib hb0 hb1 hb2
      go_wp2_with fail
      have HHB := hid (show Blk (wr.alloc (.cells #[.bool false, .bool false, .bool false, .bool false, .bool false, .bool false, .bool false, .bool false, .bool false, .bool false, .bool false, .bool false, .bool false, .bool false, .bool false, .bool false] 4)) wr.heap.size 4 (bls (List.replicate 16 false)) from by rw [bls_rep]; exact Blk.made rfl (by kernel_rfl))
      have hhz : w.heap.size ≤ wr.heap.size := HK9.out.size
      have HM10 := hid (HMR.out.same ((Keep.refl _ wr).alloc (.cells #[.bool false, .bool false, .bool false, .bool false, .bool false, .bool false, .bool false, .bool false, .bool false, .bool false, .bool false, .bool false, .bool false, .bool false, .bool false, .bool false] 4)))
      have HB10 := hid (HBR.out.alloc (.cells #[.bool false, .bool false, .bool false, .bool false, .bool false, .bool false, .bool false, .bool false, .bool false, .bool false, .bool false, .bool false, .bool false, .bool false, .bool false, .bool false] 4))
      have HK10 := hid (HK9.out.alloc (.cells #[.bool false, .bool false, .bool false, .bool false, .bool false, .bool false, .bool false, .bool false, .bool false, .bool false, .bool false, .bool false, .bool false, .bool false, .bool false, .bool false] 4))
      generalize hhb : wr.heap.size = hb at *
      generalize wr.alloc (.cells #[.bool false, .bool false, .bool false, .bool false, .bool false, .bool false, .bool false, .bool false, .bool false, .bool false, .bool false, .bool false, .bool false, .bool false, .bool false, .bool false] 4) = w8 at *
      clear hmk HMR HBR HK9 hhb
      go_loopw [13] (fun v wr => ∃ (i : Nat) (Wi : List Int) (Li : List Acc) (H : List Bool) (lv : Value), i ≤ F + 1 ∧ v = .int .i64 (i : Int) ∧ MemAt w.heap.size wr m a lv Wi Li ∧ Li.length ≤ 100 * i ∧ Blk wr hb 4 (bls H) ∧ Blk wr w.heap.size 24 [i64 t, i64 s, i64 g, i64 l, i64 r, i64 (K : Int), .slice PA P.length pc, .slice LA L.length lc] ∧ RI K q WW.length F i Wi H ∧ Keep0 w wr) (fun v _ => F + 1 - (intOf v).toNat)
      case atStart => exact ⟨0, WW, [], List.replicate 16 false, lv, by omega, rfl, HM10.out, by simp, HHB.out, HB10.out, HRS.out, HK10.out⟩
      case round =>
        obtain ⟨i, Wi, Li, H, lv, hi, rfl, hm, hll0, hhb, hbb, hri, hk⟩ := hrel
        obtain ⟨w14, hwk⟩ : ∃ v, v = wr := ⟨_, rfl⟩
        subst hwk
        have HK14 := hid hk
        have HM := hid hm
        have HH := hid hhb
        have HB := hid hbb
        have HRI := hid hri
        have qHB := hbb.k8
        clear hm hhb hbb hri hk HM10 HHB HB10 HRS HK10
        by_cases hlt : i ≤ F
        · have hs0 : 0 ≤ (st + i) % 1001 := Int.emod_nonneg _ (by omega)
          have hs1 : (st + i) % 1001 < 1001 := Int.emod_lt_of_pos _ (by omega)
          obtain ⟨S, hS⟩ := Int.eq_ofNat_of_zero_le hs0
          have HS := hid hS
          have hS9 : S < 1001 := by omega
          have y1 : IntKind.i64.wrap (st + (i : Int)) = st + (i : Int) := IntWalk.i64_in _ (by omega)
          clear hS hs0 hs1
          go_wp2_with fail
          rw [HS.out]
          have haz := HM.out.words.lt
          have hks := HK14.out.size
          refine (claim_New ⟨t, s, g, l, r, PA, P.length, pc, LA, L.length, lc⟩ K (S) _ hK (by omega)).mono ?_
          rintro e w15 ⟨x, gl, cc, rfl, hx, hgl, hcap, hk, hcl, hr⟩
          have HK15 : Hid (Keep0 w w15) := hid (Keep0.step (by repeat (with_reducible first | exact Keep.refl _ _ | exact HK14.out | apply Keep.alloc | apply Keep.drewN | apply Keep.drew)) hk)
          have THB := hk.blk (show Blk _ _ _ _ from by repeat (with_reducible first | exact HB.out | apply Blk.alloc | apply Blk.drewN | apply Blk.drew)) (fun h => h)
          have THM := MemAt.same (by repeat (with_reducible first | exact HM.out | apply MemAt.alloc | apply MemAt.drew)) hk
          have THH := hk.blk (show Blk _ _ _ _ from by repeat (with_reducible first | exact HH.out | apply Blk.alloc | apply Blk.drewN | apply Blk.drew)) (fun h => h)
          clear hk qHB HB HM HH HK14
          have HB := hid THB
          clear THB
          have qHB := HB.out.k8
          have HM := hid THM
          clear THM
          have HH := hid THH
          clear THH
          have hga : gl ≠ a := by omega
          have HX := hid (hcl Wi Li)
          have HR := hid hr
          have HCO : Hid (COk ⟨t, s, g, l, r, PA, P.length, pc, LA, L.length, lc⟩ K q cc) := hid ⟨HQ.out, hs, (by show P.length ≤ 1000; omega), hcap⟩
          have hzx : w.heap.size ≤ x := Nat.le_trans hks hx
          clear hks haz hx hgl hcap hcl hr
          go_wp2_with fail
          have hci : CInv K q ⟨Wi, Li, 0, false, 0, 0, 0, 0⟩ := CInv.start (by have := HRI.out.len; omega) (by have := HRI.out.len; omega) hK
          have hp := play_claim (B := w.heap.size) (w := w15) (m := m) (a := a) (x := x) (lv := lv) (K := K) (s := S) (q := q) ⟨Wi, Li, 0, false, 0, 0, 0, 0⟩ [] none 0 0 0 (100) HM.out HX.out HR.out hga hci HCO.out (by show Li.length ≤ 1000000; omega) (by omega) (by simp) (fun h => by simp at h) (fun i h => by simp at h)
          rw [show (CS.mk Wi Li 0 false 0 0 0 0).W.length = Wi.length from rfl] at hp
          have hal := cAlone K S q Wi.length Wi hK.1 (by have := HRI.out.len; omega) K 0 100 0 Li 0 (by omega) hK.1 (by omega)
          have hll := cLogLe (K := K) (s := S) (q := q) Wi.length [] 100 0 ⟨Wi, Li, 0, false, 0, 0, 0, 0⟩
          generalize playF (cStp K S q) cPk Wi.length [] 100 0 ⟨Wi, Li, 0, false, 0, 0, 0, 0⟩ = pf at *
          obtain ⟨pt, pn, pb⟩ := pf
          have hpb := hal.is
          simp only at hp hpb hll
          subst hpb
          refine hp.mono ?_
          rintro e w16 ⟨rfl, ⟨kk, lv', hm, ho, hx, _, _, hin, _, hr, _⟩, hk⟩
          have THB := clplay_keeps HB.out HM.out HX.out (by decide) (by decide) (by decide) (by decide) hk
          have THH := clplay_keeps HH.out HM.out HX.out (by decide) (by decide) (by decide) (by decide) hk
          have HK16 : Hid (Keep0 w w16) := hid (clplay_far HM.out hzx hk HK15.out rfl)
          clear hp ho HM HX HR HK15 hk qHB HB HH
          obtain ⟨lv, hlv⟩ : ∃ v, v = lv' := ⟨_, rfl⟩
          subst hlv
          have HM := hid hm
          have HX := hid hx
          have HI := hid hin
          clear hm hx hr hin hci
          have HB := hid THB
          clear THB
          have qHB := HB.out.k8
          have HH := hid THH
          clear THH
          have hcr := hal.row hK.1
          simp only at hcr
          clear hal
          go_wp2_with fail
          have hlg2 : pt.L.length ≤ 100 * (i + 1) := by have : pt.L.length ≤ Li.length + 100 := hll; omega
          have HCR := hid hcr
          have hans := cl_Ans HX.out
          clear hcr hll hll0
          rcases HCR.out with ⟨c0, c1, c2, c3⟩ | ⟨f, hf, fz, c1, c2, c3⟩
          · obtain ⟨rfl, hri2⟩ := HRI.out.no hlt c0
            have hA : clAns pt = .agg #[i64 3, i64 0, .bool false, i64 0] := by simp [clAns, c1, c3]
            rw [hA] at hans
            rw [c2] at HM
            have HRI2 := hid hri2
            clear hA hri2 c0 c1 c2 c3 HCR
            refine hans.mono ?_
            rintro e w17 ⟨rfl, hk⟩
            have HK17 : Hid (Keep0 w w17) := hid (Keep0.step HK16.out hk)
            have HM3 := hid (HM.out.same hk)
            have HH3 := hid (hk.blk HH.out (fun h => h))
            have HB3 := hid (hk.blk HB.out (fun h => h))
            clear hk HM HH HB hans HK16 HX qHB
            go_wp2_with fail
            go_roundw
            case rel => exact ⟨i + 1, Wi, pt.L, H, lv, by omega, by go_num, HM3.out.same ((Keep.refl _ _).alloc _), hlg2, HH3.out.alloc _, HB3.out.alloc _, HRI2.out, HK17.out.alloc _⟩
            case measure => first | (simp [intOf]; done) | (simp [intOf]; omega)
          · obtain ⟨hif, ⟨hfl, hfh⟩, hri2⟩ := HRI.out.yes hlt (by omega) (by omega) hf fz
            have hA : clAns pt = .agg #[i64 0, i64 (f : Int), .bool false, i64 0] := by simp [clAns, c1, c3]
            rw [hA] at hans
            rw [c2] at HM
            have HRI2 := hid hri2
            clear hA hri2 c1 c2 c3 HCR
            generalize Wi.set (q + 2 * f) (pNext6 (rd Wi (q + 2 * f)) 1) = W2 at *
            refine hans.mono ?_
            rintro e w17 ⟨rfl, hk⟩
            have HK17 : Hid (Keep0 w w17) := hid (Keep0.step HK16.out hk)
            have HM3 := hid (HM.out.same hk)
            have HH3 := hid (hk.blk HH.out (fun h => h))
            have HB3 := hid (hk.blk HB.out (fun h => h))
            clear hk HM HH HB hans HK16 HX qHB
            have h16 : f < 16 := by omega
            have qb3 := HB3.out.k8
            have c1 := HH3.out.cell f
            rw [bls_get hfl, hfh] at c1
            have c2 := HH3.out.frozen f
            have c3 := HH3.out.lt
            have g0 : decide ((f : Int) < 0) = false := decide_eq_false (by omega)
            have g1 : decide ((K : Int) ≤ (f : Int)) = false := decide_eq_false (by omega)
            have g2 : decide ((i : Int) < (F : Int)) = true := decide_eq_true (by omega)
            clear hfh
            go_wp2_with fail
            go_roundw
            case rel => exact ⟨i + 1, W2, pt.L, H.set f true, lv, by omega, by go_num, (HM3.out.keep ((Keep.refl (fun k => k = hb) _).set ⟨hb, f, none⟩ (.bool true) (fun _ => rfl)) (fun k h e => bool_far HM3.out HH3.out (by have e' : k = hb := e; exact e' ▸ h))).same ((Keep.refl _ _).alloc _), hlg2, by rw [← bls_set]; exact (HH3.out.set f _).alloc _, (HB3.out.other (.bool true) (show (⟨hb, f, none⟩ : Addr).block ≠ w.heap.size from HH3.out.ne HB3.out (by decide))).alloc _, HRI2.out, keep_far11 HK17.out (((Keep.refl (fun k => k = hb) _).set ⟨hb, f, none⟩ (.bool true) (fun _ => rfl)).alloc _) (fun k e => by have e' : k = hb := e; omega)⟩
            case measure => first | (simp [intOf]; done) | (simp [intOf]; omega)
        · obtain rfl : i = F + 1 := by omega
          go_wp2_with fail
          go_ret
          exact ⟨rfl, HK14.out⟩
end Go.Proofs.Ytjloccnbcgkmgaa
