/- ShiftBoth: at its end a raise, or a lowering, that was OK added as much to the limit as to what is available, and one that was not nothing to either. -/
import Derived.Test.YtonekdolmbdniaaLawNineC
namespace Go.Proofs.Ytonekdolmbdniaa
open Go.RowKit
set_option linter.unusedVariables false
set_option linter.unusedSimpArgs false
set_option maxRecDepth 100000

set_option maxHeartbeats 4000000 in
theorem shiftBoth_walk {w : World} {v0 : Value} (hc : PoolIn w v0) (what : Int) (hy : (Lit.int .u8 what).wf = true) (lim : Int) (hlim : (Lit.int .u32 lim).wf = true) (big : Bool) : Calls Try.prog 7 #[v0, .int .u8 what, .int .u32 lim, .bool big] w (Ret (.bool true) w) := by
  have hy := bounds_u8 hy
  have hlim := bounds_u32 hlim
  obtain ⟨t, s, g, l, r, k, P, L, PA, pc, LA, lc, nd, nn, st, avl, Q, QA, qc, K, KA, kc, rfl, hP, hL, hp1, hl1, hnd, hnn, hst, havl, hQ, hq1, hq2, hK, hk1⟩ := hc
  have HB : Hid (Blk (w.alloc (.cells #[i64 t, i64 s, i64 g, i64 l, i64 r, i64 k, .slice PA P.length pc, .slice LA L.length lc, .int .u8 nd, .int .u32 nn, .int .u8 st, .int .u32 avl, .slice QA Q.length qc, .slice KA K.length kc] 29)) w.heap.size 29 [i64 t, i64 s, i64 g, i64 l, i64 r, i64 k, .slice PA P.length pc, .slice LA L.length lc, .int .u8 nd, .int .u32 nn, .int .u8 st, .int .u32 avl, .slice QA Q.length qc, .slice KA K.length kc]) := hid (Blk.made rfl rfl)
  have HK0 : Hid (Keep0 w (w.alloc (.cells #[i64 t, i64 s, i64 g, i64 l, i64 r, i64 k, .slice PA P.length pc, .slice LA L.length lc, .int .u8 nd, .int .u32 nn, .int .u8 st, .int .u32 avl, .slice QA Q.length qc, .slice KA K.length kc] 29))) := hid ((Keep.refl _ _).alloc _)
  have HGD := hid (fun (w' : World) (hk : Keep0 w w') => law8_Good t s g l r k PA P pc LA L lc nd nn st avl QA Q qc KA K kc w' (hP.keep hk) (hL.keep hk) hp1 hl1 hq1 hk1)
  have HWO := hid (fun (w' : World) (hk : Keep0 w w') hR hq => law8_Words t s g l r k PA P pc LA L lc nd nn st avl QA Q qc KA K kc w' (hP.keep hk) (hL.keep hk) (hQ.keep hk) hR hnd hnn hst havl hq hq2)
  have HPK := hid (fun (w' : World) (hk : Keep0 w w') hR hk40 => law9_pokes t s g l r k PA P pc LA L lc nd nn st avl QA Q qc KA K kc w' (hK.keep hk) hR hnd hnn hst hk40)
  clear hP hL hQ hK hq2
  go_enter Try.func7, Try.ntmps7
  go_wp2_with fail
  have qHB := HB.out.k14
  refine (law9_head _).mono ?_
  rintro e w1 ⟨rfl, hk⟩
  have HK1 : Hid (Keep0 w w1) := hid (Keep0.step HK0.out hk)
  have T := hk.blk HB.out (fun h => h)
  clear hk HB HK0 qHB
  have HB := hid T
  clear T
  have qHB := HB.out.k14
  go_wp2_with fail
  refine (HGD.out _ HK1.out).mono ?_
  rintro e w2 ⟨rfl, hk⟩
  have HK2 : Hid (Keep0 w w2) := hid (Keep0.step HK1.out hk)
  have T := hk.blk HB.out (fun h => h)
  clear hk HB HK1 qHB HGD hp1 hl1 hq1 hk1
  have HB := hid T
  clear T
  have qHB := HB.out.k14
  cases hgood : good8B t s g l r k P L Q.length K.length
  · go_wp2
    go_ret
    exact ⟨rfl, HK2.out⟩
  · simp only [good8B, Bool.and_eq_true, decide_eq_true_eq] at hgood
    obtain ⟨⟨hgood, hk40⟩, hq20⟩ := hgood
    have R := Right.of hgood
    clear hgood
    obtain ⟨s, rfl⟩ := Int.eq_ofNat_of_zero_le (show 0 ≤ s by have := R.sb; omega)
    have hs := R.sb
    have hp := R.p
    have hl := R.l
    have hkk := R.k
    have hlen := R.len
    have HOF := hid (fun (w' : World) => law8_Of t (s : Int) g l r k PA P pc LA L lc nd nn st avl QA Q qc KA K kc w' ⟨hp.1, by omega⟩ hs hnd hnn hst)
    have HWO2 := hid (fun w' hk => HWO.out w' hk R hq20)
    have HPK2 := hid (fun w' hk => HPK.out w' hk R hk40)
    clear HWO HPK
    have hv0 := Int.emod_nonneg nd (show (P.length : Int) ≠ 0 by omega)
    have hv1 := Int.emod_lt_of_pos nd (show (0 : Int) < P.length by omega)
    have hu0 := Int.emod_nonneg st (show (s : Int) ≠ 0 by omega)
    have hu1 := Int.emod_lt_of_pos st (show (0 : Int) < s by omega)
    have hn0 := Int.emod_nonneg nn (show (1048576 : Int) ≠ 0 by omega)
    have hn1 := Int.emod_lt_of_pos nn (show (0 : Int) < 1048576 by omega)
    generalize nd % (P.length : Int) = v at *
    generalize st % (s : Int) = u at *
    generalize hne : nn % 1048576 + 1 = n at *
    have hn : 1 ≤ n ∧ n ≤ 1048576 := by omega
    clear hne hn0 hn1
    have PW := poolWords R (v := v) (avl := avl) (Q := Q) ⟨hv0, hv1⟩ havl
    have hm1 := mul_bd 12 22 hv0 (by omega) (show 0 ≤ 6 + 2 * (s : Int) by omega) (by omega)
    have hm4 := mul_bd 12 22 (show (0 : Int) ≤ P.length by omega) (by omega) (show 0 ≤ 6 + 2 * (s : Int) by omega) (by omega)
    obtain ⟨av, hav⟩ := Int.eq_ofNat_of_zero_le (show 0 ≤ v * (6 + 2 * (s : Int)) + 1 by omega)
    rw [show (v * (6 + 2 * (s : Int)) + 1).toNat = av from by omega] at PW
    have hav0 : av ≤ 300 := by omega
    have HAV := hid hav.symm
    clear hav
    obtain ⟨u, rfl⟩ := Int.eq_ofNat_of_zero_le hu0
    have hus : u < s := by omega
    have hfit := PW.fit
    rw [Int.toNat_natCast] at hfit
    have hWl := PW.len
    generalize hWW : words8 (s : Int) k l L P.length v avl Q = WW at *
    clear hWW
    have HN : Hid ((P.length : Int) * (6 + 2 * (s : Int)) + 2 * k = (WW.length : Int)) := hid (by have := hkk; omega)
    have hWm : WW.length ≤ 10000 := by omega
    rw [← hWl] at hfit
    clear hWl
    obtain ⟨li, HLI⟩ : ∃ li : Nat, Hid ((li : Int) = v * (6 + 2 * (s : Int)) ∧ li + 1 = av) := ⟨(v * (6 + 2 * (s : Int))).toNat, hid (by have := HAV.out; omega)⟩
    have hla := HLI.out.2
    have hl9 := lim9_bd hlim big
    obtain ⟨VV, HVV⟩ : ∃ VV : List Int, Hid (VV = WW.set li (lim9 lim big)) := ⟨_, hid rfl⟩
    have HVL : Hid (VV.length = WW.length) := hid (by rw [HVV.out, List.length_set])
    have HSV : Hid (rd VV li = lim9 lim big ∧ rd VV av = avl ∧ ∀ i, -1099511627776 * 4 ≤ rd VV i ∧ rd VV i ≤ 1099511627776 * 4) := hid (by
      rw [HVV.out]
      refine ⟨by rw [rd_set, if_pos ⟨rfl, by omega⟩], by rw [rd_set, if_neg (by omega)]; exact PW.isav, fun i => ?_⟩
      rw [rd_set]
      split
      · omega
      · have := PW.all i; omega)
    have HR := hid R
    clear PW R hm4 hlen
    go_wp2_with fail
    have hOF := HOF.out
    refine (hOF _).mono ?_
    rintro e w3 ⟨rfl, hk⟩
    have HK3 : Hid (Keep0 w w3) := hid (Keep0.step HK2.out hk)
    have T := hk.blk HB.out (fun h => h)
    clear hk HB HK2 qHB
    have HB := hid T
    clear T
    have qHB := HB.out.k14
    go_wp2_with fail
    have HWK := hid (fun (w' : World) (hk : Keep0 w3 w') => HWO2.out w' (HK3.out.trans hk (fun _ _ h => h)))
    refine (law9_words t (s : Int) g l r k PA P.length pc LA L.length lc nd nn st avl QA Q.length qc KA K.length kc v n (u : Int) lim big li WW w3 hOF HWK.out hs ⟨hv0, by omega⟩ HLI.out.1 (by omega) hWm hlim).mono ?_
    rintro e w4 ⟨WA, Wc, rfl, how, hk⟩
    rw [← HVV.out] at how
    have HK4 : Hid (Keep0 w w4) := hid (Keep0.step HK3.out hk)
    have T := hk.blk HB.out (fun h => h)
    have hw3 := HK3.out.size
    clear hk HB HK3 qHB HWO2 HWK hOF HOF
    have HB := hid T
    clear T
    have qHB := HB.out.k14
    rw [← HVL.out] at how
    rw [← HVL.out] at HN hfit hWm
    have HWL := hid (show WW.length = VV.length from HVL.out.symm)
    obtain ⟨wg, rfl, hwg, hwge⟩ := ints_own how (by omega) rfl
    have HWG := hid hwg
    have HOW := hid how
    clear hwg how
    rw [show WW.length = VV.length from HWL.out]
    go_wp2_with fail
    refine (law8_Laid w.heap.size _ _ _ VV HWG.out.at_ hWm HK4.out.size).mono ?_
    rintro e w5 ⟨m, a, lv5, rfl, hm, hk, hzm, hza⟩
    have HM5 := hid hm
    have HK5 : Hid (Keep0 w w5) := hid (Keep0.step HK4.out hk)
    have hzm' := Nat.le_trans HK4.out.size hzm
    have hza' := Nat.le_trans HK4.out.size hza
    have HWG5 := hid (hk.ints HWG.out (fun h => h))
    have HOW5 := hid (ownsRow_keep HOW.out hk (fun _ _ h => h))
    have hwgm : wg ≠ a := by have := HWG.out.lt; omega
    have hwgm2 : wg ≠ m := by have := HWG.out.lt; omega
    have T := hk.blk HB.out (fun h => h)
    clear hk hm hzm hza HB HK4 qHB HWG HOW
    have HB := hid T
    clear T
    have qHB := HB.out.k14
    go_wp2_with fail
    have hq0 := Int.emod_nonneg what (show (3 : Int) ≠ 0 by omega)
    have hq1 := Int.emod_lt_of_pos what (show (0 : Int) < 3 by omega)
    obtain ⟨kd, hkd⟩ := Int.eq_ofNat_of_zero_le hq0
    have hk2 : kd ≤ 2 := by omega
    have ykd : what.tmod 3 = (kd : Int) := by rw [Int.tmod_eq_emod_of_nonneg hy.1]; exact hkd
    refine (law9_kind t (s : Int) g l r k PA P.length pc LA L.length lc v n what kd _ hy hkd hs.1 hs.2 hv0 (by omega)).mono ?_
    rintro e w6 ⟨x, sb, rfl, hb, hst, hk, hx, hsx⟩
    rw [show v * (6 + 2 * (s : Int)) + 1 = (av : Int) from HAV.out.symm, ← HLI.out.1] at hb
    have HX6 := hid (show Blk w6 x 85 (scs kd li av v n sb (sStart kd VV)) from by rw [scs_start]; exact hb)
    have HT6 := hid hst
    have HM6 := hid (HM5.out.same hk)
    have HK6 : Hid (Keep0 w w6) := hid (Keep0.step HK5.out hk)
    have hzx := Nat.le_trans HK5.out.size hx
    have HWG6 := hid (hk.ints HWG5.out (fun h => h))
    have HOW6 := hid (ownsRow_keep HOW5.out hk (fun _ _ h => h))
    have hwgx : wg ≠ x := by have := HWG5.out.lt; omega
    have HSI := hid (sinv9 (W := VV) (kd := kd) (li := li) (av := av) (n := n) (by omega) hla (by omega) hn (by have := HSV.out.1; omega) (by have := HSV.out.2.1; omega))
    have T := hk.blk HB.out (fun h => h)
    clear hk hb hst hx hsx HM5 HB HK5 qHB HWG5 HOW5
    have HB := hid T
    clear T
    have qHB := HB.out.k14
    go_wp2_with fail
    refine (HPK2.out _ HK6.out).mono ?_
    rintro e w7 ⟨KB, kbc, rfl, hpk, hk, hkb⟩
    rw [show v * (6 + 2 * (s : Int)) + 1 = (av : Int) from HAV.out.symm, ← HLI.out.1] at hpk
    have hok := okPokes9 (kd := kd) (li := li) (av := av) K
    have hkl : (K.map (poke9 (av : Int) (li : Int))).length = K.length := by simp
    generalize K.map (poke9 (av : Int) (li : Int)) = KK at *
    have HM7 := hid (HM6.out.same hk)
    have HX7 := hid (hk.blk HX6.out (fun h => h))
    have HT7 := hid (hk.blk HT6.out (fun h => h))
    have HB7 := hid (hk.blk HB.out (fun h => h))
    have HK7 : Hid (Keep0 w w7) := hid (Keep0.step HK6.out hk)
    have HWG7 := hid (hk.ints HWG6.out (fun h => h))
    have HOW7 := hid (ownsRow_keep HOW6.out hk (fun _ _ h => h))
    obtain ⟨kb, ko, hka, hkc⟩ := hpk.at9
    have hmz := HM6.out.mem.lt
    have haz := HM6.out.words.lt
    have hxz := HX6.out.lt
    have hlz := fun b (e : lv5.ownBlock = some b) => (HM6.out.log.lt b e).2
    have hp := play_shift (B := w.heap.size) (w := w7) (m := m) (a := a) (x := x) (lv := lv5) (kd := kd) (li := li) (av := av) (sb := sb) (nd := v) (n := n) (X := 1099511627776) (sStart kd VV) KK KB kb ko kbc 300 HM7.out HX7.out HT7.out HSI.out (by simp [sStart]) (by omega) (by omega) (by omega) hok (fun h => by
      obtain ⟨e, hz⟩ := hka h
      have := hkb kb ko e
      exact ⟨e, hz, by omega, by omega, by omega, fun e => by have := hlz kb e; omega⟩) hkc
    have hen := sPlay_ends (kd := kd) (f := sF kd li av) (g := sG kd li av) (n := n) VV.length KK 300 0 (sStart kd VV) (sStart_lt _ _) (by have := sStart_need (f := sF kd li av) kd VV; have := remAt_le ((0 : Nat) : Int) KK; omega)
    have ht := (sPlay_told (kd := kd) (f := sF kd li av) (g := sG kd li av) (n := n) VV.length KK 300 0 (sStart kd VV) (sStart_lt _ _)).1 hen
    have hex := sPlay_exact (kd := kd) (f := sF kd li av) (g := sG kd li av) (n := n) (X := 1099511627776) VV.length KK hok (by omega) (SExact.start HSI.out) 300 (by omega)
    have hle := sPlay_le (kd := kd) (f := sF kd li av) (g := sG kd li av) (n := n) VV.length KK 300 0 (sStart kd VV)
    rw [show (sStart kd VV).W.length = VV.length from rfl, hkl] at hp
    generalize playF (sStp kd (sF kd li av) (sG kd li av) n) sPk VV.length KK 300 0 (sStart kd VV) = pf at *
    obtain ⟨pt, pn, pbo⟩ := pf
    simp only at hp hen ht hex hle
    subst hen
    clear hpk hk hkb hka hkc hmz haz hxz hlz hok HM6 HX6 HT6 HB qHB HK6 HWG6 HOW6 HPK2
    go_wp2_with fail
    refine hp.mono ?_
    rintro e w8 ⟨rfl, ⟨kk, lv8, hm, ho, hx, hl8, -, -, -, hst⟩, hk⟩
    have HM8 := hid hm
    have HX8 := hid hx
    have HT8 := hid hst
    have HB8 := hid (shplay_keeps HB7.out HM7.out HX7.out (by decide) (by decide) (by decide) (by decide) hk)
    have HK8 : Hid (Keep0 w w8) := hid (play_far HM7.out hzx hk w HK7.out (Nat.le_refl _))
    have HEX := hid hex
    have hLN : pt.L.length ≤ 300 := by have := hex.cnt; omega
    have HSM := hid (fun x hx => (HEX.out.acc x hx).2.2.2)
    clear hp hm ho hx hst hk hex HM7 HX7 HT7 HB7 HK7
    go_wp2_with fail
    apply wp_region_free (WI := fun S gh wy => Keep0 w8 wy ∧ GWI (lgD pt.L 1) S gh wy) (by kernel_rfl) (by kernel_rfl)
    case hob =>
      apply ObligF.fixed
      case h =>
        intro S gh w1 hwi hSi hd hcl
        apply StepOk.intro
        intro K hK
        have cb := (hwi.1.blk HB8.out (fun h => h)).k14
        go_simp
        apply hK
        · rfl
        · conv => (lhs; whnf)
        · exact ⟨hwi.1, GWI.fixed hwi.2 (lgD_no (by decide))⟩
      simp only [put_lit, put_none, List.set_cons_succ, List.set_cons_zero]
      apply ObligF.free
      case h =>
        intro S gh w1 hwi hSi hd hcl
        apply StepG.intro
        intro K hK
        have cb := (hwi.1.blk HB8.out (fun h => h)).k14
        go_simp
        refine (mem_Log (HM8.out.same hwi.1) (by omega)).mono ?_
        rintro e w2 ⟨A2, c2, rfl, hi, hk⟩
        apply hK
        · rfl
        · exact ⟨Keep0.step hwi.1 hk, GWI.free (hwi.2.keep lgD_stable hk) (fun _ => ⟨_, c2, rfl, hi⟩)⟩
      simp only [put_lit, put_none, List.set_cons_succ, List.set_cons_zero]
      apply ObligF.fixed
      case h =>
        intro S gh w1 hwi hSi hd hcl
        apply StepOk.intro
        intro K hK
        have cb := (hwi.1.blk HB8.out (fun h => h)).k14
        go_simp
        apply hK
        · rfl
        · conv => (lhs; whnf)
        · exact ⟨hwi.1, GWI.fixed hwi.2 (lgD_no (by decide))⟩
      simp only [put_lit, put_none, List.set_cons_succ, List.set_cons_zero]
      apply ObligF.fixed
      case h =>
        intro S gh w1 hwi hSi hd hcl
        apply StepOk.intro
        intro K hK
        have cb := (hwi.1.blk HB8.out (fun h => h)).k14
        go_simp
        apply hK
        · rfl
        · conv => (lhs; whnf)
        · exact ⟨hwi.1, GWI.fixed hwi.2 (lgD_no (by decide))⟩
      simp only [put_lit, put_none, List.set_cons_succ, List.set_cons_zero]
      apply ObligF.fixed
      case h =>
        intro S gh w1 hwi hSi hd hcl
        apply StepOk.intro
        intro K hK
        have cb := (hwi.1.blk HB8.out (fun h => h)).k14
        go_simp
        apply hK
        · rfl
        · conv => (lhs; whnf)
        · exact ⟨hwi.1, GWI.fixed hwi.2 (lgD_no (by decide))⟩
      simp only [put_lit, put_none, List.set_cons_succ, List.set_cons_zero]
      apply ObligF.fixed
      case h =>
        intro S gh w1 hwi hSi hd hcl
        apply StepOk.intro
        intro K hK
        have cb := (hwi.1.blk HB8.out (fun h => h)).k14
        go_simp
        refine (show Calls Try.prog 31 #[.agg #[i64 t, i64 s, i64 g, i64 l, i64 r, i64 k, .slice PA P.length pc, .slice LA L.length lc], i64 v] w1 (Ret (i64 (li : Int)) w1) from by have h := plan_Limit t (s : Int) g l r k PA P.length pc LA L.length lc v w1 hs.1 hs.2 hv0 (by omega); rw [← HLI.out.1] at h; exact h).mono ?_
        rintro e w2 ⟨rfl, hk⟩
        apply hK
        · rfl
        · conv => (lhs; whnf)
        · exact ⟨Keep0.step hwi.1 hk, GWI.fixed (hwi.2.keep lgD_stable hk) (lgD_no (by decide))⟩
      simp only [put_lit, put_none, List.set_cons_succ, List.set_cons_zero]
      apply ObligF.fixed
      case h =>
        intro S gh w1 hwi hSi hd hcl
        apply StepOk.intro
        intro K hK
        obtain ⟨A1, c1, e1, hi1⟩ := hwi.2 1 (hd ⟨1, .data⟩ (by simp) rfl) rfl
        rw [e1]
        go_simp
        refine (law9_added _ A1 c1 pt.L li hi1 (by omega) HSM.out).mono ?_
        rintro e w2 ⟨rfl, hk⟩
        apply hK
        · rfl
        · conv => (lhs; whnf)
        · exact ⟨Keep0.step hwi.1 hk, GWI.fixed (hwi.2.keep lgD_stable hk) (lgD_no (by decide))⟩
      simp only [put_lit, put_none, List.set_cons_succ, List.set_cons_zero]
      apply ObligF.fixed
      case h =>
        intro S gh w1 hwi hSi hd hcl
        apply StepOk.intro
        intro K hK
        have cb := (hwi.1.blk HB8.out (fun h => h)).k14
        go_simp
        apply hK
        · rfl
        · conv => (lhs; whnf)
        · exact ⟨hwi.1, GWI.fixed hwi.2 (lgD_no (by decide))⟩
      simp only [put_lit, put_none, List.set_cons_succ, List.set_cons_zero]
      exact ObligF.nil
    case h0 =>
      exact ⟨(Keep.refl _ _).drew, GWI.start _ _ _⟩
    case hend =>
      intro S gh wx hwi hall
      have HM9 := hid (HM8.out.same hwi.1)
      have HX9 := hid (hwi.1.blk HX8.out (fun h => h))
      have HB9 := hid (hwi.1.blk HB8.out (fun h => h))
      have HK9 : Hid (Keep0 w wx) := hid (Keep0.step HK8.out hwi.1)
      clear hwi hall HM8 HX8 HB8 HK8
      obtain ⟨w9, rfl⟩ : ∃ w9 : World, w9 = wx := ⟨_, rfl⟩
      go_wp2_with fail
      apply wp_region_free (WI := fun S gh wy => Keep0 w9 wy ∧ GWI (lgD pt.L 1) S gh wy) (by kernel_rfl) (by kernel_rfl)
      case hob =>
        apply ObligF.fixed
        case h =>
          intro S gh w1 hwi hSi hd hcl
          apply StepOk.intro
          intro K hK
          have cb := (hwi.1.blk HB9.out (fun h => h)).k14
          go_simp
          apply hK
          · rfl
          · conv => (lhs; whnf)
          · exact ⟨hwi.1, GWI.fixed hwi.2 (lgD_no (by decide))⟩
        simp only [put_lit, put_none, List.set_cons_succ, List.set_cons_zero]
        apply ObligF.free
        case h =>
          intro S gh w1 hwi hSi hd hcl
          apply StepG.intro
          intro K hK
          have cb := (hwi.1.blk HB9.out (fun h => h)).k14
          go_simp
          refine (mem_Log (HM9.out.same hwi.1) (by omega)).mono ?_
          rintro e w2 ⟨A2, c2, rfl, hi, hk⟩
          apply hK
          · rfl
          · exact ⟨Keep0.step hwi.1 hk, GWI.free (hwi.2.keep lgD_stable hk) (fun _ => ⟨_, c2, rfl, hi⟩)⟩
        simp only [put_lit, put_none, List.set_cons_succ, List.set_cons_zero]
        apply ObligF.fixed
        case h =>
          intro S gh w1 hwi hSi hd hcl
          apply StepOk.intro
          intro K hK
          have cb := (hwi.1.blk HB9.out (fun h => h)).k14
          go_simp
          apply hK
          · rfl
          · conv => (lhs; whnf)
          · exact ⟨hwi.1, GWI.fixed hwi.2 (lgD_no (by decide))⟩
        simp only [put_lit, put_none, List.set_cons_succ, List.set_cons_zero]
        apply ObligF.fixed
        case h =>
          intro S gh w1 hwi hSi hd hcl
          apply StepOk.intro
          intro K hK
          have cb := (hwi.1.blk HB9.out (fun h => h)).k14
          go_simp
          apply hK
          · rfl
          · conv => (lhs; whnf)
          · exact ⟨hwi.1, GWI.fixed hwi.2 (lgD_no (by decide))⟩
        simp only [put_lit, put_none, List.set_cons_succ, List.set_cons_zero]
        apply ObligF.fixed
        case h =>
          intro S gh w1 hwi hSi hd hcl
          apply StepOk.intro
          intro K hK
          have cb := (hwi.1.blk HB9.out (fun h => h)).k14
          go_simp
          apply hK
          · rfl
          · conv => (lhs; whnf)
          · exact ⟨hwi.1, GWI.fixed hwi.2 (lgD_no (by decide))⟩
        simp only [put_lit, put_none, List.set_cons_succ, List.set_cons_zero]
        apply ObligF.fixed
        case h =>
          intro S gh w1 hwi hSi hd hcl
          apply StepOk.intro
          intro K hK
          have cb := (hwi.1.blk HB9.out (fun h => h)).k14
          go_simp
          refine (show Calls Try.prog 32 #[.agg #[i64 t, i64 s, i64 g, i64 l, i64 r, i64 k, .slice PA P.length pc, .slice LA L.length lc], i64 v] w1 (Ret (i64 (av : Int)) w1) from by have h := plan_Avail t (s : Int) g l r k PA P.length pc LA L.length lc v w1 hs.1 hs.2 hv0 (by omega); rw [← HAV.out] at h; exact h).mono ?_
          rintro e w2 ⟨rfl, hk⟩
          apply hK
          · rfl
          · conv => (lhs; whnf)
          · exact ⟨Keep0.step hwi.1 hk, GWI.fixed (hwi.2.keep lgD_stable hk) (lgD_no (by decide))⟩
        simp only [put_lit, put_none, List.set_cons_succ, List.set_cons_zero]
        apply ObligF.fixed
        case h =>
          intro S gh w1 hwi hSi hd hcl
          apply StepOk.intro
          intro K hK
          obtain ⟨A1, c1, e1, hi1⟩ := hwi.2 1 (hd ⟨1, .data⟩ (by simp) rfl) rfl
          rw [e1]
          go_simp
          refine (law9_added _ A1 c1 pt.L av hi1 (by omega) HSM.out).mono ?_
          rintro e w2 ⟨rfl, hk⟩
          apply hK
          · rfl
          · conv => (lhs; whnf)
          · exact ⟨Keep0.step hwi.1 hk, GWI.fixed (hwi.2.keep lgD_stable hk) (lgD_no (by decide))⟩
        simp only [put_lit, put_none, List.set_cons_succ, List.set_cons_zero]
        apply ObligF.fixed
        case h =>
          intro S gh w1 hwi hSi hd hcl
          apply StepOk.intro
          intro K hK
          have cb := (hwi.1.blk HB9.out (fun h => h)).k14
          go_simp
          apply hK
          · rfl
          · conv => (lhs; whnf)
          · exact ⟨hwi.1, GWI.fixed hwi.2 (lgD_no (by decide))⟩
        simp only [put_lit, put_none, List.set_cons_succ, List.set_cons_zero]
        exact ObligF.nil
      case h0 =>
        exact ⟨(Keep.refl _ _).drew, GWI.start _ _ _⟩
      case hend =>
        intro S gh wx hwi hall
        have HX10 := hid (hwi.1.blk HX9.out (fun h => h))
        have HK10 : Hid (Keep0 w wx) := hid (Keep0.step HK9.out hwi.1)
        clear hwi hall HM9 HX9 HB9 HK9
        obtain ⟨w10, rfl⟩ : ∃ w10 : World, w10 = wx := ⟨_, rfl⟩
        have hend9 := ended9 hk2 HEX.out ht
        rcases hend9 with ⟨rfl, hbad, hpq⟩ | ⟨rfl, hbad, hpq⟩ | ⟨rfl, hbad, hpq⟩ | ⟨hk0, hbad, hpq⟩
        · obtain ⟨hP, hQ⟩ := hpq
          have hq3 : what.tmod 3 = 0 := by rw [ykd]; rfl
          have HXA := hid (show Blk w10 x 85 [i64 li, i64 av, i64 v, i64 n, i64 pt.saw, .slice (some ⟨sb, 0, none⟩) (if 0 = 0 then 1 else 3) (if 0 = 0 then 1 else 3), i64 (atN 0 pt), i64 0, i64 0, .bool false, i64 0] from by have h := HX10.out; unfold scs shc at h; rw [hbad] at h; exact h)
          have ym : IntKind.i64.wrap (-n) = -n := IntWalk.i64_in _ (by omega)
          generalize addS li pt.L = PP at *
          generalize addS av pt.L = QQ at *
          clear HX10 HEX HSM ykd
          subst hP hQ
          go_wp2_with fail
          refine (sh_ans_any HXA.out).mono ?_
          rintro e w11 ⟨rfl, hk⟩
          have HK11 : Hid (Keep0 w w11) := hid (Keep0.step HK10.out hk)
          clear hk HXA
          go_wp2_with fail
          go_ret
          exact ⟨rfl, HK11.out⟩
        · obtain ⟨hP, hQ⟩ := hpq
          have hq3 : what.tmod 3 = 1 := by rw [ykd]; rfl
          have HXA := hid (show Blk w10 x 85 [i64 li, i64 av, i64 v, i64 n, i64 pt.saw, .slice (some ⟨sb, 0, none⟩) (if 1 = 0 then 1 else 3) (if 1 = 0 then 1 else 3), i64 (atN 1 pt), i64 0, i64 0, .bool false, i64 0] from by have h := HX10.out; unfold scs shc at h; rw [hbad] at h; exact h)
          have ym : IntKind.i64.wrap (-n) = -n := IntWalk.i64_in _ (by omega)
          generalize addS li pt.L = PP at *
          generalize addS av pt.L = QQ at *
          clear HX10 HEX HSM ykd
          subst hP hQ
          go_wp2_with fail
          refine (sh_ans_any HXA.out).mono ?_
          rintro e w11 ⟨rfl, hk⟩
          have HK11 : Hid (Keep0 w w11) := hid (Keep0.step HK10.out hk)
          clear hk HXA
          go_wp2_with fail
          go_ret
          exact ⟨rfl, HK11.out⟩
        · obtain ⟨hP, hQ⟩ := hpq
          have hq3 : what.tmod 3 = 2 := by rw [ykd]; rfl
          have HXA := hid (show Blk w10 x 85 [i64 li, i64 av, i64 v, i64 n, i64 pt.saw, .slice (some ⟨sb, 0, none⟩) (if 2 = 0 then 1 else 3) (if 2 = 0 then 1 else 3), i64 (atN 2 pt), i64 0, i64 0, .bool false, i64 0] from by have h := HX10.out; unfold scs shc at h; rw [hbad] at h; exact h)
          have ym : IntKind.i64.wrap (-n) = -n := IntWalk.i64_in _ (by omega)
          generalize addS li pt.L = PP at *
          generalize addS av pt.L = QQ at *
          clear HX10 HEX HSM ykd
          subst hP hQ
          go_wp2_with fail
          refine (sh_ans_any HXA.out).mono ?_
          rintro e w11 ⟨rfl, hk⟩
          have HK11 : Hid (Keep0 w w11) := hid (Keep0.step HK10.out hk)
          clear hk HXA
          go_wp2_with fail
          go_ret
          exact ⟨rfl, HK11.out⟩
        · have hk12 : kd = 1 ∨ kd = 2 := by omega
          rcases hk12 with rfl | rfl
          · obtain ⟨hP, hQ⟩ := hpq
            have hq3 : what.tmod 3 = 1 := by rw [ykd]; rfl
            have HXA := hid (show Blk w10 x 85 [i64 li, i64 av, i64 v, i64 n, i64 pt.saw, .slice (some ⟨sb, 0, none⟩) (if 1 = 0 then 1 else 3) (if 1 = 0 then 1 else 3), i64 (atN 1 pt), i64 6, i64 0, .bool false, i64 0] from by have h := HX10.out; unfold scs shc at h; rw [hbad] at h; exact h)
            have ym : IntKind.i64.wrap (-n) = -n := IntWalk.i64_in _ (by omega)
            generalize addS li pt.L = PP at *
            generalize addS av pt.L = QQ at *
            clear HX10 HEX HSM ykd
            subst hP hQ
            go_wp2_with fail
            refine (sh_ans_any HXA.out).mono ?_
            rintro e w11 ⟨rfl, hk⟩
            have HK11 : Hid (Keep0 w w11) := hid (Keep0.step HK10.out hk)
            clear hk HXA
            go_wp2_with fail
            go_ret
            exact ⟨rfl, HK11.out⟩
          · obtain ⟨hP, hQ⟩ := hpq
            have hq3 : what.tmod 3 = 2 := by rw [ykd]; rfl
            have HXA := hid (show Blk w10 x 85 [i64 li, i64 av, i64 v, i64 n, i64 pt.saw, .slice (some ⟨sb, 0, none⟩) (if 2 = 0 then 1 else 3) (if 2 = 0 then 1 else 3), i64 (atN 2 pt), i64 4, i64 0, .bool false, i64 v] from by have h := HX10.out; unfold scs shc at h; rw [hbad] at h; exact h)
            have ym : IntKind.i64.wrap (-n) = -n := IntWalk.i64_in _ (by omega)
            generalize addS li pt.L = PP at *
            generalize addS av pt.L = QQ at *
            clear HX10 HEX HSM ykd
            subst hP hQ
            go_wp2_with fail
            refine (sh_ans_any HXA.out).mono ?_
            rintro e w11 ⟨rfl, hk⟩
            have HK11 : Hid (Keep0 w w11) := hid (Keep0.step HK10.out hk)
            clear hk HXA
            go_wp2_with fail
            go_ret
            exact ⟨rfl, HK11.out⟩
end Go.Proofs.Ytonekdolmbdniaa
