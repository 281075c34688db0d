/- ShiftAlone: alone a raise takes three accesses, unless the limit would be too great, a lowering three, unless too little is available, and else one; a refund one. -/
import Derived.Test.YtonekdolmbdniaaLawNineC
import Derived.Test.YtonekdolmbdniaaSame
namespace Go.Proofs.Ytonekdolmbdniaa
open Go.RowKit
set_option linter.unusedVariables false
set_option linter.unusedSimpArgs false
set_option maxRecDepth 100000

set_option maxHeartbeats 4000000 in
theorem shiftAlone_walk {w : World} {v0 : Value} (hc : PoolIn w v0) (what : Int) (hy : (Lit.int .u8 what).wf = true) (lim : Int) (hlim : (Lit.int .u32 lim).wf = true) (big : Bool) : Calls Try.prog 3 #[v0, .int .u8 what, .int .u32 lim, .bool big] w (Ret (.bool true) w) := by
  have hy := bounds_u8 hy
  have hlim := bounds_u32 hlim
  obtain ⟨t, s, g, l, r, k, P, L, PA, pc, LA, lc, nd, nn, st, avl, Q, QA, qc, K, KA, kc, rfl, hP, hL, hp1, hl1, hnd, hnn, hst, havl, hQ, hq1, hq2, hK, hk1⟩ := hc
  have HB : Hid (Blk (w.alloc (.cells #[i64 t, i64 s, i64 g, i64 l, i64 r, i64 k, .slice PA P.length pc, .slice LA L.length lc, .int .u8 nd, .int .u32 nn, .int .u8 st, .int .u32 avl, .slice QA Q.length qc, .slice KA K.length kc] 29)) w.heap.size 29 [i64 t, i64 s, i64 g, i64 l, i64 r, i64 k, .slice PA P.length pc, .slice LA L.length lc, .int .u8 nd, .int .u32 nn, .int .u8 st, .int .u32 avl, .slice QA Q.length qc, .slice KA K.length kc]) := hid (Blk.made rfl rfl)
  have HK0 : Hid (Keep0 w (w.alloc (.cells #[i64 t, i64 s, i64 g, i64 l, i64 r, i64 k, .slice PA P.length pc, .slice LA L.length lc, .int .u8 nd, .int .u32 nn, .int .u8 st, .int .u32 avl, .slice QA Q.length qc, .slice KA K.length kc] 29))) := hid ((Keep.refl _ _).alloc _)
  have HGD := hid (fun (w' : World) (hk : Keep0 w w') => law8_Good t s g l r k PA P pc LA L lc nd nn st avl QA Q qc KA K kc w' (hP.keep hk) (hL.keep hk) hp1 hl1 hq1 hk1)
  have HWO := hid (fun (w' : World) (hk : Keep0 w w') hR hq => law8_Words t s g l r k PA P pc LA L lc nd nn st avl QA Q qc KA K kc w' (hP.keep hk) (hL.keep hk) (hQ.keep hk) hR hnd hnn hst havl hq hq2)
  have HPK := hid (fun (w' : World) (hk : Keep0 w w') hR hk40 => law9_pokes t s g l r k PA P pc LA L lc nd nn st avl QA Q qc KA K kc w' (hK.keep hk) hR hnd hnn hst hk40)
  clear hP hL hQ hK hq2
  go_enter Try.func3, Try.ntmps3
  go_wp2_with fail
  have qHB := HB.out.k14
  refine (law9_head _).mono ?_
  rintro e w1 ⟨rfl, hk⟩
  have HK1 : Hid (Keep0 w w1) := hid (Keep0.step HK0.out hk)
  have T := hk.blk HB.out (fun h => h)
  clear hk HB HK0 qHB
  have HB := hid T
  clear T
  have qHB := HB.out.k14
  go_wp2_with fail
  refine (HGD.out _ HK1.out).mono ?_
  rintro e w2 ⟨rfl, hk⟩
  have HK2 : Hid (Keep0 w w2) := hid (Keep0.step HK1.out hk)
  have T := hk.blk HB.out (fun h => h)
  clear hk HB HK1 qHB HGD hp1 hl1 hq1 hk1
  have HB := hid T
  clear T
  have qHB := HB.out.k14
  cases hgood : good8B t s g l r k P L Q.length K.length
  · go_wp2
    go_ret
    exact ⟨rfl, HK2.out⟩
  · simp only [good8B, Bool.and_eq_true, decide_eq_true_eq] at hgood
    obtain ⟨⟨hgood, hk40⟩, hq20⟩ := hgood
    have R := Right.of hgood
    clear hgood
    obtain ⟨s, rfl⟩ := Int.eq_ofNat_of_zero_le (show 0 ≤ s by have := R.sb; omega)
    have hs := R.sb
    have hp := R.p
    have hl := R.l
    have hkk := R.k
    have hlen := R.len
    have HOF := hid (fun (w' : World) => law8_Of t (s : Int) g l r k PA P pc LA L lc nd nn st avl QA Q qc KA K kc w' ⟨hp.1, by omega⟩ hs hnd hnn hst)
    have HWO2 := hid (fun w' hk => HWO.out w' hk R hq20)
    have HPK2 := hid (fun w' hk => HPK.out w' hk R hk40)
    clear HWO HPK
    have hv0 := Int.emod_nonneg nd (show (P.length : Int) ≠ 0 by omega)
    have hv1 := Int.emod_lt_of_pos nd (show (0 : Int) < P.length by omega)
    have hu0 := Int.emod_nonneg st (show (s : Int) ≠ 0 by omega)
    have hu1 := Int.emod_lt_of_pos st (show (0 : Int) < s by omega)
    have hn0 := Int.emod_nonneg nn (show (1048576 : Int) ≠ 0 by omega)
    have hn1 := Int.emod_lt_of_pos nn (show (0 : Int) < 1048576 by omega)
    generalize nd % (P.length : Int) = v at *
    generalize st % (s : Int) = u at *
    generalize hne : nn % 1048576 + 1 = n at *
    have hn : 1 ≤ n ∧ n ≤ 1048576 := by omega
    clear hne hn0 hn1
    have PW := poolWords R (v := v) (avl := avl) (Q := Q) ⟨hv0, hv1⟩ havl
    have hm1 := mul_bd 12 22 hv0 (by omega) (show 0 ≤ 6 + 2 * (s : Int) by omega) (by omega)
    have hm4 := mul_bd 12 22 (show (0 : Int) ≤ P.length by omega) (by omega) (show 0 ≤ 6 + 2 * (s : Int) by omega) (by omega)
    obtain ⟨av, hav⟩ := Int.eq_ofNat_of_zero_le (show 0 ≤ v * (6 + 2 * (s : Int)) + 1 by omega)
    rw [show (v * (6 + 2 * (s : Int)) + 1).toNat = av from by omega] at PW
    have hav0 : av ≤ 300 := by omega
    have HAV := hid hav.symm
    clear hav
    obtain ⟨u, rfl⟩ := Int.eq_ofNat_of_zero_le hu0
    have hus : u < s := by omega
    have hfit := PW.fit
    rw [Int.toNat_natCast] at hfit
    have hWl := PW.len
    generalize hWW : words8 (s : Int) k l L P.length v avl Q = WW at *
    clear hWW
    have HN : Hid ((P.length : Int) * (6 + 2 * (s : Int)) + 2 * k = (WW.length : Int)) := hid (by have := hkk; omega)
    have hWm : WW.length ≤ 10000 := by omega
    rw [← hWl] at hfit
    clear hWl
    obtain ⟨li, HLI⟩ : ∃ li : Nat, Hid ((li : Int) = v * (6 + 2 * (s : Int)) ∧ li + 1 = av) := ⟨(v * (6 + 2 * (s : Int))).toNat, hid (by have := HAV.out; omega)⟩
    have hla := HLI.out.2
    have hl9 := lim9_bd hlim big
    obtain ⟨VV, HVV⟩ : ∃ VV : List Int, Hid (VV = WW.set li (lim9 lim big)) := ⟨_, hid rfl⟩
    have HVL : Hid (VV.length = WW.length) := hid (by rw [HVV.out, List.length_set])
    have HSV : Hid (rd VV li = lim9 lim big ∧ rd VV av = avl ∧ ∀ i, -1099511627776 * 4 ≤ rd VV i ∧ rd VV i ≤ 1099511627776 * 4) := hid (by
      rw [HVV.out]
      refine ⟨by rw [rd_set, if_pos ⟨rfl, by omega⟩], by rw [rd_set, if_neg (by omega)]; exact PW.isav, fun i => ?_⟩
      rw [rd_set]
      split
      · omega
      · have := PW.all i; omega)
    have HR := hid R
    clear PW R hm4 hlen
    go_wp2_with fail
    have hOF := HOF.out
    refine (hOF _).mono ?_
    rintro e w3 ⟨rfl, hk⟩
    have HK3 : Hid (Keep0 w w3) := hid (Keep0.step HK2.out hk)
    have T := hk.blk HB.out (fun h => h)
    clear hk HB HK2 qHB
    have HB := hid T
    clear T
    have qHB := HB.out.k14
    go_wp2_with fail
    have HWK := hid (fun (w' : World) (hk : Keep0 w3 w') => HWO2.out w' (HK3.out.trans hk (fun _ _ h => h)))
    refine (law9_words t (s : Int) g l r k PA P.length pc LA L.length lc nd nn st avl QA Q.length qc KA K.length kc v n (u : Int) lim big li WW w3 hOF HWK.out hs ⟨hv0, by omega⟩ HLI.out.1 (by omega) hWm hlim).mono ?_
    rintro e w4 ⟨WA, Wc, rfl, how, hk⟩
    rw [← HVV.out] at how
    have HK4 : Hid (Keep0 w w4) := hid (Keep0.step HK3.out hk)
    have T := hk.blk HB.out (fun h => h)
    have hw3 := HK3.out.size
    clear hk HB HK3 qHB HWO2 HWK hOF HOF
    have HB := hid T
    clear T
    have qHB := HB.out.k14
    rw [← HVL.out] at how
    rw [← HVL.out] at HN hfit hWm
    have HWL := hid (show WW.length = VV.length from HVL.out.symm)
    obtain ⟨wg, rfl, hwg, hwge⟩ := ints_own how (by omega) rfl
    have HWG := hid hwg
    have HOW := hid how
    clear hwg how
    rw [show WW.length = VV.length from HWL.out]
    go_wp2_with fail
    refine (law8_Laid w.heap.size _ _ _ VV HWG.out.at_ hWm HK4.out.size).mono ?_
    rintro e w5 ⟨m, a, lv5, rfl, hm, hk, hzm, hza⟩
    have HM5 := hid hm
    have HK5 : Hid (Keep0 w w5) := hid (Keep0.step HK4.out hk)
    have hzm' := Nat.le_trans HK4.out.size hzm
    have hza' := Nat.le_trans HK4.out.size hza
    have HWG5 := hid (hk.ints HWG.out (fun h => h))
    have HOW5 := hid (ownsRow_keep HOW.out hk (fun _ _ h => h))
    have hwgm : wg ≠ a := by have := HWG.out.lt; omega
    have hwgm2 : wg ≠ m := by have := HWG.out.lt; omega
    have T := hk.blk HB.out (fun h => h)
    clear hk hm hzm hza HB HK4 qHB HWG HOW
    have HB := hid T
    clear T
    have qHB := HB.out.k14
    go_wp2_with fail
    have hq0 := Int.emod_nonneg what (show (3 : Int) ≠ 0 by omega)
    have hq1 := Int.emod_lt_of_pos what (show (0 : Int) < 3 by omega)
    obtain ⟨kd, hkd⟩ := Int.eq_ofNat_of_zero_le hq0
    have hk2 : kd ≤ 2 := by omega
    have ykd : what.tmod 3 = (kd : Int) := by rw [Int.tmod_eq_emod_of_nonneg hy.1]; exact hkd
    refine (law9_kind t (s : Int) g l r k PA P.length pc LA L.length lc v n what kd _ hy hkd hs.1 hs.2 hv0 (by omega)).mono ?_
    rintro e w6 ⟨x, sb, rfl, hb, hst, hk, hx, hsx⟩
    rw [show v * (6 + 2 * (s : Int)) + 1 = (av : Int) from HAV.out.symm, ← HLI.out.1] at hb
    have HX6 := hid (show Blk w6 x 85 (scs kd li av v n sb (sStart kd VV)) from by rw [scs_start]; exact hb)
    have HT6 := hid hst
    have HM6 := hid (HM5.out.same hk)
    have HK6 : Hid (Keep0 w w6) := hid (Keep0.step HK5.out hk)
    have hzx := Nat.le_trans HK5.out.size hx
    have HWG6 := hid (hk.ints HWG5.out (fun h => h))
    have HOW6 := hid (ownsRow_keep HOW5.out hk (fun _ _ h => h))
    have hwgx : wg ≠ x := by have := HWG5.out.lt; omega
    have HSI := hid (sinv9 (W := VV) (kd := kd) (li := li) (av := av) (n := n) (by omega) hla (by omega) hn (by have := HSV.out.1; omega) (by have := HSV.out.2.1; omega))
    have T := hk.blk HB.out (fun h => h)
    clear hk hb hst hx hsx HM5 HB HK5 qHB HWG5 HOW5
    have HB := hid T
    clear T
    have qHB := HB.out.k14
    go_wp2_with fail
    have hbl := HSV.out.1
    have hba := HSV.out.2.1
    rw [← hbl] at hl9
    rw [← hba] at havl
    have ysum : IntKind.i64.wrap (rd VV li + n) = rd VV li + n := IntWalk.i64_in _ (by omega)
    clear hbl hba
    have hkx : kd = 0 ∨ kd = 1 ∨ kd = 2 := by omega
    rcases hkx with rfl | rfl | rfl
    · have hq3 : what.tmod 3 = 0 := by rw [ykd]; rfl
      have hal := sAlone (kd := 0) (f := sF 0 li av) (g := sG 0 li av) (n := n) VV.length VV 297 HSI.out
      rw [if_pos rfl] at hal
      have hp := play_shift (B := w.heap.size) (w := w6) (m := m) (a := a) (x := x) (lv := lv5) (kd := 0) (li := li) (av := av) (sb := sb) (nd := v) (n := n) (X := 1099511627776) (sStart 0 VV) [] none 0 0 0 300 HM6.out HX6.out HT6.out HSI.out (by simp [sStart]) (by omega) (by omega) (by simp) (by intro p hp; cases hp) (fun h => by simp at h) (fun i h => by simp at h)
      rw [show (sStart 0 VV).W.length = VV.length from rfl, show (300 : Nat) = 3 + 297 from rfl, hal] at hp
      refine hp.mono ?_
      rintro e w7 ⟨rfl, ⟨kk, lv7, hm, ho, hx, hl7, -⟩, hk⟩
      have HM7 := hid hm
      have HX7 := hid hx
      have HB7 := hid (shplay_keeps HB.out HM6.out HX6.out (by decide) (by decide) (by decide) (by decide) hk)
      have HWG7 := hid (hk.ints HWG6.out (by
        have := HWG6.out.lt
        rintro ((h | h | h | h) | h)
        · exact hwgm2 h
        · exact hwgm h
        · exact hwgx h
        · exact own_own_ne HOW6.out HM6.out.log (by decide) wg rfl h
        · omega))
      have HK7 : Hid (Keep0 w w7) := hid (play_far HM6.out hzx hk w HK6.out (Nat.le_refl _))
      clear hp hm ho hx hk HM6 HX6 HB qHB HK6 HWG6 HOW6 HPK2 hal
      have qB7 := HB7.out.k14
      have c17 := HWG7.out.cell li (by omega)
      have c27 := HWG7.out.cell av (by omega)
      have zz7 := HWG7.out.lt
      go_wp2_with fail
      refine Calls.mono (show Calls Try.prog 16 #[.agg #[i64 t, i64 s, i64 g, i64 l, i64 r, i64 k, .slice PA P.length pc, .slice LA L.length lc], i64 v] w7 (Ret (i64 (li : Int)) w7) from by have h := ref_Limit t (s : Int) g l r k PA P.length pc LA L.length lc v w7 hs.1 hs.2 hv0 (by omega); rw [← HLI.out.1] at h; exact h) ?_
      rintro e w8 ⟨rfl, hk⟩
      have HM8 := hid (HM7.out.same hk)
      have HX8 := hid (hk.blk HX7.out (fun h => h))
      have HB8 := hid (hk.blk HB7.out (fun h => h))
      have HWG8 := hid (hk.ints HWG7.out (fun h => h))
      have HK8 : Hid (Keep0 w w8) := hid (Keep0.step HK7.out hk)
      clear hk HM7 HX7 HB7 HWG7 HK7 qB7 c17 c27 zz7
      have qB8 := HB8.out.k14
      have c18 := HWG8.out.cell li (by omega)
      have c28 := HWG8.out.cell av (by omega)
      have zz8 := HWG8.out.lt
      go_wp2_with fail
      refine Calls.mono (show Calls Try.prog 17 #[.agg #[i64 t, i64 s, i64 g, i64 l, i64 r, i64 k, .slice PA P.length pc, .slice LA L.length lc], i64 v] w8 (Ret (i64 (av : Int)) w8) from by have h := ref_Avail t (s : Int) g l r k PA P.length pc LA L.length lc v w8 hs.1 hs.2 hv0 (by omega); rw [← HAV.out] at h; exact h) ?_
      rintro e w9 ⟨rfl, hk⟩
      have HM9 := hid (HM8.out.same hk)
      have HX9 := hid (hk.blk HX8.out (fun h => h))
      have HB9 := hid (hk.blk HB8.out (fun h => h))
      have HWG9 := hid (hk.ints HWG8.out (fun h => h))
      have HK9 : Hid (Keep0 w w9) := hid (Keep0.step HK8.out hk)
      clear hk HM8 HX8 HB8 HWG8 HK8 qB8 c18 c28 zz8
      have qB9 := HB9.out.k14
      have c19 := HWG9.out.cell li (by omega)
      have c29 := HWG9.out.cell av (by omega)
      have zz9 := HWG9.out.lt
      go_wp2_with fail
      refine (show Calls Try.prog 18 #[ptr x] w9 (Ret (.agg #[i64 0, i64 0, .bool false, i64 0]) w9) from by have h := sh_Ans HX9.out; exact h).mono ?_
      rintro e w10 ⟨rfl, hk⟩
      have HKE : Hid (Keep0 w w10) := hid (Keep0.step HK9.out hk)
      clear hk
      go_wp2_with fail
      go_ret
      exact ⟨rfl, HKE.out⟩
    · by_cases hrf : sRef 1 n (rd VV (sF 1 li av)) = true
      · have g9 : 1099511627776 < rd VV li + n := by simp [sRef, sF] at hrf; omega
        have hq3 : what.tmod 3 = 1 := by rw [ykd]; rfl
        have hal := sAlone (kd := 1) (f := sF 1 li av) (g := sG 1 li av) (n := n) VV.length VV 297 HSI.out
        rw [if_neg (by decide), if_pos hrf] at hal
        have hp := play_shift (B := w.heap.size) (w := w6) (m := m) (a := a) (x := x) (lv := lv5) (kd := 1) (li := li) (av := av) (sb := sb) (nd := v) (n := n) (X := 1099511627776) (sStart 1 VV) [] none 0 0 0 300 HM6.out HX6.out HT6.out HSI.out (by simp [sStart]) (by omega) (by omega) (by simp) (by intro p hp; cases hp) (fun h => by simp at h) (fun i h => by simp at h)
        rw [show (sStart 1 VV).W.length = VV.length from rfl, show (300 : Nat) = 3 + 297 from rfl, hal] at hp
        refine hp.mono ?_
        rintro e w7 ⟨rfl, ⟨kk, lv7, hm, ho, hx, hl7, -⟩, hk⟩
        have HM7 := hid hm
        have HX7 := hid hx
        have HB7 := hid (shplay_keeps HB.out HM6.out HX6.out (by decide) (by decide) (by decide) (by decide) hk)
        have HWG7 := hid (hk.ints HWG6.out (by
          have := HWG6.out.lt
          rintro ((h | h | h | h) | h)
          · exact hwgm2 h
          · exact hwgm h
          · exact hwgx h
          · exact own_own_ne HOW6.out HM6.out.log (by decide) wg rfl h
          · omega))
        have HK7 : Hid (Keep0 w w7) := hid (play_far HM6.out hzx hk w HK6.out (Nat.le_refl _))
        clear hp hm ho hx hk HM6 HX6 HB qHB HK6 HWG6 HOW6 HPK2 hal
        have qB7 := HB7.out.k14
        have c17 := HWG7.out.cell li (by omega)
        have c27 := HWG7.out.cell av (by omega)
        have zz7 := HWG7.out.lt
        go_wp2_with fail
        refine Calls.mono (show Calls Try.prog 16 #[.agg #[i64 t, i64 s, i64 g, i64 l, i64 r, i64 k, .slice PA P.length pc, .slice LA L.length lc], i64 v] w7 (Ret (i64 (li : Int)) w7) from by have h := ref_Limit t (s : Int) g l r k PA P.length pc LA L.length lc v w7 hs.1 hs.2 hv0 (by omega); rw [← HLI.out.1] at h; exact h) ?_
        rintro e w8 ⟨rfl, hk⟩
        have HM8 := hid (HM7.out.same hk)
        have HX8 := hid (hk.blk HX7.out (fun h => h))
        have HB8 := hid (hk.blk HB7.out (fun h => h))
        have HWG8 := hid (hk.ints HWG7.out (fun h => h))
        have HK8 : Hid (Keep0 w w8) := hid (Keep0.step HK7.out hk)
        clear hk HM7 HX7 HB7 HWG7 HK7 qB7 c17 c27 zz7
        have qB8 := HB8.out.k14
        have c18 := HWG8.out.cell li (by omega)
        have c28 := HWG8.out.cell av (by omega)
        have zz8 := HWG8.out.lt
        go_wp2_with fail
        refine Calls.mono (show Calls Try.prog 17 #[.agg #[i64 t, i64 s, i64 g, i64 l, i64 r, i64 k, .slice PA P.length pc, .slice LA L.length lc], i64 v] w8 (Ret (i64 (av : Int)) w8) from by have h := ref_Avail t (s : Int) g l r k PA P.length pc LA L.length lc v w8 hs.1 hs.2 hv0 (by omega); rw [← HAV.out] at h; exact h) ?_
        rintro e w9 ⟨rfl, hk⟩
        have HM9 := hid (HM8.out.same hk)
        have HX9 := hid (hk.blk HX8.out (fun h => h))
        have HB9 := hid (hk.blk HB8.out (fun h => h))
        have HWG9 := hid (hk.ints HWG8.out (fun h => h))
        have HK9 : Hid (Keep0 w w9) := hid (Keep0.step HK8.out hk)
        clear hk HM8 HX8 HB8 HWG8 HK8 qB8 c18 c28 zz8
        have qB9 := HB9.out.k14
        have c19 := HWG9.out.cell li (by omega)
        have c29 := HWG9.out.cell av (by omega)
        have zz9 := HWG9.out.lt
        go_wp2_with fail
        refine (show Calls Try.prog 18 #[ptr x] w9 (Ret (.agg #[i64 6, i64 0, .bool false, i64 0]) w9) from by have h := sh_Ans HX9.out; exact h).mono ?_
        rintro e w10 ⟨rfl, hk⟩
        have HM10 := hid (HM9.out.same hk)
        have HX10 := hid (hk.blk HX9.out (fun h => h))
        have HB10 := hid (hk.blk HB9.out (fun h => h))
        have HWG10 := hid (hk.ints HWG9.out (fun h => h))
        have HK10 : Hid (Keep0 w w10) := hid (Keep0.step HK9.out hk)
        clear hk HM9 HX9 HB9 HWG9 HK9 qB9 c19 c29 zz9
        have qB10 := HB10.out.k14
        have c110 := HWG10.out.cell li (by omega)
        have c210 := HWG10.out.cell av (by omega)
        have zz10 := HWG10.out.lt
        go_wp2_with fail
        refine (mem_Words HM10.out (by show VV.length ≤ 1000000000; omega)).mono ?_
        rintro e w11 ⟨g2, gc2, rfl, hi2, hk, _⟩
        have HI2 := hid (show Ints w11 g2 VV from hi2)
        clear hi2
        have HM11 := hid (HM10.out.same hk)
        have HX11 := hid (hk.blk HX10.out (fun h => h))
        have HB11 := hid (hk.blk HB10.out (fun h => h))
        have HWG11 := hid (hk.ints HWG10.out (fun h => h))
        have HK11 : Hid (Keep0 w w11) := hid (Keep0.step HK10.out hk)
        clear hk HM10 HX10 HB10 HWG10 HK10 qB10 c110 c210 zz10
        have qB11 := HB11.out.k14
        have c111 := HWG11.out.cell li (by omega)
        have c211 := HWG11.out.cell av (by omega)
        have zz11 := HWG11.out.lt
        go_wp2_with fail
        refine (same_ints _ _ VV gc2 Wc _ HI2.out.at_ HWG11.out.at_ (by omega)).mono ?_
        rintro e w12 ⟨hh, hk⟩
        subst hh
        have HKE : Hid (Keep0 w w12) := hid (Keep0.step HK11.out hk)
        clear hk
        go_wp2_with fail
        go_ret
        exact ⟨rfl, HKE.out⟩
      · have g9 : ¬ 1099511627776 < rd VV li + n := by simp [sRef, sF] at hrf; omega
        have hq3 : what.tmod 3 = 1 := by rw [ykd]; rfl
        have hal := sAlone (kd := 1) (f := sF 1 li av) (g := sG 1 li av) (n := n) VV.length VV 297 HSI.out
        rw [if_neg (by decide), if_neg hrf] at hal
        have hp := play_shift (B := w.heap.size) (w := w6) (m := m) (a := a) (x := x) (lv := lv5) (kd := 1) (li := li) (av := av) (sb := sb) (nd := v) (n := n) (X := 1099511627776) (sStart 1 VV) [] none 0 0 0 300 HM6.out HX6.out HT6.out HSI.out (by simp [sStart]) (by omega) (by omega) (by simp) (by intro p hp; cases hp) (fun h => by simp at h) (fun i h => by simp at h)
        rw [show (sStart 1 VV).W.length = VV.length from rfl, show (300 : Nat) = 3 + 297 from rfl, hal] at hp
        refine hp.mono ?_
        rintro e w7 ⟨rfl, ⟨kk, lv7, hm, ho, hx, hl7, -⟩, hk⟩
        have HM7 := hid hm
        have HX7 := hid hx
        have HB7 := hid (shplay_keeps HB.out HM6.out HX6.out (by decide) (by decide) (by decide) (by decide) hk)
        have HWG7 := hid (hk.ints HWG6.out (by
          have := HWG6.out.lt
          rintro ((h | h | h | h) | h)
          · exact hwgm2 h
          · exact hwgm h
          · exact hwgx h
          · exact own_own_ne HOW6.out HM6.out.log (by decide) wg rfl h
          · omega))
        have HK7 : Hid (Keep0 w w7) := hid (play_far HM6.out hzx hk w HK6.out (Nat.le_refl _))
        clear hp hm ho hx hk HM6 HX6 HB qHB HK6 HWG6 HOW6 HPK2 hal
        have qB7 := HB7.out.k14
        have c17 := HWG7.out.cell li (by omega)
        have c27 := HWG7.out.cell av (by omega)
        have zz7 := HWG7.out.lt
        go_wp2_with fail
        refine Calls.mono (show Calls Try.prog 16 #[.agg #[i64 t, i64 s, i64 g, i64 l, i64 r, i64 k, .slice PA P.length pc, .slice LA L.length lc], i64 v] w7 (Ret (i64 (li : Int)) w7) from by have h := ref_Limit t (s : Int) g l r k PA P.length pc LA L.length lc v w7 hs.1 hs.2 hv0 (by omega); rw [← HLI.out.1] at h; exact h) ?_
        rintro e w8 ⟨rfl, hk⟩
        have HM8 := hid (HM7.out.same hk)
        have HX8 := hid (hk.blk HX7.out (fun h => h))
        have HB8 := hid (hk.blk HB7.out (fun h => h))
        have HWG8 := hid (hk.ints HWG7.out (fun h => h))
        have HK8 : Hid (Keep0 w w8) := hid (Keep0.step HK7.out hk)
        clear hk HM7 HX7 HB7 HWG7 HK7 qB7 c17 c27 zz7
        have qB8 := HB8.out.k14
        have c18 := HWG8.out.cell li (by omega)
        have c28 := HWG8.out.cell av (by omega)
        have zz8 := HWG8.out.lt
        go_wp2_with fail
        refine Calls.mono (show Calls Try.prog 17 #[.agg #[i64 t, i64 s, i64 g, i64 l, i64 r, i64 k, .slice PA P.length pc, .slice LA L.length lc], i64 v] w8 (Ret (i64 (av : Int)) w8) from by have h := ref_Avail t (s : Int) g l r k PA P.length pc LA L.length lc v w8 hs.1 hs.2 hv0 (by omega); rw [← HAV.out] at h; exact h) ?_
        rintro e w9 ⟨rfl, hk⟩
        have HM9 := hid (HM8.out.same hk)
        have HX9 := hid (hk.blk HX8.out (fun h => h))
        have HB9 := hid (hk.blk HB8.out (fun h => h))
        have HWG9 := hid (hk.ints HWG8.out (fun h => h))
        have HK9 : Hid (Keep0 w w9) := hid (Keep0.step HK8.out hk)
        clear hk HM8 HX8 HB8 HWG8 HK8 qB8 c18 c28 zz8
        have qB9 := HB9.out.k14
        have c19 := HWG9.out.cell li (by omega)
        have c29 := HWG9.out.cell av (by omega)
        have zz9 := HWG9.out.lt
        go_wp2_with fail
        refine (show Calls Try.prog 18 #[ptr x] w9 (Ret (.agg #[i64 0, i64 0, .bool false, i64 0]) w9) from by have h := sh_Ans HX9.out; exact h).mono ?_
        rintro e w10 ⟨rfl, hk⟩
        have HKE : Hid (Keep0 w w10) := hid (Keep0.step HK9.out hk)
        clear hk
        go_wp2_with fail
        go_ret
        exact ⟨rfl, HKE.out⟩
    · by_cases hrf : sRef 2 n (rd VV (sF 2 li av)) = true
      · have g9 : rd VV av < n := by simpa [sRef, sF] using hrf
        have hq3 : what.tmod 3 = 2 := by rw [ykd]; rfl
        have hal := sAlone (kd := 2) (f := sF 2 li av) (g := sG 2 li av) (n := n) VV.length VV 297 HSI.out
        rw [if_neg (by decide), if_pos hrf] at hal
        have hp := play_shift (B := w.heap.size) (w := w6) (m := m) (a := a) (x := x) (lv := lv5) (kd := 2) (li := li) (av := av) (sb := sb) (nd := v) (n := n) (X := 1099511627776) (sStart 2 VV) [] none 0 0 0 300 HM6.out HX6.out HT6.out HSI.out (by simp [sStart]) (by omega) (by omega) (by simp) (by intro p hp; cases hp) (fun h => by simp at h) (fun i h => by simp at h)
        rw [show (sStart 2 VV).W.length = VV.length from rfl, show (300 : Nat) = 3 + 297 from rfl, hal] at hp
        refine hp.mono ?_
        rintro e w7 ⟨rfl, ⟨kk, lv7, hm, ho, hx, hl7, -⟩, hk⟩
        have HM7 := hid hm
        have HX7 := hid hx
        have HB7 := hid (shplay_keeps HB.out HM6.out HX6.out (by decide) (by decide) (by decide) (by decide) hk)
        have HWG7 := hid (hk.ints HWG6.out (by
          have := HWG6.out.lt
          rintro ((h | h | h | h) | h)
          · exact hwgm2 h
          · exact hwgm h
          · exact hwgx h
          · exact own_own_ne HOW6.out HM6.out.log (by decide) wg rfl h
          · omega))
        have HK7 : Hid (Keep0 w w7) := hid (play_far HM6.out hzx hk w HK6.out (Nat.le_refl _))
        clear hp hm ho hx hk HM6 HX6 HB qHB HK6 HWG6 HOW6 HPK2 hal
        have qB7 := HB7.out.k14
        have c17 := HWG7.out.cell li (by omega)
        have c27 := HWG7.out.cell av (by omega)
        have zz7 := HWG7.out.lt
        go_wp2_with fail
        refine Calls.mono (show Calls Try.prog 16 #[.agg #[i64 t, i64 s, i64 g, i64 l, i64 r, i64 k, .slice PA P.length pc, .slice LA L.length lc], i64 v] w7 (Ret (i64 (li : Int)) w7) from by have h := ref_Limit t (s : Int) g l r k PA P.length pc LA L.length lc v w7 hs.1 hs.2 hv0 (by omega); rw [← HLI.out.1] at h; exact h) ?_
        rintro e w8 ⟨rfl, hk⟩
        have HM8 := hid (HM7.out.same hk)
        have HX8 := hid (hk.blk HX7.out (fun h => h))
        have HB8 := hid (hk.blk HB7.out (fun h => h))
        have HWG8 := hid (hk.ints HWG7.out (fun h => h))
        have HK8 : Hid (Keep0 w w8) := hid (Keep0.step HK7.out hk)
        clear hk HM7 HX7 HB7 HWG7 HK7 qB7 c17 c27 zz7
        have qB8 := HB8.out.k14
        have c18 := HWG8.out.cell li (by omega)
        have c28 := HWG8.out.cell av (by omega)
        have zz8 := HWG8.out.lt
        go_wp2_with fail
        refine Calls.mono (show Calls Try.prog 17 #[.agg #[i64 t, i64 s, i64 g, i64 l, i64 r, i64 k, .slice PA P.length pc, .slice LA L.length lc], i64 v] w8 (Ret (i64 (av : Int)) w8) from by have h := ref_Avail t (s : Int) g l r k PA P.length pc LA L.length lc v w8 hs.1 hs.2 hv0 (by omega); rw [← HAV.out] at h; exact h) ?_
        rintro e w9 ⟨rfl, hk⟩
        have HM9 := hid (HM8.out.same hk)
        have HX9 := hid (hk.blk HX8.out (fun h => h))
        have HB9 := hid (hk.blk HB8.out (fun h => h))
        have HWG9 := hid (hk.ints HWG8.out (fun h => h))
        have HK9 : Hid (Keep0 w w9) := hid (Keep0.step HK8.out hk)
        clear hk HM8 HX8 HB8 HWG8 HK8 qB8 c18 c28 zz8
        have qB9 := HB9.out.k14
        have c19 := HWG9.out.cell li (by omega)
        have c29 := HWG9.out.cell av (by omega)
        have zz9 := HWG9.out.lt
        go_wp2_with fail
        refine (show Calls Try.prog 18 #[ptr x] w9 (Ret (.agg #[i64 4, i64 0, .bool false, i64 v]) w9) from by have h := sh_Ans HX9.out; exact h).mono ?_
        rintro e w10 ⟨rfl, hk⟩
        have HM10 := hid (HM9.out.same hk)
        have HX10 := hid (hk.blk HX9.out (fun h => h))
        have HB10 := hid (hk.blk HB9.out (fun h => h))
        have HWG10 := hid (hk.ints HWG9.out (fun h => h))
        have HK10 : Hid (Keep0 w w10) := hid (Keep0.step HK9.out hk)
        clear hk HM9 HX9 HB9 HWG9 HK9 qB9 c19 c29 zz9
        have qB10 := HB10.out.k14
        have c110 := HWG10.out.cell li (by omega)
        have c210 := HWG10.out.cell av (by omega)
        have zz10 := HWG10.out.lt
        go_wp2_with fail
        refine (mem_Words HM10.out (by show VV.length ≤ 1000000000; omega)).mono ?_
        rintro e w11 ⟨g2, gc2, rfl, hi2, hk, _⟩
        have HI2 := hid (show Ints w11 g2 VV from hi2)
        clear hi2
        have HM11 := hid (HM10.out.same hk)
        have HX11 := hid (hk.blk HX10.out (fun h => h))
        have HB11 := hid (hk.blk HB10.out (fun h => h))
        have HWG11 := hid (hk.ints HWG10.out (fun h => h))
        have HK11 : Hid (Keep0 w w11) := hid (Keep0.step HK10.out hk)
        clear hk HM10 HX10 HB10 HWG10 HK10 qB10 c110 c210 zz10
        have qB11 := HB11.out.k14
        have c111 := HWG11.out.cell li (by omega)
        have c211 := HWG11.out.cell av (by omega)
        have zz11 := HWG11.out.lt
        go_wp2_with fail
        refine (same_ints _ _ VV gc2 Wc _ HI2.out.at_ HWG11.out.at_ (by omega)).mono ?_
        rintro e w12 ⟨hh, hk⟩
        subst hh
        have HKE : Hid (Keep0 w w12) := hid (Keep0.step HK11.out hk)
        clear hk
        go_wp2_with fail
        go_ret
        exact ⟨rfl, HKE.out⟩
      · have g9 : ¬ rd VV av < n := by simpa [sRef, sF] using hrf
        have hq3 : what.tmod 3 = 2 := by rw [ykd]; rfl
        have hal := sAlone (kd := 2) (f := sF 2 li av) (g := sG 2 li av) (n := n) VV.length VV 297 HSI.out
        rw [if_neg (by decide), if_neg hrf] at hal
        have hp := play_shift (B := w.heap.size) (w := w6) (m := m) (a := a) (x := x) (lv := lv5) (kd := 2) (li := li) (av := av) (sb := sb) (nd := v) (n := n) (X := 1099511627776) (sStart 2 VV) [] none 0 0 0 300 HM6.out HX6.out HT6.out HSI.out (by simp [sStart]) (by omega) (by omega) (by simp) (by intro p hp; cases hp) (fun h => by simp at h) (fun i h => by simp at h)
        rw [show (sStart 2 VV).W.length = VV.length from rfl, show (300 : Nat) = 3 + 297 from rfl, hal] at hp
        refine hp.mono ?_
        rintro e w7 ⟨rfl, ⟨kk, lv7, hm, ho, hx, hl7, -⟩, hk⟩
        have HM7 := hid hm
        have HX7 := hid hx
        have HB7 := hid (shplay_keeps HB.out HM6.out HX6.out (by decide) (by decide) (by decide) (by decide) hk)
        have HWG7 := hid (hk.ints HWG6.out (by
          have := HWG6.out.lt
          rintro ((h | h | h | h) | h)
          · exact hwgm2 h
          · exact hwgm h
          · exact hwgx h
          · exact own_own_ne HOW6.out HM6.out.log (by decide) wg rfl h
          · omega))
        have HK7 : Hid (Keep0 w w7) := hid (play_far HM6.out hzx hk w HK6.out (Nat.le_refl _))
        clear hp hm ho hx hk HM6 HX6 HB qHB HK6 HWG6 HOW6 HPK2 hal
        have qB7 := HB7.out.k14
        have c17 := HWG7.out.cell li (by omega)
        have c27 := HWG7.out.cell av (by omega)
        have zz7 := HWG7.out.lt
        go_wp2_with fail
        refine Calls.mono (show Calls Try.prog 16 #[.agg #[i64 t, i64 s, i64 g, i64 l, i64 r, i64 k, .slice PA P.length pc, .slice LA L.length lc], i64 v] w7 (Ret (i64 (li : Int)) w7) from by have h := ref_Limit t (s : Int) g l r k PA P.length pc LA L.length lc v w7 hs.1 hs.2 hv0 (by omega); rw [← HLI.out.1] at h; exact h) ?_
        rintro e w8 ⟨rfl, hk⟩
        have HM8 := hid (HM7.out.same hk)
        have HX8 := hid (hk.blk HX7.out (fun h => h))
        have HB8 := hid (hk.blk HB7.out (fun h => h))
        have HWG8 := hid (hk.ints HWG7.out (fun h => h))
        have HK8 : Hid (Keep0 w w8) := hid (Keep0.step HK7.out hk)
        clear hk HM7 HX7 HB7 HWG7 HK7 qB7 c17 c27 zz7
        have qB8 := HB8.out.k14
        have c18 := HWG8.out.cell li (by omega)
        have c28 := HWG8.out.cell av (by omega)
        have zz8 := HWG8.out.lt
        go_wp2_with fail
        refine Calls.mono (show Calls Try.prog 17 #[.agg #[i64 t, i64 s, i64 g, i64 l, i64 r, i64 k, .slice PA P.length pc, .slice LA L.length lc], i64 v] w8 (Ret (i64 (av : Int)) w8) from by have h := ref_Avail t (s : Int) g l r k PA P.length pc LA L.length lc v w8 hs.1 hs.2 hv0 (by omega); rw [← HAV.out] at h; exact h) ?_
        rintro e w9 ⟨rfl, hk⟩
        have HM9 := hid (HM8.out.same hk)
        have HX9 := hid (hk.blk HX8.out (fun h => h))
        have HB9 := hid (hk.blk HB8.out (fun h => h))
        have HWG9 := hid (hk.ints HWG8.out (fun h => h))
        have HK9 : Hid (Keep0 w w9) := hid (Keep0.step HK8.out hk)
        clear hk HM8 HX8 HB8 HWG8 HK8 qB8 c18 c28 zz8
        have qB9 := HB9.out.k14
        have c19 := HWG9.out.cell li (by omega)
        have c29 := HWG9.out.cell av (by omega)
        have zz9 := HWG9.out.lt
        go_wp2_with fail
        refine (show Calls Try.prog 18 #[ptr x] w9 (Ret (.agg #[i64 0, i64 0, .bool false, i64 0]) w9) from by have h := sh_Ans HX9.out; exact h).mono ?_
        rintro e w10 ⟨rfl, hk⟩
        have HKE : Hid (Keep0 w w10) := hid (Keep0.step HK9.out hk)
        clear hk
        go_wp2_with fail
        go_ret
        exact ⟨rfl, HKE.out⟩
end Go.Proofs.Ytonekdolmbdniaa
