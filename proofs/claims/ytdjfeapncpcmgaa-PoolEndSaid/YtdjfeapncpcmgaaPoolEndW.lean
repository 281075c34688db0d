/- PoolEnd: behind its end a machine does nothing more. -/
import Derived.Test.YtdjfeapncpcmgaaPoolR
namespace Go.Proofs.Ytdjfeapncpcmgaa
open Go.RowKit
set_option linter.unusedVariables false
set_option linter.unusedSimpArgs false
set_option maxRecDepth 100000

def endD (n : Nat) : Nat → Value → World → Prop
  | 9 => fun u w => ∃ A c, u = .slice A n c
  | _ => fun _ _ => True
theorem endD_stable {n : Nat} : Stable (endD n) := by
  intro i u w w' h hk
  unfold endD at *
  split at h <;> first | exact h | trivial

set_option maxHeartbeats 4000000 in
theorem poolEnd_walk {w : World} {v0 : Value} (hc : PoolIn w v0) (most : Int) (hy : (Lit.int .u8 most).wf = true) : Calls Try.prog 9 #[v0, .int .u8 most] w (Ret (.bool true) w) := by
  have hy := bounds_u8 hy
  obtain ⟨t, s, g, l, r, k, P, L, PA, pc, LA, lc, nd, nn, st, avl, Q, QA, qc, K, KA, kc, rfl, hP, hL, hp1, hl1, hnd, hnn, hst, havl, hQ, hq1, hq2, hK, hk1⟩ := hc
  have HB : Hid (Blk (w.alloc (.cells #[i64 t, i64 s, i64 g, i64 l, i64 r, i64 k, .slice PA P.length pc, .slice LA L.length lc, .int .u8 nd, .int .u32 nn, .int .u8 st, .int .u32 avl, .slice QA Q.length qc, .slice KA K.length kc] 45)) w.heap.size 45 [i64 t, i64 s, i64 g, i64 l, i64 r, i64 k, .slice PA P.length pc, .slice LA L.length lc, .int .u8 nd, .int .u32 nn, .int .u8 st, .int .u32 avl, .slice QA Q.length qc, .slice KA K.length kc]) := hid (Blk.made rfl rfl)
  have HK0 : Hid (Keep0 w (w.alloc (.cells #[i64 t, i64 s, i64 g, i64 l, i64 r, i64 k, .slice PA P.length pc, .slice LA L.length lc, .int .u8 nd, .int .u32 nn, .int .u8 st, .int .u32 avl, .slice QA Q.length qc, .slice KA K.length kc] 45))) := hid ((Keep.refl _ _).alloc _)
  have HGD := hid (fun (w' : World) (hk : Keep0 w w') => law8_Good t s g l r k PA P pc LA L lc nd nn st avl QA Q qc KA K kc w' (hP.keep hk) (hL.keep hk) hp1 hl1 hq1 hk1)
  have HWO := hid (fun (w' : World) (hk : Keep0 w w') hR hq => law8_Words t s g l r k PA P pc LA L lc nd nn st avl QA Q qc KA K kc w' (hP.keep hk) (hL.keep hk) (hQ.keep hk) hR hnd hnn hst havl hq hq2)
  have HPK := hid (fun (w' : World) (hk : Keep0 w w') hR hk40 => law8_Pokes t s g l r k PA P pc LA L lc nd nn st avl QA Q qc KA K kc w' (hK.keep hk) hR hnd hnn hst hk40)
  clear hP hL hQ hK hq2
  go_enter Try.func9, Try.ntmps9
  go_wp2_with fail
  have qHB := HB.out.k14
  refine (law8_head _).mono ?_
  rintro e w1 ⟨rfl, hk⟩
  have HK1 : Hid (Keep0 w w1) := hid (Keep0.step HK0.out hk)
  have T := hk.blk HB.out (fun h => h)
  clear hk HB HK0 qHB
  have HB := hid T
  clear T
  have qHB := HB.out.k14
  go_wp2_with fail
  refine (HGD.out _ HK1.out).mono ?_
  rintro e w2 ⟨rfl, hk⟩
  have HK2 : Hid (Keep0 w w2) := hid (Keep0.step HK1.out hk)
  have T := hk.blk HB.out (fun h => h)
  clear hk HB HK1 qHB HGD hp1 hl1 hq1 hk1
  have HB := hid T
  clear T
  have qHB := HB.out.k14
  cases hgood : good8B t s g l r k P L Q.length K.length
  · go_wp2
    go_ret
    exact ⟨rfl, HK2.out⟩
  · simp only [good8B, Bool.and_eq_true, decide_eq_true_eq] at hgood
    obtain ⟨⟨hgood, hk40⟩, hq20⟩ := hgood
    have R := Right.of hgood
    clear hgood
    obtain ⟨s, rfl⟩ := Int.eq_ofNat_of_zero_le (show 0 ≤ s by have := R.sb; omega)
    have hs := R.sb
    have hp := R.p
    have hl := R.l
    have hkk := R.k
    have hlen := R.len
    have HOF := hid (fun (w' : World) => law8_Of t (s : Int) g l r k PA P pc LA L lc nd nn st avl QA Q qc KA K kc w' ⟨hp.1, by omega⟩ hs hnd hnn hst)
    have HWO2 := hid (fun w' hk => HWO.out w' hk R hq20)
    have HPK2 := hid (fun w' hk => HPK.out w' hk R hk40)
    clear HWO HPK
    have hv0 := Int.emod_nonneg nd (show (P.length : Int) ≠ 0 by omega)
    have hv1 := Int.emod_lt_of_pos nd (show (0 : Int) < P.length by omega)
    have hu0 := Int.emod_nonneg st (show (s : Int) ≠ 0 by omega)
    have hu1 := Int.emod_lt_of_pos st (show (0 : Int) < s by omega)
    have hn0 := Int.emod_nonneg nn (show (1048576 : Int) ≠ 0 by omega)
    have hn1 := Int.emod_lt_of_pos nn (show (0 : Int) < 1048576 by omega)
    generalize nd % (P.length : Int) = v at *
    generalize st % (s : Int) = u at *
    generalize hne : nn % 1048576 + 1 = n at *
    have hn : 1 ≤ n ∧ n ≤ 1048576 := by omega
    clear hne hn0 hn1
    have PW := poolWords R (v := v) (avl := avl) (Q := Q) ⟨hv0, hv1⟩ havl
    have hm1 := mul_bd 12 22 hv0 (by omega) (show 0 ≤ 6 + 2 * (s : Int) by omega) (by omega)
    have hm4 := mul_bd 12 22 (show (0 : Int) ≤ P.length by omega) (by omega) (show 0 ≤ 6 + 2 * (s : Int) by omega) (by omega)
    obtain ⟨av, hav⟩ := Int.eq_ofNat_of_zero_le (show 0 ≤ v * (6 + 2 * (s : Int)) + 1 by omega)
    rw [show (v * (6 + 2 * (s : Int)) + 1).toNat = av from by omega] at PW
    have hav0 : av ≤ 300 := by omega
    have HAV := hid hav.symm
    clear hav
    obtain ⟨u, rfl⟩ := Int.eq_ofNat_of_zero_le hu0
    have hus : u < s := by omega
    have hfit := PW.fit
    rw [Int.toNat_natCast] at hfit
    have hWl := PW.len
    generalize hWW : words8 (s : Int) k l L P.length v avl Q = WW at *
    clear hWW
    have HN : Hid ((P.length : Int) * (6 + 2 * (s : Int)) + 2 * k = (WW.length : Int)) := hid (by have := hkk; omega)
    have hWm : WW.length ≤ 10000 := by omega
    rw [← hWl] at hfit
    clear hWl
    have hPI : PInv av (av + 1 + u) n l 4294967296 ⟨WW, [], 0, 0, 0, 0, false⟩ := PInv.start (by omega) (by omega) (by omega) hn hl (PW.lease u (by rw [Int.toNat_natCast]; exact hus)) (by rw [PW.isav]; omega)
    have HPI := hid hPI
    have HPW := hid PW
    have HR := hid R
    clear hPI PW R hm4 hlen
    go_wp2_with fail
    refine (HOF.out _).mono ?_
    rintro e w3 ⟨rfl, hk⟩
    have HK3 : Hid (Keep0 w w3) := hid (Keep0.step HK2.out hk)
    have T := hk.blk HB.out (fun h => h)
    clear hk HB HK2 qHB HOF
    have HB := hid T
    clear T
    have qHB := HB.out.k14
    go_wp2_with fail
    refine (HWO2.out _ HK3.out).mono ?_
    rintro e w4 ⟨WA, Wc, rfl, how, hk⟩
    have HK4 : Hid (Keep0 w w4) := hid (Keep0.step HK3.out hk)
    have T := hk.blk HB.out (fun h => h)
    clear hk HB HK3 qHB HWO2
    have HB := hid T
    clear T
    have qHB := HB.out.k14
    obtain ⟨wg, rfl, hwg, hwge⟩ := ints_own how (by omega) rfl
    have HWG := hid hwg
    have HOW := hid how
    clear hwg how
    go_wp2_with fail
    refine (law8_Laid w.heap.size _ _ _ WW HWG.out.at_ hWm HK4.out.size).mono ?_
    rintro e w5 ⟨m, a, lv5, rfl, hm, hk, hzm, hza⟩
    have HM5 := hid hm
    have HK5 : Hid (Keep0 w w5) := hid (Keep0.step HK4.out hk)
    have hzm' := Nat.le_trans HK4.out.size hzm
    have hza' := Nat.le_trans HK4.out.size hza
    have HWG5 := hid (hk.ints HWG.out (fun h => h))
    have HOW5 := hid (ownsRow_keep HOW.out hk (fun _ _ h => h))
    have hwgm : wg ≠ a := by have := HWG.out.lt; omega
    have hwgm2 : wg ≠ m := by have := HWG.out.lt; omega
    have T := hk.blk HB.out (fun h => h)
    clear hk hm hzm hza HB HK4 qHB HWG HOW
    have HB := hid T
    clear T
    have qHB := HB.out.k14
    have HLL := hid (show ∀ (w' : World) lv (W : List Int) L, MemAt w.heap.size w' m a lv W L → ∀ k, MF m a lv k → w.heap.size ≤ k from by
      rintro w' lv W L h k (rfl | rfl | h2)
      · exact hzm'
      · exact hza'
      · exact (h.log.lt k h2).1)
    go_wp2_with fail
    refine (pool_New t (s : Int) g l r k PA P.length pc LA L.length lc v n (u : Int) _ hs.1 hs.2 hv0 (by omega) (by omega) (by omega)).mono ?_
    rintro e w6 ⟨x, rfl, hb, hk, hx⟩
    rw [show v * (6 + 2 * (s : Int)) + 1 = (av : Int) from HAV.out.symm, show v * (6 + 2 * (s : Int)) + 2 + (u : Int) = ((av + 1 + u : Nat) : Int) from by have := HAV.out; omega] at hb
    have HX6 := hid (show Blk w6 x 100 (pcs av (av + 1 + u) v n l 0 ⟨WW, [], 0, 0, 0, 0, false⟩) from hb)
    have HM6 := hid (HM5.out.same hk)
    have HK6 : Hid (Keep0 w w6) := hid (Keep0.step HK5.out hk)
    have hzx := Nat.le_trans HK5.out.size hx
    have HWG6 := hid (hk.ints HWG5.out (fun h => h))
    have HOW6 := hid (ownsRow_keep HOW5.out hk (fun _ _ h => h))
    have hwgx : wg ≠ x := by have := HWG5.out.lt; omega
    have T := hk.blk HB.out (fun h => h)
    clear hk hb hx HM5 HB HK5 qHB HWG5 HOW5
    have HB := hid T
    clear T
    have qHB := HB.out.k14
    go_wp2_with fail
    have hq0 : 0 ≤ most % 8 := Int.emod_nonneg _ (by omega)
    have hq1 : most % 8 < 8 := Int.emod_lt_of_pos _ (by omega)
    obtain ⟨q, hq⟩ := Int.eq_ofNat_of_zero_le hq0
    rw [hq]
    have hp := play_pool (B := w.heap.size) (w := w6) (m := m) (a := a) (x := x) (lv := lv5) (av := av) (le := av + 1 + u) (nd := v) (n := n) (lim := l) (X := 4294967296) ⟨WW, [], 0, 0, 0, 0, false⟩ [] none 0 0 0 q HM6.out HX6.out HPI.out (by simp) (by omega) (by omega) (by simp) (by intro p hp; cases hp) (fun h => by simp at h) (fun i h => by simp at h)
    have ht := pPlay_told (av := av) (le := av + 1 + u) (n := n) (lim := l) WW.length [] q 0 ⟨WW, [], 0, 0, 0, 0, false⟩ (by simp)
    have hlg := pPlay_log (av := av) (le := av + 1 + u) (n := n) (lim := l) WW.length [] q 0 ⟨WW, [], 0, 0, 0, 0, false⟩ (by simp) rfl
    have hle := pPlay_le (av := av) (le := av + 1 + u) (n := n) (lim := l) WW.length [] q 0 ⟨WW, [], 0, 0, 0, 0, false⟩
    rw [show (PS.mk WW [] 0 0 0 0 false).W.length = WW.length from rfl] at hp
    generalize playF (pStp av (av + 1 + u) n l) pPk WW.length [] q 0 ⟨WW, [], 0, 0, 0, 0, false⟩ = pf at *
    obtain ⟨pt, pn, pb⟩ := pf
    simp only at hp ht hlg hle
    refine hp.mono ?_
    rintro e w7 ⟨rfl, ⟨kk, lv7, hm, ho, hx, _, _, hpi, _⟩, hk⟩
    have HM7 := hid hm
    have HX7 := hid hx
    have HB7 := hid (play_keeps HB.out HM6.out HX6.out (by decide) (by decide) (by decide) (by decide) hk)
    have HK7 : Hid (Keep0 w w7) := hid (play_far HM6.out hzx hk w HK6.out (Nat.le_refl _))
    have hbd := hpi.b
    have HT := hid ht
    have HLL7 := hid hlg
    clear hp hm ho hx hk hpi HM6 HX6 HB qHB HK6 ht hlg HWG6 HOW6 HPI HPW HR HPK2
    go_wp2_with fail
    cases pb
    · obtain ⟨h7, hcnt⟩ := HT.out.2 rfl
      have hbf : pt.bad = false := by
        cases h : pt.bad with
        | false => rfl
        | true => have := hbd h; omega
      obtain rfl : pn = q := by omega
      have hans := pool_Ans HX7.out
      rw [hbf] at hans
      refine Calls.mono (show Calls Try.prog 27 #[ptr x] w7 (Ret (.agg #[i64 0, i64 0, .bool false, i64 0]) w7) from hans) ?_
      rintro e w8 ⟨rfl, hk⟩
      have HK8 : Hid (Keep0 w w8) := hid (Keep0.step HK7.out hk)
      clear hk hans h7 hcnt hbf hbd HT HLL7 HK7 hle hq0 hq1
      go_wp2_with fail
      go_ret
      exact ⟨rfl, by repeat (with_reducible first | exact Keep.refl _ _ | exact HK8.out | apply Keep.alloc | apply Keep.drewN | apply Keep.drew)⟩
    · have h7 := HT.out.1 rfl
      obtain ⟨ae, an, hx7⟩ : ∃ ae an : Int, Blk w7 x 100 [i64 av, i64 ((av + 1 + u : Nat) : Int), i64 v, i64 n, i64 l, i64 7, i64 pt.had, i64 pt.saw, i64 pt.extra, i64 ae, i64 0, .bool false, i64 an] := ⟨_, _, by have h := HX7.out; rw [h7] at h; exact h⟩
      generalize pt.had = c6 at *
      generalize pt.saw = c7 at *
      generalize pt.extra = c8 at *
      refine (ans_any hx7).mono ?_
      rintro e w8 ⟨rfl, hk⟩
      have HX8 := hid (hk.blk hx7 (fun h => h))
      have HM8 := hid (HM7.out.same hk)
      have HK8 : Hid (Keep0 w w8) := hid (Keep0.step HK7.out hk)
      clear hk hx7 HX7 HM7 HK7 HB7 h7 HT hbd
      have HA9 : Hid (Blk (w8.alloc (.cells #[i64 ae, i64 0, .bool false, i64 an] 59)) w8.heap.size 59 [i64 ae, i64 0, .bool false, i64 an]) := hid (Blk.made rfl rfl)
      have HX9 := hid (HX8.out.alloc (.cells #[i64 ae, i64 0, .bool false, i64 an] 59))
      have HM9 := hid (HM8.out.same ((Keep.refl _ w8).alloc (.cells #[i64 ae, i64 0, .bool false, i64 an] 59)))
      have HK9 := hid (HK8.out.alloc (.cells #[i64 ae, i64 0, .bool false, i64 an] 59))
      go_wp2_with fail
      clear HX8 HM8 HK8
      generalize w8.alloc (.cells #[i64 ae, i64 0, .bool false, i64 an] 59) = w9 at *
      go_loopw [14] (fun v wr => ∃ i : Nat, i ≤ 4 ∧ v = .int .i64 i ∧ Keep0 w9 wr) (fun v _ => 4 - (intOf v).toNat)
      case atStart => exact ⟨0, by omega, rfl, Keep.refl _ _⟩
      case round =>
        obtain ⟨i, hi, rfl, hk⟩ := hrel
        have HKK := hid hk
        have HXR := hid (hk.blk HX9.out (fun h => h))
        have HAR := hid (hk.blk HA9.out (fun h => h))
        have HMR := hid (HM9.out.same hk)
        have HKR : Hid (Keep0 w wr) := hid (Keep0.step HK9.out hk)
        clear hk
        by_cases hlt : i < 4
        · go_wp2_with fail
          refine (pool_Step_over HXR.out).mono ?_
          rintro e w10 ⟨rfl, rfl⟩
          go_wp2_with fail
          go_roundw
          case rel => exact ⟨i + 1, by omega, by go_num, HKK.out⟩
          case measure => simp [intOf]; omega
        · obtain rfl : i = 4 := by omega
          have hpn : pn ≤ 8 := by omega
          go_wp2_with fail
          apply wp_region_free (WI := fun S gh wx => Keep0 wr wx ∧ GWI (endD pn) S gh wx) (by kernel_rfl) (by kernel_rfl)
          case hob =>
            apply ObligF.fixed
            case h =>
              intro S gh w1 hwi hSi hd hcl
              apply StepOk.intro
              intro K hK
              have qx := (hwi.1.blk HXR.out (fun h => h)).k13
              have qa := (hwi.1.blk HAR.out (fun h => h)).k4
              go_simp
              apply hK
              · rfl
              · conv => (lhs; whnf)
              · exact ⟨hwi.1, GWI.fixed hwi.2 trivial⟩
            simp only [put_lit, put_none, List.set_cons_succ, List.set_cons_zero]
            apply ObligF.fixed
            case h =>
              intro S gh w1 hwi hSi hd hcl
              apply StepOk.intro
              intro K hK
              have qx := (hwi.1.blk HXR.out (fun h => h)).k13
              have qa := (hwi.1.blk HAR.out (fun h => h)).k4
              go_simp
              apply hK
              · rfl
              · conv => (lhs; whnf)
              · exact ⟨hwi.1, GWI.fixed hwi.2 trivial⟩
            simp only [put_lit, put_none, List.set_cons_succ, List.set_cons_zero]
            apply ObligF.fixed
            case h =>
              intro S gh w1 hwi hSi hd hcl
              apply StepOk.intro
              intro K hK
              have qx := (hwi.1.blk HXR.out (fun h => h)).k13
              have qa := (hwi.1.blk HAR.out (fun h => h)).k4
              go_simp
              apply hK
              · rfl
              · conv => (lhs; whnf)
              · exact ⟨hwi.1, GWI.fixed hwi.2 trivial⟩
            simp only [put_lit, put_none, List.set_cons_succ, List.set_cons_zero]
            apply ObligF.fixed
            case h =>
              intro S gh w1 hwi hSi hd hcl
              apply StepOk.intro
              intro K hK
              have qx := (hwi.1.blk HXR.out (fun h => h)).k13
              have qa := (hwi.1.blk HAR.out (fun h => h)).k4
              go_simp
              refine (show Calls Try.prog 27 #[ptr x] w1 (Ret (.agg #[i64 ae, i64 0, .bool false, i64 an]) w1) from ans_any (hwi.1.blk HXR.out (fun h => h))).mono ?_
              rintro e w2 ⟨rfl, hk⟩
              apply hK
              · rfl
              · conv => (lhs; whnf)
              · exact ⟨Keep0.step hwi.1 hk, GWI.fixed (hwi.2.keep endD_stable hk) trivial⟩
            simp only [put_lit, put_none, List.set_cons_succ, List.set_cons_zero]
            apply ObligF.fixed
            case h =>
              intro S gh w1 hwi hSi hd hcl
              apply StepOk.intro
              intro K hK
              have qx := (hwi.1.blk HXR.out (fun h => h)).k13
              have qa := (hwi.1.blk HAR.out (fun h => h)).k4
              go_simp
              apply hK
              · rfl
              · conv => (lhs; whnf)
              · exact ⟨hwi.1, GWI.fixed hwi.2 trivial⟩
            simp only [put_lit, put_none, List.set_cons_succ, List.set_cons_zero]
            apply ObligF.fixed
            case h =>
              intro S gh w1 hwi hSi hd hcl
              apply StepOk.intro
              intro K hK
              have qx := (hwi.1.blk HXR.out (fun h => h)).k13
              have qa := (hwi.1.blk HAR.out (fun h => h)).k4
              go_simp
              apply hK
              · rfl
              · conv => (lhs; whnf)
              · exact ⟨hwi.1, GWI.fixed hwi.2 trivial⟩
            simp only [put_lit, put_none, List.set_cons_succ, List.set_cons_zero]
            apply ObligF.fixed
            case h =>
              intro S gh w1 hwi hSi hd hcl
              apply StepOk.intro
              intro K hK
              have qx := (hwi.1.blk HXR.out (fun h => h)).k13
              have qa := (hwi.1.blk HAR.out (fun h => h)).k4
              go_simp
              apply hK
              · rfl
              · conv => (lhs; whnf)
              · exact ⟨hwi.1, GWI.fixed hwi.2 trivial⟩
            simp only [put_lit, put_none, List.set_cons_succ, List.set_cons_zero]
            apply ObligF.fixed
            case h =>
              intro S gh w1 hwi hSi hd hcl
              apply StepOk.intro
              intro K hK
              have qx := (hwi.1.blk HXR.out (fun h => h)).k13
              have qa := (hwi.1.blk HAR.out (fun h => h)).k4
              go_simp
              apply hK
              · rfl
              · conv => (lhs; whnf)
              · exact ⟨hwi.1, GWI.fixed hwi.2 trivial⟩
            simp only [put_lit, put_none, List.set_cons_succ, List.set_cons_zero]
            apply ObligF.fixed
            case h =>
              intro S gh w1 hwi hSi hd hcl
              apply StepOk.intro
              intro K hK
              have qx := (hwi.1.blk HXR.out (fun h => h)).k13
              have qa := (hwi.1.blk HAR.out (fun h => h)).k4
              go_simp
              apply hK
              · rfl
              · conv => (lhs; whnf)
              · exact ⟨hwi.1, GWI.fixed hwi.2 trivial⟩
            simp only [put_lit, put_none, List.set_cons_succ, List.set_cons_zero]
            apply ObligF.free
            case h =>
              intro S gh w1 hwi hSi hd hcl
              apply StepG.intro
              intro K hK
              have qx := (hwi.1.blk HXR.out (fun h => h)).k13
              have qa := (hwi.1.blk HAR.out (fun h => h)).k4
              go_simp
              refine (mem_Log (HMR.out.same hwi.1) (by rw [HLL7.out]; omega)).mono ?_
              rintro e w2 ⟨A2, c2, rfl, _, hk⟩
              rw [HLL7.out]
              apply hK
              · rfl
              · exact ⟨Keep0.step hwi.1 hk, GWI.free (hwi.2.keep endD_stable hk) ⟨_, c2, rfl⟩⟩
            simp only [put_lit, put_none, List.set_cons_succ, List.set_cons_zero]
            apply ObligF.fixed
            case h =>
              intro S gh w1 hwi hSi hd hcl
              apply StepOk.intro
              intro K hK
              have qx := (hwi.1.blk HXR.out (fun h => h)).k13
              have qa := (hwi.1.blk HAR.out (fun h => h)).k4
              obtain ⟨A1, c1, e1⟩ := hwi.2 9 (hd ⟨9, .data⟩ (by simp) rfl)
              rw [e1]
              go_simp
              apply hK
              · rfl
              · conv => (lhs; whnf)
              · exact ⟨hwi.1, GWI.fixed hwi.2 trivial⟩
            simp only [put_lit, put_none, List.set_cons_succ, List.set_cons_zero]
            apply ObligF.fixed
            case h =>
              intro S gh w1 hwi hSi hd hcl
              apply StepOk.intro
              intro K hK
              have qx := (hwi.1.blk HXR.out (fun h => h)).k13
              have qa := (hwi.1.blk HAR.out (fun h => h)).k4
              go_simp
              apply hK
              · rfl
              · conv => (lhs; whnf)
              · exact ⟨hwi.1, GWI.fixed hwi.2 trivial⟩
            simp only [put_lit, put_none, List.set_cons_succ, List.set_cons_zero]
            apply ObligF.fixed
            case h =>
              intro S gh w1 hwi hSi hd hcl
              apply StepOk.intro
              intro K hK
              have qx := (hwi.1.blk HXR.out (fun h => h)).k13
              have qa := (hwi.1.blk HAR.out (fun h => h)).k4
              go_simp
              apply hK
              · rfl
              · conv => (lhs; whnf)
              · exact ⟨hwi.1, GWI.fixed hwi.2 trivial⟩
            simp only [put_lit, put_none, List.set_cons_succ, List.set_cons_zero]
            apply ObligF.fixed
            case h =>
              intro S gh w1 hwi hSi hd hcl
              apply StepOk.intro
              intro K hK
              have qx := (hwi.1.blk HXR.out (fun h => h)).k13
              have qa := (hwi.1.blk HAR.out (fun h => h)).k4
              go_simp
              apply hK
              · rfl
              · conv => (lhs; whnf)
              · exact ⟨hwi.1, GWI.fixed hwi.2 trivial⟩
            simp only [put_lit, put_none, List.set_cons_succ, List.set_cons_zero]
            apply ObligF.fixed
            case h =>
              intro S gh w1 hwi hSi hd hcl
              apply StepOk.intro
              intro K hK
              have qx := (hwi.1.blk HXR.out (fun h => h)).k13
              have qa := (hwi.1.blk HAR.out (fun h => h)).k4
              go_simp
              apply hK
              · rfl
              · conv => (lhs; whnf)
              · exact ⟨hwi.1, GWI.fixed hwi.2 trivial⟩
            simp only [put_lit, put_none, List.set_cons_succ, List.set_cons_zero]
            exact ObligF.nil
          case h0 =>
            exact ⟨(Keep.refl _ _).drew, GWI.start _ _ _⟩
          case hend =>
            intro S gh wx hwi hall
            have HKX := hid hwi.1
            clear hwi hall
            go_wp2_with fail
            go_ret
            exact ⟨rfl, HKR.out.trans HKX.out (fun _ _ h => h)⟩
end Go.Proofs.Ytdjfeapncpcmgaa
