/- PoolExact: behind OK the machine's own accesses took just as many as were asked for, behind a refusal none. -/
import Derived.Test.YtdjfeapncpcmgaaPoolT
namespace Go.Proofs.Ytdjfeapncpcmgaa
open Go.RowKit
set_option linter.unusedVariables false
set_option linter.unusedSimpArgs false
set_option maxRecDepth 100000

theorem pNeed_start {av le : Nat} {W : List Int} {L : List Acc} : pNeed av le ⟨W, L, 0, 0, 0, 0, false⟩ = 5 := by simp [pNeed]
theorem pksAt.at_ {w : World} {A : Option Addr} {l : List Pk} (h : pksAt w A l) : ∃ b o, (0 < l.length → A = some ⟨b, o, none⟩ ∧ b < w.heap.size) ∧ ∀ i (hi : i < l.length), w.cell? ⟨b, o + i * 3, none⟩ = some (i64 l[i].at_) ∧ w.cell? ⟨b, o + i * 3 + 1, none⟩ = some (i64 l[i].w) ∧ w.cell? ⟨b, o + i * 3 + 2, none⟩ = some (i64 l[i].x) := by
  rcases h with rfl | ⟨b, o, e1, h⟩
  · exact ⟨0, 0, fun h => by simp at h, fun i hi => by simp at hi⟩
  · exact ⟨b, o, fun h0 => ⟨e1, World.block_lt_of_cell? _ _ (h 0 h0).1⟩, h⟩

set_option maxHeartbeats 4000000 in
theorem poolExact_walk {w : World} {v0 : Value} (hc : PoolIn w v0) : Calls Try.prog 7 #[v0] w (Ret (.bool true) w) := by
  obtain ⟨t, s, g, l, r, k, P, L, PA, pc, LA, lc, nd, nn, st, avl, Q, QA, qc, K, KA, kc, rfl, hP, hL, hp1, hl1, hnd, hnn, hst, havl, hQ, hq1, hq2, hK, hk1⟩ := hc
  have HB : Hid (Blk (w.alloc (.cells #[i64 t, i64 s, i64 g, i64 l, i64 r, i64 k, .slice PA P.length pc, .slice LA L.length lc, .int .u8 nd, .int .u32 nn, .int .u8 st, .int .u32 avl, .slice QA Q.length qc, .slice KA K.length kc] 45)) w.heap.size 45 [i64 t, i64 s, i64 g, i64 l, i64 r, i64 k, .slice PA P.length pc, .slice LA L.length lc, .int .u8 nd, .int .u32 nn, .int .u8 st, .int .u32 avl, .slice QA Q.length qc, .slice KA K.length kc]) := hid (Blk.made rfl rfl)
  have HK0 : Hid (Keep0 w (w.alloc (.cells #[i64 t, i64 s, i64 g, i64 l, i64 r, i64 k, .slice PA P.length pc, .slice LA L.length lc, .int .u8 nd, .int .u32 nn, .int .u8 st, .int .u32 avl, .slice QA Q.length qc, .slice KA K.length kc] 45))) := hid ((Keep.refl _ _).alloc _)
  have HGD := hid (fun (w' : World) (hk : Keep0 w w') => law8_Good t s g l r k PA P pc LA L lc nd nn st avl QA Q qc KA K kc w' (hP.keep hk) (hL.keep hk) hp1 hl1 hq1 hk1)
  have HWO := hid (fun (w' : World) (hk : Keep0 w w') hR hq => law8_Words t s g l r k PA P pc LA L lc nd nn st avl QA Q qc KA K kc w' (hP.keep hk) (hL.keep hk) (hQ.keep hk) hR hnd hnn hst havl hq hq2)
  have HPK := hid (fun (w' : World) (hk : Keep0 w w') hR hk40 => law8_Pokes t s g l r k PA P pc LA L lc nd nn st avl QA Q qc KA K kc w' (hK.keep hk) hR hnd hnn hst hk40)
  clear hP hL hQ hK hq2
  go_enter Try.func7, Try.ntmps7
  go_wp2_with fail
  have qHB := HB.out.k14
  refine (law8_head _).mono ?_
  rintro e w1 ⟨rfl, hk⟩
  have HK1 : Hid (Keep0 w w1) := hid (Keep0.step HK0.out hk)
  have T := hk.blk HB.out (fun h => h)
  clear hk HB HK0 qHB
  have HB := hid T
  clear T
  have qHB := HB.out.k14
  go_wp2_with fail
  refine (HGD.out _ HK1.out).mono ?_
  rintro e w2 ⟨rfl, hk⟩
  have HK2 : Hid (Keep0 w w2) := hid (Keep0.step HK1.out hk)
  have T := hk.blk HB.out (fun h => h)
  clear hk HB HK1 qHB HGD hp1 hl1 hq1 hk1
  have HB := hid T
  clear T
  have qHB := HB.out.k14
  cases hgood : good8B t s g l r k P L Q.length K.length
  · go_wp2
    go_ret
    exact ⟨rfl, HK2.out⟩
  · simp only [good8B, Bool.and_eq_true, decide_eq_true_eq] at hgood
    obtain ⟨⟨hgood, hk40⟩, hq20⟩ := hgood
    have R := Right.of hgood
    clear hgood
    obtain ⟨s, rfl⟩ := Int.eq_ofNat_of_zero_le (show 0 ≤ s by have := R.sb; omega)
    have hs := R.sb
    have hp := R.p
    have hl := R.l
    have hkk := R.k
    have hlen := R.len
    have HOF := hid (fun (w' : World) => law8_Of t (s : Int) g l r k PA P pc LA L lc nd nn st avl QA Q qc KA K kc w' ⟨hp.1, by omega⟩ hs hnd hnn hst)
    have HWO2 := hid (fun w' hk => HWO.out w' hk R hq20)
    have HPK2 := hid (fun w' hk => HPK.out w' hk R hk40)
    clear HWO HPK
    have hv0 := Int.emod_nonneg nd (show (P.length : Int) ≠ 0 by omega)
    have hv1 := Int.emod_lt_of_pos nd (show (0 : Int) < P.length by omega)
    have hu0 := Int.emod_nonneg st (show (s : Int) ≠ 0 by omega)
    have hu1 := Int.emod_lt_of_pos st (show (0 : Int) < s by omega)
    have hn0 := Int.emod_nonneg nn (show (1048576 : Int) ≠ 0 by omega)
    have hn1 := Int.emod_lt_of_pos nn (show (0 : Int) < 1048576 by omega)
    generalize nd % (P.length : Int) = v at *
    generalize st % (s : Int) = u at *
    generalize hne : nn % 1048576 + 1 = n at *
    have hn : 1 ≤ n ∧ n ≤ 1048576 := by omega
    clear hne hn0 hn1
    have PW := poolWords R (v := v) (avl := avl) (Q := Q) ⟨hv0, hv1⟩ havl
    have hm1 := mul_bd 12 22 hv0 (by omega) (show 0 ≤ 6 + 2 * (s : Int) by omega) (by omega)
    have hm4 := mul_bd 12 22 (show (0 : Int) ≤ P.length by omega) (by omega) (show 0 ≤ 6 + 2 * (s : Int) by omega) (by omega)
    obtain ⟨av, hav⟩ := Int.eq_ofNat_of_zero_le (show 0 ≤ v * (6 + 2 * (s : Int)) + 1 by omega)
    rw [show (v * (6 + 2 * (s : Int)) + 1).toNat = av from by omega] at PW
    have hav0 : av ≤ 300 := by omega
    have HAV := hid hav.symm
    clear hav
    obtain ⟨u, rfl⟩ := Int.eq_ofNat_of_zero_le hu0
    have hus : u < s := by omega
    have hfit := PW.fit
    rw [Int.toNat_natCast] at hfit
    have hWl := PW.len
    generalize hWW : words8 (s : Int) k l L P.length v avl Q = WW at *
    clear hWW
    have HN : Hid ((P.length : Int) * (6 + 2 * (s : Int)) + 2 * k = (WW.length : Int)) := hid (by have := hkk; omega)
    have hWm : WW.length ≤ 10000 := by omega
    rw [← hWl] at hfit
    clear hWl
    have hPI : PInv av (av + 1 + u) n l 4294967296 ⟨WW, [], 0, 0, 0, 0, false⟩ := PInv.start (by omega) (by omega) (by omega) hn hl (PW.lease u (by rw [Int.toNat_natCast]; exact hus)) (by rw [PW.isav]; omega)
    have HPI := hid hPI
    have HPW := hid PW
    have HR := hid R
    clear hPI PW R hm4 hlen
    go_wp2_with fail
    refine (HOF.out _).mono ?_
    rintro e w3 ⟨rfl, hk⟩
    have HK3 : Hid (Keep0 w w3) := hid (Keep0.step HK2.out hk)
    have T := hk.blk HB.out (fun h => h)
    clear hk HB HK2 qHB HOF
    have HB := hid T
    clear T
    have qHB := HB.out.k14
    go_wp2_with fail
    refine (HWO2.out _ HK3.out).mono ?_
    rintro e w4 ⟨WA, Wc, rfl, how, hk⟩
    have HK4 : Hid (Keep0 w w4) := hid (Keep0.step HK3.out hk)
    have T := hk.blk HB.out (fun h => h)
    clear hk HB HK3 qHB HWO2
    have HB := hid T
    clear T
    have qHB := HB.out.k14
    obtain ⟨wg, rfl, hwg, hwge⟩ := ints_own how (by omega) rfl
    have HWG := hid hwg
    have HOW := hid how
    clear hwg how
    go_wp2_with fail
    refine (law8_Laid w.heap.size _ _ _ WW HWG.out.at_ hWm HK4.out.size).mono ?_
    rintro e w5 ⟨m, a, lv5, rfl, hm, hk, hzm, hza⟩
    have HM5 := hid hm
    have HK5 : Hid (Keep0 w w5) := hid (Keep0.step HK4.out hk)
    have hzm' := Nat.le_trans HK4.out.size hzm
    have hza' := Nat.le_trans HK4.out.size hza
    have HWG5 := hid (hk.ints HWG.out (fun h => h))
    have HOW5 := hid (ownsRow_keep HOW.out hk (fun _ _ h => h))
    have hwgm : wg ≠ a := by have := HWG.out.lt; omega
    have hwgm2 : wg ≠ m := by have := HWG.out.lt; omega
    have T := hk.blk HB.out (fun h => h)
    clear hk hm hzm hza HB HK4 qHB HWG HOW
    have HB := hid T
    clear T
    have qHB := HB.out.k14
    have HLL := hid (show ∀ (w' : World) lv (W : List Int) L, MemAt w.heap.size w' m a lv W L → ∀ k, MF m a lv k → w.heap.size ≤ k from by
      rintro w' lv W L h k (rfl | rfl | h2)
      · exact hzm'
      · exact hza'
      · exact (h.log.lt k h2).1)
    go_wp2_with fail
    refine (pool_New t (s : Int) g l r k PA P.length pc LA L.length lc v n (u : Int) _ hs.1 hs.2 hv0 (by omega) (by omega) (by omega)).mono ?_
    rintro e w6 ⟨x, rfl, hb, hk, hx⟩
    rw [show v * (6 + 2 * (s : Int)) + 1 = (av : Int) from HAV.out.symm, show v * (6 + 2 * (s : Int)) + 2 + (u : Int) = ((av + 1 + u : Nat) : Int) from by have := HAV.out; omega] at hb
    have HX6 := hid (show Blk w6 x 100 (pcs av (av + 1 + u) v n l 0 ⟨WW, [], 0, 0, 0, 0, false⟩) from hb)
    have HM6 := hid (HM5.out.same hk)
    have HK6 : Hid (Keep0 w w6) := hid (Keep0.step HK5.out hk)
    have hzx := Nat.le_trans HK5.out.size hx
    have HWG6 := hid (hk.ints HWG5.out (fun h => h))
    have HOW6 := hid (ownsRow_keep HOW5.out hk (fun _ _ h => h))
    have hwgx : wg ≠ x := by have := HWG5.out.lt; omega
    have T := hk.blk HB.out (fun h => h)
    clear hk hb hx HM5 HB HK5 qHB HWG5 HOW5
    have HB := hid T
    clear T
    have qHB := HB.out.k14
    go_wp2_with fail
    refine (HPK2.out _ HK6.out).mono ?_
    rintro e w7 ⟨KB, kbc, rfl, hpk, hk, hkb⟩
    rw [show v * (6 + 2 * (s : Int)) + 1 = (av : Int) from HAV.out.symm, show v * (6 + 2 * (s : Int)) + 2 + (u : Int) = ((av + 1 + u : Nat) : Int) from by have := HAV.out; omega] at hpk
    have hok := okPokes8 (av := av) (le := av + 1 + u) (l := l) K (by omega) hl.1
    have hkl : (K.map (poke8 (av : Int) ((av + 1 + u : Nat) : Int) l)).length = K.length := by simp
    generalize K.map (poke8 (av : Int) ((av + 1 + u : Nat) : Int) l) = KK at *
    have HM7 := hid (HM6.out.same hk)
    have HX7 := hid (hk.blk HX6.out (fun h => h))
    have HB7 := hid (hk.blk HB.out (fun h => h))
    have HK7 : Hid (Keep0 w w7) := hid (Keep0.step HK6.out hk)
    obtain ⟨kb, ko, hka, hkc⟩ := hpk.at_
    have hmz := HM6.out.mem.lt
    have haz := HM6.out.words.lt
    have hxz := HX6.out.lt
    have hlz := fun b (e : lv5.ownBlock = some b) => (HM6.out.log.lt b e).2
    have hp := play_pool (B := w.heap.size) (w := w7) (m := m) (a := a) (x := x) (lv := lv5) (av := av) (le := av + 1 + u) (nd := v) (n := n) (lim := l) (X := 4294967296) ⟨WW, [], 0, 0, 0, 0, false⟩ KK KB kb ko kbc 300 HM7.out HX7.out HPI.out (by simp) (by omega) (by omega) (by omega) hok (fun h => by
      obtain ⟨e, hz⟩ := hka h
      have := hkb kb ko e
      exact ⟨e, hz, by omega, by omega, by omega, fun e => by have := hlz kb e; omega⟩) hkc
    have hen := pPlay_ends (av := av) (le := av + 1 + u) (n := n) (lim := l) WW.length KK 300 0 ⟨WW, [], 0, 0, 0, 0, false⟩ (by simp) (by rw [pNeed_start]; have := remAt_le ((0 : Nat) : Int) KK; omega)
    have ht := (pPlay_told (av := av) (le := av + 1 + u) (n := n) (lim := l) WW.length KK 300 0 ⟨WW, [], 0, 0, 0, 0, false⟩ (by simp)).1 hen
    have hex := pPlay_exact (av := av) (le := av + 1 + u) (n := n) (lim := l) (X := 4294967296) WW.length KK hok (by omega) (PExact.start HPI.out) 300 (by omega)
    have hle := pPlay_le (av := av) (le := av + 1 + u) (n := n) (lim := l) WW.length KK 300 0 ⟨WW, [], 0, 0, 0, 0, false⟩
    rw [show (PS.mk WW [] 0 0 0 0 false).W.length = WW.length from rfl, hkl] at hp
    generalize playF (pStp av (av + 1 + u) n l) pPk WW.length KK 300 0 ⟨WW, [], 0, 0, 0, 0, false⟩ = pf at *
    obtain ⟨pt, pn, pb⟩ := pf
    simp only at hp hen ht hex hle
    subst hen
    clear hpk hk hkb hka hkc hmz haz hxz hlz hok HM6 HX6 HB qHB HK6 HWG6 HOW6 HPI HPW HR HPK2
    go_wp2_with fail
    refine hp.mono ?_
    rintro e w8 ⟨rfl, ⟨kk, lv8, hm, ho, hx, _⟩, hk⟩
    have HM8 := hid hm
    have HX8 := hid hx
    have HB8 := hid (play_keeps HB7.out HM7.out HX7.out (by decide) (by decide) (by decide) (by decide) hk)
    have HK8 : Hid (Keep0 w w8) := hid (play_far HM7.out hzx hk w HK7.out (Nat.le_refl _))
    have HEX := hid hex
    have hLN : pt.L.length ≤ 300 := by have := hex.cnt; omega
    have hown := hex.own
    clear hp hm ho hx hk hex HM7 HX7 HB7 HK7
    go_wp2_with fail
    refine (mem_Log HM8.out (by omega)).mono ?_
    rintro e w9 ⟨GA, gc, rfl, hga, hk⟩
    have HGA := hid hga
    have HX9 := hid (hk.blk HX8.out (fun h => h))
    have HB9 := hid (hk.blk HB8.out (fun h => h))
    have HK9 : Hid (Keep0 w w9) := hid (Keep0.step HK8.out hk)
    clear hga hk HM8 HX8 HB8 HK8
    obtain ⟨ae, an, hxa, hae⟩ : ∃ ae an : Int, Blk w9 x 100 [i64 av, i64 ((av + 1 + u : Nat) : Int), i64 v, i64 n, i64 l, i64 7, i64 pt.had, i64 pt.saw, i64 pt.extra, i64 ae, i64 0, .bool false, i64 an] ∧ ((pt.bad = true ∧ ae = 4 ∧ an = v) ∨ (pt.bad = false ∧ ae = 0 ∧ an = 0)) := by
      refine ⟨_, _, (by have h := HX9.out; rw [ht] at h; exact h), ?_⟩
      cases pt.bad <;> simp
    have HXX := hid hxa
    have HSM := hid (fun x hx => (HEX.out.acc x hx).2.2.2)
    have HOWN0 := hid (fun (w' : World) (hk : Keep0 w9 w') => law8_own w' GA gc pt.L (HGA.out.keep hk) (by omega) HSM.out)
    generalize hLL : pt.L = LL at *
    generalize hLN2 : LL.length = LN at *
    have HLN := hid hLN2
    clear hxa HX9
    go_wp2_with fail
    have qB9 := HB9.out.k14
    go_loopw [12] (fun v wr => ∃ i : Nat, i ≤ LN ∧ v = .int .i64 i ∧ Keep0 w9 wr) (fun v _ => LN - (intOf v).toNat)
    case atStart => exact ⟨0, Nat.zero_le _, rfl, Keep.refl _ _⟩
    case round =>
      obtain ⟨i, hi, rfl, hk⟩ := hrel
      have HKK := hid hk
      have HBR := hid (hk.blk HB9.out (fun h => h))
      clear hk
      by_cases hlt : i < LN
      · obtain ⟨gb, go, rfl, hc⟩ := (HGA.out.keep HKK.out).cell (by have := HLN.out; omega)
        have hil : i < LL.length := by have := HLN.out; omega
        have hacc := HEX.out.acc LL[i] (by rw [hLL]; exact List.getElem_mem hil)
        obtain ⟨xk, xw, xa, xb, xo, hx⟩ : ∃ xk xw xa xb xo, LL[i] = ⟨xk, xw, xa, xb, xo⟩ := ⟨_, _, _, _, _, rfl⟩
        have p0 : wr.cell? ⟨gb, go + i * 5, none⟩ = some (i64 xk) := by have h := hc (i * 5 + 0) (i64 xk) (by rw [accs_get LL i hil 0 (by omega), hx]; rfl); simpa [Nat.add_assoc] using h
        have p1 : wr.cell? ⟨gb, go + i * 5 + 1, none⟩ = some (i64 xw) := by have h := hc (i * 5 + 1) (i64 xw) (by rw [accs_get LL i hil 1 (by omega), hx]; rfl); simpa [Nat.add_assoc] using h
        have z := World.block_lt_of_cell? _ _ p0
        simp only at z
        rw [hx] at hacc
        obtain ⟨hw, hk1, hk3, _⟩ := hacc
        simp only at hw hk1 hk3
        have hk4 : (xk == 4) = false := by simp; omega
        have HCL := hid (fun (wx : World) (hk : Keep0 wr wx) => (⟨(cell_old hk z (fun h => h) _).trans p0, (cell_old hk z (fun h => h) _).trans p1, Nat.lt_of_lt_of_le z hk.size⟩ : wx.cell? ⟨gb, go + i * 5, none⟩ = some (i64 xk) ∧ wx.cell? ⟨gb, go + i * 5 + 1, none⟩ = some (i64 xw) ∧ gb < wx.heap.size))
        clear hc hx p0 p1 z
        by_cases hwa : xw = av
        · subst hwa
          clear hw
          go_wp2_with fail
          apply wp_region_text (WI := fun S wx => Keep0 wr wx) (by kernel_rfl) (by kernel_rfl)
          case hob =>
            apply Oblig.cons
            case h =>
              intro S w1 hwi hSi hd hcl
              apply StepOk.intro
              intro K hK
              have cb := (hwi.blk HBR.out (fun h => h)).k14
              have cl := HCL.out _ hwi
              obtain ⟨d1, d2, dz⟩ := cl
              go_simp
              apply hK
              · rfl
              · conv => (lhs; whnf)
              · exact hwi
            simp only [put_lit, put_none, List.set_cons_succ, List.set_cons_zero]
            apply Oblig.cons
            case h =>
              intro S w1 hwi hSi hd hcl
              apply StepOk.intro
              intro K hK
              have cb := (hwi.blk HBR.out (fun h => h)).k14
              have cl := HCL.out _ hwi
              obtain ⟨d1, d2, dz⟩ := cl
              go_simp
              apply hK
              · rfl
              · conv => (lhs; whnf)
              · exact hwi
            simp only [put_lit, put_none, List.set_cons_succ, List.set_cons_zero]
            apply Oblig.cons
            case h =>
              intro S w1 hwi hSi hd hcl
              apply StepOk.intro
              intro K hK
              have cb := (hwi.blk HBR.out (fun h => h)).k14
              have cl := HCL.out _ hwi
              obtain ⟨d1, d2, dz⟩ := cl
              go_simp
              apply hK
              · rfl
              · conv => (lhs; whnf)
              · exact hwi
            simp only [put_lit, put_none, List.set_cons_succ, List.set_cons_zero]
            apply Oblig.cons
            case h =>
              intro S w1 hwi hSi hd hcl
              apply StepOk.intro
              intro K hK
              have cb := (hwi.blk HBR.out (fun h => h)).k14
              have cl := HCL.out _ hwi
              obtain ⟨d1, d2, dz⟩ := cl
              go_simp
              apply hK
              · rfl
              · conv => (lhs; whnf)
              · exact hwi
            simp only [put_lit, put_none, List.set_cons_succ, List.set_cons_zero]
            apply Oblig.cons
            case h =>
              intro S w1 hwi hSi hd hcl
              apply StepOk.intro
              intro K hK
              have cb := (hwi.blk HBR.out (fun h => h)).k14
              have cl := HCL.out _ hwi
              obtain ⟨d1, d2, dz⟩ := cl
              go_simp
              apply hK
              · rfl
              · conv => (lhs; whnf)
              · exact hwi
            simp only [put_lit, put_none, List.set_cons_succ, List.set_cons_zero]
            apply Oblig.cons
            case h =>
              intro S w1 hwi hSi hd hcl
              apply StepOk.intro
              intro K hK
              have cb := (hwi.blk HBR.out (fun h => h)).k14
              have cl := HCL.out _ hwi
              obtain ⟨d1, d2, dz⟩ := cl
              go_simp
              apply hK
              · rfl
              · conv => (lhs; whnf)
              · exact hwi
            simp only [put_lit, put_none, List.set_cons_succ, List.set_cons_zero]
            apply Oblig.cons
            case h =>
              intro S w1 hwi hSi hd hcl
              apply StepOk.intro
              intro K hK
              have cb := (hwi.blk HBR.out (fun h => h)).k14
              have cl := HCL.out _ hwi
              obtain ⟨d1, d2, dz⟩ := cl
              go_simp
              apply hK
              · rfl
              · conv => (lhs; whnf)
              · exact hwi
            simp only [put_lit, put_none, List.set_cons_succ, List.set_cons_zero]
            apply Oblig.cons
            case h =>
              intro S w1 hwi hSi hd hcl
              apply StepOk.intro
              intro K hK
              have cb := (hwi.blk HBR.out (fun h => h)).k14
              have cl := HCL.out _ hwi
              obtain ⟨d1, d2, dz⟩ := cl
              go_simp
              apply hK
              · rfl
              · conv => (lhs; whnf)
              · exact hwi
            simp only [put_lit, put_none, List.set_cons_succ, List.set_cons_zero]
            apply Oblig.cons
            case h =>
              intro S w1 hwi hSi hd hcl
              apply StepOk.intro
              intro K hK
              have cb := (hwi.blk HBR.out (fun h => h)).k14
              have cl := HCL.out _ hwi
              obtain ⟨d1, d2, dz⟩ := cl
              go_simp
              refine (show Calls Try.prog 35 #[.agg #[i64 t, i64 s, i64 g, i64 l, i64 r, i64 k, .slice PA P.length pc, .slice LA L.length lc], i64 v] w1 (Ret (i64 av) w1) from by have h := plan_Avail t (s : Int) g l r k PA P.length pc LA L.length lc v w1 hs.1 hs.2 hv0 (by omega); rw [← HAV.out] at h; exact h).mono ?_
              rintro e w2 ⟨rfl, hk⟩
              apply hK
              · rfl
              · conv => (lhs; whnf)
              · exact Keep0.step hwi hk
            simp only [put_lit, put_none, List.set_cons_succ, List.set_cons_zero]
            apply Oblig.cons
            case h =>
              intro S w1 hwi hSi hd hcl
              apply StepOk.intro
              intro K hK
              have cb := (hwi.blk HBR.out (fun h => h)).k14
              have cl := HCL.out _ hwi
              obtain ⟨d1, d2, dz⟩ := cl
              go_simp
              apply hK
              · rfl
              · conv => (lhs; whnf)
              · exact hwi
            simp only [put_lit, put_none, List.set_cons_succ, List.set_cons_zero]
            apply Oblig.cons
            case h =>
              intro S w1 hwi hSi hd hcl
              apply StepOk.intro
              intro K hK
              have cb := (hwi.blk HBR.out (fun h => h)).k14
              have cl := HCL.out _ hwi
              obtain ⟨d1, d2, dz⟩ := cl
              go_simp
              apply hK
              · rfl
              · conv => (lhs; whnf)
              · exact hwi
            simp only [put_lit, put_none, List.set_cons_succ, List.set_cons_zero]
            apply Oblig.cons
            case h =>
              intro S w1 hwi hSi hd hcl
              apply StepOk.intro
              intro K hK
              have cb := (hwi.blk HBR.out (fun h => h)).k14
              have cl := HCL.out _ hwi
              obtain ⟨d1, d2, dz⟩ := cl
              go_simp
              apply hK
              · rfl
              · conv => (lhs; whnf)
              · exact hwi
            simp only [put_lit, put_none, List.set_cons_succ, List.set_cons_zero]
            apply Oblig.cons
            case h =>
              intro S w1 hwi hSi hd hcl
              apply StepOk.intro
              intro K hK
              have cb := (hwi.blk HBR.out (fun h => h)).k14
              have cl := HCL.out _ hwi
              obtain ⟨d1, d2, dz⟩ := cl
              go_simp
              apply hK
              · rfl
              · conv => (lhs; whnf)
              · exact hwi
            simp only [put_lit, put_none, List.set_cons_succ, List.set_cons_zero]
            apply Oblig.cons
            case h =>
              intro S w1 hwi hSi hd hcl
              apply StepOk.intro
              intro K hK
              have cb := (hwi.blk HBR.out (fun h => h)).k14
              have cl := HCL.out _ hwi
              obtain ⟨d1, d2, dz⟩ := cl
              go_simp
              apply hK
              · rfl
              · conv => (lhs; whnf)
              · exact hwi
            simp only [put_lit, put_none, List.set_cons_succ, List.set_cons_zero]
            apply Oblig.cons
            case h =>
              intro S w1 hwi hSi hd hcl
              apply StepOk.intro
              intro K hK
              have cb := (hwi.blk HBR.out (fun h => h)).k14
              have cl := HCL.out _ hwi
              obtain ⟨d1, d2, dz⟩ := cl
              go_simp
              apply hK
              · rfl
              · conv => (lhs; whnf)
              · exact hwi
            simp only [put_lit, put_none, List.set_cons_succ, List.set_cons_zero]
            apply Oblig.cons
            case h =>
              intro S w1 hwi hSi hd hcl
              apply StepOk.intro
              intro K hK
              have cb := (hwi.blk HBR.out (fun h => h)).k14
              have cl := HCL.out _ hwi
              obtain ⟨d1, d2, dz⟩ := cl
              go_simp
              apply hK
              · rfl
              · conv => (lhs; whnf)
              · exact hwi
            simp only [put_lit, put_none, List.set_cons_succ, List.set_cons_zero]
            apply Oblig.cons
            case h =>
              intro S w1 hwi hSi hd hcl
              apply StepOk.intro
              intro K hK
              have cb := (hwi.blk HBR.out (fun h => h)).k14
              have cl := HCL.out _ hwi
              obtain ⟨d1, d2, dz⟩ := cl
              go_simp
              apply hK
              · rfl
              · conv => (lhs; whnf)
              · exact hwi
            simp only [put_lit, put_none, List.set_cons_succ, List.set_cons_zero]
            apply Oblig.cons
            case h =>
              intro S w1 hwi hSi hd hcl
              apply StepOk.intro
              intro K hK
              have cb := (hwi.blk HBR.out (fun h => h)).k14
              have cl := HCL.out _ hwi
              obtain ⟨d1, d2, dz⟩ := cl
              go_simp
              apply hK
              · rfl
              · conv => (lhs; whnf)
              · exact hwi
            simp only [put_lit, put_none, List.set_cons_succ, List.set_cons_zero]
            apply Oblig.cons
            case h =>
              intro S w1 hwi hSi hd hcl
              apply StepOk.intro
              intro K hK
              have cb := (hwi.blk HBR.out (fun h => h)).k14
              have cl := HCL.out _ hwi
              obtain ⟨d1, d2, dz⟩ := cl
              go_simp
              apply hK
              · rfl
              · conv => (lhs; whnf)
              · exact hwi
            simp only [put_lit, put_none, List.set_cons_succ, List.set_cons_zero]
            apply Oblig.cons
            case h =>
              intro S w1 hwi hSi hd hcl
              apply StepOk.intro
              intro K hK
              have cb := (hwi.blk HBR.out (fun h => h)).k14
              have cl := HCL.out _ hwi
              obtain ⟨d1, d2, dz⟩ := cl
              go_simp
              apply hK
              · rfl
              · conv => (lhs; whnf)
              · exact hwi
            simp only [put_lit, put_none, List.set_cons_succ, List.set_cons_zero]
            apply Oblig.cons
            case h =>
              intro S w1 hwi hSi hd hcl
              apply StepOk.intro
              intro K hK
              have cb := (hwi.blk HBR.out (fun h => h)).k14
              have cl := HCL.out _ hwi
              obtain ⟨d1, d2, dz⟩ := cl
              go_simp
              apply hK
              · rfl
              · conv => (lhs; whnf)
              · exact hwi
            simp only [put_lit, put_none, List.set_cons_succ, List.set_cons_zero]
            apply Oblig.cons
            case h =>
              intro S w1 hwi hSi hd hcl
              apply StepOk.intro
              intro K hK
              have cb := (hwi.blk HBR.out (fun h => h)).k14
              have cl := HCL.out _ hwi
              obtain ⟨d1, d2, dz⟩ := cl
              go_simp
              apply hK
              · rfl
              · conv => (lhs; whnf)
              · exact hwi
            simp only [put_lit, put_none, List.set_cons_succ, List.set_cons_zero]
            apply Oblig.cons
            case h =>
              intro S w1 hwi hSi hd hcl
              apply StepOk.intro
              intro K hK
              have cb := (hwi.blk HBR.out (fun h => h)).k14
              have cl := HCL.out _ hwi
              obtain ⟨d1, d2, dz⟩ := cl
              go_simp
              apply hK
              · rfl
              · conv => (lhs; whnf)
              · exact hwi
            simp only [put_lit, put_none, List.set_cons_succ, List.set_cons_zero]
            apply Oblig.cons
            case h =>
              intro S w1 hwi hSi hd hcl
              apply StepOk.intro
              intro K hK
              have cb := (hwi.blk HBR.out (fun h => h)).k14
              have cl := HCL.out _ hwi
              obtain ⟨d1, d2, dz⟩ := cl
              go_simp
              apply hK
              · rfl
              · conv => (lhs; whnf)
              · exact hwi
            simp only [put_lit, put_none, List.set_cons_succ, List.set_cons_zero]
            apply Oblig.cons
            case h =>
              intro S w1 hwi hSi hd hcl
              apply StepOk.intro
              intro K hK
              have cb := (hwi.blk HBR.out (fun h => h)).k14
              have cl := HCL.out _ hwi
              obtain ⟨d1, d2, dz⟩ := cl
              go_simp
              apply hK
              · rfl
              · conv => (lhs; whnf)
              · exact hwi
            simp only [put_lit, put_none, List.set_cons_succ, List.set_cons_zero]
            apply Oblig.cons
            case h =>
              intro S w1 hwi hSi hd hcl
              apply StepOk.intro
              intro K hK
              have cb := (hwi.blk HBR.out (fun h => h)).k14
              have cl := HCL.out _ hwi
              obtain ⟨d1, d2, dz⟩ := cl
              go_simp
              apply hK
              · rfl
              · conv => (lhs; whnf)
              · exact hwi
            simp only [put_lit, put_none, List.set_cons_succ, List.set_cons_zero]
            apply Oblig.cons
            case h =>
              intro S w1 hwi hSi hd hcl
              apply StepOk.intro
              intro K hK
              have cb := (hwi.blk HBR.out (fun h => h)).k14
              have cl := HCL.out _ hwi
              obtain ⟨d1, d2, dz⟩ := cl
              go_simp
              apply hK
              · rfl
              · conv => (lhs; whnf)
              · exact hwi
            simp only [put_lit, put_none, List.set_cons_succ, List.set_cons_zero]
            apply Oblig.cons
            case h =>
              intro S w1 hwi hSi hd hcl
              apply StepOk.intro
              intro K hK
              have cb := (hwi.blk HBR.out (fun h => h)).k14
              have cl := HCL.out _ hwi
              obtain ⟨d1, d2, dz⟩ := cl
              go_simp
              apply hK
              · rfl
              · conv => (lhs; whnf)
              · exact hwi
            simp only [put_lit, put_none, List.set_cons_succ, List.set_cons_zero]
            apply Oblig.cons
            case h =>
              intro S w1 hwi hSi hd hcl
              apply StepOk.intro
              intro K hK
              have cb := (hwi.blk HBR.out (fun h => h)).k14
              have cl := HCL.out _ hwi
              obtain ⟨d1, d2, dz⟩ := cl
              go_simp
              apply hK
              · rfl
              · conv => (lhs; whnf)
              · exact hwi
            simp only [put_lit, put_none, List.set_cons_succ, List.set_cons_zero]
            apply Oblig.cons
            case h =>
              intro S w1 hwi hSi hd hcl
              apply StepOk.intro
              intro K hK
              have cb := (hwi.blk HBR.out (fun h => h)).k14
              have cl := HCL.out _ hwi
              obtain ⟨d1, d2, dz⟩ := cl
              go_simp
              apply hK
              · rfl
              · conv => (lhs; whnf)
              · exact hwi
            simp only [put_lit, put_none, List.set_cons_succ, List.set_cons_zero]
            apply Oblig.cons
            case h =>
              intro S w1 hwi hSi hd hcl
              apply StepOk.intro
              intro K hK
              have cb := (hwi.blk HBR.out (fun h => h)).k14
              have cl := HCL.out _ hwi
              obtain ⟨d1, d2, dz⟩ := cl
              go_simp
              apply hK
              · rfl
              · conv => (lhs; whnf)
              · exact hwi
            simp only [put_lit, put_none, List.set_cons_succ, List.set_cons_zero]
            exact Oblig.nil
          case h0 =>
            exact (Keep.refl _ _).drew
          case hend =>
            intro S wx hwi hall
            have HKX := hid hwi
            clear hwi hall
            go_wp2_with fail
            go_roundw
            case rel => exact ⟨i + 1, by omega, by go_num, HKK.out.trans HKX.out (fun _ _ h => h)⟩
            case measure => simp [intOf]; omega
        · have hwl : xw = ((av + 1 + u : Nat) : Int) := by
            rcases hw with h | h
            · exact absurd h hwa
            · exact h
          subst hwl
          clear hw
          have g2 : ¬ ((av : Int) + 1 + (u : Int) = (av : Int)) := by omega
          go_wp2_with fail
          apply wp_region_text (WI := fun S wx => Keep0 wr wx) (by kernel_rfl) (by kernel_rfl)
          case hob =>
            apply Oblig.cons
            case h =>
              intro S w1 hwi hSi hd hcl
              apply StepOk.intro
              intro K hK
              have cb := (hwi.blk HBR.out (fun h => h)).k14
              have cl := HCL.out _ hwi
              obtain ⟨d1, d2, dz⟩ := cl
              go_simp
              apply hK
              · rfl
              · conv => (lhs; whnf)
              · exact hwi
            simp only [put_lit, put_none, List.set_cons_succ, List.set_cons_zero]
            apply Oblig.cons
            case h =>
              intro S w1 hwi hSi hd hcl
              apply StepOk.intro
              intro K hK
              have cb := (hwi.blk HBR.out (fun h => h)).k14
              have cl := HCL.out _ hwi
              obtain ⟨d1, d2, dz⟩ := cl
              go_simp
              apply hK
              · rfl
              · conv => (lhs; whnf)
              · exact hwi
            simp only [put_lit, put_none, List.set_cons_succ, List.set_cons_zero]
            apply Oblig.cons
            case h =>
              intro S w1 hwi hSi hd hcl
              apply StepOk.intro
              intro K hK
              have cb := (hwi.blk HBR.out (fun h => h)).k14
              have cl := HCL.out _ hwi
              obtain ⟨d1, d2, dz⟩ := cl
              go_simp
              apply hK
              · rfl
              · conv => (lhs; whnf)
              · exact hwi
            simp only [put_lit, put_none, List.set_cons_succ, List.set_cons_zero]
            apply Oblig.cons
            case h =>
              intro S w1 hwi hSi hd hcl
              apply StepOk.intro
              intro K hK
              have cb := (hwi.blk HBR.out (fun h => h)).k14
              have cl := HCL.out _ hwi
              obtain ⟨d1, d2, dz⟩ := cl
              go_simp
              apply hK
              · rfl
              · conv => (lhs; whnf)
              · exact hwi
            simp only [put_lit, put_none, List.set_cons_succ, List.set_cons_zero]
            apply Oblig.cons
            case h =>
              intro S w1 hwi hSi hd hcl
              apply StepOk.intro
              intro K hK
              have cb := (hwi.blk HBR.out (fun h => h)).k14
              have cl := HCL.out _ hwi
              obtain ⟨d1, d2, dz⟩ := cl
              go_simp
              apply hK
              · rfl
              · conv => (lhs; whnf)
              · exact hwi
            simp only [put_lit, put_none, List.set_cons_succ, List.set_cons_zero]
            apply Oblig.cons
            case h =>
              intro S w1 hwi hSi hd hcl
              apply StepOk.intro
              intro K hK
              have cb := (hwi.blk HBR.out (fun h => h)).k14
              have cl := HCL.out _ hwi
              obtain ⟨d1, d2, dz⟩ := cl
              go_simp
              apply hK
              · rfl
              · conv => (lhs; whnf)
              · exact hwi
            simp only [put_lit, put_none, List.set_cons_succ, List.set_cons_zero]
            apply Oblig.cons
            case h =>
              intro S w1 hwi hSi hd hcl
              apply StepOk.intro
              intro K hK
              have cb := (hwi.blk HBR.out (fun h => h)).k14
              have cl := HCL.out _ hwi
              obtain ⟨d1, d2, dz⟩ := cl
              go_simp
              apply hK
              · rfl
              · conv => (lhs; whnf)
              · exact hwi
            simp only [put_lit, put_none, List.set_cons_succ, List.set_cons_zero]
            apply Oblig.cons
            case h =>
              intro S w1 hwi hSi hd hcl
              apply StepOk.intro
              intro K hK
              have cb := (hwi.blk HBR.out (fun h => h)).k14
              have cl := HCL.out _ hwi
              obtain ⟨d1, d2, dz⟩ := cl
              go_simp
              apply hK
              · rfl
              · conv => (lhs; whnf)
              · exact hwi
            simp only [put_lit, put_none, List.set_cons_succ, List.set_cons_zero]
            apply Oblig.cons
            case h =>
              intro S w1 hwi hSi hd hcl
              apply StepOk.intro
              intro K hK
              have cb := (hwi.blk HBR.out (fun h => h)).k14
              have cl := HCL.out _ hwi
              obtain ⟨d1, d2, dz⟩ := cl
              go_simp
              refine (show Calls Try.prog 35 #[.agg #[i64 t, i64 s, i64 g, i64 l, i64 r, i64 k, .slice PA P.length pc, .slice LA L.length lc], i64 v] w1 (Ret (i64 av) w1) from by have h := plan_Avail t (s : Int) g l r k PA P.length pc LA L.length lc v w1 hs.1 hs.2 hv0 (by omega); rw [← HAV.out] at h; exact h).mono ?_
              rintro e w2 ⟨rfl, hk⟩
              apply hK
              · rfl
              · conv => (lhs; whnf)
              · exact Keep0.step hwi hk
            simp only [put_lit, put_none, List.set_cons_succ, List.set_cons_zero]
            apply Oblig.cons
            case h =>
              intro S w1 hwi hSi hd hcl
              apply StepOk.intro
              intro K hK
              have cb := (hwi.blk HBR.out (fun h => h)).k14
              have cl := HCL.out _ hwi
              obtain ⟨d1, d2, dz⟩ := cl
              go_simp
              apply hK
              · rfl
              · conv => (lhs; whnf)
              · exact hwi
            simp only [put_lit, put_none, List.set_cons_succ, List.set_cons_zero]
            apply Oblig.cons
            case h =>
              intro S w1 hwi hSi hd hcl
              apply StepOk.intro
              intro K hK
              have cb := (hwi.blk HBR.out (fun h => h)).k14
              have cl := HCL.out _ hwi
              obtain ⟨d1, d2, dz⟩ := cl
              go_simp
              apply hK
              · rfl
              · conv => (lhs; whnf)
              · exact hwi
            simp only [put_lit, put_none, List.set_cons_succ, List.set_cons_zero]
            apply Oblig.cons
            case h =>
              intro S w1 hwi hSi hd hcl
              apply StepOk.intro
              intro K hK
              have cb := (hwi.blk HBR.out (fun h => h)).k14
              have cl := HCL.out _ hwi
              obtain ⟨d1, d2, dz⟩ := cl
              go_simp
              apply hK
              · rfl
              · conv => (lhs; whnf)
              · exact hwi
            simp only [put_lit, put_none, List.set_cons_succ, List.set_cons_zero]
            apply Oblig.cons
            case h =>
              intro S w1 hwi hSi hd hcl
              apply StepOk.intro
              intro K hK
              have cb := (hwi.blk HBR.out (fun h => h)).k14
              have cl := HCL.out _ hwi
              obtain ⟨d1, d2, dz⟩ := cl
              go_simp
              apply hK
              · rfl
              · conv => (lhs; whnf)
              · exact hwi
            simp only [put_lit, put_none, List.set_cons_succ, List.set_cons_zero]
            apply Oblig.cons
            case h =>
              intro S w1 hwi hSi hd hcl
              apply StepOk.intro
              intro K hK
              have cb := (hwi.blk HBR.out (fun h => h)).k14
              have cl := HCL.out _ hwi
              obtain ⟨d1, d2, dz⟩ := cl
              go_simp
              apply hK
              · rfl
              · conv => (lhs; whnf)
              · exact hwi
            simp only [put_lit, put_none, List.set_cons_succ, List.set_cons_zero]
            apply Oblig.cons
            case h =>
              intro S w1 hwi hSi hd hcl
              apply StepOk.intro
              intro K hK
              have cb := (hwi.blk HBR.out (fun h => h)).k14
              have cl := HCL.out _ hwi
              obtain ⟨d1, d2, dz⟩ := cl
              go_simp
              apply hK
              · rfl
              · conv => (lhs; whnf)
              · exact hwi
            simp only [put_lit, put_none, List.set_cons_succ, List.set_cons_zero]
            apply Oblig.cons
            case h =>
              intro S w1 hwi hSi hd hcl
              apply StepOk.intro
              intro K hK
              have cb := (hwi.blk HBR.out (fun h => h)).k14
              have cl := HCL.out _ hwi
              obtain ⟨d1, d2, dz⟩ := cl
              go_simp
              apply hK
              · rfl
              · conv => (lhs; whnf)
              · exact hwi
            simp only [put_lit, put_none, List.set_cons_succ, List.set_cons_zero]
            apply Oblig.cons
            case h =>
              intro S w1 hwi hSi hd hcl
              apply StepOk.intro
              intro K hK
              have cb := (hwi.blk HBR.out (fun h => h)).k14
              have cl := HCL.out _ hwi
              obtain ⟨d1, d2, dz⟩ := cl
              go_simp
              apply hK
              · rfl
              · conv => (lhs; whnf)
              · exact hwi
            simp only [put_lit, put_none, List.set_cons_succ, List.set_cons_zero]
            apply Oblig.cons
            case h =>
              intro S w1 hwi hSi hd hcl
              apply StepOk.intro
              intro K hK
              have cb := (hwi.blk HBR.out (fun h => h)).k14
              have cl := HCL.out _ hwi
              obtain ⟨d1, d2, dz⟩ := cl
              go_simp
              apply hK
              · rfl
              · conv => (lhs; whnf)
              · exact hwi
            simp only [put_lit, put_none, List.set_cons_succ, List.set_cons_zero]
            apply Oblig.cons
            case h =>
              intro S w1 hwi hSi hd hcl
              apply StepOk.intro
              intro K hK
              have cb := (hwi.blk HBR.out (fun h => h)).k14
              have cl := HCL.out _ hwi
              obtain ⟨d1, d2, dz⟩ := cl
              go_simp
              apply hK
              · rfl
              · conv => (lhs; whnf)
              · exact hwi
            simp only [put_lit, put_none, List.set_cons_succ, List.set_cons_zero]
            apply Oblig.cons
            case h =>
              intro S w1 hwi hSi hd hcl
              apply StepOk.intro
              intro K hK
              have cb := (hwi.blk HBR.out (fun h => h)).k14
              have cl := HCL.out _ hwi
              obtain ⟨d1, d2, dz⟩ := cl
              go_simp
              apply hK
              · rfl
              · conv => (lhs; whnf)
              · exact hwi
            simp only [put_lit, put_none, List.set_cons_succ, List.set_cons_zero]
            apply Oblig.cons
            case h =>
              intro S w1 hwi hSi hd hcl
              apply StepOk.intro
              intro K hK
              have cb := (hwi.blk HBR.out (fun h => h)).k14
              have cl := HCL.out _ hwi
              obtain ⟨d1, d2, dz⟩ := cl
              go_simp
              refine (show Calls Try.prog 36 #[.agg #[i64 t, i64 s, i64 g, i64 l, i64 r, i64 k, .slice PA P.length pc, .slice LA L.length lc], i64 v, i64 u] w1 (Ret (i64 ((av + 1 + u : Nat) : Int)) w1) from by have h := plan_Lease t (s : Int) g l r k PA P.length pc LA L.length lc v (u : Int) w1 hs.1 hs.2 hv0 (by omega) (by omega) (by omega); rw [show v * (6 + 2 * (s : Int)) + 2 + (u : Int) = ((av + 1 + u : Nat) : Int) from by have := HAV.out; omega] at h; exact h).mono ?_
              rintro e w2 ⟨rfl, hk⟩
              apply hK
              · rfl
              · conv => (lhs; whnf)
              · exact Keep0.step hwi hk
            simp only [put_lit, put_none, List.set_cons_succ, List.set_cons_zero]
            apply Oblig.cons
            case h =>
              intro S w1 hwi hSi hd hcl
              apply StepOk.intro
              intro K hK
              have cb := (hwi.blk HBR.out (fun h => h)).k14
              have cl := HCL.out _ hwi
              obtain ⟨d1, d2, dz⟩ := cl
              go_simp
              apply hK
              · rfl
              · conv => (lhs; whnf)
              · exact hwi
            simp only [put_lit, put_none, List.set_cons_succ, List.set_cons_zero]
            apply Oblig.cons
            case h =>
              intro S w1 hwi hSi hd hcl
              apply StepOk.intro
              intro K hK
              have cb := (hwi.blk HBR.out (fun h => h)).k14
              have cl := HCL.out _ hwi
              obtain ⟨d1, d2, dz⟩ := cl
              go_simp
              apply hK
              · rfl
              · conv => (lhs; whnf)
              · exact hwi
            simp only [put_lit, put_none, List.set_cons_succ, List.set_cons_zero]
            apply Oblig.cons
            case h =>
              intro S w1 hwi hSi hd hcl
              apply StepOk.intro
              intro K hK
              have cb := (hwi.blk HBR.out (fun h => h)).k14
              have cl := HCL.out _ hwi
              obtain ⟨d1, d2, dz⟩ := cl
              go_simp
              apply hK
              · rfl
              · conv => (lhs; whnf)
              · exact hwi
            simp only [put_lit, put_none, List.set_cons_succ, List.set_cons_zero]
            apply Oblig.cons
            case h =>
              intro S w1 hwi hSi hd hcl
              apply StepOk.intro
              intro K hK
              have cb := (hwi.blk HBR.out (fun h => h)).k14
              have cl := HCL.out _ hwi
              obtain ⟨d1, d2, dz⟩ := cl
              go_simp
              apply hK
              · rfl
              · conv => (lhs; whnf)
              · exact hwi
            simp only [put_lit, put_none, List.set_cons_succ, List.set_cons_zero]
            apply Oblig.cons
            case h =>
              intro S w1 hwi hSi hd hcl
              apply StepOk.intro
              intro K hK
              have cb := (hwi.blk HBR.out (fun h => h)).k14
              have cl := HCL.out _ hwi
              obtain ⟨d1, d2, dz⟩ := cl
              go_simp
              apply hK
              · rfl
              · conv => (lhs; whnf)
              · exact hwi
            simp only [put_lit, put_none, List.set_cons_succ, List.set_cons_zero]
            apply Oblig.cons
            case h =>
              intro S w1 hwi hSi hd hcl
              apply StepOk.intro
              intro K hK
              have cb := (hwi.blk HBR.out (fun h => h)).k14
              have cl := HCL.out _ hwi
              obtain ⟨d1, d2, dz⟩ := cl
              go_simp
              apply hK
              · rfl
              · conv => (lhs; whnf)
              · exact hwi
            simp only [put_lit, put_none, List.set_cons_succ, List.set_cons_zero]
            apply Oblig.cons
            case h =>
              intro S w1 hwi hSi hd hcl
              apply StepOk.intro
              intro K hK
              have cb := (hwi.blk HBR.out (fun h => h)).k14
              have cl := HCL.out _ hwi
              obtain ⟨d1, d2, dz⟩ := cl
              go_simp
              apply hK
              · rfl
              · conv => (lhs; whnf)
              · exact hwi
            simp only [put_lit, put_none, List.set_cons_succ, List.set_cons_zero]
            apply Oblig.cons
            case h =>
              intro S w1 hwi hSi hd hcl
              apply StepOk.intro
              intro K hK
              have cb := (hwi.blk HBR.out (fun h => h)).k14
              have cl := HCL.out _ hwi
              obtain ⟨d1, d2, dz⟩ := cl
              go_simp
              apply hK
              · rfl
              · conv => (lhs; whnf)
              · exact hwi
            simp only [put_lit, put_none, List.set_cons_succ, List.set_cons_zero]
            apply Oblig.cons
            case h =>
              intro S w1 hwi hSi hd hcl
              apply StepOk.intro
              intro K hK
              have cb := (hwi.blk HBR.out (fun h => h)).k14
              have cl := HCL.out _ hwi
              obtain ⟨d1, d2, dz⟩ := cl
              go_simp
              apply hK
              · rfl
              · conv => (lhs; whnf)
              · exact hwi
            simp only [put_lit, put_none, List.set_cons_succ, List.set_cons_zero]
            apply Oblig.cons
            case h =>
              intro S w1 hwi hSi hd hcl
              apply StepOk.intro
              intro K hK
              have cb := (hwi.blk HBR.out (fun h => h)).k14
              have cl := HCL.out _ hwi
              obtain ⟨d1, d2, dz⟩ := cl
              go_simp
              apply hK
              · rfl
              · conv => (lhs; whnf)
              · exact hwi
            simp only [put_lit, put_none, List.set_cons_succ, List.set_cons_zero]
            exact Oblig.nil
          case h0 =>
            exact (Keep.refl _ _).drew
          case hend =>
            intro S wx hwi hall
            have HKX := hid hwi
            clear hwi hall
            go_wp2_with fail
            go_roundw
            case rel => exact ⟨i + 1, by omega, by go_num, HKK.out.trans HKX.out (fun _ _ h => h)⟩
            case measure => simp [intOf]; omega
      · have HXA := hid (HKK.out.blk HXX.out (fun h => h))
        have HKA : Hid (Keep0 w wr) := hid (Keep0.step HK9.out HKK.out)
        have HOWN1 := hid (fun (w' : World) (hk : Keep0 wr w') => HOWN0.out w' (HKK.out.trans hk (fun _ _ h => h)))
        rw [hown] at HOWN1
        rcases hae with ⟨hb, rfl, rfl⟩ | ⟨hb, rfl, rfl⟩
        · have e0 : pOwn n pt = 0 := by simp [pOwn, ht, hb]
          rw [e0] at HOWN1
          go_wp2_with fail
          refine (ans_any HXA.out).mono ?_
          rintro e wb ⟨rfl, hk⟩
          have HXB := hid (hk.blk HXA.out (fun h => h))
          have HKB : Hid (Keep0 w wb) := hid (Keep0.step HKA.out hk)
          have HOWN := hid (fun (w' : World) (hk' : Keep0 wb w') => HOWN1.out w' (hk.trans hk' (fun _ _ h => h)))
          clear hk
          go_wp2_with fail
          refine (ans_any HXB.out).mono ?_
          rintro e wc ⟨rfl, hk⟩
          have HKC : Hid (Keep0 w wc) := hid (Keep0.step HKB.out hk)
          have HOWN2 := hid (HOWN.out wc hk)
          clear hk
          go_wp2_with fail
          refine HOWN2.out.mono ?_
          rintro e we ⟨rfl, hk⟩
          have HKE : Hid (Keep0 w we) := hid (Keep0.step HKC.out hk)
          clear hk
          go_wp2_with fail
          go_ret
          exact ⟨rfl, HKE.out⟩
        · have e0 : pOwn n pt = -n := by simp [pOwn, ht, hb]
          rw [e0] at HOWN1
          go_wp2_with fail
          refine (ans_any HXA.out).mono ?_
          rintro e wa ⟨rfl, hk⟩
          have HXB := hid (hk.blk HXA.out (fun h => h))
          have HKB : Hid (Keep0 w wa) := hid (Keep0.step HKA.out hk)
          have HOWN := hid (fun (w' : World) (hk' : Keep0 wa w') => HOWN1.out w' (hk.trans hk' (fun _ _ h => h)))
          clear hk
          have yn : IntKind.i64.wrap (-n) = -n := IntWalk.i64_in _ (by omega)
          go_wp2_with fail
          refine (ans_any HXB.out).mono ?_
          rintro e wc ⟨rfl, hk⟩
          have HKC : Hid (Keep0 w wc) := hid (Keep0.step HKB.out hk)
          have HOWN2 := hid (HOWN.out wc hk)
          clear hk
          go_wp2_with fail
          refine HOWN2.out.mono ?_
          rintro e we ⟨rfl, hk⟩
          have HKE : Hid (Keep0 w we) := hid (Keep0.step HKC.out hk)
          clear hk
          go_wp2_with fail
          go_ret
          exact ⟨rfl, HKE.out⟩
end Go.Proofs.Ytdjfeapncpcmgaa
