/- ShiftBack: a limit that is raised, and lowered by as much, alone, is what it was, and so is all else. -/
import Derived.Test.YtonekdolmbdniaaLawNineC
import Derived.Test.YtonekdolmbdniaaSame
namespace Go.Proofs.Ytonekdolmbdniaa
open Go.RowKit
set_option linter.unusedVariables false
set_option linter.unusedSimpArgs false
set_option maxRecDepth 100000

set_option maxHeartbeats 1000000 in
theorem differ_ints (A C : Option Addr) (l1 l2 : List Int) (c1 c2 : Nat) (w : World) (hA : IntsAt w A l1) (hC : IntsAt w C l2) (hl : l1.length ≤ 1000000000) (he : l2.length = l1.length) (j : Nat) (hj : j < l1.length) (hd : rd l1 j ≠ rd l2 j) :
    Calls Try.prog 19 #[.slice A l1.length c1, .slice C l2.length c2] w (Ret (.bool false) w) := by
  have HA := hid hA
  have HC := hid hC
  have HD := hid hd
  rw [he]
  clear hA hC hd
  go_enter Try.func19, Try.ntmps19
  go_wp2_with fail
  go_loopw [5] (fun v wr => ∃ i : Nat, i ≤ j ∧ v = .int .i64 i ∧ Keep0 w wr) (fun v _ => l1.length - (intOf v).toNat)
  case atStart => exact ⟨0, Nat.zero_le _, rfl, Keep.refl _ _⟩
  case round =>
    obtain ⟨i, hi, rfl, hk⟩ := hrel
    have HK := hid hk
    clear hk
    have hlt : i < l1.length := by omega
    obtain ⟨b1, o1, rfl, hc1⟩ := (HA.out.keep HK.out).cell (by omega)
    obtain ⟨b2, o2, rfl, hc2⟩ := (HC.out.keep HK.out).cell (by omega)
    have q1 := hc1 i hlt
    have q2 := hc2 i (by omega)
    have z1 := World.block_lt_of_cell? _ _ q1
    have z2 := World.block_lt_of_cell? _ _ q2
    simp only at z1 z2
    clear hc1 hc2
    by_cases hq : rd l1 i = rd l2 i
    · have hne : i ≠ j := fun e => HD.out (e ▸ hq)
      rw [← hq] at q2
      clear hq
      go_wp2_with fail
      go_region
      go_wp2_with fail
      go_roundw
      case rel => exact ⟨i + 1, by omega, by go_num, by repeat (with_reducible first | exact Keep.refl _ _ | exact HK.out | apply Keep.alloc | apply Keep.drewN | apply Keep.drew)⟩
      case measure => simp [intOf]; omega
    · have hqb : (rd l1 i != rd l2 i) = true := by simpa using hq
      generalize rd l1 i = y1 at *
      generalize rd l2 i = y2 at *
      clear hq
      go_wp2_with fail
      go_region
      go_wp2_with fail
      go_ret
      exact ⟨rfl, by repeat (with_reducible first | exact Keep.refl _ _ | exact HK.out | apply Keep.alloc | apply Keep.drewN | apply Keep.drew)⟩

/-- alone, behind a log -/
theorem sAloneL {kd f g : Nat} {n : Int} (len : Nat) (W : List Int) (L : List Acc) (j : Nat) (hne : f ≠ g) (hk : kd ≠ 0) (hr : sRef kd n (rd W f) = false) :
    playF (sStp kd f g n) sPk len [] (3 + j) 0 ⟨W, L, 0, 0, false⟩ =
      (⟨(W.set f (rd W f + sBy kd n)).set g (rd W g + sBy kd n), L ++ [⟨1, f, rd W f, 0, false⟩, ⟨3, f, rd W f, rd W f + sBy kd n, true⟩, ⟨2, g, sBy kd n, rd W g + sBy kd n, false⟩], 3, rd W f, false⟩, 3, true) := by
  rw [show 3 + j = (j + 2) + 1 from by omega, playF_succ, pokeAll_nil, if_neg (by simp [sStp, sNext, hr]), show j + 2 = (j + 1) + 1 from rfl, playF_succ, pokeAll_nil, if_neg (by simp [sStp, sNext, hr]), playF_succ, pokeAll_nil]
  simp [sStp, sNext, hr, casW, rd_set, Ne.symm hne]
theorem back9 (W : List Int) (li av : Nat) (n : Int) (h1 : li < W.length) (h2 : av < W.length) (hne : li ≠ av) :
    (((W.set li (rd W li + n)).set av (rd W av + n)).set av (rd ((W.set li (rd W li + n)).set av (rd W av + n)) av + -n)).set li (rd ((W.set li (rd W li + n)).set av (rd W av + n)) li + -n) = W := by
  rw [rd_set, if_pos ⟨rfl, by simpa using h2⟩, rd_set, if_neg (by omega), rd_set, if_pos ⟨rfl, h1⟩]
  apply List.ext_getElem?
  intro i
  simp only [List.getElem?_set, List.length_set, List.set_set]
  have e1 : W[li] = rd W li := by unfold rd; rw [List.getD_eq_getElem?_getD]; simp [h1]
  have e2 : W[av] = rd W av := by unfold rd; rw [List.getD_eq_getElem?_getD]; simp [h2]
  by_cases a1 : li = i
  · subst a1; simp [h1]; omega
  · by_cases a2 : av = i
    · subst a2; simp [h2, a1]; omega
    · simp [a1, a2]

set_option maxHeartbeats 4000000 in
theorem shiftBack_walk {w : World} {v0 : Value} (hc : PoolIn w v0) (lim : Int) (hlim : (Lit.int .u32 lim).wf = true) : Calls Try.prog 4 #[v0, .int .u32 lim] w (Ret (.bool true) w) := by
  have hlim := bounds_u32 hlim
  obtain ⟨t, s, g, l, r, k, P, L, PA, pc, LA, lc, nd, nn, st, avl, Q, QA, qc, K, KA, kc, rfl, hP, hL, hp1, hl1, hnd, hnn, hst, havl, hQ, hq1, hq2, hK, hk1⟩ := hc
  have HB : Hid (Blk (w.alloc (.cells #[i64 t, i64 s, i64 g, i64 l, i64 r, i64 k, .slice PA P.length pc, .slice LA L.length lc, .int .u8 nd, .int .u32 nn, .int .u8 st, .int .u32 avl, .slice QA Q.length qc, .slice KA K.length kc] 29)) w.heap.size 29 [i64 t, i64 s, i64 g, i64 l, i64 r, i64 k, .slice PA P.length pc, .slice LA L.length lc, .int .u8 nd, .int .u32 nn, .int .u8 st, .int .u32 avl, .slice QA Q.length qc, .slice KA K.length kc]) := hid (Blk.made rfl rfl)
  have HK0 : Hid (Keep0 w (w.alloc (.cells #[i64 t, i64 s, i64 g, i64 l, i64 r, i64 k, .slice PA P.length pc, .slice LA L.length lc, .int .u8 nd, .int .u32 nn, .int .u8 st, .int .u32 avl, .slice QA Q.length qc, .slice KA K.length kc] 29))) := hid ((Keep.refl _ _).alloc _)
  have HGD := hid (fun (w' : World) (hk : Keep0 w w') => law8_Good t s g l r k PA P pc LA L lc nd nn st avl QA Q qc KA K kc w' (hP.keep hk) (hL.keep hk) hp1 hl1 hq1 hk1)
  have HWO := hid (fun (w' : World) (hk : Keep0 w w') hR hq => law8_Words t s g l r k PA P pc LA L lc nd nn st avl QA Q qc KA K kc w' (hP.keep hk) (hL.keep hk) (hQ.keep hk) hR hnd hnn hst havl hq hq2)
  have HPK := hid (fun (w' : World) (hk : Keep0 w w') hR hk40 => law9_pokes t s g l r k PA P pc LA L lc nd nn st avl QA Q qc KA K kc w' (hK.keep hk) hR hnd hnn hst hk40)
  clear hP hL hQ hK hq2
  go_enter Try.func4, Try.ntmps4
  go_wp2_with fail
  have qHB := HB.out.k14
  refine (law9_head _).mono ?_
  rintro e w1 ⟨rfl, hk⟩
  have HK1 : Hid (Keep0 w w1) := hid (Keep0.step HK0.out hk)
  have T := hk.blk HB.out (fun h => h)
  clear hk HB HK0 qHB
  have HB := hid T
  clear T
  have qHB := HB.out.k14
  go_wp2_with fail
  refine (HGD.out _ HK1.out).mono ?_
  rintro e w2 ⟨rfl, hk⟩
  have HK2 : Hid (Keep0 w w2) := hid (Keep0.step HK1.out hk)
  have T := hk.blk HB.out (fun h => h)
  clear hk HB HK1 qHB HGD hp1 hl1 hq1 hk1
  have HB := hid T
  clear T
  have qHB := HB.out.k14
  cases hgood : good8B t s g l r k P L Q.length K.length
  · go_wp2
    go_ret
    exact ⟨rfl, HK2.out⟩
  · simp only [good8B, Bool.and_eq_true, decide_eq_true_eq] at hgood
    obtain ⟨⟨hgood, hk40⟩, hq20⟩ := hgood
    have R := Right.of hgood
    clear hgood
    obtain ⟨s, rfl⟩ := Int.eq_ofNat_of_zero_le (show 0 ≤ s by have := R.sb; omega)
    have hs := R.sb
    have hp := R.p
    have hl := R.l
    have hkk := R.k
    have hlen := R.len
    have HOF := hid (fun (w' : World) => law8_Of t (s : Int) g l r k PA P pc LA L lc nd nn st avl QA Q qc KA K kc w' ⟨hp.1, by omega⟩ hs hnd hnn hst)
    have HWO2 := hid (fun w' hk => HWO.out w' hk R hq20)
    have HPK2 := hid (fun w' hk => HPK.out w' hk R hk40)
    clear HWO HPK
    have hv0 := Int.emod_nonneg nd (show (P.length : Int) ≠ 0 by omega)
    have hv1 := Int.emod_lt_of_pos nd (show (0 : Int) < P.length by omega)
    have hu0 := Int.emod_nonneg st (show (s : Int) ≠ 0 by omega)
    have hu1 := Int.emod_lt_of_pos st (show (0 : Int) < s by omega)
    have hn0 := Int.emod_nonneg nn (show (1048576 : Int) ≠ 0 by omega)
    have hn1 := Int.emod_lt_of_pos nn (show (0 : Int) < 1048576 by omega)
    generalize nd % (P.length : Int) = v at *
    generalize st % (s : Int) = u at *
    generalize hne : nn % 1048576 + 1 = n at *
    have hn : 1 ≤ n ∧ n ≤ 1048576 := by omega
    clear hne hn0 hn1
    have PW := poolWords R (v := v) (avl := avl) (Q := Q) ⟨hv0, hv1⟩ havl
    have hm1 := mul_bd 12 22 hv0 (by omega) (show 0 ≤ 6 + 2 * (s : Int) by omega) (by omega)
    have hm4 := mul_bd 12 22 (show (0 : Int) ≤ P.length by omega) (by omega) (show 0 ≤ 6 + 2 * (s : Int) by omega) (by omega)
    obtain ⟨av, hav⟩ := Int.eq_ofNat_of_zero_le (show 0 ≤ v * (6 + 2 * (s : Int)) + 1 by omega)
    rw [show (v * (6 + 2 * (s : Int)) + 1).toNat = av from by omega] at PW
    have hav0 : av ≤ 300 := by omega
    have HAV := hid hav.symm
    clear hav
    obtain ⟨u, rfl⟩ := Int.eq_ofNat_of_zero_le hu0
    have hus : u < s := by omega
    have hfit := PW.fit
    rw [Int.toNat_natCast] at hfit
    have hWl := PW.len
    generalize hWW : words8 (s : Int) k l L P.length v avl Q = WW at *
    clear hWW
    have HN : Hid ((P.length : Int) * (6 + 2 * (s : Int)) + 2 * k = (WW.length : Int)) := hid (by have := hkk; omega)
    have hWm : WW.length ≤ 10000 := by omega
    rw [← hWl] at hfit
    clear hWl
    obtain ⟨li, HLI⟩ : ∃ li : Nat, Hid ((li : Int) = v * (6 + 2 * (s : Int)) ∧ li + 1 = av) := ⟨(v * (6 + 2 * (s : Int))).toNat, hid (by have := HAV.out; omega)⟩
    have hla := HLI.out.2
    have hl9 := lim9_bd hlim false
    obtain ⟨VV, HVV⟩ : ∃ VV : List Int, Hid (VV = WW.set li (lim9 lim false)) := ⟨_, hid rfl⟩
    have HVL : Hid (VV.length = WW.length) := hid (by rw [HVV.out, List.length_set])
    have HSV : Hid (rd VV li = lim9 lim false ∧ rd VV av = avl ∧ ∀ i, -1099511627776 * 4 ≤ rd VV i ∧ rd VV i ≤ 1099511627776 * 4) := hid (by
      rw [HVV.out]
      refine ⟨by rw [rd_set, if_pos ⟨rfl, by omega⟩], by rw [rd_set, if_neg (by omega)]; exact PW.isav, fun i => ?_⟩
      rw [rd_set]
      split
      · omega
      · have := PW.all i; omega)
    have HR := hid R
    clear PW R hm4 hlen
    go_wp2_with fail
    have hOF := HOF.out
    refine (hOF _).mono ?_
    rintro e w3 ⟨rfl, hk⟩
    have HK3 : Hid (Keep0 w w3) := hid (Keep0.step HK2.out hk)
    have T := hk.blk HB.out (fun h => h)
    clear hk HB HK2 qHB
    have HB := hid T
    clear T
    have qHB := HB.out.k14
    go_wp2_with fail
    have HWK := hid (fun (w' : World) (hk : Keep0 w3 w') => HWO2.out w' (HK3.out.trans hk (fun _ _ h => h)))
    refine (law9_words t (s : Int) g l r k PA P.length pc LA L.length lc nd nn st avl QA Q.length qc KA K.length kc v n (u : Int) lim false li WW w3 hOF HWK.out hs ⟨hv0, by omega⟩ HLI.out.1 (by omega) hWm hlim).mono ?_
    rintro e w4 ⟨WA, Wc, rfl, how, hk⟩
    rw [← HVV.out] at how
    have HK4 : Hid (Keep0 w w4) := hid (Keep0.step HK3.out hk)
    have T := hk.blk HB.out (fun h => h)
    have hw3 := HK3.out.size
    clear hk HB HK3 qHB HWO2 HWK hOF HOF
    have HB := hid T
    clear T
    have qHB := HB.out.k14
    rw [← HVL.out] at how
    rw [← HVL.out] at HN hfit hWm
    have HWL := hid (show WW.length = VV.length from HVL.out.symm)
    obtain ⟨wg, rfl, hwg, hwge⟩ := ints_own how (by omega) rfl
    have HWG := hid hwg
    have HOW := hid how
    clear hwg how
    rw [show WW.length = VV.length from HWL.out]
    go_wp2_with fail
    refine (law8_Laid w.heap.size _ _ _ VV HWG.out.at_ hWm HK4.out.size).mono ?_
    rintro e w5 ⟨m, a, lv5, rfl, hm, hk, hzm, hza⟩
    have HM5 := hid hm
    have HK5 : Hid (Keep0 w w5) := hid (Keep0.step HK4.out hk)
    have hzm' := Nat.le_trans HK4.out.size hzm
    have hza' := Nat.le_trans HK4.out.size hza
    have HWG5 := hid (hk.ints HWG.out (fun h => h))
    have HOW5 := hid (ownsRow_keep HOW.out hk (fun _ _ h => h))
    have hwgm : wg ≠ a := by have := HWG.out.lt; omega
    have hwgm2 : wg ≠ m := by have := HWG.out.lt; omega
    have T := hk.blk HB.out (fun h => h)
    clear hk hm hzm hza HB HK4 qHB HWG HOW
    have HB := hid T
    clear T
    have qHB := HB.out.k14
    go_wp2_with fail
    have hbl := HSV.out.1
    have hba := HSV.out.2.1
    rw [show lim9 lim false = lim from rfl] at hbl hl9
    refine (sh_Raise t (s : Int) g l r k PA P.length pc LA L.length lc v n _ hs.1 hs.2 hv0 (by omega)).mono ?_
    rintro e w6 ⟨x6, sb6, rfl, hb, hst, hk, hx, hsx⟩
    rw [show v * (6 + 2 * (s : Int)) + 1 = (av : Int) from HAV.out.symm, ← HLI.out.1] at hb
    have HX6 := hid (show Blk w6 x6 85 (scs 1 li av v n sb6 ⟨VV, [], 0, 0, false⟩) from hb)
    have HT6 := hid hst
    have HM6 := hid (HM5.out.same hk)
    have HK6 : Hid (Keep0 w w6) := hid (Keep0.step HK5.out hk)
    have hzx6 := Nat.le_trans HK5.out.size hx
    have hxz6 := hx
    have HWG6 := hid (hk.ints HWG5.out (fun h => h))
    have HOW6 := hid (ownsRow_keep HOW5.out hk (fun _ _ h => h))
    have hwgx : wg ≠ x6 := by have := HWG5.out.lt; omega
    have T := hk.blk HB.out (fun h => h)
    clear hk hb hst hx hsx HM5 HB HK5 qHB HWG5 HOW5
    have HB := hid T
    clear T
    have qHB := HB.out.k14
    have hsf : sRef 1 n (rd VV li) = false := by simp [sRef]; omega
    have hal := sAloneL (kd := 1) (f := li) (g := av) (n := n) VV.length VV [] 6 (by omega) (by decide) hsf
    rw [show sBy 1 n = n from rfl] at hal
    have hp := play_shift (B := w.heap.size) (w := w6) (m := m) (a := a) (x := x6) (lv := lv5) (kd := 1) (li := li) (av := av) (sb := sb6) (nd := v) (n := n) (X := 1099511627776) ⟨VV, [], 0, 0, false⟩ [] none 0 0 0 9 HM6.out HX6.out HT6.out (SInv.start9 (show li < VV.length by omega) (show av < VV.length by omega) (show li ≠ av by omega) (by decide) hn (show -1099511627776 ≤ rd VV li ∧ rd VV li ≤ 1099511627776 by omega) (show -1099511627776 ≤ rd VV av ∧ rd VV av ≤ 1099511627776 by omega) (by omega) rfl) (by simp) (by omega) (by omega) (by simp) (by intro p hp; cases hp) (fun h => by simp at h) (fun i h => by simp at h)
    rw [show (SS.mk VV [] 0 0 false).W.length = VV.length from rfl, show (9 : Nat) = 3 + 6 from rfl, show sF 1 li av = li from rfl, show sG 1 li av = av from rfl, hal] at hp
    have HBK := hid (back9 VV li av n (by omega) (by omega) (by omega))
    have HR1 := hid (show rd ((VV.set li (rd VV li + n)).set av (rd VV av + n)) li = rd VV li + n ∧ rd ((VV.set li (rd VV li + n)).set av (rd VV av + n)) av = rd VV av + n from by
      constructor
      · rw [rd_set, if_neg (by omega), rd_set, if_pos ⟨rfl, by omega⟩]
      · rw [rd_set, if_pos ⟨rfl, by simp; omega⟩])
    have HU : Hid (((VV.set li (rd VV li + n)).set av (rd VV av + n)).length = VV.length) := hid (by simp)
    have HEND := hid hp
    clear hp hal
    have hUV := HU.out
    have hL3 : ([] ++ [(⟨1, li, rd VV li, 0, false⟩ : Acc), ⟨3, li, rd VV li, rd VV li + n, true⟩, ⟨2, av, n, rd VV av + n, false⟩]).length = 3 := rfl
    generalize (VV.set li (rd VV li + n)).set av (rd VV av + n) = UU at *
    generalize ([] ++ [(⟨1, li, rd VV li, 0, false⟩ : Acc), ⟨3, li, rd VV li, rd VV li + n, true⟩, ⟨2, av, n, rd VV av + n, false⟩]) = LU at *
    go_wp2_with fail
    refine HEND.out.mono ?_
    rintro e w7 ⟨rfl, ⟨kk, lv7, hm, ho, hx, hl7, -⟩, hk⟩
    have HM7 := hid (show MemAt w.heap.size w7 m a lv7 UU LU from hm)
    have HB7 := hid (shplay_keeps HB.out HM6.out HX6.out (by decide) (by decide) (by decide) (by decide) hk)
    have hown6 := own_own_ne HOW6.out HM6.out.log (by decide) wg rfl
    have hn6 : ¬ ((wg = m ∨ wg = a ∨ wg = x6 ∨ lv5.ownBlock = some wg) ∨ w6.heap.size ≤ wg) := by
      have := HWG6.out.lt
      rintro ((h | h | h | h) | h)
      · exact hwgm2 h
      · exact hwgm h
      · exact hwgx h
      · exact hown6 h
      · omega
    have HWG7 := hid (hk.ints HWG6.out hn6)
    have HOW7 := hid (ownsRow_keep HOW6.out hk (fun k e => by cases e; exact hn6))
    have HK7 : Hid (Keep0 w w7) := hid (play_far HM6.out hzx6 hk w HK6.out (Nat.le_refl _))
    clear hm ho hx hk hl7 hn6 hown6 HM6 HX6 HT6 HB qHB HK6 HWG6 HOW6 HEND
    go_wp2_with fail
    refine (mem_Words HM7.out (by omega)).mono ?_
    rintro e w8 ⟨g2, gc2, rfl, hi2, hk, hg2⟩
    have HI8 := hid hi2
    have hg2z := hi2.lt
    have HM8 := hid (HM7.out.same hk)
    have HB8 := hid (hk.blk HB7.out (fun h => h))
    have HWG8 := hid (hk.ints HWG7.out (fun h => h))
    have HOW8 := hid (ownsRow_keep HOW7.out hk (fun _ _ h => h))
    have HK8 : Hid (Keep0 w w8) := hid (Keep0.step HK7.out hk)
    have hm7 := HM7.out.mem.lt
    have ha7 := HM7.out.words.lt
    have hlv7 := fun b (e : lv7.ownBlock = some b) => (HM7.out.log.lt b e).2
    have HLV7 := hid hlv7
    have qB8 := HB8.out.k14
    clear hi2 hk HM7 HB7 HWG7 HOW7 HK7 hlv7
    go_wp2_with fail
    refine (sh_Lower t (s : Int) g l r k PA P.length pc LA L.length lc v n _ hs.1 hs.2 hv0 (by omega)).mono ?_
    rintro e w9 ⟨x9, sb9, rfl, hb, hst, hk, hx, hsx⟩
    rw [show v * (6 + 2 * (s : Int)) + 1 = (av : Int) from HAV.out.symm, ← HLI.out.1] at hb
    have HX9 := hid (show Blk w9 x9 85 (scs 2 li av v n sb9 ⟨UU, LU, 0, 0, false⟩) from hb)
    have HT9 := hid hst
    have HM9 := hid (HM8.out.same hk)
    have HK9 : Hid (Keep0 w w9) := hid (Keep0.step HK8.out hk)
    have hzx9 := Nat.le_trans HK8.out.size hx
    have hxz9 := hx
    have HI9 := hid (hk.ints HI8.out (fun h => h))
    have HWG9 := hid (hk.ints HWG8.out (fun h => h))
    have HOW9 := hid (ownsRow_keep HOW8.out hk (fun _ _ h => h))
    have HB9 := hid (hk.blk HB8.out (fun h => h))
    have hwgx9 : wg ≠ x9 := by have := HWG8.out.lt; omega
    have hgx9 : g2 ≠ x9 := by omega
    clear hk hb hst hx hsx HM8 HB8 HK8 qB8 HWG8 HOW8 HI8
    have hsf2 : sRef 2 n (rd UU av) = false := by have := HR1.out.2; simp [sRef]; omega
    have hal := sAloneL (kd := 2) (f := av) (g := li) (n := n) VV.length UU LU 6 (by omega) (by decide) hsf2
    rw [show sBy 2 n = -n from rfl, HBK.out] at hal
    have hp := play_shift (B := w.heap.size) (w := w9) (m := m) (a := a) (x := x9) (lv := lv7) (kd := 2) (li := li) (av := av) (sb := sb9) (nd := v) (n := n) (X := 1099511627776) ⟨UU, LU, 0, 0, false⟩ [] none 0 0 0 9 HM9.out HX9.out HT9.out (SInv.start9 (show av < UU.length by omega) (show li < UU.length by omega) (show av ≠ li by omega) (by decide) hn (show -1099511627776 ≤ rd UU av ∧ rd UU av ≤ 1099511627776 by have := HR1.out.2; omega) (show -1099511627776 ≤ rd UU li ∧ rd UU li ≤ 1099511627776 by have := HR1.out.1; omega) (by omega) rfl) (by show LU.length ≤ 1000000; omega) (by omega) (by omega) (by simp) (by intro p hp; cases hp) (fun h => by simp at h) (fun i h => by simp at h)
    rw [show (SS.mk UU LU 0 0 false).W.length = VV.length from hUV, show (9 : Nat) = 3 + 6 from rfl, show sF 2 li av = av from rfl, show sG 2 li av = li from rfl, hal] at hp
    have HEND := hid hp
    clear hp hal
    have hL6 : (LU ++ [(⟨1, av, rd UU av, 0, false⟩ : Acc), ⟨3, av, rd UU av, rd UU av + -n, true⟩, ⟨2, li, -n, rd UU li + -n, false⟩]).length = 6 := by simp [hL3]
    generalize (LU ++ [(⟨1, av, rd UU av, 0, false⟩ : Acc), ⟨3, av, rd UU av, rd UU av + -n, true⟩, ⟨2, li, -n, rd UU li + -n, false⟩]) = LZ at *
    go_wp2_with fail
    refine HEND.out.mono ?_
    rintro e w10 ⟨rfl, ⟨kk2, lv10, hm, ho, hx, hl10, -⟩, hk⟩
    have HM10 := hid (show MemAt w.heap.size w10 m a lv10 VV LZ from hm)
    have HWG10 := hid (hk.ints HWG9.out (by
      have := HWG9.out.lt
      rintro ((h | h | h | h) | h)
      · exact hwgm2 h
      · exact hwgm h
      · exact hwgx9 h
      · exact own_own_ne HOW9.out HM9.out.log (by decide) wg rfl h
      · omega))
    have HI10 := hid (hk.ints HI9.out (by
      have := HI9.out.lt
      rintro ((h | h | h | h) | h)
      · omega
      · omega
      · exact hgx9 h
      · have := HLV7.out g2 h; omega
      · omega))
    have HK10 : Hid (Keep0 w w10) := hid (play_far HM9.out hzx9 hk w HK9.out (Nat.le_refl _))
    clear hm ho hx hk hl10 HM9 HX9 HT9 HB9 HK9 HWG9 HOW9 HI9 HEND
    go_wp2_with fail
    refine (mem_Words HM10.out (by omega)).mono ?_
    rintro e w11 ⟨g3, gc3, rfl, hi3, hk, _⟩
    have HI3 := hid hi3
    have HWG11 := hid (hk.ints HWG10.out (fun h => h))
    have HI11 := hid (hk.ints HI10.out (fun h => h))
    have HK11 : Hid (Keep0 w w11) := hid (Keep0.step HK10.out hk)
    clear hi3 hk HM10 HWG10 HI10 HK10
    go_wp2_with fail
    refine (same_ints _ _ VV gc3 Wc _ HI3.out.at_ HWG11.out.at_ (by omega)).mono ?_
    rintro e w12 ⟨rfl, hk⟩
    have HWG12 := hid (hk.ints HWG11.out (fun h => h))
    have HI12 := hid (hk.ints HI11.out (fun h => h))
    have HK12 : Hid (Keep0 w w12) := hid (Keep0.step HK11.out hk)
    clear hk HWG11 HI11 HK11
    go_wp2_with fail
    have hdi := differ_ints _ _ UU VV gc2 Wc _ HI12.out.at_ HWG12.out.at_ (by omega) hUV.symm li (by omega) (by have := HR1.out.1; omega)
    rw [hUV] at hdi
    refine hdi.mono ?_
    rintro e w13 ⟨rfl, hk⟩
    have HKE : Hid (Keep0 w w13) := hid (Keep0.step HK12.out hk)
    clear hk
    go_wp2_with fail
    go_ret
    exact ⟨rfl, HKE.out⟩
end Go.Proofs.Ytonekdolmbdniaa
