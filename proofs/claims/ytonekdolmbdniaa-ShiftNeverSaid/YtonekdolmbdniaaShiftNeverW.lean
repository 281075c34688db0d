/- ShiftNever: at no step did its own accesses add more to what is available than to the limit, nor take more from the limit than from what is available. -/
import Derived.Test.YtonekdolmbdniaaLawNineC
namespace Go.Proofs.Ytonekdolmbdniaa
open Go.RowKit
set_option linter.unusedVariables false
set_option linter.unusedSimpArgs false
set_option maxRecDepth 100000

def nvD (n : Nat) (LL : List Acc) : Nat → Value → World → Prop
  | 1 | 8 | 15 => fun u w => ∃ A c, u = .slice A n c ∧ AccsAt w A LL
  | _ => fun _ _ => True
theorem nvD_stable {n : Nat} {LL : List Acc} : Stable (nvD n LL) := by
  intro i u w w' h hk
  unfold nvD at *
  split at h
  · obtain ⟨A, c, e, h⟩ := h; exact ⟨A, c, e, h.keep hk⟩
  · obtain ⟨A, c, e, h⟩ := h; exact ⟨A, c, e, h.keep hk⟩
  · obtain ⟨A, c, e, h⟩ := h; exact ⟨A, c, e, h.keep hk⟩
  · trivial
theorem never9 {kd li av : Nat} {n X : Int} {k : Nat} {t : SS} (hk : kd = 1 ∨ kd = 2) (h : SExact kd (sF kd li av) (sG kd li av) n X k t) : addS av t.L ≤ addS li t.L := by
  have h1 := h.of
  have h2 := h.og
  have h3 := h.inv.nx
  have h4 := h.inv.n1
  have h5 := h.inv.b
  rcases hk with rfl | rfl
  · simp only [sF, sG, ownF, ownG, sBy] at h1 h2
    simp at h1 h2
    rw [h1, h2]
    split <;> split <;> simp_all <;> omega
  · simp only [sF, sG, ownF, ownG, sBy] at h1 h2
    simp at h1 h2
    rw [h1, h2]
    split <;> split <;> simp_all <;> omega

set_option maxHeartbeats 4000000 in
theorem shiftNever_walk {w : World} {v0 : Value} (hc : PoolIn w v0) (raise : Bool) (lim : Int) (hlim : (Lit.int .u32 lim).wf = true) (big : Bool) : Calls Try.prog 8 #[v0, .bool raise, .int .u32 lim, .bool big] w (Ret (.bool true) w) := by
  have hlim := bounds_u32 hlim
  obtain ⟨t, s, g, l, r, k, P, L, PA, pc, LA, lc, nd, nn, st, avl, Q, QA, qc, K, KA, kc, rfl, hP, hL, hp1, hl1, hnd, hnn, hst, havl, hQ, hq1, hq2, hK, hk1⟩ := hc
  have HB : Hid (Blk (w.alloc (.cells #[i64 t, i64 s, i64 g, i64 l, i64 r, i64 k, .slice PA P.length pc, .slice LA L.length lc, .int .u8 nd, .int .u32 nn, .int .u8 st, .int .u32 avl, .slice QA Q.length qc, .slice KA K.length kc] 29)) w.heap.size 29 [i64 t, i64 s, i64 g, i64 l, i64 r, i64 k, .slice PA P.length pc, .slice LA L.length lc, .int .u8 nd, .int .u32 nn, .int .u8 st, .int .u32 avl, .slice QA Q.length qc, .slice KA K.length kc]) := hid (Blk.made rfl rfl)
  have HK0 : Hid (Keep0 w (w.alloc (.cells #[i64 t, i64 s, i64 g, i64 l, i64 r, i64 k, .slice PA P.length pc, .slice LA L.length lc, .int .u8 nd, .int .u32 nn, .int .u8 st, .int .u32 avl, .slice QA Q.length qc, .slice KA K.length kc] 29))) := hid ((Keep.refl _ _).alloc _)
  have HGD := hid (fun (w' : World) (hk : Keep0 w w') => law8_Good t s g l r k PA P pc LA L lc nd nn st avl QA Q qc KA K kc w' (hP.keep hk) (hL.keep hk) hp1 hl1 hq1 hk1)
  have HWO := hid (fun (w' : World) (hk : Keep0 w w') hR hq => law8_Words t s g l r k PA P pc LA L lc nd nn st avl QA Q qc KA K kc w' (hP.keep hk) (hL.keep hk) (hQ.keep hk) hR hnd hnn hst havl hq hq2)
  have HPK := hid (fun (w' : World) (hk : Keep0 w w') hR hk40 => law9_pokes t s g l r k PA P pc LA L lc nd nn st avl QA Q qc KA K kc w' (hK.keep hk) hR hnd hnn hst hk40)
  clear hP hL hQ hK hq2
  go_enter Try.func8, Try.ntmps8
  go_wp2_with fail
  have qHB := HB.out.k14
  refine (law9_head _).mono ?_
  rintro e w1 ⟨rfl, hk⟩
  have HK1 : Hid (Keep0 w w1) := hid (Keep0.step HK0.out hk)
  have T := hk.blk HB.out (fun h => h)
  clear hk HB HK0 qHB
  have HB := hid T
  clear T
  have qHB := HB.out.k14
  go_wp2_with fail
  refine (HGD.out _ HK1.out).mono ?_
  rintro e w2 ⟨rfl, hk⟩
  have HK2 : Hid (Keep0 w w2) := hid (Keep0.step HK1.out hk)
  have T := hk.blk HB.out (fun h => h)
  clear hk HB HK1 qHB HGD hp1 hl1 hq1 hk1
  have HB := hid T
  clear T
  have qHB := HB.out.k14
  cases hgood : good8B t s g l r k P L Q.length K.length
  · go_wp2
    go_ret
    exact ⟨rfl, HK2.out⟩
  · simp only [good8B, Bool.and_eq_true, decide_eq_true_eq] at hgood
    obtain ⟨⟨hgood, hk40⟩, hq20⟩ := hgood
    have R := Right.of hgood
    clear hgood
    obtain ⟨s, rfl⟩ := Int.eq_ofNat_of_zero_le (show 0 ≤ s by have := R.sb; omega)
    have hs := R.sb
    have hp := R.p
    have hl := R.l
    have hkk := R.k
    have hlen := R.len
    have HOF := hid (fun (w' : World) => law8_Of t (s : Int) g l r k PA P pc LA L lc nd nn st avl QA Q qc KA K kc w' ⟨hp.1, by omega⟩ hs hnd hnn hst)
    have HWO2 := hid (fun w' hk => HWO.out w' hk R hq20)
    have HPK2 := hid (fun w' hk => HPK.out w' hk R hk40)
    clear HWO HPK
    have hv0 := Int.emod_nonneg nd (show (P.length : Int) ≠ 0 by omega)
    have hv1 := Int.emod_lt_of_pos nd (show (0 : Int) < P.length by omega)
    have hu0 := Int.emod_nonneg st (show (s : Int) ≠ 0 by omega)
    have hu1 := Int.emod_lt_of_pos st (show (0 : Int) < s by omega)
    have hn0 := Int.emod_nonneg nn (show (1048576 : Int) ≠ 0 by omega)
    have hn1 := Int.emod_lt_of_pos nn (show (0 : Int) < 1048576 by omega)
    generalize nd % (P.length : Int) = v at *
    generalize st % (s : Int) = u at *
    generalize hne : nn % 1048576 + 1 = n at *
    have hn : 1 ≤ n ∧ n ≤ 1048576 := by omega
    clear hne hn0 hn1
    have PW := poolWords R (v := v) (avl := avl) (Q := Q) ⟨hv0, hv1⟩ havl
    have hm1 := mul_bd 12 22 hv0 (by omega) (show 0 ≤ 6 + 2 * (s : Int) by omega) (by omega)
    have hm4 := mul_bd 12 22 (show (0 : Int) ≤ P.length by omega) (by omega) (show 0 ≤ 6 + 2 * (s : Int) by omega) (by omega)
    obtain ⟨av, hav⟩ := Int.eq_ofNat_of_zero_le (show 0 ≤ v * (6 + 2 * (s : Int)) + 1 by omega)
    rw [show (v * (6 + 2 * (s : Int)) + 1).toNat = av from by omega] at PW
    have hav0 : av ≤ 300 := by omega
    have HAV := hid hav.symm
    clear hav
    obtain ⟨u, rfl⟩ := Int.eq_ofNat_of_zero_le hu0
    have hus : u < s := by omega
    have hfit := PW.fit
    rw [Int.toNat_natCast] at hfit
    have hWl := PW.len
    generalize hWW : words8 (s : Int) k l L P.length v avl Q = WW at *
    clear hWW
    have HN : Hid ((P.length : Int) * (6 + 2 * (s : Int)) + 2 * k = (WW.length : Int)) := hid (by have := hkk; omega)
    have hWm : WW.length ≤ 10000 := by omega
    rw [← hWl] at hfit
    clear hWl
    obtain ⟨li, HLI⟩ : ∃ li : Nat, Hid ((li : Int) = v * (6 + 2 * (s : Int)) ∧ li + 1 = av) := ⟨(v * (6 + 2 * (s : Int))).toNat, hid (by have := HAV.out; omega)⟩
    have hla := HLI.out.2
    have hl9 := lim9_bd hlim big
    obtain ⟨VV, HVV⟩ : ∃ VV : List Int, Hid (VV = WW.set li (lim9 lim big)) := ⟨_, hid rfl⟩
    have HVL : Hid (VV.length = WW.length) := hid (by rw [HVV.out, List.length_set])
    have HSV : Hid (rd VV li = lim9 lim big ∧ rd VV av = avl ∧ ∀ i, -1099511627776 * 4 ≤ rd VV i ∧ rd VV i ≤ 1099511627776 * 4) := hid (by
      rw [HVV.out]
      refine ⟨by rw [rd_set, if_pos ⟨rfl, by omega⟩], by rw [rd_set, if_neg (by omega)]; exact PW.isav, fun i => ?_⟩
      rw [rd_set]
      split
      · omega
      · have := PW.all i; omega)
    have HR := hid R
    clear PW R hm4 hlen
    go_wp2_with fail
    have hOF := HOF.out
    refine (hOF _).mono ?_
    rintro e w3 ⟨rfl, hk⟩
    have HK3 : Hid (Keep0 w w3) := hid (Keep0.step HK2.out hk)
    have T := hk.blk HB.out (fun h => h)
    clear hk HB HK2 qHB
    have HB := hid T
    clear T
    have qHB := HB.out.k14
    go_wp2_with fail
    have HWK := hid (fun (w' : World) (hk : Keep0 w3 w') => HWO2.out w' (HK3.out.trans hk (fun _ _ h => h)))
    refine (law9_words t (s : Int) g l r k PA P.length pc LA L.length lc nd nn st avl QA Q.length qc KA K.length kc v n (u : Int) lim big li WW w3 hOF HWK.out hs ⟨hv0, by omega⟩ HLI.out.1 (by omega) hWm hlim).mono ?_
    rintro e w4 ⟨WA, Wc, rfl, how, hk⟩
    rw [← HVV.out] at how
    have HK4 : Hid (Keep0 w w4) := hid (Keep0.step HK3.out hk)
    have T := hk.blk HB.out (fun h => h)
    have hw3 := HK3.out.size
    clear hk HB HK3 qHB HWO2 HWK hOF HOF
    have HB := hid T
    clear T
    have qHB := HB.out.k14
    rw [← HVL.out] at how
    rw [← HVL.out] at HN hfit hWm
    have HWL := hid (show WW.length = VV.length from HVL.out.symm)
    obtain ⟨wg, rfl, hwg, hwge⟩ := ints_own how (by omega) rfl
    have HWG := hid hwg
    have HOW := hid how
    clear hwg how
    rw [show WW.length = VV.length from HWL.out]
    go_wp2_with fail
    refine (law8_Laid w.heap.size _ _ _ VV HWG.out.at_ hWm HK4.out.size).mono ?_
    rintro e w5 ⟨m, a, lv5, rfl, hm, hk, hzm, hza⟩
    have HM5 := hid hm
    have HK5 : Hid (Keep0 w w5) := hid (Keep0.step HK4.out hk)
    have hzm' := Nat.le_trans HK4.out.size hzm
    have hza' := Nat.le_trans HK4.out.size hza
    have HWG5 := hid (hk.ints HWG.out (fun h => h))
    have HOW5 := hid (ownsRow_keep HOW.out hk (fun _ _ h => h))
    have hwgm : wg ≠ a := by have := HWG.out.lt; omega
    have hwgm2 : wg ≠ m := by have := HWG.out.lt; omega
    have T := hk.blk HB.out (fun h => h)
    clear hk hm hzm hza HB HK4 qHB HWG HOW
    have HB := hid T
    clear T
    have qHB := HB.out.k14
    
    cases raise
    · go_wp2_with fail
      refine (law9_kind t (s : Int) g l r k PA P.length pc LA L.length lc v n 2 2 _ (by decide) (by decide) hs.1 hs.2 hv0 (by omega)).mono ?_
      rintro e w6 ⟨x, sb, rfl, hb, hst, hk, hx, hsx⟩
      rw [show v * (6 + 2 * (s : Int)) + 1 = (av : Int) from HAV.out.symm, ← HLI.out.1] at hb
      have HX6 := hid (show Blk w6 x 85 (scs 2 li av v n sb (sStart 2 VV)) from by rw [scs_start]; exact hb)
      have HT6 := hid hst
      have HM6 := hid (HM5.out.same hk)
      have HK6 : Hid (Keep0 w w6) := hid (Keep0.step HK5.out hk)
      have hzx := Nat.le_trans HK5.out.size hx
      have HWG6 := hid (hk.ints HWG5.out (fun h => h))
      have HOW6 := hid (ownsRow_keep HOW5.out hk (fun _ _ h => h))
      have hwgx : wg ≠ x := by have := HWG5.out.lt; omega
      have HSI := hid (sinv9 (W := VV) (kd := 2) (li := li) (av := av) (n := n) (by omega) hla (by omega) hn (by have := HSV.out.1; omega) (by have := HSV.out.2.1; omega))
      have T := hk.blk HB.out (fun h => h)
      clear hk hb hst hx hsx HM5 HB HK5 qHB HWG5 HOW5
      have HB := hid T
      clear T
      have qHB := HB.out.k14
      go_wp2_with fail
      refine (HPK2.out _ HK6.out).mono ?_
      rintro e w7 ⟨KB, kbc, rfl, hpk, hk, hkb⟩
      rw [show v * (6 + 2 * (s : Int)) + 1 = (av : Int) from HAV.out.symm, ← HLI.out.1] at hpk
      have hok := okPokes9 (kd := 2) (li := li) (av := av) K
      have hin9 : ∀ p ∈ K.map (poke9 (av : Int) (li : Int)), 0 ≤ p.w ∧ p.w < VV.length := by
        intro p hp
        rw [List.mem_map] at hp
        obtain ⟨q, _, rfl⟩ := hp
        unfold poke9
        split
        · simp only; omega
        · simp only; omega
      have hkl : (K.map (poke9 (av : Int) (li : Int))).length = K.length := by simp
      generalize K.map (poke9 (av : Int) (li : Int)) = KK at *
      have HB7 := hid (hk.blk HB.out (fun h => h))
      have HK7 : Hid (Keep0 w w7) := hid (Keep0.step HK6.out hk)
      have hmz := HM6.out.mem.lt
      have haz := HM6.out.words.lt
      have hxz := HX6.out.lt
      have hlz := fun b (e : lv5.ownBlock = some b) => (HM6.out.log.lt b e).2
      have HNB : Hid (¬ ((w.heap.size = m ∨ w.heap.size = a ∨ w.heap.size = x ∨ lv5.ownBlock = some w.heap.size) ∨ w7.heap.size ≤ w.heap.size)) := hid (by
        have hb := HB.out.lt
        have := hk.size
        rintro ((h | h | h | h) | h)
        · exact HB.out.ne HM6.out.mem (by decide) h
        · exact HB.out.ne HM6.out.words (by decide) h
        · exact HB.out.ne HX6.out (by decide) h
        · exact ownBlock_ne HM6.out.log HB.out (by decide) h.symm
        · omega)
      have HNK := hid (fun b o (e : KB = some ⟨b, o, none⟩) (hb : b < w7.heap.size) => (show ¬ ((b = m ∨ b = a ∨ b = x ∨ lv5.ownBlock = some b) ∨ w7.heap.size ≤ b) from by
        have h0 := hkb b o e
        rintro ((h | h | h | h) | h)
        · omega
        · omega
        · omega
        · have := hlz b h; omega
        · omega))
      have HPKS := hid hpk
      have HLV := hid (fun b (e : lv5.ownBlock = some b) => (HM6.out.log.lt b e).1)
      have HFAR := hid (fun (w' : World) (hk : Keep (fun b => (b = m ∨ b = a ∨ b = x ∨ lv5.ownBlock = some b) ∨ w7.heap.size ≤ b) w7 w') => (show Keep0 w w' from by
        refine keep_far HK7.out hk ?_
        rintro b ((rfl | rfl | rfl | h) | h)
        · exact hzm'
        · exact hza'
        · exact hzx
        · exact HLV.out b h
        · exact Nat.le_trans HK7.out.size h))
      have HOK := hid (fun (p : Pk) (hp : p ∈ KK) => (⟨(hin9 p hp).1, (hin9 p hp).2, hok p hp⟩ : 0 ≤ p.w ∧ p.w < VV.length ∧ ((p.w = (sF 2 li av : Nat) ∨ p.w = (sG 2 li av : Nat)) → -1099511627776 ≤ p.x ∧ p.x ≤ 1099511627776)))
      have HOKS := hid hok
      have HE0 := hid (SExact.start HSI.out)
      have HS7 := hid (show ShSys w.heap.size m a x 2 li av v n sb 1099511627776 VV.length 0 lv5 w7.heap.size 0 w7 (sStart 2 VV) from ⟨lv5, HM6.out.same hk, fun _ h => Or.inl h, hk.blk HX6.out (fun h => h), rfl, by simp [sStart], HSI.out.more (by omega), Nat.le_refl _, hk.blk HT6.out (fun h => h)⟩)
      have HN0 : Hid (0 + sNeed (sF 2 li av) (sStart 2 VV) + 2 * remAt ((0 : Nat) : Int) KK ≤ 100) := hid (by have := sStart_need (f := sF 2 li av) 2 VV; have := remAt_le ((0 : Nat) : Int) KK; omega)
      clear hpk hk hkb hmz haz hxz hlz hok hin9 HM6 HX6 HT6 HB qHB HK6 HWG6 HOW6 HPK2 HSI
      go_wp2_with fail
      go_loopw [17] (fun v10 wr => ∃ i : Nat, i ≤ 200 ∧ v10 = .int .i64 i ∧ ∃ tt : SS, ShSys w.heap.size m a x 2 li av v n sb 1099511627776 VV.length 0 lv5 w7.heap.size i wr tt ∧ tt.st < 3 ∧ SExact 2 (sF 2 li av) (sG 2 li av) n 1099511627776 i tt ∧ tt.L.length = i ∧ i + sNeed (sF 2 li av) tt + 2 * remAt (i : Int) KK ≤ 100 ∧ Keep (fun b => (b = m ∨ b = a ∨ b = x ∨ lv5.ownBlock = some b) ∨ w7.heap.size ≤ b) w7 wr) (fun v10 _ => 200 - (intOf v10).toNat)
      case atStart => exact ⟨0, Nat.zero_le _, rfl, _, HS7.out, sStart_lt _ _, HE0.out, rfl, HN0.out, Keep.refl _ _⟩
      case round =>
        obtain ⟨i, hi, rfl, t0, hs0, h30, he0, hl0, hn0, hkr⟩ := hrel
        have HT0 := hid hs0
        have HKR := hid hkr
        have HEI := hid he0
        have HNI := hid hn0
        have HL0 := hid hl0
        have hlt : i < 200 := by omega
        have hlt2 : ((i : Int) < 200) = True := by simp; omega
        clear hs0 hkr he0 hn0 HE0 HS7 HN0 hl0
        go_wp2_with fail
        go_loopw [18] (fun v11 wi => ∃ j : Nat, j ≤ K.length ∧ v11 = .int .i64 j ∧ ShSys w.heap.size m a x 2 li av v n sb 1099511627776 VV.length 0 lv5 w7.heap.size i wi (pokeAll sPk VV.length i (KK.take j) t0) ∧ Keep (fun b => (b = m ∨ b = a ∨ b = x ∨ lv5.ownBlock = some b) ∨ w7.heap.size ≤ b) w7 wi) (fun v11 _ => K.length - (intOf v11).toNat)
        case atStart => exact ⟨0, Nat.zero_le _, rfl, HT0.out, HKR.out⟩
        case round =>
          obtain ⟨j, hj, rfl, hst, hki⟩ := hrel
          have HKI := hid hki
          clear hki
          by_cases hjl : j < K.length
          · have hjk : j < KK.length := by omega
            obtain ⟨kb, ko, rfl, hkc⟩ := HPKS.out.cell (by omega)
            have hck := hkc j hjk
            have hpok := HOK.out KK[j] (List.getElem_mem hjk)
            have hps := pokeAll_snoc sPk VV.length (i : Int) KK j hjk t0
            have HTT := hid hst
            have HPS := hid hps
            clear hst hps
            generalize KK[j] = pp at *
            obtain ⟨pa, pw, px⟩ := pp
            generalize pokeAll sPk VV.length (i : Int) (KK.take j) t0 = tt at *
            simp only at hck hpok
            have hkz := World.block_lt_of_cell? _ _ hck.1
            simp only at hkz
            have HCL := hid (fun (wx : World) (hk : Keep (fun b => (b = m ∨ b = a ∨ b = x ∨ lv5.ownBlock = some b) ∨ w7.heap.size ≤ b) w7 wx) => (⟨(cell_old hk hkz (HNK.out kb ko rfl hkz) _).trans hck.1, (cell_old hk hkz (HNK.out kb ko rfl hkz) _).trans hck.2.1, (cell_old hk hkz (HNK.out kb ko rfl hkz) _).trans hck.2.2, Nat.lt_of_lt_of_le hkz hk.size⟩ : wx.cell? ⟨kb, ko + j * 3, none⟩ = some (i64 pa) ∧ wx.cell? ⟨kb, ko + j * 3 + 1, none⟩ = some (i64 pw) ∧ wx.cell? ⟨kb, ko + j * 3 + 2, none⟩ = some (i64 px) ∧ kb < wx.heap.size))
            clear hkc hck hkz
            obtain ⟨d0, d1, d2, dz⟩ := HCL.out _ HKI.out
            by_cases hA : pa = (i : Int)
            · have g1 : (pa == (i : Int)) = true := by simpa using hA
              have HA := hid hA
              clear hA
              go_wp2_with fail
              clear d0 d1 d2 dz
              apply wp_region_text (WI := fun S wx => Keep (fun b => (b = m ∨ b = a ∨ b = x ∨ lv5.ownBlock = some b) ∨ w7.heap.size ≤ b) w7 wx ∧ (S 11 = false → ShSys w.heap.size m a x 2 li av v n sb 1099511627776 VV.length 0 lv5 w7.heap.size i wx tt) ∧ (S 11 = true → ShSys w.heap.size m a x 2 li av v n sb 1099511627776 VV.length 0 lv5 w7.heap.size i wx (sPk tt pw.toNat px))) (by kernel_rfl) (by kernel_rfl)
              case hob =>
                apply Oblig.cons
                case h =>
                  intro S w1 hwi hSi hd hcl
                  apply StepOk.intro
                  intro K hK
                  have cl := HCL.out _ hwi.1
                  obtain ⟨d0, d1, d2, dz⟩ := cl
                  go_simp
                  apply hK
                  · rfl
                  · conv => (lhs; whnf)
                  · exact hwi
                simp only [put_lit, put_none, List.set_cons_succ, List.set_cons_zero]
                apply Oblig.cons
                case h =>
                  intro S w1 hwi hSi hd hcl
                  apply StepOk.intro
                  intro K hK
                  have cl := HCL.out _ hwi.1
                  obtain ⟨d0, d1, d2, dz⟩ := cl
                  go_simp
                  apply hK
                  · rfl
                  · conv => (lhs; whnf)
                  · exact hwi
                simp only [put_lit, put_none, List.set_cons_succ, List.set_cons_zero]
                apply Oblig.cons
                case h =>
                  intro S w1 hwi hSi hd hcl
                  apply StepOk.intro
                  intro K hK
                  have cl := HCL.out _ hwi.1
                  obtain ⟨d0, d1, d2, dz⟩ := cl
                  go_simp
                  apply hK
                  · rfl
                  · conv => (lhs; whnf)
                  · exact hwi
                simp only [put_lit, put_none, List.set_cons_succ, List.set_cons_zero]
                apply Oblig.cons
                case h =>
                  intro S w1 hwi hSi hd hcl
                  apply StepOk.intro
                  intro K hK
                  have cl := HCL.out _ hwi.1
                  obtain ⟨d0, d1, d2, dz⟩ := cl
                  go_simp
                  apply hK
                  · rfl
                  · conv => (lhs; whnf)
                  · exact hwi
                simp only [put_lit, put_none, List.set_cons_succ, List.set_cons_zero]
                apply Oblig.cons
                case h =>
                  intro S w1 hwi hSi hd hcl
                  apply StepOk.intro
                  intro K hK
                  have cl := HCL.out _ hwi.1
                  obtain ⟨d0, d1, d2, dz⟩ := cl
                  go_simp
                  apply hK
                  · rfl
                  · conv => (lhs; whnf)
                  · exact hwi
                simp only [put_lit, put_none, List.set_cons_succ, List.set_cons_zero]
                apply Oblig.cons
                case h =>
                  intro S w1 hwi hSi hd hcl
                  apply StepOk.intro
                  intro K hK
                  have cl := HCL.out _ hwi.1
                  obtain ⟨d0, d1, d2, dz⟩ := cl
                  go_simp
                  apply hK
                  · rfl
                  · conv => (lhs; whnf)
                  · exact hwi
                simp only [put_lit, put_none, List.set_cons_succ, List.set_cons_zero]
                apply Oblig.cons
                case h =>
                  intro S w1 hwi hSi hd hcl
                  apply StepOk.intro
                  intro K hK
                  have cl := HCL.out _ hwi.1
                  obtain ⟨d0, d1, d2, dz⟩ := cl
                  go_simp
                  apply hK
                  · rfl
                  · conv => (lhs; whnf)
                  · exact hwi
                simp only [put_lit, put_none, List.set_cons_succ, List.set_cons_zero]
                apply Oblig.cons
                case h =>
                  intro S w1 hwi hSi hd hcl
                  apply StepOk.intro
                  intro K hK
                  have cl := HCL.out _ hwi.1
                  obtain ⟨d0, d1, d2, dz⟩ := cl
                  go_simp
                  apply hK
                  · rfl
                  · conv => (lhs; whnf)
                  · exact hwi
                simp only [put_lit, put_none, List.set_cons_succ, List.set_cons_zero]
                apply Oblig.cons
                case h =>
                  intro S w1 hwi hSi hd hcl
                  apply StepOk.intro
                  intro K hK
                  have cl := HCL.out _ hwi.1
                  obtain ⟨d0, d1, d2, dz⟩ := cl
                  go_simp
                  apply hK
                  · rfl
                  · conv => (lhs; whnf)
                  · exact hwi
                simp only [put_lit, put_none, List.set_cons_succ, List.set_cons_zero]
                apply Oblig.cons
                case h =>
                  intro S w1 hwi hSi hd hcl
                  apply StepOk.intro
                  intro K hK
                  have cl := HCL.out _ hwi.1
                  obtain ⟨d0, d1, d2, dz⟩ := cl
                  go_simp
                  apply hK
                  · rfl
                  · conv => (lhs; whnf)
                  · exact hwi
                simp only [put_lit, put_none, List.set_cons_succ, List.set_cons_zero]
                apply Oblig.cons
                case h =>
                  intro S w1 hwi hSi hd hcl
                  apply StepOk.intro
                  intro K hK
                  have cl := HCL.out _ hwi.1
                  obtain ⟨d0, d1, d2, dz⟩ := cl
                  go_simp
                  apply hK
                  · rfl
                  · conv => (lhs; whnf)
                  · exact hwi
                simp only [put_lit, put_none, List.set_cons_succ, List.set_cons_zero]
                apply Oblig.cons
                case h =>
                  intro S w1 hwi hSi hd hcl
                  apply StepOk.intro
                  intro K hK
                  have cl := HCL.out _ hwi.1
                  obtain ⟨d0, d1, d2, dz⟩ := cl
                  go_simp
                  refine ((hwi.2.1 hSi).poke pw px hpok.1 hpok.2.1 (by decide) hpok.2.2).mono ?_
                  rintro e w2 ⟨rfl, hs2, hk2⟩
                  apply hK
                  · rfl
                  · conv => (lhs; whnf)
                  · exact ⟨hwi.1.trans hk2 (fun _ _ h => h), fun h => by simp [upd] at h, fun _ => hs2⟩
                simp only [put_lit, put_none, List.set_cons_succ, List.set_cons_zero]
                exact Oblig.nil
              case h0 =>
                exact ⟨HKI.out.drew, fun _ => HTT.out.same (Keep.refl _ _).drew, fun h => by cases h⟩
              case hend =>
                intro S wx hwi hall
                have HTX := hid (hwi.2.2 (hall 11 (by decide)))
                have HKX := hid hwi.1
                clear hwi hall
                go_wp2_with fail
                go_roundw
                case rel => exact ⟨j + 1, by omega, by go_num, by rw [HPS.out, if_pos ⟨HA.out, hpok.1, hpok.2.1⟩]; exact HTX.out, HKX.out⟩
                case measure => simp [intOf]; omega
            · have g1 : (pa == (i : Int)) = false := by simpa using hA
              have HA := hid hA
              clear hA
              go_wp2_with fail
              go_roundw
              case rel => exact ⟨j + 1, by omega, by go_num, by rw [HPS.out, if_neg (fun c => HA.out c.1)]; exact HTT.out, HKI.out⟩
              case measure => simp [intOf]; omega
          · rw [List.take_of_length_le (by omega)] at hst
            have hep := HEI.out.pokes VV.length (i : Int) KK HOKS.out
            have hnp := sNeed_pokes (f := sF 2 li av) VV.length (i : Int) KK t0
            obtain ⟨W', hpe, _⟩ := sPokeAll_any VV.length (i : Int) KK t0
            have h3t : (pokeAll sPk VV.length (i : Int) KK t0).st < 3 := by rw [hpe]; exact h30
            have hlt2 : (pokeAll sPk VV.length (i : Int) KK t0).L.length = i := by rw [hpe]; exact HL0.out
            have hrs := remAt_succ (i : Int) KK
            have HTT := hid hst
            clear hst hpe
            generalize pokeAll sPk VV.length (i : Int) KK t0 = tt at *
            have hns := sNeed_step (kd := 2) (f := sF 2 li av) (g := sG 2 li av) (n := n) h3t
            have hnx := hep.next (by omega) (by omega)
            have hl8 := sNext_log (kd := 2) (f := sF 2 li av) (g := sG 2 li av) (n := n) tt h3t
            rw [hlt2] at hl8
            have HND : Hid (i + 1 + sNeed (sF 2 li av) (sNext 2 (sF 2 li av) (sG 2 li av) n tt) + 2 * remAt ((i + 1 : Nat) : Int) KK ≤ 100) := hid (by have := HNI.out; rw [show ((i + 1 : Nat) : Int) = (i : Int) + 1 from by omega]; omega)
            clear hep hnp hlt2 hrs hns
            go_wp2_with fail
            refine (HTT.out.step (by omega) (by omega) (by omega)).mono ?_
            rintro e w8 ⟨rfl, hs8, hk8⟩
            have hb8 : (sStp 2 (sF 2 li av) (sG 2 li av) n tt).2 = decide ((sNext 2 (sF 2 li av) (sG 2 li av) n tt).st = 3) := rfl
            have hs8 : ShSys w.heap.size m a x 2 li av v n sb 1099511627776 VV.length 0 lv5 w7.heap.size (i + 1) w8 (sNext 2 (sF 2 li av) (sG 2 li av) n tt) := hs8
            rw [hb8]
            generalize sNext 2 (sF 2 li av) (sG 2 li av) n tt = t8 at *
            have HT8 := hid hs8
            have HK8 := hid (HKI.out.trans hk8 (fun _ _ h => h))
            have HE8 := hid hnx
            obtain ⟨lv8, hm8, _, _, hlen8, _, hpi8, _, _⟩ := id hs8
            have HM8 := hid hm8
            have hnx8 := hpi8.nx
            have HBX := hid (HK8.out.blk HB7.out HNB.out)
            have hnev := never9 (Or.inr rfl) hnx
            have HSM := hid (fun x hx => (hnx.acc x hx).2.2.2)
            have HLL : Hid (t8.L = t8.L) := hid rfl
            generalize hLe : t8.L = LL at *
            clear HLL
            have HLL := hid hLe.symm
            clear hLe
            have HLN := hid hl8
            have HLOG := hid (fun (w' : World) (hk : Keep0 w8 w') => (show Calls Try.prog 29 #[ptr m] w' (fun e w2 => ∃ A c, e = .returned (.slice A (i + 1) c) ∧ AccsAt w2 A LL ∧ Keep0 w' w2) from by have h := mem_Log (HM8.out.same hk) (by rw [hl8]; omega); rw [hl8] at h; exact h))
            have HADP := hid (fun (w' : World) A c (h : AccsAt w' A LL) => (show Calls Try.prog 30 #[.slice A ((i + 1 : Nat) : Nat) c, i64 li] w' (Ret (i64 (addS li LL)) w') from by have h := law9_added w' A c LL li h (by omega) HSM.out; rw [hl8] at h; exact h))
            have HADQ := hid (fun (w' : World) A c (h : AccsAt w' A LL) => (show Calls Try.prog 30 #[.slice A ((i + 1 : Nat) : Nat) c, i64 av] w' (Ret (i64 (addS av LL)) w') from by have h := law9_added w' A c LL av h (by omega) HSM.out; rw [hl8] at h; exact h))
            have hgn : ¬ addS li LL < addS av LL := by omega
            generalize addS li LL = PP at *
            generalize addS av LL = QQ at *
            have yi : IntKind.i64.wrap ((i : Int) + 1) = (i : Int) + 1 := IntWalk.i64_in _ (by omega)
            clear hs8 hk8 hb8 HTT HKI HT0 HKR hl8 hm8 hpi8 hnx hnev HEI HNI HSM HM8
            go_wp2_with fail
            apply wp_region_free (WI := fun S gh wx => Keep0 w8 wx ∧ GWI (nvD (i + 1) LL) S gh wx) (by kernel_rfl) (by kernel_rfl)
            case hob =>
              apply ObligF.fixed
              case h =>
                intro S gh w1 hwi hSi hd hcl
                apply StepOk.intro
                intro K hK
                have cb := (hwi.1.blk HBX.out (fun h => h)).k14
                go_simp
                apply hK
                · rfl
                · conv => (lhs; whnf)
                · exact ⟨hwi.1, GWI.fixed hwi.2 trivial⟩
              simp only [put_lit, put_none, List.set_cons_succ, List.set_cons_zero]
              apply ObligF.free
              case h =>
                intro S gh w1 hwi hSi hd hcl
                apply StepG.intro
                intro K hK
                have cb := (hwi.1.blk HBX.out (fun h => h)).k14
                go_simp
                refine (HLOG.out _ hwi.1).mono ?_
                rintro e w2 ⟨A2, c2, rfl, hi, hk⟩
                apply hK
                · rfl
                · exact ⟨Keep0.step hwi.1 hk, GWI.free (hwi.2.keep nvD_stable hk) ⟨_, c2, rfl, hi⟩⟩
              simp only [put_lit, put_none, List.set_cons_succ, List.set_cons_zero]
              apply ObligF.fixed
              case h =>
                intro S gh w1 hwi hSi hd hcl
                apply StepOk.intro
                intro K hK
                have cb := (hwi.1.blk HBX.out (fun h => h)).k14
                obtain ⟨A1, c1, e1, hi1⟩ := hwi.2 1 (hd ⟨1, .data⟩ (by simp) rfl)
                rw [e1]
                go_simp
                apply hK
                · rfl
                · conv => (lhs; whnf)
                · exact ⟨hwi.1, GWI.fixed hwi.2 trivial⟩
              simp only [put_lit, put_none, List.set_cons_succ, List.set_cons_zero]
              apply ObligF.fixed
              case h =>
                intro S gh w1 hwi hSi hd hcl
                apply StepOk.intro
                intro K hK
                have cb := (hwi.1.blk HBX.out (fun h => h)).k14
                go_simp
                apply hK
                · rfl
                · conv => (lhs; whnf)
                · exact ⟨hwi.1, GWI.fixed hwi.2 trivial⟩
              simp only [put_lit, put_none, List.set_cons_succ, List.set_cons_zero]
              apply ObligF.fixed
              case h =>
                intro S gh w1 hwi hSi hd hcl
                apply StepOk.intro
                intro K hK
                have cb := (hwi.1.blk HBX.out (fun h => h)).k14
                go_simp
                apply hK
                · rfl
                · conv => (lhs; whnf)
                · exact ⟨hwi.1, GWI.fixed hwi.2 trivial⟩
              simp only [put_lit, put_none, List.set_cons_succ, List.set_cons_zero]
              apply ObligF.fixed
              case h =>
                intro S gh w1 hwi hSi hd hcl
                apply StepOk.intro
                intro K hK
                have cb := (hwi.1.blk HBX.out (fun h => h)).k14
                go_simp
                apply hK
                · rfl
                · conv => (lhs; whnf)
                · exact ⟨hwi.1, GWI.fixed hwi.2 trivial⟩
              simp only [put_lit, put_none, List.set_cons_succ, List.set_cons_zero]
              apply ObligF.fixed
              case h =>
                intro S gh w1 hwi hSi hd hcl
                apply StepOk.intro
                intro K hK
                have cb := (hwi.1.blk HBX.out (fun h => h)).k14
                go_simp
                apply hK
                · rfl
                · conv => (lhs; whnf)
                · exact ⟨hwi.1, GWI.fixed hwi.2 trivial⟩
              simp only [put_lit, put_none, List.set_cons_succ, List.set_cons_zero]
              apply ObligF.fixed
              case h =>
                intro S gh w1 hwi hSi hd hcl
                apply StepOk.intro
                intro K hK
                have cb := (hwi.1.blk HBX.out (fun h => h)).k14
                go_simp
                apply hK
                · rfl
                · conv => (lhs; whnf)
                · exact ⟨hwi.1, GWI.fixed hwi.2 trivial⟩
              simp only [put_lit, put_none, List.set_cons_succ, List.set_cons_zero]
              apply ObligF.free
              case h =>
                intro S gh w1 hwi hSi hd hcl
                apply StepG.intro
                intro K hK
                have cb := (hwi.1.blk HBX.out (fun h => h)).k14
                go_simp
                refine (HLOG.out _ hwi.1).mono ?_
                rintro e w2 ⟨A2, c2, rfl, hi, hk⟩
                apply hK
                · rfl
                · exact ⟨Keep0.step hwi.1 hk, GWI.free (hwi.2.keep nvD_stable hk) ⟨_, c2, rfl, hi⟩⟩
              simp only [put_lit, put_none, List.set_cons_succ, List.set_cons_zero]
              apply ObligF.fixed
              case h =>
                intro S gh w1 hwi hSi hd hcl
                apply StepOk.intro
                intro K hK
                have cb := (hwi.1.blk HBX.out (fun h => h)).k14
                go_simp
                apply hK
                · rfl
                · conv => (lhs; whnf)
                · exact ⟨hwi.1, GWI.fixed hwi.2 trivial⟩
              simp only [put_lit, put_none, List.set_cons_succ, List.set_cons_zero]
              apply ObligF.fixed
              case h =>
                intro S gh w1 hwi hSi hd hcl
                apply StepOk.intro
                intro K hK
                have cb := (hwi.1.blk HBX.out (fun h => h)).k14
                go_simp
                apply hK
                · rfl
                · conv => (lhs; whnf)
                · exact ⟨hwi.1, GWI.fixed hwi.2 trivial⟩
              simp only [put_lit, put_none, List.set_cons_succ, List.set_cons_zero]
              apply ObligF.fixed
              case h =>
                intro S gh w1 hwi hSi hd hcl
                apply StepOk.intro
                intro K hK
                have cb := (hwi.1.blk HBX.out (fun h => h)).k14
                go_simp
                apply hK
                · rfl
                · conv => (lhs; whnf)
                · exact ⟨hwi.1, GWI.fixed hwi.2 trivial⟩
              simp only [put_lit, put_none, List.set_cons_succ, List.set_cons_zero]
              apply ObligF.fixed
              case h =>
                intro S gh w1 hwi hSi hd hcl
                apply StepOk.intro
                intro K hK
                have cb := (hwi.1.blk HBX.out (fun h => h)).k14
                go_simp
                refine (show Calls Try.prog 32 #[.agg #[i64 t, i64 s, i64 g, i64 l, i64 r, i64 k, .slice PA P.length pc, .slice LA L.length lc], i64 v] w1 (Ret (i64 (av : Int)) w1) from by have h := plan_Avail t (s : Int) g l r k PA P.length pc LA L.length lc v w1 hs.1 hs.2 hv0 (by omega); rw [← HAV.out] at h; exact h).mono ?_
                rintro e w2 ⟨rfl, hk⟩
                apply hK
                · rfl
                · conv => (lhs; whnf)
                · exact ⟨Keep0.step hwi.1 hk, GWI.fixed (hwi.2.keep nvD_stable hk) trivial⟩
              simp only [put_lit, put_none, List.set_cons_succ, List.set_cons_zero]
              apply ObligF.fixed
              case h =>
                intro S gh w1 hwi hSi hd hcl
                apply StepOk.intro
                intro K hK
                obtain ⟨A1, c1, e1, hi1⟩ := hwi.2 8 (hd ⟨8, .data⟩ (by simp) rfl)
                rw [e1]
                go_simp
                refine (HADQ.out _ A1 c1 hi1).mono ?_
                rintro e w2 ⟨rfl, hk⟩
                apply hK
                · rfl
                · conv => (lhs; whnf)
                · exact ⟨Keep0.step hwi.1 hk, GWI.fixed (hwi.2.keep nvD_stable hk) trivial⟩
              simp only [put_lit, put_none, List.set_cons_succ, List.set_cons_zero]
              apply ObligF.fixed
              case h =>
                intro S gh w1 hwi hSi hd hcl
                apply StepOk.intro
                intro K hK
                have cb := (hwi.1.blk HBX.out (fun h => h)).k14
                go_simp
                apply hK
                · rfl
                · conv => (lhs; whnf)
                · exact ⟨hwi.1, GWI.fixed hwi.2 trivial⟩
              simp only [put_lit, put_none, List.set_cons_succ, List.set_cons_zero]
              apply ObligF.free
              case h =>
                intro S gh w1 hwi hSi hd hcl
                apply StepG.intro
                intro K hK
                have cb := (hwi.1.blk HBX.out (fun h => h)).k14
                go_simp
                refine (HLOG.out _ hwi.1).mono ?_
                rintro e w2 ⟨A2, c2, rfl, hi, hk⟩
                apply hK
                · rfl
                · exact ⟨Keep0.step hwi.1 hk, GWI.free (hwi.2.keep nvD_stable hk) ⟨_, c2, rfl, hi⟩⟩
              simp only [put_lit, put_none, List.set_cons_succ, List.set_cons_zero]
              apply ObligF.fixed
              case h =>
                intro S gh w1 hwi hSi hd hcl
                apply StepOk.intro
                intro K hK
                have cb := (hwi.1.blk HBX.out (fun h => h)).k14
                go_simp
                apply hK
                · rfl
                · conv => (lhs; whnf)
                · exact ⟨hwi.1, GWI.fixed hwi.2 trivial⟩
              simp only [put_lit, put_none, List.set_cons_succ, List.set_cons_zero]
              apply ObligF.fixed
              case h =>
                intro S gh w1 hwi hSi hd hcl
                apply StepOk.intro
                intro K hK
                have cb := (hwi.1.blk HBX.out (fun h => h)).k14
                go_simp
                apply hK
                · rfl
                · conv => (lhs; whnf)
                · exact ⟨hwi.1, GWI.fixed hwi.2 trivial⟩
              simp only [put_lit, put_none, List.set_cons_succ, List.set_cons_zero]
              apply ObligF.fixed
              case h =>
                intro S gh w1 hwi hSi hd hcl
                apply StepOk.intro
                intro K hK
                have cb := (hwi.1.blk HBX.out (fun h => h)).k14
                go_simp
                apply hK
                · rfl
                · conv => (lhs; whnf)
                · exact ⟨hwi.1, GWI.fixed hwi.2 trivial⟩
              simp only [put_lit, put_none, List.set_cons_succ, List.set_cons_zero]
              apply ObligF.fixed
              case h =>
                intro S gh w1 hwi hSi hd hcl
                apply StepOk.intro
                intro K hK
                have cb := (hwi.1.blk HBX.out (fun h => h)).k14
                go_simp
                refine (show Calls Try.prog 31 #[.agg #[i64 t, i64 s, i64 g, i64 l, i64 r, i64 k, .slice PA P.length pc, .slice LA L.length lc], i64 v] w1 (Ret (i64 (li : Int)) w1) from by have h := plan_Limit t (s : Int) g l r k PA P.length pc LA L.length lc v w1 hs.1 hs.2 hv0 (by omega); rw [← HLI.out.1] at h; exact h).mono ?_
                rintro e w2 ⟨rfl, hk⟩
                apply hK
                · rfl
                · conv => (lhs; whnf)
                · exact ⟨Keep0.step hwi.1 hk, GWI.fixed (hwi.2.keep nvD_stable hk) trivial⟩
              simp only [put_lit, put_none, List.set_cons_succ, List.set_cons_zero]
              apply ObligF.fixed
              case h =>
                intro S gh w1 hwi hSi hd hcl
                apply StepOk.intro
                intro K hK
                obtain ⟨A1, c1, e1, hi1⟩ := hwi.2 15 (hd ⟨15, .data⟩ (by simp) rfl)
                rw [e1]
                go_simp
                refine (HADP.out _ A1 c1 hi1).mono ?_
                rintro e w2 ⟨rfl, hk⟩
                apply hK
                · rfl
                · conv => (lhs; whnf)
                · exact ⟨Keep0.step hwi.1 hk, GWI.fixed (hwi.2.keep nvD_stable hk) trivial⟩
              simp only [put_lit, put_none, List.set_cons_succ, List.set_cons_zero]
              apply ObligF.fixed
              case h =>
                intro S gh w1 hwi hSi hd hcl
                apply StepOk.intro
                intro K hK
                have cb := (hwi.1.blk HBX.out (fun h => h)).k14
                go_simp
                apply hK
                · rfl
                · conv => (lhs; whnf)
                · exact ⟨hwi.1, GWI.fixed hwi.2 trivial⟩
              simp only [put_lit, put_none, List.set_cons_succ, List.set_cons_zero]
              apply ObligF.fixed
              case h =>
                intro S gh w1 hwi hSi hd hcl
                apply StepOk.intro
                intro K hK
                have cb := (hwi.1.blk HBX.out (fun h => h)).k14
                go_simp
                apply hK
                · rfl
                · conv => (lhs; whnf)
                · exact ⟨hwi.1, GWI.fixed hwi.2 trivial⟩
              simp only [put_lit, put_none, List.set_cons_succ, List.set_cons_zero]
              exact ObligF.nil
            case h0 =>
              exact ⟨(Keep.refl _ _).drew, GWI.start _ _ _⟩
            case hend =>
              intro S gh wx hwi hall
              have HKX := hid hwi.1
              clear hwi hall
              have HKE := hid (HK8.out.trans (HKX.out.to (S := fun b => (b = m ∨ b = a ∨ b = x ∨ lv5.ownBlock = some b) ∨ w7.heap.size ≤ b)) (fun _ _ h => h))
              by_cases h3 : t8.st = 3
              · have HKF := hid (HFAR.out _ HKE.out)
                go_wp2_with fail
                go_ret
                exact ⟨rfl, HKF.out⟩
              · go_wp2_with fail
                go_roundw
                case rel => exact ⟨i + 1, by omega, by go_num, t8, HT8.out.same HKX.out, by omega, HE8.out, by rw [← HLL.out]; exact HLN.out, by have := HND.out; omega, HKE.out⟩
                case measure => simp [intOf]; omega
    · go_wp2_with fail
      refine (law9_kind t (s : Int) g l r k PA P.length pc LA L.length lc v n 1 1 _ (by decide) (by decide) hs.1 hs.2 hv0 (by omega)).mono ?_
      rintro e w6 ⟨x, sb, rfl, hb, hst, hk, hx, hsx⟩
      rw [show v * (6 + 2 * (s : Int)) + 1 = (av : Int) from HAV.out.symm, ← HLI.out.1] at hb
      have HX6 := hid (show Blk w6 x 85 (scs 1 li av v n sb (sStart 1 VV)) from by rw [scs_start]; exact hb)
      have HT6 := hid hst
      have HM6 := hid (HM5.out.same hk)
      have HK6 : Hid (Keep0 w w6) := hid (Keep0.step HK5.out hk)
      have hzx := Nat.le_trans HK5.out.size hx
      have HWG6 := hid (hk.ints HWG5.out (fun h => h))
      have HOW6 := hid (ownsRow_keep HOW5.out hk (fun _ _ h => h))
      have hwgx : wg ≠ x := by have := HWG5.out.lt; omega
      have HSI := hid (sinv9 (W := VV) (kd := 1) (li := li) (av := av) (n := n) (by omega) hla (by omega) hn (by have := HSV.out.1; omega) (by have := HSV.out.2.1; omega))
      have T := hk.blk HB.out (fun h => h)
      clear hk hb hst hx hsx HM5 HB HK5 qHB HWG5 HOW5
      have HB := hid T
      clear T
      have qHB := HB.out.k14
      go_wp2_with fail
      refine (HPK2.out _ HK6.out).mono ?_
      rintro e w7 ⟨KB, kbc, rfl, hpk, hk, hkb⟩
      rw [show v * (6 + 2 * (s : Int)) + 1 = (av : Int) from HAV.out.symm, ← HLI.out.1] at hpk
      have hok := okPokes9 (kd := 1) (li := li) (av := av) K
      have hin9 : ∀ p ∈ K.map (poke9 (av : Int) (li : Int)), 0 ≤ p.w ∧ p.w < VV.length := by
        intro p hp
        rw [List.mem_map] at hp
        obtain ⟨q, _, rfl⟩ := hp
        unfold poke9
        split
        · simp only; omega
        · simp only; omega
      have hkl : (K.map (poke9 (av : Int) (li : Int))).length = K.length := by simp
      generalize K.map (poke9 (av : Int) (li : Int)) = KK at *
      have HB7 := hid (hk.blk HB.out (fun h => h))
      have HK7 : Hid (Keep0 w w7) := hid (Keep0.step HK6.out hk)
      have hmz := HM6.out.mem.lt
      have haz := HM6.out.words.lt
      have hxz := HX6.out.lt
      have hlz := fun b (e : lv5.ownBlock = some b) => (HM6.out.log.lt b e).2
      have HNB : Hid (¬ ((w.heap.size = m ∨ w.heap.size = a ∨ w.heap.size = x ∨ lv5.ownBlock = some w.heap.size) ∨ w7.heap.size ≤ w.heap.size)) := hid (by
        have hb := HB.out.lt
        have := hk.size
        rintro ((h | h | h | h) | h)
        · exact HB.out.ne HM6.out.mem (by decide) h
        · exact HB.out.ne HM6.out.words (by decide) h
        · exact HB.out.ne HX6.out (by decide) h
        · exact ownBlock_ne HM6.out.log HB.out (by decide) h.symm
        · omega)
      have HNK := hid (fun b o (e : KB = some ⟨b, o, none⟩) (hb : b < w7.heap.size) => (show ¬ ((b = m ∨ b = a ∨ b = x ∨ lv5.ownBlock = some b) ∨ w7.heap.size ≤ b) from by
        have h0 := hkb b o e
        rintro ((h | h | h | h) | h)
        · omega
        · omega
        · omega
        · have := hlz b h; omega
        · omega))
      have HPKS := hid hpk
      have HLV := hid (fun b (e : lv5.ownBlock = some b) => (HM6.out.log.lt b e).1)
      have HFAR := hid (fun (w' : World) (hk : Keep (fun b => (b = m ∨ b = a ∨ b = x ∨ lv5.ownBlock = some b) ∨ w7.heap.size ≤ b) w7 w') => (show Keep0 w w' from by
        refine keep_far HK7.out hk ?_
        rintro b ((rfl | rfl | rfl | h) | h)
        · exact hzm'
        · exact hza'
        · exact hzx
        · exact HLV.out b h
        · exact Nat.le_trans HK7.out.size h))
      have HOK := hid (fun (p : Pk) (hp : p ∈ KK) => (⟨(hin9 p hp).1, (hin9 p hp).2, hok p hp⟩ : 0 ≤ p.w ∧ p.w < VV.length ∧ ((p.w = (sF 1 li av : Nat) ∨ p.w = (sG 1 li av : Nat)) → -1099511627776 ≤ p.x ∧ p.x ≤ 1099511627776)))
      have HOKS := hid hok
      have HE0 := hid (SExact.start HSI.out)
      have HS7 := hid (show ShSys w.heap.size m a x 1 li av v n sb 1099511627776 VV.length 0 lv5 w7.heap.size 0 w7 (sStart 1 VV) from ⟨lv5, HM6.out.same hk, fun _ h => Or.inl h, hk.blk HX6.out (fun h => h), rfl, by simp [sStart], HSI.out.more (by omega), Nat.le_refl _, hk.blk HT6.out (fun h => h)⟩)
      have HN0 : Hid (0 + sNeed (sF 1 li av) (sStart 1 VV) + 2 * remAt ((0 : Nat) : Int) KK ≤ 100) := hid (by have := sStart_need (f := sF 1 li av) 1 VV; have := remAt_le ((0 : Nat) : Int) KK; omega)
      clear hpk hk hkb hmz haz hxz hlz hok hin9 HM6 HX6 HT6 HB qHB HK6 HWG6 HOW6 HPK2 HSI
      go_wp2_with fail
      go_loopw [17] (fun v10 wr => ∃ i : Nat, i ≤ 200 ∧ v10 = .int .i64 i ∧ ∃ tt : SS, ShSys w.heap.size m a x 1 li av v n sb 1099511627776 VV.length 0 lv5 w7.heap.size i wr tt ∧ tt.st < 3 ∧ SExact 1 (sF 1 li av) (sG 1 li av) n 1099511627776 i tt ∧ tt.L.length = i ∧ i + sNeed (sF 1 li av) tt + 2 * remAt (i : Int) KK ≤ 100 ∧ Keep (fun b => (b = m ∨ b = a ∨ b = x ∨ lv5.ownBlock = some b) ∨ w7.heap.size ≤ b) w7 wr) (fun v10 _ => 200 - (intOf v10).toNat)
      case atStart => exact ⟨0, Nat.zero_le _, rfl, _, HS7.out, sStart_lt _ _, HE0.out, rfl, HN0.out, Keep.refl _ _⟩
      case round =>
        obtain ⟨i, hi, rfl, t0, hs0, h30, he0, hl0, hn0, hkr⟩ := hrel
        have HT0 := hid hs0
        have HKR := hid hkr
        have HEI := hid he0
        have HNI := hid hn0
        have HL0 := hid hl0
        have hlt : i < 200 := by omega
        have hlt2 : ((i : Int) < 200) = True := by simp; omega
        clear hs0 hkr he0 hn0 HE0 HS7 HN0 hl0
        go_wp2_with fail
        go_loopw [18] (fun v11 wi => ∃ j : Nat, j ≤ K.length ∧ v11 = .int .i64 j ∧ ShSys w.heap.size m a x 1 li av v n sb 1099511627776 VV.length 0 lv5 w7.heap.size i wi (pokeAll sPk VV.length i (KK.take j) t0) ∧ Keep (fun b => (b = m ∨ b = a ∨ b = x ∨ lv5.ownBlock = some b) ∨ w7.heap.size ≤ b) w7 wi) (fun v11 _ => K.length - (intOf v11).toNat)
        case atStart => exact ⟨0, Nat.zero_le _, rfl, HT0.out, HKR.out⟩
        case round =>
          obtain ⟨j, hj, rfl, hst, hki⟩ := hrel
          have HKI := hid hki
          clear hki
          by_cases hjl : j < K.length
          · have hjk : j < KK.length := by omega
            obtain ⟨kb, ko, rfl, hkc⟩ := HPKS.out.cell (by omega)
            have hck := hkc j hjk
            have hpok := HOK.out KK[j] (List.getElem_mem hjk)
            have hps := pokeAll_snoc sPk VV.length (i : Int) KK j hjk t0
            have HTT := hid hst
            have HPS := hid hps
            clear hst hps
            generalize KK[j] = pp at *
            obtain ⟨pa, pw, px⟩ := pp
            generalize pokeAll sPk VV.length (i : Int) (KK.take j) t0 = tt at *
            simp only at hck hpok
            have hkz := World.block_lt_of_cell? _ _ hck.1
            simp only at hkz
            have HCL := hid (fun (wx : World) (hk : Keep (fun b => (b = m ∨ b = a ∨ b = x ∨ lv5.ownBlock = some b) ∨ w7.heap.size ≤ b) w7 wx) => (⟨(cell_old hk hkz (HNK.out kb ko rfl hkz) _).trans hck.1, (cell_old hk hkz (HNK.out kb ko rfl hkz) _).trans hck.2.1, (cell_old hk hkz (HNK.out kb ko rfl hkz) _).trans hck.2.2, Nat.lt_of_lt_of_le hkz hk.size⟩ : wx.cell? ⟨kb, ko + j * 3, none⟩ = some (i64 pa) ∧ wx.cell? ⟨kb, ko + j * 3 + 1, none⟩ = some (i64 pw) ∧ wx.cell? ⟨kb, ko + j * 3 + 2, none⟩ = some (i64 px) ∧ kb < wx.heap.size))
            clear hkc hck hkz
            obtain ⟨d0, d1, d2, dz⟩ := HCL.out _ HKI.out
            by_cases hA : pa = (i : Int)
            · have g1 : (pa == (i : Int)) = true := by simpa using hA
              have HA := hid hA
              clear hA
              go_wp2_with fail
              clear d0 d1 d2 dz
              apply wp_region_text (WI := fun S wx => Keep (fun b => (b = m ∨ b = a ∨ b = x ∨ lv5.ownBlock = some b) ∨ w7.heap.size ≤ b) w7 wx ∧ (S 11 = false → ShSys w.heap.size m a x 1 li av v n sb 1099511627776 VV.length 0 lv5 w7.heap.size i wx tt) ∧ (S 11 = true → ShSys w.heap.size m a x 1 li av v n sb 1099511627776 VV.length 0 lv5 w7.heap.size i wx (sPk tt pw.toNat px))) (by kernel_rfl) (by kernel_rfl)
              case hob =>
                apply Oblig.cons
                case h =>
                  intro S w1 hwi hSi hd hcl
                  apply StepOk.intro
                  intro K hK
                  have cl := HCL.out _ hwi.1
                  obtain ⟨d0, d1, d2, dz⟩ := cl
                  go_simp
                  apply hK
                  · rfl
                  · conv => (lhs; whnf)
                  · exact hwi
                simp only [put_lit, put_none, List.set_cons_succ, List.set_cons_zero]
                apply Oblig.cons
                case h =>
                  intro S w1 hwi hSi hd hcl
                  apply StepOk.intro
                  intro K hK
                  have cl := HCL.out _ hwi.1
                  obtain ⟨d0, d1, d2, dz⟩ := cl
                  go_simp
                  apply hK
                  · rfl
                  · conv => (lhs; whnf)
                  · exact hwi
                simp only [put_lit, put_none, List.set_cons_succ, List.set_cons_zero]
                apply Oblig.cons
                case h =>
                  intro S w1 hwi hSi hd hcl
                  apply StepOk.intro
                  intro K hK
                  have cl := HCL.out _ hwi.1
                  obtain ⟨d0, d1, d2, dz⟩ := cl
                  go_simp
                  apply hK
                  · rfl
                  · conv => (lhs; whnf)
                  · exact hwi
                simp only [put_lit, put_none, List.set_cons_succ, List.set_cons_zero]
                apply Oblig.cons
                case h =>
                  intro S w1 hwi hSi hd hcl
                  apply StepOk.intro
                  intro K hK
                  have cl := HCL.out _ hwi.1
                  obtain ⟨d0, d1, d2, dz⟩ := cl
                  go_simp
                  apply hK
                  · rfl
                  · conv => (lhs; whnf)
                  · exact hwi
                simp only [put_lit, put_none, List.set_cons_succ, List.set_cons_zero]
                apply Oblig.cons
                case h =>
                  intro S w1 hwi hSi hd hcl
                  apply StepOk.intro
                  intro K hK
                  have cl := HCL.out _ hwi.1
                  obtain ⟨d0, d1, d2, dz⟩ := cl
                  go_simp
                  apply hK
                  · rfl
                  · conv => (lhs; whnf)
                  · exact hwi
                simp only [put_lit, put_none, List.set_cons_succ, List.set_cons_zero]
                apply Oblig.cons
                case h =>
                  intro S w1 hwi hSi hd hcl
                  apply StepOk.intro
                  intro K hK
                  have cl := HCL.out _ hwi.1
                  obtain ⟨d0, d1, d2, dz⟩ := cl
                  go_simp
                  apply hK
                  · rfl
                  · conv => (lhs; whnf)
                  · exact hwi
                simp only [put_lit, put_none, List.set_cons_succ, List.set_cons_zero]
                apply Oblig.cons
                case h =>
                  intro S w1 hwi hSi hd hcl
                  apply StepOk.intro
                  intro K hK
                  have cl := HCL.out _ hwi.1
                  obtain ⟨d0, d1, d2, dz⟩ := cl
                  go_simp
                  apply hK
                  · rfl
                  · conv => (lhs; whnf)
                  · exact hwi
                simp only [put_lit, put_none, List.set_cons_succ, List.set_cons_zero]
                apply Oblig.cons
                case h =>
                  intro S w1 hwi hSi hd hcl
                  apply StepOk.intro
                  intro K hK
                  have cl := HCL.out _ hwi.1
                  obtain ⟨d0, d1, d2, dz⟩ := cl
                  go_simp
                  apply hK
                  · rfl
                  · conv => (lhs; whnf)
                  · exact hwi
                simp only [put_lit, put_none, List.set_cons_succ, List.set_cons_zero]
                apply Oblig.cons
                case h =>
                  intro S w1 hwi hSi hd hcl
                  apply StepOk.intro
                  intro K hK
                  have cl := HCL.out _ hwi.1
                  obtain ⟨d0, d1, d2, dz⟩ := cl
                  go_simp
                  apply hK
                  · rfl
                  · conv => (lhs; whnf)
                  · exact hwi
                simp only [put_lit, put_none, List.set_cons_succ, List.set_cons_zero]
                apply Oblig.cons
                case h =>
                  intro S w1 hwi hSi hd hcl
                  apply StepOk.intro
                  intro K hK
                  have cl := HCL.out _ hwi.1
                  obtain ⟨d0, d1, d2, dz⟩ := cl
                  go_simp
                  apply hK
                  · rfl
                  · conv => (lhs; whnf)
                  · exact hwi
                simp only [put_lit, put_none, List.set_cons_succ, List.set_cons_zero]
                apply Oblig.cons
                case h =>
                  intro S w1 hwi hSi hd hcl
                  apply StepOk.intro
                  intro K hK
                  have cl := HCL.out _ hwi.1
                  obtain ⟨d0, d1, d2, dz⟩ := cl
                  go_simp
                  apply hK
                  · rfl
                  · conv => (lhs; whnf)
                  · exact hwi
                simp only [put_lit, put_none, List.set_cons_succ, List.set_cons_zero]
                apply Oblig.cons
                case h =>
                  intro S w1 hwi hSi hd hcl
                  apply StepOk.intro
                  intro K hK
                  have cl := HCL.out _ hwi.1
                  obtain ⟨d0, d1, d2, dz⟩ := cl
                  go_simp
                  refine ((hwi.2.1 hSi).poke pw px hpok.1 hpok.2.1 (by decide) hpok.2.2).mono ?_
                  rintro e w2 ⟨rfl, hs2, hk2⟩
                  apply hK
                  · rfl
                  · conv => (lhs; whnf)
                  · exact ⟨hwi.1.trans hk2 (fun _ _ h => h), fun h => by simp [upd] at h, fun _ => hs2⟩
                simp only [put_lit, put_none, List.set_cons_succ, List.set_cons_zero]
                exact Oblig.nil
              case h0 =>
                exact ⟨HKI.out.drew, fun _ => HTT.out.same (Keep.refl _ _).drew, fun h => by cases h⟩
              case hend =>
                intro S wx hwi hall
                have HTX := hid (hwi.2.2 (hall 11 (by decide)))
                have HKX := hid hwi.1
                clear hwi hall
                go_wp2_with fail
                go_roundw
                case rel => exact ⟨j + 1, by omega, by go_num, by rw [HPS.out, if_pos ⟨HA.out, hpok.1, hpok.2.1⟩]; exact HTX.out, HKX.out⟩
                case measure => simp [intOf]; omega
            · have g1 : (pa == (i : Int)) = false := by simpa using hA
              have HA := hid hA
              clear hA
              go_wp2_with fail
              go_roundw
              case rel => exact ⟨j + 1, by omega, by go_num, by rw [HPS.out, if_neg (fun c => HA.out c.1)]; exact HTT.out, HKI.out⟩
              case measure => simp [intOf]; omega
          · rw [List.take_of_length_le (by omega)] at hst
            have hep := HEI.out.pokes VV.length (i : Int) KK HOKS.out
            have hnp := sNeed_pokes (f := sF 1 li av) VV.length (i : Int) KK t0
            obtain ⟨W', hpe, _⟩ := sPokeAll_any VV.length (i : Int) KK t0
            have h3t : (pokeAll sPk VV.length (i : Int) KK t0).st < 3 := by rw [hpe]; exact h30
            have hlt2 : (pokeAll sPk VV.length (i : Int) KK t0).L.length = i := by rw [hpe]; exact HL0.out
            have hrs := remAt_succ (i : Int) KK
            have HTT := hid hst
            clear hst hpe
            generalize pokeAll sPk VV.length (i : Int) KK t0 = tt at *
            have hns := sNeed_step (kd := 1) (f := sF 1 li av) (g := sG 1 li av) (n := n) h3t
            have hnx := hep.next (by omega) (by omega)
            have hl8 := sNext_log (kd := 1) (f := sF 1 li av) (g := sG 1 li av) (n := n) tt h3t
            rw [hlt2] at hl8
            have HND : Hid (i + 1 + sNeed (sF 1 li av) (sNext 1 (sF 1 li av) (sG 1 li av) n tt) + 2 * remAt ((i + 1 : Nat) : Int) KK ≤ 100) := hid (by have := HNI.out; rw [show ((i + 1 : Nat) : Int) = (i : Int) + 1 from by omega]; omega)
            clear hep hnp hlt2 hrs hns
            go_wp2_with fail
            refine (HTT.out.step (by omega) (by omega) (by omega)).mono ?_
            rintro e w8 ⟨rfl, hs8, hk8⟩
            have hb8 : (sStp 1 (sF 1 li av) (sG 1 li av) n tt).2 = decide ((sNext 1 (sF 1 li av) (sG 1 li av) n tt).st = 3) := rfl
            have hs8 : ShSys w.heap.size m a x 1 li av v n sb 1099511627776 VV.length 0 lv5 w7.heap.size (i + 1) w8 (sNext 1 (sF 1 li av) (sG 1 li av) n tt) := hs8
            rw [hb8]
            generalize sNext 1 (sF 1 li av) (sG 1 li av) n tt = t8 at *
            have HT8 := hid hs8
            have HK8 := hid (HKI.out.trans hk8 (fun _ _ h => h))
            have HE8 := hid hnx
            obtain ⟨lv8, hm8, _, _, hlen8, _, hpi8, _, _⟩ := id hs8
            have HM8 := hid hm8
            have hnx8 := hpi8.nx
            have HBX := hid (HK8.out.blk HB7.out HNB.out)
            have hnev := never9 (Or.inl rfl) hnx
            have HSM := hid (fun x hx => (hnx.acc x hx).2.2.2)
            have HLL : Hid (t8.L = t8.L) := hid rfl
            generalize hLe : t8.L = LL at *
            clear HLL
            have HLL := hid hLe.symm
            clear hLe
            have HLN := hid hl8
            have HLOG := hid (fun (w' : World) (hk : Keep0 w8 w') => (show Calls Try.prog 29 #[ptr m] w' (fun e w2 => ∃ A c, e = .returned (.slice A (i + 1) c) ∧ AccsAt w2 A LL ∧ Keep0 w' w2) from by have h := mem_Log (HM8.out.same hk) (by rw [hl8]; omega); rw [hl8] at h; exact h))
            have HADP := hid (fun (w' : World) A c (h : AccsAt w' A LL) => (show Calls Try.prog 30 #[.slice A ((i + 1 : Nat) : Nat) c, i64 li] w' (Ret (i64 (addS li LL)) w') from by have h := law9_added w' A c LL li h (by omega) HSM.out; rw [hl8] at h; exact h))
            have HADQ := hid (fun (w' : World) A c (h : AccsAt w' A LL) => (show Calls Try.prog 30 #[.slice A ((i + 1 : Nat) : Nat) c, i64 av] w' (Ret (i64 (addS av LL)) w') from by have h := law9_added w' A c LL av h (by omega) HSM.out; rw [hl8] at h; exact h))
            have hgn : ¬ addS li LL < addS av LL := by omega
            generalize addS li LL = PP at *
            generalize addS av LL = QQ at *
            have yi : IntKind.i64.wrap ((i : Int) + 1) = (i : Int) + 1 := IntWalk.i64_in _ (by omega)
            clear hs8 hk8 hb8 HTT HKI HT0 HKR hl8 hm8 hpi8 hnx hnev HEI HNI HSM HM8
            go_wp2_with fail
            apply wp_region_free (WI := fun S gh wx => Keep0 w8 wx ∧ GWI (nvD (i + 1) LL) S gh wx) (by kernel_rfl) (by kernel_rfl)
            case hob =>
              apply ObligF.fixed
              case h =>
                intro S gh w1 hwi hSi hd hcl
                apply StepOk.intro
                intro K hK
                have cb := (hwi.1.blk HBX.out (fun h => h)).k14
                go_simp
                apply hK
                · rfl
                · conv => (lhs; whnf)
                · exact ⟨hwi.1, GWI.fixed hwi.2 trivial⟩
              simp only [put_lit, put_none, List.set_cons_succ, List.set_cons_zero]
              apply ObligF.free
              case h =>
                intro S gh w1 hwi hSi hd hcl
                apply StepG.intro
                intro K hK
                have cb := (hwi.1.blk HBX.out (fun h => h)).k14
                go_simp
                refine (HLOG.out _ hwi.1).mono ?_
                rintro e w2 ⟨A2, c2, rfl, hi, hk⟩
                apply hK
                · rfl
                · exact ⟨Keep0.step hwi.1 hk, GWI.free (hwi.2.keep nvD_stable hk) ⟨_, c2, rfl, hi⟩⟩
              simp only [put_lit, put_none, List.set_cons_succ, List.set_cons_zero]
              apply ObligF.fixed
              case h =>
                intro S gh w1 hwi hSi hd hcl
                apply StepOk.intro
                intro K hK
                have cb := (hwi.1.blk HBX.out (fun h => h)).k14
                obtain ⟨A1, c1, e1, hi1⟩ := hwi.2 1 (hd ⟨1, .data⟩ (by simp) rfl)
                rw [e1]
                go_simp
                apply hK
                · rfl
                · conv => (lhs; whnf)
                · exact ⟨hwi.1, GWI.fixed hwi.2 trivial⟩
              simp only [put_lit, put_none, List.set_cons_succ, List.set_cons_zero]
              apply ObligF.fixed
              case h =>
                intro S gh w1 hwi hSi hd hcl
                apply StepOk.intro
                intro K hK
                have cb := (hwi.1.blk HBX.out (fun h => h)).k14
                go_simp
                apply hK
                · rfl
                · conv => (lhs; whnf)
                · exact ⟨hwi.1, GWI.fixed hwi.2 trivial⟩
              simp only [put_lit, put_none, List.set_cons_succ, List.set_cons_zero]
              apply ObligF.fixed
              case h =>
                intro S gh w1 hwi hSi hd hcl
                apply StepOk.intro
                intro K hK
                have cb := (hwi.1.blk HBX.out (fun h => h)).k14
                go_simp
                apply hK
                · rfl
                · conv => (lhs; whnf)
                · exact ⟨hwi.1, GWI.fixed hwi.2 trivial⟩
              simp only [put_lit, put_none, List.set_cons_succ, List.set_cons_zero]
              apply ObligF.fixed
              case h =>
                intro S gh w1 hwi hSi hd hcl
                apply StepOk.intro
                intro K hK
                have cb := (hwi.1.blk HBX.out (fun h => h)).k14
                go_simp
                apply hK
                · rfl
                · conv => (lhs; whnf)
                · exact ⟨hwi.1, GWI.fixed hwi.2 trivial⟩
              simp only [put_lit, put_none, List.set_cons_succ, List.set_cons_zero]
              apply ObligF.fixed
              case h =>
                intro S gh w1 hwi hSi hd hcl
                apply StepOk.intro
                intro K hK
                have cb := (hwi.1.blk HBX.out (fun h => h)).k14
                go_simp
                apply hK
                · rfl
                · conv => (lhs; whnf)
                · exact ⟨hwi.1, GWI.fixed hwi.2 trivial⟩
              simp only [put_lit, put_none, List.set_cons_succ, List.set_cons_zero]
              apply ObligF.fixed
              case h =>
                intro S gh w1 hwi hSi hd hcl
                apply StepOk.intro
                intro K hK
                have cb := (hwi.1.blk HBX.out (fun h => h)).k14
                go_simp
                apply hK
                · rfl
                · conv => (lhs; whnf)
                · exact ⟨hwi.1, GWI.fixed hwi.2 trivial⟩
              simp only [put_lit, put_none, List.set_cons_succ, List.set_cons_zero]
              apply ObligF.free
              case h =>
                intro S gh w1 hwi hSi hd hcl
                apply StepG.intro
                intro K hK
                have cb := (hwi.1.blk HBX.out (fun h => h)).k14
                go_simp
                refine (HLOG.out _ hwi.1).mono ?_
                rintro e w2 ⟨A2, c2, rfl, hi, hk⟩
                apply hK
                · rfl
                · exact ⟨Keep0.step hwi.1 hk, GWI.free (hwi.2.keep nvD_stable hk) ⟨_, c2, rfl, hi⟩⟩
              simp only [put_lit, put_none, List.set_cons_succ, List.set_cons_zero]
              apply ObligF.fixed
              case h =>
                intro S gh w1 hwi hSi hd hcl
                apply StepOk.intro
                intro K hK
                have cb := (hwi.1.blk HBX.out (fun h => h)).k14
                go_simp
                apply hK
                · rfl
                · conv => (lhs; whnf)
                · exact ⟨hwi.1, GWI.fixed hwi.2 trivial⟩
              simp only [put_lit, put_none, List.set_cons_succ, List.set_cons_zero]
              apply ObligF.fixed
              case h =>
                intro S gh w1 hwi hSi hd hcl
                apply StepOk.intro
                intro K hK
                have cb := (hwi.1.blk HBX.out (fun h => h)).k14
                go_simp
                apply hK
                · rfl
                · conv => (lhs; whnf)
                · exact ⟨hwi.1, GWI.fixed hwi.2 trivial⟩
              simp only [put_lit, put_none, List.set_cons_succ, List.set_cons_zero]
              apply ObligF.fixed
              case h =>
                intro S gh w1 hwi hSi hd hcl
                apply StepOk.intro
                intro K hK
                have cb := (hwi.1.blk HBX.out (fun h => h)).k14
                go_simp
                apply hK
                · rfl
                · conv => (lhs; whnf)
                · exact ⟨hwi.1, GWI.fixed hwi.2 trivial⟩
              simp only [put_lit, put_none, List.set_cons_succ, List.set_cons_zero]
              apply ObligF.fixed
              case h =>
                intro S gh w1 hwi hSi hd hcl
                apply StepOk.intro
                intro K hK
                have cb := (hwi.1.blk HBX.out (fun h => h)).k14
                go_simp
                refine (show Calls Try.prog 32 #[.agg #[i64 t, i64 s, i64 g, i64 l, i64 r, i64 k, .slice PA P.length pc, .slice LA L.length lc], i64 v] w1 (Ret (i64 (av : Int)) w1) from by have h := plan_Avail t (s : Int) g l r k PA P.length pc LA L.length lc v w1 hs.1 hs.2 hv0 (by omega); rw [← HAV.out] at h; exact h).mono ?_
                rintro e w2 ⟨rfl, hk⟩
                apply hK
                · rfl
                · conv => (lhs; whnf)
                · exact ⟨Keep0.step hwi.1 hk, GWI.fixed (hwi.2.keep nvD_stable hk) trivial⟩
              simp only [put_lit, put_none, List.set_cons_succ, List.set_cons_zero]
              apply ObligF.fixed
              case h =>
                intro S gh w1 hwi hSi hd hcl
                apply StepOk.intro
                intro K hK
                obtain ⟨A1, c1, e1, hi1⟩ := hwi.2 8 (hd ⟨8, .data⟩ (by simp) rfl)
                rw [e1]
                go_simp
                refine (HADQ.out _ A1 c1 hi1).mono ?_
                rintro e w2 ⟨rfl, hk⟩
                apply hK
                · rfl
                · conv => (lhs; whnf)
                · exact ⟨Keep0.step hwi.1 hk, GWI.fixed (hwi.2.keep nvD_stable hk) trivial⟩
              simp only [put_lit, put_none, List.set_cons_succ, List.set_cons_zero]
              apply ObligF.fixed
              case h =>
                intro S gh w1 hwi hSi hd hcl
                apply StepOk.intro
                intro K hK
                have cb := (hwi.1.blk HBX.out (fun h => h)).k14
                go_simp
                apply hK
                · rfl
                · conv => (lhs; whnf)
                · exact ⟨hwi.1, GWI.fixed hwi.2 trivial⟩
              simp only [put_lit, put_none, List.set_cons_succ, List.set_cons_zero]
              apply ObligF.free
              case h =>
                intro S gh w1 hwi hSi hd hcl
                apply StepG.intro
                intro K hK
                have cb := (hwi.1.blk HBX.out (fun h => h)).k14
                go_simp
                refine (HLOG.out _ hwi.1).mono ?_
                rintro e w2 ⟨A2, c2, rfl, hi, hk⟩
                apply hK
                · rfl
                · exact ⟨Keep0.step hwi.1 hk, GWI.free (hwi.2.keep nvD_stable hk) ⟨_, c2, rfl, hi⟩⟩
              simp only [put_lit, put_none, List.set_cons_succ, List.set_cons_zero]
              apply ObligF.fixed
              case h =>
                intro S gh w1 hwi hSi hd hcl
                apply StepOk.intro
                intro K hK
                have cb := (hwi.1.blk HBX.out (fun h => h)).k14
                go_simp
                apply hK
                · rfl
                · conv => (lhs; whnf)
                · exact ⟨hwi.1, GWI.fixed hwi.2 trivial⟩
              simp only [put_lit, put_none, List.set_cons_succ, List.set_cons_zero]
              apply ObligF.fixed
              case h =>
                intro S gh w1 hwi hSi hd hcl
                apply StepOk.intro
                intro K hK
                have cb := (hwi.1.blk HBX.out (fun h => h)).k14
                go_simp
                apply hK
                · rfl
                · conv => (lhs; whnf)
                · exact ⟨hwi.1, GWI.fixed hwi.2 trivial⟩
              simp only [put_lit, put_none, List.set_cons_succ, List.set_cons_zero]
              apply ObligF.fixed
              case h =>
                intro S gh w1 hwi hSi hd hcl
                apply StepOk.intro
                intro K hK
                have cb := (hwi.1.blk HBX.out (fun h => h)).k14
                go_simp
                apply hK
                · rfl
                · conv => (lhs; whnf)
                · exact ⟨hwi.1, GWI.fixed hwi.2 trivial⟩
              simp only [put_lit, put_none, List.set_cons_succ, List.set_cons_zero]
              apply ObligF.fixed
              case h =>
                intro S gh w1 hwi hSi hd hcl
                apply StepOk.intro
                intro K hK
                have cb := (hwi.1.blk HBX.out (fun h => h)).k14
                go_simp
                refine (show Calls Try.prog 31 #[.agg #[i64 t, i64 s, i64 g, i64 l, i64 r, i64 k, .slice PA P.length pc, .slice LA L.length lc], i64 v] w1 (Ret (i64 (li : Int)) w1) from by have h := plan_Limit t (s : Int) g l r k PA P.length pc LA L.length lc v w1 hs.1 hs.2 hv0 (by omega); rw [← HLI.out.1] at h; exact h).mono ?_
                rintro e w2 ⟨rfl, hk⟩
                apply hK
                · rfl
                · conv => (lhs; whnf)
                · exact ⟨Keep0.step hwi.1 hk, GWI.fixed (hwi.2.keep nvD_stable hk) trivial⟩
              simp only [put_lit, put_none, List.set_cons_succ, List.set_cons_zero]
              apply ObligF.fixed
              case h =>
                intro S gh w1 hwi hSi hd hcl
                apply StepOk.intro
                intro K hK
                obtain ⟨A1, c1, e1, hi1⟩ := hwi.2 15 (hd ⟨15, .data⟩ (by simp) rfl)
                rw [e1]
                go_simp
                refine (HADP.out _ A1 c1 hi1).mono ?_
                rintro e w2 ⟨rfl, hk⟩
                apply hK
                · rfl
                · conv => (lhs; whnf)
                · exact ⟨Keep0.step hwi.1 hk, GWI.fixed (hwi.2.keep nvD_stable hk) trivial⟩
              simp only [put_lit, put_none, List.set_cons_succ, List.set_cons_zero]
              apply ObligF.fixed
              case h =>
                intro S gh w1 hwi hSi hd hcl
                apply StepOk.intro
                intro K hK
                have cb := (hwi.1.blk HBX.out (fun h => h)).k14
                go_simp
                apply hK
                · rfl
                · conv => (lhs; whnf)
                · exact ⟨hwi.1, GWI.fixed hwi.2 trivial⟩
              simp only [put_lit, put_none, List.set_cons_succ, List.set_cons_zero]
              apply ObligF.fixed
              case h =>
                intro S gh w1 hwi hSi hd hcl
                apply StepOk.intro
                intro K hK
                have cb := (hwi.1.blk HBX.out (fun h => h)).k14
                go_simp
                apply hK
                · rfl
                · conv => (lhs; whnf)
                · exact ⟨hwi.1, GWI.fixed hwi.2 trivial⟩
              simp only [put_lit, put_none, List.set_cons_succ, List.set_cons_zero]
              exact ObligF.nil
            case h0 =>
              exact ⟨(Keep.refl _ _).drew, GWI.start _ _ _⟩
            case hend =>
              intro S gh wx hwi hall
              have HKX := hid hwi.1
              clear hwi hall
              have HKE := hid (HK8.out.trans (HKX.out.to (S := fun b => (b = m ∨ b = a ∨ b = x ∨ lv5.ownBlock = some b) ∨ w7.heap.size ≤ b)) (fun _ _ h => h))
              by_cases h3 : t8.st = 3
              · have HKF := hid (HFAR.out _ HKE.out)
                go_wp2_with fail
                go_ret
                exact ⟨rfl, HKF.out⟩
              · go_wp2_with fail
                go_roundw
                case rel => exact ⟨i + 1, by omega, by go_num, t8, HT8.out.same HKX.out, by omega, HE8.out, by rw [← HLL.out]; exact HLN.out, by have := HND.out; omega, HKE.out⟩
                case measure => simp [intOf]; omega
end Go.Proofs.Ytonekdolmbdniaa
