/- ShiftTells: what a machine of each kind does, answers, and leaves, whatever others do, is the document's. -/
import Derived.Test.YtonekdolmbdniaaLawNineC
import Derived.Test.YtonekdolmbdniaaRefNineB
import Derived.Test.YtonekdolmbdniaaSame
namespace Go.Proofs.Ytonekdolmbdniaa
open Go.RowKit
set_option linter.unusedVariables false
set_option linter.unusedSimpArgs false
set_option maxRecDepth 100000

theorem refLog9 {B : Nat} {w : World} {m : Nat} {A : Option Addr} {c : Nat} {lv : Value} {W : List Int} {L : List Acc} (h : RefAt B w m A c lv W L) : ∃ LA LC, lv = .slice LA L.length LC ∧ AccsAt w LA L := by
  have hl := h.log
  rcases hl.2 with ⟨e, h0⟩ | ⟨g, cap, cur, e, _, _, _⟩
  · exact ⟨none, 0, by rw [e, h0], Or.inl (List.eq_nil_of_length_eq_zero h0)⟩
  · exact ⟨some ⟨g, 0, none⟩, cap, e, accs_of_row (e ▸ hl) rfl⟩
def tsD (LL : List Acc) (VV : List Int) : Nat → Value → World → Prop
  | 20 => fun u w => ∃ A c, u = .slice A LL.length c ∧ AccsAt w A LL
  | 29 => fun u w => ∃ A c, u = .slice A VV.length c ∧ IntsAt w A VV
  | _ => fun _ _ => True
theorem tsD_stable {LL : List Acc} {VV : List Int} : Stable (tsD LL VV) := by
  intro i u w w' h hk
  unfold tsD at *
  split at h
  · obtain ⟨A, c, e, h⟩ := h; exact ⟨A, c, e, h.keep hk⟩
  · obtain ⟨A, c, e, h⟩ := h; exact ⟨A, c, e, h.keep hk⟩
  · trivial
theorem rsc_start (kd : Nat) (t s g l r k : Int) (PA : Option Addr) (pn pc : Nat) (LA : Option Addr) (ln lc : Nat) (nd n : Int) (W : List Int) : rsc kd t s g l r k PA pn pc LA ln lc nd n (sStart kd W) =
    [i64 ((kd : Int) + 1), i64 t, i64 s, i64 g, i64 l, i64 r, i64 k, .slice PA pn pc, .slice LA ln lc, i64 nd, i64 n, i64 (if kd = 0 then 2 else 0), i64 0, i64 0, i64 0, .bool false, i64 0] := by
  by_cases e : kd = 0 <;> simp [rsc, sStart, aeN, anN, e]

set_option maxHeartbeats 8000000 in
theorem shiftTells_walk {w : World} {v0 : Value} (hc : PoolIn w v0) (what : Int) (hy : (Lit.int .u8 what).wf = true) (lim : Int) (hlim : (Lit.int .u32 lim).wf = true) (big : Bool) (most : Int) (hmo : (Lit.int .u8 most).wf = true) : Calls Try.prog 6 #[v0, .int .u8 what, .int .u32 lim, .bool big, .int .u8 most] w (Ret (.bool true) w) := by
  have hy := bounds_u8 hy
  have hlim := bounds_u32 hlim
  have hmo := bounds_u8 hmo
  obtain ⟨t, s, g, l, r, k, P, L, PA, pc, LA, lc, nd, nn, st, avl, Q, QA, qc, K, KA, kc, rfl, hP, hL, hp1, hl1, hnd, hnn, hst, havl, hQ, hq1, hq2, hK, hk1⟩ := hc
  have HB : Hid (Blk (w.alloc (.cells #[i64 t, i64 s, i64 g, i64 l, i64 r, i64 k, .slice PA P.length pc, .slice LA L.length lc, .int .u8 nd, .int .u32 nn, .int .u8 st, .int .u32 avl, .slice QA Q.length qc, .slice KA K.length kc] 29)) w.heap.size 29 [i64 t, i64 s, i64 g, i64 l, i64 r, i64 k, .slice PA P.length pc, .slice LA L.length lc, .int .u8 nd, .int .u32 nn, .int .u8 st, .int .u32 avl, .slice QA Q.length qc, .slice KA K.length kc]) := hid (Blk.made rfl rfl)
  have HK0 : Hid (Keep0 w (w.alloc (.cells #[i64 t, i64 s, i64 g, i64 l, i64 r, i64 k, .slice PA P.length pc, .slice LA L.length lc, .int .u8 nd, .int .u32 nn, .int .u8 st, .int .u32 avl, .slice QA Q.length qc, .slice KA K.length kc] 29))) := hid ((Keep.refl _ _).alloc _)
  have HGD := hid (fun (w' : World) (hk : Keep0 w w') => law8_Good t s g l r k PA P pc LA L lc nd nn st avl QA Q qc KA K kc w' (hP.keep hk) (hL.keep hk) hp1 hl1 hq1 hk1)
  have HWO := hid (fun (w' : World) (hk : Keep0 w w') hR hq => law8_Words t s g l r k PA P pc LA L lc nd nn st avl QA Q qc KA K kc w' (hP.keep hk) (hL.keep hk) (hQ.keep hk) hR hnd hnn hst havl hq hq2)
  have HPK := hid (fun (w' : World) (hk : Keep0 w w') hR hk40 => law9_pokes t s g l r k PA P pc LA L lc nd nn st avl QA Q qc KA K kc w' (hK.keep hk) hR hnd hnn hst hk40)
  have HIP := hid hP
  have HIL := hid hL
  clear hP hL hQ hK hq2
  go_enter Try.func6, Try.ntmps6
  go_wp2_with fail
  have qHB := HB.out.k14
  refine (law9_head _).mono ?_
  rintro e w1 ⟨rfl, hk⟩
  have HK1 : Hid (Keep0 w w1) := hid (Keep0.step HK0.out hk)
  have T := hk.blk HB.out (fun h => h)
  clear hk HB HK0 qHB
  have HB := hid T
  clear T
  have qHB := HB.out.k14
  go_wp2_with fail
  refine (HGD.out _ HK1.out).mono ?_
  rintro e w2 ⟨rfl, hk⟩
  have HK2 : Hid (Keep0 w w2) := hid (Keep0.step HK1.out hk)
  have T := hk.blk HB.out (fun h => h)
  clear hk HB HK1 qHB HGD hp1 hl1 hq1 hk1
  have HB := hid T
  clear T
  have qHB := HB.out.k14
  cases hgood : good8B t s g l r k P L Q.length K.length
  · go_wp2
    go_ret
    exact ⟨rfl, HK2.out⟩
  · simp only [good8B, Bool.and_eq_true, decide_eq_true_eq] at hgood
    obtain ⟨⟨hgood, hk40⟩, hq20⟩ := hgood
    have R := Right.of hgood
    clear hgood
    obtain ⟨s, rfl⟩ := Int.eq_ofNat_of_zero_le (show 0 ≤ s by have := R.sb; omega)
    have hs := R.sb
    have hp := R.p
    have hl := R.l
    have hkk := R.k
    have hlen := R.len
    have HOF := hid (fun (w' : World) => law8_Of t (s : Int) g l r k PA P pc LA L lc nd nn st avl QA Q qc KA K kc w' ⟨hp.1, by omega⟩ hs hnd hnn hst)
    have HWO2 := hid (fun w' hk => HWO.out w' hk R hq20)
    have HPK2 := hid (fun w' hk => HPK.out w' hk R hk40)
    clear HWO HPK
    have hv0 := Int.emod_nonneg nd (show (P.length : Int) ≠ 0 by omega)
    have hv1 := Int.emod_lt_of_pos nd (show (0 : Int) < P.length by omega)
    have hu0 := Int.emod_nonneg st (show (s : Int) ≠ 0 by omega)
    have hu1 := Int.emod_lt_of_pos st (show (0 : Int) < s by omega)
    have hn0 := Int.emod_nonneg nn (show (1048576 : Int) ≠ 0 by omega)
    have hn1 := Int.emod_lt_of_pos nn (show (0 : Int) < 1048576 by omega)
    generalize nd % (P.length : Int) = v at *
    generalize st % (s : Int) = u at *
    generalize hne : nn % 1048576 + 1 = n at *
    have hn : 1 ≤ n ∧ n ≤ 1048576 := by omega
    clear hne hn0 hn1
    have PW := poolWords R (v := v) (avl := avl) (Q := Q) ⟨hv0, hv1⟩ havl
    have hm1 := mul_bd 12 22 hv0 (by omega) (show 0 ≤ 6 + 2 * (s : Int) by omega) (by omega)
    have hm4 := mul_bd 12 22 (show (0 : Int) ≤ P.length by omega) (by omega) (show 0 ≤ 6 + 2 * (s : Int) by omega) (by omega)
    obtain ⟨av, hav⟩ := Int.eq_ofNat_of_zero_le (show 0 ≤ v * (6 + 2 * (s : Int)) + 1 by omega)
    rw [show (v * (6 + 2 * (s : Int)) + 1).toNat = av from by omega] at PW
    have hav0 : av ≤ 300 := by omega
    have HAV := hid hav.symm
    clear hav
    obtain ⟨u, rfl⟩ := Int.eq_ofNat_of_zero_le hu0
    have hus : u < s := by omega
    have hfit := PW.fit
    rw [Int.toNat_natCast] at hfit
    have hWl := PW.len
    generalize hWW : words8 (s : Int) k l L P.length v avl Q = WW at *
    clear hWW
    have HN : Hid ((P.length : Int) * (6 + 2 * (s : Int)) + 2 * k = (WW.length : Int)) := hid (by have := hkk; omega)
    have hWm : WW.length ≤ 10000 := by omega
    rw [← hWl] at hfit
    clear hWl
    obtain ⟨li, HLI⟩ : ∃ li : Nat, Hid ((li : Int) = v * (6 + 2 * (s : Int)) ∧ li + 1 = av) := ⟨(v * (6 + 2 * (s : Int))).toNat, hid (by have := HAV.out; omega)⟩
    have hla := HLI.out.2
    have hl9 := lim9_bd hlim big
    obtain ⟨VV, HVV⟩ : ∃ VV : List Int, Hid (VV = WW.set li (lim9 lim big)) := ⟨_, hid rfl⟩
    have HVL : Hid (VV.length = WW.length) := hid (by rw [HVV.out, List.length_set])
    have HSV : Hid (rd VV li = lim9 lim big ∧ rd VV av = avl ∧ ∀ i, -1099511627776 * 4 ≤ rd VV i ∧ rd VV i ≤ 1099511627776 * 4) := hid (by
      rw [HVV.out]
      refine ⟨by rw [rd_set, if_pos ⟨rfl, by omega⟩], by rw [rd_set, if_neg (by omega)]; exact PW.isav, fun i => ?_⟩
      rw [rd_set]
      split
      · omega
      · have := PW.all i; omega)
    have HR := hid R
    clear PW R hm4 hlen
    go_wp2_with fail
    have hOF := HOF.out
    refine (hOF _).mono ?_
    rintro e w3 ⟨rfl, hk⟩
    have HK3 : Hid (Keep0 w w3) := hid (Keep0.step HK2.out hk)
    have T := hk.blk HB.out (fun h => h)
    clear hk HB HK2 qHB
    have HB := hid T
    clear T
    have qHB := HB.out.k14
    go_wp2_with fail
    have HWK := hid (fun (w' : World) (hk : Keep0 w3 w') => HWO2.out w' (HK3.out.trans hk (fun _ _ h => h)))
    refine (law9_words t (s : Int) g l r k PA P.length pc LA L.length lc nd nn st avl QA Q.length qc KA K.length kc v n (u : Int) lim big li WW w3 hOF HWK.out hs ⟨hv0, by omega⟩ HLI.out.1 (by omega) hWm hlim).mono ?_
    rintro e w4 ⟨WA, Wc, rfl, how, hk⟩
    rw [← HVV.out] at how
    have HK4 : Hid (Keep0 w w4) := hid (Keep0.step HK3.out hk)
    have T := hk.blk HB.out (fun h => h)
    have hw3 := HK3.out.size
    clear hk HB HK3 qHB HWO2 HWK hOF HOF
    have HB := hid T
    clear T
    have qHB := HB.out.k14
    rw [← HVL.out] at how
    rw [← HVL.out] at HN hfit hWm
    have HWL := hid (show WW.length = VV.length from HVL.out.symm)
    obtain ⟨wg, rfl, hwg, hwge⟩ := ints_own how (by omega) rfl
    have HWG := hid hwg
    have HOW := hid how
    clear hwg how
    rw [show WW.length = VV.length from HWL.out]
    go_wp2_with fail
    refine (law8_Laid w.heap.size _ _ _ VV HWG.out.at_ hWm HK4.out.size).mono ?_
    rintro e w5 ⟨m, a, lv5, rfl, hm, hk, hzm, hza⟩
    have HM5 := hid hm
    have HK5 : Hid (Keep0 w w5) := hid (Keep0.step HK4.out hk)
    have hzm' := Nat.le_trans HK4.out.size hzm
    have hza' := Nat.le_trans HK4.out.size hza
    have HWG5 := hid (hk.ints HWG.out (fun h => h))
    have HOW5 := hid (ownsRow_keep HOW.out hk (fun _ _ h => h))
    have hwgm : wg ≠ a := by have := HWG.out.lt; omega
    have hwgm2 : wg ≠ m := by have := HWG.out.lt; omega
    have T := hk.blk HB.out (fun h => h)
    clear hk hm hzm hza HB HK4 qHB HWG HOW
    have HB := hid T
    clear T
    have qHB := HB.out.k14
    go_wp2_with fail
    have hq0 := Int.emod_nonneg what (show (3 : Int) ≠ 0 by omega)
    have hq1 := Int.emod_lt_of_pos what (show (0 : Int) < 3 by omega)
    obtain ⟨kd, hkd⟩ := Int.eq_ofNat_of_zero_le hq0
    have hk2 : kd ≤ 2 := by omega
    have ykd : what.tmod 3 = (kd : Int) := by rw [Int.tmod_eq_emod_of_nonneg hy.1]; exact hkd
    have HR6 : Hid (RefAt w.heap.size (w5.alloc (.cells #[.slice (some ⟨wg, 0, none⟩) VV.length Wc, .slice none 0 0] 61)) w5.heap.size (some ⟨wg, 0, none⟩) Wc (.slice none 0 0) VV []) := hid ⟨by have := HK5.out.size; simp; omega, HK5.out.size, Blk.made rfl rfl, (own_base HOW5.out hw3).alloc _, World.ownsRow_nil _ _ _ _⟩
    have HM6 := hid (HM5.out.same ((Keep.refl _ w5).alloc (.cells #[.slice (some ⟨wg, 0, none⟩) VV.length Wc, .slice none 0 0] 61)))
    have HB6 := hid (HB.out.alloc (.cells #[.slice (some ⟨wg, 0, none⟩) VV.length Wc, .slice none 0 0] 61))
    have HK6 := hid (HK5.out.alloc (.cells #[.slice (some ⟨wg, 0, none⟩) VV.length Wc, .slice none 0 0] 61))
    have hw56 : (w5.alloc (.cells #[.slice (some ⟨wg, 0, none⟩) VV.length Wc, .slice none 0 0] 61)).heap.size = w5.heap.size + 1 := by simp
    have hmz5 := HM5.out.mem.lt
    have haz5 := HM5.out.words.lt
    have hlz5 := fun b (e : lv5.ownBlock = some b) => (HM5.out.log.lt b e).2
    have HLZ := hid hlz5
    have hwg5 := HWG5.out.lt
    have hrm := HK5.out.size
    clear HB qHB HWG5 HOW5 HK5 HM5 hlz5
    generalize w5.alloc (.cells #[.slice (some ⟨wg, 0, none⟩) VV.length Wc, .slice none 0 0] 61) = w6 at *
    generalize w5.heap.size = rm at *
    have qHB6 := HB6.out.k14
    refine (law9_kind t (s : Int) g l r k PA P.length pc LA L.length lc v n what kd _ hy hkd hs.1 hs.2 hv0 (by omega)).mono ?_
    rintro e w7 ⟨x, sb, rfl, hb, hst, hk, hx, hsx⟩
    rw [show v * (6 + 2 * (s : Int)) + 1 = (av : Int) from HAV.out.symm, ← HLI.out.1] at hb
    have HX7 := hid (show Blk w7 x 85 (scs kd li av v n sb (sStart kd VV)) from by rw [scs_start]; exact hb)
    have HT7 := hid hst
    have HM7 := hid (HM6.out.same hk)
    have HR7 := hid (HR6.out.keep hk (fun _ _ h => h))
    have HB7 := hid (hk.blk HB6.out (fun h => h))
    have HK7 : Hid (Keep0 w w7) := hid (Keep0.step HK6.out hk)
    have hx2 := Nat.le_trans HK6.out.size hx
    have hxz7 := HX7.out.lt
    have HSI := hid (sinv9 (W := VV) (kd := kd) (li := li) (av := av) (n := n) (by omega) hla (by omega) hn (by have := HSV.out.1; omega) (by have := HSV.out.2.1; omega))
    clear hb hst hk hsx HM6 HR6 HB6 HK6 qHB6
    obtain ⟨pb, po, rfl, hpc⟩ := (HIP.out.keep HK7.out).cell (by omega)
    obtain ⟨lb, lo, rfl, hlc⟩ := (HIL.out.keep HK7.out).cell (by have := HR.out.len; omega)
    have qHB7 := HB7.out.k14
    go_wp2_with fail
    refine (law9_want t (s : Int) g l r k P L pb po lb lo pc lc v n what kd w7 hy hkd (by omega) (by have := HR.out.len; omega) hpc hlc).mono ?_
    rintro e w8 ⟨y, PA', pc', LA', lc', rfl, hb, hk, hyw⟩
    have HY8 := hid (show Blk w8 y 94 (rsc kd t (s : Int) g l r k PA' P.length pc' LA' L.length lc' v n (sStart kd VV)) from by rw [rsc_start]; exact hb)
    have HX8 := hid (hk.blk HX7.out (fun h => h))
    have HT8 := hid (hk.blk HT7.out (fun h => h))
    have HM8 := hid (HM7.out.same hk)
    have HR8 := hid (HR7.out.keep hk (fun _ _ h => h))
    have HB8 := hid (hk.blk HB7.out (fun h => h))
    have HK8 : Hid (Keep0 w w8) := hid (Keep0.step HK7.out hk)
    have hyz8 := HY8.out.lt
    clear hb hk hpc hlc HX7 HT7 HM7 HR7 HB7 HK7 qHB7 HIP HIL
    have qHB8 := HB8.out.k14
    go_wp2_with fail
    refine (HPK2.out _ HK8.out).mono ?_
    rintro e w9 ⟨KB, kbc, rfl, hpk, hk, hkb⟩
    rw [show v * (6 + 2 * (s : Int)) + 1 = (av : Int) from HAV.out.symm, ← HLI.out.1] at hpk
    have hok := okPokes9 (kd := kd) (li := li) (av := av) K
    have hkl : (K.map (poke9 (av : Int) (li : Int))).length = K.length := by simp
    have h3 := HPK2.out
    rw [show v * (6 + 2 * (s : Int)) + 1 = (av : Int) from HAV.out.symm, ← HLI.out.1] at h3
    have HPK3 := hid h3
    clear h3
    generalize K.map (poke9 (av : Int) (li : Int)) = KK at *
    have HX9 := hid (hk.blk HX8.out (fun h => h))
    have HT9 := hid (hk.blk HT8.out (fun h => h))
    have HY9 := hid (hk.blk HY8.out (fun h => h))
    have HM9 := hid (HM8.out.same hk)
    have HR9 := hid (HR8.out.keep hk (fun _ _ h => h))
    have HB9 := hid (hk.blk HB8.out (fun h => h))
    have HK9 : Hid (Keep0 w w9) := hid (Keep0.step HK8.out hk)
    have HKB := hid hkb
    have HOK := hid hok
    obtain ⟨kb, ko, hka, hkc⟩ := hpk.at9
    have hq0 : 0 ≤ most % 60 := Int.emod_nonneg _ (by omega)
    have hq1 : most % 60 < 60 := Int.emod_lt_of_pos _ (by omega)
    obtain ⟨q, hq⟩ := Int.eq_ofNat_of_zero_le hq0
    have hw89 := hk.size
    have hp := play_shift (B := w.heap.size) (w := w9) (m := m) (a := a) (x := x) (lv := lv5) (kd := kd) (li := li) (av := av) (sb := sb) (nd := v) (n := n) (X := 1099511627776) (sStart kd VV) KK KB kb ko kbc q HM9.out HX9.out HT9.out HSI.out (by simp [sStart]) (by omega) (by omega) (by omega) HOK.out (fun h => by
      obtain ⟨e, hz⟩ := hka h
      have h1 := HKB.out kb ko e
      exact ⟨e, hz, by omega, by omega, by omega, fun e2 => by have := HLZ.out kb e2; omega⟩) hkc
    have ht := sPlay_le (kd := kd) (f := sF kd li av) (g := sG kd li av) (n := n) VV.length KK q 0 (sStart kd VV)
    have hex := sPlay_exact (kd := kd) (f := sF kd li av) (g := sG kd li av) (n := n) (X := 1099511627776) VV.length KK HOK.out (by omega) (SExact.start HSI.out) q (by omega)
    rw [show (sStart kd VV).W.length = VV.length from rfl, hkl] at hp
    generalize hpf : playF (sStp kd (sF kd li av) (sG kd li av) n) sPk VV.length KK q 0 (sStart kd VV) = pf at *
    have HPF := hid hpf
    clear hpf
    obtain ⟨pt, pn, pbo⟩ := pf
    simp only at hp ht hex
    have hp' := hid hp
    clear hp hka hkc hpk hk hkb hok HX8 HT8 HY8 HM8 HR8 HB8 HK8 qHB8 HPK2
    go_wp2_with fail
    rw [hq]
    refine hp'.out.mono ?_
    rintro e w10 ⟨rfl, ⟨kk, lv10, hm, ho, hx, hl10, -⟩, hk⟩
    have hLN : pt.L.length ≤ 60 := by have := hex.cnt; omega
    have HM10 := hid hm
    have HX10 := hid hx
    have hyx : y ≠ x := by omega
    have hrx : rm ≠ x := by have := HX9.out.ne HR9.out.mem (by decide); exact fun e => this e.symm
    have HY10 := hid (hk.blk HY9.out (by
      have := HY9.out.lt
      rintro ((h | h | h | h) | h)
      · exact HY9.out.ne HM9.out.mem (by decide) h
      · exact HY9.out.ne HM9.out.words (by decide) h
      · exact hyx h
      · exact ownBlock_ne HM9.out.log HY9.out (by decide) h.symm
      · omega))
    have hb9 := HR9.out.mem.lt
    have HR10 := hid (HR9.out.keep hk (by
      have hwgl := (HR9.out.words.lt wg rfl).2
      rintro b (rfl | h | h)
      · rintro ((h | h | h | h) | h)
        · omega
        · omega
        · exact hrx h
        · exact ownBlock_ne HM9.out.log HR9.out.mem (by decide) h.symm
        · omega
      · simp only [Value.ownBlock, Option.some.injEq] at h
        subst h
        rintro ((h | h | h | h) | h)
        · omega
        · omega
        · omega
        · exact own_own_ne HR9.out.words HM9.out.log (by decide) wg rfl h
        · omega
      · simp [Value.ownBlock] at h))
    have HB10 := hid (shplay_keeps HB9.out HM9.out HX9.out (by decide) (by decide) (by decide) (by decide) hk)
    have HK10 : Hid (Keep0 w w10) := hid (play_far HM9.out hx2 hk w HK9.out (Nat.le_refl _))
    have hrm9 := HR9.out.mem.lt
    have hyz9 := HY9.out.lt
    have hw910 := hk.size
    clear hm ho hx hk HM9 HX9 HT9 HY9 HR9 HB9 HK9 hp' ht
    have qHB10 := HB10.out.k14
    go_wp2_with fail
    refine (HPK3.out _ HK10.out).mono ?_
    rintro e w11 ⟨KB2, kbc2, rfl, hpk, hk, hkb⟩
    have HX11 := hid (hk.blk HX10.out (fun h => h))
    have HY11 := hid (hk.blk HY10.out (fun h => h))
    have HM11 := hid (HM10.out.same hk)
    have HR11 := hid (HR10.out.keep hk (fun _ _ h => h))
    have HK11 : Hid (Keep0 w w11) := hid (Keep0.step HK10.out hk)
    obtain ⟨kb2, ko2, hka, hkc⟩ := hpk.at9
    have hr := play_rsh (B := w.heap.size) (w := w11) (m := rm) (y := y) (A := some ⟨wg, 0, none⟩) (ca := Wc) (lv := .slice none 0 0) (kd := kd) (li := li) (av := av) (t := t) (s := (s : Int)) (g := g) (l := l) (r := r) (k := k) (nd := v) (n := n) (X := 1099511627776) (PA := PA') (pn := P.length) (pc := pc') (LA := LA') (ln := L.length) (lc := lc') (sStart kd VV) KK KB2 kb2 ko2 kbc2 q HR11.out HY11.out HSI.out rfl (by omega) (by show VV.length ≤ _; omega) hs.1 hs.2 hv0 (by omega) HLI.out.1 HAV.out (by omega) (by omega) HOK.out (fun h => by
      obtain ⟨e, hz⟩ := hka h
      have h1 := hkb kb2 ko2 e
      exact ⟨e, hz, by omega, by omega, by simp [Value.ownBlock]⟩) hkc
    rw [show (sStart kd VV).W.length = VV.length from rfl, HPF.out, hkl] at hr
    have HRR := hid hr
    clear hr hka hkc hpk hk hkb HX10 HY10 HM10 HR10 HB10 HK10 qHB10 HPK3 HKB HOK
    go_wp2_with fail
    rw [hq]
    refine HRR.out.mono ?_
    rintro e w12 ⟨rfl, ⟨ri, RA, rc, rlv, hr, hyb, -⟩, hk⟩
    have HM := hid (HM11.out.keep hk (by
      have h1 := HM11.out.mem.lt
      have h2 := HM11.out.words.lt
      rintro b (rfl | rfl | h)
      · rintro ((h | h | h) | h)
        · omega
        · omega
        · simp [Value.ownBlock] at h
        · omega
      · rintro ((h | h | h) | h)
        · omega
        · omega
        · simp [Value.ownBlock] at h
        · omega
      · have h3 := (HM11.out.log.lt b h).2
        rintro ((h' | h' | h') | h')
        · exact ownBlock_ne HM11.out.log HR11.out.mem (by decide) (by rw [h, h'])
        · exact ownBlock_ne HM11.out.log HY11.out (by decide) (by rw [h, h'])
        · simp [Value.ownBlock] at h'
        · omega))
    have hx12 := hk.blk HX11.out (by
      have := HX11.out.lt
      rintro ((h | h | h) | h)
      · exact hrx h.symm
      · exact hyx h.symm
      · simp [Value.ownBlock] at h
      · omega)
    have HKZ : Hid (Keep0 w w12) := hid (keep_far HK11.out hk (by
      have := HK11.out.size
      have := HR11.out.bm
      rintro b ((rfl | rfl | h) | h)
      · omega
      · have := HY11.out.lt; omega
      · simp [Value.ownBlock] at h
      · omega))
    have hxa := hx12
    unfold scs shc at hxa
    have hya := hyb
    unfold rsc at hya
    generalize aeN kd pt.bad = ae at *
    generalize anN kd v pt.bad = an at *
    have HX := hid hxa
    have HY := hid hya
    have hWl : pt.W.length = VV.length := hl10
    obtain ⟨rg, rfl, hrg, -⟩ := ints_own hr.words (by omega) rfl
    obtain ⟨RLA, RLC, rfl, hla9⟩ := refLog9 hr
    have HR := hid hr
    have HRG := hid hrg
    have HLA := hid hla9
    clear hr hrg hla9 hxa hya hx12 hyb hk hl10 HM11 HX11 HR11 HY11 HK11 HRR HPF HSI hex
    generalize pt.L = LL at *
    generalize pt.W = UU at *
    generalize atN kd pt = c5 at *
    generalize pt.st = c6 at *
    generalize pt.saw = c7 at *
    obtain ⟨wz, rfl⟩ : ∃ wz : World, wz = w12 := ⟨_, rfl⟩
    have hVm : UU.length ≤ 10000 := by omega
    clear hWl
    clear hnd hnn hst havl hq20 hk40 hkk hm1 hav0 hu0 hu1 hus hWm hw3 hwge hkl hzm' hza' hwgm hwgm2 hw56 hmz5 haz5 hwg5 hrm hx2 hxz7 hyw hyz8 hq0 hq1 hq hw89 hyx hrx hb9 hrm9 hyz9 hw910 HN hfit hn hl hv1 hla hl9 HLI HAV HVV HVL HSV HWL HLZ ykd hkd hk2
    go_wp2_with fail
    as_aux_lemma =>
      apply wp_region_free (WI := fun S gh wx => Keep0 wz wx ∧ GWI (tsD LL UU) S gh wx) (by kernel_rfl) (by kernel_rfl)
      case hob =>
        apply ObligF.fixed
        case h =>
          intro S gh w1 hwi hSi hd hcl
          apply StepOk.intro
          intro K hK
          have qr := (HR.out.keep hwi.1 (fun _ _ h => h)).mem.k2
          go_simp
          apply hK
          · rfl
          · conv => (lhs; whnf)
          · exact ⟨hwi.1, GWI.fixed hwi.2 trivial⟩
        simp only [put_lit, put_none, List.set_cons_succ, List.set_cons_zero]
        apply ObligF.fixed
        case h =>
          intro S gh w1 hwi hSi hd hcl
          apply StepOk.intro
          intro K hK
          have qr := (HR.out.keep hwi.1 (fun _ _ h => h)).mem.k2
          go_simp
          apply hK
          · rfl
          · conv => (lhs; whnf)
          · exact ⟨hwi.1, GWI.fixed hwi.2 trivial⟩
        simp only [put_lit, put_none, List.set_cons_succ, List.set_cons_zero]
        apply ObligF.fixed
        case h =>
          intro S gh w1 hwi hSi hd hcl
          apply StepOk.intro
          intro K hK
          have qr := (HR.out.keep hwi.1 (fun _ _ h => h)).mem.k2
          go_simp
          apply hK
          · rfl
          · conv => (lhs; whnf)
          · exact ⟨hwi.1, GWI.fixed hwi.2 trivial⟩
        simp only [put_lit, put_none, List.set_cons_succ, List.set_cons_zero]
        apply ObligF.fixed
        case h =>
          intro S gh w1 hwi hSi hd hcl
          apply StepOk.intro
          intro K hK
          have qr := (HR.out.keep hwi.1 (fun _ _ h => h)).mem.k2
          go_simp
          apply hK
          · rfl
          · conv => (lhs; whnf)
          · exact ⟨hwi.1, GWI.fixed hwi.2 trivial⟩
        simp only [put_lit, put_none, List.set_cons_succ, List.set_cons_zero]
        apply ObligF.fixed
        case h =>
          intro S gh w1 hwi hSi hd hcl
          apply StepOk.intro
          intro K hK
          have qr := (HR.out.keep hwi.1 (fun _ _ h => h)).mem.k2
          go_simp
          apply hK
          · rfl
          · conv => (lhs; whnf)
          · exact ⟨hwi.1, GWI.fixed hwi.2 trivial⟩
        simp only [put_lit, put_none, List.set_cons_succ, List.set_cons_zero]
        apply ObligF.fixed
        case h =>
          intro S gh w1 hwi hSi hd hcl
          apply StepOk.intro
          intro K hK
          have qr := (HR.out.keep hwi.1 (fun _ _ h => h)).mem.k2
          go_simp
          apply hK
          · rfl
          · conv => (lhs; whnf)
          · exact ⟨hwi.1, GWI.fixed hwi.2 trivial⟩
        simp only [put_lit, put_none, List.set_cons_succ, List.set_cons_zero]
        apply ObligF.fixed
        case h =>
          intro S gh w1 hwi hSi hd hcl
          apply StepOk.intro
          intro K hK
          have qr := (HR.out.keep hwi.1 (fun _ _ h => h)).mem.k2
          go_simp
          apply hK
          · rfl
          · conv => (lhs; whnf)
          · exact ⟨hwi.1, GWI.fixed hwi.2 trivial⟩
        simp only [put_lit, put_none, List.set_cons_succ, List.set_cons_zero]
        apply ObligF.fixed
        case h =>
          intro S gh w1 hwi hSi hd hcl
          apply StepOk.intro
          intro K hK
          have qr := (HR.out.keep hwi.1 (fun _ _ h => h)).mem.k2
          go_simp
          apply hK
          · rfl
          · conv => (lhs; whnf)
          · exact ⟨hwi.1, GWI.fixed hwi.2 trivial⟩
        simp only [put_lit, put_none, List.set_cons_succ, List.set_cons_zero]
        apply ObligF.fixed
        case h =>
          intro S gh w1 hwi hSi hd hcl
          apply StepOk.intro
          intro K hK
          have qr := (HR.out.keep hwi.1 (fun _ _ h => h)).mem.k2
          go_simp
          apply hK
          · rfl
          · conv => (lhs; whnf)
          · exact ⟨hwi.1, GWI.fixed hwi.2 trivial⟩
        simp only [put_lit, put_none, List.set_cons_succ, List.set_cons_zero]
        apply ObligF.fixed
        case h =>
          intro S gh w1 hwi hSi hd hcl
          apply StepOk.intro
          intro K hK
          have qr := (HR.out.keep hwi.1 (fun _ _ h => h)).mem.k2
          go_simp
          apply hK
          · rfl
          · conv => (lhs; whnf)
          · exact ⟨hwi.1, GWI.fixed hwi.2 trivial⟩
        simp only [put_lit, put_none, List.set_cons_succ, List.set_cons_zero]
        apply ObligF.fixed
        case h =>
          intro S gh w1 hwi hSi hd hcl
          apply StepOk.intro
          intro K hK
          have qr := (HR.out.keep hwi.1 (fun _ _ h => h)).mem.k2
          go_simp
          apply hK
          · rfl
          · conv => (lhs; whnf)
          · exact ⟨hwi.1, GWI.fixed hwi.2 trivial⟩
        simp only [put_lit, put_none, List.set_cons_succ, List.set_cons_zero]
        apply ObligF.fixed
        case h =>
          intro S gh w1 hwi hSi hd hcl
          apply StepOk.intro
          intro K hK
          have qr := (HR.out.keep hwi.1 (fun _ _ h => h)).mem.k2
          go_simp
          apply hK
          · rfl
          · conv => (lhs; whnf)
          · exact ⟨hwi.1, GWI.fixed hwi.2 trivial⟩
        simp only [put_lit, put_none, List.set_cons_succ, List.set_cons_zero]
        apply ObligF.fixed
        case h =>
          intro S gh w1 hwi hSi hd hcl
          apply StepOk.intro
          intro K hK
          have qr := (HR.out.keep hwi.1 (fun _ _ h => h)).mem.k2
          go_simp
          apply hK
          · rfl
          · conv => (lhs; whnf)
          · exact ⟨hwi.1, GWI.fixed hwi.2 trivial⟩
        simp only [put_lit, put_none, List.set_cons_succ, List.set_cons_zero]
        apply ObligF.fixed
        case h =>
          intro S gh w1 hwi hSi hd hcl
          apply StepOk.intro
          intro K hK
          have qr := (HR.out.keep hwi.1 (fun _ _ h => h)).mem.k2
          go_simp
          refine (show Calls Try.prog 18 #[ptr x] w1 (Ret (.agg #[i64 ae, i64 0, .bool false, i64 an]) w1) from sh_ans_any (hwi.1.blk HX.out (fun h => h))).mono ?_
          rintro e w2 ⟨rfl, hk⟩
          apply hK
          · rfl
          · conv => (lhs; whnf)
          · exact ⟨Keep0.step hwi.1 hk, GWI.fixed (hwi.2.keep tsD_stable hk) trivial⟩
        simp only [put_lit, put_none, List.set_cons_succ, List.set_cons_zero]
        apply ObligF.fixed
        case h =>
          intro S gh w1 hwi hSi hd hcl
          apply StepOk.intro
          intro K hK
          have qr := (HR.out.keep hwi.1 (fun _ _ h => h)).mem.k2
          go_simp
          apply hK
          · rfl
          · conv => (lhs; whnf)
          · exact ⟨hwi.1, GWI.fixed hwi.2 trivial⟩
        simp only [put_lit, put_none, List.set_cons_succ, List.set_cons_zero]
        apply ObligF.fixed
        case h =>
          intro S gh w1 hwi hSi hd hcl
          apply StepOk.intro
          intro K hK
          have qr := (HR.out.keep hwi.1 (fun _ _ h => h)).mem.k2
          go_simp
          refine (show Calls Try.prog 27 #[ptr y] w1 (Ret (.agg #[i64 ae, i64 0, .bool false, i64 an]) w1) from rsh_ans_any (hwi.1.blk HY.out (fun h => h))).mono ?_
          rintro e w2 ⟨rfl, hk⟩
          apply hK
          · rfl
          · conv => (lhs; whnf)
          · exact ⟨Keep0.step hwi.1 hk, GWI.fixed (hwi.2.keep tsD_stable hk) trivial⟩
        simp only [put_lit, put_none, List.set_cons_succ, List.set_cons_zero]
        apply ObligF.fixed
        case h =>
          intro S gh w1 hwi hSi hd hcl
          apply StepOk.intro
          intro K hK
          have qr := (HR.out.keep hwi.1 (fun _ _ h => h)).mem.k2
          go_simp
          apply hK
          · rfl
          · conv => (lhs; whnf)
          · exact ⟨hwi.1, GWI.fixed hwi.2 trivial⟩
        simp only [put_lit, put_none, List.set_cons_succ, List.set_cons_zero]
        apply ObligF.fixed
        case h =>
          intro S gh w1 hwi hSi hd hcl
          apply StepOk.intro
          intro K hK
          have qr := (HR.out.keep hwi.1 (fun _ _ h => h)).mem.k2
          go_simp
          apply hK
          · rfl
          · conv => (lhs; whnf)
          · exact ⟨hwi.1, GWI.fixed hwi.2 trivial⟩
        simp only [put_lit, put_none, List.set_cons_succ, List.set_cons_zero]
        apply ObligF.fixed
        case h =>
          intro S gh w1 hwi hSi hd hcl
          apply StepOk.intro
          intro K hK
          have qr := (HR.out.keep hwi.1 (fun _ _ h => h)).mem.k2
          go_simp
          apply hK
          · rfl
          · conv => (lhs; whnf)
          · exact ⟨hwi.1, GWI.fixed hwi.2 trivial⟩
        simp only [put_lit, put_none, List.set_cons_succ, List.set_cons_zero]
        apply ObligF.fixed
        case h =>
          intro S gh w1 hwi hSi hd hcl
          apply StepOk.intro
          intro K hK
          have qr := (HR.out.keep hwi.1 (fun _ _ h => h)).mem.k2
          go_simp
          apply hK
          · rfl
          · conv => (lhs; whnf)
          · exact ⟨hwi.1, GWI.fixed hwi.2 trivial⟩
        simp only [put_lit, put_none, List.set_cons_succ, List.set_cons_zero]
        apply ObligF.free
        case h =>
          intro S gh w1 hwi hSi hd hcl
          apply StepG.intro
          intro K hK
          have qr := (HR.out.keep hwi.1 (fun _ _ h => h)).mem.k2
          go_simp
          refine (mem_Log (HM.out.same hwi.1) (by omega)).mono ?_
          rintro e w2 ⟨A2, c2, rfl, hi, hk⟩
          apply hK
          · rfl
          · exact ⟨Keep0.step hwi.1 hk, GWI.free (hwi.2.keep tsD_stable hk) ⟨_, c2, rfl, hi⟩⟩
        simp only [put_lit, put_none, List.set_cons_succ, List.set_cons_zero]
        apply ObligF.fixed
        case h =>
          intro S gh w1 hwi hSi hd hcl
          apply StepOk.intro
          intro K hK
          have qr := (HR.out.keep hwi.1 (fun _ _ h => h)).mem.k2
          go_simp
          apply hK
          · rfl
          · conv => (lhs; whnf)
          · exact ⟨hwi.1, GWI.fixed hwi.2 trivial⟩
        simp only [put_lit, put_none, List.set_cons_succ, List.set_cons_zero]
        apply ObligF.fixed
        case h =>
          intro S gh w1 hwi hSi hd hcl
          apply StepOk.intro
          intro K hK
          have qr := (HR.out.keep hwi.1 (fun _ _ h => h)).mem.k2
          go_simp
          apply hK
          · rfl
          · conv => (lhs; whnf)
          · exact ⟨hwi.1, GWI.fixed hwi.2 trivial⟩
        simp only [put_lit, put_none, List.set_cons_succ, List.set_cons_zero]
        apply ObligF.fixed
        case h =>
          intro S gh w1 hwi hSi hd hcl
          apply StepOk.intro
          intro K hK
          have qr := (HR.out.keep hwi.1 (fun _ _ h => h)).mem.k2
          go_simp
          apply hK
          · rfl
          · conv => (lhs; whnf)
          · exact ⟨hwi.1, GWI.fixed hwi.2 trivial⟩
        simp only [put_lit, put_none, List.set_cons_succ, List.set_cons_zero]
        apply ObligF.fixed
        case h =>
          intro S gh w1 hwi hSi hd hcl
          apply StepOk.intro
          intro K hK
          have qr := (HR.out.keep hwi.1 (fun _ _ h => h)).mem.k2
          go_simp
          apply hK
          · rfl
          · conv => (lhs; whnf)
          · exact ⟨hwi.1, GWI.fixed hwi.2 trivial⟩
        simp only [put_lit, put_none, List.set_cons_succ, List.set_cons_zero]
        apply ObligF.fixed
        case h =>
          intro S gh w1 hwi hSi hd hcl
          apply StepOk.intro
          intro K hK
          have qr := (HR.out.keep hwi.1 (fun _ _ h => h)).mem.k2
          obtain ⟨A1, c1, e1, hi1⟩ := hwi.2 20 (hd ⟨20, .data⟩ (by simp) rfl)
          rw [e1]
          go_simp
          refine (same_log A1 RLA LL c1 RLC _ hi1 (HLA.out.keep hwi.1) (by omega)).mono ?_
          rintro e w2 ⟨rfl, hk⟩
          apply hK
          · rfl
          · conv => (lhs; whnf)
          · exact ⟨Keep0.step hwi.1 hk, GWI.fixed (hwi.2.keep tsD_stable hk) trivial⟩
        simp only [put_lit, put_none, List.set_cons_succ, List.set_cons_zero]
        apply ObligF.fixed
        case h =>
          intro S gh w1 hwi hSi hd hcl
          apply StepOk.intro
          intro K hK
          have qr := (HR.out.keep hwi.1 (fun _ _ h => h)).mem.k2
          go_simp
          apply hK
          · rfl
          · conv => (lhs; whnf)
          · exact ⟨hwi.1, GWI.fixed hwi.2 trivial⟩
        simp only [put_lit, put_none, List.set_cons_succ, List.set_cons_zero]
        apply ObligF.fixed
        case h =>
          intro S gh w1 hwi hSi hd hcl
          apply StepOk.intro
          intro K hK
          have qr := (HR.out.keep hwi.1 (fun _ _ h => h)).mem.k2
          go_simp
          apply hK
          · rfl
          · conv => (lhs; whnf)
          · exact ⟨hwi.1, GWI.fixed hwi.2 trivial⟩
        simp only [put_lit, put_none, List.set_cons_succ, List.set_cons_zero]
        apply ObligF.fixed
        case h =>
          intro S gh w1 hwi hSi hd hcl
          apply StepOk.intro
          intro K hK
          have qr := (HR.out.keep hwi.1 (fun _ _ h => h)).mem.k2
          go_simp
          apply hK
          · rfl
          · conv => (lhs; whnf)
          · exact ⟨hwi.1, GWI.fixed hwi.2 trivial⟩
        simp only [put_lit, put_none, List.set_cons_succ, List.set_cons_zero]
        apply ObligF.free
        case h =>
          intro S gh w1 hwi hSi hd hcl
          apply StepG.intro
          intro K hK
          have qr := (HR.out.keep hwi.1 (fun _ _ h => h)).mem.k2
          go_simp
          refine (mem_Words (HM.out.same hwi.1) (by omega)).mono ?_
          rintro e w2 ⟨g2, c2, rfl, hi, hk, _⟩
          apply hK
          · rfl
          · exact ⟨Keep0.step hwi.1 hk, GWI.free (hwi.2.keep tsD_stable hk) ⟨_, c2, rfl, hi.at_⟩⟩
        simp only [put_lit, put_none, List.set_cons_succ, List.set_cons_zero]
        apply ObligF.fixed
        case h =>
          intro S gh w1 hwi hSi hd hcl
          apply StepOk.intro
          intro K hK
          have qr := (HR.out.keep hwi.1 (fun _ _ h => h)).mem.k2
          go_simp
          apply hK
          · rfl
          · conv => (lhs; whnf)
          · exact ⟨hwi.1, GWI.fixed hwi.2 trivial⟩
        simp only [put_lit, put_none, List.set_cons_succ, List.set_cons_zero]
        apply ObligF.fixed
        case h =>
          intro S gh w1 hwi hSi hd hcl
          apply StepOk.intro
          intro K hK
          have qr := (HR.out.keep hwi.1 (fun _ _ h => h)).mem.k2
          go_simp
          apply hK
          · rfl
          · conv => (lhs; whnf)
          · exact ⟨hwi.1, GWI.fixed hwi.2 trivial⟩
        simp only [put_lit, put_none, List.set_cons_succ, List.set_cons_zero]
        apply ObligF.fixed
        case h =>
          intro S gh w1 hwi hSi hd hcl
          apply StepOk.intro
          intro K hK
          have qr := (HR.out.keep hwi.1 (fun _ _ h => h)).mem.k2
          go_simp
          apply hK
          · rfl
          · conv => (lhs; whnf)
          · exact ⟨hwi.1, GWI.fixed hwi.2 trivial⟩
        simp only [put_lit, put_none, List.set_cons_succ, List.set_cons_zero]
        apply ObligF.fixed
        case h =>
          intro S gh w1 hwi hSi hd hcl
          apply StepOk.intro
          intro K hK
          have qr := (HR.out.keep hwi.1 (fun _ _ h => h)).mem.k2
          go_simp
          apply hK
          · rfl
          · conv => (lhs; whnf)
          · exact ⟨hwi.1, GWI.fixed hwi.2 trivial⟩
        simp only [put_lit, put_none, List.set_cons_succ, List.set_cons_zero]
        apply ObligF.fixed
        case h =>
          intro S gh w1 hwi hSi hd hcl
          apply StepOk.intro
          intro K hK
          have qr := (HR.out.keep hwi.1 (fun _ _ h => h)).mem.k2
          obtain ⟨A1, c1, e1, hi1⟩ := hwi.2 29 (hd ⟨29, .data⟩ (by simp) rfl)
          rw [e1]
          go_simp
          refine (same_ints A1 _ UU c1 rc _ hi1 ((hwi.1.ints HRG.out (fun h => h)).at_) (by omega)).mono ?_
          rintro e w2 ⟨rfl, hk⟩
          apply hK
          · rfl
          · conv => (lhs; whnf)
          · exact ⟨Keep0.step hwi.1 hk, GWI.fixed (hwi.2.keep tsD_stable hk) trivial⟩
        simp only [put_lit, put_none, List.set_cons_succ, List.set_cons_zero]
        apply ObligF.fixed
        case h =>
          intro S gh w1 hwi hSi hd hcl
          apply StepOk.intro
          intro K hK
          have qr := (HR.out.keep hwi.1 (fun _ _ h => h)).mem.k2
          go_simp
          apply hK
          · rfl
          · conv => (lhs; whnf)
          · exact ⟨hwi.1, GWI.fixed hwi.2 trivial⟩
        simp only [put_lit, put_none, List.set_cons_succ, List.set_cons_zero]
        apply ObligF.fixed
        case h =>
          intro S gh w1 hwi hSi hd hcl
          apply StepOk.intro
          intro K hK
          have qr := (HR.out.keep hwi.1 (fun _ _ h => h)).mem.k2
          go_simp
          apply hK
          · rfl
          · conv => (lhs; whnf)
          · exact ⟨hwi.1, GWI.fixed hwi.2 trivial⟩
        simp only [put_lit, put_none, List.set_cons_succ, List.set_cons_zero]
        exact ObligF.nil
      case h0 =>
        exact ⟨(Keep.refl _ _).drew, GWI.start _ _ _⟩
      case hend =>
        intro S gh wx hwi hall
        have HKX := hid hwi.1
        clear hwi hall
        go_wp2_with fail
        go_ret
        exact ⟨rfl, HKZ.out.trans HKX.out (fun _ _ h => h)⟩
end Go.Proofs.Ytonekdolmbdniaa
