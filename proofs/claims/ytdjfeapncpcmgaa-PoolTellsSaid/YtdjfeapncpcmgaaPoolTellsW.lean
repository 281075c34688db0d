/- PoolTells: what a machine does, answers, and leaves, whatever others do, and what is left of any pool, are the document's. -/
import Derived.Test.YtdjfeapncpcmgaaRefPoolS
import Derived.Test.YtdjfeapncpcmgaaPoolAloneW
import Derived.Test.YtdjfeapncpcmgaaPoolExactW
namespace Go.Proofs.Ytdjfeapncpcmgaa
open Go.RowKit
set_option linter.unusedVariables false
set_option linter.unusedSimpArgs false
set_option maxRecDepth 100000

theorem refLog {B : Nat} {w : World} {m : Nat} {A : Option Addr} {c : Nat} {lv : Value} {W : List Int} {L : List Acc} (h : RefAt B w m A c lv W L) : ∃ LA LC, lv = .slice LA L.length LC ∧ AccsAt w LA L := by
  have hl := h.log
  rcases hl.2 with ⟨e, h0⟩ | ⟨g, cap, cur, e, _, _, _⟩
  · exact ⟨none, 0, by rw [e, h0], Or.inl (List.eq_nil_of_length_eq_zero h0)⟩
  · exact ⟨some ⟨g, 0, none⟩, cap, e, accs_of_row (e ▸ hl) rfl⟩
def tpD (LL : List Acc) (VV : List Int) : Nat → Value → World → Prop
  | 20 => fun u w => ∃ A c, u = .slice A LL.length c ∧ AccsAt w A LL
  | 29 => fun u w => ∃ A c, u = .slice A VV.length c ∧ IntsAt w A VV
  | _ => fun _ _ => True
theorem tpD_stable {LL : List Acc} {VV : List Int} : Stable (tpD LL VV) := by
  intro i u w w' h hk
  unfold tpD at *
  split at h
  · obtain ⟨A, c, e, h⟩ := h; exact ⟨A, c, e, h.keep hk⟩
  · obtain ⟨A, c, e, h⟩ := h; exact ⟨A, c, e, h.keep hk⟩
  · trivial
theorem pokes_other {av le : Nat} (len : Nat) (i : Int) (K : List Pk) (hK : ∀ p ∈ K, p.w = (av : Int) ∨ p.w = (le : Int)) (j : Nat) (h1 : j ≠ av) (h2 : j ≠ le) (t : PS) : rd (pokeAll pPk len i K t).W j = rd t.W j := by
  unfold pokeAll
  induction K generalizing t with
  | nil => rfl
  | cons p K ih =>
    rw [List.foldl_cons]
    have hK2 : ∀ p ∈ K, p.w = (av : Int) ∨ p.w = (le : Int) := fun q hq => hK q (List.mem_cons_of_mem _ hq)
    have hp := hK p (by simp)
    split
    · rw [ih hK2]
      show rd (t.W.set p.w.toNat p.x) j = rd t.W j
      rw [rd_set, if_neg (by omega)]
    · exact ih hK2 t

theorem MemAt.less {B B' : Nat} {w : World} {m a : Nat} {lv : Value} {W : List Int} {L : List Acc} (h : MemAt B w m a lv W L) (hb : B' ≤ B) : MemAt B' w m a lv W L :=
  ⟨Nat.le_trans hb h.base, Nat.le_trans hb h.bm, Nat.le_trans hb h.ba, h.mem, h.words, own_base h.log hb⟩
set_option maxHeartbeats 20000000 in
theorem poolTells_walk {w : World} {v0 : Value} (hc : PoolIn w v0) (most : Int) (hy : (Lit.int .u8 most).wf = true) : Calls Try.prog 6 #[v0, .int .u8 most] w (Ret (.bool true) w) := by
  have hy := bounds_u8 hy
  obtain ⟨t, s, g, l, r, k, P, L, PA, pc, LA, lc, nd, nn, st, avl, Q, QA, qc, K, KA, kc, rfl, hP, hL, hp1, hl1, hnd, hnn, hst, havl, hQ, hq1, hq2, hK, hk1⟩ := hc
  have HB : Hid (Blk (w.alloc (.cells #[i64 t, i64 s, i64 g, i64 l, i64 r, i64 k, .slice PA P.length pc, .slice LA L.length lc, .int .u8 nd, .int .u32 nn, .int .u8 st, .int .u32 avl, .slice QA Q.length qc, .slice KA K.length kc] 45)) w.heap.size 45 [i64 t, i64 s, i64 g, i64 l, i64 r, i64 k, .slice PA P.length pc, .slice LA L.length lc, .int .u8 nd, .int .u32 nn, .int .u8 st, .int .u32 avl, .slice QA Q.length qc, .slice KA K.length kc]) := hid (Blk.made rfl rfl)
  have HK0 : Hid (Keep0 w (w.alloc (.cells #[i64 t, i64 s, i64 g, i64 l, i64 r, i64 k, .slice PA P.length pc, .slice LA L.length lc, .int .u8 nd, .int .u32 nn, .int .u8 st, .int .u32 avl, .slice QA Q.length qc, .slice KA K.length kc] 45))) := hid ((Keep.refl _ _).alloc _)
  have HGD := hid (fun (w' : World) (hk : Keep0 w w') => law8_Good t s g l r k PA P pc LA L lc nd nn st avl QA Q qc KA K kc w' (hP.keep hk) (hL.keep hk) hp1 hl1 hq1 hk1)
  have HWO := hid (fun (w' : World) (hk : Keep0 w w') hR hq => law8_Words t s g l r k PA P pc LA L lc nd nn st avl QA Q qc KA K kc w' (hP.keep hk) (hL.keep hk) (hQ.keep hk) hR hnd hnn hst havl hq hq2)
  have HPK := hid (fun (w' : World) (hk : Keep0 w w') hR hk40 => law8_Pokes t s g l r k PA P pc LA L lc nd nn st avl QA Q qc KA K kc w' (hK.keep hk) hR hnd hnn hst hk40)
  have HIP := hid hP
  have HIL := hid hL
  clear hP hL hQ hK hq2
  go_enter Try.func6, Try.ntmps6
  go_wp2_with fail
  have qHB := HB.out.k14
  refine (law8_head _).mono ?_
  rintro e w1 ⟨rfl, hk⟩
  have HK1 : Hid (Keep0 w w1) := hid (Keep0.step HK0.out hk)
  have T := hk.blk HB.out (fun h => h)
  clear hk HB HK0 qHB
  have HB := hid T
  clear T
  have qHB := HB.out.k14
  go_wp2_with fail
  refine (HGD.out _ HK1.out).mono ?_
  rintro e w2 ⟨rfl, hk⟩
  have HK2 : Hid (Keep0 w w2) := hid (Keep0.step HK1.out hk)
  have T := hk.blk HB.out (fun h => h)
  clear hk HB HK1 qHB HGD hp1 hl1 hq1 hk1
  have HB := hid T
  clear T
  have qHB := HB.out.k14
  cases hgood : good8B t s g l r k P L Q.length K.length
  · go_wp2
    go_ret
    exact ⟨rfl, HK2.out⟩
  · simp only [good8B, Bool.and_eq_true, decide_eq_true_eq] at hgood
    obtain ⟨⟨hgood, hk40⟩, hq20⟩ := hgood
    have R := Right.of hgood
    clear hgood
    obtain ⟨s, rfl⟩ := Int.eq_ofNat_of_zero_le (show 0 ≤ s by have := R.sb; omega)
    have hs := R.sb
    have hp := R.p
    have hl := R.l
    have hkk := R.k
    have hlen := R.len
    have HOF := hid (fun (w' : World) => law8_Of t (s : Int) g l r k PA P pc LA L lc nd nn st avl QA Q qc KA K kc w' ⟨hp.1, by omega⟩ hs hnd hnn hst)
    have HWO2 := hid (fun w' hk => HWO.out w' hk R hq20)
    have HPK2 := hid (fun w' hk => HPK.out w' hk R hk40)
    clear HWO HPK
    have hv0 := Int.emod_nonneg nd (show (P.length : Int) ≠ 0 by omega)
    have hv1 := Int.emod_lt_of_pos nd (show (0 : Int) < P.length by omega)
    have hu0 := Int.emod_nonneg st (show (s : Int) ≠ 0 by omega)
    have hu1 := Int.emod_lt_of_pos st (show (0 : Int) < s by omega)
    have hn0 := Int.emod_nonneg nn (show (1048576 : Int) ≠ 0 by omega)
    have hn1 := Int.emod_lt_of_pos nn (show (0 : Int) < 1048576 by omega)
    generalize nd % (P.length : Int) = v at *
    generalize st % (s : Int) = u at *
    generalize hne : nn % 1048576 + 1 = n at *
    have hn : 1 ≤ n ∧ n ≤ 1048576 := by omega
    clear hne hn0 hn1
    have PW := poolWords R (v := v) (avl := avl) (Q := Q) ⟨hv0, hv1⟩ havl
    have hm1 := mul_bd 12 22 hv0 (by omega) (show 0 ≤ 6 + 2 * (s : Int) by omega) (by omega)
    have hm4 := mul_bd 12 22 (show (0 : Int) ≤ P.length by omega) (by omega) (show 0 ≤ 6 + 2 * (s : Int) by omega) (by omega)
    obtain ⟨av, hav⟩ := Int.eq_ofNat_of_zero_le (show 0 ≤ v * (6 + 2 * (s : Int)) + 1 by omega)
    rw [show (v * (6 + 2 * (s : Int)) + 1).toNat = av from by omega] at PW
    have hav0 : av ≤ 300 := by omega
    have HAV := hid hav.symm
    clear hav
    obtain ⟨u, rfl⟩ := Int.eq_ofNat_of_zero_le hu0
    have hus : u < s := by omega
    have hfit := PW.fit
    rw [Int.toNat_natCast] at hfit
    have hWl := PW.len
    generalize hWW : words8 (s : Int) k l L P.length v avl Q = WW at *
    clear hWW
    have HN : Hid ((P.length : Int) * (6 + 2 * (s : Int)) + 2 * k = (WW.length : Int)) := hid (by have := hkk; omega)
    have hWm : WW.length ≤ 10000 := by omega
    rw [← hWl] at hfit
    clear hWl
    have hPI : PInv av (av + 1 + u) n l 4294967296 ⟨WW, [], 0, 0, 0, 0, false⟩ := PInv.start (by omega) (by omega) (by omega) hn hl (PW.lease u (by rw [Int.toNat_natCast]; exact hus)) (by rw [PW.isav]; omega)
    have HPI := hid hPI
    have HPW := hid PW
    have HR := hid R
    clear hPI PW R hm4 hlen
    go_wp2_with fail
    refine (HOF.out _).mono ?_
    rintro e w3 ⟨rfl, hk⟩
    have HK3 : Hid (Keep0 w w3) := hid (Keep0.step HK2.out hk)
    have T := hk.blk HB.out (fun h => h)
    clear hk HB HK2 qHB HOF
    have HB := hid T
    clear T
    have qHB := HB.out.k14
    go_wp2_with fail
    refine (HWO2.out _ HK3.out).mono ?_
    rintro e w4 ⟨WA, Wc, rfl, how, hk⟩
    have HK4 : Hid (Keep0 w w4) := hid (Keep0.step HK3.out hk)
    have T := hk.blk HB.out (fun h => h)
    have hw3 := HK3.out.size; clear hk HB HK3 qHB HWO2
    have HB := hid T
    clear T
    have qHB := HB.out.k14
    obtain ⟨wg, rfl, hwg, hwge⟩ := ints_own how (by omega) rfl
    have HWG := hid hwg
    have HOW := hid how
    clear hwg how
    go_wp2_with fail
    refine (HPK2.out _ HK4.out).mono ?_
    rintro e w5 ⟨KB, kbc, rfl, hpk, hk, hkb⟩
    rw [show v * (6 + 2 * (s : Int)) + 1 = (av : Int) from HAV.out.symm, show v * (6 + 2 * (s : Int)) + 2 + (u : Int) = ((av + 1 + u : Nat) : Int) from by have := HAV.out; omega] at hpk
    have hok := okPokes8 (av := av) (le := av + 1 + u) (l := l) K (by omega) hl.1
    have hpos : ∀ p ∈ K.map (poke8 (av : Int) ((av + 1 + u : Nat) : Int) l), p.w = (av : Int) ∨ p.w = ((av + 1 + u : Nat) : Int) := by
      intro p hp
      rw [List.mem_map] at hp
      obtain ⟨q, _, rfl⟩ := hp
      unfold poke8
      split
      · exact Or.inl rfl
      · exact Or.inr rfl
    have hkl : (K.map (poke8 (av : Int) ((av + 1 + u : Nat) : Int) l)).length = K.length := by simp
    generalize K.map (poke8 (av : Int) ((av + 1 + u : Nat) : Int) l) = KK at *
    have HPKS5 := hid hpk
    have HOK := hid hok
    have HPOS := hid hpos
    have HB5 := hid (hk.blk HB.out (fun h => h))
    have HWG5 := hid (hk.ints HWG.out (fun h => h))
    have HOW5 := hid (ownsRow_keep HOW.out hk (fun _ _ h => h))
    have HK5 : Hid (Keep0 w w5) := hid (Keep0.step HK4.out hk)
    have HKB := hid hkb
    clear hpk hok hpos hk hkb HB qHB HWG HOW HK4 HPK2
    have qHB5 := HB5.out.k14
    go_wp2_with fail
    refine (law8_Laid w5.heap.size _ _ _ WW HWG5.out.at_ hWm (Nat.le_refl _)).mono ?_
    rintro e w6 ⟨m, a, lv6, rfl, hm, hk, hzm, hza⟩
    have hm5 := HB5.out.lt
    have HLOG6 := hid (fun b (e : lv6.ownBlock = some b) => (hm.log.lt b e).1)
    have HM6 := hid (hm.less HK5.out.size)
    have HK6 : Hid (Keep0 w w6) := hid (Keep0.step HK5.out hk)
    have HB6 := hid (hk.blk HB5.out (fun h => h))
    have HWG6 := hid (hk.ints HWG5.out (fun h => h))
    have HOW6 := hid (ownsRow_keep HOW5.out hk (fun _ _ h => h))
    have HPKS6 := hid (HPKS5.out.keep hk)
    have hwg5 := HWG5.out.lt
    have hpkz := fun (h : 0 < KK.length) => HPKS5.out.cell h
    have HPZ := hid (fun b o (e : KB = some ⟨b, o, none⟩) (h : 0 < KK.length) => (by
      obtain ⟨b', o', e', hc⟩ := hpkz h
      rw [e] at e'
      cases e'
      exact World.block_lt_of_cell? _ _ (hc 0 h).1 : b < w5.heap.size))
    clear hk hm HB5 qHB5 HWG5 HOW5 HK5 HPKS5 hpkz
    have qHB6 := HB6.out.k14
    go_wp2_with fail
    have HR7 : Hid (RefAt w.heap.size (w6.alloc (.cells #[.slice (some ⟨wg, 0, none⟩) WW.length Wc, .slice none 0 0] 72)) w6.heap.size (some ⟨wg, 0, none⟩) Wc (.slice none 0 0) WW []) := hid ⟨by have := HK6.out.size; simp; omega, HK6.out.size, Blk.made rfl rfl, (own_base HOW6.out hw3).alloc _, World.ownsRow_nil _ _ _ _⟩
    have HM7 := hid (HM6.out.same ((Keep.refl _ w6).alloc (.cells #[.slice (some ⟨wg, 0, none⟩) WW.length Wc, .slice none 0 0] 72)))
    have HB7 := hid (HB6.out.alloc (.cells #[.slice (some ⟨wg, 0, none⟩) WW.length Wc, .slice none 0 0] 72))
    have HPKS7 := hid (HPKS6.out.keep ((Keep.refl _ w6).alloc (.cells #[.slice (some ⟨wg, 0, none⟩) WW.length Wc, .slice none 0 0] 72)))
    have HK7 := hid (HK6.out.alloc (.cells #[.slice (some ⟨wg, 0, none⟩) WW.length Wc, .slice none 0 0] 72))
    have hw67 : (w6.alloc (.cells #[.slice (some ⟨wg, 0, none⟩) WW.length Wc, .slice none 0 0] 72)).heap.size = w6.heap.size + 1 := by simp
    have hmz6 := HM6.out.mem.lt
    have haz6 := HM6.out.words.lt
    clear HB6 qHB6 HWG6 HOW6 HK6 HPKS6 HM6
    generalize w6.alloc (.cells #[.slice (some ⟨wg, 0, none⟩) WW.length Wc, .slice none 0 0] 72) = w7 at *
    generalize w6.heap.size = rm at *
    have qHB7 := HB7.out.k14
    refine (pool_New t (s : Int) g l r k PA P.length pc LA L.length lc v n (u : Int) _ hs.1 hs.2 hv0 (by omega) (by omega) (by omega)).mono ?_
    rintro e w8 ⟨x, rfl, hb, hk, hx⟩
    have hx2 := Nat.le_trans HK7.out.size hx
    rw [show v * (6 + 2 * (s : Int)) + 1 = (av : Int) from HAV.out.symm, show v * (6 + 2 * (s : Int)) + 2 + (u : Int) = ((av + 1 + u : Nat) : Int) from by have := HAV.out; omega] at hb
    have HX8 := hid (show Blk w8 x 100 (pcs av (av + 1 + u) v n l 0 ⟨WW, [], 0, 0, 0, 0, false⟩) from hb)
    have HM8 := hid (HM7.out.same hk)
    have HR8 := hid (HR7.out.keep hk (fun _ _ h => h))
    have HB8 := hid (hk.blk HB7.out (fun h => h))
    have HPKS8 := hid (HPKS7.out.keep hk)
    have HK8 : Hid (Keep0 w w8) := hid (Keep0.step HK7.out hk)
    clear hb hk HM7 HR7 HB7 HPKS7 HK7 qHB7
    have qHB8 := HB8.out.k14
    go_wp2_with fail
    obtain ⟨pb, po, rfl, hpc⟩ := (HIP.out.keep HK8.out).cell (by omega)
    obtain ⟨lb, lo, rfl, hlc⟩ := (HIL.out.keep HK8.out).cell (by have := HR.out.len; omega)
    refine (ref8_New t (s : Int) g l r k P L pb po lb lo pc lc v n (u : Int) w8 (by omega) (by have := HR.out.len; omega) hpc hlc).mono ?_
    rintro e w9 ⟨y, PA', pc', LA', lc', rfl, hb, hk, hyw⟩
    have HY9 := hid (show Blk w9 y 106 (rcs t (s : Int) g l r k PA' P.length pc' LA' L.length lc' v n (u : Int) ⟨WW, [], 0, 0, 0, 0, false⟩ 0) from hb)
    have hxz8 := HX8.out.lt
    have HX9 := hid (hk.blk HX8.out (fun h => h))
    have HM9 := hid (HM8.out.same hk)
    have HR9 := hid (HR8.out.keep hk (fun _ _ h => h))
    have HB9 := hid (hk.blk HB8.out (fun h => h))
    have HPKS9 := hid (HPKS8.out.keep hk)
    have HK9 : Hid (Keep0 w w9) := hid (Keep0.step HK8.out hk)
    clear hb hk hpc hlc HX8 HM8 HR8 HB8 HPKS8 HK8 qHB8
    have qHB9 := HB9.out.k14
    have hq0 : 0 ≤ most % 60 := Int.emod_nonneg _ (by omega)
    have hq1 : most % 60 < 60 := Int.emod_lt_of_pos _ (by omega)
    obtain ⟨q, hq⟩ := Int.eq_ofNat_of_zero_le hq0
    go_wp2_with fail
    obtain ⟨kb, ko, hka, hkc⟩ := HPKS9.out.at_
    have hp := play_pool (B := w.heap.size) (w := w9) (m := m) (a := a) (x := x) (lv := lv6) (av := av) (le := av + 1 + u) (nd := v) (n := n) (lim := l) (X := 4294967296) ⟨WW, [], 0, 0, 0, 0, false⟩ KK KB kb ko kbc q HM9.out HX9.out HPI.out (by simp) (by omega) (by omega) (by omega) HOK.out (fun h => by
      obtain ⟨e, hz⟩ := hka h
      have h1 := HPZ.out kb ko e h
      have h2 := HKB.out kb ko e
      exact ⟨e, hz, by omega, by omega, by omega, fun e2 => by have := HLOG6.out kb e2; omega⟩) hkc
    have ht := pPlay_le (av := av) (le := av + 1 + u) (n := n) (lim := l) WW.length KK q 0 ⟨WW, [], 0, 0, 0, 0, false⟩
    have hex := pPlay_exact (av := av) (le := av + 1 + u) (n := n) (lim := l) (X := 4294967296) WW.length KK HOK.out (by omega) (PExact.start HPI.out) q (by omega)
    have hoth := playF_inv (fun _ z => ∀ i, i ≠ av → i ≠ av + 1 + u → rd z.W i = rd WW i) (stp := pStp av (av + 1 + u) n l) (pk := pPk) (len := WW.length) (l := KK) (fun i z h j h1 h2 => (pokes_other (av := av) (le := av + 1 + u) WW.length i KK HPOS.out j h1 h2 z).trans (h j h1 h2)) (fun _ z h i h1 h2 => (pNext_other z i h1 h2).trans (h i h1 h2)) q 0 ⟨WW, [], 0, 0, 0, 0, false⟩ (fun _ _ _ => rfl)
    have HPF : Hid (playF (pStp av (av + 1 + u) n l) pPk WW.length KK q 0 ⟨WW, [], 0, 0, 0, 0, false⟩ = playF (pStp av (av + 1 + u) n l) pPk WW.length KK q 0 ⟨WW, [], 0, 0, 0, 0, false⟩) := hid rfl
    rw [show (PS.mk WW [] 0 0 0 0 false).W.length = WW.length from rfl, hkl] at hp
    generalize hpf : playF (pStp av (av + 1 + u) n l) pPk WW.length KK q 0 ⟨WW, [], 0, 0, 0, 0, false⟩ = pf at *
    clear HPF
    have HPF := hid hpf
    clear hpf
    obtain ⟨pt, pn, pbo⟩ := pf
    simp only at hp ht hex hoth
    refine hp.mono ?_
    rintro e w10 ⟨rfl, ⟨kk, lv10, hm, ho, hx, hl10, -⟩, hk⟩
    have hyz := HX9.out
    have HALL : Hid (∀ i, -4398046511104 ≤ rd pt.W i ∧ rd pt.W i ≤ 4398046511104) := hid (fun i => by
      have h1 := hex.inv.wa
      have h2 := hex.inv.wl
      by_cases e1 : i = av
      · subst e1; omega
      · by_cases e2 : i = av + 1 + u
        · subst e2; omega
        · rw [hoth i e1 e2]; exact HPW.out.all i)
    have hLN : pt.L.length ≤ 60 := by have := hex.cnt; omega
    have HM10 := hid hm
    have HX10 := hid hx
    have hyx : y ≠ x := by omega
    have hrx : rm ≠ x := by have := HX9.out.ne HR9.out.mem (by decide); exact fun e => this e.symm
    have HY10 := hid (hk.blk HY9.out (by
      have := HY9.out.lt
      rintro ((h | h | h | h) | h)
      · exact HY9.out.ne HM9.out.mem (by decide) h
      · exact HY9.out.ne HM9.out.words (by decide) h
      · exact hyx h
      · exact ownBlock_ne HM9.out.log HY9.out (by decide) h.symm
      · omega))
    have hb9 := HR9.out.mem.lt
    have HR10 := hid (HR9.out.keep hk (by
      have hwgl := (HR9.out.words.lt wg rfl).2
      rintro b (rfl | h | h)
      · rintro ((h | h | h | h) | h)
        · omega
        · omega
        · exact hrx h
        · exact ownBlock_ne HM9.out.log HR9.out.mem (by decide) h.symm
        · omega
      · simp only [Value.ownBlock, Option.some.injEq] at h
        subst h
        rintro ((h | h | h | h) | h)
        · omega
        · omega
        · omega
        · exact own_own_ne HR9.out.words HM9.out.log (by decide) wg rfl h
        · omega
      · simp [Value.ownBlock] at h))
    have HB10 := hid (play_keeps HB9.out HM9.out HX9.out (by decide) (by decide) (by decide) (by decide) hk)
    have HK10 : Hid (Keep0 w w10) := hid (play_far HM9.out hx2 hk w HK9.out (Nat.le_refl _))
    have hkc10 : ∀ i (hi : i < KK.length), w10.cell? ⟨kb, ko + i * 3, none⟩ = some (i64 KK[i].at_) ∧ w10.cell? ⟨kb, ko + i * 3 + 1, none⟩ = some (i64 KK[i].w) ∧ w10.cell? ⟨kb, ko + i * 3 + 2, none⟩ = some (i64 KK[i].x) := fun i hi => by
      obtain ⟨e, hz⟩ := hka (by omega)
      have h1 := HPZ.out kb ko e (by omega)
      have hn : ¬ ((kb = m ∨ kb = a ∨ kb = x ∨ lv6.ownBlock = some kb) ∨ w9.heap.size ≤ kb) := by
        rintro ((h | h | h | h) | h)
        · omega
        · omega
        · omega
        · have := HLOG6.out kb h; omega
        · omega
      obtain ⟨c1, c2, c3⟩ := hkc i hi
      exact ⟨(cell_old hk hz hn _).trans c1, (cell_old hk hz hn _).trans c2, (cell_old hk hz hn _).trans c3⟩
    have hka10 : 0 < KK.length → KB = some ⟨kb, ko, none⟩ ∧ kb < w10.heap.size ∧ kb ≠ rm ∧ kb ≠ y ∧ (Value.slice none 0 0).ownBlock ≠ some kb := fun h => by
      obtain ⟨e, hz⟩ := hka h
      have h1 := HPZ.out kb ko e h
      exact ⟨e, Nat.lt_of_lt_of_le hz hk.size, by omega, by omega, by simp [Value.ownBlock]⟩
    have hle8 : ((av + 1 + u : Nat) : Int) = v * (6 + 2 * (s : Int)) + 2 + (u : Int) := by have := HAV.out; omega
    have hr := play_rpool (B := w.heap.size) (w := w10) (m := rm) (y := y) (A := some ⟨wg, 0, none⟩) (ca := Wc) (lv := .slice none 0 0) (av := av) (le := av + 1 + u) (t := t) (s := (s : Int)) (g := g) (l := l) (r := r) (k := k) (nd := v) (n := n) (st := (u : Int)) (X := 4294967296) (PA := PA') (pn := P.length) (pc := pc') (LA := LA') (ln := L.length) (lc := lc') ⟨WW, [], 0, 0, 0, 0, false⟩ KK KB kb ko kbc q HR10.out HY10.out HPI.out rfl (by omega) (by show WW.length ≤ _; omega) hs.1 hs.2 hv0 (by omega) (by omega) (by omega) HAV.out hle8 (by omega) (by omega) HOK.out hka10 hkc10
    rw [show (PS.mk WW [] 0 0 0 0 false).W.length = WW.length from rfl, HPF.out, hkl] at hr
    have HRR := hid hr
    have hxne : ∀ (h : x = rm), False := fun h => hrx h.symm
    have HB10Y := hid (HB10.out.ne HY10.out (by decide))
    have HB10R := hid (HB10.out.ne HR10.out.mem (by decide))
    clear hp ht hex hoth hm ho hx hk hkc hkc10 hka hka10 hr HM9 HX9 HY9 HR9 HB9 HK9 qHB9 HPKS9 hyz
    have qHB10 := HB10.out.k14
    go_wp2_with fail
    rw [hq]
    refine HRR.out.mono ?_
    rintro e w11 ⟨rfl, ⟨ri, RA, rc, rlv, e1, hr, hyb, -, hra, hrl, -⟩, hk⟩
    have HM := hid (HM10.out.keep hk (by
      have h1 := HM10.out.mem.lt
      have h2 := HM10.out.words.lt
      rintro b (rfl | rfl | h)
      · rintro ((h | h | h) | h)
        · omega
        · omega
        · simp [Value.ownBlock] at h
        · omega
      · rintro ((h | h | h) | h)
        · omega
        · omega
        · simp [Value.ownBlock] at h
        · omega
      · have h3 := (HM10.out.log.lt b h).2
        rintro ((h' | h' | h') | h')
        · exact ownBlock_ne HM10.out.log HR10.out.mem (by decide) (by rw [h, h'])
        · exact ownBlock_ne HM10.out.log HY10.out (by decide) (by rw [h, h'])
        · simp [Value.ownBlock] at h'
        · omega))
    have hx11 := hk.blk HX10.out (by
      have := HX10.out.lt
      rintro ((h | h | h) | h)
      · exact hrx h.symm
      · exact hyx h.symm
      · simp [Value.ownBlock] at h
      · omega)
    have HB := hid (hk.blk HB10.out (by
      have := HB10.out.lt
      rintro ((h | h | h) | h)
      · exact HB10R.out h
      · exact HB10Y.out h
      · simp [Value.ownBlock] at h
      · omega))
    have HKZ : Hid (Keep0 w w11) := hid (keep_far HK10.out hk (by
      have := HK10.out.size
      have := HR10.out.bm
      rintro b ((rfl | rfl | h) | h)
      · omega
      · have := HY10.out.lt; omega
      · simp [Value.ownBlock] at h
      · omega))
    obtain ⟨ae, an, hxa, hya⟩ : ∃ ae an : Int, Blk w11 x 100 [i64 av, i64 ((av + 1 + u : Nat) : Int), i64 v, i64 n, i64 l, i64 pt.next, i64 pt.had, i64 pt.saw, i64 pt.extra, i64 ae, i64 0, .bool false, i64 an] ∧
        Blk w11 y 106 [i64 t, i64 (s : Int), i64 g, i64 l, i64 r, i64 k, .slice PA' P.length pc', .slice LA' L.length lc', i64 v, i64 n, i64 u, i64 (if pt.next = 7 then 9 else (pt.next : Int)), i64 pt.had, i64 pt.saw, i64 e1, i64 ae, i64 0, .bool false, i64 an] := ⟨_, _, hx11, hyb⟩
    have HX := hid hxa
    have HY := hid hya
    have hWl : pt.W.length = WW.length := hl10
    obtain ⟨rg, rfl, hrg, -⟩ := ints_own hr.words (by omega) rfl
    obtain ⟨RLA, RLC, rfl, hla⟩ := refLog hr
    have HR := hid hr
    have HRG := hid hrg
    have HLA := hid hla
    clear hr hrg hla hxa hya hx11 hyb hra hrl hk hl10 HM10 HX10 HR10 HY10 HB10 HK10 HRR HPF HB10R HB10Y qHB10 HPI HPW HIP HIL HOK HPOS HPZ HKB HLOG6
    generalize pt.L = LL at *
    generalize pt.W = VV at *
    generalize pt.next = c5 at *
    generalize pt.had = c6 at *
    generalize pt.saw = c7 at *
    generalize pt.extra = c8 at *
    obtain ⟨wz, rfl⟩ : ∃ wz : World, wz = w11 := ⟨_, rfl⟩
    have hVm : VV.length ≤ 10000 := by omega
    have hVf : av + 1 + s < VV.length := by omega
    clear hWl
    have hv9 : v ≤ 1000 := by omega
    have hpn : P.length ≤ 12 := hp.2
    clear hy hnd hnn hst havl hq20 hk40 hkk hm1 hav0 hu0 hu1 hWm hw3 hwge hkl hzm hza hm5 hwg5 hmz6 haz6 hw67 hx2 hyw hxz8 hq0 hq1 hq hyx hrx hb9 hle8 hxne HN hfit hus hn hl hv1 hp
    go_wp2_with fail
    as_aux_lemma =>
      apply wp_region_free (WI := fun S gh wx => Keep0 wz wx ∧ GWI (tpD LL VV) S gh wx) (by kernel_rfl) (by kernel_rfl)
      case hob =>
        apply ObligF.fixed
        case h =>
          intro S gh w1 hwi hSi hd hcl
          apply StepOk.intro
          intro K hK
          have qr := (HR.out.keep hwi.1 (fun _ _ h => h)).mem.k2
          have qb := (hwi.1.blk HB.out (fun h => h)).k14
          go_simp
          apply hK
          · rfl
          · conv => (lhs; whnf)
          · exact ⟨hwi.1, GWI.fixed hwi.2 trivial⟩
        simp only [put_lit, put_none, List.set_cons_succ, List.set_cons_zero]
        apply ObligF.fixed
        case h =>
          intro S gh w1 hwi hSi hd hcl
          apply StepOk.intro
          intro K hK
          have qr := (HR.out.keep hwi.1 (fun _ _ h => h)).mem.k2
          have qb := (hwi.1.blk HB.out (fun h => h)).k14
          go_simp
          apply hK
          · rfl
          · conv => (lhs; whnf)
          · exact ⟨hwi.1, GWI.fixed hwi.2 trivial⟩
        simp only [put_lit, put_none, List.set_cons_succ, List.set_cons_zero]
        apply ObligF.fixed
        case h =>
          intro S gh w1 hwi hSi hd hcl
          apply StepOk.intro
          intro K hK
          have qr := (HR.out.keep hwi.1 (fun _ _ h => h)).mem.k2
          have qb := (hwi.1.blk HB.out (fun h => h)).k14
          go_simp
          apply hK
          · rfl
          · conv => (lhs; whnf)
          · exact ⟨hwi.1, GWI.fixed hwi.2 trivial⟩
        simp only [put_lit, put_none, List.set_cons_succ, List.set_cons_zero]
        apply ObligF.fixed
        case h =>
          intro S gh w1 hwi hSi hd hcl
          apply StepOk.intro
          intro K hK
          have qr := (HR.out.keep hwi.1 (fun _ _ h => h)).mem.k2
          have qb := (hwi.1.blk HB.out (fun h => h)).k14
          go_simp
          apply hK
          · rfl
          · conv => (lhs; whnf)
          · exact ⟨hwi.1, GWI.fixed hwi.2 trivial⟩
        simp only [put_lit, put_none, List.set_cons_succ, List.set_cons_zero]
        apply ObligF.fixed
        case h =>
          intro S gh w1 hwi hSi hd hcl
          apply StepOk.intro
          intro K hK
          have qr := (HR.out.keep hwi.1 (fun _ _ h => h)).mem.k2
          have qb := (hwi.1.blk HB.out (fun h => h)).k14
          go_simp
          apply hK
          · rfl
          · conv => (lhs; whnf)
          · exact ⟨hwi.1, GWI.fixed hwi.2 trivial⟩
        simp only [put_lit, put_none, List.set_cons_succ, List.set_cons_zero]
        apply ObligF.fixed
        case h =>
          intro S gh w1 hwi hSi hd hcl
          apply StepOk.intro
          intro K hK
          have qr := (HR.out.keep hwi.1 (fun _ _ h => h)).mem.k2
          have qb := (hwi.1.blk HB.out (fun h => h)).k14
          go_simp
          apply hK
          · rfl
          · conv => (lhs; whnf)
          · exact ⟨hwi.1, GWI.fixed hwi.2 trivial⟩
        simp only [put_lit, put_none, List.set_cons_succ, List.set_cons_zero]
        apply ObligF.fixed
        case h =>
          intro S gh w1 hwi hSi hd hcl
          apply StepOk.intro
          intro K hK
          have qr := (HR.out.keep hwi.1 (fun _ _ h => h)).mem.k2
          have qb := (hwi.1.blk HB.out (fun h => h)).k14
          go_simp
          apply hK
          · rfl
          · conv => (lhs; whnf)
          · exact ⟨hwi.1, GWI.fixed hwi.2 trivial⟩
        simp only [put_lit, put_none, List.set_cons_succ, List.set_cons_zero]
        apply ObligF.fixed
        case h =>
          intro S gh w1 hwi hSi hd hcl
          apply StepOk.intro
          intro K hK
          have qr := (HR.out.keep hwi.1 (fun _ _ h => h)).mem.k2
          have qb := (hwi.1.blk HB.out (fun h => h)).k14
          go_simp
          apply hK
          · rfl
          · conv => (lhs; whnf)
          · exact ⟨hwi.1, GWI.fixed hwi.2 trivial⟩
        simp only [put_lit, put_none, List.set_cons_succ, List.set_cons_zero]
        apply ObligF.fixed
        case h =>
          intro S gh w1 hwi hSi hd hcl
          apply StepOk.intro
          intro K hK
          have qr := (HR.out.keep hwi.1 (fun _ _ h => h)).mem.k2
          have qb := (hwi.1.blk HB.out (fun h => h)).k14
          go_simp
          apply hK
          · rfl
          · conv => (lhs; whnf)
          · exact ⟨hwi.1, GWI.fixed hwi.2 trivial⟩
        simp only [put_lit, put_none, List.set_cons_succ, List.set_cons_zero]
        apply ObligF.fixed
        case h =>
          intro S gh w1 hwi hSi hd hcl
          apply StepOk.intro
          intro K hK
          have qr := (HR.out.keep hwi.1 (fun _ _ h => h)).mem.k2
          have qb := (hwi.1.blk HB.out (fun h => h)).k14
          go_simp
          apply hK
          · rfl
          · conv => (lhs; whnf)
          · exact ⟨hwi.1, GWI.fixed hwi.2 trivial⟩
        simp only [put_lit, put_none, List.set_cons_succ, List.set_cons_zero]
        apply ObligF.fixed
        case h =>
          intro S gh w1 hwi hSi hd hcl
          apply StepOk.intro
          intro K hK
          have qr := (HR.out.keep hwi.1 (fun _ _ h => h)).mem.k2
          have qb := (hwi.1.blk HB.out (fun h => h)).k14
          go_simp
          apply hK
          · rfl
          · conv => (lhs; whnf)
          · exact ⟨hwi.1, GWI.fixed hwi.2 trivial⟩
        simp only [put_lit, put_none, List.set_cons_succ, List.set_cons_zero]
        apply ObligF.fixed
        case h =>
          intro S gh w1 hwi hSi hd hcl
          apply StepOk.intro
          intro K hK
          have qr := (HR.out.keep hwi.1 (fun _ _ h => h)).mem.k2
          have qb := (hwi.1.blk HB.out (fun h => h)).k14
          go_simp
          apply hK
          · rfl
          · conv => (lhs; whnf)
          · exact ⟨hwi.1, GWI.fixed hwi.2 trivial⟩
        simp only [put_lit, put_none, List.set_cons_succ, List.set_cons_zero]
        apply ObligF.fixed
        case h =>
          intro S gh w1 hwi hSi hd hcl
          apply StepOk.intro
          intro K hK
          have qr := (HR.out.keep hwi.1 (fun _ _ h => h)).mem.k2
          have qb := (hwi.1.blk HB.out (fun h => h)).k14
          go_simp
          apply hK
          · rfl
          · conv => (lhs; whnf)
          · exact ⟨hwi.1, GWI.fixed hwi.2 trivial⟩
        simp only [put_lit, put_none, List.set_cons_succ, List.set_cons_zero]
        apply ObligF.fixed
        case h =>
          intro S gh w1 hwi hSi hd hcl
          apply StepOk.intro
          intro K hK
          have qr := (HR.out.keep hwi.1 (fun _ _ h => h)).mem.k2
          have qb := (hwi.1.blk HB.out (fun h => h)).k14
          go_simp
          refine (show Calls Try.prog 27 #[ptr x] w1 (Ret (.agg #[i64 ae, i64 0, .bool false, i64 an]) w1) from ans_any (hwi.1.blk HX.out (fun h => h))).mono ?_
          rintro e w2 ⟨rfl, hk⟩
          apply hK
          · rfl
          · conv => (lhs; whnf)
          · exact ⟨Keep0.step hwi.1 hk, GWI.fixed (hwi.2.keep tpD_stable hk) trivial⟩
        simp only [put_lit, put_none, List.set_cons_succ, List.set_cons_zero]
        apply ObligF.fixed
        case h =>
          intro S gh w1 hwi hSi hd hcl
          apply StepOk.intro
          intro K hK
          have qr := (HR.out.keep hwi.1 (fun _ _ h => h)).mem.k2
          have qb := (hwi.1.blk HB.out (fun h => h)).k14
          go_simp
          apply hK
          · rfl
          · conv => (lhs; whnf)
          · exact ⟨hwi.1, GWI.fixed hwi.2 trivial⟩
        simp only [put_lit, put_none, List.set_cons_succ, List.set_cons_zero]
        apply ObligF.fixed
        case h =>
          intro S gh w1 hwi hSi hd hcl
          apply StepOk.intro
          intro K hK
          have qr := (HR.out.keep hwi.1 (fun _ _ h => h)).mem.k2
          have qb := (hwi.1.blk HB.out (fun h => h)).k14
          go_simp
          refine (show Calls Try.prog 33 #[ptr y] w1 (Ret (.agg #[i64 ae, i64 0, .bool false, i64 an]) w1) from rans_any (hwi.1.blk HY.out (fun h => h))).mono ?_
          rintro e w2 ⟨rfl, hk⟩
          apply hK
          · rfl
          · conv => (lhs; whnf)
          · exact ⟨Keep0.step hwi.1 hk, GWI.fixed (hwi.2.keep tpD_stable hk) trivial⟩
        simp only [put_lit, put_none, List.set_cons_succ, List.set_cons_zero]
        apply ObligF.fixed
        case h =>
          intro S gh w1 hwi hSi hd hcl
          apply StepOk.intro
          intro K hK
          have qr := (HR.out.keep hwi.1 (fun _ _ h => h)).mem.k2
          have qb := (hwi.1.blk HB.out (fun h => h)).k14
          go_simp
          apply hK
          · rfl
          · conv => (lhs; whnf)
          · exact ⟨hwi.1, GWI.fixed hwi.2 trivial⟩
        simp only [put_lit, put_none, List.set_cons_succ, List.set_cons_zero]
        apply ObligF.fixed
        case h =>
          intro S gh w1 hwi hSi hd hcl
          apply StepOk.intro
          intro K hK
          have qr := (HR.out.keep hwi.1 (fun _ _ h => h)).mem.k2
          have qb := (hwi.1.blk HB.out (fun h => h)).k14
          go_simp
          apply hK
          · rfl
          · conv => (lhs; whnf)
          · exact ⟨hwi.1, GWI.fixed hwi.2 trivial⟩
        simp only [put_lit, put_none, List.set_cons_succ, List.set_cons_zero]
        apply ObligF.fixed
        case h =>
          intro S gh w1 hwi hSi hd hcl
          apply StepOk.intro
          intro K hK
          have qr := (HR.out.keep hwi.1 (fun _ _ h => h)).mem.k2
          have qb := (hwi.1.blk HB.out (fun h => h)).k14
          go_simp
          apply hK
          · rfl
          · conv => (lhs; whnf)
          · exact ⟨hwi.1, GWI.fixed hwi.2 trivial⟩
        simp only [put_lit, put_none, List.set_cons_succ, List.set_cons_zero]
        apply ObligF.fixed
        case h =>
          intro S gh w1 hwi hSi hd hcl
          apply StepOk.intro
          intro K hK
          have qr := (HR.out.keep hwi.1 (fun _ _ h => h)).mem.k2
          have qb := (hwi.1.blk HB.out (fun h => h)).k14
          go_simp
          apply hK
          · rfl
          · conv => (lhs; whnf)
          · exact ⟨hwi.1, GWI.fixed hwi.2 trivial⟩
        simp only [put_lit, put_none, List.set_cons_succ, List.set_cons_zero]
        apply ObligF.free
        case h =>
          intro S gh w1 hwi hSi hd hcl
          apply StepG.intro
          intro K hK
          have qr := (HR.out.keep hwi.1 (fun _ _ h => h)).mem.k2
          have qb := (hwi.1.blk HB.out (fun h => h)).k14
          go_simp
          refine (mem_Log (HM.out.same hwi.1) (by omega)).mono ?_
          rintro e w2 ⟨A2, c2, rfl, hi, hk⟩
          apply hK
          · rfl
          · exact ⟨Keep0.step hwi.1 hk, GWI.free (hwi.2.keep tpD_stable hk) ⟨_, c2, rfl, hi⟩⟩
        simp only [put_lit, put_none, List.set_cons_succ, List.set_cons_zero]
        apply ObligF.fixed
        case h =>
          intro S gh w1 hwi hSi hd hcl
          apply StepOk.intro
          intro K hK
          have qr := (HR.out.keep hwi.1 (fun _ _ h => h)).mem.k2
          have qb := (hwi.1.blk HB.out (fun h => h)).k14
          go_simp
          apply hK
          · rfl
          · conv => (lhs; whnf)
          · exact ⟨hwi.1, GWI.fixed hwi.2 trivial⟩
        simp only [put_lit, put_none, List.set_cons_succ, List.set_cons_zero]
        apply ObligF.fixed
        case h =>
          intro S gh w1 hwi hSi hd hcl
          apply StepOk.intro
          intro K hK
          have qr := (HR.out.keep hwi.1 (fun _ _ h => h)).mem.k2
          have qb := (hwi.1.blk HB.out (fun h => h)).k14
          go_simp
          apply hK
          · rfl
          · conv => (lhs; whnf)
          · exact ⟨hwi.1, GWI.fixed hwi.2 trivial⟩
        simp only [put_lit, put_none, List.set_cons_succ, List.set_cons_zero]
        apply ObligF.fixed
        case h =>
          intro S gh w1 hwi hSi hd hcl
          apply StepOk.intro
          intro K hK
          have qr := (HR.out.keep hwi.1 (fun _ _ h => h)).mem.k2
          have qb := (hwi.1.blk HB.out (fun h => h)).k14
          go_simp
          apply hK
          · rfl
          · conv => (lhs; whnf)
          · exact ⟨hwi.1, GWI.fixed hwi.2 trivial⟩
        simp only [put_lit, put_none, List.set_cons_succ, List.set_cons_zero]
        apply ObligF.fixed
        case h =>
          intro S gh w1 hwi hSi hd hcl
          apply StepOk.intro
          intro K hK
          have qr := (HR.out.keep hwi.1 (fun _ _ h => h)).mem.k2
          have qb := (hwi.1.blk HB.out (fun h => h)).k14
          go_simp
          apply hK
          · rfl
          · conv => (lhs; whnf)
          · exact ⟨hwi.1, GWI.fixed hwi.2 trivial⟩
        simp only [put_lit, put_none, List.set_cons_succ, List.set_cons_zero]
        apply ObligF.fixed
        case h =>
          intro S gh w1 hwi hSi hd hcl
          apply StepOk.intro
          intro K hK
          have qr := (HR.out.keep hwi.1 (fun _ _ h => h)).mem.k2
          have qb := (hwi.1.blk HB.out (fun h => h)).k14
          obtain ⟨A1, c1, e1, hi1⟩ := hwi.2 20 (hd ⟨20, .data⟩ (by simp) rfl)
          rw [e1]
          go_simp
          refine (same_log A1 RLA LL c1 RLC _ hi1 (HLA.out.keep hwi.1) (by omega)).mono ?_
          rintro e w2 ⟨rfl, hk⟩
          apply hK
          · rfl
          · conv => (lhs; whnf)
          · exact ⟨Keep0.step hwi.1 hk, GWI.fixed (hwi.2.keep tpD_stable hk) trivial⟩
        simp only [put_lit, put_none, List.set_cons_succ, List.set_cons_zero]
        apply ObligF.fixed
        case h =>
          intro S gh w1 hwi hSi hd hcl
          apply StepOk.intro
          intro K hK
          have qr := (HR.out.keep hwi.1 (fun _ _ h => h)).mem.k2
          have qb := (hwi.1.blk HB.out (fun h => h)).k14
          go_simp
          apply hK
          · rfl
          · conv => (lhs; whnf)
          · exact ⟨hwi.1, GWI.fixed hwi.2 trivial⟩
        simp only [put_lit, put_none, List.set_cons_succ, List.set_cons_zero]
        apply ObligF.fixed
        case h =>
          intro S gh w1 hwi hSi hd hcl
          apply StepOk.intro
          intro K hK
          have qr := (HR.out.keep hwi.1 (fun _ _ h => h)).mem.k2
          have qb := (hwi.1.blk HB.out (fun h => h)).k14
          go_simp
          apply hK
          · rfl
          · conv => (lhs; whnf)
          · exact ⟨hwi.1, GWI.fixed hwi.2 trivial⟩
        simp only [put_lit, put_none, List.set_cons_succ, List.set_cons_zero]
        apply ObligF.fixed
        case h =>
          intro S gh w1 hwi hSi hd hcl
          apply StepOk.intro
          intro K hK
          have qr := (HR.out.keep hwi.1 (fun _ _ h => h)).mem.k2
          have qb := (hwi.1.blk HB.out (fun h => h)).k14
          go_simp
          apply hK
          · rfl
          · conv => (lhs; whnf)
          · exact ⟨hwi.1, GWI.fixed hwi.2 trivial⟩
        simp only [put_lit, put_none, List.set_cons_succ, List.set_cons_zero]
        apply ObligF.free
        case h =>
          intro S gh w1 hwi hSi hd hcl
          apply StepG.intro
          intro K hK
          have qr := (HR.out.keep hwi.1 (fun _ _ h => h)).mem.k2
          have qb := (hwi.1.blk HB.out (fun h => h)).k14
          go_simp
          refine (mem_Words (HM.out.same hwi.1) (by omega)).mono ?_
          rintro e w2 ⟨g2, c2, rfl, hi, hk, _⟩
          apply hK
          · rfl
          · exact ⟨Keep0.step hwi.1 hk, GWI.free (hwi.2.keep tpD_stable hk) ⟨_, c2, rfl, hi.at_⟩⟩
        simp only [put_lit, put_none, List.set_cons_succ, List.set_cons_zero]
        apply ObligF.fixed
        case h =>
          intro S gh w1 hwi hSi hd hcl
          apply StepOk.intro
          intro K hK
          have qr := (HR.out.keep hwi.1 (fun _ _ h => h)).mem.k2
          have qb := (hwi.1.blk HB.out (fun h => h)).k14
          go_simp
          apply hK
          · rfl
          · conv => (lhs; whnf)
          · exact ⟨hwi.1, GWI.fixed hwi.2 trivial⟩
        simp only [put_lit, put_none, List.set_cons_succ, List.set_cons_zero]
        apply ObligF.fixed
        case h =>
          intro S gh w1 hwi hSi hd hcl
          apply StepOk.intro
          intro K hK
          have qr := (HR.out.keep hwi.1 (fun _ _ h => h)).mem.k2
          have qb := (hwi.1.blk HB.out (fun h => h)).k14
          go_simp
          apply hK
          · rfl
          · conv => (lhs; whnf)
          · exact ⟨hwi.1, GWI.fixed hwi.2 trivial⟩
        simp only [put_lit, put_none, List.set_cons_succ, List.set_cons_zero]
        apply ObligF.fixed
        case h =>
          intro S gh w1 hwi hSi hd hcl
          apply StepOk.intro
          intro K hK
          have qr := (HR.out.keep hwi.1 (fun _ _ h => h)).mem.k2
          have qb := (hwi.1.blk HB.out (fun h => h)).k14
          go_simp
          apply hK
          · rfl
          · conv => (lhs; whnf)
          · exact ⟨hwi.1, GWI.fixed hwi.2 trivial⟩
        simp only [put_lit, put_none, List.set_cons_succ, List.set_cons_zero]
        apply ObligF.fixed
        case h =>
          intro S gh w1 hwi hSi hd hcl
          apply StepOk.intro
          intro K hK
          have qr := (HR.out.keep hwi.1 (fun _ _ h => h)).mem.k2
          have qb := (hwi.1.blk HB.out (fun h => h)).k14
          go_simp
          apply hK
          · rfl
          · conv => (lhs; whnf)
          · exact ⟨hwi.1, GWI.fixed hwi.2 trivial⟩
        simp only [put_lit, put_none, List.set_cons_succ, List.set_cons_zero]
        apply ObligF.fixed
        case h =>
          intro S gh w1 hwi hSi hd hcl
          apply StepOk.intro
          intro K hK
          have qr := (HR.out.keep hwi.1 (fun _ _ h => h)).mem.k2
          have qb := (hwi.1.blk HB.out (fun h => h)).k14
          obtain ⟨A1, c1, e1, hi1⟩ := hwi.2 29 (hd ⟨29, .data⟩ (by simp) rfl)
          rw [e1]
          go_simp
          refine (same_ints A1 _ VV c1 rc _ hi1 ((hwi.1.ints HRG.out (fun h => h)).at_) (by omega)).mono ?_
          rintro e w2 ⟨rfl, hk⟩
          apply hK
          · rfl
          · conv => (lhs; whnf)
          · exact ⟨Keep0.step hwi.1 hk, GWI.fixed (hwi.2.keep tpD_stable hk) trivial⟩
        simp only [put_lit, put_none, List.set_cons_succ, List.set_cons_zero]
        apply ObligF.fixed
        case h =>
          intro S gh w1 hwi hSi hd hcl
          apply StepOk.intro
          intro K hK
          have qr := (HR.out.keep hwi.1 (fun _ _ h => h)).mem.k2
          have qb := (hwi.1.blk HB.out (fun h => h)).k14
          go_simp
          apply hK
          · rfl
          · conv => (lhs; whnf)
          · exact ⟨hwi.1, GWI.fixed hwi.2 trivial⟩
        simp only [put_lit, put_none, List.set_cons_succ, List.set_cons_zero]
        apply ObligF.fixed
        case h =>
          intro S gh w1 hwi hSi hd hcl
          apply StepOk.intro
          intro K hK
          have qr := (HR.out.keep hwi.1 (fun _ _ h => h)).mem.k2
          have qb := (hwi.1.blk HB.out (fun h => h)).k14
          go_simp
          apply hK
          · rfl
          · conv => (lhs; whnf)
          · exact ⟨hwi.1, GWI.fixed hwi.2 trivial⟩
        simp only [put_lit, put_none, List.set_cons_succ, List.set_cons_zero]
        apply ObligF.fixed
        case h =>
          intro S gh w1 hwi hSi hd hcl
          apply StepOk.intro
          intro K hK
          have qr := (HR.out.keep hwi.1 (fun _ _ h => h)).mem.k2
          have qb := (hwi.1.blk HB.out (fun h => h)).k14
          go_simp
          apply hK
          · rfl
          · conv => (lhs; whnf)
          · exact ⟨hwi.1, GWI.fixed hwi.2 trivial⟩
        simp only [put_lit, put_none, List.set_cons_succ, List.set_cons_zero]
        apply ObligF.fixed
        case h =>
          intro S gh w1 hwi hSi hd hcl
          apply StepOk.intro
          intro K hK
          have qr := (HR.out.keep hwi.1 (fun _ _ h => h)).mem.k2
          have qb := (hwi.1.blk HB.out (fun h => h)).k14
          go_simp
          apply hK
          · rfl
          · conv => (lhs; whnf)
          · exact ⟨hwi.1, GWI.fixed hwi.2 trivial⟩
        simp only [put_lit, put_none, List.set_cons_succ, List.set_cons_zero]
        apply ObligF.fixed
        case h =>
          intro S gh w1 hwi hSi hd hcl
          apply StepOk.intro
          intro K hK
          have qr := (HR.out.keep hwi.1 (fun _ _ h => h)).mem.k2
          have qb := (hwi.1.blk HB.out (fun h => h)).k14
          go_simp
          apply hK
          · rfl
          · conv => (lhs; whnf)
          · exact ⟨hwi.1, GWI.fixed hwi.2 trivial⟩
        simp only [put_lit, put_none, List.set_cons_succ, List.set_cons_zero]
        apply ObligF.fixed
        case h =>
          intro S gh w1 hwi hSi hd hcl
          apply StepOk.intro
          intro K hK
          have qr := (HR.out.keep hwi.1 (fun _ _ h => h)).mem.k2
          have qb := (hwi.1.blk HB.out (fun h => h)).k14
          go_simp
          apply hK
          · rfl
          · conv => (lhs; whnf)
          · exact ⟨hwi.1, GWI.fixed hwi.2 trivial⟩
        simp only [put_lit, put_none, List.set_cons_succ, List.set_cons_zero]
        apply ObligF.fixed
        case h =>
          intro S gh w1 hwi hSi hd hcl
          apply StepOk.intro
          intro K hK
          have qr := (HR.out.keep hwi.1 (fun _ _ h => h)).mem.k2
          have qb := (hwi.1.blk HB.out (fun h => h)).k14
          go_simp
          refine (show Calls Try.prog 28 #[ptr m, .agg #[i64 t, i64 s, i64 g, i64 l, i64 r, i64 k, .slice (some ⟨pb, po, none⟩) P.length pc, .slice (some ⟨lb, lo, none⟩) L.length lc], i64 v] w1 (Ret (i64 (leftN VV av s)) w1) from pool_Left t g l r k s (some ⟨pb, po, none⟩) P.length pc (some ⟨lb, lo, none⟩) L.length lc v av (HM.out.same hwi.1) (by omega) (by omega) (by omega) hv0 (by omega) HAV.out (by omega) HALL.out).mono ?_
          rintro e w2 ⟨rfl, hk⟩
          apply hK
          · rfl
          · conv => (lhs; whnf)
          · exact ⟨Keep0.step hwi.1 hk, GWI.fixed (hwi.2.keep tpD_stable hk) trivial⟩
        simp only [put_lit, put_none, List.set_cons_succ, List.set_cons_zero]
        apply ObligF.fixed
        case h =>
          intro S gh w1 hwi hSi hd hcl
          apply StepOk.intro
          intro K hK
          have qr := (HR.out.keep hwi.1 (fun _ _ h => h)).mem.k2
          have qb := (hwi.1.blk HB.out (fun h => h)).k14
          go_simp
          apply hK
          · rfl
          · conv => (lhs; whnf)
          · exact ⟨hwi.1, GWI.fixed hwi.2 trivial⟩
        simp only [put_lit, put_none, List.set_cons_succ, List.set_cons_zero]
        apply ObligF.fixed
        case h =>
          intro S gh w1 hwi hSi hd hcl
          apply StepOk.intro
          intro K hK
          have qr := (HR.out.keep hwi.1 (fun _ _ h => h)).mem.k2
          have qb := (hwi.1.blk HB.out (fun h => h)).k14
          go_simp
          apply hK
          · rfl
          · conv => (lhs; whnf)
          · exact ⟨hwi.1, GWI.fixed hwi.2 trivial⟩
        simp only [put_lit, put_none, List.set_cons_succ, List.set_cons_zero]
        apply ObligF.fixed
        case h =>
          intro S gh w1 hwi hSi hd hcl
          apply StepOk.intro
          intro K hK
          have qr := (HR.out.keep hwi.1 (fun _ _ h => h)).mem.k2
          have qb := (hwi.1.blk HB.out (fun h => h)).k14
          go_simp
          apply hK
          · rfl
          · conv => (lhs; whnf)
          · exact ⟨hwi.1, GWI.fixed hwi.2 trivial⟩
        simp only [put_lit, put_none, List.set_cons_succ, List.set_cons_zero]
        apply ObligF.fixed
        case h =>
          intro S gh w1 hwi hSi hd hcl
          apply StepOk.intro
          intro K hK
          have qr := (HR.out.keep hwi.1 (fun _ _ h => h)).mem.k2
          have qb := (hwi.1.blk HB.out (fun h => h)).k14
          go_simp
          apply hK
          · rfl
          · conv => (lhs; whnf)
          · exact ⟨hwi.1, GWI.fixed hwi.2 trivial⟩
        simp only [put_lit, put_none, List.set_cons_succ, List.set_cons_zero]
        apply ObligF.fixed
        case h =>
          intro S gh w1 hwi hSi hd hcl
          apply StepOk.intro
          intro K hK
          have qr := (HR.out.keep hwi.1 (fun _ _ h => h)).mem.k2
          have qb := (hwi.1.blk HB.out (fun h => h)).k14
          go_simp
          apply hK
          · rfl
          · conv => (lhs; whnf)
          · exact ⟨hwi.1, GWI.fixed hwi.2 trivial⟩
        simp only [put_lit, put_none, List.set_cons_succ, List.set_cons_zero]
        apply ObligF.fixed
        case h =>
          intro S gh w1 hwi hSi hd hcl
          apply StepOk.intro
          intro K hK
          have qr := (HR.out.keep hwi.1 (fun _ _ h => h)).mem.k2
          have qb := (hwi.1.blk HB.out (fun h => h)).k14
          go_simp
          apply hK
          · rfl
          · conv => (lhs; whnf)
          · exact ⟨hwi.1, GWI.fixed hwi.2 trivial⟩
        simp only [put_lit, put_none, List.set_cons_succ, List.set_cons_zero]
        apply ObligF.fixed
        case h =>
          intro S gh w1 hwi hSi hd hcl
          apply StepOk.intro
          intro K hK
          have qr := (HR.out.keep hwi.1 (fun _ _ h => h)).mem.k2
          have qb := (hwi.1.blk HB.out (fun h => h)).k14
          go_simp
          apply hK
          · rfl
          · conv => (lhs; whnf)
          · exact ⟨hwi.1, GWI.fixed hwi.2 trivial⟩
        simp only [put_lit, put_none, List.set_cons_succ, List.set_cons_zero]
        apply ObligF.fixed
        case h =>
          intro S gh w1 hwi hSi hd hcl
          apply StepOk.intro
          intro K hK
          have qr := (HR.out.keep hwi.1 (fun _ _ h => h)).mem.k2
          have qb := (hwi.1.blk HB.out (fun h => h)).k14
          go_simp
          refine (show Calls Try.prog 26 #[.slice (some ⟨rg, 0, none⟩) VV.length rc, .agg #[i64 t, i64 s, i64 g, i64 l, i64 r, i64 k, .slice (some ⟨pb, po, none⟩) P.length pc, .slice (some ⟨lb, lo, none⟩) L.length lc], i64 v] w1 (Ret (i64 (leftN VV av s)) w1) from ref8_Left t g l r k s (some ⟨pb, po, none⟩) P.length pc (some ⟨lb, lo, none⟩) L.length lc v av rg rc VV _ (hwi.1.ints HRG.out (fun h => h)) (by omega) (by omega) (by omega) hv0 (by omega) HAV.out (by omega) HALL.out).mono ?_
          rintro e w2 ⟨rfl, hk⟩
          apply hK
          · rfl
          · conv => (lhs; whnf)
          · exact ⟨Keep0.step hwi.1 hk, GWI.fixed (hwi.2.keep tpD_stable hk) trivial⟩
        simp only [put_lit, put_none, List.set_cons_succ, List.set_cons_zero]
        apply ObligF.fixed
        case h =>
          intro S gh w1 hwi hSi hd hcl
          apply StepOk.intro
          intro K hK
          have qr := (HR.out.keep hwi.1 (fun _ _ h => h)).mem.k2
          have qb := (hwi.1.blk HB.out (fun h => h)).k14
          go_simp
          apply hK
          · rfl
          · conv => (lhs; whnf)
          · exact ⟨hwi.1, GWI.fixed hwi.2 trivial⟩
        simp only [put_lit, put_none, List.set_cons_succ, List.set_cons_zero]
        apply ObligF.fixed
        case h =>
          intro S gh w1 hwi hSi hd hcl
          apply StepOk.intro
          intro K hK
          have qr := (HR.out.keep hwi.1 (fun _ _ h => h)).mem.k2
          have qb := (hwi.1.blk HB.out (fun h => h)).k14
          go_simp
          apply hK
          · rfl
          · conv => (lhs; whnf)
          · exact ⟨hwi.1, GWI.fixed hwi.2 trivial⟩
        simp only [put_lit, put_none, List.set_cons_succ, List.set_cons_zero]
        apply ObligF.fixed
        case h =>
          intro S gh w1 hwi hSi hd hcl
          apply StepOk.intro
          intro K hK
          have qr := (HR.out.keep hwi.1 (fun _ _ h => h)).mem.k2
          have qb := (hwi.1.blk HB.out (fun h => h)).k14
          go_simp
          apply hK
          · rfl
          · conv => (lhs; whnf)
          · exact ⟨hwi.1, GWI.fixed hwi.2 trivial⟩
        simp only [put_lit, put_none, List.set_cons_succ, List.set_cons_zero]
        exact ObligF.nil
      case h0 =>
        exact ⟨(Keep.refl _ _).drew, GWI.start _ _ _⟩
      case hend =>
        intro S gh wx hwi hall
        have HKX := hid hwi.1
        clear hwi hall
        go_wp2_with fail
        go_ret
        exact ⟨rfl, HKZ.out.trans HKX.out (fun _ _ h => h)⟩
end Go.Proofs.Ytdjfeapncpcmgaa
