/- UsageWay: while one machine admits, alone, behind each step what is held at each node is from 0 to its amount, and what is used is not more than the limit. -/
import Derived.Test.YthaceckccobgeaaGreatZUsageWay5
import Derived.Test.YthaceckccobgeaaGreatZUsageWay13
import Derived.Test.YthaceckccobgeaaGreatZUsageWay14
import Derived.Test.YthaceckccobgeaaGreatZUsageWay15
namespace Go.Proofs.YthaceckccobgeaaGreat
open Go.RowKit
set_option linter.unusedVariables false
set_option linter.unusedSimpArgs false
set_option maxRecDepth 100000
def q12 (s K : Nat) (P : List Int) : Nat := P.length * (6 + 2 * s) + 2 * K
theorem Set12.okn {tt : Int} {s : Nat} {g lm r : Int} {K : Nat} {P L : List Int} (h : Set12 s g lm K P L) {lv : Nat} {n : Int} {th : Nat} (h1 : lv < P.length) (h2 : 1 ≤ n ∧ n ≤ 1048576) (h3 : th ≤ 1000) : P12OK ⟨tt, s, g, lm, r, K, P, L, lv, n, th, pathN P lv⟩ := by
 refine ⟨h.s1, h.g1, h.l1, h.k1, h.p1, h.ll, h1, h2, h3, ?_, ?_⟩
 · have := pathN_mem h.pr.ok lv h1
   have := h.p1
   show 1 ≤ (pathN P lv).length ∧ (pathN P lv).length ≤ 12
   omega
 · intro v hv
   have h4 : v ≤ lv := (pathN_mem h.pr.ok lv h1).1 v hv
   show v < P.length
   omega
theorem u16_keep {w w' : World} {A : Option Addr} {l : List Int} (h : U16At w A l) (hk : Keep0 w w') : U16At w' A l := by
 rcases h with h | ⟨b, o, e1, h⟩
 · exact Or.inl h
 · refine Or.inr ⟨b, o, e1, fun i hi => ?_⟩
   rw [cell_old hk (World.block_lt_of_cell? _ _ (h i hi)) (fun x => x)]
   exact h i hi
theorem left_nonneg {p : P12} {X : Int} {W : List Int} (hp : P12OK p) (h : WOK p X W) {u : Nat} (hu : u < p.P.length) : 0 ≤ leftN W (p.av u) p.s := by
 have hj : ∀ j, j < p.s → 0 ≤ rd W (p.av u + 1 + j) := fun j hj => by
  have := (h.le u hu j hj).1
  rw [show p.le u j = p.av u + 1 + j from by unfold P12.le P12.av; omega] at this
  exact this
 have : ∀ n, n ≤ p.s → 0 ≤ leftN W (p.av u) n := by
  intro n
  induction n with
  | zero => intro _; exact (h.av u hu).1
  | succ n ih => intro hn; rw [leftN]; have := ih (by omega); have := hj n (by omega); omega
 exact this p.s (Nat.le_refl _)
theorem St.read {w0 w : World} {l : List Ass} {B m : Nat} {W : List Int} {L : List Acc} (h : St w0 (refO B m W L :: l) w) (h0 : 0 < W.length) :
 ∃ wb c lv, Blk w m 42 [.slice (some ⟨wb, 0, none⟩) W.length c, lv] ∧ (W.length ≤ c ∧ c ≤ 9223372036854775807) ∧ ∀ i, i < W.length → w.cell? ⟨wb, 0 + i, none⟩ = some (i64 (rd W i)) := by
 obtain ⟨wb, c, lv, hm, hc, hs⟩ := St.wordsK h h0
 exact ⟨wb, c, lv, hm, hc, fun i hi => St.cellsK hs i hi⟩
theorem held_hold {p : P12} {X : Int} {W0 : List Int} {t : S12} (hp : P12OK p) (hr : ParR p.P) (hpath : p.path = pathN p.P p.nd) (h : R12 p X W0 t) (hc : Calm12 p W0) (u : Nat) (hu : u < p.P.length) :
 wrap64 (rd t.W (p.li u) - leftN t.W (p.li u + 1) p.s - usedN p.P t.W p.q p.K u) = hold12 p t u ∧ usedN p.P t.W p.q p.K u ≤ rd t.W (p.li u) := by
 have hnd : p.path.Nodup := by rw [hpath]; exact pathN_nodup hr _ hp.nd1
 obtain ⟨h1, h2⟩ := hc u hu
 have h3 := h.sum hp hpath u hu
 have h4 := hold12_bd hp hnd h u
 have h5 := h.limit hp u hu hp.s8.2
 have hn := hp.n1
 have hl := hp.l1
 have e : p.li u + 1 = p.av u := rfl
 have h6 : hold12 p t u ≤ 2097152 := by
  have := h4.2
  split at this <;> omega
 have hlf : 0 ≤ leftN t.W (p.av u) p.s := left_nonneg hp h.i.w hu
 rw [e, h5, h1]
 exact ⟨by rw [show rd p.LL u - leftN t.W (p.av u) p.s - usedN p.P t.W p.q p.K u = hold12 p t u from by omega]; unfold wrap64; omega, by omega⟩
set_option maxHeartbeats 30000000 in
theorem usageWay_walk {w : World} {v0 v1 : Value} (hc : AskIn w v0) (hl : U16R w v1) :
 Calls Tryz.prog 3 #[v0, v1] w (Ret (.bool true) w) := by
 obtain ⟨t, s0, g, lm, r, k0, P, L, PA, pc, LA, lc, lf0, nn, th, BA, nb, bc, f, VA, V, vc, Q, KA, kc, rfl, hP, hL, hp1, hl1, hlf, hnn, hth, hB, hb63, hV, hv63, hvb, hQ, hq63⟩ := hc
 obtain ⟨XA, X, xc, rfl, hx63, hX, hxb⟩ := hl
 have HP0 := hid hP
 have HL0 := hid hL
 have HV := hid hV
 have HB := hid hB
 have HVB := hid hvb
 have HQ0 := hid hQ
 have HX := hid hX
 have HXB := hid hxb
 clear hP hL hV hB hvb hQ hX hxb
 go_enter Tryz.func3, Tryz.ntmps3
 go_wp2_with fail
 obtain ⟨w0, hw0⟩ : ∃ v, v = w.alloc (.cells #[i64 t, i64 s0, i64 g, i64 lm, i64 r, i64 k0, .slice PA P.length pc, .slice LA L.length lc, .int .u8 lf0, .int .u32 nn, .int .u16 th, .slice BA nb bc, .slice VA V.length vc, .slice KA Q.length kc] 31) := ⟨_, rfl⟩
 rw [← hw0]
 have hs := St.nw (St.nil (Keep.refl _ w)) (Nw.blk (w' := w0) (b := w.heap.size) (T := 31) (cs := [i64 t, i64 s0, i64 g, i64 lm, i64 r, i64 k0, .slice PA P.length pc, .slice LA L.length lc, .int .u8 lf0, .int .u32 nn, .int .u16 th, .slice BA nb bc, .slice VA V.length vc, .slice KA Q.length kc]) (by rw [hw0]; exact Blk.made rfl rfl) (by rw [hw0]; exact (Keep.refl _ _).alloc _) (Nat.le_refl _))
 have HS := hid hs
 clear hs hw0
 refine Calls.mono (law14_head _) ?_
 rintro e w1 ⟨rfl, hk⟩
 have hs := St.keep (show St w [Ass.blk w.heap.size 31 [i64 t, i64 s0, i64 g, i64 lm, i64 r, i64 k0, .slice PA P.length pc, .slice LA L.length lc, .int .u8 lf0, .int .u32 nn, .int .u16 th, .slice BA nb bc, .slice VA V.length vc, .slice KA Q.length kc]] _ from by repeat (with_reducible first | exact HS.out | apply St.alloc | apply St.drewN | apply St.drew)) hk
 clear HS
 have HS := hid (show St w [Ass.blk w.heap.size 31 [i64 t, i64 s0, i64 g, i64 lm, i64 r, i64 k0, .slice PA P.length pc, .slice LA L.length lc, .int .u8 lf0, .int .u32 nn, .int .u16 th, .slice BA nb bc, .slice VA V.length vc, .slice KA Q.length kc]] w1 from hs)
 clear hs hk
 obtain ⟨_, ⟨hb, _⟩, _⟩ := St.get (show St w [Ass.blk w.heap.size 31 [i64 t, i64 s0, i64 g, i64 lm, i64 r, i64 k0, .slice PA P.length pc, .slice LA L.length lc, .int .u8 lf0, .int .u32 nn, .int .u16 th, .slice BA nb bc, .slice VA V.length vc, .slice KA Q.length kc]] w1 from (show St w [Ass.blk w.heap.size 31 [i64 t, i64 s0, i64 g, i64 lm, i64 r, i64 k0, .slice PA P.length pc, .slice LA L.length lc, .int .u8 lf0, .int .u32 nn, .int .u16 th, .slice BA nb bc, .slice VA V.length vc, .slice KA Q.length kc]] w1 from by repeat (with_reducible first | exact HS.out | apply St.alloc | apply St.drewN | apply St.drew)))
 have qb := hb.k14
 clear hb
 go_wp2_with fail
 refine Calls.mono (law12_Good t s0 g lm r k0 PA P pc LA L lc lf0 nn th BA nb bc VA V.length vc KA Q.length kc _ (HP0.out.keep HS.out.k) (HL0.out.keep HS.out.k) (by omega) (by omega)) ?_
 rintro e w2 ⟨rfl, hk⟩
 have hs := St.keep (show St w [Ass.blk w.heap.size 31 [i64 t, i64 s0, i64 g, i64 lm, i64 r, i64 k0, .slice PA P.length pc, .slice LA L.length lc, .int .u8 lf0, .int .u32 nn, .int .u16 th, .slice BA nb bc, .slice VA V.length vc, .slice KA Q.length kc]] _ from by repeat (with_reducible first | exact HS.out | apply St.alloc | apply St.drewN | apply St.drew)) hk
 clear HS
 have HS := hid (show St w [Ass.blk w.heap.size 31 [i64 t, i64 s0, i64 g, i64 lm, i64 r, i64 k0, .slice PA P.length pc, .slice LA L.length lc, .int .u8 lf0, .int .u32 nn, .int .u16 th, .slice BA nb bc, .slice VA V.length vc, .slice KA Q.length kc]] w2 from hs)
 clear hs hk
 clear qb
 cases hgd : good12 t s0 g lm r k0 P L nb V.length Q.length with
 | false =>
  clear hgd
  go_wp2_with fail
  go_ret
  exact ⟨rfl, HS.out.k⟩
 | true =>
  have hgd2 := hgd
  unfold good12 at hgd2
  simp only [Bool.and_eq_true, decide_eq_true_eq] at hgd2
  obtain ⟨⟨⟨hgb, hn1⟩, hn2⟩, hn3⟩ := hgd2
  clear hgd
  have R := Right.of hgb
  by_cases h20 : 20 < X.length
  · go_wp2_with fail
    go_ret
    exact ⟨rfl, HS.out.k⟩
  · skip
    have hxl : X.length ≤ 20 := by omega
    clear h20 hx63
    have hsb := R.sb
    have hkb := R.k
    have hpb := R.p
    have HLEN := hid R.len
    have hrb := R.r
    have hlmb := R.l
    have hgb2 := R.g
    obtain ⟨s, rfl⟩ := Int.eq_ofNat_of_zero_le (show 0 ≤ s0 by omega)
    obtain ⟨K, rfl⟩ := Int.eq_ofNat_of_zero_le (show 0 ≤ k0 by omega)
    obtain ⟨lf, rfl⟩ := Int.eq_ofNat_of_zero_le hlf.1
    obtain ⟨pb, po, rfl, hP⟩ := HP0.out.cell (by omega)
    obtain ⟨lb, lo, rfl, hL⟩ := HL0.out.cell (by have := HLEN.out; omega)
    have HP := hid hP
    have HL := hid hL
    clear hP hL HP0 HL0
    have hpz : pb < w.heap.size := by have := World.block_lt_of_cell? _ _ (HP.out 0 (by omega)); simpa using this
    have hlz : lb < w.heap.size := by have := World.block_lt_of_cell? _ _ (HL.out 0 (by have := HLEN.out; omega)); simpa using this
    have HPR := hid (ParR.of_right R)
    have HR := hid R
    clear R hgb
    have hs8 : 1 ≤ s ∧ s ≤ 8 := by omega
    have hK8 : 1 ≤ K ∧ K ≤ 16 := by omega
    clear hsb hkb
    obtain ⟨_, ⟨hb, _⟩, _⟩ := St.get (show St w [Ass.blk w.heap.size 31 [i64 t, i64 (s : Int), i64 g, i64 lm, i64 r, i64 (K : Int), .slice (some ⟨pb, po, none⟩) P.length pc, .slice (some ⟨lb, lo, none⟩) L.length lc, .int .u8 (lf : Int), .int .u32 nn, .int .u16 th, .slice BA nb bc, .slice VA V.length vc, .slice KA Q.length kc]] w2 from (show St w [Ass.blk w.heap.size 31 [i64 t, i64 (s : Int), i64 g, i64 lm, i64 r, i64 (K : Int), .slice (some ⟨pb, po, none⟩) P.length pc, .slice (some ⟨lb, lo, none⟩) L.length lc, .int .u8 (lf : Int), .int .u32 nn, .int .u16 th, .slice BA nb bc, .slice VA V.length vc, .slice KA Q.length kc]] w2 from by repeat (with_reducible first | exact HS.out | apply St.alloc | apply St.drewN | apply St.drew)))
    have qb := hb.k14
    clear hb
    have hth0 := hth
    have hnn0 := hnn
    go_upto_region 5 with fail
    obtain ⟨w3, hw3⟩ : ∃ v, v = w2.setCell ⟨w.heap.size, 12, none⟩ (.slice none 0 0) := ⟨_, rfl⟩
    rw [← hw3]
    have hs : St w [Ass.blk w.heap.size 31 [i64 t, i64 (s : Int), i64 g, i64 lm, i64 r, i64 (K : Int), .slice (some ⟨pb, po, none⟩) P.length pc, .slice (some ⟨lb, lo, none⟩) L.length lc, .int .u8 (lf : Int), .int .u32 nn, .int .u16 th, .slice BA nb bc, .slice none 0 0, .slice KA Q.length kc]] w3 := by rw [hw3]; exact St.tr HS.out (fun R hr => blk_store hr 12 (.slice none 0 0))
    clear HS qb hw3
    have HS := hid hs
    clear hs
    obtain ⟨_, ⟨hb, _⟩, _⟩ := St.get (show St w [Ass.blk w.heap.size 31 [i64 t, i64 (s : Int), i64 g, i64 lm, i64 r, i64 (K : Int), .slice (some ⟨pb, po, none⟩) P.length pc, .slice (some ⟨lb, lo, none⟩) L.length lc, .int .u8 (lf : Int), .int .u32 nn, .int .u16 th, .slice BA nb bc, .slice none 0 0, .slice KA Q.length kc]] w3 from (show St w [Ass.blk w.heap.size 31 [i64 t, i64 (s : Int), i64 g, i64 lm, i64 r, i64 (K : Int), .slice (some ⟨pb, po, none⟩) P.length pc, .slice (some ⟨lb, lo, none⟩) L.length lc, .int .u8 (lf : Int), .int .u32 nn, .int .u16 th, .slice BA nb bc, .slice none 0 0, .slice KA Q.length kc]] w3 from by repeat (with_reducible first | exact HS.out | apply St.alloc | apply St.drewN | apply St.drew)))
    have qb := hb.k14
    clear hb
    have HSET := hid (show Set12 s g lm K P L from ⟨by have := HR.out.s; unfold p2; omega, HR.out.g, HR.out.l, by have := HR.out.k; omega, HR.out.p, HR.out.len, HPR.out⟩)
    obtain ⟨M, hM⟩ : ∃ M : Nat, M = 3000 := ⟨_, rfl⟩
    have HMM := hid hM
    clear hM
    have HWO := hid (law13_Words t g lm r s K P L pb po pc lb lo lc lf nn th BA nb bc none [] 0 KA Q.length kc f XA X xc M HMM.out w3 HSET.out (fun i hi => HR.out.lim i (by have := HLEN.out; omega)) (row_kept HS.out.k HP.out) (row_kept HS.out.k HL.out) (HB.out.keep HS.out.k) (Or.inl rfl) (fun i hi => absurd hi (by simp)) hn1 (by simp) (u16_keep HX.out HS.out.k) HXB.out hxl)
    obtain ⟨ZZ, hZZ⟩ : ∃ z, z = z13 t s g lm r K P L X (words12 s K P L nb f []) M (min X.length 4) := ⟨_, rfl⟩
    rw [← hZZ] at HWO
    have HZZ := hid hZZ
    clear hZZ
    go_wp2_with fail
    refine Calls.mono (St.newx HS.out HWO.out) ?_
    rintro e w4 ⟨⟨⟨wb, wc⟩, ⟨HA, hac⟩⟩, ⟨rfl, hwc⟩, hs⟩
    have hs2 := St.drop (St.pick (St.part hs) 1 (by simp))
    clear HS qb hs HWO
    have HS := hid (show St w [intsK wb wc ZZ.1, Ass.blk w.heap.size 31 [i64 t, i64 (s : Int), i64 g, i64 lm, i64 r, i64 (K : Int), .slice (some ⟨pb, po, none⟩) P.length pc, .slice (some ⟨lb, lo, none⟩) L.length lc, .int .u8 (lf : Int), .int .u32 nn, .int .u16 th, .slice BA nb bc, .slice none 0 0, .slice KA Q.length kc]] w4 from hs2)
    clear hs2
    obtain ⟨_, ⟨hb, _⟩, _⟩ := St.get (show St w [Ass.blk w.heap.size 31 [i64 t, i64 (s : Int), i64 g, i64 lm, i64 r, i64 (K : Int), .slice (some ⟨pb, po, none⟩) P.length pc, .slice (some ⟨lb, lo, none⟩) L.length lc, .int .u8 (lf : Int), .int .u32 nn, .int .u16 th, .slice BA nb bc, .slice none 0 0, .slice KA Q.length kc], intsK wb wc ZZ.1] w4 from (St.pick (show St w [intsK wb wc ZZ.1, Ass.blk w.heap.size 31 [i64 t, i64 (s : Int), i64 g, i64 lm, i64 r, i64 (K : Int), .slice (some ⟨pb, po, none⟩) P.length pc, .slice (some ⟨lb, lo, none⟩) L.length lc, .int .u8 (lf : Int), .int .u32 nn, .int .u16 th, .slice BA nb bc, .slice none 0 0, .slice KA Q.length kc]] w4 from by repeat (with_reducible first | exact HS.out | apply St.alloc | apply St.drewN | apply St.drew)) 1 (by simp)))
    have qb := hb.k14
    clear hb
    go_wp2_with fail
    refine Calls.mono (law12_Of t g lm r s K P L pb po pc lb lo lc lf nn th BA nb bc none [] 0 KA Q.length kc w4 (by omega) HPR.out (by omega) (by omega) hnn hth (row_kept HS.out.k HP.out)) ?_
    rintro e w5 ⟨rfl, hk⟩
    have hs := St.keep (show St w [intsK wb wc ZZ.1, Ass.blk w.heap.size 31 [i64 t, i64 (s : Int), i64 g, i64 lm, i64 r, i64 (K : Int), .slice (some ⟨pb, po, none⟩) P.length pc, .slice (some ⟨lb, lo, none⟩) L.length lc, .int .u8 (lf : Int), .int .u32 nn, .int .u16 th, .slice BA nb bc, .slice none 0 0, .slice KA Q.length kc]] _ from by repeat (with_reducible first | exact HS.out | apply St.alloc | apply St.drewN | apply St.drew)) hk
    clear HS
    have HS := hid (show St w [intsK wb wc ZZ.1, Ass.blk w.heap.size 31 [i64 t, i64 (s : Int), i64 g, i64 lm, i64 r, i64 (K : Int), .slice (some ⟨pb, po, none⟩) P.length pc, .slice (some ⟨lb, lo, none⟩) L.length lc, .int .u8 (lf : Int), .int .u32 nn, .int .u16 th, .slice BA nb bc, .slice none 0 0, .slice KA Q.length kc]] w5 from hs)
    clear hs hk
    clear qb
    obtain ⟨lv, hlv⟩ : ∃ x, x = leafN P lf := ⟨_, rfl⟩
    have hlv1 : lv < P.length := by rw [hlv]; exact leafN_lt HPR.out (by omega) lf
    obtain ⟨n1, hn1'⟩ : ∃ x, x = nn % 1048576 + 1 := ⟨_, rfl⟩
    have hnb : 1 ≤ n1 ∧ n1 ≤ 1048576 := by omega
    obtain ⟨th1, hth1⟩ : ∃ x : Nat, (x : Int) = th % 1001 := ⟨(th % 1001).toNat, Int.toNat_of_nonneg (by omega)⟩
    have hthb : th1 ≤ 1000 := by omega
    rw [← hlv, ← hn1', ← hth1]
    clear hlv hn1' hth1
    have HW0 := hid (show ∀ (x : Int) (i : Nat), WOK (p13 t s g lm r K P L x i) 1099511627776 (words12 s K P L nb f []) from fun x i => (WOK.words12 (HSET.out.ok (tt := t) (r := r) x 0 (by omega)) (fun i hi => HR.out.lim i (by have := HLEN.out; exact Nat.lt_of_lt_of_eq hi this)) nb f [] (fun i hi => absurd hi (by simp))).of13)
    have HZK := hid (z13_ok (X := X) HSET.out (Z := 1099511627776) (M := M) (by have := HMM.out; omega) HW0.out (by omega) (min X.length 4) (by omega))
    rw [← HZZ.out] at HZK
    have hzl : q12 s K P = ZZ.1.length := by have h := (HZK.out.1 0 0).ln; exact h.symm
    have HZL := hid hzl
    unfold q12 at hzl
    rw [hzl]
    rw [hzl] at hwc
    clear hzl
    obtain ⟨p, hp⟩ : ∃ p : P12, p = ⟨t, s, g, lm, r, K, P, L, lv, n1, th1, pathN P lv⟩ := ⟨_, rfl⟩
    have HPP := hid hp
    have HP12 := hid (show P12OK p from by rw [hp]; exact HSET.out.okn hlv1 hnb hthb)
    clear hp
    obtain ⟨m, hm⟩ : ∃ m, m = w5.heap.size := ⟨_, rfl⟩
    obtain ⟨w6, hw6⟩ : ∃ v, v = w5.alloc (.cells #[.slice (some ⟨wb, 0, none⟩) ZZ.1.length wc, .slice none 0 0] 42) := ⟨_, rfl⟩
    have hs := St.layR (n := m) HS.out (w2 := w6) (by rw [hw6]; exact Blk.made hm rfl) (by rw [hw6]; exact (Keep.refl _ _).alloc _) (by omega)
    clear HS
    have HS := hid hs
    clear hs
    go_upto_region 8 with fail
    rw [← hw6, ← hm]
    clear hw6 hm
    obtain ⟨_, ⟨hb, _⟩, _⟩ := St.get (show St w [Ass.blk w.heap.size 31 [i64 t, i64 (s : Int), i64 g, i64 lm, i64 r, i64 (K : Int), .slice (some ⟨pb, po, none⟩) P.length pc, .slice (some ⟨lb, lo, none⟩) L.length lc, .int .u8 (lf : Int), .int .u32 nn, .int .u16 th, .slice BA nb bc, .slice none 0 0, .slice KA Q.length kc], refO w.heap.size m ZZ.1 []] w6 from (St.pick (show St w [refO w.heap.size m ZZ.1 [], Ass.blk w.heap.size 31 [i64 t, i64 (s : Int), i64 g, i64 lm, i64 r, i64 (K : Int), .slice (some ⟨pb, po, none⟩) P.length pc, .slice (some ⟨lb, lo, none⟩) L.length lc, .int .u8 (lf : Int), .int .u32 nn, .int .u16 th, .slice BA nb bc, .slice none 0 0, .slice KA Q.length kc]] w6 from by repeat (with_reducible first | exact HS.out | apply St.alloc | apply St.drewN | apply St.drew)) 1 (by simp)))
    have qb := hb.k14
    clear hb
    go_wp2_with fail
    refine Calls.mono (St.newx (q := fun y => r12O p y (start12 p ZZ.1 [])) (show St w [refO w.heap.size m ZZ.1 [], Ass.blk w.heap.size 31 [i64 t, i64 (s : Int), i64 g, i64 lm, i64 r, i64 (K : Int), .slice (some ⟨pb, po, none⟩) P.length pc, .slice (some ⟨lb, lo, none⟩) L.length lc, .int .u8 (lf : Int), .int .u32 nn, .int .u16 th, .slice BA nb bc, .slice none 0 0, .slice KA Q.length kc]] _ from (show St w [refO w.heap.size m ZZ.1 [], Ass.blk w.heap.size 31 [i64 t, i64 (s : Int), i64 g, i64 lm, i64 r, i64 (K : Int), .slice (some ⟨pb, po, none⟩) P.length pc, .slice (some ⟨lb, lo, none⟩) L.length lc, .int .u8 (lf : Int), .int .u32 nn, .int .u16 th, .slice BA nb bc, .slice none 0 0, .slice KA Q.length kc]] _ from by repeat (with_reducible first | exact HS.out | apply St.alloc | apply St.drewN | apply St.drew))) (show Calls Tryz.prog 11 #[.agg #[i64 t, i64 (s : Int), i64 g, i64 lm, i64 r, i64 (K : Int), .slice (some ⟨pb, po, none⟩) P.length pc, .slice (some ⟨lb, lo, none⟩) L.length lc], i64 (lv : Int), i64 n1, i64 (th1 : Int)] w6 (fun e w'' => ∃ y, e = .returned (ptr y) ∧ Nw (r12O p y (start12 p ZZ.1 [])) w6 w'') from by have h := r12_New (p := p) HP12.out (by rw [HPP.out]; exact HPR.out.ok) (by rw [HPP.out]) pb po pc lb lo lc w6 (by rw [HPP.out]; exact row_kept HS.out.k HP.out) (by rw [HPP.out]; exact row_kept HS.out.k HL.out) ZZ.1 []; rw [HPP.out] at h ⊢; exact h)) ?_
    rintro e w7 ⟨y, rfl, hs⟩
    clear HS
    have HS := hid (show St w [r12O p y (start12 p ZZ.1 []), refO w.heap.size m ZZ.1 [], Ass.blk w.heap.size 31 [i64 t, i64 (s : Int), i64 g, i64 lm, i64 r, i64 (K : Int), .slice (some ⟨pb, po, none⟩) P.length pc, .slice (some ⟨lb, lo, none⟩) L.length lc, .int .u8 (lf : Int), .int .u32 nn, .int .u16 th, .slice BA nb bc, .slice none 0 0, .slice KA Q.length kc]] w7 from hs)
    clear hs
    have HCZ := hid (show Calm12 p ZZ.1 from by rw [HPP.out, HZZ.out]; exact z13_calm (X := X) (tt := t) (r := r) HSET.out (by have := HMM.out; omega) HW0.out (fun x i => Calm12.words (HSET.out.ok (tt := t) (r := r) x 0 (by omega)) nb f) (min X.length 4) (by omega) 0 0)
    have HNDP := hid (show p.path.Nodup from by rw [HPP.out]; exact pathN_nodup HPR.out lv hlv1)
    have HR0 := hid (show R12 p (1099511627776 + 12582912000) ZZ.1 (start12 p ZZ.1 []) from R12.start HP12.out (by have h := HZK.out.1 0 0; have h2 : WOK p (1099511627776 + ((min X.length 4 : Nat) : Int) * 3145728000) ZZ.1 := (by rw [HPP.out]; exact ⟨h.ln, h.av, h.le, h.lv⟩); exact h2.more (by omega)) [])
    obtain ⟨G, hG⟩ : ∃ G : Nat → S12, G = go12 p (start12 p ZZ.1 []) := ⟨_, rfl⟩
    have HG0 := hid (show G 0 = start12 p ZZ.1 [] from by rw [hG]; rfl)
    have HGN := hid (show ∀ k, G (k + 1) = n12 p (G k) from by rw [hG]; exact fun _ => rfl)
    have HGR := hid (show ∀ k : Nat, k ≤ 400 → R12 p (1099511627776 + 12582912000 + (k : Int) * 1048576) ZZ.1 (G k) from by rw [hG]; exact fun k hk => go12_R HP12.out HNDP.out HR0.out k (by omega))
    have HGL := hid (show ∀ k : Nat, k ≤ 400 → (G k).L.length ≤ 400 from by rw [hG]; exact fun k hk => Nat.le_trans (go12_L HP12.out HR0.out.i k (by omega)) (by show (start12 p ZZ.1 []).L.length + k ≤ 400; show 0 + k ≤ 400; omega))
    clear hG qb
    have hs : St w [r12O p y (G 0), refO w.heap.size m (G 0).W (G 0).L, Ass.blk w.heap.size 31 [i64 t, i64 (s : Int), i64 g, i64 lm, i64 r, i64 (K : Int), .slice (some ⟨pb, po, none⟩) P.length pc, .slice (some ⟨lb, lo, none⟩) L.length lc, .int .u8 (lf : Int), .int .u32 nn, .int .u16 th, .slice BA nb bc, .slice none 0 0, .slice KA Q.length kc]] w7 := by rw [HG0.out]; exact HS.out
    clear HS
    have HS := hid hs
    clear hs
    go_wp2_with fail
    go_loopw [13] (fun v13 wr => ∃ k : Nat, k ≤ 400 ∧ v13 = .int .i64 k ∧ St w [r12O p y (G k), refO w.heap.size m (G k).W (G k).L, Ass.blk w.heap.size 31 [i64 t, i64 (s : Int), i64 g, i64 lm, i64 r, i64 (K : Int), .slice (some ⟨pb, po, none⟩) P.length pc, .slice (some ⟨lb, lo, none⟩) L.length lc, .int .u8 (lf : Int), .int .u32 nn, .int .u16 th, .slice BA nb bc, .slice none 0 0, .slice KA Q.length kc]] wr) (fun x _ => 400 - (intOf x).toNat)
    case atStart => exact ⟨0, Nat.zero_le _, rfl, HS.out⟩
    case round =>
     obtain ⟨k, hk, rfl, hs⟩ := hrel
     clear HS
     have HS := hid hs
     clear hs
     obtain ⟨w10, rfl⟩ : ∃ v, v = wr := ⟨_, rfl⟩
     by_cases hk4 : k < 400
     · have HSTP := hid (fun R h => r12_Step (B := w.heap.size) (m := m) (y := y) (R := R) (w := w10) HP12.out (HGR.out k hk).i (by omega) (by have := HGL.out k hk; omega) h)
       go_wp2_with fail
       refine Calls.mono (St.call (q := (refO w.heap.size m (n12 p (G k)).W (n12 p (G k)).L).star (r12O p y (n12 p (G k)))) (St.pair (St.pick HS.out 1 (by simp))) (fun Rq hr hz => HSTP.out Rq hr)) ?_
       rintro e w11 ⟨rfl, hs⟩
       have hs3 := St.perm (St.part hs) (List.Perm.swap _ _ _)
       rw [← HGN.out] at hs3
       have HST := hid (show (stp12 p (G k)).2 = decide ((G (k + 1)).ph = 6) from by rw [HGN.out]; rfl)
       have HRK := hid (HGR.out (k + 1) (by omega))
       clear hs HS HSTP
       have HS := hid hs3
       clear hs3
       generalize (stp12 p (G k)).2 = sb at *
       go_wp2_with fail
       go_loopw [15] (fun v15 wr => ∃ u : Nat, u ≤ P.length ∧ v15 = .int .i64 u ∧ St w [r12O p y (G (k + 1)), refO w.heap.size m (G (k + 1)).W (G (k + 1)).L, Ass.blk w.heap.size 31 [i64 t, i64 (s : Int), i64 g, i64 lm, i64 r, i64 (K : Int), .slice (some ⟨pb, po, none⟩) P.length pc, .slice (some ⟨lb, lo, none⟩) L.length lc, .int .u8 (lf : Int), .int .u32 nn, .int .u16 th, .slice BA nb bc, .slice none 0 0, .slice KA Q.length kc]] wr) (fun x _ => P.length - (intOf x).toNat)
       case atStart => exact ⟨0, Nat.zero_le _, rfl, HS.out⟩
       case round =>
        obtain ⟨u, hu, rfl, hs⟩ := hrel
        clear HS
        have HS := hid hs
        clear hs
        obtain ⟨w20, rfl⟩ : ∃ v, v = wr := ⟨_, rfl⟩
        have hwl1 : (G (k + 1)).W.length = q12 s K P := by have h := HRK.out.i.w.ln; rw [HPP.out] at h; exact h
        obtain ⟨wb1, wc1, lv1, hbm, hwc1, hcw1⟩ := St.read (St.pick HS.out 1 (by simp)) (by rw [hwl1]; unfold q12; omega)
        obtain ⟨_, ⟨hbx, _⟩, _⟩ := St.get (St.pick HS.out 2 (by simp))
        have HBM := hid hbm
        have HBX := hid hbx
        have HCW := hid hcw1
        have HWC := hid hwc1
        have qb := hbx.k14
        clear hbm hcw1 hwc1 hbx
        by_cases hu2 : u < P.length
        · have hv0 := held_hold HP12.out (by rw [HPP.out]; exact HPR.out) (by rw [HPP.out]) HRK.out HCZ.out u (by rw [HPP.out]; exact hu2)
          have hb0 := hold12_bd HP12.out HNDP.out HRK.out u
          obtain ⟨hh, hhd⟩ : ∃ x, x = hold12 p (G (k + 1)) u := ⟨_, rfl⟩
          rw [← hhd] at hv0 hb0
          clear hhd
          obtain ⟨li, hli⟩ : ∃ x, x = u * (6 + 2 * s) := ⟨_, rfl⟩
          have hliq : li < (G (k + 1)).W.length := by
           rw [hwl1, hli]; unfold q12
           have h9 : (u + 1) * (6 + 2 * s) ≤ P.length * (6 + 2 * s) := Nat.mul_le_mul_right _ hu2
           rw [Nat.add_mul, Nat.one_mul] at h9
           omega
          have hWm : (G (k + 1)).W.length ≤ 1000000 := by rw [hwl1]; unfold q12; have h9 : P.length * (6 + 2 * s) ≤ 12 * 22 := Nat.mul_le_mul hpb.2 (by omega); omega
          have HCK := hid (fun (w' : World) (hk : Keep0 w20 w') (i : Nat) (hi : i < (G (k + 1)).W.length) => (cell_old hk (by have := World.block_lt_of_cell? _ _ (HCW.out i hi); simpa using this) (fun h => h) _).trans (HCW.out i hi))
          have HPK := hid (fun (w' : World) (hk : Keep0 w20 w') => row_kept (Keep0.step HS.out.k hk) HP.out)
          have hwbl : wb1 < w20.heap.size := by have := World.block_lt_of_cell? _ _ (HCW.out li hliq); simpa using this
          have HHV := hid (fun (w' : World) (hk : Keep0 w20 w') => show Calls Tryz.prog 13 #[.agg #[i64 t, i64 (s : Int), i64 g, i64 lm, i64 r, i64 (K : Int), .slice (some ⟨pb, po, none⟩) P.length pc, .slice (some ⟨lb, lo, none⟩) L.length lc], .slice (some ⟨wb1, 0, none⟩) (G (k + 1)).W.length wc1, i64 (u : Int)] w' (Ret (i64 hh) w') from by
           have h := usage_Held t g lm r s K P pb po pc (some ⟨lb, lo, none⟩) L.length lc (G (k + 1)).W wb1 0 wc1 (P.length * (6 + 2 * s)) u w' hs8 (by omega) (by omega) (by omega) HPR.out.ok rfl (by rw [hwl1]; exact Nat.le_refl _) hWm (HPK.out w' hk) (HCK.out w' hk) hu2 HWC.out
           have e := hv0.1
           rw [HPP.out] at e
           rw [show wrap64 (rd (G (k + 1)).W (u * (6 + 2 * s)) - leftN (G (k + 1)).W (u * (6 + 2 * s) + 1) s - usedN P (G (k + 1)).W (P.length * (6 + 2 * s)) K u) = hh from e] at h
           exact h)
          obtain ⟨us, hus⟩ : ∃ x, x = usedN P (G (k + 1)).W (P.length * (6 + 2 * s)) K u := ⟨_, rfl⟩
          have HUV := hid (fun (w' : World) (hk : Keep0 w20 w') => show Calls Tryz.prog 15 #[.agg #[i64 t, i64 (s : Int), i64 g, i64 lm, i64 r, i64 (K : Int), .slice (some ⟨pb, po, none⟩) P.length pc, .slice (some ⟨lb, lo, none⟩) L.length lc], .slice (some ⟨wb1, 0, none⟩) (G (k + 1)).W.length wc1, i64 (u : Int)] w' (Ret (i64 us) w') from by
           have h := usage_Used t g lm r s K P pb po pc (some ⟨lb, lo, none⟩) L.length lc (G (k + 1)).W wb1 0 wc1 (P.length * (6 + 2 * s)) u w' hs8 (by omega) (by omega) (by omega) HPR.out.ok rfl (by rw [hwl1]; exact Nat.le_refl _) hWm (HPK.out w' hk) (HCK.out w' hk)
           rw [← hus] at h
           exact h)
          obtain ⟨lx, hlx⟩ : ∃ x, x = rd (G (k + 1)).W li := ⟨_, rfl⟩
          have HLC := hid (fun (w' : World) (hk : Keep0 w20 w') => show w'.cell? ⟨wb1, li, none⟩ = some (i64 lx) from by have h := HCK.out w' hk li hliq; rw [Nat.zero_add, ← hlx] at h; exact h)
          have hux : us ≤ lx := by have h := hv0.2; rw [HPP.out] at h; rw [hus, hlx, hli]; exact h
          have hliI : (li : Int) = (u : Int) * (6 + 2 * (s : Int)) := by rw [hli]; push_cast; rfl
          have HLI := hid hliI
          have HLM := hid (fun (w' : World) => show Calls Tryz.prog 16 #[.agg #[i64 t, i64 (s : Int), i64 g, i64 lm, i64 r, i64 (K : Int), .slice (some ⟨pb, po, none⟩) P.length pc, .slice (some ⟨lb, lo, none⟩) L.length lc], i64 (u : Int)] w' (Ret (i64 (li : Int)) w') from by rw [HLI.out]; exact ref_Limit t (s : Int) g lm r (K : Int) (some ⟨pb, po, none⟩) P.length pc (some ⟨lb, lo, none⟩) L.length lc (u : Int) w' (by omega) (by omega) (by omega) (by omega))
          have hpn : p.n = n1 := by rw [HPP.out]
          have hplm : p.lm = lm := by rw [HPP.out]
          have hpm : u ∈ p.path ↔ undP P lv u = true := by rw [HPP.out]; show u ∈ pathN P lv ↔ _; unfold undP; simp
          rw [hpn, hplm] at hb0
          have HB0 := hid hb0
          have HPM := hid hpm
          obtain ⟨NW, hNW⟩ : ∃ x, x = (G (k + 1)).W.length := ⟨_, rfl⟩
          rw [← hNW] at hliq hWm
          have HBM2 := hid (show Blk w20 m 42 [.slice (some ⟨wb1, 0, none⟩) NW wc1, lv1] from by rw [hNW]; exact HBM.out)
          rw [← hNW] at HHV HUV
          clear hb0 hpm hpn hplm hv0 hli hliI HCK HPK hlx hus hNW HBM HWC hwl1
          go_upto_region 16 with fail
          clear qb
          apply wp_region_text (WI := fun S wx => Keep0 w20 wx) (by kernel_rfl) (by kernel_rfl)
          case hob =>
           apply Oblig.cons
           case h =>
            intro S w1 hwi hSi hd hcl
            apply StepOk.intro
            intro K hK
            go_simp
            apply hK
            · rfl
            · conv => (lhs; whnf)
            · exact hwi
           simp only [put_lit, put_none]
           try dsimp only [List.set_cons_succ, List.set_cons_zero]
           apply Oblig.cons
           case h =>
            intro S w1 hwi hSi hd hcl
            apply StepOk.intro
            intro K hK
            have qb := (hwi.blk HBX.out (fun h => h)).k14
            go_simp
            apply hK
            · rfl
            · conv => (lhs; whnf)
            · exact hwi
           simp only [put_lit, put_none]
           try dsimp only [List.set_cons_succ, List.set_cons_zero]
           iterate 3
            apply Oblig.cons
            case h =>
             intro S w1 hwi hSi hd hcl
             apply StepOk.intro
             intro K hK
             go_simp
             apply hK
             · rfl
             · conv => (lhs; whnf)
             · exact hwi
            simp only [put_lit, put_none]
            try dsimp only [List.set_cons_succ, List.set_cons_zero]
           apply Oblig.cons
           case h =>
            intro S w1 hwi hSi hd hcl
            apply StepOk.intro
            intro K hK
            have qb := (hwi.blk HBX.out (fun h => h)).k14
            have qm := (hwi.blk HBM2.out (fun h => h)).k2
            go_simp
            apply hK
            · rfl
            · conv => (lhs; whnf)
            · exact hwi
           simp only [put_lit, put_none]
           try dsimp only [List.set_cons_succ, List.set_cons_zero]
           apply Oblig.cons
           case h =>
            intro S w1 hwi hSi hd hcl
            apply StepOk.intro
            intro K hK
            go_simp
            apply hK
            · rfl
            · conv => (lhs; whnf)
            · exact hwi
           simp only [put_lit, put_none]
           try dsimp only [List.set_cons_succ, List.set_cons_zero]
           apply Oblig.cons
           case h =>
            intro S w1 hwi hSi hd hcl
            apply StepOk.intro
            intro K hK
            go_simp
            refine (HHV.out _ hwi).mono ?_
            rintro e w2 ⟨rfl, hk⟩
            apply hK
            · rfl
            · conv => (lhs; whnf)
            · exact Keep0.step hwi hk
           simp only [put_lit, put_none]
           try dsimp only [List.set_cons_succ, List.set_cons_zero]
           apply Oblig.cons
           case h =>
            intro S w1 hwi hSi hd hcl
            apply StepOk.intro
            intro K hK
            go_simp
            apply hK
            · rfl
            · conv => (lhs; whnf)
            · exact hwi
           simp only [put_lit, put_none]
           try dsimp only [List.set_cons_succ, List.set_cons_zero]
           exact Oblig.nil
          case h0 =>
           exact (Keep.refl _ _).drew
          case hend =>
           intro S wx hwi hall
           have HK1 := hid hwi
           obtain ⟨w21, hw21⟩ : ∃ v, v = wx := ⟨_, rfl⟩
           rw [← hw21] at HK1 ⊢
           clear hwi hall hw21 HHV
           have qb := (HK1.out.blk HBX.out (fun h => h)).k14
           go_wp2_with fail
           refine Calls.mono (ref_Under t (s : Int) g lm r (K : Int) P pb po pc (some ⟨lb, lo, none⟩) L.length lc lv u w21 (by omega) HPR.out.ok hlv1 (row_kept (Keep0.step HS.out.k HK1.out) HP.out)) ?_
           rintro e w22 ⟨rfl, hk⟩
           have HK2 := hid (Keep0.step HK1.out hk)
           clear hk qb HK1
           have qb := (HK2.out.blk HBX.out (fun h => h)).k14
           have hd3 : decide (lx < us) = false := by simp; omega
           cases hud : undP P lv u with
           | true =>
            have hb1 := HB0.out
            rw [if_pos (HPM.out.2 hud)] at hb1
            clear hud HPM HB0
            have hd1 : decide (hh < 0) = false := by simp; omega
            have y1 : IntKind.i64.wrap (n1 + lm) = n1 + lm := IntWalk.i64_in _ (by omega)
            have hd2 : decide (n1 + lm < hh) = false := by simp; omega
            go_upto_region 20 with fail
            clear qb
            apply wp_region_text (WI := fun S wx => Keep0 w20 wx) (by kernel_rfl) (by kernel_rfl)
            case hob =>
             iterate 9
              apply Oblig.cons
              case h =>
               intro S w1 hwi hSi hd hcl
               apply StepOk.intro
               intro K hK
               go_simp
               apply hK
               · rfl
               · conv => (lhs; whnf)
               · exact hwi
              simp only [put_lit, put_none]
              try dsimp only [List.set_cons_succ, List.set_cons_zero]
             apply Oblig.cons
             case h =>
              intro S w1 hwi hSi hd hcl
              apply StepOk.intro
              intro K hK
              have qb := (hwi.blk HBX.out (fun h => h)).k14
              go_simp
              apply hK
              · rfl
              · conv => (lhs; whnf)
              · exact hwi
             simp only [put_lit, put_none]
             try dsimp only [List.set_cons_succ, List.set_cons_zero]
             iterate 3
              apply Oblig.cons
              case h =>
               intro S w1 hwi hSi hd hcl
               apply StepOk.intro
               intro K hK
               go_simp
               apply hK
               · rfl
               · conv => (lhs; whnf)
               · exact hwi
              simp only [put_lit, put_none]
              try dsimp only [List.set_cons_succ, List.set_cons_zero]
             apply Oblig.cons
             case h =>
              intro S w1 hwi hSi hd hcl
              apply StepOk.intro
              intro K hK
              have qb := (hwi.blk HBX.out (fun h => h)).k14
              have qm := (hwi.blk HBM2.out (fun h => h)).k2
              go_simp
              apply hK
              · rfl
              · conv => (lhs; whnf)
              · exact hwi
             simp only [put_lit, put_none]
             try dsimp only [List.set_cons_succ, List.set_cons_zero]
             apply Oblig.cons
             case h =>
              intro S w1 hwi hSi hd hcl
              apply StepOk.intro
              intro K hK
              go_simp
              apply hK
              · rfl
              · conv => (lhs; whnf)
              · exact hwi
             simp only [put_lit, put_none]
             try dsimp only [List.set_cons_succ, List.set_cons_zero]
             apply Oblig.cons
             case h =>
              intro S w1 hwi hSi hd hcl
              apply StepOk.intro
              intro K hK
              go_simp
              refine (HUV.out _ hwi).mono ?_
              rintro e w2 ⟨rfl, hk⟩
              apply hK
              · rfl
              · conv => (lhs; whnf)
              · exact Keep0.step hwi hk
             simp only [put_lit, put_none]
             try dsimp only [List.set_cons_succ, List.set_cons_zero]
             iterate 3
              apply Oblig.cons
              case h =>
               intro S w1 hwi hSi hd hcl
               apply StepOk.intro
               intro K hK
               go_simp
               apply hK
               · rfl
               · conv => (lhs; whnf)
               · exact hwi
              simp only [put_lit, put_none]
              try dsimp only [List.set_cons_succ, List.set_cons_zero]
             apply Oblig.cons
             case h =>
              intro S w1 hwi hSi hd hcl
              apply StepOk.intro
              intro K hK
              have qb := (hwi.blk HBX.out (fun h => h)).k14
              have qm := (hwi.blk HBM2.out (fun h => h)).k2
              go_simp
              apply hK
              · rfl
              · conv => (lhs; whnf)
              · exact hwi
             simp only [put_lit, put_none]
             try dsimp only [List.set_cons_succ, List.set_cons_zero]
             apply Oblig.cons
             case h =>
              intro S w1 hwi hSi hd hcl
              apply StepOk.intro
              intro K hK
              go_simp
              apply hK
              · rfl
              · conv => (lhs; whnf)
              · exact hwi
             simp only [put_lit, put_none]
             try dsimp only [List.set_cons_succ, List.set_cons_zero]
             apply Oblig.cons
             case h =>
              intro S w1 hwi hSi hd hcl
              apply StepOk.intro
              intro K hK
              have qb := (hwi.blk HBX.out (fun h => h)).k14
              go_simp
              apply hK
              · rfl
              · conv => (lhs; whnf)
              · exact hwi
             simp only [put_lit, put_none]
             try dsimp only [List.set_cons_succ, List.set_cons_zero]
             apply Oblig.cons
             case h =>
              intro S w1 hwi hSi hd hcl
              apply StepOk.intro
              intro K hK
              go_simp
              apply hK
              · rfl
              · conv => (lhs; whnf)
              · exact hwi
             simp only [put_lit, put_none]
             try dsimp only [List.set_cons_succ, List.set_cons_zero]
             apply Oblig.cons
             case h =>
              intro S w1 hwi hSi hd hcl
              apply StepOk.intro
              intro K hK
              go_simp
              refine (HLM.out _).mono ?_
              rintro e w2 ⟨rfl, hk⟩
              apply hK
              · rfl
              · conv => (lhs; whnf)
              · exact Keep0.step hwi hk
             simp only [put_lit, put_none]
             try dsimp only [List.set_cons_succ, List.set_cons_zero]
             iterate 2
              apply Oblig.cons
              case h =>
               intro S w1 hwi hSi hd hcl
               apply StepOk.intro
               intro K hK
               have qb := (hwi.blk HBX.out (fun h => h)).k14
               have qm := (hwi.blk HBM2.out (fun h => h)).k2
               have ql := HLC.out _ hwi
               go_simp
               apply hK
               · rfl
               · conv => (lhs; whnf)
               · exact hwi
              simp only [put_lit, put_none]
              try dsimp only [List.set_cons_succ, List.set_cons_zero]
             iterate 2
              apply Oblig.cons
              case h =>
               intro S w1 hwi hSi hd hcl
               apply StepOk.intro
               intro K hK
               go_simp
               apply hK
               · rfl
               · conv => (lhs; whnf)
               · exact hwi
              simp only [put_lit, put_none]
              try dsimp only [List.set_cons_succ, List.set_cons_zero]
             exact Oblig.nil
            case h0 =>
             exact HK2.out.drew
            case hend =>
             intro S wx hwi hall
             have HS2 := hid (St.keep HS.out hwi)
             obtain ⟨w23, hw23⟩ : ∃ v, v = wx := ⟨_, rfl⟩
             rw [← hw23] at HS2 ⊢
             clear hwi hall hw23 HK2 HBX HBM2 HCW HUV HLC HLM HS
             go_wp2_with fail
             go_roundw
             case rel => exact ⟨u + 1, by omega, by go_num, HS2.out⟩
             case measure => simp [intOf]; omega
           | false =>
            have hb1 := HB0.out
            rw [if_neg (fun h => by rw [HPM.out.1 h] at hud; cases hud)] at hb1
            clear hud HPM HB0
            have hd1 : decide (hh < 0) = false := by simp; omega
            have hd2 : decide (0 < hh) = false := by simp; omega
            go_upto_region 20 with fail
            clear qb
            apply wp_region_text (WI := fun S wx => Keep0 w20 wx) (by kernel_rfl) (by kernel_rfl)
            case hob =>
             iterate 9
              apply Oblig.cons
              case h =>
               intro S w1 hwi hSi hd hcl
               apply StepOk.intro
               intro K hK
               go_simp
               apply hK
               · rfl
               · conv => (lhs; whnf)
               · exact hwi
              simp only [put_lit, put_none]
              try dsimp only [List.set_cons_succ, List.set_cons_zero]
             apply Oblig.cons
             case h =>
              intro S w1 hwi hSi hd hcl
              apply StepOk.intro
              intro K hK
              have qb := (hwi.blk HBX.out (fun h => h)).k14
              go_simp
              apply hK
              · rfl
              · conv => (lhs; whnf)
              · exact hwi
             simp only [put_lit, put_none]
             try dsimp only [List.set_cons_succ, List.set_cons_zero]
             iterate 3
              apply Oblig.cons
              case h =>
               intro S w1 hwi hSi hd hcl
               apply StepOk.intro
               intro K hK
               go_simp
               apply hK
               · rfl
               · conv => (lhs; whnf)
               · exact hwi
              simp only [put_lit, put_none]
              try dsimp only [List.set_cons_succ, List.set_cons_zero]
             apply Oblig.cons
             case h =>
              intro S w1 hwi hSi hd hcl
              apply StepOk.intro
              intro K hK
              have qb := (hwi.blk HBX.out (fun h => h)).k14
              have qm := (hwi.blk HBM2.out (fun h => h)).k2
              go_simp
              apply hK
              · rfl
              · conv => (lhs; whnf)
              · exact hwi
             simp only [put_lit, put_none]
             try dsimp only [List.set_cons_succ, List.set_cons_zero]
             apply Oblig.cons
             case h =>
              intro S w1 hwi hSi hd hcl
              apply StepOk.intro
              intro K hK
              go_simp
              apply hK
              · rfl
              · conv => (lhs; whnf)
              · exact hwi
             simp only [put_lit, put_none]
             try dsimp only [List.set_cons_succ, List.set_cons_zero]
             apply Oblig.cons
             case h =>
              intro S w1 hwi hSi hd hcl
              apply StepOk.intro
              intro K hK
              go_simp
              refine (HUV.out _ hwi).mono ?_
              rintro e w2 ⟨rfl, hk⟩
              apply hK
              · rfl
              · conv => (lhs; whnf)
              · exact Keep0.step hwi hk
             simp only [put_lit, put_none]
             try dsimp only [List.set_cons_succ, List.set_cons_zero]
             iterate 3
              apply Oblig.cons
              case h =>
               intro S w1 hwi hSi hd hcl
               apply StepOk.intro
               intro K hK
               go_simp
               apply hK
               · rfl
               · conv => (lhs; whnf)
               · exact hwi
              simp only [put_lit, put_none]
              try dsimp only [List.set_cons_succ, List.set_cons_zero]
             apply Oblig.cons
             case h =>
              intro S w1 hwi hSi hd hcl
              apply StepOk.intro
              intro K hK
              have qb := (hwi.blk HBX.out (fun h => h)).k14
              have qm := (hwi.blk HBM2.out (fun h => h)).k2
              go_simp
              apply hK
              · rfl
              · conv => (lhs; whnf)
              · exact hwi
             simp only [put_lit, put_none]
             try dsimp only [List.set_cons_succ, List.set_cons_zero]
             apply Oblig.cons
             case h =>
              intro S w1 hwi hSi hd hcl
              apply StepOk.intro
              intro K hK
              go_simp
              apply hK
              · rfl
              · conv => (lhs; whnf)
              · exact hwi
             simp only [put_lit, put_none]
             try dsimp only [List.set_cons_succ, List.set_cons_zero]
             apply Oblig.cons
             case h =>
              intro S w1 hwi hSi hd hcl
              apply StepOk.intro
              intro K hK
              have qb := (hwi.blk HBX.out (fun h => h)).k14
              go_simp
              apply hK
              · rfl
              · conv => (lhs; whnf)
              · exact hwi
             simp only [put_lit, put_none]
             try dsimp only [List.set_cons_succ, List.set_cons_zero]
             apply Oblig.cons
             case h =>
              intro S w1 hwi hSi hd hcl
              apply StepOk.intro
              intro K hK
              go_simp
              apply hK
              · rfl
              · conv => (lhs; whnf)
              · exact hwi
             simp only [put_lit, put_none]
             try dsimp only [List.set_cons_succ, List.set_cons_zero]
             apply Oblig.cons
             case h =>
              intro S w1 hwi hSi hd hcl
              apply StepOk.intro
              intro K hK
              go_simp
              refine (HLM.out _).mono ?_
              rintro e w2 ⟨rfl, hk⟩
              apply hK
              · rfl
              · conv => (lhs; whnf)
              · exact Keep0.step hwi hk
             simp only [put_lit, put_none]
             try dsimp only [List.set_cons_succ, List.set_cons_zero]
             iterate 2
              apply Oblig.cons
              case h =>
               intro S w1 hwi hSi hd hcl
               apply StepOk.intro
               intro K hK
               have qb := (hwi.blk HBX.out (fun h => h)).k14
               have qm := (hwi.blk HBM2.out (fun h => h)).k2
               have ql := HLC.out _ hwi
               go_simp
               apply hK
               · rfl
               · conv => (lhs; whnf)
               · exact hwi
              simp only [put_lit, put_none]
              try dsimp only [List.set_cons_succ, List.set_cons_zero]
             iterate 2
              apply Oblig.cons
              case h =>
               intro S w1 hwi hSi hd hcl
               apply StepOk.intro
               intro K hK
               go_simp
               apply hK
               · rfl
               · conv => (lhs; whnf)
               · exact hwi
              simp only [put_lit, put_none]
              try dsimp only [List.set_cons_succ, List.set_cons_zero]
             exact Oblig.nil
            case h0 =>
             exact HK2.out.drew
            case hend =>
             intro S wx hwi hall
             have HS2 := hid (St.keep HS.out hwi)
             obtain ⟨w23, hw23⟩ : ∃ v, v = wx := ⟨_, rfl⟩
             rw [← hw23] at HS2 ⊢
             clear hwi hall hw23 HK2 HBX HBM2 HCW HUV HLC HLM HS
             go_wp2_with fail
             go_roundw
             case rel => exact ⟨u + 1, by omega, by go_num, HS2.out⟩
             case measure => simp [intOf]; omega
        · obtain rfl : u = P.length := by omega
          cases sb with
          | true =>
           have hv0 := held_hold HP12.out (by rw [HPP.out]; exact HPR.out) (by rw [HPP.out]) HRK.out HCZ.out lv (by rw [HPP.out]; exact hlv1)
           have h60 := hold12_end (p := p) (t := G (k + 1)) (of_decide_eq_true HST.out.symm) lv
           rw [h60] at hv0
           have HHV := hid (fun (w' : World) (hk : Keep0 w20 w') => show Calls Tryz.prog 13 #[.agg #[i64 t, i64 (s : Int), i64 g, i64 lm, i64 r, i64 (K : Int), .slice (some ⟨pb, po, none⟩) P.length pc, .slice (some ⟨lb, lo, none⟩) L.length lc], .slice (some ⟨wb1, 0, none⟩) (G (k + 1)).W.length wc1, i64 (lv : Int)] w' (Ret (i64 0) w') from by
            have h := usage_Held t g lm r s K P pb po pc (some ⟨lb, lo, none⟩) L.length lc (G (k + 1)).W wb1 0 wc1 (P.length * (6 + 2 * s)) lv w' hs8 (by omega) (by omega) (by omega) HPR.out.ok rfl (by rw [hwl1]; exact Nat.le_refl _) (by rw [hwl1]; unfold q12; have h9 : P.length * (6 + 2 * s) ≤ 12 * 22 := Nat.mul_le_mul hpb.2 (by omega); omega) (row_kept (Keep0.step HS.out.k hk) HP.out) (fun i hi => (cell_old hk (by have := World.block_lt_of_cell? _ _ (HCW.out i hi); simpa using this) (fun h => h) _).trans (HCW.out i hi)) hlv1 HWC.out
            have e := hv0.1
            rw [HPP.out] at e
            rw [show wrap64 (rd (G (k + 1)).W (lv * (6 + 2 * s)) - leftN (G (k + 1)).W (lv * (6 + 2 * s) + 1) s - usedN P (G (k + 1)).W (P.length * (6 + 2 * s)) K lv) = 0 from e] at h
            exact h)
           obtain ⟨NW, hNW⟩ : ∃ x, x = (G (k + 1)).W.length := ⟨_, rfl⟩
           have HBM2 := hid (show Blk w20 m 42 [.slice (some ⟨wb1, 0, none⟩) NW wc1, lv1] from by rw [hNW]; exact HBM.out)
           rw [← hNW] at HHV
           clear hv0 h60 HBM hwl1 hNW HWC HGN HGL HGR HCW
           go_upto_region 23 with fail
           clear qb
           apply wp_region_text (WI := fun S wx => Keep0 w20 wx) (by kernel_rfl) (by kernel_rfl)
           case hob =>
            iterate 3
             apply Oblig.cons
             case h =>
              intro S w1 hwi hSi hd hcl
              apply StepOk.intro
              intro K hK
              go_simp
              apply hK
              · rfl
              · conv => (lhs; whnf)
              · exact hwi
             simp only [put_lit, put_none]
             try dsimp only [List.set_cons_succ, List.set_cons_zero]
            apply Oblig.cons
            case h =>
             intro S w1 hwi hSi hd hcl
             apply StepOk.intro
             intro K hK
             have qb := (hwi.blk HBX.out (fun h => h)).k14
             go_simp
             apply hK
             · rfl
             · conv => (lhs; whnf)
             · exact hwi
            simp only [put_lit, put_none]
            try dsimp only [List.set_cons_succ, List.set_cons_zero]
            iterate 3
             apply Oblig.cons
             case h =>
              intro S w1 hwi hSi hd hcl
              apply StepOk.intro
              intro K hK
              go_simp
              apply hK
              · rfl
              · conv => (lhs; whnf)
              · exact hwi
             simp only [put_lit, put_none]
             try dsimp only [List.set_cons_succ, List.set_cons_zero]
            apply Oblig.cons
            case h =>
             intro S w1 hwi hSi hd hcl
             apply StepOk.intro
             intro K hK
             have qb := (hwi.blk HBX.out (fun h => h)).k14
             have qm := (hwi.blk HBM2.out (fun h => h)).k2
             go_simp
             apply hK
             · rfl
             · conv => (lhs; whnf)
             · exact hwi
            simp only [put_lit, put_none]
            try dsimp only [List.set_cons_succ, List.set_cons_zero]
            apply Oblig.cons
            case h =>
             intro S w1 hwi hSi hd hcl
             apply StepOk.intro
             intro K hK
             go_simp
             apply hK
             · rfl
             · conv => (lhs; whnf)
             · exact hwi
            simp only [put_lit, put_none]
            try dsimp only [List.set_cons_succ, List.set_cons_zero]
            apply Oblig.cons
            case h =>
             intro S w1 hwi hSi hd hcl
             apply StepOk.intro
             intro K hK
             go_simp
             refine (HHV.out _ hwi).mono ?_
             rintro e w2 ⟨rfl, hk⟩
             apply hK
             · rfl
             · conv => (lhs; whnf)
             · exact Keep0.step hwi hk
            simp only [put_lit, put_none]
            try dsimp only [List.set_cons_succ, List.set_cons_zero]
            iterate 3
             apply Oblig.cons
             case h =>
              intro S w1 hwi hSi hd hcl
              apply StepOk.intro
              intro K hK
              go_simp
              apply hK
              · rfl
              · conv => (lhs; whnf)
              · exact hwi
             simp only [put_lit, put_none]
             try dsimp only [List.set_cons_succ, List.set_cons_zero]
            exact Oblig.nil
           case h0 =>
            exact (Keep.refl _ _).drew
           case hend =>
            intro S wx hwi hall
            have HKX := hid hwi
            clear hwi hall
            go_wp2_with fail
            go_ret
            exact ⟨rfl, Keep0.step HS.out.k HKX.out⟩
          | false =>
           go_wp2_with fail
           go_roundw
           case rel => exact ⟨k + 1, by omega, by go_num, HS.out⟩
           case measure => simp [intOf]; omega
     · obtain rfl : k = 400 := by omega
       go_wp2_with fail
       go_ret
       exact ⟨rfl, HS.out.k⟩
end Go.Proofs.YthaceckccobgeaaGreat

namespace Go.Proofs.YthaceckccobgeaaGreat
open Go.ChangeShapes Go.WideShapes Go.ChangeAt Go.RowKit
set_option linter.unusedVariables false
set_option linter.unusedSimpArgs false
namespace usageWay
theorem own : ownKnob Tryz.prog.godebug = none := by kernel_rfl
theorem laidOut : laidOutB Tryz.prog = true := by kernel_rfl
set_option maxRecDepth 100000 in
theorem lifted (os : Os) (started : os.Started) (H : Type) (enc : TypeId × Value → H) :
 ReturnsInHanded {} Tryz.checked os 3 .any (Rows.usageWaySpec.pre6 enc Tryz.prog Tryz.f3 Rows.usageWayRow.domain false) (Rows.usageWaySpec.post enc Tryz.prog Tryz.f3 false true false false) := by
 refine returnsInHanded_of_change_sized (C := Tryz.checked) own started (by kernel_rfl) Tryz.func3
  (ChangeSpec.witness6 (enc := enc) (C := Tryz.checked) false ⟨#[], #[.agg #[.int .i64 0, .int .i64 0, .int .i64 0, .int .i64 0, .int .i64 0, .int .i64 0, .slice none 0 0, .slice none 0 0, .int .u8 0, .int .u32 0, .int .u16 0, .slice none 0 0, .slice none 0 0, .slice none 0 0], .slice none 0 0], []⟩ 8 (by kernel_rfl) (by kernel_rfl) (by kernel_rfl) (by kernel_rfl)) ?_
 intro W base args ds gs before hval0 hW hcnd hsz0 _
 have hval : ∀ (j : Nat) t v, Tryz.f3.params[j]? = some t → args[j]? = some v → Value.okWide Tryz.prog W .any base t v := hval0
 have hW' := hW
 obtain ⟨p, q, hA0, hV, rfl, hfz, hnd⟩ := hW
 have hA : DataW.TrodAll enc Tryz.prog W 0 (fun _ => true) true Tryz.f3.params.toList args.toList ds p := hA0
 rw [Tryz.params3] at hA hval
 obtain ⟨v0, vs0, d0, ds0, p0, q0, hargs, rfl, rfl, h0, r0⟩ := trodAll_cons hA
 obtain ⟨v1, vs1, d1, ds1, p1, q1, rfl, rfl, rfl, h1, r1⟩ := trodAll_cons r0
 obtain ⟨rfl, rfl, rfl⟩ := trodAll_nil r1
 obtain rfl : args = #[v0, v1] := by cases args; simp_all
 obtain ⟨rfl, rfl⟩ := trodVars_none hV
 have lt0 : ∀ x ∈ p0, x.block < W.heap.size := by obtain ⟨m, hm⟩ := h0; exact DataW.trod_lt m _ _ _ hm
 have lt1 : ∀ x ∈ p1, x.block < W.heap.size := by obtain ⟨m, hm⟩ := h1; exact DataW.trod_lt m _ _ _ hm
 refine (usageWay_walk (ask_open (hval 0 31 v0 rfl rfl) h0) (u16r_open (hval 1 32 v1 rfl rfl) h1)).mono fun e W' ⟨he, kp⟩ => ?_
 have bel := kp.below
 subst he
 exact ⟨_, rfl, _, _, _, [], _, [], hW', trodAll_mk1 (shut_bool Tryz.underlying4 _), (trodAll_cons_mk (Below.trod laidOut (by kernel_rfl) (of_decide_eq_true (by kernel_rfl)) h0 bel lt0) (trodAll_cons_mk (Below.trod laidOut (by kernel_rfl) (of_decide_eq_true (by kernel_rfl)) h1 bel lt1) trodAll_mk0)), rfl, bel.frame _, fun h => by cases h⟩
theorem over : Rows.usageWayRow.holds Tryz.pinned (OpenSpec.ofChange Rows.usageWaySpec) :=
 OpenClaim.holds_of_wide 3 Tryz.f3 rfl rfl rfl rfl rfl rfl rfl ⟨rfl, rfl, rfl, rfl, rfl⟩ rfl rfl rfl rfl rfl (by kernel_rfl) Tryz.func3 (by kernel_rfl)
  (of_decide_eq_true (by kernel_rfl)) (by unfold Func.isWrapper; first | (rw [if_pos (by decide +kernel)]; kernel_rfl) | (rw [if_neg (by decide +kernel)]; exact ⟨rfl, rfl⟩))
  (fun os started H enc _ => lifted os started H enc)
end usageWay
theorem usageWay_holds : Rows.UsageWaySaid := usageWay.over
end Go.Proofs.YthaceckccobgeaaGreat
