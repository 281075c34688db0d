/- UsageTells: what any words say of each ticket and node, and what both machines do, are the document's. -/
import Derived.Test.YthaceckccobgeaaGreatZUsageTells13
import Derived.Test.YthaceckccobgeaaGreatZUsageTells14
namespace Go.Proofs.YthaceckccobgeaaGreat
open Go.RowKit
set_option linter.unusedVariables false
set_option linter.unusedSimpArgs false
set_option maxRecDepth 100000
set_option maxHeartbeats 16000000 in
theorem usageTells_walk {w : World} {v0 v1 : Value} (hc : ConfIn w v0) (hl : ∃ l, KsIn .i64 w v1 l ∧ ∀ i, i < l.length → -9223372036854775808 ≤ rd l i ∧ rd l i ≤ 9223372036854775807) (nd : Int) (hnd : (Lit.int .u8 nd).wf = true) (tk : Int) (htk : (Lit.int .u8 tk).wf = true) :
 Calls Tryz.prog 5 #[v0, v1, .int .u8 nd, .int .u8 tk] w (Ret (.bool true) w) := by
 have hnd := bounds_u8 hnd
 have htk := bounds_u8 htk
 obtain ⟨t, s0, g, lm, r, k0, P, L, PA, pc, LA, lc, rfl, hP, hL, hp1, hl1⟩ := hc
 obtain ⟨Vl, ⟨VA, vc, rfl, hv63, hV⟩, hVB⟩ := hl
 have HP0 := hid hP
 have HL0 := hid hL
 have HV := hid hV
 clear hP hL hV
 go_enter Tryz.func5, Tryz.ntmps5
 go_wp2_with fail
 obtain ⟨w0, hw0⟩ : ∃ v, v = w.alloc (.cells #[i64 t, i64 s0, i64 g, i64 lm, i64 r, i64 k0, .slice PA P.length pc, .slice LA L.length lc] 24) := ⟨_, rfl⟩
 rw [← hw0]
 have hs := St.nw (St.nil (Keep.refl _ w)) (Nw.blk (w' := w0) (b := w.heap.size) (T := 24) (cs := [i64 t, i64 s0, i64 g, i64 lm, i64 r, i64 k0, .slice PA P.length pc, .slice LA L.length lc]) (by rw [hw0]; exact Blk.made rfl rfl) (by rw [hw0]; exact (Keep.refl _ _).alloc _) (Nat.le_refl _))
 have HS := hid hs
 clear hs hw0
 refine Calls.mono (law14_head _) ?_
 rintro e w1 ⟨rfl, hk⟩
 have hs := St.keep (show St w [Ass.blk w.heap.size 24 [i64 t, i64 s0, i64 g, i64 lm, i64 r, i64 k0, .slice PA P.length pc, .slice LA L.length lc]] _ from by repeat (with_reducible first | exact HS.out | apply St.alloc | apply St.drewN | apply St.drew)) hk
 clear HS
 have HS := hid (show St w [Ass.blk w.heap.size 24 [i64 t, i64 s0, i64 g, i64 lm, i64 r, i64 k0, .slice PA P.length pc, .slice LA L.length lc]] w1 from hs)
 clear hs hk
 obtain ⟨_, ⟨hb, _⟩, _⟩ := St.get (show St w [Ass.blk w.heap.size 24 [i64 t, i64 s0, i64 g, i64 lm, i64 r, i64 k0, .slice PA P.length pc, .slice LA L.length lc]] w1 from (show St w [Ass.blk w.heap.size 24 [i64 t, i64 s0, i64 g, i64 lm, i64 r, i64 k0, .slice PA P.length pc, .slice LA L.length lc]] w1 from by repeat (with_reducible first | exact HS.out | apply St.alloc | apply St.drewN | apply St.drew)))
 have qb := hb.k8
 clear hb
 go_wp2_with fail
 cases hgr : greatB P.length L.length with
 | true =>
  refine Calls.mono (law_Great t s0 g lm r k0 PA P.length pc LA L.length lc _ hp1 hl1) ?_
  rintro e w2 ⟨rfl, hk⟩
  have hs := St.keep HS.out hk
  clear HS hk qb
  have HS := hid hs
  clear hs
  rw [hgr]
  clear hgr
  go_wp2_with fail
  go_ret
  exact ⟨rfl, HS.out.k⟩
 | false =>
  have hlb : P.length ≤ 100 ∧ L.length ≤ 100 := by simp [greatB] at hgr; omega
  cases hri : rightB t s0 g lm r k0 P L with
  | false =>
   refine Calls.mono (law_Great t s0 g lm r k0 PA P.length pc LA L.length lc _ hp1 hl1) ?_
   rintro e w2 ⟨rfl, hk⟩
   have hs := St.keep HS.out hk
   clear HS hk qb
   have HS := hid hs
   clear hs
   rw [hgr]
   clear hgr
   obtain ⟨_, ⟨hb, _⟩, _⟩ := St.get (show St w [Ass.blk w.heap.size 24 [i64 t, i64 s0, i64 g, i64 lm, i64 r, i64 k0, .slice PA P.length pc, .slice LA L.length lc]] w2 from (show St w [Ass.blk w.heap.size 24 [i64 t, i64 s0, i64 g, i64 lm, i64 r, i64 k0, .slice PA P.length pc, .slice LA L.length lc]] w2 from by repeat (with_reducible first | exact HS.out | apply St.alloc | apply St.drewN | apply St.drew)))
   have qb := hb.k8
   clear hb
   go_wp2_with fail
   refine Calls.mono (ref_Right_all14 t s0 g lm r k0 PA P pc LA L lc _ (HP0.out.keep HS.out.k) (HL0.out.keep HS.out.k) (by omega) (by omega)) ?_
   rintro e w3 ⟨rfl, hk⟩
   have hs := St.keep HS.out hk
   clear HS hk qb
   have HS := hid hs
   clear hs
   rw [hri]
   clear hri
   go_wp2_with fail
   go_ret
   exact ⟨rfl, HS.out.k⟩
  | true =>
   refine Calls.mono (law_Great t s0 g lm r k0 PA P.length pc LA L.length lc _ hp1 hl1) ?_
   rintro e w2 ⟨rfl, hk⟩
   have hs := St.keep HS.out hk
   clear HS hk qb
   have HS := hid hs
   clear hs
   have R := Right.of (show goodB t s0 g lm r k0 P L = true from by unfold goodB; rw [hgr, hri]; rfl)
   rw [hgr]
   clear hgr
   obtain ⟨_, ⟨hb, _⟩, _⟩ := St.get (show St w [Ass.blk w.heap.size 24 [i64 t, i64 s0, i64 g, i64 lm, i64 r, i64 k0, .slice PA P.length pc, .slice LA L.length lc]] w2 from (show St w [Ass.blk w.heap.size 24 [i64 t, i64 s0, i64 g, i64 lm, i64 r, i64 k0, .slice PA P.length pc, .slice LA L.length lc]] w2 from by repeat (with_reducible first | exact HS.out | apply St.alloc | apply St.drewN | apply St.drew)))
   have qb := hb.k8
   clear hb
   go_wp2_with fail
   refine Calls.mono (ref_Right_all14 t s0 g lm r k0 PA P pc LA L lc _ (HP0.out.keep HS.out.k) (HL0.out.keep HS.out.k) (by omega) (by omega)) ?_
   rintro e w3 ⟨rfl, hk⟩
   have hs := St.keep HS.out hk
   clear HS hk qb
   have HS := hid hs
   clear hs
   rw [hri]
   clear hri
   by_cases h100 : 100 < Vl.length
   · go_wp2_with fail
     go_ret
     exact ⟨rfl, HS.out.k⟩
   · skip
     have hvl : Vl.length ≤ 100 := by omega
     clear h100 hv63
     have hsb := R.sb
     have hkb := R.k
     have hpb := R.p
     have HLEN := hid R.len
     have hrb := R.r
     have hlmb := R.l
     obtain ⟨s, rfl⟩ := Int.eq_ofNat_of_zero_le (show 0 ≤ s0 by omega)
     obtain ⟨K, rfl⟩ := Int.eq_ofNat_of_zero_le (show 0 ≤ k0 by omega)
     obtain ⟨pb, po, rfl, hP⟩ := HP0.out.cell (by omega)
     obtain ⟨lb, lo, rfl, hL⟩ := HL0.out.cell (by have := HLEN.out; omega)
     have HP := hid hP
     have HL := hid hL
     clear hP hL HP0 HL0
     have hpz : pb < w.heap.size := by have := World.block_lt_of_cell? _ _ (HP.out 0 (by omega)); simpa using this
     have hlz : lb < w.heap.size := by have := World.block_lt_of_cell? _ _ (HL.out 0 (by have := HLEN.out; omega)); simpa using this
     have HPR := hid (ParR.of_right R)
     have HR := hid R
     clear R
     have hs8 : 1 ≤ s ∧ s ≤ 8 := by omega
     have hK8 : 1 ≤ K ∧ K ≤ 16 := by omega
     clear hsb hkb
     have HFL := hid (fresh14_len s K P.length L)
     obtain ⟨v, hv⟩ : ∃ u : Nat, (u : Int) = nd % (P.length : Int) := ⟨(nd % (P.length : Int)).toNat, Int.toNat_of_nonneg (Int.emod_nonneg _ (by omega))⟩
     have v1 : v < P.length := (by have h9 : (v : Int) < P.length := (by rw [hv]; exact Int.emod_lt_of_pos _ (by omega)); omega)
     have vm : nd.tmod (P.length : Int) = (v : Int) := by rw [hv]; exact Int.tmod_eq_emod_of_nonneg hnd.1
     clear hv
     obtain ⟨kk, hkk⟩ : ∃ u : Nat, (u : Int) = tk % (K : Int) := ⟨(tk % (K : Int)).toNat, Int.toNat_of_nonneg (Int.emod_nonneg _ (by omega))⟩
     have kk1 : kk < K := (by have h9 : (kk : Int) < K := (by rw [hkk]; exact Int.emod_lt_of_pos _ (by omega)); omega)
     have kkm : tk.tmod (K : Int) = (kk : Int) := by rw [hkk]; exact Int.tmod_eq_emod_of_nonneg htk.1
     clear hkk
     have hP0 : ¬ P.length = 0 := by omega
     have hP1 : ¬ P = [] := fun e => hP0 (by rw [e]; rfl)
     have hK0 : ¬ K = 0 := by omega
     obtain ⟨_, ⟨hb, _⟩, _⟩ := St.get (show St w [Ass.blk w.heap.size 24 [i64 t, i64 (s : Int), i64 g, i64 lm, i64 r, i64 (K : Int), .slice (some ⟨pb, po, none⟩) P.length pc, .slice (some ⟨lb, lo, none⟩) L.length lc]] w3 from (show St w [Ass.blk w.heap.size 24 [i64 t, i64 (s : Int), i64 g, i64 lm, i64 r, i64 (K : Int), .slice (some ⟨pb, po, none⟩) P.length pc, .slice (some ⟨lb, lo, none⟩) L.length lc]] w3 from by repeat (with_reducible first | exact HS.out | apply St.alloc | apply St.drewN | apply St.drew)))
     have qb := hb.k8
     clear hb
     have hmq : P.length * (6 + 2 * s) ≤ 264 := (by have h9 : P.length * (6 + 2 * s) ≤ 12 * 22 := Nat.mul_le_mul hpb.2 (by omega); omega)
     go_wp2_with fail
     refine Calls.mono (St.newx (q := fun (x : Nat × Nat) => intsK x.1 x.2 (rawW (freshW s K P.length L) Vl)) (show St w [Ass.blk w.heap.size 24 [i64 t, i64 (s : Int), i64 g, i64 lm, i64 r, i64 (K : Int), .slice (some ⟨pb, po, none⟩) P.length pc, .slice (some ⟨lb, lo, none⟩) L.length lc]] _ from (show St w [Ass.blk w.heap.size 24 [i64 t, i64 (s : Int), i64 g, i64 lm, i64 r, i64 (K : Int), .slice (some ⟨pb, po, none⟩) P.length pc, .slice (some ⟨lb, lo, none⟩) L.length lc]] _ from by repeat (with_reducible first | exact HS.out | apply St.alloc | apply St.drewN | apply St.drew))) (law14_RawK w3 lb lo t (s : Int) g lm r (K : Int) (some ⟨pb, po, none⟩) P.length pc L.length lc L VA Vl vc (by omega) (by omega) (by omega) (by omega) (by omega) (by have := HLEN.out; omega) (fun i hi => row_kept HS.out.k HL.out i (by have := HLEN.out; omega)) (Nat.lt_of_lt_of_le hlz HS.out.k.size) (HV.out.keep HS.out.k) (by omega) (by rw [HFL.out]; omega) (by rw [HFL.out]; omega))) ?_
     rintro e w4 ⟨x, ⟨rfl, hcap⟩, hs⟩
     clear HS
     have HS := hid (show St w [intsK x.1 x.2 (rawW (freshW s K P.length L) Vl), Ass.blk w.heap.size 24 [i64 t, i64 (s : Int), i64 g, i64 lm, i64 r, i64 (K : Int), .slice (some ⟨pb, po, none⟩) P.length pc, .slice (some ⟨lb, lo, none⟩) L.length lc]] w4 from hs)
     clear hs
     clear qb
     obtain ⟨wb, wc⟩ := x
     obtain ⟨q, hq⟩ : ∃ q, q = P.length * (6 + 2 * s) := ⟨_, rfl⟩
     have hfl := HFL.out
     rw [← hq] at hfl hmq
     rw [hfl] at hcap
     have hr9 := raw_bd HR.out hVB
     obtain ⟨WW, hWW⟩ : ∃ V, V = rawW (freshW s K P.length L) Vl := ⟨_, rfl⟩
     rw [← hWW] at hr9
     have HW9 := hid hr9
     clear hr9 hVB
     have hwl : q + 2 * K = WW.length := by rw [hWW]; unfold rawW; rw [rawN_len, hfl]
     rw [hfl]
     simp only at hcap
     have hs := HS.out
     simp only [← hWW] at hs
     clear HS
     have HS := hid (show St w [intsK wb wc WW, Ass.blk w.heap.size 24 [i64 t, i64 (s : Int), i64 g, i64 lm, i64 r, i64 (K : Int), .slice (some ⟨pb, po, none⟩) P.length pc, .slice (some ⟨lb, lo, none⟩) L.length lc]] w4 from hs)
     clear hs hWW hfl
     have HWL := hid hwl
     have HQ := hid hq
     clear hwl hq
     clear HFL
     have hvq : v * (6 + 2 * s) + (6 + 2 * s) ≤ q := (by rw [HQ.out]; have h9 : (v + 1) * (6 + 2 * s) ≤ P.length * (6 + 2 * s) := Nat.mul_le_mul_right _ v1; rw [Nat.add_mul, Nat.one_mul] at h9; omega)
     have hwl := HWL.out
     have hwb : WW.length ≤ 1000000 := by omega
     have hcw := St.cellsK (show St w [intsK wb wc WW, Ass.blk w.heap.size 24 [i64 t, i64 (s : Int), i64 g, i64 lm, i64 r, i64 (K : Int), .slice (some ⟨pb, po, none⟩) P.length pc, .slice (some ⟨lb, lo, none⟩) L.length lc]] w4 from (show St w [intsK wb wc WW, Ass.blk w.heap.size 24 [i64 t, i64 (s : Int), i64 g, i64 lm, i64 r, i64 (K : Int), .slice (some ⟨pb, po, none⟩) P.length pc, .slice (some ⟨lb, lo, none⟩) L.length lc]] w4 from by repeat (with_reducible first | exact HS.out | apply St.alloc | apply St.drewN | apply St.drew)))
     have hbz : wb < w4.heap.size := by have := World.block_lt_of_cell? _ _ (hcw 0 (by omega)); simpa using this
     have HPK := hid (row_kept HS.out.k HP.out)
     have HWC := hid (fun (w' : World) (hk : Keep0 w4 w') (i : Nat) (hi : i < WW.length) => (cell_old hk hbz (fun h => h) _).trans (hcw i hi))
     have HPC := hid (fun (w' : World) (hk : Keep0 w4 w') => row_kept hk HPK.out)
     clear hcw
     have H_L := hid (fun (w' : World) (hk : Keep0 w4 w') => usage_Live t g lm r s K P pb po pc (some ⟨lb, lo, none⟩) L.length lc WW wb 0 wc q kk w' hs8 (by omega) (by omega) (by omega) HQ.out (by omega) (by omega) hwb (HWC.out w' hk))
     have H_RL := hid (fun (w' : World) (hk : Keep0 w4 w') => r14_Live t g lm r s K P pb po pc (some ⟨lb, lo, none⟩) L.length lc WW wb 0 wc q kk w' hs8 (by omega) (by omega) (by omega) HQ.out (by omega) (by omega) hwb (fun i => by have := HW9.out i; unfold wrap64 at this; omega) (HWC.out w' hk))
     have H_U := hid (fun (w' : World) (hk : Keep0 w4 w') => usage_Used t g lm r s K P pb po pc (some ⟨lb, lo, none⟩) L.length lc WW wb 0 wc q v w' hs8 (by omega) (by omega) (by omega) HPR.out.ok HQ.out (by omega) hwb (HPC.out w' hk) (HWC.out w' hk))
     have H_RU := hid (fun (w' : World) (hk : Keep0 w4 w') => r14_Used t g lm r s K P pb po pc (some ⟨lb, lo, none⟩) L.length lc WW wb 0 wc q v w' hs8 (by omega) (by omega) (by omega) HPR.out.ok HQ.out (by omega) hwb (fun i => by have := HW9.out i; unfold wrap64 at this; omega) (HPC.out w' hk) (HWC.out w' hk))
     have H_H := hid (fun (w' : World) (hk : Keep0 w4 w') => usage_Held t g lm r s K P pb po pc (some ⟨lb, lo, none⟩) L.length lc WW wb 0 wc q v w' hs8 (by omega) (by omega) (by omega) HPR.out.ok HQ.out (by omega) hwb (HPC.out w' hk) (HWC.out w' hk) v1 (by omega))
     have H_RH := hid (fun (w' : World) (hk : Keep0 w4 w') => r14_Held t g lm r s K P pb po pc (some ⟨lb, lo, none⟩) L.length lc WW wb 0 wc q v w' hs8 (by omega) (by omega) (by omega) HPR.out.ok HQ.out (by omega) hwb HW9.out (HPC.out w' hk) (HWC.out w' hk) v1)
     rw [← HWL.out] at H_L H_RL H_U H_RU H_H H_RH
     clear hcap hwl
     generalize lvB P.length WW (q + 2 * kk) = lb0 at *
     generalize lvV P.length WW (q + 2 * kk) = lv0 at *
     generalize lvN P.length WW (q + 2 * kk) = ln0 at *
     generalize usedN P WW q K v = us0 at *
     generalize wrap64 (rd WW (v * (6 + 2 * s)) - leftN WW (v * (6 + 2 * s) + 1) s - us0) = hl0 at *
     have HK0 := hid (Keep.refl (fun _ => False) w4)
     obtain ⟨_, ⟨hb, _⟩, _⟩ := St.get (show St w [Ass.blk w.heap.size 24 [i64 t, i64 (s : Int), i64 g, i64 lm, i64 r, i64 (K : Int), .slice (some ⟨pb, po, none⟩) P.length pc, .slice (some ⟨lb, lo, none⟩) L.length lc], intsK wb wc WW] w4 from (St.pick (show St w [intsK wb wc WW, Ass.blk w.heap.size 24 [i64 t, i64 (s : Int), i64 g, i64 lm, i64 r, i64 (K : Int), .slice (some ⟨pb, po, none⟩) P.length pc, .slice (some ⟨lb, lo, none⟩) L.length lc]] w4 from by repeat (with_reducible first | exact HS.out | apply St.alloc | apply St.drewN | apply St.drew)) 1 (by simp)))
     have qb := hb.k8
     clear hb
     go_wp2_with fail
     refine Calls.mono (H_L.out _ HK0.out) ?_
     rintro e w5 ⟨rfl, hk⟩
     have HK1 := hid (Keep0.step HK0.out hk)
     have hs := St.keep (show St w [intsK wb wc WW, Ass.blk w.heap.size 24 [i64 t, i64 (s : Int), i64 g, i64 lm, i64 r, i64 (K : Int), .slice (some ⟨pb, po, none⟩) P.length pc, .slice (some ⟨lb, lo, none⟩) L.length lc]] _ from HS.out) hk
     clear HS
     have HS := hid (show St w [intsK wb wc WW, Ass.blk w.heap.size 24 [i64 t, i64 (s : Int), i64 g, i64 lm, i64 r, i64 (K : Int), .slice (some ⟨pb, po, none⟩) P.length pc, .slice (some ⟨lb, lo, none⟩) L.length lc]] w5 from hs)
     clear hs hk HK0
     have HK0 := HK1
     clear HK1 qb
     obtain ⟨_, ⟨hb, _⟩, _⟩ := St.get (show St w [Ass.blk w.heap.size 24 [i64 t, i64 (s : Int), i64 g, i64 lm, i64 r, i64 (K : Int), .slice (some ⟨pb, po, none⟩) P.length pc, .slice (some ⟨lb, lo, none⟩) L.length lc], intsK wb wc WW] w5 from (St.pick (show St w [intsK wb wc WW, Ass.blk w.heap.size 24 [i64 t, i64 (s : Int), i64 g, i64 lm, i64 r, i64 (K : Int), .slice (some ⟨pb, po, none⟩) P.length pc, .slice (some ⟨lb, lo, none⟩) L.length lc]] w5 from by repeat (with_reducible first | exact HS.out | apply St.alloc | apply St.drewN | apply St.drew)) 1 (by simp)))
     have qb := hb.k8
     clear hb
     go_wp2_with fail
     refine Calls.mono (H_RL.out _ HK0.out) ?_
     rintro e w6 ⟨rfl, hk⟩
     have HK1 := hid (Keep0.step HK0.out hk)
     have hs := St.keep (show St w [intsK wb wc WW, Ass.blk w.heap.size 24 [i64 t, i64 (s : Int), i64 g, i64 lm, i64 r, i64 (K : Int), .slice (some ⟨pb, po, none⟩) P.length pc, .slice (some ⟨lb, lo, none⟩) L.length lc]] _ from HS.out) hk
     clear HS
     have HS := hid (show St w [intsK wb wc WW, Ass.blk w.heap.size 24 [i64 t, i64 (s : Int), i64 g, i64 lm, i64 r, i64 (K : Int), .slice (some ⟨pb, po, none⟩) P.length pc, .slice (some ⟨lb, lo, none⟩) L.length lc]] w6 from hs)
     clear hs hk HK0
     have HK0 := HK1
     clear HK1 qb
     obtain ⟨_, ⟨hb, _⟩, _⟩ := St.get (show St w [Ass.blk w.heap.size 24 [i64 t, i64 (s : Int), i64 g, i64 lm, i64 r, i64 (K : Int), .slice (some ⟨pb, po, none⟩) P.length pc, .slice (some ⟨lb, lo, none⟩) L.length lc], intsK wb wc WW] w6 from (St.pick (show St w [intsK wb wc WW, Ass.blk w.heap.size 24 [i64 t, i64 (s : Int), i64 g, i64 lm, i64 r, i64 (K : Int), .slice (some ⟨pb, po, none⟩) P.length pc, .slice (some ⟨lb, lo, none⟩) L.length lc]] w6 from by repeat (with_reducible first | exact HS.out | apply St.alloc | apply St.drewN | apply St.drew)) 1 (by simp)))
     have qb := hb.k8
     clear hb
     go_upto_region 9 with fail
     obtain ⟨_, ⟨hb, _⟩, _⟩ := St.get (show St w [Ass.blk w.heap.size 24 [i64 t, i64 (s : Int), i64 g, i64 lm, i64 r, i64 (K : Int), .slice (some ⟨pb, po, none⟩) P.length pc, .slice (some ⟨lb, lo, none⟩) L.length lc], intsK wb wc WW] w6 from (St.pick (show St w [intsK wb wc WW, Ass.blk w.heap.size 24 [i64 t, i64 (s : Int), i64 g, i64 lm, i64 r, i64 (K : Int), .slice (some ⟨pb, po, none⟩) P.length pc, .slice (some ⟨lb, lo, none⟩) L.length lc]] w6 from by repeat (with_reducible first | exact HS.out | apply St.alloc | apply St.drewN | apply St.drew)) 1 (by simp)))
     have HCB := hid hb
     clear hb qb
     apply wp_region_text (WI := fun S wx => Keep0 w6 wx) (by kernel_rfl) (by kernel_rfl)
     case hob =>
      iterate 17
       apply Oblig.cons
       case h =>
        intro S w1 hwi hSi hd hcl
        apply StepOk.intro
        intro K hK
        have qb := (hwi.blk HCB.out (fun h => h)).k8
        go_simp
        apply hK
        · rfl
        · conv => (lhs; whnf)
        · exact hwi
       simp only [put_lit, put_none]
       try dsimp only [List.set_cons_succ, List.set_cons_zero]
      apply Oblig.cons
      case h =>
       intro S w1 hwi hSi hd hcl
       apply StepOk.intro
       intro K hK
       have qb := (hwi.blk HCB.out (fun h => h)).k8
       go_simp
       refine (H_U.out _ (Keep0.step HK0.out hwi)).mono ?_
       rintro e w2 ⟨rfl, hk⟩
       apply hK
       · rfl
       · conv => (lhs; whnf)
       · exact Keep0.step hwi hk
      simp only [put_lit, put_none]
      try dsimp only [List.set_cons_succ, List.set_cons_zero]
      iterate 3
       apply Oblig.cons
       case h =>
        intro S w1 hwi hSi hd hcl
        apply StepOk.intro
        intro K hK
        have qb := (hwi.blk HCB.out (fun h => h)).k8
        go_simp
        apply hK
        · rfl
        · conv => (lhs; whnf)
        · exact hwi
       simp only [put_lit, put_none]
       try dsimp only [List.set_cons_succ, List.set_cons_zero]
      apply Oblig.cons
      case h =>
       intro S w1 hwi hSi hd hcl
       apply StepOk.intro
       intro K hK
       have qb := (hwi.blk HCB.out (fun h => h)).k8
       go_simp
       refine (H_RU.out _ (Keep0.step HK0.out hwi)).mono ?_
       rintro e w2 ⟨rfl, hk⟩
       apply hK
       · rfl
       · conv => (lhs; whnf)
       · exact Keep0.step hwi hk
      simp only [put_lit, put_none]
      try dsimp only [List.set_cons_succ, List.set_cons_zero]
      iterate 6
       apply Oblig.cons
       case h =>
        intro S w1 hwi hSi hd hcl
        apply StepOk.intro
        intro K hK
        have qb := (hwi.blk HCB.out (fun h => h)).k8
        go_simp
        apply hK
        · rfl
        · conv => (lhs; whnf)
        · exact hwi
       simp only [put_lit, put_none]
       try dsimp only [List.set_cons_succ, List.set_cons_zero]
      apply Oblig.cons
      case h =>
       intro S w1 hwi hSi hd hcl
       apply StepOk.intro
       intro K hK
       have qb := (hwi.blk HCB.out (fun h => h)).k8
       go_simp
       refine (H_H.out _ (Keep0.step HK0.out hwi)).mono ?_
       rintro e w2 ⟨rfl, hk⟩
       apply hK
       · rfl
       · conv => (lhs; whnf)
       · exact Keep0.step hwi hk
      simp only [put_lit, put_none]
      try dsimp only [List.set_cons_succ, List.set_cons_zero]
      iterate 3
       apply Oblig.cons
       case h =>
        intro S w1 hwi hSi hd hcl
        apply StepOk.intro
        intro K hK
        have qb := (hwi.blk HCB.out (fun h => h)).k8
        go_simp
        apply hK
        · rfl
        · conv => (lhs; whnf)
        · exact hwi
       simp only [put_lit, put_none]
       try dsimp only [List.set_cons_succ, List.set_cons_zero]
      apply Oblig.cons
      case h =>
       intro S w1 hwi hSi hd hcl
       apply StepOk.intro
       intro K hK
       have qb := (hwi.blk HCB.out (fun h => h)).k8
       go_simp
       refine (H_RH.out _ (Keep0.step HK0.out hwi)).mono ?_
       rintro e w2 ⟨rfl, hk⟩
       apply hK
       · rfl
       · conv => (lhs; whnf)
       · exact Keep0.step hwi hk
      simp only [put_lit, put_none]
      try dsimp only [List.set_cons_succ, List.set_cons_zero]
      iterate 2
       apply Oblig.cons
       case h =>
        intro S w1 hwi hSi hd hcl
        apply StepOk.intro
        intro K hK
        have qb := (hwi.blk HCB.out (fun h => h)).k8
        go_simp
        apply hK
        · rfl
        · conv => (lhs; whnf)
        · exact hwi
       simp only [put_lit, put_none]
       try dsimp only [List.set_cons_succ, List.set_cons_zero]
      exact Oblig.nil
     case h0 =>
      exact (Keep.refl _ _).drew
     case hend =>
      intro S wx hwi hall
      obtain ⟨w7, hw9⟩ : ∃ v, v = wx := ⟨_, rfl⟩
      rw [← hw9] at hwi ⊢
      have hs := St.keep HS.out hwi
      clear hall hw9 hwi HS HCB HK0 H_L H_RL H_U H_RU H_H H_RH HWC HPC HPK
      have HS := hid (show St w [intsK wb wc WW, Ass.blk w.heap.size 24 [i64 t, i64 (s : Int), i64 g, i64 lm, i64 r, i64 (K : Int), .slice (some ⟨pb, po, none⟩) P.length pc, .slice (some ⟨lb, lo, none⟩) L.length lc]] w7 from hs)
      clear hs
      obtain ⟨_, ⟨hb, _⟩, _⟩ := St.get (show St w [Ass.blk w.heap.size 24 [i64 t, i64 (s : Int), i64 g, i64 lm, i64 r, i64 (K : Int), .slice (some ⟨pb, po, none⟩) P.length pc, .slice (some ⟨lb, lo, none⟩) L.length lc], intsK wb wc WW] w7 from (St.pick (show St w [intsK wb wc WW, Ass.blk w.heap.size 24 [i64 t, i64 (s : Int), i64 g, i64 lm, i64 r, i64 (K : Int), .slice (some ⟨pb, po, none⟩) P.length pc, .slice (some ⟨lb, lo, none⟩) L.length lc]] w7 from by repeat (with_reducible first | exact HS.out | apply St.alloc | apply St.drewN | apply St.drew)) 1 (by simp)))
      have qb := hb.k8
      clear hb
      have hcw := St.cellsK (show St w [intsK wb wc WW, Ass.blk w.heap.size 24 [i64 t, i64 (s : Int), i64 g, i64 lm, i64 r, i64 (K : Int), .slice (some ⟨pb, po, none⟩) P.length pc, .slice (some ⟨lb, lo, none⟩) L.length lc]] w7 from (show St w [intsK wb wc WW, Ass.blk w.heap.size 24 [i64 t, i64 (s : Int), i64 g, i64 lm, i64 r, i64 (K : Int), .slice (some ⟨pb, po, none⟩) P.length pc, .slice (some ⟨lb, lo, none⟩) L.length lc]] w7 from by repeat (with_reducible first | exact HS.out | apply St.alloc | apply St.drewN | apply St.drew)))
      go_wp2_with fail
      refine Calls.mono (St.newx (q := fun (a : Nat × Nat) => memO a.2 a.1 WW []) (show St w [intsK wb wc WW, Ass.blk w.heap.size 24 [i64 t, i64 (s : Int), i64 g, i64 lm, i64 r, i64 (K : Int), .slice (some ⟨pb, po, none⟩) P.length pc, .slice (some ⟨lb, lo, none⟩) L.length lc]] _ from (show St w [intsK wb wc WW, Ass.blk w.heap.size 24 [i64 t, i64 (s : Int), i64 g, i64 lm, i64 r, i64 (K : Int), .slice (some ⟨pb, po, none⟩) P.length pc, .slice (some ⟨lb, lo, none⟩) L.length lc]] _ from by repeat (with_reducible first | exact HS.out | apply St.alloc | apply St.drewN | apply St.drew))) (show Calls Tryz.prog 24 #[.slice (some ⟨wb, 0, none⟩) (q + 2 * K) wc] w7 _ from by have h := memO_Laid w7 wb wc WW hcw (by have := HWL.out; omega); rw [← HWL.out] at h; exact h)) ?_
      rintro e w8 ⟨a, rfl, hs⟩
      clear HS
      have HS := hid (show St w [memO a.2 a.1 WW [], intsK wb wc WW, Ass.blk w.heap.size 24 [i64 t, i64 (s : Int), i64 g, i64 lm, i64 r, i64 (K : Int), .slice (some ⟨pb, po, none⟩) P.length pc, .slice (some ⟨lb, lo, none⟩) L.length lc]] w8 from hs)
      clear hs
      clear hcw qb
      go_upto_region 13 with fail
      obtain ⟨w9, hw7⟩ : ∃ w', w' = w8.alloc (.cells #[.slice (some ⟨wb, 0, none⟩) (q + 2 * K) wc, .slice none 0 0] 42) := ⟨_, rfl⟩
      rw [← hw7]
      obtain ⟨n, hn⟩ : ∃ n, n = w8.heap.size := ⟨_, rfl⟩
      rw [← hn]
      have hs7 := St.layW (wb := wb) (n := n) (c := wc) (W := WW) (show St w [intsK wb wc WW, memO a.2 a.1 WW [], Ass.blk w.heap.size 24 [i64 t, i64 (s : Int), i64 g, i64 lm, i64 r, i64 (K : Int), .slice (some ⟨pb, po, none⟩) P.length pc, .slice (some ⟨lb, lo, none⟩) L.length lc]] w8 from (St.pick (show St w [memO a.2 a.1 WW [], intsK wb wc WW, Ass.blk w.heap.size 24 [i64 t, i64 (s : Int), i64 g, i64 lm, i64 r, i64 (K : Int), .slice (some ⟨pb, po, none⟩) P.length pc, .slice (some ⟨lb, lo, none⟩) L.length lc]] w8 from by repeat (with_reducible first | exact HS.out | apply St.alloc | apply St.drewN | apply St.drew)) 1 (by simp))) (show Blk w9 n 42 [.slice (some ⟨wb, 0, none⟩) WW.length wc, .slice none 0 0] from by rw [hw7, hn, ← HWL.out]; exact Blk.made rfl rfl) (by rw [hw7]; exact (Keep.refl _ _).alloc _) (by omega)
      clear HS
      have HS := hid (show St w [refW w.heap.size n wb WW WW [], memO a.2 a.1 WW [], Ass.blk w.heap.size 24 [i64 t, i64 (s : Int), i64 g, i64 lm, i64 r, i64 (K : Int), .slice (some ⟨pb, po, none⟩) P.length pc, .slice (some ⟨lb, lo, none⟩) L.length lc]] w9 from hs7)
      clear hw7 hn hs7
      obtain ⟨_, ⟨hb, _⟩, _⟩ := St.get (show St w [Ass.blk w.heap.size 24 [i64 t, i64 (s : Int), i64 g, i64 lm, i64 r, i64 (K : Int), .slice (some ⟨pb, po, none⟩) P.length pc, .slice (some ⟨lb, lo, none⟩) L.length lc], refW w.heap.size n wb WW WW [], memO a.2 a.1 WW []] w9 from (St.pick (show St w [refW w.heap.size n wb WW WW [], memO a.2 a.1 WW [], Ass.blk w.heap.size 24 [i64 t, i64 (s : Int), i64 g, i64 lm, i64 r, i64 (K : Int), .slice (some ⟨pb, po, none⟩) P.length pc, .slice (some ⟨lb, lo, none⟩) L.length lc]] w9 from by repeat (with_reducible first | exact HS.out | apply St.alloc | apply St.drewN | apply St.drew)) 2 (by simp)))
      have qb := hb.k8
      clear hb
      obtain ⟨b, hb⟩ : ∃ b : Nat, b = v * (6 + 2 * s) + 2 + s := ⟨_, rfl⟩
      have hbI : (b : Int) = (v : Int) * (6 + 2 * (s : Int)) + 2 + (s : Int) := by rw [hb]; push_cast; rfl
      have hbb : b + 4 + s ≤ q := by omega
      have HBI := hid hbI
      clear hb hbI hvq
      have hp2 : p2 (s : Int) := by unfold p2; have := HR.out.s; omega
      go_wp2_with fail
      refine Calls.mono (St.newx (q := fun x => snO b s x (⟨WW, [], r, [], 0, false, false⟩ : SN)) (show St w [refW w.heap.size n wb WW WW [], memO a.2 a.1 WW [], Ass.blk w.heap.size 24 [i64 t, i64 (s : Int), i64 g, i64 lm, i64 r, i64 (K : Int), .slice (some ⟨pb, po, none⟩) P.length pc, .slice (some ⟨lb, lo, none⟩) L.length lc]] _ from (show St w [refW w.heap.size n wb WW WW [], memO a.2 a.1 WW [], Ass.blk w.heap.size 24 [i64 t, i64 (s : Int), i64 g, i64 lm, i64 r, i64 (K : Int), .slice (some ⟨pb, po, none⟩) P.length pc, .slice (some ⟨lb, lo, none⟩) L.length lc]] _ from by repeat (with_reducible first | exact HS.out | apply St.alloc | apply St.drewN | apply St.drew))) (show Calls _ _ _ _ (fun e w' => ∃ x, e = .returned (ptr x) ∧ Nw (snO b s x (⟨WW, [], r, [], 0, false, false⟩ : SN)) w9 w') from by have h := usage_Count t (s : Int) g lm r (K : Int) (some ⟨pb, po, none⟩) P.length pc (some ⟨lb, lo, none⟩) L.length lc (v : Int) b w9 WW [] (by omega) (by omega) (by omega) (by omega) HBI.out; rw [Int.toNat_natCast] at h; exact h)) ?_
      rintro e w10 ⟨x, rfl, hs⟩
      clear HS
      have HS := hid (show St w [snO b s x (⟨WW, [], r, [], 0, false, false⟩ : SN), refW w.heap.size n wb WW WW [], memO a.2 a.1 WW [], Ass.blk w.heap.size 24 [i64 t, i64 (s : Int), i64 g, i64 lm, i64 r, i64 (K : Int), .slice (some ⟨pb, po, none⟩) P.length pc, .slice (some ⟨lb, lo, none⟩) L.length lc]] w10 from hs)
      clear hs
      clear qb
      go_upto_region 14 with fail
      obtain ⟨_, ⟨hb, _⟩, _⟩ := St.get (show St w [Ass.blk w.heap.size 24 [i64 t, i64 (s : Int), i64 g, i64 lm, i64 r, i64 (K : Int), .slice (some ⟨pb, po, none⟩) P.length pc, .slice (some ⟨lb, lo, none⟩) L.length lc], snO b s x (⟨WW, [], r, [], 0, false, false⟩ : SN), refW w.heap.size n wb WW WW [], memO a.2 a.1 WW []] w10 from (St.pick (show St w [snO b s x (⟨WW, [], r, [], 0, false, false⟩ : SN), refW w.heap.size n wb WW WW [], memO a.2 a.1 WW [], Ass.blk w.heap.size 24 [i64 t, i64 (s : Int), i64 g, i64 lm, i64 r, i64 (K : Int), .slice (some ⟨pb, po, none⟩) P.length pc, .slice (some ⟨lb, lo, none⟩) L.length lc]] w10 from by repeat (with_reducible first | exact HS.out | apply St.alloc | apply St.drewN | apply St.drew)) 3 (by simp)))
      have HCB := hid hb
      clear hb
      have HCT := hid (fun w1 => show Calls Tryz.prog 27 #[.agg #[i64 t, i64 (s : Int), i64 g, i64 lm, i64 r, i64 (K : Int), .slice (some ⟨pb, po, none⟩) P.length pc, .slice (some ⟨lb, lo, none⟩) L.length lc], i64 (v : Int)] w1 (Ret (i64 (b : Int)) w1) from by rw [HBI.out]; exact ref_Counter t (s : Int) g lm r (K : Int) (some ⟨pb, po, none⟩) P.length pc (some ⟨lb, lo, none⟩) L.length lc (v : Int) w1 (by omega) (by omega) (by omega) (by omega))
      apply wp_region_free (WI := MK 7 8 (fun y => r7O b s false y (⟨WW, [], r, [], 0, false, false⟩ : SN)) w10) (by kernel_rfl) (by kernel_rfl)
      case hob =>
       iterate 2
        apply ObligF.fixed
        case h =>
         intro S gh w1 hwi hSi hd hcl
         apply StepOk.intro
         intro K hK
         have qb := (hwi.1.blk HCB.out (fun h => h)).k8
         go_simp
         apply hK
         · rfl
         · conv => (lhs; whnf)
         · exact hwi.fixed (by decide)
        simp only [put_lit, put_none]
        try dsimp only [List.set_cons_succ, List.set_cons_zero]
       apply ObligF.fixed
       case h =>
        intro S gh w1 hwi hSi hd hcl
        apply StepOk.intro
        intro K hK
        have qb := (hwi.1.blk HCB.out (fun h => h)).k8
        go_simp
        refine (HCT.out _).mono ?_
        rintro e w2 ⟨rfl, hk⟩
        apply hK
        · rfl
        · conv => (lhs; whnf)
        · exact (hwi.keep hk).fixed (by decide)
       simp only [put_lit, put_none]
       try dsimp only [List.set_cons_succ, List.set_cons_zero]
       iterate 4
        apply ObligF.fixed
        case h =>
         intro S gh w1 hwi hSi hd hcl
         apply StepOk.intro
         intro K hK
         have qb := (hwi.1.blk HCB.out (fun h => h)).k8
         go_simp
         apply hK
         · rfl
         · conv => (lhs; whnf)
         · exact hwi.fixed (by decide)
        simp only [put_lit, put_none]
        try dsimp only [List.set_cons_succ, List.set_cons_zero]
       apply ObligF.free
       case h =>
        intro S gh w1 hwi hSi hd hcl
        apply StepG.intro
        intro K hK
        have qb := (hwi.1.blk HCB.out (fun h => h)).k8
        go_simp
        refine Calls.mono (r7O_NewC b s r _ WW []) ?_
        rintro e w2 ⟨yn, rfl, hn⟩
        apply hK
        · rfl
        · exact hwi.made (by decide) yn hn
       simp only [put_lit, put_none]
       try dsimp only [List.set_cons_succ, List.set_cons_zero]
       apply ObligF.free
       case h =>
        intro S gh w1 hwi hSi hd hcl
        apply StepG.intro
        intro K hK
        have h9 := hd ⟨7, .data⟩ (by simp) rfl
        go_simp
        apply hK
        · rfl
        · exact hwi.hand (by decide) h9
       simp only [put_lit, put_none]
       try dsimp only [List.set_cons_succ, List.set_cons_zero]
       exact ObligF.nil
      case h0 =>
       exact MK.start (Keep.refl _ _).drew
      case hend =>
       intro S gh wx hwi hall
       obtain ⟨y, e1, hn⟩ := hwi.2.2 (hall 8 (by decide))
       obtain ⟨w11, hw9⟩ : ∃ v, v = wx := ⟨_, rfl⟩
       rw [← hw9] at hn ⊢
       have hs := St.nw HS.out hn
       clear hwi hall hw9 HS HCB hn
       have HS := hid (show St w [r7O b s false y (⟨WW, [], r, [], 0, false, false⟩ : SN), snO b s x (⟨WW, [], r, [], 0, false, false⟩ : SN), refW w.heap.size n wb WW WW [], memO a.2 a.1 WW [], Ass.blk w.heap.size 24 [i64 t, i64 (s : Int), i64 g, i64 lm, i64 r, i64 (K : Int), .slice (some ⟨pb, po, none⟩) P.length pc, .slice (some ⟨lb, lo, none⟩) L.length lc]] w11 from hs)
       clear hs
       simp only [Nat.reduceAdd]
       rw [e1]
       clear e1
       have hni : NInv b s (⟨WW, [], r, [], 0, false, false⟩ : SN) := NInv.start (by show b + 4 + s ≤ WW.length; have := HWL.out; omega) (by show WW.length ≤ 10000; have := HWL.out; omega) (by omega) (by omega)
       have HNI := hid hni
       clear hni
       have hcp := nPlay_count b s WW.length [] 500 0 (⟨WW, [], r, [], 0, false, false⟩ : SN) rfl
       have hpw := nplay_W b s WW.length 500 (⟨WW, [], r, [], 0, false, false⟩ : SN)
       obtain ⟨PF, hPF⟩ : ∃ PF, PF = playF (nStp b s) nPk WW.length [] 500 0 (⟨WW, [], r, [], 0, false, false⟩ : SN) := ⟨_, rfl⟩
       rw [← hPF] at hcp hpw
       have HPF := hid hPF
       clear hPF
       have hlg : PF.1.L.length + 0 = 0 + PF.2.1 := hcp.log
       have hle : PF.2.1 ≤ 0 + 500 := hcp.le
       have hl3 : PF.1.L.length ≤ 500 := by omega
       have HPW := hid (show PF.1.W = WW from hpw)
       clear hlg hle hcp hpw
       obtain ⟨pt, pn, pbo⟩ := PF
       go_wp2_with fail
       refine Calls.mono (St.call (q := Ass.star (memO a.2 a.1 WW pt.L) (snO b s x pt)) (St.pair (show St w [memO a.2 a.1 WW [], snO b s x (⟨WW, [], r, [], 0, false, false⟩ : SN), r7O b s false y (⟨WW, [], r, [], 0, false, false⟩ : SN), refW w.heap.size n wb WW WW [], Ass.blk w.heap.size 24 [i64 t, i64 (s : Int), i64 g, i64 lm, i64 r, i64 (K : Int), .slice (some ⟨pb, po, none⟩) P.length pc, .slice (some ⟨lb, lo, none⟩) L.length lc]] _ from (St.pick (St.pick (show St w [r7O b s false y (⟨WW, [], r, [], 0, false, false⟩ : SN), snO b s x (⟨WW, [], r, [], 0, false, false⟩ : SN), refW w.heap.size n wb WW WW [], memO a.2 a.1 WW [], Ass.blk w.heap.size 24 [i64 t, i64 (s : Int), i64 g, i64 lm, i64 r, i64 (K : Int), .slice (some ⟨pb, po, none⟩) P.length pc, .slice (some ⟨lb, lo, none⟩) L.length lc]] _ from by repeat (with_reducible first | exact HS.out | apply St.alloc | apply St.drewN | apply St.drew)) 1 (by simp)) 3 (by simp)))) (fun Rq hr hz => show Calls _ _ _ _ (fun e w' => e = .returned (.tuple #[i64 (pn : Int), .bool pbo]) ∧ Tr ((memO a.2 a.1 WW pt.L).star (snO b s x pt)) Rq _ w') from by have h := snO_Play (b := b) (s := s) (⟨WW, [], r, [], 0, false, false⟩ : SN) [] none 0 0 0 500 (by omega) (by simp) (by omega) (by simp) (by show WW.length ≤ _; have := HWL.out; omega) (fun h => absurd h (by simp)) (fun i h => absurd h (by simp)) hr HNI.out; rw [show ((⟨WW, [], r, [], 0, false, false⟩ : SN) : SN).W.length = WW.length from rfl, ← HPF.out] at h; have e := HPW.out; simp only at h e; rw [e] at h; exact h.mono (fun e w' h => ⟨h.1, h.2.1⟩))) ?_
       rintro e w12 ⟨rfl, hs⟩
       clear HS
       have HS := hid (show St w [memO a.2 a.1 WW pt.L, snO b s x pt, r7O b s false y (⟨WW, [], r, [], 0, false, false⟩ : SN), refW w.heap.size n wb WW WW [], Ass.blk w.heap.size 24 [i64 t, i64 (s : Int), i64 g, i64 lm, i64 r, i64 (K : Int), .slice (some ⟨pb, po, none⟩) P.length pc, .slice (some ⟨lb, lo, none⟩) L.length lc]] w12 from St.part hs)
       clear hs
       go_wp2_with fail
       refine Calls.mono (St.call (q := Ass.star (refW w.heap.size n wb WW WW pt.L) (r7O b s false y pt)) (St.pair (show St w [refW w.heap.size n wb WW WW [], r7O b s false y (⟨WW, [], r, [], 0, false, false⟩ : SN), memO a.2 a.1 WW pt.L, snO b s x pt, Ass.blk w.heap.size 24 [i64 t, i64 (s : Int), i64 g, i64 lm, i64 r, i64 (K : Int), .slice (some ⟨pb, po, none⟩) P.length pc, .slice (some ⟨lb, lo, none⟩) L.length lc]] _ from (St.pick (St.pick (show St w [memO a.2 a.1 WW pt.L, snO b s x pt, r7O b s false y (⟨WW, [], r, [], 0, false, false⟩ : SN), refW w.heap.size n wb WW WW [], Ass.blk w.heap.size 24 [i64 t, i64 (s : Int), i64 g, i64 lm, i64 r, i64 (K : Int), .slice (some ⟨pb, po, none⟩) P.length pc, .slice (some ⟨lb, lo, none⟩) L.length lc]] _ from by repeat (with_reducible first | exact HS.out | apply St.alloc | apply St.drewN | apply St.drew)) 2 (by simp)) 3 (by simp)))) (fun Rq hr hz => show Calls _ _ _ _ (fun e w' => e = .returned (.tuple #[i64 (pn : Int), .bool pbo]) ∧ Tr ((refW w.heap.size n wb WW WW pt.L).star (r7O b s false y pt)) Rq _ w') from by have h := r7W_Play (b := b) (s := s) (t := (⟨WW, [], r, [], 0, false, false⟩ : SN)) WW rfl 500 (by omega) (by simp) (by omega) (by have := HWL.out; omega) hr HNI.out; rw [← HPF.out] at h; have e := HPW.out; simp only at h e; rw [e] at h; exact h)) ?_
       rintro e w13 ⟨rfl, hs⟩
       clear HS
       have HS := hid (show St w [refW w.heap.size n wb WW WW pt.L, r7O b s false y pt, memO a.2 a.1 WW pt.L, snO b s x pt, Ass.blk w.heap.size 24 [i64 t, i64 (s : Int), i64 g, i64 lm, i64 r, i64 (K : Int), .slice (some ⟨pb, po, none⟩) P.length pc, .slice (some ⟨lb, lo, none⟩) L.length lc]] w13 from St.part hs)
       clear hs
       go_upto_region 17 with fail
       obtain ⟨_, ⟨ma, mlv, hm, _⟩, _⟩ := St.get (show St w [memO a.2 a.1 WW pt.L, refW w.heap.size n wb WW WW pt.L, r7O b s false y pt, snO b s x pt, Ass.blk w.heap.size 24 [i64 t, i64 (s : Int), i64 g, i64 lm, i64 r, i64 (K : Int), .slice (some ⟨pb, po, none⟩) P.length pc, .slice (some ⟨lb, lo, none⟩) L.length lc]] w13 from (St.pick (show St w [refW w.heap.size n wb WW WW pt.L, r7O b s false y pt, memO a.2 a.1 WW pt.L, snO b s x pt, Ass.blk w.heap.size 24 [i64 t, i64 (s : Int), i64 g, i64 lm, i64 r, i64 (K : Int), .slice (some ⟨pb, po, none⟩) P.length pc, .slice (some ⟨lb, lo, none⟩) L.length lc]] w13 from by repeat (with_reducible first | exact HS.out | apply St.alloc | apply St.drewN | apply St.drew)) 2 (by simp)))
       obtain ⟨_, ⟨nA, nc, nlv, hn, _⟩, _⟩ := St.get (show St w [refW w.heap.size n wb WW WW pt.L, r7O b s false y pt, memO a.2 a.1 WW pt.L, snO b s x pt, Ass.blk w.heap.size 24 [i64 t, i64 (s : Int), i64 g, i64 lm, i64 r, i64 (K : Int), .slice (some ⟨pb, po, none⟩) P.length pc, .slice (some ⟨lb, lo, none⟩) L.length lc]] w13 from (show St w [refW w.heap.size n wb WW WW pt.L, r7O b s false y pt, memO a.2 a.1 WW pt.L, snO b s x pt, Ass.blk w.heap.size 24 [i64 t, i64 (s : Int), i64 g, i64 lm, i64 r, i64 (K : Int), .slice (some ⟨pb, po, none⟩) P.length pc, .slice (some ⟨lb, lo, none⟩) L.length lc]] w13 from by repeat (with_reducible first | exact HS.out | apply St.alloc | apply St.drewN | apply St.drew)))
       obtain ⟨_, hx, _⟩ := St.get (show St w [snO b s x pt, refW w.heap.size n wb WW WW pt.L, r7O b s false y pt, memO a.2 a.1 WW pt.L, Ass.blk w.heap.size 24 [i64 t, i64 (s : Int), i64 g, i64 lm, i64 r, i64 (K : Int), .slice (some ⟨pb, po, none⟩) P.length pc, .slice (some ⟨lb, lo, none⟩) L.length lc]] w13 from (St.pick (show St w [refW w.heap.size n wb WW WW pt.L, r7O b s false y pt, memO a.2 a.1 WW pt.L, snO b s x pt, Ass.blk w.heap.size 24 [i64 t, i64 (s : Int), i64 g, i64 lm, i64 r, i64 (K : Int), .slice (some ⟨pb, po, none⟩) P.length pc, .slice (some ⟨lb, lo, none⟩) L.length lc]] w13 from by repeat (with_reducible first | exact HS.out | apply St.alloc | apply St.drewN | apply St.drew)) 3 (by simp)))
       obtain ⟨_, ⟨yA, hy7, _⟩, _⟩ := St.get (show St w [r7O b s false y pt, refW w.heap.size n wb WW WW pt.L, memO a.2 a.1 WW pt.L, snO b s x pt, Ass.blk w.heap.size 24 [i64 t, i64 (s : Int), i64 g, i64 lm, i64 r, i64 (K : Int), .slice (some ⟨pb, po, none⟩) P.length pc, .slice (some ⟨lb, lo, none⟩) L.length lc]] w13 from (St.pick (show St w [refW w.heap.size n wb WW WW pt.L, r7O b s false y pt, memO a.2 a.1 WW pt.L, snO b s x pt, Ass.blk w.heap.size 24 [i64 t, i64 (s : Int), i64 g, i64 lm, i64 r, i64 (K : Int), .slice (some ⟨pb, po, none⟩) P.length pc, .slice (some ⟨lb, lo, none⟩) L.length lc]] w13 from by repeat (with_reducible first | exact HS.out | apply St.alloc | apply St.drewN | apply St.drew)) 1 (by simp)))
       have HM := hid hm
       obtain ⟨rla, rlc, rfl, hla⟩ := refLogT hn
       have HLA := hid hla
       have HNB := hid hn.mem
       clear hm hn hla
       obtain ⟨an, han⟩ : ∃ an : Int, an = pt.n := ⟨_, rfl⟩
       obtain ⟨ax, hax⟩ : ∃ ax : Bool, ax = pt.ex := ⟨_, rfl⟩
       have HX := hid hx
       have HY := hid hy7
       clear hx hy7
       have HA1 := hid (fun (w1 : World) (hk : Keep0 w13 w1) => show Calls Tryz.prog 30 #[ptr x] w1 (Ret (.agg #[i64 0, i64 an, .bool ax, i64 0]) w1) from by have h := count_Ans _ (HX.out.keep hk (fun _ _ h => h)); rw [← han, ← hax] at h; exact h)
       have HA2 := hid (fun (w1 : World) (hk : Keep0 w13 w1) => show Calls Tryz.prog 31 #[ptr y] w1 (Ret (.agg #[i64 0, i64 an, .bool ax, i64 0]) w1) from by have h := r7_Ans _ (HY.out.keep hk (fun _ _ h => h)); rw [← han, ← hax] at h; exact h)
       clear han hax HX HY
       apply wp_region_free (WI := fun S gh wx => Keep0 w13 wx ∧ GWI (dlT 17 pt.L) S gh wx) (by kernel_rfl) (by kernel_rfl)
       case hob =>
        iterate 10
         apply ObligF.fixed
         case h =>
          intro S gh w1 hwi hSi hd hcl
          apply StepOk.intro
          intro K hK
          go_simp
          apply hK
          · rfl
          · conv => (lhs; whnf)
          · exact ⟨hwi.1, GWI.fixed hwi.2 (fun h => absurd h (by decide))⟩
         simp only [put_lit, put_none]
         try dsimp only [List.set_cons_succ, List.set_cons_zero]
        apply ObligF.fixed
        case h =>
         intro S gh w1 hwi hSi hd hcl
         apply StepOk.intro
         intro K hK
         go_simp
         refine (HA1.out _ hwi.1).mono ?_
         rintro e w2 ⟨rfl, hk⟩
         apply hK
         · rfl
         · conv => (lhs; whnf)
         · exact ⟨Keep0.step hwi.1 hk, GWI.fixed (hwi.2.keep dlT_stable hk) (fun h => absurd h (by decide))⟩
        simp only [put_lit, put_none]
        try dsimp only [List.set_cons_succ, List.set_cons_zero]
        apply ObligF.fixed
        case h =>
         intro S gh w1 hwi hSi hd hcl
         apply StepOk.intro
         intro K hK
         go_simp
         apply hK
         · rfl
         · conv => (lhs; whnf)
         · exact ⟨hwi.1, GWI.fixed hwi.2 (fun h => absurd h (by decide))⟩
        simp only [put_lit, put_none]
        try dsimp only [List.set_cons_succ, List.set_cons_zero]
        apply ObligF.fixed
        case h =>
         intro S gh w1 hwi hSi hd hcl
         apply StepOk.intro
         intro K hK
         go_simp
         refine (HA2.out _ hwi.1).mono ?_
         rintro e w2 ⟨rfl, hk⟩
         apply hK
         · rfl
         · conv => (lhs; whnf)
         · exact ⟨Keep0.step hwi.1 hk, GWI.fixed (hwi.2.keep dlT_stable hk) (fun h => absurd h (by decide))⟩
        simp only [put_lit, put_none]
        try dsimp only [List.set_cons_succ, List.set_cons_zero]
        iterate 4
         apply ObligF.fixed
         case h =>
          intro S gh w1 hwi hSi hd hcl
          apply StepOk.intro
          intro K hK
          go_simp
          apply hK
          · rfl
          · conv => (lhs; whnf)
          · exact ⟨hwi.1, GWI.fixed hwi.2 (fun h => absurd h (by decide))⟩
         simp only [put_lit, put_none]
         try dsimp only [List.set_cons_succ, List.set_cons_zero]
        apply ObligF.free
        case h =>
         intro S gh w1 hwi hSi hd hcl
         apply StepG.intro
         intro K hK
         go_simp
         refine (mem_Log (HM.out.same hwi.1) (by omega)).mono ?_
         rintro e w2 ⟨A2, c2, rfl, ha, hk⟩
         apply hK
         · rfl
         · exact ⟨Keep0.step hwi.1 hk, GWI.free (hwi.2.keep dlT_stable hk) (fun _ => ⟨A2, c2, rfl, ha⟩)⟩
        simp only [put_lit, put_none]
        try dsimp only [List.set_cons_succ, List.set_cons_zero]
        iterate 2
         apply ObligF.fixed
         case h =>
          intro S gh w1 hwi hSi hd hcl
          apply StepOk.intro
          intro K hK
          go_simp
          apply hK
          · rfl
          · conv => (lhs; whnf)
          · exact ⟨hwi.1, GWI.fixed hwi.2 (fun h => absurd h (by decide))⟩
         simp only [put_lit, put_none]
         try dsimp only [List.set_cons_succ, List.set_cons_zero]
        iterate 2
         apply ObligF.fixed
         case h =>
          intro S gh w1 hwi hSi hd hcl
          apply StepOk.intro
          intro K hK
          have qm := (hwi.1.blk HNB.out (fun h => h)).k2
          go_simp
          apply hK
          · rfl
          · conv => (lhs; whnf)
          · exact ⟨hwi.1, GWI.fixed hwi.2 (fun h => absurd h (by decide))⟩
         simp only [put_lit, put_none]
         try dsimp only [List.set_cons_succ, List.set_cons_zero]
        apply ObligF.fixed
        case h =>
         intro S gh w1 hwi hSi hd hcl
         apply StepOk.intro
         intro K hK
         obtain ⟨A1, c1, e1, ha1⟩ := hwi.2 17 (hd ⟨17, .data⟩ (by simp) rfl) rfl
         rw [e1]
         go_simp
         refine (same_log A1 rla _ c1 rlc _ ha1 (HLA.out.keep hwi.1) (by omega)).mono ?_
         rintro e w2 ⟨rfl, hk⟩
         apply hK
         · rfl
         · conv => (lhs; whnf)
         · exact ⟨Keep0.step hwi.1 hk, GWI.fixed (hwi.2.keep dlT_stable hk) (fun h => absurd h (by decide))⟩
        simp only [put_lit, put_none]
        try dsimp only [List.set_cons_succ, List.set_cons_zero]
        iterate 2
         apply ObligF.fixed
         case h =>
          intro S gh w1 hwi hSi hd hcl
          apply StepOk.intro
          intro K hK
          go_simp
          apply hK
          · rfl
          · conv => (lhs; whnf)
          · exact ⟨hwi.1, GWI.fixed hwi.2 (fun h => absurd h (by decide))⟩
         simp only [put_lit, put_none]
         try dsimp only [List.set_cons_succ, List.set_cons_zero]
        exact ObligF.nil
       case h0 =>
        exact ⟨(Keep.refl _ _).drew, GWI.start _ _ _⟩
       case hend =>
        intro S gh wx hwi hall
        obtain ⟨w14, hw9⟩ : ∃ v, v = wx := ⟨_, rfl⟩
        have hkx := hwi.1
        rw [← hw9] at hkx ⊢
        have hs := St.keep HS.out hkx
        clear hwi hall hw9 hkx HS HM HLA HNB HA1 HA2
        have HS := hid (show St w [refW w.heap.size n wb WW WW pt.L, r7O b s false y pt, memO a.2 a.1 WW pt.L, snO b s x pt, Ass.blk w.heap.size 24 [i64 t, i64 (s : Int), i64 g, i64 lm, i64 r, i64 (K : Int), .slice (some ⟨pb, po, none⟩) P.length pc, .slice (some ⟨lb, lo, none⟩) L.length lc]] w14 from hs)
        clear hs
        have hs := St.drop (show St w [snO b s x pt, refW w.heap.size n wb WW WW pt.L, r7O b s false y pt, memO a.2 a.1 WW pt.L, Ass.blk w.heap.size 24 [i64 t, i64 (s : Int), i64 g, i64 lm, i64 r, i64 (K : Int), .slice (some ⟨pb, po, none⟩) P.length pc, .slice (some ⟨lb, lo, none⟩) L.length lc]] w14 from (St.pick (show St w [refW w.heap.size n wb WW WW pt.L, r7O b s false y pt, memO a.2 a.1 WW pt.L, snO b s x pt, Ass.blk w.heap.size 24 [i64 t, i64 (s : Int), i64 g, i64 lm, i64 r, i64 (K : Int), .slice (some ⟨pb, po, none⟩) P.length pc, .slice (some ⟨lb, lo, none⟩) L.length lc]] w14 from by repeat (with_reducible first | exact HS.out | apply St.alloc | apply St.drewN | apply St.drew)) 3 (by simp)))
        clear HS
        have HS := hid hs
        clear hs
        have hs := St.drop (show St w [r7O b s false y pt, refW w.heap.size n wb WW WW pt.L, memO a.2 a.1 WW pt.L, Ass.blk w.heap.size 24 [i64 t, i64 (s : Int), i64 g, i64 lm, i64 r, i64 (K : Int), .slice (some ⟨pb, po, none⟩) P.length pc, .slice (some ⟨lb, lo, none⟩) L.length lc]] w14 from (St.pick (show St w [refW w.heap.size n wb WW WW pt.L, r7O b s false y pt, memO a.2 a.1 WW pt.L, Ass.blk w.heap.size 24 [i64 t, i64 (s : Int), i64 g, i64 lm, i64 r, i64 (K : Int), .slice (some ⟨pb, po, none⟩) P.length pc, .slice (some ⟨lb, lo, none⟩) L.length lc]] w14 from by repeat (with_reducible first | exact HS.out | apply St.alloc | apply St.drewN | apply St.drew)) 1 (by simp)))
        clear HS
        have HS := hid hs
        clear hs
        obtain ⟨_, ⟨hb, _⟩, _⟩ := St.get (show St w [Ass.blk w.heap.size 24 [i64 t, i64 (s : Int), i64 g, i64 lm, i64 r, i64 (K : Int), .slice (some ⟨pb, po, none⟩) P.length pc, .slice (some ⟨lb, lo, none⟩) L.length lc], refW w.heap.size n wb WW WW pt.L, memO a.2 a.1 WW pt.L] w14 from (St.pick (show St w [refW w.heap.size n wb WW WW pt.L, memO a.2 a.1 WW pt.L, Ass.blk w.heap.size 24 [i64 t, i64 (s : Int), i64 g, i64 lm, i64 r, i64 (K : Int), .slice (some ⟨pb, po, none⟩) P.length pc, .slice (some ⟨lb, lo, none⟩) L.length lc]] w14 from by repeat (with_reducible first | exact HS.out | apply St.alloc | apply St.drewN | apply St.drew)) 2 (by simp)))
        have qb := hb.k8
        clear hb
        go_wp2_with fail
        refine Calls.mono (St.newx (q := fun gx => pkO b gx (⟨WW, pt.L, 0, [], 0, false, false⟩ : SN)) (show St w [refW w.heap.size n wb WW WW pt.L, memO a.2 a.1 WW pt.L, Ass.blk w.heap.size 24 [i64 t, i64 (s : Int), i64 g, i64 lm, i64 r, i64 (K : Int), .slice (some ⟨pb, po, none⟩) P.length pc, .slice (some ⟨lb, lo, none⟩) L.length lc]] _ from (show St w [refW w.heap.size n wb WW WW pt.L, memO a.2 a.1 WW pt.L, Ass.blk w.heap.size 24 [i64 t, i64 (s : Int), i64 g, i64 lm, i64 r, i64 (K : Int), .slice (some ⟨pb, po, none⟩) P.length pc, .slice (some ⟨lb, lo, none⟩) L.length lc]] _ from by repeat (with_reducible first | exact HS.out | apply St.alloc | apply St.drewN | apply St.drew))) (usage_Peek t (s : Int) g lm r (K : Int) (some ⟨pb, po, none⟩) P.length pc (some ⟨lb, lo, none⟩) L.length lc (v : Int) b _ WW pt.L (by omega) (by omega) (by omega) (by omega) HBI.out)) ?_
        rintro e w15 ⟨gx, rfl, hs⟩
        clear HS
        have HS := hid (show St w [pkO b gx (⟨WW, pt.L, 0, [], 0, false, false⟩ : SN), refW w.heap.size n wb WW WW pt.L, memO a.2 a.1 WW pt.L, Ass.blk w.heap.size 24 [i64 t, i64 (s : Int), i64 g, i64 lm, i64 r, i64 (K : Int), .slice (some ⟨pb, po, none⟩) P.length pc, .slice (some ⟨lb, lo, none⟩) L.length lc]] w15 from hs)
        clear hs
        clear qb
        go_wp2_with fail
        refine Calls.mono (St.call (q := Ass.star (memO a.2 a.1 WW (pt.L ++ [⟨1, (b : Nat), rd WW b, 0, false⟩])) (pkO b gx (⟨WW, pt.L ++ [⟨1, (b : Nat), rd WW b, 0, false⟩], 0, [], rd WW b, false, true⟩ : SN))) (St.pair (show St w [memO a.2 a.1 WW pt.L, pkO b gx (⟨WW, pt.L, 0, [], 0, false, false⟩ : SN), refW w.heap.size n wb WW WW pt.L, Ass.blk w.heap.size 24 [i64 t, i64 (s : Int), i64 g, i64 lm, i64 r, i64 (K : Int), .slice (some ⟨pb, po, none⟩) P.length pc, .slice (some ⟨lb, lo, none⟩) L.length lc]] _ from (St.pick (show St w [pkO b gx (⟨WW, pt.L, 0, [], 0, false, false⟩ : SN), refW w.heap.size n wb WW WW pt.L, memO a.2 a.1 WW pt.L, Ass.blk w.heap.size 24 [i64 t, i64 (s : Int), i64 g, i64 lm, i64 r, i64 (K : Int), .slice (some ⟨pb, po, none⟩) P.length pc, .slice (some ⟨lb, lo, none⟩) L.length lc]] _ from by repeat (with_reducible first | exact HS.out | apply St.alloc | apply St.drewN | apply St.drew)) 2 (by simp)))) (fun Rq hr hz => show Calls _ _ _ _ (fun e w' => e = .returned (.tuple #[i64 1, .bool true]) ∧ Tr ((memO a.2 a.1 WW (pt.L ++ [⟨1, (b : Nat), rd WW b, 0, false⟩])).star (pkO b gx (⟨WW, pt.L ++ [⟨1, (b : Nat), rd WW b, 0, false⟩], 0, [], rd WW b, false, true⟩ : SN))) Rq _ w') from by have h := pkO_Play (b := b) (⟨WW, pt.L, 0, [], 0, false, false⟩ : SN) [] none 0 0 0 5 (by omega) (by show pt.L.length ≤ _; omega) (by omega) (by simp) (by show WW.length ≤ _; have := HWL.out; omega) (fun h => absurd h (by simp)) (fun i h => absurd h (by simp)) hr ⟨by show b < WW.length; have := HWL.out; omega, fun _ => ⟨rfl, rfl⟩⟩; rw [show ((⟨WW, pt.L, 0, [], 0, false, false⟩ : SN) : SN).W.length = WW.length from rfl, gplay_one b WW.length 4 WW pt.L] at h; exact h.mono (fun e w' h => ⟨h.1, h.2.1⟩))) ?_
        rintro e w16 ⟨rfl, hs⟩
        clear HS
        have HS := hid (show St w [memO a.2 a.1 WW (pt.L ++ [⟨1, (b : Nat), rd WW b, 0, false⟩]), pkO b gx (⟨WW, pt.L ++ [⟨1, (b : Nat), rd WW b, 0, false⟩], 0, [], rd WW b, false, true⟩ : SN), refW w.heap.size n wb WW WW pt.L, Ass.blk w.heap.size 24 [i64 t, i64 (s : Int), i64 g, i64 lm, i64 r, i64 (K : Int), .slice (some ⟨pb, po, none⟩) P.length pc, .slice (some ⟨lb, lo, none⟩) L.length lc]] w16 from St.part hs)
        clear hs
        have hs := St.dropW (show St w [refW w.heap.size n wb WW WW pt.L, memO a.2 a.1 WW (pt.L ++ [⟨1, (b : Nat), rd WW b, 0, false⟩]), pkO b gx (⟨WW, pt.L ++ [⟨1, (b : Nat), rd WW b, 0, false⟩], 0, [], rd WW b, false, true⟩ : SN), Ass.blk w.heap.size 24 [i64 t, i64 (s : Int), i64 g, i64 lm, i64 r, i64 (K : Int), .slice (some ⟨pb, po, none⟩) P.length pc, .slice (some ⟨lb, lo, none⟩) L.length lc]] w16 from (St.pick (show St w [memO a.2 a.1 WW (pt.L ++ [⟨1, (b : Nat), rd WW b, 0, false⟩]), pkO b gx (⟨WW, pt.L ++ [⟨1, (b : Nat), rd WW b, 0, false⟩], 0, [], rd WW b, false, true⟩ : SN), refW w.heap.size n wb WW WW pt.L, Ass.blk w.heap.size 24 [i64 t, i64 (s : Int), i64 g, i64 lm, i64 r, i64 (K : Int), .slice (some ⟨pb, po, none⟩) P.length pc, .slice (some ⟨lb, lo, none⟩) L.length lc]] w16 from by repeat (with_reducible first | exact HS.out | apply St.alloc | apply St.drewN | apply St.drew)) 2 (by simp)))
        clear HS
        have HS := hid (show St w [intsO wb WW, memO a.2 a.1 WW (pt.L ++ [⟨1, (b : Nat), rd WW b, 0, false⟩]), pkO b gx (⟨WW, pt.L ++ [⟨1, (b : Nat), rd WW b, 0, false⟩], 0, [], rd WW b, false, true⟩ : SN), Ass.blk w.heap.size 24 [i64 t, i64 (s : Int), i64 g, i64 lm, i64 r, i64 (K : Int), .slice (some ⟨pb, po, none⟩) P.length pc, .slice (some ⟨lb, lo, none⟩) L.length lc]] w16 from hs)
        clear hs
        go_upto_region 21 with fail
        have hcw := St.cells (show St w [intsO wb WW, memO a.2 a.1 WW (pt.L ++ [⟨1, (b : Nat), rd WW b, 0, false⟩]), pkO b gx (⟨WW, pt.L ++ [⟨1, (b : Nat), rd WW b, 0, false⟩], 0, [], rd WW b, false, true⟩ : SN), Ass.blk w.heap.size 24 [i64 t, i64 (s : Int), i64 g, i64 lm, i64 r, i64 (K : Int), .slice (some ⟨pb, po, none⟩) P.length pc, .slice (some ⟨lb, lo, none⟩) L.length lc]] w16 from (show St w [intsO wb WW, memO a.2 a.1 WW (pt.L ++ [⟨1, (b : Nat), rd WW b, 0, false⟩]), pkO b gx (⟨WW, pt.L ++ [⟨1, (b : Nat), rd WW b, 0, false⟩], 0, [], rd WW b, false, true⟩ : SN), Ass.blk w.heap.size 24 [i64 t, i64 (s : Int), i64 g, i64 lm, i64 r, i64 (K : Int), .slice (some ⟨pb, po, none⟩) P.length pc, .slice (some ⟨lb, lo, none⟩) L.length lc]] w16 from by repeat (with_reducible first | exact HS.out | apply St.alloc | apply St.drewN | apply St.drew)))
        obtain ⟨_, hx, _⟩ := St.get (show St w [pkO b gx (⟨WW, pt.L ++ [⟨1, (b : Nat), rd WW b, 0, false⟩], 0, [], rd WW b, false, true⟩ : SN), intsO wb WW, memO a.2 a.1 WW (pt.L ++ [⟨1, (b : Nat), rd WW b, 0, false⟩]), Ass.blk w.heap.size 24 [i64 t, i64 (s : Int), i64 g, i64 lm, i64 r, i64 (K : Int), .slice (some ⟨pb, po, none⟩) P.length pc, .slice (some ⟨lb, lo, none⟩) L.length lc]] w16 from (St.pick (show St w [intsO wb WW, memO a.2 a.1 WW (pt.L ++ [⟨1, (b : Nat), rd WW b, 0, false⟩]), pkO b gx (⟨WW, pt.L ++ [⟨1, (b : Nat), rd WW b, 0, false⟩], 0, [], rd WW b, false, true⟩ : SN), Ass.blk w.heap.size 24 [i64 t, i64 (s : Int), i64 g, i64 lm, i64 r, i64 (K : Int), .slice (some ⟨pb, po, none⟩) P.length pc, .slice (some ⟨lb, lo, none⟩) L.length lc]] w16 from by repeat (with_reducible first | exact HS.out | apply St.alloc | apply St.drewN | apply St.drew)) 2 (by simp)))
        obtain ⟨_, ⟨hb, _⟩, _⟩ := St.get (show St w [Ass.blk w.heap.size 24 [i64 t, i64 (s : Int), i64 g, i64 lm, i64 r, i64 (K : Int), .slice (some ⟨pb, po, none⟩) P.length pc, .slice (some ⟨lb, lo, none⟩) L.length lc], intsO wb WW, memO a.2 a.1 WW (pt.L ++ [⟨1, (b : Nat), rd WW b, 0, false⟩]), pkO b gx (⟨WW, pt.L ++ [⟨1, (b : Nat), rd WW b, 0, false⟩], 0, [], rd WW b, false, true⟩ : SN)] w16 from (St.pick (show St w [intsO wb WW, memO a.2 a.1 WW (pt.L ++ [⟨1, (b : Nat), rd WW b, 0, false⟩]), pkO b gx (⟨WW, pt.L ++ [⟨1, (b : Nat), rd WW b, 0, false⟩], 0, [], rd WW b, false, true⟩ : SN), Ass.blk w.heap.size 24 [i64 t, i64 (s : Int), i64 g, i64 lm, i64 r, i64 (K : Int), .slice (some ⟨pb, po, none⟩) P.length pc, .slice (some ⟨lb, lo, none⟩) L.length lc]] w16 from by repeat (with_reducible first | exact HS.out | apply St.alloc | apply St.drewN | apply St.drew)) 3 (by simp)))
        have HCB := hid hb
        have hbw := hcw b (by have := HWL.out; omega)
        rw [Nat.zero_add] at hbw
        have HBW := hid hbw
        have hbz : wb < w16.heap.size := by have := World.block_lt_of_cell? _ _ hbw; simpa using this
        have hbl : b < q + 2 * K := by omega
        have hbl2 : (b : Int) < (q : Int) + 2 * (K : Int) := by omega
        clear hcw hb hbw
        have HA1 := hid (fun (w1 : World) (hk : Keep0 w16 w1) => show Calls Tryz.prog 30 #[ptr gx] w1 (Ret (.agg #[i64 0, i64 (rd WW b), .bool false, i64 0]) w1) from peek_Ans _ (PkR.keep hx hk (fun _ _ h => h)))
        clear hx
        generalize rd WW b = xb at *
        apply wp_region_text (WI := fun S wx => Keep0 w16 wx) (by kernel_rfl) (by kernel_rfl)
        case hob =>
         iterate 10
          apply Oblig.cons
          case h =>
           intro S w1 hwi hSi hd hcl
           apply StepOk.intro
           intro K hK
           have qb := (hwi.blk HCB.out (fun h => h)).k8
           have qw := (cell_old hwi hbz (fun h => h) _).trans HBW.out
           have hlz := Nat.lt_of_lt_of_le hbz hwi.size
           go_simp
           apply hK
           · rfl
           · conv => (lhs; whnf)
           · exact hwi
          simp only [put_lit, put_none]
          try dsimp only [List.set_cons_succ, List.set_cons_zero]
         apply Oblig.cons
         case h =>
          intro S w1 hwi hSi hd hcl
          apply StepOk.intro
          intro K hK
          have qb := (hwi.blk HCB.out (fun h => h)).k8
          have qw := (cell_old hwi hbz (fun h => h) _).trans HBW.out
          have hlz := Nat.lt_of_lt_of_le hbz hwi.size
          go_simp
          refine (HA1.out _ hwi).mono ?_
          rintro e w2 ⟨rfl, hk⟩
          apply hK
          · rfl
          · conv => (lhs; whnf)
          · exact Keep0.step hwi hk
         simp only [put_lit, put_none]
         try dsimp only [List.set_cons_succ, List.set_cons_zero]
         iterate 3
          apply Oblig.cons
          case h =>
           intro S w1 hwi hSi hd hcl
           apply StepOk.intro
           intro K hK
           have qb := (hwi.blk HCB.out (fun h => h)).k8
           have qw := (cell_old hwi hbz (fun h => h) _).trans HBW.out
           have hlz := Nat.lt_of_lt_of_le hbz hwi.size
           go_simp
           apply hK
           · rfl
           · conv => (lhs; whnf)
           · exact hwi
          simp only [put_lit, put_none]
          try dsimp only [List.set_cons_succ, List.set_cons_zero]
         apply Oblig.cons
         case h =>
          intro S w1 hwi hSi hd hcl
          apply StepOk.intro
          intro K hK
          have qb := (hwi.blk HCB.out (fun h => h)).k8
          have qw := (cell_old hwi hbz (fun h => h) _).trans HBW.out
          have hlz := Nat.lt_of_lt_of_le hbz hwi.size
          go_simp
          refine (HCT.out _).mono ?_
          rintro e w2 ⟨rfl, hk⟩
          apply hK
          · rfl
          · conv => (lhs; whnf)
          · exact Keep0.step hwi hk
         simp only [put_lit, put_none]
         try dsimp only [List.set_cons_succ, List.set_cons_zero]
         iterate 6
          apply Oblig.cons
          case h =>
           intro S w1 hwi hSi hd hcl
           apply StepOk.intro
           intro K hK
           have qb := (hwi.blk HCB.out (fun h => h)).k8
           have qw := (cell_old hwi hbz (fun h => h) _).trans HBW.out
           have hlz := Nat.lt_of_lt_of_le hbz hwi.size
           go_simp
           apply hK
           · rfl
           · conv => (lhs; whnf)
           · exact hwi
          simp only [put_lit, put_none]
          try dsimp only [List.set_cons_succ, List.set_cons_zero]
         exact Oblig.nil
        case h0 =>
         exact (Keep.refl _ _).drew
        case hend =>
         intro S wx hwi hall
         have HKX := hid hwi
         clear hwi hall
         go_wp2_with fail
         go_ret
         exact ⟨rfl, Keep0.step HS.out.k HKX.out⟩
end Go.Proofs.YthaceckccobgeaaGreat

namespace Go.Proofs.YthaceckccobgeaaGreat
open Go.ChangeShapes Go.WideShapes Go.ChangeAt Go.RowKit
set_option linter.unusedVariables false
set_option linter.unusedSimpArgs false
namespace usageTells
theorem own : ownKnob Tryz.prog.godebug = none := by kernel_rfl
theorem laidOut : laidOutB Tryz.prog = true := by kernel_rfl
set_option maxRecDepth 100000 in
theorem lifted (os : Os) (started : os.Started) (H : Type) (enc : TypeId × Value → H) :
 ReturnsInHanded {} Tryz.checked os 5 .any (Rows.usageTellsSpec.pre6 enc Tryz.prog Tryz.f5 Rows.usageTellsRow.domain false) (Rows.usageTellsSpec.post enc Tryz.prog Tryz.f5 false true false false) := by
 refine returnsInHanded_of_change_sized (C := Tryz.checked) own started (by kernel_rfl) Tryz.func5
  (ChangeSpec.witness6 (enc := enc) (C := Tryz.checked) false ⟨#[], #[.agg #[.int .i64 0, .int .i64 0, .int .i64 0, .int .i64 0, .int .i64 0, .int .i64 0, .slice none 0 0, .slice none 0 0], .slice none 0 0, .int .u8 0, .int .u8 0], []⟩ 8 (by kernel_rfl) (by kernel_rfl) (by kernel_rfl) (by kernel_rfl)) ?_
 intro W base args ds gs before hval0 hW hcnd hsz0 _
 have hval : ∀ (j : Nat) t v, Tryz.f5.params[j]? = some t → args[j]? = some v → Value.okWide Tryz.prog W .any base t v := hval0
 have hW' := hW
 obtain ⟨p, q, hA0, hV, rfl, hfz, hnd⟩ := hW
 have hA : DataW.TrodAll enc Tryz.prog W 0 (fun _ => true) true Tryz.f5.params.toList args.toList ds p := hA0
 rw [Tryz.params5] at hA hval
 obtain ⟨v0, vs0, d0, ds0, p0, q0, hargs, rfl, rfl, h0, r0⟩ := trodAll_cons hA
 obtain ⟨v1, vs1, d1, ds1, p1, q1, rfl, rfl, rfl, h1, r1⟩ := trodAll_cons r0
 obtain ⟨v2, vs2, d2, ds2, p2, q2, rfl, rfl, rfl, h2, r2⟩ := trodAll_cons r1
 obtain ⟨v3, vs3, d3, ds3, p3, q3, rfl, rfl, rfl, h3, r3⟩ := trodAll_cons r2
 obtain ⟨rfl, rfl, rfl⟩ := trodAll_nil r3
 obtain rfl : args = #[v0, v1, v2, v3] := by cases args; simp_all
 obtain ⟨rfl, rfl⟩ := trodVars_none hV
 have lt0 : ∀ x ∈ p0, x.block < W.heap.size := by obtain ⟨m, hm⟩ := h0; exact DataW.trod_lt m _ _ _ hm
 have lt1 : ∀ x ∈ p1, x.block < W.heap.size := by obtain ⟨m, hm⟩ := h1; exact DataW.trod_lt m _ _ _ hm
 obtain ⟨a2, rfl, rfl, rfl, w2⟩ := open_int Tryz.underlying5 (hval 2 5 v2 rfl rfl) h2
 obtain ⟨a3, rfl, rfl, rfl, w3⟩ := open_int Tryz.underlying5 (hval 3 5 v3 rfl rfl) h3
 refine (usageTells_walk (conf_open (hval 0 24 v0 rfl rfl) h0) (i64s_open (hval 1 22 v1 rfl rfl) h1) a2 w2 a3 w3).mono fun e W' ⟨he, kp⟩ => ?_
 have bel := kp.below
 subst he
 exact ⟨_, rfl, _, _, _, [], _, [], hW', trodAll_mk1 (shut_bool Tryz.underlying4 _), (trodAll_cons_mk (Below.trod laidOut (by kernel_rfl) (of_decide_eq_true (by kernel_rfl)) h0 bel lt0) (trodAll_cons_mk (Below.trod laidOut (by kernel_rfl) (of_decide_eq_true (by kernel_rfl)) h1 bel lt1) (trodAll_cons_mk (shut_int Tryz.underlying5 w2) (trodAll_cons_mk (shut_int Tryz.underlying5 w3) trodAll_mk0)))), rfl, bel.frame _, fun h => by cases h⟩
theorem over : Rows.usageTellsRow.holds Tryz.pinned (OpenSpec.ofChange Rows.usageTellsSpec) :=
 OpenClaim.holds_of_wide 5 Tryz.f5 rfl rfl rfl rfl rfl rfl rfl ⟨rfl, rfl, rfl, rfl, rfl⟩ rfl rfl rfl rfl rfl (by kernel_rfl) Tryz.func5 (by kernel_rfl)
  (of_decide_eq_true (by kernel_rfl)) (by unfold Func.isWrapper; first | (rw [if_pos (by decide +kernel)]; kernel_rfl) | (rw [if_neg (by decide +kernel)]; exact ⟨rfl, rfl⟩))
  (fun os started H enc _ => lifted os started H enc)
end usageTells
theorem usageTells_holds : Rows.UsageTellsSaid := usageTells.over
end Go.Proofs.YthaceckccobgeaaGreat
