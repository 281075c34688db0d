/- UsageLive: a ticket that is free, busy, or at its end, is not live, whatever its body; one that is live has a tenant that there is. -/
import Derived.Test.YthaceckccobgeaaZSmall15
namespace Go.Proofs.Ythaceckccobgeaa
open Go.RowKit
set_option linter.unusedVariables false
set_option linter.unusedSimpArgs false
set_option maxRecDepth 100000
set_option maxHeartbeats 8000000 in
theorem usageLive_walk {w : World} {v0 v1 : Value} (hc : ConfIn w v0) (hl : ∃ l, IntsIn w v1 l) (tk : Int) (htk : (Lit.int .u8 tk).wf = true) (ver : Int) (hver : (Lit.int .u32 ver).wf = true) (st : Int) (hst : (Lit.int .u8 st).wf = true) :
 Calls Try.prog 4 #[v0, v1, .int .u8 tk, .int .u32 ver, .int .u8 st] w (Ret (.bool true) w) := by
 have htk := bounds_u8 htk
 have hst := bounds_u8 hst
 have hver := bounds_u32 hver
 obtain ⟨t, s0, g, lm, r, k0, P, L, PA, pc, LA, lc, rfl, hP, hL, hp1, hl1⟩ := hc
 obtain ⟨Vl, VA, vc, rfl, hv63, hV⟩ := hl
 have HP0 := hid hP
 have HL0 := hid hL
 have HV := hid hV
 clear hP hL hV
 go_enter Try.func4, Try.ntmps4
 go_wp2_with fail
 obtain ⟨w0, hw0⟩ : ∃ v, v = w.alloc (.cells #[i64 t, i64 s0, i64 g, i64 lm, i64 r, i64 k0, .slice PA P.length pc, .slice LA L.length lc] 24) := ⟨_, rfl⟩
 rw [← hw0]
 have hs := St.nw (St.nil (Keep.refl _ w)) (Nw.blk (w' := w0) (b := w.heap.size) (T := 24) (cs := [i64 t, i64 s0, i64 g, i64 lm, i64 r, i64 k0, .slice PA P.length pc, .slice LA L.length lc]) (by rw [hw0]; exact Blk.made rfl rfl) (by rw [hw0]; exact (Keep.refl _ _).alloc _) (Nat.le_refl _))
 have HS := hid hs
 clear hs hw0
 refine Calls.mono (law14_head _) ?_
 rintro e w1 ⟨rfl, hk⟩
 have hs := St.keep (show St w [Ass.blk w.heap.size 24 [i64 t, i64 s0, i64 g, i64 lm, i64 r, i64 k0, .slice PA P.length pc, .slice LA L.length lc]] _ from by repeat (with_reducible first | exact HS.out | apply St.alloc | apply St.drewN | apply St.drew)) hk
 clear HS
 have HS := hid (show St w [Ass.blk w.heap.size 24 [i64 t, i64 s0, i64 g, i64 lm, i64 r, i64 k0, .slice PA P.length pc, .slice LA L.length lc]] w1 from hs)
 clear hs hk
 obtain ⟨_, ⟨hb, _⟩, _⟩ := St.get (show St w [Ass.blk w.heap.size 24 [i64 t, i64 s0, i64 g, i64 lm, i64 r, i64 k0, .slice PA P.length pc, .slice LA L.length lc]] w1 from (show St w [Ass.blk w.heap.size 24 [i64 t, i64 s0, i64 g, i64 lm, i64 r, i64 k0, .slice PA P.length pc, .slice LA L.length lc]] w1 from by repeat (with_reducible first | exact HS.out | apply St.alloc | apply St.drewN | apply St.drew)))
 have qb := hb.k8
 clear hb
 go_wp2_with fail
 cases hgr : greatB P.length L.length with
 | true =>
  refine Calls.mono (law_Great t s0 g lm r k0 PA P.length pc LA L.length lc _ hp1 hl1) ?_
  rintro e w2 ⟨rfl, hk⟩
  have hs := St.keep HS.out hk
  clear HS hk qb
  have HS := hid hs
  clear hs
  rw [hgr]
  clear hgr
  go_wp2_with fail
  go_ret
  exact ⟨rfl, HS.out.k⟩
 | false =>
  have hlb : P.length ≤ 100 ∧ L.length ≤ 100 := by simp [greatB] at hgr; omega
  cases hri : rightB t s0 g lm r k0 P L with
  | false =>
   refine Calls.mono (law_Great t s0 g lm r k0 PA P.length pc LA L.length lc _ hp1 hl1) ?_
   rintro e w2 ⟨rfl, hk⟩
   have hs := St.keep HS.out hk
   clear HS hk qb
   have HS := hid hs
   clear hs
   rw [hgr]
   clear hgr
   obtain ⟨_, ⟨hb, _⟩, _⟩ := St.get (show St w [Ass.blk w.heap.size 24 [i64 t, i64 s0, i64 g, i64 lm, i64 r, i64 k0, .slice PA P.length pc, .slice LA L.length lc]] w2 from (show St w [Ass.blk w.heap.size 24 [i64 t, i64 s0, i64 g, i64 lm, i64 r, i64 k0, .slice PA P.length pc, .slice LA L.length lc]] w2 from by repeat (with_reducible first | exact HS.out | apply St.alloc | apply St.drewN | apply St.drew)))
   have qb := hb.k8
   clear hb
   go_wp2_with fail
   refine Calls.mono (ref_Right_all14 t s0 g lm r k0 PA P pc LA L lc _ (HP0.out.keep HS.out.k) (HL0.out.keep HS.out.k) (by omega) (by omega)) ?_
   rintro e w3 ⟨rfl, hk⟩
   have hs := St.keep HS.out hk
   clear HS hk qb
   have HS := hid hs
   clear hs
   rw [hri]
   clear hri
   go_wp2_with fail
   go_ret
   exact ⟨rfl, HS.out.k⟩
  | true =>
   refine Calls.mono (law_Great t s0 g lm r k0 PA P.length pc LA L.length lc _ hp1 hl1) ?_
   rintro e w2 ⟨rfl, hk⟩
   have hs := St.keep HS.out hk
   clear HS hk qb
   have HS := hid hs
   clear hs
   have R := Right.of (show goodB t s0 g lm r k0 P L = true from by unfold goodB; rw [hgr, hri]; rfl)
   rw [hgr]
   clear hgr
   obtain ⟨_, ⟨hb, _⟩, _⟩ := St.get (show St w [Ass.blk w.heap.size 24 [i64 t, i64 s0, i64 g, i64 lm, i64 r, i64 k0, .slice PA P.length pc, .slice LA L.length lc]] w2 from (show St w [Ass.blk w.heap.size 24 [i64 t, i64 s0, i64 g, i64 lm, i64 r, i64 k0, .slice PA P.length pc, .slice LA L.length lc]] w2 from by repeat (with_reducible first | exact HS.out | apply St.alloc | apply St.drewN | apply St.drew)))
   have qb := hb.k8
   clear hb
   go_wp2_with fail
   refine Calls.mono (ref_Right_all14 t s0 g lm r k0 PA P pc LA L lc _ (HP0.out.keep HS.out.k) (HL0.out.keep HS.out.k) (by omega) (by omega)) ?_
   rintro e w3 ⟨rfl, hk⟩
   have hs := St.keep HS.out hk
   clear HS hk qb
   have HS := hid hs
   clear hs
   rw [hri]
   clear hri
   by_cases h100 : 100 < Vl.length
   · go_wp2_with fail
     go_ret
     exact ⟨rfl, HS.out.k⟩
   · skip
     have hvl : Vl.length ≤ 100 := by omega
     clear h100 hv63
     have hsb := R.sb
     have hkb := R.k
     have hpb := R.p
     have HLEN := hid R.len
     have hrb := R.r
     have hlmb := R.l
     obtain ⟨s, rfl⟩ := Int.eq_ofNat_of_zero_le (show 0 ≤ s0 by omega)
     obtain ⟨K, rfl⟩ := Int.eq_ofNat_of_zero_le (show 0 ≤ k0 by omega)
     obtain ⟨pb, po, rfl, hP⟩ := HP0.out.cell (by omega)
     obtain ⟨lb, lo, rfl, hL⟩ := HL0.out.cell (by have := HLEN.out; omega)
     have HP := hid hP
     have HL := hid hL
     clear hP hL HP0 HL0
     have hpz : pb < w.heap.size := by have := World.block_lt_of_cell? _ _ (HP.out 0 (by omega)); simpa using this
     have hlz : lb < w.heap.size := by have := World.block_lt_of_cell? _ _ (HL.out 0 (by have := HLEN.out; omega)); simpa using this
     have HPR := hid (ParR.of_right R)
     have HR := hid R
     clear R
     have hs8 : 1 ≤ s ∧ s ≤ 8 := by omega
     have hK8 : 1 ≤ K ∧ K ≤ 16 := by omega
     clear hsb hkb
     have HFL := hid (fresh14_len s K P.length L)
     obtain ⟨kk, hkk⟩ : ∃ kk : Nat, (kk : Int) = tk % (K : Int) := ⟨(tk % (K : Int)).toNat, Int.toNat_of_nonneg (Int.emod_nonneg _ (by omega))⟩
     have hkk1 : (kk : Int) < K := by rw [hkk]; exact Int.emod_lt_of_pos _ (by omega)
     have hkm : tk.tmod (K : Int) = (kk : Int) := by rw [hkk]; exact Int.tmod_eq_emod_of_nonneg htk.1
     have hK0 : ¬ K = 0 := by omega
     clear hkk
     obtain ⟨ss, hss⟩ : ∃ ss : Int, ss = st % 4 := ⟨_, rfl⟩
     have hsm : st.tmod 4 = ss := by rw [hss]; exact Int.tmod_eq_emod_of_nonneg hst.1
     have hs4 : 0 ≤ ss ∧ ss < 4 := by omega
     clear hss
     obtain ⟨_, ⟨hb, _⟩, _⟩ := St.get (show St w [Ass.blk w.heap.size 24 [i64 t, i64 (s : Int), i64 g, i64 lm, i64 r, i64 (K : Int), .slice (some ⟨pb, po, none⟩) P.length pc, .slice (some ⟨lb, lo, none⟩) L.length lc]] w3 from (show St w [Ass.blk w.heap.size 24 [i64 t, i64 (s : Int), i64 g, i64 lm, i64 r, i64 (K : Int), .slice (some ⟨pb, po, none⟩) P.length pc, .slice (some ⟨lb, lo, none⟩) L.length lc]] w3 from by repeat (with_reducible first | exact HS.out | apply St.alloc | apply St.drewN | apply St.drew)))
     have qb := hb.k8
     clear hb
     have hmq : P.length * (6 + 2 * s) ≤ 264 := (by have h9 : P.length * (6 + 2 * s) ≤ 12 * 22 := Nat.mul_le_mul hpb.2 (by omega); omega)
     go_wp2_with fail
     refine Calls.mono (St.newx (q := fun (x : Nat × Nat) => intsO x.1 (rawW (freshW s K P.length L) Vl)) (show St w [Ass.blk w.heap.size 24 [i64 t, i64 (s : Int), i64 g, i64 lm, i64 r, i64 (K : Int), .slice (some ⟨pb, po, none⟩) P.length pc, .slice (some ⟨lb, lo, none⟩) L.length lc]] _ from (show St w [Ass.blk w.heap.size 24 [i64 t, i64 (s : Int), i64 g, i64 lm, i64 r, i64 (K : Int), .slice (some ⟨pb, po, none⟩) P.length pc, .slice (some ⟨lb, lo, none⟩) L.length lc]] _ from by repeat (with_reducible first | exact HS.out | apply St.alloc | apply St.drewN | apply St.drew))) (law14_Raw w3 lb lo t (s : Int) g lm r (K : Int) (some ⟨pb, po, none⟩) P.length pc L.length lc L VA Vl vc (by omega) (by omega) (by omega) (by omega) (by omega) (by have := HLEN.out; omega) (fun i hi => row_kept HS.out.k HL.out i (by have := HLEN.out; omega)) (Nat.lt_of_lt_of_le hlz HS.out.k.size) (HV.out.keep HS.out.k) (by omega) (by rw [HFL.out]; omega) (by rw [HFL.out]; omega))) ?_
     rintro e w4 ⟨x, ⟨rfl, hcap⟩, hs⟩
     clear HS
     have HS := hid (show St w [intsO x.1 (rawW (freshW s K P.length L) Vl), Ass.blk w.heap.size 24 [i64 t, i64 (s : Int), i64 g, i64 lm, i64 r, i64 (K : Int), .slice (some ⟨pb, po, none⟩) P.length pc, .slice (some ⟨lb, lo, none⟩) L.length lc]] w4 from hs)
     clear hs
     clear qb
     obtain ⟨wb, wc⟩ := x
     obtain ⟨q, hq⟩ : ∃ q, q = P.length * (6 + 2 * s) := ⟨_, rfl⟩
     have hfl := HFL.out
     rw [← hq] at hfl hmq
     rw [hfl] at hcap
     obtain ⟨WW, hWW⟩ : ∃ V, V = rawW (freshW s K P.length L) Vl := ⟨_, rfl⟩
     have hwl : q + 2 * K = WW.length := by rw [hWW]; unfold rawW; rw [rawN_len, hfl]
     rw [hfl]
     simp only at hcap
     have hs := HS.out
     simp only [← hWW] at hs
     clear HS
     have HS := hid (show St w [intsO wb WW, Ass.blk w.heap.size 24 [i64 t, i64 (s : Int), i64 g, i64 lm, i64 r, i64 (K : Int), .slice (some ⟨pb, po, none⟩) P.length pc, .slice (some ⟨lb, lo, none⟩) L.length lc]] w4 from hs)
     clear hs hWW hfl
     have HWL := hid hwl
     have HQ := hid hq
     clear hwl hq
     obtain ⟨at_, hat⟩ : ∃ a, a = q + 2 * kk := ⟨_, rfl⟩
     have hl1 : at_ < q + 2 * K := by omega
     have hl2 : at_ + 1 < q + 2 * K := by omega
     have HAT := hid hat
     clear hat
     obtain ⟨_, ⟨hb, _⟩, _⟩ := St.get (show St w [Ass.blk w.heap.size 24 [i64 t, i64 (s : Int), i64 g, i64 lm, i64 r, i64 (K : Int), .slice (some ⟨pb, po, none⟩) P.length pc, .slice (some ⟨lb, lo, none⟩) L.length lc], intsO wb WW] w4 from (St.pick (show St w [intsO wb WW, Ass.blk w.heap.size 24 [i64 t, i64 (s : Int), i64 g, i64 lm, i64 r, i64 (K : Int), .slice (some ⟨pb, po, none⟩) P.length pc, .slice (some ⟨lb, lo, none⟩) L.length lc]] w4 from by repeat (with_reducible first | exact HS.out | apply St.alloc | apply St.drewN | apply St.drew)) 1 (by simp)))
     have qb := hb.k8
     clear hb
     go_wp2_with fail
     refine Calls.mono (show Calls Try.prog 11 #[.agg #[i64 t, i64 (s : Int), i64 g, i64 lm, i64 r, i64 (K : Int), .slice (some ⟨pb, po, none⟩) P.length pc, .slice (some ⟨lb, lo, none⟩) L.length lc], i64 (kk : Int)] w4 (Ret (i64 (at_ : Int)) w4) from by have h := ref_Ticket t (s : Int) g lm r (K : Int) (some ⟨pb, po, none⟩) P.length pc (some ⟨lb, lo, none⟩) L.length lc (kk : Int) w4 (by omega) (by omega) (by omega) (by omega) (by omega); rw [show (P.length : Int) * (6 + 2 * (s : Int)) + 2 * (kk : Int) = (at_ : Int) from by rw [HAT.out, HQ.out]; push_cast; rfl] at h; exact h) ?_
     rintro e w5 ⟨rfl, hk⟩
     have hs := St.keep (show St w [intsO wb WW, Ass.blk w.heap.size 24 [i64 t, i64 (s : Int), i64 g, i64 lm, i64 r, i64 (K : Int), .slice (some ⟨pb, po, none⟩) P.length pc, .slice (some ⟨lb, lo, none⟩) L.length lc]] _ from by repeat (with_reducible first | exact HS.out | apply St.alloc | apply St.drewN | apply St.drew)) hk
     clear HS
     have HS := hid (show St w [intsO wb WW, Ass.blk w.heap.size 24 [i64 t, i64 (s : Int), i64 g, i64 lm, i64 r, i64 (K : Int), .slice (some ⟨pb, po, none⟩) P.length pc, .slice (some ⟨lb, lo, none⟩) L.length lc]] w5 from hs)
     clear hs hk
     clear qb
     obtain ⟨_, ⟨hb, _⟩, _⟩ := St.get (show St w [Ass.blk w.heap.size 24 [i64 t, i64 (s : Int), i64 g, i64 lm, i64 r, i64 (K : Int), .slice (some ⟨pb, po, none⟩) P.length pc, .slice (some ⟨lb, lo, none⟩) L.length lc], intsO wb WW] w5 from (St.pick (show St w [intsO wb WW, Ass.blk w.heap.size 24 [i64 t, i64 (s : Int), i64 g, i64 lm, i64 r, i64 (K : Int), .slice (some ⟨pb, po, none⟩) P.length pc, .slice (some ⟨lb, lo, none⟩) L.length lc]] w5 from by repeat (with_reducible first | exact HS.out | apply St.alloc | apply St.drewN | apply St.drew)) 1 (by simp)))
     have qb := hb.k8
     clear hb
     have hcw := St.cells (show St w [intsO wb WW, Ass.blk w.heap.size 24 [i64 t, i64 (s : Int), i64 g, i64 lm, i64 r, i64 (K : Int), .slice (some ⟨pb, po, none⟩) P.length pc, .slice (some ⟨lb, lo, none⟩) L.length lc]] w5 from (show St w [intsO wb WW, Ass.blk w.heap.size 24 [i64 t, i64 (s : Int), i64 g, i64 lm, i64 r, i64 (K : Int), .slice (some ⟨pb, po, none⟩) P.length pc, .slice (some ⟨lb, lo, none⟩) L.length lc]] w5 from by repeat (with_reducible first | exact HS.out | apply St.alloc | apply St.drewN | apply St.drew)))
     obtain ⟨_, ⟨hiw, _⟩, _⟩ := St.get (show St w [intsO wb WW, Ass.blk w.heap.size 24 [i64 t, i64 (s : Int), i64 g, i64 lm, i64 r, i64 (K : Int), .slice (some ⟨pb, po, none⟩) P.length pc, .slice (some ⟨lb, lo, none⟩) L.length lc]] w5 from (show St w [intsO wb WW, Ass.blk w.heap.size 24 [i64 t, i64 (s : Int), i64 g, i64 lm, i64 r, i64 (K : Int), .slice (some ⟨pb, po, none⟩) P.length pc, .slice (some ⟨lb, lo, none⟩) L.length lc]] w5 from by repeat (with_reducible first | exact HS.out | apply St.alloc | apply St.drewN | apply St.drew)))
     have hbw := hcw at_ (by have := HWL.out; omega)
     rw [Nat.zero_add] at hbw
     have hfz : w5.frozen? ⟨wb, at_, none⟩ = false := by obtain ⟨cur, hg, _⟩ := hiw; simp [World.frozen?, hg]
     have hwl := hiw.lt
     clear hiw hcw
     go_upto_region 8 with fail
     obtain ⟨z, hz⟩ : ∃ z, z = wrap64 (wrap64 (ver * 4294967296) + ss) := ⟨_, rfl⟩
     rw [← hz]
     have hsz : st10 z = ss := by rw [hz]; unfold st10 pVal wrap32 wrap64; omega
     obtain ⟨w6, hw6⟩ : ∃ v, v = w5.setCell ⟨wb, at_, none⟩ (i64 z) := ⟨_, rfl⟩
     rw [← hw6]
     have hs := St.tr HS.out (fun R hr => intsO_set hr at_ z (by have := HWL.out; omega))
     rw [← hw6] at hs
     clear HS hw6 hz hbw hfz hwl qb
     have HWL2 := hid (show q + 2 * K = (WW.set at_ z).length from by rw [List.length_set]; exact HWL.out)
     have hrz : rd (WW.set at_ z) at_ = z := by rw [rd_set, if_pos ⟨rfl, by have := HWL.out; omega⟩]
     generalize WW.set at_ z = W2 at *
     have HS := hid hs
     clear hs
     obtain ⟨_, ⟨hb, _⟩, _⟩ := St.get (show St w [Ass.blk w.heap.size 24 [i64 t, i64 (s : Int), i64 g, i64 lm, i64 r, i64 (K : Int), .slice (some ⟨pb, po, none⟩) P.length pc, .slice (some ⟨lb, lo, none⟩) L.length lc], intsO wb W2] w6 from (St.pick (show St w [intsO wb W2, Ass.blk w.heap.size 24 [i64 t, i64 (s : Int), i64 g, i64 lm, i64 r, i64 (K : Int), .slice (some ⟨pb, po, none⟩) P.length pc, .slice (some ⟨lb, lo, none⟩) L.length lc]] w6 from by repeat (with_reducible first | exact HS.out | apply St.alloc | apply St.drewN | apply St.drew)) 1 (by simp)))
     have qb := hb.k8
     clear hb
     have hcw := St.cells (show St w [intsO wb W2, Ass.blk w.heap.size 24 [i64 t, i64 (s : Int), i64 g, i64 lm, i64 r, i64 (K : Int), .slice (some ⟨pb, po, none⟩) P.length pc, .slice (some ⟨lb, lo, none⟩) L.length lc]] w6 from (show St w [intsO wb W2, Ass.blk w.heap.size 24 [i64 t, i64 (s : Int), i64 g, i64 lm, i64 r, i64 (K : Int), .slice (some ⟨pb, po, none⟩) P.length pc, .slice (some ⟨lb, lo, none⟩) L.length lc]] w6 from by repeat (with_reducible first | exact HS.out | apply St.alloc | apply St.drewN | apply St.drew)))
     have hlv := fun h => lv_in (pn := P.length) (W := W2) (at_ := at_) h
     rw [hrz, hsz] at hlv
     have hl0 : lvB P.length W2 at_ = false → lvV P.length W2 at_ = 0 ∧ lvN P.length W2 at_ = 0 := fun h => by unfold lvV lvN; rw [h]; exact ⟨rfl, rfl⟩
     have HLI := hid (usage_Live t g lm r s K P pb po pc (some ⟨lb, lo, none⟩) L.length lc W2 wb 0 wc q kk w6 hs8 (by omega) (by omega) (by omega) HQ.out (by have := HWL2.out; have := HAT.out; omega) (by omega) (by have := HWL2.out; omega) hcw)
     rw [← HAT.out, ← HWL2.out] at HLI
     clear hcw hrz hsz
     generalize lvB P.length W2 at_ = lb0 at *
     generalize lvV P.length W2 at_ = lv at *
     generalize lvN P.length W2 at_ = ln0 at *
     go_wp2_with fail
     refine Calls.mono (HLI.out) ?_
     rintro e w7 ⟨rfl, hk⟩
     have hs := St.keep (show St w [intsO wb W2, Ass.blk w.heap.size 24 [i64 t, i64 (s : Int), i64 g, i64 lm, i64 r, i64 (K : Int), .slice (some ⟨pb, po, none⟩) P.length pc, .slice (some ⟨lb, lo, none⟩) L.length lc]] _ from by repeat (with_reducible first | exact HS.out | apply St.alloc | apply St.drewN | apply St.drew)) hk
     clear HS
     have HS := hid (show St w [intsO wb W2, Ass.blk w.heap.size 24 [i64 t, i64 (s : Int), i64 g, i64 lm, i64 r, i64 (K : Int), .slice (some ⟨pb, po, none⟩) P.length pc, .slice (some ⟨lb, lo, none⟩) L.length lc]] w7 from hs)
     clear hs hk
     obtain ⟨_, ⟨hb, _⟩, _⟩ := St.get (show St w [Ass.blk w.heap.size 24 [i64 t, i64 (s : Int), i64 g, i64 lm, i64 r, i64 (K : Int), .slice (some ⟨pb, po, none⟩) P.length pc, .slice (some ⟨lb, lo, none⟩) L.length lc], intsO wb W2] w7 from (St.pick (show St w [intsO wb W2, Ass.blk w.heap.size 24 [i64 t, i64 (s : Int), i64 g, i64 lm, i64 r, i64 (K : Int), .slice (some ⟨pb, po, none⟩) P.length pc, .slice (some ⟨lb, lo, none⟩) L.length lc]] w7 from by repeat (with_reducible first | exact HS.out | apply St.alloc | apply St.drewN | apply St.drew)) 1 (by simp)))
     have qb := hb.k8
     clear hb
     clear HLI
     cases lb0 with
     | false =>
      obtain ⟨rfl, rfl⟩ := hl0 rfl
      clear hlv hl0
      by_cases h2 : ss = 2
      · subst h2
        go_wp2_with fail
        go_ret
        exact ⟨rfl, HS.out.k⟩
      · have g0 : (ss == 2) = false := beq_eq_false_iff_ne.2 h2
        go_wp2_with fail
        go_ret
        exact ⟨rfl, HS.out.k⟩
     | true =>
      obtain ⟨_, h1, h2, h3, h4⟩ := hlv rfl
      clear hlv hl0
      subst h4
      have g1 : decide ((lv : Int) < P.length) = true := decide_eq_true (by omega)
      have g2 : decide (1 ≤ ln0) = true := decide_eq_true h2
      have g3 : decide (ln0 ≤ 1048576) = true := decide_eq_true h3
      go_wp2_with fail
      go_ret
      exact ⟨rfl, HS.out.k⟩
end Go.Proofs.Ythaceckccobgeaa

namespace Go.Proofs.Ythaceckccobgeaa
open Go.ChangeShapes Go.WideShapes Go.ChangeAt Go.RowKit
set_option linter.unusedVariables false
set_option linter.unusedSimpArgs false
namespace usageLive
theorem own : ownKnob Try.prog.godebug = none := by kernel_rfl
theorem laidOut : laidOutB Try.prog = true := by kernel_rfl
set_option maxRecDepth 100000 in
theorem lifted (os : Os) (started : os.Started) (H : Type) (enc : TypeId × Value → H) :
 ReturnsInHanded {} Try.checked os 4 .any (Rows.usageLiveSpec.pre6 enc Try.prog Try.f4 Rows.usageLiveRow.domain false) (Rows.usageLiveSpec.post enc Try.prog Try.f4 false true false false) := by
 refine returnsInHanded_of_change_sized (C := Try.checked) own started (by kernel_rfl) Try.func4
  (ChangeSpec.witness6 (enc := enc) (C := Try.checked) false ⟨#[], #[.agg #[.int .i64 0, .int .i64 0, .int .i64 0, .int .i64 0, .int .i64 0, .int .i64 0, .slice none 0 0, .slice none 0 0], .slice none 0 0, .int .u8 0, .int .u32 0, .int .u8 0], []⟩ 8 (by kernel_rfl) (by kernel_rfl) (by kernel_rfl) (by kernel_rfl)) ?_
 intro W base args ds gs before hval0 hW hcnd hsz0 _
 have hval : ∀ (j : Nat) t v, Try.f4.params[j]? = some t → args[j]? = some v → Value.okWide Try.prog W .any base t v := hval0
 have hW' := hW
 obtain ⟨p, q, hA0, hV, rfl, hfz, hnd⟩ := hW
 have hA : DataW.TrodAll enc Try.prog W 0 (fun _ => true) true Try.f4.params.toList args.toList ds p := hA0
 rw [Try.params4] at hA hval
 obtain ⟨v0, vs0, d0, ds0, p0, q0, hargs, rfl, rfl, h0, r0⟩ := trodAll_cons hA
 obtain ⟨v1, vs1, d1, ds1, p1, q1, rfl, rfl, rfl, h1, r1⟩ := trodAll_cons r0
 obtain ⟨v2, vs2, d2, ds2, p2, q2, rfl, rfl, rfl, h2, r2⟩ := trodAll_cons r1
 obtain ⟨v3, vs3, d3, ds3, p3, q3, rfl, rfl, rfl, h3, r3⟩ := trodAll_cons r2
 obtain ⟨v4, vs4, d4, ds4, p4, q4, rfl, rfl, rfl, h4, r4⟩ := trodAll_cons r3
 obtain ⟨rfl, rfl, rfl⟩ := trodAll_nil r4
 obtain rfl : args = #[v0, v1, v2, v3, v4] := by cases args; simp_all
 obtain ⟨rfl, rfl⟩ := trodVars_none hV
 have lt0 : ∀ x ∈ p0, x.block < W.heap.size := by obtain ⟨m, hm⟩ := h0; exact DataW.trod_lt m _ _ _ hm
 have lt1 : ∀ x ∈ p1, x.block < W.heap.size := by obtain ⟨m, hm⟩ := h1; exact DataW.trod_lt m _ _ _ hm
 obtain ⟨a2, rfl, rfl, rfl, w2⟩ := open_int Try.underlying5 (hval 2 5 v2 rfl rfl) h2
 obtain ⟨a3, rfl, rfl, rfl, w3⟩ := open_int Try.underlying32 (hval 3 32 v3 rfl rfl) h3
 obtain ⟨a4, rfl, rfl, rfl, w4⟩ := open_int Try.underlying5 (hval 4 5 v4 rfl rfl) h4
 refine (usageLive_walk (conf_open (hval 0 24 v0 rfl rfl) h0) (ints_open (hval 1 22 v1 rfl rfl) h1) a2 w2 a3 w3 a4 w4).mono fun e W' ⟨he, kp⟩ => ?_
 have bel := kp.below
 subst he
 exact ⟨_, rfl, _, _, _, [], _, [], hW', trodAll_mk1 (shut_bool Try.underlying4 _), (trodAll_cons_mk (Below.trod laidOut (by kernel_rfl) (of_decide_eq_true (by kernel_rfl)) h0 bel lt0) (trodAll_cons_mk (Below.trod laidOut (by kernel_rfl) (of_decide_eq_true (by kernel_rfl)) h1 bel lt1) (trodAll_cons_mk (shut_int Try.underlying5 w2) (trodAll_cons_mk (shut_int Try.underlying32 w3) (trodAll_cons_mk (shut_int Try.underlying5 w4) trodAll_mk0))))), rfl, bel.frame _, fun h => by cases h⟩
theorem over : Rows.usageLiveRow.holds Try.pinned (OpenSpec.ofChange Rows.usageLiveSpec) :=
 OpenClaim.holds_of_wide 4 Try.f4 rfl rfl rfl rfl rfl rfl rfl ⟨rfl, rfl, rfl, rfl, rfl⟩ rfl rfl rfl rfl rfl (by kernel_rfl) Try.func4 (by kernel_rfl)
  (of_decide_eq_true (by kernel_rfl)) (by unfold Func.isWrapper; first | (rw [if_pos (by decide +kernel)]; kernel_rfl) | (rw [if_neg (by decide +kernel)]; exact ⟨rfl, rfl⟩))
  (fun os started H enc _ => lifted os started H enc)
end usageLive
theorem usageLive_holds : Rows.UsageLiveSaid := usageLive.over
end Go.Proofs.Ythaceckccobgeaa
