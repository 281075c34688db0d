/- UsageSums: what a node uses is what its children use, and its own live tickets; the first tenant uses what all live tickets hold. -/
import Derived.Test.YthaceckccobgeaaZSmall15
namespace Go.Proofs.Ythaceckccobgeaa
open Go.RowKit
set_option linter.unusedVariables false
set_option linter.unusedSimpArgs false
set_option maxRecDepth 100000
theorem sumF_bd {f : Nat → Int} {B : Int} (hB : 0 ≤ B) (h : ∀ i, 0 ≤ f i ∧ f i ≤ B) : ∀ n : Nat, 0 ≤ sumF f n ∧ sumF f n ≤ B * n
 | 0 => by simp [sumF]
 | n + 1 => by
  have h1 := sumF_bd hB h n
  have h2 := h n
  rw [sumF]
  push_cast
  rw [Int.mul_add, Int.mul_one]
  omega
set_option maxHeartbeats 16000000 in
theorem usageSums_walk {w : World} {v0 v1 : Value} (hc : ConfIn w v0) (hl : ∃ l, IntsIn w v1 l) (nd : Int) (hnd : (Lit.int .u8 nd).wf = true) :
 Calls Try.prog 3 #[v0, v1, .int .u8 nd] w (Ret (.bool true) w) := by
 have hnd := bounds_u8 hnd
 obtain ⟨t, s0, g, lm, r, k0, P, L, PA, pc, LA, lc, rfl, hP, hL, hp1, hl1⟩ := hc
 obtain ⟨Vl, VA, vc, rfl, hv63, hV⟩ := hl
 have HP0 := hid hP
 have HL0 := hid hL
 have HV := hid hV
 clear hP hL hV
 go_enter Try.func3, Try.ntmps3
 go_wp2_with fail
 obtain ⟨w0, hw0⟩ : ∃ v, v = w.alloc (.cells #[i64 t, i64 s0, i64 g, i64 lm, i64 r, i64 k0, .slice PA P.length pc, .slice LA L.length lc] 24) := ⟨_, rfl⟩
 rw [← hw0]
 have hs := St.nw (St.nil (Keep.refl _ w)) (Nw.blk (w' := w0) (b := w.heap.size) (T := 24) (cs := [i64 t, i64 s0, i64 g, i64 lm, i64 r, i64 k0, .slice PA P.length pc, .slice LA L.length lc]) (by rw [hw0]; exact Blk.made rfl rfl) (by rw [hw0]; exact (Keep.refl _ _).alloc _) (Nat.le_refl _))
 have HS := hid hs
 clear hs hw0
 refine Calls.mono (law14_head _) ?_
 rintro e w1 ⟨rfl, hk⟩
 have hs := St.keep (show St w [Ass.blk w.heap.size 24 [i64 t, i64 s0, i64 g, i64 lm, i64 r, i64 k0, .slice PA P.length pc, .slice LA L.length lc]] _ from by repeat (with_reducible first | exact HS.out | apply St.alloc | apply St.drewN | apply St.drew)) hk
 clear HS
 have HS := hid (show St w [Ass.blk w.heap.size 24 [i64 t, i64 s0, i64 g, i64 lm, i64 r, i64 k0, .slice PA P.length pc, .slice LA L.length lc]] w1 from hs)
 clear hs hk
 obtain ⟨_, ⟨hb, _⟩, _⟩ := St.get (show St w [Ass.blk w.heap.size 24 [i64 t, i64 s0, i64 g, i64 lm, i64 r, i64 k0, .slice PA P.length pc, .slice LA L.length lc]] w1 from (show St w [Ass.blk w.heap.size 24 [i64 t, i64 s0, i64 g, i64 lm, i64 r, i64 k0, .slice PA P.length pc, .slice LA L.length lc]] w1 from by repeat (with_reducible first | exact HS.out | apply St.alloc | apply St.drewN | apply St.drew)))
 have qb := hb.k8
 clear hb
 go_wp2_with fail
 cases hgr : greatB P.length L.length with
 | true =>
  refine Calls.mono (law_Great t s0 g lm r k0 PA P.length pc LA L.length lc _ hp1 hl1) ?_
  rintro e w2 ⟨rfl, hk⟩
  have hs := St.keep HS.out hk
  clear HS hk qb
  have HS := hid hs
  clear hs
  rw [hgr]
  clear hgr
  go_wp2_with fail
  go_ret
  exact ⟨rfl, HS.out.k⟩
 | false =>
  have hlb : P.length ≤ 100 ∧ L.length ≤ 100 := by simp [greatB] at hgr; omega
  cases hri : rightB t s0 g lm r k0 P L with
  | false =>
   refine Calls.mono (law_Great t s0 g lm r k0 PA P.length pc LA L.length lc _ hp1 hl1) ?_
   rintro e w2 ⟨rfl, hk⟩
   have hs := St.keep HS.out hk
   clear HS hk qb
   have HS := hid hs
   clear hs
   rw [hgr]
   clear hgr
   obtain ⟨_, ⟨hb, _⟩, _⟩ := St.get (show St w [Ass.blk w.heap.size 24 [i64 t, i64 s0, i64 g, i64 lm, i64 r, i64 k0, .slice PA P.length pc, .slice LA L.length lc]] w2 from (show St w [Ass.blk w.heap.size 24 [i64 t, i64 s0, i64 g, i64 lm, i64 r, i64 k0, .slice PA P.length pc, .slice LA L.length lc]] w2 from by repeat (with_reducible first | exact HS.out | apply St.alloc | apply St.drewN | apply St.drew)))
   have qb := hb.k8
   clear hb
   go_wp2_with fail
   refine Calls.mono (ref_Right_all14 t s0 g lm r k0 PA P pc LA L lc _ (HP0.out.keep HS.out.k) (HL0.out.keep HS.out.k) (by omega) (by omega)) ?_
   rintro e w3 ⟨rfl, hk⟩
   have hs := St.keep HS.out hk
   clear HS hk qb
   have HS := hid hs
   clear hs
   rw [hri]
   clear hri
   go_wp2_with fail
   go_ret
   exact ⟨rfl, HS.out.k⟩
  | true =>
   refine Calls.mono (law_Great t s0 g lm r k0 PA P.length pc LA L.length lc _ hp1 hl1) ?_
   rintro e w2 ⟨rfl, hk⟩
   have hs := St.keep HS.out hk
   clear HS hk qb
   have HS := hid hs
   clear hs
   have R := Right.of (show goodB t s0 g lm r k0 P L = true from by unfold goodB; rw [hgr, hri]; rfl)
   rw [hgr]
   clear hgr
   obtain ⟨_, ⟨hb, _⟩, _⟩ := St.get (show St w [Ass.blk w.heap.size 24 [i64 t, i64 s0, i64 g, i64 lm, i64 r, i64 k0, .slice PA P.length pc, .slice LA L.length lc]] w2 from (show St w [Ass.blk w.heap.size 24 [i64 t, i64 s0, i64 g, i64 lm, i64 r, i64 k0, .slice PA P.length pc, .slice LA L.length lc]] w2 from by repeat (with_reducible first | exact HS.out | apply St.alloc | apply St.drewN | apply St.drew)))
   have qb := hb.k8
   clear hb
   go_wp2_with fail
   refine Calls.mono (ref_Right_all14 t s0 g lm r k0 PA P pc LA L lc _ (HP0.out.keep HS.out.k) (HL0.out.keep HS.out.k) (by omega) (by omega)) ?_
   rintro e w3 ⟨rfl, hk⟩
   have hs := St.keep HS.out hk
   clear HS hk qb
   have HS := hid hs
   clear hs
   rw [hri]
   clear hri
   by_cases h100 : 100 < Vl.length
   · go_wp2_with fail
     go_ret
     exact ⟨rfl, HS.out.k⟩
   · skip
     have hvl : Vl.length ≤ 100 := by omega
     clear h100 hv63
     have hsb := R.sb
     have hkb := R.k
     have hpb := R.p
     have HLEN := hid R.len
     have hrb := R.r
     have hlmb := R.l
     obtain ⟨s, rfl⟩ := Int.eq_ofNat_of_zero_le (show 0 ≤ s0 by omega)
     obtain ⟨K, rfl⟩ := Int.eq_ofNat_of_zero_le (show 0 ≤ k0 by omega)
     obtain ⟨pb, po, rfl, hP⟩ := HP0.out.cell (by omega)
     obtain ⟨lb, lo, rfl, hL⟩ := HL0.out.cell (by have := HLEN.out; omega)
     have HP := hid hP
     have HL := hid hL
     clear hP hL HP0 HL0
     have hpz : pb < w.heap.size := by have := World.block_lt_of_cell? _ _ (HP.out 0 (by omega)); simpa using this
     have hlz : lb < w.heap.size := by have := World.block_lt_of_cell? _ _ (HL.out 0 (by have := HLEN.out; omega)); simpa using this
     have HPR := hid (ParR.of_right R)
     have HR := hid R
     clear R
     have hs8 : 1 ≤ s ∧ s ≤ 8 := by omega
     have hK8 : 1 ≤ K ∧ K ≤ 16 := by omega
     clear hsb hkb
     have HFL := hid (fresh14_len s K P.length L)
     obtain ⟨_, ⟨hb, _⟩, _⟩ := St.get (show St w [Ass.blk w.heap.size 24 [i64 t, i64 (s : Int), i64 g, i64 lm, i64 r, i64 (K : Int), .slice (some ⟨pb, po, none⟩) P.length pc, .slice (some ⟨lb, lo, none⟩) L.length lc]] w3 from (show St w [Ass.blk w.heap.size 24 [i64 t, i64 (s : Int), i64 g, i64 lm, i64 r, i64 (K : Int), .slice (some ⟨pb, po, none⟩) P.length pc, .slice (some ⟨lb, lo, none⟩) L.length lc]] w3 from by repeat (with_reducible first | exact HS.out | apply St.alloc | apply St.drewN | apply St.drew)))
     have qb := hb.k8
     clear hb
     have hmq : P.length * (6 + 2 * s) ≤ 264 := (by have h9 : P.length * (6 + 2 * s) ≤ 12 * 22 := Nat.mul_le_mul hpb.2 (by omega); omega)
     go_wp2_with fail
     refine Calls.mono (St.newx (q := fun (x : Nat × Nat) => intsO x.1 (rawW (freshW s K P.length L) Vl)) (show St w [Ass.blk w.heap.size 24 [i64 t, i64 (s : Int), i64 g, i64 lm, i64 r, i64 (K : Int), .slice (some ⟨pb, po, none⟩) P.length pc, .slice (some ⟨lb, lo, none⟩) L.length lc]] _ from (show St w [Ass.blk w.heap.size 24 [i64 t, i64 (s : Int), i64 g, i64 lm, i64 r, i64 (K : Int), .slice (some ⟨pb, po, none⟩) P.length pc, .slice (some ⟨lb, lo, none⟩) L.length lc]] _ from by repeat (with_reducible first | exact HS.out | apply St.alloc | apply St.drewN | apply St.drew))) (law14_Raw w3 lb lo t (s : Int) g lm r (K : Int) (some ⟨pb, po, none⟩) P.length pc L.length lc L VA Vl vc (by omega) (by omega) (by omega) (by omega) (by omega) (by have := HLEN.out; omega) (fun i hi => row_kept HS.out.k HL.out i (by have := HLEN.out; omega)) (Nat.lt_of_lt_of_le hlz HS.out.k.size) (HV.out.keep HS.out.k) (by omega) (by rw [HFL.out]; omega) (by rw [HFL.out]; omega))) ?_
     rintro e w4 ⟨x, ⟨rfl, hcap⟩, hs⟩
     clear HS
     have HS := hid (show St w [intsO x.1 (rawW (freshW s K P.length L) Vl), Ass.blk w.heap.size 24 [i64 t, i64 (s : Int), i64 g, i64 lm, i64 r, i64 (K : Int), .slice (some ⟨pb, po, none⟩) P.length pc, .slice (some ⟨lb, lo, none⟩) L.length lc]] w4 from hs)
     clear hs
     clear qb
     obtain ⟨wb, wc⟩ := x
     obtain ⟨q, hq⟩ : ∃ q, q = P.length * (6 + 2 * s) := ⟨_, rfl⟩
     have hfl := HFL.out
     rw [← hq] at hfl hmq
     rw [hfl] at hcap
     obtain ⟨WW, hWW⟩ : ∃ V, V = rawW (freshW s K P.length L) Vl := ⟨_, rfl⟩
     have hwl : q + 2 * K = WW.length := by rw [hWW]; unfold rawW; rw [rawN_len, hfl]
     rw [hfl]
     simp only at hcap
     have hs := HS.out
     simp only [← hWW] at hs
     clear HS
     have HS := hid (show St w [intsO wb WW, Ass.blk w.heap.size 24 [i64 t, i64 (s : Int), i64 g, i64 lm, i64 r, i64 (K : Int), .slice (some ⟨pb, po, none⟩) P.length pc, .slice (some ⟨lb, lo, none⟩) L.length lc]] w4 from hs)
     clear hs hWW hfl
     have HWL := hid hwl
     have HQ := hid hq
     clear hwl hq
     clear HFL
     obtain ⟨v, hv⟩ : ∃ u : Nat, (u : Int) = nd % (P.length : Int) := ⟨(nd % (P.length : Int)).toNat, Int.toNat_of_nonneg (Int.emod_nonneg _ (by omega))⟩
     have hv1 : v < P.length := (by have h9 : (v : Int) < P.length := (by rw [hv]; exact Int.emod_lt_of_pos _ (by omega)); omega)
     have hvm : nd.tmod (P.length : Int) = (v : Int) := by rw [hv]; exact Int.tmod_eq_emod_of_nonneg hnd.1
     have hP0 : ¬ P.length = 0 := by omega
     have hP1 : ¬ P = [] := fun e => hP0 (by rw [e]; rfl)
     clear hv
     have hB1 : ∀ u, 0 ≤ usedN P WW q K u ∧ usedN P WW q K u ≤ 16777216 := fun u => by have := usedN_bd (P := P) (W := WW) (q := q) u K; omega
     have HS1 := hid (fun n => sumF_bd (f := (fun u => if rd P u = (v : Int) then usedN P WW q K u else 0)) (B := 16777216) (by omega) (fun u => by have := hB1 u; (try simp only); split <;> omega) n)
     have HS2 := hid (fun n => sumF_bd (f := (fun k => if lvB P.length WW (q + 2 * k) = true ∧ lvV P.length WW (q + 2 * k) = v then lvN P.length WW (q + 2 * k) else 0)) (B := 1048576) (by omega) (fun k => by have := lvN_bd (W := WW) P.length (q + 2 * k); (try simp only); split <;> omega) n)
     have HS3 := hid (fun n => sumF_bd (f := (fun k => lvN P.length WW (q + 2 * k))) (B := 1048576) (by omega) (fun k => lvN_bd (W := WW) P.length (q + 2 * k)) n)
     have HBU := hid hB1
     clear hB1
     have HUS := hid (used_sum (W := WW) (q := q) (K := K) HPR.out (by omega) v)
     have HUR := hid (used_root (W := WW) (q := q) (K := K) HPR.out (by omega))
     have HN1 := hid (show ∀ n, sumF (fun u => if rd P u = (v : Int) then usedN P WW q K u else 0) (n + 1) = sumF (fun u => if rd P u = (v : Int) then usedN P WW q K u else 0) n + (fun u => if rd P u = (v : Int) then usedN P WW q K u else 0) n from fun _ => rfl)
     have HN2 := hid (show ∀ n, sumF (fun k => if lvB P.length WW (q + 2 * k) = true ∧ lvV P.length WW (q + 2 * k) = v then lvN P.length WW (q + 2 * k) else 0) (n + 1) = sumF (fun k => if lvB P.length WW (q + 2 * k) = true ∧ lvV P.length WW (q + 2 * k) = v then lvN P.length WW (q + 2 * k) else 0) n + (fun k => if lvB P.length WW (q + 2 * k) = true ∧ lvV P.length WW (q + 2 * k) = v then lvN P.length WW (q + 2 * k) else 0) n from fun _ => rfl)
     have HN3 := hid (show ∀ n, sumF (fun k => lvN P.length WW (q + 2 * k)) (n + 1) = sumF (fun k => lvN P.length WW (q + 2 * k)) n + (fun k => lvN P.length WW (q + 2 * k)) n from fun _ => rfl)
     simp only at HN1 HN2 HN3
     have HZ1 : Hid (sumF (fun u => if rd P u = (v : Int) then usedN P WW q K u else 0) 0 = 0) := hid rfl
     have HZ2 : Hid (sumF (fun k => if lvB P.length WW (q + 2 * k) = true ∧ lvV P.length WW (q + 2 * k) = v then lvN P.length WW (q + 2 * k) else 0) 0 = 0) := hid rfl
     have HZ3 : Hid (sumF (fun k => lvN P.length WW (q + 2 * k)) 0 = 0) := hid rfl
     have HLC := hid (fun (k : Nat) (w' : World) (hk : k < K) hcw => usage_Live t g lm r s K P pb po pc (some ⟨lb, lo, none⟩) L.length lc WW wb 0 wc q k w' hs8 (by omega) (by omega) (by omega) HQ.out (by have := HWL.out; omega) (by omega) (by have := HWL.out; omega) hcw)
     rw [← HWL.out] at HLC
     generalize sumF (fun u => if rd P u = (v : Int) then usedN P WW q K u else 0) = sA at *
     generalize sumF (fun k => if lvB P.length WW (q + 2 * k) = true ∧ lvV P.length WW (q + 2 * k) = v then lvN P.length WW (q + 2 * k) else 0) = sB at *
     generalize sumF (fun k => lvN P.length WW (q + 2 * k)) = sC at *
     obtain ⟨_, ⟨hb, _⟩, _⟩ := St.get (show St w [Ass.blk w.heap.size 24 [i64 t, i64 (s : Int), i64 g, i64 lm, i64 r, i64 (K : Int), .slice (some ⟨pb, po, none⟩) P.length pc, .slice (some ⟨lb, lo, none⟩) L.length lc], intsO wb WW] w4 from (St.pick (show St w [intsO wb WW, Ass.blk w.heap.size 24 [i64 t, i64 (s : Int), i64 g, i64 lm, i64 r, i64 (K : Int), .slice (some ⟨pb, po, none⟩) P.length pc, .slice (some ⟨lb, lo, none⟩) L.length lc]] w4 from by repeat (with_reducible first | exact HS.out | apply St.alloc | apply St.drewN | apply St.drew)) 1 (by simp)))
     have qb := hb.k8
     clear hb
     go_wp2_with fail
     go_loopw [10, 12] (fun v10 v12 wr => ∃ i : Nat, i ≤ P.length ∧ v12 = .int .i64 i ∧ v10 = .int .i64 (sA i) ∧ St w [intsO wb WW, Ass.blk w.heap.size 24 [i64 t, i64 (s : Int), i64 g, i64 lm, i64 r, i64 (K : Int), .slice (some ⟨pb, po, none⟩) P.length pc, .slice (some ⟨lb, lo, none⟩) L.length lc]] wr) (fun _ x _ => P.length - (intOf x).toNat)
     case atStart => exact ⟨0, Nat.zero_le _, rfl, by rw [HZ1.out], HS.out⟩
     case round =>
      obtain ⟨i, hi, rfl, rfl, hs⟩ := hrel
      clear HS
      obtain ⟨w20, rfl⟩ : ∃ x, x = wr := ⟨_, rfl⟩
      have HS := hid hs
      clear hs
      obtain ⟨_, ⟨hb, _⟩, _⟩ := St.get (show St w [Ass.blk w.heap.size 24 [i64 t, i64 (s : Int), i64 g, i64 lm, i64 r, i64 (K : Int), .slice (some ⟨pb, po, none⟩) P.length pc, .slice (some ⟨lb, lo, none⟩) L.length lc], intsO wb WW] w20 from (St.pick (show St w [intsO wb WW, Ass.blk w.heap.size 24 [i64 t, i64 (s : Int), i64 g, i64 lm, i64 r, i64 (K : Int), .slice (some ⟨pb, po, none⟩) P.length pc, .slice (some ⟨lb, lo, none⟩) L.length lc]] w20 from by repeat (with_reducible first | exact HS.out | apply St.alloc | apply St.drewN | apply St.drew)) 1 (by simp)))
      have qb := hb.k8
      clear hb
      by_cases hlt : i < P.length
      · have hcp := (cell_old HS.out.k hpz (fun h => h) _).trans (HP.out i hlt)
        have hpz2 := Nat.lt_of_lt_of_le hpz HS.out.k.size
        have hn := HN1.out i
        have b1 := HS1.out i
        have b2 := HBU.out i
        obtain ⟨ui, hui⟩ : ∃ x, x = usedN P WW q K i := ⟨_, rfl⟩
        rw [← hui] at hn b2
        have y1 : IntKind.i64.wrap (sA i + ui) = sA i + ui := IntWalk.i64_in _ (by omega)
        have HUI := hid hui
        have HN := hid hn
        clear hui hn
        by_cases e : rd P i = (v : Int)
        · have HE := hid e
          have g0 : (rd P i == (v : Int)) = true := beq_iff_eq.2 e
          clear e
          obtain ⟨_, ⟨hb, _⟩, _⟩ := St.get (show St w [Ass.blk w.heap.size 24 [i64 t, i64 (s : Int), i64 g, i64 lm, i64 r, i64 (K : Int), .slice (some ⟨pb, po, none⟩) P.length pc, .slice (some ⟨lb, lo, none⟩) L.length lc], intsO wb WW] w20 from (St.pick (show St w [intsO wb WW, Ass.blk w.heap.size 24 [i64 t, i64 (s : Int), i64 g, i64 lm, i64 r, i64 (K : Int), .slice (some ⟨pb, po, none⟩) P.length pc, .slice (some ⟨lb, lo, none⟩) L.length lc]] w20 from by repeat (with_reducible first | exact HS.out | apply St.alloc | apply St.drewN | apply St.drew)) 1 (by simp)))
          have qb := hb.k8
          clear hb
          have hcw := St.cells (show St w [intsO wb WW, Ass.blk w.heap.size 24 [i64 t, i64 (s : Int), i64 g, i64 lm, i64 r, i64 (K : Int), .slice (some ⟨pb, po, none⟩) P.length pc, .slice (some ⟨lb, lo, none⟩) L.length lc]] w20 from (show St w [intsO wb WW, Ass.blk w.heap.size 24 [i64 t, i64 (s : Int), i64 g, i64 lm, i64 r, i64 (K : Int), .slice (some ⟨pb, po, none⟩) P.length pc, .slice (some ⟨lb, lo, none⟩) L.length lc]] w20 from by repeat (with_reducible first | exact HS.out | apply St.alloc | apply St.drewN | apply St.drew)))
          go_wp2_with fail
          refine Calls.mono (show Calls Try.prog 9 #[.agg #[i64 t, i64 (s : Int), i64 g, i64 lm, i64 r, i64 (K : Int), .slice (some ⟨pb, po, none⟩) P.length pc, .slice (some ⟨lb, lo, none⟩) L.length lc], .slice (some ⟨wb, 0, none⟩) (q + 2 * K) wc, i64 (i : Int)] w20 (Ret (i64 ui) w20) from by rw [HUI.out, HWL.out]; exact usage_Used t g lm r s K P pb po pc (some ⟨lb, lo, none⟩) L.length lc WW wb 0 wc q i w20 (by omega) (by omega) (by omega) (by omega) HPR.out.ok HQ.out (by have := HWL.out; omega) (by have := HWL.out; omega) (row_kept HS.out.k HP.out) hcw) ?_
          rintro e w21 ⟨rfl, hk⟩
          have hs := St.keep (show St w [intsO wb WW, Ass.blk w.heap.size 24 [i64 t, i64 (s : Int), i64 g, i64 lm, i64 r, i64 (K : Int), .slice (some ⟨pb, po, none⟩) P.length pc, .slice (some ⟨lb, lo, none⟩) L.length lc]] _ from by repeat (with_reducible first | exact HS.out | apply St.alloc | apply St.drewN | apply St.drew)) hk
          clear HS
          have HS := hid (show St w [intsO wb WW, Ass.blk w.heap.size 24 [i64 t, i64 (s : Int), i64 g, i64 lm, i64 r, i64 (K : Int), .slice (some ⟨pb, po, none⟩) P.length pc, .slice (some ⟨lb, lo, none⟩) L.length lc]] w21 from hs)
          clear hs hk
          clear qb hcw
          obtain ⟨_, ⟨hb, _⟩, _⟩ := St.get (show St w [Ass.blk w.heap.size 24 [i64 t, i64 (s : Int), i64 g, i64 lm, i64 r, i64 (K : Int), .slice (some ⟨pb, po, none⟩) P.length pc, .slice (some ⟨lb, lo, none⟩) L.length lc], intsO wb WW] w21 from (St.pick (show St w [intsO wb WW, Ass.blk w.heap.size 24 [i64 t, i64 (s : Int), i64 g, i64 lm, i64 r, i64 (K : Int), .slice (some ⟨pb, po, none⟩) P.length pc, .slice (some ⟨lb, lo, none⟩) L.length lc]] w21 from by repeat (with_reducible first | exact HS.out | apply St.alloc | apply St.drewN | apply St.drew)) 1 (by simp)))
          have qb := hb.k8
          clear hb
          go_wp2_with fail
          go_roundw
          case rel => exact ⟨i + 1, by omega, by go_num, by rw [HN.out, if_pos HE.out], HS.out⟩
          case measure => simp [intOf]; omega
        · have g0 : (rd P i == (v : Int)) = false := beq_eq_false_iff_ne.2 e
          have HE := hid e
          clear e
          go_wp2_with fail
          go_roundw
          case rel => exact ⟨i + 1, by omega, by go_num, by rw [HN.out, if_neg HE.out, Int.add_zero], HS.out⟩
          case measure => simp [intOf]; omega
      · obtain rfl : i = P.length := by omega
        go_wp2_with fail
        go_loopw [10, 11, 13] (fun v10 v11 v13 wr => ∃ i : Nat, i ≤ K ∧ v13 = .int .i64 i ∧ v10 = .int .i64 (sA P.length + sB i) ∧ v11 = .int .i64 (sC i) ∧ St w [intsO wb WW, Ass.blk w.heap.size 24 [i64 t, i64 (s : Int), i64 g, i64 lm, i64 r, i64 (K : Int), .slice (some ⟨pb, po, none⟩) P.length pc, .slice (some ⟨lb, lo, none⟩) L.length lc]] wr) (fun _ _ x _ => K - (intOf x).toNat)
        case atStart => exact ⟨0, Nat.zero_le _, rfl, by rw [HZ2.out, Int.add_zero], by rw [HZ3.out], HS.out⟩
        case round =>
         obtain ⟨i, hi, rfl, rfl, rfl, hs⟩ := hrel
         clear HS
         obtain ⟨w40, rfl⟩ : ∃ x, x = wr := ⟨_, rfl⟩
         have HS := hid hs
         clear hs
         by_cases hlt : i < K
         · obtain ⟨_, ⟨hb, _⟩, _⟩ := St.get (show St w [Ass.blk w.heap.size 24 [i64 t, i64 (s : Int), i64 g, i64 lm, i64 r, i64 (K : Int), .slice (some ⟨pb, po, none⟩) P.length pc, .slice (some ⟨lb, lo, none⟩) L.length lc], intsO wb WW] w40 from (St.pick (show St w [intsO wb WW, Ass.blk w.heap.size 24 [i64 t, i64 (s : Int), i64 g, i64 lm, i64 r, i64 (K : Int), .slice (some ⟨pb, po, none⟩) P.length pc, .slice (some ⟨lb, lo, none⟩) L.length lc]] w40 from by repeat (with_reducible first | exact HS.out | apply St.alloc | apply St.drewN | apply St.drew)) 1 (by simp)))
           have qb := hb.k8
           clear hb
           have hcw := St.cells (show St w [intsO wb WW, Ass.blk w.heap.size 24 [i64 t, i64 (s : Int), i64 g, i64 lm, i64 r, i64 (K : Int), .slice (some ⟨pb, po, none⟩) P.length pc, .slice (some ⟨lb, lo, none⟩) L.length lc]] w40 from (show St w [intsO wb WW, Ass.blk w.heap.size 24 [i64 t, i64 (s : Int), i64 g, i64 lm, i64 r, i64 (K : Int), .slice (some ⟨pb, po, none⟩) P.length pc, .slice (some ⟨lb, lo, none⟩) L.length lc]] w40 from by repeat (with_reducible first | exact HS.out | apply St.alloc | apply St.drewN | apply St.drew)))
           have hlc := HLC.out i w40 hlt (by rw [HWL.out]; exact hcw)
           have hst := HN2.out i
           have hal := HN3.out i
           have hlb0 : lvB P.length WW (q + 2 * i) = false → lvN P.length WW (q + 2 * i) = 0 := fun h => by unfold lvN; rw [h]; rfl
           have hln := lvN_bd (W := WW) P.length (q + 2 * i)
           have b2 := HS2.out i
           have b3 := HS3.out i
           have b1 := HS1.out P.length
           have HLL := hid hlc
           clear hlc hcw
           generalize lvB P.length WW (q + 2 * i) = lb0 at *
           generalize lvV P.length WW (q + 2 * i) = lv at *
           generalize lvN P.length WW (q + 2 * i) = ln0 at *
           have hst2 := HN2.out
           generalize sA P.length = x1 at *
           generalize sB i = x2 at *
           generalize sC i = x3 at *
           have y3 : IntKind.i64.wrap (x3 + ln0) = x3 + ln0 := IntWalk.i64_in _ (by omega)
           have y2 : IntKind.i64.wrap (x1 + x2 + ln0) = x1 + x2 + ln0 := IntWalk.i64_in _ (by omega)
           have HAL := hid hal
           have HST := hid hst
           clear hal hst hst2
           go_wp2_with fail
           refine Calls.mono (HLL.out) ?_
           rintro e w41 ⟨rfl, hk⟩
           have hs := St.keep (show St w [intsO wb WW, Ass.blk w.heap.size 24 [i64 t, i64 (s : Int), i64 g, i64 lm, i64 r, i64 (K : Int), .slice (some ⟨pb, po, none⟩) P.length pc, .slice (some ⟨lb, lo, none⟩) L.length lc]] _ from by repeat (with_reducible first | exact HS.out | apply St.alloc | apply St.drewN | apply St.drew)) hk
           clear HS
           have HS := hid (show St w [intsO wb WW, Ass.blk w.heap.size 24 [i64 t, i64 (s : Int), i64 g, i64 lm, i64 r, i64 (K : Int), .slice (some ⟨pb, po, none⟩) P.length pc, .slice (some ⟨lb, lo, none⟩) L.length lc]] w41 from hs)
           clear hs hk
           clear HLL
           obtain ⟨_, ⟨hb, _⟩, _⟩ := St.get (show St w [Ass.blk w.heap.size 24 [i64 t, i64 (s : Int), i64 g, i64 lm, i64 r, i64 (K : Int), .slice (some ⟨pb, po, none⟩) P.length pc, .slice (some ⟨lb, lo, none⟩) L.length lc], intsO wb WW] w41 from (St.pick (show St w [intsO wb WW, Ass.blk w.heap.size 24 [i64 t, i64 (s : Int), i64 g, i64 lm, i64 r, i64 (K : Int), .slice (some ⟨pb, po, none⟩) P.length pc, .slice (some ⟨lb, lo, none⟩) L.length lc]] w41 from by repeat (with_reducible first | exact HS.out | apply St.alloc | apply St.drewN | apply St.drew)) 1 (by simp)))
           have qb := hb.k8
           clear hb
           cases lb0 with
           | false =>
            have h0 := hlb0 rfl
            subst h0
            go_wp2_with fail
            go_roundw
            case rel => exact ⟨i + 1, by omega, by go_num, by rw [HST.out, if_neg (by simp), Int.add_zero], by rw [HAL.out, Int.add_zero], HS.out⟩
            case measure => simp [intOf]; omega
           | true =>
            by_cases e : lv = v
            · subst e
              go_wp2_with fail
              go_roundw
              case rel => exact ⟨i + 1, by omega, by go_num, by rw [HST.out, if_pos (by simp), Int.add_assoc], by rw [HAL.out], HS.out⟩
              case measure => simp [intOf]; omega
            · have g0 : ((lv : Int) == (v : Int)) = false := beq_eq_false_iff_ne.2 (fun h => e (by omega))
              go_wp2_with fail
              go_roundw
              case rel => exact ⟨i + 1, by omega, by go_num, by rw [HST.out, if_neg (by rintro ⟨_, h⟩; exact e h), Int.add_zero], by rw [HAL.out], HS.out⟩
              case measure => simp [intOf]; omega
         · have hik : K = i := by omega
           subst hik
           obtain ⟨_, ⟨hb, _⟩, _⟩ := St.get (show St w [Ass.blk w.heap.size 24 [i64 t, i64 (s : Int), i64 g, i64 lm, i64 r, i64 (K : Int), .slice (some ⟨pb, po, none⟩) P.length pc, .slice (some ⟨lb, lo, none⟩) L.length lc], intsO wb WW] w40 from (St.pick (show St w [intsO wb WW, Ass.blk w.heap.size 24 [i64 t, i64 (s : Int), i64 g, i64 lm, i64 r, i64 (K : Int), .slice (some ⟨pb, po, none⟩) P.length pc, .slice (some ⟨lb, lo, none⟩) L.length lc]] w40 from by repeat (with_reducible first | exact HS.out | apply St.alloc | apply St.drewN | apply St.drew)) 1 (by simp)))
           have qb := hb.k8
           clear hb
           have hu1 := HUS.out
           have hu2 := HUR.out
           have HU1 := hid hu1
           have HU2 := hid hu2
           clear hu1 hu2
           generalize sA P.length + sB K = xv at *
           generalize sC K = x0 at *
           obtain ⟨_, ⟨hb, _⟩, _⟩ := St.get (show St w [Ass.blk w.heap.size 24 [i64 t, i64 (s : Int), i64 g, i64 lm, i64 r, i64 (K : Int), .slice (some ⟨pb, po, none⟩) P.length pc, .slice (some ⟨lb, lo, none⟩) L.length lc], intsO wb WW] w40 from (St.pick (show St w [intsO wb WW, Ass.blk w.heap.size 24 [i64 t, i64 (s : Int), i64 g, i64 lm, i64 r, i64 (K : Int), .slice (some ⟨pb, po, none⟩) P.length pc, .slice (some ⟨lb, lo, none⟩) L.length lc]] w40 from by repeat (with_reducible first | exact HS.out | apply St.alloc | apply St.drewN | apply St.drew)) 1 (by simp)))
           have qb := hb.k8
           clear hb
           have hcw := St.cells (show St w [intsO wb WW, Ass.blk w.heap.size 24 [i64 t, i64 (s : Int), i64 g, i64 lm, i64 r, i64 (K : Int), .slice (some ⟨pb, po, none⟩) P.length pc, .slice (some ⟨lb, lo, none⟩) L.length lc]] w40 from (show St w [intsO wb WW, Ass.blk w.heap.size 24 [i64 t, i64 (s : Int), i64 g, i64 lm, i64 r, i64 (K : Int), .slice (some ⟨pb, po, none⟩) P.length pc, .slice (some ⟨lb, lo, none⟩) L.length lc]] w40 from by repeat (with_reducible first | exact HS.out | apply St.alloc | apply St.drewN | apply St.drew)))
           go_wp2_with fail
           refine Calls.mono (show Calls Try.prog 9 #[.agg #[i64 t, i64 (s : Int), i64 g, i64 lm, i64 r, i64 (K : Int), .slice (some ⟨pb, po, none⟩) P.length pc, .slice (some ⟨lb, lo, none⟩) L.length lc], .slice (some ⟨wb, 0, none⟩) (q + 2 * K) wc, i64 (v : Int)] w40 (Ret (i64 xv) w40) from by rw [← HU1.out, HWL.out]; exact usage_Used t g lm r s K P pb po pc (some ⟨lb, lo, none⟩) L.length lc WW wb 0 wc q v w40 (by omega) (by omega) (by omega) (by omega) HPR.out.ok HQ.out (by have := HWL.out; omega) (by have := HWL.out; omega) (row_kept HS.out.k HP.out) hcw) ?_
           rintro e w41 ⟨rfl, hk⟩
           have hs := St.keep (show St w [intsO wb WW, Ass.blk w.heap.size 24 [i64 t, i64 (s : Int), i64 g, i64 lm, i64 r, i64 (K : Int), .slice (some ⟨pb, po, none⟩) P.length pc, .slice (some ⟨lb, lo, none⟩) L.length lc]] _ from by repeat (with_reducible first | exact HS.out | apply St.alloc | apply St.drewN | apply St.drew)) hk
           clear HS
           have HS := hid (show St w [intsO wb WW, Ass.blk w.heap.size 24 [i64 t, i64 (s : Int), i64 g, i64 lm, i64 r, i64 (K : Int), .slice (some ⟨pb, po, none⟩) P.length pc, .slice (some ⟨lb, lo, none⟩) L.length lc]] w41 from hs)
           clear hs hk
           clear qb hcw
           obtain ⟨_, ⟨hb, _⟩, _⟩ := St.get (show St w [Ass.blk w.heap.size 24 [i64 t, i64 (s : Int), i64 g, i64 lm, i64 r, i64 (K : Int), .slice (some ⟨pb, po, none⟩) P.length pc, .slice (some ⟨lb, lo, none⟩) L.length lc], intsO wb WW] w41 from (St.pick (show St w [intsO wb WW, Ass.blk w.heap.size 24 [i64 t, i64 (s : Int), i64 g, i64 lm, i64 r, i64 (K : Int), .slice (some ⟨pb, po, none⟩) P.length pc, .slice (some ⟨lb, lo, none⟩) L.length lc]] w41 from by repeat (with_reducible first | exact HS.out | apply St.alloc | apply St.drewN | apply St.drew)) 1 (by simp)))
           have qb := hb.k8
           clear hb
           have hcw := St.cells (show St w [intsO wb WW, Ass.blk w.heap.size 24 [i64 t, i64 (s : Int), i64 g, i64 lm, i64 r, i64 (K : Int), .slice (some ⟨pb, po, none⟩) P.length pc, .slice (some ⟨lb, lo, none⟩) L.length lc]] w41 from (show St w [intsO wb WW, Ass.blk w.heap.size 24 [i64 t, i64 (s : Int), i64 g, i64 lm, i64 r, i64 (K : Int), .slice (some ⟨pb, po, none⟩) P.length pc, .slice (some ⟨lb, lo, none⟩) L.length lc]] w41 from by repeat (with_reducible first | exact HS.out | apply St.alloc | apply St.drewN | apply St.drew)))
           go_wp2_with fail
           refine Calls.mono (show Calls Try.prog 9 #[.agg #[i64 t, i64 (s : Int), i64 g, i64 lm, i64 r, i64 (K : Int), .slice (some ⟨pb, po, none⟩) P.length pc, .slice (some ⟨lb, lo, none⟩) L.length lc], .slice (some ⟨wb, 0, none⟩) (q + 2 * K) wc, i64 0] w41 (Ret (i64 x0) w41) from by rw [← HU2.out, HWL.out]; exact usage_Used t g lm r s K P pb po pc (some ⟨lb, lo, none⟩) L.length lc WW wb 0 wc q 0 w41 (by omega) (by omega) (by omega) (by omega) HPR.out.ok HQ.out (by have := HWL.out; omega) (by have := HWL.out; omega) (row_kept HS.out.k HP.out) hcw) ?_
           rintro e w42 ⟨rfl, hk⟩
           have hs := St.keep (show St w [intsO wb WW, Ass.blk w.heap.size 24 [i64 t, i64 (s : Int), i64 g, i64 lm, i64 r, i64 (K : Int), .slice (some ⟨pb, po, none⟩) P.length pc, .slice (some ⟨lb, lo, none⟩) L.length lc]] _ from by repeat (with_reducible first | exact HS.out | apply St.alloc | apply St.drewN | apply St.drew)) hk
           clear HS
           have HS := hid (show St w [intsO wb WW, Ass.blk w.heap.size 24 [i64 t, i64 (s : Int), i64 g, i64 lm, i64 r, i64 (K : Int), .slice (some ⟨pb, po, none⟩) P.length pc, .slice (some ⟨lb, lo, none⟩) L.length lc]] w42 from hs)
           clear hs hk
           clear qb hcw
           go_wp2_with fail
           go_ret
           exact ⟨rfl, HS.out.k⟩
end Go.Proofs.Ythaceckccobgeaa

namespace Go.Proofs.Ythaceckccobgeaa
open Go.ChangeShapes Go.WideShapes Go.ChangeAt Go.RowKit
set_option linter.unusedVariables false
set_option linter.unusedSimpArgs false
namespace usageSums
theorem own : ownKnob Try.prog.godebug = none := by kernel_rfl
theorem laidOut : laidOutB Try.prog = true := by kernel_rfl
set_option maxRecDepth 100000 in
theorem lifted (os : Os) (started : os.Started) (H : Type) (enc : TypeId × Value → H) :
 ReturnsInHanded {} Try.checked os 3 .any (Rows.usageSumsSpec.pre6 enc Try.prog Try.f3 Rows.usageSumsRow.domain false) (Rows.usageSumsSpec.post enc Try.prog Try.f3 false true false false) := by
 refine returnsInHanded_of_change_sized (C := Try.checked) own started (by kernel_rfl) Try.func3
  (ChangeSpec.witness6 (enc := enc) (C := Try.checked) false ⟨#[], #[.agg #[.int .i64 0, .int .i64 0, .int .i64 0, .int .i64 0, .int .i64 0, .int .i64 0, .slice none 0 0, .slice none 0 0], .slice none 0 0, .int .u8 0], []⟩ 8 (by kernel_rfl) (by kernel_rfl) (by kernel_rfl) (by kernel_rfl)) ?_
 intro W base args ds gs before hval0 hW hcnd hsz0 _
 have hval : ∀ (j : Nat) t v, Try.f3.params[j]? = some t → args[j]? = some v → Value.okWide Try.prog W .any base t v := hval0
 have hW' := hW
 obtain ⟨p, q, hA0, hV, rfl, hfz, hnd⟩ := hW
 have hA : DataW.TrodAll enc Try.prog W 0 (fun _ => true) true Try.f3.params.toList args.toList ds p := hA0
 rw [Try.params3] at hA hval
 obtain ⟨v0, vs0, d0, ds0, p0, q0, hargs, rfl, rfl, h0, r0⟩ := trodAll_cons hA
 obtain ⟨v1, vs1, d1, ds1, p1, q1, rfl, rfl, rfl, h1, r1⟩ := trodAll_cons r0
 obtain ⟨v2, vs2, d2, ds2, p2, q2, rfl, rfl, rfl, h2, r2⟩ := trodAll_cons r1
 obtain ⟨rfl, rfl, rfl⟩ := trodAll_nil r2
 obtain rfl : args = #[v0, v1, v2] := by cases args; simp_all
 obtain ⟨rfl, rfl⟩ := trodVars_none hV
 have lt0 : ∀ x ∈ p0, x.block < W.heap.size := by obtain ⟨m, hm⟩ := h0; exact DataW.trod_lt m _ _ _ hm
 have lt1 : ∀ x ∈ p1, x.block < W.heap.size := by obtain ⟨m, hm⟩ := h1; exact DataW.trod_lt m _ _ _ hm
 obtain ⟨a2, rfl, rfl, rfl, w2⟩ := open_int Try.underlying5 (hval 2 5 v2 rfl rfl) h2
 refine (usageSums_walk (conf_open (hval 0 24 v0 rfl rfl) h0) (ints_open (hval 1 22 v1 rfl rfl) h1) a2 w2).mono fun e W' ⟨he, kp⟩ => ?_
 have bel := kp.below
 subst he
 exact ⟨_, rfl, _, _, _, [], _, [], hW', trodAll_mk1 (shut_bool Try.underlying4 _), (trodAll_cons_mk (Below.trod laidOut (by kernel_rfl) (of_decide_eq_true (by kernel_rfl)) h0 bel lt0) (trodAll_cons_mk (Below.trod laidOut (by kernel_rfl) (of_decide_eq_true (by kernel_rfl)) h1 bel lt1) (trodAll_cons_mk (shut_int Try.underlying5 w2) trodAll_mk0))), rfl, bel.frame _, fun h => by cases h⟩
theorem over : Rows.usageSumsRow.holds Try.pinned (OpenSpec.ofChange Rows.usageSumsSpec) :=
 OpenClaim.holds_of_wide 3 Try.f3 rfl rfl rfl rfl rfl rfl rfl ⟨rfl, rfl, rfl, rfl, rfl⟩ rfl rfl rfl rfl rfl (by kernel_rfl) Try.func3 (by kernel_rfl)
  (of_decide_eq_true (by kernel_rfl)) (by unfold Func.isWrapper; first | (rw [if_pos (by decide +kernel)]; kernel_rfl) | (rw [if_neg (by decide +kernel)]; exact ⟨rfl, rfl⟩))
  (fun os started H enc _ => lifted os started H enc)
end usageSums
theorem usageSums_holds : Rows.UsageSumsSaid := usageSums.over
end Go.Proofs.Ythaceckccobgeaa
