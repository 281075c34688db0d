/- breadlinelaw09.head. -/
import Derived.Test.YtonekdolmbdniaaLawNine
import Derived.Test.YtonekdolmbdniaaHeadEight
namespace Go.Proofs.Ytonekdolmbdniaa
open Go.RowKit
set_option linter.unusedVariables false
set_option linter.unusedSimpArgs false
set_option maxRecDepth 100000

theorem SInv.start9 {kd f g : Nat} {n X : Int} {W : List Int} {L : List Acc} {st : Nat} (lf : f < W.length) (lg : g < W.length) (ne : f ≠ g) (k2 : kd ≤ 2) (n1 : 1 ≤ n ∧ n ≤ 1048576) (wf : -X ≤ rd W f ∧ rd W f ≤ X) (wg : -X ≤ rd W g ∧ rd W g ≤ X) (hX : 0 ≤ X) (hst : st = if kd = 0 then 2 else 0) : SInv kd f g n X ⟨W, L, st, 0, false⟩ :=
  ⟨lf, lg, ne, k2, n1, wf, wg, ⟨by show -X ≤ 0; omega, hX⟩, by show st ≤ 3; rw [hst]; split <;> omega, fun e => ⟨by show 2 ≤ st; rw [hst, if_pos e]; omega, rfl⟩, fun h => by cases h⟩
theorem head9_a : playF (sStp 2 (sF 2 10 11) (sG 2 10 11) 4) sPk 46 [] 20 0 ⟨freshW 2 3 4 [20, 10, 8, 5], [], 0, 0, false⟩ = (⟨((freshW 2 3 4 [20, 10, 8, 5]).set 11 6).set 10 6, [⟨1, (11 : Nat), 10, 0, false⟩, ⟨3, (11 : Nat), 10, 6, true⟩, ⟨2, (10 : Nat), -4, 6, false⟩], 3, 10, false⟩, 3, true) := by kernel_rfl
theorem head9_b : playF (sStp 2 (sF 2 10 11) (sG 2 10 11) 7) sPk 46 [] 20 0 ⟨((freshW 2 3 4 [20, 10, 8, 5]).set 11 6).set 10 6, [⟨1, (11 : Nat), 10, 0, false⟩, ⟨3, (11 : Nat), 10, 6, true⟩, ⟨2, (10 : Nat), -4, 6, false⟩], 0, 0, false⟩ = (⟨((freshW 2 3 4 [20, 10, 8, 5]).set 11 6).set 10 6, [⟨1, (11 : Nat), 10, 0, false⟩, ⟨3, (11 : Nat), 10, 6, true⟩, ⟨2, (10 : Nat), -4, 6, false⟩, ⟨1, (11 : Nat), 6, 0, false⟩], 3, 6, true⟩, 1, true) := by kernel_rfl
theorem head9_c : playF (sStp 1 (sF 1 10 11) (sG 1 10 11) 1) sPk 46 [] 20 0 ⟨((freshW 2 3 4 [20, 10, 8, 5]).set 11 6).set 10 6, [⟨1, (11 : Nat), 10, 0, false⟩, ⟨3, (11 : Nat), 10, 6, true⟩, ⟨2, (10 : Nat), -4, 6, false⟩, ⟨1, (11 : Nat), 6, 0, false⟩], 0, 0, false⟩ = (⟨((((freshW 2 3 4 [20, 10, 8, 5]).set 11 6).set 10 6).set 10 7).set 11 7, [⟨1, (11 : Nat), 10, 0, false⟩, ⟨3, (11 : Nat), 10, 6, true⟩, ⟨2, (10 : Nat), -4, 6, false⟩, ⟨1, (11 : Nat), 6, 0, false⟩, ⟨1, (10 : Nat), 6, 0, false⟩, ⟨3, (10 : Nat), 6, 7, true⟩, ⟨2, (11 : Nat), 1, 7, false⟩], 3, 6, false⟩, 3, true) := by kernel_rfl
theorem head9_d : playF (sStp 0 (sF 0 10 11) (sG 0 10 11) 2) sPk 46 [] 20 0 ⟨((((freshW 2 3 4 [20, 10, 8, 5]).set 11 6).set 10 6).set 10 7).set 11 7, [⟨1, (11 : Nat), 10, 0, false⟩, ⟨3, (11 : Nat), 10, 6, true⟩, ⟨2, (10 : Nat), -4, 6, false⟩, ⟨1, (11 : Nat), 6, 0, false⟩, ⟨1, (10 : Nat), 6, 0, false⟩, ⟨3, (10 : Nat), 6, 7, true⟩, ⟨2, (11 : Nat), 1, 7, false⟩], 2, 0, false⟩ = (⟨(((((freshW 2 3 4 [20, 10, 8, 5]).set 11 6).set 10 6).set 10 7).set 11 7).set 11 9, [⟨1, (11 : Nat), 10, 0, false⟩, ⟨3, (11 : Nat), 10, 6, true⟩, ⟨2, (10 : Nat), -4, 6, false⟩, ⟨1, (11 : Nat), 6, 0, false⟩, ⟨1, (10 : Nat), 6, 0, false⟩, ⟨3, (10 : Nat), 6, 7, true⟩, ⟨2, (11 : Nat), 1, 7, false⟩, ⟨2, (11 : Nat), 2, 9, false⟩], 3, 0, false⟩, 1, true) := by kernel_rfl

set_option maxHeartbeats 4000000 in
theorem law9_head (w : World) : Calls Try.prog 9 #[] w (Ret (.bool true) w) := by
  go_enter Try.func9, Try.ntmps9
  go_wp2_with fail
  refine (law_Base _).mono ?_
  rintro e w1 ⟨pb, lb, rfl, hk, hpb, hlb⟩
  have HK1 : Hid (Keep0 w w1) := hid hk
  have HLB := hid hlb
  clear hk hpb hlb
  go_wp2_with fail
  have hl4 : ∀ i, i < 4 → w1.cell? ⟨lb, 0 + i, none⟩ = some (i64 (rd [20, 10, 8, 5] i)) := by
    intro i hi
    rw [Nat.zero_add, HLB.out.cell i]
    match i, hi with
    | 0, _ => rfl
    | 1, _ => rfl
    | 2, _ => rfl
    | 3, _ => rfl
  refine (plan_Fresh w.heap.size _ lb 0 2 2 4 4 2 3 (some ⟨pb, 0, none⟩) 4 4 4 4 [20, 10, 8, 5] (by have := HK1.out.size; simp; omega) (by omega) (by omega) (by omega) (by omega) (by omega) (by omega) (fun i hi => by rw [World.cell?_alloc_lt _ _ _ (World.block_lt_of_cell? _ _ (hl4 i hi))]; exact hl4 i hi) (by have := HLB.out.lt; simp; omega)).mono ?_
  rintro e w2 ⟨m, a, lv2, rfl, hm, hk, hzm, hza⟩
  have HK2 : Hid (Keep0 w w2) := hid (Keep0.step (by repeat (with_reducible first | exact Keep.refl _ _ | exact HK1.out | apply Keep.alloc | apply Keep.drewN | apply Keep.drew)) hk)
  have CB2 := hid (hk.blk (Blk.made (b := w1.heap.size) (w := w1) (t := 24) (cs := [i64 2, i64 2, i64 4, i64 4, i64 2, i64 3, .slice (some ⟨pb, 0, none⟩) 4 4, .slice (some ⟨lb, 0, none⟩) 4 4]) rfl rfl) (fun h => h))
  have qCB2 := CB2.out.k8
  have HM2 := hid hm
  clear hm hk hl4 HLB HK1 hzm hza
  go_wp2_with fail
  refine (sh_Lower 2 2 4 4 2 3 (some ⟨pb, 0, none⟩) 4 4 (some ⟨lb, 0, none⟩) 4 4 1 4 _ (by omega) (by omega) (by omega) (by omega)).mono ?_
  rintro e w3 ⟨x3, sb3, rfl, hb, hst, hk, hx, hsx⟩
  have HX3 := hid (show Blk w3 x3 85 (scs 2 10 11 1 4 sb3 ⟨freshW 2 3 4 [20, 10, 8, 5], [], 0, 0, false⟩) from hb)
  have HT3 := hid hst
  have HM3 := hid (HM2.out.same hk)
  have CB3 := hid (hk.blk CB2.out (fun h => h))
  have qCB3 := CB3.out.k8
  have HK3 : Hid (Keep0 w w3) := hid (Keep0.step HK2.out hk)
  have hwx3 : w.heap.size ≤ x3 := Nat.le_trans HK2.out.size hx
  clear hb hst hk HM2 CB2 HK2 qCB2
  go_wp2_with fail
  have hp := play_shift (B := w.heap.size) (w := w3) (m := m) (a := a) (x := x3) (lv := lv2) (kd := 2) (li := 10) (av := 11) (sb := sb3) (nd := 1) (n := 4) (X := 4294967296) ⟨freshW 2 3 4 [20, 10, 8, 5], [], 0, 0, false⟩ [] none 0 0 0 20 HM3.out HX3.out HT3.out (SInv.start9 (by decide +kernel) (by decide +kernel) (by decide) (by decide) (by decide) (by decide +kernel) (by decide +kernel) (by decide) (by decide)) (by decide) (by decide) (by decide) (by decide) (by intro p hp; cases hp) (fun h => by simp at h) (fun i h => by simp at h)
  rw [show (SS.mk (freshW 2 3 4 [20, 10, 8, 5]) ([]) 0 0 false).W.length = 46 from by kernel_rfl, head9_a] at hp
  refine hp.mono ?_
  rintro e w4 ⟨rfl, ⟨k4, lv4, hm, ho, hx, _⟩, hk⟩
  have CB4 := hid (shplay_keeps CB3.out HM3.out HX3.out (by decide) (by decide) (by decide) (by decide) hk)
  have qCB4 := CB4.out.k8
  have HK4 : Hid (Keep0 w w4) := hid (keep_far HK3.out hk (by
    rintro k ((rfl | rfl | rfl | h) | h)
    · exact HM3.out.bm
    · exact HM3.out.ba
    · exact hwx3
    · exact (HM3.out.log.lt k h).1
    · exact Nat.le_trans HK3.out.size h))
  have HM4 := hid hm
  have HX3_4 := hid hx
  clear hp hm ho hx hk HM3 HX3 HT3 HK3 CB3 qCB3
  go_wp2_with fail
  refine (sh_Lower 2 2 4 4 2 3 (some ⟨pb, 0, none⟩) 4 4 (some ⟨lb, 0, none⟩) 4 4 1 7 _ (by omega) (by omega) (by omega) (by omega)).mono ?_
  rintro e w5 ⟨x5, sb5, rfl, hb, hst, hk, hx, hsx⟩
  have HX5 := hid (show Blk w5 x5 85 (scs 2 10 11 1 7 sb5 ⟨((freshW 2 3 4 [20, 10, 8, 5]).set 11 6).set 10 6, [⟨1, (11 : Nat), 10, 0, false⟩, ⟨3, (11 : Nat), 10, 6, true⟩, ⟨2, (10 : Nat), -4, 6, false⟩], 0, 0, false⟩) from hb)
  have HT5 := hid hst
  have HM5 := hid (HM4.out.same hk)
  have CB5 := hid (hk.blk CB4.out (fun h => h))
  have qCB5 := CB5.out.k8
  have HK5 : Hid (Keep0 w w5) := hid (Keep0.step HK4.out hk)
  have hwx5 : w.heap.size ≤ x5 := Nat.le_trans HK4.out.size hx
  clear hb hst hk HM4 CB4 HK4 qCB4
  go_wp2_with fail
  have hp := play_shift (B := w.heap.size) (w := w5) (m := m) (a := a) (x := x5) (lv := lv4) (kd := 2) (li := 10) (av := 11) (sb := sb5) (nd := 1) (n := 7) (X := 4294967296) ⟨((freshW 2 3 4 [20, 10, 8, 5]).set 11 6).set 10 6, [⟨1, (11 : Nat), 10, 0, false⟩, ⟨3, (11 : Nat), 10, 6, true⟩, ⟨2, (10 : Nat), -4, 6, false⟩], 0, 0, false⟩ [] none 0 0 0 20 HM5.out HX5.out HT5.out (SInv.start9 (by decide +kernel) (by decide +kernel) (by decide) (by decide) (by decide) (by decide +kernel) (by decide +kernel) (by decide) (by decide)) (by decide) (by decide) (by decide) (by decide) (by intro p hp; cases hp) (fun h => by simp at h) (fun i h => by simp at h)
  rw [show (SS.mk (((freshW 2 3 4 [20, 10, 8, 5]).set 11 6).set 10 6) ([⟨1, (11 : Nat), 10, 0, false⟩, ⟨3, (11 : Nat), 10, 6, true⟩, ⟨2, (10 : Nat), -4, 6, false⟩]) 0 0 false).W.length = 46 from by kernel_rfl, head9_b] at hp
  refine hp.mono ?_
  rintro e w6 ⟨rfl, ⟨k6, lv6, hm, ho, hx, _⟩, hk⟩
  have CB6 := hid (shplay_keeps CB5.out HM5.out HX5.out (by decide) (by decide) (by decide) (by decide) hk)
  have qCB6 := CB6.out.k8
  have HK6 : Hid (Keep0 w w6) := hid (keep_far HK5.out hk (by
    rintro k ((rfl | rfl | rfl | h) | h)
    · exact HM5.out.bm
    · exact HM5.out.ba
    · exact hwx5
    · exact (HM5.out.log.lt k h).1
    · exact Nat.le_trans HK5.out.size h))
  have HM6 := hid hm
  have HX5_6 := hid hx
  clear hp hm ho hx hk HM5 HX5 HT5 HK5 CB5 qCB5
  go_wp2_with fail
  refine (sh_Raise 2 2 4 4 2 3 (some ⟨pb, 0, none⟩) 4 4 (some ⟨lb, 0, none⟩) 4 4 1 1 _ (by omega) (by omega) (by omega) (by omega)).mono ?_
  rintro e w7 ⟨x7, sb7, rfl, hb, hst, hk, hx, hsx⟩
  have HX7 := hid (show Blk w7 x7 85 (scs 1 10 11 1 1 sb7 ⟨((freshW 2 3 4 [20, 10, 8, 5]).set 11 6).set 10 6, [⟨1, (11 : Nat), 10, 0, false⟩, ⟨3, (11 : Nat), 10, 6, true⟩, ⟨2, (10 : Nat), -4, 6, false⟩, ⟨1, (11 : Nat), 6, 0, false⟩], 0, 0, false⟩) from hb)
  have HT7 := hid hst
  have HM7 := hid (HM6.out.same hk)
  have CB7 := hid (hk.blk CB6.out (fun h => h))
  have qCB7 := CB7.out.k8
  have HK7 : Hid (Keep0 w w7) := hid (Keep0.step HK6.out hk)
  have hneHX57 : x5 ≠ x7 := fun e => by have := HX5_6.out.lt; omega
  have HX5_7 := hid (hk.blk HX5_6.out (fun h => h))
  have hwx7 : w.heap.size ≤ x7 := Nat.le_trans HK6.out.size hx
  clear hb hst hk HM6 CB6 HK6 qCB6 HX5_6
  go_wp2_with fail
  have hp := play_shift (B := w.heap.size) (w := w7) (m := m) (a := a) (x := x7) (lv := lv6) (kd := 1) (li := 10) (av := 11) (sb := sb7) (nd := 1) (n := 1) (X := 4294967296) ⟨((freshW 2 3 4 [20, 10, 8, 5]).set 11 6).set 10 6, [⟨1, (11 : Nat), 10, 0, false⟩, ⟨3, (11 : Nat), 10, 6, true⟩, ⟨2, (10 : Nat), -4, 6, false⟩, ⟨1, (11 : Nat), 6, 0, false⟩], 0, 0, false⟩ [] none 0 0 0 20 HM7.out HX7.out HT7.out (SInv.start9 (by decide +kernel) (by decide +kernel) (by decide) (by decide) (by decide) (by decide +kernel) (by decide +kernel) (by decide) (by decide)) (by decide) (by decide) (by decide) (by decide) (by intro p hp; cases hp) (fun h => by simp at h) (fun i h => by simp at h)
  rw [show (SS.mk (((freshW 2 3 4 [20, 10, 8, 5]).set 11 6).set 10 6) ([⟨1, (11 : Nat), 10, 0, false⟩, ⟨3, (11 : Nat), 10, 6, true⟩, ⟨2, (10 : Nat), -4, 6, false⟩, ⟨1, (11 : Nat), 6, 0, false⟩]) 0 0 false).W.length = 46 from by kernel_rfl, head9_c] at hp
  refine hp.mono ?_
  rintro e w8 ⟨rfl, ⟨k8, lv8, hm, ho, hx, _⟩, hk⟩
  have CB8 := hid (shplay_keeps CB7.out HM7.out HX7.out (by decide) (by decide) (by decide) (by decide) hk)
  have qCB8 := CB8.out.k8
  have HX5_8 := hid (shplay_keepx HX5_7.out HM7.out hneHX57 hk)
  have HK8 : Hid (Keep0 w w8) := hid (keep_far HK7.out hk (by
    rintro k ((rfl | rfl | rfl | h) | h)
    · exact HM7.out.bm
    · exact HM7.out.ba
    · exact hwx7
    · exact (HM7.out.log.lt k h).1
    · exact Nat.le_trans HK7.out.size h))
  have HM8 := hid hm
  have HX7_8 := hid hx
  clear hp hm ho hx hk HM7 HX7 HT7 HK7 CB7 qCB7 HX5_7
  go_wp2_with fail
  refine (sh_Refund 2 2 4 4 2 3 (some ⟨pb, 0, none⟩) 4 4 (some ⟨lb, 0, none⟩) 4 4 1 2 _ (by omega) (by omega) (by omega) (by omega)).mono ?_
  rintro e w9 ⟨x9, sb9, rfl, hb, hst, hk, hx, hsx⟩
  have HX9 := hid (show Blk w9 x9 85 (scs 0 10 11 1 2 sb9 ⟨((((freshW 2 3 4 [20, 10, 8, 5]).set 11 6).set 10 6).set 10 7).set 11 7, [⟨1, (11 : Nat), 10, 0, false⟩, ⟨3, (11 : Nat), 10, 6, true⟩, ⟨2, (10 : Nat), -4, 6, false⟩, ⟨1, (11 : Nat), 6, 0, false⟩, ⟨1, (10 : Nat), 6, 0, false⟩, ⟨3, (10 : Nat), 6, 7, true⟩, ⟨2, (11 : Nat), 1, 7, false⟩], 2, 0, false⟩) from hb)
  have HT9 := hid hst
  have HM9 := hid (HM8.out.same hk)
  have CB9 := hid (hk.blk CB8.out (fun h => h))
  have qCB9 := CB9.out.k8
  have HK9 : Hid (Keep0 w w9) := hid (Keep0.step HK8.out hk)
  have hneHX59 : x5 ≠ x9 := fun e => by have := HX5_8.out.lt; omega
  have HX5_9 := hid (hk.blk HX5_8.out (fun h => h))
  have hwx9 : w.heap.size ≤ x9 := Nat.le_trans HK8.out.size hx
  clear hb hst hk HM8 CB8 HK8 qCB8 HX5_8
  go_wp2_with fail
  have hp := play_shift (B := w.heap.size) (w := w9) (m := m) (a := a) (x := x9) (lv := lv8) (kd := 0) (li := 10) (av := 11) (sb := sb9) (nd := 1) (n := 2) (X := 4294967296) ⟨((((freshW 2 3 4 [20, 10, 8, 5]).set 11 6).set 10 6).set 10 7).set 11 7, [⟨1, (11 : Nat), 10, 0, false⟩, ⟨3, (11 : Nat), 10, 6, true⟩, ⟨2, (10 : Nat), -4, 6, false⟩, ⟨1, (11 : Nat), 6, 0, false⟩, ⟨1, (10 : Nat), 6, 0, false⟩, ⟨3, (10 : Nat), 6, 7, true⟩, ⟨2, (11 : Nat), 1, 7, false⟩], 2, 0, false⟩ [] none 0 0 0 20 HM9.out HX9.out HT9.out (SInv.start9 (by decide +kernel) (by decide +kernel) (by decide) (by decide) (by decide) (by decide +kernel) (by decide +kernel) (by decide) (by decide)) (by decide) (by decide) (by decide) (by decide) (by intro p hp; cases hp) (fun h => by simp at h) (fun i h => by simp at h)
  rw [show (SS.mk (((((freshW 2 3 4 [20, 10, 8, 5]).set 11 6).set 10 6).set 10 7).set 11 7) ([⟨1, (11 : Nat), 10, 0, false⟩, ⟨3, (11 : Nat), 10, 6, true⟩, ⟨2, (10 : Nat), -4, 6, false⟩, ⟨1, (11 : Nat), 6, 0, false⟩, ⟨1, (10 : Nat), 6, 0, false⟩, ⟨3, (10 : Nat), 6, 7, true⟩, ⟨2, (11 : Nat), 1, 7, false⟩]) 2 0 false).W.length = 46 from by kernel_rfl, head9_d] at hp
  refine hp.mono ?_
  rintro e w10 ⟨rfl, ⟨k10, lv10, hm, ho, hx, _⟩, hk⟩
  have CB10 := hid (shplay_keeps CB9.out HM9.out HX9.out (by decide) (by decide) (by decide) (by decide) hk)
  have qCB10 := CB10.out.k8
  have HX5_10 := hid (shplay_keepx HX5_9.out HM9.out hneHX59 hk)
  have HK10 : Hid (Keep0 w w10) := hid (keep_far HK9.out hk (by
    rintro k ((rfl | rfl | rfl | h) | h)
    · exact HM9.out.bm
    · exact HM9.out.ba
    · exact hwx9
    · exact (HM9.out.log.lt k h).1
    · exact Nat.le_trans HK9.out.size h))
  have HM10 := hid hm
  have HX9_10 := hid hx
  clear hp hm ho hx hk HM9 HX9 HT9 HK9 CB9 qCB9 HX5_9
  go_wp2_with fail
  have hwd := mem_Words HM10.out (by decide +kernel)
  rw [show ((((((freshW 2 3 4 [20, 10, 8, 5]).set 11 6).set 10 6).set 10 7).set 11 7).set 11 9).length = 46 from by kernel_rfl] at hwd
  refine hwd.mono ?_
  rintro e w11 ⟨gb, gc, rfl, hi, hk, _⟩
  have HI11 := hid hi
  have HX5_11 := hid (hk.blk HX5_10.out (fun h => h))
  have HK11 : Hid (Keep0 w w11) := hid (Keep0.step HK10.out hk)
  clear hwd hi hk HM10 CB10 HX5_10 HK10 qCB10
  have c1 := HI11.out.cell 10 (by decide +kernel)
  have c2 := HI11.out.cell 11 (by decide +kernel)
  rw [show rd ((((((freshW 2 3 4 [20, 10, 8, 5]).set 11 6).set 10 6).set 10 7).set 11 7).set 11 9) 10 = 7 from by kernel_rfl] at c1
  rw [show rd ((((((freshW 2 3 4 [20, 10, 8, 5]).set 11 6).set 10 6).set 10 7).set 11 7).set 11 9) 11 = 9 from by kernel_rfl] at c2
  have z1 := HI11.out.lt
  go_wp2_with fail
  refine Calls.mono (show Calls Try.prog 18 #[ptr x5] w11 (Ret (.agg #[i64 4, i64 0, .bool false, i64 1]) w11) from sh_Ans HX5_11.out) ?_
  rintro e w12 ⟨rfl, hk⟩
  have HI12 := hid (hk.ints HI11.out (fun h => h))
  have HK12 : Hid (Keep0 w w12) := hid (Keep0.step HK11.out hk)
  have c3 := HI12.out.cell 10 (by decide +kernel)
  have c4 := HI12.out.cell 11 (by decide +kernel)
  rw [show rd ((((((freshW 2 3 4 [20, 10, 8, 5]).set 11 6).set 10 6).set 10 7).set 11 7).set 11 9) 10 = 7 from by kernel_rfl] at c3
  rw [show rd ((((((freshW 2 3 4 [20, 10, 8, 5]).set 11 6).set 10 6).set 10 7).set 11 7).set 11 9) 11 = 9 from by kernel_rfl] at c4
  have z2 := HI12.out.lt
  clear hk c1 c2 z1 HI11
  go_wp2_with fail
  go_ret
  exact ⟨rfl, HK12.out⟩
end Go.Proofs.Ytonekdolmbdniaa
