/- breadlinelaw11.head. -/
import Derived.Test.YtjloccnbcgkmgaaClaimU
import Derived.Test.YtjloccnbcgkmgaaLaw5
import Derived.Test.YtjloccnbcgkmgaaFreshB
namespace Go.Proofs.Ytjloccnbcgkmgaa
open Go.RowKit
set_option linter.unusedVariables false
set_option linter.unusedSimpArgs false
set_option maxRecDepth 100000
theorem head11_0 : playF (cStp 3 4 40) cPk 46 [] 20 0 ⟨freshW 2 3 4 [20, 10, 8, 5], [], 0, false, 0, 0, 0, 0⟩ = (⟨(freshW 2 3 4 [20, 10, 8, 5]).set 42 4294967297, [⟨1, (42 : Nat), 0, 0, false⟩, ⟨3, (42 : Nat), 0, 4294967297, true⟩], 0, true, 0, 4294967297, 1, 1⟩, 2, true) := by kernel_rfl
theorem head11_1 : playF (cStp 3 1 40) cPk 46 [] 20 0 ⟨(freshW 2 3 4 [20, 10, 8, 5]).set 42 4294967297, [⟨1, (42 : Nat), 0, 0, false⟩, ⟨3, (42 : Nat), 0, 4294967297, true⟩], 0, false, 0, 0, 0, 0⟩ = (⟨((freshW 2 3 4 [20, 10, 8, 5]).set 42 4294967297).set 44 4294967297, [⟨1, (42 : Nat), 0, 0, false⟩, ⟨3, (42 : Nat), 0, 4294967297, true⟩, ⟨1, (42 : Nat), 4294967297, 0, false⟩, ⟨1, (44 : Nat), 0, 0, false⟩, ⟨3, (44 : Nat), 0, 4294967297, true⟩], 1, true, 0, 4294967297, 1, 2⟩, 3, true) := by kernel_rfl
theorem head11_2 : playF (cStp 3 0 40) cPk 46 [] 20 0 ⟨((freshW 2 3 4 [20, 10, 8, 5]).set 42 4294967297).set 44 4294967297, [⟨1, (42 : Nat), 0, 0, false⟩, ⟨3, (42 : Nat), 0, 4294967297, true⟩, ⟨1, (42 : Nat), 4294967297, 0, false⟩, ⟨1, (44 : Nat), 0, 0, false⟩, ⟨3, (44 : Nat), 0, 4294967297, true⟩], 0, false, 0, 0, 0, 0⟩ = (⟨(((freshW 2 3 4 [20, 10, 8, 5]).set 42 4294967297).set 44 4294967297).set 40 4294967297, [⟨1, (42 : Nat), 0, 0, false⟩, ⟨3, (42 : Nat), 0, 4294967297, true⟩, ⟨1, (42 : Nat), 4294967297, 0, false⟩, ⟨1, (44 : Nat), 0, 0, false⟩, ⟨3, (44 : Nat), 0, 4294967297, true⟩, ⟨1, (40 : Nat), 0, 0, false⟩, ⟨3, (40 : Nat), 0, 4294967297, true⟩], 0, true, 0, 4294967297, 1, 0⟩, 2, true) := by kernel_rfl
theorem head11_3 : playF (cStp 3 0 40) cPk 46 [] 20 0 ⟨(((freshW 2 3 4 [20, 10, 8, 5]).set 42 4294967297).set 44 4294967297).set 40 4294967297, [⟨1, (42 : Nat), 0, 0, false⟩, ⟨3, (42 : Nat), 0, 4294967297, true⟩, ⟨1, (42 : Nat), 4294967297, 0, false⟩, ⟨1, (44 : Nat), 0, 0, false⟩, ⟨3, (44 : Nat), 0, 4294967297, true⟩, ⟨1, (40 : Nat), 0, 0, false⟩, ⟨3, (40 : Nat), 0, 4294967297, true⟩], 0, false, 0, 0, 0, 0⟩ = (⟨(((freshW 2 3 4 [20, 10, 8, 5]).set 42 4294967297).set 44 4294967297).set 40 4294967297, [⟨1, (42 : Nat), 0, 0, false⟩, ⟨3, (42 : Nat), 0, 4294967297, true⟩, ⟨1, (42 : Nat), 4294967297, 0, false⟩, ⟨1, (44 : Nat), 0, 0, false⟩, ⟨3, (44 : Nat), 0, 4294967297, true⟩, ⟨1, (40 : Nat), 0, 0, false⟩, ⟨3, (40 : Nat), 0, 4294967297, true⟩, ⟨1, (40 : Nat), 4294967297, 0, false⟩, ⟨1, (42 : Nat), 4294967297, 0, false⟩, ⟨1, (44 : Nat), 4294967297, 0, false⟩], 3, false, 4294967297, 0, 2, 0⟩, 3, true) := by kernel_rfl

set_option maxHeartbeats 4000000 in
theorem law11_head (w : World) : Calls Try.prog 9 #[] w (Ret (.bool true) w) := by
  go_enter Try.func9, Try.ntmps9
  go_wp2_with fail
  refine (law_Base _).mono ?_
  rintro e w1 ⟨pb, lb, rfl, hk, hpb, hlb⟩
  have HK1 : Hid (Keep0 w w1) := hid hk
  have HLB := hid hlb
  clear hk hpb hlb
  go_wp2_with fail
  have hl4 : ∀ i, i < 4 → w1.cell? ⟨lb, 0 + i, none⟩ = some (i64 (rd [20, 10, 8, 5] i)) := by
    intro i hi
    rw [Nat.zero_add, HLB.out.cell i]
    match i, hi with
    | 0, _ => rfl
    | 1, _ => rfl
    | 2, _ => rfl
    | 3, _ => rfl
  refine (plan_Fresh w.heap.size _ lb 0 2 2 4 4 2 3 (some ⟨pb, 0, none⟩) 4 4 4 4 [20, 10, 8, 5] (by have := HK1.out.size; simp; omega) (by omega) (by omega) (by omega) (by omega) (by omega) (by omega) (fun i hi => by rw [World.cell?_alloc_lt _ _ _ (World.block_lt_of_cell? _ _ (hl4 i hi))]; exact hl4 i hi) (by have := HLB.out.lt; simp; omega)).mono ?_
  rintro e w2 ⟨m, a, lv2, rfl, hm, hk, hzm, hza⟩
  have HK2 : Hid (Keep0 w w2) := hid (Keep0.step (by repeat (with_reducible first | exact Keep.refl _ _ | exact HK1.out | apply Keep.alloc | apply Keep.drewN | apply Keep.drew)) hk)
  have CB2 := hid (hk.blk (Blk.made (b := w1.heap.size) (w := w1) (t := 24) (cs := [i64 2, i64 2, i64 4, i64 4, i64 2, i64 3, .slice (some ⟨pb, 0, none⟩) 4 4, .slice (some ⟨lb, 0, none⟩) 4 4]) rfl rfl) (fun h => h))
  have qCB2 := CB2.out.k8
  have HM2 := hid hm
  clear hm hk hl4 HLB HK1 hzm hza
  go_wp2_with fail
  refine (claim_New ⟨2, 2, 4, 4, 2, some ⟨pb, 0, none⟩, 4, 4, some ⟨lb, 0, none⟩, 4, 4⟩ 3 4 _ (by omega) (by omega)).mono ?_
  rintro e w3 ⟨x3, gl3, cc3, rfl, hx, hgl, hcap, hk, hcl, hr⟩
  have HX3 := hid (hcl (freshW 2 3 4 [20, 10, 8, 5]) ([]))
  have HR3 := hid hr
  have HM3 := hid (HM2.out.same hk)
  have CB3 := hid (hk.blk CB2.out (fun h => h))
  have qCB3 := CB3.out.k8
  have HK3 : Hid (Keep0 w w3) := hid (Keep0.step HK2.out hk)
  have hga : gl3 ≠ a := fun e => by have := HM2.out.words.lt; omega
  have hwx3 : w.heap.size ≤ x3 := Nat.le_trans HK2.out.size hx
  clear hcl hr hk HM2 CB2 HK2 qCB2
  go_wp2_with fail
  have hp := play_claim (B := w.heap.size) (w := w3) (m := m) (a := a) (x := x3) (lv := lv2) (K := 3) (s := 4) (q := 40) ⟨freshW 2 3 4 [20, 10, 8, 5], [], 0, false, 0, 0, 0, 0⟩ [] none 0 0 0 20 HM3.out HX3.out HR3.out hga (CInv.start (by decide +kernel) (by decide +kernel) (by decide)) ⟨(by show ((40 : Nat) : Int) = ((4 : Nat) : Int) * (6 + 2 * 2); decide), ⟨(by show (1 : Int) ≤ 2; decide), (by show (2 : Int) ≤ 8; decide)⟩, (by show 4 ≤ 1000; decide), hcap⟩ (by decide) (by decide) (by decide) (fun h => by simp at h) (fun i h => by simp at h)
  rw [show (CS.mk (freshW 2 3 4 [20, 10, 8, 5]) ([]) 0 false 0 0 0 0).W.length = 46 from by kernel_rfl, head11_0] at hp
  refine hp.mono ?_
  rintro e w4 ⟨rfl, ⟨k4, lv4, hm, ho, hx, _⟩, hk⟩
  have CB4 := hid (clplay_keeps CB3.out HM3.out HX3.out (by decide) (by decide) (by decide) (by decide) hk)
  have qCB4 := CB4.out.k8
  have HK4 : Hid (Keep0 w w4) := hid (clplay_far HM3.out hwx3 hk HK3.out rfl)
  have HM4 := hid hm
  have HX3_4 := hid hx
  clear hp hm ho hx hk HM3 HX3 HR3 HK3 CB3 qCB3 hga
  go_wp2_with fail
  refine (claim_New ⟨2, 2, 4, 4, 2, some ⟨pb, 0, none⟩, 4, 4, some ⟨lb, 0, none⟩, 4, 4⟩ 3 1 _ (by omega) (by omega)).mono ?_
  rintro e w5 ⟨x5, gl5, cc5, rfl, hx, hgl, hcap, hk, hcl, hr⟩
  have HX5 := hid (hcl ((freshW 2 3 4 [20, 10, 8, 5]).set 42 4294967297) ([⟨1, (42 : Nat), 0, 0, false⟩, ⟨3, (42 : Nat), 0, 4294967297, true⟩]))
  have HR5 := hid hr
  have HM5 := hid (HM4.out.same hk)
  have CB5 := hid (hk.blk CB4.out (fun h => h))
  have qCB5 := CB5.out.k8
  have HK5 : Hid (Keep0 w w5) := hid (Keep0.step HK4.out hk)
  have hga : gl5 ≠ a := fun e => by have := HM4.out.words.lt; omega
  have hneHX35 : x3 ≠ x5 := fun e => by have := HX3_4.out.lt; omega
  have HX3_5 := hid (HX3_4.out.keep hk (fun h => h))
  have hwx5 : w.heap.size ≤ x5 := Nat.le_trans HK4.out.size hx
  clear hcl hr hk HM4 CB4 HK4 qCB4 HX3_4
  go_wp2_with fail
  have hp := play_claim (B := w.heap.size) (w := w5) (m := m) (a := a) (x := x5) (lv := lv4) (K := 3) (s := 1) (q := 40) ⟨(freshW 2 3 4 [20, 10, 8, 5]).set 42 4294967297, [⟨1, (42 : Nat), 0, 0, false⟩, ⟨3, (42 : Nat), 0, 4294967297, true⟩], 0, false, 0, 0, 0, 0⟩ [] none 0 0 0 20 HM5.out HX5.out HR5.out hga (CInv.start (by decide +kernel) (by decide +kernel) (by decide)) ⟨(by show ((40 : Nat) : Int) = ((4 : Nat) : Int) * (6 + 2 * 2); decide), ⟨(by show (1 : Int) ≤ 2; decide), (by show (2 : Int) ≤ 8; decide)⟩, (by show 4 ≤ 1000; decide), hcap⟩ (by decide) (by decide) (by decide) (fun h => by simp at h) (fun i h => by simp at h)
  rw [show (CS.mk ((freshW 2 3 4 [20, 10, 8, 5]).set 42 4294967297) ([⟨1, (42 : Nat), 0, 0, false⟩, ⟨3, (42 : Nat), 0, 4294967297, true⟩]) 0 false 0 0 0 0).W.length = 46 from by kernel_rfl, head11_1] at hp
  refine hp.mono ?_
  rintro e w6 ⟨rfl, ⟨k6, lv6, hm, ho, hx, _⟩, hk⟩
  have CB6 := hid (clplay_keeps CB5.out HM5.out HX5.out (by decide) (by decide) (by decide) (by decide) hk)
  have qCB6 := CB6.out.k8
  have HX3_6 := hid (clplay_keepx HX3_5.out HM5.out hneHX35 hk)
  have HK6 : Hid (Keep0 w w6) := hid (clplay_far HM5.out hwx5 hk HK5.out rfl)
  have HM6 := hid hm
  have HX5_6 := hid hx
  clear hp hm ho hx hk HM5 HX5 HR5 HK5 CB5 qCB5 hga HX3_5
  go_wp2_with fail
  refine (claim_New ⟨2, 2, 4, 4, 2, some ⟨pb, 0, none⟩, 4, 4, some ⟨lb, 0, none⟩, 4, 4⟩ 3 0 _ (by omega) (by omega)).mono ?_
  rintro e w7 ⟨x7, gl7, cc7, rfl, hx, hgl, hcap, hk, hcl, hr⟩
  have HX7 := hid (hcl (((freshW 2 3 4 [20, 10, 8, 5]).set 42 4294967297).set 44 4294967297) ([⟨1, (42 : Nat), 0, 0, false⟩, ⟨3, (42 : Nat), 0, 4294967297, true⟩, ⟨1, (42 : Nat), 4294967297, 0, false⟩, ⟨1, (44 : Nat), 0, 0, false⟩, ⟨3, (44 : Nat), 0, 4294967297, true⟩]))
  have HR7 := hid hr
  have HM7 := hid (HM6.out.same hk)
  have CB7 := hid (hk.blk CB6.out (fun h => h))
  have qCB7 := CB7.out.k8
  have HK7 : Hid (Keep0 w w7) := hid (Keep0.step HK6.out hk)
  have hga : gl7 ≠ a := fun e => by have := HM6.out.words.lt; omega
  have hneHX37 : x3 ≠ x7 := fun e => by have := HX3_6.out.lt; omega
  have HX3_7 := hid (HX3_6.out.keep hk (fun h => h))
  have hneHX57 : x5 ≠ x7 := fun e => by have := HX5_6.out.lt; omega
  have HX5_7 := hid (HX5_6.out.keep hk (fun h => h))
  have hwx7 : w.heap.size ≤ x7 := Nat.le_trans HK6.out.size hx
  clear hcl hr hk HM6 CB6 HK6 qCB6 HX3_6 HX5_6
  go_wp2_with fail
  have hp := play_claim (B := w.heap.size) (w := w7) (m := m) (a := a) (x := x7) (lv := lv6) (K := 3) (s := 0) (q := 40) ⟨((freshW 2 3 4 [20, 10, 8, 5]).set 42 4294967297).set 44 4294967297, [⟨1, (42 : Nat), 0, 0, false⟩, ⟨3, (42 : Nat), 0, 4294967297, true⟩, ⟨1, (42 : Nat), 4294967297, 0, false⟩, ⟨1, (44 : Nat), 0, 0, false⟩, ⟨3, (44 : Nat), 0, 4294967297, true⟩], 0, false, 0, 0, 0, 0⟩ [] none 0 0 0 20 HM7.out HX7.out HR7.out hga (CInv.start (by decide +kernel) (by decide +kernel) (by decide)) ⟨(by show ((40 : Nat) : Int) = ((4 : Nat) : Int) * (6 + 2 * 2); decide), ⟨(by show (1 : Int) ≤ 2; decide), (by show (2 : Int) ≤ 8; decide)⟩, (by show 4 ≤ 1000; decide), hcap⟩ (by decide) (by decide) (by decide) (fun h => by simp at h) (fun i h => by simp at h)
  rw [show (CS.mk (((freshW 2 3 4 [20, 10, 8, 5]).set 42 4294967297).set 44 4294967297) ([⟨1, (42 : Nat), 0, 0, false⟩, ⟨3, (42 : Nat), 0, 4294967297, true⟩, ⟨1, (42 : Nat), 4294967297, 0, false⟩, ⟨1, (44 : Nat), 0, 0, false⟩, ⟨3, (44 : Nat), 0, 4294967297, true⟩]) 0 false 0 0 0 0).W.length = 46 from by kernel_rfl, head11_2] at hp
  refine hp.mono ?_
  rintro e w8 ⟨rfl, ⟨k8, lv8, hm, ho, hx, _⟩, hk⟩
  have CB8 := hid (clplay_keeps CB7.out HM7.out HX7.out (by decide) (by decide) (by decide) (by decide) hk)
  have qCB8 := CB8.out.k8
  have HX3_8 := hid (clplay_keepx HX3_7.out HM7.out hneHX37 hk)
  have HX5_8 := hid (clplay_keepx HX5_7.out HM7.out hneHX57 hk)
  have HK8 : Hid (Keep0 w w8) := hid (clplay_far HM7.out hwx7 hk HK7.out rfl)
  have HM8 := hid hm
  have HX7_8 := hid hx
  clear hp hm ho hx hk HM7 HX7 HR7 HK7 CB7 qCB7 hga HX3_7 HX5_7
  go_wp2_with fail
  refine (claim_New ⟨2, 2, 4, 4, 2, some ⟨pb, 0, none⟩, 4, 4, some ⟨lb, 0, none⟩, 4, 4⟩ 3 0 _ (by omega) (by omega)).mono ?_
  rintro e w9 ⟨x9, gl9, cc9, rfl, hx, hgl, hcap, hk, hcl, hr⟩
  have HX9 := hid (hcl ((((freshW 2 3 4 [20, 10, 8, 5]).set 42 4294967297).set 44 4294967297).set 40 4294967297) ([⟨1, (42 : Nat), 0, 0, false⟩, ⟨3, (42 : Nat), 0, 4294967297, true⟩, ⟨1, (42 : Nat), 4294967297, 0, false⟩, ⟨1, (44 : Nat), 0, 0, false⟩, ⟨3, (44 : Nat), 0, 4294967297, true⟩, ⟨1, (40 : Nat), 0, 0, false⟩, ⟨3, (40 : Nat), 0, 4294967297, true⟩]))
  have HR9 := hid hr
  have HM9 := hid (HM8.out.same hk)
  have CB9 := hid (hk.blk CB8.out (fun h => h))
  have qCB9 := CB9.out.k8
  have HK9 : Hid (Keep0 w w9) := hid (Keep0.step HK8.out hk)
  have hga : gl9 ≠ a := fun e => by have := HM8.out.words.lt; omega
  have hneHX39 : x3 ≠ x9 := fun e => by have := HX3_8.out.lt; omega
  have HX3_9 := hid (HX3_8.out.keep hk (fun h => h))
  have hneHX59 : x5 ≠ x9 := fun e => by have := HX5_8.out.lt; omega
  have HX5_9 := hid (HX5_8.out.keep hk (fun h => h))
  have hneHX79 : x7 ≠ x9 := fun e => by have := HX7_8.out.lt; omega
  have HX7_9 := hid (HX7_8.out.keep hk (fun h => h))
  have hwx9 : w.heap.size ≤ x9 := Nat.le_trans HK8.out.size hx
  clear hcl hr hk HM8 CB8 HK8 qCB8 HX3_8 HX5_8 HX7_8
  go_wp2_with fail
  have hp := play_claim (B := w.heap.size) (w := w9) (m := m) (a := a) (x := x9) (lv := lv8) (K := 3) (s := 0) (q := 40) ⟨(((freshW 2 3 4 [20, 10, 8, 5]).set 42 4294967297).set 44 4294967297).set 40 4294967297, [⟨1, (42 : Nat), 0, 0, false⟩, ⟨3, (42 : Nat), 0, 4294967297, true⟩, ⟨1, (42 : Nat), 4294967297, 0, false⟩, ⟨1, (44 : Nat), 0, 0, false⟩, ⟨3, (44 : Nat), 0, 4294967297, true⟩, ⟨1, (40 : Nat), 0, 0, false⟩, ⟨3, (40 : Nat), 0, 4294967297, true⟩], 0, false, 0, 0, 0, 0⟩ [] none 0 0 0 20 HM9.out HX9.out HR9.out hga (CInv.start (by decide +kernel) (by decide +kernel) (by decide)) ⟨(by show ((40 : Nat) : Int) = ((4 : Nat) : Int) * (6 + 2 * 2); decide), ⟨(by show (1 : Int) ≤ 2; decide), (by show (2 : Int) ≤ 8; decide)⟩, (by show 4 ≤ 1000; decide), hcap⟩ (by decide) (by decide) (by decide) (fun h => by simp at h) (fun i h => by simp at h)
  rw [show (CS.mk ((((freshW 2 3 4 [20, 10, 8, 5]).set 42 4294967297).set 44 4294967297).set 40 4294967297) ([⟨1, (42 : Nat), 0, 0, false⟩, ⟨3, (42 : Nat), 0, 4294967297, true⟩, ⟨1, (42 : Nat), 4294967297, 0, false⟩, ⟨1, (44 : Nat), 0, 0, false⟩, ⟨3, (44 : Nat), 0, 4294967297, true⟩, ⟨1, (40 : Nat), 0, 0, false⟩, ⟨3, (40 : Nat), 0, 4294967297, true⟩]) 0 false 0 0 0 0).W.length = 46 from by kernel_rfl, head11_3] at hp
  refine hp.mono ?_
  rintro e w10 ⟨rfl, ⟨k10, lv10, hm, ho, hx, _⟩, hk⟩
  have CB10 := hid (clplay_keeps CB9.out HM9.out HX9.out (by decide) (by decide) (by decide) (by decide) hk)
  have qCB10 := CB10.out.k8
  have HX3_10 := hid (clplay_keepx HX3_9.out HM9.out hneHX39 hk)
  have HX5_10 := hid (clplay_keepx HX5_9.out HM9.out hneHX59 hk)
  have HX7_10 := hid (clplay_keepx HX7_9.out HM9.out hneHX79 hk)
  have HK10 : Hid (Keep0 w w10) := hid (clplay_far HM9.out hwx9 hk HK9.out rfl)
  have HM10 := hid hm
  have HX9_10 := hid hx
  clear hp hm ho hx hk HM9 HX9 HR9 HK9 CB9 qCB9 hga HX3_9 HX5_9 HX7_9
  go_wp2_with fail
  clear CB10 qCB10 HM10
  refine Calls.mono (show Calls Try.prog 17 #[ptr x3] w10 (Ret (.agg #[i64 0, i64 1, .bool false, i64 0]) w10) from cl_Ans HX3_10.out) ?_
  rintro e w11 ⟨rfl, hk⟩
  have HK11 : Hid (Keep0 w w11) := hid (Keep0.step HK10.out hk)
  have HX3_11 := hid (HX3_10.out.keep hk (fun h => h))
  have HX5_11 := hid (HX5_10.out.keep hk (fun h => h))
  have HX7_11 := hid (HX7_10.out.keep hk (fun h => h))
  have HX9_11 := hid (HX9_10.out.keep hk (fun h => h))
  clear hk HK10 HX3_10 HX5_10 HX7_10 HX9_10
  go_wp2_with fail
  refine Calls.mono (show Calls Try.prog 21 #[ptr x3] w11 (Ret (i64 4294967297) w11) from cl_Word HX3_11.out) ?_
  rintro e w12 ⟨rfl, hk⟩
  have HK12 : Hid (Keep0 w w12) := hid (Keep0.step HK11.out hk)
  have HX3_12 := hid (HX3_11.out.keep hk (fun h => h))
  have HX5_12 := hid (HX5_11.out.keep hk (fun h => h))
  have HX7_12 := hid (HX7_11.out.keep hk (fun h => h))
  have HX9_12 := hid (HX9_11.out.keep hk (fun h => h))
  clear hk HK11 HX3_11 HX5_11 HX7_11 HX9_11
  go_wp2_with fail
  refine Calls.mono (show Calls Try.prog 17 #[ptr x5] w12 (Ret (.agg #[i64 0, i64 2, .bool false, i64 0]) w12) from cl_Ans HX5_12.out) ?_
  rintro e w13 ⟨rfl, hk⟩
  have HK13 : Hid (Keep0 w w13) := hid (Keep0.step HK12.out hk)
  have HX3_13 := hid (HX3_12.out.keep hk (fun h => h))
  have HX5_13 := hid (HX5_12.out.keep hk (fun h => h))
  have HX7_13 := hid (HX7_12.out.keep hk (fun h => h))
  have HX9_13 := hid (HX9_12.out.keep hk (fun h => h))
  clear hk HK12 HX3_12 HX5_12 HX7_12 HX9_12
  go_wp2_with fail
  refine Calls.mono (show Calls Try.prog 17 #[ptr x7] w13 (Ret (.agg #[i64 0, i64 0, .bool false, i64 0]) w13) from cl_Ans HX7_13.out) ?_
  rintro e w14 ⟨rfl, hk⟩
  have HK14 : Hid (Keep0 w w14) := hid (Keep0.step HK13.out hk)
  have HX3_14 := hid (HX3_13.out.keep hk (fun h => h))
  have HX5_14 := hid (HX5_13.out.keep hk (fun h => h))
  have HX7_14 := hid (HX7_13.out.keep hk (fun h => h))
  have HX9_14 := hid (HX9_13.out.keep hk (fun h => h))
  clear hk HK13 HX3_13 HX5_13 HX7_13 HX9_13
  go_wp2_with fail
  refine Calls.mono (show Calls Try.prog 17 #[ptr x9] w14 (Ret (.agg #[i64 3, i64 0, .bool false, i64 0]) w14) from cl_Ans HX9_14.out) ?_
  rintro e w15 ⟨rfl, hk⟩
  have HK15 : Hid (Keep0 w w15) := hid (Keep0.step HK14.out hk)
  have HX3_15 := hid (HX3_14.out.keep hk (fun h => h))
  have HX5_15 := hid (HX5_14.out.keep hk (fun h => h))
  have HX7_15 := hid (HX7_14.out.keep hk (fun h => h))
  have HX9_15 := hid (HX9_14.out.keep hk (fun h => h))
  clear hk HK14 HX3_14 HX5_14 HX7_14 HX9_14
  go_wp2_with fail
  refine Calls.mono (show Calls Try.prog 21 #[ptr x9] w15 (Ret (i64 0) w15) from cl_Word HX9_15.out) ?_
  rintro e w16 ⟨rfl, hk⟩
  have HK16 : Hid (Keep0 w w16) := hid (Keep0.step HK15.out hk)
  have HX3_16 := hid (HX3_15.out.keep hk (fun h => h))
  have HX5_16 := hid (HX5_15.out.keep hk (fun h => h))
  have HX7_16 := hid (HX7_15.out.keep hk (fun h => h))
  have HX9_16 := hid (HX9_15.out.keep hk (fun h => h))
  clear hk HK15 HX3_15 HX5_15 HX7_15 HX9_15
  go_wp2_with fail
  go_ret
  exact ⟨rfl, HK16.out⟩
end Go.Proofs.Ytjloccnbcgkmgaa
