/- breadlinelaw08.head. -/
import Derived.Test.YtdjfeapncpcmgaaLawEightD
namespace Go.Proofs.Ytdjfeapncpcmgaa
open Go.RowKit
set_option linter.unusedVariables false
set_option linter.unusedSimpArgs false
set_option maxRecDepth 100000

theorem PInv.start {W : List Int} {L : List Acc} {av le : Nat} {n lim X : Int} (la : av < W.length) (ll : le < W.length) (ne : av ≠ le) (n1 : 1 ≤ n ∧ n ≤ 1048576) (m1 : 0 ≤ lim ∧ lim ≤ 1048576) (wl : 0 ≤ rd W le ∧ rd W le ≤ lim) (wa : 0 ≤ rd W av ∧ rd W av ≤ X) : PInv av le n lim X ⟨W, L, 0, 0, 0, 0, false⟩ :=
  ⟨la, ll, ne, n1, m1, wl, wa, (show (0 : Nat) ≤ 7 by decide), fun h => (by cases h), fun h => (by cases h), fun h => (by rcases h with h | h | h <;> cases h), fun h => (by cases h), fun h => (by cases h)⟩
theorem play_keeps {B : Nat} {w w' : World} {m a x b : Nat} {lv : Value} {W : List Int} {L : List Acc} {T : TypeId} {cs ds : List Value} (hb : Blk w b T cs) (hm : MemAt B w m a lv W L) (hx : Blk w x 100 ds) (h1 : T ≠ 91) (h2 : T ≠ 3) (h3 : T ≠ 100) (h4 : T ≠ 35)
    (hk : Keep (fun k => (k = m ∨ k = a ∨ k = x ∨ lv.ownBlock = some k) ∨ w.heap.size ≤ k) w w') : Blk w' b T cs := hk.blk hb (by
  rintro ((h | h | h | h) | h)
  · exact hb.ne hm.mem h1 h
  · exact hb.ne hm.words h2 h
  · exact hb.ne hx h3 h
  · exact ownBlock_ne hm.log hb h4 h.symm
  · have := hb.lt; omega)
theorem play_keepx {B : Nat} {w w' : World} {m a x b : Nat} {lv : Value} {W : List Int} {L : List Acc} {cs : List Value} (hb : Blk w b 100 cs) (hm : MemAt B w m a lv W L) (hx : b ≠ x)
    (hk : Keep (fun k => (k = m ∨ k = a ∨ k = x ∨ lv.ownBlock = some k) ∨ w.heap.size ≤ k) w w') : Blk w' b 100 cs := hk.blk hb (by
  rintro ((h | h | h | h) | h)
  · exact hb.ne hm.mem (by decide) h
  · exact hb.ne hm.words (by decide) h
  · exact hx h
  · exact ownBlock_ne hm.log hb (by decide) h.symm
  · have := hb.lt; omega)

theorem head8_x : playF (pStp 1 3 3 4) pPk 46 [] 50 0 ⟨freshW 2 3 4 [20, 10, 8, 5], [], 0, 0, 0, 0, false⟩ = (⟨((freshW 2 3 4 [20, 10, 8, 5]).set 1 15).set 3 2, [⟨1, (3 : Nat), 0, 0, false⟩, ⟨1, (1 : Nat), 20, 0, false⟩, ⟨3, (1 : Nat), 20, 15, true⟩, ⟨1, (3 : Nat), 0, 0, false⟩, ⟨3, (3 : Nat), 0, 2, true⟩], 7, 0, 20, 2, false⟩, 5, true) := by kernel_rfl
theorem head8_y : playF (pStp 1 3 2 4) pPk 46 [] 50 0 ⟨((freshW 2 3 4 [20, 10, 8, 5]).set 1 15).set 3 2, [⟨1, (3 : Nat), 0, 0, false⟩, ⟨1, (1 : Nat), 20, 0, false⟩, ⟨3, (1 : Nat), 20, 15, true⟩, ⟨1, (3 : Nat), 0, 0, false⟩, ⟨3, (3 : Nat), 0, 2, true⟩], 0, 0, 0, 0, false⟩ = (⟨(((freshW 2 3 4 [20, 10, 8, 5]).set 1 15).set 3 2).set 3 0, [⟨1, (3 : Nat), 0, 0, false⟩, ⟨1, (1 : Nat), 20, 0, false⟩, ⟨3, (1 : Nat), 20, 15, true⟩, ⟨1, (3 : Nat), 0, 0, false⟩, ⟨3, (3 : Nat), 0, 2, true⟩, ⟨1, (3 : Nat), 2, 0, false⟩, ⟨3, (3 : Nat), 2, 0, true⟩], 7, 2, 0, 0, false⟩, 2, true) := by kernel_rfl
theorem head8_z : playF (pStp 1 2 16 4) pPk 46 [] 50 0 ⟨(((freshW 2 3 4 [20, 10, 8, 5]).set 1 15).set 3 2).set 3 0, [⟨1, (3 : Nat), 0, 0, false⟩, ⟨1, (1 : Nat), 20, 0, false⟩, ⟨3, (1 : Nat), 20, 15, true⟩, ⟨1, (3 : Nat), 0, 0, false⟩, ⟨3, (3 : Nat), 0, 2, true⟩, ⟨1, (3 : Nat), 2, 0, false⟩, ⟨3, (3 : Nat), 2, 0, true⟩], 0, 0, 0, 0, false⟩ = (⟨(((freshW 2 3 4 [20, 10, 8, 5]).set 1 15).set 3 2).set 3 0, [⟨1, (3 : Nat), 0, 0, false⟩, ⟨1, (1 : Nat), 20, 0, false⟩, ⟨3, (1 : Nat), 20, 15, true⟩, ⟨1, (3 : Nat), 0, 0, false⟩, ⟨3, (3 : Nat), 0, 2, true⟩, ⟨1, (3 : Nat), 2, 0, false⟩, ⟨3, (3 : Nat), 2, 0, true⟩, ⟨1, (2 : Nat), 0, 0, false⟩, ⟨1, (1 : Nat), 15, 0, false⟩], 7, 0, 15, 0, true⟩, 2, true) := by kernel_rfl
theorem rd_all {W : List Int} {Y : Int} (hY : 0 ≤ Y) (h : (W.all fun x => decide (-Y ≤ x ∧ x ≤ Y)) = true) (i : Nat) : -Y ≤ rd W i ∧ rd W i ≤ Y := by
  rw [List.all_eq_true] at h
  unfold rd
  by_cases hi : i < W.length
  · have := h W[i] (List.getElem_mem hi)
    rw [List.getD_eq_getElem?_getD, List.getElem?_eq_getElem hi]
    simpa using this
  · rw [List.getD_eq_getElem?_getD, List.getElem?_eq_none (by omega)]
    simp; omega

set_option maxHeartbeats 4000000 in
theorem law8_head (w : World) : Calls Try.prog 17 #[] w (Ret (.bool true) w) := by
  go_enter Try.func17, Try.ntmps17
  go_wp2_with fail
  refine (law_Base _).mono ?_
  rintro e w1 ⟨pb, lb, rfl, hk, hpb, hlb⟩
  have HK1 : Hid (Keep0 w w1) := hid hk
  have HLB := hid hlb
  clear hk hpb hlb
  go_wp2_with fail
  have hl4 : ∀ i, i < 4 → w1.cell? ⟨lb, 0 + i, none⟩ = some (i64 (rd [20, 10, 8, 5] i)) := by
    intro i hi
    rw [Nat.zero_add, HLB.out.cell i]
    match i, hi with
    | 0, _ => rfl
    | 1, _ => rfl
    | 2, _ => rfl
    | 3, _ => rfl
  refine (plan_Fresh w.heap.size _ lb 0 2 2 4 4 2 3 (some ⟨pb, 0, none⟩) 4 4 4 4 [20, 10, 8, 5] (by have := HK1.out.size; simp; omega) (by omega) (by omega) (by omega) (by omega) (by omega) (by omega) (fun i hi => by rw [World.cell?_alloc_lt _ _ _ (World.block_lt_of_cell? _ _ (hl4 i hi))]; exact hl4 i hi) (by have := HLB.out.lt; simp; omega)).mono ?_
  rintro e w2 ⟨m, a, lv2, rfl, hm, hk, hzm, hza⟩
  have HK2 : Hid (Keep0 w w2) := hid (Keep0.step (by repeat (with_reducible first | exact Keep.refl _ _ | exact HK1.out | apply Keep.alloc | apply Keep.drewN | apply Keep.drew)) hk)
  have CB2 := hid (hk.blk (Blk.made (b := w1.heap.size) (w := w1) (t := 40) (cs := [i64 2, i64 2, i64 4, i64 4, i64 2, i64 3, .slice (some ⟨pb, 0, none⟩) 4 4, .slice (some ⟨lb, 0, none⟩) 4 4]) rfl rfl) (fun h => h))
  have qCB2 := CB2.out.k8
  have HM2 := hid hm
  clear hm hk hl4 HLB HK1 hzm hza
  go_wp2_with fail
  refine (pool_New 2 2 4 4 2 3 (some ⟨pb, 0, none⟩) 4 4 (some ⟨lb, 0, none⟩) 4 4 0 3 1 _ (by omega) (by omega) (by omega) (by omega) (by omega) (by omega)).mono ?_
  rintro e w3 ⟨x3, rfl, hb, hk, hx⟩
  have HX3 := hid (show Blk w3 x3 100 (pcs 1 3 0 3 4 0 ⟨freshW 2 3 4 [20, 10, 8, 5], [], 0, 0, 0, 0, false⟩) from hb)
  have HM3 := hid (HM2.out.same hk)
  have CB3 := hid (hk.blk CB2.out (fun h => h))
  have qCB3 := CB3.out.k8
  have HK3 : Hid (Keep0 w w3) := hid (Keep0.step HK2.out hk)
  have hwx3 : w.heap.size ≤ x3 := Nat.le_trans HK2.out.size hx
  clear hb hk HM2 CB2 HK2 qCB2
  go_wp2_with fail
  have hp := play_pool (B := w.heap.size) (w := w3) (m := m) (a := a) (x := x3) (lv := lv2) (av := 1) (le := 3) (nd := 0) (n := 3) (lim := 4) (X := 4294967296) ⟨freshW 2 3 4 [20, 10, 8, 5], [], 0, 0, 0, 0, false⟩ [] none 0 0 0 50 HM3.out HX3.out (PInv.start (by decide +kernel) (by decide +kernel) (by decide) (by decide) (by decide) (by decide +kernel) (by decide +kernel)) (by decide) (by decide) (by decide) (by decide) (by intro p hp; cases hp) (fun h => by simp at h) (fun i h => by simp at h)
  rw [show (PS.mk (freshW 2 3 4 [20, 10, 8, 5]) ([]) (0) (0) (0) (0) (false)).W.length = 46 from by kernel_rfl, head8_x] at hp
  refine hp.mono ?_
  rintro e w4 ⟨rfl, ⟨k4, lv4, hm, ho, hx, _⟩, hk⟩
  have CB4 := hid (play_keeps CB3.out HM3.out HX3.out (by decide) (by decide) (by decide) (by decide) hk)
  have qCB4 := CB4.out.k8
  have HK4 : Hid (Keep0 w w4) := hid (keep_far HK3.out hk (by
    rintro k ((rfl | rfl | rfl | h) | h)
    · exact HM3.out.bm
    · exact HM3.out.ba
    · exact hwx3
    · exact (HM3.out.log.lt k h).1
    · exact Nat.le_trans HK3.out.size h))
  have HM4 := hid hm
  have HX3_4 := hid hx
  clear hp hm ho hx hk HM3 HX3 HK3 CB3 qCB3
  go_wp2_with fail
  refine (pool_New 2 2 4 4 2 3 (some ⟨pb, 0, none⟩) 4 4 (some ⟨lb, 0, none⟩) 4 4 0 2 1 _ (by omega) (by omega) (by omega) (by omega) (by omega) (by omega)).mono ?_
  rintro e w5 ⟨x5, rfl, hb, hk, hx⟩
  have HX5 := hid (show Blk w5 x5 100 (pcs 1 3 0 2 4 0 ⟨((freshW 2 3 4 [20, 10, 8, 5]).set 1 15).set 3 2, [⟨1, (3 : Nat), 0, 0, false⟩, ⟨1, (1 : Nat), 20, 0, false⟩, ⟨3, (1 : Nat), 20, 15, true⟩, ⟨1, (3 : Nat), 0, 0, false⟩, ⟨3, (3 : Nat), 0, 2, true⟩], 0, 0, 0, 0, false⟩) from hb)
  have HM5 := hid (HM4.out.same hk)
  have CB5 := hid (hk.blk CB4.out (fun h => h))
  have qCB5 := CB5.out.k8
  have HK5 : Hid (Keep0 w w5) := hid (Keep0.step HK4.out hk)
  have hneHX35 : x3 ≠ x5 := fun e => by have := HX3_4.out.lt; omega
  have HX3_5 := hid (hk.blk HX3_4.out (fun h => h))
  have hwx5 : w.heap.size ≤ x5 := Nat.le_trans HK4.out.size hx
  clear hb hk HM4 CB4 HK4 qCB4 HX3_4
  go_wp2_with fail
  have hp := play_pool (B := w.heap.size) (w := w5) (m := m) (a := a) (x := x5) (lv := lv4) (av := 1) (le := 3) (nd := 0) (n := 2) (lim := 4) (X := 4294967296) ⟨((freshW 2 3 4 [20, 10, 8, 5]).set 1 15).set 3 2, [⟨1, (3 : Nat), 0, 0, false⟩, ⟨1, (1 : Nat), 20, 0, false⟩, ⟨3, (1 : Nat), 20, 15, true⟩, ⟨1, (3 : Nat), 0, 0, false⟩, ⟨3, (3 : Nat), 0, 2, true⟩], 0, 0, 0, 0, false⟩ [] none 0 0 0 50 HM5.out HX5.out (PInv.start (by decide +kernel) (by decide +kernel) (by decide) (by decide) (by decide) (by decide +kernel) (by decide +kernel)) (by decide) (by decide) (by decide) (by decide) (by intro p hp; cases hp) (fun h => by simp at h) (fun i h => by simp at h)
  rw [show (PS.mk (((freshW 2 3 4 [20, 10, 8, 5]).set 1 15).set 3 2) ([⟨1, (3 : Nat), 0, 0, false⟩, ⟨1, (1 : Nat), 20, 0, false⟩, ⟨3, (1 : Nat), 20, 15, true⟩, ⟨1, (3 : Nat), 0, 0, false⟩, ⟨3, (3 : Nat), 0, 2, true⟩]) (0) (0) (0) (0) (false)).W.length = 46 from by kernel_rfl, head8_y] at hp
  refine hp.mono ?_
  rintro e w6 ⟨rfl, ⟨k6, lv6, hm, ho, hx, _⟩, hk⟩
  have CB6 := hid (play_keeps CB5.out HM5.out HX5.out (by decide) (by decide) (by decide) (by decide) hk)
  have qCB6 := CB6.out.k8
  have HX3_6 := hid (play_keepx HX3_5.out HM5.out hneHX35 hk)
  have HK6 : Hid (Keep0 w w6) := hid (keep_far HK5.out hk (by
    rintro k ((rfl | rfl | rfl | h) | h)
    · exact HM5.out.bm
    · exact HM5.out.ba
    · exact hwx5
    · exact (HM5.out.log.lt k h).1
    · exact Nat.le_trans HK5.out.size h))
  have HM6 := hid hm
  have HX5_6 := hid hx
  clear hp hm ho hx hk HM5 HX5 HK5 CB5 qCB5 HX3_5
  go_wp2_with fail
  refine (pool_New 2 2 4 4 2 3 (some ⟨pb, 0, none⟩) 4 4 (some ⟨lb, 0, none⟩) 4 4 0 16 0 _ (by omega) (by omega) (by omega) (by omega) (by omega) (by omega)).mono ?_
  rintro e w7 ⟨x7, rfl, hb, hk, hx⟩
  have HX7 := hid (show Blk w7 x7 100 (pcs 1 2 0 16 4 0 ⟨(((freshW 2 3 4 [20, 10, 8, 5]).set 1 15).set 3 2).set 3 0, [⟨1, (3 : Nat), 0, 0, false⟩, ⟨1, (1 : Nat), 20, 0, false⟩, ⟨3, (1 : Nat), 20, 15, true⟩, ⟨1, (3 : Nat), 0, 0, false⟩, ⟨3, (3 : Nat), 0, 2, true⟩, ⟨1, (3 : Nat), 2, 0, false⟩, ⟨3, (3 : Nat), 2, 0, true⟩], 0, 0, 0, 0, false⟩) from hb)
  have HM7 := hid (HM6.out.same hk)
  have CB7 := hid (hk.blk CB6.out (fun h => h))
  have qCB7 := CB7.out.k8
  have HK7 : Hid (Keep0 w w7) := hid (Keep0.step HK6.out hk)
  have hneHX37 : x3 ≠ x7 := fun e => by have := HX3_6.out.lt; omega
  have HX3_7 := hid (hk.blk HX3_6.out (fun h => h))
  have hwx7 : w.heap.size ≤ x7 := Nat.le_trans HK6.out.size hx
  clear hb hk HM6 CB6 HK6 qCB6 HX3_6
  go_wp2_with fail
  have hp := play_pool (B := w.heap.size) (w := w7) (m := m) (a := a) (x := x7) (lv := lv6) (av := 1) (le := 2) (nd := 0) (n := 16) (lim := 4) (X := 4294967296) ⟨(((freshW 2 3 4 [20, 10, 8, 5]).set 1 15).set 3 2).set 3 0, [⟨1, (3 : Nat), 0, 0, false⟩, ⟨1, (1 : Nat), 20, 0, false⟩, ⟨3, (1 : Nat), 20, 15, true⟩, ⟨1, (3 : Nat), 0, 0, false⟩, ⟨3, (3 : Nat), 0, 2, true⟩, ⟨1, (3 : Nat), 2, 0, false⟩, ⟨3, (3 : Nat), 2, 0, true⟩], 0, 0, 0, 0, false⟩ [] none 0 0 0 50 HM7.out HX7.out (PInv.start (by decide +kernel) (by decide +kernel) (by decide) (by decide) (by decide) (by decide +kernel) (by decide +kernel)) (by decide) (by decide) (by decide) (by decide) (by intro p hp; cases hp) (fun h => by simp at h) (fun i h => by simp at h)
  rw [show (PS.mk ((((freshW 2 3 4 [20, 10, 8, 5]).set 1 15).set 3 2).set 3 0) ([⟨1, (3 : Nat), 0, 0, false⟩, ⟨1, (1 : Nat), 20, 0, false⟩, ⟨3, (1 : Nat), 20, 15, true⟩, ⟨1, (3 : Nat), 0, 0, false⟩, ⟨3, (3 : Nat), 0, 2, true⟩, ⟨1, (3 : Nat), 2, 0, false⟩, ⟨3, (3 : Nat), 2, 0, true⟩]) (0) (0) (0) (0) (false)).W.length = 46 from by kernel_rfl, head8_z] at hp
  refine hp.mono ?_
  rintro e w8 ⟨rfl, ⟨k8, lv8, hm, ho, hx, _⟩, hk⟩
  have CB8 := hid (play_keeps CB7.out HM7.out HX7.out (by decide) (by decide) (by decide) (by decide) hk)
  have qCB8 := CB8.out.k8
  have HX3_8 := hid (play_keepx HX3_7.out HM7.out hneHX37 hk)
  have HK8 : Hid (Keep0 w w8) := hid (keep_far HK7.out hk (by
    rintro k ((rfl | rfl | rfl | h) | h)
    · exact HM7.out.bm
    · exact HM7.out.ba
    · exact hwx7
    · exact (HM7.out.log.lt k h).1
    · exact Nat.le_trans HK7.out.size h))
  have HM8 := hid hm
  have HX7_8 := hid hx
  clear hp hm ho hx hk HM7 HX7 HK7 CB7 qCB7 HX3_7
  go_wp2_with fail
  have hwd := mem_Words HM8.out (by decide +kernel)
  rw [show ((((freshW 2 3 4 [20, 10, 8, 5]).set 1 15).set 3 2).set 3 0).length = 46 from by kernel_rfl] at hwd
  refine hwd.mono ?_
  rintro e w9 ⟨gb, gc, rfl, hi, hk, _⟩
  have HI9 := hid hi
  have HM9 := hid (HM8.out.same hk)
  have CB9 := hid (hk.blk CB8.out (fun h => h))
  have HX3_9 := hid (hk.blk HX3_8.out (fun h => h))
  have HX7_9 := hid (hk.blk HX7_8.out (fun h => h))
  have HK9 : Hid (Keep0 w w9) := hid (Keep0.step HK8.out hk)
  clear hwd hi hk HM8 CB8 HX3_8 HX7_8 HK8 qCB8
  go_wp2_with fail
  refine Calls.mono (show Calls Try.prog 27 #[ptr x3] w9 (Ret (.agg #[i64 0, i64 0, .bool false, i64 0]) w9) from pool_Ans HX3_9.out) ?_
  rintro e w10 ⟨rfl, hk⟩
  have HI10 := hid (hk.ints HI9.out (fun h => h))
  have HM10 := hid (HM9.out.same hk)
  have CB10 := hid (hk.blk CB9.out (fun h => h))
  have HX7_10 := hid (hk.blk HX7_9.out (fun h => h))
  have HK10 : Hid (Keep0 w w10) := hid (Keep0.step HK9.out hk)
  clear hk HI9 HM9 CB9 HX3_9 HX7_9 HK9
  go_wp2_with fail
  refine Calls.mono (show Calls Try.prog 27 #[ptr x7] w10 (Ret (.agg #[i64 4, i64 0, .bool false, i64 0]) w10) from pool_Ans HX7_10.out) ?_
  rintro e w11 ⟨rfl, hk⟩
  have HI11 := hid (hk.ints HI10.out (fun h => h))
  have HM11 := hid (HM10.out.same hk)
  have CB11 := hid (hk.blk CB10.out (fun h => h))
  have HK11 : Hid (Keep0 w w11) := hid (Keep0.step HK10.out hk)
  have qCB11 := CB11.out.k8
  have c1 := HI11.out.cell 1 (by decide +kernel)
  have c2 := HI11.out.cell 2 (by decide +kernel)
  have c3 := HI11.out.cell 3 (by decide +kernel)
  rw [show rd ((((freshW 2 3 4 [20, 10, 8, 5]).set 1 15).set 3 2).set 3 0) 1 = 15 from by kernel_rfl] at c1
  rw [show rd ((((freshW 2 3 4 [20, 10, 8, 5]).set 1 15).set 3 2).set 3 0) 2 = 0 from by kernel_rfl] at c2
  rw [show rd ((((freshW 2 3 4 [20, 10, 8, 5]).set 1 15).set 3 2).set 3 0) 3 = 0 from by kernel_rfl] at c3
  have z1 := HI11.out.lt
  clear hk HI10 HM10 CB10 HX7_10 HK10
  go_wp2_with fail
  refine Calls.mono (show Calls Try.prog 28 #[ptr m, .agg #[i64 2, i64 2, i64 4, i64 4, i64 2, i64 3, .slice (some ⟨pb, 0, none⟩) 4 4, .slice (some ⟨lb, 0, none⟩) 4 4], i64 0] w11 (Ret (i64 15) w11) from by
    have h := pool_Left 2 4 4 2 3 2 (some ⟨pb, 0, none⟩) 4 4 (some ⟨lb, 0, none⟩) 4 4 0 1 HM11.out (by decide +kernel) (by decide) (by decide) (by decide) (by decide) (by decide) (by decide +kernel) (rd_all (by decide) (by kernel_rfl))
    rw [show leftN ((((freshW 2 3 4 [20, 10, 8, 5]).set 1 15).set 3 2).set 3 0) 1 2 = 15 from by kernel_rfl] at h
    exact h) ?_
  rintro e w12 ⟨rfl, hk⟩
  have HK12 : Hid (Keep0 w w12) := hid (Keep0.step HK11.out hk)
  clear hk
  go_wp2_with fail
  go_ret
  exact ⟨rfl, HK12.out⟩
end Go.Proofs.Ytdjfeapncpcmgaa
