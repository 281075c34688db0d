/- breadlinelaw06.head. -/
import Derived.Test.YtchlmaphaeoplaaAddS
import Derived.Test.YtchlmaphaeoplaaAddSum
import Derived.Test.YtchlmaphaeoplaaLawSixB
namespace Go.Proofs.Ytchlmaphaeoplaa
open Go.RowKit
set_option linter.unusedVariables false
set_option linter.unusedSimpArgs false
set_option maxRecDepth 100000
theorem AInv.start {b s : Nat} {g d : Int} {W : List Int} {L : List Acc} {x : Int} (ln : b + 4 + s ≤ W.length) (wl : W.length ≤ 10000) (s1 : p2 s) (g1 : 1 ≤ g ∧ g ≤ 2147483647) (d1 : -4398046511104 ≤ d ∧ d ≤ 4398046511104) (lw : p2 (rd W (b + 3)) ∧ rd W (b + 3) ≤ s) (xb : 0 ≤ x ∧ x < 4294967296) :
    AInv b s g d ⟨W, L, 0, x, 0, 0, 0, 0⟩ :=
  ⟨ln, wl, s1, g1, d1, lw, xb, by show (0 : Nat) ≤ 9; omega, fun h => by simp at h, fun h => by simp at h, fun h => by simp at h, fun h => by simp at h⟩
theorem head6_a : playF (aStp 0 2 4 3) aPk 6 [] 20 0 ⟨[0, 0, 0, 1, 0, 0], [], 0, 2654435761, 0, 0, 0, 0⟩ = (⟨[0, 0, 0, 1, 4294967299, 0], [⟨1, (3 : Nat), 1, 0, false⟩, ⟨1, (4 : Nat), 0, 0, false⟩, ⟨3, (4 : Nat), 0, 4294967299, true⟩], 9, 2654435761, 1, 4, 0, 3⟩, 3, true) := by kernel_rfl
theorem head6_b : playF (aStp 0 2 4 2) aPk 6 [] 20 0 ⟨[0, 0, 0, 1, 4294967299, 0], [⟨1, (3 : Nat), 1, 0, false⟩, ⟨1, (4 : Nat), 0, 0, false⟩, ⟨3, (4 : Nat), 0, 4294967299, true⟩], 0, 1013904226, 0, 0, 0, 0⟩ = (⟨[5, 1, 1, 1, 8589934592, 0], [⟨1, (3 : Nat), 1, 0, false⟩, ⟨1, (4 : Nat), 0, 0, false⟩, ⟨3, (4 : Nat), 0, 4294967299, true⟩, ⟨1, (3 : Nat), 1, 0, false⟩, ⟨1, (4 : Nat), 4294967299, 0, false⟩, ⟨2, (1 : Nat), 1, 1, false⟩, ⟨3, (4 : Nat), 4294967299, 8589934592, true⟩, ⟨2, (0 : Nat), 5, 5, false⟩, ⟨2, (2 : Nat), 1, 1, false⟩], 9, 1013904226, 1, 4, 4294967299, 5⟩, 6, true) := by kernel_rfl
theorem ans6_eq (w : World) : (binOp BinOp.eql 62 (.agg #[i64 0, i64 0, .bool false, i64 0]) (.agg #[i64 0, i64 0, .bool false, i64 0])).run Try.prog w = .ok (.bool true) w := by kernel_rfl
set_option maxHeartbeats 4000000 in
theorem law6_head (w : World) : Calls Try.prog 9 #[] w (Ret (.bool true) w) := by
  go_enter Try.func9, Try.ntmps9
  go_wp2_with fail
  refine (mem_New w.heap.size 6 _ (Nat.le_refl _) (by omega) (by omega)).mono ?_
  rintro e w1 ⟨m, a, lv1, rfl, hm, hk, hzm, hza⟩
  have HM1 := hid hm
  have HK1 : Hid (Keep0 w w1) := hid hk
  clear hm hk
  go_wp2_with fail
  refine (mem_Poke 3 1 HM1.out (by omega) (by decide)).mono ?_
  rintro e w3 ⟨rfl, hm, hk⟩
  obtain ⟨lv3, hlv⟩ : ∃ lv3, lv3 = lv1 := ⟨_, rfl⟩
  rw [← hlv] at hm
  have HM3 := hid (show MemAt w.heap.size w3 m a lv3 [0, 0, 0, 1, 0, 0] [] from hm)
  have HK3 : Hid (Keep0 w w3) := hid (keep_far6 HK1.out hk (fun k e => by have e' : k = a := e; omega))
  clear hm hk HM1 HK1 hlv
  go_wp2_with fail
  refine (add_New 0 2 4 3 0 _ (by decide) 2654435761 (by decide)).mono ?_
  rintro e w4 ⟨x4, rfl, hx, hk, hb⟩
  have HX4 := hid (show Blk w4 x4 83 (acs 0 2 4 3 ⟨[0, 0, 0, 1, 0, 0], [], 0, 2654435761, 0, 0, 0, 0⟩) from hb)
  have HM4 := hid (HM3.out.same hk)
  have HK4 : Hid (Keep0 w w4) := hid (Keep0.step HK3.out hk)
  have hwx4 : w.heap.size ≤ x4 := Nat.le_trans HK3.out.size hx
  clear hb hk hx HM3 HK3
  go_wp2_with fail
  have hp := play_add (B := w.heap.size) (w := w4) (m := m) (a := a) (x := x4) (lv := lv3) (b := 0) (s := 2) (g := 4) (d := 3) ⟨[0, 0, 0, 1, 0, 0], [], 0, 2654435761, 0, 0, 0, 0⟩ [] none 0 0 0 20 HM4.out HX4.out (AInv.start (by decide) (by decide) (by unfold p2; omega) (by omega) (by omega) (by unfold p2; decide) (by omega)) (by decide) (by decide) (by decide) (by intro p hp; cases hp) (fun h => by simp at h) (fun i h => by simp at h)
  rw [show (AS.mk ([0, 0, 0, 1, 0, 0]) ([]) 0 2654435761 0 0 0 0).W.length = 6 from by kernel_rfl, head6_a] at hp
  refine hp.mono ?_
  rintro e w5 ⟨rfl, ⟨k5, lv5, hm, ho, hx, _⟩, hk⟩
  have HK5 : Hid (Keep0 w w5) := hid (keep_far6 HK4.out hk (by
    rintro k ((rfl | rfl | rfl | h) | h)
    · exact HM4.out.bm
    · exact HM4.out.ba
    · exact hwx4
    · exact (HM4.out.log.lt k h).1
    · exact Nat.le_trans HK4.out.size h))
  have HM5 := hid hm
  have HX4_5 := hid hx
  clear hp hm ho hx hk HM4 HX4 HK4
  go_wp2_with fail
  refine (add_New 0 2 4 2 1 _ (by decide) 1013904226 (by decide)).mono ?_
  rintro e w6 ⟨x6, rfl, hx, hk, hb⟩
  have HX6 := hid (show Blk w6 x6 83 (acs 0 2 4 2 ⟨[0, 0, 0, 1, 4294967299, 0], [⟨1, (3 : Nat), 1, 0, false⟩, ⟨1, (4 : Nat), 0, 0, false⟩, ⟨3, (4 : Nat), 0, 4294967299, true⟩], 0, 1013904226, 0, 0, 0, 0⟩) from hb)
  have HM6 := hid (HM5.out.same hk)
  have HK6 : Hid (Keep0 w w6) := hid (Keep0.step HK5.out hk)
  have hneHX46 : x4 ≠ x6 := fun e => by have := HX4_5.out.lt; omega
  have HX4_6 := hid (hk.blk HX4_5.out (fun h => h))
  have hwx6 : w.heap.size ≤ x6 := Nat.le_trans HK5.out.size hx
  clear hb hk hx HM5 HK5 HX4_5
  go_wp2_with fail
  have hp := play_add (B := w.heap.size) (w := w6) (m := m) (a := a) (x := x6) (lv := lv5) (b := 0) (s := 2) (g := 4) (d := 2) ⟨[0, 0, 0, 1, 4294967299, 0], [⟨1, (3 : Nat), 1, 0, false⟩, ⟨1, (4 : Nat), 0, 0, false⟩, ⟨3, (4 : Nat), 0, 4294967299, true⟩], 0, 1013904226, 0, 0, 0, 0⟩ [] none 0 0 0 20 HM6.out HX6.out (AInv.start (by decide) (by decide) (by unfold p2; omega) (by omega) (by omega) (by unfold p2; decide) (by omega)) (by decide) (by decide) (by decide) (by intro p hp; cases hp) (fun h => by simp at h) (fun i h => by simp at h)
  rw [show (AS.mk ([0, 0, 0, 1, 4294967299, 0]) ([⟨1, (3 : Nat), 1, 0, false⟩, ⟨1, (4 : Nat), 0, 0, false⟩, ⟨3, (4 : Nat), 0, 4294967299, true⟩]) 0 1013904226 0 0 0 0).W.length = 6 from by kernel_rfl, head6_b] at hp
  refine hp.mono ?_
  rintro e w7 ⟨rfl, ⟨k7, lv7, hm, ho, hx, _⟩, hk⟩
  have HX4_7 := hid (adplay_keepx HX4_6.out HM6.out hneHX46 hk)
  have HK7 : Hid (Keep0 w w7) := hid (keep_far6 HK6.out hk (by
    rintro k ((rfl | rfl | rfl | h) | h)
    · exact HM6.out.bm
    · exact HM6.out.ba
    · exact hwx6
    · exact (HM6.out.log.lt k h).1
    · exact Nat.le_trans HK6.out.size h))
  have HM7 := hid hm
  have HX6_7 := hid hx
  clear hp hm ho hx hk HM6 HX6 HK6 HX4_6
  go_wp2_with fail
  refine Calls.mono (show Calls Try.prog 13 #[ptr m, i64 0, i64 2] w7 (Ret (i64 5) w7) from by have h := add_Sum 0 2 HM7.out (by decide) (by decide) (by decide); rw [show sumN ([5, 1, 1, 1, 8589934592, 0]) 0 2 = 5 from by kernel_rfl] at h; exact h) ?_
  rintro e w8 ⟨rfl, hk⟩
  have HM8 := hid (HM7.out.same hk)
  have HX4_8 := hid (hk.blk HX4_7.out (fun h => h))
  have HK8 : Hid (Keep0 w w8) := hid (Keep0.step HK7.out hk)
  clear hk HM7 HX4_7 HK7
  go_wp2_with fail
  refine Calls.mono (show Calls Try.prog 30 #[ptr m] w8 (fun e w' => e = .returned (i64 6) ∧ w8 = w') from mem_Len HM8.out) ?_
  rintro e w9 ⟨rfl, rfl⟩
  go_wp2_with fail
  have hwd := mem_Words HM8.out (by decide)
  rw [show ([5, 1, 1, 1, 8589934592, 0] : List Int).length = 6 from rfl] at hwd
  refine hwd.mono ?_
  rintro e w9 ⟨gb9, gc9, rfl, hi, hk, _⟩
  have c9 := hi.cell 0 (by decide)
  rw [show rd ([5, 1, 1, 1, 8589934592, 0]) 0 = 5 from rfl] at c9
  have z9 := hi.lt
  have HM9 := hid (HM8.out.same hk)
  have HX4_9 := hid (hk.blk HX4_8.out (fun h => h))
  have HK9 : Hid (Keep0 w w9) := hid (Keep0.step HK8.out hk)
  clear hwd hi hk HM8 HX4_8 HK8
  go_wp2_with fail
  have hwd := mem_Words HM9.out (by decide)
  rw [show ([5, 1, 1, 1, 8589934592, 0] : List Int).length = 6 from rfl] at hwd
  refine hwd.mono ?_
  rintro e w10 ⟨gb10, gc10, rfl, hi, hk, _⟩
  have c10 := hi.cell 1 (by decide)
  rw [show rd ([5, 1, 1, 1, 8589934592, 0]) 1 = 1 from rfl] at c10
  have z10 := hi.lt
  have HM10 := hid (HM9.out.same hk)
  have HX4_10 := hid (hk.blk HX4_9.out (fun h => h))
  have HK10 : Hid (Keep0 w w10) := hid (Keep0.step HK9.out hk)
  clear hwd hi hk HM9 HX4_9 HK9
  go_wp2_with fail
  have hwd := mem_Words HM10.out (by decide)
  rw [show ([5, 1, 1, 1, 8589934592, 0] : List Int).length = 6 from rfl] at hwd
  refine hwd.mono ?_
  rintro e w11 ⟨gb11, gc11, rfl, hi, hk, _⟩
  have c11 := hi.cell 2 (by decide)
  rw [show rd ([5, 1, 1, 1, 8589934592, 0]) 2 = 1 from rfl] at c11
  have z11 := hi.lt
  have HM11 := hid (HM10.out.same hk)
  have HX4_11 := hid (hk.blk HX4_10.out (fun h => h))
  have HK11 : Hid (Keep0 w w11) := hid (Keep0.step HK10.out hk)
  clear hwd hi hk HM10 HX4_10 HK10
  go_wp2_with fail
  refine (add_Ans x4 _).mono ?_
  rintro e w12 ⟨rfl, hk⟩
  have HK12 : Hid (Keep0 w w12) := hid (Keep0.step HK11.out hk)
  clear hk
  go_wp2_with fail
  go_ret
  exact ⟨rfl, HK12.out⟩
end Go.Proofs.Ytchlmaphaeoplaa
