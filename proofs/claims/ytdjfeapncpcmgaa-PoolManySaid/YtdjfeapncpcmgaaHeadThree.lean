/- breadlinelaw03.head. -/
import Derived.Test.YtdjfeapncpcmgaaAdder
import Derived.Test.YtdjfeapncpcmgaaLog
namespace Go.Proofs.Ytdjfeapncpcmgaa
open Go.RowKit
set_option linter.unusedVariables false
set_option linter.unusedSimpArgs false

theorem keep_far {S : Nat → Prop} {w w1 w2 : World} (h : Keep0 w w1) (hk : Keep S w1 w2) (hS : ∀ k, S k → w.heap.size ≤ k) : Keep0 w w2 :=
  (h.trans (S := fun _ => False) hk (fun k hkk hs => by have := hS k hs; omega))

theorem head_play (L5 : List Acc) : playF (addStp 0) addPk 3 [⟨2, 0, 40⟩] 9 0 ⟨[0, 5, 9], L5, 3, 0⟩ = (⟨[41, 5, 9], ((L5 ++ [⟨2, (0 : Nat), 1, 1, false⟩]) ++ [⟨2, (0 : Nat), 1, 2, false⟩]) ++ [⟨2, (0 : Nat), 1, 41, false⟩], 0, 41⟩, 3, true) := by simp [playF, addStp, addPk, pokeAll, rd, wrap64]

set_option maxHeartbeats 4000000 in
set_option maxRecDepth 100000 in
theorem law3_head (w : World) : Calls Try.prog 10 #[] w (Ret (.bool true) w) := by
  go_enter Try.func10, Try.ntmps10
  go_wp2_with fail
  refine (mem_New w.heap.size 3 _ (Nat.le_refl _) (by omega) (by omega)).mono ?_
  rintro e w1 ⟨m, a, lv1, rfl, hm, hk, hzm, hza⟩
  have HM1 := hid (show MemAt w.heap.size w1 m a lv1 [0, 0, 0] [] from hm)
  have HK1 : Hid (Keep0 w w1) := hid hk
  have hll : ∀ (w' : World) lv (W : List Int) L, MemAt w.heap.size w' m a lv W L → ∀ k, MF m a lv k → w.heap.size ≤ k := by
    rintro w' lv W L h k (rfl | rfl | h2)
    · exact hzm
    · exact hza
    · exact (h.log.lt k h2).1
  have HLL := hid hll
  clear hm hk hll
  have HW : Hid (wrap64 (rd [0, 7, 0] (Int.toNat 1) + -2) = 5) := hid (by simp [wrap64, rd])
  go_wp2_with fail
  refine Calls.mono (show Calls Try.prog 38 #[ptr m, i64 1, i64 5] w1 (fun e w' => e = .returned (.tuple #[]) ∧ MemAt w.heap.size w' m a lv1 [0, 5, 0] [] ∧ Keep (fun k => k = a) w1 w') from mem_Poke 1 5 HM1.out (by decide) (by decide)) ?_
  rintro e w2 ⟨rfl, hm, hk⟩
  have HM2 := hid hm
  have HK2 : Hid (Keep0 w w2) := hid (keep_far HK1.out hk (by rintro k rfl; exact hza))
  clear hm hk HM1 HK1
  go_wp2_with fail
  refine Calls.mono (show Calls Try.prog 40 #[ptr m, i64 1, i64 5, i64 7] w2 (fun e w' => e = .returned (.bool true) ∧ MemPost w.heap.size w2 m a lv1 [0, 7, 0] ([] ++ [⟨3, 1, 5, 7, true⟩]) w') from mem_Cas 1 5 7 HM2.out (by decide) (by decide) (by decide)) ?_
  rintro e w3 ⟨rfl, lv3, hm, hk, _⟩
  have HK3 : Hid (Keep0 w w3) := hid (keep_far HK2.out hk (HLL.out _ _ _ _ HM2.out))
  have HM3 := hid hm
  clear hm hk HM2 HK2
  go_wp2_with fail
  refine Calls.mono (show Calls Try.prog 40 #[ptr m, i64 1, i64 5, i64 8] w3 (fun e w' => e = .returned (.bool false) ∧ MemPost w.heap.size w3 m a lv3 [0, 7, 0] (([] ++ [⟨3, 1, 5, 7, true⟩]) ++ [⟨3, 1, 5, 8, false⟩]) w') from mem_Cas 1 5 8 HM3.out (by decide) (by decide) (by decide)) ?_
  rintro e w4 ⟨rfl, lv4, hm, hk, _⟩
  have HK4 : Hid (Keep0 w w4) := hid (keep_far HK3.out hk (HLL.out _ _ _ _ HM3.out))
  have HM4 := hid hm
  clear hm hk HM3 HK3
  go_wp2_with fail
  refine Calls.mono (show Calls Try.prog 41 #[ptr m, i64 1, i64 (-2)] w4 (fun e w' => e = .returned (i64 5) ∧ MemPost w.heap.size w4 m a lv4 [0, 5, 0] ((([] ++ [⟨3, 1, 5, 7, true⟩]) ++ [⟨3, 1, 5, 8, false⟩]) ++ [⟨2, 1, -2, 5, false⟩]) w') from (by have h := mem_Add 1 (-2) HM4.out (by decide) (by decide) (by decide); rw [HW.out] at h; exact h)) ?_
  rintro e w5 ⟨rfl, lv5, hm, hk, _⟩
  have HK5 : Hid (Keep0 w w5) := hid (keep_far HK4.out hk (HLL.out _ _ _ _ HM4.out))
  have HM5 := hid hm
  clear hm hk HM4 HK4
  go_wp2_with fail
  refine Calls.mono (show Calls Try.prog 42 #[ptr m, i64 2, i64 9] w5 (fun e w' => e = .returned (.tuple #[]) ∧ MemPost w.heap.size w5 m a lv5 [0, 5, 9] (((([] ++ [⟨3, 1, 5, 7, true⟩]) ++ [⟨3, 1, 5, 8, false⟩]) ++ [⟨2, 1, -2, 5, false⟩]) ++ [⟨4, 2, 9, 0, false⟩]) w') from mem_Store 2 9 HM5.out (by decide) (by decide) (by decide)) ?_
  rintro e w6 ⟨rfl, lv6, hm, hk, _⟩
  have HK6 : Hid (Keep0 w w6) := hid (keep_far HK5.out hk (HLL.out _ _ _ _ HM5.out))
  have HM6 := hid hm
  clear hm hk HM5 HK5
  go_wp2_with fail
  refine Calls.mono (show Calls Try.prog 43 #[ptr m, i64 2] w6 (fun e w' => e = .returned (i64 9) ∧ MemPost w.heap.size w6 m a lv6 [0, 5, 9] ((((([] ++ [⟨3, 1, 5, 7, true⟩]) ++ [⟨3, 1, 5, 8, false⟩]) ++ [⟨2, 1, -2, 5, false⟩]) ++ [⟨4, 2, 9, 0, false⟩]) ++ [⟨1, 2, 9, 0, false⟩]) w') from mem_Load 2 HM6.out (by decide) (by decide) (by decide)) ?_
  rintro e w7 ⟨rfl, lv7, hm, hk, _⟩
  have HK7 : Hid (Keep0 w w7) := hid (keep_far HK6.out hk (HLL.out _ _ _ _ HM6.out))
  have HM7 := hid hm
  clear hm hk HM6 HK6
  generalize hL5 : (((((([] ++ [⟨3, 1, 5, 7, true⟩]) ++ [⟨3, 1, 5, 8, false⟩]) ++ [⟨2, 1, -2, 5, false⟩]) ++ [⟨4, 2, 9, 0, false⟩]) ++ [⟨1, 2, 9, 0, false⟩]) : List Acc) = L5 at *
  have hL5' : L5.length = 5 := by rw [← hL5]; rfl
  clear hL5
  go_wp2_with fail
  have HX : Hid (Blk (w7.alloc (.cells #[i64 0, i64 3, i64 0] 88)) w7.heap.size 88 [i64 (0 : Nat), i64 3, i64 0]) := hid (Blk.made rfl rfl)
  have HP : Hid (Blk ((w7.alloc (.cells #[i64 0, i64 3, i64 0] 88)).alloc (.cells #[i64 2, i64 0, i64 40] 80)) (w7.heap.size + 1) 80 [i64 2, i64 0, i64 40]) := hid (Blk.made (by simp) rfl)
  have HX8 := hid (HX.out.alloc (.cells #[i64 2, i64 0, i64 40] 80))
  have HK8 : Hid (Keep0 w ((w7.alloc (.cells #[i64 0, i64 3, i64 0] 88)).alloc (.cells #[i64 2, i64 0, i64 40] 80))) := hid ((HK7.out.alloc _).alloc _)
  have HM8 := hid (HM7.out.same (((Keep.refl _ w7).alloc (.cells #[i64 0, i64 3, i64 0] 88)).alloc (.cells #[i64 2, i64 0, i64 40] 80)))
  clear HX
  generalize (w7.alloc (.cells #[i64 0, i64 3, i64 0] 88)).alloc (.cells #[i64 2, i64 0, i64 40] 80) = w8 at *
  have hplay := head_play L5
  have hp := play_adder (B := w.heap.size) (w := w8) (m := m) (a := a) (x := w7.heap.size) (lv := lv7) 0 ⟨[0, 5, 9], L5, 3, 0⟩ [⟨2, 0, 40⟩] (some ⟨w7.heap.size + 1, 0, none⟩) (w7.heap.size + 1) 0 1 9 HM8.out HX8.out (by simp) (by simp) (by simp) (by simp only; omega) (by decide) (by decide) (fun _ => ⟨rfl, HP.out.lt, HP.out.ne HM8.out.mem (by decide), HP.out.ne HM8.out.words (by decide), HP.out.ne HX8.out (by decide), fun e => ownBlock_ne HM8.out.log HP.out (by decide) e.symm⟩) (by
    intro i hi
    obtain rfl : i = 0 := by simpa using hi
    exact ⟨HP.out.cell 0, HP.out.cell 1, HP.out.cell 2⟩)
  rw [show (AS.mk [0, 5, 9] L5 3 0).W.length = 3 from rfl, hplay] at hp
  refine hp.mono ?_
  rintro e w9 ⟨rfl, ⟨n9, lv9, hm9, _, hx9, _⟩, hk9⟩
  have HK9 : Hid (Keep0 w w9) := hid (keep_far HK8.out hk9 (by
    rintro k ((rfl | rfl | rfl | h) | h)
    · exact hzm
    · exact hza
    · exact HK7.out.size
    · exact (HM7.out.log.lt k h).1
    · exact Nat.le_trans HK8.out.size h))
  have HM9 := hid hm9
  have HX9 := hid hx9
  have qx9 := hx9.k3
  clear hp hplay hm9 hx9 hk9 HP HX8 HM8 HK8 HM7
  have hlen9 : (((L5 ++ [(⟨2, (0 : Nat), 1, 1, false⟩ : Acc)]) ++ [(⟨2, (0 : Nat), 1, 2, false⟩ : Acc)]) ++ [(⟨2, (0 : Nat), 1, 41, false⟩ : Acc)]).length = 8 := by simp [hL5']
  generalize ((L5 ++ [(⟨2, (0 : Nat), 1, 1, false⟩ : Acc)]) ++ [(⟨2, (0 : Nat), 1, 2, false⟩ : Acc)]) ++ [(⟨2, (0 : Nat), 1, 41, false⟩ : Acc)] = L9 at *
  go_wp2_with fail
  refine Calls.mono (show Calls Try.prog 44 #[ptr m] w9 (fun e w' => e = .returned (i64 3) ∧ w9 = w') from mem_Len HM9.out) ?_
  rintro e w10 ⟨rfl, rfl⟩
  go_wp2_with fail
  refine (mem_Words HM9.out (by simp)).mono ?_
  rintro e w10 ⟨g10, c10, rfl, hi, hk, _⟩
  have HI := hid hi
  have HM10 := hid (HM9.out.same hk)
  have HK10 : Hid (Keep0 w w10) := hid (Keep0.step HK9.out hk)
  clear hi hk
  go_wp2_with fail
  have hb : IntsAt (w10.alloc (.cells #[i64 41, i64 5, i64 9] 3)) (some ⟨w10.heap.size, 0, none⟩) [41, 5, 9] := Or.inr ⟨_, 0, rfl, fun i hi => by
    rw [Nat.zero_add, (Blk.made (w := w10) (t := 3) (cs := [i64 41, i64 5, i64 9]) rfl rfl).cell i]
    exact ints_get [41, 5, 9] i hi⟩
  refine (same_ints _ _ [41, 5, 9] _ _ _ (HI.out.alloc _).at_ hb (by simp)).mono ?_
  rintro e w11 ⟨rfl, hk⟩
  have HK11 : Hid (Keep0 w w11) := hid (Keep0.step (HK10.out.alloc _) hk)
  have HM11 := hid ((HM10.out.same ((Keep.refl _ w10).alloc _)).same hk)
  clear hb hk
  go_wp2_with fail
  refine (mem_Log HM11.out (by omega)).mono ?_
  rintro e w12 ⟨A12, c12, rfl, _, hk⟩
  have HK12 : Hid (Keep0 w w12) := hid (Keep0.step HK11.out hk)
  clear hk
  rw [hlen9]
  go_wp2_with fail
  go_ret
  exact ⟨rfl, HK12.out⟩
end Go.Proofs.Ytdjfeapncpcmgaa
