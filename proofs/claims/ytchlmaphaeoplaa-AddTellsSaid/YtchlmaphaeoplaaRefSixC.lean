/- breadlineref06: Step, stages 5 to 9. -/
import Derived.Test.YtchlmaphaeoplaaRefSix
namespace Go.Proofs.Ytchlmaphaeoplaa
open Go.RowKit
set_option linter.unusedVariables false
set_option linter.unusedSimpArgs false
set_option maxRecDepth 100000
section
variable {B : Nat} {w : World} {m y : Nat} {A : Option Addr} {ca : Nat} {lv : Value} {W : List Int} {L : List Acc} {b s I : Nat} {g d x0 l6 ww vv : Int}
set_option maxHeartbeats 4000000 in
theorem r6_step5 (hm : RefAt B w m A ca lv W L) (hy : Blk w y 86 [i64 (b : Int), i64 (s : Int), i64 g, i64 d, i64 (x0), i64 (5), i64 (l6), i64 ((I : Nat) : Int), i64 (ww), i64 (vv)]) (hi : AInv b s g d ⟨W, L, 5, x0, l6, b + 4 + I, ww, vv⟩) (hb0 : b ≤ 1000) (hIb : I ≤ 2000) (hL : L.length ≤ 1000000000) :
    Calls Try.prog 39 #[ptr y, ptr m] w (R6P B w m A lv y b s g d (aNext b s g d ⟨W, L, 5, x0, l6, b + 4 + I, ww, vv⟩)) := by
  obtain ⟨ln, wl, s1, g1, d1, lw, xb, nx, lb, pb, vb, gr⟩ := hi
  simp only at *
  have hs8 : 1 ≤ s ∧ s ≤ 8 := by unfold p2 at s1; omega
  have hW : W.length ≤ 1000000 := by omega
  have HY0 : Hid (Blk w y 86 [i64 (b : Int), i64 (s : Int), i64 g, i64 d, i64 (x0), i64 (5), i64 (l6), i64 ((I : Nat) : Int), i64 (ww), i64 (vv)]) := hid hy
  have qy0 := HY0.out.k10
  have HM0 := hid hm
  have HK0 : Hid (Keep (fun c => (c = m ∨ lv.ownBlock = some c) ∨ c = y) w w) := hid (Keep.refl _ _)
  have HA0 := hid (fun (c : Nat) (h : (Value.slice A 0 0).ownBlock = some c) => (Or.inl h : (Value.slice A 0 0).ownBlock = some c ∨ w.heap.size ≤ c))
  have HL0 := hid (fun (c : Nat) (h : lv.ownBlock = some c) => (Or.inl h : lv.ownBlock = some c ∨ w.heap.size ≤ c))
  clear hy hm
  have e : aNext b s g d ⟨W, L, 5, x0, l6, b + 4 + I, ww, vv⟩ = ⟨W.set b (wrap64 (rd W b + vv)), L ++ [⟨2, b, vv, wrap64 (rd W b + vv), false⟩], 6, x0, l6, b + 4 + I, ww, vv⟩ := rfl
  rw [e]
  clear e
  have y1 : IntKind.i64.wrap ((b : Int) + 4) = (b : Int) + 4 := IntWalk.i64_in _ (by omega)
  have y2 : IntKind.i64.wrap ((b : Int) + 4 + (I : Int)) = (b : Int) + 4 + (I : Int) := IntWalk.i64_in _ (by omega)
  go_enter Try.func39, Try.ntmps39
  go_wp2_with fail
  go_quiet (fail)
  obtain ⟨w1, hw1⟩ : ∃ w', w' = w.drewN nq := ⟨_, rfl⟩
  rw [← hw1]
  have HY1 := hid (show Blk w1 y 86 [i64 (b : Int), i64 (s : Int), i64 g, i64 d, i64 (x0), i64 (5), i64 (l6), i64 ((I : Nat) : Int), i64 (ww), i64 (vv)] from by rw [hw1]; exact HY0.out.drewN nq)
  have HM1 := hid (RefAt.keep HM0.out (show Keep (fun c => c = y) w w1 from by rw [hw1]; exact (Keep.refl _ _).drewN nq) (fun c h => r6_far2 HM0.out HY0.out c h))
  have HK1 : Hid (Keep (fun c => (c = m ∨ lv.ownBlock = some c) ∨ c = y) w w1) := hid (HK0.out.trans (show Keep (fun c => c = y) w w1 from by rw [hw1]; exact (Keep.refl _ _).drewN nq) (fun c _ h => Or.inr h))
  have HA1 := HA0
  have HL1 := HL0
  clear qy0 HY0 HM0 HK0 HA0 HL0
  have qy1 := HY1.out.k10
  clear hw1
  clear y1 y2
  go_wp2_with fail
  apply wp_region_text (WI := WEnd 9 (fun wx => Blk wx y 86 [i64 (b : Int), i64 (s : Int), i64 g, i64 d, i64 (x0), i64 (5), i64 (l6), i64 ((I : Nat) : Int), i64 (ww), i64 (vv)] ∧ RefAt B wx m A ca lv W L ∧ Keep0 w1 wx) (fun wx => Blk wx y 86 [i64 (b : Int), i64 (s : Int), i64 g, i64 d, i64 (x0), i64 (5), i64 (l6), i64 ((I : Nat) : Int), i64 (ww), i64 (vv)] ∧ RefPost B w1 m A lv (W.set b (wrap64 (rd W b + vv))) (L ++ [⟨2, b, vv, wrap64 (rd W b + vv), false⟩]) wx)) (by kernel_rfl) (by kernel_rfl)
  case hob =>
    apply Oblig.cons
    case h =>
      intro S w1 hwi hSi hd hcl
      apply StepOk.intro
      intro K hK
      go_simp
      apply hK
      · rfl
      · conv => (lhs; whnf)
      · exact hwi.fixed (by decide)
    simp only [put_lit, put_none]
    try dsimp only [List.set_cons_succ, List.set_cons_zero]
    apply Oblig.cons
    case h =>
      intro S w1 hwi hSi hd hcl
      apply StepOk.intro
      intro K hK
      go_simp
      apply hK
      · rfl
      · conv => (lhs; whnf)
      · exact hwi.fixed (by decide)
    simp only [put_lit, put_none]
    try dsimp only [List.set_cons_succ, List.set_cons_zero]
    apply Oblig.cons
    case h =>
      intro S w1 hwi hSi hd hcl
      apply StepOk.intro
      intro K hK
      go_simp
      apply hK
      · rfl
      · conv => (lhs; whnf)
      · exact hwi.fixed (by decide)
    simp only [put_lit, put_none]
    try dsimp only [List.set_cons_succ, List.set_cons_zero]
    apply Oblig.cons
    case h =>
      intro S w1 hwi hSi hd hcl
      apply StepOk.intro
      intro K hK
      go_simp
      apply hK
      · rfl
      · conv => (lhs; whnf)
      · exact hwi.fixed (by decide)
    simp only [put_lit, put_none]
    try dsimp only [List.set_cons_succ, List.set_cons_zero]
    apply Oblig.cons
    case h =>
      intro S w1 hwi hSi hd hcl
      apply StepOk.intro
      intro K hK
      have hlast : S 9 = false := by
        cases h : S 9 with
        | false => rfl
        | true => exact absurd ((hcl 9 _ rfl h) ⟨4, .data⟩ (by simp) rfl) (by rw [hSi]; decide)
      have qyq := (hwi.1 hlast).1.k10
      go_simp
      apply hK
      · rfl
      · conv => (lhs; whnf)
      · exact hwi.fixed (by decide)
    simp only [put_lit, put_none]
    try dsimp only [List.set_cons_succ, List.set_cons_zero]
    apply Oblig.cons
    case h =>
      intro S w1 hwi hSi hd hcl
      apply StepOk.intro
      intro K hK
      go_simp
      apply hK
      · rfl
      · conv => (lhs; whnf)
      · exact hwi.fixed (by decide)
    simp only [put_lit, put_none]
    try dsimp only [List.set_cons_succ, List.set_cons_zero]
    apply Oblig.cons
    case h =>
      intro S w1 hwi hSi hd hcl
      apply StepOk.intro
      intro K hK
      go_simp
      apply hK
      · rfl
      · conv => (lhs; whnf)
      · exact hwi.fixed (by decide)
    simp only [put_lit, put_none]
    try dsimp only [List.set_cons_succ, List.set_cons_zero]
    apply Oblig.cons
    case h =>
      intro S w1 hwi hSi hd hcl
      apply StepOk.intro
      intro K hK
      go_simp
      apply hK
      · rfl
      · conv => (lhs; whnf)
      · exact hwi.fixed (by decide)
    simp only [put_lit, put_none]
    try dsimp only [List.set_cons_succ, List.set_cons_zero]
    apply Oblig.cons
    case h =>
      intro S w1 hwi hSi hd hcl
      apply StepOk.intro
      intro K hK
      have hlast : S 9 = false := by
        cases h : S 9 with
        | false => rfl
        | true => exact absurd ((hcl 9 _ rfl h) ⟨8, .data⟩ (by simp) rfl) (by rw [hSi]; decide)
      have qyq := (hwi.1 hlast).1.k10
      go_simp
      apply hK
      · rfl
      · conv => (lhs; whnf)
      · exact hwi.fixed (by decide)
    simp only [put_lit, put_none]
    try dsimp only [List.set_cons_succ, List.set_cons_zero]
    apply Oblig.cons
    case h =>
      intro S w1 hwi hSi hd hcl
      apply StepOk.intro
      intro K hK
      have HMq := hid (hwi.1 hSi).2.1
      have HYq := hid (hwi.1 hSi).1
      have hk0 := (hwi.1 hSi).2.2
      go_simp
      refine (r6_AddJ (b : Int) b rfl vv HMq.out (by omega) hW hL).mono ?_
      rintro e w2 ⟨rfl, hp⟩
      obtain ⟨Aq, cq, lvq, hq1, hq2, hq3⟩ := id hp
      have hblk := hq2.blk HYq.out (r6_far HMq.out HYq.out)
      apply hK
      · rfl
      · conv => (lhs; whnf)
      · exact WEnd.done ⟨hblk, hp.before hk0⟩
    simp only [put_lit, put_none]
    try dsimp only [List.set_cons_succ, List.set_cons_zero]
    exact Oblig.nil
  case h0 =>
    exact ⟨fun _ => ⟨HY1.out.drew, HM1.out.keep ((Keep.refl (fun _ => False) _).drew) (fun _ _ h => h), (Keep.refl _ _).drew⟩, (fun h => by cases h)⟩
  case hend =>
    intro S wx hwi hall
    obtain ⟨hyq, A3, c3, lv3, hm, hk, ha, hl⟩ := hwi.2 (hall 9 (by decide))
    obtain ⟨w2, hw2⟩ : ∃ w', w' = wx := ⟨_, rfl⟩
    rw [← hw2] at hyq hm hk
    rw [← hw2]
    have HY2 := hid (show Blk w2 y 86 [i64 (b : Int), i64 (s : Int), i64 g, i64 d, i64 (x0), i64 (5), i64 (l6), i64 ((I : Nat) : Int), i64 (ww), i64 (vv)] from hyq)
    have HM2 := hid hm
    have HK2 : Hid (Keep (fun c => (c = m ∨ lv.ownBlock = some c) ∨ c = y) w w2) := hid (HK1.out.trans hk (fun _ _ h => Or.inl h))
    have HA2 := hid (fun c h => (ha c h).imp id (fun h => Nat.le_trans HK1.out.size h))
    have HL2 := hid (fun c h => (hl c h).imp id (fun h => Nat.le_trans HK1.out.size h))
    clear hm hk ha hl hyq qy1 HY1 HM1 HK1 HA1 HL1 hw2 hwi hall
    have qy2 := HY2.out.k10
    go_wp2_with fail
    go_ret
    exact r6_end rfl (HM2.out.keep (((Keep.refl (fun c => c = y) w2)).set ⟨y, 5, none⟩ _ (fun _ => rfl)) (fun c h => r6_far2 HM2.out HY2.out c h)) (HK2.out.trans (((Keep.refl (fun c => c = y) w2)).set ⟨y, 5, none⟩ _ (fun _ => rfl)) (fun c _ h => Or.inr h)) HA2.out HL2.out ((HY2.out).set 5 _) (by simp only [rcs6, Nat.add_sub_cancel_left]; rfl)
set_option maxHeartbeats 4000000 in
theorem r6_step6 (hm : RefAt B w m A ca lv W L) (hy : Blk w y 86 [i64 (b : Int), i64 (s : Int), i64 g, i64 d, i64 (x0), i64 (6), i64 (l6), i64 ((I : Nat) : Int), i64 (ww), i64 (vv)]) (hi : AInv b s g d ⟨W, L, 6, x0, l6, b + 4 + I, ww, vv⟩) (hb0 : b ≤ 1000) (hIb : I ≤ 2000) (hL : L.length ≤ 1000000000) :
    Calls Try.prog 39 #[ptr y, ptr m] w (R6P B w m A lv y b s g d (aNext b s g d ⟨W, L, 6, x0, l6, b + 4 + I, ww, vv⟩)) := by
  obtain ⟨ln, wl, s1, g1, d1, lw, xb, nx, lb, pb, vb, gr⟩ := hi
  simp only at *
  have hs8 : 1 ≤ s ∧ s ≤ 8 := by unfold p2 at s1; omega
  have hW : W.length ≤ 1000000 := by omega
  have HY0 : Hid (Blk w y 86 [i64 (b : Int), i64 (s : Int), i64 g, i64 d, i64 (x0), i64 (6), i64 (l6), i64 ((I : Nat) : Int), i64 (ww), i64 (vv)]) := hid hy
  have qy0 := HY0.out.k10
  have HM0 := hid hm
  have HK0 : Hid (Keep (fun c => (c = m ∨ lv.ownBlock = some c) ∨ c = y) w w) := hid (Keep.refl _ _)
  have HA0 := hid (fun (c : Nat) (h : (Value.slice A 0 0).ownBlock = some c) => (Or.inl h : (Value.slice A 0 0).ownBlock = some c ∨ w.heap.size ≤ c))
  have HL0 := hid (fun (c : Nat) (h : lv.ownBlock = some c) => (Or.inl h : lv.ownBlock = some c ∨ w.heap.size ≤ c))
  clear hy hm
  have e : aNext b s g d ⟨W, L, 6, x0, l6, b + 4 + I, ww, vv⟩ = ⟨W.set (b + 2) (wrap64 (rd W (b + 2) + 1)), L ++ [⟨2, (b + 2 : Nat), 1, wrap64 (rd W (b + 2) + 1), false⟩], 9, x0, l6, b + 4 + I, ww, vv⟩ := rfl
  rw [e]
  clear e
  have y1 : IntKind.i64.wrap ((b : Int) + 4) = (b : Int) + 4 := IntWalk.i64_in _ (by omega)
  have y2 : IntKind.i64.wrap ((b : Int) + 4 + (I : Int)) = (b : Int) + 4 + (I : Int) := IntWalk.i64_in _ (by omega)
  go_enter Try.func39, Try.ntmps39
  go_wp2_with fail
  go_quiet (fail)
  obtain ⟨w1, hw1⟩ : ∃ w', w' = w.drewN nq := ⟨_, rfl⟩
  rw [← hw1]
  have HY1 := hid (show Blk w1 y 86 [i64 (b : Int), i64 (s : Int), i64 g, i64 d, i64 (x0), i64 (6), i64 (l6), i64 ((I : Nat) : Int), i64 (ww), i64 (vv)] from by rw [hw1]; exact HY0.out.drewN nq)
  have HM1 := hid (RefAt.keep HM0.out (show Keep (fun c => c = y) w w1 from by rw [hw1]; exact (Keep.refl _ _).drewN nq) (fun c h => r6_far2 HM0.out HY0.out c h))
  have HK1 : Hid (Keep (fun c => (c = m ∨ lv.ownBlock = some c) ∨ c = y) w w1) := hid (HK0.out.trans (show Keep (fun c => c = y) w w1 from by rw [hw1]; exact (Keep.refl _ _).drewN nq) (fun c _ h => Or.inr h))
  have HA1 := HA0
  have HL1 := HL0
  clear qy0 HY0 HM0 HK0 HA0 HL0
  have qy1 := HY1.out.k10
  clear hw1
  clear y1 y2
  have y8 : IntKind.i64.wrap ((b : Int) + 2) = (b : Int) + 2 := IntWalk.i64_in _ (by omega)
  go_wp2_with fail
  refine (r6_AddJ ((b : Int) + 2) (b + 2) (by omega) 1 HM1.out (by omega) hW hL).mono ?_
  rintro e w2 ⟨rfl, A3, c3, lv3, hm, hk, ha, hl⟩
  have HY2 := hid (show Blk w2 y 86 [i64 (b : Int), i64 (s : Int), i64 g, i64 d, i64 (x0), i64 (6), i64 (l6), i64 ((I : Nat) : Int), i64 (ww), i64 (vv)] from hk.blk HY1.out (r6_far HM1.out HY1.out))
  have HM2 := hid hm
  have HK2 : Hid (Keep (fun c => (c = m ∨ lv.ownBlock = some c) ∨ c = y) w w2) := hid (HK1.out.trans hk (fun _ _ h => Or.inl h))
  have HA2 := hid (fun c h => (ha c h).imp id (fun h => Nat.le_trans HK1.out.size h))
  have HL2 := hid (fun c h => (hl c h).imp id (fun h => Nat.le_trans HK1.out.size h))
  clear hm hk ha hl qy1 HY1 HM1 HK1 HA1 HL1
  have qy2 := HY2.out.k10
  go_wp2_with fail
  go_ret
  exact r6_end rfl (HM2.out.keep (((Keep.refl (fun c => c = y) w2)).set ⟨y, 5, none⟩ _ (fun _ => rfl)) (fun c h => r6_far2 HM2.out HY2.out c h)) (HK2.out.trans (((Keep.refl (fun c => c = y) w2)).set ⟨y, 5, none⟩ _ (fun _ => rfl)) (fun c _ h => Or.inr h)) HA2.out HL2.out ((HY2.out).set 5 _) (by simp only [rcs6, Nat.add_sub_cancel_left]; rfl)
set_option maxHeartbeats 4000000 in
theorem r6_step7 (hm : RefAt B w m A ca lv W L) (hy : Blk w y 86 [i64 (b : Int), i64 (s : Int), i64 g, i64 d, i64 (x0), i64 (7), i64 (l6), i64 ((I : Nat) : Int), i64 (ww), i64 (vv)]) (hi : AInv b s g d ⟨W, L, 7, x0, l6, b + 4 + I, ww, vv⟩) (hb0 : b ≤ 1000) (hIb : I ≤ 2000) (hL : L.length ≤ 1000000000) :
    Calls Try.prog 39 #[ptr y, ptr m] w (R6P B w m A lv y b s g d (aNext b s g d ⟨W, L, 7, x0, l6, b + 4 + I, ww, vv⟩)) := by
  obtain ⟨ln, wl, s1, g1, d1, lw, xb, nx, lb, pb, vb, gr⟩ := hi
  simp only at *
  have hs8 : 1 ≤ s ∧ s ≤ 8 := by unfold p2 at s1; omega
  have hW : W.length ≤ 1000000 := by omega
  have HY0 : Hid (Blk w y 86 [i64 (b : Int), i64 (s : Int), i64 g, i64 d, i64 (x0), i64 (7), i64 (l6), i64 ((I : Nat) : Int), i64 (ww), i64 (vv)]) := hid hy
  have qy0 := HY0.out.k10
  have HM0 := hid hm
  have HK0 : Hid (Keep (fun c => (c = m ∨ lv.ownBlock = some c) ∨ c = y) w w) := hid (Keep.refl _ _)
  have HA0 := hid (fun (c : Nat) (h : (Value.slice A 0 0).ownBlock = some c) => (Or.inl h : (Value.slice A 0 0).ownBlock = some c ∨ w.heap.size ≤ c))
  have HL0 := hid (fun (c : Nat) (h : lv.ownBlock = some c) => (Or.inl h : lv.ownBlock = some c ∨ w.heap.size ≤ c))
  clear hy hm
  by_cases hc : l6 < (s : Int)
  · have e : aNext b s g d ⟨W, L, 7, x0, l6, b + 4 + I, ww, vv⟩ = ⟨W.set (b + 2) (wrap64 (rd W (b + 2) + 1)), L ++ [⟨2, (b + 2 : Nat), 1, wrap64 (rd W (b + 2) + 1), false⟩], 8, x0, l6, b + 4 + I, ww, vv⟩ := by simp only [aNext, aMiss]; rw [if_pos (by omega)]
    rw [e]
    clear e
    have E1 := hid (show m6x s l6 x0 = x0 from if_pos (by omega))
    have E2 := hid (show m6a s l6 = 8 from if_pos (by omega))
    have y1 : IntKind.i64.wrap ((b : Int) + 4) = (b : Int) + 4 := IntWalk.i64_in _ (by omega)
    have y2 : IntKind.i64.wrap ((b : Int) + 4 + (I : Int)) = (b : Int) + 4 + (I : Int) := IntWalk.i64_in _ (by omega)
    go_enter Try.func39, Try.ntmps39
    go_wp2_with fail
    go_quiet (fail)
    obtain ⟨w1, hw1⟩ : ∃ w', w' = w.drewN nq := ⟨_, rfl⟩
    rw [← hw1]
    have HY1 := hid (show Blk w1 y 86 [i64 (b : Int), i64 (s : Int), i64 g, i64 d, i64 (x0), i64 (7), i64 (l6), i64 ((I : Nat) : Int), i64 (ww), i64 (vv)] from by rw [hw1]; exact HY0.out.drewN nq)
    have HM1 := hid (RefAt.keep HM0.out (show Keep (fun c => c = y) w w1 from by rw [hw1]; exact (Keep.refl _ _).drewN nq) (fun c h => r6_far2 HM0.out HY0.out c h))
    have HK1 : Hid (Keep (fun c => (c = m ∨ lv.ownBlock = some c) ∨ c = y) w w1) := hid (HK0.out.trans (show Keep (fun c => c = y) w w1 from by rw [hw1]; exact (Keep.refl _ _).drewN nq) (fun c _ h => Or.inr h))
    have HA1 := HA0
    have HL1 := HL0
    clear qy0 HY0 HM0 HK0 HA0 HL0
    have qy1 := HY1.out.k10
    clear hw1
    clear y1 y2
    have y8 : IntKind.i64.wrap ((b : Int) + 2) = (b : Int) + 2 := IntWalk.i64_in _ (by omega)
    go_wp2_with fail
    refine (r6_AddJ ((b : Int) + 2) (b + 2) (by omega) 1 HM1.out (by omega) hW hL).mono ?_
    rintro e w2 ⟨rfl, A3, c3, lv3, hm, hk, ha, hl⟩
    have HY2 := hid (show Blk w2 y 86 [i64 (b : Int), i64 (s : Int), i64 g, i64 d, i64 (x0), i64 (7), i64 (l6), i64 ((I : Nat) : Int), i64 (ww), i64 (vv)] from hk.blk HY1.out (r6_far HM1.out HY1.out))
    have HM2 := hid hm
    have HK2 : Hid (Keep (fun c => (c = m ∨ lv.ownBlock = some c) ∨ c = y) w w2) := hid (HK1.out.trans hk (fun _ _ h => Or.inl h))
    have HA2 := hid (fun c h => (ha c h).imp id (fun h => Nat.le_trans HK1.out.size h))
    have HL2 := hid (fun c h => (hl c h).imp id (fun h => Nat.le_trans HK1.out.size h))
    clear hm hk ha hl qy1 HY1 HM1 HK1 HA1 HL1
    have qy2 := HY2.out.k10
    go_wp2_with fail
    refine (show Calls Try.prog 49 #[ptr y] w2 (fun e w' => e = .returned (.tuple #[]) ∧ Blk w' y 86 [i64 (b : Int), i64 (s : Int), i64 g, i64 d, i64 (x0), i64 (8), i64 (l6), i64 ((I : Nat) : Int), i64 (ww), i64 (vv)] ∧ Keep (fun c => c = y) w2 w') from by have h := r6_miss HY2.out xb; rw [E1.out, E2.out] at h; exact h).mono ?_
    rintro e w3 ⟨rfl, hyq, hkq⟩
    have HY3 := hid (show Blk w3 y 86 [i64 (b : Int), i64 (s : Int), i64 g, i64 d, i64 (x0), i64 (8), i64 (l6), i64 ((I : Nat) : Int), i64 (ww), i64 (vv)] from hyq)
    have HM3 := hid (RefAt.keep HM2.out (show Keep (fun c => c = y) w2 w3 from hkq) (fun c h => r6_far2 HM2.out HY2.out c h))
    have HK3 : Hid (Keep (fun c => (c = m ∨ lv.ownBlock = some c) ∨ c = y) w w3) := hid (HK2.out.trans (show Keep (fun c => c = y) w2 w3 from hkq) (fun c _ h => Or.inr h))
    have HA3 := HA2
    have HL3 := HL2
    clear qy2 HY2 HM2 HK2 HA2 HL2
    have qy3 := HY3.out.k10
    clear hyq hkq
    go_wp2_with fail
    go_ret
    exact r6_end rfl (HM3.out.keep ((Keep.refl (fun c => c = y) w3)) (fun c h => r6_far2 HM3.out HY3.out c h)) (HK3.out.trans ((Keep.refl (fun c => c = y) w3)) (fun c _ h => Or.inr h)) HA3.out HL3.out (HY3.out) (by simp only [rcs6, Nat.add_sub_cancel_left]; rfl)
  · have e : aNext b s g d ⟨W, L, 7, x0, l6, b + 4 + I, ww, vv⟩ = ⟨W.set (b + 2) (wrap64 (rd W (b + 2) + 1)), L ++ [⟨2, (b + 2 : Nat), 1, wrap64 (rd W (b + 2) + 1), false⟩], 0, dNext x0, l6, b + 4 + I, ww, vv⟩ := by simp only [aNext, aMiss]; rw [if_neg (by omega)]
    rw [e]
    clear e
    have E1 := hid (show m6x s l6 x0 = dNext x0 from if_neg (by omega))
    have E2 := hid (show m6a s l6 = 0 from if_neg (by omega))
    have y1 : IntKind.i64.wrap ((b : Int) + 4) = (b : Int) + 4 := IntWalk.i64_in _ (by omega)
    have y2 : IntKind.i64.wrap ((b : Int) + 4 + (I : Int)) = (b : Int) + 4 + (I : Int) := IntWalk.i64_in _ (by omega)
    go_enter Try.func39, Try.ntmps39
    go_wp2_with fail
    go_quiet (fail)
    obtain ⟨w1, hw1⟩ : ∃ w', w' = w.drewN nq := ⟨_, rfl⟩
    rw [← hw1]
    have HY1 := hid (show Blk w1 y 86 [i64 (b : Int), i64 (s : Int), i64 g, i64 d, i64 (x0), i64 (7), i64 (l6), i64 ((I : Nat) : Int), i64 (ww), i64 (vv)] from by rw [hw1]; exact HY0.out.drewN nq)
    have HM1 := hid (RefAt.keep HM0.out (show Keep (fun c => c = y) w w1 from by rw [hw1]; exact (Keep.refl _ _).drewN nq) (fun c h => r6_far2 HM0.out HY0.out c h))
    have HK1 : Hid (Keep (fun c => (c = m ∨ lv.ownBlock = some c) ∨ c = y) w w1) := hid (HK0.out.trans (show Keep (fun c => c = y) w w1 from by rw [hw1]; exact (Keep.refl _ _).drewN nq) (fun c _ h => Or.inr h))
    have HA1 := HA0
    have HL1 := HL0
    clear qy0 HY0 HM0 HK0 HA0 HL0
    have qy1 := HY1.out.k10
    clear hw1
    clear y1 y2
    have y8 : IntKind.i64.wrap ((b : Int) + 2) = (b : Int) + 2 := IntWalk.i64_in _ (by omega)
    go_wp2_with fail
    refine (r6_AddJ ((b : Int) + 2) (b + 2) (by omega) 1 HM1.out (by omega) hW hL).mono ?_
    rintro e w2 ⟨rfl, A3, c3, lv3, hm, hk, ha, hl⟩
    have HY2 := hid (show Blk w2 y 86 [i64 (b : Int), i64 (s : Int), i64 g, i64 d, i64 (x0), i64 (7), i64 (l6), i64 ((I : Nat) : Int), i64 (ww), i64 (vv)] from hk.blk HY1.out (r6_far HM1.out HY1.out))
    have HM2 := hid hm
    have HK2 : Hid (Keep (fun c => (c = m ∨ lv.ownBlock = some c) ∨ c = y) w w2) := hid (HK1.out.trans hk (fun _ _ h => Or.inl h))
    have HA2 := hid (fun c h => (ha c h).imp id (fun h => Nat.le_trans HK1.out.size h))
    have HL2 := hid (fun c h => (hl c h).imp id (fun h => Nat.le_trans HK1.out.size h))
    clear hm hk ha hl qy1 HY1 HM1 HK1 HA1 HL1
    have qy2 := HY2.out.k10
    go_wp2_with fail
    refine (show Calls Try.prog 49 #[ptr y] w2 (fun e w' => e = .returned (.tuple #[]) ∧ Blk w' y 86 [i64 (b : Int), i64 (s : Int), i64 g, i64 d, i64 (dNext x0), i64 (0), i64 (l6), i64 ((I : Nat) : Int), i64 (ww), i64 (vv)] ∧ Keep (fun c => c = y) w2 w') from by have h := r6_miss HY2.out xb; rw [E1.out, E2.out] at h; exact h).mono ?_
    rintro e w3 ⟨rfl, hyq, hkq⟩
    have HY3 := hid (show Blk w3 y 86 [i64 (b : Int), i64 (s : Int), i64 g, i64 d, i64 (dNext x0), i64 (0), i64 (l6), i64 ((I : Nat) : Int), i64 (ww), i64 (vv)] from hyq)
    have HM3 := hid (RefAt.keep HM2.out (show Keep (fun c => c = y) w2 w3 from hkq) (fun c h => r6_far2 HM2.out HY2.out c h))
    have HK3 : Hid (Keep (fun c => (c = m ∨ lv.ownBlock = some c) ∨ c = y) w w3) := hid (HK2.out.trans (show Keep (fun c => c = y) w2 w3 from hkq) (fun c _ h => Or.inr h))
    have HA3 := HA2
    have HL3 := HL2
    clear qy2 HY2 HM2 HK2 HA2 HL2
    have qy3 := HY3.out.k10
    clear hyq hkq
    go_wp2_with fail
    go_ret
    exact r6_end rfl (HM3.out.keep ((Keep.refl (fun c => c = y) w3)) (fun c h => r6_far2 HM3.out HY3.out c h)) (HK3.out.trans ((Keep.refl (fun c => c = y) w3)) (fun c _ h => Or.inr h)) HA3.out HL3.out (HY3.out) (by simp only [rcs6, Nat.add_sub_cancel_left]; rfl)
set_option maxHeartbeats 4000000 in
theorem r6_step8 (hm : RefAt B w m A ca lv W L) (hy : Blk w y 86 [i64 (b : Int), i64 (s : Int), i64 g, i64 d, i64 (x0), i64 (8), i64 (l6), i64 ((I : Nat) : Int), i64 (ww), i64 (vv)]) (hi : AInv b s g d ⟨W, L, 8, x0, l6, b + 4 + I, ww, vv⟩) (hb0 : b ≤ 1000) (hIb : I ≤ 2000) (hL : L.length ≤ 1000000000) :
    Calls Try.prog 39 #[ptr y, ptr m] w (R6P B w m A lv y b s g d (aNext b s g d ⟨W, L, 8, x0, l6, b + 4 + I, ww, vv⟩)) := by
  obtain ⟨ln, wl, s1, g1, d1, lw, xb, nx, lb, pb, vb, gr⟩ := hi
  simp only at *
  have hs8 : 1 ≤ s ∧ s ≤ 8 := by unfold p2 at s1; omega
  have hW : W.length ≤ 1000000 := by omega
  have HY0 : Hid (Blk w y 86 [i64 (b : Int), i64 (s : Int), i64 g, i64 d, i64 (x0), i64 (8), i64 (l6), i64 ((I : Nat) : Int), i64 (ww), i64 (vv)]) := hid hy
  have qy0 := HY0.out.k10
  have HM0 := hid hm
  have HK0 : Hid (Keep (fun c => (c = m ∨ lv.ownBlock = some c) ∨ c = y) w w) := hid (Keep.refl _ _)
  have HA0 := hid (fun (c : Nat) (h : (Value.slice A 0 0).ownBlock = some c) => (Or.inl h : (Value.slice A 0 0).ownBlock = some c ∨ w.heap.size ≤ c))
  have HL0 := hid (fun (c : Nat) (h : lv.ownBlock = some c) => (Or.inl h : lv.ownBlock = some c ∨ w.heap.size ≤ c))
  clear hy hm
  have lb' := lb (by omega) (by omega)
  have hl8 : 1 ≤ l6 ∧ l6 ≤ 8 := by unfold p2 at lb'; omega
  have y7 : IntKind.i64.wrap (2 * l6) = 2 * l6 := IntWalk.i64_in _ (by omega)
  have y8 : IntKind.i64.wrap ((b : Int) + 3) = (b : Int) + 3 := IntWalk.i64_in _ (by omega)
  clear lb'
  have e : aNext b s g d ⟨W, L, 8, x0, l6, b + 4 + I, ww, vv⟩ = ⟨casW W (b + 3) l6 (2 * l6), L ++ [⟨3, (b + 3 : Nat), l6, 2 * l6, rd W (b + 3) == l6⟩], 0, dNext x0, l6, b + 4 + I, ww, vv⟩ := rfl
  rw [e]
  clear e
  have y1 : IntKind.i64.wrap ((b : Int) + 4) = (b : Int) + 4 := IntWalk.i64_in _ (by omega)
  have y2 : IntKind.i64.wrap ((b : Int) + 4 + (I : Int)) = (b : Int) + 4 + (I : Int) := IntWalk.i64_in _ (by omega)
  go_enter Try.func39, Try.ntmps39
  go_wp2_with fail
  go_quiet (fail)
  obtain ⟨w1, hw1⟩ : ∃ w', w' = w.drewN nq := ⟨_, rfl⟩
  rw [← hw1]
  have HY1 := hid (show Blk w1 y 86 [i64 (b : Int), i64 (s : Int), i64 g, i64 d, i64 (x0), i64 (8), i64 (l6), i64 ((I : Nat) : Int), i64 (ww), i64 (vv)] from by rw [hw1]; exact HY0.out.drewN nq)
  have HM1 := hid (RefAt.keep HM0.out (show Keep (fun c => c = y) w w1 from by rw [hw1]; exact (Keep.refl _ _).drewN nq) (fun c h => r6_far2 HM0.out HY0.out c h))
  have HK1 : Hid (Keep (fun c => (c = m ∨ lv.ownBlock = some c) ∨ c = y) w w1) := hid (HK0.out.trans (show Keep (fun c => c = y) w w1 from by rw [hw1]; exact (Keep.refl _ _).drewN nq) (fun c _ h => Or.inr h))
  have HA1 := HA0
  have HL1 := HL0
  clear qy0 HY0 HM0 HK0 HA0 HL0
  have qy1 := HY1.out.k10
  clear hw1
  clear y1 y2
  go_wp2_with fail
  apply wp_region_text (WI := WEnd 15 (fun wx => Blk wx y 86 [i64 (b : Int), i64 (s : Int), i64 g, i64 d, i64 (x0), i64 (8), i64 (l6), i64 ((I : Nat) : Int), i64 (ww), i64 (vv)] ∧ RefAt B wx m A ca lv W L ∧ Keep0 w1 wx) (fun wx => Blk wx y 86 [i64 (b : Int), i64 (s : Int), i64 g, i64 d, i64 (x0), i64 (8), i64 (l6), i64 ((I : Nat) : Int), i64 (ww), i64 (vv)] ∧ RefPost B w1 m A lv (casW W (b + 3) l6 (2 * l6)) (L ++ [⟨3, (b + 3 : Nat), l6, 2 * l6, rd W (b + 3) == l6⟩]) wx)) (by kernel_rfl) (by kernel_rfl)
  case hob =>
    apply Oblig.cons
    case h =>
      intro S w1 hwi hSi hd hcl
      apply StepOk.intro
      intro K hK
      go_simp
      apply hK
      · rfl
      · conv => (lhs; whnf)
      · exact hwi.fixed (by decide)
    simp only [put_lit, put_none]
    try dsimp only [List.set_cons_succ, List.set_cons_zero]
    apply Oblig.cons
    case h =>
      intro S w1 hwi hSi hd hcl
      apply StepOk.intro
      intro K hK
      go_simp
      apply hK
      · rfl
      · conv => (lhs; whnf)
      · exact hwi.fixed (by decide)
    simp only [put_lit, put_none]
    try dsimp only [List.set_cons_succ, List.set_cons_zero]
    apply Oblig.cons
    case h =>
      intro S w1 hwi hSi hd hcl
      apply StepOk.intro
      intro K hK
      go_simp
      apply hK
      · rfl
      · conv => (lhs; whnf)
      · exact hwi.fixed (by decide)
    simp only [put_lit, put_none]
    try dsimp only [List.set_cons_succ, List.set_cons_zero]
    apply Oblig.cons
    case h =>
      intro S w1 hwi hSi hd hcl
      apply StepOk.intro
      intro K hK
      go_simp
      apply hK
      · rfl
      · conv => (lhs; whnf)
      · exact hwi.fixed (by decide)
    simp only [put_lit, put_none]
    try dsimp only [List.set_cons_succ, List.set_cons_zero]
    apply Oblig.cons
    case h =>
      intro S w1 hwi hSi hd hcl
      apply StepOk.intro
      intro K hK
      have hlast : S 15 = false := by
        cases h : S 15 with
        | false => rfl
        | true =>
          have h0 := (hcl 15 _ rfl h) ⟨5, .data⟩ (by simp) rfl
          have h1 := (hcl 5 _ rfl h0) ⟨4, .data⟩ (by simp) rfl
          rw [hSi] at h1
          cases h1
      have qyq := (hwi.1 hlast).1.k10
      go_simp
      apply hK
      · rfl
      · conv => (lhs; whnf)
      · exact hwi.fixed (by decide)
    simp only [put_lit, put_none]
    try dsimp only [List.set_cons_succ, List.set_cons_zero]
    apply Oblig.cons
    case h =>
      intro S w1 hwi hSi hd hcl
      apply StepOk.intro
      intro K hK
      go_simp
      apply hK
      · rfl
      · conv => (lhs; whnf)
      · exact hwi.fixed (by decide)
    simp only [put_lit, put_none]
    try dsimp only [List.set_cons_succ, List.set_cons_zero]
    apply Oblig.cons
    case h =>
      intro S w1 hwi hSi hd hcl
      apply StepOk.intro
      intro K hK
      go_simp
      apply hK
      · rfl
      · conv => (lhs; whnf)
      · exact hwi.fixed (by decide)
    simp only [put_lit, put_none]
    try dsimp only [List.set_cons_succ, List.set_cons_zero]
    apply Oblig.cons
    case h =>
      intro S w1 hwi hSi hd hcl
      apply StepOk.intro
      intro K hK
      go_simp
      apply hK
      · rfl
      · conv => (lhs; whnf)
      · exact hwi.fixed (by decide)
    simp only [put_lit, put_none]
    try dsimp only [List.set_cons_succ, List.set_cons_zero]
    apply Oblig.cons
    case h =>
      intro S w1 hwi hSi hd hcl
      apply StepOk.intro
      intro K hK
      go_simp
      apply hK
      · rfl
      · conv => (lhs; whnf)
      · exact hwi.fixed (by decide)
    simp only [put_lit, put_none]
    try dsimp only [List.set_cons_succ, List.set_cons_zero]
    apply Oblig.cons
    case h =>
      intro S w1 hwi hSi hd hcl
      apply StepOk.intro
      intro K hK
      have hlast : S 15 = false := by
        cases h : S 15 with
        | false => rfl
        | true => exact absurd ((hcl 15 _ rfl h) ⟨9, .data⟩ (by simp) rfl) (by rw [hSi]; decide)
      have qyq := (hwi.1 hlast).1.k10
      go_simp
      apply hK
      · rfl
      · conv => (lhs; whnf)
      · exact hwi.fixed (by decide)
    simp only [put_lit, put_none]
    try dsimp only [List.set_cons_succ, List.set_cons_zero]
    apply Oblig.cons
    case h =>
      intro S w1 hwi hSi hd hcl
      apply StepOk.intro
      intro K hK
      go_simp
      apply hK
      · rfl
      · conv => (lhs; whnf)
      · exact hwi.fixed (by decide)
    simp only [put_lit, put_none]
    try dsimp only [List.set_cons_succ, List.set_cons_zero]
    apply Oblig.cons
    case h =>
      intro S w1 hwi hSi hd hcl
      apply StepOk.intro
      intro K hK
      go_simp
      apply hK
      · rfl
      · conv => (lhs; whnf)
      · exact hwi.fixed (by decide)
    simp only [put_lit, put_none]
    try dsimp only [List.set_cons_succ, List.set_cons_zero]
    apply Oblig.cons
    case h =>
      intro S w1 hwi hSi hd hcl
      apply StepOk.intro
      intro K hK
      go_simp
      apply hK
      · rfl
      · conv => (lhs; whnf)
      · exact hwi.fixed (by decide)
    simp only [put_lit, put_none]
    try dsimp only [List.set_cons_succ, List.set_cons_zero]
    apply Oblig.cons
    case h =>
      intro S w1 hwi hSi hd hcl
      apply StepOk.intro
      intro K hK
      have hlast : S 15 = false := by
        cases h : S 15 with
        | false => rfl
        | true =>
          have h0 := (hcl 15 _ rfl h) ⟨14, .data⟩ (by simp) rfl
          have h1 := (hcl 14 _ rfl h0) ⟨13, .data⟩ (by simp) rfl
          rw [hSi] at h1
          cases h1
      have qyq := (hwi.1 hlast).1.k10
      go_simp
      apply hK
      · rfl
      · conv => (lhs; whnf)
      · exact hwi.fixed (by decide)
    simp only [put_lit, put_none]
    try dsimp only [List.set_cons_succ, List.set_cons_zero]
    apply Oblig.cons
    case h =>
      intro S w1 hwi hSi hd hcl
      apply StepOk.intro
      intro K hK
      go_simp
      apply hK
      · rfl
      · conv => (lhs; whnf)
      · exact hwi.fixed (by decide)
    simp only [put_lit, put_none]
    try dsimp only [List.set_cons_succ, List.set_cons_zero]
    apply Oblig.cons
    case h =>
      intro S w1 hwi hSi hd hcl
      apply StepOk.intro
      intro K hK
      have HMq := hid (hwi.1 hSi).2.1
      have HYq := hid (hwi.1 hSi).1
      have hk0 := (hwi.1 hSi).2.2
      go_simp
      refine (r6_CasJ ((b : Int) + 3) (b + 3) (by omega) l6 (2 * l6) HMq.out (by omega) hW hL).mono ?_
      rintro e w2 ⟨rfl, hp⟩
      obtain ⟨Aq, cq, lvq, hq1, hq2, hq3⟩ := id hp
      have hblk := hq2.blk HYq.out (r6_far HMq.out HYq.out)
      apply hK
      · rfl
      · conv => (lhs; whnf)
      · exact WEnd.done ⟨hblk, hp.before hk0⟩
    simp only [put_lit, put_none]
    try dsimp only [List.set_cons_succ, List.set_cons_zero]
    exact Oblig.nil
  case h0 =>
    exact ⟨fun _ => ⟨HY1.out.drew, HM1.out.keep ((Keep.refl (fun _ => False) _).drew) (fun _ _ h => h), (Keep.refl _ _).drew⟩, (fun h => by cases h)⟩
  case hend =>
    intro S wx hwi hall
    obtain ⟨hyq, A3, c3, lv3, hm, hk, ha, hl⟩ := hwi.2 (hall 15 (by decide))
    obtain ⟨w2, hw2⟩ : ∃ w', w' = wx := ⟨_, rfl⟩
    rw [← hw2] at hyq hm hk
    rw [← hw2]
    have HY2 := hid (show Blk w2 y 86 [i64 (b : Int), i64 (s : Int), i64 g, i64 d, i64 (x0), i64 (8), i64 (l6), i64 ((I : Nat) : Int), i64 (ww), i64 (vv)] from hyq)
    have HM2 := hid hm
    have HK2 : Hid (Keep (fun c => (c = m ∨ lv.ownBlock = some c) ∨ c = y) w w2) := hid (HK1.out.trans hk (fun _ _ h => Or.inl h))
    have HA2 := hid (fun c h => (ha c h).imp id (fun h => Nat.le_trans HK1.out.size h))
    have HL2 := hid (fun c h => (hl c h).imp id (fun h => Nat.le_trans HK1.out.size h))
    clear hm hk ha hl hyq qy1 HY1 HM1 HK1 HA1 HL1 hw2 hwi hall
    have qy2 := HY2.out.k10
    go_wp2_with fail
    refine (ref2_Next x0 _ xb).mono ?_
    rintro e w0 ⟨rfl, rfl⟩
    go_wp2_with fail
    go_ret
    exact r6_end rfl (HM2.out.keep ((((Keep.refl (fun c => c = y) w2)).set ⟨y, 4, none⟩ _ (fun _ => rfl)).set ⟨y, 5, none⟩ _ (fun _ => rfl)) (fun c h => r6_far2 HM2.out HY2.out c h)) (HK2.out.trans ((((Keep.refl (fun c => c = y) w2)).set ⟨y, 4, none⟩ _ (fun _ => rfl)).set ⟨y, 5, none⟩ _ (fun _ => rfl)) (fun c _ h => Or.inr h)) HA2.out HL2.out (((HY2.out).set 4 _).set 5 _) (by simp only [rcs6, Nat.add_sub_cancel_left]; rfl)
set_option maxHeartbeats 4000000 in
theorem r6_step9 (hm : RefAt B w m A ca lv W L) (hy : Blk w y 86 [i64 (b : Int), i64 (s : Int), i64 g, i64 d, i64 (x0), i64 (9), i64 (l6), i64 ((I : Nat) : Int), i64 (ww), i64 (vv)]) (hi : AInv b s g d ⟨W, L, 9, x0, l6, b + 4 + I, ww, vv⟩) (hb0 : b ≤ 1000) (hIb : I ≤ 2000) (hL : L.length ≤ 1000000000) :
    Calls Try.prog 39 #[ptr y, ptr m] w (R6P B w m A lv y b s g d (aNext b s g d ⟨W, L, 9, x0, l6, b + 4 + I, ww, vv⟩)) := by
  obtain ⟨ln, wl, s1, g1, d1, lw, xb, nx, lb, pb, vb, gr⟩ := hi
  simp only at *
  have hs8 : 1 ≤ s ∧ s ≤ 8 := by unfold p2 at s1; omega
  have hW : W.length ≤ 1000000 := by omega
  have HY0 : Hid (Blk w y 86 [i64 (b : Int), i64 (s : Int), i64 g, i64 d, i64 (x0), i64 (9), i64 (l6), i64 ((I : Nat) : Int), i64 (ww), i64 (vv)]) := hid hy
  have qy0 := HY0.out.k10
  have HM0 := hid hm
  have HK0 : Hid (Keep (fun c => (c = m ∨ lv.ownBlock = some c) ∨ c = y) w w) := hid (Keep.refl _ _)
  have HA0 := hid (fun (c : Nat) (h : (Value.slice A 0 0).ownBlock = some c) => (Or.inl h : (Value.slice A 0 0).ownBlock = some c ∨ w.heap.size ≤ c))
  have HL0 := hid (fun (c : Nat) (h : lv.ownBlock = some c) => (Or.inl h : lv.ownBlock = some c ∨ w.heap.size ≤ c))
  clear hy hm
  rw [aNext_over rfl]
  have y1 : IntKind.i64.wrap ((b : Int) + 4) = (b : Int) + 4 := IntWalk.i64_in _ (by omega)
  have y2 : IntKind.i64.wrap ((b : Int) + 4 + (I : Int)) = (b : Int) + 4 + (I : Int) := IntWalk.i64_in _ (by omega)
  go_enter Try.func39, Try.ntmps39
  go_wp2_with fail
  go_quiet (fail)
  obtain ⟨w1, hw1⟩ : ∃ w', w' = w.drewN nq := ⟨_, rfl⟩
  rw [← hw1]
  have HY1 := hid (show Blk w1 y 86 [i64 (b : Int), i64 (s : Int), i64 g, i64 d, i64 (x0), i64 (9), i64 (l6), i64 ((I : Nat) : Int), i64 (ww), i64 (vv)] from by rw [hw1]; exact HY0.out.drewN nq)
  have HM1 := hid (RefAt.keep HM0.out (show Keep (fun c => c = y) w w1 from by rw [hw1]; exact (Keep.refl _ _).drewN nq) (fun c h => r6_far2 HM0.out HY0.out c h))
  have HK1 : Hid (Keep (fun c => (c = m ∨ lv.ownBlock = some c) ∨ c = y) w w1) := hid (HK0.out.trans (show Keep (fun c => c = y) w w1 from by rw [hw1]; exact (Keep.refl _ _).drewN nq) (fun c _ h => Or.inr h))
  have HA1 := HA0
  have HL1 := HL0
  clear qy0 HY0 HM0 HK0 HA0 HL0
  have qy1 := HY1.out.k10
  clear hw1
  clear y1 y2
  go_wp2_with fail
  go_ret
  exact r6_end rfl (HM1.out.keep ((Keep.refl (fun c => c = y) w1)) (fun c h => r6_far2 HM1.out HY1.out c h)) (HK1.out.trans ((Keep.refl (fun c => c = y) w1)) (fun c _ h => Or.inr h)) HA1.out HL1.out (HY1.out) (by simp only [rcs6, Nat.add_sub_cancel_left]; rfl)
end
end Go.Proofs.Ytchlmaphaeoplaa
