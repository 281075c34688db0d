/- breadlineref06: Step, stages 0 to 4. -/
import Derived.Test.YtchlmaphaeoplaaRefSix
namespace Go.Proofs.Ytchlmaphaeoplaa
open Go.RowKit
set_option linter.unusedVariables false
set_option linter.unusedSimpArgs false
set_option maxRecDepth 100000
section
variable {B : Nat} {w : World} {m y : Nat} {A : Option Addr} {ca : Nat} {lv : Value} {W : List Int} {L : List Acc} {b s I : Nat} {g d x0 l6 ww vv : Int}
set_option maxHeartbeats 4000000 in
theorem r6_step0 (hm : RefAt B w m A ca lv W L) (hy : Blk w y 86 [i64 (b : Int), i64 (s : Int), i64 g, i64 d, i64 (x0), i64 (0), i64 (l6), i64 ((I : Nat) : Int), i64 (ww), i64 (vv)]) (hi : AInv b s g d ⟨W, L, 0, x0, l6, b + 4 + I, ww, vv⟩) (hb0 : b ≤ 1000) (hIb : I ≤ 2000) (hL : L.length ≤ 1000000000) :
    Calls Try.prog 39 #[ptr y, ptr m] w (R6P B w m A lv y b s g d (aNext b s g d ⟨W, L, 0, x0, l6, b + 4 + I, ww, vv⟩)) := by
  obtain ⟨ln, wl, s1, g1, d1, lw, xb, nx, lb, pb, vb, gr⟩ := hi
  simp only at *
  have hs8 : 1 ≤ s ∧ s ≤ 8 := by unfold p2 at s1; omega
  have hW : W.length ≤ 1000000 := by omega
  have HY0 : Hid (Blk w y 86 [i64 (b : Int), i64 (s : Int), i64 g, i64 d, i64 (x0), i64 (0), i64 (l6), i64 ((I : Nat) : Int), i64 (ww), i64 (vv)]) := hid hy
  have qy0 := HY0.out.k10
  have HM0 := hid hm
  have HK0 : Hid (Keep (fun c => (c = m ∨ lv.ownBlock = some c) ∨ c = y) w w) := hid (Keep.refl _ _)
  have HA0 := hid (fun (c : Nat) (h : (Value.slice A 0 0).ownBlock = some c) => (Or.inl h : (Value.slice A 0 0).ownBlock = some c ∨ w.heap.size ≤ c))
  have HL0 := hid (fun (c : Nat) (h : lv.ownBlock = some c) => (Or.inl h : lv.ownBlock = some c ∨ w.heap.size ≤ c))
  clear hy hm
  have hnl1 : 1 ≤ rd W (b + 3) ∧ rd W (b + 3) ≤ 8 := by unfold p2 at lw; omega
  obtain ⟨nl, hnl⟩ : ∃ nl, rd W (b + 3) = nl := ⟨_, rfl⟩
  rw [hnl] at hnl1
  have hm0 := Int.emod_nonneg x0 (show nl ≠ 0 by omega)
  obtain ⟨I2, hI2⟩ : ∃ I2 : Nat, (I2 : Int) = x0 % nl := ⟨(x0 % nl).toNat, by omega⟩
  have HI2 := hid hI2
  have e : aNext b s g d ⟨W, L, 0, x0, l6, b + 4 + I, ww, vv⟩ = ⟨W, L ++ [⟨1, (b + 3 : Nat), nl, 0, false⟩], 1, x0, nl, b + 4 + I2, ww, vv⟩ := by simp only [aNext]; rw [hnl, ← hI2, Int.toNat_natCast]
  rw [e]
  clear e hI2 hm0
  have y1 : IntKind.i64.wrap ((b : Int) + 4) = (b : Int) + 4 := IntWalk.i64_in _ (by omega)
  have y2 : IntKind.i64.wrap ((b : Int) + 4 + (I : Int)) = (b : Int) + 4 + (I : Int) := IntWalk.i64_in _ (by omega)
  go_enter Try.func39, Try.ntmps39
  go_wp2_with fail
  go_quiet (fail)
  obtain ⟨w1, hw1⟩ : ∃ w', w' = w.drewN nq := ⟨_, rfl⟩
  rw [← hw1]
  have HY1 := hid (show Blk w1 y 86 [i64 (b : Int), i64 (s : Int), i64 g, i64 d, i64 (x0), i64 (0), i64 (l6), i64 ((I : Nat) : Int), i64 (ww), i64 (vv)] from by rw [hw1]; exact HY0.out.drewN nq)
  have HM1 := hid (RefAt.keep HM0.out (show Keep (fun c => c = y) w w1 from by rw [hw1]; exact (Keep.refl _ _).drewN nq) (fun c h => r6_far2 HM0.out HY0.out c h))
  have HK1 : Hid (Keep (fun c => (c = m ∨ lv.ownBlock = some c) ∨ c = y) w w1) := hid (HK0.out.trans (show Keep (fun c => c = y) w w1 from by rw [hw1]; exact (Keep.refl _ _).drewN nq) (fun c _ h => Or.inr h))
  have HA1 := HA0
  have HL1 := HL0
  clear qy0 HY0 HM0 HK0 HA0 HL0
  have qy1 := HY1.out.k10
  clear hw1
  clear y1 y2
  have y8 : IntKind.i64.wrap ((b : Int) + 3) = (b : Int) + 3 := IntWalk.i64_in _ (by omega)
  go_wp2_with fail
  refine (r6_LoadJ ((b : Int) + 3) (b + 3) (by omega) HM1.out (by omega) hL).mono ?_
  rintro e w2 ⟨rfl, A3, c3, lv3, hm, hk, ha, hl⟩
  have HY2 := hid (show Blk w2 y 86 [i64 (b : Int), i64 (s : Int), i64 g, i64 d, i64 (x0), i64 (0), i64 (l6), i64 ((I : Nat) : Int), i64 (ww), i64 (vv)] from hk.blk HY1.out (r6_far HM1.out HY1.out))
  have HM2 := hid hm
  have HK2 : Hid (Keep (fun c => (c = m ∨ lv.ownBlock = some c) ∨ c = y) w w2) := hid (HK1.out.trans hk (fun _ _ h => Or.inl h))
  have HA2 := hid (fun c h => (ha c h).imp id (fun h => Nat.le_trans HK1.out.size h))
  have HL2 := hid (fun c h => (hl c h).imp id (fun h => Nat.le_trans HK1.out.size h))
  clear hm hk ha hl qy1 HY1 HM1 HK1 HA1 HL1
  have qy2 := HY2.out.k10
  rw [hnl] at HM2
  rw [hnl]
  go_wp2_with fail
  have hyq := (show Blk ((w2).setCell ⟨y, 6, none⟩ (i64 (nl))) y 86 [i64 (b : Int), i64 (s : Int), i64 g, i64 d, i64 (x0), i64 (0), i64 (nl), i64 ((I : Nat) : Int), i64 (ww), i64 (vv)] from (HY2.out).set 6 _)
  have hkq := (show Keep (fun c => c = y) w2 ((w2).setCell ⟨y, 6, none⟩ (i64 (nl))) from ((Keep.refl (fun c => c = y) w2)).set ⟨y, 6, none⟩ _ (fun _ => rfl))
  generalize (w2).setCell ⟨y, 6, none⟩ (i64 (nl)) = w3 at *
  have HY3 := hid (show Blk w3 y 86 [i64 (b : Int), i64 (s : Int), i64 g, i64 d, i64 (x0), i64 (0), i64 (nl), i64 ((I : Nat) : Int), i64 (ww), i64 (vv)] from hyq)
  have HM3 := hid (RefAt.keep HM2.out (show Keep (fun c => c = y) w2 w3 from hkq) (fun c h => r6_far2 HM2.out HY2.out c h))
  have HK3 : Hid (Keep (fun c => (c = m ∨ lv.ownBlock = some c) ∨ c = y) w w3) := hid (HK2.out.trans (show Keep (fun c => c = y) w2 w3 from hkq) (fun c _ h => Or.inr h))
  have HA3 := HA2
  have HL3 := HL2
  clear qy2 HY2 HM2 HK2 HA2 HL2
  have qy3 := HY3.out.k10
  clear hyq hkq
  apply wp_region_text (WI := WEnd 12 (fun wx => Blk wx y 86 [i64 (b : Int), i64 (s : Int), i64 g, i64 d, i64 (x0), i64 (0), i64 (nl), i64 ((I : Nat) : Int), i64 (ww), i64 (vv)] ∧ Keep0 w3 wx) (fun wx => Blk wx y 86 [i64 (b : Int), i64 (s : Int), i64 g, i64 d, i64 (x0), i64 (0), i64 (nl), i64 ((I2 : Nat) : Int), i64 (ww), i64 (vv)] ∧ Keep (fun c => c = y) w3 wx)) (by kernel_rfl) (by kernel_rfl)
  case hob =>
    apply Oblig.cons
    case h =>
      intro S w1 hwi hSi hd hcl
      apply StepOk.intro
      intro K hK
      go_simp
      apply hK
      · rfl
      · conv => (lhs; whnf)
      · exact hwi.fixed (by decide)
    simp only [put_lit, put_none]
    try dsimp only [List.set_cons_succ, List.set_cons_zero]
    apply Oblig.cons
    case h =>
      intro S w1 hwi hSi hd hcl
      apply StepOk.intro
      intro K hK
      go_simp
      apply hK
      · rfl
      · conv => (lhs; whnf)
      · exact hwi.fixed (by decide)
    simp only [put_lit, put_none]
    try dsimp only [List.set_cons_succ, List.set_cons_zero]
    apply Oblig.cons
    case h =>
      intro S w1 hwi hSi hd hcl
      apply StepOk.intro
      intro K hK
      go_simp
      apply hK
      · rfl
      · conv => (lhs; whnf)
      · exact hwi.fixed (by decide)
    simp only [put_lit, put_none]
    try dsimp only [List.set_cons_succ, List.set_cons_zero]
    apply Oblig.cons
    case h =>
      intro S w1 hwi hSi hd hcl
      apply StepOk.intro
      intro K hK
      go_simp
      apply hK
      · rfl
      · conv => (lhs; whnf)
      · exact hwi.fixed (by decide)
    simp only [put_lit, put_none]
    try dsimp only [List.set_cons_succ, List.set_cons_zero]
    apply Oblig.cons
    case h =>
      intro S w1 hwi hSi hd hcl
      apply StepOk.intro
      intro K hK
      have hlast : S 12 = false := by
        cases h : S 12 with
        | false => rfl
        | true => exact absurd ((hcl 12 _ rfl h) ⟨4, .phase⟩ (by simp) rfl) (by rw [hSi]; decide)
      have qyq := (hwi.1 hlast).1.k10
      go_simp
      apply hK
      · rfl
      · conv => (lhs; whnf)
      · exact hwi.fixed (by decide)
    simp only [put_lit, put_none]
    try dsimp only [List.set_cons_succ, List.set_cons_zero]
    apply Oblig.cons
    case h =>
      intro S w1 hwi hSi hd hcl
      apply StepOk.intro
      intro K hK
      go_simp
      apply hK
      · rfl
      · conv => (lhs; whnf)
      · exact hwi.fixed (by decide)
    simp only [put_lit, put_none]
    try dsimp only [List.set_cons_succ, List.set_cons_zero]
    apply Oblig.cons
    case h =>
      intro S w1 hwi hSi hd hcl
      apply StepOk.intro
      intro K hK
      go_simp
      apply hK
      · rfl
      · conv => (lhs; whnf)
      · exact hwi.fixed (by decide)
    simp only [put_lit, put_none]
    try dsimp only [List.set_cons_succ, List.set_cons_zero]
    apply Oblig.cons
    case h =>
      intro S w1 hwi hSi hd hcl
      apply StepOk.intro
      intro K hK
      go_simp
      apply hK
      · rfl
      · conv => (lhs; whnf)
      · exact hwi.fixed (by decide)
    simp only [put_lit, put_none]
    try dsimp only [List.set_cons_succ, List.set_cons_zero]
    apply Oblig.cons
    case h =>
      intro S w1 hwi hSi hd hcl
      apply StepOk.intro
      intro K hK
      have hlast : S 12 = false := by
        cases h : S 12 with
        | false => rfl
        | true => exact absurd ((hcl 12 _ rfl h) ⟨8, .phase⟩ (by simp) rfl) (by rw [hSi]; decide)
      have qyq := (hwi.1 hlast).1.k10
      go_simp
      apply hK
      · rfl
      · conv => (lhs; whnf)
      · exact hwi.fixed (by decide)
    simp only [put_lit, put_none]
    try dsimp only [List.set_cons_succ, List.set_cons_zero]
    apply Oblig.cons
    case h =>
      intro S w1 hwi hSi hd hcl
      apply StepOk.intro
      intro K hK
      go_simp
      refine (show Calls Try.prog 47 #[i64 x0, i64 nl] w1 (fun e w' => e = .returned (i64 (I2 : Int)) ∧ w1 = w') from by rw [HI2.out]; exact ref2_Pick x0 nl _ (by omega) (by omega)).mono ?_
      rintro e w2 ⟨rfl, rfl⟩
      apply hK
      · rfl
      · conv => (lhs; whnf)
      · exact hwi.fixed (by decide)
    simp only [put_lit, put_none]
    try dsimp only [List.set_cons_succ, List.set_cons_zero]
    apply Oblig.cons
    case h =>
      intro S w1 hwi hSi hd hcl
      apply StepOk.intro
      intro K hK
      go_simp
      apply hK
      · rfl
      · conv => (lhs; whnf)
      · exact hwi.fixed (by decide)
    simp only [put_lit, put_none]
    try dsimp only [List.set_cons_succ, List.set_cons_zero]
    apply Oblig.cons
    case h =>
      intro S w1 hwi hSi hd hcl
      apply StepOk.intro
      intro K hK
      go_simp
      apply hK
      · rfl
      · conv => (lhs; whnf)
      · exact hwi.fixed (by decide)
    simp only [put_lit, put_none]
    try dsimp only [List.set_cons_succ, List.set_cons_zero]
    apply Oblig.cons
    case h =>
      intro S w1 hwi hSi hd hcl
      apply StepOk.intro
      intro K hK
      have qyq := (hwi.1 hSi).1.k10
      go_simp
      apply hK
      · rfl
      · conv => (lhs; whnf)
      · exact WEnd.done ⟨(hwi.1 hSi).1.set 7 _, ((hwi.1 hSi).2.mono (fun _ h => h.elim)).set ⟨y, 7, none⟩ _ (fun _ => rfl)⟩
    simp only [put_lit, put_none]
    try dsimp only [List.set_cons_succ, List.set_cons_zero]
    exact Oblig.nil
  case h0 =>
    exact ⟨fun _ => ⟨HY3.out.drew, (Keep.refl _ _).drew⟩, (fun h => by cases h)⟩
  case hend =>
    intro S wx hwi hall
    obtain ⟨hyq, hkq⟩ := hwi.2 (hall 12 (by decide))
    obtain ⟨w4, hw4⟩ : ∃ w', w' = wx := ⟨_, rfl⟩
    rw [← hw4] at hyq hkq
    rw [← hw4]
    have HY4 := hid (show Blk w4 y 86 [i64 (b : Int), i64 (s : Int), i64 g, i64 d, i64 (x0), i64 (0), i64 (nl), i64 ((I2 : Nat) : Int), i64 (ww), i64 (vv)] from hyq)
    have HM4 := hid (RefAt.keep HM3.out (show Keep (fun c => c = y) w3 w4 from hkq) (fun c h => r6_far2 HM3.out HY3.out c h))
    have HK4 : Hid (Keep (fun c => (c = m ∨ lv.ownBlock = some c) ∨ c = y) w w4) := hid (HK3.out.trans (show Keep (fun c => c = y) w3 w4 from hkq) (fun c _ h => Or.inr h))
    have HA4 := HA3
    have HL4 := HL3
    clear qy3 HY3 HM3 HK3 HA3 HL3
    have qy4 := HY4.out.k10
    clear hw4 hyq hkq hwi hall
    go_wp2_with fail
    go_ret
    exact r6_end rfl (HM4.out.keep (((Keep.refl (fun c => c = y) w4)).set ⟨y, 5, none⟩ _ (fun _ => rfl)) (fun c h => r6_far2 HM4.out HY4.out c h)) (HK4.out.trans (((Keep.refl (fun c => c = y) w4)).set ⟨y, 5, none⟩ _ (fun _ => rfl)) (fun c _ h => Or.inr h)) HA4.out HL4.out ((HY4.out).set 5 _) (by simp only [rcs6, Nat.add_sub_cancel_left]; rfl)
set_option maxHeartbeats 4000000 in
theorem r6_step1 (hm : RefAt B w m A ca lv W L) (hy : Blk w y 86 [i64 (b : Int), i64 (s : Int), i64 g, i64 d, i64 (x0), i64 (1), i64 (l6), i64 ((I : Nat) : Int), i64 (ww), i64 (vv)]) (hi : AInv b s g d ⟨W, L, 1, x0, l6, b + 4 + I, ww, vv⟩) (hb0 : b ≤ 1000) (hIb : I ≤ 2000) (hL : L.length ≤ 1000000000) :
    Calls Try.prog 39 #[ptr y, ptr m] w (R6P B w m A lv y b s g d (aNext b s g d ⟨W, L, 1, x0, l6, b + 4 + I, ww, vv⟩)) := by
  obtain ⟨ln, wl, s1, g1, d1, lw, xb, nx, lb, pb, vb, gr⟩ := hi
  simp only at *
  have hs8 : 1 ≤ s ∧ s ≤ 8 := by unfold p2 at s1; omega
  have hW : W.length ≤ 1000000 := by omega
  have HY0 : Hid (Blk w y 86 [i64 (b : Int), i64 (s : Int), i64 g, i64 d, i64 (x0), i64 (1), i64 (l6), i64 ((I : Nat) : Int), i64 (ww), i64 (vv)]) := hid hy
  have qy0 := HY0.out.k10
  have HM0 := hid hm
  have HK0 : Hid (Keep (fun c => (c = m ∨ lv.ownBlock = some c) ∨ c = y) w w) := hid (Keep.refl _ _)
  have HA0 := hid (fun (c : Nat) (h : (Value.slice A 0 0).ownBlock = some c) => (Or.inl h : (Value.slice A 0 0).ownBlock = some c ∨ w.heap.size ≤ c))
  have HL0 := hid (fun (c : Nat) (h : lv.ownBlock = some c) => (Or.inl h : lv.ownBlock = some c ∨ w.heap.size ≤ c))
  clear hy hm
  obtain ⟨wo, hwo⟩ : ∃ wo, rd W (b + 4 + I) = wo := ⟨_, rfl⟩
  have hpv := pVal_bd wo
  obtain ⟨vn, hvn⟩ : ∃ vn, pVal wo + d = vn := ⟨_, rfl⟩
  have hvn' : vn = pVal wo + d := hvn.symm
  have yv : IntKind.i64.wrap (pVal wo + d) = vn := by rw [hvn]; exact IntWalk.i64_in _ (by omega)
  have yg : IntKind.i64.wrap (-g) = -g := IntWalk.i64_in _ (by omega)
  have pb' := pb (by omega) (by omega)
  by_cases hc : max vn (-vn) < g
  · clear hvn
    have e : aNext b s g d ⟨W, L, 1, x0, l6, b + 4 + I, ww, vv⟩ = ⟨W, L ++ [⟨1, (b + 4 + I : Nat), wo, 0, false⟩], 2, x0, l6, b + 4 + I, wo, vn⟩ := by simp only [aNext]; rw [hwo, ← hvn', if_pos (by omega)]
    rw [e]
    clear e
    have dg1 : decide (-g < vn) = true := by simp; omega
    have dg2 : decide (vn < g) = true := by simp; omega
    clear hvn' hc
    have y1 : IntKind.i64.wrap ((b : Int) + 4) = (b : Int) + 4 := IntWalk.i64_in _ (by omega)
    have y2 : IntKind.i64.wrap ((b : Int) + 4 + (I : Int)) = (b : Int) + 4 + (I : Int) := IntWalk.i64_in _ (by omega)
    go_enter Try.func39, Try.ntmps39
    go_wp2_with fail
    go_quiet (fail)
    obtain ⟨w1, hw1⟩ : ∃ w', w' = w.drewN nq := ⟨_, rfl⟩
    rw [← hw1]
    have HY1 := hid (show Blk w1 y 86 [i64 (b : Int), i64 (s : Int), i64 g, i64 d, i64 (x0), i64 (1), i64 (l6), i64 ((I : Nat) : Int), i64 (ww), i64 (vv)] from by rw [hw1]; exact HY0.out.drewN nq)
    have HM1 := hid (RefAt.keep HM0.out (show Keep (fun c => c = y) w w1 from by rw [hw1]; exact (Keep.refl _ _).drewN nq) (fun c h => r6_far2 HM0.out HY0.out c h))
    have HK1 : Hid (Keep (fun c => (c = m ∨ lv.ownBlock = some c) ∨ c = y) w w1) := hid (HK0.out.trans (show Keep (fun c => c = y) w w1 from by rw [hw1]; exact (Keep.refl _ _).drewN nq) (fun c _ h => Or.inr h))
    have HA1 := HA0
    have HL1 := HL0
    clear qy0 HY0 HM0 HK0 HA0 HL0
    have qy1 := HY1.out.k10
    clear hw1
    clear y1 y2
    go_wp2_with fail
    refine (r6_LoadJ ((b : Int) + 4 + (I : Int)) (b + 4 + I) (by omega) HM1.out (by omega) hL).mono ?_
    rintro e w2 ⟨rfl, A3, c3, lv3, hm, hk, ha, hl⟩
    have HY2 := hid (show Blk w2 y 86 [i64 (b : Int), i64 (s : Int), i64 g, i64 d, i64 (x0), i64 (1), i64 (l6), i64 ((I : Nat) : Int), i64 (ww), i64 (vv)] from hk.blk HY1.out (r6_far HM1.out HY1.out))
    have HM2 := hid hm
    have HK2 : Hid (Keep (fun c => (c = m ∨ lv.ownBlock = some c) ∨ c = y) w w2) := hid (HK1.out.trans hk (fun _ _ h => Or.inl h))
    have HA2 := hid (fun c h => (ha c h).imp id (fun h => Nat.le_trans HK1.out.size h))
    have HL2 := hid (fun c h => (hl c h).imp id (fun h => Nat.le_trans HK1.out.size h))
    clear hm hk ha hl qy1 HY1 HM1 HK1 HA1 HL1
    have qy2 := HY2.out.k10
    rw [hwo] at HM2
    rw [hwo]
    go_wp2_with fail
    have hyq := (show Blk ((w2).setCell ⟨y, 8, none⟩ (i64 (wo))) y 86 [i64 (b : Int), i64 (s : Int), i64 g, i64 d, i64 (x0), i64 (1), i64 (l6), i64 ((I : Nat) : Int), i64 (wo), i64 (vv)] from (HY2.out).set 8 _)
    have hkq := (show Keep (fun c => c = y) w2 ((w2).setCell ⟨y, 8, none⟩ (i64 (wo))) from ((Keep.refl (fun c => c = y) w2)).set ⟨y, 8, none⟩ _ (fun _ => rfl))
    generalize (w2).setCell ⟨y, 8, none⟩ (i64 (wo)) = w3 at *
    have HY3 := hid (show Blk w3 y 86 [i64 (b : Int), i64 (s : Int), i64 g, i64 d, i64 (x0), i64 (1), i64 (l6), i64 ((I : Nat) : Int), i64 (wo), i64 (vv)] from hyq)
    have HM3 := hid (RefAt.keep HM2.out (show Keep (fun c => c = y) w2 w3 from hkq) (fun c h => r6_far2 HM2.out HY2.out c h))
    have HK3 : Hid (Keep (fun c => (c = m ∨ lv.ownBlock = some c) ∨ c = y) w w3) := hid (HK2.out.trans (show Keep (fun c => c = y) w2 w3 from hkq) (fun c _ h => Or.inr h))
    have HA3 := HA2
    have HL3 := HL2
    clear qy2 HY2 HM2 HK2 HA2 HL2
    have qy3 := HY3.out.k10
    clear hyq hkq
    apply wp_region_text (WI := WEnd 13 (fun wx => Blk wx y 86 [i64 (b : Int), i64 (s : Int), i64 g, i64 d, i64 (x0), i64 (1), i64 (l6), i64 ((I : Nat) : Int), i64 (wo), i64 (vv)] ∧ Keep0 w3 wx) (fun wx => Blk wx y 86 [i64 (b : Int), i64 (s : Int), i64 g, i64 d, i64 (x0), i64 (1), i64 (l6), i64 ((I : Nat) : Int), i64 (wo), i64 (vn)] ∧ Keep (fun c => c = y) w3 wx)) (by kernel_rfl) (by kernel_rfl)
    case hob =>
      apply Oblig.cons
      case h =>
        intro S w1 hwi hSi hd hcl
        apply StepOk.intro
        intro K hK
        go_simp
        apply hK
        · rfl
        · conv => (lhs; whnf)
        · exact hwi.fixed (by decide)
      simp only [put_lit, put_none]
      try dsimp only [List.set_cons_succ, List.set_cons_zero]
      apply Oblig.cons
      case h =>
        intro S w1 hwi hSi hd hcl
        apply StepOk.intro
        intro K hK
        go_simp
        apply hK
        · rfl
        · conv => (lhs; whnf)
        · exact hwi.fixed (by decide)
      simp only [put_lit, put_none]
      try dsimp only [List.set_cons_succ, List.set_cons_zero]
      apply Oblig.cons
      case h =>
        intro S w1 hwi hSi hd hcl
        apply StepOk.intro
        intro K hK
        go_simp
        apply hK
        · rfl
        · conv => (lhs; whnf)
        · exact hwi.fixed (by decide)
      simp only [put_lit, put_none]
      try dsimp only [List.set_cons_succ, List.set_cons_zero]
      apply Oblig.cons
      case h =>
        intro S w1 hwi hSi hd hcl
        apply StepOk.intro
        intro K hK
        go_simp
        apply hK
        · rfl
        · conv => (lhs; whnf)
        · exact hwi.fixed (by decide)
      simp only [put_lit, put_none]
      try dsimp only [List.set_cons_succ, List.set_cons_zero]
      apply Oblig.cons
      case h =>
        intro S w1 hwi hSi hd hcl
        apply StepOk.intro
        intro K hK
        have hlast : S 13 = false := by
          cases h : S 13 with
          | false => rfl
          | true => exact absurd ((hcl 13 _ rfl h) ⟨4, .phase⟩ (by simp) rfl) (by rw [hSi]; decide)
        have qyq := (hwi.1 hlast).1.k10
        go_simp
        apply hK
        · rfl
        · conv => (lhs; whnf)
        · exact hwi.fixed (by decide)
      simp only [put_lit, put_none]
      try dsimp only [List.set_cons_succ, List.set_cons_zero]
      apply Oblig.cons
      case h =>
        intro S w1 hwi hSi hd hcl
        apply StepOk.intro
        intro K hK
        go_simp
        refine (ref1_Value wo _).mono ?_
        rintro e w2 ⟨rfl, rfl⟩
        apply hK
        · rfl
        · conv => (lhs; whnf)
        · exact hwi.fixed (by decide)
      simp only [put_lit, put_none]
      try dsimp only [List.set_cons_succ, List.set_cons_zero]
      apply Oblig.cons
      case h =>
        intro S w1 hwi hSi hd hcl
        apply StepOk.intro
        intro K hK
        go_simp
        apply hK
        · rfl
        · conv => (lhs; whnf)
        · exact hwi.fixed (by decide)
      simp only [put_lit, put_none]
      try dsimp only [List.set_cons_succ, List.set_cons_zero]
      apply Oblig.cons
      case h =>
        intro S w1 hwi hSi hd hcl
        apply StepOk.intro
        intro K hK
        go_simp
        apply hK
        · rfl
        · conv => (lhs; whnf)
        · exact hwi.fixed (by decide)
      simp only [put_lit, put_none]
      try dsimp only [List.set_cons_succ, List.set_cons_zero]
      apply Oblig.cons
      case h =>
        intro S w1 hwi hSi hd hcl
        apply StepOk.intro
        intro K hK
        go_simp
        apply hK
        · rfl
        · conv => (lhs; whnf)
        · exact hwi.fixed (by decide)
      simp only [put_lit, put_none]
      try dsimp only [List.set_cons_succ, List.set_cons_zero]
      apply Oblig.cons
      case h =>
        intro S w1 hwi hSi hd hcl
        apply StepOk.intro
        intro K hK
        have hlast : S 13 = false := by
          cases h : S 13 with
          | false => rfl
          | true => exact absurd ((hcl 13 _ rfl h) ⟨9, .phase⟩ (by simp) rfl) (by rw [hSi]; decide)
        have qyq := (hwi.1 hlast).1.k10
        go_simp
        apply hK
        · rfl
        · conv => (lhs; whnf)
        · exact hwi.fixed (by decide)
      simp only [put_lit, put_none]
      try dsimp only [List.set_cons_succ, List.set_cons_zero]
      apply Oblig.cons
      case h =>
        intro S w1 hwi hSi hd hcl
        apply StepOk.intro
        intro K hK
        go_simp
        apply hK
        · rfl
        · conv => (lhs; whnf)
        · exact hwi.fixed (by decide)
      simp only [put_lit, put_none]
      try dsimp only [List.set_cons_succ, List.set_cons_zero]
      apply Oblig.cons
      case h =>
        intro S w1 hwi hSi hd hcl
        apply StepOk.intro
        intro K hK
        go_simp
        apply hK
        · rfl
        · conv => (lhs; whnf)
        · exact hwi.fixed (by decide)
      simp only [put_lit, put_none]
      try dsimp only [List.set_cons_succ, List.set_cons_zero]
      apply Oblig.cons
      case h =>
        intro S w1 hwi hSi hd hcl
        apply StepOk.intro
        intro K hK
        go_simp
        apply hK
        · rfl
        · conv => (lhs; whnf)
        · exact hwi.fixed (by decide)
      simp only [put_lit, put_none]
      try dsimp only [List.set_cons_succ, List.set_cons_zero]
      apply Oblig.cons
      case h =>
        intro S w1 hwi hSi hd hcl
        apply StepOk.intro
        intro K hK
        have qyq := (hwi.1 hSi).1.k10
        go_simp
        apply hK
        · rfl
        · conv => (lhs; whnf)
        · exact WEnd.done ⟨(hwi.1 hSi).1.set 9 _, ((hwi.1 hSi).2.mono (fun _ h => h.elim)).set ⟨y, 9, none⟩ _ (fun _ => rfl)⟩
      simp only [put_lit, put_none]
      try dsimp only [List.set_cons_succ, List.set_cons_zero]
      exact Oblig.nil
    case h0 =>
      exact ⟨fun _ => ⟨HY3.out.drew, (Keep.refl _ _).drew⟩, (fun h => by cases h)⟩
    case hend =>
      intro S wx hwi hall
      obtain ⟨hyq, hkq⟩ := hwi.2 (hall 13 (by decide))
      obtain ⟨w4, hw4⟩ : ∃ w', w' = wx := ⟨_, rfl⟩
      rw [← hw4] at hyq hkq
      rw [← hw4]
      have HY4 := hid (show Blk w4 y 86 [i64 (b : Int), i64 (s : Int), i64 g, i64 d, i64 (x0), i64 (1), i64 (l6), i64 ((I : Nat) : Int), i64 (wo), i64 (vn)] from hyq)
      have HM4 := hid (RefAt.keep HM3.out (show Keep (fun c => c = y) w3 w4 from hkq) (fun c h => r6_far2 HM3.out HY3.out c h))
      have HK4 : Hid (Keep (fun c => (c = m ∨ lv.ownBlock = some c) ∨ c = y) w w4) := hid (HK3.out.trans (show Keep (fun c => c = y) w3 w4 from hkq) (fun c _ h => Or.inr h))
      have HA4 := HA3
      have HL4 := HL3
      clear qy3 HY3 HM3 HK3 HA3 HL3
      have qy4 := HY4.out.k10
      clear hw4 hyq hkq hwi hall
      go_wp2_with fail
      have hyq := (show Blk ((w4).setCell ⟨y, 5, none⟩ (i64 (3))) y 86 [i64 (b : Int), i64 (s : Int), i64 g, i64 d, i64 (x0), i64 (3), i64 (l6), i64 ((I : Nat) : Int), i64 (wo), i64 (vn)] from (HY4.out).set 5 _)
      have hkq := (show Keep (fun c => c = y) w4 ((w4).setCell ⟨y, 5, none⟩ (i64 (3))) from ((Keep.refl (fun c => c = y) w4)).set ⟨y, 5, none⟩ _ (fun _ => rfl))
      generalize (w4).setCell ⟨y, 5, none⟩ (i64 (3)) = w5 at *
      have HY5 := hid (show Blk w5 y 86 [i64 (b : Int), i64 (s : Int), i64 g, i64 d, i64 (x0), i64 (3), i64 (l6), i64 ((I : Nat) : Int), i64 (wo), i64 (vn)] from hyq)
      have HM5 := hid (RefAt.keep HM4.out (show Keep (fun c => c = y) w4 w5 from hkq) (fun c h => r6_far2 HM4.out HY4.out c h))
      have HK5 : Hid (Keep (fun c => (c = m ∨ lv.ownBlock = some c) ∨ c = y) w w5) := hid (HK4.out.trans (show Keep (fun c => c = y) w4 w5 from hkq) (fun c _ h => Or.inr h))
      have HA5 := HA4
      have HL5 := HL4
      clear qy4 HY4 HM4 HK4 HA4 HL4
      have qy5 := HY5.out.k10
      clear hyq hkq
      go_quiet (fail)
      obtain ⟨w6, hw6⟩ : ∃ w', w' = w5.drewN nq := ⟨_, rfl⟩
      rw [← hw6]
      have HY6 := hid (show Blk w6 y 86 [i64 (b : Int), i64 (s : Int), i64 g, i64 d, i64 (x0), i64 (3), i64 (l6), i64 ((I : Nat) : Int), i64 (wo), i64 (vn)] from by rw [hw6]; exact HY5.out.drewN nq)
      have HM6 := hid (RefAt.keep HM5.out (show Keep (fun c => c = y) w5 w6 from by rw [hw6]; exact (Keep.refl _ _).drewN nq) (fun c h => r6_far2 HM5.out HY5.out c h))
      have HK6 : Hid (Keep (fun c => (c = m ∨ lv.ownBlock = some c) ∨ c = y) w w6) := hid (HK5.out.trans (show Keep (fun c => c = y) w5 w6 from by rw [hw6]; exact (Keep.refl _ _).drewN nq) (fun c _ h => Or.inr h))
      have HA6 := HA5
      have HL6 := HL5
      clear qy5 HY5 HM5 HK5 HA5 HL5
      have qy6 := HY6.out.k10
      clear hw6
      go_wp2_with fail
      go_ret
      exact r6_end rfl (HM6.out.keep (((Keep.refl (fun c => c = y) w6)).set ⟨y, 5, none⟩ _ (fun _ => rfl)) (fun c h => r6_far2 HM6.out HY6.out c h)) (HK6.out.trans (((Keep.refl (fun c => c = y) w6)).set ⟨y, 5, none⟩ _ (fun _ => rfl)) (fun c _ h => Or.inr h)) HA6.out HL6.out ((HY6.out).set 5 _) (by simp only [rcs6, Nat.add_sub_cancel_left]; rfl)
  · by_cases hc2 : vn ≤ -g
    · clear hvn
      have e : aNext b s g d ⟨W, L, 1, x0, l6, b + 4 + I, ww, vv⟩ = ⟨W, L ++ [⟨1, (b + 4 + I : Nat), wo, 0, false⟩], 3, x0, l6, b + 4 + I, wo, vn⟩ := by simp only [aNext]; rw [hwo, ← hvn', if_neg (by omega)]
      rw [e]
      clear e
      have dg1 : decide (-g < vn) = false := by simp; omega
      clear hvn' hc hc2
      have y1 : IntKind.i64.wrap ((b : Int) + 4) = (b : Int) + 4 := IntWalk.i64_in _ (by omega)
      have y2 : IntKind.i64.wrap ((b : Int) + 4 + (I : Int)) = (b : Int) + 4 + (I : Int) := IntWalk.i64_in _ (by omega)
      go_enter Try.func39, Try.ntmps39
      go_wp2_with fail
      go_quiet (fail)
      obtain ⟨w1, hw1⟩ : ∃ w', w' = w.drewN nq := ⟨_, rfl⟩
      rw [← hw1]
      have HY1 := hid (show Blk w1 y 86 [i64 (b : Int), i64 (s : Int), i64 g, i64 d, i64 (x0), i64 (1), i64 (l6), i64 ((I : Nat) : Int), i64 (ww), i64 (vv)] from by rw [hw1]; exact HY0.out.drewN nq)
      have HM1 := hid (RefAt.keep HM0.out (show Keep (fun c => c = y) w w1 from by rw [hw1]; exact (Keep.refl _ _).drewN nq) (fun c h => r6_far2 HM0.out HY0.out c h))
      have HK1 : Hid (Keep (fun c => (c = m ∨ lv.ownBlock = some c) ∨ c = y) w w1) := hid (HK0.out.trans (show Keep (fun c => c = y) w w1 from by rw [hw1]; exact (Keep.refl _ _).drewN nq) (fun c _ h => Or.inr h))
      have HA1 := HA0
      have HL1 := HL0
      clear qy0 HY0 HM0 HK0 HA0 HL0
      have qy1 := HY1.out.k10
      clear hw1
      clear y1 y2
      go_wp2_with fail
      refine (r6_LoadJ ((b : Int) + 4 + (I : Int)) (b + 4 + I) (by omega) HM1.out (by omega) hL).mono ?_
      rintro e w2 ⟨rfl, A3, c3, lv3, hm, hk, ha, hl⟩
      have HY2 := hid (show Blk w2 y 86 [i64 (b : Int), i64 (s : Int), i64 g, i64 d, i64 (x0), i64 (1), i64 (l6), i64 ((I : Nat) : Int), i64 (ww), i64 (vv)] from hk.blk HY1.out (r6_far HM1.out HY1.out))
      have HM2 := hid hm
      have HK2 : Hid (Keep (fun c => (c = m ∨ lv.ownBlock = some c) ∨ c = y) w w2) := hid (HK1.out.trans hk (fun _ _ h => Or.inl h))
      have HA2 := hid (fun c h => (ha c h).imp id (fun h => Nat.le_trans HK1.out.size h))
      have HL2 := hid (fun c h => (hl c h).imp id (fun h => Nat.le_trans HK1.out.size h))
      clear hm hk ha hl qy1 HY1 HM1 HK1 HA1 HL1
      have qy2 := HY2.out.k10
      rw [hwo] at HM2
      rw [hwo]
      go_wp2_with fail
      have hyq := (show Blk ((w2).setCell ⟨y, 8, none⟩ (i64 (wo))) y 86 [i64 (b : Int), i64 (s : Int), i64 g, i64 d, i64 (x0), i64 (1), i64 (l6), i64 ((I : Nat) : Int), i64 (wo), i64 (vv)] from (HY2.out).set 8 _)
      have hkq := (show Keep (fun c => c = y) w2 ((w2).setCell ⟨y, 8, none⟩ (i64 (wo))) from ((Keep.refl (fun c => c = y) w2)).set ⟨y, 8, none⟩ _ (fun _ => rfl))
      generalize (w2).setCell ⟨y, 8, none⟩ (i64 (wo)) = w3 at *
      have HY3 := hid (show Blk w3 y 86 [i64 (b : Int), i64 (s : Int), i64 g, i64 d, i64 (x0), i64 (1), i64 (l6), i64 ((I : Nat) : Int), i64 (wo), i64 (vv)] from hyq)
      have HM3 := hid (RefAt.keep HM2.out (show Keep (fun c => c = y) w2 w3 from hkq) (fun c h => r6_far2 HM2.out HY2.out c h))
      have HK3 : Hid (Keep (fun c => (c = m ∨ lv.ownBlock = some c) ∨ c = y) w w3) := hid (HK2.out.trans (show Keep (fun c => c = y) w2 w3 from hkq) (fun c _ h => Or.inr h))
      have HA3 := HA2
      have HL3 := HL2
      clear qy2 HY2 HM2 HK2 HA2 HL2
      have qy3 := HY3.out.k10
      clear hyq hkq
      apply wp_region_text (WI := WEnd 13 (fun wx => Blk wx y 86 [i64 (b : Int), i64 (s : Int), i64 g, i64 d, i64 (x0), i64 (1), i64 (l6), i64 ((I : Nat) : Int), i64 (wo), i64 (vv)] ∧ Keep0 w3 wx) (fun wx => Blk wx y 86 [i64 (b : Int), i64 (s : Int), i64 g, i64 d, i64 (x0), i64 (1), i64 (l6), i64 ((I : Nat) : Int), i64 (wo), i64 (vn)] ∧ Keep (fun c => c = y) w3 wx)) (by kernel_rfl) (by kernel_rfl)
      case hob =>
        apply Oblig.cons
        case h =>
          intro S w1 hwi hSi hd hcl
          apply StepOk.intro
          intro K hK
          go_simp
          apply hK
          · rfl
          · conv => (lhs; whnf)
          · exact hwi.fixed (by decide)
        simp only [put_lit, put_none]
        try dsimp only [List.set_cons_succ, List.set_cons_zero]
        apply Oblig.cons
        case h =>
          intro S w1 hwi hSi hd hcl
          apply StepOk.intro
          intro K hK
          go_simp
          apply hK
          · rfl
          · conv => (lhs; whnf)
          · exact hwi.fixed (by decide)
        simp only [put_lit, put_none]
        try dsimp only [List.set_cons_succ, List.set_cons_zero]
        apply Oblig.cons
        case h =>
          intro S w1 hwi hSi hd hcl
          apply StepOk.intro
          intro K hK
          go_simp
          apply hK
          · rfl
          · conv => (lhs; whnf)
          · exact hwi.fixed (by decide)
        simp only [put_lit, put_none]
        try dsimp only [List.set_cons_succ, List.set_cons_zero]
        apply Oblig.cons
        case h =>
          intro S w1 hwi hSi hd hcl
          apply StepOk.intro
          intro K hK
          go_simp
          apply hK
          · rfl
          · conv => (lhs; whnf)
          · exact hwi.fixed (by decide)
        simp only [put_lit, put_none]
        try dsimp only [List.set_cons_succ, List.set_cons_zero]
        apply Oblig.cons
        case h =>
          intro S w1 hwi hSi hd hcl
          apply StepOk.intro
          intro K hK
          have hlast : S 13 = false := by
            cases h : S 13 with
            | false => rfl
            | true => exact absurd ((hcl 13 _ rfl h) ⟨4, .phase⟩ (by simp) rfl) (by rw [hSi]; decide)
          have qyq := (hwi.1 hlast).1.k10
          go_simp
          apply hK
          · rfl
          · conv => (lhs; whnf)
          · exact hwi.fixed (by decide)
        simp only [put_lit, put_none]
        try dsimp only [List.set_cons_succ, List.set_cons_zero]
        apply Oblig.cons
        case h =>
          intro S w1 hwi hSi hd hcl
          apply StepOk.intro
          intro K hK
          go_simp
          refine (ref1_Value wo _).mono ?_
          rintro e w2 ⟨rfl, rfl⟩
          apply hK
          · rfl
          · conv => (lhs; whnf)
          · exact hwi.fixed (by decide)
        simp only [put_lit, put_none]
        try dsimp only [List.set_cons_succ, List.set_cons_zero]
        apply Oblig.cons
        case h =>
          intro S w1 hwi hSi hd hcl
          apply StepOk.intro
          intro K hK
          go_simp
          apply hK
          · rfl
          · conv => (lhs; whnf)
          · exact hwi.fixed (by decide)
        simp only [put_lit, put_none]
        try dsimp only [List.set_cons_succ, List.set_cons_zero]
        apply Oblig.cons
        case h =>
          intro S w1 hwi hSi hd hcl
          apply StepOk.intro
          intro K hK
          go_simp
          apply hK
          · rfl
          · conv => (lhs; whnf)
          · exact hwi.fixed (by decide)
        simp only [put_lit, put_none]
        try dsimp only [List.set_cons_succ, List.set_cons_zero]
        apply Oblig.cons
        case h =>
          intro S w1 hwi hSi hd hcl
          apply StepOk.intro
          intro K hK
          go_simp
          apply hK
          · rfl
          · conv => (lhs; whnf)
          · exact hwi.fixed (by decide)
        simp only [put_lit, put_none]
        try dsimp only [List.set_cons_succ, List.set_cons_zero]
        apply Oblig.cons
        case h =>
          intro S w1 hwi hSi hd hcl
          apply StepOk.intro
          intro K hK
          have hlast : S 13 = false := by
            cases h : S 13 with
            | false => rfl
            | true => exact absurd ((hcl 13 _ rfl h) ⟨9, .phase⟩ (by simp) rfl) (by rw [hSi]; decide)
          have qyq := (hwi.1 hlast).1.k10
          go_simp
          apply hK
          · rfl
          · conv => (lhs; whnf)
          · exact hwi.fixed (by decide)
        simp only [put_lit, put_none]
        try dsimp only [List.set_cons_succ, List.set_cons_zero]
        apply Oblig.cons
        case h =>
          intro S w1 hwi hSi hd hcl
          apply StepOk.intro
          intro K hK
          go_simp
          apply hK
          · rfl
          · conv => (lhs; whnf)
          · exact hwi.fixed (by decide)
        simp only [put_lit, put_none]
        try dsimp only [List.set_cons_succ, List.set_cons_zero]
        apply Oblig.cons
        case h =>
          intro S w1 hwi hSi hd hcl
          apply StepOk.intro
          intro K hK
          go_simp
          apply hK
          · rfl
          · conv => (lhs; whnf)
          · exact hwi.fixed (by decide)
        simp only [put_lit, put_none]
        try dsimp only [List.set_cons_succ, List.set_cons_zero]
        apply Oblig.cons
        case h =>
          intro S w1 hwi hSi hd hcl
          apply StepOk.intro
          intro K hK
          go_simp
          apply hK
          · rfl
          · conv => (lhs; whnf)
          · exact hwi.fixed (by decide)
        simp only [put_lit, put_none]
        try dsimp only [List.set_cons_succ, List.set_cons_zero]
        apply Oblig.cons
        case h =>
          intro S w1 hwi hSi hd hcl
          apply StepOk.intro
          intro K hK
          have qyq := (hwi.1 hSi).1.k10
          go_simp
          apply hK
          · rfl
          · conv => (lhs; whnf)
          · exact WEnd.done ⟨(hwi.1 hSi).1.set 9 _, ((hwi.1 hSi).2.mono (fun _ h => h.elim)).set ⟨y, 9, none⟩ _ (fun _ => rfl)⟩
        simp only [put_lit, put_none]
        try dsimp only [List.set_cons_succ, List.set_cons_zero]
        exact Oblig.nil
      case h0 =>
        exact ⟨fun _ => ⟨HY3.out.drew, (Keep.refl _ _).drew⟩, (fun h => by cases h)⟩
      case hend =>
        intro S wx hwi hall
        obtain ⟨hyq, hkq⟩ := hwi.2 (hall 13 (by decide))
        obtain ⟨w4, hw4⟩ : ∃ w', w' = wx := ⟨_, rfl⟩
        rw [← hw4] at hyq hkq
        rw [← hw4]
        have HY4 := hid (show Blk w4 y 86 [i64 (b : Int), i64 (s : Int), i64 g, i64 d, i64 (x0), i64 (1), i64 (l6), i64 ((I : Nat) : Int), i64 (wo), i64 (vn)] from hyq)
        have HM4 := hid (RefAt.keep HM3.out (show Keep (fun c => c = y) w3 w4 from hkq) (fun c h => r6_far2 HM3.out HY3.out c h))
        have HK4 : Hid (Keep (fun c => (c = m ∨ lv.ownBlock = some c) ∨ c = y) w w4) := hid (HK3.out.trans (show Keep (fun c => c = y) w3 w4 from hkq) (fun c _ h => Or.inr h))
        have HA4 := HA3
        have HL4 := HL3
        clear qy3 HY3 HM3 HK3 HA3 HL3
        have qy4 := HY4.out.k10
        clear hw4 hyq hkq hwi hall
        go_wp2_with fail
        have hyq := (show Blk ((w4).setCell ⟨y, 5, none⟩ (i64 (3))) y 86 [i64 (b : Int), i64 (s : Int), i64 g, i64 d, i64 (x0), i64 (3), i64 (l6), i64 ((I : Nat) : Int), i64 (wo), i64 (vn)] from (HY4.out).set 5 _)
        have hkq := (show Keep (fun c => c = y) w4 ((w4).setCell ⟨y, 5, none⟩ (i64 (3))) from ((Keep.refl (fun c => c = y) w4)).set ⟨y, 5, none⟩ _ (fun _ => rfl))
        generalize (w4).setCell ⟨y, 5, none⟩ (i64 (3)) = w5 at *
        have HY5 := hid (show Blk w5 y 86 [i64 (b : Int), i64 (s : Int), i64 g, i64 d, i64 (x0), i64 (3), i64 (l6), i64 ((I : Nat) : Int), i64 (wo), i64 (vn)] from hyq)
        have HM5 := hid (RefAt.keep HM4.out (show Keep (fun c => c = y) w4 w5 from hkq) (fun c h => r6_far2 HM4.out HY4.out c h))
        have HK5 : Hid (Keep (fun c => (c = m ∨ lv.ownBlock = some c) ∨ c = y) w w5) := hid (HK4.out.trans (show Keep (fun c => c = y) w4 w5 from hkq) (fun c _ h => Or.inr h))
        have HA5 := HA4
        have HL5 := HL4
        clear qy4 HY4 HM4 HK4 HA4 HL4
        have qy5 := HY5.out.k10
        clear hyq hkq
        go_quiet (fail)
        obtain ⟨w6, hw6⟩ : ∃ w', w' = w5.drewN nq := ⟨_, rfl⟩
        rw [← hw6]
        have HY6 := hid (show Blk w6 y 86 [i64 (b : Int), i64 (s : Int), i64 g, i64 d, i64 (x0), i64 (3), i64 (l6), i64 ((I : Nat) : Int), i64 (wo), i64 (vn)] from by rw [hw6]; exact HY5.out.drewN nq)
        have HM6 := hid (RefAt.keep HM5.out (show Keep (fun c => c = y) w5 w6 from by rw [hw6]; exact (Keep.refl _ _).drewN nq) (fun c h => r6_far2 HM5.out HY5.out c h))
        have HK6 : Hid (Keep (fun c => (c = m ∨ lv.ownBlock = some c) ∨ c = y) w w6) := hid (HK5.out.trans (show Keep (fun c => c = y) w5 w6 from by rw [hw6]; exact (Keep.refl _ _).drewN nq) (fun c _ h => Or.inr h))
        have HA6 := HA5
        have HL6 := HL5
        clear qy5 HY5 HM5 HK5 HA5 HL5
        have qy6 := HY6.out.k10
        clear hw6
        go_wp2_with fail
        go_ret
        exact r6_end rfl (HM6.out.keep ((Keep.refl (fun c => c = y) w6)) (fun c h => r6_far2 HM6.out HY6.out c h)) (HK6.out.trans ((Keep.refl (fun c => c = y) w6)) (fun c _ h => Or.inr h)) HA6.out HL6.out (HY6.out) (by simp only [rcs6, Nat.add_sub_cancel_left]; rfl)
    · clear hvn
      have e : aNext b s g d ⟨W, L, 1, x0, l6, b + 4 + I, ww, vv⟩ = ⟨W, L ++ [⟨1, (b + 4 + I : Nat), wo, 0, false⟩], 3, x0, l6, b + 4 + I, wo, vn⟩ := by simp only [aNext]; rw [hwo, ← hvn', if_neg (by omega)]
      rw [e]
      clear e
      have dg1 : decide (-g < vn) = true := by simp; omega
      have dg2 : decide (vn < g) = false := by simp; omega
      clear hvn' hc hc2
      have y1 : IntKind.i64.wrap ((b : Int) + 4) = (b : Int) + 4 := IntWalk.i64_in _ (by omega)
      have y2 : IntKind.i64.wrap ((b : Int) + 4 + (I : Int)) = (b : Int) + 4 + (I : Int) := IntWalk.i64_in _ (by omega)
      go_enter Try.func39, Try.ntmps39
      go_wp2_with fail
      go_quiet (fail)
      obtain ⟨w1, hw1⟩ : ∃ w', w' = w.drewN nq := ⟨_, rfl⟩
      rw [← hw1]
      have HY1 := hid (show Blk w1 y 86 [i64 (b : Int), i64 (s : Int), i64 g, i64 d, i64 (x0), i64 (1), i64 (l6), i64 ((I : Nat) : Int), i64 (ww), i64 (vv)] from by rw [hw1]; exact HY0.out.drewN nq)
      have HM1 := hid (RefAt.keep HM0.out (show Keep (fun c => c = y) w w1 from by rw [hw1]; exact (Keep.refl _ _).drewN nq) (fun c h => r6_far2 HM0.out HY0.out c h))
      have HK1 : Hid (Keep (fun c => (c = m ∨ lv.ownBlock = some c) ∨ c = y) w w1) := hid (HK0.out.trans (show Keep (fun c => c = y) w w1 from by rw [hw1]; exact (Keep.refl _ _).drewN nq) (fun c _ h => Or.inr h))
      have HA1 := HA0
      have HL1 := HL0
      clear qy0 HY0 HM0 HK0 HA0 HL0
      have qy1 := HY1.out.k10
      clear hw1
      clear y1 y2
      go_wp2_with fail
      refine (r6_LoadJ ((b : Int) + 4 + (I : Int)) (b + 4 + I) (by omega) HM1.out (by omega) hL).mono ?_
      rintro e w2 ⟨rfl, A3, c3, lv3, hm, hk, ha, hl⟩
      have HY2 := hid (show Blk w2 y 86 [i64 (b : Int), i64 (s : Int), i64 g, i64 d, i64 (x0), i64 (1), i64 (l6), i64 ((I : Nat) : Int), i64 (ww), i64 (vv)] from hk.blk HY1.out (r6_far HM1.out HY1.out))
      have HM2 := hid hm
      have HK2 : Hid (Keep (fun c => (c = m ∨ lv.ownBlock = some c) ∨ c = y) w w2) := hid (HK1.out.trans hk (fun _ _ h => Or.inl h))
      have HA2 := hid (fun c h => (ha c h).imp id (fun h => Nat.le_trans HK1.out.size h))
      have HL2 := hid (fun c h => (hl c h).imp id (fun h => Nat.le_trans HK1.out.size h))
      clear hm hk ha hl qy1 HY1 HM1 HK1 HA1 HL1
      have qy2 := HY2.out.k10
      rw [hwo] at HM2
      rw [hwo]
      go_wp2_with fail
      have hyq := (show Blk ((w2).setCell ⟨y, 8, none⟩ (i64 (wo))) y 86 [i64 (b : Int), i64 (s : Int), i64 g, i64 d, i64 (x0), i64 (1), i64 (l6), i64 ((I : Nat) : Int), i64 (wo), i64 (vv)] from (HY2.out).set 8 _)
      have hkq := (show Keep (fun c => c = y) w2 ((w2).setCell ⟨y, 8, none⟩ (i64 (wo))) from ((Keep.refl (fun c => c = y) w2)).set ⟨y, 8, none⟩ _ (fun _ => rfl))
      generalize (w2).setCell ⟨y, 8, none⟩ (i64 (wo)) = w3 at *
      have HY3 := hid (show Blk w3 y 86 [i64 (b : Int), i64 (s : Int), i64 g, i64 d, i64 (x0), i64 (1), i64 (l6), i64 ((I : Nat) : Int), i64 (wo), i64 (vv)] from hyq)
      have HM3 := hid (RefAt.keep HM2.out (show Keep (fun c => c = y) w2 w3 from hkq) (fun c h => r6_far2 HM2.out HY2.out c h))
      have HK3 : Hid (Keep (fun c => (c = m ∨ lv.ownBlock = some c) ∨ c = y) w w3) := hid (HK2.out.trans (show Keep (fun c => c = y) w2 w3 from hkq) (fun c _ h => Or.inr h))
      have HA3 := HA2
      have HL3 := HL2
      clear qy2 HY2 HM2 HK2 HA2 HL2
      have qy3 := HY3.out.k10
      clear hyq hkq
      apply wp_region_text (WI := WEnd 13 (fun wx => Blk wx y 86 [i64 (b : Int), i64 (s : Int), i64 g, i64 d, i64 (x0), i64 (1), i64 (l6), i64 ((I : Nat) : Int), i64 (wo), i64 (vv)] ∧ Keep0 w3 wx) (fun wx => Blk wx y 86 [i64 (b : Int), i64 (s : Int), i64 g, i64 d, i64 (x0), i64 (1), i64 (l6), i64 ((I : Nat) : Int), i64 (wo), i64 (vn)] ∧ Keep (fun c => c = y) w3 wx)) (by kernel_rfl) (by kernel_rfl)
      case hob =>
        apply Oblig.cons
        case h =>
          intro S w1 hwi hSi hd hcl
          apply StepOk.intro
          intro K hK
          go_simp
          apply hK
          · rfl
          · conv => (lhs; whnf)
          · exact hwi.fixed (by decide)
        simp only [put_lit, put_none]
        try dsimp only [List.set_cons_succ, List.set_cons_zero]
        apply Oblig.cons
        case h =>
          intro S w1 hwi hSi hd hcl
          apply StepOk.intro
          intro K hK
          go_simp
          apply hK
          · rfl
          · conv => (lhs; whnf)
          · exact hwi.fixed (by decide)
        simp only [put_lit, put_none]
        try dsimp only [List.set_cons_succ, List.set_cons_zero]
        apply Oblig.cons
        case h =>
          intro S w1 hwi hSi hd hcl
          apply StepOk.intro
          intro K hK
          go_simp
          apply hK
          · rfl
          · conv => (lhs; whnf)
          · exact hwi.fixed (by decide)
        simp only [put_lit, put_none]
        try dsimp only [List.set_cons_succ, List.set_cons_zero]
        apply Oblig.cons
        case h =>
          intro S w1 hwi hSi hd hcl
          apply StepOk.intro
          intro K hK
          go_simp
          apply hK
          · rfl
          · conv => (lhs; whnf)
          · exact hwi.fixed (by decide)
        simp only [put_lit, put_none]
        try dsimp only [List.set_cons_succ, List.set_cons_zero]
        apply Oblig.cons
        case h =>
          intro S w1 hwi hSi hd hcl
          apply StepOk.intro
          intro K hK
          have hlast : S 13 = false := by
            cases h : S 13 with
            | false => rfl
            | true => exact absurd ((hcl 13 _ rfl h) ⟨4, .phase⟩ (by simp) rfl) (by rw [hSi]; decide)
          have qyq := (hwi.1 hlast).1.k10
          go_simp
          apply hK
          · rfl
          · conv => (lhs; whnf)
          · exact hwi.fixed (by decide)
        simp only [put_lit, put_none]
        try dsimp only [List.set_cons_succ, List.set_cons_zero]
        apply Oblig.cons
        case h =>
          intro S w1 hwi hSi hd hcl
          apply StepOk.intro
          intro K hK
          go_simp
          refine (ref1_Value wo _).mono ?_
          rintro e w2 ⟨rfl, rfl⟩
          apply hK
          · rfl
          · conv => (lhs; whnf)
          · exact hwi.fixed (by decide)
        simp only [put_lit, put_none]
        try dsimp only [List.set_cons_succ, List.set_cons_zero]
        apply Oblig.cons
        case h =>
          intro S w1 hwi hSi hd hcl
          apply StepOk.intro
          intro K hK
          go_simp
          apply hK
          · rfl
          · conv => (lhs; whnf)
          · exact hwi.fixed (by decide)
        simp only [put_lit, put_none]
        try dsimp only [List.set_cons_succ, List.set_cons_zero]
        apply Oblig.cons
        case h =>
          intro S w1 hwi hSi hd hcl
          apply StepOk.intro
          intro K hK
          go_simp
          apply hK
          · rfl
          · conv => (lhs; whnf)
          · exact hwi.fixed (by decide)
        simp only [put_lit, put_none]
        try dsimp only [List.set_cons_succ, List.set_cons_zero]
        apply Oblig.cons
        case h =>
          intro S w1 hwi hSi hd hcl
          apply StepOk.intro
          intro K hK
          go_simp
          apply hK
          · rfl
          · conv => (lhs; whnf)
          · exact hwi.fixed (by decide)
        simp only [put_lit, put_none]
        try dsimp only [List.set_cons_succ, List.set_cons_zero]
        apply Oblig.cons
        case h =>
          intro S w1 hwi hSi hd hcl
          apply StepOk.intro
          intro K hK
          have hlast : S 13 = false := by
            cases h : S 13 with
            | false => rfl
            | true => exact absurd ((hcl 13 _ rfl h) ⟨9, .phase⟩ (by simp) rfl) (by rw [hSi]; decide)
          have qyq := (hwi.1 hlast).1.k10
          go_simp
          apply hK
          · rfl
          · conv => (lhs; whnf)
          · exact hwi.fixed (by decide)
        simp only [put_lit, put_none]
        try dsimp only [List.set_cons_succ, List.set_cons_zero]
        apply Oblig.cons
        case h =>
          intro S w1 hwi hSi hd hcl
          apply StepOk.intro
          intro K hK
          go_simp
          apply hK
          · rfl
          · conv => (lhs; whnf)
          · exact hwi.fixed (by decide)
        simp only [put_lit, put_none]
        try dsimp only [List.set_cons_succ, List.set_cons_zero]
        apply Oblig.cons
        case h =>
          intro S w1 hwi hSi hd hcl
          apply StepOk.intro
          intro K hK
          go_simp
          apply hK
          · rfl
          · conv => (lhs; whnf)
          · exact hwi.fixed (by decide)
        simp only [put_lit, put_none]
        try dsimp only [List.set_cons_succ, List.set_cons_zero]
        apply Oblig.cons
        case h =>
          intro S w1 hwi hSi hd hcl
          apply StepOk.intro
          intro K hK
          go_simp
          apply hK
          · rfl
          · conv => (lhs; whnf)
          · exact hwi.fixed (by decide)
        simp only [put_lit, put_none]
        try dsimp only [List.set_cons_succ, List.set_cons_zero]
        apply Oblig.cons
        case h =>
          intro S w1 hwi hSi hd hcl
          apply StepOk.intro
          intro K hK
          have qyq := (hwi.1 hSi).1.k10
          go_simp
          apply hK
          · rfl
          · conv => (lhs; whnf)
          · exact WEnd.done ⟨(hwi.1 hSi).1.set 9 _, ((hwi.1 hSi).2.mono (fun _ h => h.elim)).set ⟨y, 9, none⟩ _ (fun _ => rfl)⟩
        simp only [put_lit, put_none]
        try dsimp only [List.set_cons_succ, List.set_cons_zero]
        exact Oblig.nil
      case h0 =>
        exact ⟨fun _ => ⟨HY3.out.drew, (Keep.refl _ _).drew⟩, (fun h => by cases h)⟩
      case hend =>
        intro S wx hwi hall
        obtain ⟨hyq, hkq⟩ := hwi.2 (hall 13 (by decide))
        obtain ⟨w4, hw4⟩ : ∃ w', w' = wx := ⟨_, rfl⟩
        rw [← hw4] at hyq hkq
        rw [← hw4]
        have HY4 := hid (show Blk w4 y 86 [i64 (b : Int), i64 (s : Int), i64 g, i64 d, i64 (x0), i64 (1), i64 (l6), i64 ((I : Nat) : Int), i64 (wo), i64 (vn)] from hyq)
        have HM4 := hid (RefAt.keep HM3.out (show Keep (fun c => c = y) w3 w4 from hkq) (fun c h => r6_far2 HM3.out HY3.out c h))
        have HK4 : Hid (Keep (fun c => (c = m ∨ lv.ownBlock = some c) ∨ c = y) w w4) := hid (HK3.out.trans (show Keep (fun c => c = y) w3 w4 from hkq) (fun c _ h => Or.inr h))
        have HA4 := HA3
        have HL4 := HL3
        clear qy3 HY3 HM3 HK3 HA3 HL3
        have qy4 := HY4.out.k10
        clear hw4 hyq hkq hwi hall
        go_wp2_with fail
        have hyq := (show Blk ((w4).setCell ⟨y, 5, none⟩ (i64 (3))) y 86 [i64 (b : Int), i64 (s : Int), i64 g, i64 d, i64 (x0), i64 (3), i64 (l6), i64 ((I : Nat) : Int), i64 (wo), i64 (vn)] from (HY4.out).set 5 _)
        have hkq := (show Keep (fun c => c = y) w4 ((w4).setCell ⟨y, 5, none⟩ (i64 (3))) from ((Keep.refl (fun c => c = y) w4)).set ⟨y, 5, none⟩ _ (fun _ => rfl))
        generalize (w4).setCell ⟨y, 5, none⟩ (i64 (3)) = w5 at *
        have HY5 := hid (show Blk w5 y 86 [i64 (b : Int), i64 (s : Int), i64 g, i64 d, i64 (x0), i64 (3), i64 (l6), i64 ((I : Nat) : Int), i64 (wo), i64 (vn)] from hyq)
        have HM5 := hid (RefAt.keep HM4.out (show Keep (fun c => c = y) w4 w5 from hkq) (fun c h => r6_far2 HM4.out HY4.out c h))
        have HK5 : Hid (Keep (fun c => (c = m ∨ lv.ownBlock = some c) ∨ c = y) w w5) := hid (HK4.out.trans (show Keep (fun c => c = y) w4 w5 from hkq) (fun c _ h => Or.inr h))
        have HA5 := HA4
        have HL5 := HL4
        clear qy4 HY4 HM4 HK4 HA4 HL4
        have qy5 := HY5.out.k10
        clear hyq hkq
        go_quiet (fail)
        obtain ⟨w6, hw6⟩ : ∃ w', w' = w5.drewN nq := ⟨_, rfl⟩
        rw [← hw6]
        have HY6 := hid (show Blk w6 y 86 [i64 (b : Int), i64 (s : Int), i64 g, i64 d, i64 (x0), i64 (3), i64 (l6), i64 ((I : Nat) : Int), i64 (wo), i64 (vn)] from by rw [hw6]; exact HY5.out.drewN nq)
        have HM6 := hid (RefAt.keep HM5.out (show Keep (fun c => c = y) w5 w6 from by rw [hw6]; exact (Keep.refl _ _).drewN nq) (fun c h => r6_far2 HM5.out HY5.out c h))
        have HK6 : Hid (Keep (fun c => (c = m ∨ lv.ownBlock = some c) ∨ c = y) w w6) := hid (HK5.out.trans (show Keep (fun c => c = y) w5 w6 from by rw [hw6]; exact (Keep.refl _ _).drewN nq) (fun c _ h => Or.inr h))
        have HA6 := HA5
        have HL6 := HL5
        clear qy5 HY5 HM5 HK5 HA5 HL5
        have qy6 := HY6.out.k10
        clear hw6
        go_wp2_with fail
        go_ret
        exact r6_end rfl (HM6.out.keep ((Keep.refl (fun c => c = y) w6)) (fun c h => r6_far2 HM6.out HY6.out c h)) (HK6.out.trans ((Keep.refl (fun c => c = y) w6)) (fun c _ h => Or.inr h)) HA6.out HL6.out (HY6.out) (by simp only [rcs6, Nat.add_sub_cancel_left]; rfl)
set_option maxHeartbeats 4000000 in
theorem r6_step2 (hm : RefAt B w m A ca lv W L) (hy : Blk w y 86 [i64 (b : Int), i64 (s : Int), i64 g, i64 d, i64 (x0), i64 (2), i64 (l6), i64 ((I : Nat) : Int), i64 (ww), i64 (vv)]) (hi : AInv b s g d ⟨W, L, 2, x0, l6, b + 4 + I, ww, vv⟩) (hb0 : b ≤ 1000) (hIb : I ≤ 2000) (hL : L.length ≤ 1000000000) :
    Calls Try.prog 39 #[ptr y, ptr m] w (R6P B w m A lv y b s g d (aNext b s g d ⟨W, L, 2, x0, l6, b + 4 + I, ww, vv⟩)) := by
  obtain ⟨ln, wl, s1, g1, d1, lw, xb, nx, lb, pb, vb, gr⟩ := hi
  simp only at *
  have hs8 : 1 ≤ s ∧ s ≤ 8 := by unfold p2 at s1; omega
  have hW : W.length ≤ 1000000 := by omega
  have HY0 : Hid (Blk w y 86 [i64 (b : Int), i64 (s : Int), i64 g, i64 d, i64 (x0), i64 (2), i64 (l6), i64 ((I : Nat) : Int), i64 (ww), i64 (vv)]) := hid hy
  have qy0 := HY0.out.k10
  have HM0 := hid hm
  have HK0 : Hid (Keep (fun c => (c = m ∨ lv.ownBlock = some c) ∨ c = y) w w) := hid (Keep.refl _ _)
  have HA0 := hid (fun (c : Nat) (h : (Value.slice A 0 0).ownBlock = some c) => (Or.inl h : (Value.slice A 0 0).ownBlock = some c ∨ w.heap.size ≤ c))
  have HL0 := hid (fun (c : Nat) (h : lv.ownBlock = some c) => (Or.inl h : lv.ownBlock = some c ∨ w.heap.size ≤ c))
  clear hy hm
  cases hq : (rd W (b + 4 + I) == ww)
  · by_cases hc : l6 < (s : Int)
    · have pb' := pb (by omega) (by omega)
      have h0 := hq
      simp only [beq_iff_eq, beq_eq_false_iff_ne, ne_eq] at h0
      have e : aNext b s g d ⟨W, L, 2, x0, l6, b + 4 + I, ww, vv⟩ = ⟨casW W (b + 4 + I) ww (pNext6 ww vv), L ++ [⟨3, (b + 4 + I : Nat), ww, pNext6 ww vv, false⟩], 8, x0, l6, b + 4 + I, ww, vv⟩ := by simp only [aNext]; rw [if_neg h0, hq]; simp only [aMiss]; rw [if_pos (by omega)]
      rw [e]
      clear e h0
      have HQ := hid hq
      clear hq
      have E1 := hid (show m6x s l6 x0 = x0 from if_pos (by omega))
      have E2 := hid (show m6a s l6 = 8 from if_pos (by omega))
      have y1 : IntKind.i64.wrap ((b : Int) + 4) = (b : Int) + 4 := IntWalk.i64_in _ (by omega)
      have y2 : IntKind.i64.wrap ((b : Int) + 4 + (I : Int)) = (b : Int) + 4 + (I : Int) := IntWalk.i64_in _ (by omega)
      go_enter Try.func39, Try.ntmps39
      go_wp2_with fail
      go_quiet (fail)
      obtain ⟨w1, hw1⟩ : ∃ w', w' = w.drewN nq := ⟨_, rfl⟩
      rw [← hw1]
      have HY1 := hid (show Blk w1 y 86 [i64 (b : Int), i64 (s : Int), i64 g, i64 d, i64 (x0), i64 (2), i64 (l6), i64 ((I : Nat) : Int), i64 (ww), i64 (vv)] from by rw [hw1]; exact HY0.out.drewN nq)
      have HM1 := hid (RefAt.keep HM0.out (show Keep (fun c => c = y) w w1 from by rw [hw1]; exact (Keep.refl _ _).drewN nq) (fun c h => r6_far2 HM0.out HY0.out c h))
      have HK1 : Hid (Keep (fun c => (c = m ∨ lv.ownBlock = some c) ∨ c = y) w w1) := hid (HK0.out.trans (show Keep (fun c => c = y) w w1 from by rw [hw1]; exact (Keep.refl _ _).drewN nq) (fun c _ h => Or.inr h))
      have HA1 := HA0
      have HL1 := HL0
      clear qy0 HY0 HM0 HK0 HA0 HL0
      have qy1 := HY1.out.k10
      clear hw1
      clear y1 y2
      have vb' : -g < vv ∧ vv < g := by simpa using vb
      go_wp2_with fail
      go_quiet ((go_at_call 36; exact Calls.quiet_of_same ((ref1_Next ww (vv) _ (by omega)).mono (fun _ _ h => ⟨h.1, h.2.symm⟩))))
      obtain ⟨w2, hw2⟩ : ∃ w', w' = w1.drewN nq := ⟨_, rfl⟩
      rw [← hw2]
      have HY2 := hid (show Blk w2 y 86 [i64 (b : Int), i64 (s : Int), i64 g, i64 d, i64 (x0), i64 (2), i64 (l6), i64 ((I : Nat) : Int), i64 (ww), i64 (vv)] from by rw [hw2]; exact HY1.out.drewN nq)
      have HM2 := hid (RefAt.keep HM1.out (show Keep (fun c => c = y) w1 w2 from by rw [hw2]; exact (Keep.refl _ _).drewN nq) (fun c h => r6_far2 HM1.out HY1.out c h))
      have HK2 : Hid (Keep (fun c => (c = m ∨ lv.ownBlock = some c) ∨ c = y) w w2) := hid (HK1.out.trans (show Keep (fun c => c = y) w1 w2 from by rw [hw2]; exact (Keep.refl _ _).drewN nq) (fun c _ h => Or.inr h))
      have HA2 := HA1
      have HL2 := HL1
      clear qy1 HY1 HM1 HK1 HA1 HL1
      have qy2 := HY2.out.k10
      clear hw2
      go_wp2_with fail
      refine (r6_CasB ((b : Int) + 4 + (I : Int)) (b + 4 + I) (by omega) ww (pNext6 ww vv) false HQ.out HM2.out (by omega) hW hL).mono ?_
      rintro e w3 ⟨rfl, A3, c3, lv3, hm, hk, ha, hl⟩
      have HY3 := hid (show Blk w3 y 86 [i64 (b : Int), i64 (s : Int), i64 g, i64 d, i64 (x0), i64 (2), i64 (l6), i64 ((I : Nat) : Int), i64 (ww), i64 (vv)] from hk.blk HY2.out (r6_far HM2.out HY2.out))
      have HM3 := hid hm
      have HK3 : Hid (Keep (fun c => (c = m ∨ lv.ownBlock = some c) ∨ c = y) w w3) := hid (HK2.out.trans hk (fun _ _ h => Or.inl h))
      have HA3 := hid (fun c h => (ha c h).imp id (fun h => Nat.le_trans HK2.out.size h))
      have HL3 := hid (fun c h => (hl c h).imp id (fun h => Nat.le_trans HK2.out.size h))
      clear hm hk ha hl qy2 HY2 HM2 HK2 HA2 HL2
      have qy3 := HY3.out.k10
      go_wp2_with fail
      refine (show Calls Try.prog 49 #[ptr y] w3 (fun e w' => e = .returned (.tuple #[]) ∧ Blk w' y 86 [i64 (b : Int), i64 (s : Int), i64 g, i64 d, i64 (x0), i64 (8), i64 (l6), i64 ((I : Nat) : Int), i64 (ww), i64 (vv)] ∧ Keep (fun c => c = y) w3 w') from by have h := r6_miss HY3.out xb; rw [E1.out, E2.out] at h; exact h).mono ?_
      rintro e w4 ⟨rfl, hyq, hkq⟩
      have HY4 := hid (show Blk w4 y 86 [i64 (b : Int), i64 (s : Int), i64 g, i64 d, i64 (x0), i64 (8), i64 (l6), i64 ((I : Nat) : Int), i64 (ww), i64 (vv)] from hyq)
      have HM4 := hid (RefAt.keep HM3.out (show Keep (fun c => c = y) w3 w4 from hkq) (fun c h => r6_far2 HM3.out HY3.out c h))
      have HK4 : Hid (Keep (fun c => (c = m ∨ lv.ownBlock = some c) ∨ c = y) w w4) := hid (HK3.out.trans (show Keep (fun c => c = y) w3 w4 from hkq) (fun c _ h => Or.inr h))
      have HA4 := HA3
      have HL4 := HL3
      clear qy3 HY3 HM3 HK3 HA3 HL3
      have qy4 := HY4.out.k10
      clear hyq hkq
      go_wp2_with fail
      go_ret
      exact r6_end rfl (HM4.out.keep ((Keep.refl (fun c => c = y) w4)) (fun c h => r6_far2 HM4.out HY4.out c h)) (HK4.out.trans ((Keep.refl (fun c => c = y) w4)) (fun c _ h => Or.inr h)) HA4.out HL4.out (HY4.out) (by simp only [rcs6, Nat.add_sub_cancel_left]; rfl)
    · have pb' := pb (by omega) (by omega)
      have h0 := hq
      simp only [beq_iff_eq, beq_eq_false_iff_ne, ne_eq] at h0
      have e : aNext b s g d ⟨W, L, 2, x0, l6, b + 4 + I, ww, vv⟩ = ⟨casW W (b + 4 + I) ww (pNext6 ww vv), L ++ [⟨3, (b + 4 + I : Nat), ww, pNext6 ww vv, false⟩], 0, dNext x0, l6, b + 4 + I, ww, vv⟩ := by simp only [aNext]; rw [if_neg h0, hq]; simp only [aMiss]; rw [if_neg (by omega)]
      rw [e]
      clear e h0
      have HQ := hid hq
      clear hq
      have E1 := hid (show m6x s l6 x0 = dNext x0 from if_neg (by omega))
      have E2 := hid (show m6a s l6 = 0 from if_neg (by omega))
      have y1 : IntKind.i64.wrap ((b : Int) + 4) = (b : Int) + 4 := IntWalk.i64_in _ (by omega)
      have y2 : IntKind.i64.wrap ((b : Int) + 4 + (I : Int)) = (b : Int) + 4 + (I : Int) := IntWalk.i64_in _ (by omega)
      go_enter Try.func39, Try.ntmps39
      go_wp2_with fail
      go_quiet (fail)
      obtain ⟨w1, hw1⟩ : ∃ w', w' = w.drewN nq := ⟨_, rfl⟩
      rw [← hw1]
      have HY1 := hid (show Blk w1 y 86 [i64 (b : Int), i64 (s : Int), i64 g, i64 d, i64 (x0), i64 (2), i64 (l6), i64 ((I : Nat) : Int), i64 (ww), i64 (vv)] from by rw [hw1]; exact HY0.out.drewN nq)
      have HM1 := hid (RefAt.keep HM0.out (show Keep (fun c => c = y) w w1 from by rw [hw1]; exact (Keep.refl _ _).drewN nq) (fun c h => r6_far2 HM0.out HY0.out c h))
      have HK1 : Hid (Keep (fun c => (c = m ∨ lv.ownBlock = some c) ∨ c = y) w w1) := hid (HK0.out.trans (show Keep (fun c => c = y) w w1 from by rw [hw1]; exact (Keep.refl _ _).drewN nq) (fun c _ h => Or.inr h))
      have HA1 := HA0
      have HL1 := HL0
      clear qy0 HY0 HM0 HK0 HA0 HL0
      have qy1 := HY1.out.k10
      clear hw1
      clear y1 y2
      have vb' : -g < vv ∧ vv < g := by simpa using vb
      go_wp2_with fail
      go_quiet ((go_at_call 36; exact Calls.quiet_of_same ((ref1_Next ww (vv) _ (by omega)).mono (fun _ _ h => ⟨h.1, h.2.symm⟩))))
      obtain ⟨w2, hw2⟩ : ∃ w', w' = w1.drewN nq := ⟨_, rfl⟩
      rw [← hw2]
      have HY2 := hid (show Blk w2 y 86 [i64 (b : Int), i64 (s : Int), i64 g, i64 d, i64 (x0), i64 (2), i64 (l6), i64 ((I : Nat) : Int), i64 (ww), i64 (vv)] from by rw [hw2]; exact HY1.out.drewN nq)
      have HM2 := hid (RefAt.keep HM1.out (show Keep (fun c => c = y) w1 w2 from by rw [hw2]; exact (Keep.refl _ _).drewN nq) (fun c h => r6_far2 HM1.out HY1.out c h))
      have HK2 : Hid (Keep (fun c => (c = m ∨ lv.ownBlock = some c) ∨ c = y) w w2) := hid (HK1.out.trans (show Keep (fun c => c = y) w1 w2 from by rw [hw2]; exact (Keep.refl _ _).drewN nq) (fun c _ h => Or.inr h))
      have HA2 := HA1
      have HL2 := HL1
      clear qy1 HY1 HM1 HK1 HA1 HL1
      have qy2 := HY2.out.k10
      clear hw2
      go_wp2_with fail
      refine (r6_CasB ((b : Int) + 4 + (I : Int)) (b + 4 + I) (by omega) ww (pNext6 ww vv) false HQ.out HM2.out (by omega) hW hL).mono ?_
      rintro e w3 ⟨rfl, A3, c3, lv3, hm, hk, ha, hl⟩
      have HY3 := hid (show Blk w3 y 86 [i64 (b : Int), i64 (s : Int), i64 g, i64 d, i64 (x0), i64 (2), i64 (l6), i64 ((I : Nat) : Int), i64 (ww), i64 (vv)] from hk.blk HY2.out (r6_far HM2.out HY2.out))
      have HM3 := hid hm
      have HK3 : Hid (Keep (fun c => (c = m ∨ lv.ownBlock = some c) ∨ c = y) w w3) := hid (HK2.out.trans hk (fun _ _ h => Or.inl h))
      have HA3 := hid (fun c h => (ha c h).imp id (fun h => Nat.le_trans HK2.out.size h))
      have HL3 := hid (fun c h => (hl c h).imp id (fun h => Nat.le_trans HK2.out.size h))
      clear hm hk ha hl qy2 HY2 HM2 HK2 HA2 HL2
      have qy3 := HY3.out.k10
      go_wp2_with fail
      refine (show Calls Try.prog 49 #[ptr y] w3 (fun e w' => e = .returned (.tuple #[]) ∧ Blk w' y 86 [i64 (b : Int), i64 (s : Int), i64 g, i64 d, i64 (dNext x0), i64 (0), i64 (l6), i64 ((I : Nat) : Int), i64 (ww), i64 (vv)] ∧ Keep (fun c => c = y) w3 w') from by have h := r6_miss HY3.out xb; rw [E1.out, E2.out] at h; exact h).mono ?_
      rintro e w4 ⟨rfl, hyq, hkq⟩
      have HY4 := hid (show Blk w4 y 86 [i64 (b : Int), i64 (s : Int), i64 g, i64 d, i64 (dNext x0), i64 (0), i64 (l6), i64 ((I : Nat) : Int), i64 (ww), i64 (vv)] from hyq)
      have HM4 := hid (RefAt.keep HM3.out (show Keep (fun c => c = y) w3 w4 from hkq) (fun c h => r6_far2 HM3.out HY3.out c h))
      have HK4 : Hid (Keep (fun c => (c = m ∨ lv.ownBlock = some c) ∨ c = y) w w4) := hid (HK3.out.trans (show Keep (fun c => c = y) w3 w4 from hkq) (fun c _ h => Or.inr h))
      have HA4 := HA3
      have HL4 := HL3
      clear qy3 HY3 HM3 HK3 HA3 HL3
      have qy4 := HY4.out.k10
      clear hyq hkq
      go_wp2_with fail
      go_ret
      exact r6_end rfl (HM4.out.keep ((Keep.refl (fun c => c = y) w4)) (fun c h => r6_far2 HM4.out HY4.out c h)) (HK4.out.trans ((Keep.refl (fun c => c = y) w4)) (fun c _ h => Or.inr h)) HA4.out HL4.out (HY4.out) (by simp only [rcs6, Nat.add_sub_cancel_left]; rfl)
  · have pb' := pb (by omega) (by omega)
    have h0 := hq
    simp only [beq_iff_eq, beq_eq_false_iff_ne, ne_eq] at h0
    have e : aNext b s g d ⟨W, L, 2, x0, l6, b + 4 + I, ww, vv⟩ = ⟨casW W (b + 4 + I) ww (pNext6 ww vv), L ++ [⟨3, (b + 4 + I : Nat), ww, pNext6 ww vv, true⟩], 9, x0, l6, b + 4 + I, ww, vv⟩ := by simp only [aNext]; rw [if_pos h0, hq]
    rw [e]
    clear e h0
    have HQ := hid hq
    clear hq
    have y1 : IntKind.i64.wrap ((b : Int) + 4) = (b : Int) + 4 := IntWalk.i64_in _ (by omega)
    have y2 : IntKind.i64.wrap ((b : Int) + 4 + (I : Int)) = (b : Int) + 4 + (I : Int) := IntWalk.i64_in _ (by omega)
    go_enter Try.func39, Try.ntmps39
    go_wp2_with fail
    go_quiet (fail)
    obtain ⟨w1, hw1⟩ : ∃ w', w' = w.drewN nq := ⟨_, rfl⟩
    rw [← hw1]
    have HY1 := hid (show Blk w1 y 86 [i64 (b : Int), i64 (s : Int), i64 g, i64 d, i64 (x0), i64 (2), i64 (l6), i64 ((I : Nat) : Int), i64 (ww), i64 (vv)] from by rw [hw1]; exact HY0.out.drewN nq)
    have HM1 := hid (RefAt.keep HM0.out (show Keep (fun c => c = y) w w1 from by rw [hw1]; exact (Keep.refl _ _).drewN nq) (fun c h => r6_far2 HM0.out HY0.out c h))
    have HK1 : Hid (Keep (fun c => (c = m ∨ lv.ownBlock = some c) ∨ c = y) w w1) := hid (HK0.out.trans (show Keep (fun c => c = y) w w1 from by rw [hw1]; exact (Keep.refl _ _).drewN nq) (fun c _ h => Or.inr h))
    have HA1 := HA0
    have HL1 := HL0
    clear qy0 HY0 HM0 HK0 HA0 HL0
    have qy1 := HY1.out.k10
    clear hw1
    clear y1 y2
    have vb' : -g < vv ∧ vv < g := by simpa using vb
    go_wp2_with fail
    go_quiet ((go_at_call 36; exact Calls.quiet_of_same ((ref1_Next ww (vv) _ (by omega)).mono (fun _ _ h => ⟨h.1, h.2.symm⟩))))
    obtain ⟨w2, hw2⟩ : ∃ w', w' = w1.drewN nq := ⟨_, rfl⟩
    rw [← hw2]
    have HY2 := hid (show Blk w2 y 86 [i64 (b : Int), i64 (s : Int), i64 g, i64 d, i64 (x0), i64 (2), i64 (l6), i64 ((I : Nat) : Int), i64 (ww), i64 (vv)] from by rw [hw2]; exact HY1.out.drewN nq)
    have HM2 := hid (RefAt.keep HM1.out (show Keep (fun c => c = y) w1 w2 from by rw [hw2]; exact (Keep.refl _ _).drewN nq) (fun c h => r6_far2 HM1.out HY1.out c h))
    have HK2 : Hid (Keep (fun c => (c = m ∨ lv.ownBlock = some c) ∨ c = y) w w2) := hid (HK1.out.trans (show Keep (fun c => c = y) w1 w2 from by rw [hw2]; exact (Keep.refl _ _).drewN nq) (fun c _ h => Or.inr h))
    have HA2 := HA1
    have HL2 := HL1
    clear qy1 HY1 HM1 HK1 HA1 HL1
    have qy2 := HY2.out.k10
    clear hw2
    go_wp2_with fail
    refine (r6_CasB ((b : Int) + 4 + (I : Int)) (b + 4 + I) (by omega) ww (pNext6 ww vv) true HQ.out HM2.out (by omega) hW hL).mono ?_
    rintro e w3 ⟨rfl, A3, c3, lv3, hm, hk, ha, hl⟩
    have HY3 := hid (show Blk w3 y 86 [i64 (b : Int), i64 (s : Int), i64 g, i64 d, i64 (x0), i64 (2), i64 (l6), i64 ((I : Nat) : Int), i64 (ww), i64 (vv)] from hk.blk HY2.out (r6_far HM2.out HY2.out))
    have HM3 := hid hm
    have HK3 : Hid (Keep (fun c => (c = m ∨ lv.ownBlock = some c) ∨ c = y) w w3) := hid (HK2.out.trans hk (fun _ _ h => Or.inl h))
    have HA3 := hid (fun c h => (ha c h).imp id (fun h => Nat.le_trans HK2.out.size h))
    have HL3 := hid (fun c h => (hl c h).imp id (fun h => Nat.le_trans HK2.out.size h))
    clear hm hk ha hl qy2 HY2 HM2 HK2 HA2 HL2
    have qy3 := HY3.out.k10
    go_wp2_with fail
    go_ret
    exact r6_end rfl (HM3.out.keep (((Keep.refl (fun c => c = y) w3)).set ⟨y, 5, none⟩ _ (fun _ => rfl)) (fun c h => r6_far2 HM3.out HY3.out c h)) (HK3.out.trans (((Keep.refl (fun c => c = y) w3)).set ⟨y, 5, none⟩ _ (fun _ => rfl)) (fun c _ h => Or.inr h)) HA3.out HL3.out ((HY3.out).set 5 _) (by simp only [rcs6, Nat.add_sub_cancel_left]; rfl)
set_option maxHeartbeats 4000000 in
theorem r6_step3 (hm : RefAt B w m A ca lv W L) (hy : Blk w y 86 [i64 (b : Int), i64 (s : Int), i64 g, i64 d, i64 (x0), i64 (3), i64 (l6), i64 ((I : Nat) : Int), i64 (ww), i64 (vv)]) (hi : AInv b s g d ⟨W, L, 3, x0, l6, b + 4 + I, ww, vv⟩) (hb0 : b ≤ 1000) (hIb : I ≤ 2000) (hL : L.length ≤ 1000000000) :
    Calls Try.prog 39 #[ptr y, ptr m] w (R6P B w m A lv y b s g d (aNext b s g d ⟨W, L, 3, x0, l6, b + 4 + I, ww, vv⟩)) := by
  obtain ⟨ln, wl, s1, g1, d1, lw, xb, nx, lb, pb, vb, gr⟩ := hi
  simp only at *
  have hs8 : 1 ≤ s ∧ s ≤ 8 := by unfold p2 at s1; omega
  have hW : W.length ≤ 1000000 := by omega
  have HY0 : Hid (Blk w y 86 [i64 (b : Int), i64 (s : Int), i64 g, i64 d, i64 (x0), i64 (3), i64 (l6), i64 ((I : Nat) : Int), i64 (ww), i64 (vv)]) := hid hy
  have qy0 := HY0.out.k10
  have HM0 := hid hm
  have HK0 : Hid (Keep (fun c => (c = m ∨ lv.ownBlock = some c) ∨ c = y) w w) := hid (Keep.refl _ _)
  have HA0 := hid (fun (c : Nat) (h : (Value.slice A 0 0).ownBlock = some c) => (Or.inl h : (Value.slice A 0 0).ownBlock = some c ∨ w.heap.size ≤ c))
  have HL0 := hid (fun (c : Nat) (h : lv.ownBlock = some c) => (Or.inl h : lv.ownBlock = some c ∨ w.heap.size ≤ c))
  clear hy hm
  have e : aNext b s g d ⟨W, L, 3, x0, l6, b + 4 + I, ww, vv⟩ = ⟨W.set (b + 1) (wrap64 (rd W (b + 1) + 1)), L ++ [⟨2, (b + 1 : Nat), 1, wrap64 (rd W (b + 1) + 1), false⟩], 4, x0, l6, b + 4 + I, ww, vv⟩ := rfl
  rw [e]
  clear e
  have y1 : IntKind.i64.wrap ((b : Int) + 4) = (b : Int) + 4 := IntWalk.i64_in _ (by omega)
  have y2 : IntKind.i64.wrap ((b : Int) + 4 + (I : Int)) = (b : Int) + 4 + (I : Int) := IntWalk.i64_in _ (by omega)
  go_enter Try.func39, Try.ntmps39
  go_wp2_with fail
  go_quiet (fail)
  obtain ⟨w1, hw1⟩ : ∃ w', w' = w.drewN nq := ⟨_, rfl⟩
  rw [← hw1]
  have HY1 := hid (show Blk w1 y 86 [i64 (b : Int), i64 (s : Int), i64 g, i64 d, i64 (x0), i64 (3), i64 (l6), i64 ((I : Nat) : Int), i64 (ww), i64 (vv)] from by rw [hw1]; exact HY0.out.drewN nq)
  have HM1 := hid (RefAt.keep HM0.out (show Keep (fun c => c = y) w w1 from by rw [hw1]; exact (Keep.refl _ _).drewN nq) (fun c h => r6_far2 HM0.out HY0.out c h))
  have HK1 : Hid (Keep (fun c => (c = m ∨ lv.ownBlock = some c) ∨ c = y) w w1) := hid (HK0.out.trans (show Keep (fun c => c = y) w w1 from by rw [hw1]; exact (Keep.refl _ _).drewN nq) (fun c _ h => Or.inr h))
  have HA1 := HA0
  have HL1 := HL0
  clear qy0 HY0 HM0 HK0 HA0 HL0
  have qy1 := HY1.out.k10
  clear hw1
  clear y1 y2
  have y8 : IntKind.i64.wrap ((b : Int) + 1) = (b : Int) + 1 := IntWalk.i64_in _ (by omega)
  go_wp2_with fail
  refine (r6_AddJ ((b : Int) + 1) (b + 1) (by omega) 1 HM1.out (by omega) hW hL).mono ?_
  rintro e w2 ⟨rfl, A3, c3, lv3, hm, hk, ha, hl⟩
  have HY2 := hid (show Blk w2 y 86 [i64 (b : Int), i64 (s : Int), i64 g, i64 d, i64 (x0), i64 (3), i64 (l6), i64 ((I : Nat) : Int), i64 (ww), i64 (vv)] from hk.blk HY1.out (r6_far HM1.out HY1.out))
  have HM2 := hid hm
  have HK2 : Hid (Keep (fun c => (c = m ∨ lv.ownBlock = some c) ∨ c = y) w w2) := hid (HK1.out.trans hk (fun _ _ h => Or.inl h))
  have HA2 := hid (fun c h => (ha c h).imp id (fun h => Nat.le_trans HK1.out.size h))
  have HL2 := hid (fun c h => (hl c h).imp id (fun h => Nat.le_trans HK1.out.size h))
  clear hm hk ha hl qy1 HY1 HM1 HK1 HA1 HL1
  have qy2 := HY2.out.k10
  go_wp2_with fail
  go_ret
  exact r6_end rfl (HM2.out.keep (((Keep.refl (fun c => c = y) w2)).set ⟨y, 5, none⟩ _ (fun _ => rfl)) (fun c h => r6_far2 HM2.out HY2.out c h)) (HK2.out.trans (((Keep.refl (fun c => c = y) w2)).set ⟨y, 5, none⟩ _ (fun _ => rfl)) (fun c _ h => Or.inr h)) HA2.out HL2.out ((HY2.out).set 5 _) (by simp only [rcs6, Nat.add_sub_cancel_left]; rfl)
set_option maxHeartbeats 4000000 in
theorem r6_step4 (hm : RefAt B w m A ca lv W L) (hy : Blk w y 86 [i64 (b : Int), i64 (s : Int), i64 g, i64 d, i64 (x0), i64 (4), i64 (l6), i64 ((I : Nat) : Int), i64 (ww), i64 (vv)]) (hi : AInv b s g d ⟨W, L, 4, x0, l6, b + 4 + I, ww, vv⟩) (hb0 : b ≤ 1000) (hIb : I ≤ 2000) (hL : L.length ≤ 1000000000) :
    Calls Try.prog 39 #[ptr y, ptr m] w (R6P B w m A lv y b s g d (aNext b s g d ⟨W, L, 4, x0, l6, b + 4 + I, ww, vv⟩)) := by
  obtain ⟨ln, wl, s1, g1, d1, lw, xb, nx, lb, pb, vb, gr⟩ := hi
  simp only at *
  have hs8 : 1 ≤ s ∧ s ≤ 8 := by unfold p2 at s1; omega
  have hW : W.length ≤ 1000000 := by omega
  have HY0 : Hid (Blk w y 86 [i64 (b : Int), i64 (s : Int), i64 g, i64 d, i64 (x0), i64 (4), i64 (l6), i64 ((I : Nat) : Int), i64 (ww), i64 (vv)]) := hid hy
  have qy0 := HY0.out.k10
  have HM0 := hid hm
  have HK0 : Hid (Keep (fun c => (c = m ∨ lv.ownBlock = some c) ∨ c = y) w w) := hid (Keep.refl _ _)
  have HA0 := hid (fun (c : Nat) (h : (Value.slice A 0 0).ownBlock = some c) => (Or.inl h : (Value.slice A 0 0).ownBlock = some c ∨ w.heap.size ≤ c))
  have HL0 := hid (fun (c : Nat) (h : lv.ownBlock = some c) => (Or.inl h : lv.ownBlock = some c ∨ w.heap.size ≤ c))
  clear hy hm
  cases hq : (rd W (b + 4 + I) == ww)
  · have pb' := pb (by omega) (by omega)
    have h0 := hq
    simp only [beq_iff_eq, beq_eq_false_iff_ne, ne_eq] at h0
    have e : aNext b s g d ⟨W, L, 4, x0, l6, b + 4 + I, ww, vv⟩ = ⟨casW W (b + 4 + I) ww (pNext6 ww 0), L ++ [⟨3, (b + 4 + I : Nat), ww, pNext6 ww 0, false⟩], 7, x0, l6, b + 4 + I, ww, vv⟩ := by simp only [aNext]; rw [if_neg h0, hq]
    rw [e]
    clear e h0
    have HQ := hid hq
    clear hq
    have y1 : IntKind.i64.wrap ((b : Int) + 4) = (b : Int) + 4 := IntWalk.i64_in _ (by omega)
    have y2 : IntKind.i64.wrap ((b : Int) + 4 + (I : Int)) = (b : Int) + 4 + (I : Int) := IntWalk.i64_in _ (by omega)
    go_enter Try.func39, Try.ntmps39
    go_wp2_with fail
    go_quiet (fail)
    obtain ⟨w1, hw1⟩ : ∃ w', w' = w.drewN nq := ⟨_, rfl⟩
    rw [← hw1]
    have HY1 := hid (show Blk w1 y 86 [i64 (b : Int), i64 (s : Int), i64 g, i64 d, i64 (x0), i64 (4), i64 (l6), i64 ((I : Nat) : Int), i64 (ww), i64 (vv)] from by rw [hw1]; exact HY0.out.drewN nq)
    have HM1 := hid (RefAt.keep HM0.out (show Keep (fun c => c = y) w w1 from by rw [hw1]; exact (Keep.refl _ _).drewN nq) (fun c h => r6_far2 HM0.out HY0.out c h))
    have HK1 : Hid (Keep (fun c => (c = m ∨ lv.ownBlock = some c) ∨ c = y) w w1) := hid (HK0.out.trans (show Keep (fun c => c = y) w w1 from by rw [hw1]; exact (Keep.refl _ _).drewN nq) (fun c _ h => Or.inr h))
    have HA1 := HA0
    have HL1 := HL0
    clear qy0 HY0 HM0 HK0 HA0 HL0
    have qy1 := HY1.out.k10
    clear hw1
    clear y1 y2
    go_wp2_with fail
    refine (ref1_Next ww 0 _ (by omega)).mono ?_
    rintro e w0 ⟨rfl, rfl⟩
    go_wp2_with fail
    have hyq := (show Blk ((w1).setCell ⟨y, 5, none⟩ (i64 (7))) y 86 [i64 (b : Int), i64 (s : Int), i64 g, i64 d, i64 (x0), i64 (7), i64 (l6), i64 ((I : Nat) : Int), i64 (ww), i64 (vv)] from (HY1.out).set 5 _)
    have hkq := (show Keep (fun c => c = y) w1 ((w1).setCell ⟨y, 5, none⟩ (i64 (7))) from ((Keep.refl (fun c => c = y) w1)).set ⟨y, 5, none⟩ _ (fun _ => rfl))
    generalize (w1).setCell ⟨y, 5, none⟩ (i64 (7)) = w2 at *
    have HY2 := hid (show Blk w2 y 86 [i64 (b : Int), i64 (s : Int), i64 g, i64 d, i64 (x0), i64 (7), i64 (l6), i64 ((I : Nat) : Int), i64 (ww), i64 (vv)] from hyq)
    have HM2 := hid (RefAt.keep HM1.out (show Keep (fun c => c = y) w1 w2 from hkq) (fun c h => r6_far2 HM1.out HY1.out c h))
    have HK2 : Hid (Keep (fun c => (c = m ∨ lv.ownBlock = some c) ∨ c = y) w w2) := hid (HK1.out.trans (show Keep (fun c => c = y) w1 w2 from hkq) (fun c _ h => Or.inr h))
    have HA2 := HA1
    have HL2 := HL1
    clear qy1 HY1 HM1 HK1 HA1 HL1
    have qy2 := HY2.out.k10
    clear hyq hkq
    refine (r6_CasB ((b : Int) + 4 + (I : Int)) (b + 4 + I) (by omega) ww (pNext6 ww 0) false HQ.out HM2.out (by omega) hW hL).mono ?_
    rintro e w3 ⟨rfl, A3, c3, lv3, hm, hk, ha, hl⟩
    have HY3 := hid (show Blk w3 y 86 [i64 (b : Int), i64 (s : Int), i64 g, i64 d, i64 (x0), i64 (7), i64 (l6), i64 ((I : Nat) : Int), i64 (ww), i64 (vv)] from hk.blk HY2.out (r6_far HM2.out HY2.out))
    have HM3 := hid hm
    have HK3 : Hid (Keep (fun c => (c = m ∨ lv.ownBlock = some c) ∨ c = y) w w3) := hid (HK2.out.trans hk (fun _ _ h => Or.inl h))
    have HA3 := hid (fun c h => (ha c h).imp id (fun h => Nat.le_trans HK2.out.size h))
    have HL3 := hid (fun c h => (hl c h).imp id (fun h => Nat.le_trans HK2.out.size h))
    clear hm hk ha hl qy2 HY2 HM2 HK2 HA2 HL2
    have qy3 := HY3.out.k10
    go_wp2_with fail
    go_ret
    exact r6_end rfl (HM3.out.keep ((Keep.refl (fun c => c = y) w3)) (fun c h => r6_far2 HM3.out HY3.out c h)) (HK3.out.trans ((Keep.refl (fun c => c = y) w3)) (fun c _ h => Or.inr h)) HA3.out HL3.out (HY3.out) (by simp only [rcs6, Nat.add_sub_cancel_left]; rfl)
  · have pb' := pb (by omega) (by omega)
    have h0 := hq
    simp only [beq_iff_eq, beq_eq_false_iff_ne, ne_eq] at h0
    have e : aNext b s g d ⟨W, L, 4, x0, l6, b + 4 + I, ww, vv⟩ = ⟨casW W (b + 4 + I) ww (pNext6 ww 0), L ++ [⟨3, (b + 4 + I : Nat), ww, pNext6 ww 0, true⟩], 5, x0, l6, b + 4 + I, ww, vv⟩ := by simp only [aNext]; rw [if_pos h0, hq]
    rw [e]
    clear e h0
    have HQ := hid hq
    clear hq
    have y1 : IntKind.i64.wrap ((b : Int) + 4) = (b : Int) + 4 := IntWalk.i64_in _ (by omega)
    have y2 : IntKind.i64.wrap ((b : Int) + 4 + (I : Int)) = (b : Int) + 4 + (I : Int) := IntWalk.i64_in _ (by omega)
    go_enter Try.func39, Try.ntmps39
    go_wp2_with fail
    go_quiet (fail)
    obtain ⟨w1, hw1⟩ : ∃ w', w' = w.drewN nq := ⟨_, rfl⟩
    rw [← hw1]
    have HY1 := hid (show Blk w1 y 86 [i64 (b : Int), i64 (s : Int), i64 g, i64 d, i64 (x0), i64 (4), i64 (l6), i64 ((I : Nat) : Int), i64 (ww), i64 (vv)] from by rw [hw1]; exact HY0.out.drewN nq)
    have HM1 := hid (RefAt.keep HM0.out (show Keep (fun c => c = y) w w1 from by rw [hw1]; exact (Keep.refl _ _).drewN nq) (fun c h => r6_far2 HM0.out HY0.out c h))
    have HK1 : Hid (Keep (fun c => (c = m ∨ lv.ownBlock = some c) ∨ c = y) w w1) := hid (HK0.out.trans (show Keep (fun c => c = y) w w1 from by rw [hw1]; exact (Keep.refl _ _).drewN nq) (fun c _ h => Or.inr h))
    have HA1 := HA0
    have HL1 := HL0
    clear qy0 HY0 HM0 HK0 HA0 HL0
    have qy1 := HY1.out.k10
    clear hw1
    clear y1 y2
    go_wp2_with fail
    refine (ref1_Next ww 0 _ (by omega)).mono ?_
    rintro e w0 ⟨rfl, rfl⟩
    go_wp2_with fail
    have hyq := (show Blk ((w1).setCell ⟨y, 5, none⟩ (i64 (7))) y 86 [i64 (b : Int), i64 (s : Int), i64 g, i64 d, i64 (x0), i64 (7), i64 (l6), i64 ((I : Nat) : Int), i64 (ww), i64 (vv)] from (HY1.out).set 5 _)
    have hkq := (show Keep (fun c => c = y) w1 ((w1).setCell ⟨y, 5, none⟩ (i64 (7))) from ((Keep.refl (fun c => c = y) w1)).set ⟨y, 5, none⟩ _ (fun _ => rfl))
    generalize (w1).setCell ⟨y, 5, none⟩ (i64 (7)) = w2 at *
    have HY2 := hid (show Blk w2 y 86 [i64 (b : Int), i64 (s : Int), i64 g, i64 d, i64 (x0), i64 (7), i64 (l6), i64 ((I : Nat) : Int), i64 (ww), i64 (vv)] from hyq)
    have HM2 := hid (RefAt.keep HM1.out (show Keep (fun c => c = y) w1 w2 from hkq) (fun c h => r6_far2 HM1.out HY1.out c h))
    have HK2 : Hid (Keep (fun c => (c = m ∨ lv.ownBlock = some c) ∨ c = y) w w2) := hid (HK1.out.trans (show Keep (fun c => c = y) w1 w2 from hkq) (fun c _ h => Or.inr h))
    have HA2 := HA1
    have HL2 := HL1
    clear qy1 HY1 HM1 HK1 HA1 HL1
    have qy2 := HY2.out.k10
    clear hyq hkq
    refine (r6_CasB ((b : Int) + 4 + (I : Int)) (b + 4 + I) (by omega) ww (pNext6 ww 0) true HQ.out HM2.out (by omega) hW hL).mono ?_
    rintro e w3 ⟨rfl, A3, c3, lv3, hm, hk, ha, hl⟩
    have HY3 := hid (show Blk w3 y 86 [i64 (b : Int), i64 (s : Int), i64 g, i64 d, i64 (x0), i64 (7), i64 (l6), i64 ((I : Nat) : Int), i64 (ww), i64 (vv)] from hk.blk HY2.out (r6_far HM2.out HY2.out))
    have HM3 := hid hm
    have HK3 : Hid (Keep (fun c => (c = m ∨ lv.ownBlock = some c) ∨ c = y) w w3) := hid (HK2.out.trans hk (fun _ _ h => Or.inl h))
    have HA3 := hid (fun c h => (ha c h).imp id (fun h => Nat.le_trans HK2.out.size h))
    have HL3 := hid (fun c h => (hl c h).imp id (fun h => Nat.le_trans HK2.out.size h))
    clear hm hk ha hl qy2 HY2 HM2 HK2 HA2 HL2
    have qy3 := HY3.out.k10
    go_wp2_with fail
    go_ret
    exact r6_end rfl (HM3.out.keep (((Keep.refl (fun c => c = y) w3)).set ⟨y, 5, none⟩ _ (fun _ => rfl)) (fun c h => r6_far2 HM3.out HY3.out c h)) (HK3.out.trans (((Keep.refl (fun c => c = y) w3)).set ⟨y, 5, none⟩ _ (fun _ => rfl)) (fun c _ h => Or.inr h)) HA3.out HL3.out ((HY3.out).set 5 _) (by simp only [rcs6, Nat.add_sub_cancel_left]; rfl)
end
end Go.Proofs.Ytchlmaphaeoplaa
