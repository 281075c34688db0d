/- plan.Fresh: all words. -/
import Derived.Test.YtjloccnbcgkmgaaPlan
import Derived.Test.YtjloccnbcgkmgaaRegion
import Derived.Deep.DeepCutAuto
import Derived.Deep.LoopGhost
namespace Go.Proofs.Ytjloccnbcgkmgaa
open Go.RowKit
set_option linter.unusedVariables false
set_option linter.unusedSimpArgs false

def layW (s : Int) (v : Int) (x : Int) (W : List Int) : List Int :=
  ((W.set (v * (6 + 2 * s)).toNat x).set (v * (6 + 2 * s) + 1).toNat x).set (v * (6 + 2 * s) + 2 + s + 3).toNat 1

set_option maxHeartbeats 2000000 in
set_option maxRecDepth 100000 in
theorem fresh1 (B : Nat) (w : World) (m a mb cb lb lo : Nat) (lv : Value) (W : List Int) (L : List Acc) (t s g l r k : Int) (PA : Option Addr) (pn pc ln lc : Nat) (v x : Int)
    (hm : MemAt B w m a lv W L) (hmb : Blk w mb 29 [ptr m]) (hcb : Blk w cb 24 [i64 t, i64 s, i64 g, i64 l, i64 r, i64 k, .slice PA pn pc, .slice (some ⟨lb, lo, none⟩) ln lc]) (hlb : lb ≠ a) (hx : w.cell? ⟨lb, lo + v.toNat, none⟩ = some (i64 x))
    (hs0 : 1 ≤ s) (hs1 : s ≤ 8) (h0 : 0 ≤ v) (h1 : v ≤ 1000) (hvl : v < ln) (hW : (v + 1) * (6 + 2 * s) ≤ W.length) :
    Calls Try.prog 53 #[i64 v, ptr mb, ptr cb] w fun e w' => e = .returned (.tuple #[]) ∧ MemAt B w' m a lv (layW s v x W) L ∧ Keep (fun k => k = a) w w' := by
  have hmm := mul_bd 1000 22 h0 h1 (show 0 ≤ 6 + 2 * s by omega) (by omega)
  have hW2 : v * (6 + 2 * s) + (6 + 2 * s) ≤ W.length := by have : (v + 1) * (6 + 2 * s) = v * (6 + 2 * s) + (6 + 2 * s) := by rw [Int.add_mul, Int.one_mul]
                                                            omega
  clear hW
  have mbs := hmb.k1
  have cbs := hcb.k8
  have hmba : mb ≠ a := hmb.ne hm.words (by decide)
  have hcba : cb ≠ a := hcb.ne hm.words (by decide)
  have HM := hid hm
  have HMB := hid hmb
  have HCB := hid hcb
  have HX := hid hx
  have hlz := World.block_lt_of_cell? _ _ hx
  simp only at hlz
  have HLZ := hid hlz
  clear hm hmb hcb
  go_enter Try.func53, Try.ntmps53
  have HMC := HM
  have HKC : Hid (Keep (fun k => k = a) w w) := hid (Keep.refl _ _)
  go_upto_region 0 with fail
  go_cut [] (fun wx => MemAt B wx m a lv (W.set (v * (6 + 2 * s)).toNat x) L ∧ Keep (fun k => k = a) w wx)
  case first =>
    apply wp_region_text (WI := fun S wx => Keep (fun k => k = a) w wx ∧ (S 9 = false → MemAt B wx m a lv (W) L) ∧ (S 9 = true → MemAt B wx m a lv (W.set (v * (6 + 2 * s)).toNat x) L)) (by kernel_rfl) (by kernel_rfl)
    case hob =>
      apply Oblig.cons
      case h =>
        intro S w1 hwi hSi hd hcl
        apply StepOk.intro
        intro K hK
        have mb1 := (hwi.1.blk HMB.out hmba).k1
        have cb1 := (hwi.1.blk HCB.out hcba).k8
        have hx1 := (cell_old hwi.1 HLZ.out hlb _).trans HX.out
        go_simp
        apply hK
        · rfl
        · conv => (lhs; whnf)
        · exact hwi
      simp only [put_lit, put_none]
      try dsimp only [List.set_cons_succ, List.set_cons_zero]
      apply Oblig.cons
      case h =>
        intro S w1 hwi hSi hd hcl
        apply StepOk.intro
        intro K hK
        have mb1 := (hwi.1.blk HMB.out hmba).k1
        have cb1 := (hwi.1.blk HCB.out hcba).k8
        have hx1 := (cell_old hwi.1 HLZ.out hlb _).trans HX.out
        go_simp
        apply hK
        · rfl
        · conv => (lhs; whnf)
        · exact hwi
      simp only [put_lit, put_none]
      try dsimp only [List.set_cons_succ, List.set_cons_zero]
      apply Oblig.cons
      case h =>
        intro S w1 hwi hSi hd hcl
        apply StepOk.intro
        intro K hK
        have mb1 := (hwi.1.blk HMB.out hmba).k1
        have cb1 := (hwi.1.blk HCB.out hcba).k8
        have hx1 := (cell_old hwi.1 HLZ.out hlb _).trans HX.out
        go_simp
        apply hK
        · rfl
        · conv => (lhs; whnf)
        · exact hwi
      simp only [put_lit, put_none]
      try dsimp only [List.set_cons_succ, List.set_cons_zero]
      apply Oblig.cons
      case h =>
        intro S w1 hwi hSi hd hcl
        apply StepOk.intro
        intro K hK
        have mb1 := (hwi.1.blk HMB.out hmba).k1
        have cb1 := (hwi.1.blk HCB.out hcba).k8
        have hx1 := (cell_old hwi.1 HLZ.out hlb _).trans HX.out
        go_simp
        refine (plan_Limit t s g l r k PA pn pc (some ⟨lb, lo, none⟩) ln lc v _ hs0 hs1 h0 h1).mono ?_
        rintro e w2 ⟨rfl, hk⟩
        apply hK
        · rfl
        · conv => (lhs; whnf)
        · exact ⟨hwi.1.trans (hk.to (S := fun k => k = a)) (fun _ _ h => h), fun h => (hwi.2.1 h).same hk, fun h => (hwi.2.2 h).same hk⟩
      simp only [put_lit, put_none]
      try dsimp only [List.set_cons_succ, List.set_cons_zero]
      apply Oblig.cons
      case h =>
        intro S w1 hwi hSi hd hcl
        apply StepOk.intro
        intro K hK
        have mb1 := (hwi.1.blk HMB.out hmba).k1
        have cb1 := (hwi.1.blk HCB.out hcba).k8
        have hx1 := (cell_old hwi.1 HLZ.out hlb _).trans HX.out
        go_simp
        apply hK
        · rfl
        · conv => (lhs; whnf)
        · exact hwi
      simp only [put_lit, put_none]
      try dsimp only [List.set_cons_succ, List.set_cons_zero]
      apply Oblig.cons
      case h =>
        intro S w1 hwi hSi hd hcl
        apply StepOk.intro
        intro K hK
        have mb1 := (hwi.1.blk HMB.out hmba).k1
        have cb1 := (hwi.1.blk HCB.out hcba).k8
        have hx1 := (cell_old hwi.1 HLZ.out hlb _).trans HX.out
        go_simp
        apply hK
        · rfl
        · conv => (lhs; whnf)
        · exact hwi
      simp only [put_lit, put_none]
      try dsimp only [List.set_cons_succ, List.set_cons_zero]
      apply Oblig.cons
      case h =>
        intro S w1 hwi hSi hd hcl
        apply StepOk.intro
        intro K hK
        have mb1 := (hwi.1.blk HMB.out hmba).k1
        have cb1 := (hwi.1.blk HCB.out hcba).k8
        have hx1 := (cell_old hwi.1 HLZ.out hlb _).trans HX.out
        go_simp
        apply hK
        · rfl
        · conv => (lhs; whnf)
        · exact hwi
      simp only [put_lit, put_none]
      try dsimp only [List.set_cons_succ, List.set_cons_zero]
      apply Oblig.cons
      case h =>
        intro S w1 hwi hSi hd hcl
        apply StepOk.intro
        intro K hK
        have mb1 := (hwi.1.blk HMB.out hmba).k1
        have cb1 := (hwi.1.blk HCB.out hcba).k8
        have hx1 := (cell_old hwi.1 HLZ.out hlb _).trans HX.out
        go_simp
        apply hK
        · rfl
        · conv => (lhs; whnf)
        · exact hwi
      simp only [put_lit, put_none]
      try dsimp only [List.set_cons_succ, List.set_cons_zero]
      apply Oblig.cons
      case h =>
        intro S w1 hwi hSi hd hcl
        apply StepOk.intro
        intro K hK
        have mb1 := (hwi.1.blk HMB.out hmba).k1
        have cb1 := (hwi.1.blk HCB.out hcba).k8
        have hx1 := (cell_old hwi.1 HLZ.out hlb _).trans HX.out
        go_simp
        apply hK
        · rfl
        · conv => (lhs; whnf)
        · exact hwi
      simp only [put_lit, put_none]
      try dsimp only [List.set_cons_succ, List.set_cons_zero]
      apply Oblig.cons
      case h =>
        intro S w1 hwi hSi hd hcl
        apply StepOk.intro
        intro K hK
        have mb1 := (hwi.1.blk HMB.out hmba).k1
        have cb1 := (hwi.1.blk HCB.out hcba).k8
        have hx1 := (cell_old hwi.1 HLZ.out hlb _).trans HX.out
        go_simp
        refine (mem_Poke _ (x) (hwi.2.1 hSi) (by omega) (by first | omega | (simp; omega))).mono ?_
        rintro e w2 ⟨rfl, hm2, hk2⟩
        apply hK
        · rfl
        · conv => (lhs; whnf)
        · exact ⟨hwi.1.trans hk2 (fun _ _ h => h), fun h => by simp [upd] at h, fun _ => hm2⟩
      simp only [put_lit, put_none]
      try dsimp only [List.set_cons_succ, List.set_cons_zero]
      exact Oblig.nil
    case h0 =>
      exact ⟨HKC.out.drew, fun _ => HMC.out.same (Keep.refl _ _).drew, fun h => by cases h⟩
    case hend =>
      intro S wx hwi hall
      go_wp2_with fail
      go_meet
      exact ⟨hwi.2.2 (hall 9 (by decide)), hwi.1⟩
  case rest =>
    obtain ⟨hm1, hk1⟩ := hcut
    have HMC := hid hm1
    have HKC := hid hk1
    clear hm1 hk1
    have mbs1 := (HKC.out.blk HMB.out hmba).k1
    have cbs1 := (HKC.out.blk HCB.out hcba).k8
    go_upto_region 1 with fail
    go_cut [] (fun wx => MemAt B wx m a lv ((W.set (v * (6 + 2 * s)).toNat x).set (v * (6 + 2 * s) + 1).toNat x) L ∧ Keep (fun k => k = a) w wx)
    case first =>
      apply wp_region_text (WI := fun S wx => Keep (fun k => k = a) w wx ∧ (S 9 = false → MemAt B wx m a lv (W.set (v * (6 + 2 * s)).toNat x) L) ∧ (S 9 = true → MemAt B wx m a lv ((W.set (v * (6 + 2 * s)).toNat x).set (v * (6 + 2 * s) + 1).toNat x) L)) (by kernel_rfl) (by kernel_rfl)
      case hob =>
        apply Oblig.cons
        case h =>
          intro S w1 hwi hSi hd hcl
          apply StepOk.intro
          intro K hK
          have mb1 := (hwi.1.blk HMB.out hmba).k1
          have cb1 := (hwi.1.blk HCB.out hcba).k8
          have hx1 := (cell_old hwi.1 HLZ.out hlb _).trans HX.out
          go_simp
          apply hK
          · rfl
          · conv => (lhs; whnf)
          · exact hwi
        simp only [put_lit, put_none]
        try dsimp only [List.set_cons_succ, List.set_cons_zero]
        apply Oblig.cons
        case h =>
          intro S w1 hwi hSi hd hcl
          apply StepOk.intro
          intro K hK
          have mb1 := (hwi.1.blk HMB.out hmba).k1
          have cb1 := (hwi.1.blk HCB.out hcba).k8
          have hx1 := (cell_old hwi.1 HLZ.out hlb _).trans HX.out
          go_simp
          apply hK
          · rfl
          · conv => (lhs; whnf)
          · exact hwi
        simp only [put_lit, put_none]
        try dsimp only [List.set_cons_succ, List.set_cons_zero]
        apply Oblig.cons
        case h =>
          intro S w1 hwi hSi hd hcl
          apply StepOk.intro
          intro K hK
          have mb1 := (hwi.1.blk HMB.out hmba).k1
          have cb1 := (hwi.1.blk HCB.out hcba).k8
          have hx1 := (cell_old hwi.1 HLZ.out hlb _).trans HX.out
          go_simp
          apply hK
          · rfl
          · conv => (lhs; whnf)
          · exact hwi
        simp only [put_lit, put_none]
        try dsimp only [List.set_cons_succ, List.set_cons_zero]
        apply Oblig.cons
        case h =>
          intro S w1 hwi hSi hd hcl
          apply StepOk.intro
          intro K hK
          have mb1 := (hwi.1.blk HMB.out hmba).k1
          have cb1 := (hwi.1.blk HCB.out hcba).k8
          have hx1 := (cell_old hwi.1 HLZ.out hlb _).trans HX.out
          go_simp
          refine (plan_Avail t s g l r k PA pn pc (some ⟨lb, lo, none⟩) ln lc v _ hs0 hs1 h0 h1).mono ?_
          rintro e w2 ⟨rfl, hk⟩
          apply hK
          · rfl
          · conv => (lhs; whnf)
          · exact ⟨hwi.1.trans (hk.to (S := fun k => k = a)) (fun _ _ h => h), fun h => (hwi.2.1 h).same hk, fun h => (hwi.2.2 h).same hk⟩
        simp only [put_lit, put_none]
        try dsimp only [List.set_cons_succ, List.set_cons_zero]
        apply Oblig.cons
        case h =>
          intro S w1 hwi hSi hd hcl
          apply StepOk.intro
          intro K hK
          have mb1 := (hwi.1.blk HMB.out hmba).k1
          have cb1 := (hwi.1.blk HCB.out hcba).k8
          have hx1 := (cell_old hwi.1 HLZ.out hlb _).trans HX.out
          go_simp
          apply hK
          · rfl
          · conv => (lhs; whnf)
          · exact hwi
        simp only [put_lit, put_none]
        try dsimp only [List.set_cons_succ, List.set_cons_zero]
        apply Oblig.cons
        case h =>
          intro S w1 hwi hSi hd hcl
          apply StepOk.intro
          intro K hK
          have mb1 := (hwi.1.blk HMB.out hmba).k1
          have cb1 := (hwi.1.blk HCB.out hcba).k8
          have hx1 := (cell_old hwi.1 HLZ.out hlb _).trans HX.out
          go_simp
          apply hK
          · rfl
          · conv => (lhs; whnf)
          · exact hwi
        simp only [put_lit, put_none]
        try dsimp only [List.set_cons_succ, List.set_cons_zero]
        apply Oblig.cons
        case h =>
          intro S w1 hwi hSi hd hcl
          apply StepOk.intro
          intro K hK
          have mb1 := (hwi.1.blk HMB.out hmba).k1
          have cb1 := (hwi.1.blk HCB.out hcba).k8
          have hx1 := (cell_old hwi.1 HLZ.out hlb _).trans HX.out
          go_simp
          apply hK
          · rfl
          · conv => (lhs; whnf)
          · exact hwi
        simp only [put_lit, put_none]
        try dsimp only [List.set_cons_succ, List.set_cons_zero]
        apply Oblig.cons
        case h =>
          intro S w1 hwi hSi hd hcl
          apply StepOk.intro
          intro K hK
          have mb1 := (hwi.1.blk HMB.out hmba).k1
          have cb1 := (hwi.1.blk HCB.out hcba).k8
          have hx1 := (cell_old hwi.1 HLZ.out hlb _).trans HX.out
          go_simp
          apply hK
          · rfl
          · conv => (lhs; whnf)
          · exact hwi
        simp only [put_lit, put_none]
        try dsimp only [List.set_cons_succ, List.set_cons_zero]
        apply Oblig.cons
        case h =>
          intro S w1 hwi hSi hd hcl
          apply StepOk.intro
          intro K hK
          have mb1 := (hwi.1.blk HMB.out hmba).k1
          have cb1 := (hwi.1.blk HCB.out hcba).k8
          have hx1 := (cell_old hwi.1 HLZ.out hlb _).trans HX.out
          go_simp
          apply hK
          · rfl
          · conv => (lhs; whnf)
          · exact hwi
        simp only [put_lit, put_none]
        try dsimp only [List.set_cons_succ, List.set_cons_zero]
        apply Oblig.cons
        case h =>
          intro S w1 hwi hSi hd hcl
          apply StepOk.intro
          intro K hK
          have mb1 := (hwi.1.blk HMB.out hmba).k1
          have cb1 := (hwi.1.blk HCB.out hcba).k8
          have hx1 := (cell_old hwi.1 HLZ.out hlb _).trans HX.out
          go_simp
          refine (mem_Poke _ (x) (hwi.2.1 hSi) (by omega) (by first | omega | (simp; omega))).mono ?_
          rintro e w2 ⟨rfl, hm2, hk2⟩
          apply hK
          · rfl
          · conv => (lhs; whnf)
          · exact ⟨hwi.1.trans hk2 (fun _ _ h => h), fun h => by simp [upd] at h, fun _ => hm2⟩
        simp only [put_lit, put_none]
        try dsimp only [List.set_cons_succ, List.set_cons_zero]
        exact Oblig.nil
      case h0 =>
        exact ⟨HKC.out.drew, fun _ => HMC.out.same (Keep.refl _ _).drew, fun h => by cases h⟩
      case hend =>
        intro S wx hwi hall
        go_wp2_with fail
        go_meet
        exact ⟨hwi.2.2 (hall 9 (by decide)), hwi.1⟩
    case rest =>
      obtain ⟨hm1, hk1⟩ := hcut
      clear mbs1 cbs1
      clear HMC HKC
      have HMC := hid hm1
      have HKC := hid hk1
      clear hm1 hk1
      have mbs1 := (HKC.out.blk HMB.out hmba).k1
      have cbs1 := (HKC.out.blk HCB.out hcba).k8
      have hw3 : IntKind.i64.wrap (v * (6 + 2 * s) + 2 + s + 3) = v * (6 + 2 * s) + 2 + s + 3 := IntWalk.i64_in _ (by omega)
      go_upto_region 2 with fail
      apply wp_region_text (WI := fun S wx => Keep (fun k => k = a) w wx ∧ (S 5 = false → MemAt B wx m a lv ((W.set (v * (6 + 2 * s)).toNat x).set (v * (6 + 2 * s) + 1).toNat x) L) ∧ (S 5 = true → MemAt B wx m a lv (layW s v x W) L)) (by kernel_rfl) (by kernel_rfl)
      case hob =>
        apply Oblig.cons
        case h =>
          intro S w1 hwi hSi hd hcl
          apply StepOk.intro
          intro K hK
          have mb1 := (hwi.1.blk HMB.out hmba).k1
          have cb1 := (hwi.1.blk HCB.out hcba).k8
          have hx1 := (cell_old hwi.1 HLZ.out hlb _).trans HX.out
          go_simp
          apply hK
          · rfl
          · conv => (lhs; whnf)
          · exact hwi
        simp only [put_lit, put_none]
        try dsimp only [List.set_cons_succ, List.set_cons_zero]
        apply Oblig.cons
        case h =>
          intro S w1 hwi hSi hd hcl
          apply StepOk.intro
          intro K hK
          have mb1 := (hwi.1.blk HMB.out hmba).k1
          have cb1 := (hwi.1.blk HCB.out hcba).k8
          have hx1 := (cell_old hwi.1 HLZ.out hlb _).trans HX.out
          go_simp
          apply hK
          · rfl
          · conv => (lhs; whnf)
          · exact hwi
        simp only [put_lit, put_none]
        try dsimp only [List.set_cons_succ, List.set_cons_zero]
        apply Oblig.cons
        case h =>
          intro S w1 hwi hSi hd hcl
          apply StepOk.intro
          intro K hK
          have mb1 := (hwi.1.blk HMB.out hmba).k1
          have cb1 := (hwi.1.blk HCB.out hcba).k8
          have hx1 := (cell_old hwi.1 HLZ.out hlb _).trans HX.out
          go_simp
          apply hK
          · rfl
          · conv => (lhs; whnf)
          · exact hwi
        simp only [put_lit, put_none]
        try dsimp only [List.set_cons_succ, List.set_cons_zero]
        apply Oblig.cons
        case h =>
          intro S w1 hwi hSi hd hcl
          apply StepOk.intro
          intro K hK
          have mb1 := (hwi.1.blk HMB.out hmba).k1
          have cb1 := (hwi.1.blk HCB.out hcba).k8
          have hx1 := (cell_old hwi.1 HLZ.out hlb _).trans HX.out
          go_simp
          refine (plan_Counter t s g l r k PA pn pc (some ⟨lb, lo, none⟩) ln lc v _ hs0 hs1 h0 h1).mono ?_
          rintro e w2 ⟨rfl, hk⟩
          apply hK
          · rfl
          · conv => (lhs; whnf)
          · exact ⟨hwi.1.trans (hk.to (S := fun k => k = a)) (fun _ _ h => h), fun h => (hwi.2.1 h).same hk, fun h => (hwi.2.2 h).same hk⟩
        simp only [put_lit, put_none]
        try dsimp only [List.set_cons_succ, List.set_cons_zero]
        apply Oblig.cons
        case h =>
          intro S w1 hwi hSi hd hcl
          apply StepOk.intro
          intro K hK
          have mb1 := (hwi.1.blk HMB.out hmba).k1
          have cb1 := (hwi.1.blk HCB.out hcba).k8
          have hx1 := (cell_old hwi.1 HLZ.out hlb _).trans HX.out
          go_simp
          apply hK
          · rfl
          · conv => (lhs; whnf)
          · exact hwi
        simp only [put_lit, put_none]
        try dsimp only [List.set_cons_succ, List.set_cons_zero]
        apply Oblig.cons
        case h =>
          intro S w1 hwi hSi hd hcl
          apply StepOk.intro
          intro K hK
          have mb1 := (hwi.1.blk HMB.out hmba).k1
          have cb1 := (hwi.1.blk HCB.out hcba).k8
          have hx1 := (cell_old hwi.1 HLZ.out hlb _).trans HX.out
          go_simp
          refine (mem_Poke _ (1) (hwi.2.1 hSi) (by omega) (by first | omega | (simp; omega))).mono ?_
          rintro e w2 ⟨rfl, hm2, hk2⟩
          apply hK
          · rfl
          · conv => (lhs; whnf)
          · exact ⟨hwi.1.trans hk2 (fun _ _ h => h), fun h => by simp [upd] at h, fun _ => hm2⟩
        simp only [put_lit, put_none]
        try dsimp only [List.set_cons_succ, List.set_cons_zero]
        exact Oblig.nil
      case h0 =>
        exact ⟨HKC.out.drew, fun _ => HMC.out.same (Keep.refl _ _).drew, fun h => by cases h⟩
      case hend =>
        intro S wx hwi hall
        go_wp2_with fail
        go_end0
        exact ⟨rfl, hwi.2.2 (hall 5 (by decide)), hwi.1⟩
end Go.Proofs.Ytjloccnbcgkmgaa
