/- package add: empty, keep (where it is done), look, begin. -/
import Derived.Test.YtlkniogapdhcpaaAddB
namespace Go.Proofs.Ytlkniogapdhcpaa
open Go.RowKit
set_option linter.unusedVariables false
set_option linter.unusedSimpArgs false
set_option maxRecDepth 100000
section
variable {B : Nat} {w : World} {m a x : Nat} {lv : Value} {W : List Int} {L : List Acc} {b st g d x0 lv6 sp ww vv : Int} {nx : Value}
set_option maxHeartbeats 2000000 in
theorem add_empty (sp0 : Nat) (hm : MemAt B w m a lv W L) (hx : Blk w x 95 [i64 b, i64 st, i64 g, i64 d, i64 x0, i64 lv6, i64 (sp0 : Int), i64 ww, i64 vv, nx]) (hi : sp0 < W.length) (hL : L.length ≤ 1000000000) :
    Calls Try.prog 64 #[ptr x, ptr m] w (AddP B w m a lv x [i64 b, i64 st, i64 g, i64 d, i64 x0, i64 lv6, i64 (sp0 : Int), i64 ww, i64 vv, nx] (casW W sp0 ww (pNext6 ww 0)) (L ++ [⟨3, sp0, ww, pNext6 ww 0, rd W sp0 == ww⟩]) (if (rd W sp0 == ww) = true then .func (.func 70) #[] #[] else .func (.func 71) #[] #[])) := by
  have HX := hid hx
  have HM := hid hm
  have qx := hx.k10
  clear hx hm
  cases hcb : (rd W sp0 == ww)
  · go_enter Try.func64, Try.ntmps64
    go_wp2_with fail
    apply wp_region_text (WI := fun S wx => Blk wx x 95 [i64 b, i64 st, i64 g, i64 d, i64 x0, i64 lv6, i64 (sp0 : Int), i64 ww, i64 vv, nx] ∧ (S 11 = false → MemAt B wx m a lv W L ∧ Keep0 w wx) ∧ (S 11 = true → MemPost B w m a lv (casW W sp0 ww (pNext6 ww 0)) (L ++ [⟨3, sp0, ww, pNext6 ww 0, false⟩]) wx)) (by kernel_rfl) (by kernel_rfl)
    case hob =>
      apply Oblig.cons
      case h =>
        intro S w1 hwi hSi hd hcl
        apply StepOk.intro
        intro K hK
        have qx3 := hwi.1.k10
        go_simp
        apply hK
        · rfl
        · conv => (lhs; whnf)
        · exact hwi
      simp only [put_lit, put_none]
      try dsimp only [List.set_cons_succ, List.set_cons_zero]
      apply Oblig.cons
      case h =>
        intro S w1 hwi hSi hd hcl
        apply StepOk.intro
        intro K hK
        have qx3 := hwi.1.k10
        go_simp
        apply hK
        · rfl
        · conv => (lhs; whnf)
        · exact hwi
      simp only [put_lit, put_none]
      try dsimp only [List.set_cons_succ, List.set_cons_zero]
      apply Oblig.cons
      case h =>
        intro S w1 hwi hSi hd hcl
        apply StepOk.intro
        intro K hK
        have qx3 := hwi.1.k10
        go_simp
        apply hK
        · rfl
        · conv => (lhs; whnf)
        · exact hwi
      simp only [put_lit, put_none]
      try dsimp only [List.set_cons_succ, List.set_cons_zero]
      apply Oblig.cons
      case h =>
        intro S w1 hwi hSi hd hcl
        apply StepOk.intro
        intro K hK
        have qx3 := hwi.1.k10
        go_simp
        apply hK
        · rfl
        · conv => (lhs; whnf)
        · exact hwi
      simp only [put_lit, put_none]
      try dsimp only [List.set_cons_succ, List.set_cons_zero]
      apply Oblig.cons
      case h =>
        intro S w1 hwi hSi hd hcl
        apply StepOk.intro
        intro K hK
        have qx3 := hwi.1.k10
        go_simp
        apply hK
        · rfl
        · conv => (lhs; whnf)
        · exact hwi
      simp only [put_lit, put_none]
      try dsimp only [List.set_cons_succ, List.set_cons_zero]
      apply Oblig.cons
      case h =>
        intro S w1 hwi hSi hd hcl
        apply StepOk.intro
        intro K hK
        have qx3 := hwi.1.k10
        go_simp
        apply hK
        · rfl
        · conv => (lhs; whnf)
        · exact hwi
      simp only [put_lit, put_none]
      try dsimp only [List.set_cons_succ, List.set_cons_zero]
      apply Oblig.cons
      case h =>
        intro S w1 hwi hSi hd hcl
        apply StepOk.intro
        intro K hK
        have qx3 := hwi.1.k10
        go_simp
        apply hK
        · rfl
        · conv => (lhs; whnf)
        · exact hwi
      simp only [put_lit, put_none]
      try dsimp only [List.set_cons_succ, List.set_cons_zero]
      apply Oblig.cons
      case h =>
        intro S w1 hwi hSi hd hcl
        apply StepOk.intro
        intro K hK
        have qx3 := hwi.1.k10
        go_simp
        apply hK
        · rfl
        · conv => (lhs; whnf)
        · exact hwi
      simp only [put_lit, put_none]
      try dsimp only [List.set_cons_succ, List.set_cons_zero]
      apply Oblig.cons
      case h =>
        intro S w1 hwi hSi hd hcl
        apply StepOk.intro
        intro K hK
        have qx3 := hwi.1.k10
        go_simp
        apply hK
        · rfl
        · conv => (lhs; whnf)
        · exact hwi
      simp only [put_lit, put_none]
      try dsimp only [List.set_cons_succ, List.set_cons_zero]
      apply Oblig.cons
      case h =>
        intro S w1 hwi hSi hd hcl
        apply StepOk.intro
        intro K hK
        have qx3 := hwi.1.k10
        go_simp
        apply hK
        · rfl
        · conv => (lhs; whnf)
        · exact hwi
      simp only [put_lit, put_none]
      try dsimp only [List.set_cons_succ, List.set_cons_zero]
      apply Oblig.cons
      case h =>
        intro S w1 hwi hSi hd hcl
        apply StepOk.intro
        intro K hK
        have qx3 := hwi.1.k10
        go_simp
        refine (add_with 0 hwi.1 (by omega)).mono ?_
        rintro e w2 ⟨rfl, rfl⟩
        apply hK
        · rfl
        · conv => (lhs; whnf)
        · exact hwi
      simp only [put_lit, put_none]
      try dsimp only [List.set_cons_succ, List.set_cons_zero]
      apply Oblig.cons
      case h =>
        intro S w1 hwi hSi hd hcl
        apply StepOk.intro
        intro K hK
        have qx3 := hwi.1.k10
        go_simp
        refine (show Calls Try.prog 60 #[ptr m, i64 (sp0 : Int), i64 ww, i64 (pNext6 ww 0)] w1 (fun e w2 => e = .returned (.bool false) ∧ MemPost B w1 m a lv (casW W sp0 ww (pNext6 ww 0)) (L ++ [⟨3, sp0, ww, pNext6 ww 0, false⟩]) w2) from by have h := mem_Cas (sp0 : Int) ww (pNext6 ww 0) (hwi.2.1 hSi).1 (by omega) (by omega) hL; rw [Int.toNat_natCast, hcb] at h; exact h).mono ?_
        rintro e w2 ⟨rfl, hp⟩
        obtain ⟨lvq, hq1, hq2, hq3⟩ := id hp
        have hblk := hq2.blk hwi.1 (am_far (hwi.2.1 hSi).1 hwi.1)
        have hpp := hp.before (hwi.2.1 hSi).2
        apply hK
        · rfl
        · conv => (lhs; whnf)
        · exact ⟨hblk, fun h => by simp [upd] at h, fun _ => hpp⟩
      simp only [put_lit, put_none]
      try dsimp only [List.set_cons_succ, List.set_cons_zero]
      exact Oblig.nil
    case h0 =>
      exact ⟨HX.out.drew, fun _ => ⟨HM.out.same (Keep.refl _ _).drew, (Keep.refl _ _).drew⟩, fun h => by cases h⟩
    case hend =>
      intro S wx hwi hall
      obtain ⟨lv1, hm, hk, ho⟩ := hwi.2.2 (hall 11 (by decide))
      have HX1 := hid hwi.1
      have HM1 := hid hm
      have HK1 := hid hk
      have HO1 := hid ho
      clear hwi hall hm hk ho
      go_wp2_with fail
      go_ret
      exact addP_of HM1.out HK1.out HO1.out HX1.out (Keep.refl _ _) HX1.out
  · go_enter Try.func64, Try.ntmps64
    go_wp2_with fail
    apply wp_region_text (WI := fun S wx => Blk wx x 95 [i64 b, i64 st, i64 g, i64 d, i64 x0, i64 lv6, i64 (sp0 : Int), i64 ww, i64 vv, nx] ∧ (S 11 = false → MemAt B wx m a lv W L ∧ Keep0 w wx) ∧ (S 11 = true → MemPost B w m a lv (casW W sp0 ww (pNext6 ww 0)) (L ++ [⟨3, sp0, ww, pNext6 ww 0, true⟩]) wx)) (by kernel_rfl) (by kernel_rfl)
    case hob =>
      apply Oblig.cons
      case h =>
        intro S w1 hwi hSi hd hcl
        apply StepOk.intro
        intro K hK
        have qx3 := hwi.1.k10
        go_simp
        apply hK
        · rfl
        · conv => (lhs; whnf)
        · exact hwi
      simp only [put_lit, put_none]
      try dsimp only [List.set_cons_succ, List.set_cons_zero]
      apply Oblig.cons
      case h =>
        intro S w1 hwi hSi hd hcl
        apply StepOk.intro
        intro K hK
        have qx3 := hwi.1.k10
        go_simp
        apply hK
        · rfl
        · conv => (lhs; whnf)
        · exact hwi
      simp only [put_lit, put_none]
      try dsimp only [List.set_cons_succ, List.set_cons_zero]
      apply Oblig.cons
      case h =>
        intro S w1 hwi hSi hd hcl
        apply StepOk.intro
        intro K hK
        have qx3 := hwi.1.k10
        go_simp
        apply hK
        · rfl
        · conv => (lhs; whnf)
        · exact hwi
      simp only [put_lit, put_none]
      try dsimp only [List.set_cons_succ, List.set_cons_zero]
      apply Oblig.cons
      case h =>
        intro S w1 hwi hSi hd hcl
        apply StepOk.intro
        intro K hK
        have qx3 := hwi.1.k10
        go_simp
        apply hK
        · rfl
        · conv => (lhs; whnf)
        · exact hwi
      simp only [put_lit, put_none]
      try dsimp only [List.set_cons_succ, List.set_cons_zero]
      apply Oblig.cons
      case h =>
        intro S w1 hwi hSi hd hcl
        apply StepOk.intro
        intro K hK
        have qx3 := hwi.1.k10
        go_simp
        apply hK
        · rfl
        · conv => (lhs; whnf)
        · exact hwi
      simp only [put_lit, put_none]
      try dsimp only [List.set_cons_succ, List.set_cons_zero]
      apply Oblig.cons
      case h =>
        intro S w1 hwi hSi hd hcl
        apply StepOk.intro
        intro K hK
        have qx3 := hwi.1.k10
        go_simp
        apply hK
        · rfl
        · conv => (lhs; whnf)
        · exact hwi
      simp only [put_lit, put_none]
      try dsimp only [List.set_cons_succ, List.set_cons_zero]
      apply Oblig.cons
      case h =>
        intro S w1 hwi hSi hd hcl
        apply StepOk.intro
        intro K hK
        have qx3 := hwi.1.k10
        go_simp
        apply hK
        · rfl
        · conv => (lhs; whnf)
        · exact hwi
      simp only [put_lit, put_none]
      try dsimp only [List.set_cons_succ, List.set_cons_zero]
      apply Oblig.cons
      case h =>
        intro S w1 hwi hSi hd hcl
        apply StepOk.intro
        intro K hK
        have qx3 := hwi.1.k10
        go_simp
        apply hK
        · rfl
        · conv => (lhs; whnf)
        · exact hwi
      simp only [put_lit, put_none]
      try dsimp only [List.set_cons_succ, List.set_cons_zero]
      apply Oblig.cons
      case h =>
        intro S w1 hwi hSi hd hcl
        apply StepOk.intro
        intro K hK
        have qx3 := hwi.1.k10
        go_simp
        apply hK
        · rfl
        · conv => (lhs; whnf)
        · exact hwi
      simp only [put_lit, put_none]
      try dsimp only [List.set_cons_succ, List.set_cons_zero]
      apply Oblig.cons
      case h =>
        intro S w1 hwi hSi hd hcl
        apply StepOk.intro
        intro K hK
        have qx3 := hwi.1.k10
        go_simp
        apply hK
        · rfl
        · conv => (lhs; whnf)
        · exact hwi
      simp only [put_lit, put_none]
      try dsimp only [List.set_cons_succ, List.set_cons_zero]
      apply Oblig.cons
      case h =>
        intro S w1 hwi hSi hd hcl
        apply StepOk.intro
        intro K hK
        have qx3 := hwi.1.k10
        go_simp
        refine (add_with 0 hwi.1 (by omega)).mono ?_
        rintro e w2 ⟨rfl, rfl⟩
        apply hK
        · rfl
        · conv => (lhs; whnf)
        · exact hwi
      simp only [put_lit, put_none]
      try dsimp only [List.set_cons_succ, List.set_cons_zero]
      apply Oblig.cons
      case h =>
        intro S w1 hwi hSi hd hcl
        apply StepOk.intro
        intro K hK
        have qx3 := hwi.1.k10
        go_simp
        refine (show Calls Try.prog 60 #[ptr m, i64 (sp0 : Int), i64 ww, i64 (pNext6 ww 0)] w1 (fun e w2 => e = .returned (.bool true) ∧ MemPost B w1 m a lv (casW W sp0 ww (pNext6 ww 0)) (L ++ [⟨3, sp0, ww, pNext6 ww 0, true⟩]) w2) from by have h := mem_Cas (sp0 : Int) ww (pNext6 ww 0) (hwi.2.1 hSi).1 (by omega) (by omega) hL; rw [Int.toNat_natCast, hcb] at h; exact h).mono ?_
        rintro e w2 ⟨rfl, hp⟩
        obtain ⟨lvq, hq1, hq2, hq3⟩ := id hp
        have hblk := hq2.blk hwi.1 (am_far (hwi.2.1 hSi).1 hwi.1)
        have hpp := hp.before (hwi.2.1 hSi).2
        apply hK
        · rfl
        · conv => (lhs; whnf)
        · exact ⟨hblk, fun h => by simp [upd] at h, fun _ => hpp⟩
      simp only [put_lit, put_none]
      try dsimp only [List.set_cons_succ, List.set_cons_zero]
      exact Oblig.nil
    case h0 =>
      exact ⟨HX.out.drew, fun _ => ⟨HM.out.same (Keep.refl _ _).drew, (Keep.refl _ _).drew⟩, fun h => by cases h⟩
    case hend =>
      intro S wx hwi hall
      obtain ⟨lv1, hm, hk, ho⟩ := hwi.2.2 (hall 11 (by decide))
      have HX1 := hid hwi.1
      have HM1 := hid hm
      have HK1 := hid hk
      have HO1 := hid ho
      clear hwi hall hm hk ho
      go_wp2_with fail
      go_ret
      exact addP_of HM1.out HK1.out HO1.out HX1.out (Keep.refl _ _) HX1.out
set_option maxHeartbeats 2000000 in
theorem add_keep_yes (sp0 : Nat) (hm : MemAt B w m a lv W L) (hx : Blk w x 95 [i64 b, i64 st, i64 g, i64 d, i64 x0, i64 lv6, i64 (sp0 : Int), i64 ww, i64 vv, nx]) (hi : sp0 < W.length) (hL : L.length ≤ 1000000000) (hv : -2147483648 ≤ vv ∧ vv ≤ 2147483647) (hcb : (rd W sp0 == ww) = true) :
    Calls Try.prog 58 #[ptr x, ptr m] w (AddP B w m a lv x [i64 b, i64 st, i64 g, i64 d, i64 x0, i64 lv6, i64 (sp0 : Int), i64 ww, i64 vv, nx] (casW W sp0 ww (pNext6 ww vv)) (L ++ [⟨3, sp0, ww, pNext6 ww vv, true⟩]) .nilFunc) := by
  have HX := hid hx
  have HM := hid hm
  have qx := hx.k10
  clear hx hm
  go_enter Try.func58, Try.ntmps58
  go_wp2_with fail
  apply wp_region_text (WI := fun S wx => Blk wx x 95 [i64 b, i64 st, i64 g, i64 d, i64 x0, i64 lv6, i64 (sp0 : Int), i64 ww, i64 vv, nx] ∧ (S 15 = false → MemAt B wx m a lv W L ∧ Keep0 w wx) ∧ (S 15 = true → MemPost B w m a lv (casW W sp0 ww (pNext6 ww vv)) (L ++ [⟨3, sp0, ww, pNext6 ww vv, true⟩]) wx)) (by kernel_rfl) (by kernel_rfl)
  case hob =>
    apply Oblig.cons
    case h =>
      intro S w1 hwi hSi hd hcl
      apply StepOk.intro
      intro K hK
      have qx3 := hwi.1.k10
      go_simp
      apply hK
      · rfl
      · conv => (lhs; whnf)
      · exact hwi
    simp only [put_lit, put_none]
    try dsimp only [List.set_cons_succ, List.set_cons_zero]
    apply Oblig.cons
    case h =>
      intro S w1 hwi hSi hd hcl
      apply StepOk.intro
      intro K hK
      have qx3 := hwi.1.k10
      go_simp
      apply hK
      · rfl
      · conv => (lhs; whnf)
      · exact hwi
    simp only [put_lit, put_none]
    try dsimp only [List.set_cons_succ, List.set_cons_zero]
    apply Oblig.cons
    case h =>
      intro S w1 hwi hSi hd hcl
      apply StepOk.intro
      intro K hK
      have qx3 := hwi.1.k10
      go_simp
      apply hK
      · rfl
      · conv => (lhs; whnf)
      · exact hwi
    simp only [put_lit, put_none]
    try dsimp only [List.set_cons_succ, List.set_cons_zero]
    apply Oblig.cons
    case h =>
      intro S w1 hwi hSi hd hcl
      apply StepOk.intro
      intro K hK
      have qx3 := hwi.1.k10
      go_simp
      apply hK
      · rfl
      · conv => (lhs; whnf)
      · exact hwi
    simp only [put_lit, put_none]
    try dsimp only [List.set_cons_succ, List.set_cons_zero]
    apply Oblig.cons
    case h =>
      intro S w1 hwi hSi hd hcl
      apply StepOk.intro
      intro K hK
      have qx3 := hwi.1.k10
      go_simp
      apply hK
      · rfl
      · conv => (lhs; whnf)
      · exact hwi
    simp only [put_lit, put_none]
    try dsimp only [List.set_cons_succ, List.set_cons_zero]
    apply Oblig.cons
    case h =>
      intro S w1 hwi hSi hd hcl
      apply StepOk.intro
      intro K hK
      have qx3 := hwi.1.k10
      go_simp
      apply hK
      · rfl
      · conv => (lhs; whnf)
      · exact hwi
    simp only [put_lit, put_none]
    try dsimp only [List.set_cons_succ, List.set_cons_zero]
    apply Oblig.cons
    case h =>
      intro S w1 hwi hSi hd hcl
      apply StepOk.intro
      intro K hK
      have qx3 := hwi.1.k10
      go_simp
      apply hK
      · rfl
      · conv => (lhs; whnf)
      · exact hwi
    simp only [put_lit, put_none]
    try dsimp only [List.set_cons_succ, List.set_cons_zero]
    apply Oblig.cons
    case h =>
      intro S w1 hwi hSi hd hcl
      apply StepOk.intro
      intro K hK
      have qx3 := hwi.1.k10
      go_simp
      apply hK
      · rfl
      · conv => (lhs; whnf)
      · exact hwi
    simp only [put_lit, put_none]
    try dsimp only [List.set_cons_succ, List.set_cons_zero]
    apply Oblig.cons
    case h =>
      intro S w1 hwi hSi hd hcl
      apply StepOk.intro
      intro K hK
      have qx3 := hwi.1.k10
      go_simp
      apply hK
      · rfl
      · conv => (lhs; whnf)
      · exact hwi
    simp only [put_lit, put_none]
    try dsimp only [List.set_cons_succ, List.set_cons_zero]
    apply Oblig.cons
    case h =>
      intro S w1 hwi hSi hd hcl
      apply StepOk.intro
      intro K hK
      have qx3 := hwi.1.k10
      go_simp
      apply hK
      · rfl
      · conv => (lhs; whnf)
      · exact hwi
    simp only [put_lit, put_none]
    try dsimp only [List.set_cons_succ, List.set_cons_zero]
    apply Oblig.cons
    case h =>
      intro S w1 hwi hSi hd hcl
      apply StepOk.intro
      intro K hK
      have qx3 := hwi.1.k10
      go_simp
      apply hK
      · rfl
      · conv => (lhs; whnf)
      · exact hwi
    simp only [put_lit, put_none]
    try dsimp only [List.set_cons_succ, List.set_cons_zero]
    apply Oblig.cons
    case h =>
      intro S w1 hwi hSi hd hcl
      apply StepOk.intro
      intro K hK
      have qx3 := hwi.1.k10
      go_simp
      apply hK
      · rfl
      · conv => (lhs; whnf)
      · exact hwi
    simp only [put_lit, put_none]
    try dsimp only [List.set_cons_succ, List.set_cons_zero]
    apply Oblig.cons
    case h =>
      intro S w1 hwi hSi hd hcl
      apply StepOk.intro
      intro K hK
      have qx3 := hwi.1.k10
      go_simp
      apply hK
      · rfl
      · conv => (lhs; whnf)
      · exact hwi
    simp only [put_lit, put_none]
    try dsimp only [List.set_cons_succ, List.set_cons_zero]
    apply Oblig.cons
    case h =>
      intro S w1 hwi hSi hd hcl
      apply StepOk.intro
      intro K hK
      have qx3 := hwi.1.k10
      go_simp
      apply hK
      · rfl
      · conv => (lhs; whnf)
      · exact hwi
    simp only [put_lit, put_none]
    try dsimp only [List.set_cons_succ, List.set_cons_zero]
    apply Oblig.cons
    case h =>
      intro S w1 hwi hSi hd hcl
      apply StepOk.intro
      intro K hK
      have qx3 := hwi.1.k10
      go_simp
      refine (add_with vv hwi.1 (by omega)).mono ?_
      rintro e w2 ⟨rfl, rfl⟩
      apply hK
      · rfl
      · conv => (lhs; whnf)
      · exact hwi
    simp only [put_lit, put_none]
    try dsimp only [List.set_cons_succ, List.set_cons_zero]
    apply Oblig.cons
    case h =>
      intro S w1 hwi hSi hd hcl
      apply StepOk.intro
      intro K hK
      have qx3 := hwi.1.k10
      go_simp
      refine (show Calls Try.prog 60 #[ptr m, i64 (sp0 : Int), i64 ww, i64 (pNext6 ww vv)] w1 (fun e w2 => e = .returned (.bool true) ∧ MemPost B w1 m a lv (casW W sp0 ww (pNext6 ww vv)) (L ++ [⟨3, sp0, ww, pNext6 ww vv, true⟩]) w2) from by have h := mem_Cas (sp0 : Int) ww (pNext6 ww vv) (hwi.2.1 hSi).1 (by omega) (by omega) hL; rw [Int.toNat_natCast, hcb] at h; exact h).mono ?_
      rintro e w2 ⟨rfl, hp⟩
      obtain ⟨lvq, hq1, hq2, hq3⟩ := id hp
      have hblk := hq2.blk hwi.1 (am_far (hwi.2.1 hSi).1 hwi.1)
      have hpp := hp.before (hwi.2.1 hSi).2
      apply hK
      · rfl
      · conv => (lhs; whnf)
      · exact ⟨hblk, fun h => by simp [upd] at h, fun _ => hpp⟩
    simp only [put_lit, put_none]
    try dsimp only [List.set_cons_succ, List.set_cons_zero]
    exact Oblig.nil
  case h0 =>
    exact ⟨HX.out.drew, fun _ => ⟨HM.out.same (Keep.refl _ _).drew, (Keep.refl _ _).drew⟩, fun h => by cases h⟩
  case hend =>
    intro S wx hwi hall
    obtain ⟨lv1, hm, hk, ho⟩ := hwi.2.2 (hall 15 (by decide))
    have HX1 := hid hwi.1
    have HM1 := hid hm
    have HK1 := hid hk
    have HO1 := hid ho
    clear hwi hall hm hk ho
    go_wp2_with fail
    go_ret
    exact addP_of HM1.out HK1.out HO1.out HX1.out (Keep.refl _ _) HX1.out
end
end Go.Proofs.Ytlkniogapdhcpaa
