/- package pool: stages 4, 5, 6 of step. -/
import Derived.Test.YtdjfeapncpcmgaaPool
import Derived.Deep.RegionLaw
namespace Go.Proofs.Ytdjfeapncpcmgaa
open Go.RowKit
set_option linter.unusedVariables false
set_option linter.unusedSimpArgs false
set_option maxRecDepth 100000
section
variable {B : Nat} {w : World} {m a x : Nat} {lv : Value} {av le : Nat} {nd n lim X : Int}

set_option maxHeartbeats 4000000 in
theorem pool_step4 (t : PS) (hm : MemAt B w m a lv t.W t.L) (hx : Blk w x 100 (pcs av le nd n lim 4 t)) (hi : PInv av le n lim X t) (h0 : t.next = 4) (hX : X ≤ 4398046511104) (hL : t.L.length ≤ 1000000000) :
    Calls Try.prog 54 #[ptr x, ptr m] w (PoolP B w m a lv x av le nd n lim 4 (pNext av le n lim t)) := by
  obtain ⟨W, L, next, had, saw, extra, bad⟩ := t
  obtain ⟨la, ll, ne, n1, m1, wl, wa, nx, s1, s3, s4, s5, b⟩ := hi
  simp only at *
  subst h0
  obtain rfl : bad = false := by
    cases bad with
    | false => rfl
    | true => have := b rfl; omega
  have hx1 : Blk w x 100 [i64 av, i64 le, i64 nd, i64 n, i64 lim, i64 (4 : Nat), i64 (had), i64 (saw), i64 (extra), i64 0, i64 0, .bool false, i64 0] := hx
  have qx := hx1.k13
  have HX := hid hx1
  have HM := hid hm
  have hxm := pm_far hm hx1
  clear hx hx1 hm b nx
  have hx := s4 (Or.inl rfl)
  have hy : IntKind.i64.wrap (rd W le + extra) = rd W le + extra := IntWalk.i64_in _ (by omega)
  by_cases c : rd W le + extra ≤ lim
  · have e : pNext av le n lim ⟨W, L, 4, had, saw, extra, false⟩ = ⟨W, L ++ [⟨1, le, rd W le, 0, false⟩], 5, rd W le, saw, extra, false⟩ := by simp [pNext, c]
    rw [e]
    clear e
    go_enter Try.func54, Try.ntmps54
    go_wp2_with fail
    refine (mem_Load le HM.out (by omega) (by omega) hL).mono ?_
    rintro e w1 ⟨rfl, lv1, hm, hk, ho⟩
    rw [Int.toNat_natCast] at *
    have hb := hk.blk HX.out hxm
    have qx1 := hb.k13
    have HM1 := hid hm
    have HK1 := hid hk
    have HO1 := hid ho
    have HX1 := hid hb
    clear hm hk ho hb qx
    go_wp2_with fail
    have HX2 := hid (HX1.out.set 6 (i64 (rd W le)))
    have HK2 : Hid (Keep (fun k => k = x) w1 (w1.setCell ⟨x, 6, none⟩ (i64 (rd W le)))) := hid ((Keep.refl _ _).set _ _ (fun _ => rfl))
    clear qx1
    generalize w1.setCell ⟨x, 6, none⟩ (i64 (rd W le)) = w2 at *
    have qx2 : _ := (show Blk w2 x 100 [i64 av, i64 le, i64 nd, i64 n, i64 lim, i64 (4 : Nat), i64 (rd W le), i64 (saw), i64 (extra), i64 0, i64 0, .bool false, i64 0] from HX2.out).k13
    clear qx2
    apply wp_region_text (WI := fun S wx => Keep0 w2 wx) (by kernel_rfl) (by kernel_rfl)
    case hob =>
      apply Oblig.cons
      case h =>
        intro S w1 hwi hSi hd hcl
        apply StepOk.intro
        intro K hK
        have qx3 := (hwi.blk (show Blk w2 x 100 [i64 av, i64 le, i64 nd, i64 n, i64 lim, i64 (4 : Nat), i64 (rd W le), i64 (saw), i64 (extra), i64 0, i64 0, .bool false, i64 0] from HX2.out) (fun h => h)).k13
        go_simp
        apply hK
        · rfl
        · conv => (lhs; whnf)
        · exact hwi
      simp only [put_lit, put_none, List.set_cons_succ, List.set_cons_zero]
      apply Oblig.cons
      case h =>
        intro S w1 hwi hSi hd hcl
        apply StepOk.intro
        intro K hK
        have qx3 := (hwi.blk (show Blk w2 x 100 [i64 av, i64 le, i64 nd, i64 n, i64 lim, i64 (4 : Nat), i64 (rd W le), i64 (saw), i64 (extra), i64 0, i64 0, .bool false, i64 0] from HX2.out) (fun h => h)).k13
        go_simp
        apply hK
        · rfl
        · conv => (lhs; whnf)
        · exact hwi
      simp only [put_lit, put_none, List.set_cons_succ, List.set_cons_zero]
      apply Oblig.cons
      case h =>
        intro S w1 hwi hSi hd hcl
        apply StepOk.intro
        intro K hK
        have qx3 := (hwi.blk (show Blk w2 x 100 [i64 av, i64 le, i64 nd, i64 n, i64 lim, i64 (4 : Nat), i64 (rd W le), i64 (saw), i64 (extra), i64 0, i64 0, .bool false, i64 0] from HX2.out) (fun h => h)).k13
        go_simp
        apply hK
        · rfl
        · conv => (lhs; whnf)
        · exact hwi
      simp only [put_lit, put_none, List.set_cons_succ, List.set_cons_zero]
      apply Oblig.cons
      case h =>
        intro S w1 hwi hSi hd hcl
        apply StepOk.intro
        intro K hK
        have qx3 := (hwi.blk (show Blk w2 x 100 [i64 av, i64 le, i64 nd, i64 n, i64 lim, i64 (4 : Nat), i64 (rd W le), i64 (saw), i64 (extra), i64 0, i64 0, .bool false, i64 0] from HX2.out) (fun h => h)).k13
        go_simp
        apply hK
        · rfl
        · conv => (lhs; whnf)
        · exact hwi
      simp only [put_lit, put_none, List.set_cons_succ, List.set_cons_zero]
      apply Oblig.cons
      case h =>
        intro S w1 hwi hSi hd hcl
        apply StepOk.intro
        intro K hK
        have qx3 := (hwi.blk (show Blk w2 x 100 [i64 av, i64 le, i64 nd, i64 n, i64 lim, i64 (4 : Nat), i64 (rd W le), i64 (saw), i64 (extra), i64 0, i64 0, .bool false, i64 0] from HX2.out) (fun h => h)).k13
        go_simp
        apply hK
        · rfl
        · conv => (lhs; whnf)
        · exact hwi
      simp only [put_lit, put_none, List.set_cons_succ, List.set_cons_zero]
      apply Oblig.cons
      case h =>
        intro S w1 hwi hSi hd hcl
        apply StepOk.intro
        intro K hK
        have qx3 := (hwi.blk (show Blk w2 x 100 [i64 av, i64 le, i64 nd, i64 n, i64 lim, i64 (4 : Nat), i64 (rd W le), i64 (saw), i64 (extra), i64 0, i64 0, .bool false, i64 0] from HX2.out) (fun h => h)).k13
        go_simp
        apply hK
        · rfl
        · conv => (lhs; whnf)
        · exact hwi
      simp only [put_lit, put_none, List.set_cons_succ, List.set_cons_zero]
      apply Oblig.cons
      case h =>
        intro S w1 hwi hSi hd hcl
        apply StepOk.intro
        intro K hK
        have qx3 := (hwi.blk (show Blk w2 x 100 [i64 av, i64 le, i64 nd, i64 n, i64 lim, i64 (4 : Nat), i64 (rd W le), i64 (saw), i64 (extra), i64 0, i64 0, .bool false, i64 0] from HX2.out) (fun h => h)).k13
        go_simp
        apply hK
        · rfl
        · conv => (lhs; whnf)
        · exact hwi
      simp only [put_lit, put_none, List.set_cons_succ, List.set_cons_zero]
      apply Oblig.cons
      case h =>
        intro S w1 hwi hSi hd hcl
        apply StepOk.intro
        intro K hK
        have qx3 := (hwi.blk (show Blk w2 x 100 [i64 av, i64 le, i64 nd, i64 n, i64 lim, i64 (4 : Nat), i64 (rd W le), i64 (saw), i64 (extra), i64 0, i64 0, .bool false, i64 0] from HX2.out) (fun h => h)).k13
        go_simp
        apply hK
        · rfl
        · conv => (lhs; whnf)
        · exact hwi
      simp only [put_lit, put_none, List.set_cons_succ, List.set_cons_zero]
      apply Oblig.cons
      case h =>
        intro S w1 hwi hSi hd hcl
        apply StepOk.intro
        intro K hK
        have qx3 := (hwi.blk (show Blk w2 x 100 [i64 av, i64 le, i64 nd, i64 n, i64 lim, i64 (4 : Nat), i64 (rd W le), i64 (saw), i64 (extra), i64 0, i64 0, .bool false, i64 0] from HX2.out) (fun h => h)).k13
        go_simp
        apply hK
        · rfl
        · conv => (lhs; whnf)
        · exact hwi
      simp only [put_lit, put_none, List.set_cons_succ, List.set_cons_zero]
      apply Oblig.cons
      case h =>
        intro S w1 hwi hSi hd hcl
        apply StepOk.intro
        intro K hK
        have qx3 := (hwi.blk (show Blk w2 x 100 [i64 av, i64 le, i64 nd, i64 n, i64 lim, i64 (4 : Nat), i64 (rd W le), i64 (saw), i64 (extra), i64 0, i64 0, .bool false, i64 0] from HX2.out) (fun h => h)).k13
        go_simp
        apply hK
        · rfl
        · conv => (lhs; whnf)
        · exact hwi
      simp only [put_lit, put_none, List.set_cons_succ, List.set_cons_zero]
      apply Oblig.cons
      case h =>
        intro S w1 hwi hSi hd hcl
        apply StepOk.intro
        intro K hK
        have qx3 := (hwi.blk (show Blk w2 x 100 [i64 av, i64 le, i64 nd, i64 n, i64 lim, i64 (4 : Nat), i64 (rd W le), i64 (saw), i64 (extra), i64 0, i64 0, .bool false, i64 0] from HX2.out) (fun h => h)).k13
        go_simp
        apply hK
        · rfl
        · conv => (lhs; whnf)
        · exact hwi
      simp only [put_lit, put_none, List.set_cons_succ, List.set_cons_zero]
      apply Oblig.cons
      case h =>
        intro S w1 hwi hSi hd hcl
        apply StepOk.intro
        intro K hK
        have qx3 := (hwi.blk (show Blk w2 x 100 [i64 av, i64 le, i64 nd, i64 n, i64 lim, i64 (4 : Nat), i64 (rd W le), i64 (saw), i64 (extra), i64 0, i64 0, .bool false, i64 0] from HX2.out) (fun h => h)).k13
        go_simp
        apply hK
        · rfl
        · conv => (lhs; whnf)
        · exact hwi
      simp only [put_lit, put_none, List.set_cons_succ, List.set_cons_zero]
      apply Oblig.cons
      case h =>
        intro S w1 hwi hSi hd hcl
        apply StepOk.intro
        intro K hK
        have qx3 := (hwi.blk (show Blk w2 x 100 [i64 av, i64 le, i64 nd, i64 n, i64 lim, i64 (4 : Nat), i64 (rd W le), i64 (saw), i64 (extra), i64 0, i64 0, .bool false, i64 0] from HX2.out) (fun h => h)).k13
        go_simp
        apply hK
        · rfl
        · conv => (lhs; whnf)
        · exact hwi
      simp only [put_lit, put_none, List.set_cons_succ, List.set_cons_zero]
      apply Oblig.cons
      case h =>
        intro S w1 hwi hSi hd hcl
        apply StepOk.intro
        intro K hK
        have qx3 := (hwi.blk (show Blk w2 x 100 [i64 av, i64 le, i64 nd, i64 n, i64 lim, i64 (4 : Nat), i64 (rd W le), i64 (saw), i64 (extra), i64 0, i64 0, .bool false, i64 0] from HX2.out) (fun h => h)).k13
        go_simp
        apply hK
        · rfl
        · conv => (lhs; whnf)
        · exact hwi
      simp only [put_lit, put_none, List.set_cons_succ, List.set_cons_zero]
      apply Oblig.cons
      case h =>
        intro S w1 hwi hSi hd hcl
        apply StepOk.intro
        intro K hK
        have qx3 := (hwi.blk (show Blk w2 x 100 [i64 av, i64 le, i64 nd, i64 n, i64 lim, i64 (4 : Nat), i64 (rd W le), i64 (saw), i64 (extra), i64 0, i64 0, .bool false, i64 0] from HX2.out) (fun h => h)).k13
        go_simp
        refine (pool_either _ _ _ _).mono ?_
        rintro e w2 ⟨rfl, rfl⟩
        apply hK
        · rfl
        · conv => (lhs; whnf)
        · exact hwi
      simp only [put_lit, put_none, List.set_cons_succ, List.set_cons_zero]
      apply Oblig.cons
      case h =>
        intro S w1 hwi hSi hd hcl
        apply StepOk.intro
        intro K hK
        have qx3 := (hwi.blk (show Blk w2 x 100 [i64 av, i64 le, i64 nd, i64 n, i64 lim, i64 (4 : Nat), i64 (rd W le), i64 (saw), i64 (extra), i64 0, i64 0, .bool false, i64 0] from HX2.out) (fun h => h)).k13
        go_simp
        apply hK
        · rfl
        · conv => (lhs; whnf)
        · exact hwi
      simp only [put_lit, put_none, List.set_cons_succ, List.set_cons_zero]
      exact Oblig.nil
    case h0 =>
      exact (Keep.refl _ _).drew
    case hend =>
      intro S wx hwi hall
      have HW := hid hwi
      clear hwi
      go_wp2_with fail
      go_ret
      exact poolP_of (t' := _) HM1.out HK1.out HO1.out HX1.out (HK2.out.trans (HW.out.to (S := fun k => k = x)) (fun _ _ h => h)) (HW.out.blk HX2.out (fun h => h))
  · have e : pNext av le n lim ⟨W, L, 4, had, saw, extra, false⟩ = ⟨W, L ++ [⟨1, le, rd W le, 0, false⟩], 6, rd W le, saw, extra, false⟩ := by simp [pNext, c]
    rw [e]
    clear e
    go_enter Try.func54, Try.ntmps54
    go_wp2_with fail
    refine (mem_Load le HM.out (by omega) (by omega) hL).mono ?_
    rintro e w1 ⟨rfl, lv1, hm, hk, ho⟩
    rw [Int.toNat_natCast] at *
    have hb := hk.blk HX.out hxm
    have qx1 := hb.k13
    have HM1 := hid hm
    have HK1 := hid hk
    have HO1 := hid ho
    have HX1 := hid hb
    clear hm hk ho hb qx
    go_wp2_with fail
    have HX2 := hid (HX1.out.set 6 (i64 (rd W le)))
    have HK2 : Hid (Keep (fun k => k = x) w1 (w1.setCell ⟨x, 6, none⟩ (i64 (rd W le)))) := hid ((Keep.refl _ _).set _ _ (fun _ => rfl))
    clear qx1
    generalize w1.setCell ⟨x, 6, none⟩ (i64 (rd W le)) = w2 at *
    have qx2 : _ := (show Blk w2 x 100 [i64 av, i64 le, i64 nd, i64 n, i64 lim, i64 (4 : Nat), i64 (rd W le), i64 (saw), i64 (extra), i64 0, i64 0, .bool false, i64 0] from HX2.out).k13
    clear qx2
    apply wp_region_text (WI := fun S wx => Keep0 w2 wx) (by kernel_rfl) (by kernel_rfl)
    case hob =>
      apply Oblig.cons
      case h =>
        intro S w1 hwi hSi hd hcl
        apply StepOk.intro
        intro K hK
        have qx3 := (hwi.blk (show Blk w2 x 100 [i64 av, i64 le, i64 nd, i64 n, i64 lim, i64 (4 : Nat), i64 (rd W le), i64 (saw), i64 (extra), i64 0, i64 0, .bool false, i64 0] from HX2.out) (fun h => h)).k13
        go_simp
        apply hK
        · rfl
        · conv => (lhs; whnf)
        · exact hwi
      simp only [put_lit, put_none, List.set_cons_succ, List.set_cons_zero]
      apply Oblig.cons
      case h =>
        intro S w1 hwi hSi hd hcl
        apply StepOk.intro
        intro K hK
        have qx3 := (hwi.blk (show Blk w2 x 100 [i64 av, i64 le, i64 nd, i64 n, i64 lim, i64 (4 : Nat), i64 (rd W le), i64 (saw), i64 (extra), i64 0, i64 0, .bool false, i64 0] from HX2.out) (fun h => h)).k13
        go_simp
        apply hK
        · rfl
        · conv => (lhs; whnf)
        · exact hwi
      simp only [put_lit, put_none, List.set_cons_succ, List.set_cons_zero]
      apply Oblig.cons
      case h =>
        intro S w1 hwi hSi hd hcl
        apply StepOk.intro
        intro K hK
        have qx3 := (hwi.blk (show Blk w2 x 100 [i64 av, i64 le, i64 nd, i64 n, i64 lim, i64 (4 : Nat), i64 (rd W le), i64 (saw), i64 (extra), i64 0, i64 0, .bool false, i64 0] from HX2.out) (fun h => h)).k13
        go_simp
        apply hK
        · rfl
        · conv => (lhs; whnf)
        · exact hwi
      simp only [put_lit, put_none, List.set_cons_succ, List.set_cons_zero]
      apply Oblig.cons
      case h =>
        intro S w1 hwi hSi hd hcl
        apply StepOk.intro
        intro K hK
        have qx3 := (hwi.blk (show Blk w2 x 100 [i64 av, i64 le, i64 nd, i64 n, i64 lim, i64 (4 : Nat), i64 (rd W le), i64 (saw), i64 (extra), i64 0, i64 0, .bool false, i64 0] from HX2.out) (fun h => h)).k13
        go_simp
        apply hK
        · rfl
        · conv => (lhs; whnf)
        · exact hwi
      simp only [put_lit, put_none, List.set_cons_succ, List.set_cons_zero]
      apply Oblig.cons
      case h =>
        intro S w1 hwi hSi hd hcl
        apply StepOk.intro
        intro K hK
        have qx3 := (hwi.blk (show Blk w2 x 100 [i64 av, i64 le, i64 nd, i64 n, i64 lim, i64 (4 : Nat), i64 (rd W le), i64 (saw), i64 (extra), i64 0, i64 0, .bool false, i64 0] from HX2.out) (fun h => h)).k13
        go_simp
        apply hK
        · rfl
        · conv => (lhs; whnf)
        · exact hwi
      simp only [put_lit, put_none, List.set_cons_succ, List.set_cons_zero]
      apply Oblig.cons
      case h =>
        intro S w1 hwi hSi hd hcl
        apply StepOk.intro
        intro K hK
        have qx3 := (hwi.blk (show Blk w2 x 100 [i64 av, i64 le, i64 nd, i64 n, i64 lim, i64 (4 : Nat), i64 (rd W le), i64 (saw), i64 (extra), i64 0, i64 0, .bool false, i64 0] from HX2.out) (fun h => h)).k13
        go_simp
        apply hK
        · rfl
        · conv => (lhs; whnf)
        · exact hwi
      simp only [put_lit, put_none, List.set_cons_succ, List.set_cons_zero]
      apply Oblig.cons
      case h =>
        intro S w1 hwi hSi hd hcl
        apply StepOk.intro
        intro K hK
        have qx3 := (hwi.blk (show Blk w2 x 100 [i64 av, i64 le, i64 nd, i64 n, i64 lim, i64 (4 : Nat), i64 (rd W le), i64 (saw), i64 (extra), i64 0, i64 0, .bool false, i64 0] from HX2.out) (fun h => h)).k13
        go_simp
        apply hK
        · rfl
        · conv => (lhs; whnf)
        · exact hwi
      simp only [put_lit, put_none, List.set_cons_succ, List.set_cons_zero]
      apply Oblig.cons
      case h =>
        intro S w1 hwi hSi hd hcl
        apply StepOk.intro
        intro K hK
        have qx3 := (hwi.blk (show Blk w2 x 100 [i64 av, i64 le, i64 nd, i64 n, i64 lim, i64 (4 : Nat), i64 (rd W le), i64 (saw), i64 (extra), i64 0, i64 0, .bool false, i64 0] from HX2.out) (fun h => h)).k13
        go_simp
        apply hK
        · rfl
        · conv => (lhs; whnf)
        · exact hwi
      simp only [put_lit, put_none, List.set_cons_succ, List.set_cons_zero]
      apply Oblig.cons
      case h =>
        intro S w1 hwi hSi hd hcl
        apply StepOk.intro
        intro K hK
        have qx3 := (hwi.blk (show Blk w2 x 100 [i64 av, i64 le, i64 nd, i64 n, i64 lim, i64 (4 : Nat), i64 (rd W le), i64 (saw), i64 (extra), i64 0, i64 0, .bool false, i64 0] from HX2.out) (fun h => h)).k13
        go_simp
        apply hK
        · rfl
        · conv => (lhs; whnf)
        · exact hwi
      simp only [put_lit, put_none, List.set_cons_succ, List.set_cons_zero]
      apply Oblig.cons
      case h =>
        intro S w1 hwi hSi hd hcl
        apply StepOk.intro
        intro K hK
        have qx3 := (hwi.blk (show Blk w2 x 100 [i64 av, i64 le, i64 nd, i64 n, i64 lim, i64 (4 : Nat), i64 (rd W le), i64 (saw), i64 (extra), i64 0, i64 0, .bool false, i64 0] from HX2.out) (fun h => h)).k13
        go_simp
        apply hK
        · rfl
        · conv => (lhs; whnf)
        · exact hwi
      simp only [put_lit, put_none, List.set_cons_succ, List.set_cons_zero]
      apply Oblig.cons
      case h =>
        intro S w1 hwi hSi hd hcl
        apply StepOk.intro
        intro K hK
        have qx3 := (hwi.blk (show Blk w2 x 100 [i64 av, i64 le, i64 nd, i64 n, i64 lim, i64 (4 : Nat), i64 (rd W le), i64 (saw), i64 (extra), i64 0, i64 0, .bool false, i64 0] from HX2.out) (fun h => h)).k13
        go_simp
        apply hK
        · rfl
        · conv => (lhs; whnf)
        · exact hwi
      simp only [put_lit, put_none, List.set_cons_succ, List.set_cons_zero]
      apply Oblig.cons
      case h =>
        intro S w1 hwi hSi hd hcl
        apply StepOk.intro
        intro K hK
        have qx3 := (hwi.blk (show Blk w2 x 100 [i64 av, i64 le, i64 nd, i64 n, i64 lim, i64 (4 : Nat), i64 (rd W le), i64 (saw), i64 (extra), i64 0, i64 0, .bool false, i64 0] from HX2.out) (fun h => h)).k13
        go_simp
        apply hK
        · rfl
        · conv => (lhs; whnf)
        · exact hwi
      simp only [put_lit, put_none, List.set_cons_succ, List.set_cons_zero]
      apply Oblig.cons
      case h =>
        intro S w1 hwi hSi hd hcl
        apply StepOk.intro
        intro K hK
        have qx3 := (hwi.blk (show Blk w2 x 100 [i64 av, i64 le, i64 nd, i64 n, i64 lim, i64 (4 : Nat), i64 (rd W le), i64 (saw), i64 (extra), i64 0, i64 0, .bool false, i64 0] from HX2.out) (fun h => h)).k13
        go_simp
        apply hK
        · rfl
        · conv => (lhs; whnf)
        · exact hwi
      simp only [put_lit, put_none, List.set_cons_succ, List.set_cons_zero]
      apply Oblig.cons
      case h =>
        intro S w1 hwi hSi hd hcl
        apply StepOk.intro
        intro K hK
        have qx3 := (hwi.blk (show Blk w2 x 100 [i64 av, i64 le, i64 nd, i64 n, i64 lim, i64 (4 : Nat), i64 (rd W le), i64 (saw), i64 (extra), i64 0, i64 0, .bool false, i64 0] from HX2.out) (fun h => h)).k13
        go_simp
        apply hK
        · rfl
        · conv => (lhs; whnf)
        · exact hwi
      simp only [put_lit, put_none, List.set_cons_succ, List.set_cons_zero]
      apply Oblig.cons
      case h =>
        intro S w1 hwi hSi hd hcl
        apply StepOk.intro
        intro K hK
        have qx3 := (hwi.blk (show Blk w2 x 100 [i64 av, i64 le, i64 nd, i64 n, i64 lim, i64 (4 : Nat), i64 (rd W le), i64 (saw), i64 (extra), i64 0, i64 0, .bool false, i64 0] from HX2.out) (fun h => h)).k13
        go_simp
        refine (pool_either _ _ _ _).mono ?_
        rintro e w2 ⟨rfl, rfl⟩
        apply hK
        · rfl
        · conv => (lhs; whnf)
        · exact hwi
      simp only [put_lit, put_none, List.set_cons_succ, List.set_cons_zero]
      apply Oblig.cons
      case h =>
        intro S w1 hwi hSi hd hcl
        apply StepOk.intro
        intro K hK
        have qx3 := (hwi.blk (show Blk w2 x 100 [i64 av, i64 le, i64 nd, i64 n, i64 lim, i64 (4 : Nat), i64 (rd W le), i64 (saw), i64 (extra), i64 0, i64 0, .bool false, i64 0] from HX2.out) (fun h => h)).k13
        go_simp
        apply hK
        · rfl
        · conv => (lhs; whnf)
        · exact hwi
      simp only [put_lit, put_none, List.set_cons_succ, List.set_cons_zero]
      exact Oblig.nil
    case h0 =>
      exact (Keep.refl _ _).drew
    case hend =>
      intro S wx hwi hall
      have HW := hid hwi
      clear hwi
      go_wp2_with fail
      go_ret
      exact poolP_of (t' := _) HM1.out HK1.out HO1.out HX1.out (HK2.out.trans (HW.out.to (S := fun k => k = x)) (fun _ _ h => h)) (HW.out.blk HX2.out (fun h => h))

set_option maxHeartbeats 4000000 in
theorem pool_step5 (t : PS) (hm : MemAt B w m a lv t.W t.L) (hx : Blk w x 100 (pcs av le nd n lim 5 t)) (hi : PInv av le n lim X t) (h0 : t.next = 5) (hX : X ≤ 4398046511104) (hL : t.L.length ≤ 1000000000) :
    Calls Try.prog 54 #[ptr x, ptr m] w (PoolP B w m a lv x av le nd n lim 5 (pNext av le n lim t)) := by
  obtain ⟨W, L, next, had, saw, extra, bad⟩ := t
  obtain ⟨la, ll, ne, n1, m1, wl, wa, nx, s1, s3, s4, s5, b⟩ := hi
  simp only at *
  subst h0
  obtain rfl : bad = false := by
    cases bad with
    | false => rfl
    | true => have := b rfl; omega
  have hx1 : Blk w x 100 [i64 av, i64 le, i64 nd, i64 n, i64 lim, i64 (5 : Nat), i64 (had), i64 (saw), i64 (extra), i64 0, i64 0, .bool false, i64 0] := hx
  have qx := hx1.k13
  have HX := hid hx1
  have HM := hid hm
  have hxm := pm_far hm hx1
  clear hx hx1 hm b nx
  have hx := s4 (by simp)
  have hx2 := s5 rfl
  have hy : IntKind.i64.wrap (had + extra) = had + extra := IntWalk.i64_in _ (by omega)
  by_cases c : rd W le = had
  · have hcb : (rd W le == had) = true := by simpa using c
    have e : pNext av le n lim ⟨W, L, 5, had, saw, extra, false⟩ = ⟨casW W le had (had + extra), L ++ [⟨3, le, had, had + extra, true⟩], 7, had, saw, extra, false⟩ := by simp [pNext, c]
    rw [e]
    clear e
    go_enter Try.func54, Try.ntmps54
    go_wp2_with fail
    apply wp_region_text (WI := fun S wx => Blk wx x 100 [i64 av, i64 le, i64 nd, i64 n, i64 lim, i64 (5 : Nat), i64 (had), i64 (saw), i64 (extra), i64 0, i64 0, .bool false, i64 0] ∧ (S 18 = false → MemAt B wx m a lv W L ∧ Keep0 w wx) ∧ (S 18 = true → MemPost B w m a lv (casW W le had (had + extra)) (L ++ [⟨3, le, had, had + extra, true⟩]) wx)) (by kernel_rfl) (by kernel_rfl)
    case hob =>
      apply Oblig.cons
      case h =>
        intro S w1 hwi hSi hd hcl
        apply StepOk.intro
        intro K hK
        have qx3 := hwi.1.k13
        go_simp
        apply hK
        · rfl
        · conv => (lhs; whnf)
        · exact hwi
      simp only [put_lit, put_none, List.set_cons_succ, List.set_cons_zero]
      apply Oblig.cons
      case h =>
        intro S w1 hwi hSi hd hcl
        apply StepOk.intro
        intro K hK
        have qx3 := hwi.1.k13
        go_simp
        apply hK
        · rfl
        · conv => (lhs; whnf)
        · exact hwi
      simp only [put_lit, put_none, List.set_cons_succ, List.set_cons_zero]
      apply Oblig.cons
      case h =>
        intro S w1 hwi hSi hd hcl
        apply StepOk.intro
        intro K hK
        have qx3 := hwi.1.k13
        go_simp
        apply hK
        · rfl
        · conv => (lhs; whnf)
        · exact hwi
      simp only [put_lit, put_none, List.set_cons_succ, List.set_cons_zero]
      apply Oblig.cons
      case h =>
        intro S w1 hwi hSi hd hcl
        apply StepOk.intro
        intro K hK
        have qx3 := hwi.1.k13
        go_simp
        apply hK
        · rfl
        · conv => (lhs; whnf)
        · exact hwi
      simp only [put_lit, put_none, List.set_cons_succ, List.set_cons_zero]
      apply Oblig.cons
      case h =>
        intro S w1 hwi hSi hd hcl
        apply StepOk.intro
        intro K hK
        have qx3 := hwi.1.k13
        go_simp
        apply hK
        · rfl
        · conv => (lhs; whnf)
        · exact hwi
      simp only [put_lit, put_none, List.set_cons_succ, List.set_cons_zero]
      apply Oblig.cons
      case h =>
        intro S w1 hwi hSi hd hcl
        apply StepOk.intro
        intro K hK
        have qx3 := hwi.1.k13
        go_simp
        apply hK
        · rfl
        · conv => (lhs; whnf)
        · exact hwi
      simp only [put_lit, put_none, List.set_cons_succ, List.set_cons_zero]
      apply Oblig.cons
      case h =>
        intro S w1 hwi hSi hd hcl
        apply StepOk.intro
        intro K hK
        have qx3 := hwi.1.k13
        go_simp
        apply hK
        · rfl
        · conv => (lhs; whnf)
        · exact hwi
      simp only [put_lit, put_none, List.set_cons_succ, List.set_cons_zero]
      apply Oblig.cons
      case h =>
        intro S w1 hwi hSi hd hcl
        apply StepOk.intro
        intro K hK
        have qx3 := hwi.1.k13
        go_simp
        apply hK
        · rfl
        · conv => (lhs; whnf)
        · exact hwi
      simp only [put_lit, put_none, List.set_cons_succ, List.set_cons_zero]
      apply Oblig.cons
      case h =>
        intro S w1 hwi hSi hd hcl
        apply StepOk.intro
        intro K hK
        have qx3 := hwi.1.k13
        go_simp
        apply hK
        · rfl
        · conv => (lhs; whnf)
        · exact hwi
      simp only [put_lit, put_none, List.set_cons_succ, List.set_cons_zero]
      apply Oblig.cons
      case h =>
        intro S w1 hwi hSi hd hcl
        apply StepOk.intro
        intro K hK
        have qx3 := hwi.1.k13
        go_simp
        apply hK
        · rfl
        · conv => (lhs; whnf)
        · exact hwi
      simp only [put_lit, put_none, List.set_cons_succ, List.set_cons_zero]
      apply Oblig.cons
      case h =>
        intro S w1 hwi hSi hd hcl
        apply StepOk.intro
        intro K hK
        have qx3 := hwi.1.k13
        go_simp
        apply hK
        · rfl
        · conv => (lhs; whnf)
        · exact hwi
      simp only [put_lit, put_none, List.set_cons_succ, List.set_cons_zero]
      apply Oblig.cons
      case h =>
        intro S w1 hwi hSi hd hcl
        apply StepOk.intro
        intro K hK
        have qx3 := hwi.1.k13
        go_simp
        apply hK
        · rfl
        · conv => (lhs; whnf)
        · exact hwi
      simp only [put_lit, put_none, List.set_cons_succ, List.set_cons_zero]
      apply Oblig.cons
      case h =>
        intro S w1 hwi hSi hd hcl
        apply StepOk.intro
        intro K hK
        have qx3 := hwi.1.k13
        go_simp
        apply hK
        · rfl
        · conv => (lhs; whnf)
        · exact hwi
      simp only [put_lit, put_none, List.set_cons_succ, List.set_cons_zero]
      apply Oblig.cons
      case h =>
        intro S w1 hwi hSi hd hcl
        apply StepOk.intro
        intro K hK
        have qx3 := hwi.1.k13
        go_simp
        apply hK
        · rfl
        · conv => (lhs; whnf)
        · exact hwi
      simp only [put_lit, put_none, List.set_cons_succ, List.set_cons_zero]
      apply Oblig.cons
      case h =>
        intro S w1 hwi hSi hd hcl
        apply StepOk.intro
        intro K hK
        have qx3 := hwi.1.k13
        go_simp
        apply hK
        · rfl
        · conv => (lhs; whnf)
        · exact hwi
      simp only [put_lit, put_none, List.set_cons_succ, List.set_cons_zero]
      apply Oblig.cons
      case h =>
        intro S w1 hwi hSi hd hcl
        apply StepOk.intro
        intro K hK
        have qx3 := hwi.1.k13
        go_simp
        apply hK
        · rfl
        · conv => (lhs; whnf)
        · exact hwi
      simp only [put_lit, put_none, List.set_cons_succ, List.set_cons_zero]
      apply Oblig.cons
      case h =>
        intro S w1 hwi hSi hd hcl
        apply StepOk.intro
        intro K hK
        have qx3 := hwi.1.k13
        go_simp
        apply hK
        · rfl
        · conv => (lhs; whnf)
        · exact hwi
      simp only [put_lit, put_none, List.set_cons_succ, List.set_cons_zero]
      apply Oblig.cons
      case h =>
        intro S w1 hwi hSi hd hcl
        apply StepOk.intro
        intro K hK
        have qx3 := hwi.1.k13
        go_simp
        apply hK
        · rfl
        · conv => (lhs; whnf)
        · exact hwi
      simp only [put_lit, put_none, List.set_cons_succ, List.set_cons_zero]
      apply Oblig.cons
      case h =>
        intro S w1 hwi hSi hd hcl
        apply StepOk.intro
        intro K hK
        have qx3 := hwi.1.k13
        go_simp
        refine (show Calls Try.prog 40 #[ptr m, i64 le, i64 had, i64 (had + extra)] w1 (fun e w2 => e = .returned (.bool true) ∧ MemPost B w1 m a lv (casW W le had (had + extra)) (L ++ [⟨3, le, had, had + extra, true⟩]) w2) from by have h := mem_CasN le had (had + extra) (hwi.2.1 hSi).1 (by omega) hL; rw [hcb] at h; exact h).mono ?_
        rintro e w2 ⟨rfl, hp⟩
        obtain ⟨lvq, hq1, hq2, hq3⟩ := id hp
        have hblk := hq2.blk hwi.1 (pm_far (hwi.2.1 hSi).1 hwi.1)
        have hpp := hp.before (hwi.2.1 hSi).2
        apply hK
        · rfl
        · conv => (lhs; whnf)
        · exact ⟨hblk, fun h => by simp [upd] at h, fun _ => hpp⟩
      simp only [put_lit, put_none, List.set_cons_succ, List.set_cons_zero]
      apply Oblig.cons
      case h =>
        intro S w1 hwi hSi hd hcl
        apply StepOk.intro
        intro K hK
        have qx3 := hwi.1.k13
        go_simp
        refine (pool_either _ _ _ _).mono ?_
        rintro e w2 ⟨rfl, rfl⟩
        apply hK
        · rfl
        · conv => (lhs; whnf)
        · exact hwi
      simp only [put_lit, put_none, List.set_cons_succ, List.set_cons_zero]
      apply Oblig.cons
      case h =>
        intro S w1 hwi hSi hd hcl
        apply StepOk.intro
        intro K hK
        have qx3 := hwi.1.k13
        go_simp
        apply hK
        · rfl
        · conv => (lhs; whnf)
        · exact hwi
      simp only [put_lit, put_none, List.set_cons_succ, List.set_cons_zero]
      exact Oblig.nil
    case h0 =>
      exact ⟨HX.out.drew, fun _ => ⟨HM.out.same (Keep.refl _ _).drew, (Keep.refl _ _).drew⟩, fun h => by cases h⟩
    case hend =>
      intro S wx hwi hall
      obtain ⟨lv1, hm, hk, ho⟩ := hwi.2.2 (hall 18 (by decide))
      have HX1 := hid hwi.1
      have qx1 := hwi.1.k13
      have HM1 := hid hm
      have HK1 := hid hk
      have HO1 := hid ho
      clear hwi hall hm hk ho qx
      go_wp2_with fail
      go_ret
      exact poolP_of (t' := _) HM1.out HK1.out HO1.out HX1.out (Keep.refl _ _) HX1.out
  · have hcb : (rd W le == had) = false := by simpa using c
    have e : pNext av le n lim ⟨W, L, 5, had, saw, extra, false⟩ = ⟨casW W le had (had + extra), L ++ [⟨3, le, had, had + extra, false⟩], 4, had, saw, extra, false⟩ := by simp [pNext, c]
    rw [e]
    clear e
    go_enter Try.func54, Try.ntmps54
    go_wp2_with fail
    apply wp_region_text (WI := fun S wx => Blk wx x 100 [i64 av, i64 le, i64 nd, i64 n, i64 lim, i64 (5 : Nat), i64 (had), i64 (saw), i64 (extra), i64 0, i64 0, .bool false, i64 0] ∧ (S 18 = false → MemAt B wx m a lv W L ∧ Keep0 w wx) ∧ (S 18 = true → MemPost B w m a lv (casW W le had (had + extra)) (L ++ [⟨3, le, had, had + extra, false⟩]) wx)) (by kernel_rfl) (by kernel_rfl)
    case hob =>
      apply Oblig.cons
      case h =>
        intro S w1 hwi hSi hd hcl
        apply StepOk.intro
        intro K hK
        have qx3 := hwi.1.k13
        go_simp
        apply hK
        · rfl
        · conv => (lhs; whnf)
        · exact hwi
      simp only [put_lit, put_none, List.set_cons_succ, List.set_cons_zero]
      apply Oblig.cons
      case h =>
        intro S w1 hwi hSi hd hcl
        apply StepOk.intro
        intro K hK
        have qx3 := hwi.1.k13
        go_simp
        apply hK
        · rfl
        · conv => (lhs; whnf)
        · exact hwi
      simp only [put_lit, put_none, List.set_cons_succ, List.set_cons_zero]
      apply Oblig.cons
      case h =>
        intro S w1 hwi hSi hd hcl
        apply StepOk.intro
        intro K hK
        have qx3 := hwi.1.k13
        go_simp
        apply hK
        · rfl
        · conv => (lhs; whnf)
        · exact hwi
      simp only [put_lit, put_none, List.set_cons_succ, List.set_cons_zero]
      apply Oblig.cons
      case h =>
        intro S w1 hwi hSi hd hcl
        apply StepOk.intro
        intro K hK
        have qx3 := hwi.1.k13
        go_simp
        apply hK
        · rfl
        · conv => (lhs; whnf)
        · exact hwi
      simp only [put_lit, put_none, List.set_cons_succ, List.set_cons_zero]
      apply Oblig.cons
      case h =>
        intro S w1 hwi hSi hd hcl
        apply StepOk.intro
        intro K hK
        have qx3 := hwi.1.k13
        go_simp
        apply hK
        · rfl
        · conv => (lhs; whnf)
        · exact hwi
      simp only [put_lit, put_none, List.set_cons_succ, List.set_cons_zero]
      apply Oblig.cons
      case h =>
        intro S w1 hwi hSi hd hcl
        apply StepOk.intro
        intro K hK
        have qx3 := hwi.1.k13
        go_simp
        apply hK
        · rfl
        · conv => (lhs; whnf)
        · exact hwi
      simp only [put_lit, put_none, List.set_cons_succ, List.set_cons_zero]
      apply Oblig.cons
      case h =>
        intro S w1 hwi hSi hd hcl
        apply StepOk.intro
        intro K hK
        have qx3 := hwi.1.k13
        go_simp
        apply hK
        · rfl
        · conv => (lhs; whnf)
        · exact hwi
      simp only [put_lit, put_none, List.set_cons_succ, List.set_cons_zero]
      apply Oblig.cons
      case h =>
        intro S w1 hwi hSi hd hcl
        apply StepOk.intro
        intro K hK
        have qx3 := hwi.1.k13
        go_simp
        apply hK
        · rfl
        · conv => (lhs; whnf)
        · exact hwi
      simp only [put_lit, put_none, List.set_cons_succ, List.set_cons_zero]
      apply Oblig.cons
      case h =>
        intro S w1 hwi hSi hd hcl
        apply StepOk.intro
        intro K hK
        have qx3 := hwi.1.k13
        go_simp
        apply hK
        · rfl
        · conv => (lhs; whnf)
        · exact hwi
      simp only [put_lit, put_none, List.set_cons_succ, List.set_cons_zero]
      apply Oblig.cons
      case h =>
        intro S w1 hwi hSi hd hcl
        apply StepOk.intro
        intro K hK
        have qx3 := hwi.1.k13
        go_simp
        apply hK
        · rfl
        · conv => (lhs; whnf)
        · exact hwi
      simp only [put_lit, put_none, List.set_cons_succ, List.set_cons_zero]
      apply Oblig.cons
      case h =>
        intro S w1 hwi hSi hd hcl
        apply StepOk.intro
        intro K hK
        have qx3 := hwi.1.k13
        go_simp
        apply hK
        · rfl
        · conv => (lhs; whnf)
        · exact hwi
      simp only [put_lit, put_none, List.set_cons_succ, List.set_cons_zero]
      apply Oblig.cons
      case h =>
        intro S w1 hwi hSi hd hcl
        apply StepOk.intro
        intro K hK
        have qx3 := hwi.1.k13
        go_simp
        apply hK
        · rfl
        · conv => (lhs; whnf)
        · exact hwi
      simp only [put_lit, put_none, List.set_cons_succ, List.set_cons_zero]
      apply Oblig.cons
      case h =>
        intro S w1 hwi hSi hd hcl
        apply StepOk.intro
        intro K hK
        have qx3 := hwi.1.k13
        go_simp
        apply hK
        · rfl
        · conv => (lhs; whnf)
        · exact hwi
      simp only [put_lit, put_none, List.set_cons_succ, List.set_cons_zero]
      apply Oblig.cons
      case h =>
        intro S w1 hwi hSi hd hcl
        apply StepOk.intro
        intro K hK
        have qx3 := hwi.1.k13
        go_simp
        apply hK
        · rfl
        · conv => (lhs; whnf)
        · exact hwi
      simp only [put_lit, put_none, List.set_cons_succ, List.set_cons_zero]
      apply Oblig.cons
      case h =>
        intro S w1 hwi hSi hd hcl
        apply StepOk.intro
        intro K hK
        have qx3 := hwi.1.k13
        go_simp
        apply hK
        · rfl
        · conv => (lhs; whnf)
        · exact hwi
      simp only [put_lit, put_none, List.set_cons_succ, List.set_cons_zero]
      apply Oblig.cons
      case h =>
        intro S w1 hwi hSi hd hcl
        apply StepOk.intro
        intro K hK
        have qx3 := hwi.1.k13
        go_simp
        apply hK
        · rfl
        · conv => (lhs; whnf)
        · exact hwi
      simp only [put_lit, put_none, List.set_cons_succ, List.set_cons_zero]
      apply Oblig.cons
      case h =>
        intro S w1 hwi hSi hd hcl
        apply StepOk.intro
        intro K hK
        have qx3 := hwi.1.k13
        go_simp
        apply hK
        · rfl
        · conv => (lhs; whnf)
        · exact hwi
      simp only [put_lit, put_none, List.set_cons_succ, List.set_cons_zero]
      apply Oblig.cons
      case h =>
        intro S w1 hwi hSi hd hcl
        apply StepOk.intro
        intro K hK
        have qx3 := hwi.1.k13
        go_simp
        apply hK
        · rfl
        · conv => (lhs; whnf)
        · exact hwi
      simp only [put_lit, put_none, List.set_cons_succ, List.set_cons_zero]
      apply Oblig.cons
      case h =>
        intro S w1 hwi hSi hd hcl
        apply StepOk.intro
        intro K hK
        have qx3 := hwi.1.k13
        go_simp
        refine (show Calls Try.prog 40 #[ptr m, i64 le, i64 had, i64 (had + extra)] w1 (fun e w2 => e = .returned (.bool false) ∧ MemPost B w1 m a lv (casW W le had (had + extra)) (L ++ [⟨3, le, had, had + extra, false⟩]) w2) from by have h := mem_CasN le had (had + extra) (hwi.2.1 hSi).1 (by omega) hL; rw [hcb] at h; exact h).mono ?_
        rintro e w2 ⟨rfl, hp⟩
        obtain ⟨lvq, hq1, hq2, hq3⟩ := id hp
        have hblk := hq2.blk hwi.1 (pm_far (hwi.2.1 hSi).1 hwi.1)
        have hpp := hp.before (hwi.2.1 hSi).2
        apply hK
        · rfl
        · conv => (lhs; whnf)
        · exact ⟨hblk, fun h => by simp [upd] at h, fun _ => hpp⟩
      simp only [put_lit, put_none, List.set_cons_succ, List.set_cons_zero]
      apply Oblig.cons
      case h =>
        intro S w1 hwi hSi hd hcl
        apply StepOk.intro
        intro K hK
        have qx3 := hwi.1.k13
        go_simp
        refine (pool_either _ _ _ _).mono ?_
        rintro e w2 ⟨rfl, rfl⟩
        apply hK
        · rfl
        · conv => (lhs; whnf)
        · exact hwi
      simp only [put_lit, put_none, List.set_cons_succ, List.set_cons_zero]
      apply Oblig.cons
      case h =>
        intro S w1 hwi hSi hd hcl
        apply StepOk.intro
        intro K hK
        have qx3 := hwi.1.k13
        go_simp
        apply hK
        · rfl
        · conv => (lhs; whnf)
        · exact hwi
      simp only [put_lit, put_none, List.set_cons_succ, List.set_cons_zero]
      exact Oblig.nil
    case h0 =>
      exact ⟨HX.out.drew, fun _ => ⟨HM.out.same (Keep.refl _ _).drew, (Keep.refl _ _).drew⟩, fun h => by cases h⟩
    case hend =>
      intro S wx hwi hall
      obtain ⟨lv1, hm, hk, ho⟩ := hwi.2.2 (hall 18 (by decide))
      have HX1 := hid hwi.1
      have qx1 := hwi.1.k13
      have HM1 := hid hm
      have HK1 := hid hk
      have HO1 := hid ho
      clear hwi hall hm hk ho qx
      go_wp2_with fail
      go_ret
      exact poolP_of (t' := _) HM1.out HK1.out HO1.out HX1.out (Keep.refl _ _) HX1.out

set_option maxHeartbeats 4000000 in
theorem pool_step6 (t : PS) (hm : MemAt B w m a lv t.W t.L) (hx : Blk w x 100 (pcs av le nd n lim 6 t)) (hi : PInv av le n lim X t) (h0 : t.next = 6) (hX : X ≤ 4398046511104) (hL : t.L.length ≤ 1000000000) :
    Calls Try.prog 54 #[ptr x, ptr m] w (PoolP B w m a lv x av le nd n lim 6 (pNext av le n lim t)) := by
  obtain ⟨W, L, next, had, saw, extra, bad⟩ := t
  obtain ⟨la, ll, ne, n1, m1, wl, wa, nx, s1, s3, s4, s5, b⟩ := hi
  simp only at *
  subst h0
  obtain rfl : bad = false := by
    cases bad with
    | false => rfl
    | true => have := b rfl; omega
  have hx1 : Blk w x 100 [i64 av, i64 le, i64 nd, i64 n, i64 lim, i64 (6 : Nat), i64 (had), i64 (saw), i64 (extra), i64 0, i64 0, .bool false, i64 0] := hx
  have qx := hx1.k13
  have HX := hid hx1
  have HM := hid hm
  have hxm := pm_far hm hx1
  clear hx hx1 hm b nx
  have hx := s4 (by simp)
  have hy : wrap64 (rd W av + extra) = rd W av + extra := wrap64_in _ (by omega)
  have e : pNext av le n lim ⟨W, L, 6, had, saw, extra, false⟩ = ⟨W.set av (rd W av + extra), L ++ [⟨2, av, extra, rd W av + extra, false⟩], 7, had, saw, extra, false⟩ := by simp [pNext]
  rw [e]
  clear e
  go_enter Try.func54, Try.ntmps54
  go_wp2_with fail
  apply wp_region_text (WI := fun S wx => Blk wx x 100 [i64 av, i64 le, i64 nd, i64 n, i64 lim, i64 (6 : Nat), i64 (had), i64 (saw), i64 (extra), i64 0, i64 0, .bool false, i64 0] ∧ (S 9 = false → MemAt B wx m a lv W L ∧ Keep0 w wx) ∧ (S 9 = true → MemPost B w m a lv (W.set av (rd W av + extra)) (L ++ [⟨2, av, extra, rd W av + extra, false⟩]) wx)) (by kernel_rfl) (by kernel_rfl)
  case hob =>
    apply Oblig.cons
    case h =>
      intro S w1 hwi hSi hd hcl
      apply StepOk.intro
      intro K hK
      have qx3 := hwi.1.k13
      go_simp
      apply hK
      · rfl
      · conv => (lhs; whnf)
      · exact hwi
    simp only [put_lit, put_none, List.set_cons_succ, List.set_cons_zero]
    apply Oblig.cons
    case h =>
      intro S w1 hwi hSi hd hcl
      apply StepOk.intro
      intro K hK
      have qx3 := hwi.1.k13
      go_simp
      apply hK
      · rfl
      · conv => (lhs; whnf)
      · exact hwi
    simp only [put_lit, put_none, List.set_cons_succ, List.set_cons_zero]
    apply Oblig.cons
    case h =>
      intro S w1 hwi hSi hd hcl
      apply StepOk.intro
      intro K hK
      have qx3 := hwi.1.k13
      go_simp
      apply hK
      · rfl
      · conv => (lhs; whnf)
      · exact hwi
    simp only [put_lit, put_none, List.set_cons_succ, List.set_cons_zero]
    apply Oblig.cons
    case h =>
      intro S w1 hwi hSi hd hcl
      apply StepOk.intro
      intro K hK
      have qx3 := hwi.1.k13
      go_simp
      apply hK
      · rfl
      · conv => (lhs; whnf)
      · exact hwi
    simp only [put_lit, put_none, List.set_cons_succ, List.set_cons_zero]
    apply Oblig.cons
    case h =>
      intro S w1 hwi hSi hd hcl
      apply StepOk.intro
      intro K hK
      have qx3 := hwi.1.k13
      go_simp
      apply hK
      · rfl
      · conv => (lhs; whnf)
      · exact hwi
    simp only [put_lit, put_none, List.set_cons_succ, List.set_cons_zero]
    apply Oblig.cons
    case h =>
      intro S w1 hwi hSi hd hcl
      apply StepOk.intro
      intro K hK
      have qx3 := hwi.1.k13
      go_simp
      apply hK
      · rfl
      · conv => (lhs; whnf)
      · exact hwi
    simp only [put_lit, put_none, List.set_cons_succ, List.set_cons_zero]
    apply Oblig.cons
    case h =>
      intro S w1 hwi hSi hd hcl
      apply StepOk.intro
      intro K hK
      have qx3 := hwi.1.k13
      go_simp
      apply hK
      · rfl
      · conv => (lhs; whnf)
      · exact hwi
    simp only [put_lit, put_none, List.set_cons_succ, List.set_cons_zero]
    apply Oblig.cons
    case h =>
      intro S w1 hwi hSi hd hcl
      apply StepOk.intro
      intro K hK
      have qx3 := hwi.1.k13
      go_simp
      apply hK
      · rfl
      · conv => (lhs; whnf)
      · exact hwi
    simp only [put_lit, put_none, List.set_cons_succ, List.set_cons_zero]
    apply Oblig.cons
    case h =>
      intro S w1 hwi hSi hd hcl
      apply StepOk.intro
      intro K hK
      have qx3 := hwi.1.k13
      go_simp
      apply hK
      · rfl
      · conv => (lhs; whnf)
      · exact hwi
    simp only [put_lit, put_none, List.set_cons_succ, List.set_cons_zero]
    apply Oblig.cons
    case h =>
      intro S w1 hwi hSi hd hcl
      apply StepOk.intro
      intro K hK
      have qx3 := hwi.1.k13
      go_simp
      refine (show Calls Try.prog 41 #[ptr m, i64 av, i64 extra] w1 (fun e w2 => e = .returned (i64 (rd W av + extra)) ∧ MemPost B w1 m a lv (W.set av (rd W av + extra)) (L ++ [⟨2, av, extra, rd W av + extra, false⟩]) w2) from by have h := mem_Add (av : Int) extra (hwi.2.1 hSi).1 (by omega) (by omega) hL; rw [Int.toNat_natCast, hy] at h; exact h).mono ?_
      rintro e w2 ⟨rfl, hp⟩
      obtain ⟨lvq, hq1, hq2, hq3⟩ := id hp
      have hblk := hq2.blk hwi.1 (pm_far (hwi.2.1 hSi).1 hwi.1)
      have hpp := hp.before (hwi.2.1 hSi).2
      apply hK
      · rfl
      · conv => (lhs; whnf)
      · exact ⟨hblk, fun h => by simp [upd] at h, fun _ => hpp⟩
    simp only [put_lit, put_none, List.set_cons_succ, List.set_cons_zero]
    exact Oblig.nil
  case h0 =>
    exact ⟨HX.out.drew, fun _ => ⟨HM.out.same (Keep.refl _ _).drew, (Keep.refl _ _).drew⟩, fun h => by cases h⟩
  case hend =>
    intro S wx hwi hall
    obtain ⟨lv1, hm, hk, ho⟩ := hwi.2.2 (hall 9 (by decide))
    have HX1 := hid hwi.1
    have qx1 := hwi.1.k13
    have HM1 := hid hm
    have HK1 := hid hk
    have HO1 := hid ho
    clear hwi hall hm hk ho qx
    go_wp2_with fail
    go_ret
    exact poolP_of (t' := _) HM1.out HK1.out HO1.out HX1.out (Keep.refl _ _) HX1.out
end
end Go.Proofs.Ytdjfeapncpcmgaa
