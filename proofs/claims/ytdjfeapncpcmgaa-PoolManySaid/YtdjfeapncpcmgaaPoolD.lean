/- package pool: stages 3 of step. -/
import Derived.Test.YtdjfeapncpcmgaaPool
import Derived.Deep.RegionLaw
namespace Go.Proofs.Ytdjfeapncpcmgaa
open Go.RowKit
set_option linter.unusedVariables false
set_option linter.unusedSimpArgs false
set_option maxRecDepth 100000
section
variable {B : Nat} {w : World} {m a x : Nat} {lv : Value} {av le : Nat} {nd n lim X : Int}

set_option maxHeartbeats 4000000 in
theorem pool_step3 (t : PS) (hm : MemAt B w m a lv t.W t.L) (hx : Blk w x 100 (pcs av le nd n lim 3 t)) (hi : PInv av le n lim X t) (h0 : t.next = 3) (hX : X ≤ 4398046511104) (hL : t.L.length ≤ 1000000000) :
    Calls Try.prog 54 #[ptr x, ptr m] w (PoolP B w m a lv x av le nd n lim 3 (pNext av le n lim t)) := by
  obtain ⟨W, L, next, had, saw, extra, bad⟩ := t
  obtain ⟨la, ll, ne, n1, m1, wl, wa, nx, s1, s3, s4, s5, b⟩ := hi
  simp only at *
  subst h0
  obtain rfl : bad = false := by
    cases bad with
    | false => rfl
    | true => have := b rfl; omega
  have hx1 : Blk w x 100 [i64 av, i64 le, i64 nd, i64 n, i64 lim, i64 (3 : Nat), i64 (had), i64 (saw), i64 (extra), i64 0, i64 0, .bool false, i64 0] := hx
  have qx := hx1.k13
  have HX := hid hx1
  have HM := hid hm
  have hxm := pm_far hm hx1
  clear hx hx1 hm b nx
  obtain ⟨q1, q2, q3⟩ := s3 rfl
  have hy : IntKind.i64.wrap (saw - n) = saw - n := IntWalk.i64_in _ (by omega)
  have hy2 : IntKind.i64.wrap (saw - n - extra) = saw - n - extra := IntWalk.i64_in _ (by omega)
  clear q3 s1 s3 s4 s5
  by_cases c : rd W av = saw
  · have hcb : (rd W av == saw) = true := by simpa using c
    by_cases c2 : extra = 0
    · have hc2 : (extra == 0) = true := by simpa using c2
      have e : pNext av le n lim ⟨W, L, 3, had, saw, extra, false⟩ = ⟨casW W av saw (saw - n - extra), L ++ [⟨3, av, saw, saw - n - extra, true⟩], 7, had, saw, extra, false⟩ := by simp [pNext, c, c2]
      rw [e]
      have HC2 := hid hc2
      clear e c2 hc2
      go_enter Try.func54, Try.ntmps54
      go_wp2_with fail
      apply wp_region_text (WI := fun S wx => Blk wx x 100 [i64 av, i64 le, i64 nd, i64 n, i64 lim, i64 (3 : Nat), i64 (had), i64 (saw), i64 (extra), i64 0, i64 0, .bool false, i64 0] ∧ (S 23 = false → MemAt B wx m a lv W L ∧ Keep0 w wx) ∧ (S 23 = true → MemPost B w m a lv (casW W av saw (saw - n - extra)) (L ++ [⟨3, av, saw, saw - n - extra, true⟩]) wx)) (by kernel_rfl) (by kernel_rfl)
      case hob =>
        apply Oblig.cons
        case h =>
          intro S w1 hwi hSi hd hcl
          apply StepOk.intro
          intro K hK
          have qx3 := hwi.1.k13
          go_simp
          apply hK
          · rfl
          · conv => (lhs; whnf)
          · exact hwi
        simp only [put_lit, put_none, List.set_cons_succ, List.set_cons_zero]
        apply Oblig.cons
        case h =>
          intro S w1 hwi hSi hd hcl
          apply StepOk.intro
          intro K hK
          have qx3 := hwi.1.k13
          go_simp
          apply hK
          · rfl
          · conv => (lhs; whnf)
          · exact hwi
        simp only [put_lit, put_none, List.set_cons_succ, List.set_cons_zero]
        apply Oblig.cons
        case h =>
          intro S w1 hwi hSi hd hcl
          apply StepOk.intro
          intro K hK
          have qx3 := hwi.1.k13
          go_simp
          apply hK
          · rfl
          · conv => (lhs; whnf)
          · exact hwi
        simp only [put_lit, put_none, List.set_cons_succ, List.set_cons_zero]
        apply Oblig.cons
        case h =>
          intro S w1 hwi hSi hd hcl
          apply StepOk.intro
          intro K hK
          have qx3 := hwi.1.k13
          go_simp
          apply hK
          · rfl
          · conv => (lhs; whnf)
          · exact hwi
        simp only [put_lit, put_none, List.set_cons_succ, List.set_cons_zero]
        apply Oblig.cons
        case h =>
          intro S w1 hwi hSi hd hcl
          apply StepOk.intro
          intro K hK
          have qx3 := hwi.1.k13
          go_simp
          apply hK
          · rfl
          · conv => (lhs; whnf)
          · exact hwi
        simp only [put_lit, put_none, List.set_cons_succ, List.set_cons_zero]
        apply Oblig.cons
        case h =>
          intro S w1 hwi hSi hd hcl
          apply StepOk.intro
          intro K hK
          have qx3 := hwi.1.k13
          go_simp
          apply hK
          · rfl
          · conv => (lhs; whnf)
          · exact hwi
        simp only [put_lit, put_none, List.set_cons_succ, List.set_cons_zero]
        apply Oblig.cons
        case h =>
          intro S w1 hwi hSi hd hcl
          apply StepOk.intro
          intro K hK
          have qx3 := hwi.1.k13
          go_simp
          apply hK
          · rfl
          · conv => (lhs; whnf)
          · exact hwi
        simp only [put_lit, put_none, List.set_cons_succ, List.set_cons_zero]
        apply Oblig.cons
        case h =>
          intro S w1 hwi hSi hd hcl
          apply StepOk.intro
          intro K hK
          have qx3 := hwi.1.k13
          go_simp
          apply hK
          · rfl
          · conv => (lhs; whnf)
          · exact hwi
        simp only [put_lit, put_none, List.set_cons_succ, List.set_cons_zero]
        apply Oblig.cons
        case h =>
          intro S w1 hwi hSi hd hcl
          apply StepOk.intro
          intro K hK
          have qx3 := hwi.1.k13
          go_simp
          apply hK
          · rfl
          · conv => (lhs; whnf)
          · exact hwi
        simp only [put_lit, put_none, List.set_cons_succ, List.set_cons_zero]
        apply Oblig.cons
        case h =>
          intro S w1 hwi hSi hd hcl
          apply StepOk.intro
          intro K hK
          have qx3 := hwi.1.k13
          go_simp
          apply hK
          · rfl
          · conv => (lhs; whnf)
          · exact hwi
        simp only [put_lit, put_none, List.set_cons_succ, List.set_cons_zero]
        apply Oblig.cons
        case h =>
          intro S w1 hwi hSi hd hcl
          apply StepOk.intro
          intro K hK
          have qx3 := hwi.1.k13
          go_simp
          apply hK
          · rfl
          · conv => (lhs; whnf)
          · exact hwi
        simp only [put_lit, put_none, List.set_cons_succ, List.set_cons_zero]
        apply Oblig.cons
        case h =>
          intro S w1 hwi hSi hd hcl
          apply StepOk.intro
          intro K hK
          have qx3 := hwi.1.k13
          go_simp
          apply hK
          · rfl
          · conv => (lhs; whnf)
          · exact hwi
        simp only [put_lit, put_none, List.set_cons_succ, List.set_cons_zero]
        apply Oblig.cons
        case h =>
          intro S w1 hwi hSi hd hcl
          apply StepOk.intro
          intro K hK
          have qx3 := hwi.1.k13
          go_simp
          apply hK
          · rfl
          · conv => (lhs; whnf)
          · exact hwi
        simp only [put_lit, put_none, List.set_cons_succ, List.set_cons_zero]
        apply Oblig.cons
        case h =>
          intro S w1 hwi hSi hd hcl
          apply StepOk.intro
          intro K hK
          have qx3 := hwi.1.k13
          go_simp
          apply hK
          · rfl
          · conv => (lhs; whnf)
          · exact hwi
        simp only [put_lit, put_none, List.set_cons_succ, List.set_cons_zero]
        apply Oblig.cons
        case h =>
          intro S w1 hwi hSi hd hcl
          apply StepOk.intro
          intro K hK
          have qx3 := hwi.1.k13
          go_simp
          apply hK
          · rfl
          · conv => (lhs; whnf)
          · exact hwi
        simp only [put_lit, put_none, List.set_cons_succ, List.set_cons_zero]
        apply Oblig.cons
        case h =>
          intro S w1 hwi hSi hd hcl
          apply StepOk.intro
          intro K hK
          have qx3 := hwi.1.k13
          go_simp
          apply hK
          · rfl
          · conv => (lhs; whnf)
          · exact hwi
        simp only [put_lit, put_none, List.set_cons_succ, List.set_cons_zero]
        apply Oblig.cons
        case h =>
          intro S w1 hwi hSi hd hcl
          apply StepOk.intro
          intro K hK
          have qx3 := hwi.1.k13
          go_simp
          apply hK
          · rfl
          · conv => (lhs; whnf)
          · exact hwi
        simp only [put_lit, put_none, List.set_cons_succ, List.set_cons_zero]
        apply Oblig.cons
        case h =>
          intro S w1 hwi hSi hd hcl
          apply StepOk.intro
          intro K hK
          have qx3 := hwi.1.k13
          go_simp
          apply hK
          · rfl
          · conv => (lhs; whnf)
          · exact hwi
        simp only [put_lit, put_none, List.set_cons_succ, List.set_cons_zero]
        apply Oblig.cons
        case h =>
          intro S w1 hwi hSi hd hcl
          apply StepOk.intro
          intro K hK
          have qx3 := hwi.1.k13
          go_simp
          apply hK
          · rfl
          · conv => (lhs; whnf)
          · exact hwi
        simp only [put_lit, put_none, List.set_cons_succ, List.set_cons_zero]
        apply Oblig.cons
        case h =>
          intro S w1 hwi hSi hd hcl
          apply StepOk.intro
          intro K hK
          have qx3 := hwi.1.k13
          go_simp
          apply hK
          · rfl
          · conv => (lhs; whnf)
          · exact hwi
        simp only [put_lit, put_none, List.set_cons_succ, List.set_cons_zero]
        apply Oblig.cons
        case h =>
          intro S w1 hwi hSi hd hcl
          apply StepOk.intro
          intro K hK
          have qx3 := hwi.1.k13
          go_simp
          apply hK
          · rfl
          · conv => (lhs; whnf)
          · exact hwi
        simp only [put_lit, put_none, List.set_cons_succ, List.set_cons_zero]
        apply Oblig.cons
        case h =>
          intro S w1 hwi hSi hd hcl
          apply StepOk.intro
          intro K hK
          have qx3 := hwi.1.k13
          go_simp
          apply hK
          · rfl
          · conv => (lhs; whnf)
          · exact hwi
        simp only [put_lit, put_none, List.set_cons_succ, List.set_cons_zero]
        apply Oblig.cons
        case h =>
          intro S w1 hwi hSi hd hcl
          apply StepOk.intro
          intro K hK
          have qx3 := hwi.1.k13
          go_simp
          apply hK
          · rfl
          · conv => (lhs; whnf)
          · exact hwi
        simp only [put_lit, put_none, List.set_cons_succ, List.set_cons_zero]
        apply Oblig.cons
        case h =>
          intro S w1 hwi hSi hd hcl
          apply StepOk.intro
          intro K hK
          have qx3 := hwi.1.k13
          go_simp
          refine (show Calls Try.prog 40 #[ptr m, i64 av, i64 saw, i64 (saw - n - extra)] w1 (fun e w2 => e = .returned (.bool true) ∧ MemPost B w1 m a lv (casW W av saw (saw - n - extra)) (L ++ [⟨3, av, saw, saw - n - extra, true⟩]) w2) from by have h := mem_CasN av saw (saw - n - extra) (hwi.2.1 hSi).1 (by omega) hL; rw [hcb] at h; exact h).mono ?_
          rintro e w2 ⟨rfl, hp⟩
          obtain ⟨lvq, hq1, hq2, hq3⟩ := id hp
          have hblk := hq2.blk hwi.1 (pm_far (hwi.2.1 hSi).1 hwi.1)
          have hpp := hp.before (hwi.2.1 hSi).2
          apply hK
          · rfl
          · conv => (lhs; whnf)
          · exact ⟨hblk, fun h => by simp [upd] at h, fun _ => hpp⟩
        simp only [put_lit, put_none, List.set_cons_succ, List.set_cons_zero]
        apply Oblig.cons
        case h =>
          intro S w1 hwi hSi hd hcl
          apply StepOk.intro
          intro K hK
          have qx3 := hwi.1.k13
          go_simp
          apply hK
          · rfl
          · conv => (lhs; whnf)
          · exact hwi
        simp only [put_lit, put_none, List.set_cons_succ, List.set_cons_zero]
        exact Oblig.nil
      case h0 =>
        exact ⟨HX.out.drew, fun _ => ⟨HM.out.same (Keep.refl _ _).drew, (Keep.refl _ _).drew⟩, fun h => by cases h⟩
      case hend =>
        intro S wx hwi hall
        obtain ⟨lv1, hm, hk, ho⟩ := hwi.2.2 (hall 23 (by decide))
        have HX1 := hid hwi.1
        have qx1 := hwi.1.k13
        have HM1 := hid hm
        have HK1 := hid hk
        have HO1 := hid ho
        clear hwi hall hm hk ho qx
        go_wp2_with fail
        refine (pool_either _ _ _ _).mono ?_
        rintro e w3 ⟨rfl, rfl⟩
        rw [HC2.out]
        go_wp2_with fail
        go_ret
        exact poolP_of (t' := _) HM1.out HK1.out HO1.out HX1.out (Keep.refl _ _) HX1.out
    · have hc2 : (extra == 0) = false := by simpa using c2
      have e : pNext av le n lim ⟨W, L, 3, had, saw, extra, false⟩ = ⟨casW W av saw (saw - n - extra), L ++ [⟨3, av, saw, saw - n - extra, true⟩], 4, had, saw, extra, false⟩ := by simp [pNext, c, c2]
      rw [e]
      have HC2 := hid hc2
      clear e c2 hc2
      go_enter Try.func54, Try.ntmps54
      go_wp2_with fail
      apply wp_region_text (WI := fun S wx => Blk wx x 100 [i64 av, i64 le, i64 nd, i64 n, i64 lim, i64 (3 : Nat), i64 (had), i64 (saw), i64 (extra), i64 0, i64 0, .bool false, i64 0] ∧ (S 23 = false → MemAt B wx m a lv W L ∧ Keep0 w wx) ∧ (S 23 = true → MemPost B w m a lv (casW W av saw (saw - n - extra)) (L ++ [⟨3, av, saw, saw - n - extra, true⟩]) wx)) (by kernel_rfl) (by kernel_rfl)
      case hob =>
        apply Oblig.cons
        case h =>
          intro S w1 hwi hSi hd hcl
          apply StepOk.intro
          intro K hK
          have qx3 := hwi.1.k13
          go_simp
          apply hK
          · rfl
          · conv => (lhs; whnf)
          · exact hwi
        simp only [put_lit, put_none, List.set_cons_succ, List.set_cons_zero]
        apply Oblig.cons
        case h =>
          intro S w1 hwi hSi hd hcl
          apply StepOk.intro
          intro K hK
          have qx3 := hwi.1.k13
          go_simp
          apply hK
          · rfl
          · conv => (lhs; whnf)
          · exact hwi
        simp only [put_lit, put_none, List.set_cons_succ, List.set_cons_zero]
        apply Oblig.cons
        case h =>
          intro S w1 hwi hSi hd hcl
          apply StepOk.intro
          intro K hK
          have qx3 := hwi.1.k13
          go_simp
          apply hK
          · rfl
          · conv => (lhs; whnf)
          · exact hwi
        simp only [put_lit, put_none, List.set_cons_succ, List.set_cons_zero]
        apply Oblig.cons
        case h =>
          intro S w1 hwi hSi hd hcl
          apply StepOk.intro
          intro K hK
          have qx3 := hwi.1.k13
          go_simp
          apply hK
          · rfl
          · conv => (lhs; whnf)
          · exact hwi
        simp only [put_lit, put_none, List.set_cons_succ, List.set_cons_zero]
        apply Oblig.cons
        case h =>
          intro S w1 hwi hSi hd hcl
          apply StepOk.intro
          intro K hK
          have qx3 := hwi.1.k13
          go_simp
          apply hK
          · rfl
          · conv => (lhs; whnf)
          · exact hwi
        simp only [put_lit, put_none, List.set_cons_succ, List.set_cons_zero]
        apply Oblig.cons
        case h =>
          intro S w1 hwi hSi hd hcl
          apply StepOk.intro
          intro K hK
          have qx3 := hwi.1.k13
          go_simp
          apply hK
          · rfl
          · conv => (lhs; whnf)
          · exact hwi
        simp only [put_lit, put_none, List.set_cons_succ, List.set_cons_zero]
        apply Oblig.cons
        case h =>
          intro S w1 hwi hSi hd hcl
          apply StepOk.intro
          intro K hK
          have qx3 := hwi.1.k13
          go_simp
          apply hK
          · rfl
          · conv => (lhs; whnf)
          · exact hwi
        simp only [put_lit, put_none, List.set_cons_succ, List.set_cons_zero]
        apply Oblig.cons
        case h =>
          intro S w1 hwi hSi hd hcl
          apply StepOk.intro
          intro K hK
          have qx3 := hwi.1.k13
          go_simp
          apply hK
          · rfl
          · conv => (lhs; whnf)
          · exact hwi
        simp only [put_lit, put_none, List.set_cons_succ, List.set_cons_zero]
        apply Oblig.cons
        case h =>
          intro S w1 hwi hSi hd hcl
          apply StepOk.intro
          intro K hK
          have qx3 := hwi.1.k13
          go_simp
          apply hK
          · rfl
          · conv => (lhs; whnf)
          · exact hwi
        simp only [put_lit, put_none, List.set_cons_succ, List.set_cons_zero]
        apply Oblig.cons
        case h =>
          intro S w1 hwi hSi hd hcl
          apply StepOk.intro
          intro K hK
          have qx3 := hwi.1.k13
          go_simp
          apply hK
          · rfl
          · conv => (lhs; whnf)
          · exact hwi
        simp only [put_lit, put_none, List.set_cons_succ, List.set_cons_zero]
        apply Oblig.cons
        case h =>
          intro S w1 hwi hSi hd hcl
          apply StepOk.intro
          intro K hK
          have qx3 := hwi.1.k13
          go_simp
          apply hK
          · rfl
          · conv => (lhs; whnf)
          · exact hwi
        simp only [put_lit, put_none, List.set_cons_succ, List.set_cons_zero]
        apply Oblig.cons
        case h =>
          intro S w1 hwi hSi hd hcl
          apply StepOk.intro
          intro K hK
          have qx3 := hwi.1.k13
          go_simp
          apply hK
          · rfl
          · conv => (lhs; whnf)
          · exact hwi
        simp only [put_lit, put_none, List.set_cons_succ, List.set_cons_zero]
        apply Oblig.cons
        case h =>
          intro S w1 hwi hSi hd hcl
          apply StepOk.intro
          intro K hK
          have qx3 := hwi.1.k13
          go_simp
          apply hK
          · rfl
          · conv => (lhs; whnf)
          · exact hwi
        simp only [put_lit, put_none, List.set_cons_succ, List.set_cons_zero]
        apply Oblig.cons
        case h =>
          intro S w1 hwi hSi hd hcl
          apply StepOk.intro
          intro K hK
          have qx3 := hwi.1.k13
          go_simp
          apply hK
          · rfl
          · conv => (lhs; whnf)
          · exact hwi
        simp only [put_lit, put_none, List.set_cons_succ, List.set_cons_zero]
        apply Oblig.cons
        case h =>
          intro S w1 hwi hSi hd hcl
          apply StepOk.intro
          intro K hK
          have qx3 := hwi.1.k13
          go_simp
          apply hK
          · rfl
          · conv => (lhs; whnf)
          · exact hwi
        simp only [put_lit, put_none, List.set_cons_succ, List.set_cons_zero]
        apply Oblig.cons
        case h =>
          intro S w1 hwi hSi hd hcl
          apply StepOk.intro
          intro K hK
          have qx3 := hwi.1.k13
          go_simp
          apply hK
          · rfl
          · conv => (lhs; whnf)
          · exact hwi
        simp only [put_lit, put_none, List.set_cons_succ, List.set_cons_zero]
        apply Oblig.cons
        case h =>
          intro S w1 hwi hSi hd hcl
          apply StepOk.intro
          intro K hK
          have qx3 := hwi.1.k13
          go_simp
          apply hK
          · rfl
          · conv => (lhs; whnf)
          · exact hwi
        simp only [put_lit, put_none, List.set_cons_succ, List.set_cons_zero]
        apply Oblig.cons
        case h =>
          intro S w1 hwi hSi hd hcl
          apply StepOk.intro
          intro K hK
          have qx3 := hwi.1.k13
          go_simp
          apply hK
          · rfl
          · conv => (lhs; whnf)
          · exact hwi
        simp only [put_lit, put_none, List.set_cons_succ, List.set_cons_zero]
        apply Oblig.cons
        case h =>
          intro S w1 hwi hSi hd hcl
          apply StepOk.intro
          intro K hK
          have qx3 := hwi.1.k13
          go_simp
          apply hK
          · rfl
          · conv => (lhs; whnf)
          · exact hwi
        simp only [put_lit, put_none, List.set_cons_succ, List.set_cons_zero]
        apply Oblig.cons
        case h =>
          intro S w1 hwi hSi hd hcl
          apply StepOk.intro
          intro K hK
          have qx3 := hwi.1.k13
          go_simp
          apply hK
          · rfl
          · conv => (lhs; whnf)
          · exact hwi
        simp only [put_lit, put_none, List.set_cons_succ, List.set_cons_zero]
        apply Oblig.cons
        case h =>
          intro S w1 hwi hSi hd hcl
          apply StepOk.intro
          intro K hK
          have qx3 := hwi.1.k13
          go_simp
          apply hK
          · rfl
          · conv => (lhs; whnf)
          · exact hwi
        simp only [put_lit, put_none, List.set_cons_succ, List.set_cons_zero]
        apply Oblig.cons
        case h =>
          intro S w1 hwi hSi hd hcl
          apply StepOk.intro
          intro K hK
          have qx3 := hwi.1.k13
          go_simp
          apply hK
          · rfl
          · conv => (lhs; whnf)
          · exact hwi
        simp only [put_lit, put_none, List.set_cons_succ, List.set_cons_zero]
        apply Oblig.cons
        case h =>
          intro S w1 hwi hSi hd hcl
          apply StepOk.intro
          intro K hK
          have qx3 := hwi.1.k13
          go_simp
          apply hK
          · rfl
          · conv => (lhs; whnf)
          · exact hwi
        simp only [put_lit, put_none, List.set_cons_succ, List.set_cons_zero]
        apply Oblig.cons
        case h =>
          intro S w1 hwi hSi hd hcl
          apply StepOk.intro
          intro K hK
          have qx3 := hwi.1.k13
          go_simp
          refine (show Calls Try.prog 40 #[ptr m, i64 av, i64 saw, i64 (saw - n - extra)] w1 (fun e w2 => e = .returned (.bool true) ∧ MemPost B w1 m a lv (casW W av saw (saw - n - extra)) (L ++ [⟨3, av, saw, saw - n - extra, true⟩]) w2) from by have h := mem_CasN av saw (saw - n - extra) (hwi.2.1 hSi).1 (by omega) hL; rw [hcb] at h; exact h).mono ?_
          rintro e w2 ⟨rfl, hp⟩
          obtain ⟨lvq, hq1, hq2, hq3⟩ := id hp
          have hblk := hq2.blk hwi.1 (pm_far (hwi.2.1 hSi).1 hwi.1)
          have hpp := hp.before (hwi.2.1 hSi).2
          apply hK
          · rfl
          · conv => (lhs; whnf)
          · exact ⟨hblk, fun h => by simp [upd] at h, fun _ => hpp⟩
        simp only [put_lit, put_none, List.set_cons_succ, List.set_cons_zero]
        apply Oblig.cons
        case h =>
          intro S w1 hwi hSi hd hcl
          apply StepOk.intro
          intro K hK
          have qx3 := hwi.1.k13
          go_simp
          apply hK
          · rfl
          · conv => (lhs; whnf)
          · exact hwi
        simp only [put_lit, put_none, List.set_cons_succ, List.set_cons_zero]
        exact Oblig.nil
      case h0 =>
        exact ⟨HX.out.drew, fun _ => ⟨HM.out.same (Keep.refl _ _).drew, (Keep.refl _ _).drew⟩, fun h => by cases h⟩
      case hend =>
        intro S wx hwi hall
        obtain ⟨lv1, hm, hk, ho⟩ := hwi.2.2 (hall 23 (by decide))
        have HX1 := hid hwi.1
        have qx1 := hwi.1.k13
        have HM1 := hid hm
        have HK1 := hid hk
        have HO1 := hid ho
        clear hwi hall hm hk ho qx
        go_wp2_with fail
        refine (pool_either _ _ _ _).mono ?_
        rintro e w3 ⟨rfl, rfl⟩
        rw [HC2.out]
        go_wp2_with fail
        go_ret
        exact poolP_of (t' := _) HM1.out HK1.out HO1.out HX1.out (Keep.refl _ _) HX1.out
  · have hcb : (rd W av == saw) = false := by simpa using c
    have e : pNext av le n lim ⟨W, L, 3, had, saw, extra, false⟩ = ⟨casW W av saw (saw - n - extra), L ++ [⟨3, av, saw, saw - n - extra, false⟩], 2, had, saw, extra, false⟩ := by simp [pNext, c]
    rw [e]
    clear e
    go_enter Try.func54, Try.ntmps54
    go_wp2_with fail
    apply wp_region_text (WI := fun S wx => Blk wx x 100 [i64 av, i64 le, i64 nd, i64 n, i64 lim, i64 (3 : Nat), i64 (had), i64 (saw), i64 (extra), i64 0, i64 0, .bool false, i64 0] ∧ (S 23 = false → MemAt B wx m a lv W L ∧ Keep0 w wx) ∧ (S 23 = true → MemPost B w m a lv (casW W av saw (saw - n - extra)) (L ++ [⟨3, av, saw, saw - n - extra, false⟩]) wx)) (by kernel_rfl) (by kernel_rfl)
    case hob =>
      apply Oblig.cons
      case h =>
        intro S w1 hwi hSi hd hcl
        apply StepOk.intro
        intro K hK
        have qx3 := hwi.1.k13
        go_simp
        apply hK
        · rfl
        · conv => (lhs; whnf)
        · exact hwi
      simp only [put_lit, put_none, List.set_cons_succ, List.set_cons_zero]
      apply Oblig.cons
      case h =>
        intro S w1 hwi hSi hd hcl
        apply StepOk.intro
        intro K hK
        have qx3 := hwi.1.k13
        go_simp
        apply hK
        · rfl
        · conv => (lhs; whnf)
        · exact hwi
      simp only [put_lit, put_none, List.set_cons_succ, List.set_cons_zero]
      apply Oblig.cons
      case h =>
        intro S w1 hwi hSi hd hcl
        apply StepOk.intro
        intro K hK
        have qx3 := hwi.1.k13
        go_simp
        apply hK
        · rfl
        · conv => (lhs; whnf)
        · exact hwi
      simp only [put_lit, put_none, List.set_cons_succ, List.set_cons_zero]
      apply Oblig.cons
      case h =>
        intro S w1 hwi hSi hd hcl
        apply StepOk.intro
        intro K hK
        have qx3 := hwi.1.k13
        go_simp
        apply hK
        · rfl
        · conv => (lhs; whnf)
        · exact hwi
      simp only [put_lit, put_none, List.set_cons_succ, List.set_cons_zero]
      apply Oblig.cons
      case h =>
        intro S w1 hwi hSi hd hcl
        apply StepOk.intro
        intro K hK
        have qx3 := hwi.1.k13
        go_simp
        apply hK
        · rfl
        · conv => (lhs; whnf)
        · exact hwi
      simp only [put_lit, put_none, List.set_cons_succ, List.set_cons_zero]
      apply Oblig.cons
      case h =>
        intro S w1 hwi hSi hd hcl
        apply StepOk.intro
        intro K hK
        have qx3 := hwi.1.k13
        go_simp
        apply hK
        · rfl
        · conv => (lhs; whnf)
        · exact hwi
      simp only [put_lit, put_none, List.set_cons_succ, List.set_cons_zero]
      apply Oblig.cons
      case h =>
        intro S w1 hwi hSi hd hcl
        apply StepOk.intro
        intro K hK
        have qx3 := hwi.1.k13
        go_simp
        apply hK
        · rfl
        · conv => (lhs; whnf)
        · exact hwi
      simp only [put_lit, put_none, List.set_cons_succ, List.set_cons_zero]
      apply Oblig.cons
      case h =>
        intro S w1 hwi hSi hd hcl
        apply StepOk.intro
        intro K hK
        have qx3 := hwi.1.k13
        go_simp
        apply hK
        · rfl
        · conv => (lhs; whnf)
        · exact hwi
      simp only [put_lit, put_none, List.set_cons_succ, List.set_cons_zero]
      apply Oblig.cons
      case h =>
        intro S w1 hwi hSi hd hcl
        apply StepOk.intro
        intro K hK
        have qx3 := hwi.1.k13
        go_simp
        apply hK
        · rfl
        · conv => (lhs; whnf)
        · exact hwi
      simp only [put_lit, put_none, List.set_cons_succ, List.set_cons_zero]
      apply Oblig.cons
      case h =>
        intro S w1 hwi hSi hd hcl
        apply StepOk.intro
        intro K hK
        have qx3 := hwi.1.k13
        go_simp
        apply hK
        · rfl
        · conv => (lhs; whnf)
        · exact hwi
      simp only [put_lit, put_none, List.set_cons_succ, List.set_cons_zero]
      apply Oblig.cons
      case h =>
        intro S w1 hwi hSi hd hcl
        apply StepOk.intro
        intro K hK
        have qx3 := hwi.1.k13
        go_simp
        apply hK
        · rfl
        · conv => (lhs; whnf)
        · exact hwi
      simp only [put_lit, put_none, List.set_cons_succ, List.set_cons_zero]
      apply Oblig.cons
      case h =>
        intro S w1 hwi hSi hd hcl
        apply StepOk.intro
        intro K hK
        have qx3 := hwi.1.k13
        go_simp
        apply hK
        · rfl
        · conv => (lhs; whnf)
        · exact hwi
      simp only [put_lit, put_none, List.set_cons_succ, List.set_cons_zero]
      apply Oblig.cons
      case h =>
        intro S w1 hwi hSi hd hcl
        apply StepOk.intro
        intro K hK
        have qx3 := hwi.1.k13
        go_simp
        apply hK
        · rfl
        · conv => (lhs; whnf)
        · exact hwi
      simp only [put_lit, put_none, List.set_cons_succ, List.set_cons_zero]
      apply Oblig.cons
      case h =>
        intro S w1 hwi hSi hd hcl
        apply StepOk.intro
        intro K hK
        have qx3 := hwi.1.k13
        go_simp
        apply hK
        · rfl
        · conv => (lhs; whnf)
        · exact hwi
      simp only [put_lit, put_none, List.set_cons_succ, List.set_cons_zero]
      apply Oblig.cons
      case h =>
        intro S w1 hwi hSi hd hcl
        apply StepOk.intro
        intro K hK
        have qx3 := hwi.1.k13
        go_simp
        apply hK
        · rfl
        · conv => (lhs; whnf)
        · exact hwi
      simp only [put_lit, put_none, List.set_cons_succ, List.set_cons_zero]
      apply Oblig.cons
      case h =>
        intro S w1 hwi hSi hd hcl
        apply StepOk.intro
        intro K hK
        have qx3 := hwi.1.k13
        go_simp
        apply hK
        · rfl
        · conv => (lhs; whnf)
        · exact hwi
      simp only [put_lit, put_none, List.set_cons_succ, List.set_cons_zero]
      apply Oblig.cons
      case h =>
        intro S w1 hwi hSi hd hcl
        apply StepOk.intro
        intro K hK
        have qx3 := hwi.1.k13
        go_simp
        apply hK
        · rfl
        · conv => (lhs; whnf)
        · exact hwi
      simp only [put_lit, put_none, List.set_cons_succ, List.set_cons_zero]
      apply Oblig.cons
      case h =>
        intro S w1 hwi hSi hd hcl
        apply StepOk.intro
        intro K hK
        have qx3 := hwi.1.k13
        go_simp
        apply hK
        · rfl
        · conv => (lhs; whnf)
        · exact hwi
      simp only [put_lit, put_none, List.set_cons_succ, List.set_cons_zero]
      apply Oblig.cons
      case h =>
        intro S w1 hwi hSi hd hcl
        apply StepOk.intro
        intro K hK
        have qx3 := hwi.1.k13
        go_simp
        apply hK
        · rfl
        · conv => (lhs; whnf)
        · exact hwi
      simp only [put_lit, put_none, List.set_cons_succ, List.set_cons_zero]
      apply Oblig.cons
      case h =>
        intro S w1 hwi hSi hd hcl
        apply StepOk.intro
        intro K hK
        have qx3 := hwi.1.k13
        go_simp
        apply hK
        · rfl
        · conv => (lhs; whnf)
        · exact hwi
      simp only [put_lit, put_none, List.set_cons_succ, List.set_cons_zero]
      apply Oblig.cons
      case h =>
        intro S w1 hwi hSi hd hcl
        apply StepOk.intro
        intro K hK
        have qx3 := hwi.1.k13
        go_simp
        apply hK
        · rfl
        · conv => (lhs; whnf)
        · exact hwi
      simp only [put_lit, put_none, List.set_cons_succ, List.set_cons_zero]
      apply Oblig.cons
      case h =>
        intro S w1 hwi hSi hd hcl
        apply StepOk.intro
        intro K hK
        have qx3 := hwi.1.k13
        go_simp
        apply hK
        · rfl
        · conv => (lhs; whnf)
        · exact hwi
      simp only [put_lit, put_none, List.set_cons_succ, List.set_cons_zero]
      apply Oblig.cons
      case h =>
        intro S w1 hwi hSi hd hcl
        apply StepOk.intro
        intro K hK
        have qx3 := hwi.1.k13
        go_simp
        apply hK
        · rfl
        · conv => (lhs; whnf)
        · exact hwi
      simp only [put_lit, put_none, List.set_cons_succ, List.set_cons_zero]
      apply Oblig.cons
      case h =>
        intro S w1 hwi hSi hd hcl
        apply StepOk.intro
        intro K hK
        have qx3 := hwi.1.k13
        go_simp
        refine (show Calls Try.prog 40 #[ptr m, i64 av, i64 saw, i64 (saw - n - extra)] w1 (fun e w2 => e = .returned (.bool false) ∧ MemPost B w1 m a lv (casW W av saw (saw - n - extra)) (L ++ [⟨3, av, saw, saw - n - extra, false⟩]) w2) from by have h := mem_CasN av saw (saw - n - extra) (hwi.2.1 hSi).1 (by omega) hL; rw [hcb] at h; exact h).mono ?_
        rintro e w2 ⟨rfl, hp⟩
        obtain ⟨lvq, hq1, hq2, hq3⟩ := id hp
        have hblk := hq2.blk hwi.1 (pm_far (hwi.2.1 hSi).1 hwi.1)
        have hpp := hp.before (hwi.2.1 hSi).2
        apply hK
        · rfl
        · conv => (lhs; whnf)
        · exact ⟨hblk, fun h => by simp [upd] at h, fun _ => hpp⟩
      simp only [put_lit, put_none, List.set_cons_succ, List.set_cons_zero]
      apply Oblig.cons
      case h =>
        intro S w1 hwi hSi hd hcl
        apply StepOk.intro
        intro K hK
        have qx3 := hwi.1.k13
        go_simp
        apply hK
        · rfl
        · conv => (lhs; whnf)
        · exact hwi
      simp only [put_lit, put_none, List.set_cons_succ, List.set_cons_zero]
      exact Oblig.nil
    case h0 =>
      exact ⟨HX.out.drew, fun _ => ⟨HM.out.same (Keep.refl _ _).drew, (Keep.refl _ _).drew⟩, fun h => by cases h⟩
    case hend =>
      intro S wx hwi hall
      obtain ⟨lv1, hm, hk, ho⟩ := hwi.2.2 (hall 23 (by decide))
      have HX1 := hid hwi.1
      have qx1 := hwi.1.k13
      have HM1 := hid hm
      have HK1 := hid hk
      have HO1 := hid ho
      clear hwi hall hm hk ho qx
      go_wp2_with fail
      go_ret
      exact poolP_of (t' := _) HM1.out HK1.out HO1.out HX1.out (Keep.refl _ _) HX1.out
end
end Go.Proofs.Ytdjfeapncpcmgaa
