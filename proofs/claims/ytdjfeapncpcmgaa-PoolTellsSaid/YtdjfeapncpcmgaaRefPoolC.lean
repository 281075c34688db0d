/- breadlineref08: Step, stages 3. -/
import Derived.Test.YtdjfeapncpcmgaaRefPool
namespace Go.Proofs.Ytdjfeapncpcmgaa
open Go.RowKit
set_option linter.unusedVariables false
set_option linter.unusedSimpArgs false
set_option maxRecDepth 100000
section
variable {B : Nat} {w : World} {m y : Nat} {A : Option Addr} {ca : Nat} {lv : Value} {av le : Nat} {t s g l r k nd n st X : Int} {PA : Option Addr} {pn pc : Nat} {LA : Option Addr} {ln lc : Nat}

set_option maxHeartbeats 4000000 in
theorem rpool_step3 (x : PS) (hm : RefAt B w m A ca lv x.W x.L) (hy : Blk w y 106 (rcs t s g l r k PA pn pc LA ln lc nd n st x x.extra)) (hi : PInv av le n l X x) (h0 : x.next = 3) (hX : X ≤ 4398046511104) (hL : x.L.length ≤ 1000000000) (hW : x.W.length ≤ 1000000) (hs0 : 1 ≤ s) (hs1 : s ≤ 8) (hv0 : 0 ≤ nd) (hv1 : nd ≤ 1000) (hu0 : 0 ≤ st) (hu1 : st ≤ 1000) (hav : (av : Int) = nd * (6 + 2 * s) + 1) (hle : (le : Int) = nd * (6 + 2 * s) + 2 + st) :
    Calls Try.prog 56 #[ptr y, ptr m] w (RPoolP B w m A lv y t s g l r k PA pn pc LA ln lc nd n st (pNext av le n l x)) := by
  obtain ⟨W, L, next, had, saw, extra, bad⟩ := x
  obtain ⟨la, ll, ne, n1, m1, wl, wa, nx, s1, s3, s4, s5, b⟩ := hi
  simp only at *
  subst h0
  obtain rfl : bad = false := by
    cases bad with
    | false => rfl
    | true => have := b rfl; omega
  have hy1 : Blk w y 106 [i64 t, i64 s, i64 g, i64 l, i64 r, i64 k, .slice PA pn pc, .slice LA ln lc, i64 nd, i64 n, i64 st, i64 (3), i64 (had), i64 (saw), i64 (extra), i64 0, i64 0, .bool false, i64 0] := hy
  have qy := hy1.k19
  have HY := hid hy1
  have HM := hid hm
  have HAV := hid hav
  have HLE := hid hle
  clear hy hy1 hm b nx hav hle
  obtain ⟨q1, q2, q3⟩ := s3 rfl
  have hyy : IntKind.i64.wrap (saw - n) = saw - n := IntWalk.i64_in _ (by omega)
  have hyy2 : IntKind.i64.wrap (saw - n - extra) = saw - n - extra := IntWalk.i64_in _ (by omega)
  clear q3 s1 s3 s4 s5
  by_cases c : rd W av = saw
  · have hcb : (rd W av == saw) = true := by simpa using c
    by_cases c2 : extra = 0
    · have hc2 : (extra == 0) = true := by simpa using c2
      have e : pNext av le n l ⟨W, L, 3, had, saw, extra, false⟩ = ⟨casW W av saw (saw - n - extra), L ++ [⟨3, av, saw, saw - n - extra, true⟩], 7, had, saw, extra, false⟩ := by simp [pNext, c, c2]
      rw [e]
      have HC2 := hid hc2
      clear e c2 hc2
      go_enter Try.func56, Try.ntmps56
      go_wp2_with fail
      apply wp_region_text (WI := fun S wx => Keep0 w wx) (by kernel_rfl) (by kernel_rfl)
      case hob =>
        apply Oblig.cons
        case h =>
          intro S w1 hwi hSi hd hcl
          apply StepOk.intro
          intro K hK
          have qy3 := (hwi.blk HY.out (fun h => h)).k19
          go_simp
          apply hK
          · rfl
          · conv => (lhs; whnf)
          · exact hwi
        simp only [put_lit, put_none, List.set_cons_succ, List.set_cons_zero]
        apply Oblig.cons
        case h =>
          intro S w1 hwi hSi hd hcl
          apply StepOk.intro
          intro K hK
          have qy3 := (hwi.blk HY.out (fun h => h)).k19
          go_simp
          apply hK
          · rfl
          · conv => (lhs; whnf)
          · exact hwi
        simp only [put_lit, put_none, List.set_cons_succ, List.set_cons_zero]
        apply Oblig.cons
        case h =>
          intro S w1 hwi hSi hd hcl
          apply StepOk.intro
          intro K hK
          have qy3 := (hwi.blk HY.out (fun h => h)).k19
          go_simp
          apply hK
          · rfl
          · conv => (lhs; whnf)
          · exact hwi
        simp only [put_lit, put_none, List.set_cons_succ, List.set_cons_zero]
        apply Oblig.cons
        case h =>
          intro S w1 hwi hSi hd hcl
          apply StepOk.intro
          intro K hK
          have qy3 := (hwi.blk HY.out (fun h => h)).k19
          go_simp
          apply hK
          · rfl
          · conv => (lhs; whnf)
          · exact hwi
        simp only [put_lit, put_none, List.set_cons_succ, List.set_cons_zero]
        apply Oblig.cons
        case h =>
          intro S w1 hwi hSi hd hcl
          apply StepOk.intro
          intro K hK
          have qy3 := (hwi.blk HY.out (fun h => h)).k19
          go_simp
          apply hK
          · rfl
          · conv => (lhs; whnf)
          · exact hwi
        simp only [put_lit, put_none, List.set_cons_succ, List.set_cons_zero]
        apply Oblig.cons
        case h =>
          intro S w1 hwi hSi hd hcl
          apply StepOk.intro
          intro K hK
          have qy3 := (hwi.blk HY.out (fun h => h)).k19
          go_simp
          apply hK
          · rfl
          · conv => (lhs; whnf)
          · exact hwi
        simp only [put_lit, put_none, List.set_cons_succ, List.set_cons_zero]
        apply Oblig.cons
        case h =>
          intro S w1 hwi hSi hd hcl
          apply StepOk.intro
          intro K hK
          have qy3 := (hwi.blk HY.out (fun h => h)).k19
          go_simp
          apply hK
          · rfl
          · conv => (lhs; whnf)
          · exact hwi
        simp only [put_lit, put_none, List.set_cons_succ, List.set_cons_zero]
        apply Oblig.cons
        case h =>
          intro S w1 hwi hSi hd hcl
          apply StepOk.intro
          intro K hK
          have qy3 := (hwi.blk HY.out (fun h => h)).k19
          go_simp
          apply hK
          · rfl
          · conv => (lhs; whnf)
          · exact hwi
        simp only [put_lit, put_none, List.set_cons_succ, List.set_cons_zero]
        apply Oblig.cons
        case h =>
          intro S w1 hwi hSi hd hcl
          apply StepOk.intro
          intro K hK
          have qy3 := (hwi.blk HY.out (fun h => h)).k19
          go_simp
          apply hK
          · rfl
          · conv => (lhs; whnf)
          · exact hwi
        simp only [put_lit, put_none, List.set_cons_succ, List.set_cons_zero]
        apply Oblig.cons
        case h =>
          intro S w1 hwi hSi hd hcl
          apply StepOk.intro
          intro K hK
          have qy3 := (hwi.blk HY.out (fun h => h)).k19
          go_simp
          apply hK
          · rfl
          · conv => (lhs; whnf)
          · exact hwi
        simp only [put_lit, put_none, List.set_cons_succ, List.set_cons_zero]
        apply Oblig.cons
        case h =>
          intro S w1 hwi hSi hd hcl
          apply StepOk.intro
          intro K hK
          have qy3 := (hwi.blk HY.out (fun h => h)).k19
          go_simp
          apply hK
          · rfl
          · conv => (lhs; whnf)
          · exact hwi
        simp only [put_lit, put_none, List.set_cons_succ, List.set_cons_zero]
        apply Oblig.cons
        case h =>
          intro S w1 hwi hSi hd hcl
          apply StepOk.intro
          intro K hK
          have qy3 := (hwi.blk HY.out (fun h => h)).k19
          go_simp
          apply hK
          · rfl
          · conv => (lhs; whnf)
          · exact hwi
        simp only [put_lit, put_none, List.set_cons_succ, List.set_cons_zero]
        apply Oblig.cons
        case h =>
          intro S w1 hwi hSi hd hcl
          apply StepOk.intro
          intro K hK
          have qy3 := (hwi.blk HY.out (fun h => h)).k19
          go_simp
          refine (show Calls Try.prog 24 #[.agg #[i64 t, i64 s, i64 g, i64 l, i64 r, i64 k, .slice PA pn pc, .slice LA ln lc], i64 nd, i64 st] w1 (Ret (i64 le) w1) from by have h := ref_Lease t s g l r k PA pn pc LA ln lc nd st w1 hs0 hs1 hv0 hv1 hu0 hu1; rw [← HLE.out] at h; exact h).mono ?_
          rintro e w2 ⟨rfl, hk⟩
          apply hK
          · rfl
          · conv => (lhs; whnf)
          · exact Keep0.step hwi hk
        simp only [put_lit, put_none, List.set_cons_succ, List.set_cons_zero]
        apply Oblig.cons
        case h =>
          intro S w1 hwi hSi hd hcl
          apply StepOk.intro
          intro K hK
          have qy3 := (hwi.blk HY.out (fun h => h)).k19
          go_simp
          apply hK
          · rfl
          · conv => (lhs; whnf)
          · exact hwi
        simp only [put_lit, put_none, List.set_cons_succ, List.set_cons_zero]
        exact Oblig.nil
      case h0 =>
        exact (Keep.refl _ _).drew
      case hend =>
        intro S wx hwi hall
        obtain ⟨w1, rfl⟩ : ∃ w1 : World, w1 = wx := ⟨_, rfl⟩
        have HY1 := hid (hwi.blk HY.out (fun h => h))
        have HM1 := hid (HM.out.keep hwi (fun _ _ h => h))
        have HK1 := hid hwi
        have qy1 := HY1.out.k19
        clear hwi hall HY HM qy
        go_wp2_with fail
        apply wp_region_text (WI := fun S wx => Keep0 w1 wx) (by kernel_rfl) (by kernel_rfl)
        case hob =>
          apply Oblig.cons
          case h =>
            intro S w1 hwi hSi hd hcl
            apply StepOk.intro
            intro K hK
            have qy3 := (hwi.blk HY1.out (fun h => h)).k19
            go_simp
            apply hK
            · rfl
            · conv => (lhs; whnf)
            · exact hwi
          simp only [put_lit, put_none, List.set_cons_succ, List.set_cons_zero]
          apply Oblig.cons
          case h =>
            intro S w1 hwi hSi hd hcl
            apply StepOk.intro
            intro K hK
            have qy3 := (hwi.blk HY1.out (fun h => h)).k19
            go_simp
            apply hK
            · rfl
            · conv => (lhs; whnf)
            · exact hwi
          simp only [put_lit, put_none, List.set_cons_succ, List.set_cons_zero]
          apply Oblig.cons
          case h =>
            intro S w1 hwi hSi hd hcl
            apply StepOk.intro
            intro K hK
            have qy3 := (hwi.blk HY1.out (fun h => h)).k19
            go_simp
            apply hK
            · rfl
            · conv => (lhs; whnf)
            · exact hwi
          simp only [put_lit, put_none, List.set_cons_succ, List.set_cons_zero]
          apply Oblig.cons
          case h =>
            intro S w1 hwi hSi hd hcl
            apply StepOk.intro
            intro K hK
            have qy3 := (hwi.blk HY1.out (fun h => h)).k19
            go_simp
            apply hK
            · rfl
            · conv => (lhs; whnf)
            · exact hwi
          simp only [put_lit, put_none, List.set_cons_succ, List.set_cons_zero]
          apply Oblig.cons
          case h =>
            intro S w1 hwi hSi hd hcl
            apply StepOk.intro
            intro K hK
            have qy3 := (hwi.blk HY1.out (fun h => h)).k19
            go_simp
            apply hK
            · rfl
            · conv => (lhs; whnf)
            · exact hwi
          simp only [put_lit, put_none, List.set_cons_succ, List.set_cons_zero]
          apply Oblig.cons
          case h =>
            intro S w1 hwi hSi hd hcl
            apply StepOk.intro
            intro K hK
            have qy3 := (hwi.blk HY1.out (fun h => h)).k19
            go_simp
            apply hK
            · rfl
            · conv => (lhs; whnf)
            · exact hwi
          simp only [put_lit, put_none, List.set_cons_succ, List.set_cons_zero]
          apply Oblig.cons
          case h =>
            intro S w1 hwi hSi hd hcl
            apply StepOk.intro
            intro K hK
            have qy3 := (hwi.blk HY1.out (fun h => h)).k19
            go_simp
            apply hK
            · rfl
            · conv => (lhs; whnf)
            · exact hwi
          simp only [put_lit, put_none, List.set_cons_succ, List.set_cons_zero]
          apply Oblig.cons
          case h =>
            intro S w1 hwi hSi hd hcl
            apply StepOk.intro
            intro K hK
            have qy3 := (hwi.blk HY1.out (fun h => h)).k19
            go_simp
            apply hK
            · rfl
            · conv => (lhs; whnf)
            · exact hwi
          simp only [put_lit, put_none, List.set_cons_succ, List.set_cons_zero]
          apply Oblig.cons
          case h =>
            intro S w1 hwi hSi hd hcl
            apply StepOk.intro
            intro K hK
            have qy3 := (hwi.blk HY1.out (fun h => h)).k19
            go_simp
            refine (show Calls Try.prog 25 #[.agg #[i64 t, i64 s, i64 g, i64 l, i64 r, i64 k, .slice PA pn pc, .slice LA ln lc], i64 nd] w1 (Ret (i64 av) w1) from by have h := ref_Avail t s g l r k PA pn pc LA ln lc nd w1 hs0 hs1 hv0 hv1; rw [← HAV.out] at h; exact h).mono ?_
            rintro e w2 ⟨rfl, hk⟩
            apply hK
            · rfl
            · conv => (lhs; whnf)
            · exact Keep0.step hwi hk
          simp only [put_lit, put_none, List.set_cons_succ, List.set_cons_zero]
          apply Oblig.cons
          case h =>
            intro S w1 hwi hSi hd hcl
            apply StepOk.intro
            intro K hK
            have qy3 := (hwi.blk HY1.out (fun h => h)).k19
            go_simp
            apply hK
            · rfl
            · conv => (lhs; whnf)
            · exact hwi
          simp only [put_lit, put_none, List.set_cons_succ, List.set_cons_zero]
          exact Oblig.nil
        case h0 =>
          exact (Keep.refl _ _).drew
        case hend =>
          intro S wx hwi hall
          obtain ⟨w2, rfl⟩ : ∃ w2 : World, w2 = wx := ⟨_, rfl⟩
          have HY2 := hid (hwi.blk HY1.out (fun h => h))
          have HM2 := hid (HM1.out.keep hwi (fun _ _ h => h))
          have HK2 := hid (HK1.out.trans hwi (fun _ _ h => h))
          have qy2 := HY2.out.k19
          clear hwi hall HY1 HM1 HK1 qy1
          go_wp2_with fail
          have HM4 := hid HM2.out
          have HY4 := hid HY2.out
          have HK4 : Hid (Keep (fun b => (b = m ∨ lv.ownBlock = some b) ∨ b = y) w w2) := hid (HK2.out.mono (fun _ h => h.elim))
          clear HM2 HY2 HK2 qy2
          obtain ⟨w4, rfl⟩ : ∃ w4 : World, w4 = w2 := ⟨_, rfl⟩
          apply wp_region_text (WI := fun S wx => Blk wx y 106 [i64 t, i64 s, i64 g, i64 l, i64 r, i64 k, .slice PA pn pc, .slice LA ln lc, i64 nd, i64 n, i64 st, i64 (3), i64 (had), i64 (saw), i64 (extra), i64 0, i64 0, .bool false, i64 0] ∧ (S 20 = false → RefAt B wx m A ca lv W L ∧ Keep0 w4 wx) ∧ (S 20 = true → RefPost B w4 m A lv (casW W av saw (saw - n - extra)) (L ++ [⟨3, av, saw, saw - n - extra, true⟩]) wx)) (by kernel_rfl) (by kernel_rfl)
          case hob =>
            apply Oblig.cons
            case h =>
              intro S w1 hwi hSi hd hcl
              apply StepOk.intro
              intro K hK
              have qy5 := hwi.1.k19
              go_simp
              apply hK
              · rfl
              · conv => (lhs; whnf)
              · exact hwi
            simp only [put_lit, put_none, List.set_cons_succ, List.set_cons_zero]
            apply Oblig.cons
            case h =>
              intro S w1 hwi hSi hd hcl
              apply StepOk.intro
              intro K hK
              have qy5 := hwi.1.k19
              go_simp
              apply hK
              · rfl
              · conv => (lhs; whnf)
              · exact hwi
            simp only [put_lit, put_none, List.set_cons_succ, List.set_cons_zero]
            apply Oblig.cons
            case h =>
              intro S w1 hwi hSi hd hcl
              apply StepOk.intro
              intro K hK
              have qy5 := hwi.1.k19
              go_simp
              apply hK
              · rfl
              · conv => (lhs; whnf)
              · exact hwi
            simp only [put_lit, put_none, List.set_cons_succ, List.set_cons_zero]
            apply Oblig.cons
            case h =>
              intro S w1 hwi hSi hd hcl
              apply StepOk.intro
              intro K hK
              have qy5 := hwi.1.k19
              go_simp
              apply hK
              · rfl
              · conv => (lhs; whnf)
              · exact hwi
            simp only [put_lit, put_none, List.set_cons_succ, List.set_cons_zero]
            apply Oblig.cons
            case h =>
              intro S w1 hwi hSi hd hcl
              apply StepOk.intro
              intro K hK
              have qy5 := hwi.1.k19
              go_simp
              apply hK
              · rfl
              · conv => (lhs; whnf)
              · exact hwi
            simp only [put_lit, put_none, List.set_cons_succ, List.set_cons_zero]
            apply Oblig.cons
            case h =>
              intro S w1 hwi hSi hd hcl
              apply StepOk.intro
              intro K hK
              have qy5 := hwi.1.k19
              go_simp
              apply hK
              · rfl
              · conv => (lhs; whnf)
              · exact hwi
            simp only [put_lit, put_none, List.set_cons_succ, List.set_cons_zero]
            apply Oblig.cons
            case h =>
              intro S w1 hwi hSi hd hcl
              apply StepOk.intro
              intro K hK
              have qy5 := hwi.1.k19
              go_simp
              apply hK
              · rfl
              · conv => (lhs; whnf)
              · exact hwi
            simp only [put_lit, put_none, List.set_cons_succ, List.set_cons_zero]
            apply Oblig.cons
            case h =>
              intro S w1 hwi hSi hd hcl
              apply StepOk.intro
              intro K hK
              have qy5 := hwi.1.k19
              go_simp
              apply hK
              · rfl
              · conv => (lhs; whnf)
              · exact hwi
            simp only [put_lit, put_none, List.set_cons_succ, List.set_cons_zero]
            apply Oblig.cons
            case h =>
              intro S w1 hwi hSi hd hcl
              apply StepOk.intro
              intro K hK
              have qy5 := hwi.1.k19
              go_simp
              apply hK
              · rfl
              · conv => (lhs; whnf)
              · exact hwi
            simp only [put_lit, put_none, List.set_cons_succ, List.set_cons_zero]
            apply Oblig.cons
            case h =>
              intro S w1 hwi hSi hd hcl
              apply StepOk.intro
              intro K hK
              have qy5 := hwi.1.k19
              go_simp
              apply hK
              · rfl
              · conv => (lhs; whnf)
              · exact hwi
            simp only [put_lit, put_none, List.set_cons_succ, List.set_cons_zero]
            apply Oblig.cons
            case h =>
              intro S w1 hwi hSi hd hcl
              apply StepOk.intro
              intro K hK
              have qy5 := hwi.1.k19
              go_simp
              apply hK
              · rfl
              · conv => (lhs; whnf)
              · exact hwi
            simp only [put_lit, put_none, List.set_cons_succ, List.set_cons_zero]
            apply Oblig.cons
            case h =>
              intro S w1 hwi hSi hd hcl
              apply StepOk.intro
              intro K hK
              have qy5 := hwi.1.k19
              go_simp
              apply hK
              · rfl
              · conv => (lhs; whnf)
              · exact hwi
            simp only [put_lit, put_none, List.set_cons_succ, List.set_cons_zero]
            apply Oblig.cons
            case h =>
              intro S w1 hwi hSi hd hcl
              apply StepOk.intro
              intro K hK
              have qy5 := hwi.1.k19
              go_simp
              apply hK
              · rfl
              · conv => (lhs; whnf)
              · exact hwi
            simp only [put_lit, put_none, List.set_cons_succ, List.set_cons_zero]
            apply Oblig.cons
            case h =>
              intro S w1 hwi hSi hd hcl
              apply StepOk.intro
              intro K hK
              have qy5 := hwi.1.k19
              go_simp
              apply hK
              · rfl
              · conv => (lhs; whnf)
              · exact hwi
            simp only [put_lit, put_none, List.set_cons_succ, List.set_cons_zero]
            apply Oblig.cons
            case h =>
              intro S w1 hwi hSi hd hcl
              apply StepOk.intro
              intro K hK
              have qy5 := hwi.1.k19
              go_simp
              apply hK
              · rfl
              · conv => (lhs; whnf)
              · exact hwi
            simp only [put_lit, put_none, List.set_cons_succ, List.set_cons_zero]
            apply Oblig.cons
            case h =>
              intro S w1 hwi hSi hd hcl
              apply StepOk.intro
              intro K hK
              have qy5 := hwi.1.k19
              go_simp
              apply hK
              · rfl
              · conv => (lhs; whnf)
              · exact hwi
            simp only [put_lit, put_none, List.set_cons_succ, List.set_cons_zero]
            apply Oblig.cons
            case h =>
              intro S w1 hwi hSi hd hcl
              apply StepOk.intro
              intro K hK
              have qy5 := hwi.1.k19
              go_simp
              apply hK
              · rfl
              · conv => (lhs; whnf)
              · exact hwi
            simp only [put_lit, put_none, List.set_cons_succ, List.set_cons_zero]
            apply Oblig.cons
            case h =>
              intro S w1 hwi hSi hd hcl
              apply StepOk.intro
              intro K hK
              have qy5 := hwi.1.k19
              go_simp
              apply hK
              · rfl
              · conv => (lhs; whnf)
              · exact hwi
            simp only [put_lit, put_none, List.set_cons_succ, List.set_cons_zero]
            apply Oblig.cons
            case h =>
              intro S w1 hwi hSi hd hcl
              apply StepOk.intro
              intro K hK
              have qy5 := hwi.1.k19
              go_simp
              apply hK
              · rfl
              · conv => (lhs; whnf)
              · exact hwi
            simp only [put_lit, put_none, List.set_cons_succ, List.set_cons_zero]
            apply Oblig.cons
            case h =>
              intro S w1 hwi hSi hd hcl
              apply StepOk.intro
              intro K hK
              have qy5 := hwi.1.k19
              go_simp
              apply hK
              · rfl
              · conv => (lhs; whnf)
              · exact hwi
            simp only [put_lit, put_none, List.set_cons_succ, List.set_cons_zero]
            apply Oblig.cons
            case h =>
              intro S w1 hwi hSi hd hcl
              apply StepOk.intro
              intro K hK
              have qy5 := hwi.1.k19
              go_simp
              refine (show Calls Try.prog 73 #[ptr m, i64 av, i64 saw, i64 (saw - n - extra)] w1 (fun e w2 => e = .returned (.bool true) ∧ RefPost B w1 m A lv (casW W av saw (saw - n - extra)) (L ++ [⟨3, av, saw, saw - n - extra, true⟩]) w2) from by have h := ref_CasN av saw (saw - n - extra) (hwi.2.1 hSi).1 (by omega) hW hL; rw [hcb] at h; exact h).mono ?_
              rintro e w2 ⟨rfl, hp⟩
              obtain ⟨Aq, cq, lvq, hq1, hq2, _⟩ := id hp
              have hblk := hq2.blk hwi.1 (ry_far (hwi.2.1 hSi).1 hwi.1)
              have hpp := hp.before (hwi.2.1 hSi).2
              apply hK
              · rfl
              · conv => (lhs; whnf)
              · exact ⟨hblk, fun h => by simp [upd] at h, fun _ => hpp⟩
            simp only [put_lit, put_none, List.set_cons_succ, List.set_cons_zero]
            apply Oblig.cons
            case h =>
              intro S w1 hwi hSi hd hcl
              apply StepOk.intro
              intro K hK
              have qy5 := hwi.1.k19
              go_simp
              apply hK
              · rfl
              · conv => (lhs; whnf)
              · exact hwi
            simp only [put_lit, put_none, List.set_cons_succ, List.set_cons_zero]
            exact Oblig.nil
          case h0 =>
            exact ⟨HY4.out.drew, fun _ => ⟨HM4.out.keep (Keep.refl (fun _ => False) _).drew (fun _ _ h => h), (Keep.refl _ _).drew⟩, fun h => by cases h⟩
          case hend =>
            intro S wx hwi hall
            obtain ⟨w3, rfl⟩ : ∃ w3 : World, w3 = wx := ⟨_, rfl⟩
            obtain ⟨A3, c3, lv3, hm, hk, ha, hl⟩ := hwi.2.2 (hall 20 (by decide))
            have HK3 := hid (HK4.out.trans (hk.mono (T := fun b => (b = m ∨ lv.ownBlock = some b) ∨ b = y) (fun _ h => Or.inl h)) (fun _ _ h => h))
            have HM3 := hid hm
            have HY3 := hid hwi.1
            have HA3 := hid (fun b h => (ha b h).imp id (fun h => Nat.le_trans HK4.out.size h))
            have HL3 := hid (fun b h => (hl b h).imp id (fun h => Nat.le_trans HK4.out.size h))
            have qy3 := HY3.out.k19
            clear hwi hall hm hk ha hl HK4 HM4 HY4
            have hc2 := HC2.out
            go_wp2_with fail
            go_ret
            exact rpoolP_of2 (x' := _) (e' := _) HM3.out HK3.out HA3.out HL3.out HY3.out (((Keep.refl (fun k => k = y) w3)).set ⟨y, 11, none⟩ _ (fun _ => rfl)) ((HY3.out).set 11 _) (fun _ => rfl)
    · have hc2 : (extra == 0) = false := by simpa using c2
      have e : pNext av le n l ⟨W, L, 3, had, saw, extra, false⟩ = ⟨casW W av saw (saw - n - extra), L ++ [⟨3, av, saw, saw - n - extra, true⟩], 4, had, saw, extra, false⟩ := by simp [pNext, c, c2]
      rw [e]
      have HC2 := hid hc2
      clear e c2 hc2
      go_enter Try.func56, Try.ntmps56
      go_wp2_with fail
      apply wp_region_text (WI := fun S wx => Keep0 w wx) (by kernel_rfl) (by kernel_rfl)
      case hob =>
        apply Oblig.cons
        case h =>
          intro S w1 hwi hSi hd hcl
          apply StepOk.intro
          intro K hK
          have qy3 := (hwi.blk HY.out (fun h => h)).k19
          go_simp
          apply hK
          · rfl
          · conv => (lhs; whnf)
          · exact hwi
        simp only [put_lit, put_none, List.set_cons_succ, List.set_cons_zero]
        apply Oblig.cons
        case h =>
          intro S w1 hwi hSi hd hcl
          apply StepOk.intro
          intro K hK
          have qy3 := (hwi.blk HY.out (fun h => h)).k19
          go_simp
          apply hK
          · rfl
          · conv => (lhs; whnf)
          · exact hwi
        simp only [put_lit, put_none, List.set_cons_succ, List.set_cons_zero]
        apply Oblig.cons
        case h =>
          intro S w1 hwi hSi hd hcl
          apply StepOk.intro
          intro K hK
          have qy3 := (hwi.blk HY.out (fun h => h)).k19
          go_simp
          apply hK
          · rfl
          · conv => (lhs; whnf)
          · exact hwi
        simp only [put_lit, put_none, List.set_cons_succ, List.set_cons_zero]
        apply Oblig.cons
        case h =>
          intro S w1 hwi hSi hd hcl
          apply StepOk.intro
          intro K hK
          have qy3 := (hwi.blk HY.out (fun h => h)).k19
          go_simp
          apply hK
          · rfl
          · conv => (lhs; whnf)
          · exact hwi
        simp only [put_lit, put_none, List.set_cons_succ, List.set_cons_zero]
        apply Oblig.cons
        case h =>
          intro S w1 hwi hSi hd hcl
          apply StepOk.intro
          intro K hK
          have qy3 := (hwi.blk HY.out (fun h => h)).k19
          go_simp
          apply hK
          · rfl
          · conv => (lhs; whnf)
          · exact hwi
        simp only [put_lit, put_none, List.set_cons_succ, List.set_cons_zero]
        apply Oblig.cons
        case h =>
          intro S w1 hwi hSi hd hcl
          apply StepOk.intro
          intro K hK
          have qy3 := (hwi.blk HY.out (fun h => h)).k19
          go_simp
          apply hK
          · rfl
          · conv => (lhs; whnf)
          · exact hwi
        simp only [put_lit, put_none, List.set_cons_succ, List.set_cons_zero]
        apply Oblig.cons
        case h =>
          intro S w1 hwi hSi hd hcl
          apply StepOk.intro
          intro K hK
          have qy3 := (hwi.blk HY.out (fun h => h)).k19
          go_simp
          apply hK
          · rfl
          · conv => (lhs; whnf)
          · exact hwi
        simp only [put_lit, put_none, List.set_cons_succ, List.set_cons_zero]
        apply Oblig.cons
        case h =>
          intro S w1 hwi hSi hd hcl
          apply StepOk.intro
          intro K hK
          have qy3 := (hwi.blk HY.out (fun h => h)).k19
          go_simp
          apply hK
          · rfl
          · conv => (lhs; whnf)
          · exact hwi
        simp only [put_lit, put_none, List.set_cons_succ, List.set_cons_zero]
        apply Oblig.cons
        case h =>
          intro S w1 hwi hSi hd hcl
          apply StepOk.intro
          intro K hK
          have qy3 := (hwi.blk HY.out (fun h => h)).k19
          go_simp
          apply hK
          · rfl
          · conv => (lhs; whnf)
          · exact hwi
        simp only [put_lit, put_none, List.set_cons_succ, List.set_cons_zero]
        apply Oblig.cons
        case h =>
          intro S w1 hwi hSi hd hcl
          apply StepOk.intro
          intro K hK
          have qy3 := (hwi.blk HY.out (fun h => h)).k19
          go_simp
          apply hK
          · rfl
          · conv => (lhs; whnf)
          · exact hwi
        simp only [put_lit, put_none, List.set_cons_succ, List.set_cons_zero]
        apply Oblig.cons
        case h =>
          intro S w1 hwi hSi hd hcl
          apply StepOk.intro
          intro K hK
          have qy3 := (hwi.blk HY.out (fun h => h)).k19
          go_simp
          apply hK
          · rfl
          · conv => (lhs; whnf)
          · exact hwi
        simp only [put_lit, put_none, List.set_cons_succ, List.set_cons_zero]
        apply Oblig.cons
        case h =>
          intro S w1 hwi hSi hd hcl
          apply StepOk.intro
          intro K hK
          have qy3 := (hwi.blk HY.out (fun h => h)).k19
          go_simp
          apply hK
          · rfl
          · conv => (lhs; whnf)
          · exact hwi
        simp only [put_lit, put_none, List.set_cons_succ, List.set_cons_zero]
        apply Oblig.cons
        case h =>
          intro S w1 hwi hSi hd hcl
          apply StepOk.intro
          intro K hK
          have qy3 := (hwi.blk HY.out (fun h => h)).k19
          go_simp
          refine (show Calls Try.prog 24 #[.agg #[i64 t, i64 s, i64 g, i64 l, i64 r, i64 k, .slice PA pn pc, .slice LA ln lc], i64 nd, i64 st] w1 (Ret (i64 le) w1) from by have h := ref_Lease t s g l r k PA pn pc LA ln lc nd st w1 hs0 hs1 hv0 hv1 hu0 hu1; rw [← HLE.out] at h; exact h).mono ?_
          rintro e w2 ⟨rfl, hk⟩
          apply hK
          · rfl
          · conv => (lhs; whnf)
          · exact Keep0.step hwi hk
        simp only [put_lit, put_none, List.set_cons_succ, List.set_cons_zero]
        apply Oblig.cons
        case h =>
          intro S w1 hwi hSi hd hcl
          apply StepOk.intro
          intro K hK
          have qy3 := (hwi.blk HY.out (fun h => h)).k19
          go_simp
          apply hK
          · rfl
          · conv => (lhs; whnf)
          · exact hwi
        simp only [put_lit, put_none, List.set_cons_succ, List.set_cons_zero]
        exact Oblig.nil
      case h0 =>
        exact (Keep.refl _ _).drew
      case hend =>
        intro S wx hwi hall
        obtain ⟨w1, rfl⟩ : ∃ w1 : World, w1 = wx := ⟨_, rfl⟩
        have HY1 := hid (hwi.blk HY.out (fun h => h))
        have HM1 := hid (HM.out.keep hwi (fun _ _ h => h))
        have HK1 := hid hwi
        have qy1 := HY1.out.k19
        clear hwi hall HY HM qy
        go_wp2_with fail
        apply wp_region_text (WI := fun S wx => Keep0 w1 wx) (by kernel_rfl) (by kernel_rfl)
        case hob =>
          apply Oblig.cons
          case h =>
            intro S w1 hwi hSi hd hcl
            apply StepOk.intro
            intro K hK
            have qy3 := (hwi.blk HY1.out (fun h => h)).k19
            go_simp
            apply hK
            · rfl
            · conv => (lhs; whnf)
            · exact hwi
          simp only [put_lit, put_none, List.set_cons_succ, List.set_cons_zero]
          apply Oblig.cons
          case h =>
            intro S w1 hwi hSi hd hcl
            apply StepOk.intro
            intro K hK
            have qy3 := (hwi.blk HY1.out (fun h => h)).k19
            go_simp
            apply hK
            · rfl
            · conv => (lhs; whnf)
            · exact hwi
          simp only [put_lit, put_none, List.set_cons_succ, List.set_cons_zero]
          apply Oblig.cons
          case h =>
            intro S w1 hwi hSi hd hcl
            apply StepOk.intro
            intro K hK
            have qy3 := (hwi.blk HY1.out (fun h => h)).k19
            go_simp
            apply hK
            · rfl
            · conv => (lhs; whnf)
            · exact hwi
          simp only [put_lit, put_none, List.set_cons_succ, List.set_cons_zero]
          apply Oblig.cons
          case h =>
            intro S w1 hwi hSi hd hcl
            apply StepOk.intro
            intro K hK
            have qy3 := (hwi.blk HY1.out (fun h => h)).k19
            go_simp
            apply hK
            · rfl
            · conv => (lhs; whnf)
            · exact hwi
          simp only [put_lit, put_none, List.set_cons_succ, List.set_cons_zero]
          apply Oblig.cons
          case h =>
            intro S w1 hwi hSi hd hcl
            apply StepOk.intro
            intro K hK
            have qy3 := (hwi.blk HY1.out (fun h => h)).k19
            go_simp
            apply hK
            · rfl
            · conv => (lhs; whnf)
            · exact hwi
          simp only [put_lit, put_none, List.set_cons_succ, List.set_cons_zero]
          apply Oblig.cons
          case h =>
            intro S w1 hwi hSi hd hcl
            apply StepOk.intro
            intro K hK
            have qy3 := (hwi.blk HY1.out (fun h => h)).k19
            go_simp
            apply hK
            · rfl
            · conv => (lhs; whnf)
            · exact hwi
          simp only [put_lit, put_none, List.set_cons_succ, List.set_cons_zero]
          apply Oblig.cons
          case h =>
            intro S w1 hwi hSi hd hcl
            apply StepOk.intro
            intro K hK
            have qy3 := (hwi.blk HY1.out (fun h => h)).k19
            go_simp
            apply hK
            · rfl
            · conv => (lhs; whnf)
            · exact hwi
          simp only [put_lit, put_none, List.set_cons_succ, List.set_cons_zero]
          apply Oblig.cons
          case h =>
            intro S w1 hwi hSi hd hcl
            apply StepOk.intro
            intro K hK
            have qy3 := (hwi.blk HY1.out (fun h => h)).k19
            go_simp
            apply hK
            · rfl
            · conv => (lhs; whnf)
            · exact hwi
          simp only [put_lit, put_none, List.set_cons_succ, List.set_cons_zero]
          apply Oblig.cons
          case h =>
            intro S w1 hwi hSi hd hcl
            apply StepOk.intro
            intro K hK
            have qy3 := (hwi.blk HY1.out (fun h => h)).k19
            go_simp
            refine (show Calls Try.prog 25 #[.agg #[i64 t, i64 s, i64 g, i64 l, i64 r, i64 k, .slice PA pn pc, .slice LA ln lc], i64 nd] w1 (Ret (i64 av) w1) from by have h := ref_Avail t s g l r k PA pn pc LA ln lc nd w1 hs0 hs1 hv0 hv1; rw [← HAV.out] at h; exact h).mono ?_
            rintro e w2 ⟨rfl, hk⟩
            apply hK
            · rfl
            · conv => (lhs; whnf)
            · exact Keep0.step hwi hk
          simp only [put_lit, put_none, List.set_cons_succ, List.set_cons_zero]
          apply Oblig.cons
          case h =>
            intro S w1 hwi hSi hd hcl
            apply StepOk.intro
            intro K hK
            have qy3 := (hwi.blk HY1.out (fun h => h)).k19
            go_simp
            apply hK
            · rfl
            · conv => (lhs; whnf)
            · exact hwi
          simp only [put_lit, put_none, List.set_cons_succ, List.set_cons_zero]
          exact Oblig.nil
        case h0 =>
          exact (Keep.refl _ _).drew
        case hend =>
          intro S wx hwi hall
          obtain ⟨w2, rfl⟩ : ∃ w2 : World, w2 = wx := ⟨_, rfl⟩
          have HY2 := hid (hwi.blk HY1.out (fun h => h))
          have HM2 := hid (HM1.out.keep hwi (fun _ _ h => h))
          have HK2 := hid (HK1.out.trans hwi (fun _ _ h => h))
          have qy2 := HY2.out.k19
          clear hwi hall HY1 HM1 HK1 qy1
          go_wp2_with fail
          have HM4 := hid HM2.out
          have HY4 := hid HY2.out
          have HK4 : Hid (Keep (fun b => (b = m ∨ lv.ownBlock = some b) ∨ b = y) w w2) := hid (HK2.out.mono (fun _ h => h.elim))
          clear HM2 HY2 HK2 qy2
          obtain ⟨w4, rfl⟩ : ∃ w4 : World, w4 = w2 := ⟨_, rfl⟩
          apply wp_region_text (WI := fun S wx => Blk wx y 106 [i64 t, i64 s, i64 g, i64 l, i64 r, i64 k, .slice PA pn pc, .slice LA ln lc, i64 nd, i64 n, i64 st, i64 (3), i64 (had), i64 (saw), i64 (extra), i64 0, i64 0, .bool false, i64 0] ∧ (S 20 = false → RefAt B wx m A ca lv W L ∧ Keep0 w4 wx) ∧ (S 20 = true → RefPost B w4 m A lv (casW W av saw (saw - n - extra)) (L ++ [⟨3, av, saw, saw - n - extra, true⟩]) wx)) (by kernel_rfl) (by kernel_rfl)
          case hob =>
            apply Oblig.cons
            case h =>
              intro S w1 hwi hSi hd hcl
              apply StepOk.intro
              intro K hK
              have qy5 := hwi.1.k19
              go_simp
              apply hK
              · rfl
              · conv => (lhs; whnf)
              · exact hwi
            simp only [put_lit, put_none, List.set_cons_succ, List.set_cons_zero]
            apply Oblig.cons
            case h =>
              intro S w1 hwi hSi hd hcl
              apply StepOk.intro
              intro K hK
              have qy5 := hwi.1.k19
              go_simp
              apply hK
              · rfl
              · conv => (lhs; whnf)
              · exact hwi
            simp only [put_lit, put_none, List.set_cons_succ, List.set_cons_zero]
            apply Oblig.cons
            case h =>
              intro S w1 hwi hSi hd hcl
              apply StepOk.intro
              intro K hK
              have qy5 := hwi.1.k19
              go_simp
              apply hK
              · rfl
              · conv => (lhs; whnf)
              · exact hwi
            simp only [put_lit, put_none, List.set_cons_succ, List.set_cons_zero]
            apply Oblig.cons
            case h =>
              intro S w1 hwi hSi hd hcl
              apply StepOk.intro
              intro K hK
              have qy5 := hwi.1.k19
              go_simp
              apply hK
              · rfl
              · conv => (lhs; whnf)
              · exact hwi
            simp only [put_lit, put_none, List.set_cons_succ, List.set_cons_zero]
            apply Oblig.cons
            case h =>
              intro S w1 hwi hSi hd hcl
              apply StepOk.intro
              intro K hK
              have qy5 := hwi.1.k19
              go_simp
              apply hK
              · rfl
              · conv => (lhs; whnf)
              · exact hwi
            simp only [put_lit, put_none, List.set_cons_succ, List.set_cons_zero]
            apply Oblig.cons
            case h =>
              intro S w1 hwi hSi hd hcl
              apply StepOk.intro
              intro K hK
              have qy5 := hwi.1.k19
              go_simp
              apply hK
              · rfl
              · conv => (lhs; whnf)
              · exact hwi
            simp only [put_lit, put_none, List.set_cons_succ, List.set_cons_zero]
            apply Oblig.cons
            case h =>
              intro S w1 hwi hSi hd hcl
              apply StepOk.intro
              intro K hK
              have qy5 := hwi.1.k19
              go_simp
              apply hK
              · rfl
              · conv => (lhs; whnf)
              · exact hwi
            simp only [put_lit, put_none, List.set_cons_succ, List.set_cons_zero]
            apply Oblig.cons
            case h =>
              intro S w1 hwi hSi hd hcl
              apply StepOk.intro
              intro K hK
              have qy5 := hwi.1.k19
              go_simp
              apply hK
              · rfl
              · conv => (lhs; whnf)
              · exact hwi
            simp only [put_lit, put_none, List.set_cons_succ, List.set_cons_zero]
            apply Oblig.cons
            case h =>
              intro S w1 hwi hSi hd hcl
              apply StepOk.intro
              intro K hK
              have qy5 := hwi.1.k19
              go_simp
              apply hK
              · rfl
              · conv => (lhs; whnf)
              · exact hwi
            simp only [put_lit, put_none, List.set_cons_succ, List.set_cons_zero]
            apply Oblig.cons
            case h =>
              intro S w1 hwi hSi hd hcl
              apply StepOk.intro
              intro K hK
              have qy5 := hwi.1.k19
              go_simp
              apply hK
              · rfl
              · conv => (lhs; whnf)
              · exact hwi
            simp only [put_lit, put_none, List.set_cons_succ, List.set_cons_zero]
            apply Oblig.cons
            case h =>
              intro S w1 hwi hSi hd hcl
              apply StepOk.intro
              intro K hK
              have qy5 := hwi.1.k19
              go_simp
              apply hK
              · rfl
              · conv => (lhs; whnf)
              · exact hwi
            simp only [put_lit, put_none, List.set_cons_succ, List.set_cons_zero]
            apply Oblig.cons
            case h =>
              intro S w1 hwi hSi hd hcl
              apply StepOk.intro
              intro K hK
              have qy5 := hwi.1.k19
              go_simp
              apply hK
              · rfl
              · conv => (lhs; whnf)
              · exact hwi
            simp only [put_lit, put_none, List.set_cons_succ, List.set_cons_zero]
            apply Oblig.cons
            case h =>
              intro S w1 hwi hSi hd hcl
              apply StepOk.intro
              intro K hK
              have qy5 := hwi.1.k19
              go_simp
              apply hK
              · rfl
              · conv => (lhs; whnf)
              · exact hwi
            simp only [put_lit, put_none, List.set_cons_succ, List.set_cons_zero]
            apply Oblig.cons
            case h =>
              intro S w1 hwi hSi hd hcl
              apply StepOk.intro
              intro K hK
              have qy5 := hwi.1.k19
              go_simp
              apply hK
              · rfl
              · conv => (lhs; whnf)
              · exact hwi
            simp only [put_lit, put_none, List.set_cons_succ, List.set_cons_zero]
            apply Oblig.cons
            case h =>
              intro S w1 hwi hSi hd hcl
              apply StepOk.intro
              intro K hK
              have qy5 := hwi.1.k19
              go_simp
              apply hK
              · rfl
              · conv => (lhs; whnf)
              · exact hwi
            simp only [put_lit, put_none, List.set_cons_succ, List.set_cons_zero]
            apply Oblig.cons
            case h =>
              intro S w1 hwi hSi hd hcl
              apply StepOk.intro
              intro K hK
              have qy5 := hwi.1.k19
              go_simp
              apply hK
              · rfl
              · conv => (lhs; whnf)
              · exact hwi
            simp only [put_lit, put_none, List.set_cons_succ, List.set_cons_zero]
            apply Oblig.cons
            case h =>
              intro S w1 hwi hSi hd hcl
              apply StepOk.intro
              intro K hK
              have qy5 := hwi.1.k19
              go_simp
              apply hK
              · rfl
              · conv => (lhs; whnf)
              · exact hwi
            simp only [put_lit, put_none, List.set_cons_succ, List.set_cons_zero]
            apply Oblig.cons
            case h =>
              intro S w1 hwi hSi hd hcl
              apply StepOk.intro
              intro K hK
              have qy5 := hwi.1.k19
              go_simp
              apply hK
              · rfl
              · conv => (lhs; whnf)
              · exact hwi
            simp only [put_lit, put_none, List.set_cons_succ, List.set_cons_zero]
            apply Oblig.cons
            case h =>
              intro S w1 hwi hSi hd hcl
              apply StepOk.intro
              intro K hK
              have qy5 := hwi.1.k19
              go_simp
              apply hK
              · rfl
              · conv => (lhs; whnf)
              · exact hwi
            simp only [put_lit, put_none, List.set_cons_succ, List.set_cons_zero]
            apply Oblig.cons
            case h =>
              intro S w1 hwi hSi hd hcl
              apply StepOk.intro
              intro K hK
              have qy5 := hwi.1.k19
              go_simp
              apply hK
              · rfl
              · conv => (lhs; whnf)
              · exact hwi
            simp only [put_lit, put_none, List.set_cons_succ, List.set_cons_zero]
            apply Oblig.cons
            case h =>
              intro S w1 hwi hSi hd hcl
              apply StepOk.intro
              intro K hK
              have qy5 := hwi.1.k19
              go_simp
              refine (show Calls Try.prog 73 #[ptr m, i64 av, i64 saw, i64 (saw - n - extra)] w1 (fun e w2 => e = .returned (.bool true) ∧ RefPost B w1 m A lv (casW W av saw (saw - n - extra)) (L ++ [⟨3, av, saw, saw - n - extra, true⟩]) w2) from by have h := ref_CasN av saw (saw - n - extra) (hwi.2.1 hSi).1 (by omega) hW hL; rw [hcb] at h; exact h).mono ?_
              rintro e w2 ⟨rfl, hp⟩
              obtain ⟨Aq, cq, lvq, hq1, hq2, _⟩ := id hp
              have hblk := hq2.blk hwi.1 (ry_far (hwi.2.1 hSi).1 hwi.1)
              have hpp := hp.before (hwi.2.1 hSi).2
              apply hK
              · rfl
              · conv => (lhs; whnf)
              · exact ⟨hblk, fun h => by simp [upd] at h, fun _ => hpp⟩
            simp only [put_lit, put_none, List.set_cons_succ, List.set_cons_zero]
            apply Oblig.cons
            case h =>
              intro S w1 hwi hSi hd hcl
              apply StepOk.intro
              intro K hK
              have qy5 := hwi.1.k19
              go_simp
              apply hK
              · rfl
              · conv => (lhs; whnf)
              · exact hwi
            simp only [put_lit, put_none, List.set_cons_succ, List.set_cons_zero]
            exact Oblig.nil
          case h0 =>
            exact ⟨HY4.out.drew, fun _ => ⟨HM4.out.keep (Keep.refl (fun _ => False) _).drew (fun _ _ h => h), (Keep.refl _ _).drew⟩, fun h => by cases h⟩
          case hend =>
            intro S wx hwi hall
            obtain ⟨w3, rfl⟩ : ∃ w3 : World, w3 = wx := ⟨_, rfl⟩
            obtain ⟨A3, c3, lv3, hm, hk, ha, hl⟩ := hwi.2.2 (hall 20 (by decide))
            have HK3 := hid (HK4.out.trans (hk.mono (T := fun b => (b = m ∨ lv.ownBlock = some b) ∨ b = y) (fun _ h => Or.inl h)) (fun _ _ h => h))
            have HM3 := hid hm
            have HY3 := hid hwi.1
            have HA3 := hid (fun b h => (ha b h).imp id (fun h => Nat.le_trans HK4.out.size h))
            have HL3 := hid (fun b h => (hl b h).imp id (fun h => Nat.le_trans HK4.out.size h))
            have qy3 := HY3.out.k19
            clear hwi hall hm hk ha hl HK4 HM4 HY4
            have hc2 := HC2.out
            go_wp2_with fail
            go_ret
            exact rpoolP_of2 (x' := _) (e' := _) HM3.out HK3.out HA3.out HL3.out HY3.out (((Keep.refl (fun k => k = y) w3)).set ⟨y, 11, none⟩ _ (fun _ => rfl)) ((HY3.out).set 11 _) (fun _ => rfl)
  · have hcb : (rd W av == saw) = false := by simpa using c
    have e : pNext av le n l ⟨W, L, 3, had, saw, extra, false⟩ = ⟨casW W av saw (saw - n - extra), L ++ [⟨3, av, saw, saw - n - extra, false⟩], 2, had, saw, extra, false⟩ := by simp [pNext, c]
    rw [e]
    clear e
    go_enter Try.func56, Try.ntmps56
    go_wp2_with fail
    apply wp_region_text (WI := fun S wx => Keep0 w wx) (by kernel_rfl) (by kernel_rfl)
    case hob =>
      apply Oblig.cons
      case h =>
        intro S w1 hwi hSi hd hcl
        apply StepOk.intro
        intro K hK
        have qy3 := (hwi.blk HY.out (fun h => h)).k19
        go_simp
        apply hK
        · rfl
        · conv => (lhs; whnf)
        · exact hwi
      simp only [put_lit, put_none, List.set_cons_succ, List.set_cons_zero]
      apply Oblig.cons
      case h =>
        intro S w1 hwi hSi hd hcl
        apply StepOk.intro
        intro K hK
        have qy3 := (hwi.blk HY.out (fun h => h)).k19
        go_simp
        apply hK
        · rfl
        · conv => (lhs; whnf)
        · exact hwi
      simp only [put_lit, put_none, List.set_cons_succ, List.set_cons_zero]
      apply Oblig.cons
      case h =>
        intro S w1 hwi hSi hd hcl
        apply StepOk.intro
        intro K hK
        have qy3 := (hwi.blk HY.out (fun h => h)).k19
        go_simp
        apply hK
        · rfl
        · conv => (lhs; whnf)
        · exact hwi
      simp only [put_lit, put_none, List.set_cons_succ, List.set_cons_zero]
      apply Oblig.cons
      case h =>
        intro S w1 hwi hSi hd hcl
        apply StepOk.intro
        intro K hK
        have qy3 := (hwi.blk HY.out (fun h => h)).k19
        go_simp
        apply hK
        · rfl
        · conv => (lhs; whnf)
        · exact hwi
      simp only [put_lit, put_none, List.set_cons_succ, List.set_cons_zero]
      apply Oblig.cons
      case h =>
        intro S w1 hwi hSi hd hcl
        apply StepOk.intro
        intro K hK
        have qy3 := (hwi.blk HY.out (fun h => h)).k19
        go_simp
        apply hK
        · rfl
        · conv => (lhs; whnf)
        · exact hwi
      simp only [put_lit, put_none, List.set_cons_succ, List.set_cons_zero]
      apply Oblig.cons
      case h =>
        intro S w1 hwi hSi hd hcl
        apply StepOk.intro
        intro K hK
        have qy3 := (hwi.blk HY.out (fun h => h)).k19
        go_simp
        apply hK
        · rfl
        · conv => (lhs; whnf)
        · exact hwi
      simp only [put_lit, put_none, List.set_cons_succ, List.set_cons_zero]
      apply Oblig.cons
      case h =>
        intro S w1 hwi hSi hd hcl
        apply StepOk.intro
        intro K hK
        have qy3 := (hwi.blk HY.out (fun h => h)).k19
        go_simp
        apply hK
        · rfl
        · conv => (lhs; whnf)
        · exact hwi
      simp only [put_lit, put_none, List.set_cons_succ, List.set_cons_zero]
      apply Oblig.cons
      case h =>
        intro S w1 hwi hSi hd hcl
        apply StepOk.intro
        intro K hK
        have qy3 := (hwi.blk HY.out (fun h => h)).k19
        go_simp
        apply hK
        · rfl
        · conv => (lhs; whnf)
        · exact hwi
      simp only [put_lit, put_none, List.set_cons_succ, List.set_cons_zero]
      apply Oblig.cons
      case h =>
        intro S w1 hwi hSi hd hcl
        apply StepOk.intro
        intro K hK
        have qy3 := (hwi.blk HY.out (fun h => h)).k19
        go_simp
        apply hK
        · rfl
        · conv => (lhs; whnf)
        · exact hwi
      simp only [put_lit, put_none, List.set_cons_succ, List.set_cons_zero]
      apply Oblig.cons
      case h =>
        intro S w1 hwi hSi hd hcl
        apply StepOk.intro
        intro K hK
        have qy3 := (hwi.blk HY.out (fun h => h)).k19
        go_simp
        apply hK
        · rfl
        · conv => (lhs; whnf)
        · exact hwi
      simp only [put_lit, put_none, List.set_cons_succ, List.set_cons_zero]
      apply Oblig.cons
      case h =>
        intro S w1 hwi hSi hd hcl
        apply StepOk.intro
        intro K hK
        have qy3 := (hwi.blk HY.out (fun h => h)).k19
        go_simp
        apply hK
        · rfl
        · conv => (lhs; whnf)
        · exact hwi
      simp only [put_lit, put_none, List.set_cons_succ, List.set_cons_zero]
      apply Oblig.cons
      case h =>
        intro S w1 hwi hSi hd hcl
        apply StepOk.intro
        intro K hK
        have qy3 := (hwi.blk HY.out (fun h => h)).k19
        go_simp
        apply hK
        · rfl
        · conv => (lhs; whnf)
        · exact hwi
      simp only [put_lit, put_none, List.set_cons_succ, List.set_cons_zero]
      apply Oblig.cons
      case h =>
        intro S w1 hwi hSi hd hcl
        apply StepOk.intro
        intro K hK
        have qy3 := (hwi.blk HY.out (fun h => h)).k19
        go_simp
        refine (show Calls Try.prog 24 #[.agg #[i64 t, i64 s, i64 g, i64 l, i64 r, i64 k, .slice PA pn pc, .slice LA ln lc], i64 nd, i64 st] w1 (Ret (i64 le) w1) from by have h := ref_Lease t s g l r k PA pn pc LA ln lc nd st w1 hs0 hs1 hv0 hv1 hu0 hu1; rw [← HLE.out] at h; exact h).mono ?_
        rintro e w2 ⟨rfl, hk⟩
        apply hK
        · rfl
        · conv => (lhs; whnf)
        · exact Keep0.step hwi hk
      simp only [put_lit, put_none, List.set_cons_succ, List.set_cons_zero]
      apply Oblig.cons
      case h =>
        intro S w1 hwi hSi hd hcl
        apply StepOk.intro
        intro K hK
        have qy3 := (hwi.blk HY.out (fun h => h)).k19
        go_simp
        apply hK
        · rfl
        · conv => (lhs; whnf)
        · exact hwi
      simp only [put_lit, put_none, List.set_cons_succ, List.set_cons_zero]
      exact Oblig.nil
    case h0 =>
      exact (Keep.refl _ _).drew
    case hend =>
      intro S wx hwi hall
      obtain ⟨w1, rfl⟩ : ∃ w1 : World, w1 = wx := ⟨_, rfl⟩
      have HY1 := hid (hwi.blk HY.out (fun h => h))
      have HM1 := hid (HM.out.keep hwi (fun _ _ h => h))
      have HK1 := hid hwi
      have qy1 := HY1.out.k19
      clear hwi hall HY HM qy
      go_wp2_with fail
      apply wp_region_text (WI := fun S wx => Keep0 w1 wx) (by kernel_rfl) (by kernel_rfl)
      case hob =>
        apply Oblig.cons
        case h =>
          intro S w1 hwi hSi hd hcl
          apply StepOk.intro
          intro K hK
          have qy3 := (hwi.blk HY1.out (fun h => h)).k19
          go_simp
          apply hK
          · rfl
          · conv => (lhs; whnf)
          · exact hwi
        simp only [put_lit, put_none, List.set_cons_succ, List.set_cons_zero]
        apply Oblig.cons
        case h =>
          intro S w1 hwi hSi hd hcl
          apply StepOk.intro
          intro K hK
          have qy3 := (hwi.blk HY1.out (fun h => h)).k19
          go_simp
          apply hK
          · rfl
          · conv => (lhs; whnf)
          · exact hwi
        simp only [put_lit, put_none, List.set_cons_succ, List.set_cons_zero]
        apply Oblig.cons
        case h =>
          intro S w1 hwi hSi hd hcl
          apply StepOk.intro
          intro K hK
          have qy3 := (hwi.blk HY1.out (fun h => h)).k19
          go_simp
          apply hK
          · rfl
          · conv => (lhs; whnf)
          · exact hwi
        simp only [put_lit, put_none, List.set_cons_succ, List.set_cons_zero]
        apply Oblig.cons
        case h =>
          intro S w1 hwi hSi hd hcl
          apply StepOk.intro
          intro K hK
          have qy3 := (hwi.blk HY1.out (fun h => h)).k19
          go_simp
          apply hK
          · rfl
          · conv => (lhs; whnf)
          · exact hwi
        simp only [put_lit, put_none, List.set_cons_succ, List.set_cons_zero]
        apply Oblig.cons
        case h =>
          intro S w1 hwi hSi hd hcl
          apply StepOk.intro
          intro K hK
          have qy3 := (hwi.blk HY1.out (fun h => h)).k19
          go_simp
          apply hK
          · rfl
          · conv => (lhs; whnf)
          · exact hwi
        simp only [put_lit, put_none, List.set_cons_succ, List.set_cons_zero]
        apply Oblig.cons
        case h =>
          intro S w1 hwi hSi hd hcl
          apply StepOk.intro
          intro K hK
          have qy3 := (hwi.blk HY1.out (fun h => h)).k19
          go_simp
          apply hK
          · rfl
          · conv => (lhs; whnf)
          · exact hwi
        simp only [put_lit, put_none, List.set_cons_succ, List.set_cons_zero]
        apply Oblig.cons
        case h =>
          intro S w1 hwi hSi hd hcl
          apply StepOk.intro
          intro K hK
          have qy3 := (hwi.blk HY1.out (fun h => h)).k19
          go_simp
          apply hK
          · rfl
          · conv => (lhs; whnf)
          · exact hwi
        simp only [put_lit, put_none, List.set_cons_succ, List.set_cons_zero]
        apply Oblig.cons
        case h =>
          intro S w1 hwi hSi hd hcl
          apply StepOk.intro
          intro K hK
          have qy3 := (hwi.blk HY1.out (fun h => h)).k19
          go_simp
          apply hK
          · rfl
          · conv => (lhs; whnf)
          · exact hwi
        simp only [put_lit, put_none, List.set_cons_succ, List.set_cons_zero]
        apply Oblig.cons
        case h =>
          intro S w1 hwi hSi hd hcl
          apply StepOk.intro
          intro K hK
          have qy3 := (hwi.blk HY1.out (fun h => h)).k19
          go_simp
          refine (show Calls Try.prog 25 #[.agg #[i64 t, i64 s, i64 g, i64 l, i64 r, i64 k, .slice PA pn pc, .slice LA ln lc], i64 nd] w1 (Ret (i64 av) w1) from by have h := ref_Avail t s g l r k PA pn pc LA ln lc nd w1 hs0 hs1 hv0 hv1; rw [← HAV.out] at h; exact h).mono ?_
          rintro e w2 ⟨rfl, hk⟩
          apply hK
          · rfl
          · conv => (lhs; whnf)
          · exact Keep0.step hwi hk
        simp only [put_lit, put_none, List.set_cons_succ, List.set_cons_zero]
        apply Oblig.cons
        case h =>
          intro S w1 hwi hSi hd hcl
          apply StepOk.intro
          intro K hK
          have qy3 := (hwi.blk HY1.out (fun h => h)).k19
          go_simp
          apply hK
          · rfl
          · conv => (lhs; whnf)
          · exact hwi
        simp only [put_lit, put_none, List.set_cons_succ, List.set_cons_zero]
        exact Oblig.nil
      case h0 =>
        exact (Keep.refl _ _).drew
      case hend =>
        intro S wx hwi hall
        obtain ⟨w2, rfl⟩ : ∃ w2 : World, w2 = wx := ⟨_, rfl⟩
        have HY2 := hid (hwi.blk HY1.out (fun h => h))
        have HM2 := hid (HM1.out.keep hwi (fun _ _ h => h))
        have HK2 := hid (HK1.out.trans hwi (fun _ _ h => h))
        have qy2 := HY2.out.k19
        clear hwi hall HY1 HM1 HK1 qy1
        go_wp2_with fail
        have HM4 := hid HM2.out
        have HY4 := hid HY2.out
        have HK4 : Hid (Keep (fun b => (b = m ∨ lv.ownBlock = some b) ∨ b = y) w w2) := hid (HK2.out.mono (fun _ h => h.elim))
        clear HM2 HY2 HK2 qy2
        obtain ⟨w4, rfl⟩ : ∃ w4 : World, w4 = w2 := ⟨_, rfl⟩
        apply wp_region_text (WI := fun S wx => Blk wx y 106 [i64 t, i64 s, i64 g, i64 l, i64 r, i64 k, .slice PA pn pc, .slice LA ln lc, i64 nd, i64 n, i64 st, i64 (3), i64 (had), i64 (saw), i64 (extra), i64 0, i64 0, .bool false, i64 0] ∧ (S 20 = false → RefAt B wx m A ca lv W L ∧ Keep0 w4 wx) ∧ (S 20 = true → RefPost B w4 m A lv (casW W av saw (saw - n - extra)) (L ++ [⟨3, av, saw, saw - n - extra, false⟩]) wx)) (by kernel_rfl) (by kernel_rfl)
        case hob =>
          apply Oblig.cons
          case h =>
            intro S w1 hwi hSi hd hcl
            apply StepOk.intro
            intro K hK
            have qy5 := hwi.1.k19
            go_simp
            apply hK
            · rfl
            · conv => (lhs; whnf)
            · exact hwi
          simp only [put_lit, put_none, List.set_cons_succ, List.set_cons_zero]
          apply Oblig.cons
          case h =>
            intro S w1 hwi hSi hd hcl
            apply StepOk.intro
            intro K hK
            have qy5 := hwi.1.k19
            go_simp
            apply hK
            · rfl
            · conv => (lhs; whnf)
            · exact hwi
          simp only [put_lit, put_none, List.set_cons_succ, List.set_cons_zero]
          apply Oblig.cons
          case h =>
            intro S w1 hwi hSi hd hcl
            apply StepOk.intro
            intro K hK
            have qy5 := hwi.1.k19
            go_simp
            apply hK
            · rfl
            · conv => (lhs; whnf)
            · exact hwi
          simp only [put_lit, put_none, List.set_cons_succ, List.set_cons_zero]
          apply Oblig.cons
          case h =>
            intro S w1 hwi hSi hd hcl
            apply StepOk.intro
            intro K hK
            have qy5 := hwi.1.k19
            go_simp
            apply hK
            · rfl
            · conv => (lhs; whnf)
            · exact hwi
          simp only [put_lit, put_none, List.set_cons_succ, List.set_cons_zero]
          apply Oblig.cons
          case h =>
            intro S w1 hwi hSi hd hcl
            apply StepOk.intro
            intro K hK
            have qy5 := hwi.1.k19
            go_simp
            apply hK
            · rfl
            · conv => (lhs; whnf)
            · exact hwi
          simp only [put_lit, put_none, List.set_cons_succ, List.set_cons_zero]
          apply Oblig.cons
          case h =>
            intro S w1 hwi hSi hd hcl
            apply StepOk.intro
            intro K hK
            have qy5 := hwi.1.k19
            go_simp
            apply hK
            · rfl
            · conv => (lhs; whnf)
            · exact hwi
          simp only [put_lit, put_none, List.set_cons_succ, List.set_cons_zero]
          apply Oblig.cons
          case h =>
            intro S w1 hwi hSi hd hcl
            apply StepOk.intro
            intro K hK
            have qy5 := hwi.1.k19
            go_simp
            apply hK
            · rfl
            · conv => (lhs; whnf)
            · exact hwi
          simp only [put_lit, put_none, List.set_cons_succ, List.set_cons_zero]
          apply Oblig.cons
          case h =>
            intro S w1 hwi hSi hd hcl
            apply StepOk.intro
            intro K hK
            have qy5 := hwi.1.k19
            go_simp
            apply hK
            · rfl
            · conv => (lhs; whnf)
            · exact hwi
          simp only [put_lit, put_none, List.set_cons_succ, List.set_cons_zero]
          apply Oblig.cons
          case h =>
            intro S w1 hwi hSi hd hcl
            apply StepOk.intro
            intro K hK
            have qy5 := hwi.1.k19
            go_simp
            apply hK
            · rfl
            · conv => (lhs; whnf)
            · exact hwi
          simp only [put_lit, put_none, List.set_cons_succ, List.set_cons_zero]
          apply Oblig.cons
          case h =>
            intro S w1 hwi hSi hd hcl
            apply StepOk.intro
            intro K hK
            have qy5 := hwi.1.k19
            go_simp
            apply hK
            · rfl
            · conv => (lhs; whnf)
            · exact hwi
          simp only [put_lit, put_none, List.set_cons_succ, List.set_cons_zero]
          apply Oblig.cons
          case h =>
            intro S w1 hwi hSi hd hcl
            apply StepOk.intro
            intro K hK
            have qy5 := hwi.1.k19
            go_simp
            apply hK
            · rfl
            · conv => (lhs; whnf)
            · exact hwi
          simp only [put_lit, put_none, List.set_cons_succ, List.set_cons_zero]
          apply Oblig.cons
          case h =>
            intro S w1 hwi hSi hd hcl
            apply StepOk.intro
            intro K hK
            have qy5 := hwi.1.k19
            go_simp
            apply hK
            · rfl
            · conv => (lhs; whnf)
            · exact hwi
          simp only [put_lit, put_none, List.set_cons_succ, List.set_cons_zero]
          apply Oblig.cons
          case h =>
            intro S w1 hwi hSi hd hcl
            apply StepOk.intro
            intro K hK
            have qy5 := hwi.1.k19
            go_simp
            apply hK
            · rfl
            · conv => (lhs; whnf)
            · exact hwi
          simp only [put_lit, put_none, List.set_cons_succ, List.set_cons_zero]
          apply Oblig.cons
          case h =>
            intro S w1 hwi hSi hd hcl
            apply StepOk.intro
            intro K hK
            have qy5 := hwi.1.k19
            go_simp
            apply hK
            · rfl
            · conv => (lhs; whnf)
            · exact hwi
          simp only [put_lit, put_none, List.set_cons_succ, List.set_cons_zero]
          apply Oblig.cons
          case h =>
            intro S w1 hwi hSi hd hcl
            apply StepOk.intro
            intro K hK
            have qy5 := hwi.1.k19
            go_simp
            apply hK
            · rfl
            · conv => (lhs; whnf)
            · exact hwi
          simp only [put_lit, put_none, List.set_cons_succ, List.set_cons_zero]
          apply Oblig.cons
          case h =>
            intro S w1 hwi hSi hd hcl
            apply StepOk.intro
            intro K hK
            have qy5 := hwi.1.k19
            go_simp
            apply hK
            · rfl
            · conv => (lhs; whnf)
            · exact hwi
          simp only [put_lit, put_none, List.set_cons_succ, List.set_cons_zero]
          apply Oblig.cons
          case h =>
            intro S w1 hwi hSi hd hcl
            apply StepOk.intro
            intro K hK
            have qy5 := hwi.1.k19
            go_simp
            apply hK
            · rfl
            · conv => (lhs; whnf)
            · exact hwi
          simp only [put_lit, put_none, List.set_cons_succ, List.set_cons_zero]
          apply Oblig.cons
          case h =>
            intro S w1 hwi hSi hd hcl
            apply StepOk.intro
            intro K hK
            have qy5 := hwi.1.k19
            go_simp
            apply hK
            · rfl
            · conv => (lhs; whnf)
            · exact hwi
          simp only [put_lit, put_none, List.set_cons_succ, List.set_cons_zero]
          apply Oblig.cons
          case h =>
            intro S w1 hwi hSi hd hcl
            apply StepOk.intro
            intro K hK
            have qy5 := hwi.1.k19
            go_simp
            apply hK
            · rfl
            · conv => (lhs; whnf)
            · exact hwi
          simp only [put_lit, put_none, List.set_cons_succ, List.set_cons_zero]
          apply Oblig.cons
          case h =>
            intro S w1 hwi hSi hd hcl
            apply StepOk.intro
            intro K hK
            have qy5 := hwi.1.k19
            go_simp
            apply hK
            · rfl
            · conv => (lhs; whnf)
            · exact hwi
          simp only [put_lit, put_none, List.set_cons_succ, List.set_cons_zero]
          apply Oblig.cons
          case h =>
            intro S w1 hwi hSi hd hcl
            apply StepOk.intro
            intro K hK
            have qy5 := hwi.1.k19
            go_simp
            refine (show Calls Try.prog 73 #[ptr m, i64 av, i64 saw, i64 (saw - n - extra)] w1 (fun e w2 => e = .returned (.bool false) ∧ RefPost B w1 m A lv (casW W av saw (saw - n - extra)) (L ++ [⟨3, av, saw, saw - n - extra, false⟩]) w2) from by have h := ref_CasN av saw (saw - n - extra) (hwi.2.1 hSi).1 (by omega) hW hL; rw [hcb] at h; exact h).mono ?_
            rintro e w2 ⟨rfl, hp⟩
            obtain ⟨Aq, cq, lvq, hq1, hq2, _⟩ := id hp
            have hblk := hq2.blk hwi.1 (ry_far (hwi.2.1 hSi).1 hwi.1)
            have hpp := hp.before (hwi.2.1 hSi).2
            apply hK
            · rfl
            · conv => (lhs; whnf)
            · exact ⟨hblk, fun h => by simp [upd] at h, fun _ => hpp⟩
          simp only [put_lit, put_none, List.set_cons_succ, List.set_cons_zero]
          apply Oblig.cons
          case h =>
            intro S w1 hwi hSi hd hcl
            apply StepOk.intro
            intro K hK
            have qy5 := hwi.1.k19
            go_simp
            apply hK
            · rfl
            · conv => (lhs; whnf)
            · exact hwi
          simp only [put_lit, put_none, List.set_cons_succ, List.set_cons_zero]
          exact Oblig.nil
        case h0 =>
          exact ⟨HY4.out.drew, fun _ => ⟨HM4.out.keep (Keep.refl (fun _ => False) _).drew (fun _ _ h => h), (Keep.refl _ _).drew⟩, fun h => by cases h⟩
        case hend =>
          intro S wx hwi hall
          obtain ⟨w3, rfl⟩ : ∃ w3 : World, w3 = wx := ⟨_, rfl⟩
          obtain ⟨A3, c3, lv3, hm, hk, ha, hl⟩ := hwi.2.2 (hall 20 (by decide))
          have HK3 := hid (HK4.out.trans (hk.mono (T := fun b => (b = m ∨ lv.ownBlock = some b) ∨ b = y) (fun _ h => Or.inl h)) (fun _ _ h => h))
          have HM3 := hid hm
          have HY3 := hid hwi.1
          have HA3 := hid (fun b h => (ha b h).imp id (fun h => Nat.le_trans HK4.out.size h))
          have HL3 := hid (fun b h => (hl b h).imp id (fun h => Nat.le_trans HK4.out.size h))
          have qy3 := HY3.out.k19
          clear hwi hall hm hk ha hl HK4 HM4 HY4
          go_wp2_with fail
          go_ret
          exact rpoolP_of2 (x' := _) (e' := _) HM3.out HK3.out HA3.out HL3.out HY3.out (((Keep.refl (fun k => k = y) w3)).set ⟨y, 11, none⟩ _ (fun _ => rfl)) ((HY3.out).set 11 _) (fun _ => rfl)
end
end Go.Proofs.Ytdjfeapncpcmgaa
