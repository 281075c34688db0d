/- breadlineref08: Step, stages 0, 4. -/
import Derived.Test.YtdjfeapncpcmgaaRefPool
namespace Go.Proofs.Ytdjfeapncpcmgaa
open Go.RowKit
set_option linter.unusedVariables false
set_option linter.unusedSimpArgs false
set_option maxRecDepth 100000
section
variable {B : Nat} {w : World} {m y : Nat} {A : Option Addr} {ca : Nat} {lv : Value} {av le : Nat} {t s g l r k nd n st X : Int} {PA : Option Addr} {pn pc : Nat} {LA : Option Addr} {ln lc : Nat}

set_option maxHeartbeats 4000000 in
theorem rpool_step0 (x : PS) (hm : RefAt B w m A ca lv x.W x.L) (hy : Blk w y 106 (rcs t s g l r k PA pn pc LA ln lc nd n st x x.extra)) (hi : PInv av le n l X x) (h0 : x.next = 0) (hX : X ≤ 4398046511104) (hL : x.L.length ≤ 1000000000) (hW : x.W.length ≤ 1000000) (hs0 : 1 ≤ s) (hs1 : s ≤ 8) (hv0 : 0 ≤ nd) (hv1 : nd ≤ 1000) (hu0 : 0 ≤ st) (hu1 : st ≤ 1000) (hav : (av : Int) = nd * (6 + 2 * s) + 1) (hle : (le : Int) = nd * (6 + 2 * s) + 2 + st) :
    Calls Try.prog 56 #[ptr y, ptr m] w (RPoolP B w m A lv y t s g l r k PA pn pc LA ln lc nd n st (pNext av le n l x)) := by
  obtain ⟨W, L, next, had, saw, extra, bad⟩ := x
  obtain ⟨la, ll, ne, n1, m1, wl, wa, nx, s1, s3, s4, s5, b⟩ := hi
  simp only at *
  subst h0
  obtain rfl : bad = false := by
    cases bad with
    | false => rfl
    | true => have := b rfl; omega
  have hy1 : Blk w y 106 [i64 t, i64 s, i64 g, i64 l, i64 r, i64 k, .slice PA pn pc, .slice LA ln lc, i64 nd, i64 n, i64 st, i64 (0), i64 (had), i64 (saw), i64 (extra), i64 0, i64 0, .bool false, i64 0] := hy
  have qy := hy1.k19
  have HY := hid hy1
  have HM := hid hm
  have HAV := hid hav
  have HLE := hid hle
  clear hy hy1 hm b nx hav hle
  
  by_cases c : n ≤ rd W le
  · have e : pNext av le n l ⟨W, L, 0, had, saw, extra, false⟩ = ⟨W, L ++ [⟨1, le, rd W le, 0, false⟩], 1, rd W le, saw, extra, false⟩ := by simp [pNext, c]
    rw [e]
    clear e
    go_enter Try.func56, Try.ntmps56
    go_wp2_with fail
    apply wp_region_text (WI := fun S wx => Keep0 w wx) (by kernel_rfl) (by kernel_rfl)
    case hob =>
      apply Oblig.cons
      case h =>
        intro S w1 hwi hSi hd hcl
        apply StepOk.intro
        intro K hK
        have qy3 := (hwi.blk HY.out (fun h => h)).k19
        go_simp
        apply hK
        · rfl
        · conv => (lhs; whnf)
        · exact hwi
      simp only [put_lit, put_none, List.set_cons_succ, List.set_cons_zero]
      apply Oblig.cons
      case h =>
        intro S w1 hwi hSi hd hcl
        apply StepOk.intro
        intro K hK
        have qy3 := (hwi.blk HY.out (fun h => h)).k19
        go_simp
        apply hK
        · rfl
        · conv => (lhs; whnf)
        · exact hwi
      simp only [put_lit, put_none, List.set_cons_succ, List.set_cons_zero]
      apply Oblig.cons
      case h =>
        intro S w1 hwi hSi hd hcl
        apply StepOk.intro
        intro K hK
        have qy3 := (hwi.blk HY.out (fun h => h)).k19
        go_simp
        apply hK
        · rfl
        · conv => (lhs; whnf)
        · exact hwi
      simp only [put_lit, put_none, List.set_cons_succ, List.set_cons_zero]
      apply Oblig.cons
      case h =>
        intro S w1 hwi hSi hd hcl
        apply StepOk.intro
        intro K hK
        have qy3 := (hwi.blk HY.out (fun h => h)).k19
        go_simp
        apply hK
        · rfl
        · conv => (lhs; whnf)
        · exact hwi
      simp only [put_lit, put_none, List.set_cons_succ, List.set_cons_zero]
      apply Oblig.cons
      case h =>
        intro S w1 hwi hSi hd hcl
        apply StepOk.intro
        intro K hK
        have qy3 := (hwi.blk HY.out (fun h => h)).k19
        go_simp
        apply hK
        · rfl
        · conv => (lhs; whnf)
        · exact hwi
      simp only [put_lit, put_none, List.set_cons_succ, List.set_cons_zero]
      apply Oblig.cons
      case h =>
        intro S w1 hwi hSi hd hcl
        apply StepOk.intro
        intro K hK
        have qy3 := (hwi.blk HY.out (fun h => h)).k19
        go_simp
        apply hK
        · rfl
        · conv => (lhs; whnf)
        · exact hwi
      simp only [put_lit, put_none, List.set_cons_succ, List.set_cons_zero]
      apply Oblig.cons
      case h =>
        intro S w1 hwi hSi hd hcl
        apply StepOk.intro
        intro K hK
        have qy3 := (hwi.blk HY.out (fun h => h)).k19
        go_simp
        apply hK
        · rfl
        · conv => (lhs; whnf)
        · exact hwi
      simp only [put_lit, put_none, List.set_cons_succ, List.set_cons_zero]
      apply Oblig.cons
      case h =>
        intro S w1 hwi hSi hd hcl
        apply StepOk.intro
        intro K hK
        have qy3 := (hwi.blk HY.out (fun h => h)).k19
        go_simp
        apply hK
        · rfl
        · conv => (lhs; whnf)
        · exact hwi
      simp only [put_lit, put_none, List.set_cons_succ, List.set_cons_zero]
      apply Oblig.cons
      case h =>
        intro S w1 hwi hSi hd hcl
        apply StepOk.intro
        intro K hK
        have qy3 := (hwi.blk HY.out (fun h => h)).k19
        go_simp
        apply hK
        · rfl
        · conv => (lhs; whnf)
        · exact hwi
      simp only [put_lit, put_none, List.set_cons_succ, List.set_cons_zero]
      apply Oblig.cons
      case h =>
        intro S w1 hwi hSi hd hcl
        apply StepOk.intro
        intro K hK
        have qy3 := (hwi.blk HY.out (fun h => h)).k19
        go_simp
        apply hK
        · rfl
        · conv => (lhs; whnf)
        · exact hwi
      simp only [put_lit, put_none, List.set_cons_succ, List.set_cons_zero]
      apply Oblig.cons
      case h =>
        intro S w1 hwi hSi hd hcl
        apply StepOk.intro
        intro K hK
        have qy3 := (hwi.blk HY.out (fun h => h)).k19
        go_simp
        apply hK
        · rfl
        · conv => (lhs; whnf)
        · exact hwi
      simp only [put_lit, put_none, List.set_cons_succ, List.set_cons_zero]
      apply Oblig.cons
      case h =>
        intro S w1 hwi hSi hd hcl
        apply StepOk.intro
        intro K hK
        have qy3 := (hwi.blk HY.out (fun h => h)).k19
        go_simp
        apply hK
        · rfl
        · conv => (lhs; whnf)
        · exact hwi
      simp only [put_lit, put_none, List.set_cons_succ, List.set_cons_zero]
      apply Oblig.cons
      case h =>
        intro S w1 hwi hSi hd hcl
        apply StepOk.intro
        intro K hK
        have qy3 := (hwi.blk HY.out (fun h => h)).k19
        go_simp
        refine (show Calls Try.prog 24 #[.agg #[i64 t, i64 s, i64 g, i64 l, i64 r, i64 k, .slice PA pn pc, .slice LA ln lc], i64 nd, i64 st] w1 (Ret (i64 le) w1) from by have h := ref_Lease t s g l r k PA pn pc LA ln lc nd st w1 hs0 hs1 hv0 hv1 hu0 hu1; rw [← HLE.out] at h; exact h).mono ?_
        rintro e w2 ⟨rfl, hk⟩
        apply hK
        · rfl
        · conv => (lhs; whnf)
        · exact Keep0.step hwi hk
      simp only [put_lit, put_none, List.set_cons_succ, List.set_cons_zero]
      apply Oblig.cons
      case h =>
        intro S w1 hwi hSi hd hcl
        apply StepOk.intro
        intro K hK
        have qy3 := (hwi.blk HY.out (fun h => h)).k19
        go_simp
        apply hK
        · rfl
        · conv => (lhs; whnf)
        · exact hwi
      simp only [put_lit, put_none, List.set_cons_succ, List.set_cons_zero]
      exact Oblig.nil
    case h0 =>
      exact (Keep.refl _ _).drew
    case hend =>
      intro S wx hwi hall
      obtain ⟨w1, rfl⟩ : ∃ w1 : World, w1 = wx := ⟨_, rfl⟩
      have HY1 := hid (hwi.blk HY.out (fun h => h))
      have HM1 := hid (HM.out.keep hwi (fun _ _ h => h))
      have HK1 := hid hwi
      have qy1 := HY1.out.k19
      clear hwi hall HY HM qy
      go_wp2_with fail
      apply wp_region_text (WI := fun S wx => Keep0 w1 wx) (by kernel_rfl) (by kernel_rfl)
      case hob =>
        apply Oblig.cons
        case h =>
          intro S w1 hwi hSi hd hcl
          apply StepOk.intro
          intro K hK
          have qy3 := (hwi.blk HY1.out (fun h => h)).k19
          go_simp
          apply hK
          · rfl
          · conv => (lhs; whnf)
          · exact hwi
        simp only [put_lit, put_none, List.set_cons_succ, List.set_cons_zero]
        apply Oblig.cons
        case h =>
          intro S w1 hwi hSi hd hcl
          apply StepOk.intro
          intro K hK
          have qy3 := (hwi.blk HY1.out (fun h => h)).k19
          go_simp
          apply hK
          · rfl
          · conv => (lhs; whnf)
          · exact hwi
        simp only [put_lit, put_none, List.set_cons_succ, List.set_cons_zero]
        apply Oblig.cons
        case h =>
          intro S w1 hwi hSi hd hcl
          apply StepOk.intro
          intro K hK
          have qy3 := (hwi.blk HY1.out (fun h => h)).k19
          go_simp
          apply hK
          · rfl
          · conv => (lhs; whnf)
          · exact hwi
        simp only [put_lit, put_none, List.set_cons_succ, List.set_cons_zero]
        apply Oblig.cons
        case h =>
          intro S w1 hwi hSi hd hcl
          apply StepOk.intro
          intro K hK
          have qy3 := (hwi.blk HY1.out (fun h => h)).k19
          go_simp
          apply hK
          · rfl
          · conv => (lhs; whnf)
          · exact hwi
        simp only [put_lit, put_none, List.set_cons_succ, List.set_cons_zero]
        apply Oblig.cons
        case h =>
          intro S w1 hwi hSi hd hcl
          apply StepOk.intro
          intro K hK
          have qy3 := (hwi.blk HY1.out (fun h => h)).k19
          go_simp
          apply hK
          · rfl
          · conv => (lhs; whnf)
          · exact hwi
        simp only [put_lit, put_none, List.set_cons_succ, List.set_cons_zero]
        apply Oblig.cons
        case h =>
          intro S w1 hwi hSi hd hcl
          apply StepOk.intro
          intro K hK
          have qy3 := (hwi.blk HY1.out (fun h => h)).k19
          go_simp
          apply hK
          · rfl
          · conv => (lhs; whnf)
          · exact hwi
        simp only [put_lit, put_none, List.set_cons_succ, List.set_cons_zero]
        apply Oblig.cons
        case h =>
          intro S w1 hwi hSi hd hcl
          apply StepOk.intro
          intro K hK
          have qy3 := (hwi.blk HY1.out (fun h => h)).k19
          go_simp
          apply hK
          · rfl
          · conv => (lhs; whnf)
          · exact hwi
        simp only [put_lit, put_none, List.set_cons_succ, List.set_cons_zero]
        apply Oblig.cons
        case h =>
          intro S w1 hwi hSi hd hcl
          apply StepOk.intro
          intro K hK
          have qy3 := (hwi.blk HY1.out (fun h => h)).k19
          go_simp
          apply hK
          · rfl
          · conv => (lhs; whnf)
          · exact hwi
        simp only [put_lit, put_none, List.set_cons_succ, List.set_cons_zero]
        apply Oblig.cons
        case h =>
          intro S w1 hwi hSi hd hcl
          apply StepOk.intro
          intro K hK
          have qy3 := (hwi.blk HY1.out (fun h => h)).k19
          go_simp
          refine (show Calls Try.prog 25 #[.agg #[i64 t, i64 s, i64 g, i64 l, i64 r, i64 k, .slice PA pn pc, .slice LA ln lc], i64 nd] w1 (Ret (i64 av) w1) from by have h := ref_Avail t s g l r k PA pn pc LA ln lc nd w1 hs0 hs1 hv0 hv1; rw [← HAV.out] at h; exact h).mono ?_
          rintro e w2 ⟨rfl, hk⟩
          apply hK
          · rfl
          · conv => (lhs; whnf)
          · exact Keep0.step hwi hk
        simp only [put_lit, put_none, List.set_cons_succ, List.set_cons_zero]
        apply Oblig.cons
        case h =>
          intro S w1 hwi hSi hd hcl
          apply StepOk.intro
          intro K hK
          have qy3 := (hwi.blk HY1.out (fun h => h)).k19
          go_simp
          apply hK
          · rfl
          · conv => (lhs; whnf)
          · exact hwi
        simp only [put_lit, put_none, List.set_cons_succ, List.set_cons_zero]
        exact Oblig.nil
      case h0 =>
        exact (Keep.refl _ _).drew
      case hend =>
        intro S wx hwi hall
        obtain ⟨w2, rfl⟩ : ∃ w2 : World, w2 = wx := ⟨_, rfl⟩
        have HY2 := hid (hwi.blk HY1.out (fun h => h))
        have HM2 := hid (HM1.out.keep hwi (fun _ _ h => h))
        have HK2 := hid (HK1.out.trans hwi (fun _ _ h => h))
        have qy2 := HY2.out.k19
        clear hwi hall HY1 HM1 HK1 qy1
        go_wp2_with fail
        refine (ref_LoadN le HM2.out (by omega) hL).mono ?_
        rintro e w3 ⟨rfl, A3, c3, lv3, hm, hk, ha, hl⟩
        have hb := hk.blk HY2.out (ry_far HM2.out HY2.out)
        have HK3 := hid ((HK2.out.mono (T := fun b => b = m ∨ lv.ownBlock = some b) (fun _ h => h.elim)).trans hk (fun _ _ h => h))
        have HM3 := hid hm
        have HY3 := hid hb
        have HA3 := hid (fun b h => (ha b h).imp id (fun h => Nat.le_trans HK2.out.size h))
        have HL3 := hid (fun b h => (hl b h).imp id (fun h => Nat.le_trans HK2.out.size h))
        have qy3 := hb.k19
        clear hm hk ha hl hb HK2 HM2 HY2 qy2
        go_wp2_with fail
        have HY4 := hid (show Blk (((w3).setCell ⟨y, 12, none⟩ (i64 (rd W le))).setCell ⟨y, 11, none⟩ (i64 (2))) y 106 [i64 t, i64 s, i64 g, i64 l, i64 r, i64 k, .slice PA pn pc, .slice LA ln lc, i64 nd, i64 n, i64 st, i64 (2), i64 (rd W le), i64 (saw), i64 (extra), i64 0, i64 0, .bool false, i64 0] from (((HY3.out).set 12 _).set 11 _))
        have HKY4 := hid (show Keep (fun k => k = y) w3 (((w3).setCell ⟨y, 12, none⟩ (i64 (rd W le))).setCell ⟨y, 11, none⟩ (i64 (2))) from ((((Keep.refl (fun k => k = y) w3)).set ⟨y, 12, none⟩ _ (fun _ => rfl)).set ⟨y, 11, none⟩ _ (fun _ => rfl)))
        clear qy3
        generalize ((w3).setCell ⟨y, 12, none⟩ (i64 (rd W le))).setCell ⟨y, 11, none⟩ (i64 (2)) = w4 at *
        have qy4 := HY4.out.k19
        go_region
        go_wp2_with fail
        go_ret
        exact rpoolP_of (x' := _) (e' := _) HM3.out HK3.out HA3.out HL3.out HY3.out (HKY4.out.trans ((((Keep.refl (fun k => k = y) w4)).drew).set ⟨y, 11, none⟩ _ (fun _ => rfl)) (fun _ _ h => h)) (((HY4.out).drew).set 11 _) (fun _ => rfl)
  · have e : pNext av le n l ⟨W, L, 0, had, saw, extra, false⟩ = ⟨W, L ++ [⟨1, le, rd W le, 0, false⟩], 2, rd W le, saw, extra, false⟩ := by simp [pNext, c]
    rw [e]
    clear e
    go_enter Try.func56, Try.ntmps56
    go_wp2_with fail
    apply wp_region_text (WI := fun S wx => Keep0 w wx) (by kernel_rfl) (by kernel_rfl)
    case hob =>
      apply Oblig.cons
      case h =>
        intro S w1 hwi hSi hd hcl
        apply StepOk.intro
        intro K hK
        have qy3 := (hwi.blk HY.out (fun h => h)).k19
        go_simp
        apply hK
        · rfl
        · conv => (lhs; whnf)
        · exact hwi
      simp only [put_lit, put_none, List.set_cons_succ, List.set_cons_zero]
      apply Oblig.cons
      case h =>
        intro S w1 hwi hSi hd hcl
        apply StepOk.intro
        intro K hK
        have qy3 := (hwi.blk HY.out (fun h => h)).k19
        go_simp
        apply hK
        · rfl
        · conv => (lhs; whnf)
        · exact hwi
      simp only [put_lit, put_none, List.set_cons_succ, List.set_cons_zero]
      apply Oblig.cons
      case h =>
        intro S w1 hwi hSi hd hcl
        apply StepOk.intro
        intro K hK
        have qy3 := (hwi.blk HY.out (fun h => h)).k19
        go_simp
        apply hK
        · rfl
        · conv => (lhs; whnf)
        · exact hwi
      simp only [put_lit, put_none, List.set_cons_succ, List.set_cons_zero]
      apply Oblig.cons
      case h =>
        intro S w1 hwi hSi hd hcl
        apply StepOk.intro
        intro K hK
        have qy3 := (hwi.blk HY.out (fun h => h)).k19
        go_simp
        apply hK
        · rfl
        · conv => (lhs; whnf)
        · exact hwi
      simp only [put_lit, put_none, List.set_cons_succ, List.set_cons_zero]
      apply Oblig.cons
      case h =>
        intro S w1 hwi hSi hd hcl
        apply StepOk.intro
        intro K hK
        have qy3 := (hwi.blk HY.out (fun h => h)).k19
        go_simp
        apply hK
        · rfl
        · conv => (lhs; whnf)
        · exact hwi
      simp only [put_lit, put_none, List.set_cons_succ, List.set_cons_zero]
      apply Oblig.cons
      case h =>
        intro S w1 hwi hSi hd hcl
        apply StepOk.intro
        intro K hK
        have qy3 := (hwi.blk HY.out (fun h => h)).k19
        go_simp
        apply hK
        · rfl
        · conv => (lhs; whnf)
        · exact hwi
      simp only [put_lit, put_none, List.set_cons_succ, List.set_cons_zero]
      apply Oblig.cons
      case h =>
        intro S w1 hwi hSi hd hcl
        apply StepOk.intro
        intro K hK
        have qy3 := (hwi.blk HY.out (fun h => h)).k19
        go_simp
        apply hK
        · rfl
        · conv => (lhs; whnf)
        · exact hwi
      simp only [put_lit, put_none, List.set_cons_succ, List.set_cons_zero]
      apply Oblig.cons
      case h =>
        intro S w1 hwi hSi hd hcl
        apply StepOk.intro
        intro K hK
        have qy3 := (hwi.blk HY.out (fun h => h)).k19
        go_simp
        apply hK
        · rfl
        · conv => (lhs; whnf)
        · exact hwi
      simp only [put_lit, put_none, List.set_cons_succ, List.set_cons_zero]
      apply Oblig.cons
      case h =>
        intro S w1 hwi hSi hd hcl
        apply StepOk.intro
        intro K hK
        have qy3 := (hwi.blk HY.out (fun h => h)).k19
        go_simp
        apply hK
        · rfl
        · conv => (lhs; whnf)
        · exact hwi
      simp only [put_lit, put_none, List.set_cons_succ, List.set_cons_zero]
      apply Oblig.cons
      case h =>
        intro S w1 hwi hSi hd hcl
        apply StepOk.intro
        intro K hK
        have qy3 := (hwi.blk HY.out (fun h => h)).k19
        go_simp
        apply hK
        · rfl
        · conv => (lhs; whnf)
        · exact hwi
      simp only [put_lit, put_none, List.set_cons_succ, List.set_cons_zero]
      apply Oblig.cons
      case h =>
        intro S w1 hwi hSi hd hcl
        apply StepOk.intro
        intro K hK
        have qy3 := (hwi.blk HY.out (fun h => h)).k19
        go_simp
        apply hK
        · rfl
        · conv => (lhs; whnf)
        · exact hwi
      simp only [put_lit, put_none, List.set_cons_succ, List.set_cons_zero]
      apply Oblig.cons
      case h =>
        intro S w1 hwi hSi hd hcl
        apply StepOk.intro
        intro K hK
        have qy3 := (hwi.blk HY.out (fun h => h)).k19
        go_simp
        apply hK
        · rfl
        · conv => (lhs; whnf)
        · exact hwi
      simp only [put_lit, put_none, List.set_cons_succ, List.set_cons_zero]
      apply Oblig.cons
      case h =>
        intro S w1 hwi hSi hd hcl
        apply StepOk.intro
        intro K hK
        have qy3 := (hwi.blk HY.out (fun h => h)).k19
        go_simp
        refine (show Calls Try.prog 24 #[.agg #[i64 t, i64 s, i64 g, i64 l, i64 r, i64 k, .slice PA pn pc, .slice LA ln lc], i64 nd, i64 st] w1 (Ret (i64 le) w1) from by have h := ref_Lease t s g l r k PA pn pc LA ln lc nd st w1 hs0 hs1 hv0 hv1 hu0 hu1; rw [← HLE.out] at h; exact h).mono ?_
        rintro e w2 ⟨rfl, hk⟩
        apply hK
        · rfl
        · conv => (lhs; whnf)
        · exact Keep0.step hwi hk
      simp only [put_lit, put_none, List.set_cons_succ, List.set_cons_zero]
      apply Oblig.cons
      case h =>
        intro S w1 hwi hSi hd hcl
        apply StepOk.intro
        intro K hK
        have qy3 := (hwi.blk HY.out (fun h => h)).k19
        go_simp
        apply hK
        · rfl
        · conv => (lhs; whnf)
        · exact hwi
      simp only [put_lit, put_none, List.set_cons_succ, List.set_cons_zero]
      exact Oblig.nil
    case h0 =>
      exact (Keep.refl _ _).drew
    case hend =>
      intro S wx hwi hall
      obtain ⟨w1, rfl⟩ : ∃ w1 : World, w1 = wx := ⟨_, rfl⟩
      have HY1 := hid (hwi.blk HY.out (fun h => h))
      have HM1 := hid (HM.out.keep hwi (fun _ _ h => h))
      have HK1 := hid hwi
      have qy1 := HY1.out.k19
      clear hwi hall HY HM qy
      go_wp2_with fail
      apply wp_region_text (WI := fun S wx => Keep0 w1 wx) (by kernel_rfl) (by kernel_rfl)
      case hob =>
        apply Oblig.cons
        case h =>
          intro S w1 hwi hSi hd hcl
          apply StepOk.intro
          intro K hK
          have qy3 := (hwi.blk HY1.out (fun h => h)).k19
          go_simp
          apply hK
          · rfl
          · conv => (lhs; whnf)
          · exact hwi
        simp only [put_lit, put_none, List.set_cons_succ, List.set_cons_zero]
        apply Oblig.cons
        case h =>
          intro S w1 hwi hSi hd hcl
          apply StepOk.intro
          intro K hK
          have qy3 := (hwi.blk HY1.out (fun h => h)).k19
          go_simp
          apply hK
          · rfl
          · conv => (lhs; whnf)
          · exact hwi
        simp only [put_lit, put_none, List.set_cons_succ, List.set_cons_zero]
        apply Oblig.cons
        case h =>
          intro S w1 hwi hSi hd hcl
          apply StepOk.intro
          intro K hK
          have qy3 := (hwi.blk HY1.out (fun h => h)).k19
          go_simp
          apply hK
          · rfl
          · conv => (lhs; whnf)
          · exact hwi
        simp only [put_lit, put_none, List.set_cons_succ, List.set_cons_zero]
        apply Oblig.cons
        case h =>
          intro S w1 hwi hSi hd hcl
          apply StepOk.intro
          intro K hK
          have qy3 := (hwi.blk HY1.out (fun h => h)).k19
          go_simp
          apply hK
          · rfl
          · conv => (lhs; whnf)
          · exact hwi
        simp only [put_lit, put_none, List.set_cons_succ, List.set_cons_zero]
        apply Oblig.cons
        case h =>
          intro S w1 hwi hSi hd hcl
          apply StepOk.intro
          intro K hK
          have qy3 := (hwi.blk HY1.out (fun h => h)).k19
          go_simp
          apply hK
          · rfl
          · conv => (lhs; whnf)
          · exact hwi
        simp only [put_lit, put_none, List.set_cons_succ, List.set_cons_zero]
        apply Oblig.cons
        case h =>
          intro S w1 hwi hSi hd hcl
          apply StepOk.intro
          intro K hK
          have qy3 := (hwi.blk HY1.out (fun h => h)).k19
          go_simp
          apply hK
          · rfl
          · conv => (lhs; whnf)
          · exact hwi
        simp only [put_lit, put_none, List.set_cons_succ, List.set_cons_zero]
        apply Oblig.cons
        case h =>
          intro S w1 hwi hSi hd hcl
          apply StepOk.intro
          intro K hK
          have qy3 := (hwi.blk HY1.out (fun h => h)).k19
          go_simp
          apply hK
          · rfl
          · conv => (lhs; whnf)
          · exact hwi
        simp only [put_lit, put_none, List.set_cons_succ, List.set_cons_zero]
        apply Oblig.cons
        case h =>
          intro S w1 hwi hSi hd hcl
          apply StepOk.intro
          intro K hK
          have qy3 := (hwi.blk HY1.out (fun h => h)).k19
          go_simp
          apply hK
          · rfl
          · conv => (lhs; whnf)
          · exact hwi
        simp only [put_lit, put_none, List.set_cons_succ, List.set_cons_zero]
        apply Oblig.cons
        case h =>
          intro S w1 hwi hSi hd hcl
          apply StepOk.intro
          intro K hK
          have qy3 := (hwi.blk HY1.out (fun h => h)).k19
          go_simp
          refine (show Calls Try.prog 25 #[.agg #[i64 t, i64 s, i64 g, i64 l, i64 r, i64 k, .slice PA pn pc, .slice LA ln lc], i64 nd] w1 (Ret (i64 av) w1) from by have h := ref_Avail t s g l r k PA pn pc LA ln lc nd w1 hs0 hs1 hv0 hv1; rw [← HAV.out] at h; exact h).mono ?_
          rintro e w2 ⟨rfl, hk⟩
          apply hK
          · rfl
          · conv => (lhs; whnf)
          · exact Keep0.step hwi hk
        simp only [put_lit, put_none, List.set_cons_succ, List.set_cons_zero]
        apply Oblig.cons
        case h =>
          intro S w1 hwi hSi hd hcl
          apply StepOk.intro
          intro K hK
          have qy3 := (hwi.blk HY1.out (fun h => h)).k19
          go_simp
          apply hK
          · rfl
          · conv => (lhs; whnf)
          · exact hwi
        simp only [put_lit, put_none, List.set_cons_succ, List.set_cons_zero]
        exact Oblig.nil
      case h0 =>
        exact (Keep.refl _ _).drew
      case hend =>
        intro S wx hwi hall
        obtain ⟨w2, rfl⟩ : ∃ w2 : World, w2 = wx := ⟨_, rfl⟩
        have HY2 := hid (hwi.blk HY1.out (fun h => h))
        have HM2 := hid (HM1.out.keep hwi (fun _ _ h => h))
        have HK2 := hid (HK1.out.trans hwi (fun _ _ h => h))
        have qy2 := HY2.out.k19
        clear hwi hall HY1 HM1 HK1 qy1
        go_wp2_with fail
        refine (ref_LoadN le HM2.out (by omega) hL).mono ?_
        rintro e w3 ⟨rfl, A3, c3, lv3, hm, hk, ha, hl⟩
        have hb := hk.blk HY2.out (ry_far HM2.out HY2.out)
        have HK3 := hid ((HK2.out.mono (T := fun b => b = m ∨ lv.ownBlock = some b) (fun _ h => h.elim)).trans hk (fun _ _ h => h))
        have HM3 := hid hm
        have HY3 := hid hb
        have HA3 := hid (fun b h => (ha b h).imp id (fun h => Nat.le_trans HK2.out.size h))
        have HL3 := hid (fun b h => (hl b h).imp id (fun h => Nat.le_trans HK2.out.size h))
        have qy3 := hb.k19
        clear hm hk ha hl hb HK2 HM2 HY2 qy2
        go_wp2_with fail
        have HY4 := hid (show Blk (((w3).setCell ⟨y, 12, none⟩ (i64 (rd W le))).setCell ⟨y, 11, none⟩ (i64 (2))) y 106 [i64 t, i64 s, i64 g, i64 l, i64 r, i64 k, .slice PA pn pc, .slice LA ln lc, i64 nd, i64 n, i64 st, i64 (2), i64 (rd W le), i64 (saw), i64 (extra), i64 0, i64 0, .bool false, i64 0] from (((HY3.out).set 12 _).set 11 _))
        have HKY4 := hid (show Keep (fun k => k = y) w3 (((w3).setCell ⟨y, 12, none⟩ (i64 (rd W le))).setCell ⟨y, 11, none⟩ (i64 (2))) from ((((Keep.refl (fun k => k = y) w3)).set ⟨y, 12, none⟩ _ (fun _ => rfl)).set ⟨y, 11, none⟩ _ (fun _ => rfl)))
        clear qy3
        generalize ((w3).setCell ⟨y, 12, none⟩ (i64 (rd W le))).setCell ⟨y, 11, none⟩ (i64 (2)) = w4 at *
        have qy4 := HY4.out.k19
        go_region
        go_wp2_with fail
        go_ret
        exact rpoolP_of (x' := _) (e' := _) HM3.out HK3.out HA3.out HL3.out HY3.out (HKY4.out.trans (((Keep.refl (fun k => k = y) w4)).drew) (fun _ _ h => h)) ((HY4.out).drew) (fun _ => rfl)

set_option maxHeartbeats 4000000 in
theorem rpool_step4 (x : PS) (hm : RefAt B w m A ca lv x.W x.L) (hy : Blk w y 106 (rcs t s g l r k PA pn pc LA ln lc nd n st x x.extra)) (hi : PInv av le n l X x) (h0 : x.next = 4) (hX : X ≤ 4398046511104) (hL : x.L.length ≤ 1000000000) (hW : x.W.length ≤ 1000000) (hs0 : 1 ≤ s) (hs1 : s ≤ 8) (hv0 : 0 ≤ nd) (hv1 : nd ≤ 1000) (hu0 : 0 ≤ st) (hu1 : st ≤ 1000) (hav : (av : Int) = nd * (6 + 2 * s) + 1) (hle : (le : Int) = nd * (6 + 2 * s) + 2 + st) :
    Calls Try.prog 56 #[ptr y, ptr m] w (RPoolP B w m A lv y t s g l r k PA pn pc LA ln lc nd n st (pNext av le n l x)) := by
  obtain ⟨W, L, next, had, saw, extra, bad⟩ := x
  obtain ⟨la, ll, ne, n1, m1, wl, wa, nx, s1, s3, s4, s5, b⟩ := hi
  simp only at *
  subst h0
  obtain rfl : bad = false := by
    cases bad with
    | false => rfl
    | true => have := b rfl; omega
  have hy1 : Blk w y 106 [i64 t, i64 s, i64 g, i64 l, i64 r, i64 k, .slice PA pn pc, .slice LA ln lc, i64 nd, i64 n, i64 st, i64 (4), i64 (had), i64 (saw), i64 (extra), i64 0, i64 0, .bool false, i64 0] := hy
  have qy := hy1.k19
  have HY := hid hy1
  have HM := hid hm
  have HAV := hid hav
  have HLE := hid hle
  clear hy hy1 hm b nx hav hle
  have hx := s4 (Or.inl rfl)
  have hyy : IntKind.i64.wrap (rd W le + extra) = rd W le + extra := IntWalk.i64_in _ (by omega)
  clear s4
  by_cases c : rd W le + extra ≤ l
  · have e : pNext av le n l ⟨W, L, 4, had, saw, extra, false⟩ = ⟨W, L ++ [⟨1, le, rd W le, 0, false⟩], 5, rd W le, saw, extra, false⟩ := by simp [pNext, c]
    rw [e]
    clear e
    go_enter Try.func56, Try.ntmps56
    go_wp2_with fail
    apply wp_region_text (WI := fun S wx => Keep0 w wx) (by kernel_rfl) (by kernel_rfl)
    case hob =>
      apply Oblig.cons
      case h =>
        intro S w1 hwi hSi hd hcl
        apply StepOk.intro
        intro K hK
        have qy3 := (hwi.blk HY.out (fun h => h)).k19
        go_simp
        apply hK
        · rfl
        · conv => (lhs; whnf)
        · exact hwi
      simp only [put_lit, put_none, List.set_cons_succ, List.set_cons_zero]
      apply Oblig.cons
      case h =>
        intro S w1 hwi hSi hd hcl
        apply StepOk.intro
        intro K hK
        have qy3 := (hwi.blk HY.out (fun h => h)).k19
        go_simp
        apply hK
        · rfl
        · conv => (lhs; whnf)
        · exact hwi
      simp only [put_lit, put_none, List.set_cons_succ, List.set_cons_zero]
      apply Oblig.cons
      case h =>
        intro S w1 hwi hSi hd hcl
        apply StepOk.intro
        intro K hK
        have qy3 := (hwi.blk HY.out (fun h => h)).k19
        go_simp
        apply hK
        · rfl
        · conv => (lhs; whnf)
        · exact hwi
      simp only [put_lit, put_none, List.set_cons_succ, List.set_cons_zero]
      apply Oblig.cons
      case h =>
        intro S w1 hwi hSi hd hcl
        apply StepOk.intro
        intro K hK
        have qy3 := (hwi.blk HY.out (fun h => h)).k19
        go_simp
        apply hK
        · rfl
        · conv => (lhs; whnf)
        · exact hwi
      simp only [put_lit, put_none, List.set_cons_succ, List.set_cons_zero]
      apply Oblig.cons
      case h =>
        intro S w1 hwi hSi hd hcl
        apply StepOk.intro
        intro K hK
        have qy3 := (hwi.blk HY.out (fun h => h)).k19
        go_simp
        apply hK
        · rfl
        · conv => (lhs; whnf)
        · exact hwi
      simp only [put_lit, put_none, List.set_cons_succ, List.set_cons_zero]
      apply Oblig.cons
      case h =>
        intro S w1 hwi hSi hd hcl
        apply StepOk.intro
        intro K hK
        have qy3 := (hwi.blk HY.out (fun h => h)).k19
        go_simp
        apply hK
        · rfl
        · conv => (lhs; whnf)
        · exact hwi
      simp only [put_lit, put_none, List.set_cons_succ, List.set_cons_zero]
      apply Oblig.cons
      case h =>
        intro S w1 hwi hSi hd hcl
        apply StepOk.intro
        intro K hK
        have qy3 := (hwi.blk HY.out (fun h => h)).k19
        go_simp
        apply hK
        · rfl
        · conv => (lhs; whnf)
        · exact hwi
      simp only [put_lit, put_none, List.set_cons_succ, List.set_cons_zero]
      apply Oblig.cons
      case h =>
        intro S w1 hwi hSi hd hcl
        apply StepOk.intro
        intro K hK
        have qy3 := (hwi.blk HY.out (fun h => h)).k19
        go_simp
        apply hK
        · rfl
        · conv => (lhs; whnf)
        · exact hwi
      simp only [put_lit, put_none, List.set_cons_succ, List.set_cons_zero]
      apply Oblig.cons
      case h =>
        intro S w1 hwi hSi hd hcl
        apply StepOk.intro
        intro K hK
        have qy3 := (hwi.blk HY.out (fun h => h)).k19
        go_simp
        apply hK
        · rfl
        · conv => (lhs; whnf)
        · exact hwi
      simp only [put_lit, put_none, List.set_cons_succ, List.set_cons_zero]
      apply Oblig.cons
      case h =>
        intro S w1 hwi hSi hd hcl
        apply StepOk.intro
        intro K hK
        have qy3 := (hwi.blk HY.out (fun h => h)).k19
        go_simp
        apply hK
        · rfl
        · conv => (lhs; whnf)
        · exact hwi
      simp only [put_lit, put_none, List.set_cons_succ, List.set_cons_zero]
      apply Oblig.cons
      case h =>
        intro S w1 hwi hSi hd hcl
        apply StepOk.intro
        intro K hK
        have qy3 := (hwi.blk HY.out (fun h => h)).k19
        go_simp
        apply hK
        · rfl
        · conv => (lhs; whnf)
        · exact hwi
      simp only [put_lit, put_none, List.set_cons_succ, List.set_cons_zero]
      apply Oblig.cons
      case h =>
        intro S w1 hwi hSi hd hcl
        apply StepOk.intro
        intro K hK
        have qy3 := (hwi.blk HY.out (fun h => h)).k19
        go_simp
        apply hK
        · rfl
        · conv => (lhs; whnf)
        · exact hwi
      simp only [put_lit, put_none, List.set_cons_succ, List.set_cons_zero]
      apply Oblig.cons
      case h =>
        intro S w1 hwi hSi hd hcl
        apply StepOk.intro
        intro K hK
        have qy3 := (hwi.blk HY.out (fun h => h)).k19
        go_simp
        refine (show Calls Try.prog 24 #[.agg #[i64 t, i64 s, i64 g, i64 l, i64 r, i64 k, .slice PA pn pc, .slice LA ln lc], i64 nd, i64 st] w1 (Ret (i64 le) w1) from by have h := ref_Lease t s g l r k PA pn pc LA ln lc nd st w1 hs0 hs1 hv0 hv1 hu0 hu1; rw [← HLE.out] at h; exact h).mono ?_
        rintro e w2 ⟨rfl, hk⟩
        apply hK
        · rfl
        · conv => (lhs; whnf)
        · exact Keep0.step hwi hk
      simp only [put_lit, put_none, List.set_cons_succ, List.set_cons_zero]
      apply Oblig.cons
      case h =>
        intro S w1 hwi hSi hd hcl
        apply StepOk.intro
        intro K hK
        have qy3 := (hwi.blk HY.out (fun h => h)).k19
        go_simp
        apply hK
        · rfl
        · conv => (lhs; whnf)
        · exact hwi
      simp only [put_lit, put_none, List.set_cons_succ, List.set_cons_zero]
      exact Oblig.nil
    case h0 =>
      exact (Keep.refl _ _).drew
    case hend =>
      intro S wx hwi hall
      obtain ⟨w1, rfl⟩ : ∃ w1 : World, w1 = wx := ⟨_, rfl⟩
      have HY1 := hid (hwi.blk HY.out (fun h => h))
      have HM1 := hid (HM.out.keep hwi (fun _ _ h => h))
      have HK1 := hid hwi
      have qy1 := HY1.out.k19
      clear hwi hall HY HM qy
      go_wp2_with fail
      apply wp_region_text (WI := fun S wx => Keep0 w1 wx) (by kernel_rfl) (by kernel_rfl)
      case hob =>
        apply Oblig.cons
        case h =>
          intro S w1 hwi hSi hd hcl
          apply StepOk.intro
          intro K hK
          have qy3 := (hwi.blk HY1.out (fun h => h)).k19
          go_simp
          apply hK
          · rfl
          · conv => (lhs; whnf)
          · exact hwi
        simp only [put_lit, put_none, List.set_cons_succ, List.set_cons_zero]
        apply Oblig.cons
        case h =>
          intro S w1 hwi hSi hd hcl
          apply StepOk.intro
          intro K hK
          have qy3 := (hwi.blk HY1.out (fun h => h)).k19
          go_simp
          apply hK
          · rfl
          · conv => (lhs; whnf)
          · exact hwi
        simp only [put_lit, put_none, List.set_cons_succ, List.set_cons_zero]
        apply Oblig.cons
        case h =>
          intro S w1 hwi hSi hd hcl
          apply StepOk.intro
          intro K hK
          have qy3 := (hwi.blk HY1.out (fun h => h)).k19
          go_simp
          apply hK
          · rfl
          · conv => (lhs; whnf)
          · exact hwi
        simp only [put_lit, put_none, List.set_cons_succ, List.set_cons_zero]
        apply Oblig.cons
        case h =>
          intro S w1 hwi hSi hd hcl
          apply StepOk.intro
          intro K hK
          have qy3 := (hwi.blk HY1.out (fun h => h)).k19
          go_simp
          apply hK
          · rfl
          · conv => (lhs; whnf)
          · exact hwi
        simp only [put_lit, put_none, List.set_cons_succ, List.set_cons_zero]
        apply Oblig.cons
        case h =>
          intro S w1 hwi hSi hd hcl
          apply StepOk.intro
          intro K hK
          have qy3 := (hwi.blk HY1.out (fun h => h)).k19
          go_simp
          apply hK
          · rfl
          · conv => (lhs; whnf)
          · exact hwi
        simp only [put_lit, put_none, List.set_cons_succ, List.set_cons_zero]
        apply Oblig.cons
        case h =>
          intro S w1 hwi hSi hd hcl
          apply StepOk.intro
          intro K hK
          have qy3 := (hwi.blk HY1.out (fun h => h)).k19
          go_simp
          apply hK
          · rfl
          · conv => (lhs; whnf)
          · exact hwi
        simp only [put_lit, put_none, List.set_cons_succ, List.set_cons_zero]
        apply Oblig.cons
        case h =>
          intro S w1 hwi hSi hd hcl
          apply StepOk.intro
          intro K hK
          have qy3 := (hwi.blk HY1.out (fun h => h)).k19
          go_simp
          apply hK
          · rfl
          · conv => (lhs; whnf)
          · exact hwi
        simp only [put_lit, put_none, List.set_cons_succ, List.set_cons_zero]
        apply Oblig.cons
        case h =>
          intro S w1 hwi hSi hd hcl
          apply StepOk.intro
          intro K hK
          have qy3 := (hwi.blk HY1.out (fun h => h)).k19
          go_simp
          apply hK
          · rfl
          · conv => (lhs; whnf)
          · exact hwi
        simp only [put_lit, put_none, List.set_cons_succ, List.set_cons_zero]
        apply Oblig.cons
        case h =>
          intro S w1 hwi hSi hd hcl
          apply StepOk.intro
          intro K hK
          have qy3 := (hwi.blk HY1.out (fun h => h)).k19
          go_simp
          refine (show Calls Try.prog 25 #[.agg #[i64 t, i64 s, i64 g, i64 l, i64 r, i64 k, .slice PA pn pc, .slice LA ln lc], i64 nd] w1 (Ret (i64 av) w1) from by have h := ref_Avail t s g l r k PA pn pc LA ln lc nd w1 hs0 hs1 hv0 hv1; rw [← HAV.out] at h; exact h).mono ?_
          rintro e w2 ⟨rfl, hk⟩
          apply hK
          · rfl
          · conv => (lhs; whnf)
          · exact Keep0.step hwi hk
        simp only [put_lit, put_none, List.set_cons_succ, List.set_cons_zero]
        apply Oblig.cons
        case h =>
          intro S w1 hwi hSi hd hcl
          apply StepOk.intro
          intro K hK
          have qy3 := (hwi.blk HY1.out (fun h => h)).k19
          go_simp
          apply hK
          · rfl
          · conv => (lhs; whnf)
          · exact hwi
        simp only [put_lit, put_none, List.set_cons_succ, List.set_cons_zero]
        exact Oblig.nil
      case h0 =>
        exact (Keep.refl _ _).drew
      case hend =>
        intro S wx hwi hall
        obtain ⟨w2, rfl⟩ : ∃ w2 : World, w2 = wx := ⟨_, rfl⟩
        have HY2 := hid (hwi.blk HY1.out (fun h => h))
        have HM2 := hid (HM1.out.keep hwi (fun _ _ h => h))
        have HK2 := hid (HK1.out.trans hwi (fun _ _ h => h))
        have qy2 := HY2.out.k19
        clear hwi hall HY1 HM1 HK1 qy1
        go_wp2_with fail
        refine (ref_LoadN le HM2.out (by omega) hL).mono ?_
        rintro e w3 ⟨rfl, A3, c3, lv3, hm, hk, ha, hl⟩
        have hb := hk.blk HY2.out (ry_far HM2.out HY2.out)
        have HK3 := hid ((HK2.out.mono (T := fun b => b = m ∨ lv.ownBlock = some b) (fun _ h => h.elim)).trans hk (fun _ _ h => h))
        have HM3 := hid hm
        have HY3 := hid hb
        have HA3 := hid (fun b h => (ha b h).imp id (fun h => Nat.le_trans HK2.out.size h))
        have HL3 := hid (fun b h => (hl b h).imp id (fun h => Nat.le_trans HK2.out.size h))
        have qy3 := hb.k19
        clear hm hk ha hl hb HK2 HM2 HY2 qy2
        go_wp2_with fail
        have HY4 := hid (show Blk (((w3).setCell ⟨y, 12, none⟩ (i64 (rd W le))).setCell ⟨y, 11, none⟩ (i64 (6))) y 106 [i64 t, i64 s, i64 g, i64 l, i64 r, i64 k, .slice PA pn pc, .slice LA ln lc, i64 nd, i64 n, i64 st, i64 (6), i64 (rd W le), i64 (saw), i64 (extra), i64 0, i64 0, .bool false, i64 0] from (((HY3.out).set 12 _).set 11 _))
        have HKY4 := hid (show Keep (fun k => k = y) w3 (((w3).setCell ⟨y, 12, none⟩ (i64 (rd W le))).setCell ⟨y, 11, none⟩ (i64 (6))) from ((((Keep.refl (fun k => k = y) w3)).set ⟨y, 12, none⟩ _ (fun _ => rfl)).set ⟨y, 11, none⟩ _ (fun _ => rfl)))
        clear qy3
        generalize ((w3).setCell ⟨y, 12, none⟩ (i64 (rd W le))).setCell ⟨y, 11, none⟩ (i64 (6)) = w4 at *
        have qy4 := HY4.out.k19
        go_region
        go_wp2_with fail
        go_ret
        exact rpoolP_of (x' := _) (e' := _) HM3.out HK3.out HA3.out HL3.out HY3.out (HKY4.out.trans ((((Keep.refl (fun k => k = y) w4)).drew).set ⟨y, 11, none⟩ _ (fun _ => rfl)) (fun _ _ h => h)) (((HY4.out).drew).set 11 _) (fun _ => rfl)
  · have e : pNext av le n l ⟨W, L, 4, had, saw, extra, false⟩ = ⟨W, L ++ [⟨1, le, rd W le, 0, false⟩], 6, rd W le, saw, extra, false⟩ := by simp [pNext, c]
    rw [e]
    clear e
    go_enter Try.func56, Try.ntmps56
    go_wp2_with fail
    apply wp_region_text (WI := fun S wx => Keep0 w wx) (by kernel_rfl) (by kernel_rfl)
    case hob =>
      apply Oblig.cons
      case h =>
        intro S w1 hwi hSi hd hcl
        apply StepOk.intro
        intro K hK
        have qy3 := (hwi.blk HY.out (fun h => h)).k19
        go_simp
        apply hK
        · rfl
        · conv => (lhs; whnf)
        · exact hwi
      simp only [put_lit, put_none, List.set_cons_succ, List.set_cons_zero]
      apply Oblig.cons
      case h =>
        intro S w1 hwi hSi hd hcl
        apply StepOk.intro
        intro K hK
        have qy3 := (hwi.blk HY.out (fun h => h)).k19
        go_simp
        apply hK
        · rfl
        · conv => (lhs; whnf)
        · exact hwi
      simp only [put_lit, put_none, List.set_cons_succ, List.set_cons_zero]
      apply Oblig.cons
      case h =>
        intro S w1 hwi hSi hd hcl
        apply StepOk.intro
        intro K hK
        have qy3 := (hwi.blk HY.out (fun h => h)).k19
        go_simp
        apply hK
        · rfl
        · conv => (lhs; whnf)
        · exact hwi
      simp only [put_lit, put_none, List.set_cons_succ, List.set_cons_zero]
      apply Oblig.cons
      case h =>
        intro S w1 hwi hSi hd hcl
        apply StepOk.intro
        intro K hK
        have qy3 := (hwi.blk HY.out (fun h => h)).k19
        go_simp
        apply hK
        · rfl
        · conv => (lhs; whnf)
        · exact hwi
      simp only [put_lit, put_none, List.set_cons_succ, List.set_cons_zero]
      apply Oblig.cons
      case h =>
        intro S w1 hwi hSi hd hcl
        apply StepOk.intro
        intro K hK
        have qy3 := (hwi.blk HY.out (fun h => h)).k19
        go_simp
        apply hK
        · rfl
        · conv => (lhs; whnf)
        · exact hwi
      simp only [put_lit, put_none, List.set_cons_succ, List.set_cons_zero]
      apply Oblig.cons
      case h =>
        intro S w1 hwi hSi hd hcl
        apply StepOk.intro
        intro K hK
        have qy3 := (hwi.blk HY.out (fun h => h)).k19
        go_simp
        apply hK
        · rfl
        · conv => (lhs; whnf)
        · exact hwi
      simp only [put_lit, put_none, List.set_cons_succ, List.set_cons_zero]
      apply Oblig.cons
      case h =>
        intro S w1 hwi hSi hd hcl
        apply StepOk.intro
        intro K hK
        have qy3 := (hwi.blk HY.out (fun h => h)).k19
        go_simp
        apply hK
        · rfl
        · conv => (lhs; whnf)
        · exact hwi
      simp only [put_lit, put_none, List.set_cons_succ, List.set_cons_zero]
      apply Oblig.cons
      case h =>
        intro S w1 hwi hSi hd hcl
        apply StepOk.intro
        intro K hK
        have qy3 := (hwi.blk HY.out (fun h => h)).k19
        go_simp
        apply hK
        · rfl
        · conv => (lhs; whnf)
        · exact hwi
      simp only [put_lit, put_none, List.set_cons_succ, List.set_cons_zero]
      apply Oblig.cons
      case h =>
        intro S w1 hwi hSi hd hcl
        apply StepOk.intro
        intro K hK
        have qy3 := (hwi.blk HY.out (fun h => h)).k19
        go_simp
        apply hK
        · rfl
        · conv => (lhs; whnf)
        · exact hwi
      simp only [put_lit, put_none, List.set_cons_succ, List.set_cons_zero]
      apply Oblig.cons
      case h =>
        intro S w1 hwi hSi hd hcl
        apply StepOk.intro
        intro K hK
        have qy3 := (hwi.blk HY.out (fun h => h)).k19
        go_simp
        apply hK
        · rfl
        · conv => (lhs; whnf)
        · exact hwi
      simp only [put_lit, put_none, List.set_cons_succ, List.set_cons_zero]
      apply Oblig.cons
      case h =>
        intro S w1 hwi hSi hd hcl
        apply StepOk.intro
        intro K hK
        have qy3 := (hwi.blk HY.out (fun h => h)).k19
        go_simp
        apply hK
        · rfl
        · conv => (lhs; whnf)
        · exact hwi
      simp only [put_lit, put_none, List.set_cons_succ, List.set_cons_zero]
      apply Oblig.cons
      case h =>
        intro S w1 hwi hSi hd hcl
        apply StepOk.intro
        intro K hK
        have qy3 := (hwi.blk HY.out (fun h => h)).k19
        go_simp
        apply hK
        · rfl
        · conv => (lhs; whnf)
        · exact hwi
      simp only [put_lit, put_none, List.set_cons_succ, List.set_cons_zero]
      apply Oblig.cons
      case h =>
        intro S w1 hwi hSi hd hcl
        apply StepOk.intro
        intro K hK
        have qy3 := (hwi.blk HY.out (fun h => h)).k19
        go_simp
        refine (show Calls Try.prog 24 #[.agg #[i64 t, i64 s, i64 g, i64 l, i64 r, i64 k, .slice PA pn pc, .slice LA ln lc], i64 nd, i64 st] w1 (Ret (i64 le) w1) from by have h := ref_Lease t s g l r k PA pn pc LA ln lc nd st w1 hs0 hs1 hv0 hv1 hu0 hu1; rw [← HLE.out] at h; exact h).mono ?_
        rintro e w2 ⟨rfl, hk⟩
        apply hK
        · rfl
        · conv => (lhs; whnf)
        · exact Keep0.step hwi hk
      simp only [put_lit, put_none, List.set_cons_succ, List.set_cons_zero]
      apply Oblig.cons
      case h =>
        intro S w1 hwi hSi hd hcl
        apply StepOk.intro
        intro K hK
        have qy3 := (hwi.blk HY.out (fun h => h)).k19
        go_simp
        apply hK
        · rfl
        · conv => (lhs; whnf)
        · exact hwi
      simp only [put_lit, put_none, List.set_cons_succ, List.set_cons_zero]
      exact Oblig.nil
    case h0 =>
      exact (Keep.refl _ _).drew
    case hend =>
      intro S wx hwi hall
      obtain ⟨w1, rfl⟩ : ∃ w1 : World, w1 = wx := ⟨_, rfl⟩
      have HY1 := hid (hwi.blk HY.out (fun h => h))
      have HM1 := hid (HM.out.keep hwi (fun _ _ h => h))
      have HK1 := hid hwi
      have qy1 := HY1.out.k19
      clear hwi hall HY HM qy
      go_wp2_with fail
      apply wp_region_text (WI := fun S wx => Keep0 w1 wx) (by kernel_rfl) (by kernel_rfl)
      case hob =>
        apply Oblig.cons
        case h =>
          intro S w1 hwi hSi hd hcl
          apply StepOk.intro
          intro K hK
          have qy3 := (hwi.blk HY1.out (fun h => h)).k19
          go_simp
          apply hK
          · rfl
          · conv => (lhs; whnf)
          · exact hwi
        simp only [put_lit, put_none, List.set_cons_succ, List.set_cons_zero]
        apply Oblig.cons
        case h =>
          intro S w1 hwi hSi hd hcl
          apply StepOk.intro
          intro K hK
          have qy3 := (hwi.blk HY1.out (fun h => h)).k19
          go_simp
          apply hK
          · rfl
          · conv => (lhs; whnf)
          · exact hwi
        simp only [put_lit, put_none, List.set_cons_succ, List.set_cons_zero]
        apply Oblig.cons
        case h =>
          intro S w1 hwi hSi hd hcl
          apply StepOk.intro
          intro K hK
          have qy3 := (hwi.blk HY1.out (fun h => h)).k19
          go_simp
          apply hK
          · rfl
          · conv => (lhs; whnf)
          · exact hwi
        simp only [put_lit, put_none, List.set_cons_succ, List.set_cons_zero]
        apply Oblig.cons
        case h =>
          intro S w1 hwi hSi hd hcl
          apply StepOk.intro
          intro K hK
          have qy3 := (hwi.blk HY1.out (fun h => h)).k19
          go_simp
          apply hK
          · rfl
          · conv => (lhs; whnf)
          · exact hwi
        simp only [put_lit, put_none, List.set_cons_succ, List.set_cons_zero]
        apply Oblig.cons
        case h =>
          intro S w1 hwi hSi hd hcl
          apply StepOk.intro
          intro K hK
          have qy3 := (hwi.blk HY1.out (fun h => h)).k19
          go_simp
          apply hK
          · rfl
          · conv => (lhs; whnf)
          · exact hwi
        simp only [put_lit, put_none, List.set_cons_succ, List.set_cons_zero]
        apply Oblig.cons
        case h =>
          intro S w1 hwi hSi hd hcl
          apply StepOk.intro
          intro K hK
          have qy3 := (hwi.blk HY1.out (fun h => h)).k19
          go_simp
          apply hK
          · rfl
          · conv => (lhs; whnf)
          · exact hwi
        simp only [put_lit, put_none, List.set_cons_succ, List.set_cons_zero]
        apply Oblig.cons
        case h =>
          intro S w1 hwi hSi hd hcl
          apply StepOk.intro
          intro K hK
          have qy3 := (hwi.blk HY1.out (fun h => h)).k19
          go_simp
          apply hK
          · rfl
          · conv => (lhs; whnf)
          · exact hwi
        simp only [put_lit, put_none, List.set_cons_succ, List.set_cons_zero]
        apply Oblig.cons
        case h =>
          intro S w1 hwi hSi hd hcl
          apply StepOk.intro
          intro K hK
          have qy3 := (hwi.blk HY1.out (fun h => h)).k19
          go_simp
          apply hK
          · rfl
          · conv => (lhs; whnf)
          · exact hwi
        simp only [put_lit, put_none, List.set_cons_succ, List.set_cons_zero]
        apply Oblig.cons
        case h =>
          intro S w1 hwi hSi hd hcl
          apply StepOk.intro
          intro K hK
          have qy3 := (hwi.blk HY1.out (fun h => h)).k19
          go_simp
          refine (show Calls Try.prog 25 #[.agg #[i64 t, i64 s, i64 g, i64 l, i64 r, i64 k, .slice PA pn pc, .slice LA ln lc], i64 nd] w1 (Ret (i64 av) w1) from by have h := ref_Avail t s g l r k PA pn pc LA ln lc nd w1 hs0 hs1 hv0 hv1; rw [← HAV.out] at h; exact h).mono ?_
          rintro e w2 ⟨rfl, hk⟩
          apply hK
          · rfl
          · conv => (lhs; whnf)
          · exact Keep0.step hwi hk
        simp only [put_lit, put_none, List.set_cons_succ, List.set_cons_zero]
        apply Oblig.cons
        case h =>
          intro S w1 hwi hSi hd hcl
          apply StepOk.intro
          intro K hK
          have qy3 := (hwi.blk HY1.out (fun h => h)).k19
          go_simp
          apply hK
          · rfl
          · conv => (lhs; whnf)
          · exact hwi
        simp only [put_lit, put_none, List.set_cons_succ, List.set_cons_zero]
        exact Oblig.nil
      case h0 =>
        exact (Keep.refl _ _).drew
      case hend =>
        intro S wx hwi hall
        obtain ⟨w2, rfl⟩ : ∃ w2 : World, w2 = wx := ⟨_, rfl⟩
        have HY2 := hid (hwi.blk HY1.out (fun h => h))
        have HM2 := hid (HM1.out.keep hwi (fun _ _ h => h))
        have HK2 := hid (HK1.out.trans hwi (fun _ _ h => h))
        have qy2 := HY2.out.k19
        clear hwi hall HY1 HM1 HK1 qy1
        go_wp2_with fail
        refine (ref_LoadN le HM2.out (by omega) hL).mono ?_
        rintro e w3 ⟨rfl, A3, c3, lv3, hm, hk, ha, hl⟩
        have hb := hk.blk HY2.out (ry_far HM2.out HY2.out)
        have HK3 := hid ((HK2.out.mono (T := fun b => b = m ∨ lv.ownBlock = some b) (fun _ h => h.elim)).trans hk (fun _ _ h => h))
        have HM3 := hid hm
        have HY3 := hid hb
        have HA3 := hid (fun b h => (ha b h).imp id (fun h => Nat.le_trans HK2.out.size h))
        have HL3 := hid (fun b h => (hl b h).imp id (fun h => Nat.le_trans HK2.out.size h))
        have qy3 := hb.k19
        clear hm hk ha hl hb HK2 HM2 HY2 qy2
        go_wp2_with fail
        have HY4 := hid (show Blk (((w3).setCell ⟨y, 12, none⟩ (i64 (rd W le))).setCell ⟨y, 11, none⟩ (i64 (6))) y 106 [i64 t, i64 s, i64 g, i64 l, i64 r, i64 k, .slice PA pn pc, .slice LA ln lc, i64 nd, i64 n, i64 st, i64 (6), i64 (rd W le), i64 (saw), i64 (extra), i64 0, i64 0, .bool false, i64 0] from (((HY3.out).set 12 _).set 11 _))
        have HKY4 := hid (show Keep (fun k => k = y) w3 (((w3).setCell ⟨y, 12, none⟩ (i64 (rd W le))).setCell ⟨y, 11, none⟩ (i64 (6))) from ((((Keep.refl (fun k => k = y) w3)).set ⟨y, 12, none⟩ _ (fun _ => rfl)).set ⟨y, 11, none⟩ _ (fun _ => rfl)))
        clear qy3
        generalize ((w3).setCell ⟨y, 12, none⟩ (i64 (rd W le))).setCell ⟨y, 11, none⟩ (i64 (6)) = w4 at *
        have qy4 := HY4.out.k19
        go_region
        go_wp2_with fail
        go_ret
        exact rpoolP_of (x' := _) (e' := _) HM3.out HK3.out HA3.out HL3.out HY3.out (HKY4.out.trans (((Keep.refl (fun k => k = y) w4)).drew) (fun _ _ h => h)) ((HY4.out).drew) (fun _ => rfl)
end
end Go.Proofs.Ytdjfeapncpcmgaa
