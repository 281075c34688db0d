/- breadlineref08: Step, stages 6 and 7; Ans. -/
import Derived.Test.YtdjfeapncpcmgaaRefPoolA
import Derived.Test.YtdjfeapncpcmgaaRefPoolB
import Derived.Test.YtdjfeapncpcmgaaRefPoolC
import Derived.Test.YtdjfeapncpcmgaaRefPoolD
import Derived.Test.YtdjfeapncpcmgaaPool
namespace Go.Proofs.Ytdjfeapncpcmgaa
open Go.RowKit
set_option linter.unusedVariables false
set_option linter.unusedSimpArgs false
set_option maxRecDepth 100000
section
variable {B : Nat} {w : World} {m y : Nat} {A : Option Addr} {ca : Nat} {lv : Value} {av le : Nat} {t s g l r k nd n st X : Int} {PA : Option Addr} {pn pc : Nat} {LA : Option Addr} {ln lc : Nat}

set_option maxHeartbeats 4000000 in
theorem rpool_step6 (x : PS) (hm : RefAt B w m A ca lv x.W x.L) (hy : Blk w y 106 (rcs t s g l r k PA pn pc LA ln lc nd n st x x.extra)) (hi : PInv av le n l X x) (h0 : x.next = 6) (hX : X ≤ 4398046511104) (hL : x.L.length ≤ 1000000000) (hW : x.W.length ≤ 1000000) (hs0 : 1 ≤ s) (hs1 : s ≤ 8) (hv0 : 0 ≤ nd) (hv1 : nd ≤ 1000) (hu0 : 0 ≤ st) (hu1 : st ≤ 1000) (hav : (av : Int) = nd * (6 + 2 * s) + 1) (hle : (le : Int) = nd * (6 + 2 * s) + 2 + st) :
    Calls Try.prog 56 #[ptr y, ptr m] w (RPoolP B w m A lv y t s g l r k PA pn pc LA ln lc nd n st (pNext av le n l x)) := by
  obtain ⟨W, L, next, had, saw, extra, bad⟩ := x
  obtain ⟨la, ll, ne, n1, m1, wl, wa, nx, s1, s3, s4, s5, b⟩ := hi
  simp only at *
  subst h0
  obtain rfl : bad = false := by
    cases bad with
    | false => rfl
    | true => have := b rfl; omega
  have hy1 : Blk w y 106 [i64 t, i64 s, i64 g, i64 l, i64 r, i64 k, .slice PA pn pc, .slice LA ln lc, i64 nd, i64 n, i64 st, i64 (6), i64 (had), i64 (saw), i64 (extra), i64 0, i64 0, .bool false, i64 0] := hy
  have qy := hy1.k19
  have HY := hid hy1
  have HM := hid hm
  have HAV := hid hav
  have HLE := hid hle
  clear hy hy1 hm b nx hav hle
  have hx := s4 (by simp)
  have hwr : wrap64 (rd W av + extra) = rd W av + extra := wrap64_in _ (by omega)
  clear s1 s3 s4 s5
  have e : pNext av le n l ⟨W, L, 6, had, saw, extra, false⟩ = ⟨W.set av (rd W av + extra), L ++ [⟨2, av, extra, rd W av + extra, false⟩], 7, had, saw, extra, false⟩ := by simp [pNext]
  rw [e]
  clear e
  go_enter Try.func56, Try.ntmps56
  go_wp2_with fail
  apply wp_region_text (WI := fun S wx => Keep0 w wx) (by kernel_rfl) (by kernel_rfl)
  case hob =>
    apply Oblig.cons
    case h =>
      intro S w1 hwi hSi hd hcl
      apply StepOk.intro
      intro K hK
      have qy3 := (hwi.blk HY.out (fun h => h)).k19
      go_simp
      apply hK
      · rfl
      · conv => (lhs; whnf)
      · exact hwi
    simp only [put_lit, put_none, List.set_cons_succ, List.set_cons_zero]
    apply Oblig.cons
    case h =>
      intro S w1 hwi hSi hd hcl
      apply StepOk.intro
      intro K hK
      have qy3 := (hwi.blk HY.out (fun h => h)).k19
      go_simp
      apply hK
      · rfl
      · conv => (lhs; whnf)
      · exact hwi
    simp only [put_lit, put_none, List.set_cons_succ, List.set_cons_zero]
    apply Oblig.cons
    case h =>
      intro S w1 hwi hSi hd hcl
      apply StepOk.intro
      intro K hK
      have qy3 := (hwi.blk HY.out (fun h => h)).k19
      go_simp
      apply hK
      · rfl
      · conv => (lhs; whnf)
      · exact hwi
    simp only [put_lit, put_none, List.set_cons_succ, List.set_cons_zero]
    apply Oblig.cons
    case h =>
      intro S w1 hwi hSi hd hcl
      apply StepOk.intro
      intro K hK
      have qy3 := (hwi.blk HY.out (fun h => h)).k19
      go_simp
      apply hK
      · rfl
      · conv => (lhs; whnf)
      · exact hwi
    simp only [put_lit, put_none, List.set_cons_succ, List.set_cons_zero]
    apply Oblig.cons
    case h =>
      intro S w1 hwi hSi hd hcl
      apply StepOk.intro
      intro K hK
      have qy3 := (hwi.blk HY.out (fun h => h)).k19
      go_simp
      apply hK
      · rfl
      · conv => (lhs; whnf)
      · exact hwi
    simp only [put_lit, put_none, List.set_cons_succ, List.set_cons_zero]
    apply Oblig.cons
    case h =>
      intro S w1 hwi hSi hd hcl
      apply StepOk.intro
      intro K hK
      have qy3 := (hwi.blk HY.out (fun h => h)).k19
      go_simp
      apply hK
      · rfl
      · conv => (lhs; whnf)
      · exact hwi
    simp only [put_lit, put_none, List.set_cons_succ, List.set_cons_zero]
    apply Oblig.cons
    case h =>
      intro S w1 hwi hSi hd hcl
      apply StepOk.intro
      intro K hK
      have qy3 := (hwi.blk HY.out (fun h => h)).k19
      go_simp
      apply hK
      · rfl
      · conv => (lhs; whnf)
      · exact hwi
    simp only [put_lit, put_none, List.set_cons_succ, List.set_cons_zero]
    apply Oblig.cons
    case h =>
      intro S w1 hwi hSi hd hcl
      apply StepOk.intro
      intro K hK
      have qy3 := (hwi.blk HY.out (fun h => h)).k19
      go_simp
      apply hK
      · rfl
      · conv => (lhs; whnf)
      · exact hwi
    simp only [put_lit, put_none, List.set_cons_succ, List.set_cons_zero]
    apply Oblig.cons
    case h =>
      intro S w1 hwi hSi hd hcl
      apply StepOk.intro
      intro K hK
      have qy3 := (hwi.blk HY.out (fun h => h)).k19
      go_simp
      apply hK
      · rfl
      · conv => (lhs; whnf)
      · exact hwi
    simp only [put_lit, put_none, List.set_cons_succ, List.set_cons_zero]
    apply Oblig.cons
    case h =>
      intro S w1 hwi hSi hd hcl
      apply StepOk.intro
      intro K hK
      have qy3 := (hwi.blk HY.out (fun h => h)).k19
      go_simp
      apply hK
      · rfl
      · conv => (lhs; whnf)
      · exact hwi
    simp only [put_lit, put_none, List.set_cons_succ, List.set_cons_zero]
    apply Oblig.cons
    case h =>
      intro S w1 hwi hSi hd hcl
      apply StepOk.intro
      intro K hK
      have qy3 := (hwi.blk HY.out (fun h => h)).k19
      go_simp
      apply hK
      · rfl
      · conv => (lhs; whnf)
      · exact hwi
    simp only [put_lit, put_none, List.set_cons_succ, List.set_cons_zero]
    apply Oblig.cons
    case h =>
      intro S w1 hwi hSi hd hcl
      apply StepOk.intro
      intro K hK
      have qy3 := (hwi.blk HY.out (fun h => h)).k19
      go_simp
      apply hK
      · rfl
      · conv => (lhs; whnf)
      · exact hwi
    simp only [put_lit, put_none, List.set_cons_succ, List.set_cons_zero]
    apply Oblig.cons
    case h =>
      intro S w1 hwi hSi hd hcl
      apply StepOk.intro
      intro K hK
      have qy3 := (hwi.blk HY.out (fun h => h)).k19
      go_simp
      refine (show Calls Try.prog 24 #[.agg #[i64 t, i64 s, i64 g, i64 l, i64 r, i64 k, .slice PA pn pc, .slice LA ln lc], i64 nd, i64 st] w1 (Ret (i64 le) w1) from by have h := ref_Lease t s g l r k PA pn pc LA ln lc nd st w1 hs0 hs1 hv0 hv1 hu0 hu1; rw [← HLE.out] at h; exact h).mono ?_
      rintro e w2 ⟨rfl, hk⟩
      apply hK
      · rfl
      · conv => (lhs; whnf)
      · exact Keep0.step hwi hk
    simp only [put_lit, put_none, List.set_cons_succ, List.set_cons_zero]
    apply Oblig.cons
    case h =>
      intro S w1 hwi hSi hd hcl
      apply StepOk.intro
      intro K hK
      have qy3 := (hwi.blk HY.out (fun h => h)).k19
      go_simp
      apply hK
      · rfl
      · conv => (lhs; whnf)
      · exact hwi
    simp only [put_lit, put_none, List.set_cons_succ, List.set_cons_zero]
    exact Oblig.nil
  case h0 =>
    exact (Keep.refl _ _).drew
  case hend =>
    intro S wx hwi hall
    obtain ⟨w1, rfl⟩ : ∃ w1 : World, w1 = wx := ⟨_, rfl⟩
    have HY1 := hid (hwi.blk HY.out (fun h => h))
    have HM1 := hid (HM.out.keep hwi (fun _ _ h => h))
    have HK1 := hid hwi
    have qy1 := HY1.out.k19
    clear hwi hall HY HM qy
    go_wp2_with fail
    apply wp_region_text (WI := fun S wx => Keep0 w1 wx) (by kernel_rfl) (by kernel_rfl)
    case hob =>
      apply Oblig.cons
      case h =>
        intro S w1 hwi hSi hd hcl
        apply StepOk.intro
        intro K hK
        have qy3 := (hwi.blk HY1.out (fun h => h)).k19
        go_simp
        apply hK
        · rfl
        · conv => (lhs; whnf)
        · exact hwi
      simp only [put_lit, put_none, List.set_cons_succ, List.set_cons_zero]
      apply Oblig.cons
      case h =>
        intro S w1 hwi hSi hd hcl
        apply StepOk.intro
        intro K hK
        have qy3 := (hwi.blk HY1.out (fun h => h)).k19
        go_simp
        apply hK
        · rfl
        · conv => (lhs; whnf)
        · exact hwi
      simp only [put_lit, put_none, List.set_cons_succ, List.set_cons_zero]
      apply Oblig.cons
      case h =>
        intro S w1 hwi hSi hd hcl
        apply StepOk.intro
        intro K hK
        have qy3 := (hwi.blk HY1.out (fun h => h)).k19
        go_simp
        apply hK
        · rfl
        · conv => (lhs; whnf)
        · exact hwi
      simp only [put_lit, put_none, List.set_cons_succ, List.set_cons_zero]
      apply Oblig.cons
      case h =>
        intro S w1 hwi hSi hd hcl
        apply StepOk.intro
        intro K hK
        have qy3 := (hwi.blk HY1.out (fun h => h)).k19
        go_simp
        apply hK
        · rfl
        · conv => (lhs; whnf)
        · exact hwi
      simp only [put_lit, put_none, List.set_cons_succ, List.set_cons_zero]
      apply Oblig.cons
      case h =>
        intro S w1 hwi hSi hd hcl
        apply StepOk.intro
        intro K hK
        have qy3 := (hwi.blk HY1.out (fun h => h)).k19
        go_simp
        apply hK
        · rfl
        · conv => (lhs; whnf)
        · exact hwi
      simp only [put_lit, put_none, List.set_cons_succ, List.set_cons_zero]
      apply Oblig.cons
      case h =>
        intro S w1 hwi hSi hd hcl
        apply StepOk.intro
        intro K hK
        have qy3 := (hwi.blk HY1.out (fun h => h)).k19
        go_simp
        apply hK
        · rfl
        · conv => (lhs; whnf)
        · exact hwi
      simp only [put_lit, put_none, List.set_cons_succ, List.set_cons_zero]
      apply Oblig.cons
      case h =>
        intro S w1 hwi hSi hd hcl
        apply StepOk.intro
        intro K hK
        have qy3 := (hwi.blk HY1.out (fun h => h)).k19
        go_simp
        apply hK
        · rfl
        · conv => (lhs; whnf)
        · exact hwi
      simp only [put_lit, put_none, List.set_cons_succ, List.set_cons_zero]
      apply Oblig.cons
      case h =>
        intro S w1 hwi hSi hd hcl
        apply StepOk.intro
        intro K hK
        have qy3 := (hwi.blk HY1.out (fun h => h)).k19
        go_simp
        apply hK
        · rfl
        · conv => (lhs; whnf)
        · exact hwi
      simp only [put_lit, put_none, List.set_cons_succ, List.set_cons_zero]
      apply Oblig.cons
      case h =>
        intro S w1 hwi hSi hd hcl
        apply StepOk.intro
        intro K hK
        have qy3 := (hwi.blk HY1.out (fun h => h)).k19
        go_simp
        refine (show Calls Try.prog 25 #[.agg #[i64 t, i64 s, i64 g, i64 l, i64 r, i64 k, .slice PA pn pc, .slice LA ln lc], i64 nd] w1 (Ret (i64 av) w1) from by have h := ref_Avail t s g l r k PA pn pc LA ln lc nd w1 hs0 hs1 hv0 hv1; rw [← HAV.out] at h; exact h).mono ?_
        rintro e w2 ⟨rfl, hk⟩
        apply hK
        · rfl
        · conv => (lhs; whnf)
        · exact Keep0.step hwi hk
      simp only [put_lit, put_none, List.set_cons_succ, List.set_cons_zero]
      apply Oblig.cons
      case h =>
        intro S w1 hwi hSi hd hcl
        apply StepOk.intro
        intro K hK
        have qy3 := (hwi.blk HY1.out (fun h => h)).k19
        go_simp
        apply hK
        · rfl
        · conv => (lhs; whnf)
        · exact hwi
      simp only [put_lit, put_none, List.set_cons_succ, List.set_cons_zero]
      exact Oblig.nil
    case h0 =>
      exact (Keep.refl _ _).drew
    case hend =>
      intro S wx hwi hall
      obtain ⟨w2, rfl⟩ : ∃ w2 : World, w2 = wx := ⟨_, rfl⟩
      have HY2 := hid (hwi.blk HY1.out (fun h => h))
      have HM2 := hid (HM1.out.keep hwi (fun _ _ h => h))
      have HK2 := hid (HK1.out.trans hwi (fun _ _ h => h))
      have qy2 := HY2.out.k19
      clear hwi hall HY1 HM1 HK1 qy1
      go_wp2_with fail
      refine Calls.mono (show Calls Try.prog 74 #[ptr m, i64 av, i64 extra] w2 (fun e w' => e = .returned (i64 (rd W av + extra)) ∧ RefPost B w2 m A lv (W.set av (rd W av + extra)) (L ++ [⟨2, av, extra, rd W av + extra, false⟩]) w') from by have h := ref_Add (av : Int) extra HM2.out (by omega) (by omega) hW hL; rw [Int.toNat_natCast, hwr] at h; exact h) ?_
      rintro e w3 ⟨rfl, A3, c3, lv3, hm, hk, ha, hl⟩
      have hb := hk.blk HY2.out (ry_far HM2.out HY2.out)
      have HK3 := hid ((HK2.out.mono (T := fun b => b = m ∨ lv.ownBlock = some b) (fun _ h => h.elim)).trans hk (fun _ _ h => h))
      have HM3 := hid hm
      have HY3 := hid hb
      have HA3 := hid (fun b h => (ha b h).imp id (fun h => Nat.le_trans HK2.out.size h))
      have HL3 := hid (fun b h => (hl b h).imp id (fun h => Nat.le_trans HK2.out.size h))
      have qy3 := hb.k19
      clear hm hk ha hl hb HK2 HM2 HY2 qy2
      go_wp2_with fail
      go_ret
      exact rpoolP_of (x' := _) (e' := _) HM3.out HK3.out HA3.out HL3.out HY3.out ((((Keep.refl (fun k => k = y) w3)).set ⟨y, 11, none⟩ _ (fun _ => rfl))) ((HY3.out).set 11 _) (fun _ => rfl)

set_option maxHeartbeats 4000000 in
theorem rpool_over {W : List Int} {L : List Acc} {c12 c13 c14 c15 c16 c17 c18 : Value} (hm : RefAt B w m A ca lv W L) (hy : Blk w y 106 [i64 t, i64 s, i64 g, i64 l, i64 r, i64 k, .slice PA pn pc, .slice LA ln lc, i64 nd, i64 n, i64 st, i64 9, c12, c13, c14, c15, c16, c17, c18]) (hs0 : 1 ≤ s) (hs1 : s ≤ 8) (hv0 : 0 ≤ nd) (hv1 : nd ≤ 1000) (hu0 : 0 ≤ st) (hu1 : st ≤ 1000) (hav : (av : Int) = nd * (6 + 2 * s) + 1) (hle : (le : Int) = nd * (6 + 2 * s) + 2 + st) :
    Calls Try.prog 56 #[ptr y, ptr m] w fun e w' => e = .returned (.bool true) ∧ Keep0 w w' := by
  have qy := hy.k19
  have HY := hid hy
  have HM := hid hm
  have HAV := hid hav
  have HLE := hid hle
  clear hy hm hav hle
  go_enter Try.func56, Try.ntmps56
  go_wp2_with fail
  apply wp_region_text (WI := fun S wx => Keep0 w wx) (by kernel_rfl) (by kernel_rfl)
  case hob =>
    apply Oblig.cons
    case h =>
      intro S w1 hwi hSi hd hcl
      apply StepOk.intro
      intro K hK
      have qy3 := (hwi.blk HY.out (fun h => h)).k19
      go_simp
      apply hK
      · rfl
      · conv => (lhs; whnf)
      · exact hwi
    simp only [put_lit, put_none, List.set_cons_succ, List.set_cons_zero]
    apply Oblig.cons
    case h =>
      intro S w1 hwi hSi hd hcl
      apply StepOk.intro
      intro K hK
      have qy3 := (hwi.blk HY.out (fun h => h)).k19
      go_simp
      apply hK
      · rfl
      · conv => (lhs; whnf)
      · exact hwi
    simp only [put_lit, put_none, List.set_cons_succ, List.set_cons_zero]
    apply Oblig.cons
    case h =>
      intro S w1 hwi hSi hd hcl
      apply StepOk.intro
      intro K hK
      have qy3 := (hwi.blk HY.out (fun h => h)).k19
      go_simp
      apply hK
      · rfl
      · conv => (lhs; whnf)
      · exact hwi
    simp only [put_lit, put_none, List.set_cons_succ, List.set_cons_zero]
    apply Oblig.cons
    case h =>
      intro S w1 hwi hSi hd hcl
      apply StepOk.intro
      intro K hK
      have qy3 := (hwi.blk HY.out (fun h => h)).k19
      go_simp
      apply hK
      · rfl
      · conv => (lhs; whnf)
      · exact hwi
    simp only [put_lit, put_none, List.set_cons_succ, List.set_cons_zero]
    apply Oblig.cons
    case h =>
      intro S w1 hwi hSi hd hcl
      apply StepOk.intro
      intro K hK
      have qy3 := (hwi.blk HY.out (fun h => h)).k19
      go_simp
      apply hK
      · rfl
      · conv => (lhs; whnf)
      · exact hwi
    simp only [put_lit, put_none, List.set_cons_succ, List.set_cons_zero]
    apply Oblig.cons
    case h =>
      intro S w1 hwi hSi hd hcl
      apply StepOk.intro
      intro K hK
      have qy3 := (hwi.blk HY.out (fun h => h)).k19
      go_simp
      apply hK
      · rfl
      · conv => (lhs; whnf)
      · exact hwi
    simp only [put_lit, put_none, List.set_cons_succ, List.set_cons_zero]
    apply Oblig.cons
    case h =>
      intro S w1 hwi hSi hd hcl
      apply StepOk.intro
      intro K hK
      have qy3 := (hwi.blk HY.out (fun h => h)).k19
      go_simp
      apply hK
      · rfl
      · conv => (lhs; whnf)
      · exact hwi
    simp only [put_lit, put_none, List.set_cons_succ, List.set_cons_zero]
    apply Oblig.cons
    case h =>
      intro S w1 hwi hSi hd hcl
      apply StepOk.intro
      intro K hK
      have qy3 := (hwi.blk HY.out (fun h => h)).k19
      go_simp
      apply hK
      · rfl
      · conv => (lhs; whnf)
      · exact hwi
    simp only [put_lit, put_none, List.set_cons_succ, List.set_cons_zero]
    apply Oblig.cons
    case h =>
      intro S w1 hwi hSi hd hcl
      apply StepOk.intro
      intro K hK
      have qy3 := (hwi.blk HY.out (fun h => h)).k19
      go_simp
      apply hK
      · rfl
      · conv => (lhs; whnf)
      · exact hwi
    simp only [put_lit, put_none, List.set_cons_succ, List.set_cons_zero]
    apply Oblig.cons
    case h =>
      intro S w1 hwi hSi hd hcl
      apply StepOk.intro
      intro K hK
      have qy3 := (hwi.blk HY.out (fun h => h)).k19
      go_simp
      apply hK
      · rfl
      · conv => (lhs; whnf)
      · exact hwi
    simp only [put_lit, put_none, List.set_cons_succ, List.set_cons_zero]
    apply Oblig.cons
    case h =>
      intro S w1 hwi hSi hd hcl
      apply StepOk.intro
      intro K hK
      have qy3 := (hwi.blk HY.out (fun h => h)).k19
      go_simp
      apply hK
      · rfl
      · conv => (lhs; whnf)
      · exact hwi
    simp only [put_lit, put_none, List.set_cons_succ, List.set_cons_zero]
    apply Oblig.cons
    case h =>
      intro S w1 hwi hSi hd hcl
      apply StepOk.intro
      intro K hK
      have qy3 := (hwi.blk HY.out (fun h => h)).k19
      go_simp
      apply hK
      · rfl
      · conv => (lhs; whnf)
      · exact hwi
    simp only [put_lit, put_none, List.set_cons_succ, List.set_cons_zero]
    apply Oblig.cons
    case h =>
      intro S w1 hwi hSi hd hcl
      apply StepOk.intro
      intro K hK
      have qy3 := (hwi.blk HY.out (fun h => h)).k19
      go_simp
      refine (show Calls Try.prog 24 #[.agg #[i64 t, i64 s, i64 g, i64 l, i64 r, i64 k, .slice PA pn pc, .slice LA ln lc], i64 nd, i64 st] w1 (Ret (i64 le) w1) from by have h := ref_Lease t s g l r k PA pn pc LA ln lc nd st w1 hs0 hs1 hv0 hv1 hu0 hu1; rw [← HLE.out] at h; exact h).mono ?_
      rintro e w2 ⟨rfl, hk⟩
      apply hK
      · rfl
      · conv => (lhs; whnf)
      · exact Keep0.step hwi hk
    simp only [put_lit, put_none, List.set_cons_succ, List.set_cons_zero]
    apply Oblig.cons
    case h =>
      intro S w1 hwi hSi hd hcl
      apply StepOk.intro
      intro K hK
      have qy3 := (hwi.blk HY.out (fun h => h)).k19
      go_simp
      apply hK
      · rfl
      · conv => (lhs; whnf)
      · exact hwi
    simp only [put_lit, put_none, List.set_cons_succ, List.set_cons_zero]
    exact Oblig.nil
  case h0 =>
    exact (Keep.refl _ _).drew
  case hend =>
    intro S wx hwi hall
    obtain ⟨w1, rfl⟩ : ∃ w1 : World, w1 = wx := ⟨_, rfl⟩
    have HY1 := hid (hwi.blk HY.out (fun h => h))
    have HM1 := hid (HM.out.keep hwi (fun _ _ h => h))
    have HK1 := hid hwi
    have qy1 := HY1.out.k19
    clear hwi hall HY HM qy
    go_wp2_with fail
    apply wp_region_text (WI := fun S wx => Keep0 w1 wx) (by kernel_rfl) (by kernel_rfl)
    case hob =>
      apply Oblig.cons
      case h =>
        intro S w1 hwi hSi hd hcl
        apply StepOk.intro
        intro K hK
        have qy3 := (hwi.blk HY1.out (fun h => h)).k19
        go_simp
        apply hK
        · rfl
        · conv => (lhs; whnf)
        · exact hwi
      simp only [put_lit, put_none, List.set_cons_succ, List.set_cons_zero]
      apply Oblig.cons
      case h =>
        intro S w1 hwi hSi hd hcl
        apply StepOk.intro
        intro K hK
        have qy3 := (hwi.blk HY1.out (fun h => h)).k19
        go_simp
        apply hK
        · rfl
        · conv => (lhs; whnf)
        · exact hwi
      simp only [put_lit, put_none, List.set_cons_succ, List.set_cons_zero]
      apply Oblig.cons
      case h =>
        intro S w1 hwi hSi hd hcl
        apply StepOk.intro
        intro K hK
        have qy3 := (hwi.blk HY1.out (fun h => h)).k19
        go_simp
        apply hK
        · rfl
        · conv => (lhs; whnf)
        · exact hwi
      simp only [put_lit, put_none, List.set_cons_succ, List.set_cons_zero]
      apply Oblig.cons
      case h =>
        intro S w1 hwi hSi hd hcl
        apply StepOk.intro
        intro K hK
        have qy3 := (hwi.blk HY1.out (fun h => h)).k19
        go_simp
        apply hK
        · rfl
        · conv => (lhs; whnf)
        · exact hwi
      simp only [put_lit, put_none, List.set_cons_succ, List.set_cons_zero]
      apply Oblig.cons
      case h =>
        intro S w1 hwi hSi hd hcl
        apply StepOk.intro
        intro K hK
        have qy3 := (hwi.blk HY1.out (fun h => h)).k19
        go_simp
        apply hK
        · rfl
        · conv => (lhs; whnf)
        · exact hwi
      simp only [put_lit, put_none, List.set_cons_succ, List.set_cons_zero]
      apply Oblig.cons
      case h =>
        intro S w1 hwi hSi hd hcl
        apply StepOk.intro
        intro K hK
        have qy3 := (hwi.blk HY1.out (fun h => h)).k19
        go_simp
        apply hK
        · rfl
        · conv => (lhs; whnf)
        · exact hwi
      simp only [put_lit, put_none, List.set_cons_succ, List.set_cons_zero]
      apply Oblig.cons
      case h =>
        intro S w1 hwi hSi hd hcl
        apply StepOk.intro
        intro K hK
        have qy3 := (hwi.blk HY1.out (fun h => h)).k19
        go_simp
        apply hK
        · rfl
        · conv => (lhs; whnf)
        · exact hwi
      simp only [put_lit, put_none, List.set_cons_succ, List.set_cons_zero]
      apply Oblig.cons
      case h =>
        intro S w1 hwi hSi hd hcl
        apply StepOk.intro
        intro K hK
        have qy3 := (hwi.blk HY1.out (fun h => h)).k19
        go_simp
        apply hK
        · rfl
        · conv => (lhs; whnf)
        · exact hwi
      simp only [put_lit, put_none, List.set_cons_succ, List.set_cons_zero]
      apply Oblig.cons
      case h =>
        intro S w1 hwi hSi hd hcl
        apply StepOk.intro
        intro K hK
        have qy3 := (hwi.blk HY1.out (fun h => h)).k19
        go_simp
        refine (show Calls Try.prog 25 #[.agg #[i64 t, i64 s, i64 g, i64 l, i64 r, i64 k, .slice PA pn pc, .slice LA ln lc], i64 nd] w1 (Ret (i64 av) w1) from by have h := ref_Avail t s g l r k PA pn pc LA ln lc nd w1 hs0 hs1 hv0 hv1; rw [← HAV.out] at h; exact h).mono ?_
        rintro e w2 ⟨rfl, hk⟩
        apply hK
        · rfl
        · conv => (lhs; whnf)
        · exact Keep0.step hwi hk
      simp only [put_lit, put_none, List.set_cons_succ, List.set_cons_zero]
      apply Oblig.cons
      case h =>
        intro S w1 hwi hSi hd hcl
        apply StepOk.intro
        intro K hK
        have qy3 := (hwi.blk HY1.out (fun h => h)).k19
        go_simp
        apply hK
        · rfl
        · conv => (lhs; whnf)
        · exact hwi
      simp only [put_lit, put_none, List.set_cons_succ, List.set_cons_zero]
      exact Oblig.nil
    case h0 =>
      exact (Keep.refl _ _).drew
    case hend =>
      intro S wx hwi hall
      obtain ⟨w2, rfl⟩ : ∃ w2 : World, w2 = wx := ⟨_, rfl⟩
      have HY2 := hid (hwi.blk HY1.out (fun h => h))
      have HM2 := hid (HM1.out.keep hwi (fun _ _ h => h))
      have HK2 := hid (HK1.out.trans hwi (fun _ _ h => h))
      have qy2 := HY2.out.k19
      clear hwi hall HY1 HM1 HK1 qy1
      go_wp2_with fail
      go_ret
      exact ⟨rfl, HK2.out⟩

/-- what Step leaves -/
def RPoolQ (B : Nat) (w : World) (m : Nat) (A : Option Addr) (lv : Value) (y : Nat) (t s g l r k : Int) (PA : Option Addr) (pn pc : Nat) (LA : Option Addr) (ln lc : Nat) (nd n st : Int) (x : PS) (w' : World) : Prop :=
  ∃ A' c' lv' e', RefAt B w' m A' c' lv' x.W x.L ∧ Blk w' y 106 (rcs t s g l r k PA pn pc LA ln lc nd n st x e') ∧ (x.next < 7 → e' = x.extra) ∧ Keep (fun b => (b = m ∨ lv.ownBlock = some b) ∨ b = y) w w' ∧
    (∀ b, (Value.slice A' 0 0).ownBlock = some b → (Value.slice A 0 0).ownBlock = some b ∨ w.heap.size ≤ b) ∧ (∀ b, lv'.ownBlock = some b → lv.ownBlock = some b ∨ w.heap.size ≤ b)
theorem rpool_Step (x : PS) {e0 : Int} (hm : RefAt B w m A ca lv x.W x.L) (hy : Blk w y 106 (rcs t s g l r k PA pn pc LA ln lc nd n st x e0)) (he : x.next < 7 → e0 = x.extra) (hi : PInv av le n l X x) (hX : X ≤ 4398046511104) (hL : x.L.length ≤ 1000000000) (hW : x.W.length ≤ 1000000) (hs0 : 1 ≤ s) (hs1 : s ≤ 8) (hv0 : 0 ≤ nd) (hv1 : nd ≤ 1000) (hu0 : 0 ≤ st) (hu1 : st ≤ 1000) (hav : (av : Int) = nd * (6 + 2 * s) + 1) (hle : (le : Int) = nd * (6 + 2 * s) + 2 + st) :
    Calls Try.prog 56 #[ptr y, ptr m] w fun e w' => e = .returned (.bool (pStp av le n l x).2) ∧ RPoolQ B w m A lv y t s g l r k PA pn pc LA ln lc nd n st (pStp av le n l x).1 w' := by
  by_cases h7 : x.next = 7
  · have e1 : (pStp av le n l x).1 = x := pNext_over h7
    have e2 : (pStp av le n l x).2 = true := by
      show decide ((pNext av le n l x).next = 7) = true
      rw [pNext_over h7]; simpa using h7
    rw [e1, e2]
    have hy2 := hy
    unfold rcs at hy2
    rw [if_pos h7] at hy2
    refine (rpool_over hm hy2 hs0 hs1 hv0 hv1 hu0 hu1 hav hle).mono ?_
    rintro e w' ⟨rfl, hk⟩
    exact ⟨rfl, A, ca, lv, e0, hm.keep hk (fun _ _ h => h), hk.blk hy (fun h => h), he, hk.mono (fun _ h => h.elim), fun _ h => Or.inl h, fun _ h => Or.inl h⟩
  · have h7' : x.next < 7 := by have := hi.nx; omega
    obtain rfl := he h7'
    have h : x.next = 0 ∨ x.next = 1 ∨ x.next = 2 ∨ x.next = 3 ∨ x.next = 4 ∨ x.next = 5 ∨ x.next = 6 := by omega
    refine Calls.mono (R := RPoolP B w m A lv y t s g l r k PA pn pc LA ln lc nd n st (pNext av le n l x)) ?_ (fun e w' h => ⟨h.1, h.2⟩)
    rcases h with h | h | h | h | h | h | h
    · exact rpool_step0 x hm hy hi h hX hL hW hs0 hs1 hv0 hv1 hu0 hu1 hav hle
    · exact rpool_step1 x hm hy hi h hX hL hW hs0 hs1 hv0 hv1 hu0 hu1 hav hle
    · exact rpool_step2 x hm hy hi h hX hL hW hs0 hs1 hv0 hv1 hu0 hu1 hav hle
    · exact rpool_step3 x hm hy hi h hX hL hW hs0 hs1 hv0 hv1 hu0 hu1 hav hle
    · exact rpool_step4 x hm hy hi h hX hL hW hs0 hs1 hv0 hv1 hu0 hu1 hav hle
    · exact rpool_step5 x hm hy hi h hX hL hW hs0 hs1 hv0 hv1 hu0 hu1 hav hle
    · exact rpool_step6 x hm hy hi h hX hL hW hs0 hs1 hv0 hv1 hu0 hu1 hav hle
set_option maxHeartbeats 1000000 in
theorem rans_any {c0 c1 c2 c3 c4 c5 c6 c7 c8 c9 c10 c11 c12 c13 c14 : Value} {e1 e2 : Int} (hx : Blk w y 106 [c0, c1, c2, c3, c4, c5, c6, c7, c8, c9, c10, c11, c12, c13, c14, i64 e1, i64 0, .bool false, i64 e2]) : Calls Try.prog 33 #[ptr y] w (Ret (.agg #[i64 e1, i64 0, .bool false, i64 e2]) w) := by
  have qx := hx.k19
  clear hx
  go_enter Try.func33, Try.ntmps33
  go_wp2
  exact bodyPost_ret (v := .agg #[i64 e1, i64 0, .bool false, i64 e2]) (by simp [results, Try.results33, go_sem]) rfl ⟨rfl, (Keep.refl _ _).alloc _⟩
end
end Go.Proofs.Ytdjfeapncpcmgaa
