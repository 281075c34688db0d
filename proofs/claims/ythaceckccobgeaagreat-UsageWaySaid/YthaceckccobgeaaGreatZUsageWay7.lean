/- Contracts and plain laws for UsageWay, part 7: what the walk of the law leans on. -/
import Derived.Deep.RegionLaw
import Derived.Deep.QuietTactic
import Derived.BigQuiet
import Derived.Test.YthaceckccobgeaaGreatZUsageWay1
import Derived.Test.YthaceckccobgeaaGreatZUsageWay2
import Derived.Test.YthaceckccobgeaaGreatZUsageWay3
import Derived.Test.YthaceckccobgeaaGreatZUsageWay4
import Derived.Test.YthaceckccobgeaaGreatZUsageWay5
import Derived.Test.YthaceckccobgeaaGreatZUsageWay6
namespace Go.Proofs.YthaceckccobgeaaGreat
open Go.RowKit
set_option linter.unusedVariables false
set_option linter.unusedSimpArgs false
set_option maxRecDepth 100000
section
variable {B : Nat} {w : World} {m y : Nat} {A : Option Addr} {ca : Nat} {lv : Value} {av le : Nat} {t s g l r k nd n st X : Int} {PA : Option Addr} {pn pc : Nat} {LA : Option Addr} {ln lc : Nat}
set_option maxHeartbeats 4000000 in
theorem rpool_step2 (x : PS) (hm : RefAt B w m A ca lv x.W x.L) (hy : Blk w y 122 (rcs t s g l r k PA pn pc LA ln lc nd n st x x.extra)) (hi : PInv av le n l X x) (h0 : x.next = 2) (hX : X ≤ 4398046511104) (hL : x.L.length ≤ 1000000000) (hW : x.W.length ≤ 1000000) (hs0 : 1 ≤ s) (hs1 : s ≤ 8) (hv0 : 0 ≤ nd) (hv1 : nd ≤ 1000) (hu0 : 0 ≤ st) (hu1 : st ≤ 1000) (hav : (av : Int) = nd * (6 + 2 * s) + 1) (hle : (le : Int) = nd * (6 + 2 * s) + 2 + st) :
 Calls Tryz.prog 51 #[ptr y, ptr m] w (RPoolP B w m A lv y t s g l r k PA pn pc LA ln lc nd n st (pNext av le n l x)) := by
 obtain ⟨W, L, next, had, saw, extra, bad⟩ := x
 obtain ⟨la, ll, ne, n1, m1, wl, wa, nx, s1, s3, s4, s5, b⟩ := hi
 simp only at *
 subst h0
 obtain rfl : bad = false := by
  cases bad with
  | false => rfl
  | true => have := b rfl; omega
 have hy1 : Blk w y 122 [i64 t, i64 s, i64 g, i64 l, i64 r, i64 k, .slice PA pn pc, .slice LA ln lc, i64 nd, i64 n, i64 st, i64 (2), i64 (had), i64 (saw), i64 (extra), i64 0, i64 0, .bool false, i64 0] := hy
 have qy := hy1.k19
 have HY := hid hy1
 have HM := hid hm
 have HAV := hid hav
 have HLE := hid hle
 clear hy hy1 hm b nx hav hle
 clear s1 s3 s4 s5
 have hyy : IntKind.i64.wrap (rd W av - n) = rd W av - n := IntWalk.i64_in _ (by omega)
 have hyl : l.tdiv 2 = l / 2 := Int.tdiv_eq_ediv_of_nonneg m1.1
 by_cases c : rd W av < n
 · have e : pNext av le n l ⟨W, L, 2, had, saw, extra, false⟩ = ⟨W, L ++ [⟨1, av, rd W av, 0, false⟩], 7, had, rd W av, extra, true⟩ := by simp [pNext, c]
   rw [e]
   have c2 : rd W av - n ≤ l / 2 := by omega
   clear e
   go_enter Tryz.func51, Tryz.ntmps51
   go_wp2_with fail
   apply wp_region_text (WI := fun S wx => Keep0 w wx) (by kernel_rfl) (by kernel_rfl)
   case hob =>
    iterate 12
     apply Oblig.cons
     case h =>
      intro S w1 hwi hSi hd hcl
      apply StepOk.intro
      intro K hK
      have qy3 := (hwi.blk HY.out (fun h => h)).k19
      go_simp
      apply hK
      · rfl
      · conv => (lhs; whnf)
      · exact hwi
     simp only [put_lit, put_none]
     try dsimp only [List.set_cons_succ, List.set_cons_zero]
    apply Oblig.cons
    case h =>
     intro S w1 hwi hSi hd hcl
     apply StepOk.intro
     intro K hK
     have qy3 := (hwi.blk HY.out (fun h => h)).k19
     go_simp
     refine (show Calls Tryz.prog 90 #[.agg #[i64 t, i64 s, i64 g, i64 l, i64 r, i64 k, .slice PA pn pc, .slice LA ln lc], i64 nd, i64 st] w1 (Ret (i64 le) w1) from by have h := ref_Lease t s g l r k PA pn pc LA ln lc nd st w1 hs0 hs1 hv0 hv1 hu0 hu1; rw [← HLE.out] at h; exact h).mono ?_
     rintro e w2 ⟨rfl, hk⟩
     apply hK
     · rfl
     · conv => (lhs; whnf)
     · exact Keep0.step hwi hk
    simp only [put_lit, put_none]
    try dsimp only [List.set_cons_succ, List.set_cons_zero]
    apply Oblig.cons
    case h =>
     intro S w1 hwi hSi hd hcl
     apply StepOk.intro
     intro K hK
     have qy3 := (hwi.blk HY.out (fun h => h)).k19
     go_simp
     apply hK
     · rfl
     · conv => (lhs; whnf)
     · exact hwi
    simp only [put_lit, put_none]
    try dsimp only [List.set_cons_succ, List.set_cons_zero]
    exact Oblig.nil
   case h0 =>
    exact (Keep.refl _ _).drew
   case hend =>
    intro S wx hwi hall
    obtain ⟨w1, rfl⟩ : ∃ w1 : World, w1 = wx := ⟨_, rfl⟩
    have HY1 := hid (hwi.blk HY.out (fun h => h))
    have HM1 := hid (HM.out.keep hwi (fun _ _ h => h))
    have HK1 := hid hwi
    have qy1 := HY1.out.k19
    clear hwi hall HY HM qy
    go_wp2_with fail
    apply wp_region_text (WI := fun S wx => Keep0 w1 wx) (by kernel_rfl) (by kernel_rfl)
    case hob =>
     iterate 8
      apply Oblig.cons
      case h =>
       intro S w1 hwi hSi hd hcl
       apply StepOk.intro
       intro K hK
       have qy3 := (hwi.blk HY1.out (fun h => h)).k19
       go_simp
       apply hK
       · rfl
       · conv => (lhs; whnf)
       · exact hwi
      simp only [put_lit, put_none]
      try dsimp only [List.set_cons_succ, List.set_cons_zero]
     apply Oblig.cons
     case h =>
      intro S w1 hwi hSi hd hcl
      apply StepOk.intro
      intro K hK
      have qy3 := (hwi.blk HY1.out (fun h => h)).k19
      go_simp
      refine (show Calls Tryz.prog 54 #[.agg #[i64 t, i64 s, i64 g, i64 l, i64 r, i64 k, .slice PA pn pc, .slice LA ln lc], i64 nd] w1 (Ret (i64 av) w1) from by have h := ref_Avail t s g l r k PA pn pc LA ln lc nd w1 hs0 hs1 hv0 hv1; rw [← HAV.out] at h; exact h).mono ?_
      rintro e w2 ⟨rfl, hk⟩
      apply hK
      · rfl
      · conv => (lhs; whnf)
      · exact Keep0.step hwi hk
     simp only [put_lit, put_none]
     try dsimp only [List.set_cons_succ, List.set_cons_zero]
     apply Oblig.cons
     case h =>
      intro S w1 hwi hSi hd hcl
      apply StepOk.intro
      intro K hK
      have qy3 := (hwi.blk HY1.out (fun h => h)).k19
      go_simp
      apply hK
      · rfl
      · conv => (lhs; whnf)
      · exact hwi
     simp only [put_lit, put_none]
     try dsimp only [List.set_cons_succ, List.set_cons_zero]
     exact Oblig.nil
    case h0 =>
     exact (Keep.refl _ _).drew
    case hend =>
     intro S wx hwi hall
     obtain ⟨w2, rfl⟩ : ∃ w2 : World, w2 = wx := ⟨_, rfl⟩
     have HY2 := hid (hwi.blk HY1.out (fun h => h))
     have HM2 := hid (HM1.out.keep hwi (fun _ _ h => h))
     have HK2 := hid (HK1.out.trans hwi (fun _ _ h => h))
     have qy2 := HY2.out.k19
     clear hwi hall HY1 HM1 HK1 qy1
     go_wp2_with fail
     refine (ref_LoadN av HM2.out (by omega) hL).mono ?_
     rintro e w3 ⟨rfl, A3, c3, lv3, hm, hk, ha, hl⟩
     have hb := hk.blk HY2.out (ry_far HM2.out HY2.out)
     have HK3 := hid ((HK2.out.mono (T := fun b => b = m ∨ lv.ownBlock = some b) (fun _ h => h.elim)).trans hk (fun _ _ h => h))
     have HM3 := hid hm
     have HY3 := hid hb
     have HA3 := hid (fun b h => (ha b h).imp id (fun h => Nat.le_trans HK2.out.size h))
     have HL3 := hid (fun b h => (hl b h).imp id (fun h => Nat.le_trans HK2.out.size h))
     have qy3 := hb.k19
     clear hm hk ha hl hb HK2 HM2 HY2 qy2
     go_wp2_with fail
     have HY4 := hid (show Blk (((w3).setCell ⟨y, 13, none⟩ (i64 (rd W av))).setCell ⟨y, 11, none⟩ (i64 (3))) y 122 [i64 t, i64 s, i64 g, i64 l, i64 r, i64 k, .slice PA pn pc, .slice LA ln lc, i64 nd, i64 n, i64 st, i64 (3), i64 (had), i64 (rd W av), i64 (extra), i64 0, i64 0, .bool false, i64 0] from (((HY3.out).set 13 _).set 11 _))
     have HKY4 := hid (show Keep (fun k => k = y) w3 (((w3).setCell ⟨y, 13, none⟩ (i64 (rd W av))).setCell ⟨y, 11, none⟩ (i64 (3))) from ((((Keep.refl (fun k => k = y) w3)).set ⟨y, 13, none⟩ _ (fun _ => rfl)).set ⟨y, 11, none⟩ _ (fun _ => rfl)))
     clear qy3
     generalize ((w3).setCell ⟨y, 13, none⟩ (i64 (rd W av))).setCell ⟨y, 11, none⟩ (i64 (3)) = w4 at *
     have qy4 := HY4.out.k19
     go_region
     go_wp2_with fail
     have HY5 := hid (show Blk ((w4.setCell ⟨y, 14, none⟩ (i64 (rd W av - n))).drew) y 122 [i64 t, i64 s, i64 g, i64 l, i64 r, i64 k, .slice PA pn pc, .slice LA ln lc, i64 nd, i64 n, i64 st, i64 (3), i64 (had), i64 (rd W av), i64 (rd W av - n), i64 0, i64 0, .bool false, i64 0] from (HY4.out.set 14 _).drew)
     have HKY5 := hid (show Keep (fun k => k = y) w3 ((w4.setCell ⟨y, 14, none⟩ (i64 (rd W av - n))).drew) from (HKY4.out.set _ _ (fun _ => rfl)).drew)
     clear qy4
     generalize (w4.setCell ⟨y, 14, none⟩ (i64 (rd W av - n))).drew = w5 at *
     have qy5 := HY5.out.k19
     go_region
     go_wp2_with fail
     go_ret
     exact rpoolP_of (x' := _) (e' := _) HM3.out HK3.out HA3.out HL3.out HY3.out (HKY5.out.trans ((((((((Keep.refl (fun k => k = y) w5)).drew).set ⟨y, 15, none⟩ _ (fun _ => rfl)).set ⟨y, 16, none⟩ _ (fun _ => rfl)).set ⟨y, 17, none⟩ _ (fun _ => rfl)).set ⟨y, 18, none⟩ _ (fun _ => rfl)).set ⟨y, 11, none⟩ _ (fun _ => rfl)) (fun _ _ h => h)) (((((((HY5.out).drew).set 15 _).set 16 _).set 17 _).set 18 _).set 11 _) (fun h => absurd h (Nat.lt_irrefl 7))
 · by_cases c2 : rd W av - n ≤ l / 2
   · have hmn : min (rd W av - n) (l / 2) = rd W av - n := by omega
     have e : pNext av le n l ⟨W, L, 2, had, saw, extra, false⟩ = ⟨W, L ++ [⟨1, av, rd W av, 0, false⟩], 3, had, rd W av, rd W av - n, false⟩ := by simp [pNext, c, hmn]
     rw [e]
     clear e hmn
     go_enter Tryz.func51, Tryz.ntmps51
     go_wp2_with fail
     apply wp_region_text (WI := fun S wx => Keep0 w wx) (by kernel_rfl) (by kernel_rfl)
     case hob =>
      iterate 12
       apply Oblig.cons
       case h =>
        intro S w1 hwi hSi hd hcl
        apply StepOk.intro
        intro K hK
        have qy3 := (hwi.blk HY.out (fun h => h)).k19
        go_simp
        apply hK
        · rfl
        · conv => (lhs; whnf)
        · exact hwi
       simp only [put_lit, put_none]
       try dsimp only [List.set_cons_succ, List.set_cons_zero]
      apply Oblig.cons
      case h =>
       intro S w1 hwi hSi hd hcl
       apply StepOk.intro
       intro K hK
       have qy3 := (hwi.blk HY.out (fun h => h)).k19
       go_simp
       refine (show Calls Tryz.prog 90 #[.agg #[i64 t, i64 s, i64 g, i64 l, i64 r, i64 k, .slice PA pn pc, .slice LA ln lc], i64 nd, i64 st] w1 (Ret (i64 le) w1) from by have h := ref_Lease t s g l r k PA pn pc LA ln lc nd st w1 hs0 hs1 hv0 hv1 hu0 hu1; rw [← HLE.out] at h; exact h).mono ?_
       rintro e w2 ⟨rfl, hk⟩
       apply hK
       · rfl
       · conv => (lhs; whnf)
       · exact Keep0.step hwi hk
      simp only [put_lit, put_none]
      try dsimp only [List.set_cons_succ, List.set_cons_zero]
      apply Oblig.cons
      case h =>
       intro S w1 hwi hSi hd hcl
       apply StepOk.intro
       intro K hK
       have qy3 := (hwi.blk HY.out (fun h => h)).k19
       go_simp
       apply hK
       · rfl
       · conv => (lhs; whnf)
       · exact hwi
      simp only [put_lit, put_none]
      try dsimp only [List.set_cons_succ, List.set_cons_zero]
      exact Oblig.nil
     case h0 =>
      exact (Keep.refl _ _).drew
     case hend =>
      intro S wx hwi hall
      obtain ⟨w1, rfl⟩ : ∃ w1 : World, w1 = wx := ⟨_, rfl⟩
      have HY1 := hid (hwi.blk HY.out (fun h => h))
      have HM1 := hid (HM.out.keep hwi (fun _ _ h => h))
      have HK1 := hid hwi
      have qy1 := HY1.out.k19
      clear hwi hall HY HM qy
      go_wp2_with fail
      apply wp_region_text (WI := fun S wx => Keep0 w1 wx) (by kernel_rfl) (by kernel_rfl)
      case hob =>
       iterate 8
        apply Oblig.cons
        case h =>
         intro S w1 hwi hSi hd hcl
         apply StepOk.intro
         intro K hK
         have qy3 := (hwi.blk HY1.out (fun h => h)).k19
         go_simp
         apply hK
         · rfl
         · conv => (lhs; whnf)
         · exact hwi
        simp only [put_lit, put_none]
        try dsimp only [List.set_cons_succ, List.set_cons_zero]
       apply Oblig.cons
       case h =>
        intro S w1 hwi hSi hd hcl
        apply StepOk.intro
        intro K hK
        have qy3 := (hwi.blk HY1.out (fun h => h)).k19
        go_simp
        refine (show Calls Tryz.prog 54 #[.agg #[i64 t, i64 s, i64 g, i64 l, i64 r, i64 k, .slice PA pn pc, .slice LA ln lc], i64 nd] w1 (Ret (i64 av) w1) from by have h := ref_Avail t s g l r k PA pn pc LA ln lc nd w1 hs0 hs1 hv0 hv1; rw [← HAV.out] at h; exact h).mono ?_
        rintro e w2 ⟨rfl, hk⟩
        apply hK
        · rfl
        · conv => (lhs; whnf)
        · exact Keep0.step hwi hk
       simp only [put_lit, put_none]
       try dsimp only [List.set_cons_succ, List.set_cons_zero]
       apply Oblig.cons
       case h =>
        intro S w1 hwi hSi hd hcl
        apply StepOk.intro
        intro K hK
        have qy3 := (hwi.blk HY1.out (fun h => h)).k19
        go_simp
        apply hK
        · rfl
        · conv => (lhs; whnf)
        · exact hwi
       simp only [put_lit, put_none]
       try dsimp only [List.set_cons_succ, List.set_cons_zero]
       exact Oblig.nil
      case h0 =>
       exact (Keep.refl _ _).drew
      case hend =>
       intro S wx hwi hall
       obtain ⟨w2, rfl⟩ : ∃ w2 : World, w2 = wx := ⟨_, rfl⟩
       have HY2 := hid (hwi.blk HY1.out (fun h => h))
       have HM2 := hid (HM1.out.keep hwi (fun _ _ h => h))
       have HK2 := hid (HK1.out.trans hwi (fun _ _ h => h))
       have qy2 := HY2.out.k19
       clear hwi hall HY1 HM1 HK1 qy1
       go_wp2_with fail
       refine (ref_LoadN av HM2.out (by omega) hL).mono ?_
       rintro e w3 ⟨rfl, A3, c3, lv3, hm, hk, ha, hl⟩
       have hb := hk.blk HY2.out (ry_far HM2.out HY2.out)
       have HK3 := hid ((HK2.out.mono (T := fun b => b = m ∨ lv.ownBlock = some b) (fun _ h => h.elim)).trans hk (fun _ _ h => h))
       have HM3 := hid hm
       have HY3 := hid hb
       have HA3 := hid (fun b h => (ha b h).imp id (fun h => Nat.le_trans HK2.out.size h))
       have HL3 := hid (fun b h => (hl b h).imp id (fun h => Nat.le_trans HK2.out.size h))
       have qy3 := hb.k19
       clear hm hk ha hl hb HK2 HM2 HY2 qy2
       go_wp2_with fail
       have HY4 := hid (show Blk (((w3).setCell ⟨y, 13, none⟩ (i64 (rd W av))).setCell ⟨y, 11, none⟩ (i64 (3))) y 122 [i64 t, i64 s, i64 g, i64 l, i64 r, i64 k, .slice PA pn pc, .slice LA ln lc, i64 nd, i64 n, i64 st, i64 (3), i64 (had), i64 (rd W av), i64 (extra), i64 0, i64 0, .bool false, i64 0] from (((HY3.out).set 13 _).set 11 _))
       have HKY4 := hid (show Keep (fun k => k = y) w3 (((w3).setCell ⟨y, 13, none⟩ (i64 (rd W av))).setCell ⟨y, 11, none⟩ (i64 (3))) from ((((Keep.refl (fun k => k = y) w3)).set ⟨y, 13, none⟩ _ (fun _ => rfl)).set ⟨y, 11, none⟩ _ (fun _ => rfl)))
       clear qy3
       generalize ((w3).setCell ⟨y, 13, none⟩ (i64 (rd W av))).setCell ⟨y, 11, none⟩ (i64 (3)) = w4 at *
       have qy4 := HY4.out.k19
       go_region
       go_wp2_with fail
       have HY5 := hid (show Blk ((w4.setCell ⟨y, 14, none⟩ (i64 (rd W av - n))).drew) y 122 [i64 t, i64 s, i64 g, i64 l, i64 r, i64 k, .slice PA pn pc, .slice LA ln lc, i64 nd, i64 n, i64 st, i64 (3), i64 (had), i64 (rd W av), i64 (rd W av - n), i64 0, i64 0, .bool false, i64 0] from (HY4.out.set 14 _).drew)
       have HKY5 := hid (show Keep (fun k => k = y) w3 ((w4.setCell ⟨y, 14, none⟩ (i64 (rd W av - n))).drew) from (HKY4.out.set _ _ (fun _ => rfl)).drew)
       clear qy4
       generalize (w4.setCell ⟨y, 14, none⟩ (i64 (rd W av - n))).drew = w5 at *
       have qy5 := HY5.out.k19
       go_region
       go_wp2_with fail
       go_ret
       exact rpoolP_of (x' := _) (e' := _) HM3.out HK3.out HA3.out HL3.out HY3.out (HKY5.out.trans (((Keep.refl (fun k => k = y) w5)).drew) (fun _ _ h => h)) ((HY5.out).drew) (fun h => rfl)
   · have hmn : min (rd W av - n) (l / 2) = l / 2 := by omega
     have e : pNext av le n l ⟨W, L, 2, had, saw, extra, false⟩ = ⟨W, L ++ [⟨1, av, rd W av, 0, false⟩], 3, had, rd W av, l / 2, false⟩ := by simp [pNext, c, hmn]
     rw [e]
     clear e hmn
     go_enter Tryz.func51, Tryz.ntmps51
     go_wp2_with fail
     apply wp_region_text (WI := fun S wx => Keep0 w wx) (by kernel_rfl) (by kernel_rfl)
     case hob =>
      iterate 12
       apply Oblig.cons
       case h =>
        intro S w1 hwi hSi hd hcl
        apply StepOk.intro
        intro K hK
        have qy3 := (hwi.blk HY.out (fun h => h)).k19
        go_simp
        apply hK
        · rfl
        · conv => (lhs; whnf)
        · exact hwi
       simp only [put_lit, put_none]
       try dsimp only [List.set_cons_succ, List.set_cons_zero]
      apply Oblig.cons
      case h =>
       intro S w1 hwi hSi hd hcl
       apply StepOk.intro
       intro K hK
       have qy3 := (hwi.blk HY.out (fun h => h)).k19
       go_simp
       refine (show Calls Tryz.prog 90 #[.agg #[i64 t, i64 s, i64 g, i64 l, i64 r, i64 k, .slice PA pn pc, .slice LA ln lc], i64 nd, i64 st] w1 (Ret (i64 le) w1) from by have h := ref_Lease t s g l r k PA pn pc LA ln lc nd st w1 hs0 hs1 hv0 hv1 hu0 hu1; rw [← HLE.out] at h; exact h).mono ?_
       rintro e w2 ⟨rfl, hk⟩
       apply hK
       · rfl
       · conv => (lhs; whnf)
       · exact Keep0.step hwi hk
      simp only [put_lit, put_none]
      try dsimp only [List.set_cons_succ, List.set_cons_zero]
      apply Oblig.cons
      case h =>
       intro S w1 hwi hSi hd hcl
       apply StepOk.intro
       intro K hK
       have qy3 := (hwi.blk HY.out (fun h => h)).k19
       go_simp
       apply hK
       · rfl
       · conv => (lhs; whnf)
       · exact hwi
      simp only [put_lit, put_none]
      try dsimp only [List.set_cons_succ, List.set_cons_zero]
      exact Oblig.nil
     case h0 =>
      exact (Keep.refl _ _).drew
     case hend =>
      intro S wx hwi hall
      obtain ⟨w1, rfl⟩ : ∃ w1 : World, w1 = wx := ⟨_, rfl⟩
      have HY1 := hid (hwi.blk HY.out (fun h => h))
      have HM1 := hid (HM.out.keep hwi (fun _ _ h => h))
      have HK1 := hid hwi
      have qy1 := HY1.out.k19
      clear hwi hall HY HM qy
      go_wp2_with fail
      apply wp_region_text (WI := fun S wx => Keep0 w1 wx) (by kernel_rfl) (by kernel_rfl)
      case hob =>
       iterate 8
        apply Oblig.cons
        case h =>
         intro S w1 hwi hSi hd hcl
         apply StepOk.intro
         intro K hK
         have qy3 := (hwi.blk HY1.out (fun h => h)).k19
         go_simp
         apply hK
         · rfl
         · conv => (lhs; whnf)
         · exact hwi
        simp only [put_lit, put_none]
        try dsimp only [List.set_cons_succ, List.set_cons_zero]
       apply Oblig.cons
       case h =>
        intro S w1 hwi hSi hd hcl
        apply StepOk.intro
        intro K hK
        have qy3 := (hwi.blk HY1.out (fun h => h)).k19
        go_simp
        refine (show Calls Tryz.prog 54 #[.agg #[i64 t, i64 s, i64 g, i64 l, i64 r, i64 k, .slice PA pn pc, .slice LA ln lc], i64 nd] w1 (Ret (i64 av) w1) from by have h := ref_Avail t s g l r k PA pn pc LA ln lc nd w1 hs0 hs1 hv0 hv1; rw [← HAV.out] at h; exact h).mono ?_
        rintro e w2 ⟨rfl, hk⟩
        apply hK
        · rfl
        · conv => (lhs; whnf)
        · exact Keep0.step hwi hk
       simp only [put_lit, put_none]
       try dsimp only [List.set_cons_succ, List.set_cons_zero]
       apply Oblig.cons
       case h =>
        intro S w1 hwi hSi hd hcl
        apply StepOk.intro
        intro K hK
        have qy3 := (hwi.blk HY1.out (fun h => h)).k19
        go_simp
        apply hK
        · rfl
        · conv => (lhs; whnf)
        · exact hwi
       simp only [put_lit, put_none]
       try dsimp only [List.set_cons_succ, List.set_cons_zero]
       exact Oblig.nil
      case h0 =>
       exact (Keep.refl _ _).drew
      case hend =>
       intro S wx hwi hall
       obtain ⟨w2, rfl⟩ : ∃ w2 : World, w2 = wx := ⟨_, rfl⟩
       have HY2 := hid (hwi.blk HY1.out (fun h => h))
       have HM2 := hid (HM1.out.keep hwi (fun _ _ h => h))
       have HK2 := hid (HK1.out.trans hwi (fun _ _ h => h))
       have qy2 := HY2.out.k19
       clear hwi hall HY1 HM1 HK1 qy1
       go_wp2_with fail
       refine (ref_LoadN av HM2.out (by omega) hL).mono ?_
       rintro e w3 ⟨rfl, A3, c3, lv3, hm, hk, ha, hl⟩
       have hb := hk.blk HY2.out (ry_far HM2.out HY2.out)
       have HK3 := hid ((HK2.out.mono (T := fun b => b = m ∨ lv.ownBlock = some b) (fun _ h => h.elim)).trans hk (fun _ _ h => h))
       have HM3 := hid hm
       have HY3 := hid hb
       have HA3 := hid (fun b h => (ha b h).imp id (fun h => Nat.le_trans HK2.out.size h))
       have HL3 := hid (fun b h => (hl b h).imp id (fun h => Nat.le_trans HK2.out.size h))
       have qy3 := hb.k19
       clear hm hk ha hl hb HK2 HM2 HY2 qy2
       go_wp2_with fail
       have HY4 := hid (show Blk (((w3).setCell ⟨y, 13, none⟩ (i64 (rd W av))).setCell ⟨y, 11, none⟩ (i64 (3))) y 122 [i64 t, i64 s, i64 g, i64 l, i64 r, i64 k, .slice PA pn pc, .slice LA ln lc, i64 nd, i64 n, i64 st, i64 (3), i64 (had), i64 (rd W av), i64 (extra), i64 0, i64 0, .bool false, i64 0] from (((HY3.out).set 13 _).set 11 _))
       have HKY4 := hid (show Keep (fun k => k = y) w3 (((w3).setCell ⟨y, 13, none⟩ (i64 (rd W av))).setCell ⟨y, 11, none⟩ (i64 (3))) from ((((Keep.refl (fun k => k = y) w3)).set ⟨y, 13, none⟩ _ (fun _ => rfl)).set ⟨y, 11, none⟩ _ (fun _ => rfl)))
       clear qy3
       generalize ((w3).setCell ⟨y, 13, none⟩ (i64 (rd W av))).setCell ⟨y, 11, none⟩ (i64 (3)) = w4 at *
       have qy4 := HY4.out.k19
       go_region
       go_wp2_with fail
       have HY5 := hid (show Blk ((w4.setCell ⟨y, 14, none⟩ (i64 (l / 2))).drew) y 122 [i64 t, i64 s, i64 g, i64 l, i64 r, i64 k, .slice PA pn pc, .slice LA ln lc, i64 nd, i64 n, i64 st, i64 (3), i64 (had), i64 (rd W av), i64 (l / 2), i64 0, i64 0, .bool false, i64 0] from (HY4.out.set 14 _).drew)
       have HKY5 := hid (show Keep (fun k => k = y) w3 ((w4.setCell ⟨y, 14, none⟩ (i64 (l / 2))).drew) from (HKY4.out.set _ _ (fun _ => rfl)).drew)
       clear qy4
       generalize (w4.setCell ⟨y, 14, none⟩ (i64 (l / 2))).drew = w5 at *
       have qy5 := HY5.out.k19
       go_region
       go_wp2_with fail
       go_ret
       exact rpoolP_of (x' := _) (e' := _) HM3.out HK3.out HA3.out HL3.out HY3.out (HKY5.out.trans (((Keep.refl (fun k => k = y) w5)).drew) (fun _ _ h => h)) ((HY5.out).drew) (fun h => rfl)
end
end Go.Proofs.YthaceckccobgeaaGreat

namespace Go.Proofs.YthaceckccobgeaaGreat
open Go.RowKit
set_option linter.unusedVariables false
set_option linter.unusedSimpArgs false
set_option maxRecDepth 100000
theorem wrap64_in (n : Int) (h : -9223372036854775808 ≤ n ∧ n ≤ 9223372036854775807) : wrap64 n = n := by unfold wrap64; omega
end Go.Proofs.YthaceckccobgeaaGreat

namespace Go.Proofs.YthaceckccobgeaaGreat
open Go.RowKit
set_option linter.unusedVariables false
set_option linter.unusedSimpArgs false
set_option maxRecDepth 100000
section
variable {B : Nat} {w : World} {m y : Nat} {A : Option Addr} {ca : Nat} {lv : Value} {av le : Nat} {t s g l r k nd n st X : Int} {PA : Option Addr} {pn pc : Nat} {LA : Option Addr} {ln lc : Nat}
set_option maxHeartbeats 4000000 in
theorem rpool_step6 (x : PS) (hm : RefAt B w m A ca lv x.W x.L) (hy : Blk w y 122 (rcs t s g l r k PA pn pc LA ln lc nd n st x x.extra)) (hi : PInv av le n l X x) (h0 : x.next = 6) (hX : X ≤ 4398046511104) (hL : x.L.length ≤ 1000000000) (hW : x.W.length ≤ 1000000) (hs0 : 1 ≤ s) (hs1 : s ≤ 8) (hv0 : 0 ≤ nd) (hv1 : nd ≤ 1000) (hu0 : 0 ≤ st) (hu1 : st ≤ 1000) (hav : (av : Int) = nd * (6 + 2 * s) + 1) (hle : (le : Int) = nd * (6 + 2 * s) + 2 + st) :
 Calls Tryz.prog 51 #[ptr y, ptr m] w (RPoolP B w m A lv y t s g l r k PA pn pc LA ln lc nd n st (pNext av le n l x)) := by
 obtain ⟨W, L, next, had, saw, extra, bad⟩ := x
 obtain ⟨la, ll, ne, n1, m1, wl, wa, nx, s1, s3, s4, s5, b⟩ := hi
 simp only at *
 subst h0
 obtain rfl : bad = false := by
  cases bad with
  | false => rfl
  | true => have := b rfl; omega
 have hy1 : Blk w y 122 [i64 t, i64 s, i64 g, i64 l, i64 r, i64 k, .slice PA pn pc, .slice LA ln lc, i64 nd, i64 n, i64 st, i64 (6), i64 (had), i64 (saw), i64 (extra), i64 0, i64 0, .bool false, i64 0] := hy
 have qy := hy1.k19
 have HY := hid hy1
 have HM := hid hm
 have HAV := hid hav
 have HLE := hid hle
 clear hy hy1 hm b nx hav hle
 have hx := s4 (by simp)
 have hwr : wrap64 (rd W av + extra) = rd W av + extra := wrap64_in _ (by omega)
 clear s1 s3 s4 s5
 have e : pNext av le n l ⟨W, L, 6, had, saw, extra, false⟩ = ⟨W.set av (rd W av + extra), L ++ [⟨2, av, extra, rd W av + extra, false⟩], 7, had, saw, extra, false⟩ := by simp [pNext]
 rw [e]
 clear e
 go_enter Tryz.func51, Tryz.ntmps51
 go_wp2_with fail
 apply wp_region_text (WI := fun S wx => Keep0 w wx) (by kernel_rfl) (by kernel_rfl)
 case hob =>
  iterate 12
   apply Oblig.cons
   case h =>
    intro S w1 hwi hSi hd hcl
    apply StepOk.intro
    intro K hK
    have qy3 := (hwi.blk HY.out (fun h => h)).k19
    go_simp
    apply hK
    · rfl
    · conv => (lhs; whnf)
    · exact hwi
   simp only [put_lit, put_none]
   try dsimp only [List.set_cons_succ, List.set_cons_zero]
  apply Oblig.cons
  case h =>
   intro S w1 hwi hSi hd hcl
   apply StepOk.intro
   intro K hK
   have qy3 := (hwi.blk HY.out (fun h => h)).k19
   go_simp
   refine (show Calls Tryz.prog 90 #[.agg #[i64 t, i64 s, i64 g, i64 l, i64 r, i64 k, .slice PA pn pc, .slice LA ln lc], i64 nd, i64 st] w1 (Ret (i64 le) w1) from by have h := ref_Lease t s g l r k PA pn pc LA ln lc nd st w1 hs0 hs1 hv0 hv1 hu0 hu1; rw [← HLE.out] at h; exact h).mono ?_
   rintro e w2 ⟨rfl, hk⟩
   apply hK
   · rfl
   · conv => (lhs; whnf)
   · exact Keep0.step hwi hk
  simp only [put_lit, put_none]
  try dsimp only [List.set_cons_succ, List.set_cons_zero]
  apply Oblig.cons
  case h =>
   intro S w1 hwi hSi hd hcl
   apply StepOk.intro
   intro K hK
   have qy3 := (hwi.blk HY.out (fun h => h)).k19
   go_simp
   apply hK
   · rfl
   · conv => (lhs; whnf)
   · exact hwi
  simp only [put_lit, put_none]
  try dsimp only [List.set_cons_succ, List.set_cons_zero]
  exact Oblig.nil
 case h0 =>
  exact (Keep.refl _ _).drew
 case hend =>
  intro S wx hwi hall
  obtain ⟨w1, rfl⟩ : ∃ w1 : World, w1 = wx := ⟨_, rfl⟩
  have HY1 := hid (hwi.blk HY.out (fun h => h))
  have HM1 := hid (HM.out.keep hwi (fun _ _ h => h))
  have HK1 := hid hwi
  have qy1 := HY1.out.k19
  clear hwi hall HY HM qy
  go_wp2_with fail
  apply wp_region_text (WI := fun S wx => Keep0 w1 wx) (by kernel_rfl) (by kernel_rfl)
  case hob =>
   iterate 8
    apply Oblig.cons
    case h =>
     intro S w1 hwi hSi hd hcl
     apply StepOk.intro
     intro K hK
     have qy3 := (hwi.blk HY1.out (fun h => h)).k19
     go_simp
     apply hK
     · rfl
     · conv => (lhs; whnf)
     · exact hwi
    simp only [put_lit, put_none]
    try dsimp only [List.set_cons_succ, List.set_cons_zero]
   apply Oblig.cons
   case h =>
    intro S w1 hwi hSi hd hcl
    apply StepOk.intro
    intro K hK
    have qy3 := (hwi.blk HY1.out (fun h => h)).k19
    go_simp
    refine (show Calls Tryz.prog 54 #[.agg #[i64 t, i64 s, i64 g, i64 l, i64 r, i64 k, .slice PA pn pc, .slice LA ln lc], i64 nd] w1 (Ret (i64 av) w1) from by have h := ref_Avail t s g l r k PA pn pc LA ln lc nd w1 hs0 hs1 hv0 hv1; rw [← HAV.out] at h; exact h).mono ?_
    rintro e w2 ⟨rfl, hk⟩
    apply hK
    · rfl
    · conv => (lhs; whnf)
    · exact Keep0.step hwi hk
   simp only [put_lit, put_none]
   try dsimp only [List.set_cons_succ, List.set_cons_zero]
   apply Oblig.cons
   case h =>
    intro S w1 hwi hSi hd hcl
    apply StepOk.intro
    intro K hK
    have qy3 := (hwi.blk HY1.out (fun h => h)).k19
    go_simp
    apply hK
    · rfl
    · conv => (lhs; whnf)
    · exact hwi
   simp only [put_lit, put_none]
   try dsimp only [List.set_cons_succ, List.set_cons_zero]
   exact Oblig.nil
  case h0 =>
   exact (Keep.refl _ _).drew
  case hend =>
   intro S wx hwi hall
   obtain ⟨w2, rfl⟩ : ∃ w2 : World, w2 = wx := ⟨_, rfl⟩
   have HY2 := hid (hwi.blk HY1.out (fun h => h))
   have HM2 := hid (HM1.out.keep hwi (fun _ _ h => h))
   have HK2 := hid (HK1.out.trans hwi (fun _ _ h => h))
   have qy2 := HY2.out.k19
   clear hwi hall HY1 HM1 HK1 qy1
   go_wp2_with fail
   refine Calls.mono (show Calls Tryz.prog 53 #[ptr m, i64 av, i64 extra] w2 (fun e w' => e = .returned (i64 (rd W av + extra)) ∧ RefPost B w2 m A lv (W.set av (rd W av + extra)) (L ++ [⟨2, av, extra, rd W av + extra, false⟩]) w') from by have h := ref_Add (av : Int) extra HM2.out (by omega) (by omega) hW hL; rw [Int.toNat_natCast, hwr] at h; exact h) ?_
   rintro e w3 ⟨rfl, A3, c3, lv3, hm, hk, ha, hl⟩
   have hb := hk.blk HY2.out (ry_far HM2.out HY2.out)
   have HK3 := hid ((HK2.out.mono (T := fun b => b = m ∨ lv.ownBlock = some b) (fun _ h => h.elim)).trans hk (fun _ _ h => h))
   have HM3 := hid hm
   have HY3 := hid hb
   have HA3 := hid (fun b h => (ha b h).imp id (fun h => Nat.le_trans HK2.out.size h))
   have HL3 := hid (fun b h => (hl b h).imp id (fun h => Nat.le_trans HK2.out.size h))
   have qy3 := hb.k19
   clear hm hk ha hl hb HK2 HM2 HY2 qy2
   go_wp2_with fail
   go_ret
   exact rpoolP_of (x' := _) (e' := _) HM3.out HK3.out HA3.out HL3.out HY3.out ((((Keep.refl (fun k => k = y) w3)).set ⟨y, 11, none⟩ _ (fun _ => rfl))) ((HY3.out).set 11 _) (fun _ => rfl)
set_option maxHeartbeats 4000000 in
theorem rpool_over {W : List Int} {L : List Acc} {c12 c13 c14 c15 c16 c17 c18 : Value} (hm : RefAt B w m A ca lv W L) (hy : Blk w y 122 [i64 t, i64 s, i64 g, i64 l, i64 r, i64 k, .slice PA pn pc, .slice LA ln lc, i64 nd, i64 n, i64 st, i64 9, c12, c13, c14, c15, c16, c17, c18]) (hs0 : 1 ≤ s) (hs1 : s ≤ 8) (hv0 : 0 ≤ nd) (hv1 : nd ≤ 1000) (hu0 : 0 ≤ st) (hu1 : st ≤ 1000) (hav : (av : Int) = nd * (6 + 2 * s) + 1) (hle : (le : Int) = nd * (6 + 2 * s) + 2 + st) :
 Calls Tryz.prog 51 #[ptr y, ptr m] w fun e w' => e = .returned (.bool true) ∧ Keep0 w w' := by
 have qy := hy.k19
 have HY := hid hy
 have HM := hid hm
 have HAV := hid hav
 have HLE := hid hle
 clear hy hm hav hle
 go_enter Tryz.func51, Tryz.ntmps51
 go_wp2_with fail
 apply wp_region_text (WI := fun S wx => Keep0 w wx) (by kernel_rfl) (by kernel_rfl)
 case hob =>
  iterate 12
   apply Oblig.cons
   case h =>
    intro S w1 hwi hSi hd hcl
    apply StepOk.intro
    intro K hK
    have qy3 := (hwi.blk HY.out (fun h => h)).k19
    go_simp
    apply hK
    · rfl
    · conv => (lhs; whnf)
    · exact hwi
   simp only [put_lit, put_none]
   try dsimp only [List.set_cons_succ, List.set_cons_zero]
  apply Oblig.cons
  case h =>
   intro S w1 hwi hSi hd hcl
   apply StepOk.intro
   intro K hK
   have qy3 := (hwi.blk HY.out (fun h => h)).k19
   go_simp
   refine (show Calls Tryz.prog 90 #[.agg #[i64 t, i64 s, i64 g, i64 l, i64 r, i64 k, .slice PA pn pc, .slice LA ln lc], i64 nd, i64 st] w1 (Ret (i64 le) w1) from by have h := ref_Lease t s g l r k PA pn pc LA ln lc nd st w1 hs0 hs1 hv0 hv1 hu0 hu1; rw [← HLE.out] at h; exact h).mono ?_
   rintro e w2 ⟨rfl, hk⟩
   apply hK
   · rfl
   · conv => (lhs; whnf)
   · exact Keep0.step hwi hk
  simp only [put_lit, put_none]
  try dsimp only [List.set_cons_succ, List.set_cons_zero]
  apply Oblig.cons
  case h =>
   intro S w1 hwi hSi hd hcl
   apply StepOk.intro
   intro K hK
   have qy3 := (hwi.blk HY.out (fun h => h)).k19
   go_simp
   apply hK
   · rfl
   · conv => (lhs; whnf)
   · exact hwi
  simp only [put_lit, put_none]
  try dsimp only [List.set_cons_succ, List.set_cons_zero]
  exact Oblig.nil
 case h0 =>
  exact (Keep.refl _ _).drew
 case hend =>
  intro S wx hwi hall
  obtain ⟨w1, rfl⟩ : ∃ w1 : World, w1 = wx := ⟨_, rfl⟩
  have HY1 := hid (hwi.blk HY.out (fun h => h))
  have HM1 := hid (HM.out.keep hwi (fun _ _ h => h))
  have HK1 := hid hwi
  have qy1 := HY1.out.k19
  clear hwi hall HY HM qy
  go_wp2_with fail
  apply wp_region_text (WI := fun S wx => Keep0 w1 wx) (by kernel_rfl) (by kernel_rfl)
  case hob =>
   iterate 8
    apply Oblig.cons
    case h =>
     intro S w1 hwi hSi hd hcl
     apply StepOk.intro
     intro K hK
     have qy3 := (hwi.blk HY1.out (fun h => h)).k19
     go_simp
     apply hK
     · rfl
     · conv => (lhs; whnf)
     · exact hwi
    simp only [put_lit, put_none]
    try dsimp only [List.set_cons_succ, List.set_cons_zero]
   apply Oblig.cons
   case h =>
    intro S w1 hwi hSi hd hcl
    apply StepOk.intro
    intro K hK
    have qy3 := (hwi.blk HY1.out (fun h => h)).k19
    go_simp
    refine (show Calls Tryz.prog 54 #[.agg #[i64 t, i64 s, i64 g, i64 l, i64 r, i64 k, .slice PA pn pc, .slice LA ln lc], i64 nd] w1 (Ret (i64 av) w1) from by have h := ref_Avail t s g l r k PA pn pc LA ln lc nd w1 hs0 hs1 hv0 hv1; rw [← HAV.out] at h; exact h).mono ?_
    rintro e w2 ⟨rfl, hk⟩
    apply hK
    · rfl
    · conv => (lhs; whnf)
    · exact Keep0.step hwi hk
   simp only [put_lit, put_none]
   try dsimp only [List.set_cons_succ, List.set_cons_zero]
   apply Oblig.cons
   case h =>
    intro S w1 hwi hSi hd hcl
    apply StepOk.intro
    intro K hK
    have qy3 := (hwi.blk HY1.out (fun h => h)).k19
    go_simp
    apply hK
    · rfl
    · conv => (lhs; whnf)
    · exact hwi
   simp only [put_lit, put_none]
   try dsimp only [List.set_cons_succ, List.set_cons_zero]
   exact Oblig.nil
  case h0 =>
   exact (Keep.refl _ _).drew
  case hend =>
   intro S wx hwi hall
   obtain ⟨w2, rfl⟩ : ∃ w2 : World, w2 = wx := ⟨_, rfl⟩
   have HY2 := hid (hwi.blk HY1.out (fun h => h))
   have HM2 := hid (HM1.out.keep hwi (fun _ _ h => h))
   have HK2 := hid (HK1.out.trans hwi (fun _ _ h => h))
   have qy2 := HY2.out.k19
   clear hwi hall HY1 HM1 HK1 qy1
   go_wp2_with fail
   go_ret
   exact ⟨rfl, HK2.out⟩
def RPoolQ (B : Nat) (w : World) (m : Nat) (A : Option Addr) (lv : Value) (y : Nat) (t s g l r k : Int) (PA : Option Addr) (pn pc : Nat) (LA : Option Addr) (ln lc : Nat) (nd n st : Int) (x : PS) (w' : World) : Prop :=
 ∃ A' c' lv' e', RefAt B w' m A' c' lv' x.W x.L ∧ Blk w' y 122 (rcs t s g l r k PA pn pc LA ln lc nd n st x e') ∧ (x.next < 7 → e' = x.extra) ∧ Keep (fun b => (b = m ∨ lv.ownBlock = some b) ∨ b = y) w w' ∧
  (∀ b, (Value.slice A' 0 0).ownBlock = some b → (Value.slice A 0 0).ownBlock = some b ∨ w.heap.size ≤ b) ∧ (∀ b, lv'.ownBlock = some b → lv.ownBlock = some b ∨ w.heap.size ≤ b)
theorem rpool_Step (x : PS) {e0 : Int} (hm : RefAt B w m A ca lv x.W x.L) (hy : Blk w y 122 (rcs t s g l r k PA pn pc LA ln lc nd n st x e0)) (he : x.next < 7 → e0 = x.extra) (hi : PInv av le n l X x) (hX : X ≤ 4398046511104) (hL : x.L.length ≤ 1000000000) (hW : x.W.length ≤ 1000000) (hs0 : 1 ≤ s) (hs1 : s ≤ 8) (hv0 : 0 ≤ nd) (hv1 : nd ≤ 1000) (hu0 : 0 ≤ st) (hu1 : st ≤ 1000) (hav : (av : Int) = nd * (6 + 2 * s) + 1) (hle : (le : Int) = nd * (6 + 2 * s) + 2 + st) :
 Calls Tryz.prog 51 #[ptr y, ptr m] w fun e w' => e = .returned (.bool (pStp av le n l x).2) ∧ RPoolQ B w m A lv y t s g l r k PA pn pc LA ln lc nd n st (pStp av le n l x).1 w' := by
 by_cases h7 : x.next = 7
 · have e1 : (pStp av le n l x).1 = x := pNext_over h7
   have e2 : (pStp av le n l x).2 = true := by
    show decide ((pNext av le n l x).next = 7) = true
    rw [pNext_over h7]; simpa using h7
   rw [e1, e2]
   have hy2 := hy
   unfold rcs at hy2
   rw [if_pos h7] at hy2
   refine (rpool_over hm hy2 hs0 hs1 hv0 hv1 hu0 hu1 hav hle).mono ?_
   rintro e w' ⟨rfl, hk⟩
   exact ⟨rfl, A, ca, lv, e0, hm.keep hk (fun _ _ h => h), hk.blk hy (fun h => h), he, hk.mono (fun _ h => h.elim), fun _ h => Or.inl h, fun _ h => Or.inl h⟩
 · have h7' : x.next < 7 := by have := hi.nx; omega
   obtain rfl := he h7'
   have h : x.next = 0 ∨ x.next = 1 ∨ x.next = 2 ∨ x.next = 3 ∨ x.next = 4 ∨ x.next = 5 ∨ x.next = 6 := by omega
   refine Calls.mono (R := RPoolP B w m A lv y t s g l r k PA pn pc LA ln lc nd n st (pNext av le n l x)) ?_ (fun e w' h => ⟨h.1, h.2⟩)
   rcases h with h | h | h | h | h | h | h
   · exact rpool_step0 x hm hy hi h hX hL hW hs0 hs1 hv0 hv1 hu0 hu1 hav hle
   · exact rpool_step1 x hm hy hi h hX hL hW hs0 hs1 hv0 hv1 hu0 hu1 hav hle
   · exact rpool_step2 x hm hy hi h hX hL hW hs0 hs1 hv0 hv1 hu0 hu1 hav hle
   · exact rpool_step3 x hm hy hi h hX hL hW hs0 hs1 hv0 hv1 hu0 hu1 hav hle
   · exact rpool_step4 x hm hy hi h hX hL hW hs0 hs1 hv0 hv1 hu0 hu1 hav hle
   · exact rpool_step5 x hm hy hi h hX hL hW hs0 hs1 hv0 hv1 hu0 hu1 hav hle
   · exact rpool_step6 x hm hy hi h hX hL hW hs0 hs1 hv0 hv1 hu0 hu1 hav hle
set_option maxHeartbeats 1000000 in
theorem rans_any {c0 c1 c2 c3 c4 c5 c6 c7 c8 c9 c10 c11 c12 c13 c14 : Value} {e1 e2 : Int} (hx : Blk w y 122 [c0, c1, c2, c3, c4, c5, c6, c7, c8, c9, c10, c11, c12, c13, c14, i64 e1, i64 0, .bool false, i64 e2]) : Calls Tryz.prog 91 #[ptr y] w (Ret (.agg #[i64 e1, i64 0, .bool false, i64 e2]) w) := by
 have qx := hx.k19
 clear hx
 go_enter Tryz.func91, Tryz.ntmps91
 go_wp2
 exact bodyPost_ret (v := .agg #[i64 e1, i64 0, .bool false, i64 e2]) (by simp [results, Tryz.results91, go_sem]) rfl ⟨rfl, (Keep.refl _ _).alloc _⟩
end
end Go.Proofs.YthaceckccobgeaaGreat

namespace Go.Proofs.YthaceckccobgeaaGreat
open Go.RowKit
set_option linter.unusedVariables false
set_option linter.unusedSimpArgs false
set_option maxRecDepth 100000
theorem ref2_Begin (n : Int) (w : World) (h : 0 ≤ n ∧ n ≤ 1000) : Calls Tryz.prog 114 #[i64 n] w (fun e w' => e = .returned (i64 (dBegin n)) ∧ w = w') := by
 have y1 : IntKind.i64.wrap (n + 1) = n + 1 := IntWalk.i64_in _ (by omega)
 have y2 : IntKind.i64.wrap ((n + 1) * 2654435761) = (n + 1) * 2654435761 := IntWalk.i64_in _ (by omega)
 have y3 : wrap64 (((n + 1) * 2654435761).tmod 4294967296) = dBegin n := by
  rw [Int.tmod_eq_emod_of_nonneg (by omega)]
  show wrap64 (dBegin n) = dBegin n
  have h1 : 0 ≤ dBegin n := Int.emod_nonneg _ (by omega)
  have h2 : dBegin n < 4294967296 := Int.emod_lt_of_pos _ (by omega)
  unfold wrap64
  omega
 go_enter Tryz.func114, Tryz.ntmps114
 go_wp2_with fail
 go_ret
 exact ⟨rfl, rfl⟩
theorem ref2_Pick (x n : Int) (w : World) (hx : 0 ≤ x ∧ x ≤ 9223372036854775807) (hn : 1 ≤ n) : Calls Tryz.prog 95 #[i64 x, i64 n] w (fun e w' => e = .returned (i64 (x % n)) ∧ w = w') := by
 have hn0 : n ≠ 0 := by omega
 have y : x.tmod n = x % n := Int.tmod_eq_emod_of_nonneg hx.1
 go_enter Tryz.func95, Tryz.ntmps95
 go_wp2_with fail
 go_ret
 exact ⟨rfl, rfl⟩
theorem ref2_Next (x : Int) (w : World) (hx : 0 ≤ x ∧ x < 4294967296) : Calls Tryz.prog 98 #[i64 x] w (fun e w' => e = .returned (i64 (dNext x)) ∧ w = w') := by
 have key : ∀ z : Int, 0 ≤ z ∧ z < 4294967296 → dSt z 3 = xUp 5 (xDn 17 (xUp 13 z)) := fun _ _ => rfl
 by_cases h1 : 1 ≤ x
 · have hd : dNext x = xUp 5 (xDn 17 (xUp 13 x)) := by unfold dNext; rw [if_pos (by omega)]; rfl
   have y1 : IntKind.u32.wrap x = x := by rw [IntKind.wrap_u32]; omega
   have y1' : x % 4294967296 = x := by omega
   have c1 : decide (x < 1) = false := by simp; omega
   have c2 : decide (4294967296 ≤ x) = false := by simp; omega
   have b1 := dSt_bd x hx 1
   have b2 := dSt_bd x hx 2
   have b3 := dSt_bd x hx 3
   have hq : wrap64 (xUp 5 (xDn 17 (xUp 13 x))) = xUp 5 (xDn 17 (xUp 13 x)) := by have h := b3; rw [key x hx] at h; unfold wrap64; omega
   rw [hd]
   clear hd key b1 b2 b3
   have HQ := hid hq
   clear hq
   go_enter Tryz.func98, Tryz.ntmps98
   go_wp2_with fail
   go_ret
   exact ⟨congrArg (fun z => Ending.returned (i64 z)) HQ.out, rfl⟩
 · obtain rfl : x = 0 := by omega
   have hd : dNext 0 = xUp 5 (xDn 17 (xUp 13 1)) := by unfold dNext; rw [if_neg (by omega)]; rfl
   rw [hd]
   clear hd
   go_enter Tryz.func98, Tryz.ntmps98
   go_wp2_with fail
   go_ret
   exact ⟨by first | rfl | kernel_rfl, rfl⟩
def rcs6 (b s : Nat) (g d : Int) (t : AS) : List Value := [i64 (b : Int), i64 (s : Int), i64 g, i64 d, i64 t.x, i64 (t.st : Int), i64 t.lv, i64 ((t.sp - (b + 4) : Nat) : Int), i64 t.w, i64 t.v]
def WEnd (last : Nat) (P Q : World → Prop) (S : Nat → Bool) (wx : World) : Prop := (S last = false → P wx) ∧ (S last = true → Q wx)
theorem WEnd.fixed {last : Nat} {P Q : World → Prop} {S : Nat → Bool} {wx : World} {i : Nat} (h : WEnd last P Q S wx) (hi : i ≠ last) : WEnd last P Q (upd S i) wx := by
 unfold WEnd
 rw [show upd S i last = S last from by simp [upd, Ne.symm hi]]
 exact h
theorem WEnd.done {last : Nat} {P Q : World → Prop} {S : Nat → Bool} {wx : World} (h : Q wx) : WEnd last P Q (upd S last) wx := by
 unfold WEnd
 rw [show upd S last last = true from by simp [upd]]
 exact ⟨(fun h => by cases h), fun _ => h⟩
section
variable {B : Nat} {w : World} {m y : Nat} {A : Option Addr} {ca : Nat} {lv : Value} {W : List Int} {L : List Acc} {b s I : Nat} {g d x0 l6 ww vv : Int}
theorem r6_far {cs : List Value} (hm : RefAt B w m A ca lv W L) (hy : Blk w y 127 cs) : ¬ (y = m ∨ lv.ownBlock = some y) := by
 rintro (h | h)
 · exact hy.ne hm.mem (by decide) h
 · exact ownBlock_ne hm.log hy (by decide) h.symm
theorem r6_far2 {cs : List Value} (hm : RefAt B w m A ca lv W L) (hy : Blk w y 127 cs) (c : Nat) (hb : RF m A lv c) : c ≠ y := by
 rintro rfl
 rcases hb with h | h | h
 · exact hy.ne hm.mem (by decide) h
 · exact ownBlock_ne hm.words hy (by decide) ((own_any _ _ _ _ _).trans h).symm
 · exact ownBlock_ne hm.log hy (by decide) h.symm
theorem r6_LoadJ (i : Int) (j : Nat) (hij : i = (j : Int)) (hm : RefAt B w m A ca lv W L) (hi : j < W.length) (hL : L.length ≤ 1000000000) :
 Calls Tryz.prog 86 #[ptr m, i64 i] w fun e w' => e = .returned (i64 (rd W j)) ∧ RefPost B w m A lv W (L ++ [⟨1, j, rd W j, 0, false⟩]) w' := by
 subst hij
 have h := ref_Load (j : Int) hm (by omega) (by omega) hL
 rwa [Int.toNat_natCast] at h
theorem r6_CasJ (i : Int) (j : Nat) (hij : i = (j : Int)) (old x : Int) (hm : RefAt B w m A ca lv W L) (hi : j < W.length) (hW : W.length ≤ 1000000) (hL : L.length ≤ 1000000000) :
 Calls Tryz.prog 88 #[ptr m, i64 i, i64 old, i64 x] w fun e w' => e = .returned (.bool (rd W j == old)) ∧ RefPost B w m A lv (casW W j old x) (L ++ [⟨3, j, old, x, rd W j == old⟩]) w' := by
 subst hij
 have h := ref_Cas (j : Int) old x hm (by omega) (by omega) hW hL
 rwa [Int.toNat_natCast] at h
theorem r6_CasB (i : Int) (j : Nat) (hij : i = (j : Int)) (old x : Int) (bo : Bool) (hq : (rd W j == old) = bo) (hm : RefAt B w m A ca lv W L) (hi : j < W.length) (hW : W.length ≤ 1000000) (hL : L.length ≤ 1000000000) :
 Calls Tryz.prog 88 #[ptr m, i64 i, i64 old, i64 x] w fun e w' => e = .returned (.bool bo) ∧ RefPost B w m A lv (casW W j old x) (L ++ [⟨3, j, old, x, bo⟩]) w' := by
 subst hq
 exact r6_CasJ i j hij old x hm hi hW hL
theorem r6_AddJ (i : Int) (j : Nat) (hij : i = (j : Int)) (x : Int) (hm : RefAt B w m A ca lv W L) (hi : j < W.length) (hW : W.length ≤ 1000000) (hL : L.length ≤ 1000000000) :
 Calls Tryz.prog 53 #[ptr m, i64 i, i64 x] w fun e w' => e = .returned (i64 (wrap64 (rd W j + x))) ∧ RefPost B w m A lv (W.set j (wrap64 (rd W j + x))) (L ++ [⟨2, j, x, wrap64 (rd W j + x), false⟩]) w' := by
 subst hij
 have h := ref_Add (j : Int) x hm (by omega) (by omega) hW hL
 rwa [Int.toNat_natCast] at h
def R6P (B : Nat) (w : World) (m : Nat) (A : Option Addr) (lv : Value) (y b s : Nat) (g d : Int) (t : AS) (e : Ending) (w' : World) : Prop :=
 e = .returned (.bool (decide (t.st = 9))) ∧ ∃ A' c' lv', RefAt B w' m A' c' lv' t.W t.L ∧ Blk w' y 127 (rcs6 b s g d t) ∧ Keep (fun c => (c = m ∨ lv.ownBlock = some c) ∨ c = y) w w' ∧
  (∀ c, (Value.slice A' 0 0).ownBlock = some c → (Value.slice A 0 0).ownBlock = some c ∨ w.heap.size ≤ c) ∧ (∀ c, lv'.ownBlock = some c → lv.ownBlock = some c ∨ w.heap.size ≤ c)
theorem r6_end {w2 : World} {A1 : Option Addr} {c1 : Nat} {lv1 : Value} {t : AS} {e : Ending} (he : e = .returned (.bool (decide (t.st = 9)))) (hm : RefAt B w2 m A1 c1 lv1 t.W t.L) (hk : Keep (fun c => (c = m ∨ lv.ownBlock = some c) ∨ c = y) w w2)
 (ha : ∀ c, (Value.slice A1 0 0).ownBlock = some c → (Value.slice A 0 0).ownBlock = some c ∨ w.heap.size ≤ c) (hl : ∀ c, lv1.ownBlock = some c → lv.ownBlock = some c ∨ w.heap.size ≤ c)
 {cells : List Value} (hy : Blk w2 y 127 cells) (hc : rcs6 b s g d t = cells) : R6P B w m A lv y b s g d t e w2 := ⟨he, A1, c1, lv1, hm, by rw [hc]; exact hy, hk, ha, hl⟩
def m6x (s : Nat) (l6 x0 : Int) : Int := if l6 < s then x0 else dNext x0
def m6a (s : Nat) (l6 : Int) : Int := if l6 < s then 8 else 0
set_option maxHeartbeats 2000000 in
theorem r6_miss {at_ : Int} (hy : Blk w y 127 [i64 (b : Int), i64 (s : Int), i64 g, i64 d, i64 (x0), i64 (at_), i64 (l6), i64 ((I : Nat) : Int), i64 (ww), i64 (vv)]) (hx : 0 ≤ x0 ∧ x0 < 4294967296) :
 Calls Tryz.prog 97 #[ptr y] w (fun e w' => e = .returned (.tuple #[]) ∧ Blk w' y 127 [i64 (b : Int), i64 (s : Int), i64 g, i64 d, i64 (m6x s l6 x0), i64 (m6a s l6), i64 (l6), i64 ((I : Nat) : Int), i64 (ww), i64 (vv)] ∧ Keep (fun c => c = y) w w') := by
 have HY := hid hy
 have qy := hy.k10
 clear hy
 by_cases hc : l6 < (s : Int)
 · have e1 : m6x s l6 x0 = x0 := if_pos hc
   have e2 : m6a s l6 = 8 := if_pos hc
   rw [e1, e2]
   clear e1 e2
   go_enter Tryz.func97, Tryz.ntmps97
   go_wp2_with fail
   go_quiet (fail)
   go_wp2_with fail
   go_end0
   exact ⟨rfl, (HY.out.drewN nq).set 5 _, ((Keep.refl (fun c => c = y) _).drewN nq).set ⟨y, 5, none⟩ _ (fun _ => rfl)⟩
 · have e1 : m6x s l6 x0 = dNext x0 := if_neg hc
   have e2 : m6a s l6 = 0 := if_neg hc
   rw [e1, e2]
   clear e1 e2
   go_enter Tryz.func97, Tryz.ntmps97
   go_wp2_with fail
   go_quiet (fail)
   have HY2 := hid (HY.out.drewN nq)
   have HK2 := hid ((Keep.refl (fun c => c = y) w).drewN nq)
   generalize w.drewN nq = w2 at *
   have qy2 := HY2.out.k10
   go_wp2_with fail
   refine (ref2_Next x0 _ hx).mono ?_
   rintro e w3 ⟨rfl, rfl⟩
   go_wp2_with fail
   go_end0
   exact ⟨rfl, (HY2.out.set 4 _).set 5 _, (HK2.out.set ⟨y, 4, none⟩ _ (fun _ => rfl)).set ⟨y, 5, none⟩ _ (fun _ => rfl)⟩
end
end Go.Proofs.YthaceckccobgeaaGreat

namespace Go.Proofs.YthaceckccobgeaaGreat
open Go.RowKit
set_option linter.unusedVariables false
set_option linter.unusedSimpArgs false
set_option maxRecDepth 100000
section
variable {B : Nat} {w : World} {m y : Nat} {A : Option Addr} {ca : Nat} {lv : Value} {W : List Int} {L : List Acc} {b s I : Nat} {g d x0 l6 ww vv : Int}
set_option maxHeartbeats 4000000 in
theorem r6_step0 (hm : RefAt B w m A ca lv W L) (hy : Blk w y 127 [i64 (b : Int), i64 (s : Int), i64 g, i64 d, i64 (x0), i64 (0), i64 (l6), i64 ((I : Nat) : Int), i64 (ww), i64 (vv)]) (hi : AInv b s g d ⟨W, L, 0, x0, l6, b + 4 + I, ww, vv⟩) (hb0 : b ≤ 1000) (hIb : I ≤ 2000) (hL : L.length ≤ 1000000000) :
 Calls Tryz.prog 60 #[ptr y, ptr m] w (R6P B w m A lv y b s g d (aNext b s g d ⟨W, L, 0, x0, l6, b + 4 + I, ww, vv⟩)) := by
 obtain ⟨ln, wl, s1, g1, d1, lw, xb, nx, lb, pb, vb, gr⟩ := hi
 simp only at *
 have hs8 : 1 ≤ s ∧ s ≤ 8 := by unfold p2 at s1; omega
 have hW : W.length ≤ 1000000 := by omega
 have HY0 : Hid (Blk w y 127 [i64 (b : Int), i64 (s : Int), i64 g, i64 d, i64 (x0), i64 (0), i64 (l6), i64 ((I : Nat) : Int), i64 (ww), i64 (vv)]) := hid hy
 have qy0 := HY0.out.k10
 have HM0 := hid hm
 have HK0 : Hid (Keep (fun c => (c = m ∨ lv.ownBlock = some c) ∨ c = y) w w) := hid (Keep.refl _ _)
 have HA0 := hid (fun (c : Nat) (h : (Value.slice A 0 0).ownBlock = some c) => (Or.inl h : (Value.slice A 0 0).ownBlock = some c ∨ w.heap.size ≤ c))
 have HL0 := hid (fun (c : Nat) (h : lv.ownBlock = some c) => (Or.inl h : lv.ownBlock = some c ∨ w.heap.size ≤ c))
 clear hy hm
 have hnl1 : 1 ≤ rd W (b + 3) ∧ rd W (b + 3) ≤ 8 := by unfold p2 at lw; omega
 obtain ⟨nl, hnl⟩ : ∃ nl, rd W (b + 3) = nl := ⟨_, rfl⟩
 rw [hnl] at hnl1
 have hm0 := Int.emod_nonneg x0 (show nl ≠ 0 by omega)
 obtain ⟨I2, hI2⟩ : ∃ I2 : Nat, (I2 : Int) = x0 % nl := ⟨(x0 % nl).toNat, by omega⟩
 have HI2 := hid hI2
 have e : aNext b s g d ⟨W, L, 0, x0, l6, b + 4 + I, ww, vv⟩ = ⟨W, L ++ [⟨1, (b + 3 : Nat), nl, 0, false⟩], 1, x0, nl, b + 4 + I2, ww, vv⟩ := by simp only [aNext]; rw [hnl, ← hI2, Int.toNat_natCast]
 rw [e]
 clear e hI2 hm0
 have y1 : IntKind.i64.wrap ((b : Int) + 4) = (b : Int) + 4 := IntWalk.i64_in _ (by omega)
 have y2 : IntKind.i64.wrap ((b : Int) + 4 + (I : Int)) = (b : Int) + 4 + (I : Int) := IntWalk.i64_in _ (by omega)
 go_enter Tryz.func60, Tryz.ntmps60
 go_wp2_with fail
 go_quiet (fail)
 obtain ⟨w1, hw1⟩ : ∃ w', w' = w.drewN nq := ⟨_, rfl⟩
 rw [← hw1]
 have HY1 := hid (show Blk w1 y 127 [i64 (b : Int), i64 (s : Int), i64 g, i64 d, i64 (x0), i64 (0), i64 (l6), i64 ((I : Nat) : Int), i64 (ww), i64 (vv)] from by rw [hw1]; exact HY0.out.drewN nq)
 have HM1 := hid (RefAt.keep HM0.out (show Keep (fun c => c = y) w w1 from by rw [hw1]; exact (Keep.refl _ _).drewN nq) (fun c h => r6_far2 HM0.out HY0.out c h))
 have HK1 : Hid (Keep (fun c => (c = m ∨ lv.ownBlock = some c) ∨ c = y) w w1) := hid (HK0.out.trans (show Keep (fun c => c = y) w w1 from by rw [hw1]; exact (Keep.refl _ _).drewN nq) (fun c _ h => Or.inr h))
 have HA1 := HA0
 have HL1 := HL0
 clear qy0 HY0 HM0 HK0 HA0 HL0
 have qy1 := HY1.out.k10
 clear hw1
 clear y1 y2
 have y8 : IntKind.i64.wrap ((b : Int) + 3) = (b : Int) + 3 := IntWalk.i64_in _ (by omega)
 go_wp2_with fail
 refine (r6_LoadJ ((b : Int) + 3) (b + 3) (by omega) HM1.out (by omega) hL).mono ?_
 rintro e w2 ⟨rfl, A3, c3, lv3, hm, hk, ha, hl⟩
 have HY2 := hid (show Blk w2 y 127 [i64 (b : Int), i64 (s : Int), i64 g, i64 d, i64 (x0), i64 (0), i64 (l6), i64 ((I : Nat) : Int), i64 (ww), i64 (vv)] from hk.blk HY1.out (r6_far HM1.out HY1.out))
 have HM2 := hid hm
 have HK2 : Hid (Keep (fun c => (c = m ∨ lv.ownBlock = some c) ∨ c = y) w w2) := hid (HK1.out.trans hk (fun _ _ h => Or.inl h))
 have HA2 := hid (fun c h => (ha c h).imp id (fun h => Nat.le_trans HK1.out.size h))
 have HL2 := hid (fun c h => (hl c h).imp id (fun h => Nat.le_trans HK1.out.size h))
 clear hm hk ha hl qy1 HY1 HM1 HK1 HA1 HL1
 have qy2 := HY2.out.k10
 rw [hnl] at HM2
 rw [hnl]
 go_wp2_with fail
 have hyq := (show Blk ((w2).setCell ⟨y, 6, none⟩ (i64 (nl))) y 127 [i64 (b : Int), i64 (s : Int), i64 g, i64 d, i64 (x0), i64 (0), i64 (nl), i64 ((I : Nat) : Int), i64 (ww), i64 (vv)] from (HY2.out).set 6 _)
 have hkq := (show Keep (fun c => c = y) w2 ((w2).setCell ⟨y, 6, none⟩ (i64 (nl))) from ((Keep.refl (fun c => c = y) w2)).set ⟨y, 6, none⟩ _ (fun _ => rfl))
 generalize (w2).setCell ⟨y, 6, none⟩ (i64 (nl)) = w3 at *
 have HY3 := hid (show Blk w3 y 127 [i64 (b : Int), i64 (s : Int), i64 g, i64 d, i64 (x0), i64 (0), i64 (nl), i64 ((I : Nat) : Int), i64 (ww), i64 (vv)] from hyq)
 have HM3 := hid (RefAt.keep HM2.out (show Keep (fun c => c = y) w2 w3 from hkq) (fun c h => r6_far2 HM2.out HY2.out c h))
 have HK3 : Hid (Keep (fun c => (c = m ∨ lv.ownBlock = some c) ∨ c = y) w w3) := hid (HK2.out.trans (show Keep (fun c => c = y) w2 w3 from hkq) (fun c _ h => Or.inr h))
 have HA3 := HA2
 have HL3 := HL2
 clear qy2 HY2 HM2 HK2 HA2 HL2
 have qy3 := HY3.out.k10
 clear hyq hkq
 apply wp_region_text (WI := WEnd 12 (fun wx => Blk wx y 127 [i64 (b : Int), i64 (s : Int), i64 g, i64 d, i64 (x0), i64 (0), i64 (nl), i64 ((I : Nat) : Int), i64 (ww), i64 (vv)] ∧ Keep0 w3 wx) (fun wx => Blk wx y 127 [i64 (b : Int), i64 (s : Int), i64 g, i64 d, i64 (x0), i64 (0), i64 (nl), i64 ((I2 : Nat) : Int), i64 (ww), i64 (vv)] ∧ Keep (fun c => c = y) w3 wx)) (by kernel_rfl) (by kernel_rfl)
 case hob =>
  iterate 4
   apply Oblig.cons
   case h =>
    intro S w1 hwi hSi hd hcl
    apply StepOk.intro
    intro K hK
    go_simp
    apply hK
    · rfl
    · conv => (lhs; whnf)
    · exact hwi.fixed (by decide)
   simp only [put_lit, put_none]
   try dsimp only [List.set_cons_succ, List.set_cons_zero]
  apply Oblig.cons
  case h =>
   intro S w1 hwi hSi hd hcl
   apply StepOk.intro
   intro K hK
   have hlast : S 12 = false := by
    cases h : S 12 with
    | false => rfl
    | true => exact absurd ((hcl 12 _ rfl h) ⟨4, .phase⟩ (by simp) rfl) (by rw [hSi]; decide)
   have qyq := (hwi.1 hlast).1.k10
   go_simp
   apply hK
   · rfl
   · conv => (lhs; whnf)
   · exact hwi.fixed (by decide)
  simp only [put_lit, put_none]
  try dsimp only [List.set_cons_succ, List.set_cons_zero]
  iterate 3
   apply Oblig.cons
   case h =>
    intro S w1 hwi hSi hd hcl
    apply StepOk.intro
    intro K hK
    go_simp
    apply hK
    · rfl
    · conv => (lhs; whnf)
    · exact hwi.fixed (by decide)
   simp only [put_lit, put_none]
   try dsimp only [List.set_cons_succ, List.set_cons_zero]
  apply Oblig.cons
  case h =>
   intro S w1 hwi hSi hd hcl
   apply StepOk.intro
   intro K hK
   have hlast : S 12 = false := by
    cases h : S 12 with
    | false => rfl
    | true => exact absurd ((hcl 12 _ rfl h) ⟨8, .phase⟩ (by simp) rfl) (by rw [hSi]; decide)
   have qyq := (hwi.1 hlast).1.k10
   go_simp
   apply hK
   · rfl
   · conv => (lhs; whnf)
   · exact hwi.fixed (by decide)
  simp only [put_lit, put_none]
  try dsimp only [List.set_cons_succ, List.set_cons_zero]
  apply Oblig.cons
  case h =>
   intro S w1 hwi hSi hd hcl
   apply StepOk.intro
   intro K hK
   go_simp
   refine (show Calls Tryz.prog 95 #[i64 x0, i64 nl] w1 (fun e w' => e = .returned (i64 (I2 : Int)) ∧ w1 = w') from by rw [HI2.out]; exact ref2_Pick x0 nl _ (by omega) (by omega)).mono ?_
   rintro e w2 ⟨rfl, rfl⟩
   apply hK
   · rfl
   · conv => (lhs; whnf)
   · exact hwi.fixed (by decide)
  simp only [put_lit, put_none]
  try dsimp only [List.set_cons_succ, List.set_cons_zero]
  iterate 2
   apply Oblig.cons
   case h =>
    intro S w1 hwi hSi hd hcl
    apply StepOk.intro
    intro K hK
    go_simp
    apply hK
    · rfl
    · conv => (lhs; whnf)
    · exact hwi.fixed (by decide)
   simp only [put_lit, put_none]
   try dsimp only [List.set_cons_succ, List.set_cons_zero]
  apply Oblig.cons
  case h =>
   intro S w1 hwi hSi hd hcl
   apply StepOk.intro
   intro K hK
   have qyq := (hwi.1 hSi).1.k10
   go_simp
   apply hK
   · rfl
   · conv => (lhs; whnf)
   · exact WEnd.done ⟨(hwi.1 hSi).1.set 7 _, ((hwi.1 hSi).2.mono (fun _ h => h.elim)).set ⟨y, 7, none⟩ _ (fun _ => rfl)⟩
  simp only [put_lit, put_none]
  try dsimp only [List.set_cons_succ, List.set_cons_zero]
  exact Oblig.nil
 case h0 =>
  exact ⟨fun _ => ⟨HY3.out.drew, (Keep.refl _ _).drew⟩, (fun h => by cases h)⟩
 case hend =>
  intro S wx hwi hall
  obtain ⟨hyq, hkq⟩ := hwi.2 (hall 12 (by decide))
  obtain ⟨w4, hw4⟩ : ∃ w', w' = wx := ⟨_, rfl⟩
  rw [← hw4] at hyq hkq
  rw [← hw4]
  have HY4 := hid (show Blk w4 y 127 [i64 (b : Int), i64 (s : Int), i64 g, i64 d, i64 (x0), i64 (0), i64 (nl), i64 ((I2 : Nat) : Int), i64 (ww), i64 (vv)] from hyq)
  have HM4 := hid (RefAt.keep HM3.out (show Keep (fun c => c = y) w3 w4 from hkq) (fun c h => r6_far2 HM3.out HY3.out c h))
  have HK4 : Hid (Keep (fun c => (c = m ∨ lv.ownBlock = some c) ∨ c = y) w w4) := hid (HK3.out.trans (show Keep (fun c => c = y) w3 w4 from hkq) (fun c _ h => Or.inr h))
  have HA4 := HA3
  have HL4 := HL3
  clear qy3 HY3 HM3 HK3 HA3 HL3
  have qy4 := HY4.out.k10
  clear hw4 hyq hkq hwi hall
  go_wp2_with fail
  go_ret
  exact r6_end rfl (HM4.out.keep (((Keep.refl (fun c => c = y) w4)).set ⟨y, 5, none⟩ _ (fun _ => rfl)) (fun c h => r6_far2 HM4.out HY4.out c h)) (HK4.out.trans (((Keep.refl (fun c => c = y) w4)).set ⟨y, 5, none⟩ _ (fun _ => rfl)) (fun c _ h => Or.inr h)) HA4.out HL4.out ((HY4.out).set 5 _) (by simp only [rcs6, Nat.add_sub_cancel_left]; rfl)
set_option maxHeartbeats 4000000 in
theorem r6_step1 (hm : RefAt B w m A ca lv W L) (hy : Blk w y 127 [i64 (b : Int), i64 (s : Int), i64 g, i64 d, i64 (x0), i64 (1), i64 (l6), i64 ((I : Nat) : Int), i64 (ww), i64 (vv)]) (hi : AInv b s g d ⟨W, L, 1, x0, l6, b + 4 + I, ww, vv⟩) (hb0 : b ≤ 1000) (hIb : I ≤ 2000) (hL : L.length ≤ 1000000000) :
 Calls Tryz.prog 60 #[ptr y, ptr m] w (R6P B w m A lv y b s g d (aNext b s g d ⟨W, L, 1, x0, l6, b + 4 + I, ww, vv⟩)) := by
 obtain ⟨ln, wl, s1, g1, d1, lw, xb, nx, lb, pb, vb, gr⟩ := hi
 simp only at *
 have hs8 : 1 ≤ s ∧ s ≤ 8 := by unfold p2 at s1; omega
 have hW : W.length ≤ 1000000 := by omega
 have HY0 : Hid (Blk w y 127 [i64 (b : Int), i64 (s : Int), i64 g, i64 d, i64 (x0), i64 (1), i64 (l6), i64 ((I : Nat) : Int), i64 (ww), i64 (vv)]) := hid hy
 have qy0 := HY0.out.k10
 have HM0 := hid hm
 have HK0 : Hid (Keep (fun c => (c = m ∨ lv.ownBlock = some c) ∨ c = y) w w) := hid (Keep.refl _ _)
 have HA0 := hid (fun (c : Nat) (h : (Value.slice A 0 0).ownBlock = some c) => (Or.inl h : (Value.slice A 0 0).ownBlock = some c ∨ w.heap.size ≤ c))
 have HL0 := hid (fun (c : Nat) (h : lv.ownBlock = some c) => (Or.inl h : lv.ownBlock = some c ∨ w.heap.size ≤ c))
 clear hy hm
 obtain ⟨wo, hwo⟩ : ∃ wo, rd W (b + 4 + I) = wo := ⟨_, rfl⟩
 have hpv := pVal_bd wo
 obtain ⟨vn, hvn⟩ : ∃ vn, pVal wo + d = vn := ⟨_, rfl⟩
 have hvn' : vn = pVal wo + d := hvn.symm
 have yv : IntKind.i64.wrap (pVal wo + d) = vn := by rw [hvn]; exact IntWalk.i64_in _ (by omega)
 have yg : IntKind.i64.wrap (-g) = -g := IntWalk.i64_in _ (by omega)
 have pb' := pb (by omega) (by omega)
 by_cases hc : max vn (-vn) < g
 · clear hvn
   have e : aNext b s g d ⟨W, L, 1, x0, l6, b + 4 + I, ww, vv⟩ = ⟨W, L ++ [⟨1, (b + 4 + I : Nat), wo, 0, false⟩], 2, x0, l6, b + 4 + I, wo, vn⟩ := by simp only [aNext]; rw [hwo, ← hvn', if_pos (by omega)]
   rw [e]
   clear e
   have dg1 : decide (-g < vn) = true := by simp; omega
   have dg2 : decide (vn < g) = true := by simp; omega
   clear hvn' hc
   have y1 : IntKind.i64.wrap ((b : Int) + 4) = (b : Int) + 4 := IntWalk.i64_in _ (by omega)
   have y2 : IntKind.i64.wrap ((b : Int) + 4 + (I : Int)) = (b : Int) + 4 + (I : Int) := IntWalk.i64_in _ (by omega)
   go_enter Tryz.func60, Tryz.ntmps60
   go_wp2_with fail
   go_quiet (fail)
   obtain ⟨w1, hw1⟩ : ∃ w', w' = w.drewN nq := ⟨_, rfl⟩
   rw [← hw1]
   have HY1 := hid (show Blk w1 y 127 [i64 (b : Int), i64 (s : Int), i64 g, i64 d, i64 (x0), i64 (1), i64 (l6), i64 ((I : Nat) : Int), i64 (ww), i64 (vv)] from by rw [hw1]; exact HY0.out.drewN nq)
   have HM1 := hid (RefAt.keep HM0.out (show Keep (fun c => c = y) w w1 from by rw [hw1]; exact (Keep.refl _ _).drewN nq) (fun c h => r6_far2 HM0.out HY0.out c h))
   have HK1 : Hid (Keep (fun c => (c = m ∨ lv.ownBlock = some c) ∨ c = y) w w1) := hid (HK0.out.trans (show Keep (fun c => c = y) w w1 from by rw [hw1]; exact (Keep.refl _ _).drewN nq) (fun c _ h => Or.inr h))
   have HA1 := HA0
   have HL1 := HL0
   clear qy0 HY0 HM0 HK0 HA0 HL0
   have qy1 := HY1.out.k10
   clear hw1
   clear y1 y2
   go_wp2_with fail
   refine (r6_LoadJ ((b : Int) + 4 + (I : Int)) (b + 4 + I) (by omega) HM1.out (by omega) hL).mono ?_
   rintro e w2 ⟨rfl, A3, c3, lv3, hm, hk, ha, hl⟩
   have HY2 := hid (show Blk w2 y 127 [i64 (b : Int), i64 (s : Int), i64 g, i64 d, i64 (x0), i64 (1), i64 (l6), i64 ((I : Nat) : Int), i64 (ww), i64 (vv)] from hk.blk HY1.out (r6_far HM1.out HY1.out))
   have HM2 := hid hm
   have HK2 : Hid (Keep (fun c => (c = m ∨ lv.ownBlock = some c) ∨ c = y) w w2) := hid (HK1.out.trans hk (fun _ _ h => Or.inl h))
   have HA2 := hid (fun c h => (ha c h).imp id (fun h => Nat.le_trans HK1.out.size h))
   have HL2 := hid (fun c h => (hl c h).imp id (fun h => Nat.le_trans HK1.out.size h))
   clear hm hk ha hl qy1 HY1 HM1 HK1 HA1 HL1
   have qy2 := HY2.out.k10
   rw [hwo] at HM2
   rw [hwo]
   go_wp2_with fail
   have hyq := (show Blk ((w2).setCell ⟨y, 8, none⟩ (i64 (wo))) y 127 [i64 (b : Int), i64 (s : Int), i64 g, i64 d, i64 (x0), i64 (1), i64 (l6), i64 ((I : Nat) : Int), i64 (wo), i64 (vv)] from (HY2.out).set 8 _)
   have hkq := (show Keep (fun c => c = y) w2 ((w2).setCell ⟨y, 8, none⟩ (i64 (wo))) from ((Keep.refl (fun c => c = y) w2)).set ⟨y, 8, none⟩ _ (fun _ => rfl))
   generalize (w2).setCell ⟨y, 8, none⟩ (i64 (wo)) = w3 at *
   have HY3 := hid (show Blk w3 y 127 [i64 (b : Int), i64 (s : Int), i64 g, i64 d, i64 (x0), i64 (1), i64 (l6), i64 ((I : Nat) : Int), i64 (wo), i64 (vv)] from hyq)
   have HM3 := hid (RefAt.keep HM2.out (show Keep (fun c => c = y) w2 w3 from hkq) (fun c h => r6_far2 HM2.out HY2.out c h))
   have HK3 : Hid (Keep (fun c => (c = m ∨ lv.ownBlock = some c) ∨ c = y) w w3) := hid (HK2.out.trans (show Keep (fun c => c = y) w2 w3 from hkq) (fun c _ h => Or.inr h))
   have HA3 := HA2
   have HL3 := HL2
   clear qy2 HY2 HM2 HK2 HA2 HL2
   have qy3 := HY3.out.k10
   clear hyq hkq
   apply wp_region_text (WI := WEnd 13 (fun wx => Blk wx y 127 [i64 (b : Int), i64 (s : Int), i64 g, i64 d, i64 (x0), i64 (1), i64 (l6), i64 ((I : Nat) : Int), i64 (wo), i64 (vv)] ∧ Keep0 w3 wx) (fun wx => Blk wx y 127 [i64 (b : Int), i64 (s : Int), i64 g, i64 d, i64 (x0), i64 (1), i64 (l6), i64 ((I : Nat) : Int), i64 (wo), i64 (vn)] ∧ Keep (fun c => c = y) w3 wx)) (by kernel_rfl) (by kernel_rfl)
   case hob =>
    iterate 4
     apply Oblig.cons
     case h =>
      intro S w1 hwi hSi hd hcl
      apply StepOk.intro
      intro K hK
      go_simp
      apply hK
      · rfl
      · conv => (lhs; whnf)
      · exact hwi.fixed (by decide)
     simp only [put_lit, put_none]
     try dsimp only [List.set_cons_succ, List.set_cons_zero]
    apply Oblig.cons
    case h =>
     intro S w1 hwi hSi hd hcl
     apply StepOk.intro
     intro K hK
     have hlast : S 13 = false := by
      cases h : S 13 with
      | false => rfl
      | true => exact absurd ((hcl 13 _ rfl h) ⟨4, .phase⟩ (by simp) rfl) (by rw [hSi]; decide)
     have qyq := (hwi.1 hlast).1.k10
     go_simp
     apply hK
     · rfl
     · conv => (lhs; whnf)
     · exact hwi.fixed (by decide)
    simp only [put_lit, put_none]
    try dsimp only [List.set_cons_succ, List.set_cons_zero]
    apply Oblig.cons
    case h =>
     intro S w1 hwi hSi hd hcl
     apply StepOk.intro
     intro K hK
     go_simp
     refine (ref1_Value wo _).mono ?_
     rintro e w2 ⟨rfl, rfl⟩
     apply hK
     · rfl
     · conv => (lhs; whnf)
     · exact hwi.fixed (by decide)
    simp only [put_lit, put_none]
    try dsimp only [List.set_cons_succ, List.set_cons_zero]
    iterate 3
     apply Oblig.cons
     case h =>
      intro S w1 hwi hSi hd hcl
      apply StepOk.intro
      intro K hK
      go_simp
      apply hK
      · rfl
      · conv => (lhs; whnf)
      · exact hwi.fixed (by decide)
     simp only [put_lit, put_none]
     try dsimp only [List.set_cons_succ, List.set_cons_zero]
    apply Oblig.cons
    case h =>
     intro S w1 hwi hSi hd hcl
     apply StepOk.intro
     intro K hK
     have hlast : S 13 = false := by
      cases h : S 13 with
      | false => rfl
      | true => exact absurd ((hcl 13 _ rfl h) ⟨9, .phase⟩ (by simp) rfl) (by rw [hSi]; decide)
     have qyq := (hwi.1 hlast).1.k10
     go_simp
     apply hK
     · rfl
     · conv => (lhs; whnf)
     · exact hwi.fixed (by decide)
    simp only [put_lit, put_none]
    try dsimp only [List.set_cons_succ, List.set_cons_zero]
    iterate 3
     apply Oblig.cons
     case h =>
      intro S w1 hwi hSi hd hcl
      apply StepOk.intro
      intro K hK
      go_simp
      apply hK
      · rfl
      · conv => (lhs; whnf)
      · exact hwi.fixed (by decide)
     simp only [put_lit, put_none]
     try dsimp only [List.set_cons_succ, List.set_cons_zero]
    apply Oblig.cons
    case h =>
     intro S w1 hwi hSi hd hcl
     apply StepOk.intro
     intro K hK
     have qyq := (hwi.1 hSi).1.k10
     go_simp
     apply hK
     · rfl
     · conv => (lhs; whnf)
     · exact WEnd.done ⟨(hwi.1 hSi).1.set 9 _, ((hwi.1 hSi).2.mono (fun _ h => h.elim)).set ⟨y, 9, none⟩ _ (fun _ => rfl)⟩
    simp only [put_lit, put_none]
    try dsimp only [List.set_cons_succ, List.set_cons_zero]
    exact Oblig.nil
   case h0 =>
    exact ⟨fun _ => ⟨HY3.out.drew, (Keep.refl _ _).drew⟩, (fun h => by cases h)⟩
   case hend =>
    intro S wx hwi hall
    obtain ⟨hyq, hkq⟩ := hwi.2 (hall 13 (by decide))
    obtain ⟨w4, hw4⟩ : ∃ w', w' = wx := ⟨_, rfl⟩
    rw [← hw4] at hyq hkq
    rw [← hw4]
    have HY4 := hid (show Blk w4 y 127 [i64 (b : Int), i64 (s : Int), i64 g, i64 d, i64 (x0), i64 (1), i64 (l6), i64 ((I : Nat) : Int), i64 (wo), i64 (vn)] from hyq)
    have HM4 := hid (RefAt.keep HM3.out (show Keep (fun c => c = y) w3 w4 from hkq) (fun c h => r6_far2 HM3.out HY3.out c h))
    have HK4 : Hid (Keep (fun c => (c = m ∨ lv.ownBlock = some c) ∨ c = y) w w4) := hid (HK3.out.trans (show Keep (fun c => c = y) w3 w4 from hkq) (fun c _ h => Or.inr h))
    have HA4 := HA3
    have HL4 := HL3
    clear qy3 HY3 HM3 HK3 HA3 HL3
    have qy4 := HY4.out.k10
    clear hw4 hyq hkq hwi hall
    go_wp2_with fail
    have hyq := (show Blk ((w4).setCell ⟨y, 5, none⟩ (i64 (3))) y 127 [i64 (b : Int), i64 (s : Int), i64 g, i64 d, i64 (x0), i64 (3), i64 (l6), i64 ((I : Nat) : Int), i64 (wo), i64 (vn)] from (HY4.out).set 5 _)
    have hkq := (show Keep (fun c => c = y) w4 ((w4).setCell ⟨y, 5, none⟩ (i64 (3))) from ((Keep.refl (fun c => c = y) w4)).set ⟨y, 5, none⟩ _ (fun _ => rfl))
    generalize (w4).setCell ⟨y, 5, none⟩ (i64 (3)) = w5 at *
    have HY5 := hid (show Blk w5 y 127 [i64 (b : Int), i64 (s : Int), i64 g, i64 d, i64 (x0), i64 (3), i64 (l6), i64 ((I : Nat) : Int), i64 (wo), i64 (vn)] from hyq)
    have HM5 := hid (RefAt.keep HM4.out (show Keep (fun c => c = y) w4 w5 from hkq) (fun c h => r6_far2 HM4.out HY4.out c h))
    have HK5 : Hid (Keep (fun c => (c = m ∨ lv.ownBlock = some c) ∨ c = y) w w5) := hid (HK4.out.trans (show Keep (fun c => c = y) w4 w5 from hkq) (fun c _ h => Or.inr h))
    have HA5 := HA4
    have HL5 := HL4
    clear qy4 HY4 HM4 HK4 HA4 HL4
    have qy5 := HY5.out.k10
    clear hyq hkq
    go_quiet (fail)
    obtain ⟨w6, hw6⟩ : ∃ w', w' = w5.drewN nq := ⟨_, rfl⟩
    rw [← hw6]
    have HY6 := hid (show Blk w6 y 127 [i64 (b : Int), i64 (s : Int), i64 g, i64 d, i64 (x0), i64 (3), i64 (l6), i64 ((I : Nat) : Int), i64 (wo), i64 (vn)] from by rw [hw6]; exact HY5.out.drewN nq)
    have HM6 := hid (RefAt.keep HM5.out (show Keep (fun c => c = y) w5 w6 from by rw [hw6]; exact (Keep.refl _ _).drewN nq) (fun c h => r6_far2 HM5.out HY5.out c h))
    have HK6 : Hid (Keep (fun c => (c = m ∨ lv.ownBlock = some c) ∨ c = y) w w6) := hid (HK5.out.trans (show Keep (fun c => c = y) w5 w6 from by rw [hw6]; exact (Keep.refl _ _).drewN nq) (fun c _ h => Or.inr h))
    have HA6 := HA5
    have HL6 := HL5
    clear qy5 HY5 HM5 HK5 HA5 HL5
    have qy6 := HY6.out.k10
    clear hw6
    go_wp2_with fail
    go_ret
    exact r6_end rfl (HM6.out.keep (((Keep.refl (fun c => c = y) w6)).set ⟨y, 5, none⟩ _ (fun _ => rfl)) (fun c h => r6_far2 HM6.out HY6.out c h)) (HK6.out.trans (((Keep.refl (fun c => c = y) w6)).set ⟨y, 5, none⟩ _ (fun _ => rfl)) (fun c _ h => Or.inr h)) HA6.out HL6.out ((HY6.out).set 5 _) (by simp only [rcs6, Nat.add_sub_cancel_left]; rfl)
 · by_cases hc2 : vn ≤ -g
   · clear hvn
     have e : aNext b s g d ⟨W, L, 1, x0, l6, b + 4 + I, ww, vv⟩ = ⟨W, L ++ [⟨1, (b + 4 + I : Nat), wo, 0, false⟩], 3, x0, l6, b + 4 + I, wo, vn⟩ := by simp only [aNext]; rw [hwo, ← hvn', if_neg (by omega)]
     rw [e]
     clear e
     have dg1 : decide (-g < vn) = false := by simp; omega
     clear hvn' hc hc2
     have y1 : IntKind.i64.wrap ((b : Int) + 4) = (b : Int) + 4 := IntWalk.i64_in _ (by omega)
     have y2 : IntKind.i64.wrap ((b : Int) + 4 + (I : Int)) = (b : Int) + 4 + (I : Int) := IntWalk.i64_in _ (by omega)
     go_enter Tryz.func60, Tryz.ntmps60
     go_wp2_with fail
     go_quiet (fail)
     obtain ⟨w1, hw1⟩ : ∃ w', w' = w.drewN nq := ⟨_, rfl⟩
     rw [← hw1]
     have HY1 := hid (show Blk w1 y 127 [i64 (b : Int), i64 (s : Int), i64 g, i64 d, i64 (x0), i64 (1), i64 (l6), i64 ((I : Nat) : Int), i64 (ww), i64 (vv)] from by rw [hw1]; exact HY0.out.drewN nq)
     have HM1 := hid (RefAt.keep HM0.out (show Keep (fun c => c = y) w w1 from by rw [hw1]; exact (Keep.refl _ _).drewN nq) (fun c h => r6_far2 HM0.out HY0.out c h))
     have HK1 : Hid (Keep (fun c => (c = m ∨ lv.ownBlock = some c) ∨ c = y) w w1) := hid (HK0.out.trans (show Keep (fun c => c = y) w w1 from by rw [hw1]; exact (Keep.refl _ _).drewN nq) (fun c _ h => Or.inr h))
     have HA1 := HA0
     have HL1 := HL0
     clear qy0 HY0 HM0 HK0 HA0 HL0
     have qy1 := HY1.out.k10
     clear hw1
     clear y1 y2
     go_wp2_with fail
     refine (r6_LoadJ ((b : Int) + 4 + (I : Int)) (b + 4 + I) (by omega) HM1.out (by omega) hL).mono ?_
     rintro e w2 ⟨rfl, A3, c3, lv3, hm, hk, ha, hl⟩
     have HY2 := hid (show Blk w2 y 127 [i64 (b : Int), i64 (s : Int), i64 g, i64 d, i64 (x0), i64 (1), i64 (l6), i64 ((I : Nat) : Int), i64 (ww), i64 (vv)] from hk.blk HY1.out (r6_far HM1.out HY1.out))
     have HM2 := hid hm
     have HK2 : Hid (Keep (fun c => (c = m ∨ lv.ownBlock = some c) ∨ c = y) w w2) := hid (HK1.out.trans hk (fun _ _ h => Or.inl h))
     have HA2 := hid (fun c h => (ha c h).imp id (fun h => Nat.le_trans HK1.out.size h))
     have HL2 := hid (fun c h => (hl c h).imp id (fun h => Nat.le_trans HK1.out.size h))
     clear hm hk ha hl qy1 HY1 HM1 HK1 HA1 HL1
     have qy2 := HY2.out.k10
     rw [hwo] at HM2
     rw [hwo]
     go_wp2_with fail
     have hyq := (show Blk ((w2).setCell ⟨y, 8, none⟩ (i64 (wo))) y 127 [i64 (b : Int), i64 (s : Int), i64 g, i64 d, i64 (x0), i64 (1), i64 (l6), i64 ((I : Nat) : Int), i64 (wo), i64 (vv)] from (HY2.out).set 8 _)
     have hkq := (show Keep (fun c => c = y) w2 ((w2).setCell ⟨y, 8, none⟩ (i64 (wo))) from ((Keep.refl (fun c => c = y) w2)).set ⟨y, 8, none⟩ _ (fun _ => rfl))
     generalize (w2).setCell ⟨y, 8, none⟩ (i64 (wo)) = w3 at *
     have HY3 := hid (show Blk w3 y 127 [i64 (b : Int), i64 (s : Int), i64 g, i64 d, i64 (x0), i64 (1), i64 (l6), i64 ((I : Nat) : Int), i64 (wo), i64 (vv)] from hyq)
     have HM3 := hid (RefAt.keep HM2.out (show Keep (fun c => c = y) w2 w3 from hkq) (fun c h => r6_far2 HM2.out HY2.out c h))
     have HK3 : Hid (Keep (fun c => (c = m ∨ lv.ownBlock = some c) ∨ c = y) w w3) := hid (HK2.out.trans (show Keep (fun c => c = y) w2 w3 from hkq) (fun c _ h => Or.inr h))
     have HA3 := HA2
     have HL3 := HL2
     clear qy2 HY2 HM2 HK2 HA2 HL2
     have qy3 := HY3.out.k10
     clear hyq hkq
     apply wp_region_text (WI := WEnd 13 (fun wx => Blk wx y 127 [i64 (b : Int), i64 (s : Int), i64 g, i64 d, i64 (x0), i64 (1), i64 (l6), i64 ((I : Nat) : Int), i64 (wo), i64 (vv)] ∧ Keep0 w3 wx) (fun wx => Blk wx y 127 [i64 (b : Int), i64 (s : Int), i64 g, i64 d, i64 (x0), i64 (1), i64 (l6), i64 ((I : Nat) : Int), i64 (wo), i64 (vn)] ∧ Keep (fun c => c = y) w3 wx)) (by kernel_rfl) (by kernel_rfl)
     case hob =>
      iterate 4
       apply Oblig.cons
       case h =>
        intro S w1 hwi hSi hd hcl
        apply StepOk.intro
        intro K hK
        go_simp
        apply hK
        · rfl
        · conv => (lhs; whnf)
        · exact hwi.fixed (by decide)
       simp only [put_lit, put_none]
       try dsimp only [List.set_cons_succ, List.set_cons_zero]
      apply Oblig.cons
      case h =>
       intro S w1 hwi hSi hd hcl
       apply StepOk.intro
       intro K hK
       have hlast : S 13 = false := by
        cases h : S 13 with
        | false => rfl
        | true => exact absurd ((hcl 13 _ rfl h) ⟨4, .phase⟩ (by simp) rfl) (by rw [hSi]; decide)
       have qyq := (hwi.1 hlast).1.k10
       go_simp
       apply hK
       · rfl
       · conv => (lhs; whnf)
       · exact hwi.fixed (by decide)
      simp only [put_lit, put_none]
      try dsimp only [List.set_cons_succ, List.set_cons_zero]
      apply Oblig.cons
      case h =>
       intro S w1 hwi hSi hd hcl
       apply StepOk.intro
       intro K hK
       go_simp
       refine (ref1_Value wo _).mono ?_
       rintro e w2 ⟨rfl, rfl⟩
       apply hK
       · rfl
       · conv => (lhs; whnf)
       · exact hwi.fixed (by decide)
      simp only [put_lit, put_none]
      try dsimp only [List.set_cons_succ, List.set_cons_zero]
      iterate 3
       apply Oblig.cons
       case h =>
        intro S w1 hwi hSi hd hcl
        apply StepOk.intro
        intro K hK
        go_simp
        apply hK
        · rfl
        · conv => (lhs; whnf)
        · exact hwi.fixed (by decide)
       simp only [put_lit, put_none]
       try dsimp only [List.set_cons_succ, List.set_cons_zero]
      apply Oblig.cons
      case h =>
       intro S w1 hwi hSi hd hcl
       apply StepOk.intro
       intro K hK
       have hlast : S 13 = false := by
        cases h : S 13 with
        | false => rfl
        | true => exact absurd ((hcl 13 _ rfl h) ⟨9, .phase⟩ (by simp) rfl) (by rw [hSi]; decide)
       have qyq := (hwi.1 hlast).1.k10
       go_simp
       apply hK
       · rfl
       · conv => (lhs; whnf)
       · exact hwi.fixed (by decide)
      simp only [put_lit, put_none]
      try dsimp only [List.set_cons_succ, List.set_cons_zero]
      iterate 3
       apply Oblig.cons
       case h =>
        intro S w1 hwi hSi hd hcl
        apply StepOk.intro
        intro K hK
        go_simp
        apply hK
        · rfl
        · conv => (lhs; whnf)
        · exact hwi.fixed (by decide)
       simp only [put_lit, put_none]
       try dsimp only [List.set_cons_succ, List.set_cons_zero]
      apply Oblig.cons
      case h =>
       intro S w1 hwi hSi hd hcl
       apply StepOk.intro
       intro K hK
       have qyq := (hwi.1 hSi).1.k10
       go_simp
       apply hK
       · rfl
       · conv => (lhs; whnf)
       · exact WEnd.done ⟨(hwi.1 hSi).1.set 9 _, ((hwi.1 hSi).2.mono (fun _ h => h.elim)).set ⟨y, 9, none⟩ _ (fun _ => rfl)⟩
      simp only [put_lit, put_none]
      try dsimp only [List.set_cons_succ, List.set_cons_zero]
      exact Oblig.nil
     case h0 =>
      exact ⟨fun _ => ⟨HY3.out.drew, (Keep.refl _ _).drew⟩, (fun h => by cases h)⟩
     case hend =>
      intro S wx hwi hall
      obtain ⟨hyq, hkq⟩ := hwi.2 (hall 13 (by decide))
      obtain ⟨w4, hw4⟩ : ∃ w', w' = wx := ⟨_, rfl⟩
      rw [← hw4] at hyq hkq
      rw [← hw4]
      have HY4 := hid (show Blk w4 y 127 [i64 (b : Int), i64 (s : Int), i64 g, i64 d, i64 (x0), i64 (1), i64 (l6), i64 ((I : Nat) : Int), i64 (wo), i64 (vn)] from hyq)
      have HM4 := hid (RefAt.keep HM3.out (show Keep (fun c => c = y) w3 w4 from hkq) (fun c h => r6_far2 HM3.out HY3.out c h))
      have HK4 : Hid (Keep (fun c => (c = m ∨ lv.ownBlock = some c) ∨ c = y) w w4) := hid (HK3.out.trans (show Keep (fun c => c = y) w3 w4 from hkq) (fun c _ h => Or.inr h))
      have HA4 := HA3
      have HL4 := HL3
      clear qy3 HY3 HM3 HK3 HA3 HL3
      have qy4 := HY4.out.k10
      clear hw4 hyq hkq hwi hall
      go_wp2_with fail
      have hyq := (show Blk ((w4).setCell ⟨y, 5, none⟩ (i64 (3))) y 127 [i64 (b : Int), i64 (s : Int), i64 g, i64 d, i64 (x0), i64 (3), i64 (l6), i64 ((I : Nat) : Int), i64 (wo), i64 (vn)] from (HY4.out).set 5 _)
      have hkq := (show Keep (fun c => c = y) w4 ((w4).setCell ⟨y, 5, none⟩ (i64 (3))) from ((Keep.refl (fun c => c = y) w4)).set ⟨y, 5, none⟩ _ (fun _ => rfl))
      generalize (w4).setCell ⟨y, 5, none⟩ (i64 (3)) = w5 at *
      have HY5 := hid (show Blk w5 y 127 [i64 (b : Int), i64 (s : Int), i64 g, i64 d, i64 (x0), i64 (3), i64 (l6), i64 ((I : Nat) : Int), i64 (wo), i64 (vn)] from hyq)
      have HM5 := hid (RefAt.keep HM4.out (show Keep (fun c => c = y) w4 w5 from hkq) (fun c h => r6_far2 HM4.out HY4.out c h))
      have HK5 : Hid (Keep (fun c => (c = m ∨ lv.ownBlock = some c) ∨ c = y) w w5) := hid (HK4.out.trans (show Keep (fun c => c = y) w4 w5 from hkq) (fun c _ h => Or.inr h))
      have HA5 := HA4
      have HL5 := HL4
      clear qy4 HY4 HM4 HK4 HA4 HL4
      have qy5 := HY5.out.k10
      clear hyq hkq
      go_quiet (fail)
      obtain ⟨w6, hw6⟩ : ∃ w', w' = w5.drewN nq := ⟨_, rfl⟩
      rw [← hw6]
      have HY6 := hid (show Blk w6 y 127 [i64 (b : Int), i64 (s : Int), i64 g, i64 d, i64 (x0), i64 (3), i64 (l6), i64 ((I : Nat) : Int), i64 (wo), i64 (vn)] from by rw [hw6]; exact HY5.out.drewN nq)
      have HM6 := hid (RefAt.keep HM5.out (show Keep (fun c => c = y) w5 w6 from by rw [hw6]; exact (Keep.refl _ _).drewN nq) (fun c h => r6_far2 HM5.out HY5.out c h))
      have HK6 : Hid (Keep (fun c => (c = m ∨ lv.ownBlock = some c) ∨ c = y) w w6) := hid (HK5.out.trans (show Keep (fun c => c = y) w5 w6 from by rw [hw6]; exact (Keep.refl _ _).drewN nq) (fun c _ h => Or.inr h))
      have HA6 := HA5
      have HL6 := HL5
      clear qy5 HY5 HM5 HK5 HA5 HL5
      have qy6 := HY6.out.k10
      clear hw6
      go_wp2_with fail
      go_ret
      exact r6_end rfl (HM6.out.keep ((Keep.refl (fun c => c = y) w6)) (fun c h => r6_far2 HM6.out HY6.out c h)) (HK6.out.trans ((Keep.refl (fun c => c = y) w6)) (fun c _ h => Or.inr h)) HA6.out HL6.out (HY6.out) (by simp only [rcs6, Nat.add_sub_cancel_left]; rfl)
   · clear hvn
     have e : aNext b s g d ⟨W, L, 1, x0, l6, b + 4 + I, ww, vv⟩ = ⟨W, L ++ [⟨1, (b + 4 + I : Nat), wo, 0, false⟩], 3, x0, l6, b + 4 + I, wo, vn⟩ := by simp only [aNext]; rw [hwo, ← hvn', if_neg (by omega)]
     rw [e]
     clear e
     have dg1 : decide (-g < vn) = true := by simp; omega
     have dg2 : decide (vn < g) = false := by simp; omega
     clear hvn' hc hc2
     have y1 : IntKind.i64.wrap ((b : Int) + 4) = (b : Int) + 4 := IntWalk.i64_in _ (by omega)
     have y2 : IntKind.i64.wrap ((b : Int) + 4 + (I : Int)) = (b : Int) + 4 + (I : Int) := IntWalk.i64_in _ (by omega)
     go_enter Tryz.func60, Tryz.ntmps60
     go_wp2_with fail
     go_quiet (fail)
     obtain ⟨w1, hw1⟩ : ∃ w', w' = w.drewN nq := ⟨_, rfl⟩
     rw [← hw1]
     have HY1 := hid (show Blk w1 y 127 [i64 (b : Int), i64 (s : Int), i64 g, i64 d, i64 (x0), i64 (1), i64 (l6), i64 ((I : Nat) : Int), i64 (ww), i64 (vv)] from by rw [hw1]; exact HY0.out.drewN nq)
     have HM1 := hid (RefAt.keep HM0.out (show Keep (fun c => c = y) w w1 from by rw [hw1]; exact (Keep.refl _ _).drewN nq) (fun c h => r6_far2 HM0.out HY0.out c h))
     have HK1 : Hid (Keep (fun c => (c = m ∨ lv.ownBlock = some c) ∨ c = y) w w1) := hid (HK0.out.trans (show Keep (fun c => c = y) w w1 from by rw [hw1]; exact (Keep.refl _ _).drewN nq) (fun c _ h => Or.inr h))
     have HA1 := HA0
     have HL1 := HL0
     clear qy0 HY0 HM0 HK0 HA0 HL0
     have qy1 := HY1.out.k10
     clear hw1
     clear y1 y2
     go_wp2_with fail
     refine (r6_LoadJ ((b : Int) + 4 + (I : Int)) (b + 4 + I) (by omega) HM1.out (by omega) hL).mono ?_
     rintro e w2 ⟨rfl, A3, c3, lv3, hm, hk, ha, hl⟩
     have HY2 := hid (show Blk w2 y 127 [i64 (b : Int), i64 (s : Int), i64 g, i64 d, i64 (x0), i64 (1), i64 (l6), i64 ((I : Nat) : Int), i64 (ww), i64 (vv)] from hk.blk HY1.out (r6_far HM1.out HY1.out))
     have HM2 := hid hm
     have HK2 : Hid (Keep (fun c => (c = m ∨ lv.ownBlock = some c) ∨ c = y) w w2) := hid (HK1.out.trans hk (fun _ _ h => Or.inl h))
     have HA2 := hid (fun c h => (ha c h).imp id (fun h => Nat.le_trans HK1.out.size h))
     have HL2 := hid (fun c h => (hl c h).imp id (fun h => Nat.le_trans HK1.out.size h))
     clear hm hk ha hl qy1 HY1 HM1 HK1 HA1 HL1
     have qy2 := HY2.out.k10
     rw [hwo] at HM2
     rw [hwo]
     go_wp2_with fail
     have hyq := (show Blk ((w2).setCell ⟨y, 8, none⟩ (i64 (wo))) y 127 [i64 (b : Int), i64 (s : Int), i64 g, i64 d, i64 (x0), i64 (1), i64 (l6), i64 ((I : Nat) : Int), i64 (wo), i64 (vv)] from (HY2.out).set 8 _)
     have hkq := (show Keep (fun c => c = y) w2 ((w2).setCell ⟨y, 8, none⟩ (i64 (wo))) from ((Keep.refl (fun c => c = y) w2)).set ⟨y, 8, none⟩ _ (fun _ => rfl))
     generalize (w2).setCell ⟨y, 8, none⟩ (i64 (wo)) = w3 at *
     have HY3 := hid (show Blk w3 y 127 [i64 (b : Int), i64 (s : Int), i64 g, i64 d, i64 (x0), i64 (1), i64 (l6), i64 ((I : Nat) : Int), i64 (wo), i64 (vv)] from hyq)
     have HM3 := hid (RefAt.keep HM2.out (show Keep (fun c => c = y) w2 w3 from hkq) (fun c h => r6_far2 HM2.out HY2.out c h))
     have HK3 : Hid (Keep (fun c => (c = m ∨ lv.ownBlock = some c) ∨ c = y) w w3) := hid (HK2.out.trans (show Keep (fun c => c = y) w2 w3 from hkq) (fun c _ h => Or.inr h))
     have HA3 := HA2
     have HL3 := HL2
     clear qy2 HY2 HM2 HK2 HA2 HL2
     have qy3 := HY3.out.k10
     clear hyq hkq
     apply wp_region_text (WI := WEnd 13 (fun wx => Blk wx y 127 [i64 (b : Int), i64 (s : Int), i64 g, i64 d, i64 (x0), i64 (1), i64 (l6), i64 ((I : Nat) : Int), i64 (wo), i64 (vv)] ∧ Keep0 w3 wx) (fun wx => Blk wx y 127 [i64 (b : Int), i64 (s : Int), i64 g, i64 d, i64 (x0), i64 (1), i64 (l6), i64 ((I : Nat) : Int), i64 (wo), i64 (vn)] ∧ Keep (fun c => c = y) w3 wx)) (by kernel_rfl) (by kernel_rfl)
     case hob =>
      iterate 4
       apply Oblig.cons
       case h =>
        intro S w1 hwi hSi hd hcl
        apply StepOk.intro
        intro K hK
        go_simp
        apply hK
        · rfl
        · conv => (lhs; whnf)
        · exact hwi.fixed (by decide)
       simp only [put_lit, put_none]
       try dsimp only [List.set_cons_succ, List.set_cons_zero]
      apply Oblig.cons
      case h =>
       intro S w1 hwi hSi hd hcl
       apply StepOk.intro
       intro K hK
       have hlast : S 13 = false := by
        cases h : S 13 with
        | false => rfl
        | true => exact absurd ((hcl 13 _ rfl h) ⟨4, .phase⟩ (by simp) rfl) (by rw [hSi]; decide)
       have qyq := (hwi.1 hlast).1.k10
       go_simp
       apply hK
       · rfl
       · conv => (lhs; whnf)
       · exact hwi.fixed (by decide)
      simp only [put_lit, put_none]
      try dsimp only [List.set_cons_succ, List.set_cons_zero]
      apply Oblig.cons
      case h =>
       intro S w1 hwi hSi hd hcl
       apply StepOk.intro
       intro K hK
       go_simp
       refine (ref1_Value wo _).mono ?_
       rintro e w2 ⟨rfl, rfl⟩
       apply hK
       · rfl
       · conv => (lhs; whnf)
       · exact hwi.fixed (by decide)
      simp only [put_lit, put_none]
      try dsimp only [List.set_cons_succ, List.set_cons_zero]
      iterate 3
       apply Oblig.cons
       case h =>
        intro S w1 hwi hSi hd hcl
        apply StepOk.intro
        intro K hK
        go_simp
        apply hK
        · rfl
        · conv => (lhs; whnf)
        · exact hwi.fixed (by decide)
       simp only [put_lit, put_none]
       try dsimp only [List.set_cons_succ, List.set_cons_zero]
      apply Oblig.cons
      case h =>
       intro S w1 hwi hSi hd hcl
       apply StepOk.intro
       intro K hK
       have hlast : S 13 = false := by
        cases h : S 13 with
        | false => rfl
        | true => exact absurd ((hcl 13 _ rfl h) ⟨9, .phase⟩ (by simp) rfl) (by rw [hSi]; decide)
       have qyq := (hwi.1 hlast).1.k10
       go_simp
       apply hK
       · rfl
       · conv => (lhs; whnf)
       · exact hwi.fixed (by decide)
      simp only [put_lit, put_none]
      try dsimp only [List.set_cons_succ, List.set_cons_zero]
      iterate 3
       apply Oblig.cons
       case h =>
        intro S w1 hwi hSi hd hcl
        apply StepOk.intro
        intro K hK
        go_simp
        apply hK
        · rfl
        · conv => (lhs; whnf)
        · exact hwi.fixed (by decide)
       simp only [put_lit, put_none]
       try dsimp only [List.set_cons_succ, List.set_cons_zero]
      apply Oblig.cons
      case h =>
       intro S w1 hwi hSi hd hcl
       apply StepOk.intro
       intro K hK
       have qyq := (hwi.1 hSi).1.k10
       go_simp
       apply hK
       · rfl
       · conv => (lhs; whnf)
       · exact WEnd.done ⟨(hwi.1 hSi).1.set 9 _, ((hwi.1 hSi).2.mono (fun _ h => h.elim)).set ⟨y, 9, none⟩ _ (fun _ => rfl)⟩
      simp only [put_lit, put_none]
      try dsimp only [List.set_cons_succ, List.set_cons_zero]
      exact Oblig.nil
     case h0 =>
      exact ⟨fun _ => ⟨HY3.out.drew, (Keep.refl _ _).drew⟩, (fun h => by cases h)⟩
     case hend =>
      intro S wx hwi hall
      obtain ⟨hyq, hkq⟩ := hwi.2 (hall 13 (by decide))
      obtain ⟨w4, hw4⟩ : ∃ w', w' = wx := ⟨_, rfl⟩
      rw [← hw4] at hyq hkq
      rw [← hw4]
      have HY4 := hid (show Blk w4 y 127 [i64 (b : Int), i64 (s : Int), i64 g, i64 d, i64 (x0), i64 (1), i64 (l6), i64 ((I : Nat) : Int), i64 (wo), i64 (vn)] from hyq)
      have HM4 := hid (RefAt.keep HM3.out (show Keep (fun c => c = y) w3 w4 from hkq) (fun c h => r6_far2 HM3.out HY3.out c h))
      have HK4 : Hid (Keep (fun c => (c = m ∨ lv.ownBlock = some c) ∨ c = y) w w4) := hid (HK3.out.trans (show Keep (fun c => c = y) w3 w4 from hkq) (fun c _ h => Or.inr h))
      have HA4 := HA3
      have HL4 := HL3
      clear qy3 HY3 HM3 HK3 HA3 HL3
      have qy4 := HY4.out.k10
      clear hw4 hyq hkq hwi hall
      go_wp2_with fail
      have hyq := (show Blk ((w4).setCell ⟨y, 5, none⟩ (i64 (3))) y 127 [i64 (b : Int), i64 (s : Int), i64 g, i64 d, i64 (x0), i64 (3), i64 (l6), i64 ((I : Nat) : Int), i64 (wo), i64 (vn)] from (HY4.out).set 5 _)
      have hkq := (show Keep (fun c => c = y) w4 ((w4).setCell ⟨y, 5, none⟩ (i64 (3))) from ((Keep.refl (fun c => c = y) w4)).set ⟨y, 5, none⟩ _ (fun _ => rfl))
      generalize (w4).setCell ⟨y, 5, none⟩ (i64 (3)) = w5 at *
      have HY5 := hid (show Blk w5 y 127 [i64 (b : Int), i64 (s : Int), i64 g, i64 d, i64 (x0), i64 (3), i64 (l6), i64 ((I : Nat) : Int), i64 (wo), i64 (vn)] from hyq)
      have HM5 := hid (RefAt.keep HM4.out (show Keep (fun c => c = y) w4 w5 from hkq) (fun c h => r6_far2 HM4.out HY4.out c h))
      have HK5 : Hid (Keep (fun c => (c = m ∨ lv.ownBlock = some c) ∨ c = y) w w5) := hid (HK4.out.trans (show Keep (fun c => c = y) w4 w5 from hkq) (fun c _ h => Or.inr h))
      have HA5 := HA4
      have HL5 := HL4
      clear qy4 HY4 HM4 HK4 HA4 HL4
      have qy5 := HY5.out.k10
      clear hyq hkq
      go_quiet (fail)
      obtain ⟨w6, hw6⟩ : ∃ w', w' = w5.drewN nq := ⟨_, rfl⟩
      rw [← hw6]
      have HY6 := hid (show Blk w6 y 127 [i64 (b : Int), i64 (s : Int), i64 g, i64 d, i64 (x0), i64 (3), i64 (l6), i64 ((I : Nat) : Int), i64 (wo), i64 (vn)] from by rw [hw6]; exact HY5.out.drewN nq)
      have HM6 := hid (RefAt.keep HM5.out (show Keep (fun c => c = y) w5 w6 from by rw [hw6]; exact (Keep.refl _ _).drewN nq) (fun c h => r6_far2 HM5.out HY5.out c h))
      have HK6 : Hid (Keep (fun c => (c = m ∨ lv.ownBlock = some c) ∨ c = y) w w6) := hid (HK5.out.trans (show Keep (fun c => c = y) w5 w6 from by rw [hw6]; exact (Keep.refl _ _).drewN nq) (fun c _ h => Or.inr h))
      have HA6 := HA5
      have HL6 := HL5
      clear qy5 HY5 HM5 HK5 HA5 HL5
      have qy6 := HY6.out.k10
      clear hw6
      go_wp2_with fail
      go_ret
      exact r6_end rfl (HM6.out.keep ((Keep.refl (fun c => c = y) w6)) (fun c h => r6_far2 HM6.out HY6.out c h)) (HK6.out.trans ((Keep.refl (fun c => c = y) w6)) (fun c _ h => Or.inr h)) HA6.out HL6.out (HY6.out) (by simp only [rcs6, Nat.add_sub_cancel_left]; rfl)
set_option maxHeartbeats 4000000 in
theorem r6_step2 (hm : RefAt B w m A ca lv W L) (hy : Blk w y 127 [i64 (b : Int), i64 (s : Int), i64 g, i64 d, i64 (x0), i64 (2), i64 (l6), i64 ((I : Nat) : Int), i64 (ww), i64 (vv)]) (hi : AInv b s g d ⟨W, L, 2, x0, l6, b + 4 + I, ww, vv⟩) (hb0 : b ≤ 1000) (hIb : I ≤ 2000) (hL : L.length ≤ 1000000000) :
 Calls Tryz.prog 60 #[ptr y, ptr m] w (R6P B w m A lv y b s g d (aNext b s g d ⟨W, L, 2, x0, l6, b + 4 + I, ww, vv⟩)) := by
 obtain ⟨ln, wl, s1, g1, d1, lw, xb, nx, lb, pb, vb, gr⟩ := hi
 simp only at *
 have hs8 : 1 ≤ s ∧ s ≤ 8 := by unfold p2 at s1; omega
 have hW : W.length ≤ 1000000 := by omega
 have HY0 : Hid (Blk w y 127 [i64 (b : Int), i64 (s : Int), i64 g, i64 d, i64 (x0), i64 (2), i64 (l6), i64 ((I : Nat) : Int), i64 (ww), i64 (vv)]) := hid hy
 have qy0 := HY0.out.k10
 have HM0 := hid hm
 have HK0 : Hid (Keep (fun c => (c = m ∨ lv.ownBlock = some c) ∨ c = y) w w) := hid (Keep.refl _ _)
 have HA0 := hid (fun (c : Nat) (h : (Value.slice A 0 0).ownBlock = some c) => (Or.inl h : (Value.slice A 0 0).ownBlock = some c ∨ w.heap.size ≤ c))
 have HL0 := hid (fun (c : Nat) (h : lv.ownBlock = some c) => (Or.inl h : lv.ownBlock = some c ∨ w.heap.size ≤ c))
 clear hy hm
 cases hq : (rd W (b + 4 + I) == ww)
 · by_cases hc : l6 < (s : Int)
   · have pb' := pb (by omega) (by omega)
     have h0 := hq
     simp only [beq_iff_eq, beq_eq_false_iff_ne, ne_eq] at h0
     have e : aNext b s g d ⟨W, L, 2, x0, l6, b + 4 + I, ww, vv⟩ = ⟨casW W (b + 4 + I) ww (pNext6 ww vv), L ++ [⟨3, (b + 4 + I : Nat), ww, pNext6 ww vv, false⟩], 8, x0, l6, b + 4 + I, ww, vv⟩ := by simp only [aNext]; rw [if_neg h0, hq]; simp only [aMiss]; rw [if_pos (by omega)]
     rw [e]
     clear e h0
     have HQ := hid hq
     clear hq
     have E1 := hid (show m6x s l6 x0 = x0 from if_pos (by omega))
     have E2 := hid (show m6a s l6 = 8 from if_pos (by omega))
     have y1 : IntKind.i64.wrap ((b : Int) + 4) = (b : Int) + 4 := IntWalk.i64_in _ (by omega)
     have y2 : IntKind.i64.wrap ((b : Int) + 4 + (I : Int)) = (b : Int) + 4 + (I : Int) := IntWalk.i64_in _ (by omega)
     go_enter Tryz.func60, Tryz.ntmps60
     go_wp2_with fail
     go_quiet (fail)
     obtain ⟨w1, hw1⟩ : ∃ w', w' = w.drewN nq := ⟨_, rfl⟩
     rw [← hw1]
     have HY1 := hid (show Blk w1 y 127 [i64 (b : Int), i64 (s : Int), i64 g, i64 d, i64 (x0), i64 (2), i64 (l6), i64 ((I : Nat) : Int), i64 (ww), i64 (vv)] from by rw [hw1]; exact HY0.out.drewN nq)
     have HM1 := hid (RefAt.keep HM0.out (show Keep (fun c => c = y) w w1 from by rw [hw1]; exact (Keep.refl _ _).drewN nq) (fun c h => r6_far2 HM0.out HY0.out c h))
     have HK1 : Hid (Keep (fun c => (c = m ∨ lv.ownBlock = some c) ∨ c = y) w w1) := hid (HK0.out.trans (show Keep (fun c => c = y) w w1 from by rw [hw1]; exact (Keep.refl _ _).drewN nq) (fun c _ h => Or.inr h))
     have HA1 := HA0
     have HL1 := HL0
     clear qy0 HY0 HM0 HK0 HA0 HL0
     have qy1 := HY1.out.k10
     clear hw1
     clear y1 y2
     have vb' : -g < vv ∧ vv < g := by simpa using vb
     go_wp2_with fail
     go_quiet ((go_at_call 93; exact Calls.quiet_of_same ((ref1_Next ww (vv) _ (by omega)).mono (fun _ _ h => ⟨h.1, h.2.symm⟩))))
     obtain ⟨w2, hw2⟩ : ∃ w', w' = w1.drewN nq := ⟨_, rfl⟩
     rw [← hw2]
     have HY2 := hid (show Blk w2 y 127 [i64 (b : Int), i64 (s : Int), i64 g, i64 d, i64 (x0), i64 (2), i64 (l6), i64 ((I : Nat) : Int), i64 (ww), i64 (vv)] from by rw [hw2]; exact HY1.out.drewN nq)
     have HM2 := hid (RefAt.keep HM1.out (show Keep (fun c => c = y) w1 w2 from by rw [hw2]; exact (Keep.refl _ _).drewN nq) (fun c h => r6_far2 HM1.out HY1.out c h))
     have HK2 : Hid (Keep (fun c => (c = m ∨ lv.ownBlock = some c) ∨ c = y) w w2) := hid (HK1.out.trans (show Keep (fun c => c = y) w1 w2 from by rw [hw2]; exact (Keep.refl _ _).drewN nq) (fun c _ h => Or.inr h))
     have HA2 := HA1
     have HL2 := HL1
     clear qy1 HY1 HM1 HK1 HA1 HL1
     have qy2 := HY2.out.k10
     clear hw2
     go_wp2_with fail
     refine (r6_CasB ((b : Int) + 4 + (I : Int)) (b + 4 + I) (by omega) ww (pNext6 ww vv) false HQ.out HM2.out (by omega) hW hL).mono ?_
     rintro e w3 ⟨rfl, A3, c3, lv3, hm, hk, ha, hl⟩
     have HY3 := hid (show Blk w3 y 127 [i64 (b : Int), i64 (s : Int), i64 g, i64 d, i64 (x0), i64 (2), i64 (l6), i64 ((I : Nat) : Int), i64 (ww), i64 (vv)] from hk.blk HY2.out (r6_far HM2.out HY2.out))
     have HM3 := hid hm
     have HK3 : Hid (Keep (fun c => (c = m ∨ lv.ownBlock = some c) ∨ c = y) w w3) := hid (HK2.out.trans hk (fun _ _ h => Or.inl h))
     have HA3 := hid (fun c h => (ha c h).imp id (fun h => Nat.le_trans HK2.out.size h))
     have HL3 := hid (fun c h => (hl c h).imp id (fun h => Nat.le_trans HK2.out.size h))
     clear hm hk ha hl qy2 HY2 HM2 HK2 HA2 HL2
     have qy3 := HY3.out.k10
     go_wp2_with fail
     refine (show Calls Tryz.prog 97 #[ptr y] w3 (fun e w' => e = .returned (.tuple #[]) ∧ Blk w' y 127 [i64 (b : Int), i64 (s : Int), i64 g, i64 d, i64 (x0), i64 (8), i64 (l6), i64 ((I : Nat) : Int), i64 (ww), i64 (vv)] ∧ Keep (fun c => c = y) w3 w') from by have h := r6_miss HY3.out xb; rw [E1.out, E2.out] at h; exact h).mono ?_
     rintro e w4 ⟨rfl, hyq, hkq⟩
     have HY4 := hid (show Blk w4 y 127 [i64 (b : Int), i64 (s : Int), i64 g, i64 d, i64 (x0), i64 (8), i64 (l6), i64 ((I : Nat) : Int), i64 (ww), i64 (vv)] from hyq)
     have HM4 := hid (RefAt.keep HM3.out (show Keep (fun c => c = y) w3 w4 from hkq) (fun c h => r6_far2 HM3.out HY3.out c h))
     have HK4 : Hid (Keep (fun c => (c = m ∨ lv.ownBlock = some c) ∨ c = y) w w4) := hid (HK3.out.trans (show Keep (fun c => c = y) w3 w4 from hkq) (fun c _ h => Or.inr h))
     have HA4 := HA3
     have HL4 := HL3
     clear qy3 HY3 HM3 HK3 HA3 HL3
     have qy4 := HY4.out.k10
     clear hyq hkq
     go_wp2_with fail
     go_ret
     exact r6_end rfl (HM4.out.keep ((Keep.refl (fun c => c = y) w4)) (fun c h => r6_far2 HM4.out HY4.out c h)) (HK4.out.trans ((Keep.refl (fun c => c = y) w4)) (fun c _ h => Or.inr h)) HA4.out HL4.out (HY4.out) (by simp only [rcs6, Nat.add_sub_cancel_left]; rfl)
   · have pb' := pb (by omega) (by omega)
     have h0 := hq
     simp only [beq_iff_eq, beq_eq_false_iff_ne, ne_eq] at h0
     have e : aNext b s g d ⟨W, L, 2, x0, l6, b + 4 + I, ww, vv⟩ = ⟨casW W (b + 4 + I) ww (pNext6 ww vv), L ++ [⟨3, (b + 4 + I : Nat), ww, pNext6 ww vv, false⟩], 0, dNext x0, l6, b + 4 + I, ww, vv⟩ := by simp only [aNext]; rw [if_neg h0, hq]; simp only [aMiss]; rw [if_neg (by omega)]
     rw [e]
     clear e h0
     have HQ := hid hq
     clear hq
     have E1 := hid (show m6x s l6 x0 = dNext x0 from if_neg (by omega))
     have E2 := hid (show m6a s l6 = 0 from if_neg (by omega))
     have y1 : IntKind.i64.wrap ((b : Int) + 4) = (b : Int) + 4 := IntWalk.i64_in _ (by omega)
     have y2 : IntKind.i64.wrap ((b : Int) + 4 + (I : Int)) = (b : Int) + 4 + (I : Int) := IntWalk.i64_in _ (by omega)
     go_enter Tryz.func60, Tryz.ntmps60
     go_wp2_with fail
     go_quiet (fail)
     obtain ⟨w1, hw1⟩ : ∃ w', w' = w.drewN nq := ⟨_, rfl⟩
     rw [← hw1]
     have HY1 := hid (show Blk w1 y 127 [i64 (b : Int), i64 (s : Int), i64 g, i64 d, i64 (x0), i64 (2), i64 (l6), i64 ((I : Nat) : Int), i64 (ww), i64 (vv)] from by rw [hw1]; exact HY0.out.drewN nq)
     have HM1 := hid (RefAt.keep HM0.out (show Keep (fun c => c = y) w w1 from by rw [hw1]; exact (Keep.refl _ _).drewN nq) (fun c h => r6_far2 HM0.out HY0.out c h))
     have HK1 : Hid (Keep (fun c => (c = m ∨ lv.ownBlock = some c) ∨ c = y) w w1) := hid (HK0.out.trans (show Keep (fun c => c = y) w w1 from by rw [hw1]; exact (Keep.refl _ _).drewN nq) (fun c _ h => Or.inr h))
     have HA1 := HA0
     have HL1 := HL0
     clear qy0 HY0 HM0 HK0 HA0 HL0
     have qy1 := HY1.out.k10
     clear hw1
     clear y1 y2
     have vb' : -g < vv ∧ vv < g := by simpa using vb
     go_wp2_with fail
     go_quiet ((go_at_call 93; exact Calls.quiet_of_same ((ref1_Next ww (vv) _ (by omega)).mono (fun _ _ h => ⟨h.1, h.2.symm⟩))))
     obtain ⟨w2, hw2⟩ : ∃ w', w' = w1.drewN nq := ⟨_, rfl⟩
     rw [← hw2]
     have HY2 := hid (show Blk w2 y 127 [i64 (b : Int), i64 (s : Int), i64 g, i64 d, i64 (x0), i64 (2), i64 (l6), i64 ((I : Nat) : Int), i64 (ww), i64 (vv)] from by rw [hw2]; exact HY1.out.drewN nq)
     have HM2 := hid (RefAt.keep HM1.out (show Keep (fun c => c = y) w1 w2 from by rw [hw2]; exact (Keep.refl _ _).drewN nq) (fun c h => r6_far2 HM1.out HY1.out c h))
     have HK2 : Hid (Keep (fun c => (c = m ∨ lv.ownBlock = some c) ∨ c = y) w w2) := hid (HK1.out.trans (show Keep (fun c => c = y) w1 w2 from by rw [hw2]; exact (Keep.refl _ _).drewN nq) (fun c _ h => Or.inr h))
     have HA2 := HA1
     have HL2 := HL1
     clear qy1 HY1 HM1 HK1 HA1 HL1
     have qy2 := HY2.out.k10
     clear hw2
     go_wp2_with fail
     refine (r6_CasB ((b : Int) + 4 + (I : Int)) (b + 4 + I) (by omega) ww (pNext6 ww vv) false HQ.out HM2.out (by omega) hW hL).mono ?_
     rintro e w3 ⟨rfl, A3, c3, lv3, hm, hk, ha, hl⟩
     have HY3 := hid (show Blk w3 y 127 [i64 (b : Int), i64 (s : Int), i64 g, i64 d, i64 (x0), i64 (2), i64 (l6), i64 ((I : Nat) : Int), i64 (ww), i64 (vv)] from hk.blk HY2.out (r6_far HM2.out HY2.out))
     have HM3 := hid hm
     have HK3 : Hid (Keep (fun c => (c = m ∨ lv.ownBlock = some c) ∨ c = y) w w3) := hid (HK2.out.trans hk (fun _ _ h => Or.inl h))
     have HA3 := hid (fun c h => (ha c h).imp id (fun h => Nat.le_trans HK2.out.size h))
     have HL3 := hid (fun c h => (hl c h).imp id (fun h => Nat.le_trans HK2.out.size h))
     clear hm hk ha hl qy2 HY2 HM2 HK2 HA2 HL2
     have qy3 := HY3.out.k10
     go_wp2_with fail
     refine (show Calls Tryz.prog 97 #[ptr y] w3 (fun e w' => e = .returned (.tuple #[]) ∧ Blk w' y 127 [i64 (b : Int), i64 (s : Int), i64 g, i64 d, i64 (dNext x0), i64 (0), i64 (l6), i64 ((I : Nat) : Int), i64 (ww), i64 (vv)] ∧ Keep (fun c => c = y) w3 w') from by have h := r6_miss HY3.out xb; rw [E1.out, E2.out] at h; exact h).mono ?_
     rintro e w4 ⟨rfl, hyq, hkq⟩
     have HY4 := hid (show Blk w4 y 127 [i64 (b : Int), i64 (s : Int), i64 g, i64 d, i64 (dNext x0), i64 (0), i64 (l6), i64 ((I : Nat) : Int), i64 (ww), i64 (vv)] from hyq)
     have HM4 := hid (RefAt.keep HM3.out (show Keep (fun c => c = y) w3 w4 from hkq) (fun c h => r6_far2 HM3.out HY3.out c h))
     have HK4 : Hid (Keep (fun c => (c = m ∨ lv.ownBlock = some c) ∨ c = y) w w4) := hid (HK3.out.trans (show Keep (fun c => c = y) w3 w4 from hkq) (fun c _ h => Or.inr h))
     have HA4 := HA3
     have HL4 := HL3
     clear qy3 HY3 HM3 HK3 HA3 HL3
     have qy4 := HY4.out.k10
     clear hyq hkq
     go_wp2_with fail
     go_ret
     exact r6_end rfl (HM4.out.keep ((Keep.refl (fun c => c = y) w4)) (fun c h => r6_far2 HM4.out HY4.out c h)) (HK4.out.trans ((Keep.refl (fun c => c = y) w4)) (fun c _ h => Or.inr h)) HA4.out HL4.out (HY4.out) (by simp only [rcs6, Nat.add_sub_cancel_left]; rfl)
 · have pb' := pb (by omega) (by omega)
   have h0 := hq
   simp only [beq_iff_eq, beq_eq_false_iff_ne, ne_eq] at h0
   have e : aNext b s g d ⟨W, L, 2, x0, l6, b + 4 + I, ww, vv⟩ = ⟨casW W (b + 4 + I) ww (pNext6 ww vv), L ++ [⟨3, (b + 4 + I : Nat), ww, pNext6 ww vv, true⟩], 9, x0, l6, b + 4 + I, ww, vv⟩ := by simp only [aNext]; rw [if_pos h0, hq]
   rw [e]
   clear e h0
   have HQ := hid hq
   clear hq
   have y1 : IntKind.i64.wrap ((b : Int) + 4) = (b : Int) + 4 := IntWalk.i64_in _ (by omega)
   have y2 : IntKind.i64.wrap ((b : Int) + 4 + (I : Int)) = (b : Int) + 4 + (I : Int) := IntWalk.i64_in _ (by omega)
   go_enter Tryz.func60, Tryz.ntmps60
   go_wp2_with fail
   go_quiet (fail)
   obtain ⟨w1, hw1⟩ : ∃ w', w' = w.drewN nq := ⟨_, rfl⟩
   rw [← hw1]
   have HY1 := hid (show Blk w1 y 127 [i64 (b : Int), i64 (s : Int), i64 g, i64 d, i64 (x0), i64 (2), i64 (l6), i64 ((I : Nat) : Int), i64 (ww), i64 (vv)] from by rw [hw1]; exact HY0.out.drewN nq)
   have HM1 := hid (RefAt.keep HM0.out (show Keep (fun c => c = y) w w1 from by rw [hw1]; exact (Keep.refl _ _).drewN nq) (fun c h => r6_far2 HM0.out HY0.out c h))
   have HK1 : Hid (Keep (fun c => (c = m ∨ lv.ownBlock = some c) ∨ c = y) w w1) := hid (HK0.out.trans (show Keep (fun c => c = y) w w1 from by rw [hw1]; exact (Keep.refl _ _).drewN nq) (fun c _ h => Or.inr h))
   have HA1 := HA0
   have HL1 := HL0
   clear qy0 HY0 HM0 HK0 HA0 HL0
   have qy1 := HY1.out.k10
   clear hw1
   clear y1 y2
   have vb' : -g < vv ∧ vv < g := by simpa using vb
   go_wp2_with fail
   go_quiet ((go_at_call 93; exact Calls.quiet_of_same ((ref1_Next ww (vv) _ (by omega)).mono (fun _ _ h => ⟨h.1, h.2.symm⟩))))
   obtain ⟨w2, hw2⟩ : ∃ w', w' = w1.drewN nq := ⟨_, rfl⟩
   rw [← hw2]
   have HY2 := hid (show Blk w2 y 127 [i64 (b : Int), i64 (s : Int), i64 g, i64 d, i64 (x0), i64 (2), i64 (l6), i64 ((I : Nat) : Int), i64 (ww), i64 (vv)] from by rw [hw2]; exact HY1.out.drewN nq)
   have HM2 := hid (RefAt.keep HM1.out (show Keep (fun c => c = y) w1 w2 from by rw [hw2]; exact (Keep.refl _ _).drewN nq) (fun c h => r6_far2 HM1.out HY1.out c h))
   have HK2 : Hid (Keep (fun c => (c = m ∨ lv.ownBlock = some c) ∨ c = y) w w2) := hid (HK1.out.trans (show Keep (fun c => c = y) w1 w2 from by rw [hw2]; exact (Keep.refl _ _).drewN nq) (fun c _ h => Or.inr h))
   have HA2 := HA1
   have HL2 := HL1
   clear qy1 HY1 HM1 HK1 HA1 HL1
   have qy2 := HY2.out.k10
   clear hw2
   go_wp2_with fail
   refine (r6_CasB ((b : Int) + 4 + (I : Int)) (b + 4 + I) (by omega) ww (pNext6 ww vv) true HQ.out HM2.out (by omega) hW hL).mono ?_
   rintro e w3 ⟨rfl, A3, c3, lv3, hm, hk, ha, hl⟩
   have HY3 := hid (show Blk w3 y 127 [i64 (b : Int), i64 (s : Int), i64 g, i64 d, i64 (x0), i64 (2), i64 (l6), i64 ((I : Nat) : Int), i64 (ww), i64 (vv)] from hk.blk HY2.out (r6_far HM2.out HY2.out))
   have HM3 := hid hm
   have HK3 : Hid (Keep (fun c => (c = m ∨ lv.ownBlock = some c) ∨ c = y) w w3) := hid (HK2.out.trans hk (fun _ _ h => Or.inl h))
   have HA3 := hid (fun c h => (ha c h).imp id (fun h => Nat.le_trans HK2.out.size h))
   have HL3 := hid (fun c h => (hl c h).imp id (fun h => Nat.le_trans HK2.out.size h))
   clear hm hk ha hl qy2 HY2 HM2 HK2 HA2 HL2
   have qy3 := HY3.out.k10
   go_wp2_with fail
   go_ret
   exact r6_end rfl (HM3.out.keep (((Keep.refl (fun c => c = y) w3)).set ⟨y, 5, none⟩ _ (fun _ => rfl)) (fun c h => r6_far2 HM3.out HY3.out c h)) (HK3.out.trans (((Keep.refl (fun c => c = y) w3)).set ⟨y, 5, none⟩ _ (fun _ => rfl)) (fun c _ h => Or.inr h)) HA3.out HL3.out ((HY3.out).set 5 _) (by simp only [rcs6, Nat.add_sub_cancel_left]; rfl)
set_option maxHeartbeats 4000000 in
theorem r6_step3 (hm : RefAt B w m A ca lv W L) (hy : Blk w y 127 [i64 (b : Int), i64 (s : Int), i64 g, i64 d, i64 (x0), i64 (3), i64 (l6), i64 ((I : Nat) : Int), i64 (ww), i64 (vv)]) (hi : AInv b s g d ⟨W, L, 3, x0, l6, b + 4 + I, ww, vv⟩) (hb0 : b ≤ 1000) (hIb : I ≤ 2000) (hL : L.length ≤ 1000000000) :
 Calls Tryz.prog 60 #[ptr y, ptr m] w (R6P B w m A lv y b s g d (aNext b s g d ⟨W, L, 3, x0, l6, b + 4 + I, ww, vv⟩)) := by
 obtain ⟨ln, wl, s1, g1, d1, lw, xb, nx, lb, pb, vb, gr⟩ := hi
 simp only at *
 have hs8 : 1 ≤ s ∧ s ≤ 8 := by unfold p2 at s1; omega
 have hW : W.length ≤ 1000000 := by omega
 have HY0 : Hid (Blk w y 127 [i64 (b : Int), i64 (s : Int), i64 g, i64 d, i64 (x0), i64 (3), i64 (l6), i64 ((I : Nat) : Int), i64 (ww), i64 (vv)]) := hid hy
 have qy0 := HY0.out.k10
 have HM0 := hid hm
 have HK0 : Hid (Keep (fun c => (c = m ∨ lv.ownBlock = some c) ∨ c = y) w w) := hid (Keep.refl _ _)
 have HA0 := hid (fun (c : Nat) (h : (Value.slice A 0 0).ownBlock = some c) => (Or.inl h : (Value.slice A 0 0).ownBlock = some c ∨ w.heap.size ≤ c))
 have HL0 := hid (fun (c : Nat) (h : lv.ownBlock = some c) => (Or.inl h : lv.ownBlock = some c ∨ w.heap.size ≤ c))
 clear hy hm
 have e : aNext b s g d ⟨W, L, 3, x0, l6, b + 4 + I, ww, vv⟩ = ⟨W.set (b + 1) (wrap64 (rd W (b + 1) + 1)), L ++ [⟨2, (b + 1 : Nat), 1, wrap64 (rd W (b + 1) + 1), false⟩], 4, x0, l6, b + 4 + I, ww, vv⟩ := rfl
 rw [e]
 clear e
 have y1 : IntKind.i64.wrap ((b : Int) + 4) = (b : Int) + 4 := IntWalk.i64_in _ (by omega)
 have y2 : IntKind.i64.wrap ((b : Int) + 4 + (I : Int)) = (b : Int) + 4 + (I : Int) := IntWalk.i64_in _ (by omega)
 go_enter Tryz.func60, Tryz.ntmps60
 go_wp2_with fail
 go_quiet (fail)
 obtain ⟨w1, hw1⟩ : ∃ w', w' = w.drewN nq := ⟨_, rfl⟩
 rw [← hw1]
 have HY1 := hid (show Blk w1 y 127 [i64 (b : Int), i64 (s : Int), i64 g, i64 d, i64 (x0), i64 (3), i64 (l6), i64 ((I : Nat) : Int), i64 (ww), i64 (vv)] from by rw [hw1]; exact HY0.out.drewN nq)
 have HM1 := hid (RefAt.keep HM0.out (show Keep (fun c => c = y) w w1 from by rw [hw1]; exact (Keep.refl _ _).drewN nq) (fun c h => r6_far2 HM0.out HY0.out c h))
 have HK1 : Hid (Keep (fun c => (c = m ∨ lv.ownBlock = some c) ∨ c = y) w w1) := hid (HK0.out.trans (show Keep (fun c => c = y) w w1 from by rw [hw1]; exact (Keep.refl _ _).drewN nq) (fun c _ h => Or.inr h))
 have HA1 := HA0
 have HL1 := HL0
 clear qy0 HY0 HM0 HK0 HA0 HL0
 have qy1 := HY1.out.k10
 clear hw1
 clear y1 y2
 have y8 : IntKind.i64.wrap ((b : Int) + 1) = (b : Int) + 1 := IntWalk.i64_in _ (by omega)
 go_wp2_with fail
 refine (r6_AddJ ((b : Int) + 1) (b + 1) (by omega) 1 HM1.out (by omega) hW hL).mono ?_
 rintro e w2 ⟨rfl, A3, c3, lv3, hm, hk, ha, hl⟩
 have HY2 := hid (show Blk w2 y 127 [i64 (b : Int), i64 (s : Int), i64 g, i64 d, i64 (x0), i64 (3), i64 (l6), i64 ((I : Nat) : Int), i64 (ww), i64 (vv)] from hk.blk HY1.out (r6_far HM1.out HY1.out))
 have HM2 := hid hm
 have HK2 : Hid (Keep (fun c => (c = m ∨ lv.ownBlock = some c) ∨ c = y) w w2) := hid (HK1.out.trans hk (fun _ _ h => Or.inl h))
 have HA2 := hid (fun c h => (ha c h).imp id (fun h => Nat.le_trans HK1.out.size h))
 have HL2 := hid (fun c h => (hl c h).imp id (fun h => Nat.le_trans HK1.out.size h))
 clear hm hk ha hl qy1 HY1 HM1 HK1 HA1 HL1
 have qy2 := HY2.out.k10
 go_wp2_with fail
 go_ret
 exact r6_end rfl (HM2.out.keep (((Keep.refl (fun c => c = y) w2)).set ⟨y, 5, none⟩ _ (fun _ => rfl)) (fun c h => r6_far2 HM2.out HY2.out c h)) (HK2.out.trans (((Keep.refl (fun c => c = y) w2)).set ⟨y, 5, none⟩ _ (fun _ => rfl)) (fun c _ h => Or.inr h)) HA2.out HL2.out ((HY2.out).set 5 _) (by simp only [rcs6, Nat.add_sub_cancel_left]; rfl)
set_option maxHeartbeats 4000000 in
theorem r6_step4 (hm : RefAt B w m A ca lv W L) (hy : Blk w y 127 [i64 (b : Int), i64 (s : Int), i64 g, i64 d, i64 (x0), i64 (4), i64 (l6), i64 ((I : Nat) : Int), i64 (ww), i64 (vv)]) (hi : AInv b s g d ⟨W, L, 4, x0, l6, b + 4 + I, ww, vv⟩) (hb0 : b ≤ 1000) (hIb : I ≤ 2000) (hL : L.length ≤ 1000000000) :
 Calls Tryz.prog 60 #[ptr y, ptr m] w (R6P B w m A lv y b s g d (aNext b s g d ⟨W, L, 4, x0, l6, b + 4 + I, ww, vv⟩)) := by
 obtain ⟨ln, wl, s1, g1, d1, lw, xb, nx, lb, pb, vb, gr⟩ := hi
 simp only at *
 have hs8 : 1 ≤ s ∧ s ≤ 8 := by unfold p2 at s1; omega
 have hW : W.length ≤ 1000000 := by omega
 have HY0 : Hid (Blk w y 127 [i64 (b : Int), i64 (s : Int), i64 g, i64 d, i64 (x0), i64 (4), i64 (l6), i64 ((I : Nat) : Int), i64 (ww), i64 (vv)]) := hid hy
 have qy0 := HY0.out.k10
 have HM0 := hid hm
 have HK0 : Hid (Keep (fun c => (c = m ∨ lv.ownBlock = some c) ∨ c = y) w w) := hid (Keep.refl _ _)
 have HA0 := hid (fun (c : Nat) (h : (Value.slice A 0 0).ownBlock = some c) => (Or.inl h : (Value.slice A 0 0).ownBlock = some c ∨ w.heap.size ≤ c))
 have HL0 := hid (fun (c : Nat) (h : lv.ownBlock = some c) => (Or.inl h : lv.ownBlock = some c ∨ w.heap.size ≤ c))
 clear hy hm
 cases hq : (rd W (b + 4 + I) == ww)
 · have pb' := pb (by omega) (by omega)
   have h0 := hq
   simp only [beq_iff_eq, beq_eq_false_iff_ne, ne_eq] at h0
   have e : aNext b s g d ⟨W, L, 4, x0, l6, b + 4 + I, ww, vv⟩ = ⟨casW W (b + 4 + I) ww (pNext6 ww 0), L ++ [⟨3, (b + 4 + I : Nat), ww, pNext6 ww 0, false⟩], 7, x0, l6, b + 4 + I, ww, vv⟩ := by simp only [aNext]; rw [if_neg h0, hq]
   rw [e]
   clear e h0
   have HQ := hid hq
   clear hq
   have y1 : IntKind.i64.wrap ((b : Int) + 4) = (b : Int) + 4 := IntWalk.i64_in _ (by omega)
   have y2 : IntKind.i64.wrap ((b : Int) + 4 + (I : Int)) = (b : Int) + 4 + (I : Int) := IntWalk.i64_in _ (by omega)
   go_enter Tryz.func60, Tryz.ntmps60
   go_wp2_with fail
   go_quiet (fail)
   obtain ⟨w1, hw1⟩ : ∃ w', w' = w.drewN nq := ⟨_, rfl⟩
   rw [← hw1]
   have HY1 := hid (show Blk w1 y 127 [i64 (b : Int), i64 (s : Int), i64 g, i64 d, i64 (x0), i64 (4), i64 (l6), i64 ((I : Nat) : Int), i64 (ww), i64 (vv)] from by rw [hw1]; exact HY0.out.drewN nq)
   have HM1 := hid (RefAt.keep HM0.out (show Keep (fun c => c = y) w w1 from by rw [hw1]; exact (Keep.refl _ _).drewN nq) (fun c h => r6_far2 HM0.out HY0.out c h))
   have HK1 : Hid (Keep (fun c => (c = m ∨ lv.ownBlock = some c) ∨ c = y) w w1) := hid (HK0.out.trans (show Keep (fun c => c = y) w w1 from by rw [hw1]; exact (Keep.refl _ _).drewN nq) (fun c _ h => Or.inr h))
   have HA1 := HA0
   have HL1 := HL0
   clear qy0 HY0 HM0 HK0 HA0 HL0
   have qy1 := HY1.out.k10
   clear hw1
   clear y1 y2
   go_wp2_with fail
   refine (ref1_Next ww 0 _ (by omega)).mono ?_
   rintro e w0 ⟨rfl, rfl⟩
   go_wp2_with fail
   have hyq := (show Blk ((w1).setCell ⟨y, 5, none⟩ (i64 (7))) y 127 [i64 (b : Int), i64 (s : Int), i64 g, i64 d, i64 (x0), i64 (7), i64 (l6), i64 ((I : Nat) : Int), i64 (ww), i64 (vv)] from (HY1.out).set 5 _)
   have hkq := (show Keep (fun c => c = y) w1 ((w1).setCell ⟨y, 5, none⟩ (i64 (7))) from ((Keep.refl (fun c => c = y) w1)).set ⟨y, 5, none⟩ _ (fun _ => rfl))
   generalize (w1).setCell ⟨y, 5, none⟩ (i64 (7)) = w2 at *
   have HY2 := hid (show Blk w2 y 127 [i64 (b : Int), i64 (s : Int), i64 g, i64 d, i64 (x0), i64 (7), i64 (l6), i64 ((I : Nat) : Int), i64 (ww), i64 (vv)] from hyq)
   have HM2 := hid (RefAt.keep HM1.out (show Keep (fun c => c = y) w1 w2 from hkq) (fun c h => r6_far2 HM1.out HY1.out c h))
   have HK2 : Hid (Keep (fun c => (c = m ∨ lv.ownBlock = some c) ∨ c = y) w w2) := hid (HK1.out.trans (show Keep (fun c => c = y) w1 w2 from hkq) (fun c _ h => Or.inr h))
   have HA2 := HA1
   have HL2 := HL1
   clear qy1 HY1 HM1 HK1 HA1 HL1
   have qy2 := HY2.out.k10
   clear hyq hkq
   refine (r6_CasB ((b : Int) + 4 + (I : Int)) (b + 4 + I) (by omega) ww (pNext6 ww 0) false HQ.out HM2.out (by omega) hW hL).mono ?_
   rintro e w3 ⟨rfl, A3, c3, lv3, hm, hk, ha, hl⟩
   have HY3 := hid (show Blk w3 y 127 [i64 (b : Int), i64 (s : Int), i64 g, i64 d, i64 (x0), i64 (7), i64 (l6), i64 ((I : Nat) : Int), i64 (ww), i64 (vv)] from hk.blk HY2.out (r6_far HM2.out HY2.out))
   have HM3 := hid hm
   have HK3 : Hid (Keep (fun c => (c = m ∨ lv.ownBlock = some c) ∨ c = y) w w3) := hid (HK2.out.trans hk (fun _ _ h => Or.inl h))
   have HA3 := hid (fun c h => (ha c h).imp id (fun h => Nat.le_trans HK2.out.size h))
   have HL3 := hid (fun c h => (hl c h).imp id (fun h => Nat.le_trans HK2.out.size h))
   clear hm hk ha hl qy2 HY2 HM2 HK2 HA2 HL2
   have qy3 := HY3.out.k10
   go_wp2_with fail
   go_ret
   exact r6_end rfl (HM3.out.keep ((Keep.refl (fun c => c = y) w3)) (fun c h => r6_far2 HM3.out HY3.out c h)) (HK3.out.trans ((Keep.refl (fun c => c = y) w3)) (fun c _ h => Or.inr h)) HA3.out HL3.out (HY3.out) (by simp only [rcs6, Nat.add_sub_cancel_left]; rfl)
 · have pb' := pb (by omega) (by omega)
   have h0 := hq
   simp only [beq_iff_eq, beq_eq_false_iff_ne, ne_eq] at h0
   have e : aNext b s g d ⟨W, L, 4, x0, l6, b + 4 + I, ww, vv⟩ = ⟨casW W (b + 4 + I) ww (pNext6 ww 0), L ++ [⟨3, (b + 4 + I : Nat), ww, pNext6 ww 0, true⟩], 5, x0, l6, b + 4 + I, ww, vv⟩ := by simp only [aNext]; rw [if_pos h0, hq]
   rw [e]
   clear e h0
   have HQ := hid hq
   clear hq
   have y1 : IntKind.i64.wrap ((b : Int) + 4) = (b : Int) + 4 := IntWalk.i64_in _ (by omega)
   have y2 : IntKind.i64.wrap ((b : Int) + 4 + (I : Int)) = (b : Int) + 4 + (I : Int) := IntWalk.i64_in _ (by omega)
   go_enter Tryz.func60, Tryz.ntmps60
   go_wp2_with fail
   go_quiet (fail)
   obtain ⟨w1, hw1⟩ : ∃ w', w' = w.drewN nq := ⟨_, rfl⟩
   rw [← hw1]
   have HY1 := hid (show Blk w1 y 127 [i64 (b : Int), i64 (s : Int), i64 g, i64 d, i64 (x0), i64 (4), i64 (l6), i64 ((I : Nat) : Int), i64 (ww), i64 (vv)] from by rw [hw1]; exact HY0.out.drewN nq)
   have HM1 := hid (RefAt.keep HM0.out (show Keep (fun c => c = y) w w1 from by rw [hw1]; exact (Keep.refl _ _).drewN nq) (fun c h => r6_far2 HM0.out HY0.out c h))
   have HK1 : Hid (Keep (fun c => (c = m ∨ lv.ownBlock = some c) ∨ c = y) w w1) := hid (HK0.out.trans (show Keep (fun c => c = y) w w1 from by rw [hw1]; exact (Keep.refl _ _).drewN nq) (fun c _ h => Or.inr h))
   have HA1 := HA0
   have HL1 := HL0
   clear qy0 HY0 HM0 HK0 HA0 HL0
   have qy1 := HY1.out.k10
   clear hw1
   clear y1 y2
   go_wp2_with fail
   refine (ref1_Next ww 0 _ (by omega)).mono ?_
   rintro e w0 ⟨rfl, rfl⟩
   go_wp2_with fail
   have hyq := (show Blk ((w1).setCell ⟨y, 5, none⟩ (i64 (7))) y 127 [i64 (b : Int), i64 (s : Int), i64 g, i64 d, i64 (x0), i64 (7), i64 (l6), i64 ((I : Nat) : Int), i64 (ww), i64 (vv)] from (HY1.out).set 5 _)
   have hkq := (show Keep (fun c => c = y) w1 ((w1).setCell ⟨y, 5, none⟩ (i64 (7))) from ((Keep.refl (fun c => c = y) w1)).set ⟨y, 5, none⟩ _ (fun _ => rfl))
   generalize (w1).setCell ⟨y, 5, none⟩ (i64 (7)) = w2 at *
   have HY2 := hid (show Blk w2 y 127 [i64 (b : Int), i64 (s : Int), i64 g, i64 d, i64 (x0), i64 (7), i64 (l6), i64 ((I : Nat) : Int), i64 (ww), i64 (vv)] from hyq)
   have HM2 := hid (RefAt.keep HM1.out (show Keep (fun c => c = y) w1 w2 from hkq) (fun c h => r6_far2 HM1.out HY1.out c h))
   have HK2 : Hid (Keep (fun c => (c = m ∨ lv.ownBlock = some c) ∨ c = y) w w2) := hid (HK1.out.trans (show Keep (fun c => c = y) w1 w2 from hkq) (fun c _ h => Or.inr h))
   have HA2 := HA1
   have HL2 := HL1
   clear qy1 HY1 HM1 HK1 HA1 HL1
   have qy2 := HY2.out.k10
   clear hyq hkq
   refine (r6_CasB ((b : Int) + 4 + (I : Int)) (b + 4 + I) (by omega) ww (pNext6 ww 0) true HQ.out HM2.out (by omega) hW hL).mono ?_
   rintro e w3 ⟨rfl, A3, c3, lv3, hm, hk, ha, hl⟩
   have HY3 := hid (show Blk w3 y 127 [i64 (b : Int), i64 (s : Int), i64 g, i64 d, i64 (x0), i64 (7), i64 (l6), i64 ((I : Nat) : Int), i64 (ww), i64 (vv)] from hk.blk HY2.out (r6_far HM2.out HY2.out))
   have HM3 := hid hm
   have HK3 : Hid (Keep (fun c => (c = m ∨ lv.ownBlock = some c) ∨ c = y) w w3) := hid (HK2.out.trans hk (fun _ _ h => Or.inl h))
   have HA3 := hid (fun c h => (ha c h).imp id (fun h => Nat.le_trans HK2.out.size h))
   have HL3 := hid (fun c h => (hl c h).imp id (fun h => Nat.le_trans HK2.out.size h))
   clear hm hk ha hl qy2 HY2 HM2 HK2 HA2 HL2
   have qy3 := HY3.out.k10
   go_wp2_with fail
   go_ret
   exact r6_end rfl (HM3.out.keep (((Keep.refl (fun c => c = y) w3)).set ⟨y, 5, none⟩ _ (fun _ => rfl)) (fun c h => r6_far2 HM3.out HY3.out c h)) (HK3.out.trans (((Keep.refl (fun c => c = y) w3)).set ⟨y, 5, none⟩ _ (fun _ => rfl)) (fun c _ h => Or.inr h)) HA3.out HL3.out ((HY3.out).set 5 _) (by simp only [rcs6, Nat.add_sub_cancel_left]; rfl)
end
end Go.Proofs.YthaceckccobgeaaGreat

namespace Go.Proofs.YthaceckccobgeaaGreat
open Go.RowKit
set_option linter.unusedVariables false
set_option linter.unusedSimpArgs false
set_option maxRecDepth 100000
section
variable {B : Nat} {w : World} {m y : Nat} {A : Option Addr} {ca : Nat} {lv : Value} {W : List Int} {L : List Acc} {b s I : Nat} {g d x0 l6 ww vv : Int}
set_option maxHeartbeats 4000000 in
theorem r6_step5 (hm : RefAt B w m A ca lv W L) (hy : Blk w y 127 [i64 (b : Int), i64 (s : Int), i64 g, i64 d, i64 (x0), i64 (5), i64 (l6), i64 ((I : Nat) : Int), i64 (ww), i64 (vv)]) (hi : AInv b s g d ⟨W, L, 5, x0, l6, b + 4 + I, ww, vv⟩) (hb0 : b ≤ 1000) (hIb : I ≤ 2000) (hL : L.length ≤ 1000000000) :
 Calls Tryz.prog 60 #[ptr y, ptr m] w (R6P B w m A lv y b s g d (aNext b s g d ⟨W, L, 5, x0, l6, b + 4 + I, ww, vv⟩)) := by
 obtain ⟨ln, wl, s1, g1, d1, lw, xb, nx, lb, pb, vb, gr⟩ := hi
 simp only at *
 have hs8 : 1 ≤ s ∧ s ≤ 8 := by unfold p2 at s1; omega
 have hW : W.length ≤ 1000000 := by omega
 have HY0 : Hid (Blk w y 127 [i64 (b : Int), i64 (s : Int), i64 g, i64 d, i64 (x0), i64 (5), i64 (l6), i64 ((I : Nat) : Int), i64 (ww), i64 (vv)]) := hid hy
 have qy0 := HY0.out.k10
 have HM0 := hid hm
 have HK0 : Hid (Keep (fun c => (c = m ∨ lv.ownBlock = some c) ∨ c = y) w w) := hid (Keep.refl _ _)
 have HA0 := hid (fun (c : Nat) (h : (Value.slice A 0 0).ownBlock = some c) => (Or.inl h : (Value.slice A 0 0).ownBlock = some c ∨ w.heap.size ≤ c))
 have HL0 := hid (fun (c : Nat) (h : lv.ownBlock = some c) => (Or.inl h : lv.ownBlock = some c ∨ w.heap.size ≤ c))
 clear hy hm
 have e : aNext b s g d ⟨W, L, 5, x0, l6, b + 4 + I, ww, vv⟩ = ⟨W.set b (wrap64 (rd W b + vv)), L ++ [⟨2, b, vv, wrap64 (rd W b + vv), false⟩], 6, x0, l6, b + 4 + I, ww, vv⟩ := rfl
 rw [e]
 clear e
 have y1 : IntKind.i64.wrap ((b : Int) + 4) = (b : Int) + 4 := IntWalk.i64_in _ (by omega)
 have y2 : IntKind.i64.wrap ((b : Int) + 4 + (I : Int)) = (b : Int) + 4 + (I : Int) := IntWalk.i64_in _ (by omega)
 go_enter Tryz.func60, Tryz.ntmps60
 go_wp2_with fail
 go_quiet (fail)
 obtain ⟨w1, hw1⟩ : ∃ w', w' = w.drewN nq := ⟨_, rfl⟩
 rw [← hw1]
 have HY1 := hid (show Blk w1 y 127 [i64 (b : Int), i64 (s : Int), i64 g, i64 d, i64 (x0), i64 (5), i64 (l6), i64 ((I : Nat) : Int), i64 (ww), i64 (vv)] from by rw [hw1]; exact HY0.out.drewN nq)
 have HM1 := hid (RefAt.keep HM0.out (show Keep (fun c => c = y) w w1 from by rw [hw1]; exact (Keep.refl _ _).drewN nq) (fun c h => r6_far2 HM0.out HY0.out c h))
 have HK1 : Hid (Keep (fun c => (c = m ∨ lv.ownBlock = some c) ∨ c = y) w w1) := hid (HK0.out.trans (show Keep (fun c => c = y) w w1 from by rw [hw1]; exact (Keep.refl _ _).drewN nq) (fun c _ h => Or.inr h))
 have HA1 := HA0
 have HL1 := HL0
 clear qy0 HY0 HM0 HK0 HA0 HL0
 have qy1 := HY1.out.k10
 clear hw1
 clear y1 y2
 go_wp2_with fail
 apply wp_region_text (WI := WEnd 9 (fun wx => Blk wx y 127 [i64 (b : Int), i64 (s : Int), i64 g, i64 d, i64 (x0), i64 (5), i64 (l6), i64 ((I : Nat) : Int), i64 (ww), i64 (vv)] ∧ RefAt B wx m A ca lv W L ∧ Keep0 w1 wx) (fun wx => Blk wx y 127 [i64 (b : Int), i64 (s : Int), i64 g, i64 d, i64 (x0), i64 (5), i64 (l6), i64 ((I : Nat) : Int), i64 (ww), i64 (vv)] ∧ RefPost B w1 m A lv (W.set b (wrap64 (rd W b + vv))) (L ++ [⟨2, b, vv, wrap64 (rd W b + vv), false⟩]) wx)) (by kernel_rfl) (by kernel_rfl)
 case hob =>
  iterate 4
   apply Oblig.cons
   case h =>
    intro S w1 hwi hSi hd hcl
    apply StepOk.intro
    intro K hK
    go_simp
    apply hK
    · rfl
    · conv => (lhs; whnf)
    · exact hwi.fixed (by decide)
   simp only [put_lit, put_none]
   try dsimp only [List.set_cons_succ, List.set_cons_zero]
  apply Oblig.cons
  case h =>
   intro S w1 hwi hSi hd hcl
   apply StepOk.intro
   intro K hK
   have hlast : S 9 = false := by
    cases h : S 9 with
    | false => rfl
    | true => exact absurd ((hcl 9 _ rfl h) ⟨4, .data⟩ (by simp) rfl) (by rw [hSi]; decide)
   have qyq := (hwi.1 hlast).1.k10
   go_simp
   apply hK
   · rfl
   · conv => (lhs; whnf)
   · exact hwi.fixed (by decide)
  simp only [put_lit, put_none]
  try dsimp only [List.set_cons_succ, List.set_cons_zero]
  iterate 3
   apply Oblig.cons
   case h =>
    intro S w1 hwi hSi hd hcl
    apply StepOk.intro
    intro K hK
    go_simp
    apply hK
    · rfl
    · conv => (lhs; whnf)
    · exact hwi.fixed (by decide)
   simp only [put_lit, put_none]
   try dsimp only [List.set_cons_succ, List.set_cons_zero]
  apply Oblig.cons
  case h =>
   intro S w1 hwi hSi hd hcl
   apply StepOk.intro
   intro K hK
   have hlast : S 9 = false := by
    cases h : S 9 with
    | false => rfl
    | true => exact absurd ((hcl 9 _ rfl h) ⟨8, .data⟩ (by simp) rfl) (by rw [hSi]; decide)
   have qyq := (hwi.1 hlast).1.k10
   go_simp
   apply hK
   · rfl
   · conv => (lhs; whnf)
   · exact hwi.fixed (by decide)
  simp only [put_lit, put_none]
  try dsimp only [List.set_cons_succ, List.set_cons_zero]
  apply Oblig.cons
  case h =>
   intro S w1 hwi hSi hd hcl
   apply StepOk.intro
   intro K hK
   have HMq := hid (hwi.1 hSi).2.1
   have HYq := hid (hwi.1 hSi).1
   have hk0 := (hwi.1 hSi).2.2
   go_simp
   refine (r6_AddJ (b : Int) b rfl vv HMq.out (by omega) hW hL).mono ?_
   rintro e w2 ⟨rfl, hp⟩
   obtain ⟨Aq, cq, lvq, hq1, hq2, hq3⟩ := id hp
   have hblk := hq2.blk HYq.out (r6_far HMq.out HYq.out)
   apply hK
   · rfl
   · conv => (lhs; whnf)
   · exact WEnd.done ⟨hblk, hp.before hk0⟩
  simp only [put_lit, put_none]
  try dsimp only [List.set_cons_succ, List.set_cons_zero]
  exact Oblig.nil
 case h0 =>
  exact ⟨fun _ => ⟨HY1.out.drew, HM1.out.keep ((Keep.refl (fun _ => False) _).drew) (fun _ _ h => h), (Keep.refl _ _).drew⟩, (fun h => by cases h)⟩
 case hend =>
  intro S wx hwi hall
  obtain ⟨hyq, A3, c3, lv3, hm, hk, ha, hl⟩ := hwi.2 (hall 9 (by decide))
  obtain ⟨w2, hw2⟩ : ∃ w', w' = wx := ⟨_, rfl⟩
  rw [← hw2] at hyq hm hk
  rw [← hw2]
  have HY2 := hid (show Blk w2 y 127 [i64 (b : Int), i64 (s : Int), i64 g, i64 d, i64 (x0), i64 (5), i64 (l6), i64 ((I : Nat) : Int), i64 (ww), i64 (vv)] from hyq)
  have HM2 := hid hm
  have HK2 : Hid (Keep (fun c => (c = m ∨ lv.ownBlock = some c) ∨ c = y) w w2) := hid (HK1.out.trans hk (fun _ _ h => Or.inl h))
  have HA2 := hid (fun c h => (ha c h).imp id (fun h => Nat.le_trans HK1.out.size h))
  have HL2 := hid (fun c h => (hl c h).imp id (fun h => Nat.le_trans HK1.out.size h))
  clear hm hk ha hl hyq qy1 HY1 HM1 HK1 HA1 HL1 hw2 hwi hall
  have qy2 := HY2.out.k10
  go_wp2_with fail
  go_ret
  exact r6_end rfl (HM2.out.keep (((Keep.refl (fun c => c = y) w2)).set ⟨y, 5, none⟩ _ (fun _ => rfl)) (fun c h => r6_far2 HM2.out HY2.out c h)) (HK2.out.trans (((Keep.refl (fun c => c = y) w2)).set ⟨y, 5, none⟩ _ (fun _ => rfl)) (fun c _ h => Or.inr h)) HA2.out HL2.out ((HY2.out).set 5 _) (by simp only [rcs6, Nat.add_sub_cancel_left]; rfl)
set_option maxHeartbeats 4000000 in
theorem r6_step6 (hm : RefAt B w m A ca lv W L) (hy : Blk w y 127 [i64 (b : Int), i64 (s : Int), i64 g, i64 d, i64 (x0), i64 (6), i64 (l6), i64 ((I : Nat) : Int), i64 (ww), i64 (vv)]) (hi : AInv b s g d ⟨W, L, 6, x0, l6, b + 4 + I, ww, vv⟩) (hb0 : b ≤ 1000) (hIb : I ≤ 2000) (hL : L.length ≤ 1000000000) :
 Calls Tryz.prog 60 #[ptr y, ptr m] w (R6P B w m A lv y b s g d (aNext b s g d ⟨W, L, 6, x0, l6, b + 4 + I, ww, vv⟩)) := by
 obtain ⟨ln, wl, s1, g1, d1, lw, xb, nx, lb, pb, vb, gr⟩ := hi
 simp only at *
 have hs8 : 1 ≤ s ∧ s ≤ 8 := by unfold p2 at s1; omega
 have hW : W.length ≤ 1000000 := by omega
 have HY0 : Hid (Blk w y 127 [i64 (b : Int), i64 (s : Int), i64 g, i64 d, i64 (x0), i64 (6), i64 (l6), i64 ((I : Nat) : Int), i64 (ww), i64 (vv)]) := hid hy
 have qy0 := HY0.out.k10
 have HM0 := hid hm
 have HK0 : Hid (Keep (fun c => (c = m ∨ lv.ownBlock = some c) ∨ c = y) w w) := hid (Keep.refl _ _)
 have HA0 := hid (fun (c : Nat) (h : (Value.slice A 0 0).ownBlock = some c) => (Or.inl h : (Value.slice A 0 0).ownBlock = some c ∨ w.heap.size ≤ c))
 have HL0 := hid (fun (c : Nat) (h : lv.ownBlock = some c) => (Or.inl h : lv.ownBlock = some c ∨ w.heap.size ≤ c))
 clear hy hm
 have e : aNext b s g d ⟨W, L, 6, x0, l6, b + 4 + I, ww, vv⟩ = ⟨W.set (b + 2) (wrap64 (rd W (b + 2) + 1)), L ++ [⟨2, (b + 2 : Nat), 1, wrap64 (rd W (b + 2) + 1), false⟩], 9, x0, l6, b + 4 + I, ww, vv⟩ := rfl
 rw [e]
 clear e
 have y1 : IntKind.i64.wrap ((b : Int) + 4) = (b : Int) + 4 := IntWalk.i64_in _ (by omega)
 have y2 : IntKind.i64.wrap ((b : Int) + 4 + (I : Int)) = (b : Int) + 4 + (I : Int) := IntWalk.i64_in _ (by omega)
 go_enter Tryz.func60, Tryz.ntmps60
 go_wp2_with fail
 go_quiet (fail)
 obtain ⟨w1, hw1⟩ : ∃ w', w' = w.drewN nq := ⟨_, rfl⟩
 rw [← hw1]
 have HY1 := hid (show Blk w1 y 127 [i64 (b : Int), i64 (s : Int), i64 g, i64 d, i64 (x0), i64 (6), i64 (l6), i64 ((I : Nat) : Int), i64 (ww), i64 (vv)] from by rw [hw1]; exact HY0.out.drewN nq)
 have HM1 := hid (RefAt.keep HM0.out (show Keep (fun c => c = y) w w1 from by rw [hw1]; exact (Keep.refl _ _).drewN nq) (fun c h => r6_far2 HM0.out HY0.out c h))
 have HK1 : Hid (Keep (fun c => (c = m ∨ lv.ownBlock = some c) ∨ c = y) w w1) := hid (HK0.out.trans (show Keep (fun c => c = y) w w1 from by rw [hw1]; exact (Keep.refl _ _).drewN nq) (fun c _ h => Or.inr h))
 have HA1 := HA0
 have HL1 := HL0
 clear qy0 HY0 HM0 HK0 HA0 HL0
 have qy1 := HY1.out.k10
 clear hw1
 clear y1 y2
 have y8 : IntKind.i64.wrap ((b : Int) + 2) = (b : Int) + 2 := IntWalk.i64_in _ (by omega)
 go_wp2_with fail
 refine (r6_AddJ ((b : Int) + 2) (b + 2) (by omega) 1 HM1.out (by omega) hW hL).mono ?_
 rintro e w2 ⟨rfl, A3, c3, lv3, hm, hk, ha, hl⟩
 have HY2 := hid (show Blk w2 y 127 [i64 (b : Int), i64 (s : Int), i64 g, i64 d, i64 (x0), i64 (6), i64 (l6), i64 ((I : Nat) : Int), i64 (ww), i64 (vv)] from hk.blk HY1.out (r6_far HM1.out HY1.out))
 have HM2 := hid hm
 have HK2 : Hid (Keep (fun c => (c = m ∨ lv.ownBlock = some c) ∨ c = y) w w2) := hid (HK1.out.trans hk (fun _ _ h => Or.inl h))
 have HA2 := hid (fun c h => (ha c h).imp id (fun h => Nat.le_trans HK1.out.size h))
 have HL2 := hid (fun c h => (hl c h).imp id (fun h => Nat.le_trans HK1.out.size h))
 clear hm hk ha hl qy1 HY1 HM1 HK1 HA1 HL1
 have qy2 := HY2.out.k10
 go_wp2_with fail
 go_ret
 exact r6_end rfl (HM2.out.keep (((Keep.refl (fun c => c = y) w2)).set ⟨y, 5, none⟩ _ (fun _ => rfl)) (fun c h => r6_far2 HM2.out HY2.out c h)) (HK2.out.trans (((Keep.refl (fun c => c = y) w2)).set ⟨y, 5, none⟩ _ (fun _ => rfl)) (fun c _ h => Or.inr h)) HA2.out HL2.out ((HY2.out).set 5 _) (by simp only [rcs6, Nat.add_sub_cancel_left]; rfl)
set_option maxHeartbeats 4000000 in
theorem r6_step7 (hm : RefAt B w m A ca lv W L) (hy : Blk w y 127 [i64 (b : Int), i64 (s : Int), i64 g, i64 d, i64 (x0), i64 (7), i64 (l6), i64 ((I : Nat) : Int), i64 (ww), i64 (vv)]) (hi : AInv b s g d ⟨W, L, 7, x0, l6, b + 4 + I, ww, vv⟩) (hb0 : b ≤ 1000) (hIb : I ≤ 2000) (hL : L.length ≤ 1000000000) :
 Calls Tryz.prog 60 #[ptr y, ptr m] w (R6P B w m A lv y b s g d (aNext b s g d ⟨W, L, 7, x0, l6, b + 4 + I, ww, vv⟩)) := by
 obtain ⟨ln, wl, s1, g1, d1, lw, xb, nx, lb, pb, vb, gr⟩ := hi
 simp only at *
 have hs8 : 1 ≤ s ∧ s ≤ 8 := by unfold p2 at s1; omega
 have hW : W.length ≤ 1000000 := by omega
 have HY0 : Hid (Blk w y 127 [i64 (b : Int), i64 (s : Int), i64 g, i64 d, i64 (x0), i64 (7), i64 (l6), i64 ((I : Nat) : Int), i64 (ww), i64 (vv)]) := hid hy
 have qy0 := HY0.out.k10
 have HM0 := hid hm
 have HK0 : Hid (Keep (fun c => (c = m ∨ lv.ownBlock = some c) ∨ c = y) w w) := hid (Keep.refl _ _)
 have HA0 := hid (fun (c : Nat) (h : (Value.slice A 0 0).ownBlock = some c) => (Or.inl h : (Value.slice A 0 0).ownBlock = some c ∨ w.heap.size ≤ c))
 have HL0 := hid (fun (c : Nat) (h : lv.ownBlock = some c) => (Or.inl h : lv.ownBlock = some c ∨ w.heap.size ≤ c))
 clear hy hm
 by_cases hc : l6 < (s : Int)
 · have e : aNext b s g d ⟨W, L, 7, x0, l6, b + 4 + I, ww, vv⟩ = ⟨W.set (b + 2) (wrap64 (rd W (b + 2) + 1)), L ++ [⟨2, (b + 2 : Nat), 1, wrap64 (rd W (b + 2) + 1), false⟩], 8, x0, l6, b + 4 + I, ww, vv⟩ := by simp only [aNext, aMiss]; rw [if_pos (by omega)]
   rw [e]
   clear e
   have E1 := hid (show m6x s l6 x0 = x0 from if_pos (by omega))
   have E2 := hid (show m6a s l6 = 8 from if_pos (by omega))
   have y1 : IntKind.i64.wrap ((b : Int) + 4) = (b : Int) + 4 := IntWalk.i64_in _ (by omega)
   have y2 : IntKind.i64.wrap ((b : Int) + 4 + (I : Int)) = (b : Int) + 4 + (I : Int) := IntWalk.i64_in _ (by omega)
   go_enter Tryz.func60, Tryz.ntmps60
   go_wp2_with fail
   go_quiet (fail)
   obtain ⟨w1, hw1⟩ : ∃ w', w' = w.drewN nq := ⟨_, rfl⟩
   rw [← hw1]
   have HY1 := hid (show Blk w1 y 127 [i64 (b : Int), i64 (s : Int), i64 g, i64 d, i64 (x0), i64 (7), i64 (l6), i64 ((I : Nat) : Int), i64 (ww), i64 (vv)] from by rw [hw1]; exact HY0.out.drewN nq)
   have HM1 := hid (RefAt.keep HM0.out (show Keep (fun c => c = y) w w1 from by rw [hw1]; exact (Keep.refl _ _).drewN nq) (fun c h => r6_far2 HM0.out HY0.out c h))
   have HK1 : Hid (Keep (fun c => (c = m ∨ lv.ownBlock = some c) ∨ c = y) w w1) := hid (HK0.out.trans (show Keep (fun c => c = y) w w1 from by rw [hw1]; exact (Keep.refl _ _).drewN nq) (fun c _ h => Or.inr h))
   have HA1 := HA0
   have HL1 := HL0
   clear qy0 HY0 HM0 HK0 HA0 HL0
   have qy1 := HY1.out.k10
   clear hw1
   clear y1 y2
   have y8 : IntKind.i64.wrap ((b : Int) + 2) = (b : Int) + 2 := IntWalk.i64_in _ (by omega)
   go_wp2_with fail
   refine (r6_AddJ ((b : Int) + 2) (b + 2) (by omega) 1 HM1.out (by omega) hW hL).mono ?_
   rintro e w2 ⟨rfl, A3, c3, lv3, hm, hk, ha, hl⟩
   have HY2 := hid (show Blk w2 y 127 [i64 (b : Int), i64 (s : Int), i64 g, i64 d, i64 (x0), i64 (7), i64 (l6), i64 ((I : Nat) : Int), i64 (ww), i64 (vv)] from hk.blk HY1.out (r6_far HM1.out HY1.out))
   have HM2 := hid hm
   have HK2 : Hid (Keep (fun c => (c = m ∨ lv.ownBlock = some c) ∨ c = y) w w2) := hid (HK1.out.trans hk (fun _ _ h => Or.inl h))
   have HA2 := hid (fun c h => (ha c h).imp id (fun h => Nat.le_trans HK1.out.size h))
   have HL2 := hid (fun c h => (hl c h).imp id (fun h => Nat.le_trans HK1.out.size h))
   clear hm hk ha hl qy1 HY1 HM1 HK1 HA1 HL1
   have qy2 := HY2.out.k10
   go_wp2_with fail
   refine (show Calls Tryz.prog 97 #[ptr y] w2 (fun e w' => e = .returned (.tuple #[]) ∧ Blk w' y 127 [i64 (b : Int), i64 (s : Int), i64 g, i64 d, i64 (x0), i64 (8), i64 (l6), i64 ((I : Nat) : Int), i64 (ww), i64 (vv)] ∧ Keep (fun c => c = y) w2 w') from by have h := r6_miss HY2.out xb; rw [E1.out, E2.out] at h; exact h).mono ?_
   rintro e w3 ⟨rfl, hyq, hkq⟩
   have HY3 := hid (show Blk w3 y 127 [i64 (b : Int), i64 (s : Int), i64 g, i64 d, i64 (x0), i64 (8), i64 (l6), i64 ((I : Nat) : Int), i64 (ww), i64 (vv)] from hyq)
   have HM3 := hid (RefAt.keep HM2.out (show Keep (fun c => c = y) w2 w3 from hkq) (fun c h => r6_far2 HM2.out HY2.out c h))
   have HK3 : Hid (Keep (fun c => (c = m ∨ lv.ownBlock = some c) ∨ c = y) w w3) := hid (HK2.out.trans (show Keep (fun c => c = y) w2 w3 from hkq) (fun c _ h => Or.inr h))
   have HA3 := HA2
   have HL3 := HL2
   clear qy2 HY2 HM2 HK2 HA2 HL2
   have qy3 := HY3.out.k10
   clear hyq hkq
   go_wp2_with fail
   go_ret
   exact r6_end rfl (HM3.out.keep ((Keep.refl (fun c => c = y) w3)) (fun c h => r6_far2 HM3.out HY3.out c h)) (HK3.out.trans ((Keep.refl (fun c => c = y) w3)) (fun c _ h => Or.inr h)) HA3.out HL3.out (HY3.out) (by simp only [rcs6, Nat.add_sub_cancel_left]; rfl)
 · have e : aNext b s g d ⟨W, L, 7, x0, l6, b + 4 + I, ww, vv⟩ = ⟨W.set (b + 2) (wrap64 (rd W (b + 2) + 1)), L ++ [⟨2, (b + 2 : Nat), 1, wrap64 (rd W (b + 2) + 1), false⟩], 0, dNext x0, l6, b + 4 + I, ww, vv⟩ := by simp only [aNext, aMiss]; rw [if_neg (by omega)]
   rw [e]
   clear e
   have E1 := hid (show m6x s l6 x0 = dNext x0 from if_neg (by omega))
   have E2 := hid (show m6a s l6 = 0 from if_neg (by omega))
   have y1 : IntKind.i64.wrap ((b : Int) + 4) = (b : Int) + 4 := IntWalk.i64_in _ (by omega)
   have y2 : IntKind.i64.wrap ((b : Int) + 4 + (I : Int)) = (b : Int) + 4 + (I : Int) := IntWalk.i64_in _ (by omega)
   go_enter Tryz.func60, Tryz.ntmps60
   go_wp2_with fail
   go_quiet (fail)
   obtain ⟨w1, hw1⟩ : ∃ w', w' = w.drewN nq := ⟨_, rfl⟩
   rw [← hw1]
   have HY1 := hid (show Blk w1 y 127 [i64 (b : Int), i64 (s : Int), i64 g, i64 d, i64 (x0), i64 (7), i64 (l6), i64 ((I : Nat) : Int), i64 (ww), i64 (vv)] from by rw [hw1]; exact HY0.out.drewN nq)
   have HM1 := hid (RefAt.keep HM0.out (show Keep (fun c => c = y) w w1 from by rw [hw1]; exact (Keep.refl _ _).drewN nq) (fun c h => r6_far2 HM0.out HY0.out c h))
   have HK1 : Hid (Keep (fun c => (c = m ∨ lv.ownBlock = some c) ∨ c = y) w w1) := hid (HK0.out.trans (show Keep (fun c => c = y) w w1 from by rw [hw1]; exact (Keep.refl _ _).drewN nq) (fun c _ h => Or.inr h))
   have HA1 := HA0
   have HL1 := HL0
   clear qy0 HY0 HM0 HK0 HA0 HL0
   have qy1 := HY1.out.k10
   clear hw1
   clear y1 y2
   have y8 : IntKind.i64.wrap ((b : Int) + 2) = (b : Int) + 2 := IntWalk.i64_in _ (by omega)
   go_wp2_with fail
   refine (r6_AddJ ((b : Int) + 2) (b + 2) (by omega) 1 HM1.out (by omega) hW hL).mono ?_
   rintro e w2 ⟨rfl, A3, c3, lv3, hm, hk, ha, hl⟩
   have HY2 := hid (show Blk w2 y 127 [i64 (b : Int), i64 (s : Int), i64 g, i64 d, i64 (x0), i64 (7), i64 (l6), i64 ((I : Nat) : Int), i64 (ww), i64 (vv)] from hk.blk HY1.out (r6_far HM1.out HY1.out))
   have HM2 := hid hm
   have HK2 : Hid (Keep (fun c => (c = m ∨ lv.ownBlock = some c) ∨ c = y) w w2) := hid (HK1.out.trans hk (fun _ _ h => Or.inl h))
   have HA2 := hid (fun c h => (ha c h).imp id (fun h => Nat.le_trans HK1.out.size h))
   have HL2 := hid (fun c h => (hl c h).imp id (fun h => Nat.le_trans HK1.out.size h))
   clear hm hk ha hl qy1 HY1 HM1 HK1 HA1 HL1
   have qy2 := HY2.out.k10
   go_wp2_with fail
   refine (show Calls Tryz.prog 97 #[ptr y] w2 (fun e w' => e = .returned (.tuple #[]) ∧ Blk w' y 127 [i64 (b : Int), i64 (s : Int), i64 g, i64 d, i64 (dNext x0), i64 (0), i64 (l6), i64 ((I : Nat) : Int), i64 (ww), i64 (vv)] ∧ Keep (fun c => c = y) w2 w') from by have h := r6_miss HY2.out xb; rw [E1.out, E2.out] at h; exact h).mono ?_
   rintro e w3 ⟨rfl, hyq, hkq⟩
   have HY3 := hid (show Blk w3 y 127 [i64 (b : Int), i64 (s : Int), i64 g, i64 d, i64 (dNext x0), i64 (0), i64 (l6), i64 ((I : Nat) : Int), i64 (ww), i64 (vv)] from hyq)
   have HM3 := hid (RefAt.keep HM2.out (show Keep (fun c => c = y) w2 w3 from hkq) (fun c h => r6_far2 HM2.out HY2.out c h))
   have HK3 : Hid (Keep (fun c => (c = m ∨ lv.ownBlock = some c) ∨ c = y) w w3) := hid (HK2.out.trans (show Keep (fun c => c = y) w2 w3 from hkq) (fun c _ h => Or.inr h))
   have HA3 := HA2
   have HL3 := HL2
   clear qy2 HY2 HM2 HK2 HA2 HL2
   have qy3 := HY3.out.k10
   clear hyq hkq
   go_wp2_with fail
   go_ret
   exact r6_end rfl (HM3.out.keep ((Keep.refl (fun c => c = y) w3)) (fun c h => r6_far2 HM3.out HY3.out c h)) (HK3.out.trans ((Keep.refl (fun c => c = y) w3)) (fun c _ h => Or.inr h)) HA3.out HL3.out (HY3.out) (by simp only [rcs6, Nat.add_sub_cancel_left]; rfl)
set_option maxHeartbeats 4000000 in
theorem r6_step8 (hm : RefAt B w m A ca lv W L) (hy : Blk w y 127 [i64 (b : Int), i64 (s : Int), i64 g, i64 d, i64 (x0), i64 (8), i64 (l6), i64 ((I : Nat) : Int), i64 (ww), i64 (vv)]) (hi : AInv b s g d ⟨W, L, 8, x0, l6, b + 4 + I, ww, vv⟩) (hb0 : b ≤ 1000) (hIb : I ≤ 2000) (hL : L.length ≤ 1000000000) :
 Calls Tryz.prog 60 #[ptr y, ptr m] w (R6P B w m A lv y b s g d (aNext b s g d ⟨W, L, 8, x0, l6, b + 4 + I, ww, vv⟩)) := by
 obtain ⟨ln, wl, s1, g1, d1, lw, xb, nx, lb, pb, vb, gr⟩ := hi
 simp only at *
 have hs8 : 1 ≤ s ∧ s ≤ 8 := by unfold p2 at s1; omega
 have hW : W.length ≤ 1000000 := by omega
 have HY0 : Hid (Blk w y 127 [i64 (b : Int), i64 (s : Int), i64 g, i64 d, i64 (x0), i64 (8), i64 (l6), i64 ((I : Nat) : Int), i64 (ww), i64 (vv)]) := hid hy
 have qy0 := HY0.out.k10
 have HM0 := hid hm
 have HK0 : Hid (Keep (fun c => (c = m ∨ lv.ownBlock = some c) ∨ c = y) w w) := hid (Keep.refl _ _)
 have HA0 := hid (fun (c : Nat) (h : (Value.slice A 0 0).ownBlock = some c) => (Or.inl h : (Value.slice A 0 0).ownBlock = some c ∨ w.heap.size ≤ c))
 have HL0 := hid (fun (c : Nat) (h : lv.ownBlock = some c) => (Or.inl h : lv.ownBlock = some c ∨ w.heap.size ≤ c))
 clear hy hm
 have lb' := lb (by omega) (by omega)
 have hl8 : 1 ≤ l6 ∧ l6 ≤ 8 := by unfold p2 at lb'; omega
 have y7 : IntKind.i64.wrap (2 * l6) = 2 * l6 := IntWalk.i64_in _ (by omega)
 have y8 : IntKind.i64.wrap ((b : Int) + 3) = (b : Int) + 3 := IntWalk.i64_in _ (by omega)
 clear lb'
 have e : aNext b s g d ⟨W, L, 8, x0, l6, b + 4 + I, ww, vv⟩ = ⟨casW W (b + 3) l6 (2 * l6), L ++ [⟨3, (b + 3 : Nat), l6, 2 * l6, rd W (b + 3) == l6⟩], 0, dNext x0, l6, b + 4 + I, ww, vv⟩ := rfl
 rw [e]
 clear e
 have y1 : IntKind.i64.wrap ((b : Int) + 4) = (b : Int) + 4 := IntWalk.i64_in _ (by omega)
 have y2 : IntKind.i64.wrap ((b : Int) + 4 + (I : Int)) = (b : Int) + 4 + (I : Int) := IntWalk.i64_in _ (by omega)
 go_enter Tryz.func60, Tryz.ntmps60
 go_wp2_with fail
 go_quiet (fail)
 obtain ⟨w1, hw1⟩ : ∃ w', w' = w.drewN nq := ⟨_, rfl⟩
 rw [← hw1]
 have HY1 := hid (show Blk w1 y 127 [i64 (b : Int), i64 (s : Int), i64 g, i64 d, i64 (x0), i64 (8), i64 (l6), i64 ((I : Nat) : Int), i64 (ww), i64 (vv)] from by rw [hw1]; exact HY0.out.drewN nq)
 have HM1 := hid (RefAt.keep HM0.out (show Keep (fun c => c = y) w w1 from by rw [hw1]; exact (Keep.refl _ _).drewN nq) (fun c h => r6_far2 HM0.out HY0.out c h))
 have HK1 : Hid (Keep (fun c => (c = m ∨ lv.ownBlock = some c) ∨ c = y) w w1) := hid (HK0.out.trans (show Keep (fun c => c = y) w w1 from by rw [hw1]; exact (Keep.refl _ _).drewN nq) (fun c _ h => Or.inr h))
 have HA1 := HA0
 have HL1 := HL0
 clear qy0 HY0 HM0 HK0 HA0 HL0
 have qy1 := HY1.out.k10
 clear hw1
 clear y1 y2
 go_wp2_with fail
 apply wp_region_text (WI := WEnd 15 (fun wx => Blk wx y 127 [i64 (b : Int), i64 (s : Int), i64 g, i64 d, i64 (x0), i64 (8), i64 (l6), i64 ((I : Nat) : Int), i64 (ww), i64 (vv)] ∧ RefAt B wx m A ca lv W L ∧ Keep0 w1 wx) (fun wx => Blk wx y 127 [i64 (b : Int), i64 (s : Int), i64 g, i64 d, i64 (x0), i64 (8), i64 (l6), i64 ((I : Nat) : Int), i64 (ww), i64 (vv)] ∧ RefPost B w1 m A lv (casW W (b + 3) l6 (2 * l6)) (L ++ [⟨3, (b + 3 : Nat), l6, 2 * l6, rd W (b + 3) == l6⟩]) wx)) (by kernel_rfl) (by kernel_rfl)
 case hob =>
  iterate 4
   apply Oblig.cons
   case h =>
    intro S w1 hwi hSi hd hcl
    apply StepOk.intro
    intro K hK
    go_simp
    apply hK
    · rfl
    · conv => (lhs; whnf)
    · exact hwi.fixed (by decide)
   simp only [put_lit, put_none]
   try dsimp only [List.set_cons_succ, List.set_cons_zero]
  apply Oblig.cons
  case h =>
   intro S w1 hwi hSi hd hcl
   apply StepOk.intro
   intro K hK
   have hlast : S 15 = false := by
    cases h : S 15 with
    | false => rfl
    | true =>
     have h0 := (hcl 15 _ rfl h) ⟨5, .data⟩ (by simp) rfl
     have h1 := (hcl 5 _ rfl h0) ⟨4, .data⟩ (by simp) rfl
     rw [hSi] at h1
     cases h1
   have qyq := (hwi.1 hlast).1.k10
   go_simp
   apply hK
   · rfl
   · conv => (lhs; whnf)
   · exact hwi.fixed (by decide)
  simp only [put_lit, put_none]
  try dsimp only [List.set_cons_succ, List.set_cons_zero]
  iterate 4
   apply Oblig.cons
   case h =>
    intro S w1 hwi hSi hd hcl
    apply StepOk.intro
    intro K hK
    go_simp
    apply hK
    · rfl
    · conv => (lhs; whnf)
    · exact hwi.fixed (by decide)
   simp only [put_lit, put_none]
   try dsimp only [List.set_cons_succ, List.set_cons_zero]
  apply Oblig.cons
  case h =>
   intro S w1 hwi hSi hd hcl
   apply StepOk.intro
   intro K hK
   have hlast : S 15 = false := by
    cases h : S 15 with
    | false => rfl
    | true => exact absurd ((hcl 15 _ rfl h) ⟨9, .data⟩ (by simp) rfl) (by rw [hSi]; decide)
   have qyq := (hwi.1 hlast).1.k10
   go_simp
   apply hK
   · rfl
   · conv => (lhs; whnf)
   · exact hwi.fixed (by decide)
  simp only [put_lit, put_none]
  try dsimp only [List.set_cons_succ, List.set_cons_zero]
  iterate 3
   apply Oblig.cons
   case h =>
    intro S w1 hwi hSi hd hcl
    apply StepOk.intro
    intro K hK
    go_simp
    apply hK
    · rfl
    · conv => (lhs; whnf)
    · exact hwi.fixed (by decide)
   simp only [put_lit, put_none]
   try dsimp only [List.set_cons_succ, List.set_cons_zero]
  apply Oblig.cons
  case h =>
   intro S w1 hwi hSi hd hcl
   apply StepOk.intro
   intro K hK
   have hlast : S 15 = false := by
    cases h : S 15 with
    | false => rfl
    | true =>
     have h0 := (hcl 15 _ rfl h) ⟨14, .data⟩ (by simp) rfl
     have h1 := (hcl 14 _ rfl h0) ⟨13, .data⟩ (by simp) rfl
     rw [hSi] at h1
     cases h1
   have qyq := (hwi.1 hlast).1.k10
   go_simp
   apply hK
   · rfl
   · conv => (lhs; whnf)
   · exact hwi.fixed (by decide)
  simp only [put_lit, put_none]
  try dsimp only [List.set_cons_succ, List.set_cons_zero]
  apply Oblig.cons
  case h =>
   intro S w1 hwi hSi hd hcl
   apply StepOk.intro
   intro K hK
   go_simp
   apply hK
   · rfl
   · conv => (lhs; whnf)
   · exact hwi.fixed (by decide)
  simp only [put_lit, put_none]
  try dsimp only [List.set_cons_succ, List.set_cons_zero]
  apply Oblig.cons
  case h =>
   intro S w1 hwi hSi hd hcl
   apply StepOk.intro
   intro K hK
   have HMq := hid (hwi.1 hSi).2.1
   have HYq := hid (hwi.1 hSi).1
   have hk0 := (hwi.1 hSi).2.2
   go_simp
   refine (r6_CasJ ((b : Int) + 3) (b + 3) (by omega) l6 (2 * l6) HMq.out (by omega) hW hL).mono ?_
   rintro e w2 ⟨rfl, hp⟩
   obtain ⟨Aq, cq, lvq, hq1, hq2, hq3⟩ := id hp
   have hblk := hq2.blk HYq.out (r6_far HMq.out HYq.out)
   apply hK
   · rfl
   · conv => (lhs; whnf)
   · exact WEnd.done ⟨hblk, hp.before hk0⟩
  simp only [put_lit, put_none]
  try dsimp only [List.set_cons_succ, List.set_cons_zero]
  exact Oblig.nil
 case h0 =>
  exact ⟨fun _ => ⟨HY1.out.drew, HM1.out.keep ((Keep.refl (fun _ => False) _).drew) (fun _ _ h => h), (Keep.refl _ _).drew⟩, (fun h => by cases h)⟩
 case hend =>
  intro S wx hwi hall
  obtain ⟨hyq, A3, c3, lv3, hm, hk, ha, hl⟩ := hwi.2 (hall 15 (by decide))
  obtain ⟨w2, hw2⟩ : ∃ w', w' = wx := ⟨_, rfl⟩
  rw [← hw2] at hyq hm hk
  rw [← hw2]
  have HY2 := hid (show Blk w2 y 127 [i64 (b : Int), i64 (s : Int), i64 g, i64 d, i64 (x0), i64 (8), i64 (l6), i64 ((I : Nat) : Int), i64 (ww), i64 (vv)] from hyq)
  have HM2 := hid hm
  have HK2 : Hid (Keep (fun c => (c = m ∨ lv.ownBlock = some c) ∨ c = y) w w2) := hid (HK1.out.trans hk (fun _ _ h => Or.inl h))
  have HA2 := hid (fun c h => (ha c h).imp id (fun h => Nat.le_trans HK1.out.size h))
  have HL2 := hid (fun c h => (hl c h).imp id (fun h => Nat.le_trans HK1.out.size h))
  clear hm hk ha hl hyq qy1 HY1 HM1 HK1 HA1 HL1 hw2 hwi hall
  have qy2 := HY2.out.k10
  go_wp2_with fail
  refine (ref2_Next x0 _ xb).mono ?_
  rintro e w0 ⟨rfl, rfl⟩
  go_wp2_with fail
  go_ret
  exact r6_end rfl (HM2.out.keep ((((Keep.refl (fun c => c = y) w2)).set ⟨y, 4, none⟩ _ (fun _ => rfl)).set ⟨y, 5, none⟩ _ (fun _ => rfl)) (fun c h => r6_far2 HM2.out HY2.out c h)) (HK2.out.trans ((((Keep.refl (fun c => c = y) w2)).set ⟨y, 4, none⟩ _ (fun _ => rfl)).set ⟨y, 5, none⟩ _ (fun _ => rfl)) (fun c _ h => Or.inr h)) HA2.out HL2.out (((HY2.out).set 4 _).set 5 _) (by simp only [rcs6, Nat.add_sub_cancel_left]; rfl)
set_option maxHeartbeats 4000000 in
theorem r6_step9 (hm : RefAt B w m A ca lv W L) (hy : Blk w y 127 [i64 (b : Int), i64 (s : Int), i64 g, i64 d, i64 (x0), i64 (9), i64 (l6), i64 ((I : Nat) : Int), i64 (ww), i64 (vv)]) (hi : AInv b s g d ⟨W, L, 9, x0, l6, b + 4 + I, ww, vv⟩) (hb0 : b ≤ 1000) (hIb : I ≤ 2000) (hL : L.length ≤ 1000000000) :
 Calls Tryz.prog 60 #[ptr y, ptr m] w (R6P B w m A lv y b s g d (aNext b s g d ⟨W, L, 9, x0, l6, b + 4 + I, ww, vv⟩)) := by
 obtain ⟨ln, wl, s1, g1, d1, lw, xb, nx, lb, pb, vb, gr⟩ := hi
 simp only at *
 have hs8 : 1 ≤ s ∧ s ≤ 8 := by unfold p2 at s1; omega
 have hW : W.length ≤ 1000000 := by omega
 have HY0 : Hid (Blk w y 127 [i64 (b : Int), i64 (s : Int), i64 g, i64 d, i64 (x0), i64 (9), i64 (l6), i64 ((I : Nat) : Int), i64 (ww), i64 (vv)]) := hid hy
 have qy0 := HY0.out.k10
 have HM0 := hid hm
 have HK0 : Hid (Keep (fun c => (c = m ∨ lv.ownBlock = some c) ∨ c = y) w w) := hid (Keep.refl _ _)
 have HA0 := hid (fun (c : Nat) (h : (Value.slice A 0 0).ownBlock = some c) => (Or.inl h : (Value.slice A 0 0).ownBlock = some c ∨ w.heap.size ≤ c))
 have HL0 := hid (fun (c : Nat) (h : lv.ownBlock = some c) => (Or.inl h : lv.ownBlock = some c ∨ w.heap.size ≤ c))
 clear hy hm
 rw [aNext_over rfl]
 have y1 : IntKind.i64.wrap ((b : Int) + 4) = (b : Int) + 4 := IntWalk.i64_in _ (by omega)
 have y2 : IntKind.i64.wrap ((b : Int) + 4 + (I : Int)) = (b : Int) + 4 + (I : Int) := IntWalk.i64_in _ (by omega)
 go_enter Tryz.func60, Tryz.ntmps60
 go_wp2_with fail
 go_quiet (fail)
 obtain ⟨w1, hw1⟩ : ∃ w', w' = w.drewN nq := ⟨_, rfl⟩
 rw [← hw1]
 have HY1 := hid (show Blk w1 y 127 [i64 (b : Int), i64 (s : Int), i64 g, i64 d, i64 (x0), i64 (9), i64 (l6), i64 ((I : Nat) : Int), i64 (ww), i64 (vv)] from by rw [hw1]; exact HY0.out.drewN nq)
 have HM1 := hid (RefAt.keep HM0.out (show Keep (fun c => c = y) w w1 from by rw [hw1]; exact (Keep.refl _ _).drewN nq) (fun c h => r6_far2 HM0.out HY0.out c h))
 have HK1 : Hid (Keep (fun c => (c = m ∨ lv.ownBlock = some c) ∨ c = y) w w1) := hid (HK0.out.trans (show Keep (fun c => c = y) w w1 from by rw [hw1]; exact (Keep.refl _ _).drewN nq) (fun c _ h => Or.inr h))
 have HA1 := HA0
 have HL1 := HL0
 clear qy0 HY0 HM0 HK0 HA0 HL0
 have qy1 := HY1.out.k10
 clear hw1
 clear y1 y2
 go_wp2_with fail
 go_ret
 exact r6_end rfl (HM1.out.keep ((Keep.refl (fun c => c = y) w1)) (fun c h => r6_far2 HM1.out HY1.out c h)) (HK1.out.trans ((Keep.refl (fun c => c = y) w1)) (fun c _ h => Or.inr h)) HA1.out HL1.out (HY1.out) (by simp only [rcs6, Nat.add_sub_cancel_left]; rfl)
end
end Go.Proofs.YthaceckccobgeaaGreat

namespace Go.Proofs.YthaceckccobgeaaGreat
open Go.RowKit
set_option linter.unusedVariables false
set_option linter.unusedSimpArgs false
set_option maxRecDepth 100000
section
variable {B : Nat} {w : World} {m y : Nat} {A : Option Addr} {ca : Nat} {lv : Value} {b s : Nat} {g d : Int}
set_option maxHeartbeats 1000000 in
theorem r6_Step (t : AS) (hm : RefAt B w m A ca lv t.W t.L) (hy : Blk w y 127 (rcs6 b s g d t)) (hi : AInv b s g d t) (hb0 : b ≤ 1000) (hsp : t.sp ≤ 2000) (hL : t.L.length ≤ 1000000000) :
 Calls Tryz.prog 60 #[ptr y, ptr m] w (R6P B w m A lv y b s g d (aNext b s g d t)) := by
 obtain ⟨W, L, st, x0, l6, sp, ww, vv⟩ := t
 obtain ⟨I, hI⟩ : ∃ I, I = sp - (b + 4) := ⟨_, rfl⟩
 have hs8 : 1 ≤ s ∧ s ≤ 8 := by have := hi.s1; unfold p2 at this; omega
 have hy2 : Blk w y 127 [i64 (b : Int), i64 (s : Int), i64 g, i64 d, i64 x0, i64 (st : Int), i64 l6, i64 (I : Int), i64 ww, i64 vv] := by rw [hI]; exact hy
 by_cases h09 : st = 0 ∨ st = 9
 · have hi2 : AInv b s g d ⟨W, L, st, x0, l6, b + 4 + I, ww, vv⟩ := ⟨hi.ln, hi.wl, hi.s1, hi.g1, hi.d1, hi.lw, hi.xb, hi.nx, hi.lb, fun h1 h2 => by have h1' : 1 ≤ st := h1; have h2' : st ≤ 8 := h2; omega, hi.vb, hi.gr⟩
   have hIb : I ≤ 2000 := by have : sp ≤ 2000 := hsp; omega
   rcases h09 with rfl | rfl
   · exact r6_step0 hm hy2 hi2 hb0 hIb hL
   · refine (r6_step9 hm hy2 hi2 hb0 hIb hL).mono ?_
     rw [aNext_over (t := ⟨W, L, 9, x0, l6, b + 4 + I, ww, vv⟩) rfl, aNext_over (t := ⟨W, L, 9, x0, l6, sp, ww, vv⟩) rfl]
     rintro e w' ⟨h1, A1, c1, lv1, h2, h3, h4⟩
     refine ⟨h1, A1, c1, lv1, h2, ?_, h4⟩
     simp only [rcs6, Nat.add_sub_cancel_left] at h3
     simp only [rcs6]
     rw [← hI]
     exact h3
 · have hn := hi.nx
   have hpb := hi.pb (by show 1 ≤ st; have : st ≤ 9 := hn; omega) (by show st ≤ 8; have : st ≤ 9 := hn; omega)
   simp only at hn hpb
   obtain rfl : sp = b + 4 + I := by omega
   have hIb : I ≤ 2000 := by omega
   have hst : st = 1 ∨ st = 2 ∨ st = 3 ∨ st = 4 ∨ st = 5 ∨ st = 6 ∨ st = 7 ∨ st = 8 := by omega
   rcases hst with rfl | rfl | rfl | rfl | rfl | rfl | rfl | rfl
   · exact r6_step1 hm hy2 hi hb0 hIb hL
   · exact r6_step2 hm hy2 hi hb0 hIb hL
   · exact r6_step3 hm hy2 hi hb0 hIb hL
   · exact r6_step4 hm hy2 hi hb0 hIb hL
   · exact r6_step5 hm hy2 hi hb0 hIb hL
   · exact r6_step6 hm hy2 hi hb0 hIb hL
   · exact r6_step7 hm hy2 hi hb0 hIb hL
   · exact r6_step8 hm hy2 hi hb0 hIb hL
theorem r6_New (b st g d : Int) (th : Nat) (w : World) (hth : th ≤ 1000) (x7 : Nat) (hx7 : (x7 : Int) = dBegin th) :
 Calls Tryz.prog 94 #[i64 b, i64 st, i64 g, i64 d, i64 (th : Int)] w fun e w' => ∃ y, e = .returned (ptr y) ∧ w.heap.size ≤ y ∧ Keep0 w w' ∧ Blk w' y 127 [i64 b, i64 st, i64 g, i64 d, i64 (x7 : Int), i64 0, i64 0, i64 0, i64 0, i64 0] := by
 have HB := hid (ref2_Begin th w (by omega))
 rw [← hx7] at HB
 clear hx7
 go_enter Tryz.func94, Tryz.ntmps94
 go_wp2_with fail
 refine HB.out.mono ?_
 rintro e w1 ⟨rfl, rfl⟩
 go_wp2_with fail
 go_ret
 exact ⟨w.heap.size, rfl, Nat.le_refl _, (Keep.refl _ _).alloc _, Blk.made rfl rfl⟩
end
end Go.Proofs.YthaceckccobgeaaGreat
