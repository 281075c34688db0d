/- PlanTells: package plan against the words of law 05 about it. -/
import Derived.Test.YtjpkepceenghcaaGhost
import Derived.Test.YtjpkepceenghcaaLaw5
import Derived.Test.YtjpkepceenghcaaRow
namespace Go.Proofs.Ytjpkepceenghcaa
open Go.ChangeShapes Go.WideShapes Go.ChangeAt Go.RowKit
set_option linter.unusedVariables false
set_option linter.unusedSimpArgs false

def tellsD (W : List Int) : Nat → Value → World → Prop
  | 57 => PMem 0 W
  | 58 => PInts W
  | 60 => PRef 0 W
  | 61 => PRef 0 W
  | 62 => PRef 0 W
  | 63 => PInts W
  | 68 => PMem 0 W
  | 69 => PLog0
  | _ => fun _ _ => True
theorem tells_stable {W : List Int} : Stable (tellsD W) := by
  intro i v w w' h hk
  unfold tellsD at *
  split at h <;> first | exact h.keep hk | exact h | trivial

set_option maxHeartbeats 4000000 in
set_option maxRecDepth 100000 in
theorem planTells_walk {w : World} {v : Value} (hc : ConfIn w v) (x : Int) (hx : (Lit.int .u8 x).wf = true) (y : Int) (hy : (Lit.int .u8 y).wf = true) (z : Int) (hz : (Lit.int .u8 z).wf = true) : Calls Try.prog 7 #[v, .int .u8 x, .int .u8 y, .int .u8 z] w (Ret (.bool true) w) := by
  have hx := bounds_u8 hx
  have hy := bounds_u8 hy
  have hz := bounds_u8 hz
  obtain ⟨t, s, g, l, r, k, P, L, PA, pc, LA, lc, rfl, hP, hL, hp1, hl1⟩ := hc
  have HB0 : Hid (Blk (w.alloc (.cells #[i64 t, i64 s, i64 g, i64 l, i64 r, i64 k, .slice PA P.length pc, .slice LA L.length lc] 24)) w.heap.size 24 [i64 t, i64 s, i64 g, i64 l, i64 r, i64 k, .slice PA P.length pc, .slice LA L.length lc]) := hid (Blk.made rfl rfl)
  have HG := hid (fun (w' : World) (hk : Keep0 w w') => law_Good t s g l r k PA P pc LA L lc w' (hP.keep hk) (hL.keep hk) hp1 hl1)
  have HPP := hid hP
  have HLL := hid hL
  clear hP hL
  go_enter Try.func7, Try.ntmps7
  go_wp2_with fail
  refine (law5_head _).mono ?_
  rintro e w1 ⟨rfl, hk⟩
  have HK1 : Hid (Keep0 w w1) := hid (Keep0.step (by repeat (with_reducible first | exact Keep.refl _ _ | apply Keep.alloc | apply Keep.drewN | apply Keep.drew)) hk)
  have THB0 := hk.blk (show Blk _ _ _ _ from by repeat (with_reducible first | exact HB0.out | apply Blk.alloc | apply Blk.drewN | apply Blk.drew)) (fun h => h)
  clear hk HB0
  have HB0 := hid THB0; clear THB0
  have qHB0 := HB0.out.k8
  go_wp2_with fail
  refine (HG.out _ HK1.out).mono ?_
  rintro e w2 ⟨rfl, hk⟩
  have HK2 : Hid (Keep0 w w2) := hid (Keep0.step HK1.out hk)
  have THB0 := hk.blk HB0.out (fun h => h)
  clear hk HB0 qHB0
  have HB0 := hid THB0
  clear THB0
  have qHB0 := HB0.out.k8
  cases hgood : goodB t s g l r k P L
  · go_wp2
    go_ret
    exact ⟨rfl, HK2.out⟩
  · have R := Right.of hgood
    have hs := R.sb
    have hk := R.k
    have hp := R.p
    have HR := hid R
    clear R hgood hp1 hl1 HG
    have hv0 : 0 ≤ x % (P.length : Int) := Int.emod_nonneg _ (by omega)
    have hv1 : x % (P.length : Int) < P.length := Int.emod_lt_of_pos _ (by omega)
    have hu0 : 0 ≤ y % s := Int.emod_nonneg _ (by omega)
    have hu1 : y % s < s := Int.emod_lt_of_pos _ (by omega)
    have hq0 : 0 ≤ z % k := Int.emod_nonneg _ (by omega)
    have hq1 : z % k < k := Int.emod_lt_of_pos _ (by omega)
    have hmm := mul_bd 100 22 (show (0 : Int) ≤ P.length by omega) (by omega) (show 0 ≤ 6 + 2 * s by omega) (by omega)
    have hpl : P.length ≤ L.length := by have := HR.out.len; omega
    obtain ⟨lb, lo, rfl, hlc⟩ := HLL.out.cell (by omega)
    have HLC := hid (fun w' (hk : Keep0 w w') i (hi : i < P.length) => (cell_old hk (World.block_lt_of_cell? _ _ (hlc i (by omega))) (fun h => h) _).trans (hlc i (by omega)))
    have HLB := hid (fun w' (hk : Keep0 w w') => Nat.lt_of_lt_of_le (World.block_lt_of_cell? _ _ (hlc 0 (by omega))) hk.size)
    have hfl := freshW_length s k P.length L
    have HFL := hid hfl
    clear hlc hfl
    go_wp2_with fail
    generalize x % (P.length : Int) = v at *
    generalize y % s = u at *
    generalize z % k = q at *
    have e1 : ∀ a : Int, (a == a) = true := fun a => by simp
    clear qHB0
    apply wp_region_free (WI := fun S gh wx => Keep0 w wx ∧ Blk wx w.heap.size 24 [i64 t, i64 s, i64 g, i64 l, i64 r, i64 k, .slice PA P.length pc, .slice (some ⟨lb, lo, none⟩) L.length lc] ∧ GWI (tellsD (freshW s k P.length L)) S gh wx) (by kernel_rfl) (by kernel_rfl)
    case hob =>
      apply ObligF.fixed
      case h =>
        intro S gh w1 hwi hSi hd hcl
        apply StepOk.intro
        intro K hK
        have cb1 := hwi.2.1.k8
        go_simp
        apply hK
        · rfl
        · conv => (lhs; whnf)
        · exact ⟨hwi.1, hwi.2.1, GWI.fixed hwi.2.2 trivial⟩
      simp only [put_lit, put_none, List.set_cons_succ, List.set_cons_zero]
      apply ObligF.fixed
      case h =>
        intro S gh w1 hwi hSi hd hcl
        apply StepOk.intro
        intro K hK
        have cb1 := hwi.2.1.k8
        go_simp
        apply hK
        · rfl
        · conv => (lhs; whnf)
        · exact ⟨hwi.1, hwi.2.1, GWI.fixed hwi.2.2 trivial⟩
      simp only [put_lit, put_none, List.set_cons_succ, List.set_cons_zero]
      apply ObligF.fixed
      case h =>
        intro S gh w1 hwi hSi hd hcl
        apply StepOk.intro
        intro K hK
        have cb1 := hwi.2.1.k8
        go_simp
        apply hK
        · rfl
        · conv => (lhs; whnf)
        · exact ⟨hwi.1, hwi.2.1, GWI.fixed hwi.2.2 trivial⟩
      simp only [put_lit, put_none, List.set_cons_succ, List.set_cons_zero]
      apply ObligF.fixed
      case h =>
        intro S gh w1 hwi hSi hd hcl
        apply StepOk.intro
        intro K hK
        have cb1 := hwi.2.1.k8
        go_simp
        apply hK
        · rfl
        · conv => (lhs; whnf)
        · exact ⟨hwi.1, hwi.2.1, GWI.fixed hwi.2.2 trivial⟩
      simp only [put_lit, put_none, List.set_cons_succ, List.set_cons_zero]
      apply ObligF.fixed
      case h =>
        intro S gh w1 hwi hSi hd hcl
        apply StepOk.intro
        intro K hK
        have cb1 := hwi.2.1.k8
        go_simp
        refine (plan_Limit t s g l r k PA P.length pc (some ⟨lb, lo, none⟩) L.length lc v _ hs.1 hs.2 (by omega) (by omega)).mono ?_
        rintro e w2 ⟨rfl, hk⟩
        apply hK
        · rfl
        · conv => (lhs; whnf)
        · exact ⟨Keep0.step hwi.1 hk, hk.blk hwi.2.1 (fun h => h), GWI.fixed (hwi.2.2.keep tells_stable hk) trivial⟩
      simp only [put_lit, put_none, List.set_cons_succ, List.set_cons_zero]
      apply ObligF.fixed
      case h =>
        intro S gh w1 hwi hSi hd hcl
        apply StepOk.intro
        intro K hK
        have cb1 := hwi.2.1.k8
        go_simp
        apply hK
        · rfl
        · conv => (lhs; whnf)
        · exact ⟨hwi.1, hwi.2.1, GWI.fixed hwi.2.2 trivial⟩
      simp only [put_lit, put_none, List.set_cons_succ, List.set_cons_zero]
      apply ObligF.fixed
      case h =>
        intro S gh w1 hwi hSi hd hcl
        apply StepOk.intro
        intro K hK
        have cb1 := hwi.2.1.k8
        go_simp
        apply hK
        · rfl
        · conv => (lhs; whnf)
        · exact ⟨hwi.1, hwi.2.1, GWI.fixed hwi.2.2 trivial⟩
      simp only [put_lit, put_none, List.set_cons_succ, List.set_cons_zero]
      apply ObligF.fixed
      case h =>
        intro S gh w1 hwi hSi hd hcl
        apply StepOk.intro
        intro K hK
        have cb1 := hwi.2.1.k8
        go_simp
        refine (ref_Limit t s g l r k PA P.length pc (some ⟨lb, lo, none⟩) L.length lc v _ hs.1 hs.2 (by omega) (by omega)).mono ?_
        rintro e w2 ⟨rfl, hk⟩
        apply hK
        · rfl
        · conv => (lhs; whnf)
        · exact ⟨Keep0.step hwi.1 hk, hk.blk hwi.2.1 (fun h => h), GWI.fixed (hwi.2.2.keep tells_stable hk) trivial⟩
      simp only [put_lit, put_none, List.set_cons_succ, List.set_cons_zero]
      apply ObligF.fixed
      case h =>
        intro S gh w1 hwi hSi hd hcl
        apply StepOk.intro
        intro K hK
        have cb1 := hwi.2.1.k8
        go_simp
        apply hK
        · rfl
        · conv => (lhs; whnf)
        · exact ⟨hwi.1, hwi.2.1, GWI.fixed hwi.2.2 trivial⟩
      simp only [put_lit, put_none, List.set_cons_succ, List.set_cons_zero]
      apply ObligF.fixed
      case h =>
        intro S gh w1 hwi hSi hd hcl
        apply StepOk.intro
        intro K hK
        have cb1 := hwi.2.1.k8
        go_simp
        apply hK
        · rfl
        · conv => (lhs; whnf)
        · exact ⟨hwi.1, hwi.2.1, GWI.fixed hwi.2.2 trivial⟩
      simp only [put_lit, put_none, List.set_cons_succ, List.set_cons_zero]
      apply ObligF.fixed
      case h =>
        intro S gh w1 hwi hSi hd hcl
        apply StepOk.intro
        intro K hK
        have cb1 := hwi.2.1.k8
        go_simp
        apply hK
        · rfl
        · conv => (lhs; whnf)
        · exact ⟨hwi.1, hwi.2.1, GWI.fixed hwi.2.2 trivial⟩
      simp only [put_lit, put_none, List.set_cons_succ, List.set_cons_zero]
      apply ObligF.fixed
      case h =>
        intro S gh w1 hwi hSi hd hcl
        apply StepOk.intro
        intro K hK
        have cb1 := hwi.2.1.k8
        go_simp
        apply hK
        · rfl
        · conv => (lhs; whnf)
        · exact ⟨hwi.1, hwi.2.1, GWI.fixed hwi.2.2 trivial⟩
      simp only [put_lit, put_none, List.set_cons_succ, List.set_cons_zero]
      apply ObligF.fixed
      case h =>
        intro S gh w1 hwi hSi hd hcl
        apply StepOk.intro
        intro K hK
        have cb1 := hwi.2.1.k8
        go_simp
        apply hK
        · rfl
        · conv => (lhs; whnf)
        · exact ⟨hwi.1, hwi.2.1, GWI.fixed hwi.2.2 trivial⟩
      simp only [put_lit, put_none, List.set_cons_succ, List.set_cons_zero]
      apply ObligF.fixed
      case h =>
        intro S gh w1 hwi hSi hd hcl
        apply StepOk.intro
        intro K hK
        have cb1 := hwi.2.1.k8
        go_simp
        refine (plan_Avail t s g l r k PA P.length pc (some ⟨lb, lo, none⟩) L.length lc v _ hs.1 hs.2 (by omega) (by omega)).mono ?_
        rintro e w2 ⟨rfl, hk⟩
        apply hK
        · rfl
        · conv => (lhs; whnf)
        · exact ⟨Keep0.step hwi.1 hk, hk.blk hwi.2.1 (fun h => h), GWI.fixed (hwi.2.2.keep tells_stable hk) trivial⟩
      simp only [put_lit, put_none, List.set_cons_succ, List.set_cons_zero]
      apply ObligF.fixed
      case h =>
        intro S gh w1 hwi hSi hd hcl
        apply StepOk.intro
        intro K hK
        have cb1 := hwi.2.1.k8
        go_simp
        apply hK
        · rfl
        · conv => (lhs; whnf)
        · exact ⟨hwi.1, hwi.2.1, GWI.fixed hwi.2.2 trivial⟩
      simp only [put_lit, put_none, List.set_cons_succ, List.set_cons_zero]
      apply ObligF.fixed
      case h =>
        intro S gh w1 hwi hSi hd hcl
        apply StepOk.intro
        intro K hK
        have cb1 := hwi.2.1.k8
        go_simp
        apply hK
        · rfl
        · conv => (lhs; whnf)
        · exact ⟨hwi.1, hwi.2.1, GWI.fixed hwi.2.2 trivial⟩
      simp only [put_lit, put_none, List.set_cons_succ, List.set_cons_zero]
      apply ObligF.fixed
      case h =>
        intro S gh w1 hwi hSi hd hcl
        apply StepOk.intro
        intro K hK
        have cb1 := hwi.2.1.k8
        go_simp
        refine (ref_Avail t s g l r k PA P.length pc (some ⟨lb, lo, none⟩) L.length lc v _ hs.1 hs.2 (by omega) (by omega)).mono ?_
        rintro e w2 ⟨rfl, hk⟩
        apply hK
        · rfl
        · conv => (lhs; whnf)
        · exact ⟨Keep0.step hwi.1 hk, hk.blk hwi.2.1 (fun h => h), GWI.fixed (hwi.2.2.keep tells_stable hk) trivial⟩
      simp only [put_lit, put_none, List.set_cons_succ, List.set_cons_zero]
      apply ObligF.fixed
      case h =>
        intro S gh w1 hwi hSi hd hcl
        apply StepOk.intro
        intro K hK
        have cb1 := hwi.2.1.k8
        go_simp
        apply hK
        · rfl
        · conv => (lhs; whnf)
        · exact ⟨hwi.1, hwi.2.1, GWI.fixed hwi.2.2 trivial⟩
      simp only [put_lit, put_none, List.set_cons_succ, List.set_cons_zero]
      apply ObligF.fixed
      case h =>
        intro S gh w1 hwi hSi hd hcl
        apply StepOk.intro
        intro K hK
        have cb1 := hwi.2.1.k8
        go_simp
        apply hK
        · rfl
        · conv => (lhs; whnf)
        · exact ⟨hwi.1, hwi.2.1, GWI.fixed hwi.2.2 trivial⟩
      simp only [put_lit, put_none, List.set_cons_succ, List.set_cons_zero]
      apply ObligF.fixed
      case h =>
        intro S gh w1 hwi hSi hd hcl
        apply StepOk.intro
        intro K hK
        have cb1 := hwi.2.1.k8
        go_simp
        apply hK
        · rfl
        · conv => (lhs; whnf)
        · exact ⟨hwi.1, hwi.2.1, GWI.fixed hwi.2.2 trivial⟩
      simp only [put_lit, put_none, List.set_cons_succ, List.set_cons_zero]
      apply ObligF.fixed
      case h =>
        intro S gh w1 hwi hSi hd hcl
        apply StepOk.intro
        intro K hK
        have cb1 := hwi.2.1.k8
        go_simp
        apply hK
        · rfl
        · conv => (lhs; whnf)
        · exact ⟨hwi.1, hwi.2.1, GWI.fixed hwi.2.2 trivial⟩
      simp only [put_lit, put_none, List.set_cons_succ, List.set_cons_zero]
      apply ObligF.fixed
      case h =>
        intro S gh w1 hwi hSi hd hcl
        apply StepOk.intro
        intro K hK
        have cb1 := hwi.2.1.k8
        go_simp
        apply hK
        · rfl
        · conv => (lhs; whnf)
        · exact ⟨hwi.1, hwi.2.1, GWI.fixed hwi.2.2 trivial⟩
      simp only [put_lit, put_none, List.set_cons_succ, List.set_cons_zero]
      apply ObligF.fixed
      case h =>
        intro S gh w1 hwi hSi hd hcl
        apply StepOk.intro
        intro K hK
        have cb1 := hwi.2.1.k8
        go_simp
        apply hK
        · rfl
        · conv => (lhs; whnf)
        · exact ⟨hwi.1, hwi.2.1, GWI.fixed hwi.2.2 trivial⟩
      simp only [put_lit, put_none, List.set_cons_succ, List.set_cons_zero]
      apply ObligF.fixed
      case h =>
        intro S gh w1 hwi hSi hd hcl
        apply StepOk.intro
        intro K hK
        have cb1 := hwi.2.1.k8
        go_simp
        refine (plan_Lease t s g l r k PA P.length pc (some ⟨lb, lo, none⟩) L.length lc v u _ hs.1 hs.2 (by omega) (by omega) (by omega) (by omega)).mono ?_
        rintro e w2 ⟨rfl, hk⟩
        apply hK
        · rfl
        · conv => (lhs; whnf)
        · exact ⟨Keep0.step hwi.1 hk, hk.blk hwi.2.1 (fun h => h), GWI.fixed (hwi.2.2.keep tells_stable hk) trivial⟩
      simp only [put_lit, put_none, List.set_cons_succ, List.set_cons_zero]
      apply ObligF.fixed
      case h =>
        intro S gh w1 hwi hSi hd hcl
        apply StepOk.intro
        intro K hK
        have cb1 := hwi.2.1.k8
        go_simp
        apply hK
        · rfl
        · conv => (lhs; whnf)
        · exact ⟨hwi.1, hwi.2.1, GWI.fixed hwi.2.2 trivial⟩
      simp only [put_lit, put_none, List.set_cons_succ, List.set_cons_zero]
      apply ObligF.fixed
      case h =>
        intro S gh w1 hwi hSi hd hcl
        apply StepOk.intro
        intro K hK
        have cb1 := hwi.2.1.k8
        go_simp
        apply hK
        · rfl
        · conv => (lhs; whnf)
        · exact ⟨hwi.1, hwi.2.1, GWI.fixed hwi.2.2 trivial⟩
      simp only [put_lit, put_none, List.set_cons_succ, List.set_cons_zero]
      apply ObligF.fixed
      case h =>
        intro S gh w1 hwi hSi hd hcl
        apply StepOk.intro
        intro K hK
        have cb1 := hwi.2.1.k8
        go_simp
        apply hK
        · rfl
        · conv => (lhs; whnf)
        · exact ⟨hwi.1, hwi.2.1, GWI.fixed hwi.2.2 trivial⟩
      simp only [put_lit, put_none, List.set_cons_succ, List.set_cons_zero]
      apply ObligF.fixed
      case h =>
        intro S gh w1 hwi hSi hd hcl
        apply StepOk.intro
        intro K hK
        have cb1 := hwi.2.1.k8
        go_simp
        refine (ref_Lease t s g l r k PA P.length pc (some ⟨lb, lo, none⟩) L.length lc v u _ hs.1 hs.2 (by omega) (by omega) (by omega) (by omega)).mono ?_
        rintro e w2 ⟨rfl, hk⟩
        apply hK
        · rfl
        · conv => (lhs; whnf)
        · exact ⟨Keep0.step hwi.1 hk, hk.blk hwi.2.1 (fun h => h), GWI.fixed (hwi.2.2.keep tells_stable hk) trivial⟩
      simp only [put_lit, put_none, List.set_cons_succ, List.set_cons_zero]
      apply ObligF.fixed
      case h =>
        intro S gh w1 hwi hSi hd hcl
        apply StepOk.intro
        intro K hK
        have cb1 := hwi.2.1.k8
        go_simp
        apply hK
        · rfl
        · conv => (lhs; whnf)
        · exact ⟨hwi.1, hwi.2.1, GWI.fixed hwi.2.2 trivial⟩
      simp only [put_lit, put_none, List.set_cons_succ, List.set_cons_zero]
      apply ObligF.fixed
      case h =>
        intro S gh w1 hwi hSi hd hcl
        apply StepOk.intro
        intro K hK
        have cb1 := hwi.2.1.k8
        go_simp
        apply hK
        · rfl
        · conv => (lhs; whnf)
        · exact ⟨hwi.1, hwi.2.1, GWI.fixed hwi.2.2 trivial⟩
      simp only [put_lit, put_none, List.set_cons_succ, List.set_cons_zero]
      apply ObligF.fixed
      case h =>
        intro S gh w1 hwi hSi hd hcl
        apply StepOk.intro
        intro K hK
        have cb1 := hwi.2.1.k8
        go_simp
        apply hK
        · rfl
        · conv => (lhs; whnf)
        · exact ⟨hwi.1, hwi.2.1, GWI.fixed hwi.2.2 trivial⟩
      simp only [put_lit, put_none, List.set_cons_succ, List.set_cons_zero]
      apply ObligF.fixed
      case h =>
        intro S gh w1 hwi hSi hd hcl
        apply StepOk.intro
        intro K hK
        have cb1 := hwi.2.1.k8
        go_simp
        apply hK
        · rfl
        · conv => (lhs; whnf)
        · exact ⟨hwi.1, hwi.2.1, GWI.fixed hwi.2.2 trivial⟩
      simp only [put_lit, put_none, List.set_cons_succ, List.set_cons_zero]
      apply ObligF.fixed
      case h =>
        intro S gh w1 hwi hSi hd hcl
        apply StepOk.intro
        intro K hK
        have cb1 := hwi.2.1.k8
        go_simp
        apply hK
        · rfl
        · conv => (lhs; whnf)
        · exact ⟨hwi.1, hwi.2.1, GWI.fixed hwi.2.2 trivial⟩
      simp only [put_lit, put_none, List.set_cons_succ, List.set_cons_zero]
      apply ObligF.fixed
      case h =>
        intro S gh w1 hwi hSi hd hcl
        apply StepOk.intro
        intro K hK
        have cb1 := hwi.2.1.k8
        go_simp
        refine (plan_Counter t s g l r k PA P.length pc (some ⟨lb, lo, none⟩) L.length lc v _ hs.1 hs.2 (by omega) (by omega)).mono ?_
        rintro e w2 ⟨rfl, hk⟩
        apply hK
        · rfl
        · conv => (lhs; whnf)
        · exact ⟨Keep0.step hwi.1 hk, hk.blk hwi.2.1 (fun h => h), GWI.fixed (hwi.2.2.keep tells_stable hk) trivial⟩
      simp only [put_lit, put_none, List.set_cons_succ, List.set_cons_zero]
      apply ObligF.fixed
      case h =>
        intro S gh w1 hwi hSi hd hcl
        apply StepOk.intro
        intro K hK
        have cb1 := hwi.2.1.k8
        go_simp
        apply hK
        · rfl
        · conv => (lhs; whnf)
        · exact ⟨hwi.1, hwi.2.1, GWI.fixed hwi.2.2 trivial⟩
      simp only [put_lit, put_none, List.set_cons_succ, List.set_cons_zero]
      apply ObligF.fixed
      case h =>
        intro S gh w1 hwi hSi hd hcl
        apply StepOk.intro
        intro K hK
        have cb1 := hwi.2.1.k8
        go_simp
        apply hK
        · rfl
        · conv => (lhs; whnf)
        · exact ⟨hwi.1, hwi.2.1, GWI.fixed hwi.2.2 trivial⟩
      simp only [put_lit, put_none, List.set_cons_succ, List.set_cons_zero]
      apply ObligF.fixed
      case h =>
        intro S gh w1 hwi hSi hd hcl
        apply StepOk.intro
        intro K hK
        have cb1 := hwi.2.1.k8
        go_simp
        refine (ref_Counter t s g l r k PA P.length pc (some ⟨lb, lo, none⟩) L.length lc v _ hs.1 hs.2 (by omega) (by omega)).mono ?_
        rintro e w2 ⟨rfl, hk⟩
        apply hK
        · rfl
        · conv => (lhs; whnf)
        · exact ⟨Keep0.step hwi.1 hk, hk.blk hwi.2.1 (fun h => h), GWI.fixed (hwi.2.2.keep tells_stable hk) trivial⟩
      simp only [put_lit, put_none, List.set_cons_succ, List.set_cons_zero]
      apply ObligF.fixed
      case h =>
        intro S gh w1 hwi hSi hd hcl
        apply StepOk.intro
        intro K hK
        have cb1 := hwi.2.1.k8
        go_simp
        apply hK
        · rfl
        · conv => (lhs; whnf)
        · exact ⟨hwi.1, hwi.2.1, GWI.fixed hwi.2.2 trivial⟩
      simp only [put_lit, put_none, List.set_cons_succ, List.set_cons_zero]
      apply ObligF.fixed
      case h =>
        intro S gh w1 hwi hSi hd hcl
        apply StepOk.intro
        intro K hK
        have cb1 := hwi.2.1.k8
        go_simp
        apply hK
        · rfl
        · conv => (lhs; whnf)
        · exact ⟨hwi.1, hwi.2.1, GWI.fixed hwi.2.2 trivial⟩
      simp only [put_lit, put_none, List.set_cons_succ, List.set_cons_zero]
      apply ObligF.fixed
      case h =>
        intro S gh w1 hwi hSi hd hcl
        apply StepOk.intro
        intro K hK
        have cb1 := hwi.2.1.k8
        go_simp
        apply hK
        · rfl
        · conv => (lhs; whnf)
        · exact ⟨hwi.1, hwi.2.1, GWI.fixed hwi.2.2 trivial⟩
      simp only [put_lit, put_none, List.set_cons_succ, List.set_cons_zero]
      apply ObligF.fixed
      case h =>
        intro S gh w1 hwi hSi hd hcl
        apply StepOk.intro
        intro K hK
        have cb1 := hwi.2.1.k8
        go_simp
        apply hK
        · rfl
        · conv => (lhs; whnf)
        · exact ⟨hwi.1, hwi.2.1, GWI.fixed hwi.2.2 trivial⟩
      simp only [put_lit, put_none, List.set_cons_succ, List.set_cons_zero]
      apply ObligF.fixed
      case h =>
        intro S gh w1 hwi hSi hd hcl
        apply StepOk.intro
        intro K hK
        have cb1 := hwi.2.1.k8
        go_simp
        apply hK
        · rfl
        · conv => (lhs; whnf)
        · exact ⟨hwi.1, hwi.2.1, GWI.fixed hwi.2.2 trivial⟩
      simp only [put_lit, put_none, List.set_cons_succ, List.set_cons_zero]
      apply ObligF.fixed
      case h =>
        intro S gh w1 hwi hSi hd hcl
        apply StepOk.intro
        intro K hK
        have cb1 := hwi.2.1.k8
        go_simp
        refine (plan_Ticket t s g l r k PA P.length pc (some ⟨lb, lo, none⟩) L.length lc q _ hs.1 hs.2 (by omega) (by omega) (by omega)).mono ?_
        rintro e w2 ⟨rfl, hk⟩
        apply hK
        · rfl
        · conv => (lhs; whnf)
        · exact ⟨Keep0.step hwi.1 hk, hk.blk hwi.2.1 (fun h => h), GWI.fixed (hwi.2.2.keep tells_stable hk) trivial⟩
      simp only [put_lit, put_none, List.set_cons_succ, List.set_cons_zero]
      apply ObligF.fixed
      case h =>
        intro S gh w1 hwi hSi hd hcl
        apply StepOk.intro
        intro K hK
        have cb1 := hwi.2.1.k8
        go_simp
        apply hK
        · rfl
        · conv => (lhs; whnf)
        · exact ⟨hwi.1, hwi.2.1, GWI.fixed hwi.2.2 trivial⟩
      simp only [put_lit, put_none, List.set_cons_succ, List.set_cons_zero]
      apply ObligF.fixed
      case h =>
        intro S gh w1 hwi hSi hd hcl
        apply StepOk.intro
        intro K hK
        have cb1 := hwi.2.1.k8
        go_simp
        apply hK
        · rfl
        · conv => (lhs; whnf)
        · exact ⟨hwi.1, hwi.2.1, GWI.fixed hwi.2.2 trivial⟩
      simp only [put_lit, put_none, List.set_cons_succ, List.set_cons_zero]
      apply ObligF.fixed
      case h =>
        intro S gh w1 hwi hSi hd hcl
        apply StepOk.intro
        intro K hK
        have cb1 := hwi.2.1.k8
        go_simp
        refine (ref_Ticket t s g l r k PA P.length pc (some ⟨lb, lo, none⟩) L.length lc q _ hs.1 hs.2 (by omega) (by omega) (by omega)).mono ?_
        rintro e w2 ⟨rfl, hk⟩
        apply hK
        · rfl
        · conv => (lhs; whnf)
        · exact ⟨Keep0.step hwi.1 hk, hk.blk hwi.2.1 (fun h => h), GWI.fixed (hwi.2.2.keep tells_stable hk) trivial⟩
      simp only [put_lit, put_none, List.set_cons_succ, List.set_cons_zero]
      apply ObligF.fixed
      case h =>
        intro S gh w1 hwi hSi hd hcl
        apply StepOk.intro
        intro K hK
        have cb1 := hwi.2.1.k8
        go_simp
        apply hK
        · rfl
        · conv => (lhs; whnf)
        · exact ⟨hwi.1, hwi.2.1, GWI.fixed hwi.2.2 trivial⟩
      simp only [put_lit, put_none, List.set_cons_succ, List.set_cons_zero]
      apply ObligF.fixed
      case h =>
        intro S gh w1 hwi hSi hd hcl
        apply StepOk.intro
        intro K hK
        have cb1 := hwi.2.1.k8
        go_simp
        apply hK
        · rfl
        · conv => (lhs; whnf)
        · exact ⟨hwi.1, hwi.2.1, GWI.fixed hwi.2.2 trivial⟩
      simp only [put_lit, put_none, List.set_cons_succ, List.set_cons_zero]
      apply ObligF.fixed
      case h =>
        intro S gh w1 hwi hSi hd hcl
        apply StepOk.intro
        intro K hK
        have cb1 := hwi.2.1.k8
        go_simp
        apply hK
        · rfl
        · conv => (lhs; whnf)
        · exact ⟨hwi.1, hwi.2.1, GWI.fixed hwi.2.2 trivial⟩
      simp only [put_lit, put_none, List.set_cons_succ, List.set_cons_zero]
      apply ObligF.fixed
      case h =>
        intro S gh w1 hwi hSi hd hcl
        apply StepOk.intro
        intro K hK
        have cb1 := hwi.2.1.k8
        go_simp
        apply hK
        · rfl
        · conv => (lhs; whnf)
        · exact ⟨hwi.1, hwi.2.1, GWI.fixed hwi.2.2 trivial⟩
      simp only [put_lit, put_none, List.set_cons_succ, List.set_cons_zero]
      apply ObligF.fixed
      case h =>
        intro S gh w1 hwi hSi hd hcl
        apply StepOk.intro
        intro K hK
        have cb1 := hwi.2.1.k8
        go_simp
        refine (plan_Size t s g l r k PA P.length pc (some ⟨lb, lo, none⟩) L.length lc  _ hs.1 hs.2 (by omega) (by omega) (by omega)).mono ?_
        rintro e w2 ⟨rfl, hk⟩
        apply hK
        · rfl
        · conv => (lhs; whnf)
        · exact ⟨Keep0.step hwi.1 hk, hk.blk hwi.2.1 (fun h => h), GWI.fixed (hwi.2.2.keep tells_stable hk) trivial⟩
      simp only [put_lit, put_none, List.set_cons_succ, List.set_cons_zero]
      apply ObligF.fixed
      case h =>
        intro S gh w1 hwi hSi hd hcl
        apply StepOk.intro
        intro K hK
        have cb1 := hwi.2.1.k8
        go_simp
        apply hK
        · rfl
        · conv => (lhs; whnf)
        · exact ⟨hwi.1, hwi.2.1, GWI.fixed hwi.2.2 trivial⟩
      simp only [put_lit, put_none, List.set_cons_succ, List.set_cons_zero]
      apply ObligF.fixed
      case h =>
        intro S gh w1 hwi hSi hd hcl
        apply StepOk.intro
        intro K hK
        have cb1 := hwi.2.1.k8
        go_simp
        refine (ref_Size t s g l r k PA P.length pc (some ⟨lb, lo, none⟩) L.length lc  _ hs.1 hs.2 (by omega) (by omega) (by omega)).mono ?_
        rintro e w2 ⟨rfl, hk⟩
        apply hK
        · rfl
        · conv => (lhs; whnf)
        · exact ⟨Keep0.step hwi.1 hk, hk.blk hwi.2.1 (fun h => h), GWI.fixed (hwi.2.2.keep tells_stable hk) trivial⟩
      simp only [put_lit, put_none, List.set_cons_succ, List.set_cons_zero]
      apply ObligF.fixed
      case h =>
        intro S gh w1 hwi hSi hd hcl
        apply StepOk.intro
        intro K hK
        have cb1 := hwi.2.1.k8
        go_simp
        apply hK
        · rfl
        · conv => (lhs; whnf)
        · exact ⟨hwi.1, hwi.2.1, GWI.fixed hwi.2.2 trivial⟩
      simp only [put_lit, put_none, List.set_cons_succ, List.set_cons_zero]
      apply ObligF.fixed
      case h =>
        intro S gh w1 hwi hSi hd hcl
        apply StepOk.intro
        intro K hK
        have cb1 := hwi.2.1.k8
        go_simp
        apply hK
        · rfl
        · conv => (lhs; whnf)
        · exact ⟨hwi.1, hwi.2.1, GWI.fixed hwi.2.2 trivial⟩
      simp only [put_lit, put_none, List.set_cons_succ, List.set_cons_zero]
      apply ObligF.fixed
      case h =>
        intro S gh w1 hwi hSi hd hcl
        apply StepOk.intro
        intro K hK
        have cb1 := hwi.2.1.k8
        go_simp
        apply hK
        · rfl
        · conv => (lhs; whnf)
        · exact ⟨hwi.1, hwi.2.1, GWI.fixed hwi.2.2 trivial⟩
      simp only [put_lit, put_none, List.set_cons_succ, List.set_cons_zero]
      apply ObligF.fixed
      case h =>
        intro S gh w1 hwi hSi hd hcl
        apply StepOk.intro
        intro K hK
        have cb1 := hwi.2.1.k8
        go_simp
        apply hK
        · rfl
        · conv => (lhs; whnf)
        · exact ⟨hwi.1, hwi.2.1, GWI.fixed hwi.2.2 trivial⟩
      simp only [put_lit, put_none, List.set_cons_succ, List.set_cons_zero]
      apply ObligF.free
      case h =>
        intro S gh w1 hwi hSi hd hcl
        apply StepG.intro
        intro K hK
        have cb1 := hwi.2.1.k8
        go_simp
        refine (plan_Fresh 0 _ lb lo t s g l r k PA P.length pc L.length lc L (Nat.zero_le _) hs.1 hs.2 (by omega) (by omega) (by omega) hpl (HLC.out _ hwi.1) (HLB.out _ hwi.1)).mono ?_
        rintro e w2 ⟨m, a, lv, rfl, hm, hk, _, _⟩
        apply hK
        · rfl
        · exact ⟨Keep0.step hwi.1 hk, hk.blk hwi.2.1 (fun h => h), GWI.free (hwi.2.2.keep tells_stable hk) ⟨m, a, lv, rfl, hm⟩⟩
      simp only [put_lit, put_none, List.set_cons_succ, List.set_cons_zero]
      apply ObligF.free
      case h =>
        intro S gh w1 hwi hSi hd hcl
        apply StepG.intro
        intro K hK
        obtain ⟨m, a, lv, e57, hm⟩ := hwi.2.2 57 (hd ⟨57, .data⟩ (by simp) rfl)
        rw [e57]
        go_simp
        refine (mem_Words hm (by rw [HFL.out]; omega)).mono ?_
        rintro e w2 ⟨g2, c2, rfl, hi, hk, _⟩
        apply hK
        · rfl
        · exact ⟨Keep0.step hwi.1 hk, hk.blk hwi.2.1 (fun h => h), GWI.free (hwi.2.2.keep tells_stable hk) ⟨_, c2, rfl, hi.at_⟩⟩
      simp only [put_lit, put_none, List.set_cons_succ, List.set_cons_zero]
      apply ObligF.fixed
      case h =>
        intro S gh w1 hwi hSi hd hcl
        apply StepOk.intro
        intro K hK
        have cb1 := hwi.2.1.k8
        go_simp
        apply hK
        · rfl
        · conv => (lhs; whnf)
        · exact ⟨hwi.1, hwi.2.1, GWI.fixed hwi.2.2 trivial⟩
      simp only [put_lit, put_none, List.set_cons_succ, List.set_cons_zero]
      apply ObligF.free
      case h =>
        intro S gh w1 hwi hSi hd hcl
        apply StepG.intro
        intro K hK
        have cb1 := hwi.2.1.k8
        go_simp
        refine (ref_Fresh 0 _ lb lo t s g l r k PA P.length pc L.length lc L (Nat.zero_le _) hs.1 hs.2 (by omega) (by omega) (by omega) hpl (HLC.out _ hwi.1) (HLB.out _ hwi.1)).mono ?_
        rintro e w2 ⟨m, rfl, hm, hk, _⟩
        apply hK
        · rfl
        · exact ⟨Keep0.step hwi.1 hk, hk.blk hwi.2.1 (fun h => h), GWI.free (hwi.2.2.keep tells_stable hk) ⟨m, rfl, hm⟩⟩
      simp only [put_lit, put_none, List.set_cons_succ, List.set_cons_zero]
      apply ObligF.free
      case h =>
        intro S gh w1 hwi hSi hd hcl
        apply StepG.intro
        intro K hK
        obtain ⟨m, e1, hm⟩ := hwi.2.2 60 (hd ⟨60, .data⟩ (by simp) rfl)
        rw [e1]
        go_simp
        apply hK
        · rfl
        · exact ⟨hwi.1, hwi.2.1, GWI.free hwi.2.2 ⟨m, rfl, hm⟩⟩
      simp only [put_lit, put_none, List.set_cons_succ, List.set_cons_zero]
      apply ObligF.free
      case h =>
        intro S gh w1 hwi hSi hd hcl
        apply StepG.intro
        intro K hK
        obtain ⟨m, e1, hm⟩ := hwi.2.2 61 (hd ⟨61, .data⟩ (by simp) rfl)
        rw [e1]
        go_simp
        apply hK
        · rfl
        · exact ⟨hwi.1, hwi.2.1, GWI.free hwi.2.2 ⟨m, rfl, hm⟩⟩
      simp only [put_lit, put_none, List.set_cons_succ, List.set_cons_zero]
      apply ObligF.free
      case h =>
        intro S gh w1 hwi hSi hd hcl
        apply StepG.intro
        intro K hK
        obtain ⟨m, e1, hm⟩ := hwi.2.2 62 (hd ⟨62, .data⟩ (by simp) rfl)
        rw [e1]
        obtain ⟨g2, c2, hb, hi⟩ := hm.ints (by rw [HFL.out]; omega)
        have q2 := hb.k2
        go_simp
        apply hK
        · rfl
        · exact ⟨hwi.1, hwi.2.1, GWI.free hwi.2.2 ⟨_, c2, rfl, hi⟩⟩
      simp only [put_lit, put_none, List.set_cons_succ, List.set_cons_zero]
      apply ObligF.fixed
      case h =>
        intro S gh w1 hwi hSi hd hcl
        apply StepOk.intro
        intro K hK
        obtain ⟨A1, c1, e1, hi1⟩ := hwi.2.2 58 (hd ⟨58, .data⟩ (by simp) rfl)
        obtain ⟨A2, c2, e2, hi2⟩ := hwi.2.2 63 (hd ⟨63, .data⟩ (by simp) rfl)
        rw [e1, e2]
        go_simp
        refine (same_ints A1 A2 _ c1 c2 _ hi1 hi2 (by rw [HFL.out]; omega)).mono ?_
        rintro e w2 ⟨rfl, hk⟩
        apply hK
        · rfl
        · conv => (lhs; whnf)
        · exact ⟨Keep0.step hwi.1 hk, hk.blk hwi.2.1 (fun h => h), GWI.fixed (hwi.2.2.keep tells_stable hk) trivial⟩
      simp only [put_lit, put_none, List.set_cons_succ, List.set_cons_zero]
      apply ObligF.fixed
      case h =>
        intro S gh w1 hwi hSi hd hcl
        apply StepOk.intro
        intro K hK
        have cb1 := hwi.2.1.k8
        go_simp
        apply hK
        · rfl
        · conv => (lhs; whnf)
        · exact ⟨hwi.1, hwi.2.1, GWI.fixed hwi.2.2 trivial⟩
      simp only [put_lit, put_none, List.set_cons_succ, List.set_cons_zero]
      apply ObligF.fixed
      case h =>
        intro S gh w1 hwi hSi hd hcl
        apply StepOk.intro
        intro K hK
        have cb1 := hwi.2.1.k8
        go_simp
        apply hK
        · rfl
        · conv => (lhs; whnf)
        · exact ⟨hwi.1, hwi.2.1, GWI.fixed hwi.2.2 trivial⟩
      simp only [put_lit, put_none, List.set_cons_succ, List.set_cons_zero]
      apply ObligF.fixed
      case h =>
        intro S gh w1 hwi hSi hd hcl
        apply StepOk.intro
        intro K hK
        have cb1 := hwi.2.1.k8
        go_simp
        apply hK
        · rfl
        · conv => (lhs; whnf)
        · exact ⟨hwi.1, hwi.2.1, GWI.fixed hwi.2.2 trivial⟩
      simp only [put_lit, put_none, List.set_cons_succ, List.set_cons_zero]
      apply ObligF.free
      case h =>
        intro S gh w1 hwi hSi hd hcl
        apply StepG.intro
        intro K hK
        have cb1 := hwi.2.1.k8
        go_simp
        refine (plan_Fresh 0 _ lb lo t s g l r k PA P.length pc L.length lc L (Nat.zero_le _) hs.1 hs.2 (by omega) (by omega) (by omega) hpl (HLC.out _ hwi.1) (HLB.out _ hwi.1)).mono ?_
        rintro e w2 ⟨m, a, lv, rfl, hm, hk, _, _⟩
        apply hK
        · rfl
        · exact ⟨Keep0.step hwi.1 hk, hk.blk hwi.2.1 (fun h => h), GWI.free (hwi.2.2.keep tells_stable hk) ⟨m, a, lv, rfl, hm⟩⟩
      simp only [put_lit, put_none, List.set_cons_succ, List.set_cons_zero]
      apply ObligF.free
      case h =>
        intro S gh w1 hwi hSi hd hcl
        apply StepG.intro
        intro K hK
        obtain ⟨m, a, lv, e57, hm⟩ := hwi.2.2 68 (hd ⟨68, .data⟩ (by simp) rfl)
        rw [e57]
        go_simp
        refine (mem_Log hm (by simp)).mono ?_
        rintro e w2 ⟨A2, c2, rfl, hi, hk⟩
        apply hK
        · rfl
        · exact ⟨Keep0.step hwi.1 hk, hk.blk hwi.2.1 (fun h => h), GWI.free (hwi.2.2.keep tells_stable hk) ⟨A2, c2, rfl⟩⟩
      simp only [put_lit, put_none, List.set_cons_succ, List.set_cons_zero]
      apply ObligF.fixed
      case h =>
        intro S gh w1 hwi hSi hd hcl
        apply StepOk.intro
        intro K hK
        obtain ⟨A1, c1, e1⟩ := hwi.2.2 69 (hd ⟨69, .data⟩ (by simp) rfl)
        rw [e1]
        go_simp
        apply hK
        · rfl
        · conv => (lhs; whnf)
        · exact ⟨hwi.1, hwi.2.1, GWI.fixed hwi.2.2 trivial⟩
      simp only [put_lit, put_none, List.set_cons_succ, List.set_cons_zero]
      apply ObligF.fixed
      case h =>
        intro S gh w1 hwi hSi hd hcl
        apply StepOk.intro
        intro K hK
        have cb1 := hwi.2.1.k8
        go_simp
        apply hK
        · rfl
        · conv => (lhs; whnf)
        · exact ⟨hwi.1, hwi.2.1, GWI.fixed hwi.2.2 trivial⟩
      simp only [put_lit, put_none, List.set_cons_succ, List.set_cons_zero]
      apply ObligF.fixed
      case h =>
        intro S gh w1 hwi hSi hd hcl
        apply StepOk.intro
        intro K hK
        have cb1 := hwi.2.1.k8
        go_simp
        apply hK
        · rfl
        · conv => (lhs; whnf)
        · exact ⟨hwi.1, hwi.2.1, GWI.fixed hwi.2.2 trivial⟩
      simp only [put_lit, put_none, List.set_cons_succ, List.set_cons_zero]
      apply ObligF.fixed
      case h =>
        intro S gh w1 hwi hSi hd hcl
        apply StepOk.intro
        intro K hK
        have cb1 := hwi.2.1.k8
        go_simp
        apply hK
        · rfl
        · conv => (lhs; whnf)
        · exact ⟨hwi.1, hwi.2.1, GWI.fixed hwi.2.2 trivial⟩
      simp only [put_lit, put_none, List.set_cons_succ, List.set_cons_zero]
      exact ObligF.nil
    case h0 =>
      exact ⟨HK2.out.drew, HB0.out, GWI.start _ _ _⟩
    case hend =>
      intro S gh wx hwi hall
      go_wp2_with fail
      go_ret
      exact ⟨rfl, hwi.1⟩
end Go.Proofs.Ytjpkepceenghcaa
