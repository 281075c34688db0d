/- breadlinelaw08: Good, Of, Laid, Pokes, own. -/
import Derived.Test.YtonekdolmbdniaaRowPool
import Derived.Test.YtonekdolmbdniaaLaw5
import Derived.Test.YtonekdolmbdniaaPoolS
import Derived.Test.YtonekdolmbdniaaHeadThree
namespace Go.Proofs.Ytonekdolmbdniaa
open Go.RowKit
set_option linter.unusedVariables false
set_option linter.unusedSimpArgs false
set_option maxRecDepth 100000

def good8B (t s g l r k : Int) (P L : List Int) (qn kn : Nat) : Bool := goodB t s g l r k P L && decide (kn ≤ 40) && decide (qn ≤ 20)

set_option maxHeartbeats 2000000 in
theorem law8_Good (t s g l r k : Int) (PA : Option Addr) (P : List Int) (pc : Nat) (LA : Option Addr) (L : List Int) (lc : Nat) (nd nn st avl : Int) (QA : Option Addr) (Q : List Int) (qc : Nat) (KA : Option Addr) (K : List Pk) (kc : Nat) (w : World) (hP : IntsAt w PA P) (hL : IntsAt w LA L) (h1 : P.length ≤ 9223372036854775807) (h2 : L.length ≤ 9223372036854775807) (h3 : Q.length ≤ 9223372036854775807) (h4 : K.length ≤ 9223372036854775807) :
    Calls Try.prog 10 #[.agg #[i64 t, i64 s, i64 g, i64 l, i64 r, i64 k, .slice PA P.length pc, .slice LA L.length lc, .int .u8 nd, .int .u32 nn, .int .u8 st, .int .u32 avl, .slice QA Q.length qc, .slice KA K.length kc]] w (Ret (.bool (good8B t s g l r k P L Q.length K.length)) w) := by
  cases hg : greatB P.length L.length
  · have hb : P.length ≤ 100 ∧ L.length ≤ 100 := by simp [greatB] at hg; omega
    have e : good8B t s g l r k P L Q.length K.length = (rightB t s g l r k P L && decide (K.length ≤ 40) && decide (Q.length ≤ 20)) := by simp [good8B, goodB, hg]
    rw [e]
    have HR : ∀ w', Keep0 w w' → Calls Try.prog 38 #[.agg #[i64 t, i64 s, i64 g, i64 l, i64 r, i64 k, .slice PA P.length pc, .slice LA L.length lc]] w' (Ret (.bool (rightB t s g l r k P L)) w') := by
      intro w' hk
      cases hh : headB t s g l r k P.length L.length
      · exact ref_Right_no _ _ _ _ _ _ _ _ _ _ _ _ _ (by omega) (by omega) hh
      · exact ref_Right_yes _ _ _ _ _ _ _ _ _ _ _ _ _ (hP.keep hk) (hL.keep hk) (by omega) (by omega) hh
    have HG := hid hg
    have HRR := hid HR
    have HB : Hid (Blk (w.alloc (.cells #[i64 t, i64 s, i64 g, i64 l, i64 r, i64 k, .slice PA P.length pc, .slice LA L.length lc, .int .u8 nd, .int .u32 nn, .int .u8 st, .int .u32 avl, .slice QA Q.length qc, .slice KA K.length kc] 29)) w.heap.size 29 [i64 t, i64 s, i64 g, i64 l, i64 r, i64 k, .slice PA P.length pc, .slice LA L.length lc, .int .u8 nd, .int .u32 nn, .int .u8 st, .int .u32 avl, .slice QA Q.length qc, .slice KA K.length kc]) := hid (Blk.made rfl rfl)
    have HK0 : Hid (Keep0 w (w.alloc (.cells #[i64 t, i64 s, i64 g, i64 l, i64 r, i64 k, .slice PA P.length pc, .slice LA L.length lc, .int .u8 nd, .int .u32 nn, .int .u8 st, .int .u32 avl, .slice QA Q.length qc, .slice KA K.length kc] 29))) := hid ((Keep.refl _ _).alloc _)
    have qb := HB.out.k14
    clear hg e HR hP hL hb
    generalize rightB t s g l r k P L = rb at *
    cases rb
    all_goals
      by_cases hk : K.length ≤ 40
      all_goals
        by_cases hq : Q.length ≤ 20
        all_goals
          go_enter Try.func10, Try.ntmps10
          go_wp2_with fail
          refine (law_Great _ _ _ _ _ _ _ _ _ _ _ _ _ h1 h2).mono ?_
          rintro e w1 ⟨rfl, hk1⟩
          rw [HG.out]
          have HK1 : Hid (Keep0 w w1) := hid (Keep0.step HK0.out hk1)
          have HB1 := hid (hk1.blk HB.out (fun h => h))
          have qb1 := HB1.out.k14
          clear hk1 qb
          go_wp2_with fail
          refine (HRR.out _ HK1.out).mono ?_
          rintro e w2 ⟨rfl, hk2⟩
          have HK2 : Hid (Keep0 w w2) := hid (Keep0.step HK1.out hk2)
          have qb2 := (hk2.blk HB1.out (fun h => h)).k14
          clear hk2 qb1
          go_wp2_with fail
          go_ret
          exact ⟨by simp [hk] <;> omega, HK2.out⟩
  · have e : good8B t s g l r k P L Q.length K.length = false := by simp [good8B, goodB, hg]
    rw [e]
    have HG := hid hg
    have HB : Hid (Blk (w.alloc (.cells #[i64 t, i64 s, i64 g, i64 l, i64 r, i64 k, .slice PA P.length pc, .slice LA L.length lc, .int .u8 nd, .int .u32 nn, .int .u8 st, .int .u32 avl, .slice QA Q.length qc, .slice KA K.length kc] 29)) w.heap.size 29 [i64 t, i64 s, i64 g, i64 l, i64 r, i64 k, .slice PA P.length pc, .slice LA L.length lc, .int .u8 nd, .int .u32 nn, .int .u8 st, .int .u32 avl, .slice QA Q.length qc, .slice KA K.length kc]) := hid (Blk.made rfl rfl)
    have HK0 : Hid (Keep0 w (w.alloc (.cells #[i64 t, i64 s, i64 g, i64 l, i64 r, i64 k, .slice PA P.length pc, .slice LA L.length lc, .int .u8 nd, .int .u32 nn, .int .u8 st, .int .u32 avl, .slice QA Q.length qc, .slice KA K.length kc] 29))) := hid ((Keep.refl _ _).alloc _)
    have qb := HB.out.k14
    clear hg e hP hL
    go_enter Try.func10, Try.ntmps10
    go_wp2_with fail
    refine (law_Great _ _ _ _ _ _ _ _ _ _ _ _ _ h1 h2).mono ?_
    rintro e w1 ⟨rfl, hk1⟩
    rw [HG.out]
    have HK1 : Hid (Keep0 w w1) := hid (Keep0.step HK0.out hk1)
    clear hk1
    go_wp2_with fail
    go_ret
    exact ⟨rfl, HK1.out⟩

set_option maxHeartbeats 2000000 in
theorem law8_Of (t s g l r k : Int) (PA : Option Addr) (P : List Int) (pc : Nat) (LA : Option Addr) (L : List Int) (lc : Nat) (nd nn st avl : Int) (QA : Option Addr) (Q : List Int) (qc : Nat) (KA : Option Addr) (K : List Pk) (kc : Nat) (w : World) (hp : 1 ≤ P.length ∧ P.length ≤ 1000) (hs : 1 ≤ s ∧ s ≤ 8) (h1 : 0 ≤ nd ∧ nd ≤ 255) (h2 : 0 ≤ nn ∧ nn ≤ 4294967295) (h3 : 0 ≤ st ∧ st ≤ 255) :
    Calls Try.prog 11 #[.agg #[i64 t, i64 s, i64 g, i64 l, i64 r, i64 k, .slice PA P.length pc, .slice LA L.length lc, .int .u8 nd, .int .u32 nn, .int .u8 st, .int .u32 avl, .slice QA Q.length qc, .slice KA K.length kc]] w (Ret (.tuple #[i64 (nd % P.length), i64 (nn % 1048576 + 1), i64 (st % s)]) w) := by
  have hb1 := Int.emod_nonneg nn (show (1048576 : Int) ≠ 0 by omega)
  have hb2 := Int.emod_lt_of_pos nn (show (0 : Int) < 1048576 by omega)
  have hy : IntKind.i64.wrap (nn % 1048576 + 1) = nn % 1048576 + 1 := IntWalk.i64_in _ (by omega)
  have hs0 : s ≠ 0 := by omega
  have hpe : P ≠ [] := fun e => by rw [e] at hp; simp at hp
  have y1 : IntKind.i64.wrap nd = nd := IntWalk.i64_in _ (by omega)
  have y2 : IntKind.i64.wrap nn = nn := IntWalk.i64_in _ (by omega)
  have y3 : IntKind.i64.wrap st = st := IntWalk.i64_in _ (by omega)
  have t1 : nd.tmod P.length = nd % P.length := Int.tmod_eq_emod_of_nonneg h1.1
  have t2 : nn.tmod 1048576 = nn % 1048576 := Int.tmod_eq_emod_of_nonneg h2.1
  have t3 : st.tmod s = st % s := Int.tmod_eq_emod_of_nonneg h3.1
  have HB : Hid (Blk (w.alloc (.cells #[i64 t, i64 s, i64 g, i64 l, i64 r, i64 k, .slice PA P.length pc, .slice LA L.length lc, .int .u8 nd, .int .u32 nn, .int .u8 st, .int .u32 avl, .slice QA Q.length qc, .slice KA K.length kc] 29)) w.heap.size 29 [i64 t, i64 s, i64 g, i64 l, i64 r, i64 k, .slice PA P.length pc, .slice LA L.length lc, .int .u8 nd, .int .u32 nn, .int .u8 st, .int .u32 avl, .slice QA Q.length qc, .slice KA K.length kc]) := hid (Blk.made rfl rfl)
  have HK0 : Hid (Keep0 w (w.alloc (.cells #[i64 t, i64 s, i64 g, i64 l, i64 r, i64 k, .slice PA P.length pc, .slice LA L.length lc, .int .u8 nd, .int .u32 nn, .int .u8 st, .int .u32 avl, .slice QA Q.length qc, .slice KA K.length kc] 29))) := hid ((Keep.refl _ _).alloc _)
  go_enter Try.func11, Try.ntmps11
  go_wp2_with fail
  generalize w.alloc (.cells #[i64 t, i64 s, i64 g, i64 l, i64 r, i64 k, .slice PA P.length pc, .slice LA L.length lc, .int .u8 nd, .int .u32 nn, .int .u8 st, .int .u32 avl, .slice QA Q.length qc, .slice KA K.length kc] 29) = w0 at *
  apply wp_region_text (WI := fun S wx => Keep0 w0 wx) (by kernel_rfl) (by kernel_rfl)
  case hob =>
    apply Oblig.cons
    case h =>
      intro S w1 hwi hSi hd hcl
      apply StepOk.intro
      intro K hK
      have cb := (hwi.blk HB.out (fun h => h)).k14
      go_simp
      apply hK
      · rfl
      · conv => (lhs; whnf)
      · exact hwi
    simp only [put_lit, put_none, List.set_cons_succ, List.set_cons_zero]
    apply Oblig.cons
    case h =>
      intro S w1 hwi hSi hd hcl
      apply StepOk.intro
      intro K hK
      have cb := (hwi.blk HB.out (fun h => h)).k14
      go_simp
      apply hK
      · rfl
      · conv => (lhs; whnf)
      · exact hwi
    simp only [put_lit, put_none, List.set_cons_succ, List.set_cons_zero]
    apply Oblig.cons
    case h =>
      intro S w1 hwi hSi hd hcl
      apply StepOk.intro
      intro K hK
      have cb := (hwi.blk HB.out (fun h => h)).k14
      go_simp
      apply hK
      · rfl
      · conv => (lhs; whnf)
      · exact hwi
    simp only [put_lit, put_none, List.set_cons_succ, List.set_cons_zero]
    apply Oblig.cons
    case h =>
      intro S w1 hwi hSi hd hcl
      apply StepOk.intro
      intro K hK
      have cb := (hwi.blk HB.out (fun h => h)).k14
      go_simp
      apply hK
      · rfl
      · conv => (lhs; whnf)
      · exact hwi
    simp only [put_lit, put_none, List.set_cons_succ, List.set_cons_zero]
    apply Oblig.cons
    case h =>
      intro S w1 hwi hSi hd hcl
      apply StepOk.intro
      intro K hK
      have cb := (hwi.blk HB.out (fun h => h)).k14
      go_simp
      apply hK
      · rfl
      · conv => (lhs; whnf)
      · exact hwi
    simp only [put_lit, put_none, List.set_cons_succ, List.set_cons_zero]
    apply Oblig.cons
    case h =>
      intro S w1 hwi hSi hd hcl
      apply StepOk.intro
      intro K hK
      have cb := (hwi.blk HB.out (fun h => h)).k14
      go_simp
      apply hK
      · rfl
      · conv => (lhs; whnf)
      · exact hwi
    simp only [put_lit, put_none, List.set_cons_succ, List.set_cons_zero]
    apply Oblig.cons
    case h =>
      intro S w1 hwi hSi hd hcl
      apply StepOk.intro
      intro K hK
      have cb := (hwi.blk HB.out (fun h => h)).k14
      go_simp
      apply hK
      · rfl
      · conv => (lhs; whnf)
      · exact hwi
    simp only [put_lit, put_none, List.set_cons_succ, List.set_cons_zero]
    apply Oblig.cons
    case h =>
      intro S w1 hwi hSi hd hcl
      apply StepOk.intro
      intro K hK
      have cb := (hwi.blk HB.out (fun h => h)).k14
      go_simp
      apply hK
      · rfl
      · conv => (lhs; whnf)
      · exact hwi
    simp only [put_lit, put_none, List.set_cons_succ, List.set_cons_zero]
    apply Oblig.cons
    case h =>
      intro S w1 hwi hSi hd hcl
      apply StepOk.intro
      intro K hK
      have cb := (hwi.blk HB.out (fun h => h)).k14
      go_simp
      apply hK
      · rfl
      · conv => (lhs; whnf)
      · exact hwi
    simp only [put_lit, put_none, List.set_cons_succ, List.set_cons_zero]
    apply Oblig.cons
    case h =>
      intro S w1 hwi hSi hd hcl
      apply StepOk.intro
      intro K hK
      have cb := (hwi.blk HB.out (fun h => h)).k14
      go_simp
      apply hK
      · rfl
      · conv => (lhs; whnf)
      · exact hwi
    simp only [put_lit, put_none, List.set_cons_succ, List.set_cons_zero]
    apply Oblig.cons
    case h =>
      intro S w1 hwi hSi hd hcl
      apply StepOk.intro
      intro K hK
      have cb := (hwi.blk HB.out (fun h => h)).k14
      go_simp
      apply hK
      · rfl
      · conv => (lhs; whnf)
      · exact hwi
    simp only [put_lit, put_none, List.set_cons_succ, List.set_cons_zero]
    apply Oblig.cons
    case h =>
      intro S w1 hwi hSi hd hcl
      apply StepOk.intro
      intro K hK
      have cb := (hwi.blk HB.out (fun h => h)).k14
      go_simp
      apply hK
      · rfl
      · conv => (lhs; whnf)
      · exact hwi
    simp only [put_lit, put_none, List.set_cons_succ, List.set_cons_zero]
    apply Oblig.cons
    case h =>
      intro S w1 hwi hSi hd hcl
      apply StepOk.intro
      intro K hK
      have cb := (hwi.blk HB.out (fun h => h)).k14
      go_simp
      apply hK
      · rfl
      · conv => (lhs; whnf)
      · exact hwi
    simp only [put_lit, put_none, List.set_cons_succ, List.set_cons_zero]
    apply Oblig.cons
    case h =>
      intro S w1 hwi hSi hd hcl
      apply StepOk.intro
      intro K hK
      have cb := (hwi.blk HB.out (fun h => h)).k14
      go_simp
      apply hK
      · rfl
      · conv => (lhs; whnf)
      · exact hwi
    simp only [put_lit, put_none, List.set_cons_succ, List.set_cons_zero]
    apply Oblig.cons
    case h =>
      intro S w1 hwi hSi hd hcl
      apply StepOk.intro
      intro K hK
      have cb := (hwi.blk HB.out (fun h => h)).k14
      go_simp
      apply hK
      · rfl
      · conv => (lhs; whnf)
      · exact hwi
    simp only [put_lit, put_none, List.set_cons_succ, List.set_cons_zero]
    apply Oblig.cons
    case h =>
      intro S w1 hwi hSi hd hcl
      apply StepOk.intro
      intro K hK
      have cb := (hwi.blk HB.out (fun h => h)).k14
      go_simp
      apply hK
      · rfl
      · conv => (lhs; whnf)
      · exact hwi
    simp only [put_lit, put_none, List.set_cons_succ, List.set_cons_zero]
    apply Oblig.cons
    case h =>
      intro S w1 hwi hSi hd hcl
      apply StepOk.intro
      intro K hK
      have cb := (hwi.blk HB.out (fun h => h)).k14
      go_simp
      apply hK
      · rfl
      · conv => (lhs; whnf)
      · exact hwi
    simp only [put_lit, put_none, List.set_cons_succ, List.set_cons_zero]
    apply Oblig.cons
    case h =>
      intro S w1 hwi hSi hd hcl
      apply StepOk.intro
      intro K hK
      have cb := (hwi.blk HB.out (fun h => h)).k14
      go_simp
      apply hK
      · rfl
      · conv => (lhs; whnf)
      · exact hwi
    simp only [put_lit, put_none, List.set_cons_succ, List.set_cons_zero]
    apply Oblig.cons
    case h =>
      intro S w1 hwi hSi hd hcl
      apply StepOk.intro
      intro K hK
      have cb := (hwi.blk HB.out (fun h => h)).k14
      go_simp
      apply hK
      · rfl
      · conv => (lhs; whnf)
      · exact hwi
    simp only [put_lit, put_none, List.set_cons_succ, List.set_cons_zero]
    apply Oblig.cons
    case h =>
      intro S w1 hwi hSi hd hcl
      apply StepOk.intro
      intro K hK
      have cb := (hwi.blk HB.out (fun h => h)).k14
      go_simp
      apply hK
      · rfl
      · conv => (lhs; whnf)
      · exact hwi
    simp only [put_lit, put_none, List.set_cons_succ, List.set_cons_zero]
    apply Oblig.cons
    case h =>
      intro S w1 hwi hSi hd hcl
      apply StepOk.intro
      intro K hK
      have cb := (hwi.blk HB.out (fun h => h)).k14
      go_simp
      apply hK
      · rfl
      · conv => (lhs; whnf)
      · exact hwi
    simp only [put_lit, put_none, List.set_cons_succ, List.set_cons_zero]
    apply Oblig.cons
    case h =>
      intro S w1 hwi hSi hd hcl
      apply StepOk.intro
      intro K hK
      have cb := (hwi.blk HB.out (fun h => h)).k14
      go_simp
      apply hK
      · rfl
      · conv => (lhs; whnf)
      · exact hwi
    simp only [put_lit, put_none, List.set_cons_succ, List.set_cons_zero]
    apply Oblig.cons
    case h =>
      intro S w1 hwi hSi hd hcl
      apply StepOk.intro
      intro K hK
      have cb := (hwi.blk HB.out (fun h => h)).k14
      go_simp
      apply hK
      · rfl
      · conv => (lhs; whnf)
      · exact hwi
    simp only [put_lit, put_none, List.set_cons_succ, List.set_cons_zero]
    exact Oblig.nil
  case h0 =>
    exact (Keep.refl _ _).drew
  case hend =>
    intro S wx hwi hall
    have HKX := hid hwi
    go_wp2_with fail
    exact bodyPost_ret (v := .tuple #[i64 (nd % P.length), i64 (nn % 1048576 + 1), i64 (st % s)]) (by simp [results, Try.results11, go_sem]) rfl ⟨rfl, HK0.out.trans HKX.out (fun _ _ h => h)⟩

theorem take_pad (W : List Int) (n i : Nat) (hn : n = W.length) (h : i < n) : (W.take i ++ List.replicate (n - i) 0).set i (rd W i) = W.take (i + 1) ++ List.replicate (n - (i + 1)) 0 := by
  subst hn
  have e : W[i]? = some (rd W i) := by simp [rd, h]
  rw [List.set_append_right _ _ (by rw [List.length_take]; omega), List.length_take, Nat.min_eq_left (by omega), Nat.sub_self, List.take_add_one, e, show W.length - i = (W.length - (i + 1)) + 1 from by omega, List.replicate_succ]
  simp
set_option maxHeartbeats 2000000 in
theorem law8_Laid (B : Nat) (w : World) (A : Option Addr) (c : Nat) (W : List Int) (hW : IntsAt w A W) (h1 : W.length ≤ 10000) (hB : B ≤ w.heap.size) :
    Calls Try.prog 13 #[.slice A W.length c] w fun e w' => ∃ m a lv, e = .returned (ptr m) ∧ MemAt B w' m a lv W [] ∧ Keep0 w w' ∧ w.heap.size ≤ m ∧ w.heap.size ≤ a := by
  have HW := hid hW
  clear hW
  go_enter Try.func13, Try.ntmps13
  go_wp2_with fail
  refine (mem_New B W.length _ hB (by omega) (by omega)).mono ?_
  rintro e w1 ⟨m, a, lv, rfl, hm, hk, hzm, hza⟩
  rw [Int.toNat_natCast] at hm
  have HM1 := hid hm
  have HK1 : Hid (Keep0 w w1) := hid hk
  clear hm hk
  go_wp2_with fail
  go_loopw [4] (fun v wr => ∃ i : Nat, i ≤ W.length ∧ v = .int .i64 i ∧ MemAt B wr m a lv (W.take i ++ List.replicate (W.length - i) 0) [] ∧ Keep0 w wr) (fun v _ => W.length - (intOf v).toNat)
  case atStart => exact ⟨0, Nat.zero_le _, rfl, by simpa using HM1.out, HK1.out⟩
  case round =>
    obtain ⟨i, hi, rfl, hm, hk⟩ := hrel
    clear HM1 HK1
    have HM := hid hm
    have HK := hid hk
    clear hm hk
    by_cases hlt : i < W.length
    · obtain ⟨b, o, rfl, hc⟩ := (HW.out.keep HK.out).cell (by omega)
      have c1 := hc i hlt
      have z1 := World.block_lt_of_cell? _ _ c1
      simp only at z1
      have hx := take_pad W W.length i rfl hlt
      have HX := hid hx
      clear hc hx
      go_wp2_with fail
      refine (mem_Poke i (rd W i) HM.out (by omega) (by simp; omega)).mono ?_
      rintro e w2 ⟨rfl, hm, hk⟩
      rw [Int.toNat_natCast, HX.out] at hm
      have HM2 := hid hm
      have HK2 : Hid (Keep0 w w2) := hid (keep_far HK.out hk (fun k e => by have e' : k = a := e; omega))
      clear hm hk c1
      go_wp2_with fail
      go_roundw
      case rel => exact ⟨i + 1, by omega, by go_num, HM2.out, HK2.out⟩
      case measure => simp [intOf]; omega
    · obtain rfl : i = W.length := by omega
      have hm := HM.out
      rw [List.take_of_length_le (Nat.le_refl _), Nat.sub_self] at hm
      simp only [List.replicate_zero, List.append_nil] at hm
      have HM2 := hid hm
      clear hm
      go_wp2_with fail
      go_ret
      exact ⟨m, a, lv, rfl, HM2.out, HK.out, hzm, hza⟩
end Go.Proofs.Ytonekdolmbdniaa
