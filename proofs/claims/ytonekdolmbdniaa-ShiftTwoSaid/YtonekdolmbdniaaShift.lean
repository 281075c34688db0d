/- package shift: the steps of a machine. -/
import Derived.Test.YtonekdolmbdniaaShiftP
import Derived.Test.YtonekdolmbdniaaPlan
import Derived.Test.YtonekdolmbdniaaGhost
import Derived.Deep.RegionLaw
namespace Go.Proofs.Ytonekdolmbdniaa
open Go.RowKit
set_option linter.unusedVariables false
set_option linter.unusedSimpArgs false
set_option maxRecDepth 100000

theorem sh_on (b : Bool) (w : World) : Calls Try.prog 63 #[.bool b] w fun e w' => e = .returned (i64 (if b = true then 1 else -1)) ∧ w = w' := by
  cases b
  all_goals
    go_enter Try.func63, Try.ntmps63
    go_wp2
    go_ret
    exact ⟨rfl, rfl⟩
/-- a machine's cells -/
def shc (li av : Nat) (nd n saw : Int) (sb k : Nat) (at_ ae an : Int) : List Value := [i64 li, i64 av, i64 nd, i64 n, i64 saw, .slice (some ⟨sb, 0, none⟩) k k, i64 at_, i64 ae, i64 0, .bool false, i64 an]
section
variable {B : Nat} {w : World} {m a x : Nat} {lv : Value} {li av sb k : Nat} {nd n saw at_ : Int} {W : List Int} {L : List Acc}
theorem sm_far {cs : List Value} (hm : MemAt B w m a lv W L) (hx : Blk w x 85 cs) : ¬ MF m a lv x := by
  rintro (h | h | h)
  · exact hx.ne hm.mem (by decide) h
  · exact hx.ne hm.words (by decide) h
  · exact ownBlock_ne hm.log hx (by decide) h.symm
/-- what a step's function leaves -/
def ShP (B : Nat) (w : World) (m a : Nat) (lv : Value) (x li av : Nat) (nd n : Int) (sb k : Nat) (at_ : Int) (W' : List Int) (L' : List Acc) (saw' ae an rv : Int) (e : Ending) (w' : World) : Prop :=
  e = .returned (i64 rv) ∧ ∃ lv', MemAt B w' m a lv' W' L' ∧ Blk w' x 85 (shc li av nd n saw' sb k at_ ae an) ∧ Keep (fun k => MF m a lv k ∨ k = x) w w' ∧ (∀ k, lv'.ownBlock = some k → lv.ownBlock = some k ∨ w.heap.size ≤ k)
theorem shP_of {w1 w2 : World} {lv1 : Value} {W' : List Int} {L' : List Acc} {saw' ae an rv : Int} {cs : List Value} (hm : MemAt B w1 m a lv1 W' L') (hk : Keep (MF m a lv) w w1) (ho : ∀ k, lv1.ownBlock = some k → lv.ownBlock = some k ∨ w.heap.size ≤ k)
    (hx1 : Blk w1 x 85 cs) (hk2 : Keep (fun k => k = x) w1 w2) (hx2 : Blk w2 x 85 (shc li av nd n saw' sb k at_ ae an)) : ShP B w m a lv x li av nd n sb k at_ W' L' saw' ae an rv (.returned (i64 rv)) w2 :=
  ⟨rfl, lv1, hm.keep hk2 (fun k h e => sm_far hm hx1 (by have e' : k = x := e; exact e' ▸ h)), hx2, (hk.mono (fun _ h => Or.inl h)).trans (hk2.mono (fun _ h => Or.inr h)) (fun _ _ h => h), ho⟩

set_option maxHeartbeats 2000000 in
theorem sh_more (hm : MemAt B w m a lv W L) (hx : Blk w x 85 (shc li av nd n saw sb k at_ 0 0)) (hav : av < W.length) (hn : -1048576 ≤ n ∧ n ≤ 1048576) (hb : -4398046511104 ≤ rd W av ∧ rd W av ≤ 4398046511104) (hL : L.length ≤ 1000000000) :
    Calls Try.prog 45 #[ptr x, ptr m] w (ShP B w m a lv x li av nd n sb k at_ (W.set av (rd W av + n)) (L ++ [⟨2, av, n, rd W av + n, false⟩]) saw 0 0 9) := by
  have hx1 : Blk w x 85 [i64 li, i64 av, i64 nd, i64 n, i64 saw, .slice (some ⟨sb, 0, none⟩) k k, i64 at_, i64 0, i64 0, .bool false, i64 0] := hx
  have qx := hx1.k11
  have HX := hid hx1
  have HM := hid hm
  have hxm := sm_far hm hx1
  clear hx hx1 hm
  go_enter Try.func45, Try.ntmps45
  go_wp2_with fail
  apply wp_region_text (WI := fun S wx => Blk wx x 85 [i64 li, i64 av, i64 nd, i64 n, i64 saw, .slice (some ⟨sb, 0, none⟩) k k, i64 at_, i64 0, i64 0, .bool false, i64 0] ∧ (S 9 = false → MemAt B wx m a lv W L ∧ Keep0 w wx) ∧ (S 9 = true → MemPost B w m a lv (W.set av (rd W av + n)) (L ++ [⟨2, av, n, rd W av + n, false⟩]) wx)) (by kernel_rfl) (by kernel_rfl)
  case hob =>
    apply Oblig.cons
    case h =>
      intro S w1 hwi hSi hd hcl
      apply StepOk.intro
      intro K hK
      have qx3 := hwi.1.k11
      go_simp
      apply hK
      · rfl
      · conv => (lhs; whnf)
      · exact hwi
    simp only [put_lit, put_none, List.set_cons_succ, List.set_cons_zero]
    apply Oblig.cons
    case h =>
      intro S w1 hwi hSi hd hcl
      apply StepOk.intro
      intro K hK
      have qx3 := hwi.1.k11
      go_simp
      apply hK
      · rfl
      · conv => (lhs; whnf)
      · exact hwi
    simp only [put_lit, put_none, List.set_cons_succ, List.set_cons_zero]
    apply Oblig.cons
    case h =>
      intro S w1 hwi hSi hd hcl
      apply StepOk.intro
      intro K hK
      have qx3 := hwi.1.k11
      go_simp
      apply hK
      · rfl
      · conv => (lhs; whnf)
      · exact hwi
    simp only [put_lit, put_none, List.set_cons_succ, List.set_cons_zero]
    apply Oblig.cons
    case h =>
      intro S w1 hwi hSi hd hcl
      apply StepOk.intro
      intro K hK
      have qx3 := hwi.1.k11
      go_simp
      apply hK
      · rfl
      · conv => (lhs; whnf)
      · exact hwi
    simp only [put_lit, put_none, List.set_cons_succ, List.set_cons_zero]
    apply Oblig.cons
    case h =>
      intro S w1 hwi hSi hd hcl
      apply StepOk.intro
      intro K hK
      have qx3 := hwi.1.k11
      go_simp
      apply hK
      · rfl
      · conv => (lhs; whnf)
      · exact hwi
    simp only [put_lit, put_none, List.set_cons_succ, List.set_cons_zero]
    apply Oblig.cons
    case h =>
      intro S w1 hwi hSi hd hcl
      apply StepOk.intro
      intro K hK
      have qx3 := hwi.1.k11
      go_simp
      apply hK
      · rfl
      · conv => (lhs; whnf)
      · exact hwi
    simp only [put_lit, put_none, List.set_cons_succ, List.set_cons_zero]
    apply Oblig.cons
    case h =>
      intro S w1 hwi hSi hd hcl
      apply StepOk.intro
      intro K hK
      have qx3 := hwi.1.k11
      go_simp
      apply hK
      · rfl
      · conv => (lhs; whnf)
      · exact hwi
    simp only [put_lit, put_none, List.set_cons_succ, List.set_cons_zero]
    apply Oblig.cons
    case h =>
      intro S w1 hwi hSi hd hcl
      apply StepOk.intro
      intro K hK
      have qx3 := hwi.1.k11
      go_simp
      apply hK
      · rfl
      · conv => (lhs; whnf)
      · exact hwi
    simp only [put_lit, put_none, List.set_cons_succ, List.set_cons_zero]
    apply Oblig.cons
    case h =>
      intro S w1 hwi hSi hd hcl
      apply StepOk.intro
      intro K hK
      have qx3 := hwi.1.k11
      go_simp
      apply hK
      · rfl
      · conv => (lhs; whnf)
      · exact hwi
    simp only [put_lit, put_none, List.set_cons_succ, List.set_cons_zero]
    apply Oblig.cons
    case h =>
      intro S w1 hwi hSi hd hcl
      apply StepOk.intro
      intro K hK
      have qx3 := hwi.1.k11
      go_simp
      refine (show Calls Try.prog 65 #[ptr m, i64 av, i64 (n)] w1 (fun e w2 => e = .returned (i64 (rd W av + n)) ∧ MemPost B w1 m a lv (W.set av (rd W av + n)) (L ++ [⟨2, av, n, rd W av + n, false⟩]) w2) from by have h := mem_Add (av : Int) (n) (hwi.2.1 hSi).1 (by omega) (by omega) hL; rw [Int.toNat_natCast, wrap64_in _ (by omega)] at h; exact h).mono ?_
      rintro e w2 ⟨rfl, hp⟩
      obtain ⟨lvq, hq1, hq2, hq3⟩ := id hp
      have hblk := hq2.blk hwi.1 (sm_far (hwi.2.1 hSi).1 hwi.1)
      have hpp := hp.before (hwi.2.1 hSi).2
      apply hK
      · rfl
      · conv => (lhs; whnf)
      · exact ⟨hblk, fun h => by simp [upd] at h, fun _ => hpp⟩
    simp only [put_lit, put_none, List.set_cons_succ, List.set_cons_zero]
    exact Oblig.nil
  case h0 =>
    exact ⟨HX.out.drew, fun _ => ⟨HM.out.same (Keep.refl _ _).drew, (Keep.refl _ _).drew⟩, fun h => by cases h⟩
  case hend =>
    intro S wx hwi hall
    obtain ⟨lv1, hm, hk, ho⟩ := hwi.2.2 (hall 9 (by decide))
    have HX1 := hid hwi.1
    have HM1 := hid hm
    have HK1 := hid hk
    have HO1 := hid ho
    clear hwi hall hm hk ho qx
    go_wp2_with fail
    go_ret
    exact shP_of HM1.out HK1.out HO1.out HX1.out (Keep.refl _ _) HX1.out

set_option maxHeartbeats 2000000 in
theorem sh_down (hm : MemAt B w m a lv W L) (hx : Blk w x 85 (shc li av nd n saw sb k at_ 0 0)) (hli : li < W.length) (hn : -1048576 ≤ n ∧ n ≤ 1048576) (hb : -4398046511104 ≤ rd W li ∧ rd W li ≤ 4398046511104) (hL : L.length ≤ 1000000000) :
    Calls Try.prog 48 #[ptr x, ptr m] w (ShP B w m a lv x li av nd n sb k at_ (W.set li (rd W li + -n)) (L ++ [⟨2, li, -n, rd W li + -n, false⟩]) saw 0 0 9) := by
  have hx1 : Blk w x 85 [i64 li, i64 av, i64 nd, i64 n, i64 saw, .slice (some ⟨sb, 0, none⟩) k k, i64 at_, i64 0, i64 0, .bool false, i64 0] := hx
  have qx := hx1.k11
  have HX := hid hx1
  have HM := hid hm
  have hxm := sm_far hm hx1
  clear hx hx1 hm
  have y1 : IntKind.i64.wrap (-n) = -n := IntWalk.i64_in _ (by omega)
  go_enter Try.func48, Try.ntmps48
  go_wp2_with fail
  apply wp_region_text (WI := fun S wx => Blk wx x 85 [i64 li, i64 av, i64 nd, i64 n, i64 saw, .slice (some ⟨sb, 0, none⟩) k k, i64 at_, i64 0, i64 0, .bool false, i64 0] ∧ (S 10 = false → MemAt B wx m a lv W L ∧ Keep0 w wx) ∧ (S 10 = true → MemPost B w m a lv (W.set li (rd W li + -n)) (L ++ [⟨2, li, -n, rd W li + -n, false⟩]) wx)) (by kernel_rfl) (by kernel_rfl)
  case hob =>
    apply Oblig.cons
    case h =>
      intro S w1 hwi hSi hd hcl
      apply StepOk.intro
      intro K hK
      have qx3 := hwi.1.k11
      go_simp
      apply hK
      · rfl
      · conv => (lhs; whnf)
      · exact hwi
    simp only [put_lit, put_none, List.set_cons_succ, List.set_cons_zero]
    apply Oblig.cons
    case h =>
      intro S w1 hwi hSi hd hcl
      apply StepOk.intro
      intro K hK
      have qx3 := hwi.1.k11
      go_simp
      apply hK
      · rfl
      · conv => (lhs; whnf)
      · exact hwi
    simp only [put_lit, put_none, List.set_cons_succ, List.set_cons_zero]
    apply Oblig.cons
    case h =>
      intro S w1 hwi hSi hd hcl
      apply StepOk.intro
      intro K hK
      have qx3 := hwi.1.k11
      go_simp
      apply hK
      · rfl
      · conv => (lhs; whnf)
      · exact hwi
    simp only [put_lit, put_none, List.set_cons_succ, List.set_cons_zero]
    apply Oblig.cons
    case h =>
      intro S w1 hwi hSi hd hcl
      apply StepOk.intro
      intro K hK
      have qx3 := hwi.1.k11
      go_simp
      apply hK
      · rfl
      · conv => (lhs; whnf)
      · exact hwi
    simp only [put_lit, put_none, List.set_cons_succ, List.set_cons_zero]
    apply Oblig.cons
    case h =>
      intro S w1 hwi hSi hd hcl
      apply StepOk.intro
      intro K hK
      have qx3 := hwi.1.k11
      go_simp
      apply hK
      · rfl
      · conv => (lhs; whnf)
      · exact hwi
    simp only [put_lit, put_none, List.set_cons_succ, List.set_cons_zero]
    apply Oblig.cons
    case h =>
      intro S w1 hwi hSi hd hcl
      apply StepOk.intro
      intro K hK
      have qx3 := hwi.1.k11
      go_simp
      apply hK
      · rfl
      · conv => (lhs; whnf)
      · exact hwi
    simp only [put_lit, put_none, List.set_cons_succ, List.set_cons_zero]
    apply Oblig.cons
    case h =>
      intro S w1 hwi hSi hd hcl
      apply StepOk.intro
      intro K hK
      have qx3 := hwi.1.k11
      go_simp
      apply hK
      · rfl
      · conv => (lhs; whnf)
      · exact hwi
    simp only [put_lit, put_none, List.set_cons_succ, List.set_cons_zero]
    apply Oblig.cons
    case h =>
      intro S w1 hwi hSi hd hcl
      apply StepOk.intro
      intro K hK
      have qx3 := hwi.1.k11
      go_simp
      apply hK
      · rfl
      · conv => (lhs; whnf)
      · exact hwi
    simp only [put_lit, put_none, List.set_cons_succ, List.set_cons_zero]
    apply Oblig.cons
    case h =>
      intro S w1 hwi hSi hd hcl
      apply StepOk.intro
      intro K hK
      have qx3 := hwi.1.k11
      go_simp
      apply hK
      · rfl
      · conv => (lhs; whnf)
      · exact hwi
    simp only [put_lit, put_none, List.set_cons_succ, List.set_cons_zero]
    apply Oblig.cons
    case h =>
      intro S w1 hwi hSi hd hcl
      apply StepOk.intro
      intro K hK
      have qx3 := hwi.1.k11
      go_simp
      apply hK
      · rfl
      · conv => (lhs; whnf)
      · exact hwi
    simp only [put_lit, put_none, List.set_cons_succ, List.set_cons_zero]
    apply Oblig.cons
    case h =>
      intro S w1 hwi hSi hd hcl
      apply StepOk.intro
      intro K hK
      have qx3 := hwi.1.k11
      go_simp
      refine (show Calls Try.prog 65 #[ptr m, i64 li, i64 (-n)] w1 (fun e w2 => e = .returned (i64 (rd W li + -n)) ∧ MemPost B w1 m a lv (W.set li (rd W li + -n)) (L ++ [⟨2, li, -n, rd W li + -n, false⟩]) w2) from by have h := mem_Add (li : Int) (-n) (hwi.2.1 hSi).1 (by omega) (by omega) hL; rw [Int.toNat_natCast, wrap64_in _ (by omega)] at h; exact h).mono ?_
      rintro e w2 ⟨rfl, hp⟩
      obtain ⟨lvq, hq1, hq2, hq3⟩ := id hp
      have hblk := hq2.blk hwi.1 (sm_far (hwi.2.1 hSi).1 hwi.1)
      have hpp := hp.before (hwi.2.1 hSi).2
      apply hK
      · rfl
      · conv => (lhs; whnf)
      · exact ⟨hblk, fun h => by simp [upd] at h, fun _ => hpp⟩
    simp only [put_lit, put_none, List.set_cons_succ, List.set_cons_zero]
    exact Oblig.nil
  case h0 =>
    exact ⟨HX.out.drew, fun _ => ⟨HM.out.same (Keep.refl _ _).drew, (Keep.refl _ _).drew⟩, fun h => by cases h⟩
  case hend =>
    intro S wx hwi hall
    obtain ⟨lv1, hm, hk, ho⟩ := hwi.2.2 (hall 10 (by decide))
    have HX1 := hid hwi.1
    have HM1 := hid hm
    have HK1 := hid hk
    have HO1 := hid ho
    clear hwi hall hm hk ho qx
    go_wp2_with fail
    go_ret
    exact shP_of HM1.out HK1.out HO1.out HX1.out (Keep.refl _ _) HX1.out

theorem mem_CasN' (i : Nat) (old y : Int) (hm : MemAt B w m a lv W L) (hi : i < W.length) (hL : L.length ≤ 1000000000) :
    Calls Try.prog 64 #[ptr m, i64 i, i64 old, i64 y] w fun e w' => e = .returned (.bool (rd W i == old)) ∧ MemPost B w m a lv (casW W i old y) (L ++ [⟨3, i, old, y, rd W i == old⟩]) w' := by
  have h := mem_Cas (i : Int) old y hm (by omega) (by omega) hL
  rwa [Int.toNat_natCast] at h

set_option maxHeartbeats 2000000 in
theorem sh_up (hm : MemAt B w m a lv W L) (hx : Blk w x 85 (shc li av nd n saw sb k at_ 0 0)) (hli : li < W.length) (hn : -1048576 ≤ n ∧ n ≤ 1048576) (hb : -4398046511104 ≤ saw ∧ saw ≤ 4398046511104) (hL : L.length ≤ 1000000000) :
    Calls Try.prog 44 #[ptr x, ptr m] w (ShP B w m a lv x li av nd n sb k at_ (casW W li saw (saw + n)) (L ++ [⟨3, li, saw, saw + n, rd W li == saw⟩]) saw 0 0 (if (rd W li == saw) = true then 1 else -1)) := by
  have hx1 : Blk w x 85 [i64 li, i64 av, i64 nd, i64 n, i64 saw, .slice (some ⟨sb, 0, none⟩) k k, i64 at_, i64 0, i64 0, .bool false, i64 0] := hx
  have qx := hx1.k11
  have HX := hid hx1
  have HM := hid hm
  have hxm := sm_far hm hx1
  clear hx hx1 hm
  have y1 : IntKind.i64.wrap (saw + n) = saw + n := IntWalk.i64_in _ (by omega)
  cases hcb : (rd W li == saw)
  · go_enter Try.func44, Try.ntmps44
    go_wp2_with fail
    apply wp_region_text (WI := fun S wx => Blk wx x 85 [i64 li, i64 av, i64 nd, i64 n, i64 saw, .slice (some ⟨sb, 0, none⟩) k k, i64 at_, i64 0, i64 0, .bool false, i64 0] ∧ (S 18 = false → MemAt B wx m a lv W L ∧ Keep0 w wx) ∧ (S 18 = true → MemPost B w m a lv (casW W li saw (saw + n)) (L ++ [⟨3, li, saw, saw + n, false⟩]) wx)) (by kernel_rfl) (by kernel_rfl)
    case hob =>
      apply Oblig.cons
      case h =>
        intro S w1 hwi hSi hd hcl
        apply StepOk.intro
        intro K hK
        have qx3 := hwi.1.k11
        go_simp
        apply hK
        · rfl
        · conv => (lhs; whnf)
        · exact hwi
      simp only [put_lit, put_none, List.set_cons_succ, List.set_cons_zero]
      apply Oblig.cons
      case h =>
        intro S w1 hwi hSi hd hcl
        apply StepOk.intro
        intro K hK
        have qx3 := hwi.1.k11
        go_simp
        apply hK
        · rfl
        · conv => (lhs; whnf)
        · exact hwi
      simp only [put_lit, put_none, List.set_cons_succ, List.set_cons_zero]
      apply Oblig.cons
      case h =>
        intro S w1 hwi hSi hd hcl
        apply StepOk.intro
        intro K hK
        have qx3 := hwi.1.k11
        go_simp
        apply hK
        · rfl
        · conv => (lhs; whnf)
        · exact hwi
      simp only [put_lit, put_none, List.set_cons_succ, List.set_cons_zero]
      apply Oblig.cons
      case h =>
        intro S w1 hwi hSi hd hcl
        apply StepOk.intro
        intro K hK
        have qx3 := hwi.1.k11
        go_simp
        apply hK
        · rfl
        · conv => (lhs; whnf)
        · exact hwi
      simp only [put_lit, put_none, List.set_cons_succ, List.set_cons_zero]
      apply Oblig.cons
      case h =>
        intro S w1 hwi hSi hd hcl
        apply StepOk.intro
        intro K hK
        have qx3 := hwi.1.k11
        go_simp
        apply hK
        · rfl
        · conv => (lhs; whnf)
        · exact hwi
      simp only [put_lit, put_none, List.set_cons_succ, List.set_cons_zero]
      apply Oblig.cons
      case h =>
        intro S w1 hwi hSi hd hcl
        apply StepOk.intro
        intro K hK
        have qx3 := hwi.1.k11
        go_simp
        apply hK
        · rfl
        · conv => (lhs; whnf)
        · exact hwi
      simp only [put_lit, put_none, List.set_cons_succ, List.set_cons_zero]
      apply Oblig.cons
      case h =>
        intro S w1 hwi hSi hd hcl
        apply StepOk.intro
        intro K hK
        have qx3 := hwi.1.k11
        go_simp
        apply hK
        · rfl
        · conv => (lhs; whnf)
        · exact hwi
      simp only [put_lit, put_none, List.set_cons_succ, List.set_cons_zero]
      apply Oblig.cons
      case h =>
        intro S w1 hwi hSi hd hcl
        apply StepOk.intro
        intro K hK
        have qx3 := hwi.1.k11
        go_simp
        apply hK
        · rfl
        · conv => (lhs; whnf)
        · exact hwi
      simp only [put_lit, put_none, List.set_cons_succ, List.set_cons_zero]
      apply Oblig.cons
      case h =>
        intro S w1 hwi hSi hd hcl
        apply StepOk.intro
        intro K hK
        have qx3 := hwi.1.k11
        go_simp
        apply hK
        · rfl
        · conv => (lhs; whnf)
        · exact hwi
      simp only [put_lit, put_none, List.set_cons_succ, List.set_cons_zero]
      apply Oblig.cons
      case h =>
        intro S w1 hwi hSi hd hcl
        apply StepOk.intro
        intro K hK
        have qx3 := hwi.1.k11
        go_simp
        apply hK
        · rfl
        · conv => (lhs; whnf)
        · exact hwi
      simp only [put_lit, put_none, List.set_cons_succ, List.set_cons_zero]
      apply Oblig.cons
      case h =>
        intro S w1 hwi hSi hd hcl
        apply StepOk.intro
        intro K hK
        have qx3 := hwi.1.k11
        go_simp
        apply hK
        · rfl
        · conv => (lhs; whnf)
        · exact hwi
      simp only [put_lit, put_none, List.set_cons_succ, List.set_cons_zero]
      apply Oblig.cons
      case h =>
        intro S w1 hwi hSi hd hcl
        apply StepOk.intro
        intro K hK
        have qx3 := hwi.1.k11
        go_simp
        apply hK
        · rfl
        · conv => (lhs; whnf)
        · exact hwi
      simp only [put_lit, put_none, List.set_cons_succ, List.set_cons_zero]
      apply Oblig.cons
      case h =>
        intro S w1 hwi hSi hd hcl
        apply StepOk.intro
        intro K hK
        have qx3 := hwi.1.k11
        go_simp
        apply hK
        · rfl
        · conv => (lhs; whnf)
        · exact hwi
      simp only [put_lit, put_none, List.set_cons_succ, List.set_cons_zero]
      apply Oblig.cons
      case h =>
        intro S w1 hwi hSi hd hcl
        apply StepOk.intro
        intro K hK
        have qx3 := hwi.1.k11
        go_simp
        apply hK
        · rfl
        · conv => (lhs; whnf)
        · exact hwi
      simp only [put_lit, put_none, List.set_cons_succ, List.set_cons_zero]
      apply Oblig.cons
      case h =>
        intro S w1 hwi hSi hd hcl
        apply StepOk.intro
        intro K hK
        have qx3 := hwi.1.k11
        go_simp
        apply hK
        · rfl
        · conv => (lhs; whnf)
        · exact hwi
      simp only [put_lit, put_none, List.set_cons_succ, List.set_cons_zero]
      apply Oblig.cons
      case h =>
        intro S w1 hwi hSi hd hcl
        apply StepOk.intro
        intro K hK
        have qx3 := hwi.1.k11
        go_simp
        apply hK
        · rfl
        · conv => (lhs; whnf)
        · exact hwi
      simp only [put_lit, put_none, List.set_cons_succ, List.set_cons_zero]
      apply Oblig.cons
      case h =>
        intro S w1 hwi hSi hd hcl
        apply StepOk.intro
        intro K hK
        have qx3 := hwi.1.k11
        go_simp
        apply hK
        · rfl
        · conv => (lhs; whnf)
        · exact hwi
      simp only [put_lit, put_none, List.set_cons_succ, List.set_cons_zero]
      apply Oblig.cons
      case h =>
        intro S w1 hwi hSi hd hcl
        apply StepOk.intro
        intro K hK
        have qx3 := hwi.1.k11
        go_simp
        apply hK
        · rfl
        · conv => (lhs; whnf)
        · exact hwi
      simp only [put_lit, put_none, List.set_cons_succ, List.set_cons_zero]
      apply Oblig.cons
      case h =>
        intro S w1 hwi hSi hd hcl
        apply StepOk.intro
        intro K hK
        have qx3 := hwi.1.k11
        go_simp
        refine (show Calls Try.prog 64 #[ptr m, i64 li, i64 saw, i64 (saw + n)] w1 (fun e w2 => e = .returned (.bool false) ∧ MemPost B w1 m a lv (casW W li saw (saw + n)) (L ++ [⟨3, li, saw, saw + n, false⟩]) w2) from by have h := mem_CasN' li saw (saw + n) (hwi.2.1 hSi).1 (by omega) hL; rw [hcb] at h; exact h).mono ?_
        rintro e w2 ⟨rfl, hp⟩
        obtain ⟨lvq, hq1, hq2, hq3⟩ := id hp
        have hblk := hq2.blk hwi.1 (sm_far (hwi.2.1 hSi).1 hwi.1)
        have hpp := hp.before (hwi.2.1 hSi).2
        apply hK
        · rfl
        · conv => (lhs; whnf)
        · exact ⟨hblk, fun h => by simp [upd] at h, fun _ => hpp⟩
      simp only [put_lit, put_none, List.set_cons_succ, List.set_cons_zero]
      apply Oblig.cons
      case h =>
        intro S w1 hwi hSi hd hcl
        apply StepOk.intro
        intro K hK
        have qx3 := hwi.1.k11
        go_simp
        refine (sh_on _ _).mono ?_
        rintro e w2 ⟨rfl, rfl⟩
        apply hK
        · rfl
        · conv => (lhs; whnf)
        · exact hwi
      simp only [put_lit, put_none, List.set_cons_succ, List.set_cons_zero]
      apply Oblig.cons
      case h =>
        intro S w1 hwi hSi hd hcl
        apply StepOk.intro
        intro K hK
        have qx3 := hwi.1.k11
        go_simp
        apply hK
        · rfl
        · conv => (lhs; whnf)
        · exact hwi
      simp only [put_lit, put_none, List.set_cons_succ, List.set_cons_zero]
      exact Oblig.nil
    case h0 =>
      exact ⟨HX.out.drew, fun _ => ⟨HM.out.same (Keep.refl _ _).drew, (Keep.refl _ _).drew⟩, fun h => by cases h⟩
    case hend =>
      intro S wx hwi hall
      obtain ⟨lv1, hm, hk, ho⟩ := hwi.2.2 (hall 18 (by decide))
      have HX1 := hid hwi.1
      have HM1 := hid hm
      have HK1 := hid hk
      have HO1 := hid ho
      clear hwi hall hm hk ho qx
      go_wp2_with fail
      go_ret
      exact shP_of HM1.out HK1.out HO1.out HX1.out (Keep.refl _ _) HX1.out
  · go_enter Try.func44, Try.ntmps44
    go_wp2_with fail
    apply wp_region_text (WI := fun S wx => Blk wx x 85 [i64 li, i64 av, i64 nd, i64 n, i64 saw, .slice (some ⟨sb, 0, none⟩) k k, i64 at_, i64 0, i64 0, .bool false, i64 0] ∧ (S 18 = false → MemAt B wx m a lv W L ∧ Keep0 w wx) ∧ (S 18 = true → MemPost B w m a lv (casW W li saw (saw + n)) (L ++ [⟨3, li, saw, saw + n, true⟩]) wx)) (by kernel_rfl) (by kernel_rfl)
    case hob =>
      apply Oblig.cons
      case h =>
        intro S w1 hwi hSi hd hcl
        apply StepOk.intro
        intro K hK
        have qx3 := hwi.1.k11
        go_simp
        apply hK
        · rfl
        · conv => (lhs; whnf)
        · exact hwi
      simp only [put_lit, put_none, List.set_cons_succ, List.set_cons_zero]
      apply Oblig.cons
      case h =>
        intro S w1 hwi hSi hd hcl
        apply StepOk.intro
        intro K hK
        have qx3 := hwi.1.k11
        go_simp
        apply hK
        · rfl
        · conv => (lhs; whnf)
        · exact hwi
      simp only [put_lit, put_none, List.set_cons_succ, List.set_cons_zero]
      apply Oblig.cons
      case h =>
        intro S w1 hwi hSi hd hcl
        apply StepOk.intro
        intro K hK
        have qx3 := hwi.1.k11
        go_simp
        apply hK
        · rfl
        · conv => (lhs; whnf)
        · exact hwi
      simp only [put_lit, put_none, List.set_cons_succ, List.set_cons_zero]
      apply Oblig.cons
      case h =>
        intro S w1 hwi hSi hd hcl
        apply StepOk.intro
        intro K hK
        have qx3 := hwi.1.k11
        go_simp
        apply hK
        · rfl
        · conv => (lhs; whnf)
        · exact hwi
      simp only [put_lit, put_none, List.set_cons_succ, List.set_cons_zero]
      apply Oblig.cons
      case h =>
        intro S w1 hwi hSi hd hcl
        apply StepOk.intro
        intro K hK
        have qx3 := hwi.1.k11
        go_simp
        apply hK
        · rfl
        · conv => (lhs; whnf)
        · exact hwi
      simp only [put_lit, put_none, List.set_cons_succ, List.set_cons_zero]
      apply Oblig.cons
      case h =>
        intro S w1 hwi hSi hd hcl
        apply StepOk.intro
        intro K hK
        have qx3 := hwi.1.k11
        go_simp
        apply hK
        · rfl
        · conv => (lhs; whnf)
        · exact hwi
      simp only [put_lit, put_none, List.set_cons_succ, List.set_cons_zero]
      apply Oblig.cons
      case h =>
        intro S w1 hwi hSi hd hcl
        apply StepOk.intro
        intro K hK
        have qx3 := hwi.1.k11
        go_simp
        apply hK
        · rfl
        · conv => (lhs; whnf)
        · exact hwi
      simp only [put_lit, put_none, List.set_cons_succ, List.set_cons_zero]
      apply Oblig.cons
      case h =>
        intro S w1 hwi hSi hd hcl
        apply StepOk.intro
        intro K hK
        have qx3 := hwi.1.k11
        go_simp
        apply hK
        · rfl
        · conv => (lhs; whnf)
        · exact hwi
      simp only [put_lit, put_none, List.set_cons_succ, List.set_cons_zero]
      apply Oblig.cons
      case h =>
        intro S w1 hwi hSi hd hcl
        apply StepOk.intro
        intro K hK
        have qx3 := hwi.1.k11
        go_simp
        apply hK
        · rfl
        · conv => (lhs; whnf)
        · exact hwi
      simp only [put_lit, put_none, List.set_cons_succ, List.set_cons_zero]
      apply Oblig.cons
      case h =>
        intro S w1 hwi hSi hd hcl
        apply StepOk.intro
        intro K hK
        have qx3 := hwi.1.k11
        go_simp
        apply hK
        · rfl
        · conv => (lhs; whnf)
        · exact hwi
      simp only [put_lit, put_none, List.set_cons_succ, List.set_cons_zero]
      apply Oblig.cons
      case h =>
        intro S w1 hwi hSi hd hcl
        apply StepOk.intro
        intro K hK
        have qx3 := hwi.1.k11
        go_simp
        apply hK
        · rfl
        · conv => (lhs; whnf)
        · exact hwi
      simp only [put_lit, put_none, List.set_cons_succ, List.set_cons_zero]
      apply Oblig.cons
      case h =>
        intro S w1 hwi hSi hd hcl
        apply StepOk.intro
        intro K hK
        have qx3 := hwi.1.k11
        go_simp
        apply hK
        · rfl
        · conv => (lhs; whnf)
        · exact hwi
      simp only [put_lit, put_none, List.set_cons_succ, List.set_cons_zero]
      apply Oblig.cons
      case h =>
        intro S w1 hwi hSi hd hcl
        apply StepOk.intro
        intro K hK
        have qx3 := hwi.1.k11
        go_simp
        apply hK
        · rfl
        · conv => (lhs; whnf)
        · exact hwi
      simp only [put_lit, put_none, List.set_cons_succ, List.set_cons_zero]
      apply Oblig.cons
      case h =>
        intro S w1 hwi hSi hd hcl
        apply StepOk.intro
        intro K hK
        have qx3 := hwi.1.k11
        go_simp
        apply hK
        · rfl
        · conv => (lhs; whnf)
        · exact hwi
      simp only [put_lit, put_none, List.set_cons_succ, List.set_cons_zero]
      apply Oblig.cons
      case h =>
        intro S w1 hwi hSi hd hcl
        apply StepOk.intro
        intro K hK
        have qx3 := hwi.1.k11
        go_simp
        apply hK
        · rfl
        · conv => (lhs; whnf)
        · exact hwi
      simp only [put_lit, put_none, List.set_cons_succ, List.set_cons_zero]
      apply Oblig.cons
      case h =>
        intro S w1 hwi hSi hd hcl
        apply StepOk.intro
        intro K hK
        have qx3 := hwi.1.k11
        go_simp
        apply hK
        · rfl
        · conv => (lhs; whnf)
        · exact hwi
      simp only [put_lit, put_none, List.set_cons_succ, List.set_cons_zero]
      apply Oblig.cons
      case h =>
        intro S w1 hwi hSi hd hcl
        apply StepOk.intro
        intro K hK
        have qx3 := hwi.1.k11
        go_simp
        apply hK
        · rfl
        · conv => (lhs; whnf)
        · exact hwi
      simp only [put_lit, put_none, List.set_cons_succ, List.set_cons_zero]
      apply Oblig.cons
      case h =>
        intro S w1 hwi hSi hd hcl
        apply StepOk.intro
        intro K hK
        have qx3 := hwi.1.k11
        go_simp
        apply hK
        · rfl
        · conv => (lhs; whnf)
        · exact hwi
      simp only [put_lit, put_none, List.set_cons_succ, List.set_cons_zero]
      apply Oblig.cons
      case h =>
        intro S w1 hwi hSi hd hcl
        apply StepOk.intro
        intro K hK
        have qx3 := hwi.1.k11
        go_simp
        refine (show Calls Try.prog 64 #[ptr m, i64 li, i64 saw, i64 (saw + n)] w1 (fun e w2 => e = .returned (.bool true) ∧ MemPost B w1 m a lv (casW W li saw (saw + n)) (L ++ [⟨3, li, saw, saw + n, true⟩]) w2) from by have h := mem_CasN' li saw (saw + n) (hwi.2.1 hSi).1 (by omega) hL; rw [hcb] at h; exact h).mono ?_
        rintro e w2 ⟨rfl, hp⟩
        obtain ⟨lvq, hq1, hq2, hq3⟩ := id hp
        have hblk := hq2.blk hwi.1 (sm_far (hwi.2.1 hSi).1 hwi.1)
        have hpp := hp.before (hwi.2.1 hSi).2
        apply hK
        · rfl
        · conv => (lhs; whnf)
        · exact ⟨hblk, fun h => by simp [upd] at h, fun _ => hpp⟩
      simp only [put_lit, put_none, List.set_cons_succ, List.set_cons_zero]
      apply Oblig.cons
      case h =>
        intro S w1 hwi hSi hd hcl
        apply StepOk.intro
        intro K hK
        have qx3 := hwi.1.k11
        go_simp
        refine (sh_on _ _).mono ?_
        rintro e w2 ⟨rfl, rfl⟩
        apply hK
        · rfl
        · conv => (lhs; whnf)
        · exact hwi
      simp only [put_lit, put_none, List.set_cons_succ, List.set_cons_zero]
      apply Oblig.cons
      case h =>
        intro S w1 hwi hSi hd hcl
        apply StepOk.intro
        intro K hK
        have qx3 := hwi.1.k11
        go_simp
        apply hK
        · rfl
        · conv => (lhs; whnf)
        · exact hwi
      simp only [put_lit, put_none, List.set_cons_succ, List.set_cons_zero]
      exact Oblig.nil
    case h0 =>
      exact ⟨HX.out.drew, fun _ => ⟨HM.out.same (Keep.refl _ _).drew, (Keep.refl _ _).drew⟩, fun h => by cases h⟩
    case hend =>
      intro S wx hwi hall
      obtain ⟨lv1, hm, hk, ho⟩ := hwi.2.2 (hall 18 (by decide))
      have HX1 := hid hwi.1
      have HM1 := hid hm
      have HK1 := hid hk
      have HO1 := hid ho
      clear hwi hall hm hk ho qx
      go_wp2_with fail
      go_ret
      exact shP_of HM1.out HK1.out HO1.out HX1.out (Keep.refl _ _) HX1.out
set_option maxHeartbeats 2000000 in
theorem sh_out (hm : MemAt B w m a lv W L) (hx : Blk w x 85 (shc li av nd n saw sb k at_ 0 0)) (hav : av < W.length) (hn : -1048576 ≤ n ∧ n ≤ 1048576) (hb : -4398046511104 ≤ saw ∧ saw ≤ 4398046511104) (hL : L.length ≤ 1000000000) :
    Calls Try.prog 47 #[ptr x, ptr m] w (ShP B w m a lv x li av nd n sb k at_ (casW W av saw (saw - n)) (L ++ [⟨3, av, saw, saw - n, rd W av == saw⟩]) saw 0 0 (if (rd W av == saw) = true then 1 else -1)) := by
  have hx1 : Blk w x 85 [i64 li, i64 av, i64 nd, i64 n, i64 saw, .slice (some ⟨sb, 0, none⟩) k k, i64 at_, i64 0, i64 0, .bool false, i64 0] := hx
  have qx := hx1.k11
  have HX := hid hx1
  have HM := hid hm
  have hxm := sm_far hm hx1
  clear hx hx1 hm
  have y1 : IntKind.i64.wrap (saw - n) = saw - n := IntWalk.i64_in _ (by omega)
  cases hcb : (rd W av == saw)
  · go_enter Try.func47, Try.ntmps47
    go_wp2_with fail
    apply wp_region_text (WI := fun S wx => Blk wx x 85 [i64 li, i64 av, i64 nd, i64 n, i64 saw, .slice (some ⟨sb, 0, none⟩) k k, i64 at_, i64 0, i64 0, .bool false, i64 0] ∧ (S 18 = false → MemAt B wx m a lv W L ∧ Keep0 w wx) ∧ (S 18 = true → MemPost B w m a lv (casW W av saw (saw - n)) (L ++ [⟨3, av, saw, saw - n, false⟩]) wx)) (by kernel_rfl) (by kernel_rfl)
    case hob =>
      apply Oblig.cons
      case h =>
        intro S w1 hwi hSi hd hcl
        apply StepOk.intro
        intro K hK
        have qx3 := hwi.1.k11
        go_simp
        apply hK
        · rfl
        · conv => (lhs; whnf)
        · exact hwi
      simp only [put_lit, put_none, List.set_cons_succ, List.set_cons_zero]
      apply Oblig.cons
      case h =>
        intro S w1 hwi hSi hd hcl
        apply StepOk.intro
        intro K hK
        have qx3 := hwi.1.k11
        go_simp
        apply hK
        · rfl
        · conv => (lhs; whnf)
        · exact hwi
      simp only [put_lit, put_none, List.set_cons_succ, List.set_cons_zero]
      apply Oblig.cons
      case h =>
        intro S w1 hwi hSi hd hcl
        apply StepOk.intro
        intro K hK
        have qx3 := hwi.1.k11
        go_simp
        apply hK
        · rfl
        · conv => (lhs; whnf)
        · exact hwi
      simp only [put_lit, put_none, List.set_cons_succ, List.set_cons_zero]
      apply Oblig.cons
      case h =>
        intro S w1 hwi hSi hd hcl
        apply StepOk.intro
        intro K hK
        have qx3 := hwi.1.k11
        go_simp
        apply hK
        · rfl
        · conv => (lhs; whnf)
        · exact hwi
      simp only [put_lit, put_none, List.set_cons_succ, List.set_cons_zero]
      apply Oblig.cons
      case h =>
        intro S w1 hwi hSi hd hcl
        apply StepOk.intro
        intro K hK
        have qx3 := hwi.1.k11
        go_simp
        apply hK
        · rfl
        · conv => (lhs; whnf)
        · exact hwi
      simp only [put_lit, put_none, List.set_cons_succ, List.set_cons_zero]
      apply Oblig.cons
      case h =>
        intro S w1 hwi hSi hd hcl
        apply StepOk.intro
        intro K hK
        have qx3 := hwi.1.k11
        go_simp
        apply hK
        · rfl
        · conv => (lhs; whnf)
        · exact hwi
      simp only [put_lit, put_none, List.set_cons_succ, List.set_cons_zero]
      apply Oblig.cons
      case h =>
        intro S w1 hwi hSi hd hcl
        apply StepOk.intro
        intro K hK
        have qx3 := hwi.1.k11
        go_simp
        apply hK
        · rfl
        · conv => (lhs; whnf)
        · exact hwi
      simp only [put_lit, put_none, List.set_cons_succ, List.set_cons_zero]
      apply Oblig.cons
      case h =>
        intro S w1 hwi hSi hd hcl
        apply StepOk.intro
        intro K hK
        have qx3 := hwi.1.k11
        go_simp
        apply hK
        · rfl
        · conv => (lhs; whnf)
        · exact hwi
      simp only [put_lit, put_none, List.set_cons_succ, List.set_cons_zero]
      apply Oblig.cons
      case h =>
        intro S w1 hwi hSi hd hcl
        apply StepOk.intro
        intro K hK
        have qx3 := hwi.1.k11
        go_simp
        apply hK
        · rfl
        · conv => (lhs; whnf)
        · exact hwi
      simp only [put_lit, put_none, List.set_cons_succ, List.set_cons_zero]
      apply Oblig.cons
      case h =>
        intro S w1 hwi hSi hd hcl
        apply StepOk.intro
        intro K hK
        have qx3 := hwi.1.k11
        go_simp
        apply hK
        · rfl
        · conv => (lhs; whnf)
        · exact hwi
      simp only [put_lit, put_none, List.set_cons_succ, List.set_cons_zero]
      apply Oblig.cons
      case h =>
        intro S w1 hwi hSi hd hcl
        apply StepOk.intro
        intro K hK
        have qx3 := hwi.1.k11
        go_simp
        apply hK
        · rfl
        · conv => (lhs; whnf)
        · exact hwi
      simp only [put_lit, put_none, List.set_cons_succ, List.set_cons_zero]
      apply Oblig.cons
      case h =>
        intro S w1 hwi hSi hd hcl
        apply StepOk.intro
        intro K hK
        have qx3 := hwi.1.k11
        go_simp
        apply hK
        · rfl
        · conv => (lhs; whnf)
        · exact hwi
      simp only [put_lit, put_none, List.set_cons_succ, List.set_cons_zero]
      apply Oblig.cons
      case h =>
        intro S w1 hwi hSi hd hcl
        apply StepOk.intro
        intro K hK
        have qx3 := hwi.1.k11
        go_simp
        apply hK
        · rfl
        · conv => (lhs; whnf)
        · exact hwi
      simp only [put_lit, put_none, List.set_cons_succ, List.set_cons_zero]
      apply Oblig.cons
      case h =>
        intro S w1 hwi hSi hd hcl
        apply StepOk.intro
        intro K hK
        have qx3 := hwi.1.k11
        go_simp
        apply hK
        · rfl
        · conv => (lhs; whnf)
        · exact hwi
      simp only [put_lit, put_none, List.set_cons_succ, List.set_cons_zero]
      apply Oblig.cons
      case h =>
        intro S w1 hwi hSi hd hcl
        apply StepOk.intro
        intro K hK
        have qx3 := hwi.1.k11
        go_simp
        apply hK
        · rfl
        · conv => (lhs; whnf)
        · exact hwi
      simp only [put_lit, put_none, List.set_cons_succ, List.set_cons_zero]
      apply Oblig.cons
      case h =>
        intro S w1 hwi hSi hd hcl
        apply StepOk.intro
        intro K hK
        have qx3 := hwi.1.k11
        go_simp
        apply hK
        · rfl
        · conv => (lhs; whnf)
        · exact hwi
      simp only [put_lit, put_none, List.set_cons_succ, List.set_cons_zero]
      apply Oblig.cons
      case h =>
        intro S w1 hwi hSi hd hcl
        apply StepOk.intro
        intro K hK
        have qx3 := hwi.1.k11
        go_simp
        apply hK
        · rfl
        · conv => (lhs; whnf)
        · exact hwi
      simp only [put_lit, put_none, List.set_cons_succ, List.set_cons_zero]
      apply Oblig.cons
      case h =>
        intro S w1 hwi hSi hd hcl
        apply StepOk.intro
        intro K hK
        have qx3 := hwi.1.k11
        go_simp
        apply hK
        · rfl
        · conv => (lhs; whnf)
        · exact hwi
      simp only [put_lit, put_none, List.set_cons_succ, List.set_cons_zero]
      apply Oblig.cons
      case h =>
        intro S w1 hwi hSi hd hcl
        apply StepOk.intro
        intro K hK
        have qx3 := hwi.1.k11
        go_simp
        refine (show Calls Try.prog 64 #[ptr m, i64 av, i64 saw, i64 (saw - n)] w1 (fun e w2 => e = .returned (.bool false) ∧ MemPost B w1 m a lv (casW W av saw (saw - n)) (L ++ [⟨3, av, saw, saw - n, false⟩]) w2) from by have h := mem_CasN' av saw (saw - n) (hwi.2.1 hSi).1 (by omega) hL; rw [hcb] at h; exact h).mono ?_
        rintro e w2 ⟨rfl, hp⟩
        obtain ⟨lvq, hq1, hq2, hq3⟩ := id hp
        have hblk := hq2.blk hwi.1 (sm_far (hwi.2.1 hSi).1 hwi.1)
        have hpp := hp.before (hwi.2.1 hSi).2
        apply hK
        · rfl
        · conv => (lhs; whnf)
        · exact ⟨hblk, fun h => by simp [upd] at h, fun _ => hpp⟩
      simp only [put_lit, put_none, List.set_cons_succ, List.set_cons_zero]
      apply Oblig.cons
      case h =>
        intro S w1 hwi hSi hd hcl
        apply StepOk.intro
        intro K hK
        have qx3 := hwi.1.k11
        go_simp
        refine (sh_on _ _).mono ?_
        rintro e w2 ⟨rfl, rfl⟩
        apply hK
        · rfl
        · conv => (lhs; whnf)
        · exact hwi
      simp only [put_lit, put_none, List.set_cons_succ, List.set_cons_zero]
      apply Oblig.cons
      case h =>
        intro S w1 hwi hSi hd hcl
        apply StepOk.intro
        intro K hK
        have qx3 := hwi.1.k11
        go_simp
        apply hK
        · rfl
        · conv => (lhs; whnf)
        · exact hwi
      simp only [put_lit, put_none, List.set_cons_succ, List.set_cons_zero]
      exact Oblig.nil
    case h0 =>
      exact ⟨HX.out.drew, fun _ => ⟨HM.out.same (Keep.refl _ _).drew, (Keep.refl _ _).drew⟩, fun h => by cases h⟩
    case hend =>
      intro S wx hwi hall
      obtain ⟨lv1, hm, hk, ho⟩ := hwi.2.2 (hall 18 (by decide))
      have HX1 := hid hwi.1
      have HM1 := hid hm
      have HK1 := hid hk
      have HO1 := hid ho
      clear hwi hall hm hk ho qx
      go_wp2_with fail
      go_ret
      exact shP_of HM1.out HK1.out HO1.out HX1.out (Keep.refl _ _) HX1.out
  · go_enter Try.func47, Try.ntmps47
    go_wp2_with fail
    apply wp_region_text (WI := fun S wx => Blk wx x 85 [i64 li, i64 av, i64 nd, i64 n, i64 saw, .slice (some ⟨sb, 0, none⟩) k k, i64 at_, i64 0, i64 0, .bool false, i64 0] ∧ (S 18 = false → MemAt B wx m a lv W L ∧ Keep0 w wx) ∧ (S 18 = true → MemPost B w m a lv (casW W av saw (saw - n)) (L ++ [⟨3, av, saw, saw - n, true⟩]) wx)) (by kernel_rfl) (by kernel_rfl)
    case hob =>
      apply Oblig.cons
      case h =>
        intro S w1 hwi hSi hd hcl
        apply StepOk.intro
        intro K hK
        have qx3 := hwi.1.k11
        go_simp
        apply hK
        · rfl
        · conv => (lhs; whnf)
        · exact hwi
      simp only [put_lit, put_none, List.set_cons_succ, List.set_cons_zero]
      apply Oblig.cons
      case h =>
        intro S w1 hwi hSi hd hcl
        apply StepOk.intro
        intro K hK
        have qx3 := hwi.1.k11
        go_simp
        apply hK
        · rfl
        · conv => (lhs; whnf)
        · exact hwi
      simp only [put_lit, put_none, List.set_cons_succ, List.set_cons_zero]
      apply Oblig.cons
      case h =>
        intro S w1 hwi hSi hd hcl
        apply StepOk.intro
        intro K hK
        have qx3 := hwi.1.k11
        go_simp
        apply hK
        · rfl
        · conv => (lhs; whnf)
        · exact hwi
      simp only [put_lit, put_none, List.set_cons_succ, List.set_cons_zero]
      apply Oblig.cons
      case h =>
        intro S w1 hwi hSi hd hcl
        apply StepOk.intro
        intro K hK
        have qx3 := hwi.1.k11
        go_simp
        apply hK
        · rfl
        · conv => (lhs; whnf)
        · exact hwi
      simp only [put_lit, put_none, List.set_cons_succ, List.set_cons_zero]
      apply Oblig.cons
      case h =>
        intro S w1 hwi hSi hd hcl
        apply StepOk.intro
        intro K hK
        have qx3 := hwi.1.k11
        go_simp
        apply hK
        · rfl
        · conv => (lhs; whnf)
        · exact hwi
      simp only [put_lit, put_none, List.set_cons_succ, List.set_cons_zero]
      apply Oblig.cons
      case h =>
        intro S w1 hwi hSi hd hcl
        apply StepOk.intro
        intro K hK
        have qx3 := hwi.1.k11
        go_simp
        apply hK
        · rfl
        · conv => (lhs; whnf)
        · exact hwi
      simp only [put_lit, put_none, List.set_cons_succ, List.set_cons_zero]
      apply Oblig.cons
      case h =>
        intro S w1 hwi hSi hd hcl
        apply StepOk.intro
        intro K hK
        have qx3 := hwi.1.k11
        go_simp
        apply hK
        · rfl
        · conv => (lhs; whnf)
        · exact hwi
      simp only [put_lit, put_none, List.set_cons_succ, List.set_cons_zero]
      apply Oblig.cons
      case h =>
        intro S w1 hwi hSi hd hcl
        apply StepOk.intro
        intro K hK
        have qx3 := hwi.1.k11
        go_simp
        apply hK
        · rfl
        · conv => (lhs; whnf)
        · exact hwi
      simp only [put_lit, put_none, List.set_cons_succ, List.set_cons_zero]
      apply Oblig.cons
      case h =>
        intro S w1 hwi hSi hd hcl
        apply StepOk.intro
        intro K hK
        have qx3 := hwi.1.k11
        go_simp
        apply hK
        · rfl
        · conv => (lhs; whnf)
        · exact hwi
      simp only [put_lit, put_none, List.set_cons_succ, List.set_cons_zero]
      apply Oblig.cons
      case h =>
        intro S w1 hwi hSi hd hcl
        apply StepOk.intro
        intro K hK
        have qx3 := hwi.1.k11
        go_simp
        apply hK
        · rfl
        · conv => (lhs; whnf)
        · exact hwi
      simp only [put_lit, put_none, List.set_cons_succ, List.set_cons_zero]
      apply Oblig.cons
      case h =>
        intro S w1 hwi hSi hd hcl
        apply StepOk.intro
        intro K hK
        have qx3 := hwi.1.k11
        go_simp
        apply hK
        · rfl
        · conv => (lhs; whnf)
        · exact hwi
      simp only [put_lit, put_none, List.set_cons_succ, List.set_cons_zero]
      apply Oblig.cons
      case h =>
        intro S w1 hwi hSi hd hcl
        apply StepOk.intro
        intro K hK
        have qx3 := hwi.1.k11
        go_simp
        apply hK
        · rfl
        · conv => (lhs; whnf)
        · exact hwi
      simp only [put_lit, put_none, List.set_cons_succ, List.set_cons_zero]
      apply Oblig.cons
      case h =>
        intro S w1 hwi hSi hd hcl
        apply StepOk.intro
        intro K hK
        have qx3 := hwi.1.k11
        go_simp
        apply hK
        · rfl
        · conv => (lhs; whnf)
        · exact hwi
      simp only [put_lit, put_none, List.set_cons_succ, List.set_cons_zero]
      apply Oblig.cons
      case h =>
        intro S w1 hwi hSi hd hcl
        apply StepOk.intro
        intro K hK
        have qx3 := hwi.1.k11
        go_simp
        apply hK
        · rfl
        · conv => (lhs; whnf)
        · exact hwi
      simp only [put_lit, put_none, List.set_cons_succ, List.set_cons_zero]
      apply Oblig.cons
      case h =>
        intro S w1 hwi hSi hd hcl
        apply StepOk.intro
        intro K hK
        have qx3 := hwi.1.k11
        go_simp
        apply hK
        · rfl
        · conv => (lhs; whnf)
        · exact hwi
      simp only [put_lit, put_none, List.set_cons_succ, List.set_cons_zero]
      apply Oblig.cons
      case h =>
        intro S w1 hwi hSi hd hcl
        apply StepOk.intro
        intro K hK
        have qx3 := hwi.1.k11
        go_simp
        apply hK
        · rfl
        · conv => (lhs; whnf)
        · exact hwi
      simp only [put_lit, put_none, List.set_cons_succ, List.set_cons_zero]
      apply Oblig.cons
      case h =>
        intro S w1 hwi hSi hd hcl
        apply StepOk.intro
        intro K hK
        have qx3 := hwi.1.k11
        go_simp
        apply hK
        · rfl
        · conv => (lhs; whnf)
        · exact hwi
      simp only [put_lit, put_none, List.set_cons_succ, List.set_cons_zero]
      apply Oblig.cons
      case h =>
        intro S w1 hwi hSi hd hcl
        apply StepOk.intro
        intro K hK
        have qx3 := hwi.1.k11
        go_simp
        apply hK
        · rfl
        · conv => (lhs; whnf)
        · exact hwi
      simp only [put_lit, put_none, List.set_cons_succ, List.set_cons_zero]
      apply Oblig.cons
      case h =>
        intro S w1 hwi hSi hd hcl
        apply StepOk.intro
        intro K hK
        have qx3 := hwi.1.k11
        go_simp
        refine (show Calls Try.prog 64 #[ptr m, i64 av, i64 saw, i64 (saw - n)] w1 (fun e w2 => e = .returned (.bool true) ∧ MemPost B w1 m a lv (casW W av saw (saw - n)) (L ++ [⟨3, av, saw, saw - n, true⟩]) w2) from by have h := mem_CasN' av saw (saw - n) (hwi.2.1 hSi).1 (by omega) hL; rw [hcb] at h; exact h).mono ?_
        rintro e w2 ⟨rfl, hp⟩
        obtain ⟨lvq, hq1, hq2, hq3⟩ := id hp
        have hblk := hq2.blk hwi.1 (sm_far (hwi.2.1 hSi).1 hwi.1)
        have hpp := hp.before (hwi.2.1 hSi).2
        apply hK
        · rfl
        · conv => (lhs; whnf)
        · exact ⟨hblk, fun h => by simp [upd] at h, fun _ => hpp⟩
      simp only [put_lit, put_none, List.set_cons_succ, List.set_cons_zero]
      apply Oblig.cons
      case h =>
        intro S w1 hwi hSi hd hcl
        apply StepOk.intro
        intro K hK
        have qx3 := hwi.1.k11
        go_simp
        refine (sh_on _ _).mono ?_
        rintro e w2 ⟨rfl, rfl⟩
        apply hK
        · rfl
        · conv => (lhs; whnf)
        · exact hwi
      simp only [put_lit, put_none, List.set_cons_succ, List.set_cons_zero]
      apply Oblig.cons
      case h =>
        intro S w1 hwi hSi hd hcl
        apply StepOk.intro
        intro K hK
        have qx3 := hwi.1.k11
        go_simp
        apply hK
        · rfl
        · conv => (lhs; whnf)
        · exact hwi
      simp only [put_lit, put_none, List.set_cons_succ, List.set_cons_zero]
      exact Oblig.nil
    case h0 =>
      exact ⟨HX.out.drew, fun _ => ⟨HM.out.same (Keep.refl _ _).drew, (Keep.refl _ _).drew⟩, fun h => by cases h⟩
    case hend =>
      intro S wx hwi hall
      obtain ⟨lv1, hm, hk, ho⟩ := hwi.2.2 (hall 18 (by decide))
      have HX1 := hid hwi.1
      have HM1 := hid hm
      have HK1 := hid hk
      have HO1 := hid ho
      clear hwi hall hm hk ho qx
      go_wp2_with fail
      go_ret
      exact shP_of HM1.out HK1.out HO1.out HX1.out (Keep.refl _ _) HX1.out

set_option maxHeartbeats 2000000 in
theorem sh_height (hm : MemAt B w m a lv W L) (hx : Blk w x 85 (shc li av nd n saw sb k at_ 0 0)) (hli : li < W.length) (hn : 1 ≤ n ∧ n ≤ 1048576) (hL : L.length ≤ 1000000000) :
    Calls Try.prog 43 #[ptr x, ptr m] w (ShP B w m a lv x li av nd n sb k at_ W (L ++ [⟨1, li, rd W li, 0, false⟩]) (rd W li) (if sRef 1 n (rd W li) = true then 6 else 0) 0 (if sRef 1 n (rd W li) = true then 9 else 1)) := by
  have hx1 : Blk w x 85 [i64 li, i64 av, i64 nd, i64 n, i64 saw, .slice (some ⟨sb, 0, none⟩) k k, i64 at_, i64 0, i64 0, .bool false, i64 0] := hx
  have qx := hx1.k11
  have HX := hid hx1
  have HM := hid hm
  have hxm := sm_far hm hx1
  clear hx hx1 hm
  have y1 : IntKind.i64.wrap (1099511627776 - n) = 1099511627776 - n := IntWalk.i64_in _ (by omega)
  by_cases hc : 1099511627776 - n < rd W li
  · rw [show sRef 1 n (rd W li) = true from by simp [sRef, hc]]
    go_enter Try.func43, Try.ntmps43
    go_wp2_with fail
    refine (mem_Load li HM.out (by omega) (by omega) hL).mono ?_
    rintro e w1 ⟨rfl, lv1, hm, hk, ho⟩
    rw [Int.toNat_natCast] at *
    have hb := hk.blk HX.out hxm
    have qx1 := hb.k11
    have HM1 := hid hm
    have HK1 := hid hk
    have HO1 := hid ho
    have HX1 := hid hb
    clear hm hk ho hb qx
    go_wp2_with fail
    have HX2 := hid (show Blk (w1.setCell ⟨x, 4, none⟩ (i64 (rd W li))) x 85 [i64 li, i64 av, i64 nd, i64 n, i64 (rd W li), .slice (some ⟨sb, 0, none⟩) k k, i64 at_, i64 0, i64 0, .bool false, i64 0] from HX1.out.set 4 (i64 (rd W li)))
    have HK2 : Hid (Keep (fun k => k = x) w1 (w1.setCell ⟨x, 4, none⟩ (i64 (rd W li)))) := hid ((Keep.refl _ _).set _ _ (fun _ => rfl))
    clear qx1
    generalize w1.setCell ⟨x, 4, none⟩ (i64 (rd W li)) = w2 at *
    have qx2 := HX2.out.k11
    go_region
    go_wp2_with fail
    go_ret
    exact shP_of HM1.out HK1.out HO1.out HX1.out (HK2.out.trans (by repeat (first | exact Keep.refl _ _ | apply Keep.drew | apply Keep.drewN | (refine Keep.set ?_ _ _ (fun _ => rfl)))) (fun _ _ h => h)) (by first | exact ((((((HX2.out).set 7 _).set 8 _).set 9 _).set 10 _).drew) | exact (((((HX2.out).drew).set 7 _).set 8 _).set 9 _).set 10 _)
  · rw [show sRef 1 n (rd W li) = false from by simp [sRef]; omega]
    go_enter Try.func43, Try.ntmps43
    go_wp2_with fail
    refine (mem_Load li HM.out (by omega) (by omega) hL).mono ?_
    rintro e w1 ⟨rfl, lv1, hm, hk, ho⟩
    rw [Int.toNat_natCast] at *
    have hb := hk.blk HX.out hxm
    have qx1 := hb.k11
    have HM1 := hid hm
    have HK1 := hid hk
    have HO1 := hid ho
    have HX1 := hid hb
    clear hm hk ho hb qx
    go_wp2_with fail
    have HX2 := hid (show Blk (w1.setCell ⟨x, 4, none⟩ (i64 (rd W li))) x 85 [i64 li, i64 av, i64 nd, i64 n, i64 (rd W li), .slice (some ⟨sb, 0, none⟩) k k, i64 at_, i64 0, i64 0, .bool false, i64 0] from HX1.out.set 4 (i64 (rd W li)))
    have HK2 : Hid (Keep (fun k => k = x) w1 (w1.setCell ⟨x, 4, none⟩ (i64 (rd W li)))) := hid ((Keep.refl _ _).set _ _ (fun _ => rfl))
    clear qx1
    generalize w1.setCell ⟨x, 4, none⟩ (i64 (rd W li)) = w2 at *
    have qx2 := HX2.out.k11
    go_region
    go_wp2_with fail
    go_ret
    exact shP_of HM1.out HK1.out HO1.out HX1.out (HK2.out.trans (Keep.refl _ _).drew (fun _ _ h => h)) HX2.out.drew
set_option maxHeartbeats 2000000 in
theorem sh_rest (hm : MemAt B w m a lv W L) (hx : Blk w x 85 (shc li av nd n saw sb k at_ 0 0)) (hav : av < W.length) (hn : 1 ≤ n ∧ n ≤ 1048576) (hL : L.length ≤ 1000000000) :
    Calls Try.prog 46 #[ptr x, ptr m] w (ShP B w m a lv x li av nd n sb k at_ W (L ++ [⟨1, av, rd W av, 0, false⟩]) (rd W av) (if sRef 2 n (rd W av) = true then 4 else 0) (if sRef 2 n (rd W av) = true then nd else 0) (if sRef 2 n (rd W av) = true then 9 else 1)) := by
  have hx1 : Blk w x 85 [i64 li, i64 av, i64 nd, i64 n, i64 saw, .slice (some ⟨sb, 0, none⟩) k k, i64 at_, i64 0, i64 0, .bool false, i64 0] := hx
  have qx := hx1.k11
  have HX := hid hx1
  have HM := hid hm
  have hxm := sm_far hm hx1
  clear hx hx1 hm
  by_cases hc : rd W av < n
  · rw [show sRef 2 n (rd W av) = true from by simp [sRef, hc]]
    go_enter Try.func46, Try.ntmps46
    go_wp2_with fail
    refine (mem_Load av HM.out (by omega) (by omega) hL).mono ?_
    rintro e w1 ⟨rfl, lv1, hm, hk, ho⟩
    rw [Int.toNat_natCast] at *
    have hb := hk.blk HX.out hxm
    have qx1 := hb.k11
    have HM1 := hid hm
    have HK1 := hid hk
    have HO1 := hid ho
    have HX1 := hid hb
    clear hm hk ho hb qx
    go_wp2_with fail
    have HX2 := hid (show Blk (w1.setCell ⟨x, 4, none⟩ (i64 (rd W av))) x 85 [i64 li, i64 av, i64 nd, i64 n, i64 (rd W av), .slice (some ⟨sb, 0, none⟩) k k, i64 at_, i64 0, i64 0, .bool false, i64 0] from HX1.out.set 4 (i64 (rd W av)))
    have HK2 : Hid (Keep (fun k => k = x) w1 (w1.setCell ⟨x, 4, none⟩ (i64 (rd W av)))) := hid ((Keep.refl _ _).set _ _ (fun _ => rfl))
    clear qx1
    generalize w1.setCell ⟨x, 4, none⟩ (i64 (rd W av)) = w2 at *
    have qx2 := HX2.out.k11
    go_region
    go_wp2_with fail
    go_ret
    exact shP_of HM1.out HK1.out HO1.out HX1.out (HK2.out.trans (by repeat (first | exact Keep.refl _ _ | apply Keep.drew | apply Keep.drewN | (refine Keep.set ?_ _ _ (fun _ => rfl)))) (fun _ _ h => h)) (by first | exact ((((((HX2.out).set 7 _).set 8 _).set 9 _).set 10 _).drew) | exact (((((HX2.out).drew).set 7 _).set 8 _).set 9 _).set 10 _)
  · rw [show sRef 2 n (rd W av) = false from by simp [sRef]; omega]
    go_enter Try.func46, Try.ntmps46
    go_wp2_with fail
    refine (mem_Load av HM.out (by omega) (by omega) hL).mono ?_
    rintro e w1 ⟨rfl, lv1, hm, hk, ho⟩
    rw [Int.toNat_natCast] at *
    have hb := hk.blk HX.out hxm
    have qx1 := hb.k11
    have HM1 := hid hm
    have HK1 := hid hk
    have HO1 := hid ho
    have HX1 := hid hb
    clear hm hk ho hb qx
    go_wp2_with fail
    have HX2 := hid (show Blk (w1.setCell ⟨x, 4, none⟩ (i64 (rd W av))) x 85 [i64 li, i64 av, i64 nd, i64 n, i64 (rd W av), .slice (some ⟨sb, 0, none⟩) k k, i64 at_, i64 0, i64 0, .bool false, i64 0] from HX1.out.set 4 (i64 (rd W av)))
    have HK2 : Hid (Keep (fun k => k = x) w1 (w1.setCell ⟨x, 4, none⟩ (i64 (rd W av)))) := hid ((Keep.refl _ _).set _ _ (fun _ => rfl))
    clear qx1
    generalize w1.setCell ⟨x, 4, none⟩ (i64 (rd W av)) = w2 at *
    have qx2 := HX2.out.k11
    go_region
    go_wp2_with fail
    go_ret
    exact shP_of HM1.out HK1.out HO1.out HX1.out (HK2.out.trans (Keep.refl _ _).drew (fun _ _ h => h)) HX2.out.drew
end
end Go.Proofs.Ytonekdolmbdniaa
