/- package shift: Step, the machines, and a machine that is played. -/
import Derived.Test.YtonekdolmbdniaaShift
namespace Go.Proofs.Ytonekdolmbdniaa
open Go.RowKit
set_option linter.unusedVariables false
set_option linter.unusedSimpArgs false
set_option maxRecDepth 100000
section
variable {B : Nat} {w : World} {m a x : Nat} {lv : Value} {li av sb k : Nat} {nd n saw ae an : Int} {W : List Int} {L : List Acc}
theorem ss_far {cs : List Value} (hm : MemAt B w m a lv W L) (hx : Blk w sb 90 cs) : ¬ MF m a lv sb := by
  rintro (h | h | h)
  · exact hx.ne hm.mem (by decide) h
  · exact hx.ne hm.words (by decide) h
  · exact ownBlock_ne hm.log hx (by decide) h.symm
set_option maxHeartbeats 2000000 in
theorem sh_Step (F : FuncId) (cs : List Value) (i : Nat) (at' saw' ae' an' rv : Int) (W' : List Int) (L' : List Acc) (hm : MemAt B w m a lv W L) (hx : Blk w x 85 (shc li av nd n saw sb k i ae an)) (ht : Blk w sb 90 cs)
    (hcl : cs.length = k) (hik : i < k) (hk10 : k ≤ 10) (hc : cs[i]? = some (.func (.func F) #[] #[])) (hF : ∀ (args : Array Value) (w : World), (callFunc F args).run Try.prog w = .ok (.enter F args) w)
    (hS : ∀ w1, MemAt B w1 m a lv W L → Blk w1 x 85 (shc li av nd n saw sb k i ae an) → Calls Try.prog F #[ptr x, ptr m] w1 (ShP B w1 m a lv x li av nd n sb k i W' L' saw' ae' an' rv)) (hat : at' = i + rv) (hrv : -10 ≤ rv ∧ rv ≤ 20) :
    Calls Try.prog 23 #[ptr x, ptr m] w fun e w' => e = .returned (.bool (decide ((k : Int) ≤ at'))) ∧ ∃ lv', MemAt B w' m a lv' W' L' ∧ Blk w' x 85 (shc li av nd n saw' sb k at' ae' an') ∧ Keep (fun k => MF m a lv k ∨ k = x) w w' ∧ (∀ k, lv'.ownBlock = some k → lv.ownBlock = some k ∨ w.heap.size ≤ k) ∧ Blk w' sb 90 cs := by
  have hx1 : Blk w x 85 [i64 li, i64 av, i64 nd, i64 n, i64 saw, .slice (some ⟨sb, 0, none⟩) k k, i64 i, i64 ae, i64 0, .bool false, i64 an] := hx
  have qx := hx1.k11
  have HX := hid hx1
  have HM := hid hm
  have HT := hid ht
  have HS := hid hS
  have g1 : (i : Int) < k := by omega
  have y1 : IntKind.i64.wrap ((i : Int) + rv) = at' := by rw [hat]; exact IntWalk.i64_in _ (by omega)
  have htz := ht.lt
  clear hx hx1 hm ht hS hcl hat
  go_enter Try.func23, Try.ntmps23
  go_wp2_with fail
  go_region
  go_wp2_with fail
  have HX := hid (HX.out.drew)
  have HT := hid (HT.out.drew)
  apply wp_region_text (WI := fun S wx => Blk wx sb 90 cs ∧ Blk wx x 85 [i64 li, i64 av, i64 nd, i64 n, i64 (if S 16 = true then saw' else saw), .slice (some ⟨sb, 0, none⟩) k k, i64 (if S 20 = true then at' else (i : Int)), i64 (if S 16 = true then ae' else ae), i64 0, .bool false, i64 (if S 16 = true then an' else an)] ∧ (S 16 = false → MemAt B wx m a lv W L ∧ Keep0 w wx) ∧ (S 16 = true → ∃ lv', MemAt B wx m a lv' W' L' ∧ Keep (fun k => MF m a lv k ∨ k = x) w wx ∧ (∀ k, lv'.ownBlock = some k → lv.ownBlock = some k ∨ w.heap.size ≤ k))) (by kernel_rfl) (by kernel_rfl)
  case hob =>
    apply Oblig.cons
    case h =>
      intro S w1 hwi hSi hd hcl
      apply StepOk.intro
      intro K hK
      have s20 : S 20 = false := by
        cases h20 : S 20 with
        | false => rfl
        | true => exact absurd (hcl 20 _ rfl h20 ⟨0, .phase⟩ (by simp) rfl) (by rw [hSi]; decide)
      have cst := (hwi.1.cell i).trans hc
      have qx3 := hwi.2.1
      rw [s20, if_neg Bool.false_ne_true] at qx3
      have qx4 := qx3.k11
      go_simp
      apply hK
      · rfl
      · conv => (lhs; whnf)
      · exact hwi
    simp only [put_lit, put_none, List.set_cons_succ, List.set_cons_zero]
    apply Oblig.cons
    case h =>
      intro S w1 hwi hSi hd hcl
      apply StepOk.intro
      intro K hK
      have s20 : S 20 = false := by
        cases h20 : S 20 with
        | false => rfl
        | true => exact absurd (hcl 20 _ rfl h20 ⟨1, .phase⟩ (by simp) rfl) (by rw [hSi]; decide)
      have cst := (hwi.1.cell i).trans hc
      have qx3 := hwi.2.1
      rw [s20, if_neg Bool.false_ne_true] at qx3
      have qx4 := qx3.k11
      go_simp
      apply hK
      · rfl
      · conv => (lhs; whnf)
      · exact hwi
    simp only [put_lit, put_none, List.set_cons_succ, List.set_cons_zero]
    apply Oblig.cons
    case h =>
      intro S w1 hwi hSi hd hcl
      apply StepOk.intro
      intro K hK
      have s20 : S 20 = false := by
        cases h20 : S 20 with
        | false => rfl
        | true => exact absurd (hcl 20 _ rfl h20 ⟨2, .phase⟩ (by simp) rfl) (by rw [hSi]; decide)
      have cst := (hwi.1.cell i).trans hc
      have qx3 := hwi.2.1
      rw [s20, if_neg Bool.false_ne_true] at qx3
      have qx4 := qx3.k11
      go_simp
      apply hK
      · rfl
      · conv => (lhs; whnf)
      · exact hwi
    simp only [put_lit, put_none, List.set_cons_succ, List.set_cons_zero]
    apply Oblig.cons
    case h =>
      intro S w1 hwi hSi hd hcl
      apply StepOk.intro
      intro K hK
      have s20 : S 20 = false := by
        cases h20 : S 20 with
        | false => rfl
        | true => exact absurd (hcl 20 _ rfl h20 ⟨3, .phase⟩ (by simp) rfl) (by rw [hSi]; decide)
      have cst := (hwi.1.cell i).trans hc
      have qx3 := hwi.2.1
      rw [s20, if_neg Bool.false_ne_true] at qx3
      have qx4 := qx3.k11
      go_simp
      apply hK
      · rfl
      · conv => (lhs; whnf)
      · exact hwi
    simp only [put_lit, put_none, List.set_cons_succ, List.set_cons_zero]
    apply Oblig.cons
    case h =>
      intro S w1 hwi hSi hd hcl
      apply StepOk.intro
      intro K hK
      have s20 : S 20 = false := by
        cases h20 : S 20 with
        | false => rfl
        | true => exact absurd (hcl 20 _ rfl h20 ⟨4, .phase⟩ (by simp) rfl) (by rw [hSi]; decide)
      have cst := (hwi.1.cell i).trans hc
      have qx3 := hwi.2.1
      rw [s20, if_neg Bool.false_ne_true] at qx3
      have qx4 := qx3.k11
      go_simp
      apply hK
      · rfl
      · conv => (lhs; whnf)
      · exact hwi
    simp only [put_lit, put_none, List.set_cons_succ, List.set_cons_zero]
    apply Oblig.cons
    case h =>
      intro S w1 hwi hSi hd hcl
      apply StepOk.intro
      intro K hK
      have s20 : S 20 = false := by
        cases h20 : S 20 with
        | false => rfl
        | true => exact absurd (hcl 20 _ rfl h20 ⟨5, .phase⟩ (by simp) rfl) (by rw [hSi]; decide)
      have cst := (hwi.1.cell i).trans hc
      have qx3 := hwi.2.1
      rw [s20, if_neg Bool.false_ne_true] at qx3
      have qx4 := qx3.k11
      go_simp
      apply hK
      · rfl
      · conv => (lhs; whnf)
      · exact hwi
    simp only [put_lit, put_none, List.set_cons_succ, List.set_cons_zero]
    apply Oblig.cons
    case h =>
      intro S w1 hwi hSi hd hcl
      apply StepOk.intro
      intro K hK
      have s20 : S 20 = false := by
        cases h20 : S 20 with
        | false => rfl
        | true => exact absurd (hcl 20 _ rfl h20 ⟨6, .phase⟩ (by simp) rfl) (by rw [hSi]; decide)
      have cst := (hwi.1.cell i).trans hc
      have qx3 := hwi.2.1
      rw [s20, if_neg Bool.false_ne_true] at qx3
      have qx4 := qx3.k11
      go_simp
      apply hK
      · rfl
      · conv => (lhs; whnf)
      · exact hwi
    simp only [put_lit, put_none, List.set_cons_succ, List.set_cons_zero]
    apply Oblig.cons
    case h =>
      intro S w1 hwi hSi hd hcl
      apply StepOk.intro
      intro K hK
      have s20 : S 20 = false := by
        cases h20 : S 20 with
        | false => rfl
        | true => exact absurd (hcl 20 _ rfl h20 ⟨7, .phase⟩ (by simp) rfl) (by rw [hSi]; decide)
      have cst := (hwi.1.cell i).trans hc
      have qx3 := hwi.2.1
      rw [s20, if_neg Bool.false_ne_true] at qx3
      have qx4 := qx3.k11
      go_simp
      apply hK
      · rfl
      · conv => (lhs; whnf)
      · exact hwi
    simp only [put_lit, put_none, List.set_cons_succ, List.set_cons_zero]
    apply Oblig.cons
    case h =>
      intro S w1 hwi hSi hd hcl
      apply StepOk.intro
      intro K hK
      have s20 : S 20 = false := by
        cases h20 : S 20 with
        | false => rfl
        | true => exact absurd (hcl 20 _ rfl h20 ⟨8, .phase⟩ (by simp) rfl) (by rw [hSi]; decide)
      have cst := (hwi.1.cell i).trans hc
      have qx3 := hwi.2.1
      rw [s20, if_neg Bool.false_ne_true] at qx3
      have qx4 := qx3.k11
      go_simp
      apply hK
      · rfl
      · conv => (lhs; whnf)
      · exact hwi
    simp only [put_lit, put_none, List.set_cons_succ, List.set_cons_zero]
    apply Oblig.cons
    case h =>
      intro S w1 hwi hSi hd hcl
      apply StepOk.intro
      intro K hK
      have s20 : S 20 = false := by
        cases h20 : S 20 with
        | false => rfl
        | true => exact absurd (hcl 20 _ rfl h20 ⟨9, .phase⟩ (by simp) rfl) (by rw [hSi]; decide)
      have cst := (hwi.1.cell i).trans hc
      have qx3 := hwi.2.1
      rw [s20, if_neg Bool.false_ne_true] at qx3
      have qx4 := qx3.k11
      go_simp
      apply hK
      · rfl
      · conv => (lhs; whnf)
      · exact hwi
    simp only [put_lit, put_none, List.set_cons_succ, List.set_cons_zero]
    apply Oblig.cons
    case h =>
      intro S w1 hwi hSi hd hcl
      apply StepOk.intro
      intro K hK
      have s20 : S 20 = false := by
        cases h20 : S 20 with
        | false => rfl
        | true => exact absurd (hcl 20 _ rfl h20 ⟨10, .phase⟩ (by simp) rfl) (by rw [hSi]; decide)
      have cst := (hwi.1.cell i).trans hc
      have qx3 := hwi.2.1
      rw [s20, if_neg Bool.false_ne_true] at qx3
      have qx4 := qx3.k11
      go_simp
      apply hK
      · rfl
      · conv => (lhs; whnf)
      · exact hwi
    simp only [put_lit, put_none, List.set_cons_succ, List.set_cons_zero]
    apply Oblig.cons
    case h =>
      intro S w1 hwi hSi hd hcl
      apply StepOk.intro
      intro K hK
      have s20 : S 20 = false := by
        cases h20 : S 20 with
        | false => rfl
        | true => exact absurd (hcl 20 _ rfl h20 ⟨11, .phase⟩ (by simp) rfl) (by rw [hSi]; decide)
      have cst := (hwi.1.cell i).trans hc
      have qx3 := hwi.2.1
      rw [s20, if_neg Bool.false_ne_true] at qx3
      have qx4 := qx3.k11
      go_simp
      apply hK
      · rfl
      · conv => (lhs; whnf)
      · exact hwi
    simp only [put_lit, put_none, List.set_cons_succ, List.set_cons_zero]
    apply Oblig.cons
    case h =>
      intro S w1 hwi hSi hd hcl
      apply StepOk.intro
      intro K hK
      have s20 : S 20 = false := by
        cases h20 : S 20 with
        | false => rfl
        | true => exact absurd (hcl 20 _ rfl h20 ⟨12, .phase⟩ (by simp) rfl) (by rw [hSi]; decide)
      have cst := (hwi.1.cell i).trans hc
      have qx3 := hwi.2.1
      rw [s20, if_neg Bool.false_ne_true] at qx3
      have qx4 := qx3.k11
      go_simp
      apply hK
      · rfl
      · conv => (lhs; whnf)
      · exact hwi
    simp only [put_lit, put_none, List.set_cons_succ, List.set_cons_zero]
    apply Oblig.cons
    case h =>
      intro S w1 hwi hSi hd hcl
      apply StepOk.intro
      intro K hK
      have s20 : S 20 = false := by
        cases h20 : S 20 with
        | false => rfl
        | true => exact absurd (hcl 20 _ rfl h20 ⟨13, .phase⟩ (by simp) rfl) (by rw [hSi]; decide)
      have cst := (hwi.1.cell i).trans hc
      have qx3 := hwi.2.1
      rw [s20, if_neg Bool.false_ne_true] at qx3
      have qx4 := qx3.k11
      go_simp
      apply hK
      · rfl
      · conv => (lhs; whnf)
      · exact hwi
    simp only [put_lit, put_none, List.set_cons_succ, List.set_cons_zero]
    apply Oblig.cons
    case h =>
      intro S w1 hwi hSi hd hcl
      apply StepOk.intro
      intro K hK
      have s20 : S 20 = false := by
        cases h20 : S 20 with
        | false => rfl
        | true => exact absurd (hcl 20 _ rfl h20 ⟨14, .phase⟩ (by simp) rfl) (by rw [hSi]; decide)
      have cst := (hwi.1.cell i).trans hc
      have qx3 := hwi.2.1
      rw [s20, if_neg Bool.false_ne_true] at qx3
      have qx4 := qx3.k11
      go_simp
      apply hK
      · rfl
      · conv => (lhs; whnf)
      · exact hwi
    simp only [put_lit, put_none, List.set_cons_succ, List.set_cons_zero]
    apply Oblig.cons
    case h =>
      intro S w1 hwi hSi hd hcl
      apply StepOk.intro
      intro K hK
      have s20 : S 20 = false := by
        cases h20 : S 20 with
        | false => rfl
        | true => exact absurd (hcl 20 _ rfl h20 ⟨15, .phase⟩ (by simp) rfl) (by rw [hSi]; decide)
      have cst := (hwi.1.cell i).trans hc
      have qx3 := hwi.2.1
      rw [s20, if_neg Bool.false_ne_true] at qx3
      have qx4 := qx3.k11
      go_simp
      apply hK
      · rfl
      · conv => (lhs; whnf)
      · exact hwi
    simp only [put_lit, put_none, List.set_cons_succ, List.set_cons_zero]
    apply Oblig.cons
    case h =>
      intro S w1 hwi hSi hd hcl
      apply StepOk.intro
      intro K hK
      have s20 : S 20 = false := by
        cases h20 : S 20 with
        | false => rfl
        | true => exact absurd (hcl 20 _ rfl h20 ⟨16, .phase⟩ (by simp) rfl) (by rw [hSi]; decide)
      have cst := (hwi.1.cell i).trans hc
      have qx3 := hwi.2.1
      rw [s20, if_neg Bool.false_ne_true] at qx3
      have qx4 := qx3.k11
      go_simp
      refine (HS.out w1 (hwi.2.2.1 hSi).1 (by have h := hwi.2.1; rw [s20, hSi] at h; exact h)).mono ?_
      rintro e w2 ⟨rfl, lvq, hq1, hq2, hq3, hq4⟩
      have hst := hq3.blk hwi.1 (by
        rintro (h | h)
        · exact ss_far (hwi.2.2.1 hSi).1 hwi.1 h
        · exact hwi.1.ne hwi.2.1 (by decide) h)
      have hbx : Blk w2 x 85 [i64 li, i64 av, i64 nd, i64 n, i64 saw', .slice (some ⟨sb, 0, none⟩) k k, i64 (if S 20 = true then at' else (i : Int)), i64 ae', i64 0, .bool false, i64 an'] := by rw [s20]; exact hq2
      have hk02 := (hwi.2.2.1 hSi).2
      apply hK
      · rfl
      · conv => (lhs; whnf)
      · exact ⟨hst, hbx, fun h => by simp [upd] at h, fun _ => ⟨lvq, hq1, (hk02.mono (fun _ h => h.elim)).trans hq3 (fun _ _ h => h), fun k hk => (hq4 k hk).imp id (fun h => Nat.le_trans hk02.size h)⟩⟩
    simp only [put_lit, put_none, List.set_cons_succ, List.set_cons_zero]
    apply Oblig.cons
    case h =>
      intro S w1 hwi hSi hd hcl
      apply StepOk.intro
      intro K hK
      have s20 : S 20 = false := by
        cases h20 : S 20 with
        | false => rfl
        | true => exact absurd (hcl 20 _ rfl h20 ⟨17, .phase⟩ (by simp) rfl) (by rw [hSi]; decide)
      have cst := (hwi.1.cell i).trans hc
      have qx3 := hwi.2.1
      rw [s20, if_neg Bool.false_ne_true] at qx3
      have qx4 := qx3.k11
      go_simp
      apply hK
      · rfl
      · conv => (lhs; whnf)
      · exact hwi
    simp only [put_lit, put_none, List.set_cons_succ, List.set_cons_zero]
    apply Oblig.cons
    case h =>
      intro S w1 hwi hSi hd hcl
      apply StepOk.intro
      intro K hK
      go_simp
      apply hK
      · rfl
      · conv => (lhs; whnf)
      · exact hwi
    simp only [put_lit, put_none, List.set_cons_succ, List.set_cons_zero]
    apply Oblig.cons
    case h =>
      intro S w1 hwi hSi hd hcl
      apply StepOk.intro
      intro K hK
      go_simp
      apply hK
      · rfl
      · conv => (lhs; whnf)
      · exact hwi
    simp only [put_lit, put_none, List.set_cons_succ, List.set_cons_zero]
    apply Oblig.cons
    case h =>
      intro S w1 hwi hSi hd hcl
      apply StepOk.intro
      intro K hK
      have s16 : S 16 = true := hd ⟨16, .chain⟩ (by simp) rfl
      have qx4 := hwi.2.1.k11
      go_simp
      have hks : Keep (fun k => k = x) w1 (w1.setCell ⟨x, 6, none⟩ (i64 at')) := (Keep.refl _ _).set _ _ (fun _ => rfl)
      obtain ⟨lvq, hq1, hq3, hq4⟩ := hwi.2.2.2 s16
      apply hK
      · rfl
      · conv => (lhs; whnf)
      · exact ⟨hks.blk hwi.1 (fun h => hwi.1.ne hwi.2.1 (by decide) h), hwi.2.1.set 6 (i64 at'), fun h => absurd (show S 16 = false from h) (by rw [s16]; decide), fun _ => ⟨lvq, hq1.keep hks (fun k h e => sm_far hq1 hwi.2.1 (by have e' : k = x := e; exact e' ▸ h)), hq3.trans (hks.mono (fun _ h => Or.inr h)) (fun _ _ h => h), hq4⟩⟩
    simp only [put_lit, put_none, List.set_cons_succ, List.set_cons_zero]
    exact Oblig.nil
  case h0 =>
    exact ⟨HT.out.drew, HX.out.drew, fun _ => ⟨HM.out.same (Keep.refl _ _).drew.drew, (Keep.refl _ _).drew.drew⟩, fun h => by cases h⟩
  case hend =>
    intro S wx hwi hall
    obtain ⟨hw1, hw2, -, hw4⟩ := hwi
    obtain ⟨lv1, hm1, hk1, ho1⟩ := hw4 (hall 16 (by decide))
    rw [hall 16 (by decide), hall 20 (by decide)] at hw2
    have HX1 := hid (show Blk wx x 85 (shc li av nd n saw' sb k at' ae' an') from hw2)
    have qx1 := (show Blk wx x 85 [i64 li, i64 av, i64 nd, i64 n, i64 saw', .slice (some ⟨sb, 0, none⟩) k k, i64 at', i64 ae', i64 0, .bool false, i64 an'] from hw2).k11
    have HM1 := hid hm1
    have HK1 := hid hk1
    have HO1 := hid ho1
    have HT1 := hid hw1
    clear hw1 hw2 hw4 hm1 hk1 ho1 qx hall
    go_wp2_with fail
    go_region
    go_wp2_with fail
    go_ret
    exact ⟨rfl, lv1, HM1.out.same (Keep.refl _ _).drew, HX1.out.drew, (HK1.out.trans ((Keep.refl (fun k => MF m a lv k ∨ k = x) _).drew) (fun _ _ h => h)), HO1.out, HT1.out.drew⟩
end
end Go.Proofs.Ytonekdolmbdniaa
