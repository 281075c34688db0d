/- breadlineref11: next, Step, Ans, Word. -/
import Derived.Test.YtjloccnbcgkmgaaRefTen
import Derived.Test.YtjloccnbcgkmgaaRefOps
import Derived.Test.YtjloccnbcgkmgaaRefFive
import Derived.Test.YtjloccnbcgkmgaaRegion
import Derived.Deep.QuietTactic
import Derived.BigQuiet
namespace Go.Proofs.Ytjloccnbcgkmgaa
open Go.RowKit
set_option linter.unusedVariables false
set_option linter.unusedSimpArgs false
set_option maxRecDepth 100000
/-- within a region: what holds ahead of its last operation, and behind it -/
def CEnd (last : Nat) (P Q : World → Prop) (S : Nat → Bool) (wx : World) : Prop := (S last = false → P wx) ∧ (S last = true → Q wx)
theorem CEnd.fixed {last : Nat} {P Q : World → Prop} {S : Nat → Bool} {wx : World} {i : Nat} (h : CEnd last P Q S wx) (hi : i ≠ last) : CEnd last P Q (upd S i) wx := by
  unfold CEnd
  rw [show upd S i last = S last from by simp [upd, Ne.symm hi]]
  exact h
theorem CEnd.done {last : Nat} {P Q : World → Prop} {S : Nat → Bool} {wx : World} (h : Q wx) : CEnd last P Q (upd S last) wx := by
  unfold CEnd
  rw [show upd S last last = true from by simp [upd]]
  exact ⟨(fun h => by cases h), fun _ => h⟩
section
variable {B : Nat} {w : World} {m y : Nat} {A : Option Addr} {ca : Nat} {lv : Value} {W : List Int} {L : List Acc} {tt sr g lm r : Int} {K s : Nat} {PA : Option Addr} {pn pc : Nat} {LA : Option Addr} {ln lc : Nat}
theorem r11_far {cs : List Value} (hm : RefAt B w m A ca lv W L) (hy : Blk w y 91 cs) : ¬ (y = m ∨ lv.ownBlock = some y) := by
  rintro (h | h)
  · exact hy.ne hm.mem (by decide) h
  · exact ownBlock_ne hm.log hy (by decide) h.symm
theorem r11_far2 {cs : List Value} (hm : RefAt B w m A ca lv W L) (hy : Blk w y 91 cs) (c : Nat) (hb : RF m A lv c) : c ≠ y := by
  rintro rfl
  rcases hb with h | h | h
  · exact hy.ne hm.mem (by decide) h
  · exact ownBlock_ne hm.words hy (by decide) ((own_any _ _ _ _ _).trans h).symm
  · exact ownBlock_ne hm.log hy (by decide) h.symm
set_option maxHeartbeats 1000000 in
theorem r11_next (j : Nat) (sn : Bool) (saw : Int) (hy : Blk w y 91 [i64 tt, i64 sr, i64 g, i64 lm, i64 r, i64 (K : Int), .slice PA pn pc, .slice LA ln lc, i64 (s : Int), i64 (j : Int), .bool sn, i64 saw, i64 0, .bool false, i64 0, i64 0, .bool false, i64 0]) (hj : j ≤ 1000) :
    Calls Try.prog 69 #[ptr y] w fun e w' => e = .returned (.tuple #[]) ∧ Keep (fun k => k = y) w w' ∧ Blk w' y 91 [i64 tt, i64 sr, i64 g, i64 lm, i64 r, i64 (K : Int), .slice PA pn pc, .slice LA ln lc, i64 (s : Int), i64 ((j + 1 : Nat) : Int), .bool false, i64 saw, i64 0, .bool (decide (j + 1 = K)), i64 (if j + 1 = K then 3 else 0), i64 0, .bool false, i64 0] := by
  have qy := hy.k18
  have HY := hid hy
  have y1 : IntKind.i64.wrap ((j : Int) + 1) = (j : Int) + 1 := IntWalk.i64_in _ (by omega)
  have y2 : ((j + 1 : Nat) : Int) = (j : Int) + 1 := by push_cast; rfl
  rw [y2]
  clear hy y2
  by_cases hl : j + 1 = K
  · rw [decide_eq_true hl, if_pos hl]
    have y3 : (((j : Int) + 1) == (K : Int)) = true := by simp; omega
    clear hl
    go_enter Try.func69, Try.ntmps69
    go_wp2_with fail
    have h := (HY.out.set 9 (i64 ((j : Int) + 1))).set 10 (.bool false)
    simp only [List.set_cons_succ, List.set_cons_zero] at h
    have HY2 := hid h
    have HK2 : Hid (Keep (fun k => k = y) w _) := hid (((Keep.refl (fun k => k = y) w).set ⟨y, 9, none⟩ (i64 ((j : Int) + 1)) (fun _ => rfl)).set ⟨y, 10, none⟩ (.bool false) (fun _ => rfl))
    clear h qy
    generalize (w.setCell ⟨y, 9, none⟩ (i64 ((j : Int) + 1))).setCell ⟨y, 10, none⟩ (.bool false) = w2 at *
    have qy2 := HY2.out.k18
    go_quiet (fail)
    go_wp2_with fail
    have h := (((((HY2.out.drewN nq).set 14 (i64 3)).set 15 (i64 0)).set 16 (.bool false)).set 17 (i64 0)).set 13 (.bool true)
    simp only [List.set_cons_succ, List.set_cons_zero] at h
    go_end0
    refine ⟨rfl, HK2.out.trans (show Keep (fun k => k = y) w2 _ from ?_) (fun _ _ h => h), h⟩
    repeat (with_reducible first | exact (Keep.refl _ _).drewN _ | refine Keep.set ?_ _ _ (fun _ => rfl))
  · rw [decide_eq_false hl, if_neg hl]
    have y3 : (((j : Int) + 1) == (K : Int)) = false := by simp; omega
    clear hl
    go_enter Try.func69, Try.ntmps69
    go_wp2_with fail
    have h := (HY.out.set 9 (i64 ((j : Int) + 1))).set 10 (.bool false)
    simp only [List.set_cons_succ, List.set_cons_zero] at h
    have HY2 := hid h
    have HK2 : Hid (Keep (fun k => k = y) w _) := hid (((Keep.refl (fun k => k = y) w).set ⟨y, 9, none⟩ (i64 ((j : Int) + 1)) (fun _ => rfl)).set ⟨y, 10, none⟩ (.bool false) (fun _ => rfl))
    clear h qy
    generalize (w.setCell ⟨y, 9, none⟩ (i64 ((j : Int) + 1))).setCell ⟨y, 10, none⟩ (.bool false) = w2 at *
    have qy2 := HY2.out.k18
    go_quiet (fail)
    go_wp2_with fail
    go_end0
    exact ⟨rfl, HK2.out.drewN _, HY2.out.drewN _⟩
end
end Go.Proofs.Ytjloccnbcgkmgaa
