/- Contracts and plain laws for UsageWay, part 6: what the walk of the law leans on. -/
import Derived.Deep.RegionLaw
import Derived.Deep.QuietTactic
import Derived.BigQuiet
import Derived.Deep.DeepCutAuto
import Derived.RangeFuncNested
import Derived.RangeFuncBound
import Derived.RangeFuncCalls
import Derived.RangeFuncLeaves
import Derived.Shelf.Abstract
import Derived.Shelf.RegionOpen
import Derived.WalkKit
import Derived.OwnWalkIn
import Derived.TacticsInMore
import Derived.LoopNIn
import Derived.LoopIn
import Derived.Maps.AppendAt
import Derived.OrdersIn
import Derived.TacticsIn
import Derived.Test.YthaceckccobgeaaGreatZUsageWay3
import Derived.Test.YthaceckccobgeaaGreatZUsageWay4
import Derived.Test.YthaceckccobgeaaGreatZUsageWay5
namespace Go.Proofs.YthaceckccobgeaaGreat
open Go.RowKit
set_option linter.unusedVariables false
set_option linter.unusedSimpArgs false
set_option maxHeartbeats 400000 in
theorem ref_Limit (t s g l r k : Int) (PA : Option Addr) (pn pc : Nat) (LA : Option Addr) (ln lc : Nat) (v : Int) (w : World) (hs0 : 1 ≤ s) (hs1 : s ≤ 8) (h0 : 0 ≤ v) (h1 : v ≤ 1000) :
 Calls Tryz.prog 16 #[.agg #[i64 t, i64 s, i64 g, i64 l, i64 r, i64 k, .slice PA pn pc, .slice LA ln lc], i64 v] w (Ret (i64 (v * (6 + 2 * s))) w) := by
 have hm := mul_bd 1000 22 h0 h1 (show 0 ≤ 6 + 2 * s by omega) (by omega)
 go_enter Tryz.func16, Tryz.ntmps16
 go_wp2_with fail
 go_ret
 exact ⟨rfl, by repeat (with_reducible first | exact Keep.refl _ _ | apply Keep.alloc | apply Keep.drewN | apply Keep.drew)⟩
set_option maxHeartbeats 400000 in
theorem ref_Avail (t s g l r k : Int) (PA : Option Addr) (pn pc : Nat) (LA : Option Addr) (ln lc : Nat) (v : Int) (w : World) (hs0 : 1 ≤ s) (hs1 : s ≤ 8) (h0 : 0 ≤ v) (h1 : v ≤ 1000) :
 Calls Tryz.prog 54 #[.agg #[i64 t, i64 s, i64 g, i64 l, i64 r, i64 k, .slice PA pn pc, .slice LA ln lc], i64 v] w (Ret (i64 (v * (6 + 2 * s) + 1)) w) := by
 have hm := mul_bd 1000 22 h0 h1 (show 0 ≤ 6 + 2 * s by omega) (by omega)
 go_enter Tryz.func54, Tryz.ntmps54
 go_wp2_with fail
 refine (ref_Limit t s g l r k PA pn pc LA ln lc v _ hs0 hs1 h0 h1).mono ?_
 rintro e w1 ⟨rfl, hk1⟩
 have HK1 : Hid (Keep0 w w1) := hid (Keep0.step (by repeat (with_reducible first | exact Keep.refl _ _ | apply Keep.alloc | apply Keep.drewN | apply Keep.drew)) hk1)
 clear hk1
 go_wp2_with fail
 go_ret
 exact ⟨rfl, by repeat (with_reducible first | exact Keep.refl _ _ | exact HK1.out | apply Keep.alloc | apply Keep.drewN | apply Keep.drew)⟩
set_option maxHeartbeats 400000 in
theorem ref_Lease (t s g l r k : Int) (PA : Option Addr) (pn pc : Nat) (LA : Option Addr) (ln lc : Nat) (v u : Int) (w : World) (hs0 : 1 ≤ s) (hs1 : s ≤ 8) (h0 : 0 ≤ v) (h1 : v ≤ 1000) (hu0 : 0 ≤ u) (hu1 : u ≤ 1000) :
 Calls Tryz.prog 90 #[.agg #[i64 t, i64 s, i64 g, i64 l, i64 r, i64 k, .slice PA pn pc, .slice LA ln lc], i64 v, i64 u] w (Ret (i64 (v * (6 + 2 * s) + 2 + u)) w) := by
 have hm := mul_bd 1000 22 h0 h1 (show 0 ≤ 6 + 2 * s by omega) (by omega)
 go_enter Tryz.func90, Tryz.ntmps90
 go_wp2_with fail
 refine (ref_Limit t s g l r k PA pn pc LA ln lc v _ hs0 hs1 h0 h1).mono ?_
 rintro e w1 ⟨rfl, hk1⟩
 have HK1 : Hid (Keep0 w w1) := hid (Keep0.step (by repeat (with_reducible first | exact Keep.refl _ _ | apply Keep.alloc | apply Keep.drewN | apply Keep.drew)) hk1)
 clear hk1
 go_wp2_with fail
 go_ret
 exact ⟨rfl, by repeat (with_reducible first | exact Keep.refl _ _ | exact HK1.out | apply Keep.alloc | apply Keep.drewN | apply Keep.drew)⟩
set_option maxHeartbeats 1000000 in
theorem ref_Counter (t s g l r k : Int) (PA : Option Addr) (pn pc : Nat) (LA : Option Addr) (ln lc : Nat) (v : Int) (w : World) (hs0 : 1 ≤ s) (hs1 : s ≤ 8) (h0 : 0 ≤ v) (h1 : v ≤ 1000) :
 Calls Tryz.prog 27 #[.agg #[i64 t, i64 s, i64 g, i64 l, i64 r, i64 k, .slice PA pn pc, .slice LA ln lc], i64 v] w (Ret (i64 (v * (6 + 2 * s) + 2 + s)) w) := by
 have hm := mul_bd 1000 22 h0 h1 (show 0 ≤ 6 + 2 * s by omega) (by omega)
 have y1 : IntKind.i64.wrap (v * (6 + 2 * s) + 2) = v * (6 + 2 * s) + 2 := IntWalk.i64_in _ (by omega)
 have y2 : IntKind.i64.wrap (v * (6 + 2 * s) + 2 + s) = v * (6 + 2 * s) + 2 + s := IntWalk.i64_in _ (by omega)
 have HB : Hid (Blk (w.alloc (.cells #[i64 t, i64 s, i64 g, i64 l, i64 r, i64 k, .slice PA pn pc, .slice LA ln lc] 24)) w.heap.size 24 [i64 t, i64 s, i64 g, i64 l, i64 r, i64 k, .slice PA pn pc, .slice LA ln lc]) := hid (Blk.made rfl rfl)
 have HK : Hid (Keep0 w (w.alloc (.cells #[i64 t, i64 s, i64 g, i64 l, i64 r, i64 k, .slice PA pn pc, .slice LA ln lc] 24))) := hid ((Keep.refl _ _).alloc _)
 go_enter Tryz.func27, Tryz.ntmps27
 go_wp2_with fail
 go_region_law (go_simp; go_at_call 16; refine (ref_Limit t s g l r k PA pn pc LA ln lc v _ hs0 hs1 h0 h1).mono ?_; rintro e w1 ⟨rfl, hk⟩; have T := hk.blk (show Blk _ _ _ _ from by repeat (first | exact HB.out | apply Blk.drew)) (fun h => h); have q := T.k8; have HK1 := hid (Keep0.step (by repeat (first | exact HK.out | apply Keep.drew)) hk); clear T hk)
 all_goals
  go_wp2_with fail
  go_ret
  exact ⟨rfl, HK1.out⟩
set_option maxHeartbeats 1000000 in
theorem ref_Ticket (t s g l r k : Int) (PA : Option Addr) (pn pc : Nat) (LA : Option Addr) (ln lc : Nat) (v : Int) (w : World) (hs0 : 1 ≤ s) (hs1 : s ≤ 8) (h0 : 0 ≤ v) (h1 : v ≤ 1000) (hp : pn ≤ 1000) :
 Calls Tryz.prog 47 #[.agg #[i64 t, i64 s, i64 g, i64 l, i64 r, i64 k, .slice PA pn pc, .slice LA ln lc], i64 v] w (Ret (i64 (pn * (6 + 2 * s) + 2 * v)) w) := by
 have hm := mul_bd 1000 22 (show (0 : Int) ≤ pn by omega) (by omega) (show 0 ≤ 6 + 2 * s by omega) (by omega)
 have y1 : IntKind.i64.wrap (2 * v) = 2 * v := IntWalk.i64_in _ (by omega)
 have y2 : IntKind.i64.wrap (pn * (6 + 2 * s) + 2 * v) = pn * (6 + 2 * s) + 2 * v := IntWalk.i64_in _ (by omega)
 go_enter Tryz.func47, Tryz.ntmps47
 go_wp2_with fail
 refine (ref_Limit t s g l r k PA pn pc LA ln lc pn _ hs0 hs1 (by omega) (by omega)).mono ?_
 rintro e w1 ⟨rfl, hk⟩
 have HK1 : Hid (Keep0 w w1) := hid (Keep0.step (by repeat (with_reducible first | exact Keep.refl _ _ | apply Keep.alloc | apply Keep.drewN | apply Keep.drew)) hk)
 clear hk
 go_wp2_with fail
 go_ret
 exact ⟨rfl, HK1.out⟩
set_option maxHeartbeats 400000 in
theorem ref_Size (t s g l r k : Int) (PA : Option Addr) (pn pc : Nat) (LA : Option Addr) (ln lc : Nat) (w : World) (hs0 : 1 ≤ s) (hs1 : s ≤ 8) (hk0 : 0 ≤ k) (hk1 : k ≤ 1000) (hp : pn ≤ 1000) :
 Calls Tryz.prog 84 #[.agg #[i64 t, i64 s, i64 g, i64 l, i64 r, i64 k, .slice PA pn pc, .slice LA ln lc]] w (Ret (i64 (pn * (6 + 2 * s) + 2 * k)) w) := by
 go_enter Tryz.func84, Tryz.ntmps84
 go_wp2_with fail
 refine (ref_Ticket t s g l r k PA pn pc LA ln lc k _ hs0 hs1 hk0 hk1 hp).mono ?_
 rintro e w1 ⟨rfl, hk1⟩
 have HK1 : Hid (Keep0 w w1) := hid (Keep0.step (by repeat (with_reducible first | exact Keep.refl _ _ | apply Keep.alloc | apply Keep.drewN | apply Keep.drew)) hk1)
 clear hk1
 go_wp2_with fail
 go_ret
 exact ⟨rfl, by repeat (with_reducible first | exact Keep.refl _ _ | exact HK1.out | apply Keep.alloc | apply Keep.drewN | apply Keep.drew)⟩
end Go.Proofs.YthaceckccobgeaaGreat

namespace Go.Proofs.YthaceckccobgeaaGreat
open Go.RowKit
set_option linter.unusedVariables false
set_option linter.unusedSimpArgs false
set_option maxRecDepth 100000
def CEnd (last : Nat) (P Q : World → Prop) (S : Nat → Bool) (wx : World) : Prop := (S last = false → P wx) ∧ (S last = true → Q wx)
theorem CEnd.fixed {last : Nat} {P Q : World → Prop} {S : Nat → Bool} {wx : World} {i : Nat} (h : CEnd last P Q S wx) (hi : i ≠ last) : CEnd last P Q (upd S i) wx := by
 unfold CEnd
 rw [show upd S i last = S last from by simp [upd, Ne.symm hi]]
 exact h
theorem CEnd.done {last : Nat} {P Q : World → Prop} {S : Nat → Bool} {wx : World} (h : Q wx) : CEnd last P Q (upd S last) wx := by
 unfold CEnd
 rw [show upd S last last = true from by simp [upd]]
 exact ⟨(fun h => by cases h), fun _ => h⟩
section
variable {B : Nat} {w : World} {m y : Nat} {A : Option Addr} {ca : Nat} {lv : Value} {W : List Int} {L : List Acc} {tt sr g lm r : Int} {K s : Nat} {PA : Option Addr} {pn pc : Nat} {LA : Option Addr} {ln lc : Nat}
theorem r11_far {cs : List Value} (hm : RefAt B w m A ca lv W L) (hy : Blk w y 120 cs) : ¬ (y = m ∨ lv.ownBlock = some y) := by
 rintro (h | h)
 · exact hy.ne hm.mem (by decide) h
 · exact ownBlock_ne hm.log hy (by decide) h.symm
theorem r11_far2 {cs : List Value} (hm : RefAt B w m A ca lv W L) (hy : Blk w y 120 cs) (c : Nat) (hb : RF m A lv c) : c ≠ y := by
 rintro rfl
 rcases hb with h | h | h
 · exact hy.ne hm.mem (by decide) h
 · exact ownBlock_ne hm.words hy (by decide) ((own_any _ _ _ _ _).trans h).symm
 · exact ownBlock_ne hm.log hy (by decide) h.symm
set_option maxHeartbeats 1000000 in
theorem r11_next (j : Nat) (sn : Bool) (saw : Int) (hy : Blk w y 120 [i64 tt, i64 sr, i64 g, i64 lm, i64 r, i64 (K : Int), .slice PA pn pc, .slice LA ln lc, i64 (s : Int), i64 (j : Int), .bool sn, i64 saw, i64 0, .bool false, i64 0, i64 0, .bool false, i64 0]) (hj : j ≤ 1000) :
 Calls Tryz.prog 87 #[ptr y] w fun e w' => e = .returned (.tuple #[]) ∧ Keep (fun k => k = y) w w' ∧ Blk w' y 120 [i64 tt, i64 sr, i64 g, i64 lm, i64 r, i64 (K : Int), .slice PA pn pc, .slice LA ln lc, i64 (s : Int), i64 ((j + 1 : Nat) : Int), .bool false, i64 saw, i64 0, .bool (decide (j + 1 = K)), i64 (if j + 1 = K then 3 else 0), i64 0, .bool false, i64 0] := by
 have qy := hy.k18
 have HY := hid hy
 have y1 : IntKind.i64.wrap ((j : Int) + 1) = (j : Int) + 1 := IntWalk.i64_in _ (by omega)
 have y2 : ((j + 1 : Nat) : Int) = (j : Int) + 1 := by push_cast; rfl
 rw [y2]
 clear hy y2
 by_cases hl : j + 1 = K
 · rw [decide_eq_true hl, if_pos hl]
   have y3 : (((j : Int) + 1) == (K : Int)) = true := by simp; omega
   clear hl
   go_enter Tryz.func87, Tryz.ntmps87
   go_wp2_with fail
   have h := (HY.out.set 9 (i64 ((j : Int) + 1))).set 10 (.bool false)
   simp only [List.set_cons_succ, List.set_cons_zero] at h
   have HY2 := hid h
   have HK2 : Hid (Keep (fun k => k = y) w _) := hid (((Keep.refl (fun k => k = y) w).set ⟨y, 9, none⟩ (i64 ((j : Int) + 1)) (fun _ => rfl)).set ⟨y, 10, none⟩ (.bool false) (fun _ => rfl))
   clear h qy
   generalize (w.setCell ⟨y, 9, none⟩ (i64 ((j : Int) + 1))).setCell ⟨y, 10, none⟩ (.bool false) = w2 at *
   have qy2 := HY2.out.k18
   go_quiet (fail)
   go_wp2_with fail
   have h := (((((HY2.out.drewN nq).set 14 (i64 3)).set 15 (i64 0)).set 16 (.bool false)).set 17 (i64 0)).set 13 (.bool true)
   simp only [List.set_cons_succ, List.set_cons_zero] at h
   go_end0
   refine ⟨rfl, HK2.out.trans (show Keep (fun k => k = y) w2 _ from ?_) (fun _ _ h => h), h⟩
   repeat (with_reducible first | exact (Keep.refl _ _).drewN _ | refine Keep.set ?_ _ _ (fun _ => rfl))
 · rw [decide_eq_false hl, if_neg hl]
   have y3 : (((j : Int) + 1) == (K : Int)) = false := by simp; omega
   clear hl
   go_enter Tryz.func87, Tryz.ntmps87
   go_wp2_with fail
   have h := (HY.out.set 9 (i64 ((j : Int) + 1))).set 10 (.bool false)
   simp only [List.set_cons_succ, List.set_cons_zero] at h
   have HY2 := hid h
   have HK2 : Hid (Keep (fun k => k = y) w _) := hid (((Keep.refl (fun k => k = y) w).set ⟨y, 9, none⟩ (i64 ((j : Int) + 1)) (fun _ => rfl)).set ⟨y, 10, none⟩ (.bool false) (fun _ => rfl))
   clear h qy
   generalize (w.setCell ⟨y, 9, none⟩ (i64 ((j : Int) + 1))).setCell ⟨y, 10, none⟩ (.bool false) = w2 at *
   have qy2 := HY2.out.k18
   go_quiet (fail)
   go_wp2_with fail
   go_end0
   exact ⟨rfl, HK2.out.drewN _, HY2.out.drewN _⟩
end
end Go.Proofs.YthaceckccobgeaaGreat

namespace Go.Proofs.YthaceckccobgeaaGreat
open Go.RowKit
set_option linter.unusedVariables false
set_option linter.unusedSimpArgs false
set_option maxRecDepth 100000
structure CC where
 tt : Int
 sr : Int
 g : Int
 lm : Int
 r : Int
 PA : Option Addr
 pn : Nat
 pc : Nat
 LA : Option Addr
 ln : Nat
 lc : Nat
structure COk (C : CC) (K q c : Nat) : Prop where
 hq : (q : Int) = C.pn * (6 + 2 * C.sr)
 hs : 1 ≤ C.sr ∧ C.sr ≤ 8
 hp : C.pn ≤ 1000
 hc : K ≤ c
end Go.Proofs.YthaceckccobgeaaGreat

namespace Go.Proofs.YthaceckccobgeaaGreat
open Go.RowKit
set_option linter.unusedVariables false
set_option linter.unusedSimpArgs false
set_option maxRecDepth 100000
section
variable {B : Nat} {w w' : World} {m a x : Nat} {lv : Value} {C : CC} {K s q gl c : Nat} {t : CS}
def clAns (t : CS) : Value := .agg #[i64 (if t.fin = 2 then 3 else 0), i64 (t.n : Int), .bool false, i64 0]
variable {W : List Int} {L : List Acc}
theorem keep_far11 {S : Nat → Prop} {w w1 w2 : World} (h : Keep0 w w1) (hk : Keep S w1 w2) (hS : ∀ k, S k → w.heap.size ≤ k) : Keep0 w w2 :=
 (h.trans (S := fun _ => False) hk (fun k hkk hs => by have := hS k hs; omega))
end
end Go.Proofs.YthaceckccobgeaaGreat

namespace Go.Proofs.YthaceckccobgeaaGreat
open Go.RowKit
set_option linter.unusedVariables false
set_option linter.unusedSimpArgs false
set_option maxRecDepth 100000
section
variable {B : Nat} {w : World} {m y : Nat} {A : Option Addr} {ca : Nat} {lv : Value} {W : List Int} {L : List Acc} {tt sr g lm r : Int} {K s : Nat} {PA : Option Addr} {pn pc : Nat} {LA : Option Addr} {ln lc : Nat}
theorem CEnd.mid {last i : Nat} {P Q : World → Prop} {S : Nat → Bool} {wx : World} (hl : S last = false) (hi : i ≠ last) (h : P wx) : CEnd last P Q (upd S i) wx := by
 unfold CEnd
 rw [show upd S i last = S last from by simp [upd, Ne.symm hi], hl]
 exact ⟨fun _ => h, fun h => by cases h⟩
def R11P (B : Nat) (w : World) (m y : Nat) (A : Option Addr) (lv : Value) (cells : List Value) (W' : List Int) (L' : List Acc) (w' : World) : Prop :=
 ∃ A' c' lv', RefAt B w' m A' c' lv' W' L' ∧ Blk w' y 120 cells ∧ Keep (fun c => (c = m ∨ lv.ownBlock = some c) ∨ c = y) w w' ∧
  (∀ c, (Value.slice A' 0 0).ownBlock = some c → (Value.slice A 0 0).ownBlock = some c ∨ w.heap.size ≤ c) ∧ (∀ c, lv'.ownBlock = some c → lv.ownBlock = some c ∨ w.heap.size ≤ c)
theorem r11_out {w2 w3 : World} {W' : List Int} {L' : List Acc} {c0 cells : List Value} (h : RefPost B w m A lv W' L' w2) (hy : Blk w2 y 120 c0) (hk : Keep (fun k => k = y) w2 w3) (hb : Blk w3 y 120 cells) : R11P B w m y A lv cells W' L' w3 := by
 obtain ⟨A3, c3, lv3, hm, hkk, ha, hl⟩ := h
 exact ⟨A3, c3, lv3, hm.keep hk (fun c h => r11_far2 hm hy c h), hb, (hkk.mono (fun _ h => Or.inl h)).trans hk (fun _ _ h => Or.inr h), ha, hl⟩
set_option maxHeartbeats 1000000 in
theorem r11_step_end {cj : Int} {sn : Bool} {saw st er na : Int} (hy : Blk w y 120 [i64 tt, i64 sr, i64 g, i64 lm, i64 r, i64 (K : Int), .slice PA pn pc, .slice LA ln lc, i64 (s : Int), i64 cj, .bool sn, i64 saw, i64 st, .bool true, i64 er, i64 na, .bool false, i64 0]) :
 Calls Tryz.prog 49 #[ptr y, ptr m] w fun e w' => e = .returned (.bool true) ∧ w = w' := by
 have qy := hy.k18
 clear hy
 go_enter Tryz.func49, Tryz.ntmps49
 go_wp2_with fail
 go_ret
 exact ⟨rfl, rfl⟩
set_option maxHeartbeats 2000000 in
theorem r11_look_free (wi j : Nat) (saw : Int) (hm : RefAt B w m A ca lv W L) (hy : Blk w y 120 [i64 tt, i64 sr, i64 g, i64 lm, i64 r, i64 (K : Int), .slice PA pn pc, .slice LA ln lc, i64 (s : Int), i64 (j : Int), .bool false, i64 saw, i64 0, .bool false, i64 0, i64 0, .bool false, i64 0]) (hj : j < K) (hK : K ≤ 16) (hs : s ≤ 1000000) (hi : wi < W.length) (hL : L.length ≤ 1000000000)
 (hq : st10 (rd W wi) = 0) (hp : ∀ w', Calls Tryz.prog 47 #[.agg #[i64 tt, i64 sr, i64 g, i64 lm, i64 r, i64 (K : Int), .slice PA pn pc, .slice LA ln lc], i64 ((ck K s j : Nat) : Int)] w' (Ret (i64 (wi : Int)) w')) :
 Calls Tryz.prog 49 #[ptr y, ptr m] w fun e w' => e = .returned (.bool false) ∧
  R11P B w m y A lv [i64 tt, i64 sr, i64 g, i64 lm, i64 r, i64 (K : Int), .slice PA pn pc, .slice LA ln lc, i64 (s : Int), i64 (j : Int), .bool true, i64 (rd W wi), i64 0, .bool false, i64 0, i64 0, .bool false, i64 0] W (L ++ [⟨1, (wi : Nat), rd W wi, 0, false⟩]) w' := by
 have qy := hy.k18
 have HY := hid hy
 have HM := hid hm
 have HP := hid hp
 have HFY := hid (r11_far hm hy)
 have y0 : ¬ (K : Int) = 0 := by omega
 have y1 : IntKind.i64.wrap ((s : Int) + (j : Int)) = (s : Int) + (j : Int) := IntWalk.i64_in _ (by omega)
 have y2 : ((s : Int) + (j : Int)).tmod (K : Int) = ((ck K s j : Nat) : Int) := by
  rw [Int.tmod_eq_emod_of_nonneg (by omega)]; rfl
 generalize ck K s j = k at *
 clear hy hm hp
 go_enter Tryz.func49, Tryz.ntmps49
 go_wp2_with fail
 go_quiet (fail)
 have HK1 : Hid (Keep0 w (w.drewN nq)) := hid ((Keep.refl _ _).drewN nq)
 have HY1 := hid (HY.out.drewN nq)
 have HM1 := hid (HM.out.keep HK1.out (fun _ _ h => h))
 clear qy
 generalize w.drewN nq = w1 at *
 have qy1 := HY1.out.k18
 go_wp2_with fail
 refine (HP.out _).mono ?_
 rintro e w2 ⟨rfl, hk⟩
 have HK2 := hid (HK1.out.trans hk (fun _ _ h => h))
 have HY2 := hid (hk.blk HY1.out (fun h => h))
 have HM2 := hid (HM1.out.keep hk (fun _ _ h => h))
 clear hk qy1 HK1 HY1 HM1
 have qy2 := HY2.out.k18
 go_wp2_with fail
 refine (ref_Load (wi : Int) HM2.out (by omega) (by omega) hL).mono ?_
 rintro e w3 ⟨rfl, hpo⟩
 rw [Int.toNat_natCast] at *
 have HP3 := hid (hpo.before HK2.out)
 have HY3 := hid (hpo.choose_spec.choose_spec.choose_spec.2.1.blk HY2.out (r11_far HM2.out HY2.out))
 clear hpo qy2
 have qy3 := HY3.out.k18
 go_wp2_with fail
 have h := (HY3.out.set 11 (i64 (rd W wi))).set 10 (.bool true)
 simp only [List.set_cons_succ, List.set_cons_zero] at h
 have HY4 := hid h
 have HK4 : Hid (Keep (fun k => k = y) w3 _) := hid (((Keep.refl (fun k => k = y) w3).set ⟨y, 11, none⟩ (i64 (rd W wi)) (fun _ => rfl)).set ⟨y, 10, none⟩ (.bool true) (fun _ => rfl))
 clear h qy3
 generalize (w3.setCell ⟨y, 11, none⟩ (i64 (rd W wi))).setCell ⟨y, 10, none⟩ (.bool true) = w4 at *
 have qy4 := HY4.out.k18
 refine (ref10_State (rd W wi) _).mono ?_
 rintro e w5 ⟨rfl, rfl⟩
 rw [hq]
 go_wp2_with fail
 go_ret
 exact ⟨rfl, r11_out HP3.out HY3.out HK4.out HY4.out⟩
set_option maxHeartbeats 2000000 in
theorem r11_look_next (wi j : Nat) (saw : Int) (hm : RefAt B w m A ca lv W L) (hy : Blk w y 120 [i64 tt, i64 sr, i64 g, i64 lm, i64 r, i64 (K : Int), .slice PA pn pc, .slice LA ln lc, i64 (s : Int), i64 (j : Int), .bool false, i64 saw, i64 0, .bool false, i64 0, i64 0, .bool false, i64 0]) (hj : j < K) (hK : K ≤ 16) (hs : s ≤ 1000000) (hi : wi < W.length) (hL : L.length ≤ 1000000000)
 (hq : ¬ st10 (rd W wi) = 0) (hp : ∀ w', Calls Tryz.prog 47 #[.agg #[i64 tt, i64 sr, i64 g, i64 lm, i64 r, i64 (K : Int), .slice PA pn pc, .slice LA ln lc], i64 ((ck K s j : Nat) : Int)] w' (Ret (i64 (wi : Int)) w')) :
 Calls Tryz.prog 49 #[ptr y, ptr m] w fun e w' => e = .returned (.bool (decide (j + 1 = K))) ∧
  R11P B w m y A lv [i64 tt, i64 sr, i64 g, i64 lm, i64 r, i64 (K : Int), .slice PA pn pc, .slice LA ln lc, i64 (s : Int), i64 ((j + 1 : Nat) : Int), .bool false, i64 (rd W wi), i64 0, .bool (decide (j + 1 = K)), i64 (if j + 1 = K then 3 else 0), i64 0, .bool false, i64 0] W (L ++ [⟨1, (wi : Nat), rd W wi, 0, false⟩]) w' := by
 have HN := hid (fun (w2 : World) (hb : Blk w2 y 120 [i64 tt, i64 sr, i64 g, i64 lm, i64 r, i64 (K : Int), .slice PA pn pc, .slice LA ln lc, i64 (s : Int), i64 (j : Int), .bool true, i64 (rd W wi), i64 0, .bool false, i64 0, i64 0, .bool false, i64 0]) => r11_next j true (rd W wi) hb (by omega))
 generalize decide (j + 1 = K) = bn at *
 generalize (if j + 1 = K then (3 : Int) else 0) = er at *
 generalize ((j + 1 : Nat) : Int) = nj at *
 have qy := hy.k18
 have HY := hid hy
 have HM := hid hm
 have HP := hid hp
 have HFY := hid (r11_far hm hy)
 have y0 : ¬ (K : Int) = 0 := by omega
 have y1 : IntKind.i64.wrap ((s : Int) + (j : Int)) = (s : Int) + (j : Int) := IntWalk.i64_in _ (by omega)
 have y2 : ((s : Int) + (j : Int)).tmod (K : Int) = ((ck K s j : Nat) : Int) := by
  rw [Int.tmod_eq_emod_of_nonneg (by omega)]; rfl
 generalize ck K s j = k at *
 clear hy hm hp
 go_enter Tryz.func49, Tryz.ntmps49
 go_wp2_with fail
 go_quiet (fail)
 have HK1 : Hid (Keep0 w (w.drewN nq)) := hid ((Keep.refl _ _).drewN nq)
 have HY1 := hid (HY.out.drewN nq)
 have HM1 := hid (HM.out.keep HK1.out (fun _ _ h => h))
 clear qy
 generalize w.drewN nq = w1 at *
 have qy1 := HY1.out.k18
 go_wp2_with fail
 refine (HP.out _).mono ?_
 rintro e w2 ⟨rfl, hk⟩
 have HK2 := hid (HK1.out.trans hk (fun _ _ h => h))
 have HY2 := hid (hk.blk HY1.out (fun h => h))
 have HM2 := hid (HM1.out.keep hk (fun _ _ h => h))
 clear hk qy1 HK1 HY1 HM1
 have qy2 := HY2.out.k18
 go_wp2_with fail
 refine (ref_Load (wi : Int) HM2.out (by omega) (by omega) hL).mono ?_
 rintro e w3 ⟨rfl, hpo⟩
 rw [Int.toNat_natCast] at *
 have HP3 := hid (hpo.before HK2.out)
 have HY3 := hid (hpo.choose_spec.choose_spec.choose_spec.2.1.blk HY2.out (r11_far HM2.out HY2.out))
 clear hpo qy2
 have qy3 := HY3.out.k18
 go_wp2_with fail
 have h := (HY3.out.set 11 (i64 (rd W wi))).set 10 (.bool true)
 simp only [List.set_cons_succ, List.set_cons_zero] at h
 have HY4 := hid h
 have HK4 : Hid (Keep (fun k => k = y) w3 _) := hid (((Keep.refl (fun k => k = y) w3).set ⟨y, 11, none⟩ (i64 (rd W wi)) (fun _ => rfl)).set ⟨y, 10, none⟩ (.bool true) (fun _ => rfl))
 clear h qy3
 generalize (w3.setCell ⟨y, 11, none⟩ (i64 (rd W wi))).setCell ⟨y, 10, none⟩ (.bool true) = w4 at *
 have qy4 := HY4.out.k18
 refine (ref10_State (rd W wi) _).mono ?_
 rintro e w5 ⟨rfl, rfl⟩
 generalize st10 (rd W wi) = sv at *
 have y : (sv != 0) = true := by simpa using hq
 clear hq
 go_wp2_with fail
 refine (HN.out _ HY4.out).mono ?_
 rintro e w5 ⟨rfl, hk, hb⟩
 have HK5 := hid hk
 have HY5 := hid hb
 have qy5 := hb.k18
 clear hk hb qy4
 go_wp2_with fail
 go_ret
 exact ⟨rfl, r11_out HP3.out HY3.out (HK4.out.trans HK5.out (fun _ _ h => h)) HY5.out⟩
set_option maxHeartbeats 2000000 in
theorem r11_take_yes (wi j : Nat) (saw : Int) (hm : RefAt B w m A ca lv W L) (hy : Blk w y 120 [i64 tt, i64 sr, i64 g, i64 lm, i64 r, i64 (K : Int), .slice PA pn pc, .slice LA ln lc, i64 (s : Int), i64 (j : Int), .bool true, i64 saw, i64 0, .bool false, i64 0, i64 0, .bool false, i64 0]) (hj : j < K) (hK : K ≤ 16) (hs : s ≤ 1000000) (hi : wi < W.length) (hW : W.length ≤ 1000000) (hL : L.length ≤ 1000000000)
 (hq : (rd W wi == saw) = true) (hp : ∀ w', Calls Tryz.prog 47 #[.agg #[i64 tt, i64 sr, i64 g, i64 lm, i64 r, i64 (K : Int), .slice PA pn pc, .slice LA ln lc], i64 ((ck K s j : Nat) : Int)] w' (Ret (i64 (wi : Int)) w')) :
 Calls Tryz.prog 49 #[ptr y, ptr m] w fun e w' => e = .returned (.bool true) ∧
  R11P B w m y A lv [i64 tt, i64 sr, i64 g, i64 lm, i64 r, i64 (K : Int), .slice PA pn pc, .slice LA ln lc, i64 (s : Int), i64 (j : Int), .bool true, i64 saw, i64 (pNext6 saw 1), .bool true, i64 0, i64 ((ck K s j : Nat) : Int), .bool false, i64 0] (casW W wi saw (pNext6 saw 1)) (L ++ [⟨3, (wi : Nat), saw, pNext6 saw 1, true⟩]) w' := by
 have HT := hid (fun w0 => ref10_Turn saw w0)
 generalize pNext6 saw 1 = nv at *
 have qy := hy.k18
 have HY := hid hy
 have HM := hid hm
 have HP := hid hp
 have HFY := hid (r11_far hm hy)
 have y0 : ¬ (K : Int) = 0 := by omega
 have y1 : IntKind.i64.wrap ((s : Int) + (j : Int)) = (s : Int) + (j : Int) := IntWalk.i64_in _ (by omega)
 have y2 : ((s : Int) + (j : Int)).tmod (K : Int) = ((ck K s j : Nat) : Int) := by
  rw [Int.tmod_eq_emod_of_nonneg (by omega)]; rfl
 generalize ck K s j = k at *
 clear hy hm hp
 go_enter Tryz.func49, Tryz.ntmps49
 go_wp2_with fail
 go_quiet (fail)
 have HK1 : Hid (Keep0 w (w.drewN nq)) := hid ((Keep.refl _ _).drewN nq)
 have HY1 := hid (HY.out.drewN nq)
 have HM1 := hid (HM.out.keep HK1.out (fun _ _ h => h))
 clear qy
 generalize w.drewN nq = w1 at *
 have qy1 := HY1.out.k18
 go_wp2_with fail
 refine (HT.out _).mono ?_
 rintro e w2 ⟨rfl, rfl⟩
 go_wp2_with fail
 apply wp_region_text (WI := CEnd 12 (fun wx => Blk wx y 120 [i64 tt, i64 sr, i64 g, i64 lm, i64 r, i64 (K : Int), .slice PA pn pc, .slice LA ln lc, i64 (s : Int), i64 (j : Int), .bool true, i64 saw, i64 0, .bool false, i64 0, i64 0, .bool false, i64 0] ∧ RefAt B wx m A ca lv W L ∧ Keep0 w wx) (fun wx => Blk wx y 120 [i64 tt, i64 sr, i64 g, i64 lm, i64 r, i64 (K : Int), .slice PA pn pc, .slice LA ln lc, i64 (s : Int), i64 (j : Int), .bool true, i64 saw, i64 0, .bool false, i64 0, i64 0, .bool false, i64 0] ∧ RefPost B w m A lv (casW W wi saw (nv)) (L ++ [⟨3, (wi : Nat), saw, nv, true⟩]) wx)) (by kernel_rfl) (by kernel_rfl)
 case hob =>
  iterate 4
   apply Oblig.cons
   case h =>
    intro S w1 hwi hSi hd hcl
    apply StepOk.intro
    intro K hK
    go_simp
    apply hK
    · rfl
    · conv => (lhs; whnf)
    · exact hwi.fixed (by decide)
   simp only [put_lit, put_none]
   try dsimp only [List.set_cons_succ, List.set_cons_zero]
  apply Oblig.cons
  case h =>
   intro S w1 hwi hSi hd hcl
   apply StepOk.intro
   intro K hK
   have hlast : S 12 = false := by
    cases h : S 12 with
    | false => rfl
    | true =>
     have h0 := (hcl 12 _ rfl h) ⟨6, .data⟩ (by simp) rfl
     have h1 := (hcl 6 _ rfl h0) ⟨4, .data⟩ (by simp) rfl
     rw [hSi] at h1
     cases h1
   have qyq := (hwi.1 hlast).1.k18
   go_simp
   apply hK
   · rfl
   · conv => (lhs; whnf)
   · exact hwi.fixed (by decide)
  simp only [put_lit, put_none]
  try dsimp only [List.set_cons_succ, List.set_cons_zero]
  apply Oblig.cons
  case h =>
   intro S w1 hwi hSi hd hcl
   apply StepOk.intro
   intro K hK
   go_simp
   apply hK
   · rfl
   · conv => (lhs; whnf)
   · exact hwi.fixed (by decide)
  simp only [put_lit, put_none]
  try dsimp only [List.set_cons_succ, List.set_cons_zero]
  apply Oblig.cons
  case h =>
   intro S w1 hwi hSi hd hcl
   apply StepOk.intro
   intro K hK
   have hlast : S 12 = false := by
    cases h : S 12 with
    | false => rfl
    | true => exact absurd ((hcl 12 _ rfl h) ⟨6, .data⟩ (by simp) rfl) (by rw [hSi]; decide)
   have hwp := hwi.1 hlast
   go_simp
   refine (HP.out _).mono ?_
   rintro e w2 ⟨rfl, hk⟩
   apply hK
   · rfl
   · conv => (lhs; whnf)
   · exact CEnd.mid hlast (by decide) ⟨hk.blk hwp.1 (fun h => h), hwp.2.1.keep hk (fun _ _ h => h), hwp.2.2.trans hk (fun _ _ h => h)⟩
  simp only [put_lit, put_none]
  try dsimp only [List.set_cons_succ, List.set_cons_zero]
  iterate 3
   apply Oblig.cons
   case h =>
    intro S w1 hwi hSi hd hcl
    apply StepOk.intro
    intro K hK
    go_simp
    apply hK
    · rfl
    · conv => (lhs; whnf)
    · exact hwi.fixed (by decide)
   simp only [put_lit, put_none]
   try dsimp only [List.set_cons_succ, List.set_cons_zero]
  apply Oblig.cons
  case h =>
   intro S w1 hwi hSi hd hcl
   apply StepOk.intro
   intro K hK
   have hlast : S 12 = false := by
    cases h : S 12 with
    | false => rfl
    | true => exact absurd ((hcl 12 _ rfl h) ⟨10, .data⟩ (by simp) rfl) (by rw [hSi]; decide)
   have qyq := (hwi.1 hlast).1.k18
   go_simp
   apply hK
   · rfl
   · conv => (lhs; whnf)
   · exact hwi.fixed (by decide)
  simp only [put_lit, put_none]
  try dsimp only [List.set_cons_succ, List.set_cons_zero]
  apply Oblig.cons
  case h =>
   intro S w1 hwi hSi hd hcl
   apply StepOk.intro
   intro K hK
   go_simp
   apply hK
   · rfl
   · conv => (lhs; whnf)
   · exact hwi.fixed (by decide)
  simp only [put_lit, put_none]
  try dsimp only [List.set_cons_succ, List.set_cons_zero]
  apply Oblig.cons
  case h =>
   intro S w1 hwi hSi hd hcl
   apply StepOk.intro
   intro K hK
   have hwp := hwi.1 hSi
   go_simp
   refine (ref_Cas (wi : Int) saw (nv) hwp.2.1 (by omega) (by omega) hW hL).mono ?_
   rintro e w2 ⟨rfl, hpo⟩
   rw [Int.toNat_natCast] at *
   rw [hq] at *
   apply hK
   · rfl
   · conv => (lhs; whnf)
   · exact CEnd.done ⟨hpo.choose_spec.choose_spec.choose_spec.2.1.blk hwp.1 (r11_far hwp.2.1 hwp.1), hpo.before hwp.2.2⟩
  simp only [put_lit, put_none]
  try dsimp only [List.set_cons_succ, List.set_cons_zero]
  exact Oblig.nil
 case h0 =>
  exact ⟨fun _ => ⟨HY1.out.drew, HM1.out.keep ((Keep.refl (fun _ => False) _).drew) (fun _ _ h => h), HK1.out.drew⟩, (fun h => by cases h)⟩
 case hend =>
  intro S wx hwi hall
  obtain ⟨hyq, hpq⟩ := hwi.2 (hall 12 (by decide))
  obtain ⟨w3, hw3⟩ : ∃ w', w' = wx := ⟨_, rfl⟩
  rw [← hw3] at hyq hpq
  rw [← hw3]
  have HY3 := hid hyq
  have HP3 := hid hpq
  clear hyq hpq hwi hall hw3 qy1
  have qy3 := HY3.out.k18
  go_wp2_with fail
  have h := ((((((HY3.out.set 14 (i64 0)).set 15 (i64 (k : Int))).set 16 (.bool false)).set 17 (i64 0)).set 12 (i64 nv)).set 13 (.bool true))
  simp only [List.set_cons_succ, List.set_cons_zero] at h
  go_ret
  exact ⟨rfl, r11_out HP3.out HY3.out (by repeat (with_reducible first | exact Keep.refl _ _ | refine Keep.set ?_ _ _ (fun _ => rfl))) h⟩
set_option maxHeartbeats 2000000 in
theorem r11_take_no (wi j : Nat) (saw : Int) (hm : RefAt B w m A ca lv W L) (hy : Blk w y 120 [i64 tt, i64 sr, i64 g, i64 lm, i64 r, i64 (K : Int), .slice PA pn pc, .slice LA ln lc, i64 (s : Int), i64 (j : Int), .bool true, i64 saw, i64 0, .bool false, i64 0, i64 0, .bool false, i64 0]) (hj : j < K) (hK : K ≤ 16) (hs : s ≤ 1000000) (hi : wi < W.length) (hW : W.length ≤ 1000000) (hL : L.length ≤ 1000000000)
 (hq : (rd W wi == saw) = false) (hp : ∀ w', Calls Tryz.prog 47 #[.agg #[i64 tt, i64 sr, i64 g, i64 lm, i64 r, i64 (K : Int), .slice PA pn pc, .slice LA ln lc], i64 ((ck K s j : Nat) : Int)] w' (Ret (i64 (wi : Int)) w')) :
 Calls Tryz.prog 49 #[ptr y, ptr m] w fun e w' => e = .returned (.bool (decide (j + 1 = K))) ∧
  R11P B w m y A lv [i64 tt, i64 sr, i64 g, i64 lm, i64 r, i64 (K : Int), .slice PA pn pc, .slice LA ln lc, i64 (s : Int), i64 ((j + 1 : Nat) : Int), .bool false, i64 saw, i64 0, .bool (decide (j + 1 = K)), i64 (if j + 1 = K then 3 else 0), i64 0, .bool false, i64 0] (casW W wi saw (pNext6 saw 1)) (L ++ [⟨3, (wi : Nat), saw, pNext6 saw 1, false⟩]) w' := by
 have HT := hid (fun w0 => ref10_Turn saw w0)
 generalize pNext6 saw 1 = nv at *
 have HN := hid (fun (w2 : World) (hb : Blk w2 y 120 [i64 tt, i64 sr, i64 g, i64 lm, i64 r, i64 (K : Int), .slice PA pn pc, .slice LA ln lc, i64 (s : Int), i64 (j : Int), .bool true, i64 saw, i64 0, .bool false, i64 0, i64 0, .bool false, i64 0]) => r11_next j true saw hb (by omega))
 generalize decide (j + 1 = K) = bn at *
 generalize (if j + 1 = K then (3 : Int) else 0) = er at *
 generalize ((j + 1 : Nat) : Int) = nj at *
 have qy := hy.k18
 have HY := hid hy
 have HM := hid hm
 have HP := hid hp
 have HFY := hid (r11_far hm hy)
 have y0 : ¬ (K : Int) = 0 := by omega
 have y1 : IntKind.i64.wrap ((s : Int) + (j : Int)) = (s : Int) + (j : Int) := IntWalk.i64_in _ (by omega)
 have y2 : ((s : Int) + (j : Int)).tmod (K : Int) = ((ck K s j : Nat) : Int) := by
  rw [Int.tmod_eq_emod_of_nonneg (by omega)]; rfl
 generalize ck K s j = k at *
 clear hy hm hp
 go_enter Tryz.func49, Tryz.ntmps49
 go_wp2_with fail
 go_quiet (fail)
 have HK1 : Hid (Keep0 w (w.drewN nq)) := hid ((Keep.refl _ _).drewN nq)
 have HY1 := hid (HY.out.drewN nq)
 have HM1 := hid (HM.out.keep HK1.out (fun _ _ h => h))
 clear qy
 generalize w.drewN nq = w1 at *
 have qy1 := HY1.out.k18
 go_wp2_with fail
 refine (HT.out _).mono ?_
 rintro e w2 ⟨rfl, rfl⟩
 go_wp2_with fail
 apply wp_region_text (WI := CEnd 12 (fun wx => Blk wx y 120 [i64 tt, i64 sr, i64 g, i64 lm, i64 r, i64 (K : Int), .slice PA pn pc, .slice LA ln lc, i64 (s : Int), i64 (j : Int), .bool true, i64 saw, i64 0, .bool false, i64 0, i64 0, .bool false, i64 0] ∧ RefAt B wx m A ca lv W L ∧ Keep0 w wx) (fun wx => Blk wx y 120 [i64 tt, i64 sr, i64 g, i64 lm, i64 r, i64 (K : Int), .slice PA pn pc, .slice LA ln lc, i64 (s : Int), i64 (j : Int), .bool true, i64 saw, i64 0, .bool false, i64 0, i64 0, .bool false, i64 0] ∧ RefPost B w m A lv (casW W wi saw (nv)) (L ++ [⟨3, (wi : Nat), saw, nv, false⟩]) wx)) (by kernel_rfl) (by kernel_rfl)
 case hob =>
  iterate 4
   apply Oblig.cons
   case h =>
    intro S w1 hwi hSi hd hcl
    apply StepOk.intro
    intro K hK
    go_simp
    apply hK
    · rfl
    · conv => (lhs; whnf)
    · exact hwi.fixed (by decide)
   simp only [put_lit, put_none]
   try dsimp only [List.set_cons_succ, List.set_cons_zero]
  apply Oblig.cons
  case h =>
   intro S w1 hwi hSi hd hcl
   apply StepOk.intro
   intro K hK
   have hlast : S 12 = false := by
    cases h : S 12 with
    | false => rfl
    | true =>
     have h0 := (hcl 12 _ rfl h) ⟨6, .data⟩ (by simp) rfl
     have h1 := (hcl 6 _ rfl h0) ⟨4, .data⟩ (by simp) rfl
     rw [hSi] at h1
     cases h1
   have qyq := (hwi.1 hlast).1.k18
   go_simp
   apply hK
   · rfl
   · conv => (lhs; whnf)
   · exact hwi.fixed (by decide)
  simp only [put_lit, put_none]
  try dsimp only [List.set_cons_succ, List.set_cons_zero]
  apply Oblig.cons
  case h =>
   intro S w1 hwi hSi hd hcl
   apply StepOk.intro
   intro K hK
   go_simp
   apply hK
   · rfl
   · conv => (lhs; whnf)
   · exact hwi.fixed (by decide)
  simp only [put_lit, put_none]
  try dsimp only [List.set_cons_succ, List.set_cons_zero]
  apply Oblig.cons
  case h =>
   intro S w1 hwi hSi hd hcl
   apply StepOk.intro
   intro K hK
   have hlast : S 12 = false := by
    cases h : S 12 with
    | false => rfl
    | true => exact absurd ((hcl 12 _ rfl h) ⟨6, .data⟩ (by simp) rfl) (by rw [hSi]; decide)
   have hwp := hwi.1 hlast
   go_simp
   refine (HP.out _).mono ?_
   rintro e w2 ⟨rfl, hk⟩
   apply hK
   · rfl
   · conv => (lhs; whnf)
   · exact CEnd.mid hlast (by decide) ⟨hk.blk hwp.1 (fun h => h), hwp.2.1.keep hk (fun _ _ h => h), hwp.2.2.trans hk (fun _ _ h => h)⟩
  simp only [put_lit, put_none]
  try dsimp only [List.set_cons_succ, List.set_cons_zero]
  iterate 3
   apply Oblig.cons
   case h =>
    intro S w1 hwi hSi hd hcl
    apply StepOk.intro
    intro K hK
    go_simp
    apply hK
    · rfl
    · conv => (lhs; whnf)
    · exact hwi.fixed (by decide)
   simp only [put_lit, put_none]
   try dsimp only [List.set_cons_succ, List.set_cons_zero]
  apply Oblig.cons
  case h =>
   intro S w1 hwi hSi hd hcl
   apply StepOk.intro
   intro K hK
   have hlast : S 12 = false := by
    cases h : S 12 with
    | false => rfl
    | true => exact absurd ((hcl 12 _ rfl h) ⟨10, .data⟩ (by simp) rfl) (by rw [hSi]; decide)
   have qyq := (hwi.1 hlast).1.k18
   go_simp
   apply hK
   · rfl
   · conv => (lhs; whnf)
   · exact hwi.fixed (by decide)
  simp only [put_lit, put_none]
  try dsimp only [List.set_cons_succ, List.set_cons_zero]
  apply Oblig.cons
  case h =>
   intro S w1 hwi hSi hd hcl
   apply StepOk.intro
   intro K hK
   go_simp
   apply hK
   · rfl
   · conv => (lhs; whnf)
   · exact hwi.fixed (by decide)
  simp only [put_lit, put_none]
  try dsimp only [List.set_cons_succ, List.set_cons_zero]
  apply Oblig.cons
  case h =>
   intro S w1 hwi hSi hd hcl
   apply StepOk.intro
   intro K hK
   have hwp := hwi.1 hSi
   go_simp
   refine (ref_Cas (wi : Int) saw (nv) hwp.2.1 (by omega) (by omega) hW hL).mono ?_
   rintro e w2 ⟨rfl, hpo⟩
   rw [Int.toNat_natCast] at *
   rw [hq] at *
   apply hK
   · rfl
   · conv => (lhs; whnf)
   · exact CEnd.done ⟨hpo.choose_spec.choose_spec.choose_spec.2.1.blk hwp.1 (r11_far hwp.2.1 hwp.1), hpo.before hwp.2.2⟩
  simp only [put_lit, put_none]
  try dsimp only [List.set_cons_succ, List.set_cons_zero]
  exact Oblig.nil
 case h0 =>
  exact ⟨fun _ => ⟨HY1.out.drew, HM1.out.keep ((Keep.refl (fun _ => False) _).drew) (fun _ _ h => h), HK1.out.drew⟩, (fun h => by cases h)⟩
 case hend =>
  intro S wx hwi hall
  obtain ⟨hyq, hpq⟩ := hwi.2 (hall 12 (by decide))
  obtain ⟨w3, hw3⟩ : ∃ w', w' = wx := ⟨_, rfl⟩
  rw [← hw3] at hyq hpq
  rw [← hw3]
  have HY3 := hid hyq
  have HP3 := hid hpq
  clear hyq hpq hwi hall hw3 qy1
  have qy3 := HY3.out.k18
  go_wp2_with fail
  refine (HN.out _ HY3.out).mono ?_
  rintro e w5 ⟨rfl, hk, hb⟩
  have HK5 := hid hk
  have HY5 := hid hb
  have qy5 := hb.k18
  clear hk hb qy3
  go_wp2_with fail
  go_ret
  exact ⟨rfl, r11_out HP3.out HY3.out HK5.out HY5.out⟩
end
end Go.Proofs.YthaceckccobgeaaGreat

namespace Go.Proofs.YthaceckccobgeaaGreat
open Go.RowKit
set_option linter.unusedVariables false
set_option linter.unusedSimpArgs false
set_option maxRecDepth 100000
set_option maxHeartbeats 2000000 in
theorem ref_Own (t s g l r k : Int) (P L : List Int) (pb po lb lo pc lc : Nat) (w : World) (hp : P.length ≤ 1000) (hl : L.length ≤ 1000)
 (hP : ∀ i, i < P.length → w.cell? ⟨pb, po + i, none⟩ = some (i64 (rd P i))) (hL : ∀ i, i < L.length → w.cell? ⟨lb, lo + i, none⟩ = some (i64 (rd L i))) :
 Calls Tryz.prog 44 #[.agg #[i64 t, i64 s, i64 g, i64 l, i64 r, i64 k, .slice (some ⟨pb, po, none⟩) P.length pc, .slice (some ⟨lb, lo, none⟩) L.length lc]] w fun e w' => ∃ PA pc' LA lc', e = .returned (.agg #[i64 t, i64 s, i64 g, i64 l, i64 r, i64 k, .slice PA P.length pc', .slice LA L.length lc']) ∧ Keep0 w w' := by
 obtain ⟨i0, hti, hz0, hz1, hz2⟩ := info_parts info_int
 have HI := hid hti
 clear hti
 have HP := hid hP
 have HL := hid hL
 clear hP hL
 go_enter Tryz.func44, Tryz.ntmps44
 go_upto_region 2 with fail
 have HT1 : Hid (Blk (((w.alloc (.cells #[i64 t, i64 s, i64 g, i64 l, i64 r, i64 k, .slice (some ⟨pb, po, none⟩) P.length pc, .slice (some ⟨lb, lo, none⟩) L.length lc] 24)).alloc (.cells #[i64 0, i64 0, i64 0, i64 0, i64 0, i64 0, .slice none 0 0, .slice none 0 0] 24)).alloc (.cells #[i64 t, i64 s, i64 g, i64 l, i64 r, i64 k, .slice (some ⟨pb, po, none⟩) P.length pc, .slice (some ⟨lb, lo, none⟩) L.length lc] 24)) w.heap.size 24 [i64 t, i64 s, i64 g, i64 l, i64 r, i64 k, .slice (some ⟨pb, po, none⟩) P.length pc, .slice (some ⟨lb, lo, none⟩) L.length lc]) := hid (((Blk.made rfl rfl).alloc _).alloc _)
 have HT2 : Hid (Blk (((w.alloc (.cells #[i64 t, i64 s, i64 g, i64 l, i64 r, i64 k, .slice (some ⟨pb, po, none⟩) P.length pc, .slice (some ⟨lb, lo, none⟩) L.length lc] 24)).alloc (.cells #[i64 0, i64 0, i64 0, i64 0, i64 0, i64 0, .slice none 0 0, .slice none 0 0] 24)).alloc (.cells #[i64 t, i64 s, i64 g, i64 l, i64 r, i64 k, .slice (some ⟨pb, po, none⟩) P.length pc, .slice (some ⟨lb, lo, none⟩) L.length lc] 24)) (w.heap.size + 1) 24 [i64 0, i64 0, i64 0, i64 0, i64 0, i64 0, .slice none 0 0, .slice none 0 0]) := hid ((Blk.made (by simp) rfl).alloc _)
 have HT3 : Hid (Blk (((w.alloc (.cells #[i64 t, i64 s, i64 g, i64 l, i64 r, i64 k, .slice (some ⟨pb, po, none⟩) P.length pc, .slice (some ⟨lb, lo, none⟩) L.length lc] 24)).alloc (.cells #[i64 0, i64 0, i64 0, i64 0, i64 0, i64 0, .slice none 0 0, .slice none 0 0] 24)).alloc (.cells #[i64 t, i64 s, i64 g, i64 l, i64 r, i64 k, .slice (some ⟨pb, po, none⟩) P.length pc, .slice (some ⟨lb, lo, none⟩) L.length lc] 24)) (w.heap.size + 1 + 1) 24 [i64 t, i64 s, i64 g, i64 l, i64 r, i64 k, .slice (some ⟨pb, po, none⟩) P.length pc, .slice (some ⟨lb, lo, none⟩) L.length lc]) := hid (Blk.made (by simp) rfl)
 have HK1 : Hid (Keep0 w (((w.alloc (.cells #[i64 t, i64 s, i64 g, i64 l, i64 r, i64 k, .slice (some ⟨pb, po, none⟩) P.length pc, .slice (some ⟨lb, lo, none⟩) L.length lc] 24)).alloc (.cells #[i64 0, i64 0, i64 0, i64 0, i64 0, i64 0, .slice none 0 0, .slice none 0 0] 24)).alloc (.cells #[i64 t, i64 s, i64 g, i64 l, i64 r, i64 k, .slice (some ⟨pb, po, none⟩) P.length pc, .slice (some ⟨lb, lo, none⟩) L.length lc] 24))) := hid ((((Keep.refl _ _).alloc _).alloc _).alloc _)
 generalize ((w.alloc (.cells #[i64 t, i64 s, i64 g, i64 l, i64 r, i64 k, .slice (some ⟨pb, po, none⟩) P.length pc, .slice (some ⟨lb, lo, none⟩) L.length lc] 24)).alloc (.cells #[i64 0, i64 0, i64 0, i64 0, i64 0, i64 0, .slice none 0 0, .slice none 0 0] 24)).alloc (.cells #[i64 t, i64 s, i64 g, i64 l, i64 r, i64 k, .slice (some ⟨pb, po, none⟩) P.length pc, .slice (some ⟨lb, lo, none⟩) L.length lc] 24) = w1 at *
 have q1 := HT1.out.k8
 have q3 := HT3.out.k8
 go_upto_region 3 with (at_builtin; refine wpl_append_own ?a1 (.tmp 5) (.tmp 7) 22 ?a2 (w1.heap.size) 3 i0 ?z 1 8 ?a3 ?a4 ?a5 ?a6 ?a7 ?a8 ?a9 (.slice (some ⟨w1.heap.size, 0, none⟩) 0 0) (0) ([]) ?a10 ?hown (⟨pb, po, none⟩) (P.length) (pc) (ints P) ?a11 ?a12 ?hnews ?hone ?h63 ?hby ?hbase ?_; (case a1 => rfl); (case a2 => rfl); (case a3 => exact Tryz.underlying22); (case a4 => exact HI.out); (case a5 => exact hz0); (case a6 => exact hz1); (case a7 => exact hz2); (case a8 => rfl); (case a9 => decide); (case a10 => rfl); (case a11 => rfl); (case a12 => simp [ints]); (case hown => exact own_empty (Blk.made rfl rfl) (Nat.le_refl _)); (case h63 => unfold maxLen; omega); (case hby => omega); (case hnews => intro j u hj; have hjl : j < P.length := (by have := (List.getElem?_eq_some_iff.1 hj).1; simpa [ints] using this); have e1 : (⟨pb, po, none⟩ : Addr).add j = ⟨pb, po + j, none⟩ := addr_addo _ _ _; have h0 := HP.out j hjl; have hz := World.block_lt_of_cell? _ _ h0; rw [e1]; refine (cell_old (S := fun _ => False) (w := w) (HK1.out.alloc _) hz (fun h => h) _).trans ?_; rw [h0, ← hj, ints_get P j hjl]); (case hone => exact ints_one P); (case hbase => simp); intro A2 c2 w2 hown hg hsl; have HO := own_empty (w := w1.alloc (.cells #[] 3)) (B := w1.heap.size) (size := 1) (Blk.made (w := w1) (t := 3) (c := #[]) rfl rfl) (Nat.le_refl _); have T1 := grown_blk hg (HT1.out.alloc (.cells #[] 3)) (ownBlock_ne HO (HT1.out.alloc (.cells #[] 3)) (by decide)); have T2 := grown_blk hg (HT2.out.alloc (.cells #[] 3)) (ownBlock_ne HO (HT2.out.alloc (.cells #[] 3)) (by decide)); have T3 := grown_blk hg (HT3.out.alloc (.cells #[] 3)) (ownBlock_ne HO (HT3.out.alloc (.cells #[] 3)) (by decide)); have HKN := hid (Keep.grown (HK1.out.alloc (.cells #[] 3)) hg (fun k hk e => by have := HK1.out.size; simp [Value.ownBlock] at e; omega)); have hz3 := T3.k8; clear HO hown hg hsl HT1 HT2 HT3 HK1)
 have HT1 := hid (T1.other (a := ⟨w.heap.size + 1 + 1, 6, none⟩) (.slice A2 P.length c2) (by show w.heap.size + 1 + 1 ≠ w.heap.size; omega))
 have HT2 := hid (T2.other (a := ⟨w.heap.size + 1 + 1, 6, none⟩) (.slice A2 P.length c2) (by show w.heap.size + 1 + 1 ≠ w.heap.size + 1; omega))
 have HT3 := hid (T3.set 6 (.slice A2 P.length c2))
 have HK3 := hid (HKN.out.set ⟨w.heap.size + 1 + 1, 6, none⟩ (.slice A2 P.length c2) (fun h => absurd (show w.heap.size + 1 + 1 < w.heap.size from h) (by omega)))
 clear T1 T2 T3 HKN hz3 q1 q3
 generalize w2.setCell ⟨w.heap.size + 1 + 1, 6, none⟩ (.slice A2 P.length c2) = w4 at *
 have HT3 := hid (show Blk w4 (w.heap.size + 1 + 1) 24 [i64 t, i64 s, i64 g, i64 l, i64 r, i64 k, .slice A2 P.length c2, .slice (some ⟨lb, lo, none⟩) L.length lc] from HT3.out)
 have q1 := HT1.out.k8
 go_upto_region 4 with (at_builtin; refine wpl_append_own ?a1 (.tmp 10) (.tmp 12) 22 ?a2 (w4.heap.size) 3 i0 ?z2 1 8 ?a3 ?a4 ?a5 ?a6 ?a7 ?a8 ?a9 (.slice (some ⟨w4.heap.size, 0, none⟩) 0 0) (0) ([]) ?a10 ?hown (⟨lb, lo, none⟩) (L.length) (lc) (ints L) ?a11 ?a12 ?hnews ?hone ?h63 ?hby ?hbase ?_; (case a1 => rfl); (case a2 => rfl); (case a3 => exact Tryz.underlying22); (case a4 => exact HI.out); (case a5 => exact hz0); (case a6 => exact hz1); (case a7 => exact hz2); (case a8 => rfl); (case a9 => decide); (case a10 => rfl); (case a11 => rfl); (case a12 => simp [ints]); (case hown => exact own_empty (Blk.made rfl rfl) (Nat.le_refl _)); (case h63 => unfold maxLen; omega); (case hby => omega); (case hnews => intro j u hj; have hjl : j < L.length := (by have := (List.getElem?_eq_some_iff.1 hj).1; simpa [ints] using this); have e1 : (⟨lb, lo, none⟩ : Addr).add j = ⟨lb, lo + j, none⟩ := addr_addo _ _ _; have h0 := HL.out j hjl; have hz := World.block_lt_of_cell? _ _ h0; rw [e1]; refine (cell_old (S := fun _ => False) (w := w) (HK3.out.alloc _) hz (fun h => h) _).trans ?_; rw [h0, ← hj, ints_get L j hjl]); (case hone => exact ints_one L); (case hbase => simp); intro A5 c5 w5 hown hg hsl; have HO := own_empty (w := w4.alloc (.cells #[] 3)) (B := w4.heap.size) (size := 1) (Blk.made (w := w4) (t := 3) (c := #[]) rfl rfl) (Nat.le_refl _); have T1 := grown_blk hg (HT1.out.alloc (.cells #[] 3)) (ownBlock_ne HO (HT1.out.alloc (.cells #[] 3)) (by decide)); have T2 := grown_blk hg (HT2.out.alloc (.cells #[] 3)) (ownBlock_ne HO (HT2.out.alloc (.cells #[] 3)) (by decide)); have T3 := grown_blk hg (HT3.out.alloc (.cells #[] 3)) (ownBlock_ne HO (HT3.out.alloc (.cells #[] 3)) (by decide)); have HKN := hid (Keep.grown (HK3.out.alloc (.cells #[] 3)) hg (fun k hk e => by have := HK3.out.size; simp [Value.ownBlock] at e; omega)); have hz3 := T3.k8; clear HO hown hg hsl HT1 HT2 HT3 HK3)
 have HT2 := hid (T2.other (a := ⟨w.heap.size + 1 + 1, 7, none⟩) (.slice A5 L.length c5) (by show w.heap.size + 1 + 1 ≠ w.heap.size + 1; omega))
 have HT3 := hid (T3.set 7 (.slice A5 L.length c5))
 have HK5 := hid (HKN.out.set ⟨w.heap.size + 1 + 1, 7, none⟩ (.slice A5 L.length c5) (fun h => absurd (show w.heap.size + 1 + 1 < w.heap.size from h) (by omega)))
 clear T1 T2 T3 HKN hz3 q1
 generalize w5.setCell ⟨w.heap.size + 1 + 1, 7, none⟩ (.slice A5 L.length c5) = w6 at *
 have q3 := (show Blk w6 (w.heap.size + 1 + 1) 24 [i64 t, i64 s, i64 g, i64 l, i64 r, i64 k, .slice A2 P.length c2, .slice A5 L.length c5] from HT3.out).k8
 have q2 := HT2.out.k8
 go_wp2_with fail
 have HF := hid (show Blk (((((((((w6).setCell ⟨w.heap.size + 1, 0, none⟩ (i64 t)).setCell ⟨w.heap.size + 1, 1, none⟩ (i64 s)).setCell ⟨w.heap.size + 1, 2, none⟩ (i64 g)).setCell ⟨w.heap.size + 1, 3, none⟩ (i64 l)).setCell ⟨w.heap.size + 1, 4, none⟩ (i64 r)).setCell ⟨w.heap.size + 1, 5, none⟩ (i64 k)).setCell ⟨w.heap.size + 1, 6, none⟩ (.slice A2 P.length c2)).setCell ⟨w.heap.size + 1, 7, none⟩ (.slice A5 L.length c5)) (w.heap.size + 1) 24 [i64 t, i64 s, i64 g, i64 l, i64 r, i64 k, .slice A2 P.length c2, .slice A5 L.length c5] from (((((((HT2.out.set 0 (i64 t)).set 1 (i64 s)).set 2 (i64 g)).set 3 (i64 l)).set 4 (i64 r)).set 5 (i64 k)).set 6 (.slice A2 P.length c2)).set 7 (.slice A5 L.length c5))
 have hn : ¬ (w.heap.size + 1 < w.heap.size) := by omega
 have HKF : Hid (Keep0 w (((((((((w6).setCell ⟨w.heap.size + 1, 0, none⟩ (i64 t)).setCell ⟨w.heap.size + 1, 1, none⟩ (i64 s)).setCell ⟨w.heap.size + 1, 2, none⟩ (i64 g)).setCell ⟨w.heap.size + 1, 3, none⟩ (i64 l)).setCell ⟨w.heap.size + 1, 4, none⟩ (i64 r)).setCell ⟨w.heap.size + 1, 5, none⟩ (i64 k)).setCell ⟨w.heap.size + 1, 6, none⟩ (.slice A2 P.length c2)).setCell ⟨w.heap.size + 1, 7, none⟩ (.slice A5 L.length c5))) := hid (((((((((HK5.out).set ⟨w.heap.size + 1, 0, none⟩ (i64 t) (fun h => hn h)).set ⟨w.heap.size + 1, 1, none⟩ (i64 s) (fun h => hn h)).set ⟨w.heap.size + 1, 2, none⟩ (i64 g) (fun h => hn h)).set ⟨w.heap.size + 1, 3, none⟩ (i64 l) (fun h => hn h)).set ⟨w.heap.size + 1, 4, none⟩ (i64 r) (fun h => hn h)).set ⟨w.heap.size + 1, 5, none⟩ (i64 k) (fun h => hn h)).set ⟨w.heap.size + 1, 6, none⟩ (.slice A2 P.length c2) (fun h => hn h)).set ⟨w.heap.size + 1, 7, none⟩ (.slice A5 L.length c5) (fun h => hn h))
 clear q2 q3
 generalize ((((((((w6).setCell ⟨w.heap.size + 1, 0, none⟩ (i64 t)).setCell ⟨w.heap.size + 1, 1, none⟩ (i64 s)).setCell ⟨w.heap.size + 1, 2, none⟩ (i64 g)).setCell ⟨w.heap.size + 1, 3, none⟩ (i64 l)).setCell ⟨w.heap.size + 1, 4, none⟩ (i64 r)).setCell ⟨w.heap.size + 1, 5, none⟩ (i64 k)).setCell ⟨w.heap.size + 1, 6, none⟩ (.slice A2 P.length c2)).setCell ⟨w.heap.size + 1, 7, none⟩ (.slice A5 L.length c5) = w7 at *
 have qF := HF.out.k8
 exact bodyPost_ret (v := .agg #[i64 t, i64 s, i64 g, i64 l, i64 r, i64 k, .slice A2 P.length c2, .slice A5 L.length c5]) (by simp [results, Tryz.results44, go_sem, qF]) rfl ⟨A2, c2, A5, c5, rfl, HKF.out⟩
end Go.Proofs.YthaceckccobgeaaGreat

namespace Go.Proofs.YthaceckccobgeaaGreat
open Go.RowKit
set_option linter.unusedVariables false
set_option linter.unusedSimpArgs false
set_option maxRecDepth 100000
def rcs11 (C : CC) (K s : Nat) (t : CS) : List Value := [i64 C.tt, i64 C.sr, i64 C.g, i64 C.lm, i64 C.r, i64 (K : Int), .slice C.PA C.pn C.pc, .slice C.LA C.ln C.lc, i64 (s : Int), i64 (t.j : Int), .bool t.seen, i64 t.saw, i64 t.set, .bool (decide (t.fin ≠ 0)), i64 (if t.fin = 2 then 3 else 0), i64 (t.n : Int), .bool false, i64 0]
section
variable {B : Nat} {w : World} {m y : Nat} {A : Option Addr} {ca : Nat} {lv : Value} {C : CC} {K s q : Nat}
set_option maxHeartbeats 4000000 in
theorem r11_Step (t : CS) (hm : RefAt B w m A ca lv t.W t.L) (hy : Blk w y 120 (rcs11 C K s t)) (hi : CInv K q t) (hk : COk C K q K) (hs : s ≤ 1000000) (hL : t.L.length ≤ 1000000000) :
 Calls Tryz.prog 49 #[ptr y, ptr m] w fun e w' => e = .returned (.bool (cStp K s q t).2) ∧ R11P B w m y A lv (rcs11 C K s (cStp K s q t).1) (cStp K s q t).1.W (cStp K s q t).1.L w' := by
 show Calls _ _ _ _ (fun e w' => e = .returned (.bool (decide ((cNext K s q t).fin ≠ 0))) ∧ R11P B w m y A lv (rcs11 C K s (cNext K s q t)) (cNext K s q t).W (cNext K s q t).L w')
 by_cases h0 : t.fin = 0
 · have hj := hi.jb (by omega)
   have hck := ck_lt (s := s) (j := t.j) (show 1 ≤ K by omega)
   have hkb := hi.kb
   have hln := hi.ln
   have hwl := hi.wl
   have hp : ∀ w', Calls Tryz.prog 47 #[.agg #[i64 C.tt, i64 C.sr, i64 C.g, i64 C.lm, i64 C.r, i64 (K : Int), .slice C.PA C.pn C.pc, .slice C.LA C.ln C.lc], i64 ((ck K s t.j : Nat) : Int)] w' (Ret (i64 ((q + 2 * ck K s t.j : Nat) : Int)) w') := by
    intro w'
    have h := ref_Ticket C.tt C.sr C.g C.lm C.r (K : Int) C.PA C.pn C.pc C.LA C.ln C.lc ((ck K s t.j : Nat) : Int) w' hk.hs.1 hk.hs.2 (by omega) (by omega) (by have := hk.hp; omega)
    rw [← hk.hq, show (q : Int) + 2 * ((ck K s t.j : Nat) : Int) = ((q + 2 * ck K s t.j : Nat) : Int) by push_cast; rfl] at h
    exact h
   have hwi : q + 2 * ck K s t.j < t.W.length := by omega
   have e1 : rcs11 C K s t = [i64 C.tt, i64 C.sr, i64 C.g, i64 C.lm, i64 C.r, i64 (K : Int), .slice C.PA C.pn C.pc, .slice C.LA C.ln C.lc, i64 (s : Int), i64 (t.j : Int), .bool t.seen, i64 t.saw, i64 0, .bool false, i64 0, i64 0, .bool false, i64 0] := by
    simp [rcs11, h0, (hi.z h0).1, (hi.z h0).2]
   rw [e1] at hy
   have eN : ∀ u : CS, u.fin = 0 → u.j = t.j → u.set = 0 → u.n = 0 → [i64 C.tt, i64 C.sr, i64 C.g, i64 C.lm, i64 C.r, i64 (K : Int), .slice C.PA C.pn C.pc, .slice C.LA C.ln C.lc, i64 (s : Int), i64 ((t.j + 1 : Nat) : Int), .bool false, i64 u.saw, i64 0, .bool (decide (t.j + 1 = K)), i64 (if t.j + 1 = K then 3 else 0), i64 0, .bool false, i64 0] = rcs11 C K s (cNx K u) := by
    intro u hu0 huj hus hun
    unfold rcs11 cNx
    simp only [huj, hus, hun]
    by_cases hl : t.j + 1 = K
    · simp [hl]
    · simp [hl]
   have fN : ∀ u : CS, u.j = t.j → decide ((cNx K u).fin ≠ 0) = decide (t.j + 1 = K) := by
    intro u huj
    simp only [cNx, huj]
    by_cases hl : t.j + 1 = K
    · simp [hl]
    · simp [hl]
   cases hs' : t.seen with
   | false =>
    rw [hs'] at hy
    by_cases hst : st10 (rd t.W (q + 2 * ck K s t.j)) = 0
    · have e2 : cNext K s q t = cLook K s q t := by unfold cNext; rw [if_pos h0, if_pos hs', if_pos hst]
      rw [e2]
      refine (r11_look_free (q + 2 * ck K s t.j) t.j t.saw hm hy hj hkb.2 hs hwi hL hst hp).mono ?_
      rintro e w' ⟨rfl, h⟩
      refine ⟨by simp [cLook, h0], ?_⟩
      have e3 : rcs11 C K s (cLook K s q t) = [i64 C.tt, i64 C.sr, i64 C.g, i64 C.lm, i64 C.r, i64 (K : Int), .slice C.PA C.pn C.pc, .slice C.LA C.ln C.lc, i64 (s : Int), i64 (t.j : Int), .bool true, i64 (rd t.W (q + 2 * ck K s t.j)), i64 0, .bool false, i64 0, i64 0, .bool false, i64 0] := by
       simp [rcs11, cLook, h0, (hi.z h0).1, (hi.z h0).2]
      rw [e3]
      exact h
    · have e2 : cNext K s q t = cNx K (cLook K s q t) := by unfold cNext; rw [if_pos h0, if_pos hs', if_neg hst]
      rw [e2]
      refine (r11_look_next (q + 2 * ck K s t.j) t.j t.saw hm hy hj hkb.2 hs hwi hL hst hp).mono ?_
      rintro e w' ⟨rfl, h⟩
      refine ⟨by rw [fN (cLook K s q t) rfl], ?_⟩
      rw [← eN (cLook K s q t) h0 rfl (hi.z h0).1 (hi.z h0).2]
      exact h
   | true =>
    rw [hs'] at hy
    by_cases hst : rd t.W (q + 2 * ck K s t.j) = t.saw
    · have e2 : cNext K s q t = { cTake K s q t with fin := 1, n := ck K s t.j, set := pNext6 t.saw 1 } := by unfold cNext; rw [if_pos h0, if_neg (by simp [hs']), if_pos hst]
      rw [e2]
      have hq' : (rd t.W (q + 2 * ck K s t.j) == t.saw) = true := by simpa using hst
      refine (r11_take_yes (q + 2 * ck K s t.j) t.j t.saw hm hy hj hkb.2 hs hwi (by omega) hL hq' hp).mono ?_
      rintro e w' ⟨rfl, h⟩
      refine ⟨by simp, ?_⟩
      have e3 : rcs11 C K s { cTake K s q t with fin := 1, n := ck K s t.j, set := pNext6 t.saw 1 } = [i64 C.tt, i64 C.sr, i64 C.g, i64 C.lm, i64 C.r, i64 (K : Int), .slice C.PA C.pn C.pc, .slice C.LA C.ln C.lc, i64 (s : Int), i64 (t.j : Int), .bool true, i64 t.saw, i64 (pNext6 t.saw 1), .bool true, i64 0, i64 ((ck K s t.j : Nat) : Int), .bool false, i64 0] := by
       simp [rcs11, cTake, hs']
      have e4 : ({ cTake K s q t with fin := 1, n := ck K s t.j, set := pNext6 t.saw 1 } : CS).L = t.L ++ [⟨3, ((q + 2 * ck K s t.j : Nat) : Int), t.saw, pNext6 t.saw 1, true⟩] := by
       show t.L ++ [⟨3, ((q + 2 * ck K s t.j : Nat) : Int), t.saw, pNext6 t.saw 1, rd t.W (q + 2 * ck K s t.j) == t.saw⟩] = _
       rw [hq']
      rw [e3, e4]
      exact h
    · have e2 : cNext K s q t = cNx K (cTake K s q t) := by unfold cNext; rw [if_pos h0, if_neg (by simp [hs']), if_neg hst]
      rw [e2]
      have hq' : (rd t.W (q + 2 * ck K s t.j) == t.saw) = false := by simpa using hst
      refine (r11_take_no (q + 2 * ck K s t.j) t.j t.saw hm hy hj hkb.2 hs hwi (by omega) hL hq' hp).mono ?_
      rintro e w' ⟨rfl, h⟩
      refine ⟨by rw [fN (cTake K s q t) rfl], ?_⟩
      rw [← eN (cTake K s q t) h0 rfl (hi.z h0).1 (hi.z h0).2]
      have e4 : (cNx K (cTake K s q t)).L = t.L ++ [⟨3, ((q + 2 * ck K s t.j : Nat) : Int), t.saw, pNext6 t.saw 1, false⟩] := by
       show t.L ++ [⟨3, ((q + 2 * ck K s t.j : Nat) : Int), t.saw, pNext6 t.saw 1, rd t.W (q + 2 * ck K s t.j) == t.saw⟩] = _
       rw [hq']
      rw [e4]
      exact h
 · rw [cNext_over h0]
   have e1 : decide (t.fin ≠ 0) = true := by simpa using h0
   have hy1 := hy
   unfold rcs11 at hy1
   rw [e1] at hy1
   refine (r11_step_end (m := m) hy1).mono ?_
   rintro e w' ⟨rfl, rfl⟩
   exact ⟨by rw [e1], A, ca, lv, hm, hy, Keep.refl _ _, fun _ h => Or.inl h, fun _ h => Or.inl h⟩
set_option maxHeartbeats 400000 in
theorem r11_Ans (t : CS) (hy : Blk w y 120 (rcs11 C K s t)) : Calls Tryz.prog 48 #[ptr y] w (Ret (clAns t) w) := by
 have qy := (show Blk w y 120 [i64 C.tt, i64 C.sr, i64 C.g, i64 C.lm, i64 C.r, i64 (K : Int), .slice C.PA C.pn C.pc, .slice C.LA C.ln C.lc, i64 (s : Int), i64 (t.j : Int), .bool t.seen, i64 t.saw, i64 t.set, .bool (decide (t.fin ≠ 0)), i64 (if t.fin = 2 then 3 else 0), i64 (t.n : Int), .bool false, i64 0] from hy).k18
 show Calls _ _ _ _ (Ret (.agg #[i64 (if t.fin = 2 then 3 else 0), i64 (t.n : Int), .bool false, i64 0]) w)
 generalize (if t.fin = 2 then (3 : Int) else 0) = er at *
 generalize decide (t.fin ≠ 0) = en at *
 clear hy
 go_enter Tryz.func48, Tryz.ntmps48
 go_wp2
 exact bodyPost_ret (v := .agg #[i64 er, i64 (t.n : Int), .bool false, i64 0]) (by simp [results, Tryz.results48, go_sem]) rfl ⟨rfl, (Keep.refl _ _).alloc _⟩
set_option maxHeartbeats 400000 in
theorem r11_Word (t : CS) (hy : Blk w y 120 (rcs11 C K s t)) : Calls Tryz.prog 56 #[ptr y] w (Ret (i64 t.set) w) := by
 have qy := (show Blk w y 120 [i64 C.tt, i64 C.sr, i64 C.g, i64 C.lm, i64 C.r, i64 (K : Int), .slice C.PA C.pn C.pc, .slice C.LA C.ln C.lc, i64 (s : Int), i64 (t.j : Int), .bool t.seen, i64 t.saw, i64 t.set, .bool (decide (t.fin ≠ 0)), i64 (if t.fin = 2 then 3 else 0), i64 (t.n : Int), .bool false, i64 0] from hy).k18
 generalize (if t.fin = 2 then (3 : Int) else 0) = er at *
 generalize decide (t.fin ≠ 0) = en at *
 clear hy
 go_enter Tryz.func56, Tryz.ntmps56
 go_wp2_with fail
 go_ret
 exact ⟨rfl, Keep.refl _ _⟩
set_option maxHeartbeats 2000000 in
theorem r11_New0 (t s g l r : Int) (K st : Nat) (P L : List Int) (pb po lb lo pc lc : Nat) (w : World) (hp : P.length ≤ 1000) (hl : L.length ≤ 1000)
 (hP : ∀ i, i < P.length → w.cell? ⟨pb, po + i, none⟩ = some (i64 (rd P i))) (hL : ∀ i, i < L.length → w.cell? ⟨lb, lo + i, none⟩ = some (i64 (rd L i))) :
 Calls Tryz.prog 46 #[.agg #[i64 t, i64 s, i64 g, i64 l, i64 r, i64 (K : Int), .slice (some ⟨pb, po, none⟩) P.length pc, .slice (some ⟨lb, lo, none⟩) L.length lc], i64 (st : Int)] w fun e w' => ∃ y PA' pc' LA' lc', e = .returned (ptr y) ∧ w.heap.size ≤ y ∧ Keep0 w w' ∧ ∀ W L0, Blk w' y 120 (rcs11 ⟨t, s, g, l, r, PA', P.length, pc', LA', L.length, lc'⟩ K st ⟨W, L0, 0, false, 0, 0, 0, 0⟩) := by
 have HOW := hid (ref_Own t s g l r (K : Int) P L pb po lb lo pc lc (w.alloc (.cells #[i64 t, i64 s, i64 g, i64 l, i64 r, i64 (K : Int), .slice (some ⟨pb, po, none⟩) P.length pc, .slice (some ⟨lb, lo, none⟩) L.length lc] 24)) hp hl (fun i hi => by rw [World.cell?_alloc_lt _ _ _ (World.block_lt_of_cell? _ _ (hP i hi))]; exact hP i hi) (fun i hi => by rw [World.cell?_alloc_lt _ _ _ (World.block_lt_of_cell? _ _ (hL i hi))]; exact hL i hi))
 have HK0 : Hid (Keep0 w (w.alloc (.cells #[i64 t, i64 s, i64 g, i64 l, i64 r, i64 (K : Int), .slice (some ⟨pb, po, none⟩) P.length pc, .slice (some ⟨lb, lo, none⟩) L.length lc] 24))) := hid ((Keep.refl _ _).alloc _)
 clear hP hL
 go_enter Tryz.func46, Tryz.ntmps46
 go_wp2_with fail
 refine HOW.out.mono ?_
 rintro e w1 ⟨PA, pc', LA, lc', rfl, hk⟩
 have HK1 : Hid (Keep0 w w1) := hid (Keep0.step HK0.out hk)
 clear hk
 go_wp2_with fail
 go_ret
 exact ⟨_, PA, pc', LA, lc', rfl, HK1.out.size, HK1.out.alloc _, fun W L0 => Blk.made rfl rfl⟩
end
end Go.Proofs.YthaceckccobgeaaGreat

namespace Go.Proofs.YthaceckccobgeaaGreat
open Go.RowKit
set_option linter.unusedVariables false
set_option linter.unusedSimpArgs false
set_option maxRecDepth 100000
def rcs (t s g l r k : Int) (PA : Option Addr) (pn pc : Nat) (LA : Option Addr) (ln lc : Nat) (nd n st : Int) (x : PS) (e : Int) : List Value :=
 [i64 t, i64 s, i64 g, i64 l, i64 r, i64 k, .slice PA pn pc, .slice LA ln lc, i64 nd, i64 n, i64 st, i64 (if x.next = 7 then 9 else (x.next : Int)), i64 x.had, i64 x.saw, i64 e, i64 (if x.bad = true then 4 else 0), i64 0, .bool false, i64 (if x.bad = true then nd else 0)]
section
variable {B : Nat} {w : World} {m y : Nat} {A : Option Addr} {ca : Nat} {lv : Value} {av le : Nat} {t s g l r k nd n st X : Int} {PA : Option Addr} {pn pc : Nat} {LA : Option Addr} {ln lc : Nat}
theorem ry_far {W : List Int} {L : List Acc} {cs : List Value} (hm : RefAt B w m A ca lv W L) (hy : Blk w y 122 cs) : ¬ (y = m ∨ lv.ownBlock = some y) := by
 rintro (h | h)
 · exact hy.ne hm.mem (by decide) h
 · exact ownBlock_ne hm.log hy (by decide) h.symm
theorem ry_far2 {W : List Int} {L : List Acc} {cs : List Value} (hm : RefAt B w m A ca lv W L) (hy : Blk w y 122 cs) (b : Nat) (hb : RF m A lv b) : b ≠ y := by
 rintro rfl
 rcases hb with h | h | h
 · exact hy.ne hm.mem (by decide) h
 · exact ownBlock_ne hm.words hy (by decide) ((own_any _ _ _ _ _).trans h).symm
 · exact ownBlock_ne hm.log hy (by decide) h.symm
def RPoolP (B : Nat) (w : World) (m : Nat) (A : Option Addr) (lv : Value) (y : Nat) (t s g l r k : Int) (PA : Option Addr) (pn pc : Nat) (LA : Option Addr) (ln lc : Nat) (nd n st : Int) (x : PS) (e : Ending) (w' : World) : Prop :=
 e = .returned (.bool (decide (x.next = 7))) ∧ ∃ A' c' lv' e', RefAt B w' m A' c' lv' x.W x.L ∧ Blk w' y 122 (rcs t s g l r k PA pn pc LA ln lc nd n st x e') ∧ (x.next < 7 → e' = x.extra) ∧ Keep (fun b => (b = m ∨ lv.ownBlock = some b) ∨ b = y) w w' ∧
  (∀ b, (Value.slice A' 0 0).ownBlock = some b → (Value.slice A 0 0).ownBlock = some b ∨ w.heap.size ≤ b) ∧ (∀ b, lv'.ownBlock = some b → lv.ownBlock = some b ∨ w.heap.size ≤ b)
theorem rpoolP_of {w1 w2 : World} {A1 : Option Addr} {c1 : Nat} {lv1 : Value} {x' : PS} {e' : Int} {cs : List Value} (hm : RefAt B w1 m A1 c1 lv1 x'.W x'.L) (hk : Keep (fun b => b = m ∨ lv.ownBlock = some b) w w1)
 (ha : ∀ b, (Value.slice A1 0 0).ownBlock = some b → (Value.slice A 0 0).ownBlock = some b ∨ w.heap.size ≤ b) (hl : ∀ b, lv1.ownBlock = some b → lv.ownBlock = some b ∨ w.heap.size ≤ b)
 (hy1 : Blk w1 y 122 cs) (hk2 : Keep (fun b => b = y) w1 w2) (hy2 : Blk w2 y 122 (rcs t s g l r k PA pn pc LA ln lc nd n st x' e')) (he : x'.next < 7 → e' = x'.extra) :
 RPoolP B w m A lv y t s g l r k PA pn pc LA ln lc nd n st x' (.returned (.bool (decide (x'.next = 7)))) w2 :=
 ⟨rfl, A1, c1, lv1, e', hm.keep hk2 (fun b h => ry_far2 hm hy1 b h), hy2, he, (hk.mono (fun _ h => Or.inl h)).trans (hk2.mono (fun _ h => Or.inr h)) (fun _ _ h => h), ha, hl⟩
theorem rpoolP_of2 {w1 w2 : World} {A1 : Option Addr} {c1 : Nat} {lv1 : Value} {x' : PS} {e' : Int} {cs : List Value} (hm : RefAt B w1 m A1 c1 lv1 x'.W x'.L) (hk : Keep (fun b => (b = m ∨ lv.ownBlock = some b) ∨ b = y) w w1)
 (ha : ∀ b, (Value.slice A1 0 0).ownBlock = some b → (Value.slice A 0 0).ownBlock = some b ∨ w.heap.size ≤ b) (hl : ∀ b, lv1.ownBlock = some b → lv.ownBlock = some b ∨ w.heap.size ≤ b)
 (hy1 : Blk w1 y 122 cs) (hk2 : Keep (fun b => b = y) w1 w2) (hy2 : Blk w2 y 122 (rcs t s g l r k PA pn pc LA ln lc nd n st x' e')) (he : x'.next < 7 → e' = x'.extra) :
 RPoolP B w m A lv y t s g l r k PA pn pc LA ln lc nd n st x' (.returned (.bool (decide (x'.next = 7)))) w2 :=
 ⟨rfl, A1, c1, lv1, e', hm.keep hk2 (fun b h => ry_far2 hm hy1 b h), hy2, he, hk.trans (hk2.mono (fun _ h => Or.inr h)) (fun _ _ h => h), ha, hl⟩
theorem ref_LoadN {W : List Int} {L : List Acc} (i : Nat) (hm : RefAt B w m A ca lv W L) (hi : i < W.length) (hL : L.length ≤ 1000000000) :
 Calls Tryz.prog 86 #[ptr m, i64 i] w fun e w' => e = .returned (i64 (rd W i)) ∧ RefPost B w m A lv W (L ++ [⟨1, i, rd W i, 0, false⟩]) w' := by
 have h := ref_Load (i : Int) hm (by omega) (by omega) hL
 rwa [Int.toNat_natCast] at h
theorem ref_CasN {W : List Int} {L : List Acc} (i : Nat) (old x : Int) (hm : RefAt B w m A ca lv W L) (hi : i < W.length) (hW : W.length ≤ 1000000) (hL : L.length ≤ 1000000000) :
 Calls Tryz.prog 88 #[ptr m, i64 i, i64 old, i64 x] w fun e w' => e = .returned (.bool (rd W i == old)) ∧ RefPost B w m A lv (casW W i old x) (L ++ [⟨3, i, old, x, rd W i == old⟩]) w' := by
 have h := ref_Cas (i : Int) old x hm (by omega) (by omega) hW hL
 rwa [Int.toNat_natCast] at h
end
end Go.Proofs.YthaceckccobgeaaGreat

namespace Go.Proofs.YthaceckccobgeaaGreat
open Go.RowKit
set_option linter.unusedVariables false
set_option linter.unusedSimpArgs false
set_option maxRecDepth 100000
section
variable {B : Nat} {w : World} {m y : Nat} {A : Option Addr} {ca : Nat} {lv : Value} {av le : Nat} {t s g l r k nd n st X : Int} {PA : Option Addr} {pn pc : Nat} {LA : Option Addr} {ln lc : Nat}
set_option maxHeartbeats 4000000 in
theorem rpool_step0 (x : PS) (hm : RefAt B w m A ca lv x.W x.L) (hy : Blk w y 122 (rcs t s g l r k PA pn pc LA ln lc nd n st x x.extra)) (hi : PInv av le n l X x) (h0 : x.next = 0) (hX : X ≤ 4398046511104) (hL : x.L.length ≤ 1000000000) (hW : x.W.length ≤ 1000000) (hs0 : 1 ≤ s) (hs1 : s ≤ 8) (hv0 : 0 ≤ nd) (hv1 : nd ≤ 1000) (hu0 : 0 ≤ st) (hu1 : st ≤ 1000) (hav : (av : Int) = nd * (6 + 2 * s) + 1) (hle : (le : Int) = nd * (6 + 2 * s) + 2 + st) :
 Calls Tryz.prog 51 #[ptr y, ptr m] w (RPoolP B w m A lv y t s g l r k PA pn pc LA ln lc nd n st (pNext av le n l x)) := by
 obtain ⟨W, L, next, had, saw, extra, bad⟩ := x
 obtain ⟨la, ll, ne, n1, m1, wl, wa, nx, s1, s3, s4, s5, b⟩ := hi
 simp only at *
 subst h0
 obtain rfl : bad = false := by
  cases bad with
  | false => rfl
  | true => have := b rfl; omega
 have hy1 : Blk w y 122 [i64 t, i64 s, i64 g, i64 l, i64 r, i64 k, .slice PA pn pc, .slice LA ln lc, i64 nd, i64 n, i64 st, i64 (0), i64 (had), i64 (saw), i64 (extra), i64 0, i64 0, .bool false, i64 0] := hy
 have qy := hy1.k19
 have HY := hid hy1
 have HM := hid hm
 have HAV := hid hav
 have HLE := hid hle
 clear hy hy1 hm b nx hav hle
 by_cases c : n ≤ rd W le
 · have e : pNext av le n l ⟨W, L, 0, had, saw, extra, false⟩ = ⟨W, L ++ [⟨1, le, rd W le, 0, false⟩], 1, rd W le, saw, extra, false⟩ := by simp [pNext, c]
   rw [e]
   clear e
   go_enter Tryz.func51, Tryz.ntmps51
   go_wp2_with fail
   apply wp_region_text (WI := fun S wx => Keep0 w wx) (by kernel_rfl) (by kernel_rfl)
   case hob =>
    iterate 12
     apply Oblig.cons
     case h =>
      intro S w1 hwi hSi hd hcl
      apply StepOk.intro
      intro K hK
      have qy3 := (hwi.blk HY.out (fun h => h)).k19
      go_simp
      apply hK
      · rfl
      · conv => (lhs; whnf)
      · exact hwi
     simp only [put_lit, put_none]
     try dsimp only [List.set_cons_succ, List.set_cons_zero]
    apply Oblig.cons
    case h =>
     intro S w1 hwi hSi hd hcl
     apply StepOk.intro
     intro K hK
     have qy3 := (hwi.blk HY.out (fun h => h)).k19
     go_simp
     refine (show Calls Tryz.prog 90 #[.agg #[i64 t, i64 s, i64 g, i64 l, i64 r, i64 k, .slice PA pn pc, .slice LA ln lc], i64 nd, i64 st] w1 (Ret (i64 le) w1) from by have h := ref_Lease t s g l r k PA pn pc LA ln lc nd st w1 hs0 hs1 hv0 hv1 hu0 hu1; rw [← HLE.out] at h; exact h).mono ?_
     rintro e w2 ⟨rfl, hk⟩
     apply hK
     · rfl
     · conv => (lhs; whnf)
     · exact Keep0.step hwi hk
    simp only [put_lit, put_none]
    try dsimp only [List.set_cons_succ, List.set_cons_zero]
    apply Oblig.cons
    case h =>
     intro S w1 hwi hSi hd hcl
     apply StepOk.intro
     intro K hK
     have qy3 := (hwi.blk HY.out (fun h => h)).k19
     go_simp
     apply hK
     · rfl
     · conv => (lhs; whnf)
     · exact hwi
    simp only [put_lit, put_none]
    try dsimp only [List.set_cons_succ, List.set_cons_zero]
    exact Oblig.nil
   case h0 =>
    exact (Keep.refl _ _).drew
   case hend =>
    intro S wx hwi hall
    obtain ⟨w1, rfl⟩ : ∃ w1 : World, w1 = wx := ⟨_, rfl⟩
    have HY1 := hid (hwi.blk HY.out (fun h => h))
    have HM1 := hid (HM.out.keep hwi (fun _ _ h => h))
    have HK1 := hid hwi
    have qy1 := HY1.out.k19
    clear hwi hall HY HM qy
    go_wp2_with fail
    apply wp_region_text (WI := fun S wx => Keep0 w1 wx) (by kernel_rfl) (by kernel_rfl)
    case hob =>
     iterate 8
      apply Oblig.cons
      case h =>
       intro S w1 hwi hSi hd hcl
       apply StepOk.intro
       intro K hK
       have qy3 := (hwi.blk HY1.out (fun h => h)).k19
       go_simp
       apply hK
       · rfl
       · conv => (lhs; whnf)
       · exact hwi
      simp only [put_lit, put_none]
      try dsimp only [List.set_cons_succ, List.set_cons_zero]
     apply Oblig.cons
     case h =>
      intro S w1 hwi hSi hd hcl
      apply StepOk.intro
      intro K hK
      have qy3 := (hwi.blk HY1.out (fun h => h)).k19
      go_simp
      refine (show Calls Tryz.prog 54 #[.agg #[i64 t, i64 s, i64 g, i64 l, i64 r, i64 k, .slice PA pn pc, .slice LA ln lc], i64 nd] w1 (Ret (i64 av) w1) from by have h := ref_Avail t s g l r k PA pn pc LA ln lc nd w1 hs0 hs1 hv0 hv1; rw [← HAV.out] at h; exact h).mono ?_
      rintro e w2 ⟨rfl, hk⟩
      apply hK
      · rfl
      · conv => (lhs; whnf)
      · exact Keep0.step hwi hk
     simp only [put_lit, put_none]
     try dsimp only [List.set_cons_succ, List.set_cons_zero]
     apply Oblig.cons
     case h =>
      intro S w1 hwi hSi hd hcl
      apply StepOk.intro
      intro K hK
      have qy3 := (hwi.blk HY1.out (fun h => h)).k19
      go_simp
      apply hK
      · rfl
      · conv => (lhs; whnf)
      · exact hwi
     simp only [put_lit, put_none]
     try dsimp only [List.set_cons_succ, List.set_cons_zero]
     exact Oblig.nil
    case h0 =>
     exact (Keep.refl _ _).drew
    case hend =>
     intro S wx hwi hall
     obtain ⟨w2, rfl⟩ : ∃ w2 : World, w2 = wx := ⟨_, rfl⟩
     have HY2 := hid (hwi.blk HY1.out (fun h => h))
     have HM2 := hid (HM1.out.keep hwi (fun _ _ h => h))
     have HK2 := hid (HK1.out.trans hwi (fun _ _ h => h))
     have qy2 := HY2.out.k19
     clear hwi hall HY1 HM1 HK1 qy1
     go_wp2_with fail
     refine (ref_LoadN le HM2.out (by omega) hL).mono ?_
     rintro e w3 ⟨rfl, A3, c3, lv3, hm, hk, ha, hl⟩
     have hb := hk.blk HY2.out (ry_far HM2.out HY2.out)
     have HK3 := hid ((HK2.out.mono (T := fun b => b = m ∨ lv.ownBlock = some b) (fun _ h => h.elim)).trans hk (fun _ _ h => h))
     have HM3 := hid hm
     have HY3 := hid hb
     have HA3 := hid (fun b h => (ha b h).imp id (fun h => Nat.le_trans HK2.out.size h))
     have HL3 := hid (fun b h => (hl b h).imp id (fun h => Nat.le_trans HK2.out.size h))
     have qy3 := hb.k19
     clear hm hk ha hl hb HK2 HM2 HY2 qy2
     go_wp2_with fail
     have HY4 := hid (show Blk (((w3).setCell ⟨y, 12, none⟩ (i64 (rd W le))).setCell ⟨y, 11, none⟩ (i64 (2))) y 122 [i64 t, i64 s, i64 g, i64 l, i64 r, i64 k, .slice PA pn pc, .slice LA ln lc, i64 nd, i64 n, i64 st, i64 (2), i64 (rd W le), i64 (saw), i64 (extra), i64 0, i64 0, .bool false, i64 0] from (((HY3.out).set 12 _).set 11 _))
     have HKY4 := hid (show Keep (fun k => k = y) w3 (((w3).setCell ⟨y, 12, none⟩ (i64 (rd W le))).setCell ⟨y, 11, none⟩ (i64 (2))) from ((((Keep.refl (fun k => k = y) w3)).set ⟨y, 12, none⟩ _ (fun _ => rfl)).set ⟨y, 11, none⟩ _ (fun _ => rfl)))
     clear qy3
     generalize ((w3).setCell ⟨y, 12, none⟩ (i64 (rd W le))).setCell ⟨y, 11, none⟩ (i64 (2)) = w4 at *
     have qy4 := HY4.out.k19
     go_region
     go_wp2_with fail
     go_ret
     exact rpoolP_of (x' := _) (e' := _) HM3.out HK3.out HA3.out HL3.out HY3.out (HKY4.out.trans ((((Keep.refl (fun k => k = y) w4)).drew).set ⟨y, 11, none⟩ _ (fun _ => rfl)) (fun _ _ h => h)) (((HY4.out).drew).set 11 _) (fun _ => rfl)
 · have e : pNext av le n l ⟨W, L, 0, had, saw, extra, false⟩ = ⟨W, L ++ [⟨1, le, rd W le, 0, false⟩], 2, rd W le, saw, extra, false⟩ := by simp [pNext, c]
   rw [e]
   clear e
   go_enter Tryz.func51, Tryz.ntmps51
   go_wp2_with fail
   apply wp_region_text (WI := fun S wx => Keep0 w wx) (by kernel_rfl) (by kernel_rfl)
   case hob =>
    iterate 12
     apply Oblig.cons
     case h =>
      intro S w1 hwi hSi hd hcl
      apply StepOk.intro
      intro K hK
      have qy3 := (hwi.blk HY.out (fun h => h)).k19
      go_simp
      apply hK
      · rfl
      · conv => (lhs; whnf)
      · exact hwi
     simp only [put_lit, put_none]
     try dsimp only [List.set_cons_succ, List.set_cons_zero]
    apply Oblig.cons
    case h =>
     intro S w1 hwi hSi hd hcl
     apply StepOk.intro
     intro K hK
     have qy3 := (hwi.blk HY.out (fun h => h)).k19
     go_simp
     refine (show Calls Tryz.prog 90 #[.agg #[i64 t, i64 s, i64 g, i64 l, i64 r, i64 k, .slice PA pn pc, .slice LA ln lc], i64 nd, i64 st] w1 (Ret (i64 le) w1) from by have h := ref_Lease t s g l r k PA pn pc LA ln lc nd st w1 hs0 hs1 hv0 hv1 hu0 hu1; rw [← HLE.out] at h; exact h).mono ?_
     rintro e w2 ⟨rfl, hk⟩
     apply hK
     · rfl
     · conv => (lhs; whnf)
     · exact Keep0.step hwi hk
    simp only [put_lit, put_none]
    try dsimp only [List.set_cons_succ, List.set_cons_zero]
    apply Oblig.cons
    case h =>
     intro S w1 hwi hSi hd hcl
     apply StepOk.intro
     intro K hK
     have qy3 := (hwi.blk HY.out (fun h => h)).k19
     go_simp
     apply hK
     · rfl
     · conv => (lhs; whnf)
     · exact hwi
    simp only [put_lit, put_none]
    try dsimp only [List.set_cons_succ, List.set_cons_zero]
    exact Oblig.nil
   case h0 =>
    exact (Keep.refl _ _).drew
   case hend =>
    intro S wx hwi hall
    obtain ⟨w1, rfl⟩ : ∃ w1 : World, w1 = wx := ⟨_, rfl⟩
    have HY1 := hid (hwi.blk HY.out (fun h => h))
    have HM1 := hid (HM.out.keep hwi (fun _ _ h => h))
    have HK1 := hid hwi
    have qy1 := HY1.out.k19
    clear hwi hall HY HM qy
    go_wp2_with fail
    apply wp_region_text (WI := fun S wx => Keep0 w1 wx) (by kernel_rfl) (by kernel_rfl)
    case hob =>
     iterate 8
      apply Oblig.cons
      case h =>
       intro S w1 hwi hSi hd hcl
       apply StepOk.intro
       intro K hK
       have qy3 := (hwi.blk HY1.out (fun h => h)).k19
       go_simp
       apply hK
       · rfl
       · conv => (lhs; whnf)
       · exact hwi
      simp only [put_lit, put_none]
      try dsimp only [List.set_cons_succ, List.set_cons_zero]
     apply Oblig.cons
     case h =>
      intro S w1 hwi hSi hd hcl
      apply StepOk.intro
      intro K hK
      have qy3 := (hwi.blk HY1.out (fun h => h)).k19
      go_simp
      refine (show Calls Tryz.prog 54 #[.agg #[i64 t, i64 s, i64 g, i64 l, i64 r, i64 k, .slice PA pn pc, .slice LA ln lc], i64 nd] w1 (Ret (i64 av) w1) from by have h := ref_Avail t s g l r k PA pn pc LA ln lc nd w1 hs0 hs1 hv0 hv1; rw [← HAV.out] at h; exact h).mono ?_
      rintro e w2 ⟨rfl, hk⟩
      apply hK
      · rfl
      · conv => (lhs; whnf)
      · exact Keep0.step hwi hk
     simp only [put_lit, put_none]
     try dsimp only [List.set_cons_succ, List.set_cons_zero]
     apply Oblig.cons
     case h =>
      intro S w1 hwi hSi hd hcl
      apply StepOk.intro
      intro K hK
      have qy3 := (hwi.blk HY1.out (fun h => h)).k19
      go_simp
      apply hK
      · rfl
      · conv => (lhs; whnf)
      · exact hwi
     simp only [put_lit, put_none]
     try dsimp only [List.set_cons_succ, List.set_cons_zero]
     exact Oblig.nil
    case h0 =>
     exact (Keep.refl _ _).drew
    case hend =>
     intro S wx hwi hall
     obtain ⟨w2, rfl⟩ : ∃ w2 : World, w2 = wx := ⟨_, rfl⟩
     have HY2 := hid (hwi.blk HY1.out (fun h => h))
     have HM2 := hid (HM1.out.keep hwi (fun _ _ h => h))
     have HK2 := hid (HK1.out.trans hwi (fun _ _ h => h))
     have qy2 := HY2.out.k19
     clear hwi hall HY1 HM1 HK1 qy1
     go_wp2_with fail
     refine (ref_LoadN le HM2.out (by omega) hL).mono ?_
     rintro e w3 ⟨rfl, A3, c3, lv3, hm, hk, ha, hl⟩
     have hb := hk.blk HY2.out (ry_far HM2.out HY2.out)
     have HK3 := hid ((HK2.out.mono (T := fun b => b = m ∨ lv.ownBlock = some b) (fun _ h => h.elim)).trans hk (fun _ _ h => h))
     have HM3 := hid hm
     have HY3 := hid hb
     have HA3 := hid (fun b h => (ha b h).imp id (fun h => Nat.le_trans HK2.out.size h))
     have HL3 := hid (fun b h => (hl b h).imp id (fun h => Nat.le_trans HK2.out.size h))
     have qy3 := hb.k19
     clear hm hk ha hl hb HK2 HM2 HY2 qy2
     go_wp2_with fail
     have HY4 := hid (show Blk (((w3).setCell ⟨y, 12, none⟩ (i64 (rd W le))).setCell ⟨y, 11, none⟩ (i64 (2))) y 122 [i64 t, i64 s, i64 g, i64 l, i64 r, i64 k, .slice PA pn pc, .slice LA ln lc, i64 nd, i64 n, i64 st, i64 (2), i64 (rd W le), i64 (saw), i64 (extra), i64 0, i64 0, .bool false, i64 0] from (((HY3.out).set 12 _).set 11 _))
     have HKY4 := hid (show Keep (fun k => k = y) w3 (((w3).setCell ⟨y, 12, none⟩ (i64 (rd W le))).setCell ⟨y, 11, none⟩ (i64 (2))) from ((((Keep.refl (fun k => k = y) w3)).set ⟨y, 12, none⟩ _ (fun _ => rfl)).set ⟨y, 11, none⟩ _ (fun _ => rfl)))
     clear qy3
     generalize ((w3).setCell ⟨y, 12, none⟩ (i64 (rd W le))).setCell ⟨y, 11, none⟩ (i64 (2)) = w4 at *
     have qy4 := HY4.out.k19
     go_region
     go_wp2_with fail
     go_ret
     exact rpoolP_of (x' := _) (e' := _) HM3.out HK3.out HA3.out HL3.out HY3.out (HKY4.out.trans (((Keep.refl (fun k => k = y) w4)).drew) (fun _ _ h => h)) ((HY4.out).drew) (fun _ => rfl)
set_option maxHeartbeats 4000000 in
theorem rpool_step4 (x : PS) (hm : RefAt B w m A ca lv x.W x.L) (hy : Blk w y 122 (rcs t s g l r k PA pn pc LA ln lc nd n st x x.extra)) (hi : PInv av le n l X x) (h0 : x.next = 4) (hX : X ≤ 4398046511104) (hL : x.L.length ≤ 1000000000) (hW : x.W.length ≤ 1000000) (hs0 : 1 ≤ s) (hs1 : s ≤ 8) (hv0 : 0 ≤ nd) (hv1 : nd ≤ 1000) (hu0 : 0 ≤ st) (hu1 : st ≤ 1000) (hav : (av : Int) = nd * (6 + 2 * s) + 1) (hle : (le : Int) = nd * (6 + 2 * s) + 2 + st) :
 Calls Tryz.prog 51 #[ptr y, ptr m] w (RPoolP B w m A lv y t s g l r k PA pn pc LA ln lc nd n st (pNext av le n l x)) := by
 obtain ⟨W, L, next, had, saw, extra, bad⟩ := x
 obtain ⟨la, ll, ne, n1, m1, wl, wa, nx, s1, s3, s4, s5, b⟩ := hi
 simp only at *
 subst h0
 obtain rfl : bad = false := by
  cases bad with
  | false => rfl
  | true => have := b rfl; omega
 have hy1 : Blk w y 122 [i64 t, i64 s, i64 g, i64 l, i64 r, i64 k, .slice PA pn pc, .slice LA ln lc, i64 nd, i64 n, i64 st, i64 (4), i64 (had), i64 (saw), i64 (extra), i64 0, i64 0, .bool false, i64 0] := hy
 have qy := hy1.k19
 have HY := hid hy1
 have HM := hid hm
 have HAV := hid hav
 have HLE := hid hle
 clear hy hy1 hm b nx hav hle
 have hx := s4 (Or.inl rfl)
 have hyy : IntKind.i64.wrap (rd W le + extra) = rd W le + extra := IntWalk.i64_in _ (by omega)
 clear s4
 by_cases c : rd W le + extra ≤ l
 · have e : pNext av le n l ⟨W, L, 4, had, saw, extra, false⟩ = ⟨W, L ++ [⟨1, le, rd W le, 0, false⟩], 5, rd W le, saw, extra, false⟩ := by simp [pNext, c]
   rw [e]
   clear e
   go_enter Tryz.func51, Tryz.ntmps51
   go_wp2_with fail
   apply wp_region_text (WI := fun S wx => Keep0 w wx) (by kernel_rfl) (by kernel_rfl)
   case hob =>
    iterate 12
     apply Oblig.cons
     case h =>
      intro S w1 hwi hSi hd hcl
      apply StepOk.intro
      intro K hK
      have qy3 := (hwi.blk HY.out (fun h => h)).k19
      go_simp
      apply hK
      · rfl
      · conv => (lhs; whnf)
      · exact hwi
     simp only [put_lit, put_none]
     try dsimp only [List.set_cons_succ, List.set_cons_zero]
    apply Oblig.cons
    case h =>
     intro S w1 hwi hSi hd hcl
     apply StepOk.intro
     intro K hK
     have qy3 := (hwi.blk HY.out (fun h => h)).k19
     go_simp
     refine (show Calls Tryz.prog 90 #[.agg #[i64 t, i64 s, i64 g, i64 l, i64 r, i64 k, .slice PA pn pc, .slice LA ln lc], i64 nd, i64 st] w1 (Ret (i64 le) w1) from by have h := ref_Lease t s g l r k PA pn pc LA ln lc nd st w1 hs0 hs1 hv0 hv1 hu0 hu1; rw [← HLE.out] at h; exact h).mono ?_
     rintro e w2 ⟨rfl, hk⟩
     apply hK
     · rfl
     · conv => (lhs; whnf)
     · exact Keep0.step hwi hk
    simp only [put_lit, put_none]
    try dsimp only [List.set_cons_succ, List.set_cons_zero]
    apply Oblig.cons
    case h =>
     intro S w1 hwi hSi hd hcl
     apply StepOk.intro
     intro K hK
     have qy3 := (hwi.blk HY.out (fun h => h)).k19
     go_simp
     apply hK
     · rfl
     · conv => (lhs; whnf)
     · exact hwi
    simp only [put_lit, put_none]
    try dsimp only [List.set_cons_succ, List.set_cons_zero]
    exact Oblig.nil
   case h0 =>
    exact (Keep.refl _ _).drew
   case hend =>
    intro S wx hwi hall
    obtain ⟨w1, rfl⟩ : ∃ w1 : World, w1 = wx := ⟨_, rfl⟩
    have HY1 := hid (hwi.blk HY.out (fun h => h))
    have HM1 := hid (HM.out.keep hwi (fun _ _ h => h))
    have HK1 := hid hwi
    have qy1 := HY1.out.k19
    clear hwi hall HY HM qy
    go_wp2_with fail
    apply wp_region_text (WI := fun S wx => Keep0 w1 wx) (by kernel_rfl) (by kernel_rfl)
    case hob =>
     iterate 8
      apply Oblig.cons
      case h =>
       intro S w1 hwi hSi hd hcl
       apply StepOk.intro
       intro K hK
       have qy3 := (hwi.blk HY1.out (fun h => h)).k19
       go_simp
       apply hK
       · rfl
       · conv => (lhs; whnf)
       · exact hwi
      simp only [put_lit, put_none]
      try dsimp only [List.set_cons_succ, List.set_cons_zero]
     apply Oblig.cons
     case h =>
      intro S w1 hwi hSi hd hcl
      apply StepOk.intro
      intro K hK
      have qy3 := (hwi.blk HY1.out (fun h => h)).k19
      go_simp
      refine (show Calls Tryz.prog 54 #[.agg #[i64 t, i64 s, i64 g, i64 l, i64 r, i64 k, .slice PA pn pc, .slice LA ln lc], i64 nd] w1 (Ret (i64 av) w1) from by have h := ref_Avail t s g l r k PA pn pc LA ln lc nd w1 hs0 hs1 hv0 hv1; rw [← HAV.out] at h; exact h).mono ?_
      rintro e w2 ⟨rfl, hk⟩
      apply hK
      · rfl
      · conv => (lhs; whnf)
      · exact Keep0.step hwi hk
     simp only [put_lit, put_none]
     try dsimp only [List.set_cons_succ, List.set_cons_zero]
     apply Oblig.cons
     case h =>
      intro S w1 hwi hSi hd hcl
      apply StepOk.intro
      intro K hK
      have qy3 := (hwi.blk HY1.out (fun h => h)).k19
      go_simp
      apply hK
      · rfl
      · conv => (lhs; whnf)
      · exact hwi
     simp only [put_lit, put_none]
     try dsimp only [List.set_cons_succ, List.set_cons_zero]
     exact Oblig.nil
    case h0 =>
     exact (Keep.refl _ _).drew
    case hend =>
     intro S wx hwi hall
     obtain ⟨w2, rfl⟩ : ∃ w2 : World, w2 = wx := ⟨_, rfl⟩
     have HY2 := hid (hwi.blk HY1.out (fun h => h))
     have HM2 := hid (HM1.out.keep hwi (fun _ _ h => h))
     have HK2 := hid (HK1.out.trans hwi (fun _ _ h => h))
     have qy2 := HY2.out.k19
     clear hwi hall HY1 HM1 HK1 qy1
     go_wp2_with fail
     refine (ref_LoadN le HM2.out (by omega) hL).mono ?_
     rintro e w3 ⟨rfl, A3, c3, lv3, hm, hk, ha, hl⟩
     have hb := hk.blk HY2.out (ry_far HM2.out HY2.out)
     have HK3 := hid ((HK2.out.mono (T := fun b => b = m ∨ lv.ownBlock = some b) (fun _ h => h.elim)).trans hk (fun _ _ h => h))
     have HM3 := hid hm
     have HY3 := hid hb
     have HA3 := hid (fun b h => (ha b h).imp id (fun h => Nat.le_trans HK2.out.size h))
     have HL3 := hid (fun b h => (hl b h).imp id (fun h => Nat.le_trans HK2.out.size h))
     have qy3 := hb.k19
     clear hm hk ha hl hb HK2 HM2 HY2 qy2
     go_wp2_with fail
     have HY4 := hid (show Blk (((w3).setCell ⟨y, 12, none⟩ (i64 (rd W le))).setCell ⟨y, 11, none⟩ (i64 (6))) y 122 [i64 t, i64 s, i64 g, i64 l, i64 r, i64 k, .slice PA pn pc, .slice LA ln lc, i64 nd, i64 n, i64 st, i64 (6), i64 (rd W le), i64 (saw), i64 (extra), i64 0, i64 0, .bool false, i64 0] from (((HY3.out).set 12 _).set 11 _))
     have HKY4 := hid (show Keep (fun k => k = y) w3 (((w3).setCell ⟨y, 12, none⟩ (i64 (rd W le))).setCell ⟨y, 11, none⟩ (i64 (6))) from ((((Keep.refl (fun k => k = y) w3)).set ⟨y, 12, none⟩ _ (fun _ => rfl)).set ⟨y, 11, none⟩ _ (fun _ => rfl)))
     clear qy3
     generalize ((w3).setCell ⟨y, 12, none⟩ (i64 (rd W le))).setCell ⟨y, 11, none⟩ (i64 (6)) = w4 at *
     have qy4 := HY4.out.k19
     go_region
     go_wp2_with fail
     go_ret
     exact rpoolP_of (x' := _) (e' := _) HM3.out HK3.out HA3.out HL3.out HY3.out (HKY4.out.trans ((((Keep.refl (fun k => k = y) w4)).drew).set ⟨y, 11, none⟩ _ (fun _ => rfl)) (fun _ _ h => h)) (((HY4.out).drew).set 11 _) (fun _ => rfl)
 · have e : pNext av le n l ⟨W, L, 4, had, saw, extra, false⟩ = ⟨W, L ++ [⟨1, le, rd W le, 0, false⟩], 6, rd W le, saw, extra, false⟩ := by simp [pNext, c]
   rw [e]
   clear e
   go_enter Tryz.func51, Tryz.ntmps51
   go_wp2_with fail
   apply wp_region_text (WI := fun S wx => Keep0 w wx) (by kernel_rfl) (by kernel_rfl)
   case hob =>
    iterate 12
     apply Oblig.cons
     case h =>
      intro S w1 hwi hSi hd hcl
      apply StepOk.intro
      intro K hK
      have qy3 := (hwi.blk HY.out (fun h => h)).k19
      go_simp
      apply hK
      · rfl
      · conv => (lhs; whnf)
      · exact hwi
     simp only [put_lit, put_none]
     try dsimp only [List.set_cons_succ, List.set_cons_zero]
    apply Oblig.cons
    case h =>
     intro S w1 hwi hSi hd hcl
     apply StepOk.intro
     intro K hK
     have qy3 := (hwi.blk HY.out (fun h => h)).k19
     go_simp
     refine (show Calls Tryz.prog 90 #[.agg #[i64 t, i64 s, i64 g, i64 l, i64 r, i64 k, .slice PA pn pc, .slice LA ln lc], i64 nd, i64 st] w1 (Ret (i64 le) w1) from by have h := ref_Lease t s g l r k PA pn pc LA ln lc nd st w1 hs0 hs1 hv0 hv1 hu0 hu1; rw [← HLE.out] at h; exact h).mono ?_
     rintro e w2 ⟨rfl, hk⟩
     apply hK
     · rfl
     · conv => (lhs; whnf)
     · exact Keep0.step hwi hk
    simp only [put_lit, put_none]
    try dsimp only [List.set_cons_succ, List.set_cons_zero]
    apply Oblig.cons
    case h =>
     intro S w1 hwi hSi hd hcl
     apply StepOk.intro
     intro K hK
     have qy3 := (hwi.blk HY.out (fun h => h)).k19
     go_simp
     apply hK
     · rfl
     · conv => (lhs; whnf)
     · exact hwi
    simp only [put_lit, put_none]
    try dsimp only [List.set_cons_succ, List.set_cons_zero]
    exact Oblig.nil
   case h0 =>
    exact (Keep.refl _ _).drew
   case hend =>
    intro S wx hwi hall
    obtain ⟨w1, rfl⟩ : ∃ w1 : World, w1 = wx := ⟨_, rfl⟩
    have HY1 := hid (hwi.blk HY.out (fun h => h))
    have HM1 := hid (HM.out.keep hwi (fun _ _ h => h))
    have HK1 := hid hwi
    have qy1 := HY1.out.k19
    clear hwi hall HY HM qy
    go_wp2_with fail
    apply wp_region_text (WI := fun S wx => Keep0 w1 wx) (by kernel_rfl) (by kernel_rfl)
    case hob =>
     iterate 8
      apply Oblig.cons
      case h =>
       intro S w1 hwi hSi hd hcl
       apply StepOk.intro
       intro K hK
       have qy3 := (hwi.blk HY1.out (fun h => h)).k19
       go_simp
       apply hK
       · rfl
       · conv => (lhs; whnf)
       · exact hwi
      simp only [put_lit, put_none]
      try dsimp only [List.set_cons_succ, List.set_cons_zero]
     apply Oblig.cons
     case h =>
      intro S w1 hwi hSi hd hcl
      apply StepOk.intro
      intro K hK
      have qy3 := (hwi.blk HY1.out (fun h => h)).k19
      go_simp
      refine (show Calls Tryz.prog 54 #[.agg #[i64 t, i64 s, i64 g, i64 l, i64 r, i64 k, .slice PA pn pc, .slice LA ln lc], i64 nd] w1 (Ret (i64 av) w1) from by have h := ref_Avail t s g l r k PA pn pc LA ln lc nd w1 hs0 hs1 hv0 hv1; rw [← HAV.out] at h; exact h).mono ?_
      rintro e w2 ⟨rfl, hk⟩
      apply hK
      · rfl
      · conv => (lhs; whnf)
      · exact Keep0.step hwi hk
     simp only [put_lit, put_none]
     try dsimp only [List.set_cons_succ, List.set_cons_zero]
     apply Oblig.cons
     case h =>
      intro S w1 hwi hSi hd hcl
      apply StepOk.intro
      intro K hK
      have qy3 := (hwi.blk HY1.out (fun h => h)).k19
      go_simp
      apply hK
      · rfl
      · conv => (lhs; whnf)
      · exact hwi
     simp only [put_lit, put_none]
     try dsimp only [List.set_cons_succ, List.set_cons_zero]
     exact Oblig.nil
    case h0 =>
     exact (Keep.refl _ _).drew
    case hend =>
     intro S wx hwi hall
     obtain ⟨w2, rfl⟩ : ∃ w2 : World, w2 = wx := ⟨_, rfl⟩
     have HY2 := hid (hwi.blk HY1.out (fun h => h))
     have HM2 := hid (HM1.out.keep hwi (fun _ _ h => h))
     have HK2 := hid (HK1.out.trans hwi (fun _ _ h => h))
     have qy2 := HY2.out.k19
     clear hwi hall HY1 HM1 HK1 qy1
     go_wp2_with fail
     refine (ref_LoadN le HM2.out (by omega) hL).mono ?_
     rintro e w3 ⟨rfl, A3, c3, lv3, hm, hk, ha, hl⟩
     have hb := hk.blk HY2.out (ry_far HM2.out HY2.out)
     have HK3 := hid ((HK2.out.mono (T := fun b => b = m ∨ lv.ownBlock = some b) (fun _ h => h.elim)).trans hk (fun _ _ h => h))
     have HM3 := hid hm
     have HY3 := hid hb
     have HA3 := hid (fun b h => (ha b h).imp id (fun h => Nat.le_trans HK2.out.size h))
     have HL3 := hid (fun b h => (hl b h).imp id (fun h => Nat.le_trans HK2.out.size h))
     have qy3 := hb.k19
     clear hm hk ha hl hb HK2 HM2 HY2 qy2
     go_wp2_with fail
     have HY4 := hid (show Blk (((w3).setCell ⟨y, 12, none⟩ (i64 (rd W le))).setCell ⟨y, 11, none⟩ (i64 (6))) y 122 [i64 t, i64 s, i64 g, i64 l, i64 r, i64 k, .slice PA pn pc, .slice LA ln lc, i64 nd, i64 n, i64 st, i64 (6), i64 (rd W le), i64 (saw), i64 (extra), i64 0, i64 0, .bool false, i64 0] from (((HY3.out).set 12 _).set 11 _))
     have HKY4 := hid (show Keep (fun k => k = y) w3 (((w3).setCell ⟨y, 12, none⟩ (i64 (rd W le))).setCell ⟨y, 11, none⟩ (i64 (6))) from ((((Keep.refl (fun k => k = y) w3)).set ⟨y, 12, none⟩ _ (fun _ => rfl)).set ⟨y, 11, none⟩ _ (fun _ => rfl)))
     clear qy3
     generalize ((w3).setCell ⟨y, 12, none⟩ (i64 (rd W le))).setCell ⟨y, 11, none⟩ (i64 (6)) = w4 at *
     have qy4 := HY4.out.k19
     go_region
     go_wp2_with fail
     go_ret
     exact rpoolP_of (x' := _) (e' := _) HM3.out HK3.out HA3.out HL3.out HY3.out (HKY4.out.trans (((Keep.refl (fun k => k = y) w4)).drew) (fun _ _ h => h)) ((HY4.out).drew) (fun _ => rfl)
end
end Go.Proofs.YthaceckccobgeaaGreat

namespace Go.Proofs.YthaceckccobgeaaGreat
open Go.RowKit
set_option linter.unusedVariables false
set_option linter.unusedSimpArgs false
set_option maxRecDepth 100000
section
variable {B : Nat} {w : World} {m y : Nat} {A : Option Addr} {ca : Nat} {lv : Value} {av le : Nat} {t s g l r k nd n st X : Int} {PA : Option Addr} {pn pc : Nat} {LA : Option Addr} {ln lc : Nat}
set_option maxHeartbeats 4000000 in
theorem rpool_step1 (x : PS) (hm : RefAt B w m A ca lv x.W x.L) (hy : Blk w y 122 (rcs t s g l r k PA pn pc LA ln lc nd n st x x.extra)) (hi : PInv av le n l X x) (h0 : x.next = 1) (hX : X ≤ 4398046511104) (hL : x.L.length ≤ 1000000000) (hW : x.W.length ≤ 1000000) (hs0 : 1 ≤ s) (hs1 : s ≤ 8) (hv0 : 0 ≤ nd) (hv1 : nd ≤ 1000) (hu0 : 0 ≤ st) (hu1 : st ≤ 1000) (hav : (av : Int) = nd * (6 + 2 * s) + 1) (hle : (le : Int) = nd * (6 + 2 * s) + 2 + st) :
 Calls Tryz.prog 51 #[ptr y, ptr m] w (RPoolP B w m A lv y t s g l r k PA pn pc LA ln lc nd n st (pNext av le n l x)) := by
 obtain ⟨W, L, next, had, saw, extra, bad⟩ := x
 obtain ⟨la, ll, ne, n1, m1, wl, wa, nx, s1, s3, s4, s5, b⟩ := hi
 simp only at *
 subst h0
 obtain rfl : bad = false := by
  cases bad with
  | false => rfl
  | true => have := b rfl; omega
 have hy1 : Blk w y 122 [i64 t, i64 s, i64 g, i64 l, i64 r, i64 k, .slice PA pn pc, .slice LA ln lc, i64 nd, i64 n, i64 st, i64 (1), i64 (had), i64 (saw), i64 (extra), i64 0, i64 0, .bool false, i64 0] := hy
 have qy := hy1.k19
 have HY := hid hy1
 have HM := hid hm
 have HAV := hid hav
 have HLE := hid hle
 clear hy hy1 hm b nx hav hle
 have hyy : IntKind.i64.wrap (had - n) = had - n := IntWalk.i64_in _ (by have := s1 rfl; omega)
 clear s1 s3 s4 s5
 by_cases c : rd W le = had
 · have hcb : (rd W le == had) = true := by simpa using c
   have e : pNext av le n l ⟨W, L, 1, had, saw, extra, false⟩ = ⟨casW W le had (had - n), L ++ [⟨3, le, had, had - n, true⟩], 7, had, saw, extra, false⟩ := by simp [pNext, c]
   rw [e]
   clear e
   go_enter Tryz.func51, Tryz.ntmps51
   go_wp2_with fail
   apply wp_region_text (WI := fun S wx => Keep0 w wx) (by kernel_rfl) (by kernel_rfl)
   case hob =>
    iterate 12
     apply Oblig.cons
     case h =>
      intro S w1 hwi hSi hd hcl
      apply StepOk.intro
      intro K hK
      have qy3 := (hwi.blk HY.out (fun h => h)).k19
      go_simp
      apply hK
      · rfl
      · conv => (lhs; whnf)
      · exact hwi
     simp only [put_lit, put_none]
     try dsimp only [List.set_cons_succ, List.set_cons_zero]
    apply Oblig.cons
    case h =>
     intro S w1 hwi hSi hd hcl
     apply StepOk.intro
     intro K hK
     have qy3 := (hwi.blk HY.out (fun h => h)).k19
     go_simp
     refine (show Calls Tryz.prog 90 #[.agg #[i64 t, i64 s, i64 g, i64 l, i64 r, i64 k, .slice PA pn pc, .slice LA ln lc], i64 nd, i64 st] w1 (Ret (i64 le) w1) from by have h := ref_Lease t s g l r k PA pn pc LA ln lc nd st w1 hs0 hs1 hv0 hv1 hu0 hu1; rw [← HLE.out] at h; exact h).mono ?_
     rintro e w2 ⟨rfl, hk⟩
     apply hK
     · rfl
     · conv => (lhs; whnf)
     · exact Keep0.step hwi hk
    simp only [put_lit, put_none]
    try dsimp only [List.set_cons_succ, List.set_cons_zero]
    apply Oblig.cons
    case h =>
     intro S w1 hwi hSi hd hcl
     apply StepOk.intro
     intro K hK
     have qy3 := (hwi.blk HY.out (fun h => h)).k19
     go_simp
     apply hK
     · rfl
     · conv => (lhs; whnf)
     · exact hwi
    simp only [put_lit, put_none]
    try dsimp only [List.set_cons_succ, List.set_cons_zero]
    exact Oblig.nil
   case h0 =>
    exact (Keep.refl _ _).drew
   case hend =>
    intro S wx hwi hall
    obtain ⟨w1, rfl⟩ : ∃ w1 : World, w1 = wx := ⟨_, rfl⟩
    have HY1 := hid (hwi.blk HY.out (fun h => h))
    have HM1 := hid (HM.out.keep hwi (fun _ _ h => h))
    have HK1 := hid hwi
    have qy1 := HY1.out.k19
    clear hwi hall HY HM qy
    go_wp2_with fail
    apply wp_region_text (WI := fun S wx => Keep0 w1 wx) (by kernel_rfl) (by kernel_rfl)
    case hob =>
     iterate 8
      apply Oblig.cons
      case h =>
       intro S w1 hwi hSi hd hcl
       apply StepOk.intro
       intro K hK
       have qy3 := (hwi.blk HY1.out (fun h => h)).k19
       go_simp
       apply hK
       · rfl
       · conv => (lhs; whnf)
       · exact hwi
      simp only [put_lit, put_none]
      try dsimp only [List.set_cons_succ, List.set_cons_zero]
     apply Oblig.cons
     case h =>
      intro S w1 hwi hSi hd hcl
      apply StepOk.intro
      intro K hK
      have qy3 := (hwi.blk HY1.out (fun h => h)).k19
      go_simp
      refine (show Calls Tryz.prog 54 #[.agg #[i64 t, i64 s, i64 g, i64 l, i64 r, i64 k, .slice PA pn pc, .slice LA ln lc], i64 nd] w1 (Ret (i64 av) w1) from by have h := ref_Avail t s g l r k PA pn pc LA ln lc nd w1 hs0 hs1 hv0 hv1; rw [← HAV.out] at h; exact h).mono ?_
      rintro e w2 ⟨rfl, hk⟩
      apply hK
      · rfl
      · conv => (lhs; whnf)
      · exact Keep0.step hwi hk
     simp only [put_lit, put_none]
     try dsimp only [List.set_cons_succ, List.set_cons_zero]
     apply Oblig.cons
     case h =>
      intro S w1 hwi hSi hd hcl
      apply StepOk.intro
      intro K hK
      have qy3 := (hwi.blk HY1.out (fun h => h)).k19
      go_simp
      apply hK
      · rfl
      · conv => (lhs; whnf)
      · exact hwi
     simp only [put_lit, put_none]
     try dsimp only [List.set_cons_succ, List.set_cons_zero]
     exact Oblig.nil
    case h0 =>
     exact (Keep.refl _ _).drew
    case hend =>
     intro S wx hwi hall
     obtain ⟨w2, rfl⟩ : ∃ w2 : World, w2 = wx := ⟨_, rfl⟩
     have HY2 := hid (hwi.blk HY1.out (fun h => h))
     have HM2 := hid (HM1.out.keep hwi (fun _ _ h => h))
     have HK2 := hid (HK1.out.trans hwi (fun _ _ h => h))
     have qy2 := HY2.out.k19
     clear hwi hall HY1 HM1 HK1 qy1
     go_wp2_with fail
     have HY4 := hid (show Blk ((w2).setCell ⟨y, 11, none⟩ (i64 (0))) y 122 [i64 t, i64 s, i64 g, i64 l, i64 r, i64 k, .slice PA pn pc, .slice LA ln lc, i64 nd, i64 n, i64 st, i64 (0), i64 (had), i64 (saw), i64 (extra), i64 0, i64 0, .bool false, i64 0] from ((HY2.out).set 11 _))
     have HKY4 := hid (show Keep (fun k => k = y) w2 ((w2).setCell ⟨y, 11, none⟩ (i64 (0))) from (((Keep.refl (fun k => k = y) w2)).set ⟨y, 11, none⟩ _ (fun _ => rfl)))
     clear qy2
     generalize (w2).setCell ⟨y, 11, none⟩ (i64 (0)) = w4 at *
     have qy4 := HY4.out.k19
     have HM4 := hid (HM2.out.keep HKY4.out (fun b h => ry_far2 HM2.out HY2.out b h))
     have HK4 : Hid (Keep (fun b => (b = m ∨ lv.ownBlock = some b) ∨ b = y) w w4) := hid ((HK2.out.mono (fun _ h => h.elim)).trans (HKY4.out.mono (fun _ h => Or.inr h)) (fun _ _ h => h))
     clear HM2 HY2 HK2 HKY4
     apply wp_region_text (WI := fun S wx => Blk wx y 122 [i64 t, i64 s, i64 g, i64 l, i64 r, i64 k, .slice PA pn pc, .slice LA ln lc, i64 nd, i64 n, i64 st, i64 (0), i64 (had), i64 (saw), i64 (extra), i64 0, i64 0, .bool false, i64 0] ∧ (S 15 = false → RefAt B wx m A ca lv W L ∧ Keep0 w4 wx) ∧ (S 15 = true → RefPost B w4 m A lv (casW W le had (had - n)) (L ++ [⟨3, le, had, had - n, true⟩]) wx)) (by kernel_rfl) (by kernel_rfl)
     case hob =>
      iterate 15
       apply Oblig.cons
       case h =>
        intro S w1 hwi hSi hd hcl
        apply StepOk.intro
        intro K hK
        have qy5 := hwi.1.k19
        go_simp
        apply hK
        · rfl
        · conv => (lhs; whnf)
        · exact hwi
       simp only [put_lit, put_none]
       try dsimp only [List.set_cons_succ, List.set_cons_zero]
      apply Oblig.cons
      case h =>
       intro S w1 hwi hSi hd hcl
       apply StepOk.intro
       intro K hK
       have qy5 := hwi.1.k19
       go_simp
       refine (show Calls Tryz.prog 88 #[ptr m, i64 le, i64 had, i64 (had - n)] w1 (fun e w2 => e = .returned (.bool true) ∧ RefPost B w1 m A lv (casW W le had (had - n)) (L ++ [⟨3, le, had, had - n, true⟩]) w2) from by have h := ref_CasN le had (had - n) (hwi.2.1 hSi).1 (by omega) hW hL; rw [hcb] at h; exact h).mono ?_
       rintro e w2 ⟨rfl, hp⟩
       obtain ⟨Aq, cq, lvq, hq1, hq2, _⟩ := id hp
       have hblk := hq2.blk hwi.1 (ry_far (hwi.2.1 hSi).1 hwi.1)
       have hpp := hp.before (hwi.2.1 hSi).2
       apply hK
       · rfl
       · conv => (lhs; whnf)
       · exact ⟨hblk, fun h => by simp [upd] at h, fun _ => hpp⟩
      simp only [put_lit, put_none]
      try dsimp only [List.set_cons_succ, List.set_cons_zero]
      exact Oblig.nil
     case h0 =>
      exact ⟨HY4.out.drew, fun _ => ⟨HM4.out.keep (Keep.refl (fun _ => False) _).drew (fun _ _ h => h), (Keep.refl _ _).drew⟩, fun h => by cases h⟩
     case hend =>
      intro S wx hwi hall
      obtain ⟨w3, rfl⟩ : ∃ w3 : World, w3 = wx := ⟨_, rfl⟩
      obtain ⟨A3, c3, lv3, hm, hk, ha, hl⟩ := hwi.2.2 (hall 15 (by decide))
      have HK3 := hid (HK4.out.trans (hk.mono (T := fun b => (b = m ∨ lv.ownBlock = some b) ∨ b = y) (fun _ h => Or.inl h)) (fun _ _ h => h))
      have HM3 := hid hm
      have HY3 := hid hwi.1
      have HA3 := hid (fun b h => (ha b h).imp id (fun h => Nat.le_trans HK4.out.size h))
      have HL3 := hid (fun b h => (hl b h).imp id (fun h => Nat.le_trans HK4.out.size h))
      have qy3 := HY3.out.k19
      clear hwi hall hm hk ha hl HK4 HM4 HY4
      go_wp2_with fail
      go_ret
      exact rpoolP_of2 (x' := _) (e' := _) HM3.out HK3.out HA3.out HL3.out HY3.out (((Keep.refl (fun k => k = y) w3)).set ⟨y, 11, none⟩ _ (fun _ => rfl)) ((HY3.out).set 11 _) (fun _ => rfl)
 · have hcb : (rd W le == had) = false := by simpa using c
   have e : pNext av le n l ⟨W, L, 1, had, saw, extra, false⟩ = ⟨casW W le had (had - n), L ++ [⟨3, le, had, had - n, false⟩], 0, had, saw, extra, false⟩ := by simp [pNext, c]
   rw [e]
   clear e
   go_enter Tryz.func51, Tryz.ntmps51
   go_wp2_with fail
   apply wp_region_text (WI := fun S wx => Keep0 w wx) (by kernel_rfl) (by kernel_rfl)
   case hob =>
    iterate 12
     apply Oblig.cons
     case h =>
      intro S w1 hwi hSi hd hcl
      apply StepOk.intro
      intro K hK
      have qy3 := (hwi.blk HY.out (fun h => h)).k19
      go_simp
      apply hK
      · rfl
      · conv => (lhs; whnf)
      · exact hwi
     simp only [put_lit, put_none]
     try dsimp only [List.set_cons_succ, List.set_cons_zero]
    apply Oblig.cons
    case h =>
     intro S w1 hwi hSi hd hcl
     apply StepOk.intro
     intro K hK
     have qy3 := (hwi.blk HY.out (fun h => h)).k19
     go_simp
     refine (show Calls Tryz.prog 90 #[.agg #[i64 t, i64 s, i64 g, i64 l, i64 r, i64 k, .slice PA pn pc, .slice LA ln lc], i64 nd, i64 st] w1 (Ret (i64 le) w1) from by have h := ref_Lease t s g l r k PA pn pc LA ln lc nd st w1 hs0 hs1 hv0 hv1 hu0 hu1; rw [← HLE.out] at h; exact h).mono ?_
     rintro e w2 ⟨rfl, hk⟩
     apply hK
     · rfl
     · conv => (lhs; whnf)
     · exact Keep0.step hwi hk
    simp only [put_lit, put_none]
    try dsimp only [List.set_cons_succ, List.set_cons_zero]
    apply Oblig.cons
    case h =>
     intro S w1 hwi hSi hd hcl
     apply StepOk.intro
     intro K hK
     have qy3 := (hwi.blk HY.out (fun h => h)).k19
     go_simp
     apply hK
     · rfl
     · conv => (lhs; whnf)
     · exact hwi
    simp only [put_lit, put_none]
    try dsimp only [List.set_cons_succ, List.set_cons_zero]
    exact Oblig.nil
   case h0 =>
    exact (Keep.refl _ _).drew
   case hend =>
    intro S wx hwi hall
    obtain ⟨w1, rfl⟩ : ∃ w1 : World, w1 = wx := ⟨_, rfl⟩
    have HY1 := hid (hwi.blk HY.out (fun h => h))
    have HM1 := hid (HM.out.keep hwi (fun _ _ h => h))
    have HK1 := hid hwi
    have qy1 := HY1.out.k19
    clear hwi hall HY HM qy
    go_wp2_with fail
    apply wp_region_text (WI := fun S wx => Keep0 w1 wx) (by kernel_rfl) (by kernel_rfl)
    case hob =>
     iterate 8
      apply Oblig.cons
      case h =>
       intro S w1 hwi hSi hd hcl
       apply StepOk.intro
       intro K hK
       have qy3 := (hwi.blk HY1.out (fun h => h)).k19
       go_simp
       apply hK
       · rfl
       · conv => (lhs; whnf)
       · exact hwi
      simp only [put_lit, put_none]
      try dsimp only [List.set_cons_succ, List.set_cons_zero]
     apply Oblig.cons
     case h =>
      intro S w1 hwi hSi hd hcl
      apply StepOk.intro
      intro K hK
      have qy3 := (hwi.blk HY1.out (fun h => h)).k19
      go_simp
      refine (show Calls Tryz.prog 54 #[.agg #[i64 t, i64 s, i64 g, i64 l, i64 r, i64 k, .slice PA pn pc, .slice LA ln lc], i64 nd] w1 (Ret (i64 av) w1) from by have h := ref_Avail t s g l r k PA pn pc LA ln lc nd w1 hs0 hs1 hv0 hv1; rw [← HAV.out] at h; exact h).mono ?_
      rintro e w2 ⟨rfl, hk⟩
      apply hK
      · rfl
      · conv => (lhs; whnf)
      · exact Keep0.step hwi hk
     simp only [put_lit, put_none]
     try dsimp only [List.set_cons_succ, List.set_cons_zero]
     apply Oblig.cons
     case h =>
      intro S w1 hwi hSi hd hcl
      apply StepOk.intro
      intro K hK
      have qy3 := (hwi.blk HY1.out (fun h => h)).k19
      go_simp
      apply hK
      · rfl
      · conv => (lhs; whnf)
      · exact hwi
     simp only [put_lit, put_none]
     try dsimp only [List.set_cons_succ, List.set_cons_zero]
     exact Oblig.nil
    case h0 =>
     exact (Keep.refl _ _).drew
    case hend =>
     intro S wx hwi hall
     obtain ⟨w2, rfl⟩ : ∃ w2 : World, w2 = wx := ⟨_, rfl⟩
     have HY2 := hid (hwi.blk HY1.out (fun h => h))
     have HM2 := hid (HM1.out.keep hwi (fun _ _ h => h))
     have HK2 := hid (HK1.out.trans hwi (fun _ _ h => h))
     have qy2 := HY2.out.k19
     clear hwi hall HY1 HM1 HK1 qy1
     go_wp2_with fail
     have HY4 := hid (show Blk ((w2).setCell ⟨y, 11, none⟩ (i64 (0))) y 122 [i64 t, i64 s, i64 g, i64 l, i64 r, i64 k, .slice PA pn pc, .slice LA ln lc, i64 nd, i64 n, i64 st, i64 (0), i64 (had), i64 (saw), i64 (extra), i64 0, i64 0, .bool false, i64 0] from ((HY2.out).set 11 _))
     have HKY4 := hid (show Keep (fun k => k = y) w2 ((w2).setCell ⟨y, 11, none⟩ (i64 (0))) from (((Keep.refl (fun k => k = y) w2)).set ⟨y, 11, none⟩ _ (fun _ => rfl)))
     clear qy2
     generalize (w2).setCell ⟨y, 11, none⟩ (i64 (0)) = w4 at *
     have qy4 := HY4.out.k19
     have HM4 := hid (HM2.out.keep HKY4.out (fun b h => ry_far2 HM2.out HY2.out b h))
     have HK4 : Hid (Keep (fun b => (b = m ∨ lv.ownBlock = some b) ∨ b = y) w w4) := hid ((HK2.out.mono (fun _ h => h.elim)).trans (HKY4.out.mono (fun _ h => Or.inr h)) (fun _ _ h => h))
     clear HM2 HY2 HK2 HKY4
     apply wp_region_text (WI := fun S wx => Blk wx y 122 [i64 t, i64 s, i64 g, i64 l, i64 r, i64 k, .slice PA pn pc, .slice LA ln lc, i64 nd, i64 n, i64 st, i64 (0), i64 (had), i64 (saw), i64 (extra), i64 0, i64 0, .bool false, i64 0] ∧ (S 15 = false → RefAt B wx m A ca lv W L ∧ Keep0 w4 wx) ∧ (S 15 = true → RefPost B w4 m A lv (casW W le had (had - n)) (L ++ [⟨3, le, had, had - n, false⟩]) wx)) (by kernel_rfl) (by kernel_rfl)
     case hob =>
      iterate 15
       apply Oblig.cons
       case h =>
        intro S w1 hwi hSi hd hcl
        apply StepOk.intro
        intro K hK
        have qy5 := hwi.1.k19
        go_simp
        apply hK
        · rfl
        · conv => (lhs; whnf)
        · exact hwi
       simp only [put_lit, put_none]
       try dsimp only [List.set_cons_succ, List.set_cons_zero]
      apply Oblig.cons
      case h =>
       intro S w1 hwi hSi hd hcl
       apply StepOk.intro
       intro K hK
       have qy5 := hwi.1.k19
       go_simp
       refine (show Calls Tryz.prog 88 #[ptr m, i64 le, i64 had, i64 (had - n)] w1 (fun e w2 => e = .returned (.bool false) ∧ RefPost B w1 m A lv (casW W le had (had - n)) (L ++ [⟨3, le, had, had - n, false⟩]) w2) from by have h := ref_CasN le had (had - n) (hwi.2.1 hSi).1 (by omega) hW hL; rw [hcb] at h; exact h).mono ?_
       rintro e w2 ⟨rfl, hp⟩
       obtain ⟨Aq, cq, lvq, hq1, hq2, _⟩ := id hp
       have hblk := hq2.blk hwi.1 (ry_far (hwi.2.1 hSi).1 hwi.1)
       have hpp := hp.before (hwi.2.1 hSi).2
       apply hK
       · rfl
       · conv => (lhs; whnf)
       · exact ⟨hblk, fun h => by simp [upd] at h, fun _ => hpp⟩
      simp only [put_lit, put_none]
      try dsimp only [List.set_cons_succ, List.set_cons_zero]
      exact Oblig.nil
     case h0 =>
      exact ⟨HY4.out.drew, fun _ => ⟨HM4.out.keep (Keep.refl (fun _ => False) _).drew (fun _ _ h => h), (Keep.refl _ _).drew⟩, fun h => by cases h⟩
     case hend =>
      intro S wx hwi hall
      obtain ⟨w3, rfl⟩ : ∃ w3 : World, w3 = wx := ⟨_, rfl⟩
      obtain ⟨A3, c3, lv3, hm, hk, ha, hl⟩ := hwi.2.2 (hall 15 (by decide))
      have HK3 := hid (HK4.out.trans (hk.mono (T := fun b => (b = m ∨ lv.ownBlock = some b) ∨ b = y) (fun _ h => Or.inl h)) (fun _ _ h => h))
      have HM3 := hid hm
      have HY3 := hid hwi.1
      have HA3 := hid (fun b h => (ha b h).imp id (fun h => Nat.le_trans HK4.out.size h))
      have HL3 := hid (fun b h => (hl b h).imp id (fun h => Nat.le_trans HK4.out.size h))
      have qy3 := HY3.out.k19
      clear hwi hall hm hk ha hl HK4 HM4 HY4
      go_wp2_with fail
      go_ret
      exact rpoolP_of2 (x' := _) (e' := _) HM3.out HK3.out HA3.out HL3.out HY3.out ((Keep.refl (fun k => k = y) w3)) (HY3.out) (fun _ => rfl)
set_option maxHeartbeats 4000000 in
theorem rpool_step5 (x : PS) (hm : RefAt B w m A ca lv x.W x.L) (hy : Blk w y 122 (rcs t s g l r k PA pn pc LA ln lc nd n st x x.extra)) (hi : PInv av le n l X x) (h0 : x.next = 5) (hX : X ≤ 4398046511104) (hL : x.L.length ≤ 1000000000) (hW : x.W.length ≤ 1000000) (hs0 : 1 ≤ s) (hs1 : s ≤ 8) (hv0 : 0 ≤ nd) (hv1 : nd ≤ 1000) (hu0 : 0 ≤ st) (hu1 : st ≤ 1000) (hav : (av : Int) = nd * (6 + 2 * s) + 1) (hle : (le : Int) = nd * (6 + 2 * s) + 2 + st) :
 Calls Tryz.prog 51 #[ptr y, ptr m] w (RPoolP B w m A lv y t s g l r k PA pn pc LA ln lc nd n st (pNext av le n l x)) := by
 obtain ⟨W, L, next, had, saw, extra, bad⟩ := x
 obtain ⟨la, ll, ne, n1, m1, wl, wa, nx, s1, s3, s4, s5, b⟩ := hi
 simp only at *
 subst h0
 obtain rfl : bad = false := by
  cases bad with
  | false => rfl
  | true => have := b rfl; omega
 have hy1 : Blk w y 122 [i64 t, i64 s, i64 g, i64 l, i64 r, i64 k, .slice PA pn pc, .slice LA ln lc, i64 nd, i64 n, i64 st, i64 (5), i64 (had), i64 (saw), i64 (extra), i64 0, i64 0, .bool false, i64 0] := hy
 have qy := hy1.k19
 have HY := hid hy1
 have HM := hid hm
 have HAV := hid hav
 have HLE := hid hle
 clear hy hy1 hm b nx hav hle
 have hx := s4 (by simp)
 have hx2 := s5 rfl
 have hyy : IntKind.i64.wrap (had + extra) = had + extra := IntWalk.i64_in _ (by omega)
 clear s1 s3 s4 s5
 by_cases c : rd W le = had
 · have hcb : (rd W le == had) = true := by simpa using c
   have e : pNext av le n l ⟨W, L, 5, had, saw, extra, false⟩ = ⟨casW W le had (had + extra), L ++ [⟨3, le, had, had + extra, true⟩], 7, had, saw, extra, false⟩ := by simp [pNext, c]
   rw [e]
   clear e
   go_enter Tryz.func51, Tryz.ntmps51
   go_wp2_with fail
   apply wp_region_text (WI := fun S wx => Keep0 w wx) (by kernel_rfl) (by kernel_rfl)
   case hob =>
    iterate 12
     apply Oblig.cons
     case h =>
      intro S w1 hwi hSi hd hcl
      apply StepOk.intro
      intro K hK
      have qy3 := (hwi.blk HY.out (fun h => h)).k19
      go_simp
      apply hK
      · rfl
      · conv => (lhs; whnf)
      · exact hwi
     simp only [put_lit, put_none]
     try dsimp only [List.set_cons_succ, List.set_cons_zero]
    apply Oblig.cons
    case h =>
     intro S w1 hwi hSi hd hcl
     apply StepOk.intro
     intro K hK
     have qy3 := (hwi.blk HY.out (fun h => h)).k19
     go_simp
     refine (show Calls Tryz.prog 90 #[.agg #[i64 t, i64 s, i64 g, i64 l, i64 r, i64 k, .slice PA pn pc, .slice LA ln lc], i64 nd, i64 st] w1 (Ret (i64 le) w1) from by have h := ref_Lease t s g l r k PA pn pc LA ln lc nd st w1 hs0 hs1 hv0 hv1 hu0 hu1; rw [← HLE.out] at h; exact h).mono ?_
     rintro e w2 ⟨rfl, hk⟩
     apply hK
     · rfl
     · conv => (lhs; whnf)
     · exact Keep0.step hwi hk
    simp only [put_lit, put_none]
    try dsimp only [List.set_cons_succ, List.set_cons_zero]
    apply Oblig.cons
    case h =>
     intro S w1 hwi hSi hd hcl
     apply StepOk.intro
     intro K hK
     have qy3 := (hwi.blk HY.out (fun h => h)).k19
     go_simp
     apply hK
     · rfl
     · conv => (lhs; whnf)
     · exact hwi
    simp only [put_lit, put_none]
    try dsimp only [List.set_cons_succ, List.set_cons_zero]
    exact Oblig.nil
   case h0 =>
    exact (Keep.refl _ _).drew
   case hend =>
    intro S wx hwi hall
    obtain ⟨w1, rfl⟩ : ∃ w1 : World, w1 = wx := ⟨_, rfl⟩
    have HY1 := hid (hwi.blk HY.out (fun h => h))
    have HM1 := hid (HM.out.keep hwi (fun _ _ h => h))
    have HK1 := hid hwi
    have qy1 := HY1.out.k19
    clear hwi hall HY HM qy
    go_wp2_with fail
    apply wp_region_text (WI := fun S wx => Keep0 w1 wx) (by kernel_rfl) (by kernel_rfl)
    case hob =>
     iterate 8
      apply Oblig.cons
      case h =>
       intro S w1 hwi hSi hd hcl
       apply StepOk.intro
       intro K hK
       have qy3 := (hwi.blk HY1.out (fun h => h)).k19
       go_simp
       apply hK
       · rfl
       · conv => (lhs; whnf)
       · exact hwi
      simp only [put_lit, put_none]
      try dsimp only [List.set_cons_succ, List.set_cons_zero]
     apply Oblig.cons
     case h =>
      intro S w1 hwi hSi hd hcl
      apply StepOk.intro
      intro K hK
      have qy3 := (hwi.blk HY1.out (fun h => h)).k19
      go_simp
      refine (show Calls Tryz.prog 54 #[.agg #[i64 t, i64 s, i64 g, i64 l, i64 r, i64 k, .slice PA pn pc, .slice LA ln lc], i64 nd] w1 (Ret (i64 av) w1) from by have h := ref_Avail t s g l r k PA pn pc LA ln lc nd w1 hs0 hs1 hv0 hv1; rw [← HAV.out] at h; exact h).mono ?_
      rintro e w2 ⟨rfl, hk⟩
      apply hK
      · rfl
      · conv => (lhs; whnf)
      · exact Keep0.step hwi hk
     simp only [put_lit, put_none]
     try dsimp only [List.set_cons_succ, List.set_cons_zero]
     apply Oblig.cons
     case h =>
      intro S w1 hwi hSi hd hcl
      apply StepOk.intro
      intro K hK
      have qy3 := (hwi.blk HY1.out (fun h => h)).k19
      go_simp
      apply hK
      · rfl
      · conv => (lhs; whnf)
      · exact hwi
     simp only [put_lit, put_none]
     try dsimp only [List.set_cons_succ, List.set_cons_zero]
     exact Oblig.nil
    case h0 =>
     exact (Keep.refl _ _).drew
    case hend =>
     intro S wx hwi hall
     obtain ⟨w2, rfl⟩ : ∃ w2 : World, w2 = wx := ⟨_, rfl⟩
     have HY2 := hid (hwi.blk HY1.out (fun h => h))
     have HM2 := hid (HM1.out.keep hwi (fun _ _ h => h))
     have HK2 := hid (HK1.out.trans hwi (fun _ _ h => h))
     have qy2 := HY2.out.k19
     clear hwi hall HY1 HM1 HK1 qy1
     go_wp2_with fail
     have HY4 := hid (show Blk ((w2).setCell ⟨y, 11, none⟩ (i64 (4))) y 122 [i64 t, i64 s, i64 g, i64 l, i64 r, i64 k, .slice PA pn pc, .slice LA ln lc, i64 nd, i64 n, i64 st, i64 (4), i64 (had), i64 (saw), i64 (extra), i64 0, i64 0, .bool false, i64 0] from ((HY2.out).set 11 _))
     have HKY4 := hid (show Keep (fun k => k = y) w2 ((w2).setCell ⟨y, 11, none⟩ (i64 (4))) from (((Keep.refl (fun k => k = y) w2)).set ⟨y, 11, none⟩ _ (fun _ => rfl)))
     clear qy2
     generalize (w2).setCell ⟨y, 11, none⟩ (i64 (4)) = w4 at *
     have qy4 := HY4.out.k19
     have HM4 := hid (HM2.out.keep HKY4.out (fun b h => ry_far2 HM2.out HY2.out b h))
     have HK4 : Hid (Keep (fun b => (b = m ∨ lv.ownBlock = some b) ∨ b = y) w w4) := hid ((HK2.out.mono (fun _ h => h.elim)).trans (HKY4.out.mono (fun _ h => Or.inr h)) (fun _ _ h => h))
     clear HM2 HY2 HK2 HKY4
     apply wp_region_text (WI := fun S wx => Blk wx y 122 [i64 t, i64 s, i64 g, i64 l, i64 r, i64 k, .slice PA pn pc, .slice LA ln lc, i64 nd, i64 n, i64 st, i64 (4), i64 (had), i64 (saw), i64 (extra), i64 0, i64 0, .bool false, i64 0] ∧ (S 15 = false → RefAt B wx m A ca lv W L ∧ Keep0 w4 wx) ∧ (S 15 = true → RefPost B w4 m A lv (casW W le had (had + extra)) (L ++ [⟨3, le, had, had + extra, true⟩]) wx)) (by kernel_rfl) (by kernel_rfl)
     case hob =>
      iterate 15
       apply Oblig.cons
       case h =>
        intro S w1 hwi hSi hd hcl
        apply StepOk.intro
        intro K hK
        have qy5 := hwi.1.k19
        go_simp
        apply hK
        · rfl
        · conv => (lhs; whnf)
        · exact hwi
       simp only [put_lit, put_none]
       try dsimp only [List.set_cons_succ, List.set_cons_zero]
      apply Oblig.cons
      case h =>
       intro S w1 hwi hSi hd hcl
       apply StepOk.intro
       intro K hK
       have qy5 := hwi.1.k19
       go_simp
       refine (show Calls Tryz.prog 88 #[ptr m, i64 le, i64 had, i64 (had + extra)] w1 (fun e w2 => e = .returned (.bool true) ∧ RefPost B w1 m A lv (casW W le had (had + extra)) (L ++ [⟨3, le, had, had + extra, true⟩]) w2) from by have h := ref_CasN le had (had + extra) (hwi.2.1 hSi).1 (by omega) hW hL; rw [hcb] at h; exact h).mono ?_
       rintro e w2 ⟨rfl, hp⟩
       obtain ⟨Aq, cq, lvq, hq1, hq2, _⟩ := id hp
       have hblk := hq2.blk hwi.1 (ry_far (hwi.2.1 hSi).1 hwi.1)
       have hpp := hp.before (hwi.2.1 hSi).2
       apply hK
       · rfl
       · conv => (lhs; whnf)
       · exact ⟨hblk, fun h => by simp [upd] at h, fun _ => hpp⟩
      simp only [put_lit, put_none]
      try dsimp only [List.set_cons_succ, List.set_cons_zero]
      exact Oblig.nil
     case h0 =>
      exact ⟨HY4.out.drew, fun _ => ⟨HM4.out.keep (Keep.refl (fun _ => False) _).drew (fun _ _ h => h), (Keep.refl _ _).drew⟩, fun h => by cases h⟩
     case hend =>
      intro S wx hwi hall
      obtain ⟨w3, rfl⟩ : ∃ w3 : World, w3 = wx := ⟨_, rfl⟩
      obtain ⟨A3, c3, lv3, hm, hk, ha, hl⟩ := hwi.2.2 (hall 15 (by decide))
      have HK3 := hid (HK4.out.trans (hk.mono (T := fun b => (b = m ∨ lv.ownBlock = some b) ∨ b = y) (fun _ h => Or.inl h)) (fun _ _ h => h))
      have HM3 := hid hm
      have HY3 := hid hwi.1
      have HA3 := hid (fun b h => (ha b h).imp id (fun h => Nat.le_trans HK4.out.size h))
      have HL3 := hid (fun b h => (hl b h).imp id (fun h => Nat.le_trans HK4.out.size h))
      have qy3 := HY3.out.k19
      clear hwi hall hm hk ha hl HK4 HM4 HY4
      go_wp2_with fail
      go_ret
      exact rpoolP_of2 (x' := _) (e' := _) HM3.out HK3.out HA3.out HL3.out HY3.out (((Keep.refl (fun k => k = y) w3)).set ⟨y, 11, none⟩ _ (fun _ => rfl)) ((HY3.out).set 11 _) (fun _ => rfl)
 · have hcb : (rd W le == had) = false := by simpa using c
   have e : pNext av le n l ⟨W, L, 5, had, saw, extra, false⟩ = ⟨casW W le had (had + extra), L ++ [⟨3, le, had, had + extra, false⟩], 4, had, saw, extra, false⟩ := by simp [pNext, c]
   rw [e]
   clear e
   go_enter Tryz.func51, Tryz.ntmps51
   go_wp2_with fail
   apply wp_region_text (WI := fun S wx => Keep0 w wx) (by kernel_rfl) (by kernel_rfl)
   case hob =>
    iterate 12
     apply Oblig.cons
     case h =>
      intro S w1 hwi hSi hd hcl
      apply StepOk.intro
      intro K hK
      have qy3 := (hwi.blk HY.out (fun h => h)).k19
      go_simp
      apply hK
      · rfl
      · conv => (lhs; whnf)
      · exact hwi
     simp only [put_lit, put_none]
     try dsimp only [List.set_cons_succ, List.set_cons_zero]
    apply Oblig.cons
    case h =>
     intro S w1 hwi hSi hd hcl
     apply StepOk.intro
     intro K hK
     have qy3 := (hwi.blk HY.out (fun h => h)).k19
     go_simp
     refine (show Calls Tryz.prog 90 #[.agg #[i64 t, i64 s, i64 g, i64 l, i64 r, i64 k, .slice PA pn pc, .slice LA ln lc], i64 nd, i64 st] w1 (Ret (i64 le) w1) from by have h := ref_Lease t s g l r k PA pn pc LA ln lc nd st w1 hs0 hs1 hv0 hv1 hu0 hu1; rw [← HLE.out] at h; exact h).mono ?_
     rintro e w2 ⟨rfl, hk⟩
     apply hK
     · rfl
     · conv => (lhs; whnf)
     · exact Keep0.step hwi hk
    simp only [put_lit, put_none]
    try dsimp only [List.set_cons_succ, List.set_cons_zero]
    apply Oblig.cons
    case h =>
     intro S w1 hwi hSi hd hcl
     apply StepOk.intro
     intro K hK
     have qy3 := (hwi.blk HY.out (fun h => h)).k19
     go_simp
     apply hK
     · rfl
     · conv => (lhs; whnf)
     · exact hwi
    simp only [put_lit, put_none]
    try dsimp only [List.set_cons_succ, List.set_cons_zero]
    exact Oblig.nil
   case h0 =>
    exact (Keep.refl _ _).drew
   case hend =>
    intro S wx hwi hall
    obtain ⟨w1, rfl⟩ : ∃ w1 : World, w1 = wx := ⟨_, rfl⟩
    have HY1 := hid (hwi.blk HY.out (fun h => h))
    have HM1 := hid (HM.out.keep hwi (fun _ _ h => h))
    have HK1 := hid hwi
    have qy1 := HY1.out.k19
    clear hwi hall HY HM qy
    go_wp2_with fail
    apply wp_region_text (WI := fun S wx => Keep0 w1 wx) (by kernel_rfl) (by kernel_rfl)
    case hob =>
     iterate 8
      apply Oblig.cons
      case h =>
       intro S w1 hwi hSi hd hcl
       apply StepOk.intro
       intro K hK
       have qy3 := (hwi.blk HY1.out (fun h => h)).k19
       go_simp
       apply hK
       · rfl
       · conv => (lhs; whnf)
       · exact hwi
      simp only [put_lit, put_none]
      try dsimp only [List.set_cons_succ, List.set_cons_zero]
     apply Oblig.cons
     case h =>
      intro S w1 hwi hSi hd hcl
      apply StepOk.intro
      intro K hK
      have qy3 := (hwi.blk HY1.out (fun h => h)).k19
      go_simp
      refine (show Calls Tryz.prog 54 #[.agg #[i64 t, i64 s, i64 g, i64 l, i64 r, i64 k, .slice PA pn pc, .slice LA ln lc], i64 nd] w1 (Ret (i64 av) w1) from by have h := ref_Avail t s g l r k PA pn pc LA ln lc nd w1 hs0 hs1 hv0 hv1; rw [← HAV.out] at h; exact h).mono ?_
      rintro e w2 ⟨rfl, hk⟩
      apply hK
      · rfl
      · conv => (lhs; whnf)
      · exact Keep0.step hwi hk
     simp only [put_lit, put_none]
     try dsimp only [List.set_cons_succ, List.set_cons_zero]
     apply Oblig.cons
     case h =>
      intro S w1 hwi hSi hd hcl
      apply StepOk.intro
      intro K hK
      have qy3 := (hwi.blk HY1.out (fun h => h)).k19
      go_simp
      apply hK
      · rfl
      · conv => (lhs; whnf)
      · exact hwi
     simp only [put_lit, put_none]
     try dsimp only [List.set_cons_succ, List.set_cons_zero]
     exact Oblig.nil
    case h0 =>
     exact (Keep.refl _ _).drew
    case hend =>
     intro S wx hwi hall
     obtain ⟨w2, rfl⟩ : ∃ w2 : World, w2 = wx := ⟨_, rfl⟩
     have HY2 := hid (hwi.blk HY1.out (fun h => h))
     have HM2 := hid (HM1.out.keep hwi (fun _ _ h => h))
     have HK2 := hid (HK1.out.trans hwi (fun _ _ h => h))
     have qy2 := HY2.out.k19
     clear hwi hall HY1 HM1 HK1 qy1
     go_wp2_with fail
     have HY4 := hid (show Blk ((w2).setCell ⟨y, 11, none⟩ (i64 (4))) y 122 [i64 t, i64 s, i64 g, i64 l, i64 r, i64 k, .slice PA pn pc, .slice LA ln lc, i64 nd, i64 n, i64 st, i64 (4), i64 (had), i64 (saw), i64 (extra), i64 0, i64 0, .bool false, i64 0] from ((HY2.out).set 11 _))
     have HKY4 := hid (show Keep (fun k => k = y) w2 ((w2).setCell ⟨y, 11, none⟩ (i64 (4))) from (((Keep.refl (fun k => k = y) w2)).set ⟨y, 11, none⟩ _ (fun _ => rfl)))
     clear qy2
     generalize (w2).setCell ⟨y, 11, none⟩ (i64 (4)) = w4 at *
     have qy4 := HY4.out.k19
     have HM4 := hid (HM2.out.keep HKY4.out (fun b h => ry_far2 HM2.out HY2.out b h))
     have HK4 : Hid (Keep (fun b => (b = m ∨ lv.ownBlock = some b) ∨ b = y) w w4) := hid ((HK2.out.mono (fun _ h => h.elim)).trans (HKY4.out.mono (fun _ h => Or.inr h)) (fun _ _ h => h))
     clear HM2 HY2 HK2 HKY4
     apply wp_region_text (WI := fun S wx => Blk wx y 122 [i64 t, i64 s, i64 g, i64 l, i64 r, i64 k, .slice PA pn pc, .slice LA ln lc, i64 nd, i64 n, i64 st, i64 (4), i64 (had), i64 (saw), i64 (extra), i64 0, i64 0, .bool false, i64 0] ∧ (S 15 = false → RefAt B wx m A ca lv W L ∧ Keep0 w4 wx) ∧ (S 15 = true → RefPost B w4 m A lv (casW W le had (had + extra)) (L ++ [⟨3, le, had, had + extra, false⟩]) wx)) (by kernel_rfl) (by kernel_rfl)
     case hob =>
      iterate 15
       apply Oblig.cons
       case h =>
        intro S w1 hwi hSi hd hcl
        apply StepOk.intro
        intro K hK
        have qy5 := hwi.1.k19
        go_simp
        apply hK
        · rfl
        · conv => (lhs; whnf)
        · exact hwi
       simp only [put_lit, put_none]
       try dsimp only [List.set_cons_succ, List.set_cons_zero]
      apply Oblig.cons
      case h =>
       intro S w1 hwi hSi hd hcl
       apply StepOk.intro
       intro K hK
       have qy5 := hwi.1.k19
       go_simp
       refine (show Calls Tryz.prog 88 #[ptr m, i64 le, i64 had, i64 (had + extra)] w1 (fun e w2 => e = .returned (.bool false) ∧ RefPost B w1 m A lv (casW W le had (had + extra)) (L ++ [⟨3, le, had, had + extra, false⟩]) w2) from by have h := ref_CasN le had (had + extra) (hwi.2.1 hSi).1 (by omega) hW hL; rw [hcb] at h; exact h).mono ?_
       rintro e w2 ⟨rfl, hp⟩
       obtain ⟨Aq, cq, lvq, hq1, hq2, _⟩ := id hp
       have hblk := hq2.blk hwi.1 (ry_far (hwi.2.1 hSi).1 hwi.1)
       have hpp := hp.before (hwi.2.1 hSi).2
       apply hK
       · rfl
       · conv => (lhs; whnf)
       · exact ⟨hblk, fun h => by simp [upd] at h, fun _ => hpp⟩
      simp only [put_lit, put_none]
      try dsimp only [List.set_cons_succ, List.set_cons_zero]
      exact Oblig.nil
     case h0 =>
      exact ⟨HY4.out.drew, fun _ => ⟨HM4.out.keep (Keep.refl (fun _ => False) _).drew (fun _ _ h => h), (Keep.refl _ _).drew⟩, fun h => by cases h⟩
     case hend =>
      intro S wx hwi hall
      obtain ⟨w3, rfl⟩ : ∃ w3 : World, w3 = wx := ⟨_, rfl⟩
      obtain ⟨A3, c3, lv3, hm, hk, ha, hl⟩ := hwi.2.2 (hall 15 (by decide))
      have HK3 := hid (HK4.out.trans (hk.mono (T := fun b => (b = m ∨ lv.ownBlock = some b) ∨ b = y) (fun _ h => Or.inl h)) (fun _ _ h => h))
      have HM3 := hid hm
      have HY3 := hid hwi.1
      have HA3 := hid (fun b h => (ha b h).imp id (fun h => Nat.le_trans HK4.out.size h))
      have HL3 := hid (fun b h => (hl b h).imp id (fun h => Nat.le_trans HK4.out.size h))
      have qy3 := HY3.out.k19
      clear hwi hall hm hk ha hl HK4 HM4 HY4
      go_wp2_with fail
      go_ret
      exact rpoolP_of2 (x' := _) (e' := _) HM3.out HK3.out HA3.out HL3.out HY3.out ((Keep.refl (fun k => k = y) w3)) (HY3.out) (fun _ => rfl)
end
end Go.Proofs.YthaceckccobgeaaGreat

namespace Go.Proofs.YthaceckccobgeaaGreat
open Go.RowKit
set_option linter.unusedVariables false
set_option linter.unusedSimpArgs false
set_option maxRecDepth 100000
section
variable {B : Nat} {w : World} {m y : Nat} {A : Option Addr} {ca : Nat} {lv : Value} {av le : Nat} {t s g l r k nd n st X : Int} {PA : Option Addr} {pn pc : Nat} {LA : Option Addr} {ln lc : Nat}
set_option maxHeartbeats 4000000 in
theorem rpool_step3 (x : PS) (hm : RefAt B w m A ca lv x.W x.L) (hy : Blk w y 122 (rcs t s g l r k PA pn pc LA ln lc nd n st x x.extra)) (hi : PInv av le n l X x) (h0 : x.next = 3) (hX : X ≤ 4398046511104) (hL : x.L.length ≤ 1000000000) (hW : x.W.length ≤ 1000000) (hs0 : 1 ≤ s) (hs1 : s ≤ 8) (hv0 : 0 ≤ nd) (hv1 : nd ≤ 1000) (hu0 : 0 ≤ st) (hu1 : st ≤ 1000) (hav : (av : Int) = nd * (6 + 2 * s) + 1) (hle : (le : Int) = nd * (6 + 2 * s) + 2 + st) :
 Calls Tryz.prog 51 #[ptr y, ptr m] w (RPoolP B w m A lv y t s g l r k PA pn pc LA ln lc nd n st (pNext av le n l x)) := by
 obtain ⟨W, L, next, had, saw, extra, bad⟩ := x
 obtain ⟨la, ll, ne, n1, m1, wl, wa, nx, s1, s3, s4, s5, b⟩ := hi
 simp only at *
 subst h0
 obtain rfl : bad = false := by
  cases bad with
  | false => rfl
  | true => have := b rfl; omega
 have hy1 : Blk w y 122 [i64 t, i64 s, i64 g, i64 l, i64 r, i64 k, .slice PA pn pc, .slice LA ln lc, i64 nd, i64 n, i64 st, i64 (3), i64 (had), i64 (saw), i64 (extra), i64 0, i64 0, .bool false, i64 0] := hy
 have qy := hy1.k19
 have HY := hid hy1
 have HM := hid hm
 have HAV := hid hav
 have HLE := hid hle
 clear hy hy1 hm b nx hav hle
 obtain ⟨q1, q2, q3⟩ := s3 rfl
 have hyy : IntKind.i64.wrap (saw - n) = saw - n := IntWalk.i64_in _ (by omega)
 have hyy2 : IntKind.i64.wrap (saw - n - extra) = saw - n - extra := IntWalk.i64_in _ (by omega)
 clear q3 s1 s3 s4 s5
 by_cases c : rd W av = saw
 · have hcb : (rd W av == saw) = true := by simpa using c
   by_cases c2 : extra = 0
   · have hc2 : (extra == 0) = true := by simpa using c2
     have e : pNext av le n l ⟨W, L, 3, had, saw, extra, false⟩ = ⟨casW W av saw (saw - n - extra), L ++ [⟨3, av, saw, saw - n - extra, true⟩], 7, had, saw, extra, false⟩ := by simp [pNext, c, c2]
     rw [e]
     have HC2 := hid hc2
     clear e c2 hc2
     go_enter Tryz.func51, Tryz.ntmps51
     go_wp2_with fail
     apply wp_region_text (WI := fun S wx => Keep0 w wx) (by kernel_rfl) (by kernel_rfl)
     case hob =>
      iterate 12
       apply Oblig.cons
       case h =>
        intro S w1 hwi hSi hd hcl
        apply StepOk.intro
        intro K hK
        have qy3 := (hwi.blk HY.out (fun h => h)).k19
        go_simp
        apply hK
        · rfl
        · conv => (lhs; whnf)
        · exact hwi
       simp only [put_lit, put_none]
       try dsimp only [List.set_cons_succ, List.set_cons_zero]
      apply Oblig.cons
      case h =>
       intro S w1 hwi hSi hd hcl
       apply StepOk.intro
       intro K hK
       have qy3 := (hwi.blk HY.out (fun h => h)).k19
       go_simp
       refine (show Calls Tryz.prog 90 #[.agg #[i64 t, i64 s, i64 g, i64 l, i64 r, i64 k, .slice PA pn pc, .slice LA ln lc], i64 nd, i64 st] w1 (Ret (i64 le) w1) from by have h := ref_Lease t s g l r k PA pn pc LA ln lc nd st w1 hs0 hs1 hv0 hv1 hu0 hu1; rw [← HLE.out] at h; exact h).mono ?_
       rintro e w2 ⟨rfl, hk⟩
       apply hK
       · rfl
       · conv => (lhs; whnf)
       · exact Keep0.step hwi hk
      simp only [put_lit, put_none]
      try dsimp only [List.set_cons_succ, List.set_cons_zero]
      apply Oblig.cons
      case h =>
       intro S w1 hwi hSi hd hcl
       apply StepOk.intro
       intro K hK
       have qy3 := (hwi.blk HY.out (fun h => h)).k19
       go_simp
       apply hK
       · rfl
       · conv => (lhs; whnf)
       · exact hwi
      simp only [put_lit, put_none]
      try dsimp only [List.set_cons_succ, List.set_cons_zero]
      exact Oblig.nil
     case h0 =>
      exact (Keep.refl _ _).drew
     case hend =>
      intro S wx hwi hall
      obtain ⟨w1, rfl⟩ : ∃ w1 : World, w1 = wx := ⟨_, rfl⟩
      have HY1 := hid (hwi.blk HY.out (fun h => h))
      have HM1 := hid (HM.out.keep hwi (fun _ _ h => h))
      have HK1 := hid hwi
      have qy1 := HY1.out.k19
      clear hwi hall HY HM qy
      go_wp2_with fail
      apply wp_region_text (WI := fun S wx => Keep0 w1 wx) (by kernel_rfl) (by kernel_rfl)
      case hob =>
       iterate 8
        apply Oblig.cons
        case h =>
         intro S w1 hwi hSi hd hcl
         apply StepOk.intro
         intro K hK
         have qy3 := (hwi.blk HY1.out (fun h => h)).k19
         go_simp
         apply hK
         · rfl
         · conv => (lhs; whnf)
         · exact hwi
        simp only [put_lit, put_none]
        try dsimp only [List.set_cons_succ, List.set_cons_zero]
       apply Oblig.cons
       case h =>
        intro S w1 hwi hSi hd hcl
        apply StepOk.intro
        intro K hK
        have qy3 := (hwi.blk HY1.out (fun h => h)).k19
        go_simp
        refine (show Calls Tryz.prog 54 #[.agg #[i64 t, i64 s, i64 g, i64 l, i64 r, i64 k, .slice PA pn pc, .slice LA ln lc], i64 nd] w1 (Ret (i64 av) w1) from by have h := ref_Avail t s g l r k PA pn pc LA ln lc nd w1 hs0 hs1 hv0 hv1; rw [← HAV.out] at h; exact h).mono ?_
        rintro e w2 ⟨rfl, hk⟩
        apply hK
        · rfl
        · conv => (lhs; whnf)
        · exact Keep0.step hwi hk
       simp only [put_lit, put_none]
       try dsimp only [List.set_cons_succ, List.set_cons_zero]
       apply Oblig.cons
       case h =>
        intro S w1 hwi hSi hd hcl
        apply StepOk.intro
        intro K hK
        have qy3 := (hwi.blk HY1.out (fun h => h)).k19
        go_simp
        apply hK
        · rfl
        · conv => (lhs; whnf)
        · exact hwi
       simp only [put_lit, put_none]
       try dsimp only [List.set_cons_succ, List.set_cons_zero]
       exact Oblig.nil
      case h0 =>
       exact (Keep.refl _ _).drew
      case hend =>
       intro S wx hwi hall
       obtain ⟨w2, rfl⟩ : ∃ w2 : World, w2 = wx := ⟨_, rfl⟩
       have HY2 := hid (hwi.blk HY1.out (fun h => h))
       have HM2 := hid (HM1.out.keep hwi (fun _ _ h => h))
       have HK2 := hid (HK1.out.trans hwi (fun _ _ h => h))
       have qy2 := HY2.out.k19
       clear hwi hall HY1 HM1 HK1 qy1
       go_wp2_with fail
       have HM4 := hid HM2.out
       have HY4 := hid HY2.out
       have HK4 : Hid (Keep (fun b => (b = m ∨ lv.ownBlock = some b) ∨ b = y) w w2) := hid (HK2.out.mono (fun _ h => h.elim))
       clear HM2 HY2 HK2 qy2
       obtain ⟨w4, rfl⟩ : ∃ w4 : World, w4 = w2 := ⟨_, rfl⟩
       apply wp_region_text (WI := fun S wx => Blk wx y 122 [i64 t, i64 s, i64 g, i64 l, i64 r, i64 k, .slice PA pn pc, .slice LA ln lc, i64 nd, i64 n, i64 st, i64 (3), i64 (had), i64 (saw), i64 (extra), i64 0, i64 0, .bool false, i64 0] ∧ (S 20 = false → RefAt B wx m A ca lv W L ∧ Keep0 w4 wx) ∧ (S 20 = true → RefPost B w4 m A lv (casW W av saw (saw - n - extra)) (L ++ [⟨3, av, saw, saw - n - extra, true⟩]) wx)) (by kernel_rfl) (by kernel_rfl)
       case hob =>
        iterate 20
         apply Oblig.cons
         case h =>
          intro S w1 hwi hSi hd hcl
          apply StepOk.intro
          intro K hK
          have qy5 := hwi.1.k19
          go_simp
          apply hK
          · rfl
          · conv => (lhs; whnf)
          · exact hwi
         simp only [put_lit, put_none]
         try dsimp only [List.set_cons_succ, List.set_cons_zero]
        apply Oblig.cons
        case h =>
         intro S w1 hwi hSi hd hcl
         apply StepOk.intro
         intro K hK
         have qy5 := hwi.1.k19
         go_simp
         refine (show Calls Tryz.prog 88 #[ptr m, i64 av, i64 saw, i64 (saw - n - extra)] w1 (fun e w2 => e = .returned (.bool true) ∧ RefPost B w1 m A lv (casW W av saw (saw - n - extra)) (L ++ [⟨3, av, saw, saw - n - extra, true⟩]) w2) from by have h := ref_CasN av saw (saw - n - extra) (hwi.2.1 hSi).1 (by omega) hW hL; rw [hcb] at h; exact h).mono ?_
         rintro e w2 ⟨rfl, hp⟩
         obtain ⟨Aq, cq, lvq, hq1, hq2, _⟩ := id hp
         have hblk := hq2.blk hwi.1 (ry_far (hwi.2.1 hSi).1 hwi.1)
         have hpp := hp.before (hwi.2.1 hSi).2
         apply hK
         · rfl
         · conv => (lhs; whnf)
         · exact ⟨hblk, fun h => by simp [upd] at h, fun _ => hpp⟩
        simp only [put_lit, put_none]
        try dsimp only [List.set_cons_succ, List.set_cons_zero]
        apply Oblig.cons
        case h =>
         intro S w1 hwi hSi hd hcl
         apply StepOk.intro
         intro K hK
         have qy5 := hwi.1.k19
         go_simp
         apply hK
         · rfl
         · conv => (lhs; whnf)
         · exact hwi
        simp only [put_lit, put_none]
        try dsimp only [List.set_cons_succ, List.set_cons_zero]
        exact Oblig.nil
       case h0 =>
        exact ⟨HY4.out.drew, fun _ => ⟨HM4.out.keep (Keep.refl (fun _ => False) _).drew (fun _ _ h => h), (Keep.refl _ _).drew⟩, fun h => by cases h⟩
       case hend =>
        intro S wx hwi hall
        obtain ⟨w3, rfl⟩ : ∃ w3 : World, w3 = wx := ⟨_, rfl⟩
        obtain ⟨A3, c3, lv3, hm, hk, ha, hl⟩ := hwi.2.2 (hall 20 (by decide))
        have HK3 := hid (HK4.out.trans (hk.mono (T := fun b => (b = m ∨ lv.ownBlock = some b) ∨ b = y) (fun _ h => Or.inl h)) (fun _ _ h => h))
        have HM3 := hid hm
        have HY3 := hid hwi.1
        have HA3 := hid (fun b h => (ha b h).imp id (fun h => Nat.le_trans HK4.out.size h))
        have HL3 := hid (fun b h => (hl b h).imp id (fun h => Nat.le_trans HK4.out.size h))
        have qy3 := HY3.out.k19
        clear hwi hall hm hk ha hl HK4 HM4 HY4
        have hc2 := HC2.out
        go_wp2_with fail
        go_ret
        exact rpoolP_of2 (x' := _) (e' := _) HM3.out HK3.out HA3.out HL3.out HY3.out (((Keep.refl (fun k => k = y) w3)).set ⟨y, 11, none⟩ _ (fun _ => rfl)) ((HY3.out).set 11 _) (fun _ => rfl)
   · have hc2 : (extra == 0) = false := by simpa using c2
     have e : pNext av le n l ⟨W, L, 3, had, saw, extra, false⟩ = ⟨casW W av saw (saw - n - extra), L ++ [⟨3, av, saw, saw - n - extra, true⟩], 4, had, saw, extra, false⟩ := by simp [pNext, c, c2]
     rw [e]
     have HC2 := hid hc2
     clear e c2 hc2
     go_enter Tryz.func51, Tryz.ntmps51
     go_wp2_with fail
     apply wp_region_text (WI := fun S wx => Keep0 w wx) (by kernel_rfl) (by kernel_rfl)
     case hob =>
      iterate 12
       apply Oblig.cons
       case h =>
        intro S w1 hwi hSi hd hcl
        apply StepOk.intro
        intro K hK
        have qy3 := (hwi.blk HY.out (fun h => h)).k19
        go_simp
        apply hK
        · rfl
        · conv => (lhs; whnf)
        · exact hwi
       simp only [put_lit, put_none]
       try dsimp only [List.set_cons_succ, List.set_cons_zero]
      apply Oblig.cons
      case h =>
       intro S w1 hwi hSi hd hcl
       apply StepOk.intro
       intro K hK
       have qy3 := (hwi.blk HY.out (fun h => h)).k19
       go_simp
       refine (show Calls Tryz.prog 90 #[.agg #[i64 t, i64 s, i64 g, i64 l, i64 r, i64 k, .slice PA pn pc, .slice LA ln lc], i64 nd, i64 st] w1 (Ret (i64 le) w1) from by have h := ref_Lease t s g l r k PA pn pc LA ln lc nd st w1 hs0 hs1 hv0 hv1 hu0 hu1; rw [← HLE.out] at h; exact h).mono ?_
       rintro e w2 ⟨rfl, hk⟩
       apply hK
       · rfl
       · conv => (lhs; whnf)
       · exact Keep0.step hwi hk
      simp only [put_lit, put_none]
      try dsimp only [List.set_cons_succ, List.set_cons_zero]
      apply Oblig.cons
      case h =>
       intro S w1 hwi hSi hd hcl
       apply StepOk.intro
       intro K hK
       have qy3 := (hwi.blk HY.out (fun h => h)).k19
       go_simp
       apply hK
       · rfl
       · conv => (lhs; whnf)
       · exact hwi
      simp only [put_lit, put_none]
      try dsimp only [List.set_cons_succ, List.set_cons_zero]
      exact Oblig.nil
     case h0 =>
      exact (Keep.refl _ _).drew
     case hend =>
      intro S wx hwi hall
      obtain ⟨w1, rfl⟩ : ∃ w1 : World, w1 = wx := ⟨_, rfl⟩
      have HY1 := hid (hwi.blk HY.out (fun h => h))
      have HM1 := hid (HM.out.keep hwi (fun _ _ h => h))
      have HK1 := hid hwi
      have qy1 := HY1.out.k19
      clear hwi hall HY HM qy
      go_wp2_with fail
      apply wp_region_text (WI := fun S wx => Keep0 w1 wx) (by kernel_rfl) (by kernel_rfl)
      case hob =>
       iterate 8
        apply Oblig.cons
        case h =>
         intro S w1 hwi hSi hd hcl
         apply StepOk.intro
         intro K hK
         have qy3 := (hwi.blk HY1.out (fun h => h)).k19
         go_simp
         apply hK
         · rfl
         · conv => (lhs; whnf)
         · exact hwi
        simp only [put_lit, put_none]
        try dsimp only [List.set_cons_succ, List.set_cons_zero]
       apply Oblig.cons
       case h =>
        intro S w1 hwi hSi hd hcl
        apply StepOk.intro
        intro K hK
        have qy3 := (hwi.blk HY1.out (fun h => h)).k19
        go_simp
        refine (show Calls Tryz.prog 54 #[.agg #[i64 t, i64 s, i64 g, i64 l, i64 r, i64 k, .slice PA pn pc, .slice LA ln lc], i64 nd] w1 (Ret (i64 av) w1) from by have h := ref_Avail t s g l r k PA pn pc LA ln lc nd w1 hs0 hs1 hv0 hv1; rw [← HAV.out] at h; exact h).mono ?_
        rintro e w2 ⟨rfl, hk⟩
        apply hK
        · rfl
        · conv => (lhs; whnf)
        · exact Keep0.step hwi hk
       simp only [put_lit, put_none]
       try dsimp only [List.set_cons_succ, List.set_cons_zero]
       apply Oblig.cons
       case h =>
        intro S w1 hwi hSi hd hcl
        apply StepOk.intro
        intro K hK
        have qy3 := (hwi.blk HY1.out (fun h => h)).k19
        go_simp
        apply hK
        · rfl
        · conv => (lhs; whnf)
        · exact hwi
       simp only [put_lit, put_none]
       try dsimp only [List.set_cons_succ, List.set_cons_zero]
       exact Oblig.nil
      case h0 =>
       exact (Keep.refl _ _).drew
      case hend =>
       intro S wx hwi hall
       obtain ⟨w2, rfl⟩ : ∃ w2 : World, w2 = wx := ⟨_, rfl⟩
       have HY2 := hid (hwi.blk HY1.out (fun h => h))
       have HM2 := hid (HM1.out.keep hwi (fun _ _ h => h))
       have HK2 := hid (HK1.out.trans hwi (fun _ _ h => h))
       have qy2 := HY2.out.k19
       clear hwi hall HY1 HM1 HK1 qy1
       go_wp2_with fail
       have HM4 := hid HM2.out
       have HY4 := hid HY2.out
       have HK4 : Hid (Keep (fun b => (b = m ∨ lv.ownBlock = some b) ∨ b = y) w w2) := hid (HK2.out.mono (fun _ h => h.elim))
       clear HM2 HY2 HK2 qy2
       obtain ⟨w4, rfl⟩ : ∃ w4 : World, w4 = w2 := ⟨_, rfl⟩
       apply wp_region_text (WI := fun S wx => Blk wx y 122 [i64 t, i64 s, i64 g, i64 l, i64 r, i64 k, .slice PA pn pc, .slice LA ln lc, i64 nd, i64 n, i64 st, i64 (3), i64 (had), i64 (saw), i64 (extra), i64 0, i64 0, .bool false, i64 0] ∧ (S 20 = false → RefAt B wx m A ca lv W L ∧ Keep0 w4 wx) ∧ (S 20 = true → RefPost B w4 m A lv (casW W av saw (saw - n - extra)) (L ++ [⟨3, av, saw, saw - n - extra, true⟩]) wx)) (by kernel_rfl) (by kernel_rfl)
       case hob =>
        iterate 20
         apply Oblig.cons
         case h =>
          intro S w1 hwi hSi hd hcl
          apply StepOk.intro
          intro K hK
          have qy5 := hwi.1.k19
          go_simp
          apply hK
          · rfl
          · conv => (lhs; whnf)
          · exact hwi
         simp only [put_lit, put_none]
         try dsimp only [List.set_cons_succ, List.set_cons_zero]
        apply Oblig.cons
        case h =>
         intro S w1 hwi hSi hd hcl
         apply StepOk.intro
         intro K hK
         have qy5 := hwi.1.k19
         go_simp
         refine (show Calls Tryz.prog 88 #[ptr m, i64 av, i64 saw, i64 (saw - n - extra)] w1 (fun e w2 => e = .returned (.bool true) ∧ RefPost B w1 m A lv (casW W av saw (saw - n - extra)) (L ++ [⟨3, av, saw, saw - n - extra, true⟩]) w2) from by have h := ref_CasN av saw (saw - n - extra) (hwi.2.1 hSi).1 (by omega) hW hL; rw [hcb] at h; exact h).mono ?_
         rintro e w2 ⟨rfl, hp⟩
         obtain ⟨Aq, cq, lvq, hq1, hq2, _⟩ := id hp
         have hblk := hq2.blk hwi.1 (ry_far (hwi.2.1 hSi).1 hwi.1)
         have hpp := hp.before (hwi.2.1 hSi).2
         apply hK
         · rfl
         · conv => (lhs; whnf)
         · exact ⟨hblk, fun h => by simp [upd] at h, fun _ => hpp⟩
        simp only [put_lit, put_none]
        try dsimp only [List.set_cons_succ, List.set_cons_zero]
        apply Oblig.cons
        case h =>
         intro S w1 hwi hSi hd hcl
         apply StepOk.intro
         intro K hK
         have qy5 := hwi.1.k19
         go_simp
         apply hK
         · rfl
         · conv => (lhs; whnf)
         · exact hwi
        simp only [put_lit, put_none]
        try dsimp only [List.set_cons_succ, List.set_cons_zero]
        exact Oblig.nil
       case h0 =>
        exact ⟨HY4.out.drew, fun _ => ⟨HM4.out.keep (Keep.refl (fun _ => False) _).drew (fun _ _ h => h), (Keep.refl _ _).drew⟩, fun h => by cases h⟩
       case hend =>
        intro S wx hwi hall
        obtain ⟨w3, rfl⟩ : ∃ w3 : World, w3 = wx := ⟨_, rfl⟩
        obtain ⟨A3, c3, lv3, hm, hk, ha, hl⟩ := hwi.2.2 (hall 20 (by decide))
        have HK3 := hid (HK4.out.trans (hk.mono (T := fun b => (b = m ∨ lv.ownBlock = some b) ∨ b = y) (fun _ h => Or.inl h)) (fun _ _ h => h))
        have HM3 := hid hm
        have HY3 := hid hwi.1
        have HA3 := hid (fun b h => (ha b h).imp id (fun h => Nat.le_trans HK4.out.size h))
        have HL3 := hid (fun b h => (hl b h).imp id (fun h => Nat.le_trans HK4.out.size h))
        have qy3 := HY3.out.k19
        clear hwi hall hm hk ha hl HK4 HM4 HY4
        have hc2 := HC2.out
        go_wp2_with fail
        go_ret
        exact rpoolP_of2 (x' := _) (e' := _) HM3.out HK3.out HA3.out HL3.out HY3.out (((Keep.refl (fun k => k = y) w3)).set ⟨y, 11, none⟩ _ (fun _ => rfl)) ((HY3.out).set 11 _) (fun _ => rfl)
 · have hcb : (rd W av == saw) = false := by simpa using c
   have e : pNext av le n l ⟨W, L, 3, had, saw, extra, false⟩ = ⟨casW W av saw (saw - n - extra), L ++ [⟨3, av, saw, saw - n - extra, false⟩], 2, had, saw, extra, false⟩ := by simp [pNext, c]
   rw [e]
   clear e
   go_enter Tryz.func51, Tryz.ntmps51
   go_wp2_with fail
   apply wp_region_text (WI := fun S wx => Keep0 w wx) (by kernel_rfl) (by kernel_rfl)
   case hob =>
    iterate 12
     apply Oblig.cons
     case h =>
      intro S w1 hwi hSi hd hcl
      apply StepOk.intro
      intro K hK
      have qy3 := (hwi.blk HY.out (fun h => h)).k19
      go_simp
      apply hK
      · rfl
      · conv => (lhs; whnf)
      · exact hwi
     simp only [put_lit, put_none]
     try dsimp only [List.set_cons_succ, List.set_cons_zero]
    apply Oblig.cons
    case h =>
     intro S w1 hwi hSi hd hcl
     apply StepOk.intro
     intro K hK
     have qy3 := (hwi.blk HY.out (fun h => h)).k19
     go_simp
     refine (show Calls Tryz.prog 90 #[.agg #[i64 t, i64 s, i64 g, i64 l, i64 r, i64 k, .slice PA pn pc, .slice LA ln lc], i64 nd, i64 st] w1 (Ret (i64 le) w1) from by have h := ref_Lease t s g l r k PA pn pc LA ln lc nd st w1 hs0 hs1 hv0 hv1 hu0 hu1; rw [← HLE.out] at h; exact h).mono ?_
     rintro e w2 ⟨rfl, hk⟩
     apply hK
     · rfl
     · conv => (lhs; whnf)
     · exact Keep0.step hwi hk
    simp only [put_lit, put_none]
    try dsimp only [List.set_cons_succ, List.set_cons_zero]
    apply Oblig.cons
    case h =>
     intro S w1 hwi hSi hd hcl
     apply StepOk.intro
     intro K hK
     have qy3 := (hwi.blk HY.out (fun h => h)).k19
     go_simp
     apply hK
     · rfl
     · conv => (lhs; whnf)
     · exact hwi
    simp only [put_lit, put_none]
    try dsimp only [List.set_cons_succ, List.set_cons_zero]
    exact Oblig.nil
   case h0 =>
    exact (Keep.refl _ _).drew
   case hend =>
    intro S wx hwi hall
    obtain ⟨w1, rfl⟩ : ∃ w1 : World, w1 = wx := ⟨_, rfl⟩
    have HY1 := hid (hwi.blk HY.out (fun h => h))
    have HM1 := hid (HM.out.keep hwi (fun _ _ h => h))
    have HK1 := hid hwi
    have qy1 := HY1.out.k19
    clear hwi hall HY HM qy
    go_wp2_with fail
    apply wp_region_text (WI := fun S wx => Keep0 w1 wx) (by kernel_rfl) (by kernel_rfl)
    case hob =>
     iterate 8
      apply Oblig.cons
      case h =>
       intro S w1 hwi hSi hd hcl
       apply StepOk.intro
       intro K hK
       have qy3 := (hwi.blk HY1.out (fun h => h)).k19
       go_simp
       apply hK
       · rfl
       · conv => (lhs; whnf)
       · exact hwi
      simp only [put_lit, put_none]
      try dsimp only [List.set_cons_succ, List.set_cons_zero]
     apply Oblig.cons
     case h =>
      intro S w1 hwi hSi hd hcl
      apply StepOk.intro
      intro K hK
      have qy3 := (hwi.blk HY1.out (fun h => h)).k19
      go_simp
      refine (show Calls Tryz.prog 54 #[.agg #[i64 t, i64 s, i64 g, i64 l, i64 r, i64 k, .slice PA pn pc, .slice LA ln lc], i64 nd] w1 (Ret (i64 av) w1) from by have h := ref_Avail t s g l r k PA pn pc LA ln lc nd w1 hs0 hs1 hv0 hv1; rw [← HAV.out] at h; exact h).mono ?_
      rintro e w2 ⟨rfl, hk⟩
      apply hK
      · rfl
      · conv => (lhs; whnf)
      · exact Keep0.step hwi hk
     simp only [put_lit, put_none]
     try dsimp only [List.set_cons_succ, List.set_cons_zero]
     apply Oblig.cons
     case h =>
      intro S w1 hwi hSi hd hcl
      apply StepOk.intro
      intro K hK
      have qy3 := (hwi.blk HY1.out (fun h => h)).k19
      go_simp
      apply hK
      · rfl
      · conv => (lhs; whnf)
      · exact hwi
     simp only [put_lit, put_none]
     try dsimp only [List.set_cons_succ, List.set_cons_zero]
     exact Oblig.nil
    case h0 =>
     exact (Keep.refl _ _).drew
    case hend =>
     intro S wx hwi hall
     obtain ⟨w2, rfl⟩ : ∃ w2 : World, w2 = wx := ⟨_, rfl⟩
     have HY2 := hid (hwi.blk HY1.out (fun h => h))
     have HM2 := hid (HM1.out.keep hwi (fun _ _ h => h))
     have HK2 := hid (HK1.out.trans hwi (fun _ _ h => h))
     have qy2 := HY2.out.k19
     clear hwi hall HY1 HM1 HK1 qy1
     go_wp2_with fail
     have HM4 := hid HM2.out
     have HY4 := hid HY2.out
     have HK4 : Hid (Keep (fun b => (b = m ∨ lv.ownBlock = some b) ∨ b = y) w w2) := hid (HK2.out.mono (fun _ h => h.elim))
     clear HM2 HY2 HK2 qy2
     obtain ⟨w4, rfl⟩ : ∃ w4 : World, w4 = w2 := ⟨_, rfl⟩
     apply wp_region_text (WI := fun S wx => Blk wx y 122 [i64 t, i64 s, i64 g, i64 l, i64 r, i64 k, .slice PA pn pc, .slice LA ln lc, i64 nd, i64 n, i64 st, i64 (3), i64 (had), i64 (saw), i64 (extra), i64 0, i64 0, .bool false, i64 0] ∧ (S 20 = false → RefAt B wx m A ca lv W L ∧ Keep0 w4 wx) ∧ (S 20 = true → RefPost B w4 m A lv (casW W av saw (saw - n - extra)) (L ++ [⟨3, av, saw, saw - n - extra, false⟩]) wx)) (by kernel_rfl) (by kernel_rfl)
     case hob =>
      iterate 20
       apply Oblig.cons
       case h =>
        intro S w1 hwi hSi hd hcl
        apply StepOk.intro
        intro K hK
        have qy5 := hwi.1.k19
        go_simp
        apply hK
        · rfl
        · conv => (lhs; whnf)
        · exact hwi
       simp only [put_lit, put_none]
       try dsimp only [List.set_cons_succ, List.set_cons_zero]
      apply Oblig.cons
      case h =>
       intro S w1 hwi hSi hd hcl
       apply StepOk.intro
       intro K hK
       have qy5 := hwi.1.k19
       go_simp
       refine (show Calls Tryz.prog 88 #[ptr m, i64 av, i64 saw, i64 (saw - n - extra)] w1 (fun e w2 => e = .returned (.bool false) ∧ RefPost B w1 m A lv (casW W av saw (saw - n - extra)) (L ++ [⟨3, av, saw, saw - n - extra, false⟩]) w2) from by have h := ref_CasN av saw (saw - n - extra) (hwi.2.1 hSi).1 (by omega) hW hL; rw [hcb] at h; exact h).mono ?_
       rintro e w2 ⟨rfl, hp⟩
       obtain ⟨Aq, cq, lvq, hq1, hq2, _⟩ := id hp
       have hblk := hq2.blk hwi.1 (ry_far (hwi.2.1 hSi).1 hwi.1)
       have hpp := hp.before (hwi.2.1 hSi).2
       apply hK
       · rfl
       · conv => (lhs; whnf)
       · exact ⟨hblk, fun h => by simp [upd] at h, fun _ => hpp⟩
      simp only [put_lit, put_none]
      try dsimp only [List.set_cons_succ, List.set_cons_zero]
      apply Oblig.cons
      case h =>
       intro S w1 hwi hSi hd hcl
       apply StepOk.intro
       intro K hK
       have qy5 := hwi.1.k19
       go_simp
       apply hK
       · rfl
       · conv => (lhs; whnf)
       · exact hwi
      simp only [put_lit, put_none]
      try dsimp only [List.set_cons_succ, List.set_cons_zero]
      exact Oblig.nil
     case h0 =>
      exact ⟨HY4.out.drew, fun _ => ⟨HM4.out.keep (Keep.refl (fun _ => False) _).drew (fun _ _ h => h), (Keep.refl _ _).drew⟩, fun h => by cases h⟩
     case hend =>
      intro S wx hwi hall
      obtain ⟨w3, rfl⟩ : ∃ w3 : World, w3 = wx := ⟨_, rfl⟩
      obtain ⟨A3, c3, lv3, hm, hk, ha, hl⟩ := hwi.2.2 (hall 20 (by decide))
      have HK3 := hid (HK4.out.trans (hk.mono (T := fun b => (b = m ∨ lv.ownBlock = some b) ∨ b = y) (fun _ h => Or.inl h)) (fun _ _ h => h))
      have HM3 := hid hm
      have HY3 := hid hwi.1
      have HA3 := hid (fun b h => (ha b h).imp id (fun h => Nat.le_trans HK4.out.size h))
      have HL3 := hid (fun b h => (hl b h).imp id (fun h => Nat.le_trans HK4.out.size h))
      have qy3 := HY3.out.k19
      clear hwi hall hm hk ha hl HK4 HM4 HY4
      go_wp2_with fail
      go_ret
      exact rpoolP_of2 (x' := _) (e' := _) HM3.out HK3.out HA3.out HL3.out HY3.out (((Keep.refl (fun k => k = y) w3)).set ⟨y, 11, none⟩ _ (fun _ => rfl)) ((HY3.out).set 11 _) (fun _ => rfl)
end
end Go.Proofs.YthaceckccobgeaaGreat
