/- breadlineref06, 02: draws, and what a machine's step leaves. -/
import Derived.Test.YtchlmaphaeoplaaRefOne
import Derived.Test.YtchlmaphaeoplaaRefOps
import Derived.Test.YtchlmaphaeoplaaAddS
import Derived.Deep.QuietTactic
import Derived.BigQuiet
namespace Go.Proofs.Ytchlmaphaeoplaa
open Go.RowKit
set_option linter.unusedVariables false
set_option linter.unusedSimpArgs false
set_option maxRecDepth 100000
theorem ref2_Begin (n : Int) (w : World) (h : 0 ≤ n ∧ n ≤ 1000) : Calls Try.prog 37 #[i64 n] w (fun e w' => e = .returned (i64 (dBegin n)) ∧ w = w') := by
  have y1 : IntKind.i64.wrap (n + 1) = n + 1 := IntWalk.i64_in _ (by omega)
  have y2 : IntKind.i64.wrap ((n + 1) * 2654435761) = (n + 1) * 2654435761 := IntWalk.i64_in _ (by omega)
  have y3 : wrap64 (((n + 1) * 2654435761).tmod 4294967296) = dBegin n := by
    rw [Int.tmod_eq_emod_of_nonneg (by omega)]
    show wrap64 (dBegin n) = dBegin n
    have h1 : 0 ≤ dBegin n := Int.emod_nonneg _ (by omega)
    have h2 : dBegin n < 4294967296 := Int.emod_lt_of_pos _ (by omega)
    unfold wrap64
    omega
  go_enter Try.func37, Try.ntmps37
  go_wp2_with fail
  go_ret
  exact ⟨rfl, rfl⟩
theorem ref2_Pick (x n : Int) (w : World) (hx : 0 ≤ x ∧ x ≤ 9223372036854775807) (hn : 1 ≤ n) : Calls Try.prog 47 #[i64 x, i64 n] w (fun e w' => e = .returned (i64 (x % n)) ∧ w = w') := by
  have hn0 : n ≠ 0 := by omega
  have y : x.tmod n = x % n := Int.tmod_eq_emod_of_nonneg hx.1
  go_enter Try.func47, Try.ntmps47
  go_wp2_with fail
  go_ret
  exact ⟨rfl, rfl⟩
theorem ref2_Next (x : Int) (w : World) (hx : 0 ≤ x ∧ x < 4294967296) : Calls Try.prog 51 #[i64 x] w (fun e w' => e = .returned (i64 (dNext x)) ∧ w = w') := by
  have key : ∀ z : Int, 0 ≤ z ∧ z < 4294967296 → dSt z 3 = xUp 5 (xDn 17 (xUp 13 z)) := fun _ _ => rfl
  by_cases h1 : 1 ≤ x
  · have hd : dNext x = xUp 5 (xDn 17 (xUp 13 x)) := by unfold dNext; rw [if_pos (by omega)]; rfl
    have y1 : IntKind.u32.wrap x = x := by rw [IntKind.wrap_u32]; omega
    have y1' : x % 4294967296 = x := by omega
    have c1 : decide (x < 1) = false := by simp; omega
    have c2 : decide (4294967296 ≤ x) = false := by simp; omega
    have b1 := dSt_bd x hx 1
    have b2 := dSt_bd x hx 2
    have b3 := dSt_bd x hx 3
    have hq : wrap64 (xUp 5 (xDn 17 (xUp 13 x))) = xUp 5 (xDn 17 (xUp 13 x)) := by have h := b3; rw [key x hx] at h; unfold wrap64; omega
    rw [hd]
    clear hd key b1 b2 b3
    have HQ := hid hq
    clear hq
    go_enter Try.func51, Try.ntmps51
    go_wp2_with fail
    go_ret
    exact ⟨congrArg (fun z => Ending.returned (i64 z)) HQ.out, rfl⟩
  · obtain rfl : x = 0 := by omega
    have hd : dNext 0 = xUp 5 (xDn 17 (xUp 13 1)) := by unfold dNext; rw [if_neg (by omega)]; rfl
    rw [hd]
    clear hd
    go_enter Try.func51, Try.ntmps51
    go_wp2_with fail
    go_ret
    exact ⟨by first | rfl | kernel_rfl, rfl⟩
/-- a machine's cells, from its state -/
def rcs6 (b s : Nat) (g d : Int) (t : AS) : List Value := [i64 (b : Int), i64 (s : Int), i64 g, i64 d, i64 t.x, i64 (t.st : Int), i64 t.lv, i64 ((t.sp - (b + 4) : Nat) : Int), i64 t.w, i64 t.v]
/-- within a region: what holds ahead of its last operation, and behind it -/
def WEnd (last : Nat) (P Q : World → Prop) (S : Nat → Bool) (wx : World) : Prop := (S last = false → P wx) ∧ (S last = true → Q wx)
theorem WEnd.fixed {last : Nat} {P Q : World → Prop} {S : Nat → Bool} {wx : World} {i : Nat} (h : WEnd last P Q S wx) (hi : i ≠ last) : WEnd last P Q (upd S i) wx := by
  unfold WEnd
  rw [show upd S i last = S last from by simp [upd, Ne.symm hi]]
  exact h
theorem WEnd.done {last : Nat} {P Q : World → Prop} {S : Nat → Bool} {wx : World} (h : Q wx) : WEnd last P Q (upd S last) wx := by
  unfold WEnd
  rw [show upd S last last = true from by simp [upd]]
  exact ⟨(fun h => by cases h), fun _ => h⟩
section
variable {B : Nat} {w : World} {m y : Nat} {A : Option Addr} {ca : Nat} {lv : Value} {W : List Int} {L : List Acc} {b s I : Nat} {g d x0 l6 ww vv : Int}
theorem r6_far {cs : List Value} (hm : RefAt B w m A ca lv W L) (hy : Blk w y 86 cs) : ¬ (y = m ∨ lv.ownBlock = some y) := by
  rintro (h | h)
  · exact hy.ne hm.mem (by decide) h
  · exact ownBlock_ne hm.log hy (by decide) h.symm
theorem r6_far2 {cs : List Value} (hm : RefAt B w m A ca lv W L) (hy : Blk w y 86 cs) (c : Nat) (hb : RF m A lv c) : c ≠ y := by
  rintro rfl
  rcases hb with h | h | h
  · exact hy.ne hm.mem (by decide) h
  · exact ownBlock_ne hm.words hy (by decide) ((own_any _ _ _ _ _).trans h).symm
  · exact ownBlock_ne hm.log hy (by decide) h.symm
theorem r6_LoadJ (i : Int) (j : Nat) (hij : i = (j : Int)) (hm : RefAt B w m A ca lv W L) (hi : j < W.length) (hL : L.length ≤ 1000000000) :
    Calls Try.prog 46 #[ptr m, i64 i] w fun e w' => e = .returned (i64 (rd W j)) ∧ RefPost B w m A lv W (L ++ [⟨1, j, rd W j, 0, false⟩]) w' := by
  subst hij
  have h := ref_Load (j : Int) hm (by omega) (by omega) hL
  rwa [Int.toNat_natCast] at h
theorem r6_CasJ (i : Int) (j : Nat) (hij : i = (j : Int)) (old x : Int) (hm : RefAt B w m A ca lv W L) (hi : j < W.length) (hW : W.length ≤ 1000000) (hL : L.length ≤ 1000000000) :
    Calls Try.prog 48 #[ptr m, i64 i, i64 old, i64 x] w fun e w' => e = .returned (.bool (rd W j == old)) ∧ RefPost B w m A lv (casW W j old x) (L ++ [⟨3, j, old, x, rd W j == old⟩]) w' := by
  subst hij
  have h := ref_Cas (j : Int) old x hm (by omega) (by omega) hW hL
  rwa [Int.toNat_natCast] at h
theorem r6_CasB (i : Int) (j : Nat) (hij : i = (j : Int)) (old x : Int) (bo : Bool) (hq : (rd W j == old) = bo) (hm : RefAt B w m A ca lv W L) (hi : j < W.length) (hW : W.length ≤ 1000000) (hL : L.length ≤ 1000000000) :
    Calls Try.prog 48 #[ptr m, i64 i, i64 old, i64 x] w fun e w' => e = .returned (.bool bo) ∧ RefPost B w m A lv (casW W j old x) (L ++ [⟨3, j, old, x, bo⟩]) w' := by
  subst hq
  exact r6_CasJ i j hij old x hm hi hW hL
theorem r6_AddJ (i : Int) (j : Nat) (hij : i = (j : Int)) (x : Int) (hm : RefAt B w m A ca lv W L) (hi : j < W.length) (hW : W.length ≤ 1000000) (hL : L.length ≤ 1000000000) :
    Calls Try.prog 50 #[ptr m, i64 i, i64 x] w fun e w' => e = .returned (i64 (wrap64 (rd W j + x))) ∧ RefPost B w m A lv (W.set j (wrap64 (rd W j + x))) (L ++ [⟨2, j, x, wrap64 (rd W j + x), false⟩]) w' := by
  subst hij
  have h := ref_Add (j : Int) x hm (by omega) (by omega) hW hL
  rwa [Int.toNat_natCast] at h
/-- what a step leaves -/
def R6P (B : Nat) (w : World) (m : Nat) (A : Option Addr) (lv : Value) (y b s : Nat) (g d : Int) (t : AS) (e : Ending) (w' : World) : Prop :=
  e = .returned (.bool (decide (t.st = 9))) ∧ ∃ A' c' lv', RefAt B w' m A' c' lv' t.W t.L ∧ Blk w' y 86 (rcs6 b s g d t) ∧ Keep (fun c => (c = m ∨ lv.ownBlock = some c) ∨ c = y) w w' ∧
    (∀ c, (Value.slice A' 0 0).ownBlock = some c → (Value.slice A 0 0).ownBlock = some c ∨ w.heap.size ≤ c) ∧ (∀ c, lv'.ownBlock = some c → lv.ownBlock = some c ∨ w.heap.size ≤ c)
theorem r6_end {w2 : World} {A1 : Option Addr} {c1 : Nat} {lv1 : Value} {t : AS} {e : Ending} (he : e = .returned (.bool (decide (t.st = 9)))) (hm : RefAt B w2 m A1 c1 lv1 t.W t.L) (hk : Keep (fun c => (c = m ∨ lv.ownBlock = some c) ∨ c = y) w w2)
    (ha : ∀ c, (Value.slice A1 0 0).ownBlock = some c → (Value.slice A 0 0).ownBlock = some c ∨ w.heap.size ≤ c) (hl : ∀ c, lv1.ownBlock = some c → lv.ownBlock = some c ∨ w.heap.size ≤ c)
    {cells : List Value} (hy : Blk w2 y 86 cells) (hc : rcs6 b s g d t = cells) : R6P B w m A lv y b s g d t e w2 := ⟨he, A1, c1, lv1, hm, by rw [hc]; exact hy, hk, ha, hl⟩
/-- miss: its cells, behind it -/
def m6x (s : Nat) (l6 x0 : Int) : Int := if l6 < s then x0 else dNext x0
def m6a (s : Nat) (l6 : Int) : Int := if l6 < s then 8 else 0
set_option maxHeartbeats 2000000 in
theorem r6_miss {at_ : Int} (hy : Blk w y 86 [i64 (b : Int), i64 (s : Int), i64 g, i64 d, i64 (x0), i64 (at_), i64 (l6), i64 ((I : Nat) : Int), i64 (ww), i64 (vv)]) (hx : 0 ≤ x0 ∧ x0 < 4294967296) :
    Calls Try.prog 49 #[ptr y] w (fun e w' => e = .returned (.tuple #[]) ∧ Blk w' y 86 [i64 (b : Int), i64 (s : Int), i64 g, i64 d, i64 (m6x s l6 x0), i64 (m6a s l6), i64 (l6), i64 ((I : Nat) : Int), i64 (ww), i64 (vv)] ∧ Keep (fun c => c = y) w w') := by
  have HY := hid hy
  have qy := hy.k10
  clear hy
  by_cases hc : l6 < (s : Int)
  · have e1 : m6x s l6 x0 = x0 := if_pos hc
    have e2 : m6a s l6 = 8 := if_pos hc
    rw [e1, e2]
    clear e1 e2
    go_enter Try.func49, Try.ntmps49
    go_wp2_with fail
    go_quiet (fail)
    go_wp2_with fail
    go_end0
    exact ⟨rfl, (HY.out.drewN nq).set 5 _, ((Keep.refl (fun c => c = y) _).drewN nq).set ⟨y, 5, none⟩ _ (fun _ => rfl)⟩
  · have e1 : m6x s l6 x0 = dNext x0 := if_neg hc
    have e2 : m6a s l6 = 0 := if_neg hc
    rw [e1, e2]
    clear e1 e2
    go_enter Try.func49, Try.ntmps49
    go_wp2_with fail
    go_quiet (fail)
    have HY2 := hid (HY.out.drewN nq)
    have HK2 := hid ((Keep.refl (fun c => c = y) w).drewN nq)
    generalize w.drewN nq = w2 at *
    have qy2 := HY2.out.k10
    go_wp2_with fail
    refine (ref2_Next x0 _ hx).mono ?_
    rintro e w3 ⟨rfl, rfl⟩
    go_wp2_with fail
    go_end0
    exact ⟨rfl, (HY2.out.set 4 _).set 5 _, (HK2.out.set ⟨y, 4, none⟩ _ (fun _ => rfl)).set ⟨y, 5, none⟩ _ (fun _ => rfl)⟩
end
end Go.Proofs.Ytchlmaphaeoplaa
