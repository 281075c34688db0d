/- breadlinelaw08.own, pool.Left. -/
import Derived.Test.YtonekdolmbdniaaLawEight
import Derived.Test.YtonekdolmbdniaaLog
import Derived.Test.YtonekdolmbdniaaWordsC
namespace Go.Proofs.Ytonekdolmbdniaa
open Go.RowKit
set_option linter.unusedVariables false
set_option linter.unusedSimpArgs false
set_option maxRecDepth 100000

def smallAcc (x : Acc) : Prop := (-4398046511104 ≤ x.a ∧ x.a ≤ 4398046511104) ∧ (-4398046511104 ≤ x.b ∧ x.b ≤ 4398046511104)
theorem ownD_small {x : Acc} (h : smallAcc x) : -8796093022208 ≤ ownD x ∧ ownD x ≤ 8796093022208 := by
  unfold ownD smallAcc at *
  split
  · omega
  · split <;> omega
theorem ownS_take (L : List Acc) (i : Nat) (h : i < L.length) : ownS (L.take (i + 1)) = ownS (L.take i) + ownD L[i] := by
  rw [List.take_succ_eq_append_getElem h, ownS_snoc]
theorem ownS_bound (L : List Acc) (h : ∀ x ∈ L, smallAcc x) (i : Nat) (hi : i ≤ L.length) : -(8796093022208 * (i : Int)) ≤ ownS (L.take i) ∧ ownS (L.take i) ≤ 8796093022208 * (i : Int) := by
  induction i with
  | zero => simp [ownS]
  | succ i ih =>
    have h1 := ih (by omega)
    have h2 := ownD_small (h L[i] (List.getElem_mem (by omega)))
    rw [ownS_take L i (by omega)]
    omega

def leftN (W : List Int) (av : Nat) : Nat → Int
  | 0 => rd W av
  | u + 1 => leftN W av u + rd W (av + 1 + u)
theorem leftN_bound (W : List Int) (av : Nat) (Y : Int) (h : ∀ i, -Y ≤ rd W i ∧ rd W i ≤ Y) (u : Nat) : -(Y * (u + 1)) ≤ leftN W av u ∧ leftN W av u ≤ Y * (u + 1) := by
  induction u with
  | zero => simpa [leftN] using h av
  | succ u ih =>
    have := h (av + 1 + u)
    have e : Y * ((u + 1 : Nat) + 1 : Int) = Y * (u + 1) + Y := by rw [Int.mul_add Y ((u + 1 : Nat) : Int) 1, Int.mul_one]; simp
    rw [leftN]
    omega

section
variable {B : Nat} {w : World} {m a : Nat} {lv : Value} {W : List Int} {L0 : List Acc}
end
end Go.Proofs.Ytonekdolmbdniaa
