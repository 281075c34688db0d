/- breadlinelaw08.head. -/
import Derived.Test.YtonekdolmbdniaaLawEightD
namespace Go.Proofs.Ytonekdolmbdniaa
open Go.RowKit
set_option linter.unusedVariables false
set_option linter.unusedSimpArgs false
set_option maxRecDepth 100000

theorem PInv.start {W : List Int} {L : List Acc} {av le : Nat} {n lim X : Int} (la : av < W.length) (ll : le < W.length) (ne : av ≠ le) (n1 : 1 ≤ n ∧ n ≤ 1048576) (m1 : 0 ≤ lim ∧ lim ≤ 1048576) (wl : 0 ≤ rd W le ∧ rd W le ≤ lim) (wa : 0 ≤ rd W av ∧ rd W av ≤ X) : PInv av le n lim X ⟨W, L, 0, 0, 0, 0, false⟩ :=
  ⟨la, ll, ne, n1, m1, wl, wa, (show (0 : Nat) ≤ 7 by decide), fun h => (by cases h), fun h => (by cases h), fun h => (by rcases h with h | h | h <;> cases h), fun h => (by cases h), fun h => (by cases h)⟩
theorem head8_x : playF (pStp 1 3 3 4) pPk 46 [] 50 0 ⟨freshW 2 3 4 [20, 10, 8, 5], [], 0, 0, 0, 0, false⟩ = (⟨((freshW 2 3 4 [20, 10, 8, 5]).set 1 15).set 3 2, [⟨1, (3 : Nat), 0, 0, false⟩, ⟨1, (1 : Nat), 20, 0, false⟩, ⟨3, (1 : Nat), 20, 15, true⟩, ⟨1, (3 : Nat), 0, 0, false⟩, ⟨3, (3 : Nat), 0, 2, true⟩], 7, 0, 20, 2, false⟩, 5, true) := by kernel_rfl
theorem head8_y : playF (pStp 1 3 2 4) pPk 46 [] 50 0 ⟨((freshW 2 3 4 [20, 10, 8, 5]).set 1 15).set 3 2, [⟨1, (3 : Nat), 0, 0, false⟩, ⟨1, (1 : Nat), 20, 0, false⟩, ⟨3, (1 : Nat), 20, 15, true⟩, ⟨1, (3 : Nat), 0, 0, false⟩, ⟨3, (3 : Nat), 0, 2, true⟩], 0, 0, 0, 0, false⟩ = (⟨(((freshW 2 3 4 [20, 10, 8, 5]).set 1 15).set 3 2).set 3 0, [⟨1, (3 : Nat), 0, 0, false⟩, ⟨1, (1 : Nat), 20, 0, false⟩, ⟨3, (1 : Nat), 20, 15, true⟩, ⟨1, (3 : Nat), 0, 0, false⟩, ⟨3, (3 : Nat), 0, 2, true⟩, ⟨1, (3 : Nat), 2, 0, false⟩, ⟨3, (3 : Nat), 2, 0, true⟩], 7, 2, 0, 0, false⟩, 2, true) := by kernel_rfl
theorem head8_z : playF (pStp 1 2 16 4) pPk 46 [] 50 0 ⟨(((freshW 2 3 4 [20, 10, 8, 5]).set 1 15).set 3 2).set 3 0, [⟨1, (3 : Nat), 0, 0, false⟩, ⟨1, (1 : Nat), 20, 0, false⟩, ⟨3, (1 : Nat), 20, 15, true⟩, ⟨1, (3 : Nat), 0, 0, false⟩, ⟨3, (3 : Nat), 0, 2, true⟩, ⟨1, (3 : Nat), 2, 0, false⟩, ⟨3, (3 : Nat), 2, 0, true⟩], 0, 0, 0, 0, false⟩ = (⟨(((freshW 2 3 4 [20, 10, 8, 5]).set 1 15).set 3 2).set 3 0, [⟨1, (3 : Nat), 0, 0, false⟩, ⟨1, (1 : Nat), 20, 0, false⟩, ⟨3, (1 : Nat), 20, 15, true⟩, ⟨1, (3 : Nat), 0, 0, false⟩, ⟨3, (3 : Nat), 0, 2, true⟩, ⟨1, (3 : Nat), 2, 0, false⟩, ⟨3, (3 : Nat), 2, 0, true⟩, ⟨1, (2 : Nat), 0, 0, false⟩, ⟨1, (1 : Nat), 15, 0, false⟩], 7, 0, 15, 0, true⟩, 2, true) := by kernel_rfl
theorem rd_all {W : List Int} {Y : Int} (hY : 0 ≤ Y) (h : (W.all fun x => decide (-Y ≤ x ∧ x ≤ Y)) = true) (i : Nat) : -Y ≤ rd W i ∧ rd W i ≤ Y := by
  rw [List.all_eq_true] at h
  unfold rd
  by_cases hi : i < W.length
  · have := h W[i] (List.getElem_mem hi)
    rw [List.getD_eq_getElem?_getD, List.getElem?_eq_getElem hi]
    simpa using this
  · rw [List.getD_eq_getElem?_getD, List.getElem?_eq_none (by omega)]
    simp; omega

end Go.Proofs.Ytonekdolmbdniaa
