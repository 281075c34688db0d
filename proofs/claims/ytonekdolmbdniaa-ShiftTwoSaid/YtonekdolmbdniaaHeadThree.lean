/- breadlinelaw03.head. -/
import Derived.Test.YtonekdolmbdniaaAdder
import Derived.Test.YtonekdolmbdniaaLog
namespace Go.Proofs.Ytonekdolmbdniaa
open Go.RowKit
set_option linter.unusedVariables false
set_option linter.unusedSimpArgs false

theorem keep_far {S : Nat → Prop} {w w1 w2 : World} (h : Keep0 w w1) (hk : Keep S w1 w2) (hS : ∀ k, S k → w.heap.size ≤ k) : Keep0 w w2 :=
  (h.trans (S := fun _ => False) hk (fun k hkk hs => by have := hS k hs; omega))

theorem head_play (L5 : List Acc) : playF (addStp 0) addPk 3 [⟨2, 0, 40⟩] 9 0 ⟨[0, 5, 9], L5, 3, 0⟩ = (⟨[41, 5, 9], ((L5 ++ [⟨2, (0 : Nat), 1, 1, false⟩]) ++ [⟨2, (0 : Nat), 1, 2, false⟩]) ++ [⟨2, (0 : Nat), 1, 41, false⟩], 0, 41⟩, 3, true) := by simp [playF, addStp, addPk, pokeAll, rd, wrap64]

end Go.Proofs.Ytonekdolmbdniaa
