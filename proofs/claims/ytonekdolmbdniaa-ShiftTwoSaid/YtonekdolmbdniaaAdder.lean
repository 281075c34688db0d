/- breadlinelaw03.Adder, played. -/
import Derived.Test.YtonekdolmbdniaaLawThree
import Derived.Test.YtonekdolmbdniaaPlay
namespace Go.Proofs.Ytonekdolmbdniaa
open Go.RowKit
set_option linter.unusedVariables false
set_option linter.unusedSimpArgs false

structure AS where
  W : List Int
  L : List Acc
  many : Int
  last : Int
def addStp (wi : Nat) (t : AS) : AS × Bool :=
  if 0 < t.many then (⟨t.W.set wi (wrap64 (rd t.W wi + 1)), t.L ++ [⟨2, wi, 1, wrap64 (rd t.W wi + 1), false⟩], t.many - 1, wrap64 (rd t.W wi + 1)⟩, t.many - 1 == 0) else (t, t.many == 0)
def addPk (t : AS) (i : Nat) (x : Int) : AS := ⟨t.W.set i x, t.L, t.many, t.last⟩

section
variable {B : Nat} {w : World} {m a x : Nat} {lv : Value}
end
end Go.Proofs.Ytonekdolmbdniaa
