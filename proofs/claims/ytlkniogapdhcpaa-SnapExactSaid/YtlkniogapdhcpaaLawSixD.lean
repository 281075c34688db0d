/- breadlinelaw06: Poked. -/
import Derived.Test.YtlkniogapdhcpaaRefOne
import Derived.Test.YtlkniogapdhcpaaPks
import Derived.Test.YtlkniogapdhcpaaLawSixB
namespace Go.Proofs.Ytlkniogapdhcpaa
open Go.RowKit
set_option linter.unusedVariables false
set_option linter.unusedSimpArgs false
set_option maxRecDepth 100000
/-- a poke of a counter's words, turned to what may be -/
def fp6 (b s : Nat) (g l : Int) (p : Pk) : Option Pk :=
  if p.w < 0 ∨ (b : Int) + 4 + s ≤ p.w then none else if p.w = (b : Int) + 3 then some ⟨p.at_, p.w, l⟩ else if (b : Int) + 4 ≤ p.w then some ⟨p.at_, p.w, pNext6 p.x ((pVal p.x).tmod g)⟩ else some p
def poked6 (b s : Nat) (g l : Int) (K : List Pk) : List Pk := K.filterMap (fp6 b s g l)
theorem poked6_snoc (b s : Nat) (g l : Int) (K : List Pk) (j : Nat) (hj : j < K.length) : poked6 b s g l (K.take (j + 1)) = poked6 b s g l (K.take j) ++ (fp6 b s g l K[j]).toList := by
  unfold poked6
  rw [List.take_succ_eq_append_getElem hj, List.filterMap_append]
  cases h : fp6 b s g l K[j] <;> simp [h]
end Go.Proofs.Ytlkniogapdhcpaa
