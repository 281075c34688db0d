/- package pool: Step, Ans, New, and a machine that is played. -/
import Derived.Test.YtonekdolmbdniaaPoolA
import Derived.Test.YtonekdolmbdniaaPoolB
import Derived.Test.YtonekdolmbdniaaPoolC
import Derived.Test.YtonekdolmbdniaaPoolD
import Derived.Test.YtonekdolmbdniaaGhost
namespace Go.Proofs.Ytonekdolmbdniaa
open Go.RowKit
set_option linter.unusedVariables false
set_option linter.unusedSimpArgs false
set_option maxRecDepth 100000
section
variable {B : Nat} {w : World} {m a x : Nat} {lv : Value} {av le : Nat} {nd n lim X : Int}

/-- what Step leaves -/
def pAns (nd : Int) (bad : Bool) : Value := .agg #[i64 (if bad = true then 4 else 0), i64 0, .bool false, i64 (if bad = true then nd else 0)]
end

section
variable {B : Nat} {w : World} {m a x : Nat} {lv : Value} {av le : Nat} {nd n lim X : Int}
end
end Go.Proofs.Ytonekdolmbdniaa
