/- package pool: stages 2 of step. -/
import Derived.Test.YtonekdolmbdniaaPool
import Derived.Deep.RegionLaw
namespace Go.Proofs.Ytonekdolmbdniaa
open Go.RowKit
set_option linter.unusedVariables false
set_option linter.unusedSimpArgs false
set_option maxRecDepth 100000
section
variable {B : Nat} {w : World} {m a x : Nat} {lv : Value} {av le : Nat} {nd n lim X : Int}

end
end Go.Proofs.Ytonekdolmbdniaa
