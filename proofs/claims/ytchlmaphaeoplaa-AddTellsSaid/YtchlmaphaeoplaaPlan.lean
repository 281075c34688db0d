/- Which word is whose: package plan. -/
import Derived.Test.YtchlmaphaeoplaaMemC
namespace Go.Proofs.Ytchlmaphaeoplaa
open Go.RowKit
set_option linter.unusedVariables false
set_option linter.unusedSimpArgs false

end Go.Proofs.Ytchlmaphaeoplaa
