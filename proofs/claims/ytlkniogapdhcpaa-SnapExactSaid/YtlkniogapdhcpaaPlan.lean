/- Which word is whose: package plan. -/
import Derived.Test.YtlkniogapdhcpaaMemC
namespace Go.Proofs.Ytlkniogapdhcpaa
open Go.RowKit
set_option linter.unusedVariables false
set_option linter.unusedSimpArgs false

end Go.Proofs.Ytlkniogapdhcpaa
