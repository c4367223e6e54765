/- Contracts: the law's to, known, tells of layer 13. -/
import Derived.Test.YtnopmdhjamkoaaaDoorDr3
namespace Go.Proofs.YtnopmdhjamkoaaaDoor
set_option linter.unusedVariables false
open Go.RowKit

end Go.Proofs.YtnopmdhjamkoaaaDoor
