/- Contracts of package wire: the reader's Get. -/
import Derived.Test.YtnbemfceoianiaaDoorRd2
import Derived.Test.YtnbemfceoianiaaDoorBaseB
namespace Go.Proofs.YtnbemfceoianiaaDoor
set_option linter.unusedVariables false
open Go.RowKit

section
variable {W w w' : World} {xb bl : Bl} {xr ow : List Ro} {g : Nat} {st : RS}
end
end Go.Proofs.YtnbemfceoianiaaDoor
