/- The document's layer 5: Right, Parse; and the conversion to it. -/
import Derived.Test.YtnbemfceoianiaaDoorRf4
import Derived.Test.YtnbemfceoianiaaDoorCl5
namespace Go.Proofs.YtnbemfceoianiaaDoor
set_option linter.unusedVariables false
open Go.RowKit

/-- The claims at the beginning of bytes, in the document's words. -/
def c9 (b : List UInt8) : C4 := ((valB (b.take 2) : Nat), (valB ((b.drop 2).take 1) : Nat), (valB ((b.drop 3).take 4) : Nat), (valB ((b.drop 7).take 2) : Nat))
def parse9 (b : List UInt8) : C4 × Int := if b.length < 9 then ((0, 0, 0, 0), 4) else if clOk (c9 b).1 (c9 b).2.1 (c9 b).2.2.1 (c9 b).2.2.2 then (c9 b, 0) else ((0, 0, 0, 0), 3)
end Go.Proofs.YtnbemfceoianiaaDoor
