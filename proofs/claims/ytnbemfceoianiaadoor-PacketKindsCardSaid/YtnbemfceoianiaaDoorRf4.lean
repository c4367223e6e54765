/- The document's layer 4: Width, Get of a number, Out of a number. -/
import Derived.Test.YtnbemfceoianiaaDoorRd2
import Derived.Test.YtnbemfceoianiaaDoorWireS
namespace Go.Proofs.YtnbemfceoianiaaDoor
set_option linter.unusedVariables false
open Go.RowKit

/-- What the document's Get hands out for a number's size. -/
def g4 (l : List UInt8) (s : Int) : Value := if l.length < widB s then .tuple #[.agg #[.int .i64 0, .int .i64 0, .slice none 0 0], .int .i64 0, .int .i64 4] else .tuple #[.agg #[.int .i64 s, .int .i64 (valB (l.take (widB s)) : Nat), .slice none 0 0], .int .i64 (widB s : Nat), .int .i64 0]
theorem valB_lt32 (l : List UInt8) (h : l.length ≤ 4) : valB l < 4294967296 := by
  have h1 := valB_lt l
  have h2 : 256 ^ l.length ≤ 256 ^ 4 := Nat.pow_le_pow_right (by decide) h
  have h3 : 256 ^ 4 = 4294967296 := by decide
  omega

end Go.Proofs.YtnbemfceoianiaaDoor
