/- Contracts of package claims: Read, Parse. -/
import Derived.Test.YtnbemfceoianiaaDoorCl1
import Derived.Test.YtnbemfceoianiaaDoorRd4
import Derived.Test.YtnbemfceoianiaaDoorRdL
namespace Go.Proofs.YtnbemfceoianiaaDoor
set_option linter.unusedVariables false
open Go.RowKit

instance clOkDec (i r x s : Int) : Decidable (clOk i r x s) := by unfold clOk; infer_instance

/-- The reader behind the numbers of claims. -/
def cSt1 (st : RS) : RS := nS st 1
def cSt2 (st : RS) : RS := nS (cSt1 st) 0
def cSt3 (st : RS) : RS := nS (cSt2 st) 2
def cSt4 (st : RS) : RS := nS (cSt3 st) 1
def cI (st : RS) : Int := nV st 1
def cR (st : RS) : Int := nV (cSt1 st) 0
def cX (st : RS) : Int := nV (cSt2 st) 2
def cS (st : RS) : Int := nV (cSt3 st) 1
abbrev C4 := Int × Int × Int × Int
/-- The claims that are read, and the error. -/
def clRead (st : RS) : C4 × Int := if (cSt4 st).2 ≠ 0 then ((0, 0, 0, 0), (cSt4 st).2) else if clOk (cI st) (cR st) (cX st) (cS st) then ((cI st, cR st, cX st, cS st), 0) else ((0, 0, 0, 0), 3)
def clV (c : C4) : Value := .agg #[.int .i64 c.1, .int .i64 c.2.1, .int .i64 c.2.2.1, .int .i64 c.2.2.2]

/-- What Parse says. -/
def clParse (l : List UInt8) : C4 × Int :=
  if (clRead (newR l)).2 ≠ 0 then ((0, 0, 0, 0), (clRead (newR l)).2) else if endR (cSt4 (newR l)) ≠ 0 then ((0, 0, 0, 0), endR (cSt4 (newR l))) else ((clRead (newR l)).1, 0)

end Go.Proofs.YtnbemfceoianiaaDoor
