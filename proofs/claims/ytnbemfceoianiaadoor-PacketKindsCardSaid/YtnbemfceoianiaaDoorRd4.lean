/- Contracts of package wire: New, and the reader's other methods. -/
import Derived.Test.YtnbemfceoianiaaDoorRd3
import Derived.BigQuiet
namespace Go.Proofs.YtnbemfceoianiaaDoor
set_option linter.unusedVariables false
open Go.RowKit

theorem own_capW {w : World} {base e size n n' c : Nat} {A : Option Addr} {xs : List Value} (h : w.ownsRow base e size (.slice A n' c) n xs) : c ≤ maxLen := by
  rcases h.2 with ⟨h1, _⟩ | ⟨g, cap, cur, h1, _, _, _, h2, _⟩
  · injection h1 with _ _ h3
    rw [h3]
    exact Nat.zero_le _
  · injection h1 with _ _ h3
    rw [h3]
    exact h2
/-- The state of a new reader. -/
def newR (l : List UInt8) : RS := if 1024 < l.length then ([], 2) else (l, 0)
/-- A number that is read. -/
def nV (st : RS) (s : Int) : Int := (getF (if s = 4 then failR st 13 else st) s).2.1
def nS (st : RS) (s : Int) : RS := getS (if s = 4 then failR st 13 else st) s

def endR (st : RS) : Int := if st.2 ≠ 0 then st.2 else if 0 < st.1.length then 3 else 0
/-- Bytes that are read. -/
def bB (st : RS) (most : Int) : List UInt8 := if most < (getF st 4).2.2.length then [] else (getF st 4).2.2
def bS (st : RS) (most : Int) : RS := if most < (getF st 4).2.2.length then failR (getS st 4) 3 else getS st 4
end Go.Proofs.YtnbemfceoianiaaDoor
