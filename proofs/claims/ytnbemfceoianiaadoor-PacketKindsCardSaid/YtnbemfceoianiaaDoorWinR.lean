/- Contracts of package window: Read. -/
import Derived.Test.YtnbemfceoianiaaDoorWinB
import Derived.Test.YtnbemfceoianiaaDoorCl5
namespace Go.Proofs.YtnbemfceoianiaaDoor
set_option linter.unusedVariables false
open Go.RowKit

instance wnOkDec (b c : Int) : Decidable (wnOk b c) := by unfold wnOk; infer_instance
theorem wcheck_any (b c : Int) (w : World) : Calls Tryd.prog 27 #[.agg #[.int .i64 b, .int .i64 c]] w fun e w' => ((wnOk b c ∧ e = .returned (.int .i64 0)) ∨ (¬ wnOk b c ∧ e = .returned (.int .i64 10))) ∧ Below w.heap.size w w' := by
  by_cases h : wnOk b c
  · refine (check_yes b c w h.1 h.2.1 h.2.2.1 h.2.2.2).mono ?_
    rintro e w' ⟨rfl, hb⟩
    exact ⟨.inl ⟨h, rfl⟩, hb⟩
  · refine (check_no b c w (by unfold wnOk at h; omega)).mono ?_
    rintro e w' ⟨rfl, hb⟩
    exact ⟨.inr ⟨h, rfl⟩, hb⟩
/-- The reader behind the numbers of a nonce. -/
def wSt1 (st : RS) : RS := nS st 1
def wSt2 (st : RS) : RS := nS (wSt1 st) 2
def wX (st : RS) : Int := nV st 1
def wY (st : RS) : Int := nV (wSt1 st) 2
/-- The nonce that is read, and the error. -/
def wnRead (st : RS) : (Int × Int) × Int := if (wSt2 st).2 ≠ 0 then ((0, 0), (wSt2 st).2) else if wnOk (wX st) (wY st) then ((wX st, wY st), 0) else ((0, 0), 3)
def wnV (c : Int × Int) : Value := .agg #[.int .i64 c.1, .int .i64 c.2]

end Go.Proofs.YtnbemfceoianiaaDoor
