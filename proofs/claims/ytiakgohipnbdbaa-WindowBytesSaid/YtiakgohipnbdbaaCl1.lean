/- Contracts of package claims: spans, Check. -/
import Derived.Test.YtiakgohipnbdbaaWireX
namespace Go.Proofs.Ytiakgohipnbdbaa
set_option linter.unusedVariables false
open Go.RowKit

/-- A claim's numbers, and from where to where each may be. -/
def spansV (i r x s : Int) : Value := .agg #[.int .i64 i, .int .i64 1, .int .i64 65535, .int .i64 r, .int .i64 0, .int .i64 255, .int .i64 x, .int .i64 0, .int .i64 1073741824, .int .i64 s, .int .i64 1, .int .i64 65535]

/-- Are claims right? -/
def clOk (i r x s : Int) : Prop := (1 ≤ i ∧ i ≤ 65535) ∧ (0 ≤ r ∧ r ≤ 255) ∧ (0 ≤ x ∧ x ≤ 1073741824) ∧ (1 ≤ s ∧ s ≤ 65535)
def clR (i r x s : Int) (W : World) (k : Nat) (w : World) : Prop := Below W.heap.size W w ∧ (0 < k → 1 ≤ i ∧ i ≤ 65535) ∧ (1 < k → 0 ≤ r ∧ r ≤ 255) ∧ (2 < k → 0 ≤ x ∧ x ≤ 1073741824) ∧ (3 < k → 1 ≤ s ∧ s ≤ 65535)
def clPost (i r x s : Int) (W : World) (e : Ending) (w' : World) : Prop := ((clOk i r x s ∧ e = .returned (.int .i64 0)) ∨ (¬ clOk i r x s ∧ e = .returned (.int .i64 10))) ∧ Below W.heap.size W w'

end Go.Proofs.Ytiakgohipnbdbaa
