/- Equality of two structs of two ints, as one fact that does not part the walk. -/
import Derived.Test.YtnbemfceoianiaaBaseA
import Derived.Test.YtnbemfceoianiaaProg
import Derived.WalkSpells
namespace Go.Proofs.Ytnbemfceoianiaa
set_option linter.unusedVariables false
open Go.RowKit

def eq2 (a b c d : Int) : Bool := a == c && b == d

theorem eq_refNonce (w : World) (a b c d : Int) : (binOp .eql 25 (.agg #[.int .i64 a, .int .i64 b]) (.agg #[.int .i64 c, .int .i64 d])).run Try.prog w = .ok (.bool (eq2 a b c d)) w := by
  unfold eq2
  by_cases h1 : a = c
  · subst h1; by_cases h2 : b = d <;> go_simp
  · have h1' : (a == c) = false := by simpa using h1
    by_cases h2 : b = d <;> go_simp
theorem ne_refNonce (w : World) (a b c d : Int) : (binOp .neq 25 (.agg #[.int .i64 a, .int .i64 b]) (.agg #[.int .i64 c, .int .i64 d])).run Try.prog w = .ok (.bool (!eq2 a b c d)) w := by
  unfold eq2
  by_cases h1 : a = c
  · subst h1; by_cases h2 : b = d <;> go_simp
  · have h1' : (a == c) = false := by simpa using h1
    by_cases h2 : b = d <;> go_simp
theorem eq_winNonce (w : World) (a b c d : Int) : (binOp .eql 31 (.agg #[.int .i64 a, .int .i64 b]) (.agg #[.int .i64 c, .int .i64 d])).run Try.prog w = .ok (.bool (eq2 a b c d)) w := by
  unfold eq2
  by_cases h1 : a = c
  · subst h1; by_cases h2 : b = d <;> go_simp
  · have h1' : (a == c) = false := by simpa using h1
    by_cases h2 : b = d <;> go_simp
theorem ne_winNonce (w : World) (a b c d : Int) : (binOp .neq 31 (.agg #[.int .i64 a, .int .i64 b]) (.agg #[.int .i64 c, .int .i64 d])).run Try.prog w = .ok (.bool (!eq2 a b c d)) w := by
  unfold eq2
  by_cases h1 : a = c
  · subst h1; by_cases h2 : b = d <;> go_simp
  · have h1' : (a == c) = false := by simpa using h1
    by_cases h2 : b = d <;> go_simp
end Go.Proofs.Ytnbemfceoianiaa
