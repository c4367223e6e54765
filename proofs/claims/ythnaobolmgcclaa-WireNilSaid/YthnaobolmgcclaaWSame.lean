/- wire.Same of two empty fields. -/
import Derived.Test.YthnaobolmgcclaaWireB
import Derived.Test.YthnaobolmgcclaaEqual
namespace Go.Proofs.Ythnaobolmgcclaa
set_option linter.unusedVariables false
open Go.RowKit

set_option maxRecDepth 100000 in
set_option maxHeartbeats 400000 in
theorem wsame_zero (w : World) : Calls Try.prog 22 #[.agg #[.int .i64 0, .int .i64 0, .slice none 0 0], .agg #[.int .i64 0, .int .i64 0, .slice none 0 0]] w fun e w' => e = .returned (.bool true) ∧ Below w.heap.size w w' := by
  go_enter Try.func22, Try.ntmps22
  go_wp2_with fail
  refine (equal_is none none 0 0 [] [] true rfl _ (Rd.nil_ _ _ _ _) (Rd.nil_ _ _ _ _)).mono ?_
  rintro e w1 ⟨rfl, rfl⟩
  go_wp2_with fail
  go_ret
  exact ⟨rfl, ((Below.refl _ _).alloc (Nat.le_refl _) _).alloc (by simp) _⟩
end Go.Proofs.Ythnaobolmgcclaa
