/- What the laws of the second chapter share. -/
import Derived.Test.YthnaobolmgcclaaMac8
import Derived.Test.YthnaobolmgcclaaFew2
import Derived.Test.YthnaobolmgcclaaKn02
import Derived.Lib.MinMax
namespace Go.Proofs.Ythnaobolmgcclaa
set_option linter.unusedVariables false
open Go.RowKit

/-- A slice's first bytes: how many, as the program reckons it. -/
theorem cut_n (N M : Nat) : ∃ n : Nat, (n : Int) = min (N : Int) M ∧ n ≤ N ∧ n ≤ M := ⟨min N M, by omega, by omega, by omega⟩
theorem few2_cat {ps : List Pt} : (catP (fewP 8 60 ps)).length ≤ 480 := by
  have h1 := catP_len_le (N := 60) (ps := fewP 8 60 ps) (fewP_le 8 60 ps)
  have h2 : (fewP 8 60 ps).length ≤ 8 := by rw [fewP_len]; omega
  omega
end Go.Proofs.Ythnaobolmgcclaa
