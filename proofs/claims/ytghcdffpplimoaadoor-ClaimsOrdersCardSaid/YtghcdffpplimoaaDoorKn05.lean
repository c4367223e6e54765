/- The chapter's example of claims. -/
import Derived.Test.YtghcdffpplimoaaDoorCl2
import Derived.Test.YtghcdffpplimoaaDoorBaseA
import Derived.Test.YtghcdffpplimoaaDoorBaseB
namespace Go.Proofs.YtghcdffpplimoaaDoor
set_option linter.unusedVariables false
open Go.RowKit

theorem kn05 : clB 258 3 5 7 = [1, 2, 3, 0, 0, 0, 5, 0, 7] := by decide
set_option maxRecDepth 100000 in
set_option maxHeartbeats 1600000 in
theorem known05 (w : World) : Calls Tryd.prog 13 #[] w fun e w' => e = .returned (.bool true) ∧ Below w.heap.size w w' := by
  go_enter Tryd.func13, Tryd.ntmps13
  go_wp2_with fail
  refine (clbytes_ok 258 3 5 7 w ⟨by omega, by omega, by omega, by omega⟩).mono ?_
  rintro e w1 ⟨v, rfl, hf⟩
  obtain ⟨A, c, rfl, hr, _⟩ := own_form hf.own
  rw [kn05] at hr
  have HB := Lib.hid hf.bel
  have hsz := hf.bel.size
  have HR := Lib.hid hr
  clear hf hr
  go_wp2_with fail
  refine ((same_yes A (some ⟨w1.heap.size, 0, none⟩) c 9 [1, 2, 3, 0, 0, 0, 5, 0, 7] _ ?_ ?_ (by simp [maxLen]))).mono ?_
  · exact (HR.out.below ((Below.refl w1.heap.size w1).alloc (Nat.le_refl _) _)).more (by simp)
  · exact Rd.new1 (size := 1) (n := 9) w1 _ _ rfl
  rintro e w2 ⟨rfl, hb2⟩
  have HB2 := Lib.hid ((HB.out.alloc hsz _).trans (hb2.mono (by simp; omega)))
  clear hb2
  go_wp2_with fail
  go_ret
  exact ⟨rfl, HB2.out⟩

end Go.Proofs.YtghcdffpplimoaaDoor
