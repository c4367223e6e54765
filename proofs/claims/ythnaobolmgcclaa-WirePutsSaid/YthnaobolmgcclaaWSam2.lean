/- wire.Same of two fields that are the same. -/
import Derived.Test.YthnaobolmgcclaaPut1
import Derived.Test.YthnaobolmgcclaaEqual
namespace Go.Proofs.Ythnaobolmgcclaa
set_option linter.unusedVariables false
open Go.RowKit

set_option maxRecDepth 100000 in
set_option maxHeartbeats 400000 in
theorem wsame_eq (s n : Int) (A A' : Option Addr) (c c' : Nat) (l : List UInt8) (w : World) (hl : RB w w.heap.size A l) (hl' : RB w w.heap.size A' l) :
    Calls Try.prog 22 #[.agg #[.int .i64 s, .int .i64 n, .slice A l.length c], .agg #[.int .i64 s, .int .i64 n, .slice A' l.length c']] w fun e w' => e = .returned (.bool true) ∧ Below w.heap.size w w' := by
  have HE := Lib.hid (equal_is A A' c c' l l true (by simp) ((w.alloc (.cells #[.int .i64 s, .int .i64 n, .slice A l.length c] 39)).alloc (.cells #[.int .i64 s, .int .i64 n, .slice A' l.length c'] 39)) ((hl.alloc _).alloc _) ((hl'.alloc _).alloc _))
  clear hl hl'
  obtain ⟨L, hL⟩ : ∃ L, l.length = L := ⟨_, rfl⟩
  rw [hL] at HE ⊢
  clear hL
  go_enter Try.func22, Try.ntmps22
  go_wp2_with fail
  refine HE.out.mono ?_
  rintro e w1 ⟨rfl, rfl⟩
  go_wp2_with fail
  go_ret
  exact ⟨rfl, ((Below.refl _ _).alloc (Nat.le_refl _) _).alloc (by simp) _⟩
end Go.Proofs.Ythnaobolmgcclaa
