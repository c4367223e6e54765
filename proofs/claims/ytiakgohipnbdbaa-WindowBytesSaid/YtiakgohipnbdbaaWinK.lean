/- The chapter's example of layer 12: the law's own 'known' answers true. -/
import Derived.Test.YtiakgohipnbdbaaWinT
namespace Go.Proofs.Ytiakgohipnbdbaa
set_option linter.unusedVariables false
open Go.RowKit

theorem take_at {g : Nat} {B C : Int} {S : Nat} {b c : Int} {w : World} (r B' C' : Int) (S' : Nat) (hW : Bk w g 105 (wcs B C S)) (hS : winOk B C S)
    (h1 : lookV B C S b c = r) (h2 : takeS B C S b c = (B', C', S')) :
    Calls Try.prog 60 #[.pointer (some ⟨g, 0, none⟩), .agg #[.int .i64 b, .int .i64 c]] w fun e w' =>
      e = .returned (.int .i64 r) ∧ On w w' g ∧ Bk w' g 105 (wcs B' C' S') := by
  have := take_any g B C S b c w hW hS
  rw [h1, h2] at this
  exact this

theorem known12 (w : World) : Calls Try.prog 24 #[] w fun e w' => e = .returned (.bool true) ∧ Below w.heap.size w w' := by
  go_enter Try.func24, Try.ntmps24
  have hb0 : Bk (w.alloc (Obj.cells #[Value.int IntKind.i64 0, Value.int IntKind.i64 0, Value.int IntKind.u64 0] 105)) w.heap.size 105 (wcs 0 0 0) := Bk.mk_ w _ _
  have B0 := Lib.hid hb0
  clear hb0
  go_wp2_with fail
  refine (take_at 0 1 5 1 B0.out (by unfold winOk; decide) (by decide) (by decide)).mono ?_
  rintro e w1 ⟨rfl, o1, b1⟩
  have O1 := Lib.hid o1
  have B1 := Lib.hid b1
  clear o1 b1
  go_wp2_with fail
  refine (take_at 0 1 5 5 B1.out (by unfold winOk; decide) (by decide) (by decide)).mono ?_
  rintro e w2 ⟨rfl, o2, b2⟩
  have O2 := Lib.hid o2
  have B2 := Lib.hid b2
  clear o2 b2
  go_wp2_with fail
  refine (take_at 8 1 5 5 B2.out (by unfold winOk; decide) (by decide) (by decide)).mono ?_
  rintro e w3 ⟨rfl, o3, b3⟩
  have O3 := Lib.hid o3
  have B3 := Lib.hid b3
  clear o3 b3
  go_wp2_with fail
  refine (take_at 0 1 70 1 B3.out (by unfold winOk; decide) (by decide) (by decide)).mono ?_
  rintro e w4 ⟨rfl, o4, b4⟩
  have O4 := Lib.hid o4
  have B4 := Lib.hid b4
  clear o4 b4
  go_wp2_with fail
  refine (take_at 9 1 70 1 B4.out (by unfold winOk; decide) (by decide) (by decide)).mono ?_
  rintro e w5 ⟨rfl, o5, b5⟩
  have O5 := Lib.hid o5
  clear o5 b5
  go_wp2
  go_ret
  exact ⟨rfl, ((Below.refl _ _).alloc (Nat.le_refl _) _).trans (((((O1.out.trans O2.out).trans O3.out).trans O4.out).trans O5.out).below (Nat.le_refl _) (by simp))⟩
end Go.Proofs.Ytiakgohipnbdbaa
