/- The document's layer 4: Width, Get of a number, Out of a number. -/
import Derived.Test.YtnbemfceoianiaaRd2
import Derived.Test.YtnbemfceoianiaaWireS
namespace Go.Proofs.Ytnbemfceoianiaa
set_option linter.unusedVariables false
open Go.RowKit

theorem refwidth_is (s : Int) (h0 : 0 ≤ s) (h1 : s ≤ 3) (w : World) : Calls Try.prog 83 #[.int .i64 s] w fun e w' => e = .returned (.int .i64 (widB s : Nat)) ∧ w = w' := by
  have i0 : ∀ w, (Instr.index 146 (.agg #[.int .i64 1, .int .i64 2, .int .i64 4, .int .i64 8]) (.int .i64 0)).run Try.prog w = .ok (.int .i64 1) w := fun _ => by kernel_rfl
  have i1 : ∀ w, (Instr.index 146 (.agg #[.int .i64 1, .int .i64 2, .int .i64 4, .int .i64 8]) (.int .i64 1)).run Try.prog w = .ok (.int .i64 2) w := fun _ => by kernel_rfl
  have i2 : ∀ w, (Instr.index 146 (.agg #[.int .i64 1, .int .i64 2, .int .i64 4, .int .i64 8]) (.int .i64 2)).run Try.prog w = .ok (.int .i64 4) w := fun _ => by kernel_rfl
  have i3 : ∀ w, (Instr.index 146 (.agg #[.int .i64 1, .int .i64 2, .int .i64 4, .int .i64 8]) (.int .i64 3)).run Try.prog w = .ok (.int .i64 8) w := fun _ => by kernel_rfl
  have hs : s = 0 ∨ s = 1 ∨ s = 2 ∨ s = 3 := by omega
  clear h0 h1
  rcases hs with rfl | rfl | rfl | rfl
  all_goals
    go_enter Try.func83, Try.ntmps83
    go_wp2
    go_ret
    exact ⟨rfl, rfl⟩

/-- What the document's Get hands out for a number's size. -/
def g4 (l : List UInt8) (s : Int) : Value := if l.length < widB s then .tuple #[.agg #[.int .i64 0, .int .i64 0, .slice none 0 0], .int .i64 0, .int .i64 4] else .tuple #[.agg #[.int .i64 s, .int .i64 (valB (l.take (widB s)) : Nat), .slice none 0 0], .int .i64 (widB s : Nat), .int .i64 0]
theorem valB_lt32 (l : List UInt8) (h : l.length ≤ 4) : valB l < 4294967296 := by
  have h1 := valB_lt l
  have h2 : 256 ^ l.length ≤ 256 ^ 4 := Nat.pow_le_pow_right (by decide) h
  have h3 : 256 ^ 4 = 4294967296 := by decide
  omega

end Go.Proofs.Ytnbemfceoianiaa
