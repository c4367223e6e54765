/- Contracts of package wire: the reader's number. -/
import Derived.Test.YtnbemfceoianiaaDoorRd1
import Derived.Test.YtnbemfceoianiaaDoorBaseB
namespace Go.Proofs.YtnbemfceoianiaaDoor
set_option linter.unusedVariables false
open Go.RowKit

theorem width_is (s : Int) (h0 : 0 ≤ s) (h1 : s ≤ 3) (w : World) : Calls Tryd.prog 36 #[.int .i64 s] w fun e w' => e = .returned (.int .i64 (widB s : Nat)) ∧ w = w' := by
  have hs : s = 0 ∨ s = 1 ∨ s = 2 ∨ s = 3 := by omega
  rcases hs with rfl | rfl | rfl | rfl
  · exact width_0 w
  · exact width_1 w
  · exact width_2 w
  · exact width_3 w
theorem or_byte (V c : Nat) (hV : V < 72057594037927936) (hc : c < 256) : bits .or .u64 (IntKind.u64.wrap ((V : Int) * 256)) (IntKind.u64.wrap (c : Int)) = ((V * 256 + c : Nat) : Int) := by
  rw [IntKind.wrap_u64, IntKind.wrap_u64, show ((V : Int) * 256 % 18446744073709551616) = ((V * 256 : Nat) : Int) by omega, show ((c : Int) % 18446744073709551616) = (c : Int) by omega, u64_or_nat _ _ (by omega) (by omega)]
  have := Nat.two_pow_add_eq_or_of_lt (i := 8) (show c < 2 ^ 8 by omega) V
  rw [show V * 256 = 2 ^ 8 * V by omega, ← this]
theorem valB_lt56 (l : List UInt8) (h : l.length ≤ 7) : valB l < 72057594037927936 := by
  have h1 := valB_lt l
  have h2 : 256 ^ l.length ≤ 256 ^ 7 := Nat.pow_le_pow_right (by decide) h
  have h3 : 256 ^ 7 = 72057594037927936 := by decide
  omega
theorem valB_lt64 (l : List UInt8) (h : l.length ≤ 8) : valB l < 18446744073709551616 := by
  have h1 := valB_lt l
  have h2 : 256 ^ l.length ≤ 256 ^ 8 := Nat.pow_le_pow_right (by decide) h
  have h3 : 256 ^ 8 = 18446744073709551616 := by decide
  omega

end Go.Proofs.YtnbemfceoianiaaDoor
