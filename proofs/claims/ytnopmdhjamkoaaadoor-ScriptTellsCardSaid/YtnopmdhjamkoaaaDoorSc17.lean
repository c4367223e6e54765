/- The document's Sign. -/
import Derived.Test.YtnopmdhjamkoaaaDoorSc16
import Derived.Test.YtnopmdhjamkoaaaDoorHx2
namespace Go.Proofs.YtnopmdhjamkoaaaDoor
set_option linter.unusedVariables false
set_option linter.unusedSimpArgs false
open Go.RowKit

theorem sgn_nat31 (n : Nat) (h : n < 16) : (sgn n).toNat = if n < 10 then 48 + n else 87 + n := by
  unfold sgn
  split <;> rw [UInt8.toNat_ofNat'] <;> omega
theorem sign31_any (n : Nat) (h : n < 16) (w : World) : Calls Tryd.prog 68 #[.int .u8 (n : Int)] w fun e w' => e = .returned (.int .u8 ((sgn n).toNat : Int)) ∧ w' = w := by
  have hs := sgn_nat31 n h
  have i1 : (0 : Int) ≤ n := by omega
  have i2 : (n : Int) ≤ 15 := by omega
  by_cases h10 : n < 10
  · rw [if_pos h10] at hs
    have i3 : (n : Int) < 10 := by omega
    rw [hs]
    clear hs
    go_enter Tryd.func68, Tryd.ntmps68
    go_wp2
    go_ret
    exact ⟨by go_num, rfl⟩
  · rw [if_neg h10] at hs
    have i3 : ¬ (n : Int) < 10 := by omega
    rw [hs]
    clear hs
    go_enter Tryd.func68, Tryd.ntmps68
    go_wp2
    go_ret
    refine ⟨?_, rfl⟩
    show Ending.returned (Value.int IntKind.u8 (97 + (n : Int) - 10)) = _
    rw [show (97 : Int) + n - 10 = 87 + (n : Int) by omega]
end Go.Proofs.YtnopmdhjamkoaaaDoor
