/- Contracts of package window: Check, Look, Take, Latest, Taken, and the law's To. Each says what one call computes. -/
import Derived.Test.YtnbemfceoianiaaDoorProg
import Derived.Test.YtnbemfceoianiaaDoorBaseA
import Derived.Test.YtnbemfceoianiaaDoorWinP
import Derived.WalkKit
import Derived.WalkLawsBesides
import Derived.WalkSpells
import Derived.Outline
import Derived.RegionTactic
import Derived.BigRegion
import Derived.Deep.QuietTactic
import Derived.BigQuiet
import Derived.StillTailTactics
import Derived.Laws.BitsAllLaws
namespace Go.Proofs.YtnbemfceoianiaaDoor
set_option linter.unusedVariables false
open Go.RowKit

theorem check_yes (b c : Int) (w : World) (h1 : 1 ≤ b) (h2 : b ≤ 65535) (h3 : 1 ≤ c) (h4 : c ≤ 2147483647) :
    Calls Tryd.prog 27 #[.agg #[.int .i64 b, .int .i64 c]] w fun e w' => e = .returned (.int .i64 0) ∧ Below w.heap.size w w' := by
  go_enter Tryd.func27, Tryd.ntmps27
  go_wp2
  go_ret
  exact ⟨rfl, (Below.refl _ _).alloc (Nat.le_refl _) _⟩

theorem check_no (b c : Int) (w : World) (h : b < 1 ∨ 65535 < b ∨ c < 1 ∨ 2147483647 < c) :
    Calls Tryd.prog 27 #[.agg #[.int .i64 b, .int .i64 c]] w fun e w' => e = .returned (.int .i64 10) ∧ Below w.heap.size w w' := by
  by_cases h1 : b < 1
  · clear h
    go_enter Tryd.func27, Tryd.ntmps27
    go_wp2
    go_ret
    exact ⟨rfl, (Below.refl _ _).alloc (Nat.le_refl _) _⟩
  · by_cases h2 : 65535 < b
    · clear h
      go_enter Tryd.func27, Tryd.ntmps27
      go_wp2
      go_ret
      exact ⟨rfl, (Below.refl _ _).alloc (Nat.le_refl _) _⟩
    · by_cases h3 : c < 1
      · clear h
        go_enter Tryd.func27, Tryd.ntmps27
        go_wp2
        go_ret
        exact ⟨rfl, (Below.refl _ _).alloc (Nat.le_refl _) _⟩
      · have h4 : 2147483647 < c := by omega
        clear h
        go_enter Tryd.func27, Tryd.ntmps27
        go_wp2
        go_ret
        exact ⟨rfl, (Below.refl _ _).alloc (Nat.le_refl _) _⟩

/-- A window in memory: the latest boot, the greatest counter, the bits. -/
def wcs (B C : Int) (S : Nat) : Array Value := #[.int .i64 B, .int .i64 C, .int .u64 (S : Int)]

theorem bit_at (S : Nat) (hS : S < 18446744073709551616) (k : Nat) : (bits .and .u64 ((S : Int) / 2 ^ k) 1 == 1) = S.testBit k := by
  have e1 : ((S : Int) / 2 ^ k) = ((S / 2 ^ k : Nat) : Int) := by simp
  have hlt : S / 2 ^ k < 18446744073709551616 := Nat.lt_of_le_of_lt (Nat.div_le_self _ _) hS
  rw [e1, show (1 : Int) = ((1 : Nat) : Int) from rfl, u64_and_nat _ _ hlt (by omega), Nat.testBit_eq_decide_div_mod_eq, Nat.and_one_is_mod]
  rw [Bool.eq_iff_iff]
  simp only [beq_iff_eq, decide_eq_true_eq]
  omega

end Go.Proofs.YtnbemfceoianiaaDoor
