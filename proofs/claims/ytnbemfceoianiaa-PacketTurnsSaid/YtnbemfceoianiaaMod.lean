/- 'int(uint64(x) % n)': a number below n. Over any program. -/
import Derived.Test.YtnbemfceoianiaaBaseA
namespace Go.Proofs.Ytnbemfceoianiaa
set_option linter.unusedVariables false
open Go.RowKit

theorem u64_range (x : Int) : 0 ≤ IntKind.u64.wrap x ∧ IntKind.u64.wrap x ≤ 18446744073709551615 := by
  simp only [IntKind.wrap, IntKind.signed, IntKind.bits]
  simp
  omega
theorem mod_u64 (x n : Int) (h0 : 0 < n) : 0 ≤ (IntKind.u64.wrap x).tmod n ∧ (IntKind.u64.wrap x).tmod n < n := by
  have h := u64_range x
  rw [Int.tmod_eq_emod_of_nonneg h.1]
  exact ⟨Int.emod_nonneg _ (by omega), Int.emod_lt_of_pos _ h0⟩
theorem wrap_small {x : Int} (h0 : -9223372036854775808 ≤ x) (h1 : x ≤ 9223372036854775807) : wrap64 x = x := by
  simp only [wrap64]
  omega
/-- 'int(uint64(x) % n)'. -/
theorem mod_any (x n : Int) (h0 : 0 < n) (h1 : n ≤ 1000000) : ∃ T, wrap64 ((IntKind.u64.wrap x).tmod n) = T ∧ 0 ≤ T ∧ T < n := by
  obtain ⟨a, b⟩ := mod_u64 x n h0
  exact ⟨_, wrap_small (by omega) (by omega), a, b⟩
/-- '1 + int(uint64(x) % n)'. -/
theorem mod_one (x n : Int) (h0 : 0 < n) (h1 : n ≤ 1000000) : ∃ T, wrap64 (1 + wrap64 ((IntKind.u64.wrap x).tmod n)) = T ∧ 1 ≤ T ∧ T ≤ n := by
  obtain ⟨T, hT, a, b⟩ := mod_any x n h0 h1
  rw [hT]
  exact ⟨_, wrap_small (by omega) (by omega), by omega, by omega⟩
end Go.Proofs.Ytnbemfceoianiaa
