/-
  vigillaw10.CookieBakes returns true, whatever it is called with. Conditions: none but that the slices can be read.
-/
import Derived.Test.YtiakgohipnbdbaaCkB2
namespace Go.Proofs.Ytiakgohipnbdbaa
set_option linter.unusedVariables false
open Go.RowKit

theorem contract_cookieBakes (W : World) (v0 v1 v2 v3 v4 : Value) (a0 : ∃ r : Rw, v0 = r.v ∧ r.ok .u8 W) (a1 : ∃ z, v1 = .int .i64 z ∧ in64 z) (a2 : ∃ z, v2 = .int .i64 z ∧ in64 z) (a3 : ∃ z, v3 = .int .i64 z ∧ in64 z) (a4 : ∃ A c, ∃ rows : List Rw, v4 = .slice A rows.length c ∧ rows.length ≤ c ∧ c ≤ maxLen ∧ Rd W W.heap.size 1 A rows.length (rows.map Rw.v) ∧ ∀ x ∈ rows, x.ok .u8 W) :
    Calls Try.prog 4 #[v0, v1, v2, v3, v4] W fun e W' => e = .returned (.bool true) ∧ Below W.heap.size W W' := by
  obtain ⟨r, rfl, hr⟩ := a0
  obtain ⟨a, rfl, ha⟩ := a1
  obtain ⟨t, rfl, ht⟩ := a2
  obtain ⟨lt, rfl, hlt⟩ := a3
  obtain ⟨A, c, rows, rfl, h1, h2, h3, h4⟩ := a4
  obtain ⟨ps, e1, e2, e3⟩ := rows_pt rows h4
  rw [← e1, ← e2] at h3
  rw [← e2] at h1 ⊢
  obtain ⟨l, e, g1, g2, g3⟩ := rw_pt hr
  rw [e]
  cases hok : okCk a t with
  | true => exact cookieBakes_yes W r.A A r.c c l ps g1 ⟨g2, g3⟩ a t lt hlt h3 e3 (by unfold maxLen at h2; omega) hok
  | false => exact cookieBakes_no W r.A A r.c c l ps g1 ⟨g2, g3⟩ a t lt h3 e3 (by unfold maxLen at h2; omega) hok
end Go.Proofs.Ytiakgohipnbdbaa
