/- Contracts of package events: Check. -/
import Derived.Test.YtnopmdhjamkoaaaDoorBaseA
import Derived.Test.YtnopmdhjamkoaaaDoorProg
import Derived.WalkSpells

namespace Go.Proofs.YtnopmdhjamkoaaaDoor
set_option linter.unusedVariables false
open Go.RowKit

/-- What Check says of an event. -/
def evC (t k i r : Int) : Int := if k < 0 ∨ 5 ≤ k then 13 else if t < 0 ∨ 1073741824 < t ∨ i < 1 ∨ 65535 < i then 10 else if r < 0 ∨ 8 ≤ r ∨ (k ≠ 4 ∧ r ≠ 0) then 10 else 0
theorem evC_split (t k i r v : Int) (h : evC t k i r = v) :
    (k < 0 ∧ v = 13) ∨ (0 ≤ k ∧ 5 ≤ k ∧ v = 13) ∨ (0 ≤ k ∧ k < 5 ∧ (t < 0 ∧ v = 10 ∨ 0 ≤ t ∧ 1073741824 < t ∧ v = 10 ∨ 0 ≤ t ∧ t ≤ 1073741824 ∧ i < 1 ∧ v = 10 ∨ 0 ≤ t ∧ t ≤ 1073741824 ∧ 1 ≤ i ∧ 65535 < i ∧ v = 10 ∨
      0 ≤ t ∧ t ≤ 1073741824 ∧ 1 ≤ i ∧ i ≤ 65535 ∧ (r < 0 ∧ v = 10 ∨ 0 ≤ r ∧ 8 ≤ r ∧ v = 10 ∨ 0 ≤ r ∧ r < 8 ∧ (¬ k = 4 ∧ ¬ r = 0 ∧ v = 10 ∨ k = 4 ∧ v = 0 ∨ ¬ k = 4 ∧ r = 0 ∧ v = 0)))) := by
  unfold evC at h
  by_cases c1 : k < 0
  · rw [if_pos (.inl c1)] at h
    exact .inl ⟨c1, h.symm⟩
  by_cases c2 : 5 ≤ k
  · rw [if_pos (.inr c2)] at h
    exact .inr (.inl ⟨by omega, c2, h.symm⟩)
  rw [if_neg (by omega)] at h
  refine .inr (.inr ⟨by omega, by omega, ?_⟩)
  by_cases c3 : t < 0
  · rw [if_pos (.inl c3)] at h
    exact .inl ⟨c3, h.symm⟩
  by_cases c4 : 1073741824 < t
  · rw [if_pos (.inr (.inl c4))] at h
    exact .inr (.inl ⟨by omega, c4, h.symm⟩)
  by_cases c5 : i < 1
  · rw [if_pos (.inr (.inr (.inl c5)))] at h
    exact .inr (.inr (.inl ⟨by omega, by omega, c5, h.symm⟩))
  by_cases c6 : 65535 < i
  · rw [if_pos (.inr (.inr (.inr c6)))] at h
    exact .inr (.inr (.inr (.inl ⟨by omega, by omega, by omega, c6, h.symm⟩)))
  rw [if_neg (by omega)] at h
  refine .inr (.inr (.inr (.inr ⟨by omega, by omega, by omega, by omega, ?_⟩)))
  by_cases c7 : r < 0
  · rw [if_pos (.inl c7)] at h
    exact .inl ⟨c7, h.symm⟩
  by_cases c8 : 8 ≤ r
  · rw [if_pos (.inr (.inl c8))] at h
    exact .inr (.inl ⟨by omega, c8, h.symm⟩)
  refine .inr (.inr ⟨by omega, by omega, ?_⟩)
  by_cases c9 : k = 4
  · rw [if_neg (by omega)] at h
    exact .inr (.inl ⟨c9, h.symm⟩)
  by_cases c10 : r = 0
  · rw [if_neg (by omega)] at h
    exact .inr (.inr ⟨c9, c10, h.symm⟩)
  · rw [if_pos (by omega)] at h
    exact .inl ⟨c9, c10, h.symm⟩

set_option maxRecDepth 100000 in
set_option maxHeartbeats 1600000 in
theorem evcheck_any (t k i r : Int) (w : World) : Calls Tryd.prog 51 #[.agg #[.int .i64 t, .int .i64 k, .int .i64 i, .int .i64 r]] w fun e w' => e = .returned (.int .i64 (evC t k i r)) ∧ Below w.heap.size w w' := by
  obtain ⟨v, hv⟩ : ∃ v, evC t k i r = v := ⟨_, rfl⟩
  have hs := evC_split t k i r v hv
  rw [hv]
  clear hv
  rcases hs with ⟨h1, rfl⟩ | ⟨h0, h1, rfl⟩ | ⟨k0, k1, (⟨h1, rfl⟩ | ⟨h0, h1, rfl⟩ | ⟨h0, h2, h1, rfl⟩ | ⟨h0, h2, h3, h1, rfl⟩ | ⟨h0, h2, h3, h4, (⟨h1, rfl⟩ | ⟨h5, h1, rfl⟩ | ⟨h5, h6, (⟨h1, h7, rfl⟩ | ⟨rfl, rfl⟩ | ⟨h1, rfl, rfl⟩)⟩)⟩)⟩
  all_goals
    try have f1 : (k != 4) = true := by simpa using h1
    try have f2 : (r != 0) = true := by simpa using h7
  all_goals
    go_enter Tryd.func51, Tryd.ntmps51
    go_wp2
    go_ret
    exact ⟨rfl, (Below.refl _ _).alloc (Nat.le_refl _) _⟩
end Go.Proofs.YtnopmdhjamkoaaaDoor
