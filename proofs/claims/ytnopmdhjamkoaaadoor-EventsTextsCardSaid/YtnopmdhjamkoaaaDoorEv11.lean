/- Contracts of package events: Len, Lost. -/
import Derived.Test.YtnopmdhjamkoaaaDoorEv10
namespace Go.Proofs.YtnopmdhjamkoaaaDoor
set_option linter.unusedVariables false
set_option linter.unusedSimpArgs false
open Go.RowKit

theorem len_any (W w : World) (bl : Bl) (ow : List Ro) (g : Nat) (s : List Ev × Nat) (v : Value) (hL : Lg W w bl ow g s v) :
    Calls Tryd.prog 19 #[.pointer (some ⟨g, 0, none⟩)] w fun r w' => r = .returned (.int .i64 s.1.length) ∧ w' = w := by
  unfold Lg at hL
  obtain ⟨Av, cv, rfl, -, -, hqc, -⟩ := own_form (hL.row [])
  have c0 := (hL.blk []).cell 0
  simp at c0
  clear hL hqc
  go_enter Tryd.func19, Tryd.ntmps19
  go_wp2
  go_ret
  exact ⟨rfl, rfl⟩
theorem lost_any (W w : World) (bl : Bl) (ow : List Ro) (g : Nat) (s : List Ev × Nat) (v : Value) (hL : Lg W w bl ow g s v) :
    Calls Tryd.prog 18 #[.pointer (some ⟨g, 0, none⟩)] w fun r w' => r = .returned (.int .i64 s.2) ∧ w' = w := by
  unfold Lg at hL
  have c0 := (hL.blk []).cell 1
  simp at c0
  clear hL
  go_enter Tryd.func18, Tryd.ntmps18
  go_wp2
  go_ret
  exact ⟨rfl, rfl⟩
end Go.Proofs.YtnopmdhjamkoaaaDoor
