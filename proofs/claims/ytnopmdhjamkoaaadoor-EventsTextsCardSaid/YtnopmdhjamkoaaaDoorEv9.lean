/- Contracts of package events: such. -/
import Derived.Test.YtnopmdhjamkoaaaDoorEv8
namespace Go.Proofs.YtnopmdhjamkoaaaDoor
set_option linter.unusedVariables false
set_option linter.unusedSimpArgs false
open Go.RowKit

set_option maxRecDepth 100000 in
set_option maxHeartbeats 1000000 in
theorem such_any (W w : World) (bl : Bl) (ow : List Ro) (g : Nat) (s : List Ev × Nat) (v : Value) (hL : Lg W w bl ow g s v) (hn : s.1.length ≤ 1000000) (m : Nat) (F : Nat) (p : Value) (is : Ev → Bool)
    (HC : ∀ b1 b2 w' ow', Mst W w' bl ow' → w'.cell? ⟨b1, 0, none⟩ = some (.int .i64 m) → w'.cell? ⟨b2, 0, none⟩ = some (.func (Fn.func F) #[] #[p]) → ∀ e ∈ s.1,
      Calls Tryd.prog 83 #[e.v, .pointer (some ⟨b1, 0, none⟩), .pointer (some ⟨b2, 0, none⟩)] w' fun r w2 => r = .returned (.bool (sD m is e)) ∧ Below w'.heap.size w' w2) :
    Calls Tryd.prog 52 #[.pointer (some ⟨g, 0, none⟩), .int .i64 m, .func (Fn.func F) #[] #[p]] w fun r w' => ∃ A' n' c', r = .returned (.slice A' n' c') ∧ n' = (keepE (sD m is) s.1).length ∧ Mst W w' ((g, 83, #[v, .int .i64 s.2]) :: bl) (evRow A' n' c' (keepE (sD m is) s.1) :: ⟨30, 4, v, s.1.length, evs s.1⟩ :: ow) := by
  unfold Lg at hL
  obtain ⟨Av, cv, rfl, hA⟩ : ∃ A c, v = .slice A s.1.length c ∧ (A = none → c = 0) := by
    rcases (hL.row []).2 with ⟨h1, h2⟩ | ⟨g', cap, cur, h1, _⟩
    · exact ⟨none, 0, by rw [h1, h2], fun _ => rfl⟩
    · exact ⟨some ⟨g', 0, none⟩, cap, h1, fun h => by cases h⟩
  have m2 := (hL.new 3 #[.int .i64 m]).new 88 #[.func (Fn.func F) #[] #[p]]
  have M2 := Lib.hid m2
  have c0 := (m2.blk [_, _]).cell 0
  simp at c0
  have k1 := (m2.blk [_]).cell 0
  have k2 := (m2.blk []).cell 0
  simp at k1 k2
  have HS := Lib.hid (m2.rowSrc (List.mem_cons_self ..))
  have HA := Lib.hid hA
  have HCC := Lib.hid HC
  clear hL m2 HC hA k1 k2
  go_enter Tryd.func52, Tryd.ntmps52
  go_wp2_with fail
  refine (eclone_any W _ _ _ M2.out Av cv s.1 HS.out hn HA.out).mono ?_
  rintro r w3 ⟨A3, c3, rfl, hm3⟩
  have M3 := Lib.hid hm3
  clear hm3 c0
  go_wp2_with fail
  refine (delf_any W _ _ A3 c3 s.1 hn _ _ (sD m is) ?_ _ M3.out).mono ?_
  · intro w' ow' hm' e he
    have k1 := (hm'.blk [_]).cell 0
    have k2 := (hm'.blk []).cell 0
    simp at k1 k2
    exact HCC.out _ _ w' ow' (hm'.dropb.dropb.dropb) k1 k2 e he
  rintro r w4 ⟨A4, n4, c4, rfl, hn4, hm4⟩
  have HN4 := Lib.hid hn4
  have M4 := Lib.hid hm4
  clear hm4 hn4
  go_wp2
  go_ret
  exact ⟨_, _, _, rfl, HN4.out, M4.out.dropb.dropb⟩
end Go.Proofs.YtnopmdhjamkoaaaDoor
