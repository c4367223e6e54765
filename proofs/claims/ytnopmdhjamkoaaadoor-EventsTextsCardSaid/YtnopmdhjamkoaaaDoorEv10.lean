/- Contracts of package events: Since, Of. -/
import Derived.Test.YtnopmdhjamkoaaaDoorEv9
namespace Go.Proofs.YtnopmdhjamkoaaaDoor
set_option linter.unusedVariables false
set_option linter.unusedSimpArgs false
open Go.RowKit

set_option maxRecDepth 100000 in
set_option maxHeartbeats 1000000 in
theorem since_any (W w : World) (bl : Bl) (ow : List Ro) (g : Nat) (s : List Ev × Nat) (v : Value) (hL : Lg W w bl ow g s v) (hn : s.1.length ≤ 1000000) (hE : ∀ e ∈ s.1, 0 ≤ e.r ∧ e.r < 8) (m : Nat) (hm : m < 256) (t : Int) :
    Calls Tryd.prog 16 #[.pointer (some ⟨g, 0, none⟩), .int .i64 t, .int .i64 m] w fun r w' => ∃ A' n' c', r = .returned (.slice A' n' c') ∧ n' = (keepE (sD m fun e => decide (t ≤ e.t)) s.1).length ∧ Mst W w' ((g, 83, #[v, .int .i64 s.2]) :: bl) (evRow A' n' c' (keepE (sD m fun e => decide (t ≤ e.t)) s.1) :: ⟨30, 4, v, s.1.length, evs s.1⟩ :: ow) := by
  unfold Lg at hL
  have m1 := (hL.new 3 #[.int .i64 t]).backb [_]
  have M1 := Lib.hid m1
  have HC := Lib.hid (fun b1 b2 w' ow' (hm' : Mst W w' ((w.heap.size, 3, #[.int .i64 t]) :: bl) ow') h1 h2 e he => such1_since w' e m hm (hE e he).1 (hE e he).2 b1 b2 w.heap.size t h1 h2 (by
    have k := (hm'.blk []).cell 0
    simp at k
    exact k))
  clear hL m1
  go_enter Tryd.func16, Tryd.ntmps16
  go_wp2_with fail
  refine (such_any W _ _ _ g s v M1.out hn m _ _ _ HC.out).mono ?_
  rintro r w4 ⟨A4, n4, c4, rfl, hn4, hm4⟩
  have HN4 := Lib.hid hn4
  have M4 := Lib.hid hm4
  clear hm4 hn4
  go_wp2
  go_ret
  exact ⟨_, _, _, rfl, HN4.out, M4.out.sub (by simp) (List.Sublist.refl _)⟩
set_option maxRecDepth 100000 in
set_option maxHeartbeats 1000000 in
theorem of_any (W w : World) (bl : Bl) (ow : List Ro) (g : Nat) (s : List Ev × Nat) (v : Value) (hL : Lg W w bl ow g s v) (hn : s.1.length ≤ 1000000) (hE : ∀ e ∈ s.1, 0 ≤ e.r ∧ e.r < 8) (m : Nat) (hm : m < 256) (t : Int) :
    Calls Tryd.prog 17 #[.pointer (some ⟨g, 0, none⟩), .int .i64 t, .int .i64 m] w fun r w' => ∃ A' n' c', r = .returned (.slice A' n' c') ∧ n' = (keepE (sD m fun e => e.i == t) s.1).length ∧ Mst W w' ((g, 83, #[v, .int .i64 s.2]) :: bl) (evRow A' n' c' (keepE (sD m fun e => e.i == t) s.1) :: ⟨30, 4, v, s.1.length, evs s.1⟩ :: ow) := by
  unfold Lg at hL
  have m1 := (hL.new 3 #[.int .i64 t]).backb [_]
  have M1 := Lib.hid m1
  have HC := Lib.hid (fun b1 b2 w' ow' (hm' : Mst W w' ((w.heap.size, 3, #[.int .i64 t]) :: bl) ow') h1 h2 e he => such1_of w' e m hm (hE e he).1 (hE e he).2 b1 b2 w.heap.size t h1 h2 (by
    have k := (hm'.blk []).cell 0
    simp at k
    exact k))
  clear hL m1
  go_enter Tryd.func17, Tryd.ntmps17
  go_wp2_with fail
  refine (such_any W _ _ _ g s v M1.out hn m _ _ _ HC.out).mono ?_
  rintro r w4 ⟨A4, n4, c4, rfl, hn4, hm4⟩
  have HN4 := Lib.hid hn4
  have M4 := Lib.hid hm4
  clear hm4 hn4
  go_wp2
  go_ret
  exact ⟨_, _, _, rfl, HN4.out, M4.out.sub (by simp) (List.Sublist.refl _)⟩
end Go.Proofs.YtnopmdhjamkoaaaDoor
