/- Contracts of package events: slices.Clone; the closures of Since and Of, and of such. -/
import Derived.Test.YtnopmdhjamkoaaaDoorEv3
import Derived.Laws.BitsAll
import Derived.Laws.BitsLemmas
namespace Go.Proofs.YtnopmdhjamkoaaaDoor
set_option linter.unusedVariables false
set_option linter.unusedSimpArgs false
open Go.RowKit

abbrev Ev.v (e : Ev) : Value := .agg #[.int .i64 e.t, .int .i64 e.k, .int .i64 e.i, .int .i64 e.r]
theorem since1_any (w : World) (e : Ev) (q : Addr) (t : Int) (hq : w.cell? q = some (.int .i64 t)) (hs : q.spot = none) :
    Calls Tryd.prog 55 #[e.v, .pointer (some q)] w fun r w' => r = .returned (.bool (decide (t ≤ e.t))) ∧ Below w.heap.size w w' := by
  obtain ⟨b, o, s⟩ := q
  simp only at hs
  subst hs
  obtain ⟨et, ek, ei, er⟩ := e
  have hb := block_lt_of_cell hq
  have h1 := ((Below.refl w.heap.size w).alloc (Nat.le_refl _) (.cells #[.int .i64 et, .int .i64 ek, .int .i64 ei, .int .i64 er] 30)).cell (p := ⟨b, o, none⟩) hb
  rw [hq] at h1
  clear hq
  go_enter Tryd.func55, Tryd.ntmps55
  go_wp2
  go_ret
  exact ⟨rfl, (Below.refl _ _).alloc (Nat.le_refl _) _⟩
theorem of1_any (w : World) (e : Ev) (q : Addr) (id : Int) (hq : w.cell? q = some (.int .i64 id)) (hs : q.spot = none) :
    Calls Tryd.prog 56 #[e.v, .pointer (some q)] w fun r w' => r = .returned (.bool (e.i == id)) ∧ Below w.heap.size w w' := by
  obtain ⟨b, o, s⟩ := q
  simp only at hs
  subst hs
  obtain ⟨et, ek, ei, er⟩ := e
  have hb := block_lt_of_cell hq
  have h1 := ((Below.refl w.heap.size w).alloc (Nat.le_refl _) (.cells #[.int .i64 et, .int .i64 ek, .int .i64 ei, .int .i64 er] 30)).cell (p := ⟨b, o, none⟩) hb
  rw [hq] at h1
  clear hq
  go_enter Tryd.func56, Tryd.ntmps56
  go_wp2
  go_ret
  exact ⟨rfl, (Below.refl _ _).alloc (Nat.le_refl _) _⟩
theorem evs_one (l : List Ev) : ∀ u ∈ evs l, u.oneCell' = true := by
  intro u hu
  simp only [evs, List.mem_flatMap] at hu
  obtain ⟨e, _, hu⟩ := hu
  simp only [Ev.cs, List.mem_cons, List.not_mem_nil, or_false] at hu
  rcases hu with rfl | rfl | rfl | rfl <;> rfl
set_option maxRecDepth 100000 in
set_option maxHeartbeats 1000000 in
theorem eclone_any (W w : World) (bl : Bl) (ow : List Ro) (hM : Mst W w bl ow) (A : Option Addr) (c : Nat) (l : List Ev) (hl : Src W bl ow 4 A l.length (evs l)) (hn : l.length ≤ 1000000) (hA : A = none → c = 0) :
    Calls Tryd.prog 82 #[.slice A l.length c] w fun r w' => ∃ A' c', r = .returned (.slice A' l.length c') ∧ Mst W w' bl (⟨30, 4, .slice A' l.length c', l.length, evs l⟩ :: ow) := by
  have hq := fun W n c => Lib.run_eql_slice_nil (P := Tryd.prog) W 33 30 A n c 0 0 Tryd.underlying33
  obtain ⟨n, hN⟩ : ∃ n, l.length = n := ⟨_, rfl⟩
  rw [hN] at hn ⊢
  rcases A with _ | a
  · have h0 : n = 0 := by
      rcases Nat.eq_zero_or_pos n with h | h
      · exact h
      · obtain ⟨b, o, e, _⟩ := hl.2 (by omega)
        cases e
    subst h0
    have h1 : l = [] := List.eq_nil_of_length_eq_zero hN
    subst h1
    have HM := Lib.hid (hM.nilrow 30 4)
    clear hM hl
    go_enter Tryd.func82, Tryd.ntmps82
    go_wp2
    go_ret
    exact ⟨none, 0, rfl, HM.out⟩
  · have m1 := hM.newrow 30 4 0 0 #[] (Nat.le_refl _) (by decide) rfl
    have hs := hl.sub (fun _ h => h) (fun y hy => List.mem_cons_of_mem (⟨30, 4, .slice (some ⟨w.heap.size, 0, none⟩) 0 0, 0, #[].toList.take (0 * 4)⟩ : Ro) hy)
    rw [hN] at hs
    have M1 := Lib.hid m1
    have HS := Lib.hid hs
    have HN := Lib.hid hN
    clear hM hl m1 hs hN
    go_enter Tryd.func82, Tryd.ntmps82
    go_wp2_with (at_builtin; refine wpList_appE rfl _ _ 33 rfl [] M1.out el_event rfl _ (some a) n c (evs l) rfl (M1.out.src HS.out) (evs_one l) (by unfold maxLen; omega) (by omega) ?_; intro A5 c5 w5 N5 X5 hn5 hx5 mq; have Mq := Lib.hid mq; have HN5 := Lib.hid (show N5 = n by omega); have HX5 := Lib.hid (show X5 = evs l from hx5); clear mq hn5 hx5)
    go_ret
    refine ⟨A5, c5, by rw [HN5.out]; rfl, ?_⟩
    have m := Mq.out
    rw [HN5.out, HX5.out] at m
    exact m
end Go.Proofs.YtnopmdhjamkoaaaDoor
