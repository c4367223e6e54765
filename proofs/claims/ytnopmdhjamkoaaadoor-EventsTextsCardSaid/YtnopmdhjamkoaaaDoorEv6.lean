/- Contracts of package events: slices.DeleteFunc over such's closure. The plain parts. -/
import Derived.Test.YtnopmdhjamkoaaaDoorEv5
namespace Go.Proofs.YtnopmdhjamkoaaaDoor
set_option linter.unusedVariables false
set_option linter.unusedSimpArgs false
open Go.RowKit

theorem evs_set : ∀ (l : List Ev) (i : Nat) (e : Ev), ((((evs l).set (i * 4) (.int .i64 e.t)).set (i * 4 + 1) (.int .i64 e.k)).set (i * 4 + 2) (.int .i64 e.i)).set (i * 4 + 3) (.int .i64 e.r) = if i < l.length then evs (l.set i e) else evs l
  | [], i, e => by simp [evs]
  | a :: l, 0, e => by
    simp [evs, Ev.cs]
  | a :: l, i + 1, e => by
    have ih := evs_set l i e
    have h : evs (a :: l) = .int .i64 a.t :: .int .i64 a.k :: .int .i64 a.i :: .int .i64 a.r :: evs l := by simp [evs, Ev.cs]
    rw [h, show (i + 1) * 4 = i * 4 + 1 + 1 + 1 + 1 by omega, show i * 4 + 1 + 1 + 1 + 1 + 1 = i * 4 + 1 + 1 + 1 + 1 + 1 by rfl, show i * 4 + 1 + 1 + 1 + 1 + 2 = i * 4 + 2 + 1 + 1 + 1 + 1 by omega, show i * 4 + 1 + 1 + 1 + 1 + 3 = i * 4 + 3 + 1 + 1 + 1 + 1 by omega]
    simp only [List.set_cons_succ]
    rw [ih]
    by_cases hi : i < l.length
    · rw [if_pos hi, if_pos (by simpa using hi)]
      simp [evs, Ev.cs]
    · rw [if_neg hi, if_neg (by simpa using hi)]
/-- What is left of the first j. -/
def keepE (D : Ev → Bool) (l : List Ev) : List Ev := l.filter fun e => !D e
theorem keepE_snoc (D : Ev → Bool) (l : List Ev) (e : Ev) : keepE D (l ++ [e]) = if D e then keepE D l else keepE D l ++ [e] := by
  unfold keepE
  rw [List.filter_append]
  cases h : D e <;> simp [h]
/-- The row while it is thinned out. -/
structure DlR (W : World) (bl : Bl) (ow : List Ro) (A : Option Addr) (n c : Nat) (l : List Ev) (D : Ev → Bool) (i j : Nat) (L : List Ev) (w : World) : Prop where
  len : L.length = n
  tk : L.take i = keepE D (l.take j)
  eq : ∀ p, j ≤ p → L[p]? = l[p]?
  lt : i < j
  m : Mst W w bl (evRow A n c L :: ow)
theorem ixI_split {D : Ev → Bool} {l : List Ev} : (ixI D l = -1 ∧ keepE D l = l) ∨ ∃ i : Nat, ixI D l = i ∧ i < l.length ∧ keepE D (l.take (i + 1)) = l.take i := by
  unfold ixI
  cases h : l.findIdx? D with
  | none =>
    refine .inl ⟨rfl, ?_⟩
    rw [List.findIdx?_eq_none_iff] at h
    unfold keepE
    rw [List.filter_eq_self]
    intro x hx
    rw [h x hx]
    rfl
  | some i =>
    obtain ⟨hi, h1, h2⟩ := List.findIdx?_eq_some_iff_getElem.1 h
    refine .inr ⟨i, rfl, hi, ?_⟩
    rw [List.take_succ_eq_append_getElem hi, keepE_snoc, if_pos h1]
    unfold keepE
    rw [List.filter_eq_self]
    intro x hx
    obtain ⟨k, hk, rfl⟩ := List.mem_iff_getElem.1 hx
    rw [List.length_take] at hk
    have h3 := h2 k (by omega)
    rw [List.getElem_take]
    simpa using h3
/-- 'clear(s)' of a slice of events: some cells of one value each. -/
theorem run_clear_events (w : World) (ty : TypeId) (b o n c : Nat) (hn : 0 < n) (hc : ∀ j, j < n * 4 → (w.cell? ⟨b, o + j, none⟩).isSome = true) (hf : ∀ j, j < n * 4 → w.frozen? ⟨b, o + j, none⟩ = false) :
    ∃ C : List Value, C.length = n * 4 ∧ (Builtin.clear_ #[33] ty #[.slice (some ⟨b, o, none⟩) n c]).run Tryd.prog w = .ok (.tuple #[]) (w.setCells b o C) := by
  have hv : ∀ w, (zeroValue 30).run Tryd.prog w = .ok (.agg #[.int .i64 0, .int .i64 0, .int .i64 0, .int .i64 0]) w := fun w => by kernel_rfl
  have hz : ∀ u ∈ (Builtin.zeroCells (Value.agg #[.int .i64 0, .int .i64 0, .int .i64 0, .int .i64 0]).cells n).toList, u.oneCell' = true := by
    intro u hu
    simp only [Builtin.zeroCells, Value.cells, Array.toList_map, List.mem_map] at hu
    obtain ⟨i, hi, rfl⟩ := hu
    have h4 : i % 4 < 4 := Nat.mod_lt _ (by decide)
    have : i % 4 = 0 ∨ i % 4 = 1 ∨ i % 4 = 2 ∨ i % 4 = 3 := by omega
    rcases this with h | h | h | h <;> simp [h, Value.oneCell']
  have hl : (Builtin.zeroCells (Value.agg #[.int .i64 0, .int .i64 0, .int .i64 0, .int .i64 0]).cells n).toList.length = n * 4 := by simp [Builtin.zeroCells, Value.cells]
  refine ⟨_, hl, ?_⟩
  have hst := run_storeCells_cells (P := Tryd.prog) b o (Builtin.zeroCells (Value.agg #[.int .i64 0, .int .i64 0, .int .i64 0, .int .i64 0]).cells n).toList 0 w (by rw [hl]; simpa using hc) (by rw [hl]; simpa using hf) hz
  simp only [Nat.add_zero] at hst
  obtain ⟨m, rfl⟩ : ∃ m, n = m + 1 := ⟨n - 1, by omega⟩
  simp [Builtin.clear_, run_underlying Tryd.underlying33, hv, hst]
/-- Cells of the row behind 'pre' are written. -/
theorem Mst.rsets {W : World} {bl : Bl} (pre : List Ro) {post : List Ro} {e : TypeId} {size n g cap : Nat} : ∀ (C : List Value) (o : Nat) (xs : List Value) (w : World), Mst W w bl (pre ++ ⟨e, size, .slice (some ⟨g, 0, none⟩) n cap, n, xs⟩ :: post) →
    ∃ ys : List Value, (∀ p, p < o → ys[p]? = xs[p]?) ∧ Mst W (w.setCells g o C) bl (pre ++ ⟨e, size, .slice (some ⟨g, 0, none⟩) n cap, n, ys⟩ :: post)
  | [], o, xs, w, h => ⟨xs, fun _ _ => rfl, h⟩
  | v :: C, o, xs, w, h => by
    obtain ⟨ys, h1, h2⟩ := Mst.rsets pre C (o + 1) (xs.set o v) (w.setCell ⟨g, o, none⟩ v) (h.rset pre o v)
    refine ⟨ys, fun p hp => ?_, h2⟩
    rw [h1 p (by omega), List.getElem?_set]
    rw [if_neg (by omega)]
/-- A row that is cut to its first elements. -/
theorem Mst.rcut {W w : World} {bl : Bl} (pre : List Ro) {post : List Ro} {e : TypeId} {size n g cap : Nat} {xs : List Value} (h : Mst W w bl (pre ++ ⟨e, size, .slice (some ⟨g, 0, none⟩) n cap, n, xs⟩ :: post)) (m : Nat) (hm : m ≤ n) :
    Mst W w bl (pre ++ ⟨e, size, .slice (some ⟨g, 0, none⟩) m cap, m, xs.take (m * size)⟩ :: post) := by
  have ho := h.row pre
  refine h.app pre (World.grownBy.refl w _) ?_ (.inl rfl)
  refine ⟨?_, ?_⟩
  · have h1 := ho.1
    have h2 : m * size ≤ n * size := Nat.mul_le_mul_right _ hm
    rw [List.length_take, h1]
    omega
  · rcases ho.2 with ⟨h1, _⟩ | ⟨g', cap', cur, h1, h2, h3, h4, h5, h6, h7⟩
    · cases h1
    · injection h1 with h1 _ h8
      injection h1 with h1
      injection h1 with h1
      subst h1 h8
      refine .inr ⟨g, cap, cur, rfl, h2, h3, Nat.le_trans hm h4, h5, h6, ?_⟩
      have h9 : m * size ≤ n * size := Nat.mul_le_mul_right _ hm
      rw [← h7, List.take_take, Nat.min_eq_left h9]
end Go.Proofs.YtnopmdhjamkoaaaDoor
