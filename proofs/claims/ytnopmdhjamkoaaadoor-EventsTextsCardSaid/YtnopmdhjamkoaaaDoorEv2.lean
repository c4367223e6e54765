/- Contracts of package events: the log and what is put, in plain words. -/
import Derived.Test.YtnopmdhjamkoaaaDoorEv1
import Derived.Test.YtnopmdhjamkoaaaDoorBaseA
namespace Go.Proofs.YtnopmdhjamkoaaaDoor
set_option linter.unusedVariables false
open Go.RowKit

/-- An event. -/
structure Ev where
  t : Int
  k : Int
  i : Int
  r : Int
def Ev.cs (e : Ev) : List Value := [.int .i64 e.t, .int .i64 e.k, .int .i64 e.i, .int .i64 e.r]
def evs (l : List Ev) : List Value := l.flatMap Ev.cs
def Ev.chk (e : Ev) : Int := evC e.t e.k e.i e.r
/-- One more: the events kept, how many are lost. -/
def putE (s : List Ev × Nat) (e : Ev) : List Ev × Nat := if e.chk ≠ 0 then s else if s.1.length = 128 then (s.1, s.2 + 1) else (s.1 ++ [e], s.2)
def putsE (s : List Ev × Nat) (l : List Ev) : List Ev × Nat := l.foldl putE s
/-- A log in block g. -/
def Lg (W w : World) (bl : Bl) (ow : List Ro) (g : Nat) (s : List Ev × Nat) (v : Value) : Prop :=
  Mst W w ((g, 83, #[v, .int .i64 s.2]) :: bl) (⟨30, 4, v, s.1.length, evs s.1⟩ :: ow)
def LgAt (W : World) (bl : Bl) (ow : List Ro) (g : Nat) (s : List Ev × Nat) (w : World) : Prop := ∃ v, Lg W w bl ow g s v
theorem evs_length (l : List Ev) : (evs l).length = l.length * 4 := by
  induction l with
  | nil => rfl
  | cons e l ih => rw [evs, List.flatMap_cons, List.length_append, ← evs, ih]; simp [Ev.cs]; omega
theorem evs_get {l : List Ev} {k : Nat} {e : Ev} (h : l[k]? = some e) : (evs l)[k * 4]? = some (.int .i64 e.t) ∧ (evs l)[k * 4 + 1]? = some (.int .i64 e.k) ∧ (evs l)[k * 4 + 2]? = some (.int .i64 e.i) ∧ (evs l)[k * 4 + 3]? = some (.int .i64 e.r) := by
  induction l generalizing k with
  | nil => simp at h
  | cons y l ih =>
    rcases k with _ | k
    · simp at h; subst h; exact ⟨rfl, rfl, rfl, rfl⟩
    · have := ih (k := k) (by simpa using h)
      rw [evs, List.flatMap_cons, ← evs, show (k + 1) * 4 = k * 4 + 1 + 1 + 1 + 1 by omega]
      simpa [Ev.cs] using this
theorem putsE_snoc (s : List Ev × Nat) (l : List Ev) (k : Nat) (e : Ev) (h : l[k]? = some e) : putsE s (l.take (k + 1)) = putE (putsE s (l.take k)) e := by
  unfold putsE
  rw [List.take_add_one, h, List.foldl_append]
  rfl
theorem putE_len (s : List Ev × Nat) (e : Ev) (h : s.1.length ≤ 128) : (putE s e).1.length ≤ 128 := by
  unfold putE
  (repeat' split) <;> simp_all <;> omega
end Go.Proofs.YtnopmdhjamkoaaaDoor
