/- Package wire in plain words: what Check says, a field's bytes, the writer's state. -/
import Derived.Test.YtnbemfceoianiaaDoorBaseB
namespace Go.Proofs.YtnbemfceoianiaaDoor
set_option linter.unusedVariables false
open Go.RowKit

/-- What Check says of a field. -/
def chkB (s n : Int) (k : Nat) : Int :=
  if s < 0 ∨ 4 < s then 13 else if s = 4 then (if n ≠ 0 then 10 else if 512 < k then 2 else 0)
  else if 0 < k then 10 else if n < 0 then 10 else if s = 3 then 0
  else if s = 0 then (if n / 2 ^ 8 ≠ 0 then 10 else 0) else if s = 1 then (if n / 2 ^ 16 ≠ 0 then 10 else 0) else if n / 2 ^ 32 ≠ 0 then 10 else 0
/-- How many bytes a number of a size has. -/
def widB (s : Int) : Nat := if s = 0 then 1 else if s = 1 then 2 else if s = 2 then 4 else 8
/-- A right field's bytes. -/
def outB (s n : Int) (l : List UInt8) : List UInt8 := if s = 4 then numB 2 l.length ++ l else numB (widB s) n

/-- A field, as a slice of fields holds it. -/
structure Fd where
  s : Int
  n : Int
  A : Option Addr
  c : Nat
  l : List UInt8
def Fd.v (f : Fd) : Value := .agg #[.int .i64 f.s, .int .i64 f.n, .slice f.A f.l.length f.c]
def Fd.cs (f : Fd) : List Value := [.int .i64 f.s, .int .i64 f.n, .slice f.A f.l.length f.c]
def Fd.wf (f : Fd) : Prop := f.l.length ≤ 1000000 ∧ f.n ≤ 9223372036854775807
def fcs (fs : List Fd) : List Value := fs.flatMap Fd.cs
/-- One field more. -/
def putB (st : List UInt8 × Int) (f : Fd) : List UInt8 × Int :=
  if st.2 ≠ 0 then st else if chkB f.s f.n f.l.length ≠ 0 then (st.1, chkB f.s f.n f.l.length)
  else if 1024 < st.1.length + (outB f.s f.n f.l).length then (st.1, 2) else (st.1 ++ outB f.s f.n f.l, 0)
def putsB (st : List UInt8 × Int) (fs : List Fd) : List UInt8 × Int := fs.foldl putB st

theorem fcs_length (fs : List Fd) : (fcs fs).length = fs.length * 3 := by
  induction fs with
  | nil => rfl
  | cons f fs ih => rw [fcs, List.flatMap_cons, List.length_append, ← fcs, ih]; simp [Fd.cs]; omega
theorem fcs_get {fs : List Fd} {k : Nat} {f : Fd} (h : fs[k]? = some f) : (fcs fs)[k * 3]? = some (.int .i64 f.s) ∧ (fcs fs)[k * 3 + 1]? = some (.int .i64 f.n) ∧ (fcs fs)[k * 3 + 2]? = some (.slice f.A f.l.length f.c) := by
  induction fs generalizing k with
  | nil => simp at h
  | cons y fs ih =>
    rcases k with _ | k
    · simp at h; subst h; exact ⟨rfl, rfl, rfl⟩
    · have := ih (k := k) (by simpa using h)
      rw [fcs, List.flatMap_cons, ← fcs, show (k + 1) * 3 = k * 3 + 1 + 1 + 1 by omega]
      simpa [Fd.cs] using this
theorem putsB_snoc (st : List UInt8 × Int) (fs : List Fd) (k : Nat) (f : Fd) (h : fs[k]? = some f) : putsB st (fs.take (k + 1)) = putB (putsB st (fs.take k)) f := by
  unfold putsB
  rw [List.take_add_one, h, List.foldl_append]
  rfl
theorem putsB_stuck (st : List UInt8 × Int) (fs : List Fd) (h : st.2 ≠ 0) : putsB st fs = st := by
  induction fs with
  | nil => rfl
  | cons f fs ih => show putsB (putB st f) fs = st; rw [show putB st f = st by unfold putB; rw [if_pos h]]; exact ih
theorem putsB_stuck_at (st : List UInt8 × Int) (fs : List Fd) (k : Nat) (h : (putsB st (fs.take k)).2 ≠ 0) : putsB st fs = putsB st (fs.take k) := by
  conv => lhs; rw [← List.take_append_drop k fs]
  unfold putsB
  rw [List.foldl_append]
  exact putsB_stuck _ _ h
theorem widB_le (s : Int) : widB s ≤ 8 := by unfold widB; (repeat' split) <;> omega
theorem outB_length (s n : Int) (l : List UInt8) : (outB s n l).length ≤ 8 + l.length := by
  unfold outB
  have := widB_le s
  split <;> simp [numB_length] <;> omega
theorem putB_len (st : List UInt8 × Int) (f : Fd) (h : st.1.length ≤ 1024) : (putB st f).1.length ≤ 1024 := by
  unfold putB
  (repeat' split) <;> simp_all <;> omega
theorem putsB_len (st : List UInt8 × Int) (fs : List Fd) (h : st.1.length ≤ 1024) : (putsB st fs).1.length ≤ 1024 := by
  induction fs generalizing st with
  | nil => exact h
  | cons f fs ih => exact ih _ (putB_len st f h)
theorem chkB_cases (s n : Int) (k : Nat) : chkB s n k = 0 ∨ chkB s n k = 2 ∨ chkB s n k = 10 ∨ chkB s n k = 13 := by
  unfold chkB
  (repeat' split) <;> simp
theorem chkB_ok (s n : Int) (k : Nat) (h : chkB s n k = 0) : 0 ≤ n ∧ ((s = 4 ∧ n = 0 ∧ k ≤ 512) ∨ (0 ≤ s ∧ s ≤ 3 ∧ k = 0)) := by
  unfold chkB at h
  repeat' split at h
  all_goals first | omega | (simp at h)
end Go.Proofs.YtnbemfceoianiaaDoor
