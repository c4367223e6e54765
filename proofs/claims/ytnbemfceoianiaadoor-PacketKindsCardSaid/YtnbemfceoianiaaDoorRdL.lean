/- Package wire in plain words: what was put is got again. -/
import Derived.Test.YtnbemfceoianiaaDoorRdP
namespace Go.Proofs.YtnbemfceoianiaaDoor
set_option linter.unusedVariables false
open Go.RowKit

theorem takeR_app (a r : List UInt8) (n : Nat) (h : a.length = n) : takeR (a ++ r, 0) n = a := by
  unfold takeR
  rw [if_pos ⟨rfl, by simp; omega⟩]
  subst h
  simp
theorem restR_app (a r : List UInt8) (n : Nat) (h : a.length = n) : restR (a ++ r, 0) n = (r, 0) := by
  unfold restR
  rw [if_pos ⟨rfl, by simp; omega⟩]
  subst h
  simp
theorem num_app (w : Nat) (n : Int) (r : List UInt8) (hw : 0 < w) (h0 : 0 ≤ n) (h1 : n < ((256 ^ w : Nat) : Int)) (h2 : n ≤ 9223372036854775807) :
    (numV (numB w n ++ r, 0) w : Int) = n ∧ numO (numB w n ++ r, 0) w = true ∧ numS (numB w n ++ r, 0) w = (r, 0) := by
  have ht := takeR_app (numB w n) r w (numB_length w n)
  have hv := valB_numB w n h0 h1
  have hle : ¬ 9223372036854775807 < valB (numB w n) := by omega
  refine ⟨?_, ?_, ?_⟩
  · unfold numV; rw [ht, if_neg hle]; exact hv
  · unfold numO; rw [ht]; simp only [numB_length]; simp [hle, hw]
  · unfold numS; rw [ht, if_neg hle]; exact restR_app _ _ _ (numB_length w n)
theorem chk_bound {s n : Int} {k : Nat} (h : chkB s n k = 0) (hs : s ≠ 4) (hn : n ≤ 9223372036854775807) : n < ((256 ^ widB s : Nat) : Int) := by
  obtain ⟨h0, h1⟩ := chkB_ok _ _ _ h
  have hs : s = 0 ∨ s = 1 ∨ s = 2 ∨ s = 3 := by omega
  unfold chkB at h
  rcases hs with rfl | rfl | rfl | rfl
  · simp [widB] at h ⊢; split at h <;> first | omega | (split at h <;> omega)
  · simp [widB] at h ⊢; split at h <;> first | omega | (split at h <;> omega)
  · simp [widB] at h ⊢; split at h <;> first | omega | (split at h <;> omega)
  · simp [widB]; omega
/-- What was put is got again. -/
theorem get_out (s n : Int) (l r : List UInt8) (h : chkB s n l.length = 0) (hn : n ≤ 9223372036854775807) : getF (outB s n l ++ r, 0) s = (s, n, l) ∧ getS (outB s n l ++ r, 0) s = (r, 0) := by
  obtain ⟨h0, h1⟩ := chkB_ok _ _ _ h
  rcases h1 with ⟨rfl, rfl, hl⟩ | ⟨h2, h3, h4⟩
  · have ho : outB 4 0 l ++ r = numB 2 (l.length : Int) ++ (l ++ r) := by
      rw [show outB 4 0 l = numB 2 l.length ++ l from if_pos rfl, List.append_assoc]
    obtain ⟨e1, e2, e3⟩ := num_app 2 (l.length : Int) (l ++ r) (by omega) (by omega) (by omega) (by omega)
    have e1' : numV (numB 2 (l.length : Int) ++ (l ++ r), 0) 2 = l.length := by omega
    rw [ho]
    constructor
    · unfold getF
      rw [if_neg (by omega), if_neg (by omega), e1', e3, restR_app l r _ rfl, takeR_app l r _ rfl, if_pos ⟨e2, hl, rfl⟩]
    · unfold getS
      rw [if_neg (by omega), if_neg (by omega), if_pos e2, e1', if_neg (by omega), e3, restR_app l r _ rfl]
  · have hl : l = [] := List.eq_nil_of_length_eq_zero h4
    subst hl
    have hb := chk_bound h (by omega) hn
    have ho : outB s n [] = numB (widB s) n := if_neg (by omega)
    rw [ho]
    have hw : 0 < widB s := by unfold widB; (repeat' split) <;> omega
    obtain ⟨e1, e2, e3⟩ := num_app (widB s) n r hw h0 hb hn
    constructor
    · unfold getF
      rw [if_neg (by omega), if_pos (by omega), e2, if_pos rfl, e1]
    · unfold getS
      rw [if_neg (by omega), if_pos (by omega), e3]
end Go.Proofs.YtnbemfceoianiaaDoor
