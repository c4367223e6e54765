/- A nonce that is read, in plain words. -/
import Derived.Test.YtiakgohipnbdbaaWinR
namespace Go.Proofs.Ytiakgohipnbdbaa
set_option linter.unusedVariables false
set_option linter.unusedSimpArgs false
open Go.RowKit

theorem newR_ok {l : List UInt8} (h : l.length ≤ 1024) : newR l = (l, 0) := if_neg (by omega)
/-- A number that is there. -/
theorem num_in (l : List UInt8) (s : Int) (w : Nat) (hs : (s = 1 ∧ w = 2) ∨ (s = 2 ∧ w = 4)) (h : w ≤ l.length) : nV (l, 0) s = (valB (l.take w) : Int) ∧ nS (l, 0) s = (l.drop w, 0) := by
  have hw : widB s = w := by rcases hs with ⟨rfl, rfl⟩ | ⟨rfl, rfl⟩ <;> rfl
  have hw4 : w ≤ 4 ∧ 0 < w := by omega
  have ht : takeR (l, 0) w = l.take w := if_pos ⟨rfl, h⟩
  have hr : restR (l, 0) w = (l.drop w, 0) := if_pos ⟨rfl, h⟩
  have hl : (l.take w).length = w := by rw [List.length_take]; omega
  have hv : ¬ 9223372036854775807 < valB (l.take w) := by
    have h1 := valB_lt (l.take w)
    rw [hl] at h1
    have : 256 ^ w ≤ 256 ^ 4 := Nat.pow_le_pow_right (by decide) hw4.1
    have e : (256 : Nat) ^ 4 = 4294967296 := by decide
    omega
  have hn : numV (l, 0) w = valB (l.take w) := by rw [numV, ht, if_neg hv]
  have ho : numO (l, 0) w = true := by rw [numO, ht, hl]; simp; omega
  have hS : numS (l, 0) w = (l.drop w, 0) := by rw [numS, ht, if_neg hv, hr]
  refine ⟨?_, ?_⟩
  · rw [nV, if_neg (by omega), getF, if_neg (by omega), if_pos (by omega), hw, ho, if_pos rfl]
    simp [hn]
  · rw [nS, if_neg (by omega), getS, if_neg (by omega), if_pos (by omega), hw, hS]
theorem num_out (st : RS) (s : Int) (w : Nat) (hs : (s = 1 ∧ w = 2) ∨ (s = 2 ∧ w = 4)) (h : st = ([], 4) ∨ (st.2 = 0 ∧ st.1.length < w)) : nS st s = ([], 4) := by
  have hw : widB s = w := by rcases hs with ⟨rfl, rfl⟩ | ⟨rfl, rfl⟩ <;> rfl
  have hc : ¬ (st.2 = 0 ∧ w ≤ st.1.length) := by rcases h with rfl | h <;> simp <;> omega
  have ht : takeR st w = [] := if_neg hc
  have hr : restR st w = ([], 4) := by
    rw [restR, if_neg hc, failR]
    rcases h with rfl | h
    · rfl
    · rw [if_pos h.1]
  have hS : numS st w = ([], 4) := by rw [numS, ht, if_neg (by decide), hr]
  rw [nS, if_neg (by omega), getS, if_neg (by omega), if_pos (by omega), hw, hS]
theorem wnRead_short {l : List UInt8} (h : l.length < 6) : wnRead (l, 0) = ((0, 0), 4) := by
  have h2 : wSt2 (l, 0) = ([], 4) := by
    unfold wSt2 wSt1
    by_cases h2 : l.length < 2
    · rw [num_out (l, 0) 1 2 (.inl ⟨rfl, rfl⟩) (.inr ⟨rfl, h2⟩), num_out _ 2 4 (.inr ⟨rfl, rfl⟩) (.inl rfl)]
    · rw [(num_in l 1 2 (.inl ⟨rfl, rfl⟩) (by omega)).2]
      exact num_out _ 2 4 (.inr ⟨rfl, rfl⟩) (.inr ⟨rfl, by rw [List.length_drop]; omega⟩)
  rw [wnRead, h2]
  rfl
theorem wnRead_long {l : List UInt8} (h : 6 ≤ l.length) : wX (l, 0) = (valB (l.take 2) : Int) ∧ wY (l, 0) = (valB ((l.drop 2).take 4) : Int) ∧ wSt2 (l, 0) = (l.drop 6, 0) := by
  have h1 := num_in l 1 2 (.inl ⟨rfl, rfl⟩) (by omega)
  have h2 := num_in (l.drop 2) 2 4 (.inr ⟨rfl, rfl⟩) (by rw [List.length_drop]; omega)
  refine ⟨h1.1, ?_, ?_⟩
  · unfold wY wSt1
    rw [h1.2]
    exact h2.1
  · unfold wSt2 wSt1
    rw [h1.2, h2.2, List.drop_drop]
theorem wnRead_back {p q : Int} (h : wnOk p q) : wnRead (wnB p q, 0) = ((p, q), 0) := by
  obtain ⟨h1, h2, h3⟩ := wnRead_long (l := wnB p q) (by rw [wnB_length]; exact Nat.le_refl _)
  have e1 : (wnB p q).take 2 = numB 2 p := by rw [wnB, List.take_append_of_le_length (by rw [numB_length]; exact Nat.le_refl _), List.take_of_length_le (by rw [numB_length]; exact Nat.le_refl _)]
  have e2 : ((wnB p q).drop 2).take 4 = numB 4 q := by
    have : (wnB p q).drop 2 = numB 4 q := by
      have h := List.drop_left (l₁ := numB 2 p) (l₂ := numB 4 q)
      rw [numB_length] at h
      exact h
    rw [this, List.take_of_length_le (by rw [numB_length]; exact Nat.le_refl _)]
  have hp : 0 ≤ p ∧ p < 65536 := by unfold wnOk at h; omega
  have hq : 0 ≤ q ∧ q < 4294967296 := by unfold wnOk at h; omega
  rw [e1, valB_numB 2 p hp.1 (by simpa using hp.2)] at h1
  rw [e2, valB_numB 4 q hq.1 (by simpa using hq.2)] at h2
  rw [wnRead, h3, h1, h2, if_neg (by simp), if_pos h]
theorem valB_two {l : List UInt8} (h : 6 ≤ l.length) : (valB (l.take 2) : Int) = 256 * ((l.getD 0 0).toNat : Int) + ((l.getD 1 0).toNat : Int) ∧
    (valB ((l.drop 2).take 4) : Int) = 16777216 * ((l.getD 2 0).toNat : Int) + 65536 * ((l.getD 3 0).toNat : Int) + 256 * ((l.getD 4 0).toNat : Int) + ((l.getD 5 0).toNat : Int) := by
  match l, h with
  | a :: b :: c :: d :: e :: f :: r, _ =>
    simp only [List.take_succ_cons, List.take_zero, List.drop_succ_cons, List.drop_zero, valB, List.foldl_cons, List.foldl_nil, List.getD_cons_zero, List.getD_cons_succ]
    omega
end Go.Proofs.Ytiakgohipnbdbaa
