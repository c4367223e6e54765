/- Claims that are read, in plain words: the program's and the document's. -/
import Derived.Test.YtnbemfceoianiaaRf5
import Derived.Test.YtnbemfceoianiaaCl2
namespace Go.Proofs.Ytnbemfceoianiaa
set_option linter.unusedVariables false
open Go.RowKit

theorem nbN_valB (n : Nat) : ∀ l : List UInt8, l.length = n → nbN (valB l) n = l := by
  induction n with
  | zero => intro l h; rw [List.eq_nil_of_length_eq_zero h]; rfl
  | succ n ih =>
    intro l h
    obtain ⟨a, c, rfl⟩ : ∃ a c, l = a ++ [c] := ⟨l.dropLast, l.getLast (by intro e; rw [e] at h; simp at h), (List.dropLast_concat_getLast _).symm⟩
    have ha : a.length = n := by simpa using h
    have hc := c.toNat_lt
    rw [nbN_succ, valB_snoc, show (valB a * 256 + c.toNat) / 256 = valB a by omega, ih a ha]
    congr 1
    congr 1
    apply UInt8.toNat_inj.1
    rw [UInt8.toNat_ofNat']
    omega
theorem numB_valB {n : Nat} {l : List UInt8} (h : l.length = n) : numB n (valB l : Nat) = l := by
  have e : numB n (valB l : Nat) = nbN (valB l) n := by unfold numB nbN nbyte; simp
  rw [e, nbN_valB n l h]
theorem clB_c9 (l : List UInt8) (h : l.length = 9) : clB (c9 l).1 (c9 l).2.1 (c9 l).2.2.1 (c9 l).2.2.2 = l := by
  unfold clB c9
  rw [numB_valB (by simp; omega), numB_valB (by simp; omega), numB_valB (by simp; omega), numB_valB (by simp; omega)]
  have h1 : l.take 2 ++ (l.drop 2).take 1 = l.take 3 := by rw [← List.take_add]
  have h2 : l.take 3 ++ (l.drop 3).take 4 = l.take 7 := by rw [← List.take_add]
  have h3 : l.take 7 ++ (l.drop 7).take 2 = l.take 9 := by rw [← List.take_add]
  rw [h1, h2, h3]
  exact List.take_of_length_le (by omega)

/-- A number out of bytes without an error so far. -/
theorem num_step (l : List UInt8) (s : Int) (hs : s = 0 ∨ s = 1 ∨ s = 2) : nV (l, 0) s = (if widB s ≤ l.length then (valB (l.take (widB s)) : Int) else 0) ∧ nS (l, 0) s = if widB s ≤ l.length then (l.drop (widB s), 0) else ([], 4) := by
  have hw : 0 < widB s ∧ widB s ≤ 4 := by rcases hs with rfl | rfl | rfl <;> decide
  have hne : s ≠ 4 := by omega
  have h1 : nV (l, 0) s = (getF (l, 0) s).2.1 := by unfold nV; rw [if_neg hne]
  have h2 : nS (l, 0) s = getS (l, 0) s := by unfold nS; rw [if_neg hne]
  have h3 : getF (l, 0) s = if numO (l, 0) (widB s) then (s, (numV (l, 0) (widB s) : Int), []) else gNone := by unfold getF; rw [if_neg (by omega), if_pos (by omega)]
  have h4 : getS (l, 0) s = numS (l, 0) (widB s) := by unfold getS; rw [if_neg (by omega), if_pos (by omega)]
  rw [h1, h2, h3, h4]
  generalize widB s = n at *
  by_cases h : n ≤ l.length
  · have ht : takeR (l, 0) n = l.take n := if_pos ⟨rfl, h⟩
    have hr : restR (l, 0) n = (l.drop n, 0) := if_pos ⟨rfl, h⟩
    have hv : valB (l.take n) < 4294967296 := by
      have a := valB_lt (l.take n)
      have b : 256 ^ (l.take n).length ≤ 256 ^ 4 := Nat.pow_le_pow_right (by decide) (by simp; omega)
      have c : 256 ^ 4 = 4294967296 := by decide
      omega
    have hlt : ¬ 9223372036854775807 < valB (l.take n) := by omega
    have ho : numO (l, 0) n = true := by unfold numO; rw [ht]; simp [hlt]; omega
    rw [if_pos h, if_pos h, ho, if_pos rfl]
    unfold numV numS
    rw [ht, if_neg hlt, if_neg hlt, hr]
    exact ⟨rfl, rfl⟩
  · have ht : takeR (l, 0) n = [] := if_neg (fun hh => h hh.2)
    have hr : restR (l, 0) n = ([], 4) := by unfold restR; rw [if_neg (fun hh => h hh.2)]; rfl
    have ho : numO (l, 0) n = false := by unfold numO; rw [ht]; simp
    rw [if_neg h, if_neg h, ho]
    unfold numS
    rw [ht, hr]
    exact ⟨rfl, rfl⟩
theorem num_stuck (s : Int) (hs : s = 0 ∨ s = 1 ∨ s = 2) : nS ([], 4) s = ([], 4) := by
  rcases hs with rfl | rfl | rfl <;> decide

/-- The bytes as they are read by claims. -/
theorem read_short (l : List UInt8) (h : l.length < 9) : cSt4 (l, 0) = ([], 4) := by
  unfold cSt4 cSt3 cSt2 cSt1
  obtain ⟨_, e1⟩ := num_step l 1 (by omega)
  rw [e1]
  by_cases h1 : widB 1 ≤ l.length
  · rw [if_pos h1]
    obtain ⟨_, e2⟩ := num_step (l.drop (widB 1)) 0 (by omega)
    rw [e2]
    by_cases h2 : widB 0 ≤ (l.drop (widB 1)).length
    · rw [if_pos h2]
      obtain ⟨_, e3⟩ := num_step ((l.drop (widB 1)).drop (widB 0)) 2 (by omega)
      rw [e3]
      by_cases h3 : widB 2 ≤ ((l.drop (widB 1)).drop (widB 0)).length
      · rw [if_pos h3]
        obtain ⟨_, e4⟩ := num_step (((l.drop (widB 1)).drop (widB 0)).drop (widB 2)) 1 (by omega)
        rw [e4, if_neg]
        simp [widB] at h1 h2 h3 ⊢
        omega
      · rw [if_neg h3, num_stuck 1 (by omega)]
    · rw [if_neg h2, num_stuck 2 (by omega), num_stuck 1 (by omega)]
  · rw [if_neg h1, num_stuck 0 (by omega), num_stuck 2 (by omega), num_stuck 1 (by omega)]
theorem read_long (l : List UInt8) (h : 9 ≤ l.length) : cSt4 (l, 0) = (l.drop 9, 0) ∧ (cI (l, 0), cR (l, 0), cX (l, 0), cS (l, 0)) = c9 l := by
  obtain ⟨v1, e1⟩ := num_step l 1 (by omega)
  rw [if_pos (by simp [widB]; omega)] at v1 e1
  obtain ⟨v2, e2⟩ := num_step (l.drop (widB 1)) 0 (by omega)
  rw [if_pos (by simp [widB]; omega)] at v2 e2
  obtain ⟨v3, e3⟩ := num_step ((l.drop (widB 1)).drop (widB 0)) 2 (by omega)
  rw [if_pos (by simp [widB]; omega)] at v3 e3
  obtain ⟨v4, e4⟩ := num_step (((l.drop (widB 1)).drop (widB 0)).drop (widB 2)) 1 (by omega)
  rw [if_pos (by simp [widB]; omega)] at v4 e4
  have s1 : cSt1 (l, 0) = (l.drop (widB 1), 0) := e1
  have s2 : cSt2 (l, 0) = ((l.drop (widB 1)).drop (widB 0), 0) := by unfold cSt2; rw [s1]; exact e2
  have s3 : cSt3 (l, 0) = (((l.drop (widB 1)).drop (widB 0)).drop (widB 2), 0) := by unfold cSt3; rw [s2]; exact e3
  have s4 : cSt4 (l, 0) = ((((l.drop (widB 1)).drop (widB 0)).drop (widB 2)).drop (widB 1), 0) := by unfold cSt4; rw [s3]; exact e4
  constructor
  · rw [s4]; simp [widB]
  · unfold cI cR cX cS c9
    rw [s1, s2, s3, v1, v2, v3, v4]
    simp [widB]
theorem clRead_eq (l : List UInt8) : clRead (l, 0) = parse9 l := by
  unfold clRead parse9
  by_cases h : l.length < 9
  · rw [if_pos h, read_short l h]; rfl
  · obtain ⟨e1, e2⟩ := read_long l (by omega)
    have a1 : cI (l, 0) = (c9 l).1 := congrArg (fun q => q.1) e2
    have a2 : cR (l, 0) = (c9 l).2.1 := congrArg (fun q => q.2.1) e2
    have a3 : cX (l, 0) = (c9 l).2.2.1 := congrArg (fun q => q.2.2.1) e2
    have a4 : cS (l, 0) = (c9 l).2.2.2 := congrArg (fun q => q.2.2.2) e2
    rw [if_neg h, e1, if_neg (by simp), a1, a2, a3, a4]
theorem newR_short {l : List UInt8} (h : l.length ≤ 1024) : newR l = (l, 0) := if_neg (by omega)
/-- What Parse says is the document's, but for what is behind. -/
theorem clParse_eq (l : List UInt8) (hl : l.length ≤ 1024) : clParse l = if (parse9 l).2 = 0 ∧ 9 < l.length then ((0, 0, 0, 0), 3) else parse9 l := by
  unfold clParse
  rw [newR_short hl, clRead_eq]
  by_cases h : l.length < 9
  · have hp : parse9 l = ((0, 0, 0, 0), 4) := if_pos h
    rw [hp]; rfl
  · have hp : parse9 l = if clOk (c9 l).1 (c9 l).2.1 (c9 l).2.2.1 (c9 l).2.2.2 then (c9 l, 0) else ((0, 0, 0, 0), 3) := if_neg h
    obtain ⟨e1, _⟩ := read_long l (by omega)
    by_cases hok : clOk (c9 l).1 (c9 l).2.1 (c9 l).2.2.1 (c9 l).2.2.2
    · rw [if_pos hok] at hp
      rw [hp, if_neg (by simp), e1]
      by_cases h9 : 9 < l.length
      · have : endR (l.drop 9, 0) = 3 := by unfold endR; rw [if_neg (by simp), if_pos (by simp; omega)]
        rw [this, if_pos (by omega), if_pos ⟨rfl, h9⟩]
      · have : endR (l.drop 9, 0) = 0 := by unfold endR; rw [if_neg (by simp), if_neg (by simp; omega)]
        rw [this, if_neg (by omega), if_neg (fun hh => h9 hh.2)]
    · rw [if_neg hok] at hp
      rw [hp]; rfl
theorem parse9_ok {l : List UInt8} (h : (parse9 l).2 = 0) : (parse9 l).1 = c9 l ∧ 9 ≤ l.length ∧ clOk (c9 l).1 (c9 l).2.1 (c9 l).2.2.1 (c9 l).2.2.2 := by
  unfold parse9 at *
  by_cases h1 : l.length < 9
  · rw [if_pos h1] at h; simp at h
  · rw [if_neg h1] at h ⊢
    by_cases h2 : clOk (c9 l).1 (c9 l).2.1 (c9 l).2.2.1 (c9 l).2.2.2
    · rw [if_pos h2]; exact ⟨rfl, by omega, h2⟩
    · rw [if_neg h2] at h; simp at h
end Go.Proofs.Ytnbemfceoianiaa
