/- A label and parts are told apart by their lengths: plain. -/
import Derived.Test.YthnaobolmgcclaaMac7
namespace Go.Proofs.Ythnaobolmgcclaa
set_option linter.unusedVariables false

theorem len4_inj {m n : Nat} (hm : m < 4294967296) (hn : n < 4294967296) (h : len4 m = len4 n) : m = n := by
  have h1 := len4_cells m hm
  have h2 := len4_cells n hn
  rw [h] at h1
  have h3 := h1.trans h2.symm
  simp only [List.cons.injEq, Value.int.injEq, true_and, and_true] at h3
  omega
theorem len4_len (n : Nat) : (len4 n).length = 4 := rfl
theorem frameB_cons (l : List UInt8) (ls : List (List UInt8)) : frameB (l :: ls) = len4 l.length ++ (l ++ frameB ls) := by
  simp [frameB, framesL]
theorem frameB_inj : ∀ (x y : List (List UInt8)), (∀ l ∈ x, l.length < 4294967296) → (∀ l ∈ y, l.length < 4294967296) → frameB x = frameB y → x = y
  | [], [], _, _, _ => rfl
  | [], l :: ls, _, _, h => by
    have := congrArg List.length h
    rw [frameB_cons] at this
    simp [frameB, framesL, len4_len] at this
    omega
  | l :: ls, [], _, _, h => by
    have := congrArg List.length h
    rw [frameB_cons] at this
    simp [frameB, framesL, len4_len] at this
  | l :: ls, k :: ks, hx, hy, h => by
    rw [frameB_cons, frameB_cons] at h
    obtain ⟨h1, h2⟩ := List.append_inj h (by rw [len4_len, len4_len])
    have h3 := len4_inj (hx l (List.mem_cons_self ..)) (hy k (List.mem_cons_self ..)) h1
    obtain ⟨h4, h5⟩ := List.append_inj h2 h3
    rw [h4, frameB_inj ls ks (fun l hl => hx l (List.mem_cons_of_mem _ hl)) (fun l hl => hy l (List.mem_cons_of_mem _ hl)) h5]
/-- The same so far. -/
def sameK (a b : List UInt8) (x y : List (List UInt8)) (k : Nat) : Bool := decide (a = b ∧ x.length = y.length ∧ x.take k = y.take k)
theorem sameK_0 (a b : List UInt8) (x y : List (List UInt8)) : sameK a b x y 0 = (decide (a = b) && decide ((x.length : Int) = y.length)) := by
  rw [Bool.eq_iff_iff]
  simp [sameK]
  intro _
  omega
theorem sameK_succ (a b : List UInt8) (x y : List (List UInt8)) (k : Nat) (p q : List UInt8) (hp : x[k]? = some p) (hq : y[k]? = some q) (h : sameK a b x y k = true) : sameK a b x y (k + 1) = decide (p = q) := by
  simp only [sameK, decide_eq_true_eq] at h
  rw [Bool.eq_iff_iff]
  simp only [sameK, decide_eq_true_eq]
  rw [List.take_add_one, List.take_add_one, hp, hq, h.2.2]
  simp [h.1, h.2.1]
theorem sameK_all (a b : List UInt8) (x y : List (List UInt8)) (k : Nat) (h : sameK a b x y k = true → x.length ≤ k) : sameK a b x y k = decide (a = b ∧ x = y) := by
  rw [Bool.eq_iff_iff]
  constructor
  · intro h1
    have h2 := h h1
    simp only [sameK, decide_eq_true_eq] at h1 ⊢
    obtain ⟨h3, h4, h5⟩ := h1
    rw [List.take_of_length_le h2, List.take_of_length_le (by omega)] at h5
    exact ⟨h3, h5⟩
  · intro h1
    simp only [sameK, decide_eq_true_eq] at h1 ⊢
    obtain ⟨rfl, rfl⟩ := h1
    exact ⟨rfl, rfl, rfl⟩
theorem frame_same (a b : List UInt8) (x y : List (List UInt8)) (ha : a.length ≤ 1000) (hb : b.length ≤ 1000) (hx : ∀ l ∈ x, l.length ≤ 1000) (hy : ∀ l ∈ y, l.length ≤ 1000) : decide (frameB (a :: x) = frameB (b :: y)) = decide (a = b ∧ x = y) := by
  rw [Bool.eq_iff_iff]
  simp only [decide_eq_true_eq]
  constructor
  · intro h
    have := frameB_inj _ _ (by
      intro l hl
      rcases List.mem_cons.1 hl with rfl | hl
      · omega
      · have := hx l hl; omega) (by
      intro l hl
      rcases List.mem_cons.1 hl with rfl | hl
      · omega
      · have := hy l hl; omega) h
    simpa using this
  · rintro ⟨rfl, rfl⟩; rfl
end Go.Proofs.Ythnaobolmgcclaa
