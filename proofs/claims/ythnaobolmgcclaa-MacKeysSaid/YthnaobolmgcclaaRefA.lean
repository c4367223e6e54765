/- Numbers in parts of 16 bits, the lowest first, in plain words; roots by trying bit by bit; nothing here names the program. -/
import Derived.Test.YthnaobolmgcclaaShaP
namespace Go.Proofs.Ythnaobolmgcclaa
set_option linter.unusedVariables false

/-- The number of parts. -/
def val : List Nat → Nat
  | [] => 0
  | x :: xs => x + 65536 * val xs
theorem val_append (a b : List Nat) : val (a ++ b) = val a + 65536 ^ a.length * val b := by
  induction a with
  | nil => simp [val]
  | cons x a ih =>
    simp only [List.cons_append, val, ih, List.length_cons, Nat.pow_succ]
    rw [Nat.mul_add, Nat.add_assoc]
    congr 2
    rw [← Nat.mul_assoc, Nat.mul_comm (65536 ^ a.length)]
theorem val_take_succ {b : List Nat} {k x : Nat} (h : b[k]? = some x) : val (b.take (k + 1)) = val (b.take k) + x * 65536 ^ k := by
  have hk : k < b.length := (List.getElem?_eq_some_iff.1 h).1
  rw [List.take_succ_eq_append_getElem hk, val_append]
  rw [List.getElem?_eq_getElem hk] at h
  injection h with h
  have e : (b.take k).length = k := by simp; omega
  rw [e, h]
  simp only [val, Nat.mul_zero, Nat.add_zero]
  rw [Nat.mul_comm]
theorem val_split (b : List Nat) (k : Nat) (hk : k ≤ b.length) : val b = val (b.take k) + 65536 ^ k * val (b.drop k) := by
  have := val_append (b.take k) (b.drop k)
  rw [List.take_append_drop] at this
  have e : (b.take k).length = k := by simp; omega
  rw [e] at this
  exact this
theorem val_set {z : List Nat} {j x : Nat} (h : z[j]? = some x) (y : Nat) : val (z.set j y) + x * 65536 ^ j = val z + y * 65536 ^ j := by
  induction z generalizing j with
  | nil => simp at h
  | cons w z ih =>
    cases j with
    | zero =>
      simp at h
      subst h
      simp only [List.set_cons_zero, val, Nat.pow_zero, Nat.mul_one]
      omega
    | succ j =>
      have := ih (j := j) (by simpa using h)
      simp only [List.set_cons_succ, val, Nat.pow_succ]
      have e1 : x * (65536 ^ j * 65536) = 65536 * (x * 65536 ^ j) := by rw [Nat.mul_comm (65536 ^ j), ← Nat.mul_assoc, Nat.mul_comm x, Nat.mul_assoc]
      have e2 : y * (65536 ^ j * 65536) = 65536 * (y * 65536 ^ j) := by rw [Nat.mul_comm (65536 ^ j), ← Nat.mul_assoc, Nat.mul_comm y, Nat.mul_assoc]
      omega
/-- Twelve parts. -/
structure Lim (z : List Nat) : Prop where
  len : z.length = 12
  lt : ∀ x ∈ z, x < 65536
theorem val_lt (z : List Nat) (h : ∀ x ∈ z, x < 65536) : val z < 65536 ^ z.length := by
  induction z with
  | nil => simp [val]
  | cons x z ih =>
    have h1 := ih fun y hy => h y (List.mem_cons_of_mem _ hy)
    have h2 := h x (List.mem_cons_self ..)
    simp only [val, List.length_cons, Nat.pow_succ]
    omega
theorem Lim.set {z : List Nat} (h : Lim z) (j : Nat) {x : Nat} (hx : x < 65536) : Lim (z.set j x) :=
  ⟨by simp [h.len], fun y hy => by
    rcases List.mem_or_eq_of_mem_set hy with h1 | rfl
    · exact h.lt y h1
    · exact hx⟩
theorem Lim.at_ {z : List Nat} (h : Lim z) {j : Nat} (hj : j < 12) : ∃ x, z[j]? = some x ∧ x < 65536 := by
  have : j < z.length := by rw [h.len]; exact hj
  exact ⟨z[j], List.getElem?_eq_getElem this, h.lt _ (List.getElem_mem _)⟩
def zero12 : List Nat := [0, 0, 0, 0, 0, 0, 0, 0, 0, 0, 0, 0]
theorem zero12_lim : Lim zero12 := ⟨rfl, by decide⟩
theorem zero12_val : val zero12 = 0 := rfl

/-- The inner loop's state: k parts of b times part i of a. -/
structure Inn (z0 b : List Nat) (i ai k : Nat) (z : List Nat) (over : Nat) : Prop where
  lim : Lim z
  ov : over < 65536
  eq : val z + over * 65536 ^ (i + k) = val z0 + ai * val (b.take k) * 65536 ^ i
theorem Inn.start {z0 b : List Nat} {i ai : Nat} (h : Lim z0) : Inn z0 b i ai 0 z0 0 := ⟨h, by decide, by simp [val]⟩
theorem mul_lt {a b : Nat} (ha : a < 65536) (hb : b < 65536) : a * b ≤ 4294836225 := by
  have : a * b ≤ 65535 * 65535 := Nat.mul_le_mul (by omega) (by omega)
  omega
theorem Inn.step {z0 b z : List Nat} {i ai k over x bk : Nat} (h : Inn z0 b i ai k z over) (hai : ai < 65536) (hx : z[i + k]? = some x) (hb : b[k]? = some bk) (hbk : bk < 65536) (hx1 : x < 65536) :
    Inn z0 b i ai (k + 1) (z.set (i + k) ((over + x + ai * bk) % 65536)) ((over + x + ai * bk) / 65536) := by
  have hm := mul_lt hai hbk
  have ho := h.ov
  refine ⟨h.lim.set _ (Nat.mod_lt _ (by decide)), by omega, ?_⟩
  have h1 := val_set hx ((over + x + ai * bk) % 65536)
  have h2 := h.eq
  rw [val_take_succ hb]
  obtain ⟨t, ht⟩ : ∃ t, over + x + ai * bk = t := ⟨_, rfl⟩
  rw [ht] at h1 ⊢
  have h3 : t % 65536 * 65536 ^ (i + k) + t / 65536 * 65536 ^ (i + (k + 1)) = t * 65536 ^ (i + k) := by
    rw [← Nat.add_assoc, Nat.pow_succ, ← Nat.mul_assoc, Nat.mul_right_comm, ← Nat.add_mul]
    congr 1
    omega
  have h4 : t * 65536 ^ (i + k) = over * 65536 ^ (i + k) + x * 65536 ^ (i + k) + ai * bk * 65536 ^ (i + k) := by rw [← ht, Nat.add_mul, Nat.add_mul]
  have h5 : ai * (val (b.take k) + bk * 65536 ^ k) * 65536 ^ i = ai * val (b.take k) * 65536 ^ i + ai * bk * 65536 ^ (i + k) := by
    rw [Nat.mul_add, Nat.add_mul, Nat.pow_add]
    congr 1
    rw [← Nat.mul_assoc, Nat.mul_assoc, Nat.mul_comm (65536 ^ k)]
  omega
/-- The outer loop's state. -/
structure Out (a b : List Nat) (i : Nat) (z : List Nat) : Prop where
  lim : Lim z
  eq : ∃ q, val z + q * 65536 ^ 12 = val (a.take i) * val b
theorem Out.start (a b : List Nat) : Out a b 0 zero12 := ⟨zero12_lim, 0, by simp [val, zero12_val]⟩
theorem Out.step {a b z0 z : List Nat} {i ai over : Nat} (h : Out a b i z0) (hi : i < 12) (ha : a[i]? = some ai) (hb : b.length = 12) (hin : Inn z0 b i ai (12 - i) z over) : Out a b (i + 1) z := by
  obtain ⟨q, hq⟩ := h.eq
  refine ⟨hin.lim, over + q + ai * val (b.drop (12 - i)), ?_⟩
  rw [val_take_succ ha]
  have h1 := hin.eq
  have h2 := val_split b (12 - i) (by omega)
  rw [show i + (12 - i) = 12 by omega] at h1
  have h3 : ai * 65536 ^ i * val b = ai * val (b.take (12 - i)) * 65536 ^ i + ai * val (b.drop (12 - i)) * 65536 ^ 12 := by
    rw [h2, Nat.mul_add]
    congr 1
    · rw [Nat.mul_right_comm]
    · have e : 65536 ^ 12 = 65536 ^ i * 65536 ^ (12 - i) := by rw [← Nat.pow_add, show i + (12 - i) = 12 by omega]
      rw [e, ← Nat.mul_assoc, Nat.mul_assoc ai, Nat.mul_right_comm]
  have h4 : (val (a.take i) + ai * 65536 ^ i) * val b = val (a.take i) * val b + ai * 65536 ^ i * val b := Nat.add_mul ..
  rw [h4, h3, Nat.add_mul, Nat.add_mul]
  clear h2 h3 h4
  generalize 65536 ^ 12 = M at h1 hq ⊢
  omega
theorem Out.done {a b z : List Nat} (h : Out a b 12 z) (ha : a.length = 12) (hv : val a * val b < 65536 ^ 12) : val z = val a * val b := by
  obtain ⟨q, hq⟩ := h.eq
  rw [List.take_of_length_le (by omega)] at hq
  rcases Nat.eq_zero_or_pos q with rfl | h1
  · omega
  · have : 1 * 65536 ^ 12 ≤ q * 65536 ^ 12 := Nat.mul_le_mul_right _ h1
    omega
/-- A number's parts. -/
def partsL (y : Nat) : List Nat := [y % 65536, y / 65536 % 65536, y / 65536 / 65536 % 65536, y / 65536 / 65536 / 65536 % 65536, 0, 0, 0, 0, 0, 0, 0, 0]
theorem partsL_lim (y : Nat) : Lim (partsL y) := ⟨rfl, by
  intro x hx
  simp only [partsL, List.mem_cons, List.not_mem_nil, or_false] at hx
  omega⟩
theorem partsL_val (y : Nat) (h : y < 2 ^ 64) : val (partsL y) = y := by
  simp only [partsL, val]
  omega
/-- Which is less, from the top. -/
theorem cmp_lt {z t : List Nat} (hz : Lim z) (ht : Lim t) {i x y : Nat} (hi : i < 12) (he : z.drop (i + 1) = t.drop (i + 1)) (hx : z[i]? = some x) (hy : t[i]? = some y) (hlt : x < y) : val z < val t := by
  have h1 := val_split z (i + 1) (by rw [hz.len]; omega)
  have h2 := val_split t (i + 1) (by rw [ht.len]; omega)
  rw [val_take_succ hx] at h1
  rw [val_take_succ hy] at h2
  rw [he] at h1
  have h3 : val (z.take i) < 65536 ^ i := by
    have := val_lt (z.take i) fun x hx => hz.lt x (List.mem_of_mem_take hx)
    have e : (z.take i).length = i := by simp [hz.len]; omega
    rw [e] at this
    exact this
  have h4 : (x + 1) * 65536 ^ i ≤ y * 65536 ^ i := Nat.mul_le_mul_right _ hlt
  rw [Nat.add_mul] at h4
  omega
theorem drop_eq {z t : List Nat} {i x : Nat} (hx : z[i]? = some x) (hy : t[i]? = some x) (he : z.drop (i + 1) = t.drop (i + 1)) : z.drop i = t.drop i := by
  have h1 : i < z.length := (List.getElem?_eq_some_iff.1 hx).1
  have h2 : i < t.length := (List.getElem?_eq_some_iff.1 hy).1
  rw [List.drop_eq_getElem_cons h1, List.drop_eq_getElem_cons h2, he]
  congr 1
  rw [List.getElem?_eq_getElem h1] at hx
  rw [List.getElem?_eq_getElem h2] at hy
  injection hx with hx
  injection hy with hy
  rw [hx, hy]
/-- The n-th root of p, k bits of it. -/
def smallB (y n p : Nat) : Bool := decide (y ^ n ≤ p * 65536 ^ (2 * n))
def rootK (p n : Nat) : Nat → Nat
  | 0 => 0
  | k + 1 => if smallB (rootK p n k + 2 ^ (35 - k)) n p then rootK p n k + 2 ^ (35 - k) else rootK p n k
theorem rootK_le (p n : Nat) : ∀ k, k ≤ 36 → rootK p n k + 2 ^ (36 - k) ≤ 2 ^ 36
  | 0, _ => by simp [rootK]
  | k + 1, h => by
    have h1 := rootK_le p n k (by omega)
    have e : 2 ^ (36 - k) = 2 ^ (35 - k) + 2 ^ (35 - k) := by rw [show 36 - k = (35 - k) + 1 by omega, Nat.pow_succ]; omega
    rw [e] at h1
    rw [show 36 - (k + 1) = 35 - k by omega]
    unfold rootK
    generalize 2 ^ (35 - k) = c at h1 ⊢
    split <;> omega
def rootW (p n : Nat) : Wd := BitVec.ofNat 32 (rootK p n 36)
/-- The first 64 primes. -/
def pri64 : List Nat := [2, 3, 5, 7, 11, 13, 17, 19, 23, 29, 31, 37, 41, 43, 47, 53, 59, 61, 67, 71, 73, 79, 83, 89, 97, 101, 103, 107, 109, 113, 127, 131, 137, 139, 149, 151, 157, 163, 167, 173, 179, 181, 191, 193, 197, 199, 211, 223, 227, 229, 233, 239, 241, 251, 257, 263, 269, 271, 277, 281, 283, 293, 307, 311]
theorem pri64_len : pri64.length = 64 := rfl
end Go.Proofs.Ythnaobolmgcclaa
