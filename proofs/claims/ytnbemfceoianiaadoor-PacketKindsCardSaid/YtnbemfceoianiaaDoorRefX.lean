/- RefA. RefB. RefC. RefT. RefD. RefE. -/
import Derived.Test.YtnbemfceoianiaaDoorShaA
import Derived.Test.YtnbemfceoianiaaDoorBaseA
import Derived.IntWalk
import Derived.Outline
import Derived.Deep.RegionHeld3
import Derived.Deep.DeepCutAuto
import Derived.KernelRfl
/- Numbers in parts of 16 bits, the lowest first, in plain words; roots by trying bit by bit; nothing here names the program. -/
namespace Go.Proofs.YtnbemfceoianiaaDoor
set_option linter.unusedVariables false

/-- The number of parts. -/
def val : List Nat → Nat
  | [] => 0
  | x :: xs => x + 65536 * val xs
theorem val_append (a b : List Nat) : val (a ++ b) = val a + 65536 ^ a.length * val b := by
  induction a with
  | nil => simp [val]
  | cons x a ih =>
    simp only [List.cons_append, val, ih, List.length_cons, Nat.pow_succ]
    rw [Nat.mul_add, Nat.add_assoc]
    congr 2
    rw [← Nat.mul_assoc, Nat.mul_comm (65536 ^ a.length)]
theorem val_take_succ {b : List Nat} {k x : Nat} (h : b[k]? = some x) : val (b.take (k + 1)) = val (b.take k) + x * 65536 ^ k := by
  have hk : k < b.length := (List.getElem?_eq_some_iff.1 h).1
  rw [List.take_succ_eq_append_getElem hk, val_append]
  rw [List.getElem?_eq_getElem hk] at h
  injection h with h
  have e : (b.take k).length = k := by simp; omega
  rw [e, h]
  simp only [val, Nat.mul_zero, Nat.add_zero]
  rw [Nat.mul_comm]
theorem val_split (b : List Nat) (k : Nat) (hk : k ≤ b.length) : val b = val (b.take k) + 65536 ^ k * val (b.drop k) := by
  have := val_append (b.take k) (b.drop k)
  rw [List.take_append_drop] at this
  have e : (b.take k).length = k := by simp; omega
  rw [e] at this
  exact this
theorem val_set {z : List Nat} {j x : Nat} (h : z[j]? = some x) (y : Nat) : val (z.set j y) + x * 65536 ^ j = val z + y * 65536 ^ j := by
  induction z generalizing j with
  | nil => simp at h
  | cons w z ih =>
    cases j with
    | zero =>
      simp at h
      subst h
      simp only [List.set_cons_zero, val, Nat.pow_zero, Nat.mul_one]
      omega
    | succ j =>
      have := ih (j := j) (by simpa using h)
      simp only [List.set_cons_succ, val, Nat.pow_succ]
      have e1 : x * (65536 ^ j * 65536) = 65536 * (x * 65536 ^ j) := by rw [Nat.mul_comm (65536 ^ j), ← Nat.mul_assoc, Nat.mul_comm x, Nat.mul_assoc]
      have e2 : y * (65536 ^ j * 65536) = 65536 * (y * 65536 ^ j) := by rw [Nat.mul_comm (65536 ^ j), ← Nat.mul_assoc, Nat.mul_comm y, Nat.mul_assoc]
      omega
/-- Twelve parts. -/
structure Lim (z : List Nat) : Prop where
  len : z.length = 12
  lt : ∀ x ∈ z, x < 65536
theorem val_lt (z : List Nat) (h : ∀ x ∈ z, x < 65536) : val z < 65536 ^ z.length := by
  induction z with
  | nil => simp [val]
  | cons x z ih =>
    have h1 := ih fun y hy => h y (List.mem_cons_of_mem _ hy)
    have h2 := h x (List.mem_cons_self ..)
    simp only [val, List.length_cons, Nat.pow_succ]
    omega
theorem Lim.set {z : List Nat} (h : Lim z) (j : Nat) {x : Nat} (hx : x < 65536) : Lim (z.set j x) :=
  ⟨by simp [h.len], fun y hy => by
    rcases List.mem_or_eq_of_mem_set hy with h1 | rfl
    · exact h.lt y h1
    · exact hx⟩
theorem Lim.at_ {z : List Nat} (h : Lim z) {j : Nat} (hj : j < 12) : ∃ x, z[j]? = some x ∧ x < 65536 := by
  have : j < z.length := by rw [h.len]; exact hj
  exact ⟨z[j], List.getElem?_eq_getElem this, h.lt _ (List.getElem_mem _)⟩
def zero12 : List Nat := [0, 0, 0, 0, 0, 0, 0, 0, 0, 0, 0, 0]
theorem zero12_lim : Lim zero12 := ⟨rfl, by decide⟩
theorem zero12_val : val zero12 = 0 := rfl

/-- The inner loop's state: k parts of b times part i of a. -/
structure Inn (z0 b : List Nat) (i ai k : Nat) (z : List Nat) (over : Nat) : Prop where
  lim : Lim z
  ov : over < 65536
  eq : val z + over * 65536 ^ (i + k) = val z0 + ai * val (b.take k) * 65536 ^ i
theorem Inn.start {z0 b : List Nat} {i ai : Nat} (h : Lim z0) : Inn z0 b i ai 0 z0 0 := ⟨h, by decide, by simp [val]⟩
theorem mul_lt {a b : Nat} (ha : a < 65536) (hb : b < 65536) : a * b ≤ 4294836225 := by
  have : a * b ≤ 65535 * 65535 := Nat.mul_le_mul (by omega) (by omega)
  omega
theorem Inn.step {z0 b z : List Nat} {i ai k over x bk : Nat} (h : Inn z0 b i ai k z over) (hai : ai < 65536) (hx : z[i + k]? = some x) (hb : b[k]? = some bk) (hbk : bk < 65536) (hx1 : x < 65536) :
    Inn z0 b i ai (k + 1) (z.set (i + k) ((over + x + ai * bk) % 65536)) ((over + x + ai * bk) / 65536) := by
  have hm := mul_lt hai hbk
  have ho := h.ov
  refine ⟨h.lim.set _ (Nat.mod_lt _ (by decide)), by omega, ?_⟩
  have h1 := val_set hx ((over + x + ai * bk) % 65536)
  have h2 := h.eq
  rw [val_take_succ hb]
  obtain ⟨t, ht⟩ : ∃ t, over + x + ai * bk = t := ⟨_, rfl⟩
  rw [ht] at h1 ⊢
  have h3 : t % 65536 * 65536 ^ (i + k) + t / 65536 * 65536 ^ (i + (k + 1)) = t * 65536 ^ (i + k) := by
    rw [← Nat.add_assoc, Nat.pow_succ, ← Nat.mul_assoc, Nat.mul_right_comm, ← Nat.add_mul]
    congr 1
    omega
  have h4 : t * 65536 ^ (i + k) = over * 65536 ^ (i + k) + x * 65536 ^ (i + k) + ai * bk * 65536 ^ (i + k) := by rw [← ht, Nat.add_mul, Nat.add_mul]
  have h5 : ai * (val (b.take k) + bk * 65536 ^ k) * 65536 ^ i = ai * val (b.take k) * 65536 ^ i + ai * bk * 65536 ^ (i + k) := by
    rw [Nat.mul_add, Nat.add_mul, Nat.pow_add]
    congr 1
    rw [← Nat.mul_assoc, Nat.mul_assoc, Nat.mul_comm (65536 ^ k)]
  omega
/-- The outer loop's state. -/
structure Out (a b : List Nat) (i : Nat) (z : List Nat) : Prop where
  lim : Lim z
  eq : ∃ q, val z + q * 65536 ^ 12 = val (a.take i) * val b
theorem Out.start (a b : List Nat) : Out a b 0 zero12 := ⟨zero12_lim, 0, by simp [val, zero12_val]⟩
theorem Out.step {a b z0 z : List Nat} {i ai over : Nat} (h : Out a b i z0) (hi : i < 12) (ha : a[i]? = some ai) (hb : b.length = 12) (hin : Inn z0 b i ai (12 - i) z over) : Out a b (i + 1) z := by
  obtain ⟨q, hq⟩ := h.eq
  refine ⟨hin.lim, over + q + ai * val (b.drop (12 - i)), ?_⟩
  rw [val_take_succ ha]
  have h1 := hin.eq
  have h2 := val_split b (12 - i) (by omega)
  rw [show i + (12 - i) = 12 by omega] at h1
  have h3 : ai * 65536 ^ i * val b = ai * val (b.take (12 - i)) * 65536 ^ i + ai * val (b.drop (12 - i)) * 65536 ^ 12 := by
    rw [h2, Nat.mul_add]
    congr 1
    · rw [Nat.mul_right_comm]
    · have e : 65536 ^ 12 = 65536 ^ i * 65536 ^ (12 - i) := by rw [← Nat.pow_add, show i + (12 - i) = 12 by omega]
      rw [e, ← Nat.mul_assoc, Nat.mul_assoc ai, Nat.mul_right_comm]
  have h4 : (val (a.take i) + ai * 65536 ^ i) * val b = val (a.take i) * val b + ai * 65536 ^ i * val b := Nat.add_mul ..
  rw [h4, h3, Nat.add_mul, Nat.add_mul]
  clear h2 h3 h4
  generalize 65536 ^ 12 = M at h1 hq ⊢
  omega
theorem Out.done {a b z : List Nat} (h : Out a b 12 z) (ha : a.length = 12) (hv : val a * val b < 65536 ^ 12) : val z = val a * val b := by
  obtain ⟨q, hq⟩ := h.eq
  rw [List.take_of_length_le (by omega)] at hq
  rcases Nat.eq_zero_or_pos q with rfl | h1
  · omega
  · have : 1 * 65536 ^ 12 ≤ q * 65536 ^ 12 := Nat.mul_le_mul_right _ h1
    omega
/-- A number's parts. -/
def partsL (y : Nat) : List Nat := [y % 65536, y / 65536 % 65536, y / 65536 / 65536 % 65536, y / 65536 / 65536 / 65536 % 65536, 0, 0, 0, 0, 0, 0, 0, 0]
theorem partsL_lim (y : Nat) : Lim (partsL y) := ⟨rfl, by
  intro x hx
  simp only [partsL, List.mem_cons, List.not_mem_nil, or_false] at hx
  omega⟩
theorem partsL_val (y : Nat) (h : y < 2 ^ 64) : val (partsL y) = y := by
  simp only [partsL, val]
  omega
/-- Which is less, from the top. -/
theorem cmp_lt {z t : List Nat} (hz : Lim z) (ht : Lim t) {i x y : Nat} (hi : i < 12) (he : z.drop (i + 1) = t.drop (i + 1)) (hx : z[i]? = some x) (hy : t[i]? = some y) (hlt : x < y) : val z < val t := by
  have h1 := val_split z (i + 1) (by rw [hz.len]; omega)
  have h2 := val_split t (i + 1) (by rw [ht.len]; omega)
  rw [val_take_succ hx] at h1
  rw [val_take_succ hy] at h2
  rw [he] at h1
  have h3 : val (z.take i) < 65536 ^ i := by
    have := val_lt (z.take i) fun x hx => hz.lt x (List.mem_of_mem_take hx)
    have e : (z.take i).length = i := by simp [hz.len]; omega
    rw [e] at this
    exact this
  have h4 : (x + 1) * 65536 ^ i ≤ y * 65536 ^ i := Nat.mul_le_mul_right _ hlt
  rw [Nat.add_mul] at h4
  omega
theorem drop_eq {z t : List Nat} {i x : Nat} (hx : z[i]? = some x) (hy : t[i]? = some x) (he : z.drop (i + 1) = t.drop (i + 1)) : z.drop i = t.drop i := by
  have h1 : i < z.length := (List.getElem?_eq_some_iff.1 hx).1
  have h2 : i < t.length := (List.getElem?_eq_some_iff.1 hy).1
  rw [List.drop_eq_getElem_cons h1, List.drop_eq_getElem_cons h2, he]
  congr 1
  rw [List.getElem?_eq_getElem h1] at hx
  rw [List.getElem?_eq_getElem h2] at hy
  injection hx with hx
  injection hy with hy
  rw [hx, hy]
/-- The n-th root of p, k bits of it. -/
def smallB (y n p : Nat) : Bool := decide (y ^ n ≤ p * 65536 ^ (2 * n))
def rootK (p n : Nat) : Nat → Nat
  | 0 => 0
  | k + 1 => if smallB (rootK p n k + 2 ^ (35 - k)) n p then rootK p n k + 2 ^ (35 - k) else rootK p n k
theorem rootK_le (p n : Nat) : ∀ k, k ≤ 36 → rootK p n k + 2 ^ (36 - k) ≤ 2 ^ 36
  | 0, _ => by simp [rootK]
  | k + 1, h => by
    have h1 := rootK_le p n k (by omega)
    have e : 2 ^ (36 - k) = 2 ^ (35 - k) + 2 ^ (35 - k) := by rw [show 36 - k = (35 - k) + 1 by omega, Nat.pow_succ]; omega
    rw [e] at h1
    rw [show 36 - (k + 1) = 35 - k by omega]
    unfold rootK
    generalize 2 ^ (35 - k) = c at h1 ⊢
    split <;> omega
def rootW (p n : Nat) : Wd := BitVec.ofNat 32 (rootK p n 36)
/-- The first 64 primes. -/
def pri64 : List Nat := [2, 3, 5, 7, 11, 13, 17, 19, 23, 29, 31, 37, 41, 43, 47, 53, 59, 61, 67, 71, 73, 79, 83, 89, 97, 101, 103, 107, 109, 113, 127, 131, 137, 139, 149, 151, 157, 163, 167, 173, 179, 181, 191, 193, 197, 199, 211, 223, 227, 229, 233, 239, 241, 251, 257, 263, 269, 271, 277, 281, 283, 293, 307, 311]
theorem pri64_len : pri64.length = 64 := rfl
end Go.Proofs.YtnbemfceoianiaaDoor

/- Contracts of the document's digest: parts, times. -/
namespace Go.Proofs.YtnbemfceoianiaaDoor
set_option linter.unusedVariables false
open Go.RowKit

def Us (l : List Nat) : Array Value := (l.map fun x : Nat => Value.int .u64 (x : Int)).toArray
theorem Us_get {l : List Nat} {j x : Nat} (h : l[j]? = some x) : (Us l)[j]? = some (.int .u64 (x : Int)) := by simp [Us, h]
theorem Us_set (l : List Nat) (j x : Nat) : (Us l).setIfInBounds j (.int .u64 (x : Int)) = Us (l.set j x) := by simp [Us, List.map_set]
theorem Us_one (l : List Nat) : (Us l).all (·.oneCell') = true := by
  rw [Array.all_eq_true_iff_forall_mem]
  intro v hv
  simp only [Us, List.mem_toArray, List.mem_map] at hv
  obtain ⟨x, _, rfl⟩ := hv
  rfl
theorem Us_size (l : List Nat) : (Us l).size = l.length := by simp [Us]
abbrev Z12 : Array Value := #[.int .u64 0, .int .u64 0, .int .u64 0, .int .u64 0, .int .u64 0, .int .u64 0, .int .u64 0, .int .u64 0, .int .u64 0, .int .u64 0, .int .u64 0, .int .u64 0]
theorem Z12_eq : Us zero12 = Z12 := rfl
def zP (y k : Nat) : List Nat := (partsL y).take k ++ List.replicate (12 - k) 0
def yD (y : Nat) : Nat → Nat
  | 0 => y
  | k + 1 => yD y k / 65536
theorem zP_set (y k : Nat) (h : k < 4) : (zP y k).set k (yD y k % 65536) = zP y (k + 1) := by
  have h4 : k = 0 ∨ k = 1 ∨ k = 2 ∨ k = 3 := by omega
  rcases h4 with rfl | rfl | rfl | rfl <;> rfl
theorem zP_4 (y : Nat) : zP y 4 = partsL y := rfl
theorem zP_get (y k : Nat) (h : k < 4) : (zP y k)[k]? = some 0 := by
  have h4 : k = 0 ∨ k = 1 ∨ k = 2 ∨ k = 3 := by omega
  rcases h4 with rfl | rfl | rfl | rfl <;> rfl
theorem yD_le (y k : Nat) : yD y k ≤ y := by
  induction k with
  | zero => exact Nat.le_refl _
  | succ k ih =>
    show yD y k / 65536 ≤ y
    have := Nat.div_le_self (yD y k) 65536
    omega
end Go.Proofs.YtnbemfceoianiaaDoor

/- Contracts of the document's digest: small, root. -/
namespace Go.Proofs.YtnbemfceoianiaaDoor
set_option linter.unusedVariables false
open Go.RowKit

section
variable {P : Program} {ops : Array Oper} {Q : Exit → Act → World → Prop} {a : Act} {w : World} {K : Act → World → Prop} {E : Prop}
/-- A whole row is loaded, in a region that draws its order. -/
theorem step_load_mid {op : Oper} (hgd : op.guard = none) (ty : TypeId) (x : Operand) (ho : op.op = .load ty x)
    (b o : Nat) (hx : a.eval x = .pointer (some ⟨b, o, none⟩)) (cs : List Value) (d : TypeDesc) (hc : w.rangeAt b o cs)
    (hu : P.underlying ty = some d) (hd : d.isRow = true) (hi : (P.info? ty).map (·.size) = some cs.length)
    (h : K (a.put op.dst (.agg cs.toArray)) w) : if Region.wanted op (yielded ops a.tmps) = true then Oper.wp P op a w K Q else E := by
  have hw : Region.wanted op (yielded ops a.tmps) = true := by simp [Region.wanted, hgd]
  rw [if_pos hw]
  exact wp_load_mid ty x ho b o hx cs d hc hu hd hi h
theorem step_store_row {o : Oper} (hgd : o.guard = none) (ty : TypeId) (x y : Operand) (ho : o.op = .store ty x y)
    (g : Nat) (cells : Array Value) (hx : a.eval x = .pointer (some ⟨g, 0, none⟩)) (hy : a.eval y = .agg cells)
    (t : TypeId) (old : Array Value) (hg : w.heap[g]? = some (.cells old t (0, 0))) (hi : (P.info? ty).map (·.size) = some cells.size)
    (hold : old.size = cells.size) (h1 : cells.all (·.oneCell') = true)
    (h : K (a.put o.dst undef) (w.setRow g cells)) : if Region.wanted o (yielded ops a.tmps) = true then Oper.wp P o a w K Q else E := by
  have hw : Region.wanted o (yielded ops a.tmps) = true := by simp [Region.wanted, hgd]
  rw [if_pos hw]
  exact wp_store_row ty x y ho g cells hx hy t old hg hi hold h1 h
end

theorem Us_same (z z' : List Nat) (hz : Lim z) (hz' : Lim z') : (Us z).size = (Us z').size := by rw [Us_size, Us_size, hz.len, hz'.len]
theorem Bk.rangeL {w : World} {g : Nat} {t : TypeId} {cs : Array Value} (h : Bk w g t cs) : w.rangeAt g 0 cs.toList := h.range fun j v hv => by
  rw [Nat.zero_add]
  simpa using hv
theorem pow_small {y i : Nat} (hy : y < 2 ^ 36) (hi : i ≤ 3) : y ^ i < 65536 ^ 12 := by
  have h1 : y ^ i ≤ (2 ^ 36) ^ i := Nat.pow_le_pow_left (by omega) _
  have h2 : (2 ^ 36) ^ i ≤ (2 ^ 36) ^ 3 := Nat.pow_le_pow_right (by decide) hi
  have h3 : (2 ^ 36) ^ 3 < 65536 ^ 12 := by decide
  omega
end Go.Proofs.YtnbemfceoianiaaDoor

/- The table of the document is that of the digest: roots of primes, reckoned. -/
namespace Go.Proofs.YtnbemfceoianiaaDoor
set_option linter.unusedVariables false
theorem kTab_roots : pri64.map (fun p => rootW p 3) = kTab := by kernel_rfl
theorem h0_roots : (pri64.take 8).map (fun p => rootW p 2) = h0.l := by kernel_rfl
/-- How many of the primes are below p; is p one of them? -/
def cntP (p : Nat) : Nat := (pri64.filter fun q => decide (q < p)).length
def prB (p : Nat) : Bool := pri64.contains p
def prK (p q : Nat) : Bool := (List.range (q - 2)).all fun i => p % (i + 2) != 0
theorem prK_succ (p q : Nat) (h : 2 ≤ q) : prK p (q + 1) = (prK p q && p % q != 0) := by
  unfold prK
  rw [show q + 1 - 2 = (q - 2) + 1 by omega, List.range_succ, List.all_append]
  simp [show q - 2 + 2 = q by omega]
theorem all_range {n : Nat} {f : Nat → Bool} (h : (List.range n).all f = true) {i : Nat} (hi : i < n) : f i = true := by
  rw [List.all_eq_true] at h
  exact h i (List.mem_range.2 hi)
theorem cnt_tab : ((List.range 312).all fun p => decide (cntP p < 64) && (if prB p then pri64[cntP p]? == some p && cntP (p + 1) == cntP p + 1 else cntP (p + 1) == cntP p)) = true := by kernel_rfl
theorem cnt_end : cntP 312 = 64 := by kernel_rfl
theorem prime_tab : ((List.range 312).all fun p => (List.range 19).all fun q => !(decide (2 ≤ p) && decide (2 ≤ q) && decide (p < q * q) && (q == 2 || decide ((q - 1) * (q - 1) ≤ p))) || (prK p q == prB p)) = true := by kernel_rfl
theorem cnt_lt {p : Nat} (h : p < 312) : cntP p < 64 := by
  have := all_range cnt_tab h
  simp only [Bool.and_eq_true, decide_eq_true_eq] at this
  exact this.1
theorem cnt_yes {p : Nat} (h : p < 312) (hp : prB p = true) : pri64[cntP p]? = some p ∧ cntP (p + 1) = cntP p + 1 := by
  have := all_range cnt_tab h
  rw [hp] at this
  simp only [if_true, Bool.and_eq_true, beq_iff_eq, decide_eq_true_eq] at this
  exact this.2
theorem cnt_no {p : Nat} (h : p < 312) (hp : prB p = false) : cntP (p + 1) = cntP p := by
  have := all_range cnt_tab h
  rw [hp] at this
  simp only [Bool.false_eq_true, if_false, Bool.and_eq_true, beq_iff_eq, decide_eq_true_eq] at this
  exact this.2
theorem prime_is {p q : Nat} (h : p < 312) (h2 : 2 ≤ p) (hq : 2 ≤ q) (hq2 : q ≤ 18) (h3 : p < q * q) (h4 : q = 2 ∨ (q - 1) * (q - 1) ≤ p) : prK p q = prB p := by
  have := all_range (all_range prime_tab h) (show q < 19 by omega)
  simp only [Bool.or_eq_true, Bool.not_eq_true', beq_iff_eq, Bool.and_eq_false_iff, decide_eq_false_iff_not, Bool.or_eq_false_iff] at this
  rcases this with ((h1 | h1) | h1) | h1
  · rcases h1 with h1 | h1
    · omega
    · omega
  · omega
  · rcases h4 with h4 | h4
    · simp [h4] at h1
    · exact absurd h4 h1.2
  · exact h1
/-- The table so far as n primes. -/
def ktL (n : Nat) : List Wd := (pri64.take n).map (fun p => rootW p 3) ++ List.replicate (64 - n) 0
def htL (n : Nat) : List Wd := (pri64.take (min n 8)).map (fun p => rootW p 2) ++ List.replicate (8 - min n 8) 0
theorem ktL_len (n : Nat) (h : n ≤ 64) : (ktL n).length = 64 := by simp [ktL, pri64_len]; omega
theorem htL_len (n : Nat) : (htL n).length = 8 := by simp [htL, pri64_len]; omega
theorem ktL_set {n p : Nat} (h : pri64[n]? = some p) : (ktL n).set n (rootW p 3) = ktL (n + 1) := by
  have hn : n < pri64.length := (List.getElem?_eq_some_iff.1 h).1
  have h64 := pri64_len
  have e : ((pri64.take n).map (fun p => rootW p 3)).length = n := by simp; omega
  unfold ktL
  rw [List.set_append_right _ _ (by omega), e, Nat.sub_self, show 64 - n = (64 - (n + 1)) + 1 by omega, List.replicate_succ, List.set_cons_zero, List.take_succ_eq_append_getElem hn, List.map_append, List.append_assoc]
  rw [List.getElem?_eq_getElem hn] at h
  injection h with h
  rw [h]
  rfl
theorem htL_set {n p : Nat} (h : pri64[n]? = some p) (h8 : n < 8) : (htL n).set n (rootW p 2) = htL (n + 1) := by
  have hn : n < pri64.length := (List.getElem?_eq_some_iff.1 h).1
  have h64 := pri64_len
  unfold htL
  rw [show min n 8 = n by omega, show min (n + 1) 8 = n + 1 by omega]
  have e : ((pri64.take n).map (fun p => rootW p 2)).length = n := by simp; omega
  rw [List.set_append_right _ _ (by omega), e, Nat.sub_self, show 8 - n = (8 - (n + 1)) + 1 by omega, List.replicate_succ, List.set_cons_zero, List.take_succ_eq_append_getElem hn, List.map_append, List.append_assoc]
  rw [List.getElem?_eq_getElem hn] at h
  injection h with h
  rw [h]
  rfl
theorem htL_big {n : Nat} (h8 : 8 ≤ n) : htL (n + 1) = htL n := by
  unfold htL
  rw [show min n 8 = 8 by omega, show min (n + 1) 8 = 8 by omega]
theorem tab_64 : ktL 64 ++ htL 64 = kTab ++ h0.l := by
  have e1 : ktL 64 = kTab := by
    unfold ktL
    rw [List.take_of_length_le (by decide), ← kTab_roots]
    simp
  have e2 : htL 64 = h0.l := by
    unfold htL
    rw [← h0_roots]
    simp
  rw [e1, e2]

end Go.Proofs.YtnbemfceoianiaaDoor

/- Contracts of the document's digest: root, Make. -/
namespace Go.Proofs.YtnbemfceoianiaaDoor
set_option linter.unusedVariables false
open Go.RowKit

theorem rootK_lt (p n k : Nat) (h : k ≤ 36) : rootK p n k < 2 ^ 36 := by
  have h1 := rootK_le p n k h
  have h2 : 0 < 2 ^ (36 - k) := Nat.pow_pos (by decide)
  omega
theorem root_step (p n k : Nat) (h : k < 36) : rootK p n k + 2 ^ (35 - k) < 2 ^ 36 := by
  have h1 := rootK_le p n k (by omega)
  have e : 2 ^ (36 - k) = 2 ^ (35 - k) + 2 ^ (35 - k) := by rw [show 36 - k = (35 - k) + 1 by omega, Nat.pow_succ]; omega
  have h2 : 0 < 2 ^ (35 - k) := Nat.pow_pos (by decide)
  omega
abbrev Z72 : Array Value := #[.int .u32 0, .int .u32 0, .int .u32 0, .int .u32 0, .int .u32 0, .int .u32 0, .int .u32 0, .int .u32 0, .int .u32 0, .int .u32 0, .int .u32 0, .int .u32 0, .int .u32 0, .int .u32 0, .int .u32 0, .int .u32 0, .int .u32 0, .int .u32 0, .int .u32 0, .int .u32 0, .int .u32 0, .int .u32 0, .int .u32 0, .int .u32 0, .int .u32 0, .int .u32 0, .int .u32 0, .int .u32 0, .int .u32 0, .int .u32 0, .int .u32 0, .int .u32 0, .int .u32 0, .int .u32 0, .int .u32 0, .int .u32 0, .int .u32 0, .int .u32 0, .int .u32 0, .int .u32 0, .int .u32 0, .int .u32 0, .int .u32 0, .int .u32 0, .int .u32 0, .int .u32 0, .int .u32 0, .int .u32 0, .int .u32 0, .int .u32 0, .int .u32 0, .int .u32 0, .int .u32 0, .int .u32 0, .int .u32 0, .int .u32 0, .int .u32 0, .int .u32 0, .int .u32 0, .int .u32 0, .int .u32 0, .int .u32 0, .int .u32 0, .int .u32 0, .int .u32 0, .int .u32 0, .int .u32 0, .int .u32 0, .int .u32 0, .int .u32 0, .int .u32 0, .int .u32 0]
theorem tab_0 : Ws (ktL 0 ++ htL 0) = Z72 := rfl
theorem Z72_one : Z72.all (·.oneCell') = true := by kernel_rfl
end Go.Proofs.YtnbemfceoianiaaDoor

/- Contracts of the document's digest: right, Sum. -/
namespace Go.Proofs.YtnbemfceoianiaaDoor
set_option linter.unusedVariables false
open Go.RowKit

/-- The padded bytes, so far. -/
def msgZ (l : List UInt8) (j : Nat) : List UInt8 := l ++ endZ j
def msgL (l : List UInt8) (k : Nat) : List UInt8 := l ++ endL l.length k
theorem msgZ_len (l : List UInt8) (j : Nat) : (msgZ l j).length = l.length + (j + 1) := by simp [msgZ, endZ_len]
theorem msgL_len (l : List UInt8) (k : Nat) (hk : k ≤ 8) : (msgL l k).length = l.length + (padZ l.length + 1 + k) := by simp [msgL, endL_len _ _ hk]
theorem msgL_8 (l : List UInt8) : msgL l 8 = l ++ padL l.length := by rw [msgL, endL_8]
theorem bits_byte (n k D : Nat) (hk : k < 8) (hD : 2 ^ (56 - 8 * k) = D) : (8 * (n : Int) / (D : Int) % 256) = ((UInt8.ofNat ((n * 8) >>> (8 * (7 - k)))).toNat : Int) := by
  rw [Nat.shiftRight_eq_div_pow, show 8 * (7 - k) = 56 - 8 * k by omega, hD]
  have e : 8 * (n : Int) / (D : Int) % 256 = ((8 * n / D % 256 : Nat) : Int) := by simp
  rw [e, Nat.mul_comm]
  simp
/-- A word, byte by byte. -/
def wk (b : List UInt8) (i : Nat) : Nat → Wd
  | 0 => 0
  | j + 1 => 256 * wk b i j + BitVec.ofNat 32 (b.getD (i + j) 0).toNat
theorem wk_4 (b : List UInt8) (i : Nat) : wk b i 4 = wordB b i := by
  have h0 := (b.getD i 0).toNat_lt
  have h1 := (b.getD (i + 1) 0).toNat_lt
  have h2 := (b.getD (i + 2) 0).toNat_lt
  have h3 := (b.getD (i + 3) 0).toNat_lt
  unfold wordB wordOf
  simp only [wk, Nat.add_zero]
  generalize (b.getD i 0).toNat = p at h0 ⊢
  generalize (b.getD (i + 1) 0).toNat = q at h1 ⊢
  generalize (b.getD (i + 2) 0).toNat = r at h2 ⊢
  generalize (b.getD (i + 3) 0).toNat = s at h3 ⊢
  apply BitVec.eq_of_toNat_eq
  simp only [BitVec.toNat_add, BitVec.toNat_mul, BitVec.toNat_ofNat, show (256 : Wd).toNat = 256 from rfl, show (0 : Wd).toNat = 0 from rfl]
  omega
theorem W_mul256 {P : Program} (t : TypeId) (x : Wd) (w : World) : (binOp .mul t (.int .u32 256) (W x)).run P w = .ok (W (256 * x)) w := by
  have h : IntKind.u32.wrap (256 * (x.toNat : Int)) = (((256 : Wd) * x).toNat : Int) := by
    rw [wrap_u32, BitVec.toNat_mul]
    simp
  simp only [binOp, W, Op.intArith, ne_eq, not_true, if_false]
  simp only [h, Sem.run_pure]
theorem W_u8 (b : UInt8) (w : World) : (convert 5 68 (.int .u8 (b.toNat : Int))).run Tryd.prog w = .ok (W (BitVec.ofNat 32 b.toNat)) w := by
  have hb := b.toNat_lt
  have e : IntKind.u32.wrap (b.toNat : Int) = (BitVec.ofNat 32 b.toNat).toNat := by
    rw [wrap_u32, BitVec.toNat_ofNat]
    omega
  have : (convert 5 68 (.int .u8 (b.toNat : Int))).run Tryd.prog w = .ok (.int .u32 (IntKind.u32.wrap (b.toNat : Int))) w := by go_simp
  rw [this, e]
  rfl
theorem spL_at (l : List UInt8) {k : Nat} (h : k < 64) : (spL l k).set k 0 = spL l k := by
  unfold spL
  rw [List.set_append_right _ _ (by rw [spreadK_len]; omega), spreadK_len, Nat.sub_self, show 64 - k = (64 - (k + 1)) + 1 by omega, List.replicate_succ, List.set_cons_zero]
/-- Choose and most, otherwise said. -/
theorem ch_or (x y z : Wd) : (x &&& y) ||| ((x ^^^ 4294967295#32) &&& z) = chW x y z := by
  unfold chW
  apply BitVec.eq_of_getLsbD_eq
  intro i hi
  rw [show (4294967295#32 : Wd) = BitVec.allOnes 32 from by decide]
  simp only [BitVec.getLsbD_or, BitVec.getLsbD_and, BitVec.getLsbD_xor, BitVec.getLsbD_not, BitVec.getLsbD_allOnes, hi, decide_true, Bool.true_and]
  cases x.getLsbD i <;> cases y.getLsbD i <;> cases z.getLsbD i <;> rfl
theorem mj_or (x y z : Wd) : ((x &&& y) ||| (x &&& z)) ||| (y &&& z) = mjW x y z := by
  unfold mjW
  apply BitVec.eq_of_getLsbD_eq
  intro i hi
  simp only [BitVec.getLsbD_or, BitVec.getLsbD_and, BitVec.getLsbD_xor]
  cases x.getLsbD i <;> cases y.getLsbD i <;> cases z.getLsbD i <;> rfl
/-- (a structure: nobody looks into the equation) -/
structure SpEq (b : List UInt8) (ws : List Wd) : Prop where
  eq : spreadK b 64 = ws
structure ShEq (l : List UInt8) (s : H8) : Prop where
  eq : sha l = outW s
structure ShEq2 (l : List UInt8) (k : List UInt8) : Prop where
  eq : sha l = k
structure UpEq (l : List UInt8) (k : Nat) (b : UInt8) : Prop where
  eq : (upB l k).set k b = upB l (k + 1)
structure VEq (ws : List Wd) (st v : H8) : Prop where
  eq : roundsK ws st 64 = v
structure AdEq (s v : List Wd) (k : Nat) (x y : Wd) : Prop where
  eq : (adK s v k).set k (x + y) = adK s v (k + 1)
structure SfEq (m : List UInt8) (i : Nat) (s : H8) : Prop where
  eq : shaN h0 m i = s
theorem KT_k {j : Nat} (h : j < 64) : (Ws (kTab ++ h0.l))[j]? = some (W (kTab.getD j 0)) := by
  refine Ws_get ?_
  have h1 : j < kTab.length := h
  rw [List.getElem?_append_left h1, List.getElem?_eq_getElem h1, List.getD_eq_getElem?_getD, List.getElem?_eq_getElem h1]
  rfl
theorem out_byte (s : H8) (j : Nat) (h : j < 32) : (outW s)[j]? = some (UInt8.ofNat ((s.l.getD (j / 4) 0).toNat >>> (24 - 8 * (j % 4)))) := by
  have h1 := out_at s (j / 4) (by omega)
  have h4 : j % 4 = 0 ∨ j % 4 = 1 ∨ j % 4 = 2 ∨ j % 4 = 3 := by omega
  obtain ⟨a, b, c, d⟩ := h1
  rcases h4 with h4 | h4 | h4 | h4
  · rw [h4, ← a]; congr 1; omega
  · rw [h4, ← b]; congr 1; omega
  · rw [h4, ← c]; congr 1; omega
  · rw [h4]
    have e : (24 - 8 * 3) = 0 := rfl
    rw [e, Nat.shiftRight_zero, ← d]; congr 1; omega
theorem KT_h : (Ws (kTab ++ h0.l)).toList.drop 64 = h0.l.map W := rfl
theorem shaN_0 (s : H8) (l : List UInt8) : shaN s l 0 = s := rfl
end Go.Proofs.YtnbemfceoianiaaDoor
