/- RefA. RefB. RefC. RefT. RefD. RefE. -/
import Derived.Test.YtnbemfceoianiaaShaA
import Derived.Test.YtnbemfceoianiaaBaseA
import Derived.IntWalk
import Derived.Outline
import Derived.Deep.RegionHeld3
import Derived.Deep.DeepCutAuto
import Derived.KernelRfl
/- Numbers in parts of 16 bits, the lowest first, in plain words; roots by trying bit by bit; nothing here names the program. -/
namespace Go.Proofs.Ytnbemfceoianiaa
set_option linter.unusedVariables false

/-- The number of parts. -/
def val : List Nat → Nat
  | [] => 0
  | x :: xs => x + 65536 * val xs
theorem val_append (a b : List Nat) : val (a ++ b) = val a + 65536 ^ a.length * val b := by
  induction a with
  | nil => simp [val]
  | cons x a ih =>
    simp only [List.cons_append, val, ih, List.length_cons, Nat.pow_succ]
    rw [Nat.mul_add, Nat.add_assoc]
    congr 2
    rw [← Nat.mul_assoc, Nat.mul_comm (65536 ^ a.length)]
theorem val_take_succ {b : List Nat} {k x : Nat} (h : b[k]? = some x) : val (b.take (k + 1)) = val (b.take k) + x * 65536 ^ k := by
  have hk : k < b.length := (List.getElem?_eq_some_iff.1 h).1
  rw [List.take_succ_eq_append_getElem hk, val_append]
  rw [List.getElem?_eq_getElem hk] at h
  injection h with h
  have e : (b.take k).length = k := by simp; omega
  rw [e, h]
  simp only [val, Nat.mul_zero, Nat.add_zero]
  rw [Nat.mul_comm]
theorem val_split (b : List Nat) (k : Nat) (hk : k ≤ b.length) : val b = val (b.take k) + 65536 ^ k * val (b.drop k) := by
  have := val_append (b.take k) (b.drop k)
  rw [List.take_append_drop] at this
  have e : (b.take k).length = k := by simp; omega
  rw [e] at this
  exact this
theorem val_set {z : List Nat} {j x : Nat} (h : z[j]? = some x) (y : Nat) : val (z.set j y) + x * 65536 ^ j = val z + y * 65536 ^ j := by
  induction z generalizing j with
  | nil => simp at h
  | cons w z ih =>
    cases j with
    | zero =>
      simp at h
      subst h
      simp only [List.set_cons_zero, val, Nat.pow_zero, Nat.mul_one]
      omega
    | succ j =>
      have := ih (j := j) (by simpa using h)
      simp only [List.set_cons_succ, val, Nat.pow_succ]
      have e1 : x * (65536 ^ j * 65536) = 65536 * (x * 65536 ^ j) := by rw [Nat.mul_comm (65536 ^ j), ← Nat.mul_assoc, Nat.mul_comm x, Nat.mul_assoc]
      have e2 : y * (65536 ^ j * 65536) = 65536 * (y * 65536 ^ j) := by rw [Nat.mul_comm (65536 ^ j), ← Nat.mul_assoc, Nat.mul_comm y, Nat.mul_assoc]
      omega
/-- Twelve parts. -/
structure Lim (z : List Nat) : Prop where
  len : z.length = 12
  lt : ∀ x ∈ z, x < 65536
theorem val_lt (z : List Nat) (h : ∀ x ∈ z, x < 65536) : val z < 65536 ^ z.length := by
  induction z with
  | nil => simp [val]
  | cons x z ih =>
    have h1 := ih fun y hy => h y (List.mem_cons_of_mem _ hy)
    have h2 := h x (List.mem_cons_self ..)
    simp only [val, List.length_cons, Nat.pow_succ]
    omega
theorem Lim.set {z : List Nat} (h : Lim z) (j : Nat) {x : Nat} (hx : x < 65536) : Lim (z.set j x) :=
  ⟨by simp [h.len], fun y hy => by
    rcases List.mem_or_eq_of_mem_set hy with h1 | rfl
    · exact h.lt y h1
    · exact hx⟩
theorem Lim.at_ {z : List Nat} (h : Lim z) {j : Nat} (hj : j < 12) : ∃ x, z[j]? = some x ∧ x < 65536 := by
  have : j < z.length := by rw [h.len]; exact hj
  exact ⟨z[j], List.getElem?_eq_getElem this, h.lt _ (List.getElem_mem _)⟩
def zero12 : List Nat := [0, 0, 0, 0, 0, 0, 0, 0, 0, 0, 0, 0]
theorem zero12_lim : Lim zero12 := ⟨rfl, by decide⟩
theorem zero12_val : val zero12 = 0 := rfl

/-- The inner loop's state: k parts of b times part i of a. -/
structure Inn (z0 b : List Nat) (i ai k : Nat) (z : List Nat) (over : Nat) : Prop where
  lim : Lim z
  ov : over < 65536
  eq : val z + over * 65536 ^ (i + k) = val z0 + ai * val (b.take k) * 65536 ^ i
theorem Inn.start {z0 b : List Nat} {i ai : Nat} (h : Lim z0) : Inn z0 b i ai 0 z0 0 := ⟨h, by decide, by simp [val]⟩
theorem mul_lt {a b : Nat} (ha : a < 65536) (hb : b < 65536) : a * b ≤ 4294836225 := by
  have : a * b ≤ 65535 * 65535 := Nat.mul_le_mul (by omega) (by omega)
  omega
theorem Inn.step {z0 b z : List Nat} {i ai k over x bk : Nat} (h : Inn z0 b i ai k z over) (hai : ai < 65536) (hx : z[i + k]? = some x) (hb : b[k]? = some bk) (hbk : bk < 65536) (hx1 : x < 65536) :
    Inn z0 b i ai (k + 1) (z.set (i + k) ((over + x + ai * bk) % 65536)) ((over + x + ai * bk) / 65536) := by
  have hm := mul_lt hai hbk
  have ho := h.ov
  refine ⟨h.lim.set _ (Nat.mod_lt _ (by decide)), by omega, ?_⟩
  have h1 := val_set hx ((over + x + ai * bk) % 65536)
  have h2 := h.eq
  rw [val_take_succ hb]
  obtain ⟨t, ht⟩ : ∃ t, over + x + ai * bk = t := ⟨_, rfl⟩
  rw [ht] at h1 ⊢
  have h3 : t % 65536 * 65536 ^ (i + k) + t / 65536 * 65536 ^ (i + (k + 1)) = t * 65536 ^ (i + k) := by
    rw [← Nat.add_assoc, Nat.pow_succ, ← Nat.mul_assoc, Nat.mul_right_comm, ← Nat.add_mul]
    congr 1
    omega
  have h4 : t * 65536 ^ (i + k) = over * 65536 ^ (i + k) + x * 65536 ^ (i + k) + ai * bk * 65536 ^ (i + k) := by rw [← ht, Nat.add_mul, Nat.add_mul]
  have h5 : ai * (val (b.take k) + bk * 65536 ^ k) * 65536 ^ i = ai * val (b.take k) * 65536 ^ i + ai * bk * 65536 ^ (i + k) := by
    rw [Nat.mul_add, Nat.add_mul, Nat.pow_add]
    congr 1
    rw [← Nat.mul_assoc, Nat.mul_assoc, Nat.mul_comm (65536 ^ k)]
  omega
/-- The outer loop's state. -/
structure Out (a b : List Nat) (i : Nat) (z : List Nat) : Prop where
  lim : Lim z
  eq : ∃ q, val z + q * 65536 ^ 12 = val (a.take i) * val b
theorem Out.start (a b : List Nat) : Out a b 0 zero12 := ⟨zero12_lim, 0, by simp [val, zero12_val]⟩
theorem Out.step {a b z0 z : List Nat} {i ai over : Nat} (h : Out a b i z0) (hi : i < 12) (ha : a[i]? = some ai) (hb : b.length = 12) (hin : Inn z0 b i ai (12 - i) z over) : Out a b (i + 1) z := by
  obtain ⟨q, hq⟩ := h.eq
  refine ⟨hin.lim, over + q + ai * val (b.drop (12 - i)), ?_⟩
  rw [val_take_succ ha]
  have h1 := hin.eq
  have h2 := val_split b (12 - i) (by omega)
  rw [show i + (12 - i) = 12 by omega] at h1
  have h3 : ai * 65536 ^ i * val b = ai * val (b.take (12 - i)) * 65536 ^ i + ai * val (b.drop (12 - i)) * 65536 ^ 12 := by
    rw [h2, Nat.mul_add]
    congr 1
    · rw [Nat.mul_right_comm]
    · have e : 65536 ^ 12 = 65536 ^ i * 65536 ^ (12 - i) := by rw [← Nat.pow_add, show i + (12 - i) = 12 by omega]
      rw [e, ← Nat.mul_assoc, Nat.mul_assoc ai, Nat.mul_right_comm]
  have h4 : (val (a.take i) + ai * 65536 ^ i) * val b = val (a.take i) * val b + ai * 65536 ^ i * val b := Nat.add_mul ..
  rw [h4, h3, Nat.add_mul, Nat.add_mul]
  clear h2 h3 h4
  generalize 65536 ^ 12 = M at h1 hq ⊢
  omega
theorem Out.done {a b z : List Nat} (h : Out a b 12 z) (ha : a.length = 12) (hv : val a * val b < 65536 ^ 12) : val z = val a * val b := by
  obtain ⟨q, hq⟩ := h.eq
  rw [List.take_of_length_le (by omega)] at hq
  rcases Nat.eq_zero_or_pos q with rfl | h1
  · omega
  · have : 1 * 65536 ^ 12 ≤ q * 65536 ^ 12 := Nat.mul_le_mul_right _ h1
    omega
/-- A number's parts. -/
def partsL (y : Nat) : List Nat := [y % 65536, y / 65536 % 65536, y / 65536 / 65536 % 65536, y / 65536 / 65536 / 65536 % 65536, 0, 0, 0, 0, 0, 0, 0, 0]
theorem partsL_lim (y : Nat) : Lim (partsL y) := ⟨rfl, by
  intro x hx
  simp only [partsL, List.mem_cons, List.not_mem_nil, or_false] at hx
  omega⟩
theorem partsL_val (y : Nat) (h : y < 2 ^ 64) : val (partsL y) = y := by
  simp only [partsL, val]
  omega
/-- Which is less, from the top. -/
theorem cmp_lt {z t : List Nat} (hz : Lim z) (ht : Lim t) {i x y : Nat} (hi : i < 12) (he : z.drop (i + 1) = t.drop (i + 1)) (hx : z[i]? = some x) (hy : t[i]? = some y) (hlt : x < y) : val z < val t := by
  have h1 := val_split z (i + 1) (by rw [hz.len]; omega)
  have h2 := val_split t (i + 1) (by rw [ht.len]; omega)
  rw [val_take_succ hx] at h1
  rw [val_take_succ hy] at h2
  rw [he] at h1
  have h3 : val (z.take i) < 65536 ^ i := by
    have := val_lt (z.take i) fun x hx => hz.lt x (List.mem_of_mem_take hx)
    have e : (z.take i).length = i := by simp [hz.len]; omega
    rw [e] at this
    exact this
  have h4 : (x + 1) * 65536 ^ i ≤ y * 65536 ^ i := Nat.mul_le_mul_right _ hlt
  rw [Nat.add_mul] at h4
  omega
theorem drop_eq {z t : List Nat} {i x : Nat} (hx : z[i]? = some x) (hy : t[i]? = some x) (he : z.drop (i + 1) = t.drop (i + 1)) : z.drop i = t.drop i := by
  have h1 : i < z.length := (List.getElem?_eq_some_iff.1 hx).1
  have h2 : i < t.length := (List.getElem?_eq_some_iff.1 hy).1
  rw [List.drop_eq_getElem_cons h1, List.drop_eq_getElem_cons h2, he]
  congr 1
  rw [List.getElem?_eq_getElem h1] at hx
  rw [List.getElem?_eq_getElem h2] at hy
  injection hx with hx
  injection hy with hy
  rw [hx, hy]
/-- The n-th root of p, k bits of it. -/
def smallB (y n p : Nat) : Bool := decide (y ^ n ≤ p * 65536 ^ (2 * n))
def rootK (p n : Nat) : Nat → Nat
  | 0 => 0
  | k + 1 => if smallB (rootK p n k + 2 ^ (35 - k)) n p then rootK p n k + 2 ^ (35 - k) else rootK p n k
theorem rootK_le (p n : Nat) : ∀ k, k ≤ 36 → rootK p n k + 2 ^ (36 - k) ≤ 2 ^ 36
  | 0, _ => by simp [rootK]
  | k + 1, h => by
    have h1 := rootK_le p n k (by omega)
    have e : 2 ^ (36 - k) = 2 ^ (35 - k) + 2 ^ (35 - k) := by rw [show 36 - k = (35 - k) + 1 by omega, Nat.pow_succ]; omega
    rw [e] at h1
    rw [show 36 - (k + 1) = 35 - k by omega]
    unfold rootK
    generalize 2 ^ (35 - k) = c at h1 ⊢
    split <;> omega
def rootW (p n : Nat) : Wd := BitVec.ofNat 32 (rootK p n 36)
/-- The first 64 primes. -/
def pri64 : List Nat := [2, 3, 5, 7, 11, 13, 17, 19, 23, 29, 31, 37, 41, 43, 47, 53, 59, 61, 67, 71, 73, 79, 83, 89, 97, 101, 103, 107, 109, 113, 127, 131, 137, 139, 149, 151, 157, 163, 167, 173, 179, 181, 191, 193, 197, 199, 211, 223, 227, 229, 233, 239, 241, 251, 257, 263, 269, 271, 277, 281, 283, 293, 307, 311]
theorem pri64_len : pri64.length = 64 := rfl
end Go.Proofs.Ytnbemfceoianiaa

/- Contracts of the document's digest: parts, times. -/
namespace Go.Proofs.Ytnbemfceoianiaa
set_option linter.unusedVariables false
open Go.RowKit

def Us (l : List Nat) : Array Value := (l.map fun x : Nat => Value.int .u64 (x : Int)).toArray
theorem Us_get {l : List Nat} {j x : Nat} (h : l[j]? = some x) : (Us l)[j]? = some (.int .u64 (x : Int)) := by simp [Us, h]
theorem Us_set (l : List Nat) (j x : Nat) : (Us l).setIfInBounds j (.int .u64 (x : Int)) = Us (l.set j x) := by simp [Us, List.map_set]
theorem Us_one (l : List Nat) : (Us l).all (·.oneCell') = true := by
  rw [Array.all_eq_true_iff_forall_mem]
  intro v hv
  simp only [Us, List.mem_toArray, List.mem_map] at hv
  obtain ⟨x, _, rfl⟩ := hv
  rfl
theorem Us_size (l : List Nat) : (Us l).size = l.length := by simp [Us]
abbrev Z12 : Array Value := #[.int .u64 0, .int .u64 0, .int .u64 0, .int .u64 0, .int .u64 0, .int .u64 0, .int .u64 0, .int .u64 0, .int .u64 0, .int .u64 0, .int .u64 0, .int .u64 0]
theorem Z12_eq : Us zero12 = Z12 := rfl
theorem info12 : (Try.prog.info? 122).map (·.size) = some 12 := by kernel_rfl

def zP (y k : Nat) : List Nat := (partsL y).take k ++ List.replicate (12 - k) 0
def yD (y : Nat) : Nat → Nat
  | 0 => y
  | k + 1 => yD y k / 65536
theorem zP_set (y k : Nat) (h : k < 4) : (zP y k).set k (yD y k % 65536) = zP y (k + 1) := by
  have h4 : k = 0 ∨ k = 1 ∨ k = 2 ∨ k = 3 := by omega
  rcases h4 with rfl | rfl | rfl | rfl <;> rfl
theorem zP_4 (y : Nat) : zP y 4 = partsL y := rfl
theorem zP_get (y k : Nat) (h : k < 4) : (zP y k)[k]? = some 0 := by
  have h4 : k = 0 ∨ k = 1 ∨ k = 2 ∨ k = 3 := by omega
  rcases h4 with rfl | rfl | rfl | rfl <;> rfl
theorem yD_le (y k : Nat) : yD y k ≤ y := by
  induction k with
  | zero => exact Nat.le_refl _
  | succ k ih =>
    show yD y k / 65536 ≤ y
    have := Nat.div_le_self (yD y k) 65536
    omega
structure PaR (w wr : World) (z : List Nat) : Prop where
  m : Mst w wr [(w.heap.size + 1, 122, Us z), (w.heap.size, 122, Z12)] []
set_option maxRecDepth 100000 in
set_option maxHeartbeats 400000 in
theorem parts_any (y : Nat) (hy : y < 2 ^ 64) (w : World) :
    Calls Try.prog 69 #[.int .u64 (y : Int)] w fun e w' => e = .returned (.agg (Us (partsL y))) ∧ Below w.heap.size w w' := by
  have m0 := ((Mst.start w).new 122 Z12).new 122 Z12
  rw [show (w.alloc (.cells Z12 122)).heap.size = w.heap.size + 1 by simp] at m0
  have T0 := Lib.hid (show PaR w ((w.alloc (.cells Z12 122)).alloc (.cells Z12 122)) (zP y 0) from ⟨m0⟩)
  have HY := Lib.hid hy
  clear m0 hy
  go_enter Try.func69, Try.ntmps69
  go_wp2_with fail
  go_loopg [4, 0] 4 (fun gk s4 s0 wr => ∃ k : Nat, k + gk = 4 ∧ s4 = .int .i64 k ∧ s0 = .int .u64 (yD y k : Nat) ∧ PaR w wr (zP y k))
  case atStart => exact ⟨0, by omega, rfl, rfl, T0.out⟩
  case round =>
    obtain ⟨k, hk, rfl, rfl, ⟨hm⟩⟩ := hrel
    by_cases hlt : k < 4
    · have hyb : (yD y k : Int) ≤ 18446744073709551615 := by have := yD_le y k; have := HY.out; omega
      have hy0 : (0 : Int) ≤ (yD y k : Int) := by omega
      have c3 := ((hm.blk []).cell k).trans (Us_get (zP_get y k hlt))
      have f3 := (hm.blk []).fr k
      have HZ := Lib.hid (zP_set y k hlt)
      have HS := Lib.hid (show yD y (k + 1) = yD y k / 65536 from rfl)
      obtain ⟨Y, hY⟩ : ∃ Y, yD y k = Y := ⟨_, rfl⟩
      rw [hY] at HZ HS hyb hy0 ⊢
      have HM := Lib.hid hm
      clear hm hY
      go_wp2
      go_roundg (4 - (k + 1))
      case measure => exact meas hk hlt
      case rel => exact ⟨k + 1, meas2 hlt, by go_num, by rw [HS.out]; go_num, ⟨by
        have a := HM.out.put [] k (.int .u64 ((Y % 65536 : Nat) : Int))
        rw [Us_set, HZ.out] at a
        exact a⟩⟩
    · obtain rfl : k = 4 := by omega
      rw [zP_4] at hm
      obtain ⟨K, hK⟩ : ∃ K, partsL y = K := ⟨_, rfl⟩
      have hKl : K.length = 12 := by rw [← hK]; rfl
      rw [hK] at hm
      have HK := Lib.hid hK
      have hb3 := hm.blk []
      have L1 := Lib.hid (show wr.rangeAt (w.heap.size + 1) 0 (Us K).toList from hb3.range fun j v hv => by
        rw [Nat.zero_add]
        simpa using hv)
      have I1 := Lib.hid (show (Try.prog.info? 122).map (·.size) = some (Us K).toList.length by rw [Array.length_toList, Us_size, hKl]; exact info12)
      have I2 := Lib.hid (show (Try.prog.info? 122).map (·.size) = some (Us K).size by rw [Us_size, hKl]; exact info12)
      have S2 := Lib.hid (show Z12.size = (Us K).size by rw [Us_size, hKl]; rfl)
      have O2 := Lib.hid (Us_one K)
      have B2 := Lib.hid (hm.blk [_])
      have HM := Lib.hid hm
      clear hm hb3 hlt hk hK hKl
      go_wp2_with (first | refine wpList_load_mid rfl _ _ rfl (w.heap.size + 1) 0 rfl (Us K).toList _ L1.out Try.underlying122 rfl I1.out ?_ | refine wpList_store_row rfl _ _ _ rfl w.heap.size (Us K) rfl rfl 122 _ B2.out I2.out S2.out O2.out ?_)
      refine bodyPost_ret (results_cell_row rfl _ _ w.heap.size 122 _ (0, 0) _ rfl (setRow_heap _ _ _ _ _ _ B2.out) Try.underlying122 rfl I2.out) rfl ⟨by rw [HK.out], ?_⟩
      exact (Mst.setRow (bl := []) [_] HM.out _).bel

structure TiR (w wr : World) (a b z : List Nat) : Prop where
  m : Mst w wr [(w.heap.size + 1 + 1 + 1, 122, Us z), (w.heap.size + 1 + 1, 122, Z12), (w.heap.size + 1, 122, Us b), (w.heap.size, 122, Us a)] []
set_option maxRecDepth 100000 in
set_option maxHeartbeats 1000000 in
theorem times_any (a b : List Nat) (ha : Lim a) (hb : Lim b) (w : World) :
    Calls Try.prog 70 #[.agg (Us a), .agg (Us b)] w fun e w' => ∃ z, e = .returned (.agg (Us z)) ∧ Out a b 12 z ∧ Below w.heap.size w w' := by
  obtain ⟨Ka, hKa⟩ : ∃ K, Us a = K := ⟨_, rfl⟩
  obtain ⟨Kb, hKb⟩ : ∃ K, Us b = K := ⟨_, rfl⟩
  have m0 := ((((Mst.start w).new 122 Ka).new 122 Kb).new 122 Z12).new 122 Z12
  rw [show (w.alloc (.cells Ka 122)).heap.size = w.heap.size + 1 by simp, show ((w.alloc (.cells Ka 122)).alloc (.cells Kb 122)).heap.size = w.heap.size + 1 + 1 by simp, show (((w.alloc (.cells Ka 122)).alloc (.cells Kb 122)).alloc (.cells Z12 122)).heap.size = w.heap.size + 1 + 1 + 1 by simp] at m0
  rw [hKa, hKb]
  have T0 := Lib.hid (show TiR w _ a b zero12 from ⟨by rw [hKa, hKb]; exact m0⟩)
  have SA := Lib.hid (show Ka.size = 12 by rw [← hKa, Us_size, ha.len])
  have SB := Lib.hid (show Kb.size = 12 by rw [← hKb, Us_size, hb.len])
  have HA := Lib.hid ha
  have HB := Lib.hid hb
  have HKa := Lib.hid hKa
  have HKb := Lib.hid hKb
  clear m0 hKa hKb ha hb
  go_enter Try.func70, Try.ntmps70
  go_wp2_with fail
  go_loopg [6] 12 (fun gk s6 wr => ∃ i : Nat, ∃ z : List Nat, i + gk = 12 ∧ s6 = .int .i64 i ∧ TiR w wr a b z ∧ Out a b i z)
  case atStart => exact ⟨0, zero12, by omega, rfl, T0.out, Out.start a b⟩
  case round =>
    obtain ⟨i, z, hi, rfl, hm, hout⟩ := hrel
    by_cases hlt : i < 12
    · obtain ⟨ai, hai, hai2⟩ := HA.out.at_ hlt
      have T1 := Lib.hid hm
      have HO := Lib.hid hout
      have HAI := Lib.hid hai
      obtain ⟨wo, hwo⟩ : ∃ wo : World, wo = wr := ⟨_, rfl⟩
      have i0 : (0 : Int) ≤ i := by omega
      clear hm hout hai hwo wo
      go_wp2_with fail
      go_loopg [8, 7] (12 - i) (fun gk s8 s7 wr => ∃ k over : Nat, ∃ z' : List Nat, k + gk = 12 - i ∧ s8 = .int .i64 k ∧ s7 = .int .u64 over ∧ TiR w wr a b z' ∧ Inn z b i ai k z' over)
      case atStart => exact ⟨0, 0, z, by omega, rfl, rfl, T1.out, Inn.start HO.out.lim⟩
      case round =>
        obtain ⟨k, over, z', hk, rfl, rfl, ⟨hm⟩, hin⟩ := hrel
        by_cases hlk : k < 12 - i
        · obtain ⟨bk, hbk, hbk2⟩ := HB.out.at_ (show k < 12 by omega)
          obtain ⟨x, hx, hx2⟩ := hin.lim.at_ (show i + k < 12 by omega)
          have c5 := ((hm.blk []).cell (i + k)).trans (Us_get hx)
          have f5 := (hm.blk []).fr (i + k)
          have c3 := ((hm.blk [_, _]).cell k).trans (Us_get hbk)
          have c2 := ((hm.blk [_, _, _]).cell i).trans (Us_get HAI.out)
          have hov := hin.ov
          have hml := mul_lt hai2 hbk2
          have HI := Lib.hid (hin.step hai2 hx hbk hbk2 hx2)
          obtain ⟨P, hP⟩ : ∃ P, ai * bk = P := ⟨_, rfl⟩
          rw [hP] at hml HI
          have e1 : IntKind.u64.wrap ((ai : Int) * (bk : Int)) = (P : Int) := by
            rw [← Int.natCast_mul, hP]
            simp [IntKind.wrap, IntKind.signed, IntKind.bits]
            omega
          have HM := Lib.hid hm
          clear hm hin hx hbk hP
          have k0 : (0 : Int) ≤ k := by omega
          have v1 : IntKind.i64.wrap ((i : Int) + k) = (i : Int) + k := IntWalk.i64_in _ (by omega)
          have v2 : (0 : Int) ≤ (i : Int) + k := by omega
          have v3 : ((i : Int) + k).toNat = i + k := by omega
          have v4 : (i : Int) + k < 12 := by omega
          have v5 : IntKind.u64.wrap ((over : Int) + x) = (over : Int) + x := IntWalk.u64_in _ (by omega)
          have v6 : IntKind.u64.wrap ((over : Int) + x + P) = (over : Int) + x + P := IntWalk.u64_in _ (by omega)
          have v7 : (0 : Int) ≤ (over : Int) + x + P := by omega
          have v8 : (over : Int) + x + P ≤ 4294967295 := by omega
          go_wp2
          go_quiet (fail)
          clear v5 v6 e1
          go_wp2
          clear v1 v2 v3 v4
          go_roundg (12 - i - (k + 1))
          case measure => omega
          case rel => exact ⟨k + 1, (over + x + P) / 65536, z'.set (i + k) ((over + x + P) % 65536), by omega, by go_num, by go_num, ⟨by
            have a1 := (HM.out.drewN nq).put [] (i + k) (.int .u64 (((over + x + P) % 65536 : Nat) : Int))
            rw [Us_set] at a1
            exact a1⟩, HI.out⟩
        · obtain rfl : k = 12 - i := by omega
          have HM := Lib.hid hm
          have HO2 := Lib.hid (HO.out.step hlt HAI.out HB.out.len hin)
          clear hm hin
          have k0 : (12 : Int) ≤ (i : Int) + ((12 - i : Nat) : Int) := by omega
          clear hlk
          go_wp2
          go_roundg (12 - (i + 1))
          case measure => exact meas hi hlt
          case rel => exact ⟨i + 1, z', meas2 hlt, by go_num, ⟨HM.out⟩, HO2.out⟩
    · obtain rfl : i = 12 := by omega
      have hzl : (Us z).size = 12 := by rw [Us_size, hout.lim.len]
      have hb3 := hm.m.blk []
      have L1 := Lib.hid (show wr.rangeAt (w.heap.size + 1 + 1 + 1) 0 (Us z).toList from hb3.range fun j v hv => by
        rw [Nat.zero_add]
        simpa using hv)
      have I1 := Lib.hid (show (Try.prog.info? 122).map (·.size) = some (Us z).toList.length by rw [Array.length_toList, hzl]; exact info12)
      have I2 := Lib.hid (show (Try.prog.info? 122).map (·.size) = some (Us z).size by rw [hzl]; exact info12)
      have S2 := Lib.hid (show Z12.size = (Us z).size by rw [hzl]; rfl)
      have O2 := Lib.hid (Us_one z)
      have B2 := Lib.hid (hm.m.blk [_])
      have HM := Lib.hid hm.m
      have HO := Lib.hid hout
      clear hm hb3 hlt hi hzl hout
      go_wp2_with (first | refine wpList_load_mid rfl _ _ rfl (w.heap.size + 1 + 1 + 1) 0 rfl (Us z).toList _ L1.out Try.underlying122 rfl I1.out ?_ | refine wpList_store_row rfl _ _ _ rfl (w.heap.size + 1 + 1) (Us z) rfl rfl 122 _ B2.out I2.out S2.out O2.out ?_)
      refine bodyPost_ret (results_cell_row rfl _ _ (w.heap.size + 1 + 1) 122 _ (0, 0) _ rfl (setRow_heap _ _ _ _ _ _ B2.out) Try.underlying122 rfl I2.out) rfl ⟨z, rfl, HO.out, ?_⟩
      exact (Mst.setRow (bl := []) [_] HM.out _).bel
end Go.Proofs.Ytnbemfceoianiaa

/- Contracts of the document's digest: small, root. -/
namespace Go.Proofs.Ytnbemfceoianiaa
set_option linter.unusedVariables false
open Go.RowKit

section
variable {P : Program} {ops : Array Oper} {Q : Exit → Act → World → Prop} {a : Act} {w : World} {K : Act → World → Prop} {E : Prop}
/-- A whole row is loaded, in a region that draws its order. -/
theorem step_load_mid {op : Oper} (hgd : op.guard = none) (ty : TypeId) (x : Operand) (ho : op.op = .load ty x)
    (b o : Nat) (hx : a.eval x = .pointer (some ⟨b, o, none⟩)) (cs : List Value) (d : TypeDesc) (hc : w.rangeAt b o cs)
    (hu : P.underlying ty = some d) (hd : d.isRow = true) (hi : (P.info? ty).map (·.size) = some cs.length)
    (h : K (a.put op.dst (.agg cs.toArray)) w) : if Region.wanted op (yielded ops a.tmps) = true then Oper.wp P op a w K Q else E := by
  have hw : Region.wanted op (yielded ops a.tmps) = true := by simp [Region.wanted, hgd]
  rw [if_pos hw]
  exact wp_load_mid ty x ho b o hx cs d hc hu hd hi h
theorem step_store_row {o : Oper} (hgd : o.guard = none) (ty : TypeId) (x y : Operand) (ho : o.op = .store ty x y)
    (g : Nat) (cells : Array Value) (hx : a.eval x = .pointer (some ⟨g, 0, none⟩)) (hy : a.eval y = .agg cells)
    (t : TypeId) (old : Array Value) (hg : w.heap[g]? = some (.cells old t (0, 0))) (hi : (P.info? ty).map (·.size) = some cells.size)
    (hold : old.size = cells.size) (h1 : cells.all (·.oneCell') = true)
    (h : K (a.put o.dst undef) (w.setRow g cells)) : if Region.wanted o (yielded ops a.tmps) = true then Oper.wp P o a w K Q else E := by
  have hw : Region.wanted o (yielded ops a.tmps) = true := by simp [Region.wanted, hgd]
  rw [if_pos hw]
  exact wp_store_row ty x y ho g cells hx hy t old hg hi hold h1 h
end

theorem Us_info (z : List Nat) (hz : Lim z) : (Try.prog.info? 122).map (·.size) = some (Us z).size := by rw [Us_size, hz.len]; exact info12
theorem Us_infoL (z : List Nat) (hz : Lim z) : (Try.prog.info? 122).map (·.size) = some (Us z).toList.length := by rw [Array.length_toList]; exact Us_info z hz
theorem Us_same (z z' : List Nat) (hz : Lim z) (hz' : Lim z') : (Us z).size = (Us z').size := by rw [Us_size, Us_size, hz.len, hz'.len]
theorem Bk.rangeL {w : World} {g : Nat} {t : TypeId} {cs : Array Value} (h : Bk w g t cs) : w.rangeAt g 0 cs.toList := h.range fun j v hv => by
  rw [Nat.zero_add]
  simpa using hv
/-- The powers, by and by. -/
structure SmR (w wr : World) (B y i : Nat) (z : List Nat) : Prop where
  m : Mst w wr [(B, 122, Us z)] []
  lim : Lim z
  eq : val z = y ^ i
theorem pow_small {y i : Nat} (hy : y < 2 ^ 36) (hi : i ≤ 3) : y ^ i < 65536 ^ 12 := by
  have h1 : y ^ i ≤ (2 ^ 36) ^ i := Nat.pow_le_pow_left (by omega) _
  have h2 : (2 ^ 36) ^ i ≤ (2 ^ 36) ^ 3 := Nat.pow_le_pow_right (by decide) hi
  have h3 : (2 ^ 36) ^ 3 < 65536 ^ 12 := by decide
  omega
set_option maxRecDepth 100000 in
set_option maxHeartbeats 1000000 in
theorem small_any (y n p : Nat) (hy : y < 2 ^ 36) (hn : n = 2 ∨ n = 3) (hp : p < 65536) (w : World) :
    Calls Try.prog 51 #[.int .u64 (y : Int), .int .u64 (n : Int), .int .u64 (p : Int)] w fun e w' => e = .returned (.bool (smallB y n p)) ∧ Below w.heap.size w w' := by
  have HY := Lib.hid hy
  have HN := Lib.hid hn
  have HP := Lib.hid hp
  have hpa := Lib.hid (fun w => parts_any y (by omega) w)
  have HL := Lib.hid (partsL_lim y)
  obtain ⟨K1, hK1⟩ : ∃ K, Us (partsL y) = K := ⟨_, rfl⟩
  have hpa' := hpa.out
  rw [hK1] at hpa'
  have HPA := Lib.hid hpa'
  have HK1 := Lib.hid hK1
  have I1 := Lib.hid (show (Try.prog.info? 122).map (·.size) = some K1.size from hK1 ▸ Us_info _ HL.out)
  have S1 := Lib.hid (show Z12.size = K1.size from hK1 ▸ Us_same zero12 _ zero12_lim HL.out)
  have O1 := Lib.hid (show K1.all (·.oneCell') = true from hK1 ▸ Us_one _)
  have n0 : (2 : Int) ≤ n := by omega
  have n1 : (n : Int) ≤ 3 := by omega
  clear hpa hpa' hK1 hy hn hp
  go_enter Try.func51, Try.ntmps51
  go_wp2_with fail
  refine (HPA.out w).mono ?_
  rintro e w1 ⟨rfl, hb1⟩
  have m1 := ((Mst.start w).below hb1).new 122 Z12
  have B1 := Lib.hid (m1.blk [])
  have m2 := Mst.setRow (bl := []) [] m1 K1
  have T1 := Lib.hid (show SmR w _ w1.heap.size y 1 (partsL y) from ⟨by rw [HK1.out]; exact m2, HL.out, by rw [Nat.pow_one, partsL_val y (by have := HY.out; omega)]⟩)
  clear m1 m2
  go_upto_region 2 with (first | refine wpList_store_row rfl _ _ _ rfl w1.heap.size K1 rfl rfl 122 _ B1.out I1.out S1.out O1.out ?_)
  obtain ⟨B, hB⟩ : ∃ B, w1.heap.size = B := ⟨_, rfl⟩
  rw [hB] at T1 ⊢
  clear B1 hb1 hB
  go_wp2
  go_loopg [8] (n - 1) (fun gk s8 wr => ∃ i : Nat, ∃ z : List Nat, i + gk = n ∧ 1 ≤ i ∧ s8 = .int .u64 i ∧ SmR w wr B y i z)
  case atStart => exact ⟨1, _, by omega, Nat.le_refl _, rfl, T1.out⟩
  case round =>
    obtain ⟨i, z, hi, hi1, rfl, hm, hz, hv⟩ := hrel
    by_cases hlt : i < n
    · have L1 := Lib.hid ((hm.drew.blk []).rangeL)
      have HT := times_any z (partsL y) hz HL.out
      rw [HK1.out] at HT
      have HTT := Lib.hid HT
      have HI := Lib.hid (Us_infoL z hz)
      obtain ⟨Kz, hKz⟩ : ∃ K, Us z = K := ⟨_, rfl⟩
      have HM := Lib.hid hm
      have HZ := Lib.hid hz
      have HV := Lib.hid hv
      have E1 := Lib.hid (show (Us z).toList.toArray = Kz by simp [hKz])
      rw [hKz] at HTT L1 HI E1
      have HKz := Lib.hid hKz
      clear hm hz hv HT hKz
      go_wp2
      refine wp_region_any (by kernel_rfl) ?_
      try (change wpAny _ _ _ _ _ _ _ (World.drew _))
      refine wpAny_take (i := 1) (v := ?_) rfl (by kernel_rfl) (by kernel_rfl) (by kernel_rfl) (fun _ _ _ h => h) (Or.inl ⟨by rfl, ?_⟩) ?_
      rotate_left
      · intro w
        go_simp
        with_reducible rfl
      refine wpAny_ready (rs := [0, 2]) (by kernel_rfl) (by simp) ?_
      refine AllReady.cons rfl (fun K hK => ?_) (AllReady.cons rfl (fun K hK => ?_) AllReady.nil)
      · refine step_load_mid rfl _ _ rfl B 0 rfl Kz.toList _ L1.out Try.underlying122 rfl HI.out ?_
        refine hK _ _ ?_
        clear hK K
        refine wpAny_ready (rs := [2]) (by kernel_rfl) (by simp) ?_
        refine AllReady.cons rfl (fun K hK => ?_) AllReady.nil
        go_simp
        refine (HPA.out _).mono ?_
        rintro e w3 ⟨rfl, hb3⟩
        have M3 := Lib.hid (HM.out.drew.below hb3)
        clear hb3
        go_wp2_with fail
        refine wpAny_ready (rs := [3]) (by kernel_rfl) (by simp) ?_
        refine AllReady.cons rfl (fun K hK => ?_) AllReady.nil
        go_simp
        refine (HTT.out _).mono ?_
        rintro e w4 ⟨z', rfl, ho4, hb4⟩
        have M4 := Lib.hid (M3.out.below hb4)
        have HO4 := Lib.hid ho4
        clear hb4 ho4
        go_wp2_with fail
        refine wpAny_ready (rs := [4]) (by kernel_rfl) (by simp) ?_
        refine AllReady.cons rfl (fun K hK => ?_) AllReady.nil
        refine step_store_row rfl _ _ _ rfl B (Us z') rfl rfl 122 _ (M4.out.blk []) (Us_info _ HO4.out.lim) (Us_same _ _ HZ.out HO4.out.lim) (Us_one z') ?_
        refine hK _ _ ?_
        clear hK K
        refine wpAny_done (by kernel_rfl) ?_ _
        go_wp2
        go_roundg (n - (i + 1))
        case measure => omega
        case rel => exact ⟨i + 1, z', by omega, by omega, by go_num, ⟨Mst.setRow (bl := []) [] M4.out _, HO4.out.lim, by
          have h1 := pow_small HY.out (show i + 1 ≤ 3 by omega)
          have h2 := partsL_val y (by have := HY.out; omega)
          rw [HO4.out.done HZ.out.len (by rw [HV.out, h2, ← Nat.pow_succ]; exact h1), HV.out, h2, Nat.pow_succ]⟩⟩
      · go_simp
        refine (HPA.out _).mono ?_
        rintro e w3 ⟨rfl, hb3⟩
        have M3 := Lib.hid (HM.out.drew.below hb3)
        have L3 := (M3.out.blk []).rangeL
        rw [HKz.out] at L3
        have L3' := Lib.hid L3
        clear hb3 L3
        go_wp2_with fail
        refine wpAny_ready (rs := [0]) (by kernel_rfl) (by simp) ?_
        refine AllReady.cons rfl (fun K hK => ?_) AllReady.nil
        refine step_load_mid rfl _ _ rfl B 0 rfl Kz.toList _ L3'.out Try.underlying122 rfl HI.out ?_
        refine hK _ _ ?_
        clear hK K
        refine wpAny_ready (rs := [3]) (by kernel_rfl) (by simp) ?_
        refine AllReady.cons rfl (fun K hK => ?_) AllReady.nil
        go_simp
        refine (HTT.out _).mono ?_
        rintro e w4 ⟨z', rfl, ho4, hb4⟩
        have M4 := Lib.hid (M3.out.below hb4)
        have HO4 := Lib.hid ho4
        clear hb4 ho4
        go_wp2_with fail
        refine wpAny_ready (rs := [4]) (by kernel_rfl) (by simp) ?_
        refine AllReady.cons rfl (fun K hK => ?_) AllReady.nil
        refine step_store_row rfl _ _ _ rfl B (Us z') rfl rfl 122 _ (M4.out.blk []) (Us_info _ HO4.out.lim) (Us_same _ _ HZ.out HO4.out.lim) (Us_one z') ?_
        refine hK _ _ ?_
        clear hK K
        refine wpAny_done (by kernel_rfl) ?_ _
        go_wp2
        go_roundg (n - (i + 1))
        case measure => omega
        case rel => exact ⟨i + 1, z', by omega, by omega, by go_num, ⟨Mst.setRow (bl := []) [] M4.out _, HO4.out.lim, by
          have h1 := pow_small HY.out (show i + 1 ≤ 3 by omega)
          have h2 := partsL_val y (by have := HY.out; omega)
          rw [HO4.out.done HZ.out.len (by rw [HV.out, h2, ← Nat.pow_succ]; exact h1), HV.out, h2, Nat.pow_succ]⟩⟩
    · obtain rfl : i = n := by omega
      have i6 : (2 : Int) * i < 12 := by omega
      have i7 : (0 : Int) ≤ (2 : Int) * i := by omega
      have i8 : 2 * i < 12 := by omega
      have HM := Lib.hid hm
      have HZ := Lib.hid hz
      have HV := Lib.hid hv
      clear hm hz hv hlt hi
      obtain ⟨t, ht⟩ : ∃ t, zero12.set (2 * i) p = t := ⟨_, rfl⟩
      have htl : Lim t := ht ▸ zero12_lim.set _ HP.out
      have htv : val t = p * 65536 ^ (2 * i) := by
        have h0 : zero12[2 * i]? = some 0 := by
          rcases HN.out with rfl | rfl <;> rfl
        have := val_set h0 p
        rw [ht, zero12_val] at this
        omega
      have e0 : ([Value.int .u64 0, Value.int .u64 0, Value.int .u64 0, Value.int .u64 0, Value.int .u64 0, Value.int .u64 0, Value.int .u64 0, Value.int .u64 0, Value.int .u64 0, Value.int .u64 0, Value.int .u64 0, Value.int .u64 0].set (2 * i) (.int .u64 (p : Int))).toArray = Us t := by
        rw [← ht]
        unfold Us
        rw [List.map_set]
        rfl
      have m1 : ∀ Z, Z = Us t → Mst w (wr.alloc (.cells Z 122)) [(wr.heap.size, 122, Us t), (B, 122, Us z)] [] := by
        rintro _ rfl
        exact HM.out.new _ _
      have M1 := Lib.hid (m1 _ e0)
      have HTL := Lib.hid htl
      have HTV := Lib.hid htv
      have HBW := Lib.hid (show B < wr.heap.size from (HM.out.blk []).lt)
      clear m1 e0 htl htv ht
      go_wp2
      go_loopg [10] 12 (fun gk s10 wq => ∃ k : Nat, k + gk = 12 ∧ s10 = .int .i64 (11 - (k : Int)) ∧ Mst w wq [(wr.heap.size, 122, Us t), (B, 122, Us z)] [] ∧ z.drop (12 - k) = t.drop (12 - k))
      case atStart => exact ⟨0, by omega, rfl, M1.out, by rw [List.drop_of_length_le (by rw [HZ.out.len]; omega), List.drop_of_length_le (by rw [HTL.out.len]; omega)]⟩
      case round =>
        obtain ⟨k, hk, rfl, hm, hd⟩ := hrel
        by_cases hlt : k < 12
        · obtain ⟨x, hx, hx2⟩ := HZ.out.at_ (show 11 - k < 12 by omega)
          obtain ⟨u, hu, hu2⟩ := HTL.out.at_ (show 11 - k < 12 by omega)
          have cz := ((hm.blk [_]).cell (11 - k)).trans (Us_get hx)
          have ct := ((hm.blk []).cell (11 - k)).trans (Us_get hu)
          rw [show 12 - k = (11 - k) + 1 by omega] at hd
          have HM2 := Lib.hid hm
          have HX := Lib.hid hx
          have HU := Lib.hid hu
          have HD := Lib.hid hd
          have v1 : (0 : Int) ≤ 11 - (k : Int) := by omega
          have v2 : (11 : Int) - (k : Int) < 12 := by omega
          have v3 : ((11 : Int) - (k : Int)).toNat = 11 - k := by omega
          clear hm hd hx hu
          rcases Nat.lt_trichotomy x u with hxu | hxu | hxu
          · have hne : ((x : Int) != u) = true := by simp; omega
            have hlt2 : decide (x < u) = true := by simpa using hxu
            have hR := Lib.hid (show smallB y i p = true by
              have := cmp_lt HZ.out HTL.out (by omega) HD.out HX.out HU.out hxu
              rw [HV.out, HTV.out] at this
              exact decide_eq_true (by omega))
            clear hxu
            go_wp2
            go_quiet (fail)
            go_wp2
            go_quiet (fail)
            go_wp2
            go_ret
            exact ⟨by rw [hR.out]; rfl, ((HM2.out.drewN _).drewN _).bel⟩
          · subst hxu
            have hne : ((x : Int) != x) = false := by simp
            clear v1 v2 v3
            have v1 : (0 : Int) ≤ 11 - (k : Int) := by omega
            have v2 : (11 : Int) - (k : Int) < 12 := by omega
            have v3 : ((11 : Int) - (k : Int)).toNat = 11 - k := by omega
            have HE := Lib.hid (drop_eq HX.out HU.out HD.out)
            go_wp2
            go_quiet (fail)
            go_wp2
            clear v3 hne
            go_roundg (12 - (k + 1))
            case measure => exact meas hk hlt
            case rel => exact ⟨k + 1, meas2 hlt, by go_num, HM2.out.drewN _, by rw [show 12 - (k + 1) = 11 - k by omega]; exact HE.out⟩
          · have hne : ((x : Int) != u) = true := by simp; omega
            have hlt2 : decide (x < u) = false := by simpa using Nat.le_of_lt hxu
            have hR := Lib.hid (show smallB y i p = false by
              have := cmp_lt HTL.out HZ.out (by omega) HD.out.symm HU.out HX.out hxu
              rw [HV.out, HTV.out] at this
              exact decide_eq_false (by omega))
            clear hxu
            go_wp2
            go_quiet (fail)
            go_wp2
            go_quiet (fail)
            go_wp2
            go_ret
            exact ⟨by rw [hR.out]; rfl, ((HM2.out.drewN _).drewN _).bel⟩
        · obtain rfl : k = 12 := by omega
          have hR := Lib.hid (show smallB y i p = true by
            have e : z = t := hd
            have h1 := HV.out
            rw [e, HTV.out] at h1
            exact decide_eq_true (by omega))
          have HM2 := Lib.hid hm
          clear hm hd hlt hk
          go_wp2
          go_ret
          exact ⟨by rw [hR.out]; rfl, HM2.out.bel⟩
end Go.Proofs.Ytnbemfceoianiaa

/- The table of the document is that of the digest: roots of primes, reckoned. -/
namespace Go.Proofs.Ytnbemfceoianiaa
set_option linter.unusedVariables false
theorem kTab_roots : pri64.map (fun p => rootW p 3) = kTab := by kernel_rfl
theorem h0_roots : (pri64.take 8).map (fun p => rootW p 2) = h0.l := by kernel_rfl
/-- How many of the primes are below p; is p one of them? -/
def cntP (p : Nat) : Nat := (pri64.filter fun q => decide (q < p)).length
def prB (p : Nat) : Bool := pri64.contains p
def prK (p q : Nat) : Bool := (List.range (q - 2)).all fun i => p % (i + 2) != 0
theorem prK_succ (p q : Nat) (h : 2 ≤ q) : prK p (q + 1) = (prK p q && p % q != 0) := by
  unfold prK
  rw [show q + 1 - 2 = (q - 2) + 1 by omega, List.range_succ, List.all_append]
  simp [show q - 2 + 2 = q by omega]
theorem all_range {n : Nat} {f : Nat → Bool} (h : (List.range n).all f = true) {i : Nat} (hi : i < n) : f i = true := by
  rw [List.all_eq_true] at h
  exact h i (List.mem_range.2 hi)
theorem cnt_tab : ((List.range 312).all fun p => decide (cntP p < 64) && (if prB p then pri64[cntP p]? == some p && cntP (p + 1) == cntP p + 1 else cntP (p + 1) == cntP p)) = true := by kernel_rfl
theorem cnt_end : cntP 312 = 64 := by kernel_rfl
theorem prime_tab : ((List.range 312).all fun p => (List.range 19).all fun q => !(decide (2 ≤ p) && decide (2 ≤ q) && decide (p < q * q) && (q == 2 || decide ((q - 1) * (q - 1) ≤ p))) || (prK p q == prB p)) = true := by kernel_rfl
theorem cnt_lt {p : Nat} (h : p < 312) : cntP p < 64 := by
  have := all_range cnt_tab h
  simp only [Bool.and_eq_true, decide_eq_true_eq] at this
  exact this.1
theorem cnt_yes {p : Nat} (h : p < 312) (hp : prB p = true) : pri64[cntP p]? = some p ∧ cntP (p + 1) = cntP p + 1 := by
  have := all_range cnt_tab h
  rw [hp] at this
  simp only [if_true, Bool.and_eq_true, beq_iff_eq, decide_eq_true_eq] at this
  exact this.2
theorem cnt_no {p : Nat} (h : p < 312) (hp : prB p = false) : cntP (p + 1) = cntP p := by
  have := all_range cnt_tab h
  rw [hp] at this
  simp only [Bool.false_eq_true, if_false, Bool.and_eq_true, beq_iff_eq, decide_eq_true_eq] at this
  exact this.2
theorem prime_is {p q : Nat} (h : p < 312) (h2 : 2 ≤ p) (hq : 2 ≤ q) (hq2 : q ≤ 18) (h3 : p < q * q) (h4 : q = 2 ∨ (q - 1) * (q - 1) ≤ p) : prK p q = prB p := by
  have := all_range (all_range prime_tab h) (show q < 19 by omega)
  simp only [Bool.or_eq_true, Bool.not_eq_true', beq_iff_eq, Bool.and_eq_false_iff, decide_eq_false_iff_not, Bool.or_eq_false_iff] at this
  rcases this with ((h1 | h1) | h1) | h1
  · rcases h1 with h1 | h1
    · omega
    · omega
  · omega
  · rcases h4 with h4 | h4
    · simp [h4] at h1
    · exact absurd h4 h1.2
  · exact h1
/-- The table so far as n primes. -/
def ktL (n : Nat) : List Wd := (pri64.take n).map (fun p => rootW p 3) ++ List.replicate (64 - n) 0
def htL (n : Nat) : List Wd := (pri64.take (min n 8)).map (fun p => rootW p 2) ++ List.replicate (8 - min n 8) 0
theorem ktL_len (n : Nat) (h : n ≤ 64) : (ktL n).length = 64 := by simp [ktL, pri64_len]; omega
theorem htL_len (n : Nat) : (htL n).length = 8 := by simp [htL, pri64_len]; omega
theorem ktL_set {n p : Nat} (h : pri64[n]? = some p) : (ktL n).set n (rootW p 3) = ktL (n + 1) := by
  have hn : n < pri64.length := (List.getElem?_eq_some_iff.1 h).1
  have h64 := pri64_len
  have e : ((pri64.take n).map (fun p => rootW p 3)).length = n := by simp; omega
  unfold ktL
  rw [List.set_append_right _ _ (by omega), e, Nat.sub_self, show 64 - n = (64 - (n + 1)) + 1 by omega, List.replicate_succ, List.set_cons_zero, List.take_succ_eq_append_getElem hn, List.map_append, List.append_assoc]
  rw [List.getElem?_eq_getElem hn] at h
  injection h with h
  rw [h]
  rfl
theorem htL_set {n p : Nat} (h : pri64[n]? = some p) (h8 : n < 8) : (htL n).set n (rootW p 2) = htL (n + 1) := by
  have hn : n < pri64.length := (List.getElem?_eq_some_iff.1 h).1
  have h64 := pri64_len
  unfold htL
  rw [show min n 8 = n by omega, show min (n + 1) 8 = n + 1 by omega]
  have e : ((pri64.take n).map (fun p => rootW p 2)).length = n := by simp; omega
  rw [List.set_append_right _ _ (by omega), e, Nat.sub_self, show 8 - n = (8 - (n + 1)) + 1 by omega, List.replicate_succ, List.set_cons_zero, List.take_succ_eq_append_getElem hn, List.map_append, List.append_assoc]
  rw [List.getElem?_eq_getElem hn] at h
  injection h with h
  rw [h]
  rfl
theorem htL_big {n : Nat} (h8 : 8 ≤ n) : htL (n + 1) = htL n := by
  unfold htL
  rw [show min n 8 = 8 by omega, show min (n + 1) 8 = 8 by omega]
theorem tab_64 : ktL 64 ++ htL 64 = kTab ++ h0.l := by
  have e1 : ktL 64 = kTab := by
    unfold ktL
    rw [List.take_of_length_le (by decide), ← kTab_roots]
    simp
  have e2 : htL 64 = h0.l := by
    unfold htL
    rw [← h0_roots]
    simp
  rw [e1, e2]

end Go.Proofs.Ytnbemfceoianiaa

/- Contracts of the document's digest: root, Make. -/
namespace Go.Proofs.Ytnbemfceoianiaa
set_option linter.unusedVariables false
open Go.RowKit

theorem rootK_lt (p n k : Nat) (h : k ≤ 36) : rootK p n k < 2 ^ 36 := by
  have h1 := rootK_le p n k h
  have h2 : 0 < 2 ^ (36 - k) := Nat.pow_pos (by decide)
  omega
theorem root_step (p n k : Nat) (h : k < 36) : rootK p n k + 2 ^ (35 - k) < 2 ^ 36 := by
  have h1 := rootK_le p n k (by omega)
  have e : 2 ^ (36 - k) = 2 ^ (35 - k) + 2 ^ (35 - k) := by rw [show 36 - k = (35 - k) + 1 by omega, Nat.pow_succ]; omega
  have h2 : 0 < 2 ^ (35 - k) := Nat.pow_pos (by decide)
  omega
set_option maxRecDepth 100000 in
set_option maxHeartbeats 200000 in
theorem root_any (p n : Nat) (hn : n = 2 ∨ n = 3) (hp : p < 65536) (w : World) :
    Calls Try.prog 26 #[.int .u64 (p : Int), .int .u64 (n : Int)] w fun e w' => e = .returned (W (rootW p n)) ∧ Below w.heap.size w w' := by
  have HN := Lib.hid hn
  have HP := Lib.hid hp
  clear hn hp
  go_enter Try.func26, Try.ntmps26
  go_wp2
  go_loopg [6, 5] 36 (fun gk s6 s5 wr => ∃ k : Nat, k + gk = 36 ∧ s6 = .int .i64 (35 - (k : Int)) ∧ s5 = .int .u64 (rootK p n k : Nat) ∧ Below w.heap.size w wr)
  case atStart => exact ⟨0, by omega, rfl, rfl, Below.refl _ _⟩
  case round =>
    obtain ⟨k, hk, rfl, rfl, hb⟩ := hrel
    by_cases hlt : k < 36
    · have hst := root_step p n k hlt
      have hS : IntKind.u64.wrap (2 ^ (35 - k)) = ((2 ^ (35 - k) : Nat) : Int) := by
        have h3 : 2 ^ (35 - k) ≤ 2 ^ 35 := Nat.pow_le_pow_right (by decide) (by omega)
        have this : ((2 : Int) ^ (35 - k)) = ((2 ^ (35 - k) : Nat) : Int) := by simp
        rw [this]
        generalize 2 ^ (35 - k) = D at h3 ⊢
        have h4 : D ≤ 34359738368 := h3
        exact IntWalk.u64_in _ (by omega)
      have hE := Lib.hid (show rootK p n (k + 1) = if smallB (rootK p n k + 2 ^ (35 - k)) n p then rootK p n k + 2 ^ (35 - k) else rootK p n k from rfl)
      obtain ⟨X, hX⟩ : ∃ X, rootK p n k = X := ⟨_, rfl⟩
      obtain ⟨D, hD⟩ : ∃ D, 2 ^ (35 - k) = D := ⟨_, rfl⟩
      rw [hX, hD] at hst hE
      rw [hD] at hS
      rw [hX]
      have hs : ∀ w, Calls Try.prog 51 #[.int .u64 ((X : Int) + (D : Int)), .int .u64 (n : Int), .int .u64 (p : Int)] w fun e w' => e = .returned (.bool (smallB (X + D) n p)) ∧ Below w.heap.size w w' := by
        intro w
        have := small_any (X + D) n p hst HN.out HP.out w
        rw [Int.natCast_add] at this
        exact this
      have HS := Lib.hid hs
      clear hs
      have h0 : (0 : Int) ≤ X := by omega
      have h1 : (0 : Int) ≤ D := by omega
      have h2 : (X : Int) + D ≤ 68719476735 := by omega
      have HB := Lib.hid hb
      cases hB : smallB (X + D) n p with
      | true =>
        rw [hB] at HS hE
        clear hb hX hD hst hB
        go_wp2_with fail
        refine (HS.out _).mono ?_
        rintro e w1 ⟨rfl, hb1⟩
        have HB1 := Lib.hid (Bsz HB.out hb1)
        clear hb1
        go_wp2
        go_roundg (36 - (k + 1))
        case measure => exact meas hk hlt
        case rel => exact ⟨k + 1, meas2 hlt, by go_num, by rw [hE.out]; go_num, HB1.out⟩
      | false =>
        rw [hB] at HS hE
        clear hb hX hD hst hB
        go_wp2_with fail
        refine (HS.out _).mono ?_
        rintro e w1 ⟨rfl, hb1⟩
        have HB1 := Lib.hid (Bsz HB.out hb1)
        clear hb1
        go_wp2
        go_roundg (36 - (k + 1))
        case measure => exact meas hk hlt
        case rel => exact ⟨k + 1, meas2 hlt, by go_num, by rw [hE.out]; rfl, HB1.out⟩
    · obtain rfl : k = 36 := by omega
      have HB := Lib.hid hb
      have HR := Lib.hid (show rootW p n = BitVec.ofNat 32 (rootK p n 36) from rfl)
      have hlt2 := rootK_lt p n 36 (Nat.le_refl _)
      obtain ⟨X, hX⟩ : ∃ X, rootK p n 36 = X := ⟨_, rfl⟩
      rw [hX] at HR hlt2 ⊢
      have h0 : (0 : Int) ≤ X := by omega
      have h1 : (X : Int) ≤ 68719476735 := by omega
      clear hb hX hlt2 hlt hk
      go_wp2
      go_ret
      refine ⟨?_, HB.out⟩
      rw [HR.out]
      have e : (X : Int) % 4294967296 = ((BitVec.ofNat 32 X).toNat : Int) := by
        rw [BitVec.toNat_ofNat]
        omega
      show Ending.returned (.int .u32 ((X : Int) % 4294967296)) = _
      rw [e]
      rfl

abbrev Z72 : Array Value := #[.int .u32 0, .int .u32 0, .int .u32 0, .int .u32 0, .int .u32 0, .int .u32 0, .int .u32 0, .int .u32 0, .int .u32 0, .int .u32 0, .int .u32 0, .int .u32 0, .int .u32 0, .int .u32 0, .int .u32 0, .int .u32 0, .int .u32 0, .int .u32 0, .int .u32 0, .int .u32 0, .int .u32 0, .int .u32 0, .int .u32 0, .int .u32 0, .int .u32 0, .int .u32 0, .int .u32 0, .int .u32 0, .int .u32 0, .int .u32 0, .int .u32 0, .int .u32 0, .int .u32 0, .int .u32 0, .int .u32 0, .int .u32 0, .int .u32 0, .int .u32 0, .int .u32 0, .int .u32 0, .int .u32 0, .int .u32 0, .int .u32 0, .int .u32 0, .int .u32 0, .int .u32 0, .int .u32 0, .int .u32 0, .int .u32 0, .int .u32 0, .int .u32 0, .int .u32 0, .int .u32 0, .int .u32 0, .int .u32 0, .int .u32 0, .int .u32 0, .int .u32 0, .int .u32 0, .int .u32 0, .int .u32 0, .int .u32 0, .int .u32 0, .int .u32 0, .int .u32 0, .int .u32 0, .int .u32 0, .int .u32 0, .int .u32 0, .int .u32 0, .int .u32 0, .int .u32 0]
theorem tab_0 : Ws (ktL 0 ++ htL 0) = Z72 := rfl
theorem info_tab : (Try.prog.info? 45).map (·.size) = some Z72.size := by kernel_rfl
theorem Z72_one : Z72.all (·.oneCell') = true := by kernel_rfl
structure MkR (w wr : World) (n : Nat) : Prop where
  m : Mst w wr [(w.heap.size + 1, 45, Ws (ktL n ++ htL n)), (w.heap.size, 45, Z72)] []
set_option maxRecDepth 100000 in
set_option maxHeartbeats 1000000 in
theorem make_any (w : World) : Calls Try.prog 9 #[] w fun e w' => e = .returned (.agg (Ws (kTab ++ h0.l))) ∧ Below w.heap.size w w' := by
  have m0 := ((Mst.start w).new 45 Z72).new 45 Z72
  rw [show (w.alloc (.cells Z72 45)).heap.size = w.heap.size + 1 by simp] at m0
  have B0 := Lib.hid (m0.blk [])
  have m1 := Mst.setRow (bl := []) [] m0 Z72
  have T0 := Lib.hid (show MkR w (((w.alloc (.cells Z72 45)).alloc (.cells Z72 45)).setRow (w.heap.size + 1) Z72) 0 from ⟨by rw [tab_0]; exact m1⟩)
  have I0 := Lib.hid info_tab
  have O0 := Lib.hid Z72_one
  clear m0 m1
  go_enter Try.func9, Try.ntmps9
  go_wp2_with (first | refine wpList_store_row rfl _ _ _ rfl (w.heap.size + 1) Z72 rfl rfl 45 _ B0.out I0.out rfl O0.out ?_)
  go_loopg [2, 3] 310 (fun gk s2 s3 wr => ∃ p : Nat, p + gk = 312 ∧ 2 ≤ p ∧ s2 = .int .i64 (cntP p : Nat) ∧ s3 = .int .u64 p ∧ MkR w wr (cntP p))
  case atStart => exact ⟨2, by omega, by omega, rfl, rfl, T0.out⟩
  case round =>
    obtain ⟨p, hp, hp2, rfl, rfl, hm⟩ := hrel
    by_cases hlt : p < 312
    · have hc := cnt_lt hlt
      obtain ⟨n, hn⟩ : ∃ n, cntP p = n := ⟨_, rfl⟩
      rw [hn] at hc hm ⊢
      have hc1 : (n : Int) < 64 := by omega
      have T1 := Lib.hid hm
      have HNn := Lib.hid hn
      have p0 : (0 : Int) ≤ p := by omega
      have p1 : (p : Int) ≤ 311 := by omega
      clear hm hn
      go_wp2_with fail
      go_loopg [4, 5] 20 (fun gk s4 s5 wr => ∃ q : Nat, q + gk = 22 ∧ 2 ≤ q ∧ q ≤ 18 ∧ s4 = .bool (prK p q) ∧ s5 = .int .u64 q ∧ MkR w wr n ∧ (q = 2 ∨ (q - 1) * (q - 1) ≤ p))
      case atStart => exact ⟨2, by omega, by omega, by omega, rfl, rfl, T1.out, .inl rfl⟩
      case round =>
        obtain ⟨q, hq, hq2, hq3, rfl, rfl, hm, hqq⟩ := hrel
        have q0 : (0 : Int) ≤ q := by omega
        have q1 : (q : Int) ≤ 18 := by omega
        have hsq : q * q ≤ 18 * 18 := Nat.mul_le_mul hq3 hq3
        obtain ⟨S, hS⟩ : ∃ S, q * q = S := ⟨_, rfl⟩
        rw [hS] at hsq
        have hS' : IntKind.u64.wrap (S : Int) = (S : Int) := IntWalk.u64_in _ (by omega)
        have hS2 : ((q : Int) * (q : Int)) = (S : Int) := by rw [← Int.natCast_mul, hS]
        have HM := Lib.hid hm
        have HSS := Lib.hid hS
        by_cases hle : S ≤ p
        · have hSp : decide (S ≤ p) = true := by simpa using hle
          have hq17 : q ≤ 17 := by
            rcases Nat.lt_or_ge 17 q with h | h
            · have : 18 * 18 ≤ q * q := Nat.mul_le_mul h h
              omega
            · exact h
          have HK := Lib.hid (prK_succ p q hq2)
          have HL := Lib.hid (show (q + 1 - 1) * (q + 1 - 1) ≤ p by rw [Nat.add_sub_cancel, hS]; exact hle)
          obtain ⟨B, hB⟩ : ∃ B, prK p q = B := ⟨_, rfl⟩
          obtain ⟨C, hC⟩ : ∃ C, (p % q != 0) = C := ⟨_, rfl⟩
          rw [hB, hC] at HK
          rw [hB]
          have hC' : (((p : Int) % (q : Int)) != 0) = C := by
            rw [← hC, ← Int.natCast_emod]
            rw [Bool.eq_iff_iff]
            simp
            omega
          have q2 : (0 : Int) < q := by omega
          have q3 : ¬ ((q : Int) = 0) := by omega
          clear hm hS hC hB hle hsq
          cases B
          all_goals
            go_wp2
            go_roundg (22 - (q + 1))
            case measure => omega
            case rel => exact ⟨q + 1, by omega, by omega, by omega, by rw [HK.out]; rfl, by go_num, HM.out, .inr HL.out⟩
        · have hSp : decide (S ≤ p) = false := by simpa using hle
          have hpr := prime_is hlt hp2 hq2 hq3 (by omega) hqq
          obtain ⟨B, hB⟩ : ∃ B, prB p = B := ⟨_, rfl⟩
          rw [hpr, hB]
          cases B with
          | false =>
            have HC := Lib.hid (cnt_no hlt hB)
            have HMn := Lib.hid (show MkR w wr (cntP p) from HNn.out ▸ HM.out)
            clear hm hS hle hsq hpr hB hqq
            go_wp2
            go_roundg (312 - (p + 1))
            case measure => omega
            case rel => exact ⟨p + 1, by omega, by omega, by rw [HC.out, HNn.out], by go_num, by rw [HC.out]; exact HMn.out⟩
          | true =>
            obtain ⟨h1, h2⟩ := cnt_yes hlt hB
            have hp16 : p < 65536 := by omega
            have r3 := Lib.hid (fun w => root_any p 3 (.inr rfl) hp16 w)
            have r2 := Lib.hid (fun w => root_any p 2 (.inl rfl) hp16 w)
            rw [HNn.out] at h1 h2
            have H1 := Lib.hid h1
            have H2 := Lib.hid h2
            have ST := W_store (P := Try.prog)
            have SC := fun x => (Value.cells.eq_def (W x)).symm.trans (W_cells x)
            clear hm hS hle hsq hpr hB hqq h1 h2 hp16
            go_wp2_with fail
            refine (r3.out _).mono ?_
            rintro e w1 ⟨rfl, hb1⟩
            have m1 := HM.out.m.below hb1
            have kl := ktL_len n (by omega)
            have c1 : w1.cell? ⟨w.heap.size + 1, n, none⟩ = some (W ((ktL n ++ htL n).getD n 0)) := ((m1.blk []).cell n).trans (Ws_getD (by rw [List.length_append, kl, htL_len]; omega))
            have f1 := (m1.blk []).fr n
            have m2 := m1.put [] n (W (rootW p 3))
            rw [Ws_set, List.set_append_left _ _ (by rw [kl]; omega), ktL_set H1.out] at m2
            have M2 := Lib.hid m2
            clear m1 m2 hb1 kl
            by_cases h8 : n < 8
            · have h8' : (n : Int) < 8 := by omega
              go_wp2_with fail
              refine (r2.out _).mono ?_
              rintro e w2 ⟨rfl, hb2⟩
              have m3 := M2.out.below hb2
              have kl := ktL_len (n + 1) (by omega)
              have c2 : w2.cell? ⟨w.heap.size + 1, 64 + n, none⟩ = some (W ((ktL (n + 1) ++ htL n).getD (64 + n) 0)) := ((m3.blk []).cell (64 + n)).trans (Ws_getD (by rw [List.length_append, kl, htL_len]; omega))
              have f2 := (m3.blk []).fr (64 + n)
              have m4 := m3.put [] (64 + n) (W (rootW p 2))
              rw [Ws_set, List.set_append_right _ _ (by rw [kl]; omega), kl, Nat.add_sub_cancel_left, htL_set H1.out h8] at m4
              have M4 := Lib.hid m4
              clear m3 m4 hb2 kl
              go_wp2
              go_roundg (312 - (p + 1))
              case measure => omega
              case rel => exact ⟨p + 1, by omega, by omega, by rw [H2.out]; go_num, by go_num, by rw [H2.out]; exact ⟨M4.out⟩⟩
            · have h8' : ¬ (n : Int) < 8 := by omega
              have HB := Lib.hid (htL_big (n := n) (by omega))
              go_wp2
              go_roundg (312 - (p + 1))
              case measure => omega
              case rel => exact ⟨p + 1, by omega, by omega, by rw [H2.out]; go_num, by go_num, by rw [H2.out]; exact ⟨by rw [HB.out]; exact M2.out⟩⟩
    · obtain rfl : p = 312 := by omega
      rw [cnt_end] at hm ⊢
      have hm2 := hm.m
      rw [tab_64] at hm2
      obtain ⟨K, hK⟩ : ∃ K, Ws (kTab ++ h0.l) = K := ⟨_, rfl⟩
      rw [hK] at hm2
      have HK := Lib.hid hK
      have hKs : K.size = 72 := by rw [← hK]; rfl
      have L1 := Lib.hid (show wr.rangeAt (w.heap.size + 1) 0 K.toList from (hm2.blk []).rangeL)
      have I1 := Lib.hid (show (Try.prog.info? 45).map (·.size) = some K.toList.length by rw [Array.length_toList, hKs]; exact info_tab)
      have I2 := Lib.hid (show (Try.prog.info? 45).map (·.size) = some K.size by rw [hKs]; exact info_tab)
      have S2 := Lib.hid (show Z72.size = K.size by rw [hKs]; rfl)
      have O2 := Lib.hid (show K.all (·.oneCell') = true by rw [← hK]; exact Ws_one _)
      have B2 := Lib.hid (hm2.blk [_])
      have M2 := Lib.hid hm2
      clear hm hm2 hK hKs hlt hp hp2
      go_wp2_with (first | refine wpList_load_mid rfl _ _ rfl (w.heap.size + 1) 0 rfl K.toList _ L1.out Try.underlying45 rfl I1.out ?_ | refine wpList_store_row rfl _ _ _ rfl w.heap.size K rfl rfl 45 _ B2.out I2.out S2.out O2.out ?_)
      refine bodyPost_ret (results_cell_row rfl _ _ w.heap.size 45 _ (0, 0) _ rfl (setRow_heap _ _ _ _ _ _ B2.out) Try.underlying45 rfl I2.out) rfl ⟨by rw [HK.out], ?_⟩
      exact (Mst.setRow (bl := []) [_] M2.out _).bel
end Go.Proofs.Ytnbemfceoianiaa

/- Contracts of the document's digest: right, Sum. -/
namespace Go.Proofs.Ytnbemfceoianiaa
set_option linter.unusedVariables false
open Go.RowKit

theorem right_any (x : Wd) (r : Nat) (h0 : 0 < r) (h1 : r < 32) (w : World) :
    Calls Try.prog 71 #[W x, .int .i64 (r : Int)] w fun e w' => e = .returned (W (rr x r)) ∧ ∃ k, w' = w.drewN k := by
  have hB : ∀ w, (binOp .shr 41 (W x) (.int .i64 (r : Int))).run Try.prog w = .ok (W (x >>> r)) w := fun w => W_shr _ _ w _ _ (by omega)
  have hE : ∀ w, (binOp .shl 41 (W x) (.int .i64 (32 - (r : Int)))).run Try.prog w = .ok (W (x <<< (32 - r))) w := fun w => by
    rw [show (32 - (r : Int)) = ((32 - r : Nat) : Int) by omega]
    exact W_shl _ _ w _ _ (by omega)
  have hE' : ∀ w, (binOp .sub 3 (.int .i64 32) (.int .i64 (r : Int))).run Try.prog w = .ok (.int .i64 (32 - (r : Int))) w := fun w => by
    have : IntKind.i64.wrap (32 - (r : Int)) = 32 - (r : Int) := IntWalk.i64_in _ (by omega)
    go_simp
  have hF : ∀ w, (binOp .or 41 (W (x >>> r)) (W (x <<< (32 - r)))).run Try.prog w = .ok (W (rr x r)) w := fun w => by
    rw [W_or]; rfl
  have v1 : IntKind.i64.wrap (32 - (r : Int)) = 32 - (r : Int) := IntWalk.i64_in _ (by omega)
  have v2 : (0 : Int) ≤ r := by omega
  clear h0 h1
  go_enter Try.func71, Try.ntmps71
  go_wp2
  go_quiet (fail)
  go_wp2
  go_ret
  exact ⟨rfl, _, rfl⟩

theorem right_z (x : Wd) (z : Int) (h0 : 0 < z) (h1 : z < 32) (w : World) :
    Calls Try.prog 71 #[W x, .int .i64 z] w fun e w' => e = .returned (W (rr x z.toNat)) ∧ ∃ k, w' = w.drewN k := by
  have := right_any x z.toNat (by omega) (by omega) w
  rw [show ((z.toNat : Nat) : Int) = z by omega] at this
  exact this
/-- The padded bytes, so far. -/
def msgZ (l : List UInt8) (j : Nat) : List UInt8 := l ++ endZ j
def msgL (l : List UInt8) (k : Nat) : List UInt8 := l ++ endL l.length k
theorem msgZ_len (l : List UInt8) (j : Nat) : (msgZ l j).length = l.length + (j + 1) := by simp [msgZ, endZ_len]
theorem msgL_len (l : List UInt8) (k : Nat) (hk : k ≤ 8) : (msgL l k).length = l.length + (padZ l.length + 1 + k) := by simp [msgL, endL_len _ _ hk]
theorem msgL_8 (l : List UInt8) : msgL l 8 = l ++ padL l.length := by rw [msgL, endL_8]
theorem bits_byte (n k D : Nat) (hk : k < 8) (hD : 2 ^ (56 - 8 * k) = D) : (8 * (n : Int) / (D : Int) % 256) = ((UInt8.ofNat ((n * 8) >>> (8 * (7 - k)))).toNat : Int) := by
  rw [Nat.shiftRight_eq_div_pow, show 8 * (7 - k) = 56 - 8 * k by omega, hD]
  have e : 8 * (n : Int) / (D : Int) % 256 = ((8 * n / D % 256 : Nat) : Int) := by simp
  rw [e, Nat.mul_comm]
  simp
structure ReR (w wr : World) (KT : Array Value) (v : Value) (m : List UInt8) : Prop where
  m : Mst w wr [(w.heap.size + 1, 27, Y32), (w.heap.size, 45, KT)] [⟨5, 1, v, m.length, by8 m⟩]
/-- A word, byte by byte. -/
def wk (b : List UInt8) (i : Nat) : Nat → Wd
  | 0 => 0
  | j + 1 => 256 * wk b i j + BitVec.ofNat 32 (b.getD (i + j) 0).toNat
theorem wk_4 (b : List UInt8) (i : Nat) : wk b i 4 = wordB b i := by
  have h0 := (b.getD i 0).toNat_lt
  have h1 := (b.getD (i + 1) 0).toNat_lt
  have h2 := (b.getD (i + 2) 0).toNat_lt
  have h3 := (b.getD (i + 3) 0).toNat_lt
  unfold wordB wordOf
  simp only [wk, Nat.add_zero]
  generalize (b.getD i 0).toNat = p at h0 ⊢
  generalize (b.getD (i + 1) 0).toNat = q at h1 ⊢
  generalize (b.getD (i + 2) 0).toNat = r at h2 ⊢
  generalize (b.getD (i + 3) 0).toNat = s at h3 ⊢
  apply BitVec.eq_of_toNat_eq
  simp only [BitVec.toNat_add, BitVec.toNat_mul, BitVec.toNat_ofNat, show (256 : Wd).toNat = 256 from rfl, show (0 : Wd).toNat = 0 from rfl]
  omega
theorem W_mul256 {P : Program} (t : TypeId) (x : Wd) (w : World) : (binOp .mul t (.int .u32 256) (W x)).run P w = .ok (W (256 * x)) w := by
  have h : IntKind.u32.wrap (256 * (x.toNat : Int)) = (((256 : Wd) * x).toNat : Int) := by
    rw [wrap_u32, BitVec.toNat_mul]
    simp
  simp only [binOp, W, Op.intArith, ne_eq, not_true, if_false]
  simp only [h, Sem.run_pure]
theorem W_u8 (b : UInt8) (w : World) : (convert 5 41 (.int .u8 (b.toNat : Int))).run Try.prog w = .ok (W (BitVec.ofNat 32 b.toNat)) w := by
  have hb := b.toNat_lt
  have e : IntKind.u32.wrap (b.toNat : Int) = (BitVec.ofNat 32 b.toNat).toNat := by
    rw [wrap_u32, BitVec.toNat_ofNat]
    omega
  have : (convert 5 41 (.int .u8 (b.toNat : Int))).run Try.prog w = .ok (.int .u32 (IntKind.u32.wrap (b.toNat : Int))) w := by go_simp
  rw [this, e]
  rfl
theorem spL_at (l : List UInt8) {k : Nat} (h : k < 64) : (spL l k).set k 0 = spL l k := by
  unfold spL
  rw [List.set_append_right _ _ (by rw [spreadK_len]; omega), spreadK_len, Nat.sub_self, show 64 - k = (64 - (k + 1)) + 1 by omega, List.replicate_succ, List.set_cons_zero]
/-- Choose and most, otherwise said. -/
theorem ch_or (x y z : Wd) : (x &&& y) ||| ((x ^^^ 4294967295#32) &&& z) = chW x y z := by
  unfold chW
  apply BitVec.eq_of_getLsbD_eq
  intro i hi
  rw [show (4294967295#32 : Wd) = BitVec.allOnes 32 from by decide]
  simp only [BitVec.getLsbD_or, BitVec.getLsbD_and, BitVec.getLsbD_xor, BitVec.getLsbD_not, BitVec.getLsbD_allOnes, hi, decide_true, Bool.true_and]
  cases x.getLsbD i <;> cases y.getLsbD i <;> cases z.getLsbD i <;> rfl
theorem mj_or (x y z : Wd) : ((x &&& y) ||| (x &&& z)) ||| (y &&& z) = mjW x y z := by
  unfold mjW
  apply BitVec.eq_of_getLsbD_eq
  intro i hi
  simp only [BitVec.getLsbD_or, BitVec.getLsbD_and, BitVec.getLsbD_xor]
  cases x.getLsbD i <;> cases y.getLsbD i <;> cases z.getLsbD i <;> rfl
/-- (a structure: nobody looks into the equation) -/
structure SpEq (b : List UInt8) (ws : List Wd) : Prop where
  eq : spreadK b 64 = ws
structure ShEq (l : List UInt8) (s : H8) : Prop where
  eq : sha l = outW s
structure ShEq2 (l : List UInt8) (k : List UInt8) : Prop where
  eq : sha l = k
structure UpEq (l : List UInt8) (k : Nat) (b : UInt8) : Prop where
  eq : (upB l k).set k b = upB l (k + 1)
structure VEq (ws : List Wd) (st v : H8) : Prop where
  eq : roundsK ws st 64 = v
structure AdEq (s v : List Wd) (k : Nat) (x y : Wd) : Prop where
  eq : (adK s v k).set k (x + y) = adK s v (k + 1)
structure SfEq (m : List UInt8) (i : Nat) (s : H8) : Prop where
  eq : shaN h0 m i = s
/-- The state of the blocks' loop. -/
structure BlR (w wr : World) (KT : Array Value) (BH : Nat) (A : Option Addr) (c : Nat) (m : List UInt8) (st : H8) (xs : Bl) : Prop where
  m : Mst w wr (xs ++ [(BH, 43, Ws st.l), (w.heap.size + 1, 27, Y32), (w.heap.size, 45, KT)]) [⟨5, 1, .slice A m.length c, m.length, by8 m⟩]
theorem BlR.byte {w wr : World} {KT : Array Value} {BH bm om c : Nat} {m : List UInt8} {st : H8} {xs : Bl} (h : BlR w wr KT BH (some ⟨bm, om, none⟩) c m st xs) {k : Nat} (hk : k < m.length) :
    wr.cell? ⟨bm, om + k, none⟩ = some (.int .u8 ((m.getD k 0).toNat : Int)) := by
  obtain ⟨b, o, e, _, hc⟩ := (h.m.src (h.m.rowSrc (List.mem_singleton_self _))).2 (by omega)
  injection e with e
  injection e with e1 e2
  subst e1 e2
  exact hc _ _ (by8_getD hk)
theorem KT_k {j : Nat} (h : j < 64) : (Ws (kTab ++ h0.l))[j]? = some (W (kTab.getD j 0)) := by
  refine Ws_get ?_
  have h1 : j < kTab.length := h
  rw [List.getElem?_append_left h1, List.getElem?_eq_getElem h1, List.getD_eq_getElem?_getD, List.getElem?_eq_getElem h1]
  rfl
theorem out_byte (s : H8) (j : Nat) (h : j < 32) : (outW s)[j]? = some (UInt8.ofNat ((s.l.getD (j / 4) 0).toNat >>> (24 - 8 * (j % 4)))) := by
  have h1 := out_at s (j / 4) (by omega)
  have h4 : j % 4 = 0 ∨ j % 4 = 1 ∨ j % 4 = 2 ∨ j % 4 = 3 := by omega
  obtain ⟨a, b, c, d⟩ := h1
  rcases h4 with h4 | h4 | h4 | h4
  · rw [h4, ← a]; congr 1; omega
  · rw [h4, ← b]; congr 1; omega
  · rw [h4, ← c]; congr 1; omega
  · rw [h4]
    have e : (24 - 8 * 3) = 0 := rfl
    rw [e, Nat.shiftRight_zero, ← d]; congr 1; omega
theorem KT_h : (Ws (kTab ++ h0.l)).toList.drop 64 = h0.l.map W := rfl
theorem shaN_0 (s : H8) (l : List UInt8) : shaN s l 0 = s := rfl
/-- The last loop of a block. -/
structure AdL (w wr : World) (KT : Array Value) (BH BV BW : Nat) (A : Option Addr) (c : Nat) (m : List UInt8) (ws : List Wd) (s v : H8) (k : Nat) : Prop where
  m : Mst w wr [(BV, 43, Ws v.l), (BW, 42, Ws ws), (BH, 43, Ws (adK s.l v.l k)), (w.heap.size + 1, 27, Y32), (w.heap.size, 45, KT)] [⟨5, 1, .slice A m.length c, m.length, by8 m⟩]
/-- The loop that writes the bytes. -/
structure OuL (w wr : World) (KT : Array Value) (BH BO : Nat) (s : H8) (k : Nat) : Prop where
  m : Mst w wr [(BO, 27, b8a (upB (outW s) k)), (BH, 43, Ws s.l), (w.heap.size + 1, 27, Y32), (w.heap.size, 45, KT)] []
set_option maxRecDepth 1000000 in
set_option maxHeartbeats 8000000 in
theorem refsum_any (w : World) (A : Option Addr) (c : Nat) (l : List UInt8) (hr : RB w w.heap.size A l) (hl : l.length ≤ 900000) :
    Calls Try.prog 52 #[.agg (Ws (kTab ++ h0.l)), .slice A l.length c] w fun e w' => e = .returned (.agg (b8a (sha l))) ∧ Below w.heap.size w w' := by
  obtain ⟨KT, hKT⟩ : ∃ K, Ws (kTab ++ h0.l) = K := ⟨_, rfl⟩
  rw [hKT]
  have HKT := Lib.hid hKT
  have m0 := ((Mst.start w).new 45 KT).new 27 Y32
  rw [show (w.alloc (.cells KT 45)).heap.size = w.heap.size + 1 by simp] at m0
  have m1 := m0.newrow 5 1 0 0 #[] (Nat.le_refl _) (by decide) rfl
  have hz : ((w.alloc (.cells KT 45)).alloc (.cells Y32 27)).heap.size = w.heap.size + 1 + 1 := by simp
  have HR := Lib.hid (m1.oldRd hr)
  rw [hz] at m1
  have M1 := Lib.hid m1
  obtain ⟨n, hn⟩ : ∃ n, l.length = n := ⟨_, rfl⟩
  have HN := Lib.hid hn
  rw [hn] at HR hl ⊢
  clear hKT m0 m1 hr hn hz
  go_enter Try.func52, Try.ntmps52
  go_upto_region 2 with (at_builtin; first
    | (refine wpList_appM rfl _ _ 26 rfl [] M1.out el_u8c rfl _ A n c (by8 l) rfl HR.out (by8_one l) (by unfold maxLen; omega) (by omega) ?_; intro A2 c2 w2 s2; rw [Nat.zero_add] at s2; have S2 := Lib.hid s2; clear s2)
    | (refine wpList_appM rfl _ _ 26 rfl [] (Mst.alloc S2.out _) el_u8c rfl _ _ 1 1 [.int .u8 128] rfl (Rd.new1 _ #[.int .u8 128] _ rfl) (one1 _ rfl) (by unfold maxLen; omega) (by omega) ?_; intro A3 c3 w3 s3; have S3 := Lib.hid s3; clear s3))
  have T0 := Lib.hid (show ReR w w3 KT (.slice A3 (n + 1) c3) (msgZ l 0) from ⟨by
    rw [msgZ_len, HN.out]
    have e : by8 (msgZ l 0) = List.take (0 * 1) [] ++ by8 l ++ [Value.int .u8 128] := by simp [msgZ, endZ, by8]
    rw [e]
    exact S3.out⟩)
  clear S2 S3 M1 HR
  go_loopg [5] (padZ n) (fun gk s5 wr => ∃ j : Nat, j + gk = padZ n ∧ ReR w wr KT s5 (msgZ l j))
  case atStart => exact ⟨0, by omega, T0.out⟩
  case round =>
    obtain ⟨j, hj, ⟨hm⟩⟩ := hrel
    obtain ⟨A5, c5, rfl, -, hx1, hx2, -⟩ := own_form (hm.row [])
    rw [msgZ_len, HN.out] at hm hx1 hx2 ⊢
    have hpz := padZ_lt n
    have j0 : (0 : Int) ≤ j := by omega
    have j1 : (j : Int) ≤ 63 := by omega
    have n0 : (0 : Int) ≤ n := by omega
    have n1 : (n : Int) ≤ 900000 := by omega
    have HM := Lib.hid hm
    have HP := Lib.hid (show padZ n = (119 - n % 64) % 64 from rfl)
    by_cases hlt : j < padZ n
    · have ht : (((n : Int) + ((j : Int) + 1)) % 64 != 56) = true := by
        have h2 := HP.out
        simp only [bne_iff_ne, ne_eq]
        omega
      clear hm hpz
      go_wp2_with (at_builtin; refine wpList_appM rfl _ _ 26 rfl [] (Mst.alloc HM.out _) el_u8c rfl _ _ 1 1 [.int .u8 0] rfl (Rd.new1 _ #[.int .u8 0] _ rfl) (one1 _ rfl) (by unfold maxLen; omega) (by omega) ?_; intro A' c' w' s2; have S2 := Lib.hid s2; clear s2)
      go_roundg (padZ n - (j + 1))
      case measure => exact meas hj hlt
      case rel => exact ⟨j + 1, meas2 hlt, ⟨by
        have a := S2.out
        rw [show by8 (msgZ l j) ++ [Value.int .u8 0] = by8 (msgZ l (j + 1)) by rw [msgZ, msgZ, ← endZ_succ, by8_append, by8_append, by8_append, List.append_assoc]; rfl] at a
        rw [msgZ_len, HN.out]
        exact a⟩⟩
    · obtain rfl : j = padZ n := by omega
      have ht : (((n : Int) + ((padZ n : Int) + 1)) % 64 != 56) = false := by
        have h2 := HP.out
        simp only [bne_eq_false_iff_eq]
        omega
      clear hm hlt hj
      go_wp2_with fail
      have T1 := Lib.hid (show ReR w wr KT (.slice A5 (n + (padZ n + 1)) c5) (msgL l 0) from ⟨by
        rw [msgL_len l 0 (by omega), HN.out]
        have e0 : msgL l 0 = msgZ l (padZ n) := by rw [msgL, msgZ, endL, HN.out]; simp
        rw [e0]
        exact HM.out⟩)
      try rw [ht]
      clear HM hx1 hx2 ht j0 j1 T0
      go_loopg [5, 7] 8 (fun gk s5 s7 wr => ∃ k : Nat, k + gk = 8 ∧ s7 = .int .i64 k ∧ ReR w wr KT s5 (msgL l k))
      case atStart => exact ⟨0, by omega, rfl, T1.out⟩
      case round =>
        obtain ⟨k, hk, rfl, ⟨hm⟩⟩ := hrel
        obtain ⟨A6, c6, rfl, -, hx1, hx2, -⟩ := own_form (hm.row [])
        by_cases hlt : k < 8
        · rw [msgL_len l k (by omega), HN.out] at hm hx1 hx2 ⊢
          have hE := endL_succ n k hlt
          obtain ⟨D, hD⟩ : ∃ D, 2 ^ (56 - 8 * k) = D := ⟨_, rfl⟩
          have hv := bits_byte n k D hlt hD
          have hD0 : 0 < D := by rw [← hD]; exact Nat.pow_pos (by decide)
          have hD1 : D ≤ 72057594037927936 := by
            rw [← hD]
            have : 2 ^ (56 - 8 * k) ≤ 2 ^ 56 := Nat.pow_le_pow_right (by decide) (by omega)
            exact this
          have hS : IntKind.u64.wrap (2 ^ (56 - 8 * k)) = (D : Int) := by
            have : ((2 : Int) ^ (56 - 8 * k)) = ((2 ^ (56 - 8 * k) : Nat) : Int) := by simp
            rw [this, hD]
            exact IntWalk.u64_in _ (by omega)
          obtain ⟨B, hB⟩ : ∃ B, UInt8.ofNat ((n * 8) >>> (8 * (7 - k))) = B := ⟨_, rfl⟩
          rw [hB] at hv hE
          have HE := Lib.hid hE
          have HV := Lib.hid hv
          have HM := Lib.hid hm
          have k0 : (0 : Int) ≤ 56 - 8 * (k : Int) := by omega
          have k1 : (k : Int) ≤ 7 := by omega
          have d0 : (0 : Int) < D := by omega
          have d1 : (0 : Int) ≤ 8 * (n : Int) := by omega
          clear hm hE hB hv hD hD0 hD1
          go_wp2_with (at_builtin; refine wpList_appM rfl _ _ 26 rfl [] (Mst.alloc HM.out _) el_u8c rfl _ _ 1 1 [.int .u8 (8 * (n : Int) / (D : Int) % 256)] rfl (Rd.new1 _ #[.int .u8 (8 * (n : Int) / (D : Int) % 256)] _ rfl) (one1 _ rfl) (by unfold maxLen; omega) (by omega) ?_; intro A' c' w' s2; have S2 := Lib.hid s2; clear s2)
          go_roundg (8 - (k + 1))
          case measure => exact meas hk hlt
          case rel => exact ⟨k + 1, meas2 hlt, by go_num, ⟨by
            have a := S2.out
            rw [HV.out, show by8 (msgL l k) ++ [Value.int .u8 (B.toNat : Int)] = by8 (msgL l (k + 1)) by rw [msgL, msgL, by8_append, HN.out, ← HE.out, by8_append, by8_append, List.append_assoc]; rfl] at a
            rw [msgL_len l (k + 1) (by omega), HN.out]
            exact a⟩⟩
        · obtain rfl : k = 8 := by omega
          rw [msgL_8, HN.out] at hm hx1 hx2 ⊢
          obtain ⟨M, hM⟩ : ∃ M, l ++ padL n = M := ⟨_, rfl⟩
          have hML : M.length = n + padZ n + 9 := by rw [← hM, ← endL_8, List.length_append, endL_len n 8 (by omega), HN.out]; omega
          rw [hM] at hm hx1 hx2 ⊢
          obtain ⟨L, hL⟩ : ∃ L, M.length = L := ⟨_, rfl⟩
          rw [hL] at hm hx1 hx2 ⊢
          have HLn := Lib.hid (show L % 64 = 0 by have : padZ n = (119 - n % 64) % 64 := rfl; omega)
          have HLb := Lib.hid (show L ≤ 1000000 by omega)
          have HL0 := Lib.hid (show 0 < L by omega)
          have HL := Lib.hid hL
          have HMM := Lib.hid hM
          have hbK := hm.blk [_]
          have e64 : (KT.toList.drop 64) = h0.l.map W := by rw [← HKT.out]; exact KT_h
          have L1 := Lib.hid (show wr.rangeAt w.heap.size 64 (h0.l.map W) from hbK.range fun j v hv => by
            rw [← e64, List.getElem?_drop] at hv
            simpa using hv)
          have I1 := Lib.hid (show (Try.prog.info? 43).map (·.size) = some (h0.l.map W).length from info_h8a)
          obtain ⟨KH, hKH⟩ : ∃ K, Ws h0.l = K := ⟨_, rfl⟩
          have I2 := Lib.hid (show (Try.prog.info? 43).map (·.size) = some KH.size by rw [← hKH]; exact info_h8a)
          have O2 := Lib.hid (show KH.all (·.oneCell') = true by rw [← hKH]; exact Ws_one _)
          have S2 := Lib.hid (show Z8.size = KH.size by rw [← hKH]; rfl)
          have E2 := Lib.hid (show Value.agg (h0.l.map W).toArray = .agg KH by rw [← hKH]; rfl)
          have m1 := hm.new 43 Z8
          have B1 := Lib.hid (m1.blk [])
          have m2 := Mst.setRow (bl := []) [] m1 KH
          have T2 := Lib.hid (show BlR w ((wr.alloc (.cells Z8 43)).setRow wr.heap.size KH) KT wr.heap.size A6 c6 M h0 [] from ⟨by
            rw [hKH, hL]
            exact m2⟩)
          obtain ⟨HH, hHH⟩ : ∃ HH, h0.l.map W = HH := ⟨_, rfl⟩
          rw [hHH] at L1 I1 E2
          have l0 : (0 : Int) ≤ L := by omega
          have l1 : (L : Int) ≤ 1000000 := by omega
          clear hm hbK e64 m1 m2 hM hML hL hKH hHH T1 hlt hk
          go_upto_region 11 with (first | refine wpList_load_mid rfl _ _ rfl w.heap.size 64 rfl HH _ L1.out Try.underlying43 rfl I1.out ?_ | refine wpList_store_row rfl _ _ _ rfl wr.heap.size KH rfl (by rw [← E2.out]; rfl) 43 _ B1.out I2.out S2.out O2.out ?_)
          clear L1 I1 I2 O2 S2 E2 B1
          obtain ⟨BH, hBH⟩ : ∃ BH, wr.heap.size = BH := ⟨_, rfl⟩
          rw [hBH] at T2 ⊢
          clear hBH
          obtain ⟨bm, om, hA6, _⟩ := (T2.out.m.src (T2.out.m.rowSrc (List.mem_singleton_self _))).2 (by rw [HL.out]; exact HL0.out)
          rw [hA6] at T2 ⊢
          clear hA6
          go_loopg [9] (L / 64) (fun gk s9 wr => ∃ i : Nat, i + gk = L / 64 ∧ s9 = .int .i64 (64 * (i : Int)) ∧ BlR w wr KT BH (some ⟨bm, om, none⟩) c6 M (shaN h0 M i) [])
          case atStart => exact ⟨0, by omega, rfl, T2.out⟩
          case round =>
            obtain ⟨i, hi, rfl, hm⟩ := hrel
            by_cases hlt : i < L / 64
            · have hil : (64 : Int) * i < L := by omega
              have hil0 : (0 : Int) ≤ 64 * i := by omega
              have hil64 : (64 : Int) * i + 64 ≤ L := by omega
              obtain ⟨blk, hblk⟩ : ∃ b, (M.drop (64 * i)).take 64 = b := ⟨_, rfl⟩
              obtain ⟨st, hst⟩ : ∃ st, shaN h0 M i = st := ⟨_, rfl⟩
              have HNX := Lib.hid (show shaN h0 M (i + 1) = mixW st blk by rw [shaN_snoc, hst, hblk])
              have hbl : blk.length = 64 := by rw [← hblk]; simp only [List.length_take, List.length_drop]; have := HL.out; omega
              have HBL := Lib.hid hbl
              have HLT := Lib.hid hlt
              have HII := Lib.hid hi
              have HBK := Lib.hid hblk
              rw [hst] at hm
              have m1 := hm.m.new 42 Z64
              have B1 := Lib.hid (m1.blk [])
              have m2 := Mst.setRow (bl := []) [] m1 Z64
              have T3 := Lib.hid (show BlR w ((wr.alloc (.cells Z64 42)).setRow wr.heap.size Z64) KT BH (some ⟨bm, om, none⟩) c6 M st [(wr.heap.size, 42, Ws (spL blk 0))] from ⟨by
                rw [spL_0, zero64]
                exact m2⟩)
              have I1 := Lib.hid (show (Try.prog.info? 42).map (·.size) = some Z64.size from info_arr64)
              have O1 := Lib.hid (show Z64.all (·.oneCell') = true from by have := Ws_one (List.replicate 64 0); rw [zero64] at this; exact this)
              clear hm m1 m2 hblk hst hbl hlt hi
              go_upto_region 14 with (first | refine wpList_store_row rfl _ _ _ rfl wr.heap.size Z64 rfl rfl 42 _ B1.out I1.out rfl O1.out ?_)
              clear B1 I1 O1
              obtain ⟨BW, hBW⟩ : ∃ BW, wr.heap.size = BW := ⟨_, rfl⟩
              rw [hBW] at T3 ⊢
              clear hBW
              go_wp2_with fail
              go_loopg [11] 64 (fun gk s11 wr => ∃ k : Nat, k + gk = 64 ∧ s11 = .int .i64 k ∧ BlR w wr KT BH (some ⟨bm, om, none⟩) c6 M st [(BW, 42, Ws (spL blk k))])
              case atStart => exact ⟨0, by omega, rfl, T3.out⟩
              case round =>
                obtain ⟨k, hk, rfl, hm⟩ := hrel
                by_cases hltk : k < 64
                · have hk0 : (0 : Int) ≤ k := by omega
                  have hset := spL_set blk hltk
                  by_cases h16 : k < 16
                  · unfold spN at hset
                    rw [if_pos h16, ← wk_4] at hset
                    have hk16 : (k : Int) < 16 := by omega
                    have T4 := Lib.hid (show BlR w wr KT BH (some ⟨bm, om, none⟩) c6 M st [(BW, 42, Ws ((spL blk k).set k (wk blk (4 * k) 0)))] from by
                      rw [show wk blk (4 * k) 0 = 0 from rfl, spL_at blk hltk]
                      exact hm)
                    have HSET := Lib.hid hset
                    clear hm hset
                    go_wp2_with fail
                    go_loopg [12] 4 (fun gk s12 wr => ∃ j : Nat, j + gk = 4 ∧ s12 = .int .i64 j ∧ BlR w wr KT BH (some ⟨bm, om, none⟩) c6 M st [(BW, 42, Ws ((spL blk k).set k (wk blk (4 * k) j)))])
                    case atStart => exact ⟨0, by omega, rfl, T4.out⟩
                    case round =>
                      obtain ⟨j, hj, rfl, hm⟩ := hrel
                      by_cases hltj : j < 4
                      · obtain ⟨X, hX⟩ : ∃ X, wk blk (4 * k) j = X := ⟨_, rfl⟩
                        obtain ⟨Y, hY⟩ : ∃ Y, blk.getD (4 * k + j) 0 = Y := ⟨_, rfl⟩
                        have HS := Lib.hid (show wk blk (4 * k) (j + 1) = 256 * X + BitVec.ofNat 32 Y.toNat by rw [← hX, ← hY]; rfl)
                        rw [hX] at hm
                        have hlen : ((spL blk k).set k X).length = 64 := by rw [List.length_set, spL_len blk (by omega)]
                        have cw : wr.cell? ⟨BW, k, none⟩ = some (W X) := ((hm.m.blk []).cell k).trans (Ws_get (by rw [List.getElem?_set_self (by rw [spL_len blk (by omega)]; exact hltk)]))
                        have fw := (hm.m.blk []).fr k
                        have cm := hm.byte (k := 64 * i + 4 * k + j) (by have := HL.out; omega)
                        have hYm : M.getD (64 * i + 4 * k + j) 0 = Y := by
                          rw [← hY, ← HBK.out]
                          rw [List.getD_eq_getElem?_getD, List.getD_eq_getElem?_getD, List.getElem?_take, if_pos (by omega), List.getElem?_drop, Nat.add_assoc]
                        rw [hYm] at cm
                        have HM := Lib.hid hm
                        have j0 : (0 : Int) ≤ j := by omega
                        have v1 : IntKind.i64.wrap (4 * (k : Int)) = 4 * (k : Int) := IntWalk.i64_in _ (by omega)
                        have v2 : IntKind.i64.wrap (64 * (i : Int) + 4 * (k : Int)) = 64 * (i : Int) + 4 * (k : Int) := IntWalk.i64_in _ (by omega)
                        have v3 : IntKind.i64.wrap (64 * (i : Int) + 4 * (k : Int) + j) = 64 * (i : Int) + 4 * (k : Int) + j := IntWalk.i64_in _ (by omega)
                        have v4 : (0 : Int) ≤ 64 * (i : Int) + 4 * (k : Int) + j := by omega
                        have v5 : (64 * (i : Int) + 4 * (k : Int) + j) < L := by omega
                        have v6 : (64 * (i : Int) + 4 * (k : Int) + j).toNat = 64 * i + 4 * k + j := by omega
                        have ST := W_store (P := Try.prog)
                        have SC := fun x => (Value.cells.eq_def (W x)).symm.trans (W_cells x)
                        have AA := fun (a b : Wd) (w : World) => W_add (P := Try.prog) 41 a b w
                        have AM := fun (a : Wd) (w : World) => W_mul256 (P := Try.prog) 41 a w
                        have AB := W_u8 Y
                        clear hm hX hY hYm hlen
                        go_wp2
                        go_region
                        clear v1 v2 v3 v4 v5 v6 cm cw fw
                        go_wp2
                        go_roundg (4 - (j + 1))
                        case measure => exact meas hj hltj
                        case rel => exact ⟨j + 1, meas2 hltj, by go_num, ⟨by
                          have a := (HM.out.m.put [] k (W (256 * X + BitVec.ofNat 32 Y.toNat))).drew
                          rw [Ws_set, List.set_set, ← HS.out] at a
                          first | exact a | (rw [HS.out] at a ⊢; exact a)⟩⟩
                      · obtain rfl : j = 4 := by omega
                        rw [HSET.out] at hm
                        have HM := Lib.hid hm
                        clear hm hltj hj
                        go_wp2
                        go_roundg (64 - (k + 1))
                        case measure => exact meas hk hltk
                        case rel => exact ⟨k + 1, meas2 hltk, by go_num, HM.out⟩
                  · have kb := hm.m.blk []
                    have f3 := kb.fr k
                    have c3 : wr.cell? ⟨BW, k, none⟩ = some (W ((spL blk k).getD k 0)) := (kb.cell k).trans (Ws_getD (by rw [spL_len blk (by omega)]; exact hltk))
                    have gx : ∀ d, 0 < d → d ≤ k → wr.cell? ⟨BW, k - d, none⟩ = some (W ((spreadK blk k).getD (k - d) 0)) := fun d h0 h1 => (kb.cell (k - d)).trans (Ws_get (spL_get blk (by omega)))
                    have g15 := gx 15 (by omega) (by omega)
                    have g2 := gx 2 (by omega) (by omega)
                    have g16 := gx 16 (by omega) (by omega)
                    have g7 := gx 7 (by omega) (by omega)
                    unfold spN at hset
                    rw [if_neg h16] at hset
                    obtain ⟨x15, e15⟩ : ∃ x, (spreadK blk k).getD (k - 15) 0 = x := ⟨_, rfl⟩
                    obtain ⟨x2, e2⟩ : ∃ x, (spreadK blk k).getD (k - 2) 0 = x := ⟨_, rfl⟩
                    obtain ⟨x16, e16⟩ : ∃ x, (spreadK blk k).getD (k - 16) 0 = x := ⟨_, rfl⟩
                    obtain ⟨x7, e7⟩ : ∃ x, (spreadK blk k).getD (k - 7) 0 = x := ⟨_, rfl⟩
                    obtain ⟨xk, ek⟩ : ∃ x, (spL blk k).getD k 0 = x := ⟨_, rfl⟩
                    rw [e15] at g15 hset
                    rw [e2] at g2 hset
                    rw [e16] at g16 hset
                    rw [e7] at g7 hset
                    rw [ek] at c3
                    have n15 : ((k : Int) - 15).toNat = k - 15 := by omega
                    have n2 : ((k : Int) - 2).toNat = k - 2 := by omega
                    have n16 : ((k : Int) - 16).toNat = k - 16 := by omega
                    have n7 : ((k : Int) - 7).toNat = k - 7 := by omega
                    have p15 : 0 ≤ (k : Int) - 15 := by omega
                    have p2 : 0 ≤ (k : Int) - 2 := by omega
                    have p16 : 0 ≤ (k : Int) - 16 := by omega
                    have p7 : 0 ≤ (k : Int) - 7 := by omega
                    have l15 : (k : Int) - 15 < 64 := by omega
                    have l2 : (k : Int) - 2 < 64 := by omega
                    have l16 : (k : Int) - 16 < 64 := by omega
                    have l7 : (k : Int) - 7 < 64 := by omega
                    have v15 : IntKind.i64.wrap ((k : Int) - 15) = (k : Int) - 15 := IntWalk.i64_in _ (by omega)
                    have v2 : IntKind.i64.wrap ((k : Int) - 2) = (k : Int) - 2 := IntWalk.i64_in _ (by omega)
                    have v16 : IntKind.i64.wrap ((k : Int) - 16) = (k : Int) - 16 := IntWalk.i64_in _ (by omega)
                    have v7 : IntKind.i64.wrap ((k : Int) - 7) = (k : Int) - 7 := IntWalk.i64_in _ (by omega)
                    have HX := Lib.hid hset
                    have HM := Lib.hid hm
                    have ST := W_store (P := Try.prog)
                    have SC := fun x => (Value.cells.eq_def (W x)).symm.trans (W_cells x)
                    have AX := fun (a b : Wd) (w : World) => W_xor (P := Try.prog) 41 a b w
                    have AA := fun (a b : Wd) (w : World) => W_add (P := Try.prog) 41 a b w
                    have s3 : ∀ (x : Wd) (w : World), (binOp .shr 41 (W x) (.int .u64 3)).run Try.prog w = .ok (W (x >>> 3)) w := fun x w => W_shr 41 x w .u64 3 (by decide)
                    have s10 : ∀ (x : Wd) (w : World), (binOp .shr 41 (W x) (.int .u64 10)).run Try.prog w = .ok (W (x >>> 10)) w := fun x w => W_shr 41 x w .u64 10 (by decide)
                    clear hset e15 e2 e16 e7 ek kb hm gx
                    go_wp2
                    go_quiet ((go_at_call 71; exact Calls.quiet_of (right_z _ _ (by decide) (by decide) _)))
                    have HMq := Lib.hid (show Mst w (wr.drewN nq) _ _ from HM.out.m.drewN nq)
                    replace g2 : (wr.drewN nq).cell? ⟨BW, k - 2, none⟩ = some (W x2) := g2
                    replace g16 : (wr.drewN nq).cell? ⟨BW, k - 16, none⟩ = some (W x16) := g16
                    replace g7 : (wr.drewN nq).cell? ⟨BW, k - 7, none⟩ = some (W x7) := g7
                    replace c3 : (wr.drewN nq).cell? ⟨BW, k, none⟩ = some (W xk) := c3
                    replace f3 : (wr.drewN nq).frozen? ⟨BW, k, none⟩ = false := f3
                    clear g15
                    generalize wr.drewN nq = wq at HMq g2 g16 g7 c3 f3 ⊢
                    go_wp2
                    go_quiet ((go_at_call 71; exact Calls.quiet_of (right_z _ _ (by decide) (by decide) _)))
                    have HMp := Lib.hid (show Mst w (wq.drewN nq) _ _ from HMq.out.drewN nq)
                    replace g16 : (wq.drewN nq).cell? ⟨BW, k - 16, none⟩ = some (W x16) := g16
                    replace g7 : (wq.drewN nq).cell? ⟨BW, k - 7, none⟩ = some (W x7) := g7
                    replace c3 : (wq.drewN nq).cell? ⟨BW, k, none⟩ = some (W xk) := c3
                    replace f3 : (wq.drewN nq).frozen? ⟨BW, k, none⟩ = false := f3
                    clear g2 HMq
                    generalize wq.drewN nq = wp at HMp g16 g7 c3 f3 ⊢
                    go_wp2
                    go_region
                    clear n15 n2 n16 n7 p15 p2 p16 p7 l15 l2 l16 l7 v15 v2 v16 v7 g16 g7
                    go_wp2
                    go_roundg (64 - (k + 1))
                    case measure => exact meas hk hltk
                    case rel => exact ⟨k + 1, meas2 hltk, by go_num, ⟨by
                      have a := (HMp.out.put [] k (W (x16 + lsig0 x15 + x7 + lsig1 x2))).drew
                      rw [Ws_set, HX.out] at a
                      exact a⟩⟩
                · obtain rfl : k = 64 := by omega
                  rw [spL_64] at hm
                  obtain ⟨ws, hws⟩ : ∃ ws, spreadK blk 64 = ws := ⟨_, rfl⟩
                  have HWS : SpEq blk ws := ⟨hws⟩
                  have hwl : ws.length = 64 := by rw [← hws, spreadK_len]
                  rw [hws] at hm
                  have HWL := Lib.hid hwl
                  obtain ⟨KS, hKS⟩ : ∃ K, Ws st.l = K := ⟨_, rfl⟩
                  have L1 := Lib.hid (show wr.rangeAt BH 0 KS.toList from hKS ▸ (hm.m.blk [_]).rangeL)
                  have I1 := Lib.hid (show (Try.prog.info? 43).map (·.size) = some KS.toList.length by rw [← hKS]; exact info_h8a)
                  have I2 := Lib.hid (show (Try.prog.info? 43).map (·.size) = some KS.size by rw [← hKS]; exact info_h8a)
                  have S2 := Lib.hid (show Z8.size = KS.size by rw [← hKS]; rfl)
                  have O2 := Lib.hid (show KS.all (·.oneCell') = true by rw [← hKS]; exact Ws_one _)
                  have m1 := hm.m.new 43 Z8
                  have B1 := Lib.hid (m1.blk [])
                  have m2 := Mst.setRow (bl := []) [] m1 KS
                  have T5 := Lib.hid (show BlR w ((wr.alloc (.cells Z8 43)).setRow wr.heap.size KS) KT BH (some ⟨bm, om, none⟩) c6 M st [(wr.heap.size, 43, Ws (roundsK ws st 0).l), (BW, 42, Ws ws)] from ⟨by
                    rw [show Ws (roundsK ws st 0).l = KS from hKS]
                    exact m2⟩)
                  clear hm m1 m2 hws hwl hKS hltk hk T3
                  go_upto_region 26 with (first | refine wpList_load_mid rfl _ _ rfl BH 0 rfl KS.toList _ L1.out Try.underlying43 rfl I1.out ?_ | refine wpList_store_row rfl _ _ _ rfl wr.heap.size KS rfl rfl 43 _ B1.out I2.out S2.out O2.out ?_)
                  clear L1 I1 I2 O2 S2 B1
                  obtain ⟨BV, hBV⟩ : ∃ BV, wr.heap.size = BV := ⟨_, rfl⟩
                  rw [hBV] at T5 ⊢
                  clear hBV
                  go_wp2_with fail
                  go_loopg [16] 64 (fun gk s16 wr => ∃ k : Nat, k + gk = 64 ∧ s16 = .int .i64 k ∧ BlR w wr KT BH (some ⟨bm, om, none⟩) c6 M st [(BV, 43, Ws (roundsK ws st k).l), (BW, 42, Ws ws)])
                  case atStart => exact ⟨0, by omega, rfl, T5.out⟩
                  case round =>
                    obtain ⟨k, hk, rfl, hm⟩ := hrel
                    by_cases hltk : k < 64
                    · obtain ⟨sv, hsv⟩ : ∃ sv, roundsK ws st k = sv := ⟨_, rfl⟩
                      obtain ⟨x, hx⟩ : ∃ x, ws.getD k 0 = x := ⟨_, rfl⟩
                      obtain ⟨y, hy⟩ : ∃ y, kTab.getD k 0 = y := ⟨_, rfl⟩
                      have HX := Lib.hid (show roundsK ws st (k + 1) = round1 sv y x by rw [← hsv, ← hx, ← hy]; rfl)
                      have gX := Lib.hid (show (Ws ws)[k]? = some (W x) by rw [← hx]; exact Ws_getD (by rw [HWL.out]; exact hltk))
                      have gY := Lib.hid (show KT[k]? = some (W y) by rw [← hy, ← HKT.out]; exact KT_k hltk)
                      rw [hsv] at hm
                      obtain ⟨a, b, cc, d, e, f, gg, h⟩ := sv
                      have HM := Lib.hid hm.m
                      have q0 : wr.cell? ⟨BV, 0, none⟩ = some (W a) := (HM.out.blk []).cell 0
                      have q1 : wr.cell? ⟨BV, 1, none⟩ = some (W b) := (HM.out.blk []).cell 1
                      have q2 : wr.cell? ⟨BV, 2, none⟩ = some (W cc) := (HM.out.blk []).cell 2
                      have q3 : wr.cell? ⟨BV, 3, none⟩ = some (W d) := (HM.out.blk []).cell 3
                      have q4 : wr.cell? ⟨BV, 4, none⟩ = some (W e) := (HM.out.blk []).cell 4
                      have q5 : wr.cell? ⟨BV, 5, none⟩ = some (W f) := (HM.out.blk []).cell 5
                      have q6 : wr.cell? ⟨BV, 6, none⟩ = some (W gg) := (HM.out.blk []).cell 6
                      have q7 : wr.cell? ⟨BV, 7, none⟩ = some (W h) := (HM.out.blk []).cell 7
                      have AX := fun (a b : Wd) (w : World) => W_xor (P := Try.prog) 41 a b w
                      have AA := fun (a b : Wd) (w : World) => W_add (P := Try.prog) 41 a b w
                      have AN := fun (a b : Wd) (w : World) => W_and (P := Try.prog) 41 a b w
                      clear hm hsv hx hy
                      go_wp2
                      go_quiet ((go_at_call 71; exact Calls.quiet_of (right_z _ _ (by decide) (by decide) _)))
                      have HMq := Lib.hid (show Mst w (wr.drewN nq) _ _ from HM.out.drewN nq)
                      clear q0 q1 q2 q3 q4 q5 q6 q7
                      generalize wr.drewN nq = wq at HMq ⊢
                      have AC : ∀ w, (binOp .xor 41 (W e) (.int .u32 4294967295)).run Try.prog w = .ok (W (e ^^^ 4294967295#32)) w := fun w => W_xor (P := Try.prog) 41 e 4294967295#32 w
                      have AO1 : ∀ w, (binOp .or 41 (W (e &&& f)) (W ((e ^^^ 4294967295#32) &&& gg))).run Try.prog w = .ok (W (e &&& f ^^^ ~~~e &&& gg)) w := fun w => by
                        rw [W_or, ch_or]
                        rfl
                      have AO2 : ∀ w, (binOp .or 41 (W (a &&& b)) (W (a &&& cc))).run Try.prog w = .ok (W ((a &&& b) ||| (a &&& cc))) w := fun w => W_or 41 _ _ w
                      have AO3 : ∀ w, (binOp .or 41 (W ((a &&& b) ||| (a &&& cc))) (W (b &&& cc))).run Try.prog w = .ok (W (a &&& b ^^^ a &&& cc ^^^ b &&& cc)) w := fun w => by
                        rw [W_or, mj_or]
                        rfl
                      have q0 : wq.cell? ⟨BV, 0, none⟩ = some (W a) := (HMq.out.blk []).cell 0
                      have q1 : wq.cell? ⟨BV, 1, none⟩ = some (W b) := (HMq.out.blk []).cell 1
                      have q2 : wq.cell? ⟨BV, 2, none⟩ = some (W cc) := (HMq.out.blk []).cell 2
                      have q3 : wq.cell? ⟨BV, 3, none⟩ = some (W d) := (HMq.out.blk []).cell 3
                      have q4 : wq.cell? ⟨BV, 4, none⟩ = some (W e) := (HMq.out.blk []).cell 4
                      have q5 : wq.cell? ⟨BV, 5, none⟩ = some (W f) := (HMq.out.blk []).cell 5
                      have q6 : wq.cell? ⟨BV, 6, none⟩ = some (W gg) := (HMq.out.blk []).cell 6
                      have q7 : wq.cell? ⟨BV, 7, none⟩ = some (W h) := (HMq.out.blk []).cell 7
                      have gx : wq.cell? ⟨BW, k, none⟩ = some (W x) := ((HMq.out.blk [_]).cell k).trans gX.out
                      have gy : wq.cell? ⟨w.heap.size, k, none⟩ = some (W y) := ((HMq.out.blk [_, _, _, _]).cell k).trans gY.out
                      go_wp2
                      go_quiet (fail)
                      have HMp := Lib.hid (show Mst w (wq.drewN nq) _ _ from HMq.out.drewN nq)
                      clear q0 q1 q2 q3 q4 q5 q6 q7 gx gy
                      generalize wq.drewN nq = wp at HMp ⊢
                      have q0 : wp.cell? ⟨BV, 0, none⟩ = some (W a) := (HMp.out.blk []).cell 0
                      have q1 : wp.cell? ⟨BV, 1, none⟩ = some (W b) := (HMp.out.blk []).cell 1
                      have q2 : wp.cell? ⟨BV, 2, none⟩ = some (W cc) := (HMp.out.blk []).cell 2
                      have q3 : wp.cell? ⟨BV, 3, none⟩ = some (W d) := (HMp.out.blk []).cell 3
                      have q4 : wp.cell? ⟨BV, 4, none⟩ = some (W e) := (HMp.out.blk []).cell 4
                      have q5 : wp.cell? ⟨BV, 5, none⟩ = some (W f) := (HMp.out.blk []).cell 5
                      have q6 : wp.cell? ⟨BV, 6, none⟩ = some (W gg) := (HMp.out.blk []).cell 6
                      have q7 : wp.cell? ⟨BV, 7, none⟩ = some (W h) := (HMp.out.blk []).cell 7
                      go_wp2
                      go_quiet ((go_at_call 71; exact Calls.quiet_of (right_z _ _ (by decide) (by decide) _)))
                      have HMo := Lib.hid (show Mst w (wp.drewN nq) _ _ from HMp.out.drewN nq)
                      clear q0 q1 q2 q3 q4 q5 q6 q7
                      generalize wp.drewN nq = wo at HMo ⊢
                      have q0 : wo.cell? ⟨BV, 0, none⟩ = some (W a) := (HMo.out.blk []).cell 0
                      have q1 : wo.cell? ⟨BV, 1, none⟩ = some (W b) := (HMo.out.blk []).cell 1
                      have q2 : wo.cell? ⟨BV, 2, none⟩ = some (W cc) := (HMo.out.blk []).cell 2
                      have q3 : wo.cell? ⟨BV, 3, none⟩ = some (W d) := (HMo.out.blk []).cell 3
                      have q4 : wo.cell? ⟨BV, 4, none⟩ = some (W e) := (HMo.out.blk []).cell 4
                      have q5 : wo.cell? ⟨BV, 5, none⟩ = some (W f) := (HMo.out.blk []).cell 5
                      have q6 : wo.cell? ⟨BV, 6, none⟩ = some (W gg) := (HMo.out.blk []).cell 6
                      have q7 : wo.cell? ⟨BV, 7, none⟩ = some (W h) := (HMo.out.blk []).cell 7
                      have I8 := Lib.hid (show (Try.prog.info? 43).map (·.size) = some (rdA a b cc d e f gg h y x).size from info_h8a)
                      have S8 := Lib.hid (show (Ws (H8.l ⟨a, b, cc, d, e, f, gg, h⟩)).size = (rdA a b cc d e f gg h y x).size from rfl)
                      have O8 := Lib.hid (show (rdA a b cc d e f gg h y x).all (·.oneCell') = true by rw [← rdA_eq]; exact Ws_one _)
                      have B8 := Lib.hid (HMo.out.blk [])
                      have SC := fun x => (Value.cells.eq_def (W x)).symm.trans (W_cells x)
                      go_wp2_with (refine wpList_store_row rfl _ _ _ rfl BV (rdA a b cc d e f gg h y x) rfl rfl 43 _ B8.out I8.out S8.out O8.out ?_)
                      go_roundg (64 - (k + 1))
                      case measure => exact meas hk hltk
                      case rel => exact ⟨k + 1, meas2 hltk, by go_num, ⟨by
                        rw [HX.out, rdA_eq]
                        exact Mst.setRow (bl := []) [] HMo.out (rdA a b cc d e f gg h y x)⟩⟩
                    · obtain rfl : k = 64 := by omega
                      obtain ⟨v, hv⟩ : ∃ v, roundsK ws st 64 = v := ⟨_, rfl⟩
                      rw [hv] at hm
                      have HV : VEq ws st v := ⟨hv⟩
                      have T6 := Lib.hid (show AdL w wr KT BH BV BW (some ⟨bm, om, none⟩) c6 M ws st v 0 from ⟨by
                        rw [adK_0]
                        exact hm.m⟩)
                      clear hm hv hltk hk T5
                      go_wp2_with fail
                      go_loopg [23] 8 (fun gk s23 wr => ∃ k : Nat, k + gk = 8 ∧ s23 = .int .i64 k ∧ AdL w wr KT BH BV BW (some ⟨bm, om, none⟩) c6 M ws st v k)
                      case atStart => exact ⟨0, by omega, rfl, T6.out⟩
                      case round =>
                        obtain ⟨k, hk, rfl, ⟨hm⟩⟩ := hrel
                        by_cases hltk : k < 8
                        · obtain ⟨x, hx⟩ : ∃ x, st.l.getD k 0 = x := ⟨_, rfl⟩
                          obtain ⟨y, hy⟩ : ∃ y, v.l.getD k 0 = y := ⟨_, rfl⟩
                          have gx : wr.cell? ⟨BH, k, none⟩ = some (W x) := ((hm.blk [_, _]).cell k).trans (Ws_get (by rw [adK_get st.l v.l k rfl hltk, hx]))
                          have gy : wr.cell? ⟨BV, k, none⟩ = some (W y) := ((hm.blk []).cell k).trans (by rw [← hy]; exact Ws_getD hltk)
                          have fx := (hm.blk [_, _]).fr k
                          have HX : AdEq st.l v.l k x y := ⟨by rw [← hx, ← hy]; exact adK_set st.l v.l k rfl hltk⟩
                          have HM := Lib.hid hm
                          have AA := fun (a b : Wd) (w : World) => W_add (P := Try.prog) 41 a b w
                          have ST := W_store (P := Try.prog)
                          have SC := fun x => (Value.cells.eq_def (W x)).symm.trans (W_cells x)
                          clear hm hx hy
                          go_wp2
                          go_region
                          go_wp2
                          go_roundg (8 - (k + 1))
                          case measure => exact meas hk hltk
                          case rel => exact ⟨k + 1, meas2 hltk, by go_num, ⟨by
                            have a := (HM.out.put [_, _] k (W (x + y))).drew
                            rw [Ws_set, HX.eq] at a
                            exact a⟩⟩
                        · obtain rfl : k = 8 := by omega
                          have hB := hm
                          rw [adK_8] at hB
                          have HB := Lib.hid (show BlR w wr KT BH (some ⟨bm, om, none⟩) c6 M (shaN h0 M (i + 1)) [] from ⟨by
                            have e := HNX.out
                            rw [e]
                            unfold mixW
                            rw [HWS.eq, HV.eq]
                            exact hB.sub (List.Sublist.cons _ (List.Sublist.cons _ (List.Sublist.refl _))) (List.Sublist.refl _)⟩)
                          have e1 : IntKind.i64.wrap (64 * (i : Int) + 64) = 64 * (i : Int) + 64 := IntWalk.i64_in _ (by omega)
                          clear hm hB hltk hk
                          go_wp2
                          go_roundg (L / 64 - (i + 1))
                          case measure => exact meas HII.out HLT.out
                          case rel => exact ⟨i + 1, meas2 HLT.out, by go_num, HB.out⟩
            · have hie : i = L / 64 := by omega
              have hge : (L : Int) ≤ 64 * i := by have := HLn.out; omega
              obtain ⟨sf, hsf⟩ : ∃ s, shaN h0 M i = s := ⟨_, rfl⟩
              have HSF : SfEq M i sf := ⟨hsf⟩
              rw [hsf] at hm
              have HSH : ShEq l sf := ⟨by
                have e1 := HSF.eq
                rw [hie] at e1
                show outW (shaA h0 (l ++ padL l.length)) = outW sf
                rw [HN.out, HMM.out]
                unfold shaA
                rw [HL.out, e1]⟩
              have m0 := hm.m.sub (List.Sublist.refl _) (List.nil_sublist _)
              have m1 := m0.new 27 Y32
              have B1 := Lib.hid (m1.blk [])
              have m2 := Mst.setRow (bl := []) [] m1 Y32
              have T7 := Lib.hid (show OuL w ((wr.alloc (.cells Y32 27)).setRow wr.heap.size Y32) KT BH wr.heap.size sf 0 from ⟨by
                rw [zero32 _ (outW_len sf)]
                exact m2⟩)
              have I1 := Lib.hid (show (Try.prog.info? 27).map (·.size) = some Y32.size from info_arr32)
              have O1 := Lib.hid (show Y32.all (·.oneCell') = true from by have := b8a_one (upB (outW sf) 0); rw [zero32 _ (outW_len sf)] at this; exact this)
              clear hm m0 m1 m2 hsf hie hlt hi
              go_upto_region 41 with (first | refine wpList_store_row rfl _ _ _ rfl wr.heap.size Y32 rfl rfl 27 _ B1.out I1.out rfl O1.out ?_)
              clear B1 I1 O1
              obtain ⟨BO, hBO⟩ : ∃ BO, wr.heap.size = BO := ⟨_, rfl⟩
              rw [hBO] at T7 ⊢
              clear hBO
              go_wp2_with fail
              go_loopg [25] 32 (fun gk s25 wr => ∃ k : Nat, k + gk = 32 ∧ s25 = .int .i64 k ∧ OuL w wr KT BH BO sf k)
              case atStart => exact ⟨0, by omega, rfl, T7.out⟩
              case round =>
                obtain ⟨k, hk, rfl, ⟨hm⟩⟩ := hrel
                by_cases hltk : k < 32
                · have ho := out_byte sf k hltk
                  obtain ⟨x, hx⟩ : ∃ x, sf.l.getD (k / 4) 0 = x := ⟨_, rfl⟩
                  rw [hx] at ho
                  have gx : wr.cell? ⟨BH, k / 4, none⟩ = some (W x) := ((hm.blk [_]).cell (k / 4)).trans (by rw [← hx]; exact Ws_getD (by rw [H8.l_len]; omega))
                  have go' := ((hm.blk []).cell k).trans (b8a_get (by rw [upB_len _ (by rw [outW_len]; omega), outW_len]; exact hltk))
                  have fo := (hm.blk []).fr k
                  obtain ⟨Z, hZ⟩ : ∃ Z, (upB (outW sf) k).getD k 0 = Z := ⟨_, rfl⟩
                  rw [hZ] at go'
                  have hsr : ∀ w, (binOp .shr 41 (W x) (.int .i64 (24 - 8 * ((k : Int) % 4)))).run Try.prog w = .ok (W (x >>> (24 - 8 * (k % 4)))) w := fun w => by
                    rw [show (24 - 8 * ((k : Int) % 4)) = ((24 - 8 * (k % 4) : Nat) : Int) by omega]
                    exact W_shr _ _ w _ _ (by omega)
                  have hcv : ∀ w, (convert 41 5 (W (x >>> (24 - 8 * (k % 4))))).run Try.prog w = .ok (.int .u8 ((UInt8.ofNat (x.toNat >>> (24 - 8 * (k % 4)))).toNat : Int)) w := W_byteS x _
                  obtain ⟨Bt, hBt⟩ : ∃ B, UInt8.ofNat (x.toNat >>> (24 - 8 * (k % 4))) = B := ⟨_, rfl⟩
                  rw [hBt] at hcv ho
                  have HU : UpEq (outW sf) k Bt := ⟨upB_set _ ho⟩
                  have HM := Lib.hid hm
                  have k0 : (0 : Int) ≤ k := by omega
                  have k1 : (0 : Int) ≤ (k : Int) / 4 := by omega
                  have k2 : (k : Int) / 4 < 8 := by omega
                  have k3 : ((k : Int) / 4).toNat = k / 4 := by omega
                  have k4 : (0 : Int) ≤ (k : Int) % 4 := by omega
                  have k5 : (k : Int) % 4 ≤ 3 := by omega
                  clear hm ho hx hZ hBt
                  go_wp2
                  clear k1 k2 k3 k4 k5
                  go_roundg (32 - (k + 1))
                  case measure => exact meas hk hltk
                  case rel => exact ⟨k + 1, meas2 hltk, by go_num, ⟨by
                    have a := HM.out.put [] k (.int .u8 (Bt.toNat : Int))
                    rw [b8a_set, HU.eq] at a
                    exact a⟩⟩
                · obtain rfl : k = 32 := by omega
                  have e8 : upB (outW sf) 32 = outW sf := by unfold upB; rw [outW_len, List.take_of_length_le (by rw [outW_len]; omega)]; simp
                  rw [e8] at hm
                  obtain ⟨K, hK⟩ : ∃ K, outW sf = K := ⟨_, rfl⟩
                  have hKl : K.length = 32 := by rw [← hK]; rfl
                  rw [hK] at hm
                  have HSK : ShEq2 l K := ⟨by rw [HSH.eq, hK]⟩
                  have L1 := Lib.hid (show wr.rangeAt BO 0 (b8a K).toList from (hm.blk []).rangeL)
                  have I1 := Lib.hid (show (Try.prog.info? 27).map (·.size) = some (b8a K).toList.length by rw [Array.length_toList, b8a_size, hKl]; exact info_arr32)
                  have I2 := Lib.hid (show (Try.prog.info? 27).map (·.size) = some (b8a K).size by rw [b8a_size, hKl]; exact info_arr32)
                  have S2 := Lib.hid (show Y32.size = (b8a K).size by rw [b8a_size, hKl]; rfl)
                  have O2 := Lib.hid (b8a_one K)
                  have B2 := Lib.hid (hm.blk [_, _])
                  have HM := Lib.hid hm
                  clear hm hltk hk hK hKl e8
                  go_wp2_with (first | refine wpList_load_mid rfl _ _ rfl BO 0 rfl (b8a K).toList _ L1.out Try.underlying27 rfl I1.out ?_ | refine wpList_store_row rfl _ _ _ rfl (w.heap.size + 1) (b8a K) rfl rfl 27 _ B2.out I2.out S2.out O2.out ?_)
                  refine bodyPost_ret (results_cell_row rfl _ _ (w.heap.size + 1) 27 _ (0, 0) _ rfl (setRow_heap _ _ _ _ _ _ B2.out) Try.underlying27 rfl I2.out) rfl ⟨by rw [HSK.eq], ?_⟩
                  exact (Mst.setRow (bl := []) [_, _] HM.out _).bel
end Go.Proofs.Ytnbemfceoianiaa
