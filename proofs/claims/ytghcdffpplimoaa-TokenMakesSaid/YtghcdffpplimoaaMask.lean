/- Masks of roles in plain words; nothing here names the program. -/
import Derived.Test.YtghcdffpplimoaaBaseA
import Derived.Laws.BitsAll
import Derived.Laws.BitsLemmas
namespace Go.Proofs.Ytghcdffpplimoaa
set_option linter.unusedVariables false
open Go.RowKit

/-- Has mask a all roles of b? -/
def covB (a b : Nat) : Bool := (List.range 8).all fun r => !b.testBit r || a.testBit r
theorem covB_iff (a b : Nat) : covB a b = true ↔ ∀ r, r < 8 → b.testBit r = true → a.testBit r = true := by
  unfold covB
  rw [List.all_eq_true]
  constructor
  · intro h r hr hb
    have := h r (List.mem_range.2 hr)
    rw [hb] at this
    simpa using this
  · intro h r hr
    have := h r (List.mem_range.1 hr)
    cases hb : b.testBit r with
    | false => simp
    | true => simp [this hb]
theorem bit_high {a r : Nat} (ha : a < 256) (hr : 8 ≤ r) : a.testBit r = false := Nat.testBit_lt_two_pow (Nat.lt_of_lt_of_le (show a < 2 ^ 8 from ha) (Nat.pow_le_pow_right (by decide) hr))
theorem andNot_i64 (b a : Nat) (ha : a < 256) (hb : b < 256) : (bits .andNot .i64 (b : Int) (a : Int) == 0) = covB a b := by
  have h1 : bits .andNot .i64 (b : Int) (a : Int) = ((b &&& (18446744073709551615 - a) : Nat) : Int) := by
    simp only [bits, BitVec.ofInt_natCast]
    have e : ((BitVec.ofNat IntKind.i64.bits b &&& ~~~BitVec.ofNat IntKind.i64.bits a).toNat) = b &&& (18446744073709551615 - a) := by
      rw [BitVec.toNat_and, BitVec.toNat_not, BitVec.toNat_ofNat, BitVec.toNat_ofNat]
      simp only [IntKind.bits]
      rw [Nat.mod_eq_of_lt (by omega), Nat.mod_eq_of_lt (by omega)]
    rw [e]
    have : b &&& (18446744073709551615 - a) ≤ b := Nat.and_le_left
    rw [IntKind.wrap_i64]
    omega
  rw [h1, Bool.eq_iff_iff, covB_iff]
  simp only [beq_iff_eq]
  constructor
  · intro h r hr hbit
    have h2 : b &&& (18446744073709551615 - a) = 0 := by omega
    have h3 := congrArg (fun x => x.testBit r) h2
    simp only [Nat.testBit_and, Nat.zero_testBit, hbit, Bool.true_and] at h3
    have h4 : (18446744073709551615 - a) = 2 ^ 64 - (a + 1) := by omega
    rw [h4, Nat.testBit_two_pow_sub_succ (by omega)] at h3
    simpa [show r < 64 by omega] using h3
  · intro h
    have h2 : b &&& (18446744073709551615 - a) = 0 := by
      apply Nat.eq_of_testBit_eq
      intro r
      have h4 : (18446744073709551615 - a) = 2 ^ 64 - (a + 1) := by omega
      rw [Nat.testBit_and, Nat.zero_testBit, h4, Nat.testBit_two_pow_sub_succ (by omega)]
      rcases Nat.lt_or_ge r 8 with hr | hr
      · cases hb' : b.testBit r with
        | false => simp
        | true => simp [h r hr hb']
      · simp [bit_high hb hr]
    rw [h2]
    rfl

/-- The mask of roles. -/
def maskN (l : List Int) : Nat := l.foldl (fun m r => m ||| 2 ^ r.toNat) 0
def rolesOk (l : List Int) : Bool := l.all fun r => decide (0 ≤ r) && decide (r < 8)
theorem rolesOk_iff (l : List Int) : rolesOk l = true ↔ ∀ r ∈ l, 0 ≤ r ∧ r < 8 := by
  unfold rolesOk
  rw [List.all_eq_true]
  simp
theorem maskN_snoc (l : List Int) (r : Int) : maskN (l ++ [r]) = maskN l ||| 2 ^ r.toNat := by simp [maskN]
theorem maskN_lt (l : List Int) (h : ∀ r ∈ l, 0 ≤ r ∧ r < 8) : maskN l < 256 := by
  suffices H : ∀ (l : List Int) (m : Nat), m < 2 ^ 8 → (∀ r ∈ l, 0 ≤ r ∧ r < 8) → l.foldl (fun m r => m ||| 2 ^ r.toNat) m < 2 ^ 8 from H l 0 (by decide) h
  intro l
  induction l with
  | nil => exact fun m hm _ => hm
  | cons r l ih =>
    intro m hm hl
    have hr := hl r (List.mem_cons_self ..)
    exact ih _ (Nat.or_lt_two_pow hm (Nat.pow_lt_pow_right (by decide) (by omega))) fun q hq => hl q (List.mem_cons_of_mem _ hq)
theorem maskN_bit (l : List Int) (hl : ∀ r ∈ l, 0 ≤ r) (i : Nat) : (maskN l).testBit i = true ↔ (i : Int) ∈ l := by
  suffices H : ∀ (l : List Int) (m : Nat), (∀ r ∈ l, 0 ≤ r) → ((l.foldl (fun m r => m ||| 2 ^ r.toNat) m).testBit i = true ↔ (m.testBit i = true ∨ (i : Int) ∈ l)) by
    have := H l 0 hl
    simpa [maskN] using this
  intro l
  induction l with
  | nil => simp
  | cons r l ih =>
    intro m hl
    rw [List.foldl_cons, ih _ (fun q hq => hl q (List.mem_cons_of_mem _ hq)), Nat.testBit_or, Nat.testBit_two_pow]
    have hr := hl r (List.mem_cons_self ..)
    simp only [Bool.or_eq_true, decide_eq_true_eq, List.mem_cons]
    constructor
    · rintro ((h | h) | h)
      · exact .inl h
      · exact .inr (.inl (by omega))
      · exact .inr (.inr h)
    · rintro (h | h | h)
      · exact .inl (.inl h)
      · exact .inl (.inr (by omega))
      · exact .inr h
theorem or_i64 (m k : Nat) (hm : m < 256) (hk : k < 8) : bits .or .i64 (m : Int) (wrap64 (2 ^ k)) = ((m ||| 2 ^ k : Nat) : Int) := by
  have h2 : 2 ^ k < 256 := Nat.lt_of_lt_of_le (Nat.pow_lt_pow_right (by omega) hk) (by decide)
  have hw : wrap64 (2 ^ k) = ((2 ^ k : Nat) : Int) := by
    rw [show ((2 : Int) ^ k) = ((2 ^ k : Nat) : Int) by simp]
    generalize 2 ^ k = p at *
    unfold wrap64
    omega
  rw [hw]
  exact (bits_nat .i64 63 (by decide) (fun n h0 h1 => by rw [IntKind.wrap_i64]; omega) m (2 ^ k) (by omega) (by omega)).2

/-- The roles of a mask, from the least on. -/
def rolesN (m : Nat) : List Int := ((List.range 8).filter fun r => m.testBit r).map fun (r : Nat) => (r : Int)
def rolesK (m k : Nat) : List Int := ((List.range k).filter fun r => m.testBit r).map fun (r : Nat) => (r : Int)
theorem rolesK_succ (m k : Nat) : rolesK m (k + 1) = if m.testBit k then rolesK m k ++ [(k : Int)] else rolesK m k := by
  unfold rolesK
  rw [List.range_succ, List.filter_append, List.map_append]
  by_cases h : m.testBit k <;> simp [h]
theorem rolesK_len (m k : Nat) : (rolesK m k).length ≤ k := by
  unfold rolesK
  rw [List.length_map]
  exact Nat.le_trans (List.length_filter_le _ _) (by simp)
theorem rolesN_mem (m : Nat) (x : Int) : x ∈ rolesN m ↔ ∃ r : Nat, r < 8 ∧ m.testBit r = true ∧ x = r := by
  unfold rolesN
  simp only [List.mem_map, List.mem_filter, List.mem_range]
  constructor
  · rintro ⟨r, ⟨h1, h2⟩, rfl⟩; exact ⟨r, h1, h2, rfl⟩
  · rintro ⟨r, h1, h2, rfl⟩; exact ⟨r, ⟨h1, h2⟩, rfl⟩
theorem and_i64 (m k : Nat) (hm : m < 256) : (bits .and .i64 ((m : Int) / 2 ^ k) 1 == 1) = m.testBit k := by
  have h0 : (m : Int) / 2 ^ k = ((m / 2 ^ k : Nat) : Int) := by simp
  have h1 : m / 2 ^ k ≤ m := Nat.div_le_self _ _
  rw [h0, show (1 : Int) = ((1 : Nat) : Int) from rfl, (bits_nat .i64 63 (by decide) (fun n h0 h1 => by rw [IntKind.wrap_i64]; omega) (m / 2 ^ k) 1 (by omega) (by omega)).1, Nat.testBit_eq_decide_div_mod_eq, Nat.and_one_is_mod, Bool.eq_iff_iff]
  simp only [beq_iff_eq, decide_eq_true_eq]
  omega
theorem mask_roles (m : Nat) (hm : m < 256) : maskN (rolesN m) = m := by
  apply Nat.eq_of_testBit_eq
  intro i
  rw [Bool.eq_iff_iff, maskN_bit _ (by intro r hr; obtain ⟨q, _, _, rfl⟩ := (rolesN_mem m r).1 hr; omega), rolesN_mem]
  constructor
  · rintro ⟨r, h1, h2, h3⟩
    have : i = r := by omega
    rw [this]; exact h2
  · intro h
    refine ⟨i, ?_, h, rfl⟩
    rcases Nat.lt_or_ge i 8 with h1 | h1
    · exact h1
    · rw [bit_high hm h1] at h; cases h
theorem covB_refl (a : Nat) : covB a a = true := (covB_iff a a).2 fun _ _ h => h
theorem covB_trans {a b c : Nat} (h : covB a b = true) (k : covB b c = true) : covB a c = true := (covB_iff a c).2 fun r hr hc => (covB_iff a b).1 h r hr ((covB_iff b c).1 k r hr hc)
theorem covB_anti {a b : Nat} (ha : a < 256) (hb : b < 256) (h : covB a b = true) (k : covB b a = true) : a = b := by
  apply Nat.eq_of_testBit_eq
  intro i
  rcases Nat.lt_or_ge i 8 with h1 | h1
  · rw [Bool.eq_iff_iff]; exact ⟨(covB_iff b a).1 k i h1, (covB_iff a b).1 h i h1⟩
  · rw [bit_high ha h1, bit_high hb h1]
end Go.Proofs.Ytghcdffpplimoaa
