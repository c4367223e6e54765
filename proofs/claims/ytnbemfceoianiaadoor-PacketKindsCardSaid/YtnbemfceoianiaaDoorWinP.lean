/- Windows in plain numbers: what Look answers, what Take leaves; no program here. -/
import Derived.Laws.BitsAllLaws
namespace Go.Proofs.YtnbemfceoianiaaDoor
set_option linter.unusedVariables false

/-- What Look answers, as a number. -/
def lookV (B C : Int) (S : Nat) (b c : Int) : Int :=
  if b < 1 ∨ 65535 < b ∨ c < 1 ∨ 2147483647 < c then 10 else if B < b ∨ (b = B ∧ C < c) then 0 else if b < B ∨ 64 ≤ C - c then 9 else if S.testBit (C - c).toNat then 8 else 0

/-- What a window holds, in bounds. -/
def winOk (B C : Int) (S : Nat) : Prop := 0 ≤ B ∧ B ≤ 65535 ∧ 0 ≤ C ∧ C ≤ 2147483647 ∧ S < 18446744073709551616

/-- The bits when the greatest counter rises by k: shifted, and the lowest set. -/
def moreB (S k : Nat) : Nat := (S * 2 ^ min k 64) % 18446744073709551616 ||| 1
/-- Bit k set. -/
def bitB (S k : Nat) : Nat := S ||| 2 ^ k

/-- What Take leaves. -/
def takeS (B C : Int) (S : Nat) (b c : Int) : Int × Int × Nat :=
  if lookV B C S b c ≠ 0 then (B, C, S) else if B < b then (b, c, 1) else if C < c then (b, c, moreB S (c - C).toNat) else (B, C, bitB S (C - c).toNat)

/-- Is it a nonce? -/
def okN (b c : Int) : Bool := decide (1 ≤ b ∧ b ≤ 65535 ∧ 1 ≤ c ∧ c ≤ 2147483647)
/-- By boot, then by counter. -/
def lessN (b c b' c' : Int) : Bool := decide (b < b' ∨ (b = b' ∧ c < c'))

theorem lookV_zero {B C : Int} {S : Nat} {b c : Int} (h : lookV B C S b c = 0) :
    (1 ≤ b ∧ b ≤ 65535 ∧ 1 ≤ c ∧ c ≤ 2147483647) ∧ (B < b ∨ (b = B ∧ C < c) ∨ (b = B ∧ 0 ≤ C - c ∧ C - c < 64 ∧ S.testBit (C - c).toNat = false)) := by
  unfold lookV at h
  by_cases h1 : b < 1 ∨ 65535 < b ∨ c < 1 ∨ 2147483647 < c
  · rw [if_pos h1] at h; omega
  · rw [if_neg h1] at h
    refine ⟨by omega, ?_⟩
    by_cases h2 : B < b ∨ (b = B ∧ C < c)
    · rcases h2 with h2 | h2
      · exact .inl h2
      · exact .inr (.inl h2)
    · rw [if_neg h2] at h
      by_cases h3 : b < B ∨ 64 ≤ C - c
      · rw [if_pos h3] at h; omega
      · rw [if_neg h3] at h
        refine .inr (.inr ⟨by omega, by omega, by omega, ?_⟩)
        cases hb : S.testBit (C - c).toNat
        · rfl
        · rw [hb] at h; simp at h

theorem moreB_lt (S k : Nat) : moreB S k < 18446744073709551616 := by
  unfold moreB
  exact Nat.or_lt_two_pow (n := 64) (Nat.mod_lt _ (by decide)) (by decide)
theorem bitB_lt (S k : Nat) (hS : S < 18446744073709551616) (hk : k < 64) : bitB S k < 18446744073709551616 := by
  unfold bitB
  exact Nat.or_lt_two_pow (n := 64) hS (Nat.pow_lt_pow_right (by omega) hk)

theorem takeS_ok {B C : Int} {S : Nat} {b c : Int} (h : winOk B C S) : winOk (takeS B C S b c).1 (takeS B C S b c).2.1 (takeS B C S b c).2.2 := by
  unfold takeS
  by_cases hl : lookV B C S b c = 0
  · obtain ⟨h1, h2⟩ := lookV_zero hl
    obtain ⟨hB, hB', hC, hC', hS⟩ := h
    rw [if_neg (by simp [hl])]
    by_cases k1 : B < b
    · rw [if_pos k1]; show winOk b c 1; exact ⟨by omega, by omega, by omega, by omega, by decide⟩
    · rw [if_neg k1]
      by_cases k2 : C < c
      · rw [if_pos k2]; show winOk b c _; exact ⟨by omega, by omega, by omega, by omega, moreB_lt _ _⟩
      · rw [if_neg k2]; show winOk B C _; exact ⟨by omega, by omega, by omega, by omega, bitB_lt _ _ hS (by omega)⟩
  · rw [if_pos hl]; exact h

/-- The window (B, C, S) holds just the nonces of m. -/
structure WinIs (B C : Int) (S : Nat) (m : List (Int × Int)) : Prop where
  ok : winOk B C S
  right : ∀ n ∈ m, 1 ≤ n.1 ∧ n.1 ≤ 65535 ∧ 1 ≤ n.2 ∧ n.2 ≤ 2147483647
  top : ∀ n ∈ m, n.1 < B ∨ (n.1 = B ∧ n.2 ≤ C)
  inn : m = [] ∧ B = 0 ∧ C = 0 ∨ (B, C) ∈ m
  bits : ∀ k, k < 64 → (S.testBit k = true ↔ (B, C - (k : Int)) ∈ m)

theorem WinIs.zero : WinIs 0 0 0 [] := ⟨⟨by omega, by omega, by omega, by omega, by decide⟩, by simp, by simp, .inl ⟨rfl, rfl, rfl⟩, by simp⟩

/-- What is answered OK was not there. -/
theorem WinIs.fresh {B C : Int} {S : Nat} {m : List (Int × Int)} (h : WinIs B C S m) {b c : Int} (hl : lookV B C S b c = 0) : (b, c) ∉ m := by
  intro hm
  obtain ⟨_, h2⟩ := lookV_zero hl
  have ht := h.top _ hm
  simp only at ht
  rcases h2 with h2 | h2 | ⟨rfl, h3, h4, h5⟩
  · omega
  · omega
  · have := (h.bits (C - c).toNat (by omega)).2 (by
      have e : C - ((C - c).toNat : Int) = c := by omega
      rw [e]; exact hm)
    rw [h5] at this; cases this

theorem testBit_moreB (S k j : Nat) (hj : j < 64) : (moreB S k).testBit j = (decide (j = 0) || (decide (k ≤ j) && S.testBit (j - k))) := by
  unfold moreB
  rw [Nat.testBit_or, show (18446744073709551616 : Nat) = 2 ^ 64 from by decide, Nat.testBit_mod_two_pow]
  rw [show S * 2 ^ min k 64 = S <<< (min k 64) from (Nat.shiftLeft_eq _ _).symm, Nat.testBit_shiftLeft]
  have h1 : Nat.testBit 1 j = decide (j = 0) := by
    rcases j with _ | j
    · rfl
    · simp [Nat.testBit_succ]
  rw [h1]
  by_cases hk : k ≤ j
  · have : min k 64 = k := by omega
    rw [this]
    simp [hj, hk, Bool.or_comm]
  · have hn : ¬ (j ≥ min k 64) := by omega
    simp [hk, hn]

theorem testBit_bitB (S k j : Nat) : (bitB S k).testBit j = (S.testBit j || decide (k = j)) := by
  unfold bitB
  rw [Nat.testBit_or, Nat.testBit_two_pow]

theorem WinIs.take {B C : Int} {S : Nat} {m : List (Int × Int)} (h : WinIs B C S m) {b c : Int} (hl : lookV B C S b c = 0) :
    WinIs (takeS B C S b c).1 (takeS B C S b c).2.1 (takeS B C S b c).2.2 (m ++ [(b, c)]) := by
  have hok := takeS_ok (b := b) (c := c) h.ok
  obtain ⟨h1, h2⟩ := lookV_zero hl
  have hr : ∀ n ∈ m ++ [(b, c)], 1 ≤ n.1 ∧ n.1 ≤ 65535 ∧ 1 ≤ n.2 ∧ n.2 ≤ 2147483647 := by
    intro n hn
    rcases List.mem_append.1 hn with hn | hn
    · exact h.right n hn
    · simp at hn; subst hn; exact h1
  revert hok
  unfold takeS
  rw [if_neg (by simp [hl])]
  by_cases k1 : B < b
  · rw [if_pos k1]
    show winOk b c 1 → WinIs b c 1 _
    intro hok
    refine ⟨hok, hr, ?_, .inr (by simp), ?_⟩
    · intro n hn
      rcases List.mem_append.1 hn with hn | hn
      · have := h.top n hn; omega
      · simp at hn; subst hn; simp
    · intro k hk
      constructor
      · intro hb
        have : k = 0 := by
          rcases k with _ | k
          · rfl
          · simp [Nat.testBit_succ] at hb
        subst this
        simp
      · intro hm
        rcases List.mem_append.1 hm with hm | hm
        · have := h.top _ hm; simp only at this; omega
        · simp at hm
          have : k = 0 := by omega
          subst this; rfl
  · rw [if_neg k1]
    by_cases k2 : C < c
    · have hbB : b = B := by omega
      subst hbB
      rw [if_pos k2]
      show winOk b c _ → WinIs b c _ _
      intro hok
      refine ⟨hok, hr, ?_, .inr (by simp), ?_⟩
      · intro n hn
        rcases List.mem_append.1 hn with hn | hn
        · have := h.top n hn; omega
        · simp at hn; subst hn; simp
      · intro k hk
        simp only
        rw [testBit_moreB _ _ _ hk]
        constructor
        · intro hb
          rw [Bool.or_eq_true, decide_eq_true_eq, Bool.and_eq_true, decide_eq_true_eq] at hb
          rcases hb with rfl | ⟨hb1, hb2⟩
          · simp
          · have := (h.bits (k - (c - C).toNat) (by omega)).1 hb2
            apply List.mem_append_left
            have e : C - ((k - (c - C).toNat : Nat) : Int) = c - (k : Int) := by omega
            rw [← e]; exact this
        · intro hm
          rw [Bool.or_eq_true, decide_eq_true_eq, Bool.and_eq_true, decide_eq_true_eq]
          rcases List.mem_append.1 hm with hm | hm
          · right
            have ht := h.top _ hm
            simp only at ht
            have hkk : (c - C).toNat ≤ k := by omega
            refine ⟨hkk, (h.bits _ (by omega)).2 ?_⟩
            have e : C - ((k - (c - C).toNat : Nat) : Int) = c - (k : Int) := by omega
            rw [e]; exact hm
          · left
            simp at hm; omega
    · rw [if_neg k2]
      have hbB : b = B ∧ 0 ≤ C - c ∧ C - c < 64 := by omega
      obtain ⟨rfl, h3, h4⟩ := hbB
      show winOk b C _ → WinIs b C _ _
      intro hok
      refine ⟨hok, hr, ?_, ?_, ?_⟩
      · intro n hn
        rcases List.mem_append.1 hn with hn | hn
        · have := h.top n hn; omega
        · simp at hn; subst hn; simp; omega
      · rcases h.inn with ⟨_, rfl, rfl⟩ | hin
        · omega
        · exact .inr (List.mem_append_left _ hin)
      · intro k hk
        simp only
        rw [testBit_bitB, Bool.or_eq_true, decide_eq_true_eq, h.bits k hk]
        constructor
        · rintro (hb | hb)
          · exact List.mem_append_left _ hb
          · apply List.mem_append_right
            subst hb
            simp; omega
        · intro hm
          rcases List.mem_append.1 hm with hm | hm
          · exact .inl hm
          · right
            simp at hm; omega

theorem takeS_same {B C : Int} {S : Nat} {b c : Int} (h : lookV B C S b c ≠ 0) : takeS B C S b c = (B, C, S) := by
  unfold takeS
  rw [if_pos h]
theorem WinIs.not_taken {B C : Int} {S : Nat} {m : List (Int × Int)} (h : WinIs B C S m) {b c : Int} (hl : lookV B C S b c ≠ 0) :
    WinIs (takeS B C S b c).1 (takeS B C S b c).2.1 (takeS B C S b c).2.2 m := by
  rw [takeS_same hl]
  exact h
end Go.Proofs.YtnbemfceoianiaaDoor
