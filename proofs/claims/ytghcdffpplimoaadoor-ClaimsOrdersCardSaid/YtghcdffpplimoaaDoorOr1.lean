/- Which claims are ahead: plain; numbers' texts, joined by spaces, tell the numbers. Over any program. -/
import Derived.Test.YtghcdffpplimoaaDoorBaseA
import Derived.Lib.ItoaLen
import Derived.Lib.ItoaMem
import Derived.Lib.Join
namespace Go.Proofs.YtghcdffpplimoaaDoor
set_option linter.unusedVariables false
open Go.RowKit

def cmpI (x y : Int) : Int := if x < y then -1 else if y < x then 1 else 0
def lexL : List Int → List Int → Bool
  | a :: as, b :: bs => if a = b then lexL as bs else decide (a < b)
  | _, _ => false
def cmpL : List Int → List Int → Int
  | a :: as, b :: bs => if a = b then cmpL as bs else if a < b then -1 else 1
  | _, _ => 0
/-- The first that is not zero. -/
def orL : List Int → Int
  | [] => 0
  | a :: l => if a = 0 then orL l else a
theorem or_cmp : ∀ (as bs : List Int), as.length = bs.length → orL (List.zipWith cmpI as bs) = cmpL as bs
  | [], [], _ => rfl
  | a :: as, b :: bs, h => by
    have ih := or_cmp as bs (by simpa using h)
    simp only [List.zipWith_cons_cons, orL, cmpL, ih, cmpI]
    by_cases h1 : a = b
    · subst h1
      simp
    · rw [if_neg h1]
      by_cases h2 : a < b
      · simp [h2]
      · have : b < a := by omega
        simp [h2, this]
  | [], _ :: _, h => by simp at h
  | _ :: _, [], h => by simp at h
theorem cmpL_cases : ∀ (as bs : List Int), as.length = bs.length →
    (cmpL as bs = 0 ∧ as = bs ∧ lexL as bs = false ∧ lexL bs as = false) ∨ (cmpL as bs = -1 ∧ as ≠ bs ∧ lexL as bs = true ∧ lexL bs as = false) ∨ (cmpL as bs = 1 ∧ as ≠ bs ∧ lexL as bs = false ∧ lexL bs as = true)
  | [], [], _ => .inl ⟨rfl, rfl, rfl, rfl⟩
  | a :: as, b :: bs, h => by
    have ih := cmpL_cases as bs (by simpa using h)
    simp only [cmpL, lexL]
    by_cases h1 : a = b
    · subst h1
      simpa using ih
    · have h1' : ¬ b = a := fun h => h1 h.symm
      rw [if_neg h1, if_neg h1, if_neg h1']
      by_cases h2 : a < b
      · refine .inr (.inl ⟨if_pos h2, fun h => h1 (by injection h), decide_eq_true h2, decide_eq_false (by omega)⟩)
      · refine .inr (.inr ⟨if_neg h2, fun h => h1 (by injection h), decide_eq_false h2, decide_eq_true (by omega)⟩)
  | [], _ :: _, h => by simp at h
  | _ :: _, [], h => by simp at h
theorem cmpL_trans : ∀ (as bs cs : List Int), as.length = bs.length → bs.length = cs.length → cmpL as bs = -1 → cmpL bs cs = -1 → cmpL as cs = -1
  | [], [], [], _, _, h, _ => by simp [cmpL] at h
  | a :: as, b :: bs, c :: cs, h1, h2, h3, h4 => by
    have ih := cmpL_trans as bs cs (by simpa using h1) (by simpa using h2)
    simp only [cmpL] at h3 h4 ⊢
    by_cases e1 : a = b
    · subst e1
      rw [if_pos rfl] at h3
      by_cases e2 : a = c
      · subst e2
        rw [if_pos rfl] at h4 ⊢
        exact ih h3 h4
      · rw [if_neg e2] at h4 ⊢
        exact h4
    · rw [if_neg e1] at h3
      have l1 : a < b := by
        by_cases l : a < b
        · exact l
        · rw [if_neg l] at h3; cases h3
      by_cases e2 : b = c
      · subst e2
        rw [if_neg e1, if_pos l1]
      · rw [if_neg e2] at h4
        have l2 : b < c := by
          by_cases l : b < c
          · exact l
          · rw [if_neg l] at h4; cases h4
        rw [if_neg (by omega), if_pos (by omega)]
  | [], [], _ :: _, _, h, _, _ => by simp at h
  | [], _ :: _, _, h, _, _, _ => by simp at h
  | _ :: _, [], _, h, _, _, _ => by simp at h
  | _ :: _, _ :: _, [], _, h, _, _ => by simp at h

/-- What digits say. -/
def decV (l : List UInt8) : Nat := l.foldl (fun a b => a * 10 + (b.toNat - 48)) 0
theorem decDigits_spec (u : Nat) : decV (Lib.decDigits u) = u ∧ (∀ b ∈ Lib.decDigits u, 48 ≤ b.toNat ∧ b.toNat ≤ 57) ∧ Lib.decDigits u ≠ [] := by
  induction u using Nat.strongRecOn with
  | ind u ih =>
    rw [Lib.decDigits]
    by_cases h : u < 10
    · rw [dif_pos h]
      have e : (UInt8.ofNat (48 + u)).toNat = 48 + u := by rw [UInt8.toNat_ofNat']; omega
      refine ⟨?_, ?_, by simp⟩
      · simp only [decV, List.foldl_cons, List.foldl_nil, e]
        omega
      · intro b hb
        simp only [List.mem_singleton] at hb
        subst hb
        rw [e]
        omega
    · rw [dif_neg h]
      obtain ⟨h1, h2, h3⟩ := ih (u / 10) (by omega)
      have e : (UInt8.ofNat (48 + u % 10)).toNat = 48 + u % 10 := by rw [UInt8.toNat_ofNat']; omega
      refine ⟨?_, ?_, by simp⟩
      · unfold decV at h1 ⊢
        rw [List.foldl_append, h1]
        simp only [List.foldl_cons, List.foldl_nil, e]
        omega
      · intro b hb
        rcases List.mem_append.1 hb with hb | hb
        · exact h2 b hb
        · simp only [List.mem_singleton] at hb
          subst hb
          rw [e]
          omega
theorem itoa_inj {n m : Int} (h : Lib.itoa n = Lib.itoa m) : n = m := by
  have hd : ∀ (u v : Nat), 45 :: Lib.decDigits u = Lib.decDigits v → False := by
    intro u v h
    have := (decDigits_spec v).2.1 45 (by rw [← h]; simp)
    exact absurd this.1 (by decide)
  have he : ∀ u v : Nat, Lib.decDigits u = Lib.decDigits v → u = v := by
    intro u v h
    rw [← (decDigits_spec u).1, h, (decDigits_spec v).1]
  unfold Lib.itoa at h
  by_cases h1 : n < 0 <;> by_cases h2 : m < 0
  · rw [if_pos h1, if_pos h2] at h
    injection h with _ h
    have := he _ _ h
    omega
  · rw [if_pos h1, if_neg h2] at h
    exact (hd _ _ h).elim
  · rw [if_neg h1, if_pos h2] at h
    exact (hd _ _ h.symm).elim
  · rw [if_neg h1, if_neg h2] at h
    have := he _ _ h
    omega
theorem itoa_no32 (n : Int) : (32 : UInt8) ∉ Lib.itoa n := by
  have hd : ∀ u : Nat, (32 : UInt8) ∉ Lib.decDigits u := fun u h => absurd ((decDigits_spec u).2.1 _ h).1 (by decide)
  unfold Lib.itoa
  split
  · intro h
    rcases List.mem_cons.1 h with h | h
    · exact absurd h (by decide)
    · exact hd _ h
  · exact hd _
theorem split_eq : ∀ (a b r s : List UInt8), (32 : UInt8) ∉ a → (32 : UInt8) ∉ b → a ++ 32 :: r = b ++ 32 :: s → a = b ∧ r = s
  | [], [], r, s, _, _, h => by
    simp at h
    exact ⟨rfl, h⟩
  | [], y :: b, r, s, _, hb, h => by
    simp at h
    exact absurd (h.1 ▸ List.mem_cons_self ..) hb
  | x :: a, [], r, s, ha, _, h => by
    simp at h
    exact absurd (h.1 ▸ List.mem_cons_self ..) ha
  | x :: a, y :: b, r, s, ha, hb, h => by
    simp only [List.cons_append, List.cons.injEq] at h
    obtain ⟨rfl, h⟩ := h
    have := split_eq a b r s (fun h => ha (List.mem_cons_of_mem _ h)) (fun h => hb (List.mem_cons_of_mem _ h)) h
    exact ⟨by rw [this.1], this.2⟩
/-- Four numbers' text. -/
def txt4 (a b c d : Int) : List UInt8 := Lib.itoa a ++ 32 :: (Lib.itoa b ++ 32 :: (Lib.itoa c ++ 32 :: Lib.itoa d))
theorem txt4_join (a b c d : Int) : Lib.join [Lib.itoa a, Lib.itoa b, Lib.itoa c, Lib.itoa d] [32] = txt4 a b c d := by
  rw [Lib.join_cons]
  simp [Lib.joinTail, txt4]
theorem txt4_inj {a b c d a' b' c' d' : Int} (h : txt4 a b c d = txt4 a' b' c' d') : a = a' ∧ b = b' ∧ c = c' ∧ d = d' := by
  unfold txt4 at h
  obtain ⟨h1, h⟩ := split_eq _ _ _ _ (itoa_no32 _) (itoa_no32 _) h
  obtain ⟨h2, h⟩ := split_eq _ _ _ _ (itoa_no32 _) (itoa_no32 _) h
  obtain ⟨h3, h4⟩ := split_eq _ _ _ _ (itoa_no32 _) (itoa_no32 _) h
  exact ⟨itoa_inj h1, itoa_inj h2, itoa_inj h3, itoa_inj h4⟩
end Go.Proofs.YtghcdffpplimoaaDoor
