/- Check of any step; what Check says. -/
import Derived.Test.YtnopmdhjamkoaaaDoorSc2
import Derived.Test.YtnopmdhjamkoaaaDoorSc2r
import Derived.Test.YtnopmdhjamkoaaaDoorSd
namespace Go.Proofs.YtnopmdhjamkoaaaDoor
set_option linter.unusedVariables false
set_option linter.unusedSimpArgs false
open Go.RowKit
theorem beqF {a b : Int} (h : a ≠ b) : (a == b) = false := by simpa using h
theorem scrc_any (k who n : Int) (A : Option Addr) (len cap : Nat) : ScP k who n A len cap (scC k who n len) ∧ RcP k who n A len cap (scC k who n len) := by
  by_cases h1 : k < 0
  · rw [show scC k who n len = 13 by unfold scC; rw [if_pos (.inl h1)]]
    exact ⟨sc_no k who n A len cap (.inl h1), rc_no1 k who n A len cap h1⟩
  by_cases h2 : 11 ≤ k
  · rw [show scC k who n len = 13 by unfold scC; rw [if_pos (.inr h2)]]
    exact ⟨sc_no k who n A len cap (.inr h2), rc_no2 k who n A len cap (by omega) (by omega)⟩
  have k0 : 0 ≤ k := by omega
  have k1 : k < 11 := by omega
  have E1 : scC k who n len = if who < 0 ∨ 65535 < who ∨ n < 0 ∨ 2147483647 < n then 10 else if k = 0 ∧ (n < 1 ∨ 200 < n) then 10
      else if 400 < len ∨ (k = 2 ∧ 64 < len) then 2 else if (k = 3 ∧ len ≠ 4) ∨ (0 < len ∧ k ≠ 2 ∧ k ≠ 3 ∧ k ≠ 10) then 3 else 0 := by
    unfold scC
    rw [if_neg (by omega)]
  rw [E1]
  clear E1
  by_cases a1 : who < 0
  · rw [if_pos (.inl a1)]
    exact ⟨sc_who1 k who n A len cap k0 k1 a1, rc_who1 k who n A len cap k0 k1 a1⟩
  by_cases a2 : 65535 < who
  · rw [if_pos (.inr (.inl a2))]
    exact ⟨sc_who2 k who n A len cap k0 k1 (by omega) a2, rc_who2 k who n A len cap k0 k1 (by omega) a2⟩
  have w0 : 0 ≤ who := by omega
  have w1 : who ≤ 65535 := by omega
  by_cases a3 : n < 0
  · rw [if_pos (.inr (.inr (.inl a3)))]
    exact ⟨sc_n1 k who n A len cap k0 k1 w0 w1 a3, rc_n1 k who n A len cap k0 k1 w0 w1 a3⟩
  by_cases a4 : 2147483647 < n
  · rw [if_pos (.inr (.inr (.inr a4)))]
    exact ⟨sc_n2 k who n A len cap k0 k1 w0 w1 (by omega) a4, rc_n2 k who n A len cap k0 k1 w0 w1 (by omega) a4⟩
  have n0 : 0 ≤ n := by omega
  have n1 : n ≤ 2147483647 := by omega
  rw [if_neg (by omega)]
  by_cases z : k = 0
  · subst z
    by_cases b1 : n < 1
    · rw [if_pos ⟨rfl, .inl b1⟩]
      exact ⟨sc_k0n1 who n A len cap w0 w1 n0 n1 b1, rc_k0n1 who n A len cap w0 w1 n0 n1 b1⟩
    by_cases b2 : 200 < n
    · rw [if_pos ⟨rfl, .inr b2⟩]
      exact ⟨sc_k0n2 who n A len cap w0 w1 n0 n1 (by omega) b2, rc_k0n2 who n A len cap w0 w1 n0 n1 (by omega) b2⟩
    rw [if_neg (by omega)]
    by_cases l : 400 < len
    · rw [if_pos (.inl l)]
      exact ⟨sc_k0l who n A len cap w0 w1 n0 n1 (by omega) (by omega) (by omega), rc_k0l who n A len cap w0 w1 n0 n1 (by omega) (by omega) (by omega)⟩
    rw [if_neg (by omega)]
    by_cases m : len = 0
    · rw [if_neg (by omega)]
      exact ⟨sc_k0b who n A len cap w0 w1 n0 n1 (by omega) (by omega) m, rc_k0b who n A len cap w0 w1 n0 n1 (by omega) (by omega) m⟩
    · rw [if_pos (by omega)]
      exact ⟨sc_k0a who n A len cap w0 w1 n0 n1 (by omega) (by omega) (by omega) (by omega), rc_k0a who n A len cap w0 w1 n0 n1 (by omega) (by omega) (by omega) (by omega)⟩
  rw [if_neg (by omega)]
  by_cases z2 : k = 2
  · subst z2
    by_cases l : 400 < len
    · rw [if_pos (.inl l)]
      exact ⟨sc_k2l who n A len cap w0 w1 n0 n1 (by omega), rc_k2l who n A len cap w0 w1 n0 n1 (by omega)⟩
    by_cases m : 64 < len
    · rw [if_pos (by omega)]
      exact ⟨sc_k2a who n A len cap w0 w1 n0 n1 (by omega) (by omega), rc_k2a who n A len cap w0 w1 n0 n1 (by omega) (by omega)⟩
    · rw [if_neg (by omega), if_neg (by omega)]
      exact ⟨sc_k2b who n A len cap w0 w1 n0 n1 (by omega) (by omega), rc_k2b who n A len cap w0 w1 n0 n1 (by omega) (by omega)⟩
  by_cases z3 : k = 3
  · subst z3
    by_cases l : 400 < len
    · rw [if_pos (.inl l)]
      exact ⟨sc_k3l who n A len cap w0 w1 n0 n1 (by omega), rc_k3l who n A len cap w0 w1 n0 n1 (by omega)⟩
    rw [if_neg (by omega)]
    by_cases m : len < 4
    · rw [if_pos (by omega)]
      exact ⟨sc_k3a who n A len cap w0 w1 n0 n1 (by omega) (by omega), rc_k3a who n A len cap w0 w1 n0 n1 (by omega) (by omega)⟩
    by_cases m2 : 4 < len
    · rw [if_pos (by omega)]
      exact ⟨sc_k3b who n A len cap w0 w1 n0 n1 (by omega) (by omega), rc_k3b who n A len cap w0 w1 n0 n1 (by omega) (by omega)⟩
    · rw [if_neg (by omega)]
      exact ⟨sc_k3c who n A len cap w0 w1 n0 n1 (by omega), rc_k3c who n A len cap w0 w1 n0 n1 (by omega)⟩
  by_cases z4 : k = 10
  · subst z4
    by_cases l : 400 < len
    · rw [if_pos (.inl l)]
      exact ⟨sc_k10l who n A len cap w0 w1 n0 n1 (by omega), rc_k10l who n A len cap w0 w1 n0 n1 (by omega)⟩
    rw [if_neg (by omega), if_neg (by omega)]
    exact ⟨sc_k10b who n A len cap w0 w1 n0 n1 (by omega), rc_k10b who n A len cap w0 w1 n0 n1 (by omega)⟩
  by_cases l : 400 < len
  · rw [if_pos (.inl l)]
    exact ⟨sc_kxl k who n A len cap k0 k1 (beqF z) (beqF z2) (beqF z3) (beqF z4) w0 w1 n0 n1 (by omega), rc_kxl k who n A len cap k0 k1 (beqF z) (beqF z2) (beqF z3) (beqF z4) w0 w1 n0 n1 (by omega)⟩
  rw [if_neg (by omega)]
  by_cases m : len = 0
  · rw [if_neg (by omega)]
    exact ⟨sc_kxb k who n A len cap k0 k1 (beqF z) (beqF z2) (beqF z3) (beqF z4) w0 w1 n0 n1 m, rc_kxb k who n A len cap k0 k1 (beqF z) (beqF z2) (beqF z3) (beqF z4) w0 w1 n0 n1 m⟩
  · rw [if_pos (by omega)]
    exact ⟨sc_kxa k who n A len cap k0 k1 (beqF z) (beqF z2) (beqF z3) (beqF z4) w0 w1 n0 n1 (by omega) (by omega), rc_kxa k who n A len cap k0 k1 (beqF z) (beqF z2) (beqF z3) (beqF z4) w0 w1 n0 n1 (by omega) (by omega)⟩

def St.chk (e : St) : Int := scC e.k e.who e.n e.l
/-- How many ticks. -/
def tickS (l : List St) : Int := (l.map fun e => if e.k = 0 ∧ e.chk = 0 then e.n else 0).sum
theorem tick_one (e : St) : 0 ≤ (if e.k = 0 ∧ e.chk = 0 then e.n else 0) ∧ (if e.k = 0 ∧ e.chk = 0 then e.n else 0) ≤ 200 := by
  by_cases h : e.k = 0 ∧ e.chk = 0
  · rw [if_pos h]
    obtain ⟨h0, h1⟩ := h
    unfold St.chk scC at h1
    rw [h0] at h1
    by_cases a : e.n < 1 ∨ 200 < e.n
    · exfalso
      revert h1
      (repeat' split) <;> omega
    · omega
  · rw [if_neg h]
    omega
theorem tickS_le : ∀ l : List St, 0 ≤ tickS l ∧ tickS l ≤ 200 * (l.length : Int)
  | [] => by simp [tickS]
  | e :: l => by
    have ih := tickS_le l
    have h1 := tick_one e
    simp only [tickS, List.map_cons, List.sum_cons, List.length_cons] at ih ⊢
    omega
theorem tickS_snoc (l : List St) (e : St) : tickS (l ++ [e]) = tickS l + (if e.k = 0 ∧ e.chk = 0 then e.n else 0) := by simp [tickS]
theorem tickS_take (l : List St) {k : Nat} {e : St} (h : l[k]? = some e) : tickS (l.take (k + 1)) = tickS (l.take k) + (if e.k = 0 ∧ e.chk = 0 then e.n else 0) := by
  rw [List.take_add_one, h]
  exact tickS_snoc _ _
/-- How many steps there are in so many ticks. -/
def cutN (l : List St) (most : Int) : Nat → Nat
  | 0 => 0
  | m + 1 => let n := cutN l most m; if n < m then n else match l[m]? with | none => n | some e => if e.chk ≠ 0 ∨ most < tickS (l.take (m + 1)) then n else m + 1
end Go.Proofs.YtnopmdhjamkoaaaDoor
