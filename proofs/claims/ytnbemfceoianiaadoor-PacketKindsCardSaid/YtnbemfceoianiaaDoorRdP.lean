/- Package wire's reader in plain words: a number's bytes, the reader's state, the next field. -/
import Derived.Test.YtnbemfceoianiaaDoorWireP
namespace Go.Proofs.YtnbemfceoianiaaDoor
set_option linter.unusedVariables false
open Go.RowKit

/-- A number of bytes, the highest first. -/
def valB (l : List UInt8) : Nat := l.foldl (fun n c => n * 256 + c.toNat) 0
theorem valB_snoc (l : List UInt8) (c : UInt8) : valB (l ++ [c]) = valB l * 256 + c.toNat := by simp [valB]
theorem valB_lt (l : List UInt8) : valB l < 256 ^ l.length := by
  suffices H : ∀ (l : List UInt8) (n m : Nat), n < 256 ^ m → l.foldl (fun n c => n * 256 + c.toNat) n < 256 ^ (m + l.length) by
    have := H l 0 0 (by decide)
    simpa [valB] using this
  intro l
  induction l with
  | nil => intro n m h; simpa using h
  | cons c l ih =>
    intro n m h
    have hc := c.toNat_lt
    have h2 := ih (n * 256 + c.toNat) (m + 1) (by rw [Nat.pow_succ]; omega)
    rw [List.length_cons, show m + (l.length + 1) = m + 1 + l.length by omega]
    exact h2
def nbN (m w : Nat) : List UInt8 := (List.range w).map fun j => UInt8.ofNat (m / 256 ^ (w - 1 - j))
theorem nbN_succ (m w : Nat) : nbN m (w + 1) = nbN (m / 256) w ++ [UInt8.ofNat m] := by
  unfold nbN
  rw [List.range_succ, List.map_append]
  congr 1
  · apply List.map_congr_left
    intro j hj
    have := List.mem_range.1 hj
    have e : 256 ^ (w + 1 - 1 - j) = 256 * 256 ^ (w - 1 - j) := by rw [show w + 1 - 1 - j = (w - 1 - j) + 1 by omega, Nat.pow_succ, Nat.mul_comm]
    rw [e, Nat.div_div_eq_div_mul]
  · simp
theorem valB_nbN (w : Nat) : ∀ m : Nat, valB (nbN m w) = m % 256 ^ w := by
  induction w with
  | zero => intro m; simp [nbN, valB, Nat.mod_one]
  | succ w ih =>
    intro m
    rw [nbN_succ, valB_snoc, ih, UInt8.toNat_ofNat']
    have h1 : m % (256 ^ w * 256) = m % 256 + 256 * (m / 256 % 256 ^ w) := by rw [Nat.mul_comm, Nat.mod_mul]
    have h2 : 256 ^ (w + 1) = 256 ^ w * 256 := Nat.pow_succ ..
    rw [h2, h1]
    omega
theorem valB_numB (w : Nat) (n : Int) (h0 : 0 ≤ n) (h : n < ((256 ^ w : Nat) : Int)) : (valB (numB w n) : Int) = n := by
  have e : numB w n = nbN n.toNat w := rfl
  rw [e, valB_nbN, Nat.mod_eq_of_lt (by omega)]
  omega

abbrev RS := List UInt8 × Int
def failR (st : RS) (e : Int) : RS := if st.2 = 0 then ([], e) else st
def takeR (st : RS) (n : Nat) : List UInt8 := if st.2 = 0 ∧ n ≤ st.1.length then st.1.take n else []
def restR (st : RS) (n : Nat) : RS := if st.2 = 0 ∧ n ≤ st.1.length then (st.1.drop n, 0) else failR st 4
def numV (st : RS) (n : Nat) : Nat := if 9223372036854775807 < valB (takeR st n) then 0 else valB (takeR st n)
def numO (st : RS) (n : Nat) : Bool := decide (¬ 9223372036854775807 < valB (takeR st n)) && decide (0 < (takeR st n).length)
def numS (st : RS) (n : Nat) : RS := if 9223372036854775807 < valB (takeR st n) then failR (restR st n) 3 else restR st n

/-- A field that is got: its size, its number, its bytes. -/
abbrev GF := Int × Int × List UInt8
def gNone : GF := (0, 0, [])
def getF (st : RS) (s : Int) : GF :=
  if s < 0 ∨ 4 < s then gNone
  else if s < 4 then (if numO st (widB s) then (s, (numV st (widB s) : Int), []) else gNone)
  else if numO st 2 = true ∧ numV st 2 ≤ 512 ∧ (restR (numS st 2) (numV st 2)).2 = 0 then (4, 0, takeR (numS st 2) (numV st 2)) else gNone
def getS (st : RS) (s : Int) : RS :=
  if s < 0 ∨ 4 < s then failR st 13
  else if s < 4 then numS st (widB s)
  else if numO st 2 = true then (if 512 < numV st 2 then failR (numS st 2) 3 else restR (numS st 2) (numV st 2)) else numS st 2

theorem failR_len (st : RS) (e : Int) : (failR st e).1.length ≤ st.1.length := by unfold failR; split <;> simp
theorem takeR_len (st : RS) (n : Nat) : (takeR st n).length ≤ st.1.length := by unfold takeR; split <;> simp <;> omega
theorem takeR_len2 (st : RS) (n : Nat) : (takeR st n).length ≤ n := by unfold takeR; split <;> simp <;> omega
theorem restR_len (st : RS) (n : Nat) : (restR st n).1.length ≤ st.1.length := by
  unfold restR
  split
  · simp
  · exact failR_len _ _
theorem numS_len (st : RS) (n : Nat) : (numS st n).1.length ≤ st.1.length := by
  unfold numS
  split
  · exact Nat.le_trans (failR_len _ _) (restR_len _ _)
  · exact restR_len _ _
theorem numV_le (st : RS) (n : Nat) : numV st n ≤ 9223372036854775807 := by unfold numV; split <;> omega
end Go.Proofs.YtnbemfceoianiaaDoor
