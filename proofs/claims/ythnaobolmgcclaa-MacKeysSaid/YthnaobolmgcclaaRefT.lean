/- The table of the document is that of the digest: roots of primes, reckoned. -/
import Derived.Test.YthnaobolmgcclaaRefA
import Derived.KernelRfl
namespace Go.Proofs.Ythnaobolmgcclaa
set_option linter.unusedVariables false
theorem kTab_roots : pri64.map (fun p => rootW p 3) = kTab := by kernel_rfl
theorem h0_roots : (pri64.take 8).map (fun p => rootW p 2) = h0.l := by kernel_rfl
/-- How many of the primes are below p; is p one of them? -/
def cntP (p : Nat) : Nat := (pri64.filter fun q => decide (q < p)).length
def prB (p : Nat) : Bool := pri64.contains p
def prK (p q : Nat) : Bool := (List.range (q - 2)).all fun i => p % (i + 2) != 0
theorem prK_succ (p q : Nat) (h : 2 ≤ q) : prK p (q + 1) = (prK p q && p % q != 0) := by
  unfold prK
  rw [show q + 1 - 2 = (q - 2) + 1 by omega, List.range_succ, List.all_append]
  simp [show q - 2 + 2 = q by omega]
theorem all_range {n : Nat} {f : Nat → Bool} (h : (List.range n).all f = true) {i : Nat} (hi : i < n) : f i = true := by
  rw [List.all_eq_true] at h
  exact h i (List.mem_range.2 hi)
theorem cnt_tab : ((List.range 312).all fun p => decide (cntP p < 64) && (if prB p then pri64[cntP p]? == some p && cntP (p + 1) == cntP p + 1 else cntP (p + 1) == cntP p)) = true := by kernel_rfl
theorem cnt_end : cntP 312 = 64 := by kernel_rfl
theorem prime_tab : ((List.range 312).all fun p => (List.range 19).all fun q => !(decide (2 ≤ p) && decide (2 ≤ q) && decide (p < q * q) && (q == 2 || decide ((q - 1) * (q - 1) ≤ p))) || (prK p q == prB p)) = true := by kernel_rfl
theorem cnt_lt {p : Nat} (h : p < 312) : cntP p < 64 := by
  have := all_range cnt_tab h
  simp only [Bool.and_eq_true, decide_eq_true_eq] at this
  exact this.1
theorem cnt_yes {p : Nat} (h : p < 312) (hp : prB p = true) : pri64[cntP p]? = some p ∧ cntP (p + 1) = cntP p + 1 := by
  have := all_range cnt_tab h
  rw [hp] at this
  simp only [if_true, Bool.and_eq_true, beq_iff_eq, decide_eq_true_eq] at this
  exact this.2
theorem cnt_no {p : Nat} (h : p < 312) (hp : prB p = false) : cntP (p + 1) = cntP p := by
  have := all_range cnt_tab h
  rw [hp] at this
  simp only [Bool.false_eq_true, if_false, Bool.and_eq_true, beq_iff_eq, decide_eq_true_eq] at this
  exact this.2
theorem prime_is {p q : Nat} (h : p < 312) (h2 : 2 ≤ p) (hq : 2 ≤ q) (hq2 : q ≤ 18) (h3 : p < q * q) (h4 : q = 2 ∨ (q - 1) * (q - 1) ≤ p) : prK p q = prB p := by
  have := all_range (all_range prime_tab h) (show q < 19 by omega)
  simp only [Bool.or_eq_true, Bool.not_eq_true', beq_iff_eq, Bool.and_eq_false_iff, decide_eq_false_iff_not, Bool.or_eq_false_iff] at this
  rcases this with ((h1 | h1) | h1) | h1
  · rcases h1 with h1 | h1
    · omega
    · omega
  · omega
  · rcases h4 with h4 | h4
    · simp [h4] at h1
    · exact absurd h4 h1.2
  · exact h1
/-- The table so far as n primes. -/
def ktL (n : Nat) : List Wd := (pri64.take n).map (fun p => rootW p 3) ++ List.replicate (64 - n) 0
def htL (n : Nat) : List Wd := (pri64.take (min n 8)).map (fun p => rootW p 2) ++ List.replicate (8 - min n 8) 0
theorem ktL_len (n : Nat) (h : n ≤ 64) : (ktL n).length = 64 := by simp [ktL, pri64_len]; omega
theorem htL_len (n : Nat) : (htL n).length = 8 := by simp [htL, pri64_len]; omega
theorem ktL_set {n p : Nat} (h : pri64[n]? = some p) : (ktL n).set n (rootW p 3) = ktL (n + 1) := by
  have hn : n < pri64.length := (List.getElem?_eq_some_iff.1 h).1
  have h64 := pri64_len
  have e : ((pri64.take n).map (fun p => rootW p 3)).length = n := by simp; omega
  unfold ktL
  rw [List.set_append_right _ _ (by omega), e, Nat.sub_self, show 64 - n = (64 - (n + 1)) + 1 by omega, List.replicate_succ, List.set_cons_zero, List.take_succ_eq_append_getElem hn, List.map_append, List.append_assoc]
  rw [List.getElem?_eq_getElem hn] at h
  injection h with h
  rw [h]
  rfl
theorem htL_set {n p : Nat} (h : pri64[n]? = some p) (h8 : n < 8) : (htL n).set n (rootW p 2) = htL (n + 1) := by
  have hn : n < pri64.length := (List.getElem?_eq_some_iff.1 h).1
  have h64 := pri64_len
  unfold htL
  rw [show min n 8 = n by omega, show min (n + 1) 8 = n + 1 by omega]
  have e : ((pri64.take n).map (fun p => rootW p 2)).length = n := by simp; omega
  rw [List.set_append_right _ _ (by omega), e, Nat.sub_self, show 8 - n = (8 - (n + 1)) + 1 by omega, List.replicate_succ, List.set_cons_zero, List.take_succ_eq_append_getElem hn, List.map_append, List.append_assoc]
  rw [List.getElem?_eq_getElem hn] at h
  injection h with h
  rw [h]
  rfl
theorem htL_big {n : Nat} (h8 : 8 ≤ n) : htL (n + 1) = htL n := by
  unfold htL
  rw [show min n 8 = 8 by omega, show min (n + 1) 8 = 8 by omega]
theorem tab_64 : ktL 64 ++ htL 64 = kTab ++ h0.l := by
  have e1 : ktL 64 = kTab := by
    unfold ktL
    rw [List.take_of_length_le (by decide), ← kTab_roots]
    simp
  have e2 : htL 64 = h0.l := by
    unfold htL
    rw [← h0_roots]
    simp
  rw [e1, e2]

end Go.Proofs.Ythnaobolmgcclaa
