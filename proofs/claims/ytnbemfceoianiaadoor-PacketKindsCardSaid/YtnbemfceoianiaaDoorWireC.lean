/- Contracts of package wire: Check. -/
import Derived.Test.YtnbemfceoianiaaDoorBaseB
import Derived.Deep.QuietTactic
import Derived.BigQuiet
namespace Go.Proofs.YtnbemfceoianiaaDoor
set_option linter.unusedVariables false
open Go.RowKit

theorem width_0q (w : World) : Calls Tryd.prog 36 #[.int .i64 0] w fun e w' => e = .returned (.int .i64 1) ∧ w' = w := (width_0 w).mono fun _ _ ⟨he, hw⟩ => ⟨he, hw.symm⟩
theorem width_1q (w : World) : Calls Tryd.prog 36 #[.int .i64 1] w fun e w' => e = .returned (.int .i64 2) ∧ w' = w := (width_1 w).mono fun _ _ ⟨he, hw⟩ => ⟨he, hw.symm⟩
theorem width_2q (w : World) : Calls Tryd.prog 36 #[.int .i64 2] w fun e w' => e = .returned (.int .i64 4) ∧ w' = w := (width_2 w).mono fun _ _ ⟨he, hw⟩ => ⟨he, hw.symm⟩

set_option maxHeartbeats 400000 in
theorem chk_kind1 (s n : Int) (len : Nat) (h : s < 0) (A : Option Addr) (cap : Nat) (w : World) :
    Calls Tryd.prog 34 #[.agg #[.int .i64 s, .int .i64 n, .slice A len cap]] w fun e w' => e = .returned (.int .i64 13) ∧ Below w.heap.size w w' := by
  go_enter Tryd.func34, Tryd.ntmps34
  go_wp2_with fail
  go_wp2
  go_ret
  exact ⟨rfl, by repeat (first | exact (Below.refl _ _).alloc (Nat.le_refl _) _ | apply Bdn)⟩

set_option maxHeartbeats 400000 in
theorem chk_kind2 (s n : Int) (len : Nat) (h : 4 < s) (h2 : 0 ≤ s) (A : Option Addr) (cap : Nat) (w : World) :
    Calls Tryd.prog 34 #[.agg #[.int .i64 s, .int .i64 n, .slice A len cap]] w fun e w' => e = .returned (.int .i64 13) ∧ Below w.heap.size w w' := by
  go_enter Tryd.func34, Tryd.ntmps34
  go_wp2_with fail
  go_wp2
  go_ret
  exact ⟨rfl, by repeat (first | exact (Below.refl _ _).alloc (Nat.le_refl _) _ | apply Bdn)⟩

set_option maxHeartbeats 400000 in
theorem chk_some_n (n : Int) (len : Nat) (h : (n != 0) = true) (A : Option Addr) (cap : Nat) (w : World) :
    Calls Tryd.prog 34 #[.agg #[.int .i64 4, .int .i64 n, .slice A len cap]] w fun e w' => e = .returned (.int .i64 10) ∧ Below w.heap.size w w' := by
  go_enter Tryd.func34, Tryd.ntmps34
  go_wp2_with fail
  go_wp2
  go_ret
  exact ⟨rfl, by repeat (first | exact (Below.refl _ _).alloc (Nat.le_refl _) _ | apply Bdn)⟩

set_option maxHeartbeats 400000 in
theorem chk_some_long (len : Nat) (h : 512 < len) (A : Option Addr) (cap : Nat) (w : World) :
    Calls Tryd.prog 34 #[.agg #[.int .i64 4, .int .i64 0, .slice A len cap]] w fun e w' => e = .returned (.int .i64 2) ∧ Below w.heap.size w w' := by
  go_enter Tryd.func34, Tryd.ntmps34
  go_wp2_with fail
  go_quiet (fail)
  go_wp2
  go_ret
  exact ⟨rfl, by repeat (first | exact (Below.refl _ _).alloc (Nat.le_refl _) _ | apply Bdn)⟩

set_option maxHeartbeats 400000 in
theorem chk_some_ok (len : Nat) (h : len ≤ 512) (A : Option Addr) (cap : Nat) (w : World) :
    Calls Tryd.prog 34 #[.agg #[.int .i64 4, .int .i64 0, .slice A len cap]] w fun e w' => e = .returned (.int .i64 0) ∧ Below w.heap.size w w' := by
  go_enter Tryd.func34, Tryd.ntmps34
  go_wp2_with fail
  go_quiet (fail)
  go_wp2
  go_ret
  exact ⟨rfl, by repeat (first | exact (Below.refl _ _).alloc (Nat.le_refl _) _ | apply Bdn)⟩

set_option maxHeartbeats 400000 in
theorem chk_b (s n : Int) (len : Nat) (h : 0 ≤ s) (h2 : s < 4) (h3 : 0 < len) (h4 : (s == 4) = false) (A : Option Addr) (cap : Nat) (w : World) :
    Calls Tryd.prog 34 #[.agg #[.int .i64 s, .int .i64 n, .slice A len cap]] w fun e w' => e = .returned (.int .i64 10) ∧ Below w.heap.size w w' := by
  go_enter Tryd.func34, Tryd.ntmps34
  go_wp2_with fail
  go_wp2
  go_ret
  exact ⟨rfl, by repeat (first | exact (Below.refl _ _).alloc (Nat.le_refl _) _ | apply Bdn)⟩

set_option maxHeartbeats 400000 in
theorem chk_neg (s n : Int) (h : 0 ≤ s) (h2 : s < 4) (h3 : n < 0) (h4 : (s == 4) = false) (A : Option Addr) (cap : Nat) (w : World) :
    Calls Tryd.prog 34 #[.agg #[.int .i64 s, .int .i64 n, .slice A 0 cap]] w fun e w' => e = .returned (.int .i64 10) ∧ Below w.heap.size w w' := by
  go_enter Tryd.func34, Tryd.ntmps34
  go_wp2_with fail
  go_quiet (fail)
  go_wp2
  go_ret
  exact ⟨rfl, by repeat (first | exact (Below.refl _ _).alloc (Nat.le_refl _) _ | apply Bdn)⟩

set_option maxHeartbeats 400000 in
theorem chk_8 (n : Int) (h3 : 0 ≤ n) (hd : decide (n < 0) = false) (A : Option Addr) (cap : Nat) (w : World) :
    Calls Tryd.prog 34 #[.agg #[.int .i64 3, .int .i64 n, .slice A 0 cap]] w fun e w' => e = .returned (.int .i64 0) ∧ Below w.heap.size w w' := by
  go_enter Tryd.func34, Tryd.ntmps34
  go_wp2_with fail
  go_quiet (fail)
  go_wp2
  go_ret
  exact ⟨rfl, by repeat (first | exact (Below.refl _ _).alloc (Nat.le_refl _) _ | apply Bdn)⟩

set_option maxHeartbeats 400000 in
theorem chk_0_ok (n : Int) (h3 : 0 ≤ n) (hd : decide (n < 0) = false) (h4 : (n / 2 ^ 8 != 0) = false) (A : Option Addr) (cap : Nat) (w : World) :
    Calls Tryd.prog 34 #[.agg #[.int .i64 0, .int .i64 n, .slice A 0 cap]] w fun e w' => e = .returned (.int .i64 0) ∧ Below w.heap.size w w' := by
  go_enter Tryd.func34, Tryd.ntmps34
  go_wp2_with fail
  go_quiet ((go_at_call 36; exact Calls.quiet_of_same (width_0q _)))
  go_wp2
  go_ret
  exact ⟨rfl, by repeat (first | exact (Below.refl _ _).alloc (Nat.le_refl _) _ | apply Bdn)⟩

set_option maxHeartbeats 400000 in
theorem chk_0_big (n : Int) (h3 : 0 ≤ n) (hd : decide (n < 0) = false) (h4 : (n / 2 ^ 8 != 0) = true) (A : Option Addr) (cap : Nat) (w : World) :
    Calls Tryd.prog 34 #[.agg #[.int .i64 0, .int .i64 n, .slice A 0 cap]] w fun e w' => e = .returned (.int .i64 10) ∧ Below w.heap.size w w' := by
  go_enter Tryd.func34, Tryd.ntmps34
  go_wp2_with fail
  go_quiet ((go_at_call 36; exact Calls.quiet_of_same (width_0q _)))
  go_wp2
  go_ret
  exact ⟨rfl, by repeat (first | exact (Below.refl _ _).alloc (Nat.le_refl _) _ | apply Bdn)⟩

set_option maxHeartbeats 400000 in
theorem chk_1_ok (n : Int) (h3 : 0 ≤ n) (hd : decide (n < 0) = false) (h4 : (n / 2 ^ 16 != 0) = false) (A : Option Addr) (cap : Nat) (w : World) :
    Calls Tryd.prog 34 #[.agg #[.int .i64 1, .int .i64 n, .slice A 0 cap]] w fun e w' => e = .returned (.int .i64 0) ∧ Below w.heap.size w w' := by
  go_enter Tryd.func34, Tryd.ntmps34
  go_wp2_with fail
  go_quiet ((go_at_call 36; exact Calls.quiet_of_same (width_1q _)))
  go_wp2
  go_ret
  exact ⟨rfl, by repeat (first | exact (Below.refl _ _).alloc (Nat.le_refl _) _ | apply Bdn)⟩

set_option maxHeartbeats 400000 in
theorem chk_1_big (n : Int) (h3 : 0 ≤ n) (hd : decide (n < 0) = false) (h4 : (n / 2 ^ 16 != 0) = true) (A : Option Addr) (cap : Nat) (w : World) :
    Calls Tryd.prog 34 #[.agg #[.int .i64 1, .int .i64 n, .slice A 0 cap]] w fun e w' => e = .returned (.int .i64 10) ∧ Below w.heap.size w w' := by
  go_enter Tryd.func34, Tryd.ntmps34
  go_wp2_with fail
  go_quiet ((go_at_call 36; exact Calls.quiet_of_same (width_1q _)))
  go_wp2
  go_ret
  exact ⟨rfl, by repeat (first | exact (Below.refl _ _).alloc (Nat.le_refl _) _ | apply Bdn)⟩

set_option maxHeartbeats 400000 in
theorem chk_2_ok (n : Int) (h3 : 0 ≤ n) (hd : decide (n < 0) = false) (h4 : (n / 2 ^ 32 != 0) = false) (A : Option Addr) (cap : Nat) (w : World) :
    Calls Tryd.prog 34 #[.agg #[.int .i64 2, .int .i64 n, .slice A 0 cap]] w fun e w' => e = .returned (.int .i64 0) ∧ Below w.heap.size w w' := by
  go_enter Tryd.func34, Tryd.ntmps34
  go_wp2_with fail
  go_quiet ((go_at_call 36; exact Calls.quiet_of_same (width_2q _)))
  go_wp2
  go_ret
  exact ⟨rfl, by repeat (first | exact (Below.refl _ _).alloc (Nat.le_refl _) _ | apply Bdn)⟩

set_option maxHeartbeats 400000 in
theorem chk_2_big (n : Int) (h3 : 0 ≤ n) (hd : decide (n < 0) = false) (h4 : (n / 2 ^ 32 != 0) = true) (A : Option Addr) (cap : Nat) (w : World) :
    Calls Tryd.prog 34 #[.agg #[.int .i64 2, .int .i64 n, .slice A 0 cap]] w fun e w' => e = .returned (.int .i64 10) ∧ Below w.heap.size w w' := by
  go_enter Tryd.func34, Tryd.ntmps34
  go_wp2_with fail
  go_quiet ((go_at_call 36; exact Calls.quiet_of_same (width_2q _)))
  go_wp2
  go_ret
  exact ⟨rfl, by repeat (first | exact (Below.refl _ _).alloc (Nat.le_refl _) _ | apply Bdn)⟩
end Go.Proofs.YtnbemfceoianiaaDoor
