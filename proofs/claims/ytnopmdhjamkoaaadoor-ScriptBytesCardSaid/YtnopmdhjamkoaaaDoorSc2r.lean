/- Check of the document. Printed by gensc2.py. -/
import Derived.Test.YtnopmdhjamkoaaaDoorSc1
namespace Go.Proofs.YtnopmdhjamkoaaaDoor
set_option linter.unusedVariables false
set_option linter.unusedSimpArgs false
open Go.RowKit
abbrev RcP (k who n : Int) (A : Option Addr) (len cap : Nat) (v : Int) : Prop := ∀ w : World,
  Calls Tryd.prog 40 #[.agg #[.int .i64 k, .int .i64 who, .int .i64 n, .slice A len cap]] w fun r w' => r = .returned (.int .i64 v) ∧ Below w.heap.size w w'
set_option maxRecDepth 100000 in
set_option maxHeartbeats 1600000 in
theorem rc_no1 (k who n : Int) (A : Option Addr) (len cap : Nat) (hk : k < 0) : RcP k who n A len cap 13 := by
  intro w
  go_enter Tryd.func40, Tryd.ntmps40
  go_wp2
  all_goals
    go_ret
    exact ⟨rfl, (Below.refl _ _).alloc (Nat.le_refl _) _⟩
set_option maxRecDepth 100000 in
set_option maxHeartbeats 1600000 in
theorem rc_no2 (k who n : Int) (A : Option Addr) (len cap : Nat) (hk0 : 0 ≤ k) (hk : 10 < k) : RcP k who n A len cap 13 := by
  intro w
  go_enter Tryd.func40, Tryd.ntmps40
  go_wp2
  all_goals
    go_ret
    exact ⟨rfl, (Below.refl _ _).alloc (Nat.le_refl _) _⟩
set_option maxRecDepth 100000 in
set_option maxHeartbeats 1600000 in
theorem rc_who1 (k who n : Int) (A : Option Addr) (len cap : Nat) (hk0 : 0 ≤ k) (hk1 : k < 11) (hwho : who < 0) : RcP k who n A len cap 10 := by
  intro w
  go_enter Tryd.func40, Tryd.ntmps40
  go_wp2
  all_goals
    go_ret
    exact ⟨rfl, (Below.refl _ _).alloc (Nat.le_refl _) _⟩
set_option maxRecDepth 100000 in
set_option maxHeartbeats 1600000 in
theorem rc_who2 (k who n : Int) (A : Option Addr) (len cap : Nat) (hk0 : 0 ≤ k) (hk1 : k < 11) (hw0 : 0 ≤ who) (hwho : 65535 < who) : RcP k who n A len cap 10 := by
  intro w
  go_enter Tryd.func40, Tryd.ntmps40
  go_wp2
  all_goals
    go_ret
    exact ⟨rfl, (Below.refl _ _).alloc (Nat.le_refl _) _⟩
set_option maxRecDepth 100000 in
set_option maxHeartbeats 1600000 in
theorem rc_n1 (k who n : Int) (A : Option Addr) (len cap : Nat) (hk0 : 0 ≤ k) (hk1 : k < 11) (hw0 : 0 ≤ who) (hw1 : who ≤ 65535) (hn : n < 0) : RcP k who n A len cap 10 := by
  intro w
  go_enter Tryd.func40, Tryd.ntmps40
  go_wp2
  all_goals
    go_ret
    exact ⟨rfl, (Below.refl _ _).alloc (Nat.le_refl _) _⟩
set_option maxRecDepth 100000 in
set_option maxHeartbeats 1600000 in
theorem rc_n2 (k who n : Int) (A : Option Addr) (len cap : Nat) (hk0 : 0 ≤ k) (hk1 : k < 11) (hw0 : 0 ≤ who) (hw1 : who ≤ 65535) (hn0 : 0 ≤ n) (hn : 2147483647 < n) : RcP k who n A len cap 10 := by
  intro w
  go_enter Tryd.func40, Tryd.ntmps40
  go_wp2
  all_goals
    go_ret
    exact ⟨rfl, (Below.refl _ _).alloc (Nat.le_refl _) _⟩
set_option maxRecDepth 100000 in
set_option maxHeartbeats 1600000 in
theorem rc_k0n1 (who n : Int) (A : Option Addr) (len cap : Nat) (hw0 : 0 ≤ who) (hw1 : who ≤ 65535) (hn0 : 0 ≤ n) (hn1 : n ≤ 2147483647) (hz : n < 1) : RcP 0 who n A len cap 10 := by
  intro w
  go_enter Tryd.func40, Tryd.ntmps40
  go_wp2
  all_goals
    go_ret
    exact ⟨rfl, (Below.refl _ _).alloc (Nat.le_refl _) _⟩
set_option maxRecDepth 100000 in
set_option maxHeartbeats 1600000 in
theorem rc_k0n2 (who n : Int) (A : Option Addr) (len cap : Nat) (hw0 : 0 ≤ who) (hw1 : who ≤ 65535) (hn0 : 0 ≤ n) (hn1 : n ≤ 2147483647) (hz : 1 ≤ n) (hz2 : 200 < n) : RcP 0 who n A len cap 10 := by
  intro w
  go_enter Tryd.func40, Tryd.ntmps40
  go_wp2
  all_goals
    go_ret
    exact ⟨rfl, (Below.refl _ _).alloc (Nat.le_refl _) _⟩
set_option maxRecDepth 100000 in
set_option maxHeartbeats 1600000 in
theorem rc_k0l (who n : Int) (A : Option Addr) (len cap : Nat) (hw0 : 0 ≤ who) (hw1 : who ≤ 65535) (hn0 : 0 ≤ n) (hn1 : n ≤ 2147483647) (hz : 1 ≤ n) (hz2 : n ≤ 200) (hl : 400 < (len : Int)) : RcP 0 who n A len cap 2 := by
  intro w
  go_enter Tryd.func40, Tryd.ntmps40
  go_wp2
  all_goals
    go_ret
    exact ⟨rfl, (Below.refl _ _).alloc (Nat.le_refl _) _⟩
set_option maxRecDepth 100000 in
set_option maxHeartbeats 1600000 in
theorem rc_k0a (who n : Int) (A : Option Addr) (len cap : Nat) (hw0 : 0 ≤ who) (hw1 : who ≤ 65535) (hn0 : 0 ≤ n) (hn1 : n ≤ 2147483647) (hz : 1 ≤ n) (hz2 : n ≤ 200) (hl : (len : Int) ≤ 400) (hm : 0 < (len : Int)) : RcP 0 who n A len cap 3 := by
  intro w
  go_enter Tryd.func40, Tryd.ntmps40
  go_wp2
  all_goals
    go_ret
    exact ⟨rfl, (Below.refl _ _).alloc (Nat.le_refl _) _⟩
set_option maxRecDepth 100000 in
set_option maxHeartbeats 1600000 in
theorem rc_k0b (who n : Int) (A : Option Addr) (len cap : Nat) (hw0 : 0 ≤ who) (hw1 : who ≤ 65535) (hn0 : 0 ≤ n) (hn1 : n ≤ 2147483647) (hz : 1 ≤ n) (hz2 : n ≤ 200) (hm : len = 0) : RcP 0 who n A len cap 0 := by
  intro w
  subst hm
  go_enter Tryd.func40, Tryd.ntmps40
  go_wp2
  all_goals
    go_ret
    exact ⟨rfl, (Below.refl _ _).alloc (Nat.le_refl _) _⟩
set_option maxRecDepth 100000 in
set_option maxHeartbeats 1600000 in
theorem rc_k2l (who n : Int) (A : Option Addr) (len cap : Nat) (hw0 : 0 ≤ who) (hw1 : who ≤ 65535) (hn0 : 0 ≤ n) (hn1 : n ≤ 2147483647) (hl : 400 < (len : Int)) : RcP 2 who n A len cap 2 := by
  intro w
  go_enter Tryd.func40, Tryd.ntmps40
  go_wp2
  all_goals
    go_ret
    exact ⟨rfl, (Below.refl _ _).alloc (Nat.le_refl _) _⟩
set_option maxRecDepth 100000 in
set_option maxHeartbeats 1600000 in
theorem rc_k2a (who n : Int) (A : Option Addr) (len cap : Nat) (hw0 : 0 ≤ who) (hw1 : who ≤ 65535) (hn0 : 0 ≤ n) (hn1 : n ≤ 2147483647) (hl : (len : Int) ≤ 400) (hm : 64 < (len : Int)) : RcP 2 who n A len cap 2 := by
  intro w
  go_enter Tryd.func40, Tryd.ntmps40
  go_wp2
  all_goals
    go_ret
    exact ⟨rfl, (Below.refl _ _).alloc (Nat.le_refl _) _⟩
set_option maxRecDepth 100000 in
set_option maxHeartbeats 1600000 in
theorem rc_k2b (who n : Int) (A : Option Addr) (len cap : Nat) (hw0 : 0 ≤ who) (hw1 : who ≤ 65535) (hn0 : 0 ≤ n) (hn1 : n ≤ 2147483647) (hl : (len : Int) ≤ 400) (hm : (len : Int) ≤ 64) : RcP 2 who n A len cap 0 := by
  intro w
  go_enter Tryd.func40, Tryd.ntmps40
  go_wp2
  all_goals
    go_ret
    exact ⟨rfl, (Below.refl _ _).alloc (Nat.le_refl _) _⟩
set_option maxRecDepth 100000 in
set_option maxHeartbeats 1600000 in
theorem rc_k3l (who n : Int) (A : Option Addr) (len cap : Nat) (hw0 : 0 ≤ who) (hw1 : who ≤ 65535) (hn0 : 0 ≤ n) (hn1 : n ≤ 2147483647) (hl : 400 < (len : Int)) : RcP 3 who n A len cap 2 := by
  intro w
  go_enter Tryd.func40, Tryd.ntmps40
  go_wp2
  all_goals
    go_ret
    exact ⟨rfl, (Below.refl _ _).alloc (Nat.le_refl _) _⟩
set_option maxRecDepth 100000 in
set_option maxHeartbeats 1600000 in
theorem rc_k3a (who n : Int) (A : Option Addr) (len cap : Nat) (hw0 : 0 ≤ who) (hw1 : who ≤ 65535) (hn0 : 0 ≤ n) (hn1 : n ≤ 2147483647) (hl : (len : Int) ≤ 400) (hm : (len : Int) < 4) : RcP 3 who n A len cap 3 := by
  intro w
  go_enter Tryd.func40, Tryd.ntmps40
  go_wp2
  all_goals
    go_ret
    exact ⟨rfl, (Below.refl _ _).alloc (Nat.le_refl _) _⟩
set_option maxRecDepth 100000 in
set_option maxHeartbeats 1600000 in
theorem rc_k3b (who n : Int) (A : Option Addr) (len cap : Nat) (hw0 : 0 ≤ who) (hw1 : who ≤ 65535) (hn0 : 0 ≤ n) (hn1 : n ≤ 2147483647) (hl : (len : Int) ≤ 400) (hm : 4 < (len : Int)) : RcP 3 who n A len cap 3 := by
  intro w
  go_enter Tryd.func40, Tryd.ntmps40
  go_wp2
  all_goals
    go_ret
    exact ⟨rfl, (Below.refl _ _).alloc (Nat.le_refl _) _⟩
set_option maxRecDepth 100000 in
set_option maxHeartbeats 1600000 in
theorem rc_k3c (who n : Int) (A : Option Addr) (len cap : Nat) (hw0 : 0 ≤ who) (hw1 : who ≤ 65535) (hn0 : 0 ≤ n) (hn1 : n ≤ 2147483647) (hm : len = 4) : RcP 3 who n A len cap 0 := by
  intro w
  subst hm
  go_enter Tryd.func40, Tryd.ntmps40
  go_wp2
  all_goals
    go_ret
    exact ⟨rfl, (Below.refl _ _).alloc (Nat.le_refl _) _⟩
set_option maxRecDepth 100000 in
set_option maxHeartbeats 1600000 in
theorem rc_k10l (who n : Int) (A : Option Addr) (len cap : Nat) (hw0 : 0 ≤ who) (hw1 : who ≤ 65535) (hn0 : 0 ≤ n) (hn1 : n ≤ 2147483647) (hl : 400 < (len : Int)) : RcP 10 who n A len cap 2 := by
  intro w
  go_enter Tryd.func40, Tryd.ntmps40
  go_wp2
  all_goals
    go_ret
    exact ⟨rfl, (Below.refl _ _).alloc (Nat.le_refl _) _⟩
set_option maxRecDepth 100000 in
set_option maxHeartbeats 1600000 in
theorem rc_k10b (who n : Int) (A : Option Addr) (len cap : Nat) (hw0 : 0 ≤ who) (hw1 : who ≤ 65535) (hn0 : 0 ≤ n) (hn1 : n ≤ 2147483647) (hl : (len : Int) ≤ 400) : RcP 10 who n A len cap 0 := by
  intro w
  go_enter Tryd.func40, Tryd.ntmps40
  go_wp2
  all_goals
    go_ret
    exact ⟨rfl, (Below.refl _ _).alloc (Nat.le_refl _) _⟩
set_option maxRecDepth 100000 in
set_option maxHeartbeats 1600000 in
theorem rc_kxl (k who n : Int) (A : Option Addr) (len cap : Nat) (hk0 : 0 ≤ k) (hk1 : k < 11) (e0 : (k == 0) = false) (e2 : (k == 2) = false) (e3 : (k == 3) = false) (e10 : (k == 10) = false) (hw0 : 0 ≤ who) (hw1 : who ≤ 65535) (hn0 : 0 ≤ n) (hn1 : n ≤ 2147483647) (hl : 400 < (len : Int)) : RcP k who n A len cap 2 := by
  intro w
  have g2 : (k != 2) = true := by rw [bne, e2]; rfl
  have g3 : (k != 3) = true := by rw [bne, e3]; rfl
  have g10 : (k != 10) = true := by rw [bne, e10]; rfl
  go_enter Tryd.func40, Tryd.ntmps40
  go_wp2
  all_goals
    go_ret
    exact ⟨rfl, (Below.refl _ _).alloc (Nat.le_refl _) _⟩
set_option maxRecDepth 100000 in
set_option maxHeartbeats 1600000 in
theorem rc_kxa (k who n : Int) (A : Option Addr) (len cap : Nat) (hk0 : 0 ≤ k) (hk1 : k < 11) (e0 : (k == 0) = false) (e2 : (k == 2) = false) (e3 : (k == 3) = false) (e10 : (k == 10) = false) (hw0 : 0 ≤ who) (hw1 : who ≤ 65535) (hn0 : 0 ≤ n) (hn1 : n ≤ 2147483647) (hl : (len : Int) ≤ 400) (hm : 0 < (len : Int)) : RcP k who n A len cap 3 := by
  intro w
  have g2 : (k != 2) = true := by rw [bne, e2]; rfl
  have g3 : (k != 3) = true := by rw [bne, e3]; rfl
  have g10 : (k != 10) = true := by rw [bne, e10]; rfl
  go_enter Tryd.func40, Tryd.ntmps40
  go_wp2
  all_goals
    go_ret
    exact ⟨rfl, (Below.refl _ _).alloc (Nat.le_refl _) _⟩
set_option maxRecDepth 100000 in
set_option maxHeartbeats 1600000 in
theorem rc_kxb (k who n : Int) (A : Option Addr) (len cap : Nat) (hk0 : 0 ≤ k) (hk1 : k < 11) (e0 : (k == 0) = false) (e2 : (k == 2) = false) (e3 : (k == 3) = false) (e10 : (k == 10) = false) (hw0 : 0 ≤ who) (hw1 : who ≤ 65535) (hn0 : 0 ≤ n) (hn1 : n ≤ 2147483647) (hm : len = 0) : RcP k who n A len cap 0 := by
  intro w
  subst hm
  have g2 : (k != 2) = true := by rw [bne, e2]; rfl
  have g3 : (k != 3) = true := by rw [bne, e3]; rfl
  have g10 : (k != 10) = true := by rw [bne, e10]; rfl
  go_enter Tryd.func40, Tryd.ntmps40
  go_wp2
  all_goals
    go_ret
    exact ⟨rfl, (Below.refl _ _).alloc (Nat.le_refl _) _⟩
end Go.Proofs.YtnopmdhjamkoaaaDoor
