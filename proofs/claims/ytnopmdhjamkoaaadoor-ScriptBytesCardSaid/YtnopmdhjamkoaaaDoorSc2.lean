/- Check of package script and of the document. Printed by gensc2.py. -/
import Derived.Test.YtnopmdhjamkoaaaDoorSc1
namespace Go.Proofs.YtnopmdhjamkoaaaDoor
set_option linter.unusedVariables false
set_option linter.unusedSimpArgs false
open Go.RowKit
/-- What Check says of a step. -/
def scC (k who n : Int) (len : Nat) : Int :=
  if k < 0 ∨ 11 ≤ k then 13 else if who < 0 ∨ 65535 < who ∨ n < 0 ∨ 2147483647 < n then 10 else if k = 0 ∧ (n < 1 ∨ 200 < n) then 10
  else if 400 < len ∨ (k = 2 ∧ 64 < len) then 2 else if (k = 3 ∧ len ≠ 4) ∨ (0 < len ∧ k ≠ 2 ∧ k ≠ 3 ∧ k ≠ 10) then 3 else 0
theorem word31_in (k : Int) (h0 : 0 ≤ k) (h1 : k < 11) : ∃ s : ByteArray, s.toList.isEmpty = false ∧ ∀ w, TabA w →
    Calls Tryd.prog 42 #[.int .i64 k] w fun r w' => r = .returned (.string s) ∧ Below w.heap.size w w' := by
  obtain ⟨m, rfl⟩ : ∃ m : Nat, k = m := ⟨k.toNat, by omega⟩
  exact ⟨wK m, by have := wK_some (k := m) (by omega); revert this; rw [ByteArray.toList_eq]; generalize (wK m).toList = l; cases l <;> simp [ByteArray.toList_eq], fun w hT => word31_yes m (by omega) w hT _ rfl⟩
theorem sccells {w w1 : World} {k who n : Int} {A : Option Addr} {len cap : Nat} (hb : Below (w.alloc (.cells #[.int .i64 k, .int .i64 who, .int .i64 n, .slice A len cap] 62)).heap.size (w.alloc (.cells #[.int .i64 k, .int .i64 who, .int .i64 n, .slice A len cap] 62)) w1) :
    Below w.heap.size w w1 ∧ w1.cell? ⟨w.heap.size, 0, none⟩ = some (.int .i64 k) ∧ w1.cell? ⟨w.heap.size, 1, none⟩ = some (.int .i64 who) ∧ w1.cell? ⟨w.heap.size, 2, none⟩ = some (.int .i64 n) ∧ w1.cell? ⟨w.heap.size, 3, none⟩ = some (.slice A len cap) := by
  have B := Bk.mk_ w 62 #[.int .i64 k, .int .i64 who, .int .i64 n, .slice A len cap]
  have hs : w.heap.size < (w.alloc (.cells #[.int .i64 k, .int .i64 who, .int .i64 n, .slice A len cap] 62)).heap.size := by simp
  exact ⟨((Below.refl _ _).alloc (Nat.le_refl _) _).trans (hb.mono (by simp)), (hb.cell hs).trans (B.cell 0), (hb.cell hs).trans (B.cell 1), (hb.cell hs).trans (B.cell 2), (hb.cell hs).trans (B.cell 3)⟩
theorem room_is (k l m : Int) (h1 : lstK k = l) (h2 : mstK k = m) (w : World) : Calls Tryd.prog 64 #[.int .i64 k] w fun r w' => r = .returned (.tuple #[.int .i64 l, .int .i64 m]) ∧ w = w' := by
  subst h1 h2
  exact room_any k w
/-- The table of spaces, in each later world. -/
def TabU (w : World) : Prop := ∀ w', Below w.heap.size w w' → TabA w'
theorem TabU.keep {w w' : World} (h : TabU w) (hb : Below w.heap.size w w') : TabU w' := fun w2 h2 => h w2 (hb.trans (h2.mono hb.size))
theorem TabU.keepB {w w' : World} {n : Nat} (h : TabU w) (hn : w.heap.size ≤ n) (hb : Below n w w') : TabU w' := h.keep (hb.mono hn)
abbrev ScP (k who n : Int) (A : Option Addr) (len cap : Nat) (v : Int) : Prop := ∀ w : World, TabU w →
  Calls Tryd.prog 35 #[.agg #[.int .i64 k, .int .i64 who, .int .i64 n, .slice A len cap]] w fun r w' => r = .returned (.int .i64 v) ∧ Below w.heap.size w w'
set_option maxRecDepth 100000 in
set_option maxHeartbeats 1600000 in
theorem sc_no (k who n : Int) (A : Option Addr) (len cap : Nat) (hk : k < 0 ∨ 11 ≤ k) : ScP k who n A len cap 13 := by
  intro w hT
  have HR := Lib.hid (fun w => room_any k w)
  generalize lstK k = l at HR
  generalize mstK k = m at HR
  have HW := Lib.hid (fun w => word31_no k hk w)
  clear hk
  go_enter Tryd.func35, Tryd.ntmps35
  go_wp2_with fail
  refine (HR.out _).mono ?_
  rintro e w1 ⟨rfl, rfl⟩
  go_wp2_with fail
  first
  | with_reducible refine (HW.out _).mono ?_
    rintro e w1 ⟨rfl, rfl⟩
    go_wp2
    go_ret
  | go_ret
  exact ⟨rfl, (Below.refl _ _).alloc (Nat.le_refl _) _⟩
set_option maxRecDepth 100000 in
set_option maxHeartbeats 1600000 in
theorem sc_who1 (k who n : Int) (A : Option Addr) (len cap : Nat) (hk0 : 0 ≤ k) (hk1 : k < 11) (hwho : who < 0) : ScP k who n A len cap 10 := by
  intro w hT
  have HR := Lib.hid (fun w => room_any k w)
  generalize lstK k = l at HR
  generalize mstK k = m at HR
  obtain ⟨s, hs, HW⟩ := word31_in k hk0 hk1
  have HW := Lib.hid (fun o : Obj => HW (w.alloc o) (hT _ ((Below.refl _ _).alloc (Nat.le_refl _) o)))
  go_enter Tryd.func35, Tryd.ntmps35
  go_wp2_with fail
  refine (HR.out _).mono ?_
  rintro e w1 ⟨rfl, rfl⟩
  go_wp2_with fail
  with_reducible refine (HW.out _).mono ?_
  rintro e w1 ⟨rfl, hb⟩
  obtain ⟨hb, c0, c1, c2, c3⟩ := sccells hb
  go_wp2
  go_ret
  exact ⟨rfl, hb⟩
set_option maxRecDepth 100000 in
set_option maxHeartbeats 1600000 in
theorem sc_who2 (k who n : Int) (A : Option Addr) (len cap : Nat) (hk0 : 0 ≤ k) (hk1 : k < 11) (hw0 : 0 ≤ who) (hwho : 65535 < who) : ScP k who n A len cap 10 := by
  intro w hT
  have HR := Lib.hid (fun w => room_any k w)
  generalize lstK k = l at HR
  generalize mstK k = m at HR
  obtain ⟨s, hs, HW⟩ := word31_in k hk0 hk1
  have HW := Lib.hid (fun o : Obj => HW (w.alloc o) (hT _ ((Below.refl _ _).alloc (Nat.le_refl _) o)))
  go_enter Tryd.func35, Tryd.ntmps35
  go_wp2_with fail
  refine (HR.out _).mono ?_
  rintro e w1 ⟨rfl, rfl⟩
  go_wp2_with fail
  with_reducible refine (HW.out _).mono ?_
  rintro e w1 ⟨rfl, hb⟩
  obtain ⟨hb, c0, c1, c2, c3⟩ := sccells hb
  go_wp2
  go_ret
  exact ⟨rfl, hb⟩
set_option maxRecDepth 100000 in
set_option maxHeartbeats 1600000 in
theorem sc_n1 (k who n : Int) (A : Option Addr) (len cap : Nat) (hk0 : 0 ≤ k) (hk1 : k < 11) (hw0 : 0 ≤ who) (hw1 : who ≤ 65535) (hn : n < 0) : ScP k who n A len cap 10 := by
  intro w hT
  have HR := Lib.hid (fun w => room_any k w)
  generalize lstK k = l at HR
  generalize mstK k = m at HR
  obtain ⟨s, hs, HW⟩ := word31_in k hk0 hk1
  have HW := Lib.hid (fun o : Obj => HW (w.alloc o) (hT _ ((Below.refl _ _).alloc (Nat.le_refl _) o)))
  go_enter Tryd.func35, Tryd.ntmps35
  go_wp2_with fail
  refine (HR.out _).mono ?_
  rintro e w1 ⟨rfl, rfl⟩
  go_wp2_with fail
  with_reducible refine (HW.out _).mono ?_
  rintro e w1 ⟨rfl, hb⟩
  obtain ⟨hb, c0, c1, c2, c3⟩ := sccells hb
  go_wp2
  go_ret
  exact ⟨rfl, hb⟩
set_option maxRecDepth 100000 in
set_option maxHeartbeats 1600000 in
theorem sc_n2 (k who n : Int) (A : Option Addr) (len cap : Nat) (hk0 : 0 ≤ k) (hk1 : k < 11) (hw0 : 0 ≤ who) (hw1 : who ≤ 65535) (hn0 : 0 ≤ n) (hn : 2147483647 < n) : ScP k who n A len cap 10 := by
  intro w hT
  have HR := Lib.hid (fun w => room_any k w)
  generalize lstK k = l at HR
  generalize mstK k = m at HR
  obtain ⟨s, hs, HW⟩ := word31_in k hk0 hk1
  have HW := Lib.hid (fun o : Obj => HW (w.alloc o) (hT _ ((Below.refl _ _).alloc (Nat.le_refl _) o)))
  go_enter Tryd.func35, Tryd.ntmps35
  go_wp2_with fail
  refine (HR.out _).mono ?_
  rintro e w1 ⟨rfl, rfl⟩
  go_wp2_with fail
  with_reducible refine (HW.out _).mono ?_
  rintro e w1 ⟨rfl, hb⟩
  obtain ⟨hb, c0, c1, c2, c3⟩ := sccells hb
  go_wp2
  go_ret
  exact ⟨rfl, hb⟩
set_option maxRecDepth 100000 in
set_option maxHeartbeats 1600000 in
theorem sc_k0n1 (who n : Int) (A : Option Addr) (len cap : Nat) (hw0 : 0 ≤ who) (hw1 : who ≤ 65535) (hn0 : 0 ≤ n) (hn1 : n ≤ 2147483647) (hz : n < 1) : ScP 0 who n A len cap 10 := by
  intro w hT
  have HR := Lib.hid (fun w => room_is 0 0 0 rfl rfl w)
  obtain ⟨s, hs, HW⟩ := word31_in 0 (by decide) (by decide)
  have HW := Lib.hid (fun o : Obj => HW (w.alloc o) (hT _ ((Below.refl _ _).alloc (Nat.le_refl _) o)))
  go_enter Tryd.func35, Tryd.ntmps35
  go_wp2_with fail
  refine (HR.out _).mono ?_
  rintro e w1 ⟨rfl, rfl⟩
  go_wp2_with fail
  with_reducible refine (HW.out _).mono ?_
  rintro e w1 ⟨rfl, hb⟩
  obtain ⟨hb, c0, c1, c2, c3⟩ := sccells hb
  go_wp2
  go_ret
  exact ⟨rfl, hb⟩
set_option maxRecDepth 100000 in
set_option maxHeartbeats 1600000 in
theorem sc_k0n2 (who n : Int) (A : Option Addr) (len cap : Nat) (hw0 : 0 ≤ who) (hw1 : who ≤ 65535) (hn0 : 0 ≤ n) (hn1 : n ≤ 2147483647) (hz : 1 ≤ n) (hz2 : 200 < n) : ScP 0 who n A len cap 10 := by
  intro w hT
  have HR := Lib.hid (fun w => room_is 0 0 0 rfl rfl w)
  obtain ⟨s, hs, HW⟩ := word31_in 0 (by decide) (by decide)
  have HW := Lib.hid (fun o : Obj => HW (w.alloc o) (hT _ ((Below.refl _ _).alloc (Nat.le_refl _) o)))
  go_enter Tryd.func35, Tryd.ntmps35
  go_wp2_with fail
  refine (HR.out _).mono ?_
  rintro e w1 ⟨rfl, rfl⟩
  go_wp2_with fail
  with_reducible refine (HW.out _).mono ?_
  rintro e w1 ⟨rfl, hb⟩
  obtain ⟨hb, c0, c1, c2, c3⟩ := sccells hb
  go_wp2
  go_ret
  exact ⟨rfl, hb⟩
set_option maxRecDepth 100000 in
set_option maxHeartbeats 1600000 in
theorem sc_k0l (who n : Int) (A : Option Addr) (len cap : Nat) (hw0 : 0 ≤ who) (hw1 : who ≤ 65535) (hn0 : 0 ≤ n) (hn1 : n ≤ 2147483647) (hz : 1 ≤ n) (hz2 : n ≤ 200) (hl : 400 < (len : Int)) : ScP 0 who n A len cap 2 := by
  intro w hT
  have HR := Lib.hid (fun w => room_is 0 0 0 rfl rfl w)
  obtain ⟨s, hs, HW⟩ := word31_in 0 (by decide) (by decide)
  have HW := Lib.hid (fun o : Obj => HW (w.alloc o) (hT _ ((Below.refl _ _).alloc (Nat.le_refl _) o)))
  go_enter Tryd.func35, Tryd.ntmps35
  go_wp2_with fail
  refine (HR.out _).mono ?_
  rintro e w1 ⟨rfl, rfl⟩
  go_wp2_with fail
  with_reducible refine (HW.out _).mono ?_
  rintro e w1 ⟨rfl, hb⟩
  obtain ⟨hb, c0, c1, c2, c3⟩ := sccells hb
  go_wp2
  go_ret
  exact ⟨rfl, hb⟩
set_option maxRecDepth 100000 in
set_option maxHeartbeats 1600000 in
theorem sc_k0a (who n : Int) (A : Option Addr) (len cap : Nat) (hw0 : 0 ≤ who) (hw1 : who ≤ 65535) (hn0 : 0 ≤ n) (hn1 : n ≤ 2147483647) (hz : 1 ≤ n) (hz2 : n ≤ 200) (hl : (len : Int) ≤ 400) (hm : 0 < (len : Int)) : ScP 0 who n A len cap 3 := by
  intro w hT
  have HR := Lib.hid (fun w => room_is 0 0 0 rfl rfl w)
  obtain ⟨s, hs, HW⟩ := word31_in 0 (by decide) (by decide)
  have HW := Lib.hid (fun o : Obj => HW (w.alloc o) (hT _ ((Below.refl _ _).alloc (Nat.le_refl _) o)))
  go_enter Tryd.func35, Tryd.ntmps35
  go_wp2_with fail
  refine (HR.out _).mono ?_
  rintro e w1 ⟨rfl, rfl⟩
  go_wp2_with fail
  with_reducible refine (HW.out _).mono ?_
  rintro e w1 ⟨rfl, hb⟩
  obtain ⟨hb, c0, c1, c2, c3⟩ := sccells hb
  go_wp2
  go_ret
  exact ⟨rfl, hb⟩
set_option maxRecDepth 100000 in
set_option maxHeartbeats 1600000 in
theorem sc_k0b (who n : Int) (A : Option Addr) (len cap : Nat) (hw0 : 0 ≤ who) (hw1 : who ≤ 65535) (hn0 : 0 ≤ n) (hn1 : n ≤ 2147483647) (hz : 1 ≤ n) (hz2 : n ≤ 200) (hm : len = 0) : ScP 0 who n A len cap 0 := by
  intro w hT
  have HR := Lib.hid (fun w => room_is 0 0 0 rfl rfl w)
  obtain ⟨s, hs, HW⟩ := word31_in 0 (by decide) (by decide)
  have HW := Lib.hid (fun o : Obj => HW (w.alloc o) (hT _ ((Below.refl _ _).alloc (Nat.le_refl _) o)))
  subst hm
  go_enter Tryd.func35, Tryd.ntmps35
  go_wp2_with fail
  refine (HR.out _).mono ?_
  rintro e w1 ⟨rfl, rfl⟩
  go_wp2_with fail
  with_reducible refine (HW.out _).mono ?_
  rintro e w1 ⟨rfl, hb⟩
  obtain ⟨hb, c0, c1, c2, c3⟩ := sccells hb
  go_wp2
  go_ret
  exact ⟨rfl, hb⟩
set_option maxRecDepth 100000 in
set_option maxHeartbeats 1600000 in
theorem sc_k2l (who n : Int) (A : Option Addr) (len cap : Nat) (hw0 : 0 ≤ who) (hw1 : who ≤ 65535) (hn0 : 0 ≤ n) (hn1 : n ≤ 2147483647) (hl : 400 < (len : Int)) : ScP 2 who n A len cap 2 := by
  intro w hT
  have HR := Lib.hid (fun w => room_is 2 0 64 rfl rfl w)
  obtain ⟨s, hs, HW⟩ := word31_in 2 (by decide) (by decide)
  have HW := Lib.hid (fun o : Obj => HW (w.alloc o) (hT _ ((Below.refl _ _).alloc (Nat.le_refl _) o)))
  go_enter Tryd.func35, Tryd.ntmps35
  go_wp2_with fail
  refine (HR.out _).mono ?_
  rintro e w1 ⟨rfl, rfl⟩
  go_wp2_with fail
  with_reducible refine (HW.out _).mono ?_
  rintro e w1 ⟨rfl, hb⟩
  obtain ⟨hb, c0, c1, c2, c3⟩ := sccells hb
  go_wp2
  go_ret
  exact ⟨rfl, hb⟩
set_option maxRecDepth 100000 in
set_option maxHeartbeats 1600000 in
theorem sc_k2a (who n : Int) (A : Option Addr) (len cap : Nat) (hw0 : 0 ≤ who) (hw1 : who ≤ 65535) (hn0 : 0 ≤ n) (hn1 : n ≤ 2147483647) (hl : (len : Int) ≤ 400) (hm : 64 < (len : Int)) : ScP 2 who n A len cap 2 := by
  intro w hT
  have HR := Lib.hid (fun w => room_is 2 0 64 rfl rfl w)
  obtain ⟨s, hs, HW⟩ := word31_in 2 (by decide) (by decide)
  have HW := Lib.hid (fun o : Obj => HW (w.alloc o) (hT _ ((Below.refl _ _).alloc (Nat.le_refl _) o)))
  go_enter Tryd.func35, Tryd.ntmps35
  go_wp2_with fail
  refine (HR.out _).mono ?_
  rintro e w1 ⟨rfl, rfl⟩
  go_wp2_with fail
  with_reducible refine (HW.out _).mono ?_
  rintro e w1 ⟨rfl, hb⟩
  obtain ⟨hb, c0, c1, c2, c3⟩ := sccells hb
  go_wp2
  go_ret
  exact ⟨rfl, hb⟩
set_option maxRecDepth 100000 in
set_option maxHeartbeats 1600000 in
theorem sc_k2b (who n : Int) (A : Option Addr) (len cap : Nat) (hw0 : 0 ≤ who) (hw1 : who ≤ 65535) (hn0 : 0 ≤ n) (hn1 : n ≤ 2147483647) (hl : (len : Int) ≤ 400) (hm : (len : Int) ≤ 64) : ScP 2 who n A len cap 0 := by
  intro w hT
  have HR := Lib.hid (fun w => room_is 2 0 64 rfl rfl w)
  obtain ⟨s, hs, HW⟩ := word31_in 2 (by decide) (by decide)
  have HW := Lib.hid (fun o : Obj => HW (w.alloc o) (hT _ ((Below.refl _ _).alloc (Nat.le_refl _) o)))
  go_enter Tryd.func35, Tryd.ntmps35
  go_wp2_with fail
  refine (HR.out _).mono ?_
  rintro e w1 ⟨rfl, rfl⟩
  go_wp2_with fail
  with_reducible refine (HW.out _).mono ?_
  rintro e w1 ⟨rfl, hb⟩
  obtain ⟨hb, c0, c1, c2, c3⟩ := sccells hb
  go_wp2
  go_ret
  exact ⟨rfl, hb⟩
set_option maxRecDepth 100000 in
set_option maxHeartbeats 1600000 in
theorem sc_k3l (who n : Int) (A : Option Addr) (len cap : Nat) (hw0 : 0 ≤ who) (hw1 : who ≤ 65535) (hn0 : 0 ≤ n) (hn1 : n ≤ 2147483647) (hl : 400 < (len : Int)) : ScP 3 who n A len cap 2 := by
  intro w hT
  have HR := Lib.hid (fun w => room_is 3 4 4 rfl rfl w)
  obtain ⟨s, hs, HW⟩ := word31_in 3 (by decide) (by decide)
  have HW := Lib.hid (fun o : Obj => HW (w.alloc o) (hT _ ((Below.refl _ _).alloc (Nat.le_refl _) o)))
  go_enter Tryd.func35, Tryd.ntmps35
  go_wp2_with fail
  refine (HR.out _).mono ?_
  rintro e w1 ⟨rfl, rfl⟩
  go_wp2_with fail
  with_reducible refine (HW.out _).mono ?_
  rintro e w1 ⟨rfl, hb⟩
  obtain ⟨hb, c0, c1, c2, c3⟩ := sccells hb
  go_wp2
  go_ret
  exact ⟨rfl, hb⟩
set_option maxRecDepth 100000 in
set_option maxHeartbeats 1600000 in
theorem sc_k3a (who n : Int) (A : Option Addr) (len cap : Nat) (hw0 : 0 ≤ who) (hw1 : who ≤ 65535) (hn0 : 0 ≤ n) (hn1 : n ≤ 2147483647) (hl : (len : Int) ≤ 400) (hm : (len : Int) < 4) : ScP 3 who n A len cap 3 := by
  intro w hT
  have HR := Lib.hid (fun w => room_is 3 4 4 rfl rfl w)
  obtain ⟨s, hs, HW⟩ := word31_in 3 (by decide) (by decide)
  have HW := Lib.hid (fun o : Obj => HW (w.alloc o) (hT _ ((Below.refl _ _).alloc (Nat.le_refl _) o)))
  go_enter Tryd.func35, Tryd.ntmps35
  go_wp2_with fail
  refine (HR.out _).mono ?_
  rintro e w1 ⟨rfl, rfl⟩
  go_wp2_with fail
  with_reducible refine (HW.out _).mono ?_
  rintro e w1 ⟨rfl, hb⟩
  obtain ⟨hb, c0, c1, c2, c3⟩ := sccells hb
  go_wp2
  go_ret
  exact ⟨rfl, hb⟩
set_option maxRecDepth 100000 in
set_option maxHeartbeats 1600000 in
theorem sc_k3b (who n : Int) (A : Option Addr) (len cap : Nat) (hw0 : 0 ≤ who) (hw1 : who ≤ 65535) (hn0 : 0 ≤ n) (hn1 : n ≤ 2147483647) (hl : (len : Int) ≤ 400) (hm : 4 < (len : Int)) : ScP 3 who n A len cap 3 := by
  intro w hT
  have HR := Lib.hid (fun w => room_is 3 4 4 rfl rfl w)
  obtain ⟨s, hs, HW⟩ := word31_in 3 (by decide) (by decide)
  have HW := Lib.hid (fun o : Obj => HW (w.alloc o) (hT _ ((Below.refl _ _).alloc (Nat.le_refl _) o)))
  go_enter Tryd.func35, Tryd.ntmps35
  go_wp2_with fail
  refine (HR.out _).mono ?_
  rintro e w1 ⟨rfl, rfl⟩
  go_wp2_with fail
  with_reducible refine (HW.out _).mono ?_
  rintro e w1 ⟨rfl, hb⟩
  obtain ⟨hb, c0, c1, c2, c3⟩ := sccells hb
  go_wp2
  go_ret
  exact ⟨rfl, hb⟩
set_option maxRecDepth 100000 in
set_option maxHeartbeats 1600000 in
theorem sc_k3c (who n : Int) (A : Option Addr) (len cap : Nat) (hw0 : 0 ≤ who) (hw1 : who ≤ 65535) (hn0 : 0 ≤ n) (hn1 : n ≤ 2147483647) (hm : len = 4) : ScP 3 who n A len cap 0 := by
  intro w hT
  have HR := Lib.hid (fun w => room_is 3 4 4 rfl rfl w)
  obtain ⟨s, hs, HW⟩ := word31_in 3 (by decide) (by decide)
  have HW := Lib.hid (fun o : Obj => HW (w.alloc o) (hT _ ((Below.refl _ _).alloc (Nat.le_refl _) o)))
  subst hm
  go_enter Tryd.func35, Tryd.ntmps35
  go_wp2_with fail
  refine (HR.out _).mono ?_
  rintro e w1 ⟨rfl, rfl⟩
  go_wp2_with fail
  with_reducible refine (HW.out _).mono ?_
  rintro e w1 ⟨rfl, hb⟩
  obtain ⟨hb, c0, c1, c2, c3⟩ := sccells hb
  go_wp2
  go_ret
  exact ⟨rfl, hb⟩
set_option maxRecDepth 100000 in
set_option maxHeartbeats 1600000 in
theorem sc_k10l (who n : Int) (A : Option Addr) (len cap : Nat) (hw0 : 0 ≤ who) (hw1 : who ≤ 65535) (hn0 : 0 ≤ n) (hn1 : n ≤ 2147483647) (hl : 400 < (len : Int)) : ScP 10 who n A len cap 2 := by
  intro w hT
  have HR := Lib.hid (fun w => room_is 10 0 400 rfl rfl w)
  obtain ⟨s, hs, HW⟩ := word31_in 10 (by decide) (by decide)
  have HW := Lib.hid (fun o : Obj => HW (w.alloc o) (hT _ ((Below.refl _ _).alloc (Nat.le_refl _) o)))
  go_enter Tryd.func35, Tryd.ntmps35
  go_wp2_with fail
  refine (HR.out _).mono ?_
  rintro e w1 ⟨rfl, rfl⟩
  go_wp2_with fail
  with_reducible refine (HW.out _).mono ?_
  rintro e w1 ⟨rfl, hb⟩
  obtain ⟨hb, c0, c1, c2, c3⟩ := sccells hb
  go_wp2
  go_ret
  exact ⟨rfl, hb⟩
set_option maxRecDepth 100000 in
set_option maxHeartbeats 1600000 in
theorem sc_k10b (who n : Int) (A : Option Addr) (len cap : Nat) (hw0 : 0 ≤ who) (hw1 : who ≤ 65535) (hn0 : 0 ≤ n) (hn1 : n ≤ 2147483647) (hl : (len : Int) ≤ 400) : ScP 10 who n A len cap 0 := by
  intro w hT
  have HR := Lib.hid (fun w => room_is 10 0 400 rfl rfl w)
  obtain ⟨s, hs, HW⟩ := word31_in 10 (by decide) (by decide)
  have HW := Lib.hid (fun o : Obj => HW (w.alloc o) (hT _ ((Below.refl _ _).alloc (Nat.le_refl _) o)))
  go_enter Tryd.func35, Tryd.ntmps35
  go_wp2_with fail
  refine (HR.out _).mono ?_
  rintro e w1 ⟨rfl, rfl⟩
  go_wp2_with fail
  with_reducible refine (HW.out _).mono ?_
  rintro e w1 ⟨rfl, hb⟩
  obtain ⟨hb, c0, c1, c2, c3⟩ := sccells hb
  go_wp2
  go_ret
  exact ⟨rfl, hb⟩
set_option maxRecDepth 100000 in
set_option maxHeartbeats 1600000 in
theorem sc_kxl (k who n : Int) (A : Option Addr) (len cap : Nat) (hk0 : 0 ≤ k) (hk1 : k < 11) (e0 : (k == 0) = false) (e2 : (k == 2) = false) (e3 : (k == 3) = false) (e10 : (k == 10) = false) (hw0 : 0 ≤ who) (hw1 : who ≤ 65535) (hn0 : 0 ≤ n) (hn1 : n ≤ 2147483647) (hl : 400 < (len : Int)) : ScP k who n A len cap 2 := by
  intro w hT
  have HR := Lib.hid (fun w => room_is k 0 0 (by simp only [lstK]; rw [if_neg (by simpa using e3)]) (by simp only [mstK]; rw [if_neg (by simpa using e3), if_neg (by simpa using e10), if_neg (by simpa using e2)]) w)
  obtain ⟨s, hs, HW⟩ := word31_in k hk0 hk1
  have HW := Lib.hid (fun o : Obj => HW (w.alloc o) (hT _ ((Below.refl _ _).alloc (Nat.le_refl _) o)))
  go_enter Tryd.func35, Tryd.ntmps35
  go_wp2_with fail
  refine (HR.out _).mono ?_
  rintro e w1 ⟨rfl, rfl⟩
  go_wp2_with fail
  with_reducible refine (HW.out _).mono ?_
  rintro e w1 ⟨rfl, hb⟩
  obtain ⟨hb, c0, c1, c2, c3⟩ := sccells hb
  go_wp2
  go_ret
  exact ⟨rfl, hb⟩
set_option maxRecDepth 100000 in
set_option maxHeartbeats 1600000 in
theorem sc_kxa (k who n : Int) (A : Option Addr) (len cap : Nat) (hk0 : 0 ≤ k) (hk1 : k < 11) (e0 : (k == 0) = false) (e2 : (k == 2) = false) (e3 : (k == 3) = false) (e10 : (k == 10) = false) (hw0 : 0 ≤ who) (hw1 : who ≤ 65535) (hn0 : 0 ≤ n) (hn1 : n ≤ 2147483647) (hl : (len : Int) ≤ 400) (hm : 0 < (len : Int)) : ScP k who n A len cap 3 := by
  intro w hT
  have HR := Lib.hid (fun w => room_is k 0 0 (by simp only [lstK]; rw [if_neg (by simpa using e3)]) (by simp only [mstK]; rw [if_neg (by simpa using e3), if_neg (by simpa using e10), if_neg (by simpa using e2)]) w)
  obtain ⟨s, hs, HW⟩ := word31_in k hk0 hk1
  have HW := Lib.hid (fun o : Obj => HW (w.alloc o) (hT _ ((Below.refl _ _).alloc (Nat.le_refl _) o)))
  go_enter Tryd.func35, Tryd.ntmps35
  go_wp2_with fail
  refine (HR.out _).mono ?_
  rintro e w1 ⟨rfl, rfl⟩
  go_wp2_with fail
  with_reducible refine (HW.out _).mono ?_
  rintro e w1 ⟨rfl, hb⟩
  obtain ⟨hb, c0, c1, c2, c3⟩ := sccells hb
  go_wp2
  go_ret
  exact ⟨rfl, hb⟩
set_option maxRecDepth 100000 in
set_option maxHeartbeats 1600000 in
theorem sc_kxb (k who n : Int) (A : Option Addr) (len cap : Nat) (hk0 : 0 ≤ k) (hk1 : k < 11) (e0 : (k == 0) = false) (e2 : (k == 2) = false) (e3 : (k == 3) = false) (e10 : (k == 10) = false) (hw0 : 0 ≤ who) (hw1 : who ≤ 65535) (hn0 : 0 ≤ n) (hn1 : n ≤ 2147483647) (hm : len = 0) : ScP k who n A len cap 0 := by
  intro w hT
  have HR := Lib.hid (fun w => room_is k 0 0 (by simp only [lstK]; rw [if_neg (by simpa using e3)]) (by simp only [mstK]; rw [if_neg (by simpa using e3), if_neg (by simpa using e10), if_neg (by simpa using e2)]) w)
  obtain ⟨s, hs, HW⟩ := word31_in k hk0 hk1
  have HW := Lib.hid (fun o : Obj => HW (w.alloc o) (hT _ ((Below.refl _ _).alloc (Nat.le_refl _) o)))
  subst hm
  go_enter Tryd.func35, Tryd.ntmps35
  go_wp2_with fail
  refine (HR.out _).mono ?_
  rintro e w1 ⟨rfl, rfl⟩
  go_wp2_with fail
  with_reducible refine (HW.out _).mono ?_
  rintro e w1 ⟨rfl, hb⟩
  obtain ⟨hb, c0, c1, c2, c3⟩ := sccells hb
  go_wp2
  go_ret
  exact ⟨rfl, hb⟩
end Go.Proofs.YtnopmdhjamkoaaaDoor
