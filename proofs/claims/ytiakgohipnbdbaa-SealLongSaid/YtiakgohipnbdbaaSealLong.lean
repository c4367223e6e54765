/-
  vigillaw03.SealLong returns true, whatever it is called with. Conditions: none.
-/
import Derived.Test.YtiakgohipnbdbaaSe7
import Derived.Test.YtiakgohipnbdbaaMod
import Derived.Test.YtiakgohipnbdbaaShaZ2
namespace Go.Proofs.Ytiakgohipnbdbaa
set_option linter.unusedVariables false
set_option linter.unusedSimpArgs false
open Go.RowKit

theorem size03_lo (n : Int) (h : n < 0) (w : World) : Calls Try.prog 48 #[.int .i64 n] w fun e w' => e = .returned (.int .i64 0) ∧ w = w' := by
  have h1 : decide (n < 0) = true := by simp; omega
  go_enter Try.func48, Try.ntmps48
  go_wp2
  go_ret
  exact ⟨rfl, rfl⟩
theorem size03_hi (n : Int) (h : 65536 < n) (w : World) : Calls Try.prog 48 #[.int .i64 n] w fun e w' => e = .returned (.int .i64 0) ∧ w = w' := by
  have h1 : decide (n < 0) = false := by simp; omega
  have h2 : decide (65536 < n) = true := by simp; omega
  clear h
  go_enter Try.func48, Try.ntmps48
  go_wp2
  go_ret
  exact ⟨rfl, rfl⟩
theorem size03i (n : Int) (h0 : 0 ≤ n) (h1 : n ≤ 65536) (w : World) : Calls Try.prog 48 #[.int .i64 n] w fun e w' => e = .returned (.int .i64 (n + 32)) ∧ w = w' := by
  obtain ⟨m, rfl⟩ : ∃ m : Nat, n = (m : Int) := ⟨n.toNat, by omega⟩
  exact size03 m (by omega) w
theorem masked03_lo (A : Option Addr) (c : Nat) (w : World) : Calls Try.prog 49 #[.slice A 31 c] w fun e w' => e = .returned (.int .i64 0) ∧ w = w' := by
  go_enter Try.func49, Try.ntmps49
  go_wp2
  go_ret
  exact ⟨rfl, rfl⟩

set_option maxRecDepth 100000 in
set_option maxHeartbeats 3200000 in
theorem sealLong_in0 (W : World) (n : Int) (hn : 0 ≤ n ∧ n ≤ 65536) (T : Nat) (hT : wrap64 ((IntKind.u64.wrap n).tmod 5) = (T : Int)) (hT1 : T ≤ 2) (hT2 : T < 5) :
    Calls Try.prog 11 #[.int .i64 n] W fun e W' => e = .returned (.bool true) ∧ Below W.heap.size W W' := by
  obtain ⟨Z, hZ⟩ : ∃ Z, Z = 65534 + T := ⟨_, rfl⟩
  have hz : (65534 : Int) + (T : Int) = (Z : Int) := by omega
  have hz32 : 0 ≤ (Z : Int) ∧ (Z : Int) ≤ 100000 := by omega
  have HNW := Lib.hid (show ∀ w' g, RB w' w'.heap.size (some ⟨g, 0, none⟩) [107] → Calls Try.prog 41 #[.slice (some ⟨g, 0, none⟩) 1 1] w' fun e w2 => ∃ gk, e = .returned (.pointer (some ⟨gk, 0, none⟩)) ∧ KeyW w2 gk [107] ∧ Below w'.heap.size w' w2 from fun w' g h => new_any w' (some ⟨g, 0, none⟩) 1 [107] h (by decide))
  have hmk1 : ∀ w, (Instr.makeSlice 24 (.int .i64 (Z : Int)) (.int .i64 (Z : Int))).run Try.prog w = .ok (.slice (some ⟨w.heap.size, 0, none⟩) Z Z) (w.alloc (.cells (b8a (List.replicate Z 0)) 5)) := fun w => make_u8 Z (by omega) w
  have hmk2 : ∀ w, (Instr.makeSlice 24 (.int .i64 ((Z : Int) + 32)) (.int .i64 ((Z : Int) + 32))).run Try.prog w = .ok (.slice (some ⟨w.heap.size, 0, none⟩) (Z + 32) (Z + 32)) (w.alloc (.cells (b8a (List.replicate (Z + 32) 0)) 5)) := fun w => make_u8 (Z + 32) (by omega) w
  have hmk3 : ∀ w, (Instr.makeSlice 24 (.int .i64 31) (.int .i64 31)).run Try.prog w = .ok (.slice (some ⟨w.heap.size, 0, none⟩) 31 31) (w.alloc (.cells (b8a (List.replicate 31 0)) 5)) := fun w => make_u8 31 (by decide) w
  have HST := Lib.hid (fun w gk h => stream_any w gk [107] h (by decide) none 0 [] (Rd.nil_ _ _ _ _) (by decide) Z (by omega))
  have hsl := fun w gk g h1 h2 => seal_any w gk [107] h1 (by decide) none 0 [] (Rd.nil_ _ _ _ _) (by decide) none 0 [] (Rd.nil_ _ _ _ _) (by decide) (some ⟨g, 0, none⟩) Z (List.replicate Z 0) h2 (by rw [List.length_replicate]; omega)
  have hop := fun w gk g h1 h2 => (open_any w gk [107] h1 (by decide) none 0 [] (Rd.nil_ _ _ _ _) (by decide) none 0 [] (Rd.nil_ _ _ _ _) (by decide) (some ⟨g, 0, none⟩) (Z + 32) (List.replicate (Z + 32) 0) h2 (by rw [List.length_replicate]; omega) (by rw [List.length_replicate]; omega) (by rw [List.length_replicate]; omega) (by omega)).mono fun e w' h => h.2 (zero_no Z (by omega))
  simp only [List.length_replicate, List.length_nil] at hsl hop
  have HSL := Lib.hid hsl
  have HOP := Lib.hid hop
  clear hsl hop
  have hlong : decide ((65536 : Int) < (Z : Int)) = false := by simp; omega
  have HNE := Lib.hid (fun w gk => stream_neg w gk none 0 0 (-1) (by decide) (by decide))
  have HSZ := Lib.hid (fun w => size03i n hn.1 hn.2 w)
  have HN := Lib.hid hn
  obtain ⟨hz0, hz1⟩ := hz32
  have hbz : List.replicate Z (0 : UInt8) = List.replicate Z 0 := rfl
  clear hn hT1 hT2 hZ hbz
  go_enter Try.func11, Try.ntmps11
  have L := Lib.hid (Lv.start W)
  go_wp2_with (first | ((with_reducible refine wpList_markL rfl _ _ rfl 1 1 _ _ rfl Try.underlying24 Try.underlying5 [107] rfl ?_); intro w2 hb hr; have L := Lib.hid ((L.out.keep hb).add hr); clear hb hr))
  refine (HNW.out _ _ (L.out.r (by simp))).mono ?_
  rintro e w3 ⟨gk, rfl, hk, hb⟩
  have L := Lib.hid ((L.out.keep hb).addk hk)
  clear hk hb
  go_wp2_with fail
  refine (HST.out _ _ (L.out.k (by simp))).mono ?_
  rintro e w4 ⟨A4, rfl, hb, hnb⟩
  have L := Lib.hid (L.out.keep hb)
  clear hb hnb
  go_wp2_with fail
  have L := Lib.hid ((L.out.keep ((Below.refl w4.heap.size w4).alloc (Nat.le_refl _) (.cells (b8a (List.replicate Z 0)) 5))).add (RB.of_cells (heap_alloc_new w4 _)))
  refine (HSL.out _ _ _ (L.out.k (by simp)) (L.out.r (by simp))).mono ?_
  rintro e w5 ⟨A5, c5, rfl, hc5, hc5', hb, hnb⟩
  have L := Lib.hid (L.out.keep hb)
  clear hb hnb hc5 hc5'
  go_wp2_with fail
  have L := Lib.hid ((L.out.keep ((Below.refl w5.heap.size w5).alloc (Nat.le_refl _) (.cells (b8a (List.replicate (Z + 32) 0)) 5))).add (RB.of_cells (heap_alloc_new w5 _)))
  refine (HOP.out _ _ _ (L.out.k (by simp)) (L.out.r (by simp))).mono ?_
  rintro e w6 ⟨rfl, hb⟩
  have L := Lib.hid (L.out.keep hb)
  clear hb
  go_wp2_with fail
  refine (HNE.out _ _).mono ?_
  rintro e w7 ⟨rfl, rfl⟩
  have hn1 : decide (0 ≤ n) = true := by simpa using HN.out.1
  have hn2 : decide (n ≤ 65536) = true := by simpa using HN.out.2
  have hn3 : 0 ≤ n := HN.out.1
  have hn4 : n ≤ 100000 := by have := HN.out.2; omega
  go_wp2_with fail
  refine (known03 _).mono ?_
  rintro e w8 ⟨rfl, hb⟩
  have L := Lib.hid (L.out.keep hb)
  clear hb
  go_wp2_with fail
  refine (HSZ.out _).mono ?_
  rintro e w9 ⟨rfl, rfl⟩
  go_wp2_with fail
  have L := Lib.hid (L.out.keep ((Below.refl w8.heap.size w8).alloc (Nat.le_refl _) (.cells (b8a (List.replicate 31 0)) 5)))
  refine (masked03_lo _ _ _).mono ?_
  rintro e w10 ⟨rfl, rfl⟩
  go_wp2_with fail
  go_ret
  exact ⟨rfl, L.out.bel⟩
set_option maxRecDepth 100000 in
set_option maxHeartbeats 3200000 in
theorem sealLong_lo0 (W : World) (n : Int) (hn : n < 0) (T : Nat) (hT : wrap64 ((IntKind.u64.wrap n).tmod 5) = (T : Int)) (hT1 : T ≤ 2) (hT2 : T < 5) :
    Calls Try.prog 11 #[.int .i64 n] W fun e W' => e = .returned (.bool true) ∧ Below W.heap.size W W' := by
  obtain ⟨Z, hZ⟩ : ∃ Z, Z = 65534 + T := ⟨_, rfl⟩
  have hz : (65534 : Int) + (T : Int) = (Z : Int) := by omega
  have hz32 : 0 ≤ (Z : Int) ∧ (Z : Int) ≤ 100000 := by omega
  have HNW := Lib.hid (show ∀ w' g, RB w' w'.heap.size (some ⟨g, 0, none⟩) [107] → Calls Try.prog 41 #[.slice (some ⟨g, 0, none⟩) 1 1] w' fun e w2 => ∃ gk, e = .returned (.pointer (some ⟨gk, 0, none⟩)) ∧ KeyW w2 gk [107] ∧ Below w'.heap.size w' w2 from fun w' g h => new_any w' (some ⟨g, 0, none⟩) 1 [107] h (by decide))
  have hmk1 : ∀ w, (Instr.makeSlice 24 (.int .i64 (Z : Int)) (.int .i64 (Z : Int))).run Try.prog w = .ok (.slice (some ⟨w.heap.size, 0, none⟩) Z Z) (w.alloc (.cells (b8a (List.replicate Z 0)) 5)) := fun w => make_u8 Z (by omega) w
  have hmk2 : ∀ w, (Instr.makeSlice 24 (.int .i64 ((Z : Int) + 32)) (.int .i64 ((Z : Int) + 32))).run Try.prog w = .ok (.slice (some ⟨w.heap.size, 0, none⟩) (Z + 32) (Z + 32)) (w.alloc (.cells (b8a (List.replicate (Z + 32) 0)) 5)) := fun w => make_u8 (Z + 32) (by omega) w
  have hmk3 : ∀ w, (Instr.makeSlice 24 (.int .i64 31) (.int .i64 31)).run Try.prog w = .ok (.slice (some ⟨w.heap.size, 0, none⟩) 31 31) (w.alloc (.cells (b8a (List.replicate 31 0)) 5)) := fun w => make_u8 31 (by decide) w
  have HST := Lib.hid (fun w gk h => stream_any w gk [107] h (by decide) none 0 [] (Rd.nil_ _ _ _ _) (by decide) Z (by omega))
  have hsl := fun w gk g h1 h2 => seal_any w gk [107] h1 (by decide) none 0 [] (Rd.nil_ _ _ _ _) (by decide) none 0 [] (Rd.nil_ _ _ _ _) (by decide) (some ⟨g, 0, none⟩) Z (List.replicate Z 0) h2 (by rw [List.length_replicate]; omega)
  have hop := fun w gk g h1 h2 => (open_any w gk [107] h1 (by decide) none 0 [] (Rd.nil_ _ _ _ _) (by decide) none 0 [] (Rd.nil_ _ _ _ _) (by decide) (some ⟨g, 0, none⟩) (Z + 32) (List.replicate (Z + 32) 0) h2 (by rw [List.length_replicate]; omega) (by rw [List.length_replicate]; omega) (by rw [List.length_replicate]; omega) (by omega)).mono fun e w' h => h.2 (zero_no Z (by omega))
  simp only [List.length_replicate, List.length_nil] at hsl hop
  have HSL := Lib.hid hsl
  have HOP := Lib.hid hop
  clear hsl hop
  have hlong : decide ((65536 : Int) < (Z : Int)) = false := by simp; omega
  have HNE := Lib.hid (fun w gk => stream_neg w gk none 0 0 (-1) (by decide) (by decide))
  have HSZ := Lib.hid (fun w => size03_lo n hn w)
  have HN := Lib.hid hn
  obtain ⟨hz0, hz1⟩ := hz32
  have hbz : List.replicate Z (0 : UInt8) = List.replicate Z 0 := rfl
  clear hn hT1 hT2 hZ hbz
  go_enter Try.func11, Try.ntmps11
  have L := Lib.hid (Lv.start W)
  go_wp2_with (first | ((with_reducible refine wpList_markL rfl _ _ rfl 1 1 _ _ rfl Try.underlying24 Try.underlying5 [107] rfl ?_); intro w2 hb hr; have L := Lib.hid ((L.out.keep hb).add hr); clear hb hr))
  refine (HNW.out _ _ (L.out.r (by simp))).mono ?_
  rintro e w3 ⟨gk, rfl, hk, hb⟩
  have L := Lib.hid ((L.out.keep hb).addk hk)
  clear hk hb
  go_wp2_with fail
  refine (HST.out _ _ (L.out.k (by simp))).mono ?_
  rintro e w4 ⟨A4, rfl, hb, hnb⟩
  have L := Lib.hid (L.out.keep hb)
  clear hb hnb
  go_wp2_with fail
  have L := Lib.hid ((L.out.keep ((Below.refl w4.heap.size w4).alloc (Nat.le_refl _) (.cells (b8a (List.replicate Z 0)) 5))).add (RB.of_cells (heap_alloc_new w4 _)))
  refine (HSL.out _ _ _ (L.out.k (by simp)) (L.out.r (by simp))).mono ?_
  rintro e w5 ⟨A5, c5, rfl, hc5, hc5', hb, hnb⟩
  have L := Lib.hid (L.out.keep hb)
  clear hb hnb hc5 hc5'
  go_wp2_with fail
  have L := Lib.hid ((L.out.keep ((Below.refl w5.heap.size w5).alloc (Nat.le_refl _) (.cells (b8a (List.replicate (Z + 32) 0)) 5))).add (RB.of_cells (heap_alloc_new w5 _)))
  refine (HOP.out _ _ _ (L.out.k (by simp)) (L.out.r (by simp))).mono ?_
  rintro e w6 ⟨rfl, hb⟩
  have L := Lib.hid (L.out.keep hb)
  clear hb
  go_wp2_with fail
  refine (HNE.out _ _).mono ?_
  rintro e w7 ⟨rfl, rfl⟩
  have hn1 : decide (0 ≤ n) = false := by have := HN.out; simp; omega
  have hn2 : ¬ 0 ≤ n := by have := HN.out; omega
  go_wp2_with fail
  refine (known03 _).mono ?_
  rintro e w8 ⟨rfl, hb⟩
  have L := Lib.hid (L.out.keep hb)
  clear hb
  go_wp2_with fail
  refine (HSZ.out _).mono ?_
  rintro e w9 ⟨rfl, rfl⟩
  go_wp2_with fail
  have L := Lib.hid (L.out.keep ((Below.refl w8.heap.size w8).alloc (Nat.le_refl _) (.cells (b8a (List.replicate 31 0)) 5)))
  refine (masked03_lo _ _ _).mono ?_
  rintro e w10 ⟨rfl, rfl⟩
  go_wp2_with fail
  go_ret
  exact ⟨rfl, L.out.bel⟩
set_option maxRecDepth 100000 in
set_option maxHeartbeats 3200000 in
theorem sealLong_hi0 (W : World) (n : Int) (hn : 65536 < n) (T : Nat) (hT : wrap64 ((IntKind.u64.wrap n).tmod 5) = (T : Int)) (hT1 : T ≤ 2) (hT2 : T < 5) :
    Calls Try.prog 11 #[.int .i64 n] W fun e W' => e = .returned (.bool true) ∧ Below W.heap.size W W' := by
  obtain ⟨Z, hZ⟩ : ∃ Z, Z = 65534 + T := ⟨_, rfl⟩
  have hz : (65534 : Int) + (T : Int) = (Z : Int) := by omega
  have hz32 : 0 ≤ (Z : Int) ∧ (Z : Int) ≤ 100000 := by omega
  have HNW := Lib.hid (show ∀ w' g, RB w' w'.heap.size (some ⟨g, 0, none⟩) [107] → Calls Try.prog 41 #[.slice (some ⟨g, 0, none⟩) 1 1] w' fun e w2 => ∃ gk, e = .returned (.pointer (some ⟨gk, 0, none⟩)) ∧ KeyW w2 gk [107] ∧ Below w'.heap.size w' w2 from fun w' g h => new_any w' (some ⟨g, 0, none⟩) 1 [107] h (by decide))
  have hmk1 : ∀ w, (Instr.makeSlice 24 (.int .i64 (Z : Int)) (.int .i64 (Z : Int))).run Try.prog w = .ok (.slice (some ⟨w.heap.size, 0, none⟩) Z Z) (w.alloc (.cells (b8a (List.replicate Z 0)) 5)) := fun w => make_u8 Z (by omega) w
  have hmk2 : ∀ w, (Instr.makeSlice 24 (.int .i64 ((Z : Int) + 32)) (.int .i64 ((Z : Int) + 32))).run Try.prog w = .ok (.slice (some ⟨w.heap.size, 0, none⟩) (Z + 32) (Z + 32)) (w.alloc (.cells (b8a (List.replicate (Z + 32) 0)) 5)) := fun w => make_u8 (Z + 32) (by omega) w
  have hmk3 : ∀ w, (Instr.makeSlice 24 (.int .i64 31) (.int .i64 31)).run Try.prog w = .ok (.slice (some ⟨w.heap.size, 0, none⟩) 31 31) (w.alloc (.cells (b8a (List.replicate 31 0)) 5)) := fun w => make_u8 31 (by decide) w
  have HST := Lib.hid (fun w gk h => stream_any w gk [107] h (by decide) none 0 [] (Rd.nil_ _ _ _ _) (by decide) Z (by omega))
  have hsl := fun w gk g h1 h2 => seal_any w gk [107] h1 (by decide) none 0 [] (Rd.nil_ _ _ _ _) (by decide) none 0 [] (Rd.nil_ _ _ _ _) (by decide) (some ⟨g, 0, none⟩) Z (List.replicate Z 0) h2 (by rw [List.length_replicate]; omega)
  have hop := fun w gk g h1 h2 => (open_any w gk [107] h1 (by decide) none 0 [] (Rd.nil_ _ _ _ _) (by decide) none 0 [] (Rd.nil_ _ _ _ _) (by decide) (some ⟨g, 0, none⟩) (Z + 32) (List.replicate (Z + 32) 0) h2 (by rw [List.length_replicate]; omega) (by rw [List.length_replicate]; omega) (by rw [List.length_replicate]; omega) (by omega)).mono fun e w' h => h.2 (zero_no Z (by omega))
  simp only [List.length_replicate, List.length_nil] at hsl hop
  have HSL := Lib.hid hsl
  have HOP := Lib.hid hop
  clear hsl hop
  have hlong : decide ((65536 : Int) < (Z : Int)) = false := by simp; omega
  have HNE := Lib.hid (fun w gk => stream_neg w gk none 0 0 (-1) (by decide) (by decide))
  have HSZ := Lib.hid (fun w => size03_hi n hn w)
  have HN := Lib.hid hn
  obtain ⟨hz0, hz1⟩ := hz32
  have hbz : List.replicate Z (0 : UInt8) = List.replicate Z 0 := rfl
  clear hn hT1 hT2 hZ hbz
  go_enter Try.func11, Try.ntmps11
  have L := Lib.hid (Lv.start W)
  go_wp2_with (first | ((with_reducible refine wpList_markL rfl _ _ rfl 1 1 _ _ rfl Try.underlying24 Try.underlying5 [107] rfl ?_); intro w2 hb hr; have L := Lib.hid ((L.out.keep hb).add hr); clear hb hr))
  refine (HNW.out _ _ (L.out.r (by simp))).mono ?_
  rintro e w3 ⟨gk, rfl, hk, hb⟩
  have L := Lib.hid ((L.out.keep hb).addk hk)
  clear hk hb
  go_wp2_with fail
  refine (HST.out _ _ (L.out.k (by simp))).mono ?_
  rintro e w4 ⟨A4, rfl, hb, hnb⟩
  have L := Lib.hid (L.out.keep hb)
  clear hb hnb
  go_wp2_with fail
  have L := Lib.hid ((L.out.keep ((Below.refl w4.heap.size w4).alloc (Nat.le_refl _) (.cells (b8a (List.replicate Z 0)) 5))).add (RB.of_cells (heap_alloc_new w4 _)))
  refine (HSL.out _ _ _ (L.out.k (by simp)) (L.out.r (by simp))).mono ?_
  rintro e w5 ⟨A5, c5, rfl, hc5, hc5', hb, hnb⟩
  have L := Lib.hid (L.out.keep hb)
  clear hb hnb hc5 hc5'
  go_wp2_with fail
  have L := Lib.hid ((L.out.keep ((Below.refl w5.heap.size w5).alloc (Nat.le_refl _) (.cells (b8a (List.replicate (Z + 32) 0)) 5))).add (RB.of_cells (heap_alloc_new w5 _)))
  refine (HOP.out _ _ _ (L.out.k (by simp)) (L.out.r (by simp))).mono ?_
  rintro e w6 ⟨rfl, hb⟩
  have L := Lib.hid (L.out.keep hb)
  clear hb
  go_wp2_with fail
  refine (HNE.out _ _).mono ?_
  rintro e w7 ⟨rfl, rfl⟩
  have hn1 : decide (0 ≤ n) = true := by have := HN.out; simp; omega
  have hn2 : decide (n ≤ 65536) = false := by have := HN.out; simp; omega
  have hn3 : 0 ≤ n := by have := HN.out; omega
  go_wp2_with fail
  refine (known03 _).mono ?_
  rintro e w8 ⟨rfl, hb⟩
  have L := Lib.hid (L.out.keep hb)
  clear hb
  go_wp2_with fail
  refine (HSZ.out _).mono ?_
  rintro e w9 ⟨rfl, rfl⟩
  go_wp2_with fail
  have L := Lib.hid (L.out.keep ((Below.refl w8.heap.size w8).alloc (Nat.le_refl _) (.cells (b8a (List.replicate 31 0)) 5)))
  refine (masked03_lo _ _ _).mono ?_
  rintro e w10 ⟨rfl, rfl⟩
  go_wp2_with fail
  go_ret
  exact ⟨rfl, L.out.bel⟩
set_option maxRecDepth 100000 in
set_option maxHeartbeats 3200000 in
theorem sealLong_in1 (W : World) (n : Int) (hn : 0 ≤ n ∧ n ≤ 65536) (T : Nat) (hT : wrap64 ((IntKind.u64.wrap n).tmod 5) = (T : Int)) (hT1 : 3 ≤ T) (hT2 : T < 5) :
    Calls Try.prog 11 #[.int .i64 n] W fun e W' => e = .returned (.bool true) ∧ Below W.heap.size W W' := by
  obtain ⟨Z, hZ⟩ : ∃ Z, Z = 65534 + T := ⟨_, rfl⟩
  have hz : (65534 : Int) + (T : Int) = (Z : Int) := by omega
  have hz32 : 0 ≤ (Z : Int) ∧ (Z : Int) ≤ 100000 := by omega
  have HNW := Lib.hid (show ∀ w' g, RB w' w'.heap.size (some ⟨g, 0, none⟩) [107] → Calls Try.prog 41 #[.slice (some ⟨g, 0, none⟩) 1 1] w' fun e w2 => ∃ gk, e = .returned (.pointer (some ⟨gk, 0, none⟩)) ∧ KeyW w2 gk [107] ∧ Below w'.heap.size w' w2 from fun w' g h => new_any w' (some ⟨g, 0, none⟩) 1 [107] h (by decide))
  have hmk1 : ∀ w, (Instr.makeSlice 24 (.int .i64 (Z : Int)) (.int .i64 (Z : Int))).run Try.prog w = .ok (.slice (some ⟨w.heap.size, 0, none⟩) Z Z) (w.alloc (.cells (b8a (List.replicate Z 0)) 5)) := fun w => make_u8 Z (by omega) w
  have hmk2 : ∀ w, (Instr.makeSlice 24 (.int .i64 ((Z : Int) + 32)) (.int .i64 ((Z : Int) + 32))).run Try.prog w = .ok (.slice (some ⟨w.heap.size, 0, none⟩) (Z + 32) (Z + 32)) (w.alloc (.cells (b8a (List.replicate (Z + 32) 0)) 5)) := fun w => make_u8 (Z + 32) (by omega) w
  have hmk3 : ∀ w, (Instr.makeSlice 24 (.int .i64 31) (.int .i64 31)).run Try.prog w = .ok (.slice (some ⟨w.heap.size, 0, none⟩) 31 31) (w.alloc (.cells (b8a (List.replicate 31 0)) 5)) := fun w => make_u8 31 (by decide) w
  have HST := Lib.hid (fun w gk => stream_long w gk none 0 0 (Z : Int) (by decide) (by omega))
  have HSL := Lib.hid (fun w gk g => seal_no w (.pointer (some ⟨gk, 0, none⟩)) none 0 0 (.slice none 0 0) (some ⟨g, 0, none⟩) Z Z 2 (fun w => stream_long w gk none 0 0 (Z : Int) (by decide) (by omega)) (by decide))
  have HOP := Lib.hid (fun w gk g => open_long w gk none 0 0 (.slice none 0 0) (some ⟨g, 0, none⟩) (Z + 32) (Z + 32) (by decide) (by omega) (by omega))
  have hlong : decide ((65536 : Int) < (Z : Int)) = true := by simp; omega
  have HNE := Lib.hid (fun w gk => stream_neg w gk none 0 0 (-1) (by decide) (by decide))
  have HSZ := Lib.hid (fun w => size03i n hn.1 hn.2 w)
  have HN := Lib.hid hn
  obtain ⟨hz0, hz1⟩ := hz32
  have hbz : List.replicate Z (0 : UInt8) = List.replicate Z 0 := rfl
  clear hn hT1 hT2 hZ hbz
  go_enter Try.func11, Try.ntmps11
  have L := Lib.hid (Lv.start W)
  go_wp2_with (first | ((with_reducible refine wpList_markL rfl _ _ rfl 1 1 _ _ rfl Try.underlying24 Try.underlying5 [107] rfl ?_); intro w2 hb hr; have L := Lib.hid ((L.out.keep hb).add hr); clear hb hr))
  refine (HNW.out _ _ (L.out.r (by simp))).mono ?_
  rintro e w3 ⟨gk, rfl, hk, hb⟩
  have L := Lib.hid ((L.out.keep hb).addk hk)
  clear hk hb
  go_wp2_with fail
  refine (HST.out _ _).mono ?_
  rintro e w4 ⟨rfl, rfl⟩
  go_wp2_with fail
  have L := Lib.hid (L.out.keep ((Below.refl w3.heap.size w3).alloc (Nat.le_refl _) (.cells (b8a (List.replicate Z 0)) 5)))
  refine (HSL.out _ _ _).mono ?_
  rintro e w5 ⟨rfl, rfl⟩
  generalize World.alloc w3 _ = w5 at L ⊢
  go_wp2_with fail
  have L := Lib.hid (L.out.keep ((Below.refl w5.heap.size w5).alloc (Nat.le_refl _) (.cells (b8a (List.replicate (Z + 32) 0)) 5)))
  refine (HOP.out _ _ _).mono ?_
  rintro e w6 ⟨rfl, rfl⟩
  generalize World.alloc w5 _ = w6 at L ⊢
  go_wp2_with fail
  refine (HNE.out _ _).mono ?_
  rintro e w7 ⟨rfl, rfl⟩
  have hn1 : decide (0 ≤ n) = true := by simpa using HN.out.1
  have hn2 : decide (n ≤ 65536) = true := by simpa using HN.out.2
  have hn3 : 0 ≤ n := HN.out.1
  have hn4 : n ≤ 100000 := by have := HN.out.2; omega
  go_wp2_with fail
  refine (known03 _).mono ?_
  rintro e w8 ⟨rfl, hb⟩
  have L := Lib.hid (L.out.keep hb)
  clear hb
  go_wp2_with fail
  refine (HSZ.out _).mono ?_
  rintro e w9 ⟨rfl, rfl⟩
  go_wp2_with fail
  have L := Lib.hid (L.out.keep ((Below.refl w8.heap.size w8).alloc (Nat.le_refl _) (.cells (b8a (List.replicate 31 0)) 5)))
  refine (masked03_lo _ _ _).mono ?_
  rintro e w10 ⟨rfl, rfl⟩
  go_wp2_with fail
  go_ret
  exact ⟨rfl, L.out.bel⟩
set_option maxRecDepth 100000 in
set_option maxHeartbeats 3200000 in
theorem sealLong_lo1 (W : World) (n : Int) (hn : n < 0) (T : Nat) (hT : wrap64 ((IntKind.u64.wrap n).tmod 5) = (T : Int)) (hT1 : 3 ≤ T) (hT2 : T < 5) :
    Calls Try.prog 11 #[.int .i64 n] W fun e W' => e = .returned (.bool true) ∧ Below W.heap.size W W' := by
  obtain ⟨Z, hZ⟩ : ∃ Z, Z = 65534 + T := ⟨_, rfl⟩
  have hz : (65534 : Int) + (T : Int) = (Z : Int) := by omega
  have hz32 : 0 ≤ (Z : Int) ∧ (Z : Int) ≤ 100000 := by omega
  have HNW := Lib.hid (show ∀ w' g, RB w' w'.heap.size (some ⟨g, 0, none⟩) [107] → Calls Try.prog 41 #[.slice (some ⟨g, 0, none⟩) 1 1] w' fun e w2 => ∃ gk, e = .returned (.pointer (some ⟨gk, 0, none⟩)) ∧ KeyW w2 gk [107] ∧ Below w'.heap.size w' w2 from fun w' g h => new_any w' (some ⟨g, 0, none⟩) 1 [107] h (by decide))
  have hmk1 : ∀ w, (Instr.makeSlice 24 (.int .i64 (Z : Int)) (.int .i64 (Z : Int))).run Try.prog w = .ok (.slice (some ⟨w.heap.size, 0, none⟩) Z Z) (w.alloc (.cells (b8a (List.replicate Z 0)) 5)) := fun w => make_u8 Z (by omega) w
  have hmk2 : ∀ w, (Instr.makeSlice 24 (.int .i64 ((Z : Int) + 32)) (.int .i64 ((Z : Int) + 32))).run Try.prog w = .ok (.slice (some ⟨w.heap.size, 0, none⟩) (Z + 32) (Z + 32)) (w.alloc (.cells (b8a (List.replicate (Z + 32) 0)) 5)) := fun w => make_u8 (Z + 32) (by omega) w
  have hmk3 : ∀ w, (Instr.makeSlice 24 (.int .i64 31) (.int .i64 31)).run Try.prog w = .ok (.slice (some ⟨w.heap.size, 0, none⟩) 31 31) (w.alloc (.cells (b8a (List.replicate 31 0)) 5)) := fun w => make_u8 31 (by decide) w
  have HST := Lib.hid (fun w gk => stream_long w gk none 0 0 (Z : Int) (by decide) (by omega))
  have HSL := Lib.hid (fun w gk g => seal_no w (.pointer (some ⟨gk, 0, none⟩)) none 0 0 (.slice none 0 0) (some ⟨g, 0, none⟩) Z Z 2 (fun w => stream_long w gk none 0 0 (Z : Int) (by decide) (by omega)) (by decide))
  have HOP := Lib.hid (fun w gk g => open_long w gk none 0 0 (.slice none 0 0) (some ⟨g, 0, none⟩) (Z + 32) (Z + 32) (by decide) (by omega) (by omega))
  have hlong : decide ((65536 : Int) < (Z : Int)) = true := by simp; omega
  have HNE := Lib.hid (fun w gk => stream_neg w gk none 0 0 (-1) (by decide) (by decide))
  have HSZ := Lib.hid (fun w => size03_lo n hn w)
  have HN := Lib.hid hn
  obtain ⟨hz0, hz1⟩ := hz32
  have hbz : List.replicate Z (0 : UInt8) = List.replicate Z 0 := rfl
  clear hn hT1 hT2 hZ hbz
  go_enter Try.func11, Try.ntmps11
  have L := Lib.hid (Lv.start W)
  go_wp2_with (first | ((with_reducible refine wpList_markL rfl _ _ rfl 1 1 _ _ rfl Try.underlying24 Try.underlying5 [107] rfl ?_); intro w2 hb hr; have L := Lib.hid ((L.out.keep hb).add hr); clear hb hr))
  refine (HNW.out _ _ (L.out.r (by simp))).mono ?_
  rintro e w3 ⟨gk, rfl, hk, hb⟩
  have L := Lib.hid ((L.out.keep hb).addk hk)
  clear hk hb
  go_wp2_with fail
  refine (HST.out _ _).mono ?_
  rintro e w4 ⟨rfl, rfl⟩
  go_wp2_with fail
  have L := Lib.hid (L.out.keep ((Below.refl w3.heap.size w3).alloc (Nat.le_refl _) (.cells (b8a (List.replicate Z 0)) 5)))
  refine (HSL.out _ _ _).mono ?_
  rintro e w5 ⟨rfl, rfl⟩
  generalize World.alloc w3 _ = w5 at L ⊢
  go_wp2_with fail
  have L := Lib.hid (L.out.keep ((Below.refl w5.heap.size w5).alloc (Nat.le_refl _) (.cells (b8a (List.replicate (Z + 32) 0)) 5)))
  refine (HOP.out _ _ _).mono ?_
  rintro e w6 ⟨rfl, rfl⟩
  generalize World.alloc w5 _ = w6 at L ⊢
  go_wp2_with fail
  refine (HNE.out _ _).mono ?_
  rintro e w7 ⟨rfl, rfl⟩
  have hn1 : decide (0 ≤ n) = false := by have := HN.out; simp; omega
  have hn2 : ¬ 0 ≤ n := by have := HN.out; omega
  go_wp2_with fail
  refine (known03 _).mono ?_
  rintro e w8 ⟨rfl, hb⟩
  have L := Lib.hid (L.out.keep hb)
  clear hb
  go_wp2_with fail
  refine (HSZ.out _).mono ?_
  rintro e w9 ⟨rfl, rfl⟩
  go_wp2_with fail
  have L := Lib.hid (L.out.keep ((Below.refl w8.heap.size w8).alloc (Nat.le_refl _) (.cells (b8a (List.replicate 31 0)) 5)))
  refine (masked03_lo _ _ _).mono ?_
  rintro e w10 ⟨rfl, rfl⟩
  go_wp2_with fail
  go_ret
  exact ⟨rfl, L.out.bel⟩
set_option maxRecDepth 100000 in
set_option maxHeartbeats 3200000 in
theorem sealLong_hi1 (W : World) (n : Int) (hn : 65536 < n) (T : Nat) (hT : wrap64 ((IntKind.u64.wrap n).tmod 5) = (T : Int)) (hT1 : 3 ≤ T) (hT2 : T < 5) :
    Calls Try.prog 11 #[.int .i64 n] W fun e W' => e = .returned (.bool true) ∧ Below W.heap.size W W' := by
  obtain ⟨Z, hZ⟩ : ∃ Z, Z = 65534 + T := ⟨_, rfl⟩
  have hz : (65534 : Int) + (T : Int) = (Z : Int) := by omega
  have hz32 : 0 ≤ (Z : Int) ∧ (Z : Int) ≤ 100000 := by omega
  have HNW := Lib.hid (show ∀ w' g, RB w' w'.heap.size (some ⟨g, 0, none⟩) [107] → Calls Try.prog 41 #[.slice (some ⟨g, 0, none⟩) 1 1] w' fun e w2 => ∃ gk, e = .returned (.pointer (some ⟨gk, 0, none⟩)) ∧ KeyW w2 gk [107] ∧ Below w'.heap.size w' w2 from fun w' g h => new_any w' (some ⟨g, 0, none⟩) 1 [107] h (by decide))
  have hmk1 : ∀ w, (Instr.makeSlice 24 (.int .i64 (Z : Int)) (.int .i64 (Z : Int))).run Try.prog w = .ok (.slice (some ⟨w.heap.size, 0, none⟩) Z Z) (w.alloc (.cells (b8a (List.replicate Z 0)) 5)) := fun w => make_u8 Z (by omega) w
  have hmk2 : ∀ w, (Instr.makeSlice 24 (.int .i64 ((Z : Int) + 32)) (.int .i64 ((Z : Int) + 32))).run Try.prog w = .ok (.slice (some ⟨w.heap.size, 0, none⟩) (Z + 32) (Z + 32)) (w.alloc (.cells (b8a (List.replicate (Z + 32) 0)) 5)) := fun w => make_u8 (Z + 32) (by omega) w
  have hmk3 : ∀ w, (Instr.makeSlice 24 (.int .i64 31) (.int .i64 31)).run Try.prog w = .ok (.slice (some ⟨w.heap.size, 0, none⟩) 31 31) (w.alloc (.cells (b8a (List.replicate 31 0)) 5)) := fun w => make_u8 31 (by decide) w
  have HST := Lib.hid (fun w gk => stream_long w gk none 0 0 (Z : Int) (by decide) (by omega))
  have HSL := Lib.hid (fun w gk g => seal_no w (.pointer (some ⟨gk, 0, none⟩)) none 0 0 (.slice none 0 0) (some ⟨g, 0, none⟩) Z Z 2 (fun w => stream_long w gk none 0 0 (Z : Int) (by decide) (by omega)) (by decide))
  have HOP := Lib.hid (fun w gk g => open_long w gk none 0 0 (.slice none 0 0) (some ⟨g, 0, none⟩) (Z + 32) (Z + 32) (by decide) (by omega) (by omega))
  have hlong : decide ((65536 : Int) < (Z : Int)) = true := by simp; omega
  have HNE := Lib.hid (fun w gk => stream_neg w gk none 0 0 (-1) (by decide) (by decide))
  have HSZ := Lib.hid (fun w => size03_hi n hn w)
  have HN := Lib.hid hn
  obtain ⟨hz0, hz1⟩ := hz32
  have hbz : List.replicate Z (0 : UInt8) = List.replicate Z 0 := rfl
  clear hn hT1 hT2 hZ hbz
  go_enter Try.func11, Try.ntmps11
  have L := Lib.hid (Lv.start W)
  go_wp2_with (first | ((with_reducible refine wpList_markL rfl _ _ rfl 1 1 _ _ rfl Try.underlying24 Try.underlying5 [107] rfl ?_); intro w2 hb hr; have L := Lib.hid ((L.out.keep hb).add hr); clear hb hr))
  refine (HNW.out _ _ (L.out.r (by simp))).mono ?_
  rintro e w3 ⟨gk, rfl, hk, hb⟩
  have L := Lib.hid ((L.out.keep hb).addk hk)
  clear hk hb
  go_wp2_with fail
  refine (HST.out _ _).mono ?_
  rintro e w4 ⟨rfl, rfl⟩
  go_wp2_with fail
  have L := Lib.hid (L.out.keep ((Below.refl w3.heap.size w3).alloc (Nat.le_refl _) (.cells (b8a (List.replicate Z 0)) 5)))
  refine (HSL.out _ _ _).mono ?_
  rintro e w5 ⟨rfl, rfl⟩
  generalize World.alloc w3 _ = w5 at L ⊢
  go_wp2_with fail
  have L := Lib.hid (L.out.keep ((Below.refl w5.heap.size w5).alloc (Nat.le_refl _) (.cells (b8a (List.replicate (Z + 32) 0)) 5)))
  refine (HOP.out _ _ _).mono ?_
  rintro e w6 ⟨rfl, rfl⟩
  generalize World.alloc w5 _ = w6 at L ⊢
  go_wp2_with fail
  refine (HNE.out _ _).mono ?_
  rintro e w7 ⟨rfl, rfl⟩
  have hn1 : decide (0 ≤ n) = true := by have := HN.out; simp; omega
  have hn2 : decide (n ≤ 65536) = false := by have := HN.out; simp; omega
  have hn3 : 0 ≤ n := by have := HN.out; omega
  go_wp2_with fail
  refine (known03 _).mono ?_
  rintro e w8 ⟨rfl, hb⟩
  have L := Lib.hid (L.out.keep hb)
  clear hb
  go_wp2_with fail
  refine (HSZ.out _).mono ?_
  rintro e w9 ⟨rfl, rfl⟩
  go_wp2_with fail
  have L := Lib.hid (L.out.keep ((Below.refl w8.heap.size w8).alloc (Nat.le_refl _) (.cells (b8a (List.replicate 31 0)) 5)))
  refine (masked03_lo _ _ _).mono ?_
  rintro e w10 ⟨rfl, rfl⟩
  go_wp2_with fail
  go_ret
  exact ⟨rfl, L.out.bel⟩
theorem contract_sealLong (W : World) (v0 : Value) (a0 : ∃ z, v0 = .int .i64 z ∧ in64 z) :
    Calls Try.prog 11 #[v0] W fun e W' => e = .returned (.bool true) ∧ Below W.heap.size W W' := by
  obtain ⟨n, rfl, _⟩ := a0
  obtain ⟨T0, hT, h0, h1⟩ := mod_any n 5 (by omega) (by omega)
  obtain ⟨T, rfl⟩ : ∃ T : Nat, T0 = (T : Int) := ⟨T0.toNat, by omega⟩
  have h2 : T < 5 := by omega
  by_cases hl : T ≤ 2
  · by_cases hn : n < 0
    · exact sealLong_lo0 W n hn T hT hl h2
    · by_cases hn2 : 65536 < n
      · exact sealLong_hi0 W n hn2 T hT hl h2
      · exact sealLong_in0 W n ⟨by omega, by omega⟩ T hT hl h2
  · by_cases hn : n < 0
    · exact sealLong_lo1 W n hn T hT (by omega) h2
    · by_cases hn2 : 65536 < n
      · exact sealLong_hi1 W n hn2 T hT (by omega) h2
      · exact sealLong_in1 W n ⟨by omega, by omega⟩ T hT (by omega) h2
end Go.Proofs.Ytiakgohipnbdbaa
