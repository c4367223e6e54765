/- Contracts of package wire: width, number. -/
import Derived.Test.YthnaobolmgcclaaProg
import Derived.Test.YthnaobolmgcclaaFresh
import Derived.Deep.LoopGhost
import Derived.Laws.MakeOwn
import Derived.Outline
import Derived.WalkLawsBesides
import Derived.WalkSpells
namespace Go.Proofs.Ythnaobolmgcclaa
set_option linter.unusedVariables false
open Go.RowKit

/-- Byte i of a number, the lowest first. -/
def nbyte (n : Int) (i : Nat) : UInt8 := UInt8.ofNat (n.toNat / 256 ^ i)
/-- A number's bytes, the highest first. -/
def numB (w : Nat) (n : Int) : List UInt8 := (List.range w).map fun j => nbyte n (w - 1 - j)
/-- .. of which the lowest k are written. -/
def numP (w : Nat) (n : Int) (k : Nat) : List UInt8 := (List.range w).map fun j => if w - 1 - j < k then nbyte n (w - 1 - j) else 0

theorem info_u8 : (Try.prog.info? 5).map (fun i => (i.zero, i.size, i.bytes)) = some (some (.int .u8 0), 1, 1) := by kernel_rfl

theorem width_0 (w : World) : Calls Try.prog 75 #[.int .i64 0] w fun e w' => e = .returned (.int .i64 1) ∧ w = w' := by
  go_enter Try.func75, Try.ntmps75
  go_wp2
  go_ret
  exact ⟨rfl, rfl⟩
theorem width_1 (w : World) : Calls Try.prog 75 #[.int .i64 1] w fun e w' => e = .returned (.int .i64 2) ∧ w = w' := by
  go_enter Try.func75, Try.ntmps75
  go_wp2
  go_ret
  exact ⟨rfl, rfl⟩
theorem width_2 (w : World) : Calls Try.prog 75 #[.int .i64 2] w fun e w' => e = .returned (.int .i64 4) ∧ w = w' := by
  go_enter Try.func75, Try.ntmps75
  go_wp2
  go_ret
  exact ⟨rfl, rfl⟩
theorem width_3 (w : World) : Calls Try.prog 75 #[.int .i64 3] w fun e w' => e = .returned (.int .i64 8) ∧ w = w' := by
  go_enter Try.func75, Try.ntmps75
  go_wp2
  go_ret
  exact ⟨rfl, rfl⟩

theorem nbyte_val (n : Int) (h0 : 0 ≤ n) (h1 : n ≤ 9223372036854775807) (k : Nat) : IntKind.u64.wrap n / 2 ^ (8 * k) % 256 = ((nbyte n k).toNat : Int) := by
  obtain ⟨m, rfl⟩ := Int.eq_ofNat_of_zero_le h0
  have e : IntKind.u64.wrap (m : Int) = (m : Int) := by rw [IntKind.wrap_u64]; omega
  unfold nbyte
  rw [e, UInt8.toNat_ofNat', Int.toNat_natCast, show (256 : Nat) ^ k = 2 ^ (8 * k) by rw [show (256 : Nat) = 2 ^ 8 from rfl, ← Nat.pow_mul]]
  simp
theorem numP_step (w : Nat) (n : Int) (k : Nat) (hk : k < w) : (by8 (numP w n k)).toArray.setIfInBounds (w - 1 - k) (.int .u8 ((nbyte n k).toNat : Int)) = (by8 (numP w n (k + 1))).toArray := by
  rw [List.setIfInBounds_toArray, ← by8_set]
  congr 2
  apply List.ext_getElem?
  intro j
  unfold numP
  rw [List.getElem?_set]
  simp only [List.length_map, List.length_range, List.getElem?_map]
  by_cases hj : j < w
  · rw [List.getElem?_range hj]
    by_cases e : w - 1 - k = j
    · subst e
      have e2 : w - 1 - (w - 1 - k) = k := by omega
      simp [e2, show w - 1 - k < w by omega]
    · rw [if_neg e]
      simp only [Option.map_some]
      by_cases h : w - 1 - j < k
      · rw [if_pos h, if_pos (by omega)]
      · rw [if_neg h, if_neg (by omega)]
  · rw [List.getElem?_eq_none (by simpa using hj)]
    rw [if_neg (by omega)]
    rfl
theorem numP_full (w : Nat) (n : Int) : numP w n w = numB w n := by
  unfold numP numB
  apply List.map_congr_left
  intro j hj
  have := List.mem_range.1 hj
  rw [if_pos (by omega)]
theorem numB_length (w : Nat) (n : Int) : (numB w n).length = w := by simp [numB]
theorem numP_length (w : Nat) (n : Int) (k : Nat) : (numP w n k).length = w := by simp [numP]
theorem fresh_bytes {w w' : World} {n : Nat} {l : List UInt8} (h : Mst w w' [(w.heap.size, 5, (by8 l).toArray)] []) (hn : l.length = n) (hm : n ≤ maxLen) : Fresh w w' 5 1 (.slice (some ⟨w.heap.size, 0, none⟩) n n) n (by8 l) := by
  refine ⟨h.bel, by simp [by8_length, hn], .inr ⟨w.heap.size, n, (by8 l).toArray, rfl, Nat.le_refl _, h.blk [], Nat.le_refl _, hm, by simp [by8_length, hn], ?_⟩⟩
  simp [← hn, ← by8_length]
/-- What a call hands back is a slice of the cells xs in new memory. -/
def RetFresh (w : World) (e : TypeId) (size n : Nat) (xs : List Value) (en : Ending) (w' : World) : Prop := ∃ v, en = .returned v ∧ Fresh w w' e size v n xs

set_option maxHeartbeats 1000000 in
theorem number_0 (n : Int) (w : World) (h0 : 0 ≤ n) (h1 : n ≤ 9223372036854775807) :
    Calls Try.prog 94 #[.int .i64 0, .int .i64 n] w (RetFresh w 5 1 1 (by8 (numB 1 n))) := by
  have HN := Lib.hid (show IntKind.u64.wrap n % 256 = ((nbyte n 0).toNat : Int) by have := nbyte_val n h0 h1 0; simpa using this)
  clear h1 h0
  have hmk : ∀ W : World, (Instr.makeSlice 26 (.int .i64 1) (.int .i64 1)).run Try.prog W = .ok (.slice (some ⟨W.heap.size, 0, none⟩) 1 1) (W.alloc (.cells #[.int .u8 0] 5)) := fun _ => by kernel_rfl
  go_enter Try.func94, Try.ntmps94
  go_wp2_with fail
  refine (width_0 _).mono ?_
  rintro e w' ⟨rfl, rfl⟩
  go_wp2_with fail
  clear hmk
  go_loopg [12] 1 (fun gg s12 wr => ∃ k : Nat, k + gg = 1 ∧ s12 = .int .i64 k ∧ Mst w wr [(w.heap.size, 5, (by8 (numP 1 n k)).toArray)] [])
  case atStart => exact ⟨0, by omega, rfl, (Mst.start w).new _ _⟩
  case round =>
    obtain ⟨k, hk, rfl, s0⟩ := hrel
    by_cases hlt : k < 1
    · obtain rfl : k = 0 := by omega
      have f0 := (s0.blk []).fr 0
      obtain ⟨v0, hv0⟩ : ∃ v0, (by8 (numP 1 n 0)).toArray[0]? = some v0 := ⟨_, Array.getElem?_eq_getElem (by simp [by8, numP])⟩
      have c0 := (s0.blk []).cell 0
      rw [hv0] at c0
      clear hv0
      have HS := Lib.hid (s0.put [] 0 (.int .u8 (IntKind.u64.wrap n % 256)))
      have HP := Lib.hid (numP_step 1 n 0 hlt)
      clear s0
      go_wp2_with fail
      go_roundg 0
      case measure => omega
      case rel =>
        refine ⟨1, by omega, by go_num, ?_⟩
        have a := HS.out
        have b := HP.out
        rw [HN.out] at a ⊢
        rw [← b]
        exact a
    · obtain rfl : k = 1 := by omega
      have HS := Lib.hid s0
      clear s0 hk hlt
      go_wp2_with fail
      go_ret
      have a := HS.out
      rw [numP_full] at a
      exact ⟨_, rfl, fresh_bytes a (numB_length _ _) (by decide)⟩

set_option maxHeartbeats 1000000 in
theorem number_1 (n : Int) (w : World) (h0 : 0 ≤ n) (h1 : n ≤ 9223372036854775807) :
    Calls Try.prog 94 #[.int .i64 1, .int .i64 n] w (RetFresh w 5 1 2 (by8 (numB 2 n))) := by
  have HN := Lib.hid (nbyte_val n h0 h1)
  clear h1 h0
  have hmk : ∀ W : World, (Instr.makeSlice 26 (.int .i64 2) (.int .i64 2)).run Try.prog W = .ok (.slice (some ⟨W.heap.size, 0, none⟩) 2 2) (W.alloc (.cells #[.int .u8 0, .int .u8 0] 5)) := fun _ => by kernel_rfl
  go_enter Try.func94, Try.ntmps94
  go_wp2_with fail
  refine (width_1 _).mono ?_
  rintro e w' ⟨rfl, rfl⟩
  go_wp2_with fail
  clear hmk
  go_loopg [12] 2 (fun gg s12 wr => ∃ k : Nat, k + gg = 2 ∧ s12 = .int .i64 k ∧ Mst w wr [(w.heap.size, 5, (by8 (numP 2 n k)).toArray)] [])
  case atStart => exact ⟨0, by omega, rfl, (Mst.start w).new _ _⟩
  case round =>
    obtain ⟨k, hk, rfl, s0⟩ := hrel
    by_cases hlt : k < 2
    · have f0 := (s0.blk []).fr (1 - k)
      obtain ⟨v0, hv0⟩ : ∃ v0, (by8 (numP 2 n k)).toArray[1 - k]? = some v0 := ⟨_, Array.getElem?_eq_getElem (by simp [by8, numP]; omega)⟩
      have c0 := (s0.blk []).cell (1 - k)
      rw [hv0] at c0
      clear hv0
      have HS := Lib.hid (s0.put [] (1 - k) (.int .u8 (IntKind.u64.wrap n / 2 ^ (8 * k) % 256)))
      have HP := Lib.hid (numP_step 2 n k hlt)
      clear s0
      go_wp2_with fail
      go_roundg (2 - (k + 1))
      case measure => exact meas hk hlt
      case rel =>
        refine ⟨k + 1, meas2 hlt, by go_num, ?_⟩
        have a := HS.out
        have b := HP.out
        rw [HN.out k] at a ⊢
        rw [← b]
        exact a
    · obtain rfl : k = 2 := by omega
      have HS := Lib.hid s0
      clear s0 hk hlt
      go_wp2_with fail
      go_ret
      have a := HS.out
      rw [numP_full] at a
      exact ⟨_, rfl, fresh_bytes a (numB_length _ _) (by decide)⟩

set_option maxHeartbeats 1000000 in
theorem number_2 (n : Int) (w : World) (h0 : 0 ≤ n) (h1 : n ≤ 9223372036854775807) :
    Calls Try.prog 94 #[.int .i64 2, .int .i64 n] w (RetFresh w 5 1 4 (by8 (numB 4 n))) := by
  have HN := Lib.hid (nbyte_val n h0 h1)
  clear h1 h0
  have hmk : ∀ W : World, (Instr.makeSlice 26 (.int .i64 4) (.int .i64 4)).run Try.prog W = .ok (.slice (some ⟨W.heap.size, 0, none⟩) 4 4) (W.alloc (.cells #[.int .u8 0, .int .u8 0, .int .u8 0, .int .u8 0] 5)) := fun _ => by kernel_rfl
  go_enter Try.func94, Try.ntmps94
  go_wp2_with fail
  refine (width_2 _).mono ?_
  rintro e w' ⟨rfl, rfl⟩
  go_wp2_with fail
  clear hmk
  go_loopg [12] 4 (fun gg s12 wr => ∃ k : Nat, k + gg = 4 ∧ s12 = .int .i64 k ∧ Mst w wr [(w.heap.size, 5, (by8 (numP 4 n k)).toArray)] [])
  case atStart => exact ⟨0, by omega, rfl, (Mst.start w).new _ _⟩
  case round =>
    obtain ⟨k, hk, rfl, s0⟩ := hrel
    by_cases hlt : k < 4
    · have f0 := (s0.blk []).fr (3 - k)
      obtain ⟨v0, hv0⟩ : ∃ v0, (by8 (numP 4 n k)).toArray[3 - k]? = some v0 := ⟨_, Array.getElem?_eq_getElem (by simp [by8, numP]; omega)⟩
      have c0 := (s0.blk []).cell (3 - k)
      rw [hv0] at c0
      clear hv0
      have HS := Lib.hid (s0.put [] (3 - k) (.int .u8 (IntKind.u64.wrap n / 2 ^ (8 * k) % 256)))
      have HP := Lib.hid (numP_step 4 n k hlt)
      clear s0
      go_wp2_with fail
      go_roundg (4 - (k + 1))
      case measure => exact meas hk hlt
      case rel =>
        refine ⟨k + 1, meas2 hlt, by go_num, ?_⟩
        have a := HS.out
        have b := HP.out
        rw [HN.out k] at a ⊢
        rw [← b]
        exact a
    · obtain rfl : k = 4 := by omega
      have HS := Lib.hid s0
      clear s0 hk hlt
      go_wp2_with fail
      go_ret
      have a := HS.out
      rw [numP_full] at a
      exact ⟨_, rfl, fresh_bytes a (numB_length _ _) (by decide)⟩

set_option maxHeartbeats 1000000 in
theorem number_3 (n : Int) (w : World) (h0 : 0 ≤ n) (h1 : n ≤ 9223372036854775807) :
    Calls Try.prog 94 #[.int .i64 3, .int .i64 n] w (RetFresh w 5 1 8 (by8 (numB 8 n))) := by
  have HN := Lib.hid (nbyte_val n h0 h1)
  clear h1 h0
  have hmk : ∀ W : World, (Instr.makeSlice 26 (.int .i64 8) (.int .i64 8)).run Try.prog W = .ok (.slice (some ⟨W.heap.size, 0, none⟩) 8 8) (W.alloc (.cells #[.int .u8 0, .int .u8 0, .int .u8 0, .int .u8 0, .int .u8 0, .int .u8 0, .int .u8 0, .int .u8 0] 5)) := fun _ => by kernel_rfl
  go_enter Try.func94, Try.ntmps94
  go_wp2_with fail
  refine (width_3 _).mono ?_
  rintro e w' ⟨rfl, rfl⟩
  go_wp2_with fail
  clear hmk
  go_loopg [12] 8 (fun gg s12 wr => ∃ k : Nat, k + gg = 8 ∧ s12 = .int .i64 k ∧ Mst w wr [(w.heap.size, 5, (by8 (numP 8 n k)).toArray)] [])
  case atStart => exact ⟨0, by omega, rfl, (Mst.start w).new _ _⟩
  case round =>
    obtain ⟨k, hk, rfl, s0⟩ := hrel
    by_cases hlt : k < 8
    · have f0 := (s0.blk []).fr (7 - k)
      obtain ⟨v0, hv0⟩ : ∃ v0, (by8 (numP 8 n k)).toArray[7 - k]? = some v0 := ⟨_, Array.getElem?_eq_getElem (by simp [by8, numP]; omega)⟩
      have c0 := (s0.blk []).cell (7 - k)
      rw [hv0] at c0
      clear hv0
      have HS := Lib.hid (s0.put [] (7 - k) (.int .u8 (IntKind.u64.wrap n / 2 ^ (8 * k) % 256)))
      have HP := Lib.hid (numP_step 8 n k hlt)
      clear s0
      go_wp2_with fail
      go_roundg (8 - (k + 1))
      case measure => exact meas hk hlt
      case rel =>
        refine ⟨k + 1, meas2 hlt, by go_num, ?_⟩
        have a := HS.out
        have b := HP.out
        rw [HN.out k] at a ⊢
        rw [← b]
        exact a
    · obtain rfl : k = 8 := by omega
      have HS := Lib.hid s0
      clear s0 hk hlt
      go_wp2_with fail
      go_ret
      have a := HS.out
      rw [numP_full] at a
      exact ⟨_, rfl, fresh_bytes a (numB_length _ _) (by decide)⟩
end Go.Proofs.Ythnaobolmgcclaa
