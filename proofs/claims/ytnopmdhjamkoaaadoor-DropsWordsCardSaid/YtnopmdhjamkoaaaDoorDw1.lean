/- Contracts of package drops: Word; nil drops; the document's words. -/
import Derived.Test.YtnopmdhjamkoaaaDoorDr5
import Derived.Test.YtnopmdhjamkoaaaDoorShelf
import Derived.WalkSmall
namespace Go.Proofs.YtnopmdhjamkoaaaDoor
set_option linter.unusedVariables false
set_option linter.unusedSimpArgs false
open Go.RowKit

/-- The words of reasons. -/
def wB13 : List ByteArray := [⟨#[97, 114, 103]⟩, ⟨#[108, 111, 110, 103]⟩, ⟨#[102, 111, 114, 109]⟩, ⟨#[101, 110, 100]⟩, ⟨#[116, 97, 103]⟩, ⟨#[102, 117, 108, 108]⟩, ⟨#[110, 111, 110, 101]⟩, ⟨#[116, 119, 105, 99, 101]⟩, ⟨#[111, 108, 100]⟩, ⟨#[114, 97, 110, 103, 101]⟩, ⟨#[115, 116, 97, 116, 101]⟩, ⟨#[114, 111, 108, 101]⟩, ⟨#[107, 105, 110, 100]⟩, ⟨#[103, 111, 110, 101]⟩, ⟨#[113, 117, 111, 116, 97]⟩]
abbrev wB (k : Nat) : ByteArray := wB13.getD k ⟨#[]⟩
def wsA13 : Array Value := (wB13.map Value.string).toArray
def wordsS13 : ByteArray := ⟨#[97, 114, 103, 32, 108, 111, 110, 103, 32, 102, 111, 114, 109, 32, 101, 110, 100, 32, 116, 97, 103, 32, 102, 117, 108, 108, 32, 110, 111, 110, 101, 32, 116, 119, 105, 99, 101, 32, 111, 108, 100, 32, 114, 97, 110, 103, 101, 32, 115, 116, 97, 116, 101, 32, 114, 111, 108, 101, 32, 107, 105, 110, 100, 32, 103, 111, 110, 101, 32, 113, 117, 111, 116, 97]⟩
theorem wsA13_at {k : Nat} (h : k < 15) : wsA13[k]? = some (.string (wB k)) := by
  have : k < wB13.length := h
  simp [wsA13, wB, List.getD, List.getElem?_eq_getElem this]
theorem words_fields : Lib.fields wordsS13.data.toList = wB13.map fun s => s.data.toList := by kernel_rfl
theorem words_ascii : ∀ (j : Nat) b, wordsS13.data.toList[j]? = some b → b.toNat < 128 := by
  intro j b h
  have hm := List.mem_of_getElem? h
  have : (wordsS13.data.toList.all fun b => decide (b.toNat < 128)) = true := by kernel_rfl
  simpa using List.all_eq_true.1 this b hm
theorem fields13_any (w : World) (hT : Lib.TabIs Tryd.prog w "strings.asciiSpace" .u8 Lib.asciiSpaceTab) (s : ByteArray) (hs : s = wordsS13) :
    Calls Tryd.prog 59 #[.string s] w fun e w' => e = .returned (.slice (some ⟨w.heap.size, 0, none⟩) 15 15) ∧ w' = w.alloc (.cells wsA13 9) := by
  subst hs
  refine (Go.Proofs.Tryd.strings_Fields wordsS13 w (by decide) words_ascii hT).mono ?_
  rintro e w' ⟨rfl, rfl⟩
  rw [words_fields]
  exact ⟨by kernel_rfl, by kernel_rfl⟩

set_option maxRecDepth 100000 in
set_option maxHeartbeats 1000000 in
theorem word13_no (e : Int) (h : ¬ (1 ≤ e ∧ e ≤ 15)) (w : World) : Calls Tryd.prog 23 #[.int .i64 e] w fun r w' => r = .returned (.string ⟨#[]⟩) ∧ Below w.heap.size w w' := by
  have HR := Lib.hid (show Calls Tryd.prog 58 #[.int .i64 e] w fun r w' => r = .returned (.bool false) ∧ Below w.heap.size w w' by
    have := reason13 e w
    rw [isR_no h] at this
    exact this)
  clear h
  go_enter Tryd.func23, Tryd.ntmps23
  go_wp2_with fail
  refine HR.out.mono ?_
  rintro r w1 ⟨rfl, hb⟩
  have HB := Lib.hid hb
  clear hb
  go_wp2
  go_ret
  exact ⟨rfl, HB.out⟩
set_option maxRecDepth 100000 in
set_option maxHeartbeats 1000000 in
theorem word13_yes (k : Nat) (hk : k < 15) (w : World) (hT : ∀ w', Below w.heap.size w w' → Lib.TabIs Tryd.prog w' "strings.asciiSpace" .u8 Lib.asciiSpaceTab) (s : ByteArray) (hs : wB k = s) :
    Calls Tryd.prog 23 #[.int .i64 ((k : Int) + 1)] w fun r w' => r = .returned (.string s) ∧ Below w.heap.size w w' := by
  have HR := Lib.hid (show Calls Tryd.prog 58 #[.int .i64 ((k : Int) + 1)] w fun r w' => r = .returned (.bool true) ∧ Below w.heap.size w w' by
    have := reason13 ((k : Int) + 1) w
    rw [show isR ((k : Int) + 1) = true by simp [isR]; omega] at this
    exact this)
  have HT := Lib.hid hT
  have HF := Lib.hid (fun w s hT hs => fields13_any w hT s hs)
  have hc : ∀ w : World, (w.alloc (.cells wsA13 9)).cell? ⟨w.heap.size, k, none⟩ = some (.string s) := fun w => by
    rw [← hs]
    exact ((Bk.mk_ w _ _).cell k).trans (wsA13_at hk)
  have i1 : (1 : Int) ≤ (k : Int) + 1 := by omega
  have i2 : (k : Int) + 1 ≤ 15 := by omega
  have i3 : (k : Int) < 15 := by omega
  have i4 : (0 : Int) ≤ k := by omega
  clear hs hT
  go_enter Tryd.func23, Tryd.ntmps23
  go_wp2_with fail
  refine HR.out.mono ?_
  rintro r w1 ⟨rfl, hb⟩
  have HB := Lib.hid hb
  have HT1 := Lib.hid (HT.out _ hb)
  have hc1 := hc w1
  clear hb hc
  go_wp2_with fail
  refine (HF.out _ _ HT1.out (by kernel_rfl)).mono ?_
  rintro e w2 ⟨rfl, rfl⟩
  go_wp2
  go_ret
  exact ⟨rfl, HB.out.alloc HB.out.size _⟩

abbrev ws16 : Array Value := #[.string ⟨#[]⟩, .string ⟨#[97, 114, 103]⟩, .string ⟨#[108, 111, 110, 103]⟩, .string ⟨#[102, 111, 114, 109]⟩, .string ⟨#[101, 110, 100]⟩, .string ⟨#[116, 97, 103]⟩, .string ⟨#[102, 117, 108, 108]⟩, .string ⟨#[110, 111, 110, 101]⟩, .string ⟨#[116, 119, 105, 99, 101]⟩, .string ⟨#[111, 108, 100]⟩, .string ⟨#[114, 97, 110, 103, 101]⟩, .string ⟨#[115, 116, 97, 116, 101]⟩, .string ⟨#[114, 111, 108, 101]⟩, .string ⟨#[107, 105, 110, 100]⟩, .string ⟨#[103, 111, 110, 101]⟩, .string ⟨#[113, 117, 111, 116, 97]⟩]
set_option maxRecDepth 100000 in
set_option maxHeartbeats 1000000 in
theorem refwords13 (w : World) : Calls Tryd.prog 20 #[] w fun r w' => r = .returned (.agg ws16) ∧ Below w.heap.size w w' := by
  go_enter Tryd.func20, Tryd.ntmps20
  go_wp2
  exact bodyPost_ret (v := .agg ws16) (by simp [results, Tryd.results20, go_sem]) rfl ⟨rfl, (Below.refl _ _).alloc (Nat.le_refl _) _⟩
theorem idx16 (k : Nat) (hk : k < 15) (w : World) : (Instr.index 38 (.agg ws16) (.int .i64 ((k : Int) + 1))).run Tryd.prog w = .ok (.string (wB k)) w := by
  have h : k = 0 ∨ k = 1 ∨ k = 2 ∨ k = 3 ∨ k = 4 ∨ k = 5 ∨ k = 6 ∨ k = 7 ∨ k = 8 ∨ k = 9 ∨ k = 10 ∨ k = 11 ∨ k = 12 ∨ k = 13 ∨ k = 14 := by omega
  rcases h with rfl | rfl | rfl | rfl | rfl | rfl | rfl | rfl | rfl | rfl | rfl | rfl | rfl | rfl | rfl <;> (show _ = _; kernel_rfl)

abbrev z16 : Array Value := #[.int .i64 0, .int .i64 0, .int .i64 0, .int .i64 0, .int .i64 0, .int .i64 0, .int .i64 0, .int .i64 0, .int .i64 0, .int .i64 0, .int .i64 0, .int .i64 0, .int .i64 0, .int .i64 0, .int .i64 0, .int .i64 0]
set_option maxRecDepth 100000 in
set_option maxHeartbeats 1000000 in
theorem all13_nil (w : World) : Calls Tryd.prog 27 #[.pointer none] w fun r w' => r = .returned (.agg z16) ∧ Below w.heap.size w w' := by
  go_enter Tryd.func27, Tryd.ntmps27
  go_wp2
  exact bodyPost_ret (v := .agg z16) (by simp [results, Tryd.results27, go_sem]) rfl ⟨rfl, (Below.refl _ _).alloc (Nat.le_refl _) _⟩
theorem idxz16 (k : Nat) (hk : k < 16) (w : World) : (Instr.index 47 (.agg z16) (.int .i64 (k : Int))).run Tryd.prog w = .ok (.int .i64 0) w := by
  have h : k = 0 ∨ k = 1 ∨ k = 2 ∨ k = 3 ∨ k = 4 ∨ k = 5 ∨ k = 6 ∨ k = 7 ∨ k = 8 ∨ k = 9 ∨ k = 10 ∨ k = 11 ∨ k = 12 ∨ k = 13 ∨ k = 14 ∨ k = 15 := by omega
  rcases h with rfl | rfl | rfl | rfl | rfl | rfl | rfl | rfl | rfl | rfl | rfl | rfl | rfl | rfl | rfl | rfl <;> (show _ = _; kernel_rfl)

theorem count13_nil (A : Option Addr) (n c : Nat) (w : World) : Calls Tryd.prog 24 #[.pointer none, .slice A n c] w fun r w' => r = .returned (.int .i64 0) ∧ w = w' := by
  go_enter Tryd.func24, Tryd.ntmps24
  go_wp2
  go_ret
  exact ⟨rfl, rfl⟩
set_option maxRecDepth 100000 in
set_option maxHeartbeats 1000000 in
theorem of13_nil (e : Int) (w : World) : Calls Tryd.prog 25 #[.pointer none, .int .i64 e] w fun r w' => r = .returned (.int .i64 0) ∧ Below w.heap.size w w' := by
  by_cases h : 1 ≤ e ∧ e ≤ 15
  · obtain ⟨h1, h2⟩ := h
    obtain ⟨k, rfl⟩ := Int.eq_ofNat_of_zero_le (show 0 ≤ e by omega)
    have hix := idxz16 k (by omega)
    have HR := Lib.hid (show Calls Tryd.prog 58 #[.int .i64 (k : Int)] w fun r w' => r = .returned (.bool true) ∧ Below w.heap.size w w' by
      have := reason13 (k : Int) w
      rw [show isR (k : Int) = true by simp [isR]; omega] at this
      exact this)
    go_enter Tryd.func25, Tryd.ntmps25
    go_wp2_with fail
    refine HR.out.mono ?_
    rintro r w1 ⟨rfl, hb⟩
    have HB := Lib.hid hb
    clear hb
    go_wp2_with fail
    refine (all13_nil _).mono ?_
    rintro e w2 ⟨rfl, hb⟩
    have HB2 := Lib.hid hb
    clear hb
    go_wp2
    go_ret
    exact ⟨rfl, Bsz HB.out HB2.out⟩
  · have HR := Lib.hid (show Calls Tryd.prog 58 #[.int .i64 e] w fun r w' => r = .returned (.bool false) ∧ Below w.heap.size w w' by
      have := reason13 e w
      rw [isR_no h] at this
      exact this)
    clear h
    go_enter Tryd.func25, Tryd.ntmps25
    go_wp2_with fail
    refine HR.out.mono ?_
    rintro r w1 ⟨rfl, hb⟩
    have HB := Lib.hid hb
    clear hb
    go_wp2
    go_ret
    exact ⟨rfl, HB.out⟩
set_option maxRecDepth 100000 in
set_option maxHeartbeats 1000000 in
theorem total13_nil (w : World) : Calls Tryd.prog 26 #[.pointer none] w fun r w' => r = .returned (.int .i64 0) ∧ Below w.heap.size w w' := by
  go_enter Tryd.func26, Tryd.ntmps26
  go_wp2_with fail
  refine (all13_nil _).mono ?_
  rintro r w1 ⟨rfl, hb⟩
  have HB := Lib.hid hb
  clear hb
  go_wp2_with fail
  go_loopg [3, 8] 16 (fun gg s3 s8 wr => ∃ k : Nat, k + gg = 16 ∧ s8 = .int .i64 k ∧ s3 = .int .i64 0 ∧ w1 = wr)
  case atStart => exact ⟨0, by omega, rfl, rfl, rfl⟩
  case round =>
    obtain ⟨k, hk, rfl, rfl, rfl⟩ := hrel
    by_cases hlt : k < 16
    · have hix := idxz16 k hlt
      have i1 : (k : Int) < 16 := by omega
      have i2 : (0 : Int) ≤ k := by omega
      go_wp2_with fail
      go_roundg (16 - (k + 1))
      case measure => exact meas hk hlt
      case rel => exact ⟨k + 1, meas2 hlt, by go_num, by go_num, rfl⟩
    · obtain rfl : k = 16 := by omega
      go_wp2
      go_ret
      exact ⟨rfl, HB.out⟩
set_option maxRecDepth 100000 in
set_option maxHeartbeats 1000000 in
theorem worst13_nil (w : World) : Calls Tryd.prog 21 #[.pointer none] w fun r w' => r = .returned (.tuple #[.int .i64 0, .int .i64 0]) ∧ Below w.heap.size w w' := by
  go_enter Tryd.func21, Tryd.ntmps21
  go_wp2_with fail
  refine (all13_nil _).mono ?_
  rintro r w1 ⟨rfl, hb⟩
  have HB := Lib.hid hb
  clear hb
  go_wp2_with fail
  go_loopg [4, 5, 10] 16 (fun gg s4 s5 s10 wr => ∃ k : Nat, k + gg = 16 ∧ s10 = .int .i64 k ∧ s4 = .int .i64 0 ∧ s5 = .int .i64 0 ∧ w1 = wr)
  case atStart => exact ⟨0, by omega, rfl, rfl, rfl, rfl⟩
  case round =>
    obtain ⟨k, hk, rfl, rfl, rfl, rfl⟩ := hrel
    by_cases hlt : k < 16
    · have hix := idxz16 k hlt
      have i1 : (k : Int) < 16 := by omega
      have i2 : (0 : Int) ≤ k := by omega
      go_wp2_with fail
      go_roundg (16 - (k + 1))
      case measure => exact meas hk hlt
      case rel => exact ⟨k + 1, meas2 hlt, by go_num, rfl, rfl, rfl⟩
    · obtain rfl : k = 16 := by omega
      go_wp2
      go_ret2
      exact ⟨rfl, HB.out⟩
theorem join13_nn (w : World) : Calls Tryd.prog 28 #[.pointer none, .pointer none] w fun r w' => r = .returned (.int .i64 11) ∧ Below w.heap.size w w' := by
  go_enter Tryd.func28, Tryd.ntmps28
  go_wp2
  go_ret
  exact ⟨rfl, (Below.refl _ _).alloc (Nat.le_refl _) _⟩
theorem copy13_nil (w : World) : Calls Tryd.prog 29 #[.pointer none] w fun r w' => r = .returned (.pointer none) ∧ w = w' := by
  go_enter Tryd.func29, Tryd.ntmps29
  go_wp2
  go_ret
  exact ⟨rfl, rfl⟩
theorem same13_nn (w : World) : Calls Tryd.prog 30 #[.pointer none, .pointer none] w fun r w' => r = .returned (.bool true) ∧ w = w' := by
  go_enter Tryd.func30, Tryd.ntmps30
  go_wp2
  go_ret
  exact ⟨rfl, rfl⟩
end Go.Proofs.YtnopmdhjamkoaaaDoor
