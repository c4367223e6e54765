/- Contracts of package packet: Word, Seeds. Printed by genpw1.py. -/
import Derived.Test.YtnbemfceoianiaaDoorPkD
import Derived.Test.YtnbemfceoianiaaDoorShelf
import Derived.WalkSmall
namespace Go.Proofs.YtnbemfceoianiaaDoor
set_option linter.unusedVariables false
set_option linter.unusedSimpArgs false
open Go.RowKit

abbrev TabA (w : World) : Prop := Lib.TabIs Tryd.prog w "strings.asciiSpace" .u8 Lib.asciiSpaceTab
/-- The words of kinds. -/
def wB14 : List ByteArray := [⟨#[104, 101, 108, 108, 111]⟩, ⟨#[99, 111, 111, 107, 105, 101]⟩, ⟨#[106, 111, 105, 110]⟩, ⟨#[97, 100, 109, 105, 116]⟩, ⟨#[119, 97, 110, 116]⟩, ⟨#[103, 114, 97, 110, 116]⟩, ⟨#[112, 105, 110, 103]⟩, ⟨#[97, 99, 107]⟩, ⟨#[114, 101, 113, 117, 101, 115, 116]⟩, ⟨#[115, 121, 110, 99]⟩, ⟨#[100, 101, 108, 116, 97]⟩, ⟨#[97, 116, 116, 101, 115, 116]⟩, ⟨#[109, 101, 116, 97]⟩, ⟨#[108, 101, 97, 118, 101]⟩]
abbrev wK (k : Nat) : ByteArray := wB14.getD k ⟨#[]⟩
def wsA14 : Array Value := (wB14.map Value.string).toArray
def wordsS14 : ByteArray := ⟨#[104, 101, 108, 108, 111, 32, 99, 111, 111, 107, 105, 101, 32, 106, 111, 105, 110, 32, 97, 100, 109, 105, 116, 32, 119, 97, 110, 116, 32, 103, 114, 97, 110, 116, 32, 112, 105, 110, 103, 32, 97, 99, 107, 32, 114, 101, 113, 117, 101, 115, 116, 32, 115, 121, 110, 99, 32, 100, 101, 108, 116, 97, 32, 97, 116, 116, 101, 115, 116, 32, 109, 101, 116, 97, 32, 108, 101, 97, 118, 101]⟩
theorem wsA14_at {k : Nat} (h : k < 14) : wsA14[k]? = some (.string (wK k)) := by
  have : k < wB14.length := h
  simp [wsA14, wK, List.getD, List.getElem?_eq_getElem this]
theorem words14_fields : Lib.fields wordsS14.data.toList = wB14.map fun s => s.data.toList := by kernel_rfl
theorem words14_ascii : ∀ (j : Nat) b, wordsS14.data.toList[j]? = some b → b.toNat < 128 := by
  intro j b h
  have hm := List.mem_of_getElem? h
  have : (wordsS14.data.toList.all fun b => decide (b.toNat < 128)) = true := by kernel_rfl
  simpa using List.all_eq_true.1 this b hm
theorem fields14_any (w : World) (hT : TabA w) (s : ByteArray) (hs : s = wordsS14) :
    Calls Tryd.prog 14 #[.string s] w fun e w' => e = .returned (.slice (some ⟨w.heap.size, 0, none⟩) 14 14) ∧ w' = w.alloc (.cells wsA14 9) := by
  subst hs
  refine (Go.Proofs.Tryd.strings_Fields wordsS14 w (by decide) words14_ascii hT).mono ?_
  rintro e w' ⟨rfl, rfl⟩
  rw [words14_fields]
  exact ⟨by kernel_rfl, by kernel_rfl⟩
set_option maxRecDepth 100000 in
set_option maxHeartbeats 1000000 in
theorem word14_no (k : Int) (h : ¬ (0 < k ∧ k < 15)) (w : World) : Calls Tryd.prog 6 #[.int .i64 k] w fun r w' => r = .returned (.string ⟨#[]⟩) ∧ Below w.heap.size w w' := by
  have HK := Lib.hid (kind_any k)
  rw [decide_eq_false h] at HK
  clear h
  go_enter Tryd.func6, Tryd.ntmps6
  go_wp2_with fail
  with_reducible refine (HK.out _).mono ?_
  rintro r w1 ⟨rfl, rfl⟩
  go_wp2
  go_ret
  exact ⟨rfl, Below.refl _ _⟩
set_option maxRecDepth 100000 in
set_option maxHeartbeats 1000000 in
theorem word14_yes (k : Nat) (hk : k < 14) (w : World) (hT : TabA w) (s : ByteArray) (hs : wK k = s) :
    Calls Tryd.prog 6 #[.int .i64 ((k : Int) + 1)] w fun r w' => r = .returned (.string s) ∧ Below w.heap.size w w' := by
  have HF := Lib.hid (fun s hs => fields14_any w hT s hs)
  have HK := Lib.hid (kind_any ((k : Int) + 1))
  rw [decide_eq_true (show 0 < (k : Int) + 1 ∧ (k : Int) + 1 < 15 by omega)] at HK
  have hc : (w.alloc (.cells wsA14 9)).cell? ⟨w.heap.size, k, none⟩ = some (.string s) := by
    rw [← hs]
    exact ((Bk.mk_ w _ _).cell k).trans (wsA14_at hk)
  have i1 : (k : Int) < 14 := by omega
  have i2 : (0 : Int) ≤ k := by omega
  clear hs hT
  go_enter Tryd.func6, Tryd.ntmps6
  go_wp2_with fail
  with_reducible refine (HK.out _).mono ?_
  rintro r w1 ⟨rfl, rfl⟩
  go_wp2_with fail
  refine (HF.out _ (by kernel_rfl)).mono ?_
  rintro e w2 ⟨rfl, rfl⟩
  go_wp2
  go_ret
  exact ⟨rfl, (Below.refl _ _).alloc (Nat.le_refl _) _⟩
/-- Whether a kind is one of seeds. -/
def sdB (k : Int) : Bool := decide (0 < k ∧ k < 15) && (decide (k ≤ 6) || (k == 11) || (k == 12) || (k == 14))
set_option maxRecDepth 100000 in
set_option maxHeartbeats 4000000 in
theorem seeds14_any (k : Int) (w : World) : Calls Tryd.prog 8 #[.int .i64 k] w fun r w' => r = .returned (.bool (sdB k)) ∧ w' = w := by
  have HK := Lib.hid (kind_any k)
  by_cases h0 : 0 < k ∧ k < 15
  · rw [decide_eq_true h0] at HK
    have hk : (0 < k ∧ k ≤ 6) ∨ k = 7 ∨ k = 8 ∨ k = 9 ∨ k = 10 ∨ k = 11 ∨ k = 12 ∨ k = 13 ∨ k = 14 := by omega
    clear h0
    rcases hk with ⟨i1, i2⟩ | rfl | rfl | rfl | rfl | rfl | rfl | rfl | rfl
    · rw [show sdB k = true by unfold sdB; rw [decide_eq_true (by omega), decide_eq_true i2]; rfl]
      go_enter Tryd.func8, Tryd.ntmps8
      go_wp2_with fail
      with_reducible refine (HK.out _).mono ?_
      rintro r w1 ⟨rfl, rfl⟩
      go_wp2
      go_ret
      exact ⟨rfl, rfl⟩
    all_goals (
      go_enter Tryd.func8, Tryd.ntmps8
      go_wp2_with fail
      with_reducible refine (HK.out _).mono ?_
      rintro r w1 ⟨rfl, rfl⟩
      go_wp2
      go_ret
      exact ⟨rfl, rfl⟩)
  · rw [decide_eq_false h0] at HK
    rw [show sdB k = false by unfold sdB; rw [decide_eq_false h0]; rfl]
    clear h0
    go_enter Tryd.func8, Tryd.ntmps8
    go_wp2_with fail
    with_reducible refine (HK.out _).mono ?_
    rintro r w1 ⟨rfl, rfl⟩
    go_wp2
    go_ret
    exact ⟨rfl, rfl⟩
end Go.Proofs.YtnbemfceoianiaaDoor
