/- Contracts of package script: Word, room, Check. Printed by gensc1.py. -/
import Derived.Test.YtnopmdhjamkoaaaDoorBaseA
import Derived.Test.YtnopmdhjamkoaaaDoorProg
import Derived.Test.YtnopmdhjamkoaaaDoorShelf
import Derived.WalkSmall
import Derived.WalkSpells
import Derived.Deep.RegionHeld3
import Derived.Deep.DeepCutAuto
import Derived.BigQuiet
namespace Go.Proofs.YtnopmdhjamkoaaaDoor
set_option linter.unusedVariables false
set_option linter.unusedSimpArgs false
open Go.RowKit

abbrev TabA (w : World) : Prop := Lib.TabIs Tryd.prog w "strings.asciiSpace" .u8 Lib.asciiSpaceTab
/-- The words of kinds. -/
def wB31 : List ByteArray := [⟨#[119, 97, 105, 116]⟩, ⟨#[114, 101, 118, 111, 107, 101]⟩, ⟨#[110, 111, 116, 101]⟩, ⟨#[114, 117, 108, 101]⟩, ⟨#[99, 117, 116]⟩, ⟨#[104, 101, 97, 108]⟩, ⟨#[115, 116, 111, 112]⟩, ⟨#[115, 116, 97, 114, 116]⟩, ⟨#[115, 112, 111, 105, 108]⟩, ⟨#[108, 101, 97, 118, 101]⟩, ⟨#[115, 101, 110, 100]⟩]
abbrev wK (k : Nat) : ByteArray := wB31.getD k ⟨#[]⟩
def wsA31 : Array Value := (wB31.map Value.string).toArray
def wordsS31 : ByteArray := ⟨#[119, 97, 105, 116, 32, 114, 101, 118, 111, 107, 101, 32, 110, 111, 116, 101, 32, 114, 117, 108, 101, 32, 99, 117, 116, 32, 104, 101, 97, 108, 32, 115, 116, 111, 112, 32, 115, 116, 97, 114, 116, 32, 115, 112, 111, 105, 108, 32, 108, 101, 97, 118, 101, 32, 115, 101, 110, 100]⟩
theorem wsA31_at {k : Nat} (h : k < 11) : wsA31[k]? = some (.string (wK k)) := by
  have : k < wB31.length := h
  simp [wsA31, wK, List.getD, List.getElem?_eq_getElem this]
theorem words31_fields : Lib.fields wordsS31.data.toList = wB31.map fun s => s.data.toList := by kernel_rfl
theorem words31_ascii : ∀ (j : Nat) b, wordsS31.data.toList[j]? = some b → b.toNat < 128 := by
  intro j b h
  have hm := List.mem_of_getElem? h
  have : (wordsS31.data.toList.all fun b => decide (b.toNat < 128)) = true := by kernel_rfl
  simpa using List.all_eq_true.1 this b hm
theorem fields31_any (w : World) (hT : TabA w) (s : ByteArray) (hs : s = wordsS31) :
    Calls Tryd.prog 59 #[.string s] w fun e w' => e = .returned (.slice (some ⟨w.heap.size, 0, none⟩) 11 11) ∧ w' = w.alloc (.cells wsA31 9) := by
  subst hs
  refine (Go.Proofs.Tryd.strings_Fields wordsS31 w (by decide) words31_ascii hT).mono ?_
  rintro e w' ⟨rfl, rfl⟩
  rw [words31_fields]
  exact ⟨by kernel_rfl, by kernel_rfl⟩
theorem wK_some {k : Nat} (h : k < 11) : ((wK k).toList == (⟨#[]⟩ : ByteArray).toList) = false := by
  have h : k = 0 ∨ k = 1 ∨ k = 2 ∨ k = 3 ∨ k = 4 ∨ k = 5 ∨ k = 6 ∨ k = 7 ∨ k = 8 ∨ k = 9 ∨ k = 10 := by omega
  rw [ByteArray.toList_eq, ByteArray.toList_eq]
  rcases h with rfl | rfl | rfl | rfl | rfl | rfl | rfl | rfl | rfl | rfl | rfl <;> decide
set_option maxRecDepth 100000 in
set_option maxHeartbeats 1000000 in
theorem word31_no (k : Int) (h : k < 0 ∨ 11 ≤ k) (w : World) : Calls Tryd.prog 42 #[.int .i64 k] w fun r w' => r = .returned (.string ⟨#[]⟩) ∧ w = w' := by
  have hc : k < 0 ∨ (0 ≤ k ∧ 11 ≤ k) := by omega
  clear h
  rcases hc with h1 | ⟨h1, h2⟩
  all_goals
    go_enter Tryd.func42, Tryd.ntmps42
    go_wp2
    go_ret
    exact ⟨rfl, rfl⟩
set_option maxRecDepth 100000 in
set_option maxHeartbeats 1000000 in
theorem word31_yes (k : Nat) (hk : k < 11) (w : World) (hT : TabA w) (s : ByteArray) (hs : wK k = s) :
    Calls Tryd.prog 42 #[.int .i64 (k : Int)] w fun r w' => r = .returned (.string s) ∧ Below w.heap.size w w' := by
  have HF := Lib.hid (fun s hs => fields31_any w hT s hs)
  have hc : (w.alloc (.cells wsA31 9)).cell? ⟨w.heap.size, k, none⟩ = some (.string s) := by
    rw [← hs]
    exact ((Bk.mk_ w _ _).cell k).trans (wsA31_at hk)
  have i1 : (k : Int) < 11 := by omega
  have i2 : (0 : Int) ≤ k := by omega
  clear hs hT
  go_enter Tryd.func42, Tryd.ntmps42
  go_wp2_with fail
  refine (HF.out _ (by kernel_rfl)).mono ?_
  rintro e w2 ⟨rfl, rfl⟩
  go_wp2
  go_ret
  exact ⟨rfl, (Below.refl _ _).alloc (Nat.le_refl _) _⟩

/-- From how many bytes to how many a kind has. -/
def lstK (k : Int) : Int := if k = 3 then 4 else 0
def mstK (k : Int) : Int := if k = 3 then 4 else if k = 10 then 400 else if k = 2 then 64 else 0
set_option maxRecDepth 100000 in
set_option maxHeartbeats 1000000 in
theorem room_any (k : Int) (w : World) : Calls Tryd.prog 64 #[.int .i64 k] w fun r w' => r = .returned (.tuple #[.int .i64 (lstK k), .int .i64 (mstK k)]) ∧ w = w' := by
  by_cases h3 : k = 3
  · subst h3
    go_enter Tryd.func64, Tryd.ntmps64
    go_wp2_with fail
    try rw [Exit.noGoto_ret]
    go_ret2
    exact ⟨rfl, rfl⟩
  by_cases h10 : k = 10
  · subst h10
    go_enter Tryd.func64, Tryd.ntmps64
    go_wp2_with fail
    try rw [Exit.noGoto_ret]
    go_ret2
    exact ⟨rfl, rfl⟩
  by_cases h2 : k = 2
  · subst h2
    go_enter Tryd.func64, Tryd.ntmps64
    go_wp2_with fail
    try rw [Exit.noGoto_ret]
    go_ret2
    exact ⟨rfl, rfl⟩
  have e1 : lstK k = 0 := if_neg h3
  have e2 : mstK k = 0 := by unfold mstK; rw [if_neg h3, if_neg h10, if_neg h2]
  have f1 : (k == 3) = false := by simpa using h3
  have f2 : (k == 10) = false := by simpa using h10
  have f3 : (k == 2) = false := by simpa using h2
  rw [e1, e2]
  clear e1 e2 h3 h10 h2
  go_enter Tryd.func64, Tryd.ntmps64
  go_wp2_with fail
  try rw [Exit.noGoto_ret]
  go_ret2
  exact ⟨rfl, rfl⟩
end Go.Proofs.YtnopmdhjamkoaaaDoor
