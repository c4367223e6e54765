/- The contract of the document's Same: are two slices of bytes the same? -/
import Derived.Test.YthnaobolmgcclaaProg
import Derived.Test.YthnaobolmgcclaaFresh
import Derived.Deep.LoopGhost
import Derived.Deep.QuietTactic
import Derived.BigQuiet
import Derived.WalkLawsBesides
import Derived.WalkSpells
namespace Go.Proofs.Ythnaobolmgcclaa
set_option linter.unusedVariables false
open Go.RowKit

/-- A slice of bytes that is read. -/
def RB (w : World) (B : Nat) (A : Option Addr) (l : List UInt8) : Prop := Rd w B 1 A l.length (by8 l)
theorem RB.below {w w' : World} {B : Nat} {A : Option Addr} {l : List UInt8} (h : RB w B A l) (hb : Below B w w') : RB w' B A l := Rd.below h hb
theorem RB.at_ {w : World} {B : Nat} {A : Option Addr} {l : List UInt8} (h : RB w B A l) (hn : 0 < l.length) : ∃ b o, A = some ⟨b, o, none⟩ ∧ b < B ∧ ∀ k x, l[k]? = some x → w.cell? ⟨b, o + k, none⟩ = some (.int .u8 (x.toNat : Int)) := by
  obtain ⟨b, o, e, hb, hc⟩ := h.2 hn
  exact ⟨b, o, e, hb, fun k x hk => hc _ _ (by8_get hk)⟩

theorem u8_ne (x y : UInt8) : (((x.toNat : Int)) != ((y.toNat : Int))) = decide (x ≠ y) := by
  rw [Bool.eq_iff_iff]
  simp only [bne_iff_ne, decide_eq_true_eq]
  constructor
  · intro h e; exact h (by rw [e])
  · intro h e; exact h (UInt8.toNat_inj.1 (by omega))

set_option maxHeartbeats 1000000 in
theorem same_yes (A A' : Option Addr) (c c' : Nat) (l : List UInt8) (w : World) (hl : RB w w.heap.size A l) (hl' : RB w w.heap.size A' l) (hn : l.length ≤ maxLen) :
    Calls Try.prog 25 #[.slice A l.length c, .slice A' l.length c'] w fun e w' => e = .returned (.bool true) ∧ Below w.heap.size w w' := by
  unfold maxLen at hn
  have H1 := Lib.hid hl
  have H2 := Lib.hid hl'
  clear hl hl'
  go_enter Try.func25, Try.ntmps25
  go_wp2_with fail
  go_loopg [5] l.length (fun g s5 wr => ∃ k : Nat, k + g = l.length ∧ s5 = .int .i64 k ∧ Below w.heap.size w wr)
  case atStart => exact ⟨0, by omega, rfl, Below.refl _ _⟩
  case round =>
    obtain ⟨k, hk, rfl, hb⟩ := hrel
    by_cases hlt : k < l.length
    · obtain ⟨b, o, hA, hbB, hc⟩ := H1.out.at_ (by omega)
      obtain ⟨b', o', hA', hbB', hc'⟩ := H2.out.at_ (by omega)
      obtain ⟨x, hx⟩ : ∃ x, l[k]? = some x := ⟨_, List.getElem?_eq_getElem hlt⟩
      have e0 := (hb.cell (p := ⟨b, _, none⟩) hbB).trans (hc k x hx)
      have e1 := (hb.cell (p := ⟨b', _, none⟩) hbB').trans (hc' k x hx)
      have HB := Lib.hid hb
      clear hc hc' hx hb
      subst hA hA'
      have i1 : (k : Int) < (l.length : Int) := by omega
      have i2 : (0 : Int) ≤ (k : Int) := by omega
      go_wp2_with fail
      go_quiet (fail)
      go_wp2_with fail
      go_roundg (l.length - (k + 1))
      case measure => exact meas hk hlt
      case rel => exact ⟨k + 1, meas2 hlt, by go_num, Bdn HB.out _⟩
    · have HB := Lib.hid hb
      clear hb
      go_wp2_with fail
      go_ret
      exact ⟨rfl, HB.out⟩

set_option maxHeartbeats 1000000 in
theorem same_len (A A' : Option Addr) (n n' c c' : Nat) (w : World) (hn : n ≠ n') :
    Calls Try.prog 25 #[.slice A n c, .slice A' n' c'] w fun e w' => e = .returned (.bool false) ∧ Below w.heap.size w w' := by
  have hne : ((n : Int) != (n' : Int)) = true := by rw [bne_iff_ne]; omega
  clear hn
  go_enter Try.func25, Try.ntmps25
  go_wp2
  go_ret
  exact ⟨rfl, Below.refl _ _⟩

set_option maxHeartbeats 1000000 in
theorem same_no (A A' : Option Addr) (c c' n : Nat) (l l' : List UInt8) (w : World) (hl : RB w w.heap.size A l) (hl' : RB w w.heap.size A' l') (hn1 : l.length = n) (hn2 : l'.length = n) (hn : n ≤ maxLen) (hne : l ≠ l') :
    Calls Try.prog 25 #[.slice A n c, .slice A' n c'] w fun e w' => e = .returned (.bool false) ∧ Below w.heap.size w w' := by
  unfold maxLen at hn
  have H1 := Lib.hid hl
  have H2 := Lib.hid hl'
  have HN := Lib.hid hne
  have HL := Lib.hid (And.intro hn1 hn2)
  clear hl hl' hne hn1 hn2
  go_enter Try.func25, Try.ntmps25
  go_wp2_with fail
  go_loopg [5] n (fun g s5 wr => ∃ k : Nat, k + g = n ∧ s5 = .int .i64 k ∧ Below w.heap.size w wr ∧ l.take k = l'.take k)
  case atStart => exact ⟨0, by omega, rfl, Below.refl _ _, rfl⟩
  case round =>
    obtain ⟨k, hk, rfl, hb, ht⟩ := hrel
    have HT := Lib.hid ht
    clear ht
    by_cases hlt : k < n
    · have hq := HL.out
      obtain ⟨b, o, hA, hbB, hc⟩ := H1.out.at_ (by omega)
      obtain ⟨b', o', hA', hbB', hc'⟩ := H2.out.at_ (by omega)
      obtain ⟨x, hx⟩ : ∃ x, l[k]? = some x := ⟨_, List.getElem?_eq_getElem (by omega)⟩
      obtain ⟨y, hy⟩ : ∃ y, l'[k]? = some y := ⟨_, List.getElem?_eq_getElem (by omega)⟩
      have e0 := (hb.cell (p := ⟨b, _, none⟩) hbB).trans (hc k x hx)
      have e1 := (hb.cell (p := ⟨b', _, none⟩) hbB').trans (hc' k y hy)
      have HB := Lib.hid hb
      have HX := Lib.hid hx
      have HY := Lib.hid hy
      clear hc hc' hx hb hy hq
      subst hA hA'
      have i1 : (k : Int) < (n : Int) := by omega
      have i2 : (0 : Int) ≤ (k : Int) := by omega
      by_cases hxy : x = y
      · subst hxy
        have HT2 : Hid (l.take (k + 1) = l'.take (k + 1)) := by
          show _ = _
          rw [List.take_add_one, List.take_add_one, HT.out, HX.out, HY.out]
        go_wp2_with fail
        go_quiet (fail)
        go_wp2_with fail
        go_roundg (n - (k + 1))
        case measure => exact meas hk hlt
        case rel => exact ⟨k + 1, meas2 hlt, by go_num, Bdn HB.out _, HT2.out⟩
      · have hd : (((x.toNat : Int)) != ((y.toNat : Int))) = true := by rw [u8_ne]; simpa using hxy
        clear hxy
        go_wp2_with fail
        go_quiet (fail)
        go_wp2
        go_ret
        exact ⟨rfl, Bdn HB.out _⟩
    · exfalso
      have hq := HL.out
      have e : k = n := by omega
      have a := HT.out
      rw [List.take_of_length_le (by omega), List.take_of_length_le (by omega)] at a
      exact HN.out a

theorem same_any (A A' : Option Addr) (c c' : Nat) (l l' : List UInt8) (w : World) (hl : RB w w.heap.size A l) (hl' : RB w w.heap.size A' l') (hn : l.length ≤ maxLen) :
    Calls Try.prog 25 #[.slice A l.length c, .slice A' l'.length c'] w fun e w' => e = .returned (.bool (decide (l = l'))) ∧ Below w.heap.size w w' := by
  by_cases h : l.length = l'.length
  · by_cases h2 : l = l'
    · subst h2
      simp only [decide_true]
      exact same_yes A A' c c' l w hl hl' hn
    · rw [decide_eq_false h2]
      have := same_no A A' c c' l.length l l' w hl hl' rfl h.symm hn h2
      rw [h] at this ⊢
      exact this
  · have h2 : l ≠ l' := fun e => h (by rw [e])
    rw [decide_eq_false h2]
    exact same_len A A' _ _ c c' w h
end Go.Proofs.Ythnaobolmgcclaa
