/- Same. WireN. Clone. Cat. -/
import Derived.Test.YtnbemfceoianiaaProg
import Derived.Test.YtnbemfceoianiaaBaseA
import Derived.Deep.LoopGhost
import Derived.Deep.QuietTactic
import Derived.BigQuiet
import Derived.WalkLawsBesides
import Derived.WalkSpells
import Derived.Laws.MakeOwn
import Derived.Outline
import Derived.OwnWalk
import Derived.Lib.AppendZeros
/- The contract of the document's Same: are two slices of bytes the same? -/
namespace Go.Proofs.Ytnbemfceoianiaa
set_option linter.unusedVariables false
open Go.RowKit

/-- A slice of bytes that is read. -/
def RB (w : World) (B : Nat) (A : Option Addr) (l : List UInt8) : Prop := Rd w B 1 A l.length (by8 l)
theorem RB.below {w w' : World} {B : Nat} {A : Option Addr} {l : List UInt8} (h : RB w B A l) (hb : Below B w w') : RB w' B A l := Rd.below h hb
theorem RB.at_ {w : World} {B : Nat} {A : Option Addr} {l : List UInt8} (h : RB w B A l) (hn : 0 < l.length) : ∃ b o, A = some ⟨b, o, none⟩ ∧ b < B ∧ ∀ k x, l[k]? = some x → w.cell? ⟨b, o + k, none⟩ = some (.int .u8 (x.toNat : Int)) := by
  obtain ⟨b, o, e, hb, hc⟩ := h.2 hn
  exact ⟨b, o, e, hb, fun k x hk => hc _ _ (by8_get hk)⟩

theorem u8_ne (x y : UInt8) : (((x.toNat : Int)) != ((y.toNat : Int))) = decide (x ≠ y) := by
  rw [Bool.eq_iff_iff]
  simp only [bne_iff_ne, decide_eq_true_eq]
  constructor
  · intro h e; exact h (by rw [e])
  · intro h e; exact h (UInt8.toNat_inj.1 (by omega))

set_option maxHeartbeats 1000000 in
theorem same_yes (A A' : Option Addr) (c c' : Nat) (l : List UInt8) (w : World) (hl : RB w w.heap.size A l) (hl' : RB w w.heap.size A' l) (hn : l.length ≤ maxLen) :
    Calls Try.prog 32 #[.slice A l.length c, .slice A' l.length c'] w fun e w' => e = .returned (.bool true) ∧ Below w.heap.size w w' := by
  unfold maxLen at hn
  have H1 := Lib.hid hl
  have H2 := Lib.hid hl'
  clear hl hl'
  go_enter Try.func32, Try.ntmps32
  go_wp2_with fail
  go_loopg [5] l.length (fun g s5 wr => ∃ k : Nat, k + g = l.length ∧ s5 = .int .i64 k ∧ Below w.heap.size w wr)
  case atStart => exact ⟨0, by omega, rfl, Below.refl _ _⟩
  case round =>
    obtain ⟨k, hk, rfl, hb⟩ := hrel
    by_cases hlt : k < l.length
    · obtain ⟨b, o, hA, hbB, hc⟩ := H1.out.at_ (by omega)
      obtain ⟨b', o', hA', hbB', hc'⟩ := H2.out.at_ (by omega)
      obtain ⟨x, hx⟩ : ∃ x, l[k]? = some x := ⟨_, List.getElem?_eq_getElem hlt⟩
      have e0 := (hb.cell (p := ⟨b, _, none⟩) hbB).trans (hc k x hx)
      have e1 := (hb.cell (p := ⟨b', _, none⟩) hbB').trans (hc' k x hx)
      have HB := Lib.hid hb
      clear hc hc' hx hb
      subst hA hA'
      have i1 : (k : Int) < (l.length : Int) := by omega
      have i2 : (0 : Int) ≤ (k : Int) := by omega
      go_wp2_with fail
      go_quiet (fail)
      go_wp2_with fail
      go_roundg (l.length - (k + 1))
      case measure => exact meas hk hlt
      case rel => exact ⟨k + 1, meas2 hlt, by go_num, Bdn HB.out _⟩
    · have HB := Lib.hid hb
      clear hb
      go_wp2_with fail
      go_ret
      exact ⟨rfl, HB.out⟩

set_option maxHeartbeats 1000000 in
theorem same_len (A A' : Option Addr) (n n' c c' : Nat) (w : World) (hn : n ≠ n') :
    Calls Try.prog 32 #[.slice A n c, .slice A' n' c'] w fun e w' => e = .returned (.bool false) ∧ Below w.heap.size w w' := by
  have hne : ((n : Int) != (n' : Int)) = true := by rw [bne_iff_ne]; omega
  clear hn
  go_enter Try.func32, Try.ntmps32
  go_wp2
  go_ret
  exact ⟨rfl, Below.refl _ _⟩

set_option maxHeartbeats 1000000 in
theorem same_no (A A' : Option Addr) (c c' n : Nat) (l l' : List UInt8) (w : World) (hl : RB w w.heap.size A l) (hl' : RB w w.heap.size A' l') (hn1 : l.length = n) (hn2 : l'.length = n) (hn : n ≤ maxLen) (hne : l ≠ l') :
    Calls Try.prog 32 #[.slice A n c, .slice A' n c'] w fun e w' => e = .returned (.bool false) ∧ Below w.heap.size w w' := by
  unfold maxLen at hn
  have H1 := Lib.hid hl
  have H2 := Lib.hid hl'
  have HN := Lib.hid hne
  have HL := Lib.hid (And.intro hn1 hn2)
  clear hl hl' hne hn1 hn2
  go_enter Try.func32, Try.ntmps32
  go_wp2_with fail
  go_loopg [5] n (fun g s5 wr => ∃ k : Nat, k + g = n ∧ s5 = .int .i64 k ∧ Below w.heap.size w wr ∧ l.take k = l'.take k)
  case atStart => exact ⟨0, by omega, rfl, Below.refl _ _, rfl⟩
  case round =>
    obtain ⟨k, hk, rfl, hb, ht⟩ := hrel
    have HT := Lib.hid ht
    clear ht
    by_cases hlt : k < n
    · have hq := HL.out
      obtain ⟨b, o, hA, hbB, hc⟩ := H1.out.at_ (by omega)
      obtain ⟨b', o', hA', hbB', hc'⟩ := H2.out.at_ (by omega)
      obtain ⟨x, hx⟩ : ∃ x, l[k]? = some x := ⟨_, List.getElem?_eq_getElem (by omega)⟩
      obtain ⟨y, hy⟩ : ∃ y, l'[k]? = some y := ⟨_, List.getElem?_eq_getElem (by omega)⟩
      have e0 := (hb.cell (p := ⟨b, _, none⟩) hbB).trans (hc k x hx)
      have e1 := (hb.cell (p := ⟨b', _, none⟩) hbB').trans (hc' k y hy)
      have HB := Lib.hid hb
      have HX := Lib.hid hx
      have HY := Lib.hid hy
      clear hc hc' hx hb hy hq
      subst hA hA'
      have i1 : (k : Int) < (n : Int) := by omega
      have i2 : (0 : Int) ≤ (k : Int) := by omega
      by_cases hxy : x = y
      · subst hxy
        have HT2 : Hid (l.take (k + 1) = l'.take (k + 1)) := by
          show _ = _
          rw [List.take_add_one, List.take_add_one, HT.out, HX.out, HY.out]
        go_wp2_with fail
        go_quiet (fail)
        go_wp2_with fail
        go_roundg (n - (k + 1))
        case measure => exact meas hk hlt
        case rel => exact ⟨k + 1, meas2 hlt, by go_num, Bdn HB.out _, HT2.out⟩
      · have hd : (((x.toNat : Int)) != ((y.toNat : Int))) = true := by rw [u8_ne]; simpa using hxy
        clear hxy
        go_wp2_with fail
        go_quiet (fail)
        go_wp2
        go_ret
        exact ⟨rfl, Bdn HB.out _⟩
    · exfalso
      have hq := HL.out
      have e : k = n := by omega
      have a := HT.out
      rw [List.take_of_length_le (by omega), List.take_of_length_le (by omega)] at a
      exact HN.out a

theorem same_any (A A' : Option Addr) (c c' : Nat) (l l' : List UInt8) (w : World) (hl : RB w w.heap.size A l) (hl' : RB w w.heap.size A' l') (hn : l.length ≤ maxLen) :
    Calls Try.prog 32 #[.slice A l.length c, .slice A' l'.length c'] w fun e w' => e = .returned (.bool (decide (l = l'))) ∧ Below w.heap.size w w' := by
  by_cases h : l.length = l'.length
  · by_cases h2 : l = l'
    · subst h2
      simp only [decide_true]
      exact same_yes A A' c c' l w hl hl' hn
    · rw [decide_eq_false h2]
      have := same_no A A' c c' l.length l l' w hl hl' rfl h.symm hn h2
      rw [h] at this ⊢
      exact this
  · have h2 : l ≠ l' := fun e => h (by rw [e])
    rw [decide_eq_false h2]
    exact same_len A A' _ _ c c' w h
end Go.Proofs.Ytnbemfceoianiaa

/- Contracts of package wire: width, number. -/
namespace Go.Proofs.Ytnbemfceoianiaa
set_option linter.unusedVariables false
open Go.RowKit

/-- Byte i of a number, the lowest first. -/
def nbyte (n : Int) (i : Nat) : UInt8 := UInt8.ofNat (n.toNat / 256 ^ i)
/-- A number's bytes, the highest first. -/
def numB (w : Nat) (n : Int) : List UInt8 := (List.range w).map fun j => nbyte n (w - 1 - j)
/-- .. of which the lowest k are written. -/
def numP (w : Nat) (n : Int) (k : Nat) : List UInt8 := (List.range w).map fun j => if w - 1 - j < k then nbyte n (w - 1 - j) else 0

theorem info_u8 : (Try.prog.info? 5).map (fun i => (i.zero, i.size, i.bytes)) = some (some (.int .u8 0), 1, 1) := by kernel_rfl

theorem width_0 (w : World) : Calls Try.prog 84 #[.int .i64 0] w fun e w' => e = .returned (.int .i64 1) ∧ w = w' := by
  go_enter Try.func84, Try.ntmps84
  go_wp2
  go_ret
  exact ⟨rfl, rfl⟩
theorem width_1 (w : World) : Calls Try.prog 84 #[.int .i64 1] w fun e w' => e = .returned (.int .i64 2) ∧ w = w' := by
  go_enter Try.func84, Try.ntmps84
  go_wp2
  go_ret
  exact ⟨rfl, rfl⟩
theorem width_2 (w : World) : Calls Try.prog 84 #[.int .i64 2] w fun e w' => e = .returned (.int .i64 4) ∧ w = w' := by
  go_enter Try.func84, Try.ntmps84
  go_wp2
  go_ret
  exact ⟨rfl, rfl⟩
theorem width_3 (w : World) : Calls Try.prog 84 #[.int .i64 3] w fun e w' => e = .returned (.int .i64 8) ∧ w = w' := by
  go_enter Try.func84, Try.ntmps84
  go_wp2
  go_ret
  exact ⟨rfl, rfl⟩

theorem nbyte_val (n : Int) (h0 : 0 ≤ n) (h1 : n ≤ 9223372036854775807) (k : Nat) : IntKind.u64.wrap n / 2 ^ (8 * k) % 256 = ((nbyte n k).toNat : Int) := by
  obtain ⟨m, rfl⟩ := Int.eq_ofNat_of_zero_le h0
  have e : IntKind.u64.wrap (m : Int) = (m : Int) := by rw [IntKind.wrap_u64]; omega
  unfold nbyte
  rw [e, UInt8.toNat_ofNat', Int.toNat_natCast, show (256 : Nat) ^ k = 2 ^ (8 * k) by rw [show (256 : Nat) = 2 ^ 8 from rfl, ← Nat.pow_mul]]
  simp
theorem numP_step (w : Nat) (n : Int) (k : Nat) (hk : k < w) : (by8 (numP w n k)).toArray.setIfInBounds (w - 1 - k) (.int .u8 ((nbyte n k).toNat : Int)) = (by8 (numP w n (k + 1))).toArray := by
  rw [List.setIfInBounds_toArray, ← by8_set]
  congr 2
  apply List.ext_getElem?
  intro j
  unfold numP
  rw [List.getElem?_set]
  simp only [List.length_map, List.length_range, List.getElem?_map]
  by_cases hj : j < w
  · rw [List.getElem?_range hj]
    by_cases e : w - 1 - k = j
    · subst e
      have e2 : w - 1 - (w - 1 - k) = k := by omega
      simp [e2, show w - 1 - k < w by omega]
    · rw [if_neg e]
      simp only [Option.map_some]
      by_cases h : w - 1 - j < k
      · rw [if_pos h, if_pos (by omega)]
      · rw [if_neg h, if_neg (by omega)]
  · rw [List.getElem?_eq_none (by simpa using hj)]
    rw [if_neg (by omega)]
    rfl
theorem numP_full (w : Nat) (n : Int) : numP w n w = numB w n := by
  unfold numP numB
  apply List.map_congr_left
  intro j hj
  have := List.mem_range.1 hj
  rw [if_pos (by omega)]
theorem numB_length (w : Nat) (n : Int) : (numB w n).length = w := by simp [numB]
theorem numP_length (w : Nat) (n : Int) (k : Nat) : (numP w n k).length = w := by simp [numP]
theorem fresh_bytes {w w' : World} {n : Nat} {l : List UInt8} (h : Mst w w' [(w.heap.size, 5, (by8 l).toArray)] []) (hn : l.length = n) (hm : n ≤ maxLen) : Fresh w w' 5 1 (.slice (some ⟨w.heap.size, 0, none⟩) n n) n (by8 l) := by
  refine ⟨h.bel, by simp [by8_length, hn], .inr ⟨w.heap.size, n, (by8 l).toArray, rfl, Nat.le_refl _, h.blk [], Nat.le_refl _, hm, by simp [by8_length, hn], ?_⟩⟩
  simp [← hn, ← by8_length]
/-- What a call hands back is a slice of the cells xs in new memory. -/
def RetFresh (w : World) (e : TypeId) (size n : Nat) (xs : List Value) (en : Ending) (w' : World) : Prop := ∃ v, en = .returned v ∧ Fresh w w' e size v n xs

set_option maxHeartbeats 1000000 in
theorem number_0 (n : Int) (w : World) (h0 : 0 ≤ n) (h1 : n ≤ 9223372036854775807) :
    Calls Try.prog 85 #[.int .i64 0, .int .i64 n] w (RetFresh w 5 1 1 (by8 (numB 1 n))) := by
  have HN := Lib.hid (show IntKind.u64.wrap n % 256 = ((nbyte n 0).toNat : Int) by have := nbyte_val n h0 h1 0; simpa using this)
  clear h1 h0
  have hmk : ∀ W : World, (Instr.makeSlice 26 (.int .i64 1) (.int .i64 1)).run Try.prog W = .ok (.slice (some ⟨W.heap.size, 0, none⟩) 1 1) (W.alloc (.cells #[.int .u8 0] 5)) := fun _ => by kernel_rfl
  go_enter Try.func85, Try.ntmps85
  go_wp2_with fail
  refine (width_0 _).mono ?_
  rintro e w' ⟨rfl, rfl⟩
  go_wp2_with fail
  clear hmk
  go_loopg [12] 1 (fun gg s12 wr => ∃ k : Nat, k + gg = 1 ∧ s12 = .int .i64 k ∧ Mst w wr [(w.heap.size, 5, (by8 (numP 1 n k)).toArray)] [])
  case atStart => exact ⟨0, by omega, rfl, (Mst.start w).new _ _⟩
  case round =>
    obtain ⟨k, hk, rfl, s0⟩ := hrel
    by_cases hlt : k < 1
    · obtain rfl : k = 0 := by omega
      have f0 := (s0.blk []).fr 0
      obtain ⟨v0, hv0⟩ : ∃ v0, (by8 (numP 1 n 0)).toArray[0]? = some v0 := ⟨_, Array.getElem?_eq_getElem (by simp [by8, numP])⟩
      have c0 := (s0.blk []).cell 0
      rw [hv0] at c0
      clear hv0
      have HS := Lib.hid (s0.put [] 0 (.int .u8 (IntKind.u64.wrap n % 256)))
      have HP := Lib.hid (numP_step 1 n 0 hlt)
      clear s0
      go_wp2_with fail
      go_roundg 0
      case measure => omega
      case rel =>
        refine ⟨1, by omega, by go_num, ?_⟩
        have a := HS.out
        have b := HP.out
        rw [HN.out] at a ⊢
        rw [← b]
        exact a
    · obtain rfl : k = 1 := by omega
      have HS := Lib.hid s0
      clear s0 hk hlt
      go_wp2_with fail
      go_ret
      have a := HS.out
      rw [numP_full] at a
      exact ⟨_, rfl, fresh_bytes a (numB_length _ _) (by decide)⟩

set_option maxHeartbeats 1000000 in
theorem number_1 (n : Int) (w : World) (h0 : 0 ≤ n) (h1 : n ≤ 9223372036854775807) :
    Calls Try.prog 85 #[.int .i64 1, .int .i64 n] w (RetFresh w 5 1 2 (by8 (numB 2 n))) := by
  have HN := Lib.hid (nbyte_val n h0 h1)
  clear h1 h0
  have hmk : ∀ W : World, (Instr.makeSlice 26 (.int .i64 2) (.int .i64 2)).run Try.prog W = .ok (.slice (some ⟨W.heap.size, 0, none⟩) 2 2) (W.alloc (.cells #[.int .u8 0, .int .u8 0] 5)) := fun _ => by kernel_rfl
  go_enter Try.func85, Try.ntmps85
  go_wp2_with fail
  refine (width_1 _).mono ?_
  rintro e w' ⟨rfl, rfl⟩
  go_wp2_with fail
  clear hmk
  go_loopg [12] 2 (fun gg s12 wr => ∃ k : Nat, k + gg = 2 ∧ s12 = .int .i64 k ∧ Mst w wr [(w.heap.size, 5, (by8 (numP 2 n k)).toArray)] [])
  case atStart => exact ⟨0, by omega, rfl, (Mst.start w).new _ _⟩
  case round =>
    obtain ⟨k, hk, rfl, s0⟩ := hrel
    by_cases hlt : k < 2
    · have f0 := (s0.blk []).fr (1 - k)
      obtain ⟨v0, hv0⟩ : ∃ v0, (by8 (numP 2 n k)).toArray[1 - k]? = some v0 := ⟨_, Array.getElem?_eq_getElem (by simp [by8, numP]; omega)⟩
      have c0 := (s0.blk []).cell (1 - k)
      rw [hv0] at c0
      clear hv0
      have HS := Lib.hid (s0.put [] (1 - k) (.int .u8 (IntKind.u64.wrap n / 2 ^ (8 * k) % 256)))
      have HP := Lib.hid (numP_step 2 n k hlt)
      clear s0
      go_wp2_with fail
      go_roundg (2 - (k + 1))
      case measure => exact meas hk hlt
      case rel =>
        refine ⟨k + 1, meas2 hlt, by go_num, ?_⟩
        have a := HS.out
        have b := HP.out
        rw [HN.out k] at a ⊢
        rw [← b]
        exact a
    · obtain rfl : k = 2 := by omega
      have HS := Lib.hid s0
      clear s0 hk hlt
      go_wp2_with fail
      go_ret
      have a := HS.out
      rw [numP_full] at a
      exact ⟨_, rfl, fresh_bytes a (numB_length _ _) (by decide)⟩

set_option maxHeartbeats 1000000 in
theorem number_2 (n : Int) (w : World) (h0 : 0 ≤ n) (h1 : n ≤ 9223372036854775807) :
    Calls Try.prog 85 #[.int .i64 2, .int .i64 n] w (RetFresh w 5 1 4 (by8 (numB 4 n))) := by
  have HN := Lib.hid (nbyte_val n h0 h1)
  clear h1 h0
  have hmk : ∀ W : World, (Instr.makeSlice 26 (.int .i64 4) (.int .i64 4)).run Try.prog W = .ok (.slice (some ⟨W.heap.size, 0, none⟩) 4 4) (W.alloc (.cells #[.int .u8 0, .int .u8 0, .int .u8 0, .int .u8 0] 5)) := fun _ => by kernel_rfl
  go_enter Try.func85, Try.ntmps85
  go_wp2_with fail
  refine (width_2 _).mono ?_
  rintro e w' ⟨rfl, rfl⟩
  go_wp2_with fail
  clear hmk
  go_loopg [12] 4 (fun gg s12 wr => ∃ k : Nat, k + gg = 4 ∧ s12 = .int .i64 k ∧ Mst w wr [(w.heap.size, 5, (by8 (numP 4 n k)).toArray)] [])
  case atStart => exact ⟨0, by omega, rfl, (Mst.start w).new _ _⟩
  case round =>
    obtain ⟨k, hk, rfl, s0⟩ := hrel
    by_cases hlt : k < 4
    · have f0 := (s0.blk []).fr (3 - k)
      obtain ⟨v0, hv0⟩ : ∃ v0, (by8 (numP 4 n k)).toArray[3 - k]? = some v0 := ⟨_, Array.getElem?_eq_getElem (by simp [by8, numP]; omega)⟩
      have c0 := (s0.blk []).cell (3 - k)
      rw [hv0] at c0
      clear hv0
      have HS := Lib.hid (s0.put [] (3 - k) (.int .u8 (IntKind.u64.wrap n / 2 ^ (8 * k) % 256)))
      have HP := Lib.hid (numP_step 4 n k hlt)
      clear s0
      go_wp2_with fail
      go_roundg (4 - (k + 1))
      case measure => exact meas hk hlt
      case rel =>
        refine ⟨k + 1, meas2 hlt, by go_num, ?_⟩
        have a := HS.out
        have b := HP.out
        rw [HN.out k] at a ⊢
        rw [← b]
        exact a
    · obtain rfl : k = 4 := by omega
      have HS := Lib.hid s0
      clear s0 hk hlt
      go_wp2_with fail
      go_ret
      have a := HS.out
      rw [numP_full] at a
      exact ⟨_, rfl, fresh_bytes a (numB_length _ _) (by decide)⟩

set_option maxHeartbeats 1000000 in
theorem number_3 (n : Int) (w : World) (h0 : 0 ≤ n) (h1 : n ≤ 9223372036854775807) :
    Calls Try.prog 85 #[.int .i64 3, .int .i64 n] w (RetFresh w 5 1 8 (by8 (numB 8 n))) := by
  have HN := Lib.hid (nbyte_val n h0 h1)
  clear h1 h0
  have hmk : ∀ W : World, (Instr.makeSlice 26 (.int .i64 8) (.int .i64 8)).run Try.prog W = .ok (.slice (some ⟨W.heap.size, 0, none⟩) 8 8) (W.alloc (.cells #[.int .u8 0, .int .u8 0, .int .u8 0, .int .u8 0, .int .u8 0, .int .u8 0, .int .u8 0, .int .u8 0] 5)) := fun _ => by kernel_rfl
  go_enter Try.func85, Try.ntmps85
  go_wp2_with fail
  refine (width_3 _).mono ?_
  rintro e w' ⟨rfl, rfl⟩
  go_wp2_with fail
  clear hmk
  go_loopg [12] 8 (fun gg s12 wr => ∃ k : Nat, k + gg = 8 ∧ s12 = .int .i64 k ∧ Mst w wr [(w.heap.size, 5, (by8 (numP 8 n k)).toArray)] [])
  case atStart => exact ⟨0, by omega, rfl, (Mst.start w).new _ _⟩
  case round =>
    obtain ⟨k, hk, rfl, s0⟩ := hrel
    by_cases hlt : k < 8
    · have f0 := (s0.blk []).fr (7 - k)
      obtain ⟨v0, hv0⟩ : ∃ v0, (by8 (numP 8 n k)).toArray[7 - k]? = some v0 := ⟨_, Array.getElem?_eq_getElem (by simp [by8, numP]; omega)⟩
      have c0 := (s0.blk []).cell (7 - k)
      rw [hv0] at c0
      clear hv0
      have HS := Lib.hid (s0.put [] (7 - k) (.int .u8 (IntKind.u64.wrap n / 2 ^ (8 * k) % 256)))
      have HP := Lib.hid (numP_step 8 n k hlt)
      clear s0
      go_wp2_with fail
      go_roundg (8 - (k + 1))
      case measure => exact meas hk hlt
      case rel =>
        refine ⟨k + 1, meas2 hlt, by go_num, ?_⟩
        have a := HS.out
        have b := HP.out
        rw [HN.out k] at a ⊢
        rw [← b]
        exact a
    · obtain rfl : k = 8 := by omega
      have HS := Lib.hid s0
      clear s0 hk hlt
      go_wp2_with fail
      go_ret
      have a := HS.out
      rw [numP_full] at a
      exact ⟨_, rfl, fresh_bytes a (numB_length _ _) (by decide)⟩
end Go.Proofs.Ytnbemfceoianiaa

/- The contract of bytes.Clone. -/
namespace Go.Proofs.Ytnbemfceoianiaa
set_option linter.unusedVariables false
open Go.RowKit

theorem src_cells {w : World} {a : Addr} {l : List UInt8} (h : RB w w.heap.size (some a) l) : ∀ j u, (by8 l)[j]? = some u → (w.alloc (.cells #[] 5)).cell? (a.add j) = some u := by
  intro j u hu
  have hn : 0 < l.length := by
    rcases Nat.eq_zero_or_pos l.length with h0 | h0
    · rw [List.eq_nil_of_length_eq_zero h0] at hu; simp [by8] at hu
    · exact h0
  obtain ⟨b, o, e, hb, hc⟩ := h.2 hn
  injection e with e
  subst e
  rw [WideShapes.add_plain, World.cell?_alloc_lt _ _ _ hb]
  exact hc j u hu

set_option maxHeartbeats 1000000 in
theorem clone_some (a : Addr) (c : Nat) (l : List UInt8) (w : World) (hl : RB w w.heap.size (some a) l) (hn : l.length ≤ 1000000) :
    Calls Try.prog 22 #[.slice (some a) l.length c] w (RetFresh w 5 1 l.length (by8 l)) := by
  obtain ⟨i0, hi, hz0, hz1, hz2⟩ := info_parts info_u8
  have J0 := Lib.hid hi
  have J1 := Lib.hid hz0
  have J2 := Lib.hid hz1
  have J3 := Lib.hid hz2
  have H1 := Lib.hid hl
  have hb1 : 0 + l.length ≤ maxLen := by unfold maxLen; omega
  have hb2 : (0 + l.length) * 1 ≤ 140737488355328 := by omega
  have B1 := Lib.hid hb1
  have B2 := Lib.hid hb2
  clear hl hi hz0 hz1 hz2 hb1 hb2
  have hq := fun W => Lib.run_eql_slice_nil (P := Try.prog) W 26 5 (some a) l.length c 0 0 Try.underlying26
  have M0 := (Mst.start w).newrow 5 1 0 0 #[] (Nat.le_refl _) (by decide) rfl
  go_enter Try.func22, Try.ntmps22
  go_wp2_with (at_builtin; refine wpList_append_own _ rfl _ _ 26 rfl w.heap.size 5 i0 _ 1 1 Try.underlying26 J0.out J1.out J2.out J3.out rfl (by decide) (.slice (some ⟨w.heap.size, 0, none⟩) 0 0) 0 [] rfl (M0.row []) a l.length c (by8 l) rfl (by rw [by8_length]; omega) (src_cells H1.out) (by8_one l) B1.out B2.out M0.bel.size ?_; intro v' w2 hown hgrow _)
  go_ret
  refine ⟨_, rfl, M0.bel.grown hgrow M0.bel.size (fun k hk => ?_), ?_⟩
  · simp [Value.ownBlock] at hk
    omega
  · simpa using hown

theorem clone_nil (c : Nat) (w : World) :
    Calls Try.prog 22 #[.slice none 0 c] w (RetFresh w 5 1 0 (by8 [])) := by
  have hq := fun W => Lib.run_eql_slice_nil (P := Try.prog) W 26 5 none 0 c 0 0 Try.underlying26
  go_enter Try.func22, Try.ntmps22
  go_wp2
  go_ret
  exact ⟨_, rfl, Below.refl _ _, World.ownsRow_nil _ _ _ _⟩
theorem clone_any (A : Option Addr) (c : Nat) (l : List UInt8) (w : World) (hl : RB w w.heap.size A l) (hn : l.length ≤ 1000000) :
    Calls Try.prog 22 #[.slice A l.length c] w (RetFresh w 5 1 l.length (by8 l)) := by
  rcases A with _ | a
  · have h0 : l = [] := by
      rcases Nat.eq_zero_or_pos l.length with h | h
      · exact List.eq_nil_of_length_eq_zero h
      · obtain ⟨b, o, e, _⟩ := hl.2 h
        cases e
    subst h0
    exact clone_nil c w
  · exact clone_some a c l w hl hn
end Go.Proofs.Ytnbemfceoianiaa

/- slices.Grow of nil and slices.Concat of slices of bytes. -/
namespace Go.Proofs.Ytnbemfceoianiaa
set_option linter.unusedVariables false
open Go.RowKit

/-- A part: a slice of bytes that is read. -/
structure Pt where
  A : Option Addr
  c : Nat
  l : List UInt8
def Pt.v (p : Pt) : Value := .slice p.A p.l.length p.c
def Pts (w : World) (A : Option Addr) (ps : List Pt) : Prop := Rd w w.heap.size 1 A ps.length (ps.map Pt.v) ∧ ∀ p ∈ ps, RB w w.heap.size p.A p.l
def catP (ps : List Pt) : List UInt8 := (ps.map (·.l)).flatten
theorem catP_snoc (ps : List Pt) (p : Pt) : catP (ps ++ [p]) = catP ps ++ p.l := by simp [catP]
theorem catP_cons (ps : List Pt) (p : Pt) : catP (p :: ps) = p.l ++ catP ps := by simp [catP]
theorem catP_take {ps : List Pt} {k : Nat} {p : Pt} (h : ps[k]? = some p) : catP (ps.take (k + 1)) = catP (ps.take k) ++ p.l := by
  have hk : k < ps.length := (List.getElem?_eq_some_iff.1 h).1
  rw [List.take_succ_eq_append_getElem hk, catP_snoc]
  rw [List.getElem?_eq_getElem hk] at h
  injection h with h
  rw [h]
theorem catP_append (ps qs : List Pt) : catP (ps ++ qs) = catP ps ++ catP qs := by simp [catP]
theorem catP_le (ps : List Pt) (k : Nat) : (catP (ps.take k)).length ≤ (catP ps).length := by
  have h := catP_append (ps.take k) (ps.drop k)
  rw [List.take_append_drop] at h
  rw [h]
  simp
theorem Pts.below {w w' : World} {A : Option Addr} {ps : List Pt} (h : Pts w A ps) (hb : Below w.heap.size w w') : Pts w' A ps :=
  ⟨(h.1.below hb).more hb.size, fun p hp => ((h.2 p hp).below hb |>.more hb.size)⟩

set_option maxRecDepth 100000 in
theorem grow_nil (n : Nat) (w : World) (hn : n ≤ 100000000) : Calls Try.prog 87 #[.slice none 0 0, .int .i64 (n : Int)] w (RetFresh w 5 1 0 (by8 [])) := by
  obtain ⟨i0, hi, hz0, hz1, hz2⟩ := info_parts info_u8
  by_cases h0 : n = 0
  · subst h0
    go_enter Try.func87, Try.ntmps87
    go_wp2
    go_ret
    exact ⟨_, rfl, Below.refl _ _, World.ownsRow_nil _ _ _ _⟩
  · have h1 : 0 < n := by omega
    have hr := Lib.run_append_nil_zeros (P := Try.prog) w 26 3 26 5 i0 (.int .u8 0) .i64 .i64 Try.underlying26 Try.underlying3 hi hz0 n h1 (by omega) (by omega) (by rw [hz2]; omega)
    generalize hcap : grownCap w n 0 5 = cap2 at hr
    have hge : n ≤ cap2 := by rw [← hcap]; exact grownCap_ge w _ 0 _
    have hle : cap2 ≤ maxLen := by rw [← hcap]; exact grownCap_le_maxLen w _ 0 _ (by unfold maxLen; omega)
    generalize hZ : (Builtin.zeroCells (Value.int .u8 0).cells n ++ Builtin.zeroCells (Value.int .u8 0).cells (cap2 - n)) = Z at hr
    have hZs : Z.size = cap2 * 1 := by rw [← hZ]; simp [size_zeroCells, Value.cells]; omega
    have HW := Lib.hid ((Mst.start w).newrow 5 1 0 cap2 Z (Nat.zero_le _) hle hZs)
    have HR := Lib.hid hr
    have hle' : (n : Int) ≤ cap2 := by omega
    clear hi hz0 hz1 hz2 hr h0 hcap hle hZ hZs
    go_enter Try.func87, Try.ntmps87
    go_wp2_with (at_builtin; refine Lib.wpList_append_run _ rfl _ _ _ _ rfl _ _ rfl rfl _ _ HR.out ?_)
    go_ret
    exact ⟨_, rfl, HW.out.bel.drew, (HW.out.drew).row []⟩

theorem el_u8c : El Try.prog 26 5 1 1 := by
  obtain ⟨i0, hi, hz0, hz1, hz2⟩ := info_parts info_u8
  exact ⟨Try.underlying26, ⟨i0, _, hi, hz0, hz1, hz2, rfl⟩, by decide⟩
theorem Pts.at_ {w : World} {A : Option Addr} {ps : List Pt} (h : Pts w A ps) (hn : 0 < ps.length) : ∃ b o, A = some ⟨b, o, none⟩ ∧ b < w.heap.size ∧ ∀ k p, ps[k]? = some p → w.cell? ⟨b, o + k, none⟩ = some p.v := by
  obtain ⟨b, o, e, hb, hc⟩ := h.1.2 hn
  exact ⟨b, o, e, hb, fun k p hk => hc k p.v (by simp [hk])⟩
structure CaR (w wr : World) (ps : List Pt) (k : Nat) (v : Value) : Prop where
  m : Mst w wr [] [⟨5, 1, v, (catP (ps.take k)).length, by8 (catP (ps.take k))⟩]

set_option maxRecDepth 100000 in
set_option maxHeartbeats 1000000 in
theorem concat_any (w : World) (A : Option Addr) (c : Nat) (ps : List Pt) (hp : Pts w A ps) (hn : ps.length ≤ 1000) (hl : (catP ps).length ≤ 1000000) :
    Calls Try.prog 80 #[.slice A ps.length c] w (RetFresh w 5 1 (catP ps).length (by8 (catP ps))) := by
  obtain ⟨n, hN⟩ : ∃ n, ps.length = n := ⟨_, rfl⟩
  obtain ⟨L, hL⟩ : ∃ L, (catP ps).length = L := ⟨_, rfl⟩
  have HN := Lib.hid hN
  have HL := Lib.hid hL
  rw [hN] at hn ⊢
  rw [hL] at hl ⊢
  have HP := Lib.hid hp
  clear hp hN hL
  go_enter Try.func80, Try.ntmps80
  go_wp2_with fail
  go_loopg [11, 3] n (fun gk s11 s3 wr => ∃ k : Nat, k + gk = n ∧ s11 = .int .i64 k ∧ s3 = .int .i64 ((catP (ps.take k)).length : Nat) ∧ Mst w wr [] [])
  case atStart => exact ⟨0, by omega, rfl, rfl, Mst.start w⟩
  case round =>
    obtain ⟨k, hk, rfl, rfl, hm⟩ := hrel
    by_cases hlt : k < n
    · obtain ⟨p, hpk⟩ : ∃ p, ps[k]? = some p := ⟨_, List.getElem?_eq_getElem (by have := HN.out; omega)⟩
      obtain ⟨b, o, rfl, hb, hcell⟩ := HP.out.at_ (by have := HN.out; omega)
      have c0 := hm.old hb (hcell k p hpk)
      have e1 := catP_take hpk
      have e2 := catP_le ps (k + 1)
      have e3 : (catP (ps.take (k + 1))).length = (catP (ps.take k)).length + p.l.length := by rw [e1, List.length_append]
      obtain ⟨S, hS⟩ : ∃ S, (catP (ps.take k)).length = S := ⟨_, rfl⟩
      obtain ⟨p, cp, lp⟩ := p
      unfold Pt.v at c0
      simp only at c0 e3
      obtain ⟨N, hN⟩ : ∃ N, lp.length = N := ⟨_, rfl⟩
      rw [hN] at c0 e3
      rw [hS] at e3 ⊢
      have h0 : (0 : Int) ≤ S := by omega
      have h1 : (S : Int) + N ≤ 1000000 := by have := HL.out; omega
      have h2 : (0 : Int) ≤ N := by omega
      have E3 := Lib.hid e3
      have HM := Lib.hid hm
      clear e1 e2 e3 hm hcell hS hN
      go_wp2
      go_roundg (n - (k + 1))
      case measure => exact meas hk hlt
      case rel => exact ⟨k + 1, meas2 hlt, by go_num, by rw [E3.out]; go_num, HM.out⟩
    · obtain rfl : k = n := by omega
      have ht : ps.take k = ps := List.take_of_length_le (by have := HN.out; omega)
      rw [ht]
      have hLe := HL.out
      rw [hLe]
      have HM := Lib.hid hm
      clear hm hlt hk ht hLe
      go_wp2_with ((with_reducible refine (grow_nil _ _ (by omega)).mono ?_); rintro e w1 ⟨v1, rfl, hf1⟩; have HM1 := Lib.hid (HM.out.addr hf1); clear hf1)
      have HC := Lib.hid (show CaR w w1 ps 0 v1 from ⟨HM1.out⟩)
      go_loopg [27, 6] k (fun gk s27 s6 wr => ∃ j : Nat, j + gk = k ∧ s27 = .int .i64 j ∧ CaR w wr ps j s6)
      case atStart => exact ⟨0, by omega, rfl, HC.out⟩
      case round =>
        obtain ⟨j, hj, rfl, ⟨hm⟩⟩ := hrel
        by_cases hlt : j < k
        · obtain ⟨p, hpk⟩ : ∃ p, ps[j]? = some p := ⟨_, List.getElem?_eq_getElem (by have := HN.out; omega)⟩
          obtain ⟨b, o, rfl, hb, hcell⟩ := HP.out.at_ (by have := HN.out; omega)
          have c0 := hm.old hb (hcell j p hpk)
          have e1 := catP_take hpk
          have e2 := catP_le ps (j + 1)
          have e3 : (catP (ps.take (j + 1))).length = (catP (ps.take j)).length + p.l.length := by rw [e1, List.length_append]
          have hr := hm.oldRd (HP.out.2 p (List.mem_of_getElem? hpk))
          obtain ⟨p, cp, lp⟩ := p
          unfold Pt.v at c0
          simp only at c0 e3 hr e1
          have E1 := Lib.hid (show by8 (catP (ps.take j)) ++ by8 lp = by8 (catP (ps.take (j + 1))) by rw [e1, by8_append])
          have E3 := Lib.hid e3
          have hb1 : (catP (ps.take j)).length + lp.length ≤ maxLen := by have := HL.out; unfold maxLen; omega
          have hb2 : ((catP (ps.take j)).length + lp.length) * 1 ≤ 140737488355328 := by have := HL.out; omega
          have B1 := Lib.hid hb1
          have B2 := Lib.hid hb2
          obtain ⟨A6, c6, rfl, _⟩ := own_form (hm.row [])
          have HM := Lib.hid hm
          have HR := Lib.hid hr
          clear e1 e2 e3 hm hcell hb1 hb2 hr
          go_wp2_with (at_builtin; refine wpList_appM rfl _ _ 26 rfl [] HM.out el_u8c rfl _ p _ cp (by8 lp) rfl HR.out (by8_one lp) B1.out B2.out ?_; intro A' c' w' hm')
          go_roundg (k - (j + 1))
          case measure => exact meas hj hlt
          case rel => exact ⟨j + 1, meas2 hlt, by go_num, ⟨by
            rw [E1.out, ← E3.out] at hm'
            rw [E3.out]
            rw [E3.out] at hm'
            exact hm'⟩⟩
        · obtain rfl : j = k := by omega
          have ht : ps.take j = ps := List.take_of_length_le (by have := HN.out; omega)
          rw [ht, HL.out] at hm
          have HM := Lib.hid hm
          clear hm hlt hj ht
          go_wp2
          go_ret
          exact ⟨_, rfl, HM.out.bel, HM.out.row []⟩
end Go.Proofs.Ytnbemfceoianiaa
