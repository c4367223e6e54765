/- Same. WireN. Clone. Cat. -/
import Derived.Test.YtnbemfceoianiaaDoorProg
import Derived.Test.YtnbemfceoianiaaDoorBaseA
import Derived.Deep.LoopGhost
import Derived.Deep.QuietTactic
import Derived.BigQuiet
import Derived.WalkLawsBesides
import Derived.WalkSpells
import Derived.Laws.MakeOwn
import Derived.Outline
import Derived.OwnWalk
import Derived.Lib.AppendZeros
/- The contract of the document's Same: are two slices of bytes the same? -/
namespace Go.Proofs.YtnbemfceoianiaaDoor
set_option linter.unusedVariables false
open Go.RowKit

/-- A slice of bytes that is read. -/
def RB (w : World) (B : Nat) (A : Option Addr) (l : List UInt8) : Prop := Rd w B 1 A l.length (by8 l)
theorem RB.below {w w' : World} {B : Nat} {A : Option Addr} {l : List UInt8} (h : RB w B A l) (hb : Below B w w') : RB w' B A l := Rd.below h hb
theorem RB.at_ {w : World} {B : Nat} {A : Option Addr} {l : List UInt8} (h : RB w B A l) (hn : 0 < l.length) : ∃ b o, A = some ⟨b, o, none⟩ ∧ b < B ∧ ∀ k x, l[k]? = some x → w.cell? ⟨b, o + k, none⟩ = some (.int .u8 (x.toNat : Int)) := by
  obtain ⟨b, o, e, hb, hc⟩ := h.2 hn
  exact ⟨b, o, e, hb, fun k x hk => hc _ _ (by8_get hk)⟩

theorem u8_ne (x y : UInt8) : (((x.toNat : Int)) != ((y.toNat : Int))) = decide (x ≠ y) := by
  rw [Bool.eq_iff_iff]
  simp only [bne_iff_ne, decide_eq_true_eq]
  constructor
  · intro h e; exact h (by rw [e])
  · intro h e; exact h (UInt8.toNat_inj.1 (by omega))

end Go.Proofs.YtnbemfceoianiaaDoor

/- Contracts of package wire: width, number. -/
namespace Go.Proofs.YtnbemfceoianiaaDoor
set_option linter.unusedVariables false
open Go.RowKit

/-- Byte i of a number, the lowest first. -/
def nbyte (n : Int) (i : Nat) : UInt8 := UInt8.ofNat (n.toNat / 256 ^ i)
/-- A number's bytes, the highest first. -/
def numB (w : Nat) (n : Int) : List UInt8 := (List.range w).map fun j => nbyte n (w - 1 - j)
/-- .. of which the lowest k are written. -/
def numP (w : Nat) (n : Int) (k : Nat) : List UInt8 := (List.range w).map fun j => if w - 1 - j < k then nbyte n (w - 1 - j) else 0

theorem info_u8 : (Tryd.prog.info? 5).map (fun i => (i.zero, i.size, i.bytes)) = some (some (.int .u8 0), 1, 1) := by kernel_rfl

theorem width_0 (w : World) : Calls Tryd.prog 36 #[.int .i64 0] w fun e w' => e = .returned (.int .i64 1) ∧ w = w' := by
  go_enter Tryd.func36, Tryd.ntmps36
  go_wp2
  go_ret
  exact ⟨rfl, rfl⟩
theorem width_1 (w : World) : Calls Tryd.prog 36 #[.int .i64 1] w fun e w' => e = .returned (.int .i64 2) ∧ w = w' := by
  go_enter Tryd.func36, Tryd.ntmps36
  go_wp2
  go_ret
  exact ⟨rfl, rfl⟩
theorem width_2 (w : World) : Calls Tryd.prog 36 #[.int .i64 2] w fun e w' => e = .returned (.int .i64 4) ∧ w = w' := by
  go_enter Tryd.func36, Tryd.ntmps36
  go_wp2
  go_ret
  exact ⟨rfl, rfl⟩
theorem width_3 (w : World) : Calls Tryd.prog 36 #[.int .i64 3] w fun e w' => e = .returned (.int .i64 8) ∧ w = w' := by
  go_enter Tryd.func36, Tryd.ntmps36
  go_wp2
  go_ret
  exact ⟨rfl, rfl⟩

theorem nbyte_val (n : Int) (h0 : 0 ≤ n) (h1 : n ≤ 9223372036854775807) (k : Nat) : IntKind.u64.wrap n / 2 ^ (8 * k) % 256 = ((nbyte n k).toNat : Int) := by
  obtain ⟨m, rfl⟩ := Int.eq_ofNat_of_zero_le h0
  have e : IntKind.u64.wrap (m : Int) = (m : Int) := by rw [IntKind.wrap_u64]; omega
  unfold nbyte
  rw [e, UInt8.toNat_ofNat', Int.toNat_natCast, show (256 : Nat) ^ k = 2 ^ (8 * k) by rw [show (256 : Nat) = 2 ^ 8 from rfl, ← Nat.pow_mul]]
  simp
theorem numP_step (w : Nat) (n : Int) (k : Nat) (hk : k < w) : (by8 (numP w n k)).toArray.setIfInBounds (w - 1 - k) (.int .u8 ((nbyte n k).toNat : Int)) = (by8 (numP w n (k + 1))).toArray := by
  rw [List.setIfInBounds_toArray, ← by8_set]
  congr 2
  apply List.ext_getElem?
  intro j
  unfold numP
  rw [List.getElem?_set]
  simp only [List.length_map, List.length_range, List.getElem?_map]
  by_cases hj : j < w
  · rw [List.getElem?_range hj]
    by_cases e : w - 1 - k = j
    · subst e
      have e2 : w - 1 - (w - 1 - k) = k := by omega
      simp [e2, show w - 1 - k < w by omega]
    · rw [if_neg e]
      simp only [Option.map_some]
      by_cases h : w - 1 - j < k
      · rw [if_pos h, if_pos (by omega)]
      · rw [if_neg h, if_neg (by omega)]
  · rw [List.getElem?_eq_none (by simpa using hj)]
    rw [if_neg (by omega)]
    rfl
theorem numP_full (w : Nat) (n : Int) : numP w n w = numB w n := by
  unfold numP numB
  apply List.map_congr_left
  intro j hj
  have := List.mem_range.1 hj
  rw [if_pos (by omega)]
theorem numB_length (w : Nat) (n : Int) : (numB w n).length = w := by simp [numB]
theorem numP_length (w : Nat) (n : Int) (k : Nat) : (numP w n k).length = w := by simp [numP]
theorem fresh_bytes {w w' : World} {n : Nat} {l : List UInt8} (h : Mst w w' [(w.heap.size, 5, (by8 l).toArray)] []) (hn : l.length = n) (hm : n ≤ maxLen) : Fresh w w' 5 1 (.slice (some ⟨w.heap.size, 0, none⟩) n n) n (by8 l) := by
  refine ⟨h.bel, by simp [by8_length, hn], .inr ⟨w.heap.size, n, (by8 l).toArray, rfl, Nat.le_refl _, h.blk [], Nat.le_refl _, hm, by simp [by8_length, hn], ?_⟩⟩
  simp [← hn, ← by8_length]
/-- What a call hands back is a slice of the cells xs in new memory. -/
def RetFresh (w : World) (e : TypeId) (size n : Nat) (xs : List Value) (en : Ending) (w' : World) : Prop := ∃ v, en = .returned v ∧ Fresh w w' e size v n xs

set_option maxHeartbeats 1000000 in
theorem number_0 (n : Int) (w : World) (h0 : 0 ≤ n) (h1 : n ≤ 9223372036854775807) :
    Calls Tryd.prog 37 #[.int .i64 0, .int .i64 n] w (RetFresh w 5 1 1 (by8 (numB 1 n))) := by
  have HN := Lib.hid (show IntKind.u64.wrap n % 256 = ((nbyte n 0).toNat : Int) by have := nbyte_val n h0 h1 0; simpa using this)
  clear h1 h0
  have hmk : ∀ W : World, (Instr.makeSlice 30 (.int .i64 1) (.int .i64 1)).run Tryd.prog W = .ok (.slice (some ⟨W.heap.size, 0, none⟩) 1 1) (W.alloc (.cells #[.int .u8 0] 5)) := fun _ => by kernel_rfl
  go_enter Tryd.func37, Tryd.ntmps37
  go_wp2_with fail
  refine (width_0 _).mono ?_
  rintro e w' ⟨rfl, rfl⟩
  go_wp2_with fail
  clear hmk
  go_loopg [12] 1 (fun gg s12 wr => ∃ k : Nat, k + gg = 1 ∧ s12 = .int .i64 k ∧ Mst w wr [(w.heap.size, 5, (by8 (numP 1 n k)).toArray)] [])
  case atStart => exact ⟨0, by omega, rfl, (Mst.start w).new _ _⟩
  case round =>
    obtain ⟨k, hk, rfl, s0⟩ := hrel
    by_cases hlt : k < 1
    · obtain rfl : k = 0 := by omega
      have f0 := (s0.blk []).fr 0
      obtain ⟨v0, hv0⟩ : ∃ v0, (by8 (numP 1 n 0)).toArray[0]? = some v0 := ⟨_, Array.getElem?_eq_getElem (by simp [by8, numP])⟩
      have c0 := (s0.blk []).cell 0
      rw [hv0] at c0
      clear hv0
      have HS := Lib.hid (s0.put [] 0 (.int .u8 (IntKind.u64.wrap n % 256)))
      have HP := Lib.hid (numP_step 1 n 0 hlt)
      clear s0
      go_wp2_with fail
      go_roundg 0
      case measure => omega
      case rel =>
        refine ⟨1, by omega, by go_num, ?_⟩
        have a := HS.out
        have b := HP.out
        rw [HN.out] at a ⊢
        rw [← b]
        exact a
    · obtain rfl : k = 1 := by omega
      have HS := Lib.hid s0
      clear s0 hk hlt
      go_wp2_with fail
      go_ret
      have a := HS.out
      rw [numP_full] at a
      exact ⟨_, rfl, fresh_bytes a (numB_length _ _) (by decide)⟩

set_option maxHeartbeats 1000000 in
theorem number_1 (n : Int) (w : World) (h0 : 0 ≤ n) (h1 : n ≤ 9223372036854775807) :
    Calls Tryd.prog 37 #[.int .i64 1, .int .i64 n] w (RetFresh w 5 1 2 (by8 (numB 2 n))) := by
  have HN := Lib.hid (nbyte_val n h0 h1)
  clear h1 h0
  have hmk : ∀ W : World, (Instr.makeSlice 30 (.int .i64 2) (.int .i64 2)).run Tryd.prog W = .ok (.slice (some ⟨W.heap.size, 0, none⟩) 2 2) (W.alloc (.cells #[.int .u8 0, .int .u8 0] 5)) := fun _ => by kernel_rfl
  go_enter Tryd.func37, Tryd.ntmps37
  go_wp2_with fail
  refine (width_1 _).mono ?_
  rintro e w' ⟨rfl, rfl⟩
  go_wp2_with fail
  clear hmk
  go_loopg [12] 2 (fun gg s12 wr => ∃ k : Nat, k + gg = 2 ∧ s12 = .int .i64 k ∧ Mst w wr [(w.heap.size, 5, (by8 (numP 2 n k)).toArray)] [])
  case atStart => exact ⟨0, by omega, rfl, (Mst.start w).new _ _⟩
  case round =>
    obtain ⟨k, hk, rfl, s0⟩ := hrel
    by_cases hlt : k < 2
    · have f0 := (s0.blk []).fr (1 - k)
      obtain ⟨v0, hv0⟩ : ∃ v0, (by8 (numP 2 n k)).toArray[1 - k]? = some v0 := ⟨_, Array.getElem?_eq_getElem (by simp [by8, numP]; omega)⟩
      have c0 := (s0.blk []).cell (1 - k)
      rw [hv0] at c0
      clear hv0
      have HS := Lib.hid (s0.put [] (1 - k) (.int .u8 (IntKind.u64.wrap n / 2 ^ (8 * k) % 256)))
      have HP := Lib.hid (numP_step 2 n k hlt)
      clear s0
      go_wp2_with fail
      go_roundg (2 - (k + 1))
      case measure => exact meas hk hlt
      case rel =>
        refine ⟨k + 1, meas2 hlt, by go_num, ?_⟩
        have a := HS.out
        have b := HP.out
        rw [HN.out k] at a ⊢
        rw [← b]
        exact a
    · obtain rfl : k = 2 := by omega
      have HS := Lib.hid s0
      clear s0 hk hlt
      go_wp2_with fail
      go_ret
      have a := HS.out
      rw [numP_full] at a
      exact ⟨_, rfl, fresh_bytes a (numB_length _ _) (by decide)⟩

set_option maxHeartbeats 1000000 in
theorem number_2 (n : Int) (w : World) (h0 : 0 ≤ n) (h1 : n ≤ 9223372036854775807) :
    Calls Tryd.prog 37 #[.int .i64 2, .int .i64 n] w (RetFresh w 5 1 4 (by8 (numB 4 n))) := by
  have HN := Lib.hid (nbyte_val n h0 h1)
  clear h1 h0
  have hmk : ∀ W : World, (Instr.makeSlice 30 (.int .i64 4) (.int .i64 4)).run Tryd.prog W = .ok (.slice (some ⟨W.heap.size, 0, none⟩) 4 4) (W.alloc (.cells #[.int .u8 0, .int .u8 0, .int .u8 0, .int .u8 0] 5)) := fun _ => by kernel_rfl
  go_enter Tryd.func37, Tryd.ntmps37
  go_wp2_with fail
  refine (width_2 _).mono ?_
  rintro e w' ⟨rfl, rfl⟩
  go_wp2_with fail
  clear hmk
  go_loopg [12] 4 (fun gg s12 wr => ∃ k : Nat, k + gg = 4 ∧ s12 = .int .i64 k ∧ Mst w wr [(w.heap.size, 5, (by8 (numP 4 n k)).toArray)] [])
  case atStart => exact ⟨0, by omega, rfl, (Mst.start w).new _ _⟩
  case round =>
    obtain ⟨k, hk, rfl, s0⟩ := hrel
    by_cases hlt : k < 4
    · have f0 := (s0.blk []).fr (3 - k)
      obtain ⟨v0, hv0⟩ : ∃ v0, (by8 (numP 4 n k)).toArray[3 - k]? = some v0 := ⟨_, Array.getElem?_eq_getElem (by simp [by8, numP]; omega)⟩
      have c0 := (s0.blk []).cell (3 - k)
      rw [hv0] at c0
      clear hv0
      have HS := Lib.hid (s0.put [] (3 - k) (.int .u8 (IntKind.u64.wrap n / 2 ^ (8 * k) % 256)))
      have HP := Lib.hid (numP_step 4 n k hlt)
      clear s0
      go_wp2_with fail
      go_roundg (4 - (k + 1))
      case measure => exact meas hk hlt
      case rel =>
        refine ⟨k + 1, meas2 hlt, by go_num, ?_⟩
        have a := HS.out
        have b := HP.out
        rw [HN.out k] at a ⊢
        rw [← b]
        exact a
    · obtain rfl : k = 4 := by omega
      have HS := Lib.hid s0
      clear s0 hk hlt
      go_wp2_with fail
      go_ret
      have a := HS.out
      rw [numP_full] at a
      exact ⟨_, rfl, fresh_bytes a (numB_length _ _) (by decide)⟩

set_option maxHeartbeats 1000000 in
theorem number_3 (n : Int) (w : World) (h0 : 0 ≤ n) (h1 : n ≤ 9223372036854775807) :
    Calls Tryd.prog 37 #[.int .i64 3, .int .i64 n] w (RetFresh w 5 1 8 (by8 (numB 8 n))) := by
  have HN := Lib.hid (nbyte_val n h0 h1)
  clear h1 h0
  have hmk : ∀ W : World, (Instr.makeSlice 30 (.int .i64 8) (.int .i64 8)).run Tryd.prog W = .ok (.slice (some ⟨W.heap.size, 0, none⟩) 8 8) (W.alloc (.cells #[.int .u8 0, .int .u8 0, .int .u8 0, .int .u8 0, .int .u8 0, .int .u8 0, .int .u8 0, .int .u8 0] 5)) := fun _ => by kernel_rfl
  go_enter Tryd.func37, Tryd.ntmps37
  go_wp2_with fail
  refine (width_3 _).mono ?_
  rintro e w' ⟨rfl, rfl⟩
  go_wp2_with fail
  clear hmk
  go_loopg [12] 8 (fun gg s12 wr => ∃ k : Nat, k + gg = 8 ∧ s12 = .int .i64 k ∧ Mst w wr [(w.heap.size, 5, (by8 (numP 8 n k)).toArray)] [])
  case atStart => exact ⟨0, by omega, rfl, (Mst.start w).new _ _⟩
  case round =>
    obtain ⟨k, hk, rfl, s0⟩ := hrel
    by_cases hlt : k < 8
    · have f0 := (s0.blk []).fr (7 - k)
      obtain ⟨v0, hv0⟩ : ∃ v0, (by8 (numP 8 n k)).toArray[7 - k]? = some v0 := ⟨_, Array.getElem?_eq_getElem (by simp [by8, numP]; omega)⟩
      have c0 := (s0.blk []).cell (7 - k)
      rw [hv0] at c0
      clear hv0
      have HS := Lib.hid (s0.put [] (7 - k) (.int .u8 (IntKind.u64.wrap n / 2 ^ (8 * k) % 256)))
      have HP := Lib.hid (numP_step 8 n k hlt)
      clear s0
      go_wp2_with fail
      go_roundg (8 - (k + 1))
      case measure => exact meas hk hlt
      case rel =>
        refine ⟨k + 1, meas2 hlt, by go_num, ?_⟩
        have a := HS.out
        have b := HP.out
        rw [HN.out k] at a ⊢
        rw [← b]
        exact a
    · obtain rfl : k = 8 := by omega
      have HS := Lib.hid s0
      clear s0 hk hlt
      go_wp2_with fail
      go_ret
      have a := HS.out
      rw [numP_full] at a
      exact ⟨_, rfl, fresh_bytes a (numB_length _ _) (by decide)⟩
end Go.Proofs.YtnbemfceoianiaaDoor

/- The contract of bytes.Clone. -/
namespace Go.Proofs.YtnbemfceoianiaaDoor
set_option linter.unusedVariables false
open Go.RowKit

theorem src_cells {w : World} {a : Addr} {l : List UInt8} (h : RB w w.heap.size (some a) l) : ∀ j u, (by8 l)[j]? = some u → (w.alloc (.cells #[] 5)).cell? (a.add j) = some u := by
  intro j u hu
  have hn : 0 < l.length := by
    rcases Nat.eq_zero_or_pos l.length with h0 | h0
    · rw [List.eq_nil_of_length_eq_zero h0] at hu; simp [by8] at hu
    · exact h0
  obtain ⟨b, o, e, hb, hc⟩ := h.2 hn
  injection e with e
  subst e
  rw [WideShapes.add_plain, World.cell?_alloc_lt _ _ _ hb]
  exact hc j u hu

set_option maxHeartbeats 1000000 in
theorem clone_some (a : Addr) (c : Nat) (l : List UInt8) (w : World) (hl : RB w w.heap.size (some a) l) (hn : l.length ≤ 1000000) :
    Calls Tryd.prog 29 #[.slice (some a) l.length c] w (RetFresh w 5 1 l.length (by8 l)) := by
  obtain ⟨i0, hi, hz0, hz1, hz2⟩ := info_parts info_u8
  have J0 := Lib.hid hi
  have J1 := Lib.hid hz0
  have J2 := Lib.hid hz1
  have J3 := Lib.hid hz2
  have H1 := Lib.hid hl
  have hb1 : 0 + l.length ≤ maxLen := by unfold maxLen; omega
  have hb2 : (0 + l.length) * 1 ≤ 140737488355328 := by omega
  have B1 := Lib.hid hb1
  have B2 := Lib.hid hb2
  clear hl hi hz0 hz1 hz2 hb1 hb2
  have hq := fun W => Lib.run_eql_slice_nil (P := Tryd.prog) W 30 5 (some a) l.length c 0 0 Tryd.underlying30
  have M0 := (Mst.start w).newrow 5 1 0 0 #[] (Nat.le_refl _) (by decide) rfl
  go_enter Tryd.func29, Tryd.ntmps29
  go_wp2_with (at_builtin; refine wpList_append_own _ rfl _ _ 30 rfl w.heap.size 5 i0 _ 1 1 Tryd.underlying30 J0.out J1.out J2.out J3.out rfl (by decide) (.slice (some ⟨w.heap.size, 0, none⟩) 0 0) 0 [] rfl (M0.row []) a l.length c (by8 l) rfl (by rw [by8_length]; omega) (src_cells H1.out) (by8_one l) B1.out B2.out M0.bel.size ?_; intro v' w2 hown hgrow _)
  go_ret
  refine ⟨_, rfl, M0.bel.grown hgrow M0.bel.size (fun k hk => ?_), ?_⟩
  · simp [Value.ownBlock] at hk
    omega
  · simpa using hown

theorem clone_nil (c : Nat) (w : World) :
    Calls Tryd.prog 29 #[.slice none 0 c] w (RetFresh w 5 1 0 (by8 [])) := by
  have hq := fun W => Lib.run_eql_slice_nil (P := Tryd.prog) W 30 5 none 0 c 0 0 Tryd.underlying30
  go_enter Tryd.func29, Tryd.ntmps29
  go_wp2
  go_ret
  exact ⟨_, rfl, Below.refl _ _, World.ownsRow_nil _ _ _ _⟩
theorem clone_any (A : Option Addr) (c : Nat) (l : List UInt8) (w : World) (hl : RB w w.heap.size A l) (hn : l.length ≤ 1000000) :
    Calls Tryd.prog 29 #[.slice A l.length c] w (RetFresh w 5 1 l.length (by8 l)) := by
  rcases A with _ | a
  · have h0 : l = [] := by
      rcases Nat.eq_zero_or_pos l.length with h | h
      · exact List.eq_nil_of_length_eq_zero h
      · obtain ⟨b, o, e, _⟩ := hl.2 h
        cases e
    subst h0
    exact clone_nil c w
  · exact clone_some a c l w hl hn
end Go.Proofs.YtnbemfceoianiaaDoor

/- slices.Grow of nil and slices.Concat of slices of bytes. -/
namespace Go.Proofs.YtnbemfceoianiaaDoor
set_option linter.unusedVariables false
open Go.RowKit

/-- A part: a slice of bytes that is read. -/
structure Pt where
  A : Option Addr
  c : Nat
  l : List UInt8
def Pt.v (p : Pt) : Value := .slice p.A p.l.length p.c
def Pts (w : World) (A : Option Addr) (ps : List Pt) : Prop := Rd w w.heap.size 1 A ps.length (ps.map Pt.v) ∧ ∀ p ∈ ps, RB w w.heap.size p.A p.l
def catP (ps : List Pt) : List UInt8 := (ps.map (·.l)).flatten
theorem catP_snoc (ps : List Pt) (p : Pt) : catP (ps ++ [p]) = catP ps ++ p.l := by simp [catP]
theorem catP_cons (ps : List Pt) (p : Pt) : catP (p :: ps) = p.l ++ catP ps := by simp [catP]
theorem catP_take {ps : List Pt} {k : Nat} {p : Pt} (h : ps[k]? = some p) : catP (ps.take (k + 1)) = catP (ps.take k) ++ p.l := by
  have hk : k < ps.length := (List.getElem?_eq_some_iff.1 h).1
  rw [List.take_succ_eq_append_getElem hk, catP_snoc]
  rw [List.getElem?_eq_getElem hk] at h
  injection h with h
  rw [h]
theorem catP_append (ps qs : List Pt) : catP (ps ++ qs) = catP ps ++ catP qs := by simp [catP]
theorem catP_le (ps : List Pt) (k : Nat) : (catP (ps.take k)).length ≤ (catP ps).length := by
  have h := catP_append (ps.take k) (ps.drop k)
  rw [List.take_append_drop] at h
  rw [h]
  simp
theorem Pts.below {w w' : World} {A : Option Addr} {ps : List Pt} (h : Pts w A ps) (hb : Below w.heap.size w w') : Pts w' A ps :=
  ⟨(h.1.below hb).more hb.size, fun p hp => ((h.2 p hp).below hb |>.more hb.size)⟩

theorem el_u8c : El Tryd.prog 30 5 1 1 := by
  obtain ⟨i0, hi, hz0, hz1, hz2⟩ := info_parts info_u8
  exact ⟨Tryd.underlying30, ⟨i0, _, hi, hz0, hz1, hz2, rfl⟩, by decide⟩
theorem Pts.at_ {w : World} {A : Option Addr} {ps : List Pt} (h : Pts w A ps) (hn : 0 < ps.length) : ∃ b o, A = some ⟨b, o, none⟩ ∧ b < w.heap.size ∧ ∀ k p, ps[k]? = some p → w.cell? ⟨b, o + k, none⟩ = some p.v := by
  obtain ⟨b, o, e, hb, hc⟩ := h.1.2 hn
  exact ⟨b, o, e, hb, fun k p hk => hc k p.v (by simp [hk])⟩
structure CaR (w wr : World) (ps : List Pt) (k : Nat) (v : Value) : Prop where
  m : Mst w wr [] [⟨5, 1, v, (catP (ps.take k)).length, by8 (catP (ps.take k))⟩]

end Go.Proofs.YtnbemfceoianiaaDoor
