/- Package seal: plain words; contracts of four, check, slices.Clone, Stream. -/
import Derived.Test.YtiakgohipnbdbaaExtB
namespace Go.Proofs.Ytiakgohipnbdbaa
set_option linter.unusedVariables false
set_option linter.unusedSimpArgs false
open Go.RowKit

abbrev hideS : ByteArray := ⟨#[104, 105, 100, 101]⟩
abbrev bindS : ByteArray := ⟨#[98, 105, 110, 100]⟩
def hideK (kb : List UInt8) : List UInt8 := macT kb (frameB [hideS.data.toList])
def bindK (kb : List UInt8) : List UInt8 := macT kb (frameB [bindS.data.toList])
theorem hideK_len (kb : List UInt8) : (hideK kb).length = 32 := rfl
theorem bindK_len (kb : List UInt8) : (bindK kb).length = 32 := rfl
/-- One tag of a stream. -/
def strT (kd nc : List UInt8) (i : Nat) : List UInt8 := macT kd (UInt8.ofNat nc.length :: nc ++ len4 i)
/-- A stream's first tags. -/
def strK (kd nc : List UInt8) (k : Nat) : List UInt8 := (List.range k).flatMap (strT kd nc)
theorem strK_succ (kd nc : List UInt8) (k : Nat) : strK kd nc (k + 1) = strK kd nc k ++ strT kd nc k := by
  simp [strK, List.range_succ]
theorem strK_len (kd nc : List UInt8) (k : Nat) : (strK kd nc k).length = 32 * k := by
  induction k with
  | zero => rfl
  | succ k ih => rw [strK_succ, List.length_append, ih, strT, macT_len]; omega
/-- A stream's first bytes. -/
def strB (kd nc : List UInt8) (n : Nat) : List UInt8 := (strK kd nc ((n + 31) / 32)).take n
theorem strB_len (kd nc : List UInt8) (n : Nat) : (strB kd nc n).length = n := by
  rw [strB, List.length_take, strK_len]; omega

set_option maxHeartbeats 400000 in
theorem four_any (n : Nat) (h : n < 4294967296) (w : World) : Calls Try.prog 77 #[.int .i64 (n : Int)] w fun e w' => ∃ g, e = .returned (.slice (some ⟨g, 0, none⟩) 4 4) ∧ Fresh w w' 5 1 (.slice (some ⟨g, 0, none⟩) 4 4) 4 (by8 (len4 n)) := by
  have i1 : (0 : Int) ≤ n := by omega
  have i2 : (n : Int) < 4294967296 := by omega
  have L4 := Lib.hid (len4_cells n h)
  have m1 := (Mst.start w).newrow 5 1 4 4 #[.int .u8 ((n : Int) / 16777216), .int .u8 ((n : Int) / 65536 % 256), .int .u8 ((n : Int) / 256 % 256), .int .u8 ((n : Int) % 256)] (Nat.le_refl _) (by decide) rfl
  have M1 := Lib.hid m1
  clear h m1
  go_enter Try.func77, Try.ntmps77
  go_wp2
  go_ret
  refine ⟨_, rfl, M1.out.bel, ?_⟩
  rw [← L4.out]
  exact M1.out.row []

theorem scheck_ok (g : Nat) (A : Option Addr) (n c : Nat) (h : n ≤ 32) (w : World) : Calls Try.prog 69 #[.pointer (some ⟨g, 0, none⟩), .slice A n c] w fun e w' => e = .returned (.int .i64 0) ∧ w = w' := by
  have i1 : ¬ (32 : Int) < n := by omega
  go_enter Try.func69, Try.ntmps69
  go_wp2
  go_ret
  exact ⟨rfl, rfl⟩
theorem scheck_no (g : Nat) (A : Option Addr) (n c : Nat) (h : 32 < n) (w : World) : Calls Try.prog 69 #[.pointer (some ⟨g, 0, none⟩), .slice A n c] w fun e w' => e = .returned (.int .i64 1) ∧ w = w' := by
  have i1 : (32 : Int) < n := by omega
  go_enter Try.func69, Try.ntmps69
  go_wp2
  go_ret
  exact ⟨rfl, rfl⟩
theorem scheck_nil (A : Option Addr) (n c : Nat) (w : World) : Calls Try.prog 69 #[.pointer none, .slice A n c] w fun e w' => e = .returned (.int .i64 1) ∧ w = w' := by
  go_enter Try.func69, Try.ntmps69
  go_wp2
  go_ret
  exact ⟨rfl, rfl⟩

theorem sclone_some (a : Addr) (c : Nat) (l : List UInt8) (w : World) (hl : RB w w.heap.size (some a) l) (hn : l.length ≤ 1000000) :
    Calls Try.prog 87 #[.slice (some a) l.length c] w (RetFresh w 5 1 l.length (by8 l)) := by
  obtain ⟨i0, hi, hz0, hz1, hz2⟩ := info_parts info_u8
  have J0 := Lib.hid hi
  have J1 := Lib.hid hz0
  have J2 := Lib.hid hz1
  have J3 := Lib.hid hz2
  have H1 := Lib.hid hl
  have hb1 : 0 + l.length ≤ maxLen := by unfold maxLen; omega
  have hb2 : (0 + l.length) * 1 ≤ 140737488355328 := by omega
  have B1 := Lib.hid hb1
  have B2 := Lib.hid hb2
  clear hl hi hz0 hz1 hz2 hb1 hb2
  have hq := fun W => Lib.run_eql_slice_nil (P := Try.prog) W 24 5 (some a) l.length c 0 0 Try.underlying24
  have M0 := (Mst.start w).newrow 5 1 0 0 #[] (Nat.le_refl _) (by decide) rfl
  go_enter Try.func87, Try.ntmps87
  go_wp2_with (at_builtin; refine wpList_append_own _ rfl _ _ 24 rfl w.heap.size 5 i0 _ 1 1 Try.underlying24 J0.out J1.out J2.out J3.out rfl (by decide) (.slice (some ⟨w.heap.size, 0, none⟩) 0 0) 0 [] rfl (M0.row []) a l.length c (by8 l) rfl (by rw [by8_length]; omega) (src_cells H1.out) (by8_one l) B1.out B2.out M0.bel.size ?_; intro v' w2 hown hgrow _)
  go_ret
  refine ⟨_, rfl, M0.bel.grown hgrow M0.bel.size (fun k hk => ?_), ?_⟩
  · simp [Value.ownBlock] at hk
    omega
  · simpa using hown

theorem sclone_nil (c : Nat) (w : World) :
    Calls Try.prog 87 #[.slice none 0 c] w (RetFresh w 5 1 0 (by8 [])) := by
  have hq := fun W => Lib.run_eql_slice_nil (P := Try.prog) W 24 5 none 0 c 0 0 Try.underlying24
  go_enter Try.func87, Try.ntmps87
  go_wp2
  go_ret
  exact ⟨_, rfl, Below.refl _ _, World.ownsRow_nil _ _ _ _⟩
theorem sclone_any (A : Option Addr) (c : Nat) (l : List UInt8) (w : World) (hl : RB w w.heap.size A l) (hn : l.length ≤ 1000000) :
    Calls Try.prog 87 #[.slice A l.length c] w (RetFresh w 5 1 l.length (by8 l)) := by
  rcases A with _ | a
  · have h0 : l = [] := by
      rcases Nat.eq_zero_or_pos l.length with h | h
      · exact List.eq_nil_of_length_eq_zero h
      · obtain ⟨b, o, e, _⟩ := hl.2 h
        cases e
    subst h0
    exact sclone_nil c w
  · exact sclone_some a c l w hl hn

end Go.Proofs.Ytiakgohipnbdbaa
