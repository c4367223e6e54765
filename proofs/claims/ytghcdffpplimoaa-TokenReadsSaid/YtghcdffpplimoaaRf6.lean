/- The document's layer 5: Parse. -/
import Derived.Test.YtghcdffpplimoaaRf5
import Derived.Deep.DeepCutAuto
namespace Go.Proofs.Ytghcdffpplimoaa
set_option linter.unusedVariables false
open Go.RowKit

/-- The numbers so far. -/
def nsA (l : List UInt8) (k : Nat) : Array Value := #[.int .i64 (if 0 < k then (c9 l).1 else 0), .int .i64 (if 1 < k then (c9 l).2.1 else 0), .int .i64 (if 2 < k then (c9 l).2.2.1 else 0), .int .i64 (if 3 < k then (c9 l).2.2.2 else 0)]
def offN (k : Nat) : Nat := if k = 0 then 0 else if k = 1 then 2 else if k = 2 then 3 else if k = 3 then 7 else 9
def RpRel (w : World) (l : List UInt8) (k : Nat) (s0 : Value) (wr : World) : Prop :=
  ∃ A c l', s0 = .slice A l'.length c ∧ l' = l.drop (offN k) ∧ offN k ≤ l.length ∧ l'.length ≤ c ∧ c ≤ 9223372036854775807 ∧ RB w w.heap.size A l' ∧
    Mst w wr [(w.heap.size + 2, 138, #[.int .i64 1, .int .i64 0, .int .i64 2, .int .i64 1]), (w.heap.size + 1, 138, nsA l k), (w.heap.size, 23, #[.int .i64 0, .int .i64 0, .int .i64 0, .int .i64 0])] []
theorem RB.drop {w : World} {B : Nat} {A : Option Addr} {l : List UInt8} (h : RB w B A l) (n : Nat) : RB w B (A.map (fun x => x.add n)) (l.drop n) := by
  refine ⟨by simp [by8], fun hn => ?_⟩
  simp only [List.length_drop] at hn
  obtain ⟨b, o, e, hb, hc⟩ := h.2 (by omega)
  refine ⟨b, o + n, by rw [e]; simp [WideShapes.add_plain], hb, fun j u hu => ?_⟩
  rw [Nat.add_assoc]
  refine hc _ _ ?_
  rw [by8_drop, List.getElem?_drop] at hu
  exact hu
theorem rp_next {w wr : World} {l l' : List UInt8} {A : Option Addr} {c j : Nat} (n : Nat) (hl' : l' = l.drop (offN j)) (hoff : offN j ≤ l.length) (hn : offN (j + 1) = offN j + n) (hlt : n ≤ l'.length) (hc1 : l'.length ≤ c) (hc2 : c ≤ 9223372036854775807) (hrb : RB w w.heap.size A l')
    (m : Mst w wr [(w.heap.size + 2, 138, #[.int .i64 1, .int .i64 0, .int .i64 2, .int .i64 1]), (w.heap.size + 1, 138, nsA l (j + 1)), (w.heap.size, 23, #[.int .i64 0, .int .i64 0, .int .i64 0, .int .i64 0])] []) :
    RpRel w l (j + 1) (.slice (if c = n then A else Option.map (fun x => { block := x.block, off := x.off + n }) A) (l'.length - n) (c - n)) wr := by
  have e1 : (l'.drop n).length = l'.length - n := by simp
  have hle : offN (j + 1) ≤ l.length := by rw [hn]; rw [hl'] at hlt; simp at hlt; omega
  refine ⟨if c = n then A else Option.map (fun x => { block := x.block, off := x.off + n }) A, c - n, l'.drop n, by rw [e1], by rw [hl', List.drop_drop, hn], hle, by omega, by omega, ?_, m⟩
  refine ⟨by simp [by8], fun h0 => ?_⟩
  have h1 : l'.length - n > 0 := by omega
  obtain ⟨b, o, e, hb, hc⟩ := hrb.2 (by omega)
  refine ⟨b, o + n, by rw [if_neg (by omega), e]; rfl, hb, fun i u hu => ?_⟩
  rw [Nat.add_assoc]
  refine hc _ _ ?_
  rw [by8_drop, List.getElem?_drop] at hu
  exact hu
theorem ns0 (l l' : List UInt8) (h : l' = l.drop (offN 0)) : (nsA l 0).setIfInBounds 0 (.int .i64 (valB (l'.take 2) : Nat)) = nsA l 1 := by
  subst h
  simp [nsA, c9]
theorem ns1 (l l' : List UInt8) (h : l' = l.drop (offN 1)) : (nsA l 1).setIfInBounds 1 (.int .i64 (valB (l'.take 1) : Nat)) = nsA l 2 := by
  subst h
  simp [nsA, c9, offN]
theorem ns2 (l l' : List UInt8) (h : l' = l.drop (offN 2)) : (nsA l 2).setIfInBounds 2 (.int .i64 (valB (l'.take 4) : Nat)) = nsA l 3 := by
  subst h
  simp [nsA, c9, offN]
theorem ns3 (l l' : List UInt8) (h : l' = l.drop (offN 3)) : (nsA l 3).setIfInBounds 3 (.int .i64 (valB (l'.take 2) : Nat)) = nsA l 4 := by
  subst h
  simp [nsA, c9, offN]
theorem RB.none_ {w : World} {B : Nat} {A : Option Addr} : RB w B A [] := Rd.nil_ _ _ _ _

set_option maxRecDepth 100000 in
set_option maxHeartbeats 3200000 in
theorem refparse_any (w : World) (A : Option Addr) (c : Nat) (l : List UInt8) (hl : RB w w.heap.size A l) (hn : l.length ≤ 1000000) (hc : l.length ≤ c) (hc2 : c ≤ 9223372036854775807) :
    Calls Try.prog 47 #[.slice A l.length c] w fun e w' => e = .returned (.tuple #[clV (parse9 l).1, .int .i64 (parse9 l).2]) ∧ Below w.heap.size w w' := by
  have m0 : Mst w (((w.alloc (.cells #[.int .i64 0, .int .i64 0, .int .i64 0, .int .i64 0] 23)).alloc (.cells #[.int .i64 0, .int .i64 0, .int .i64 0, .int .i64 0] 138)).alloc (.cells #[.int .i64 1, .int .i64 0, .int .i64 2, .int .i64 1] 138))
      [(w.heap.size + 2, 138, #[.int .i64 1, .int .i64 0, .int .i64 2, .int .i64 1]), (w.heap.size + 1, 138, nsA l 0), (w.heap.size, 23, #[.int .i64 0, .int .i64 0, .int .i64 0, .int .i64 0])] [] := by
    have a := (((Mst.start w).new 23 #[.int .i64 0, .int .i64 0, .int .i64 0, .int .i64 0]).new 138 #[.int .i64 0, .int .i64 0, .int .i64 0, .int .i64 0]).new 138 #[.int .i64 1, .int .i64 0, .int .i64 2, .int .i64 1]
    simpa [nsA] using a
  have H0 := Lib.hid (show RpRel w l 0 (.slice A l.length c) _ from ⟨A, c, l, rfl, rfl, Nat.zero_le _, hc, hc2, hl, m0⟩)
  clear m0
  clear hl hc hc2
  go_enter Try.func47, Try.ntmps47
  go_wp2_with fail
  go_loopg [0, 6] 4 (fun gg s0 s6 wr => ∃ k : Nat, k + gg = 4 ∧ s6 = .int .i64 k ∧ RpRel w l k s0 wr)
  case atStart => exact ⟨0, by omega, rfl, H0.out⟩
  case round =>
    obtain ⟨k, hk, rfl, A1, c1, l', rfl, hl', hoff, hc1, hc2, hrb, m⟩ := hrel
    have y0 := (m.blk []).cell 0
    have y1 := (m.blk []).cell 1
    have y2 := (m.blk []).cell 2
    have y3 := (m.blk []).cell 3
    have n0 := (m.blk [_]).cell 0
    have n1 := (m.blk [_]).cell 1
    have n2 := (m.blk [_]).cell 2
    have n3 := (m.blk [_]).cell 3
    have v0 := (m.blk [_]).fr 0
    have v1 := (m.blk [_]).fr 1
    have v2 := (m.blk [_]).fr 2
    have v3 := (m.blk [_]).fr 3
    have j0 := (m.blk [_, _]).cell 0
    have j1 := (m.blk [_, _]).cell 1
    have j2 := (m.blk [_, _]).cell 2
    have j3 := (m.blk [_, _]).cell 3
    have p0 := (m.blk [_, _]).fr 0
    have p1 := (m.blk [_, _]).fr 1
    have p2 := (m.blk [_, _]).fr 2
    have p3 := (m.blk [_, _]).fr 3
    have z0 := (m.blk []).lt
    have hlen : l'.length = l.length - offN k := by rw [hl']; simp
    simp [nsA] at y0 y1 y2 y3 n0 n1 n2 n3 j0 j1 j2 j3
    have M := Lib.hid m
    have HL := Lib.hid hl'
    have HR := Lib.hid (show RB wr wr.heap.size A1 l' from Rd.more (Rd.below hrb m.bel) m.bel.size)
    have HRB := Lib.hid hrb
    have hc4 : k = 0 ∨ k = 1 ∨ k = 2 ∨ k = 3 ∨ k = 4 := by omega
    clear m hl' hrb
    rcases hc4 with rfl | rfl | rfl | rfl | rfl
    · have hoff' : 0 ≤ l.length := hoff
      have hlen' : l'.length = l.length - 0 := hlen
      have hl6 : l'.length ≤ 1000000 := by omega
      clear hoff hlen
      simp at n0 n1 n2 n3
      by_cases hlt : l'.length < 2
      · have HP := Lib.hid (show parse9 l = ((0, 0, 0, 0), 4) from if_pos (by omega))
        have HG := Lib.hid (show g4 l' 1 = .tuple #[.agg #[.int .i64 0, .int .i64 0, .slice none 0 0], .int .i64 0, .int .i64 4] from if_pos hlt)
        clear hlen'
        go_wp2_with fail
        refine (refget_num _ _ _ l' HR.out hl6 1 (by omega) (by omega)).mono ?_
        rintro e w1 ⟨rfl, hb1⟩
        rw [HG.out]
        have m1 := M.out.below hb1
        have a0 := (m1.blk [_, _]).cell 0
        have a1 := (m1.blk [_, _]).cell 1
        have a2 := (m1.blk [_, _]).cell 2
        have a3 := (m1.blk [_, _]).cell 3
        have b0 := (m1.blk [_, _]).fr 0
        have b1 := (m1.blk [_, _]).fr 1
        have b2 := (m1.blk [_, _]).fr 2
        have b3 := (m1.blk [_, _]).fr 3
        have x0 := (m1.blk [_, _]).lt
        simp at a0 a1 a2 a3
        have HB := Lib.hid m1.bel
        clear m1 hb1 y0 y1 y2 y3 n0 n1 n2 n3 v0 v1 v2 v3 j0 j1 j2 j3 p0 p1 p2 p3
        go_wp2_with fail
        refine bodyPost_ret (v := .tuple #[.agg #[.int .i64 0, .int .i64 0, .int .i64 0, .int .i64 0], .int .i64 4]) (by simp [results, Try.results47, go_sem, a0, a1, a2, a3, x0]) rfl ⟨by rw [HP.out]; rfl, ?_⟩
        exact ((((HB.out.setCell (by simp) _).setCell (by simp) _).setCell (by simp) _).setCell (by simp) _).alloc (by simp; omega) _
      · have HLE := Lib.hid hlen'
        clear hlen'
        have HG := Lib.hid (show g4 l' 1 = .tuple #[.agg #[.int .i64 1, .int .i64 (valB (l'.take 2) : Nat), .slice none 0 0], .int .i64 2, .int .i64 0] from if_neg hlt)
        go_wp2_with fail
        refine (refget_num _ _ _ l' HR.out hl6 1 (by omega) (by omega)).mono ?_
        rintro e w1 ⟨rfl, hb1⟩
        rw [HG.out]
        have m1 := M.out.below hb1
        have a0 := (m1.blk [_]).cell 0
        have b0 := (m1.blk [_]).fr 0
        have x0 := (m1.blk [_]).lt
        simp [nsA] at a0
        have HM1 := Lib.hid m1
        clear m1 hb1 y0 y1 y2 y3 n0 n1 n2 n3 v0 v1 v2 v3 j0 j1 j2 j3 p0 p1 p2 p3
        have i1 : (2 : Int) ≤ (l'.length : Int) := by omega
        have i2 : (l'.length : Int) ≤ (c1 : Int) := by omega
        go_wp2_with fail
        have HC := Lib.hid (And.intro hc1 hc2)
        clear hc1 hc2
        go_region
        have a := ((HM1.out.put [_] 0 (.int .i64 (valB (l'.take 2) : Nat))).alloc (.cells #[.int .i64 1, .int .i64 (valB (l'.take 2) : Nat), .slice none 0 0] 140)).drew
        rw [ns0 l l' HL.out] at a
        have hrp := rp_next (j := 0) 2 HL.out hoff' rfl (by omega) HC.out.1 HC.out.2 HRB.out a
        generalize (if c1 = 2 then A1 else Option.map (fun x => { block := x.block, off := x.off + 2 }) A1) = A2 at hrp ⊢
        have HRP := Lib.hid hrp
        clear hrp a
        go_wp2_with fail
        go_roundg 3
        case measure => omega
        case rel => exact ⟨1, by omega, by first | rfl | go_num, HRP.out⟩
    · have hoff' : 2 ≤ l.length := hoff
      have hlen' : l'.length = l.length - 2 := hlen
      have hl6 : l'.length ≤ 1000000 := by omega
      clear hoff hlen
      simp at n0 n1 n2 n3
      by_cases hlt : l'.length < 1
      · have HP := Lib.hid (show parse9 l = ((0, 0, 0, 0), 4) from if_pos (by omega))
        have HG := Lib.hid (show g4 l' 0 = .tuple #[.agg #[.int .i64 0, .int .i64 0, .slice none 0 0], .int .i64 0, .int .i64 4] from if_pos hlt)
        clear hlen'
        go_wp2_with fail
        refine (refget_num _ _ _ l' HR.out hl6 0 (by omega) (by omega)).mono ?_
        rintro e w1 ⟨rfl, hb1⟩
        rw [HG.out]
        have m1 := M.out.below hb1
        have a0 := (m1.blk [_, _]).cell 0
        have a1 := (m1.blk [_, _]).cell 1
        have a2 := (m1.blk [_, _]).cell 2
        have a3 := (m1.blk [_, _]).cell 3
        have b0 := (m1.blk [_, _]).fr 0
        have b1 := (m1.blk [_, _]).fr 1
        have b2 := (m1.blk [_, _]).fr 2
        have b3 := (m1.blk [_, _]).fr 3
        have x0 := (m1.blk [_, _]).lt
        simp at a0 a1 a2 a3
        have HB := Lib.hid m1.bel
        clear m1 hb1 y0 y1 y2 y3 n0 n1 n2 n3 v0 v1 v2 v3 j0 j1 j2 j3 p0 p1 p2 p3
        go_wp2_with fail
        refine bodyPost_ret (v := .tuple #[.agg #[.int .i64 0, .int .i64 0, .int .i64 0, .int .i64 0], .int .i64 4]) (by simp [results, Try.results47, go_sem, a0, a1, a2, a3, x0]) rfl ⟨by rw [HP.out]; rfl, ?_⟩
        exact ((((HB.out.setCell (by simp) _).setCell (by simp) _).setCell (by simp) _).setCell (by simp) _).alloc (by simp; omega) _
      · have HLE := Lib.hid hlen'
        clear hlen'
        have HG := Lib.hid (show g4 l' 0 = .tuple #[.agg #[.int .i64 0, .int .i64 (valB (l'.take 1) : Nat), .slice none 0 0], .int .i64 1, .int .i64 0] from if_neg hlt)
        go_wp2_with fail
        refine (refget_num _ _ _ l' HR.out hl6 0 (by omega) (by omega)).mono ?_
        rintro e w1 ⟨rfl, hb1⟩
        rw [HG.out]
        have m1 := M.out.below hb1
        have a0 := (m1.blk [_]).cell 1
        have b0 := (m1.blk [_]).fr 1
        have x0 := (m1.blk [_]).lt
        simp [nsA] at a0
        have HM1 := Lib.hid m1
        clear m1 hb1 y0 y1 y2 y3 n0 n1 n2 n3 v0 v1 v2 v3 j0 j1 j2 j3 p0 p1 p2 p3
        have i1 : (1 : Int) ≤ (l'.length : Int) := by omega
        have i2 : (l'.length : Int) ≤ (c1 : Int) := by omega
        go_wp2_with fail
        have HC := Lib.hid (And.intro hc1 hc2)
        clear hc1 hc2
        go_region
        have a := ((HM1.out.put [_] 1 (.int .i64 (valB (l'.take 1) : Nat))).alloc (.cells #[.int .i64 0, .int .i64 (valB (l'.take 1) : Nat), .slice none 0 0] 140)).drew
        rw [ns1 l l' HL.out] at a
        have hrp := rp_next (j := 1) 1 HL.out hoff' rfl (by omega) HC.out.1 HC.out.2 HRB.out a
        generalize (if c1 = 1 then A1 else Option.map (fun x => { block := x.block, off := x.off + 1 }) A1) = A2 at hrp ⊢
        have HRP := Lib.hid hrp
        clear hrp a
        go_wp2_with fail
        go_roundg 2
        case measure => omega
        case rel => exact ⟨2, by omega, by first | rfl | go_num, HRP.out⟩
    · have hoff' : 3 ≤ l.length := hoff
      have hlen' : l'.length = l.length - 3 := hlen
      have hl6 : l'.length ≤ 1000000 := by omega
      clear hoff hlen
      simp at n0 n1 n2 n3
      by_cases hlt : l'.length < 4
      · have HP := Lib.hid (show parse9 l = ((0, 0, 0, 0), 4) from if_pos (by omega))
        have HG := Lib.hid (show g4 l' 2 = .tuple #[.agg #[.int .i64 0, .int .i64 0, .slice none 0 0], .int .i64 0, .int .i64 4] from if_pos hlt)
        clear hlen'
        go_wp2_with fail
        refine (refget_num _ _ _ l' HR.out hl6 2 (by omega) (by omega)).mono ?_
        rintro e w1 ⟨rfl, hb1⟩
        rw [HG.out]
        have m1 := M.out.below hb1
        have a0 := (m1.blk [_, _]).cell 0
        have a1 := (m1.blk [_, _]).cell 1
        have a2 := (m1.blk [_, _]).cell 2
        have a3 := (m1.blk [_, _]).cell 3
        have b0 := (m1.blk [_, _]).fr 0
        have b1 := (m1.blk [_, _]).fr 1
        have b2 := (m1.blk [_, _]).fr 2
        have b3 := (m1.blk [_, _]).fr 3
        have x0 := (m1.blk [_, _]).lt
        simp at a0 a1 a2 a3
        have HB := Lib.hid m1.bel
        clear m1 hb1 y0 y1 y2 y3 n0 n1 n2 n3 v0 v1 v2 v3 j0 j1 j2 j3 p0 p1 p2 p3
        go_wp2_with fail
        refine bodyPost_ret (v := .tuple #[.agg #[.int .i64 0, .int .i64 0, .int .i64 0, .int .i64 0], .int .i64 4]) (by simp [results, Try.results47, go_sem, a0, a1, a2, a3, x0]) rfl ⟨by rw [HP.out]; rfl, ?_⟩
        exact ((((HB.out.setCell (by simp) _).setCell (by simp) _).setCell (by simp) _).setCell (by simp) _).alloc (by simp; omega) _
      · have HLE := Lib.hid hlen'
        clear hlen'
        have HG := Lib.hid (show g4 l' 2 = .tuple #[.agg #[.int .i64 2, .int .i64 (valB (l'.take 4) : Nat), .slice none 0 0], .int .i64 4, .int .i64 0] from if_neg hlt)
        go_wp2_with fail
        refine (refget_num _ _ _ l' HR.out hl6 2 (by omega) (by omega)).mono ?_
        rintro e w1 ⟨rfl, hb1⟩
        rw [HG.out]
        have m1 := M.out.below hb1
        have a0 := (m1.blk [_]).cell 2
        have b0 := (m1.blk [_]).fr 2
        have x0 := (m1.blk [_]).lt
        simp [nsA] at a0
        have HM1 := Lib.hid m1
        clear m1 hb1 y0 y1 y2 y3 n0 n1 n2 n3 v0 v1 v2 v3 j0 j1 j2 j3 p0 p1 p2 p3
        have i1 : (4 : Int) ≤ (l'.length : Int) := by omega
        have i2 : (l'.length : Int) ≤ (c1 : Int) := by omega
        go_wp2_with fail
        have HC := Lib.hid (And.intro hc1 hc2)
        clear hc1 hc2
        go_region
        have a := ((HM1.out.put [_] 2 (.int .i64 (valB (l'.take 4) : Nat))).alloc (.cells #[.int .i64 2, .int .i64 (valB (l'.take 4) : Nat), .slice none 0 0] 140)).drew
        rw [ns2 l l' HL.out] at a
        have hrp := rp_next (j := 2) 4 HL.out hoff' rfl (by omega) HC.out.1 HC.out.2 HRB.out a
        generalize (if c1 = 4 then A1 else Option.map (fun x => { block := x.block, off := x.off + 4 }) A1) = A2 at hrp ⊢
        have HRP := Lib.hid hrp
        clear hrp a
        go_wp2_with fail
        go_roundg 1
        case measure => omega
        case rel => exact ⟨3, by omega, by first | rfl | go_num, HRP.out⟩
    · have hoff' : 7 ≤ l.length := hoff
      have hlen' : l'.length = l.length - 7 := hlen
      have hl6 : l'.length ≤ 1000000 := by omega
      clear hoff hlen
      simp at n0 n1 n2 n3
      by_cases hlt : l'.length < 2
      · have HP := Lib.hid (show parse9 l = ((0, 0, 0, 0), 4) from if_pos (by omega))
        have HG := Lib.hid (show g4 l' 1 = .tuple #[.agg #[.int .i64 0, .int .i64 0, .slice none 0 0], .int .i64 0, .int .i64 4] from if_pos hlt)
        clear hlen'
        go_wp2_with fail
        refine (refget_num _ _ _ l' HR.out hl6 1 (by omega) (by omega)).mono ?_
        rintro e w1 ⟨rfl, hb1⟩
        rw [HG.out]
        have m1 := M.out.below hb1
        have a0 := (m1.blk [_, _]).cell 0
        have a1 := (m1.blk [_, _]).cell 1
        have a2 := (m1.blk [_, _]).cell 2
        have a3 := (m1.blk [_, _]).cell 3
        have b0 := (m1.blk [_, _]).fr 0
        have b1 := (m1.blk [_, _]).fr 1
        have b2 := (m1.blk [_, _]).fr 2
        have b3 := (m1.blk [_, _]).fr 3
        have x0 := (m1.blk [_, _]).lt
        simp at a0 a1 a2 a3
        have HB := Lib.hid m1.bel
        clear m1 hb1 y0 y1 y2 y3 n0 n1 n2 n3 v0 v1 v2 v3 j0 j1 j2 j3 p0 p1 p2 p3
        go_wp2_with fail
        refine bodyPost_ret (v := .tuple #[.agg #[.int .i64 0, .int .i64 0, .int .i64 0, .int .i64 0], .int .i64 4]) (by simp [results, Try.results47, go_sem, a0, a1, a2, a3, x0]) rfl ⟨by rw [HP.out]; rfl, ?_⟩
        exact ((((HB.out.setCell (by simp) _).setCell (by simp) _).setCell (by simp) _).setCell (by simp) _).alloc (by simp; omega) _
      · have HLE := Lib.hid hlen'
        clear hlen'
        have HG := Lib.hid (show g4 l' 1 = .tuple #[.agg #[.int .i64 1, .int .i64 (valB (l'.take 2) : Nat), .slice none 0 0], .int .i64 2, .int .i64 0] from if_neg hlt)
        go_wp2_with fail
        refine (refget_num _ _ _ l' HR.out hl6 1 (by omega) (by omega)).mono ?_
        rintro e w1 ⟨rfl, hb1⟩
        rw [HG.out]
        have m1 := M.out.below hb1
        have a0 := (m1.blk [_]).cell 3
        have b0 := (m1.blk [_]).fr 3
        have x0 := (m1.blk [_]).lt
        simp [nsA] at a0
        have HM1 := Lib.hid m1
        clear m1 hb1 y0 y1 y2 y3 n0 n1 n2 n3 v0 v1 v2 v3 j0 j1 j2 j3 p0 p1 p2 p3
        have i1 : (2 : Int) ≤ (l'.length : Int) := by omega
        have i2 : (l'.length : Int) ≤ (c1 : Int) := by omega
        go_wp2_with fail
        have HC := Lib.hid (And.intro hc1 hc2)
        clear hc1 hc2
        go_region
        have a := ((HM1.out.put [_] 3 (.int .i64 (valB (l'.take 2) : Nat))).alloc (.cells #[.int .i64 1, .int .i64 (valB (l'.take 2) : Nat), .slice none 0 0] 140)).drew
        rw [ns3 l l' HL.out] at a
        have hrp := rp_next (j := 3) 2 HL.out hoff' rfl (by omega) HC.out.1 HC.out.2 HRB.out a
        generalize (if c1 = 2 then A1 else Option.map (fun x => { block := x.block, off := x.off + 2 }) A1) = A2 at hrp ⊢
        have HRP := Lib.hid hrp
        clear hrp a
        go_wp2_with fail
        go_roundg 0
        case measure => omega
        case rel => exact ⟨4, by omega, by first | rfl | go_num, HRP.out⟩
    · have hoff' : 9 ≤ l.length := hoff
      clear hoff hlen
      simp at n0 n1 n2 n3
      obtain ⟨⟨i, r, x, s⟩, hq⟩ : ∃ q, c9 l = q := ⟨_, rfl⟩
      rw [hq] at n0 n1 n2 n3
      simp only at n0 n1 n2 n3
      have HQ := Lib.hid hq
      have HP := Lib.hid (show parse9 l = if clOk i r x s then ((i, r, x, s), 0) else ((0, 0, 0, 0), 3) by unfold parse9; rw [if_neg (by omega), hq])
      clear hq
      go_wp2_with fail
      refine (right05_any i r x s _).mono ?_
      rintro e w1 ⟨rfl, hb1⟩
      have m1 := (M.out.new 23 #[.int .i64 i, .int .i64 r, .int .i64 x, .int .i64 s]).below hb1
      have d0 := (m1.blk []).cell 0
      have d1 := (m1.blk []).cell 1
      have d2 := (m1.blk []).cell 2
      have d3 := (m1.blk []).cell 3
      have a0 := (m1.blk [_, _, _]).cell 0
      have a1 := (m1.blk [_, _, _]).cell 1
      have a2 := (m1.blk [_, _, _]).cell 2
      have a3 := (m1.blk [_, _, _]).cell 3
      have b0 := (m1.blk [_, _, _]).fr 0
      have b1 := (m1.blk [_, _, _]).fr 1
      have b2 := (m1.blk [_, _, _]).fr 2
      have b3 := (m1.blk [_, _, _]).fr 3
      have x0 := (m1.blk [_, _, _]).lt
      simp at a0 a1 a2 a3 d0 d1 d2 d3
      have HB := Lib.hid m1.bel
      clear m1 hb1 y0 y1 y2 y3 n0 n1 n2 n3 v0 v1 v2 v3 j0 j1 j2 j3 p0 p1 p2 p3
      by_cases hok : clOk i r x s
      · have hd : decide (clOk i r x s) = true := decide_eq_true hok
        have HP2 := Lib.hid (show parse9 l = ((i, r, x, s), 0) by rw [HP.out, if_pos hok])
        rw [hd]
        clear hd hok HP
        go_wp2_with fail
        refine bodyPost_ret (v := .tuple #[.agg #[.int .i64 i, .int .i64 r, .int .i64 x, .int .i64 s], .int .i64 0]) (by simp [results, Try.results47, go_sem, a0, a1, a2, a3]) rfl ⟨by rw [HP2.out]; rfl, ?_⟩
        exact (((HB.out.setCell (by simp) _).setCell (by simp) _).setCell (by simp) _).setCell (by simp) _
      · have hd : decide (clOk i r x s) = false := decide_eq_false hok
        have HP2 := Lib.hid (show parse9 l = ((0, 0, 0, 0), 3) by rw [HP.out, if_neg hok])
        rw [hd]
        clear hd hok HP
        go_wp2_with fail
        refine bodyPost_ret (v := .tuple #[.agg #[.int .i64 0, .int .i64 0, .int .i64 0, .int .i64 0], .int .i64 3]) (by simp [results, Try.results47, go_sem, a0, a1, a2, a3]) rfl ⟨by rw [HP2.out]; rfl, ?_⟩
        exact (((HB.out.setCell (by simp) _).setCell (by simp) _).setCell (by simp) _).setCell (by simp) _
end Go.Proofs.Ytghcdffpplimoaa
