/- Contracts of package wire: the reader's parts: fail, take, number. -/
import Derived.Test.YtnbemfceoianiaaRdP
import Derived.Test.YtnbemfceoianiaaBaseA
import Derived.Test.YtnbemfceoianiaaWireC
import Derived.Laws.BitsAll
namespace Go.Proofs.Ytnbemfceoianiaa
set_option linter.unusedVariables false
open Go.RowKit

/-- A reader in block g, its bytes in the frame (bl, ow), beside blocks and rows that were made since. -/
def RrX (W : World) (xb : Bl) (xr : List Ro) (bl : Bl) (ow : List Ro) (g : Nat) (st : RS) (w : World) : Prop :=
  ∃ A c, Mst W w ((g, 104, #[.slice A st.1.length c, .int .i64 st.2]) :: (xb ++ bl)) (xr ++ ow) ∧ Src W bl ow 1 A st.1.length (by8 st.1) ∧ st.1.length ≤ c ∧ c ≤ 9223372036854775807
theorem RrX.below {W w w' : World} {xb : Bl} {xr : List Ro} {bl : Bl} {ow : List Ro} {g : Nat} {st : RS} (h : RrX W xb xr bl ow g st w) (hb : Below w.heap.size w w') : RrX W xb xr bl ow g st w' := by
  obtain ⟨A, c, h1, h2⟩ := h
  exact ⟨A, c, h1.below hb, h2⟩
/-- A reader in block g. -/
def Rr (W : World) (bl : Bl) (ow : List Ro) (g : Nat) (st : RS) (w : World) : Prop := RrX W [] [] bl ow g st w
def RrPost (W : World) (xb : Bl) (xr : List Ro) (bl : Bl) (ow : List Ro) (g : Nat) (st : RS) (r : Ending) (e : Ending) (w' : World) : Prop := e = r ∧ RrX W xb xr bl ow g st w'

set_option maxRecDepth 100000 in
set_option maxHeartbeats 1600000 in
theorem fail_any (W w : World) (xb : Bl) (xr : List Ro) (bl : Bl) (ow : List Ro) (g : Nat) (st : RS) (hR : RrX W xb xr bl ow g st w) (e : Int) :
    Calls Try.prog 57 #[.pointer (some ⟨g, 0, none⟩), .int .i64 e] w (RrPost W xb xr bl ow g (failR st e) (.returned (.tuple #[]))) := by
  obtain ⟨A, c, m, hs, hc⟩ := hR
  have c0 := (m.blk []).cell 0
  have c1 := (m.blk []).cell 1
  have f0 := (m.blk []).fr 0
  have f1 := (m.blk []).fr 1
  have hg := (m.blk []).lt
  simp at c0 c1
  have M := Lib.hid m
  have S := Lib.hid hs
  have C := Lib.hid hc
  clear m hs hc
  by_cases he : st.2 = 0
  · have he' : (st.2 == 0) = true := by rw [he]; rfl
    have HE := Lib.hid he
    clear he
    go_enter Try.func57, Try.ntmps57
    go_wp2_with fail
    try go_region
    try go_wp2
    go_end0
    refine ⟨rfl, none, 0, ?_, ?_, ?_⟩
    · rw [show failR st e = ([], e) from if_pos HE.out]
      exact (M.out.put [] 0 (.slice none 0 0)).put [] 1 (.int .i64 e)
    · rw [show failR st e = ([], e) from if_pos HE.out]
      exact Src.nil_ _ _ _ _ _
    · rw [show failR st e = ([], e) from if_pos HE.out]
      simp
  · have he' : (st.2 == 0) = false := by simpa using he
    have HE := Lib.hid he
    clear he
    go_enter Try.func57, Try.ntmps57
    go_wp2_with fail
    go_end0
    rw [show failR st e = st from if_neg HE.out]
    exact ⟨rfl, A, c, M.out, S.out, C.out⟩

/-- What take hands out. -/
def TakePost (W : World) (xb : Bl) (xr : List Ro) (bl : Bl) (ow : List Ro) (g : Nat) (st : RS) (n : Nat) (e : Ending) (w' : World) : Prop :=
  ∃ A c, e = .returned (.slice A (takeR st n).length c) ∧ Src W bl ow 1 A (takeR st n).length (by8 (takeR st n)) ∧ RrX W xb xr bl ow g (restR st n) w'

set_option maxRecDepth 100000 in
set_option maxHeartbeats 1600000 in
theorem take_fail (W w : World) (xb : Bl) (xr : List Ro) (bl : Bl) (ow : List Ro) (g : Nat) (st : RS) (hR : RrX W xb xr bl ow g st w) (n : Nat) (hn : n ≤ 1000000) (hf : st.2 ≠ 0 ∨ st.1.length < n) :
    Calls Try.prog 74 #[.pointer (some ⟨g, 0, none⟩), .int .i64 n] w (TakePost W xb xr bl ow g st n) := by
  have hN : ¬ (st.2 = 0 ∧ n ≤ st.1.length) := by omega
  have HN := Lib.hid hN
  have HR := Lib.hid hR
  obtain ⟨A, c, m, hs, hc⟩ := hR
  have c0 := (m.blk []).cell 0
  have c1 := (m.blk []).cell 1
  have hg := (m.blk []).lt
  simp at c0 c1
  clear m hs hc hN
  by_cases he : st.2 = 0
  · have he' : (st.2 != 0) = false := by rw [he]; rfl
    have hlt : st.1.length < n := by omega
    clear he hf
    go_enter Try.func74, Try.ntmps74
    go_wp2_with fail
    refine (fail_any W _ xb xr bl ow g st HR.out 4).mono ?_
    rintro e w1 ⟨rfl, h1⟩
    have H1 := Lib.hid h1
    clear h1
    go_wp2_with fail
    go_ret
    refine ⟨none, 0, by rw [show takeR st n = [] from if_neg HN.out]; rfl, ?_, ?_⟩
    · rw [show takeR st n = [] from if_neg HN.out]
      exact Src.nil_ _ _ _ _ _
    · rw [show restR st n = failR st 4 from if_neg HN.out]
      exact H1.out
  · have he' : (st.2 != 0) = true := by simpa using he
    clear he hf
    go_enter Try.func74, Try.ntmps74
    go_wp2_with fail
    refine (fail_any W _ xb xr bl ow g st HR.out 4).mono ?_
    rintro e w1 ⟨rfl, h1⟩
    have H1 := Lib.hid h1
    clear h1
    go_wp2_with fail
    go_ret
    refine ⟨none, 0, by rw [show takeR st n = [] from if_neg HN.out]; rfl, ?_, ?_⟩
    · rw [show takeR st n = [] from if_neg HN.out]
      exact Src.nil_ _ _ _ _ _
    · rw [show restR st n = failR st 4 from if_neg HN.out]
      exact H1.out

theorem Src.take1 {W : World} {bl : Bl} {ow : List Ro} {A : Option Addr} {L : Nat} {xs : List Value} (h : Src W bl ow 1 A L xs) {n : Nat} (hn : n ≤ L) : Src W bl ow 1 A n (xs.take n) := by
  refine ⟨by have := h.1; simp only [List.length_take]; omega, fun h0 => ?_⟩
  obtain ⟨b, o, e, _⟩ := h.2 (by omega)
  have := h.part e 0 n (by omega)
  simp only [List.drop_zero, Nat.mul_one, Nat.add_zero] at this
  obtain ⟨b', o', e', hc⟩ := this.2 h0
  exact ⟨b', o', e.trans e', hc⟩
theorem Src.drop1 {W : World} {bl : Bl} {ow : List Ro} {A : Option Addr} {L : Nat} {xs : List Value} (h : Src W bl ow 1 A L xs) (n : Nat) : Src W bl ow 1 (A.map (fun x => x.add n)) (L - n) (xs.drop n) := by
  have hl := h.1
  refine ⟨by simp only [List.length_drop]; omega, fun h0 => ?_⟩
  obtain ⟨b, o, e, _⟩ := h.2 (by omega)
  have := h.part e n (L - n) (by omega)
  simp only [Nat.mul_one] at this
  rw [List.take_of_length_le (by simp only [List.length_drop]; omega)] at this
  obtain ⟨b', o', e', hc⟩ := this.2 h0
  refine ⟨b', o', ?_, hc⟩
  rw [e]
  simp only [Option.map_some]
  rw [← e', WideShapes.add_plain]
theorem by8_drop (l : List UInt8) (n : Nat) : by8 (l.drop n) = (by8 l).drop n := by simp [by8, List.map_drop]
theorem by8_take (l : List UInt8) (n : Nat) : by8 (l.take n) = (by8 l).take n := by simp [by8, List.map_take]

set_option maxRecDepth 100000 in
set_option maxHeartbeats 1600000 in
theorem take_ok (W w : World) (xb : Bl) (xr : List Ro) (bl : Bl) (ow : List Ro) (g : Nat) (st : RS) (hR : RrX W xb xr bl ow g st w) (n : Nat) (hn : n ≤ 1000000) (he : st.2 = 0) (hl : n ≤ st.1.length) :
    Calls Try.prog 74 #[.pointer (some ⟨g, 0, none⟩), .int .i64 n] w (TakePost W xb xr bl ow g st n) := by
  have HT := Lib.hid (show takeR st n = st.1.take n from if_pos ⟨he, hl⟩)
  have HS := Lib.hid (show restR st n = (st.1.drop n, 0) from if_pos ⟨he, hl⟩)
  obtain ⟨A, c, m, hs, hc1, hc2⟩ := hR
  have c0 := (m.blk []).cell 0
  have c1 := (m.blk []).cell 1
  have f0 := (m.blk []).fr 0
  have hg := (m.blk []).lt
  simp at c0 c1
  have M := Lib.hid m
  have S := Lib.hid hs
  have he' : (st.2 != 0) = false := by rw [he]; rfl
  have HE := Lib.hid he
  clear m hs he
  obtain ⟨L, hL⟩ : ∃ L, st.1.length = L := ⟨_, rfl⟩
  rw [hL] at c0 hl hc1
  have HL := Lib.hid hL
  clear hL
  go_enter Try.func74, Try.ntmps74
  go_wp2_with fail
  all_goals
    go_ret
    refine ⟨A, n, ?_, ?_, ?_⟩
    · rw [HT.out, List.length_take, HL.out, Nat.min_eq_left hl]
      rfl
    · rw [HT.out, by8_take, List.length_take, HL.out, Nat.min_eq_left hl]
      exact S.out.take1 (by have := HL.out; omega)
    · rw [HS.out]
      have e1 : (st.1.drop n).length = L - n := by rw [List.length_drop, HL.out]
      have z := M.out.put [] 0 (.slice A (L - n) 0)
      first
        | (refine ⟨A.map (fun x => x.add n), c - n, ?_, ?_, by show (st.1.drop n).length ≤ c - n; omega, by omega⟩
           · have a := M.out.put [] 0 (.slice (A.map (fun x => x.add n)) (L - n) (c - n))
             show Mst W _ ((g, _, #[.slice _ (st.1.drop n).length _, .int .i64 0]) :: (xb ++ bl)) (xr ++ ow)
             rw [e1, ← HE.out]
             exact a
           · show Src W bl ow 1 _ (st.1.drop n).length (by8 (st.1.drop n))
             rw [e1, by8_drop, ← HL.out]
             exact S.out.drop1 n)
        | (refine ⟨A, 0, ?_, ?_, by show (st.1.drop n).length ≤ 0; omega, by omega⟩
           · show Mst W _ ((g, _, #[.slice _ (st.1.drop n).length _, .int .i64 0]) :: (xb ++ bl)) (xr ++ ow)
             rw [e1, ← HE.out]
             exact z
           · show Src W bl ow 1 _ (st.1.drop n).length (by8 (st.1.drop n))
             have : st.1.drop n = [] := List.eq_nil_of_length_eq_zero (by omega)
             rw [this]
             exact Src.nil_ _ _ _ _ _)
end Go.Proofs.Ytnbemfceoianiaa
