/- Contracts of package claims: Bytes. -/
import Derived.Test.YtnbemfceoianiaaDoorCl1
import Derived.Test.YtnbemfceoianiaaDoorReg
namespace Go.Proofs.YtnbemfceoianiaaDoor
set_option linter.unusedVariables false
open Go.RowKit

theorem WrAt.newb {W w : World} {bl : Bl} {ow : List Ro} {g : Nat} {st : List UInt8 × Int} (h : WrAt W bl ow g st w) (t : TypeId) (cs : Array Value) : WrAt W ((w.heap.size, t, cs) :: bl) ow g st (w.alloc (.cells cs t)) := by
  obtain ⟨v, h⟩ := h
  exact ⟨v, h.newb t cs⟩
theorem WrAt.drew {W w : World} {bl : Bl} {ow : List Ro} {g : Nat} {st : List UInt8 × Int} (h : WrAt W bl ow g st w) : WrAt W bl ow g st w.drew := by
  obtain ⟨v, h⟩ := h
  exact ⟨v, Mst.drew h⟩
theorem WrAt.cell {W w : World} {bl : Bl} {ow : List Ro} {g : Nat} {st : List UInt8 × Int} (h : WrAt W bl ow g st w) {b : Nat} {t : TypeId} {cs : Array Value} (hm : (b, t, cs) ∈ bl) (j : Nat) : w.cell? ⟨b, j, none⟩ = cs[j]? := by
  obtain ⟨v, h⟩ := h
  exact (Mst.bk h _ (List.mem_cons_of_mem _ hm)).1.cell j
theorem WrAt.start {W w : World} {bl : Bl} {ow : List Ro} (h : Mst W w bl ow) : WrAt W bl ow w.heap.size ([], 0) (w.alloc (.cells #[.slice none 0 0, .int .i64 0] 58)) :=
  ⟨_, (h.new _ _).nilrow _ _⟩
/-- A number more, out of a block that was made for it. -/
theorem num_blk {W w : World} {F : Bl} {ow : List Ro} {g b c : Nat} {st : List UInt8 × Int} {s n : Int} (h : WrAt W F ow g st w) (hm : (b, 3, #[.int .i64 n]) ∈ F) (hn : n ≤ 9223372036854775807) (hl : st.1.length ≤ 1024) :
    Calls Tryd.prog 21 #[.pointer (some ⟨g, 0, none⟩), .int .i64 s, .slice (some ⟨b, 0, none⟩) 1 c] w (WrPost W F ow g (putB st (nf s n))) := by
  have := numbers_any W w F ow g st h s [n] (some ⟨b, 0, none⟩) c (Src.blk hm rfl) (by simpa using hn) hl (by simp [maxLen])
  exact this

def clS0 : List UInt8 × Int := ([], 0)
def clS1 (i : Int) : List UInt8 × Int := putB (clS0 ) (nf 1 i)
def clS2 (i r : Int) : List UInt8 × Int := putB (clS1 i) (nf 0 r)
def clS3 (i r x : Int) : List UInt8 × Int := putB (clS2 i r) (nf 2 x)
def clS4 (i r x s : Int) : List UInt8 × Int := putB (clS3 i r x) (nf 1 s)
theorem clS0_len : (clS0 ).1.length ≤ 1024 := by decide
theorem clS1_len (i : Int) : (clS1 i).1.length ≤ 1024 := putB_len _ _ (clS0_len )
theorem clS2_len (i r : Int) : (clS2 i r).1.length ≤ 1024 := putB_len _ _ (clS1_len i)
theorem clS3_len (i r x : Int) : (clS3 i r x).1.length ≤ 1024 := putB_len _ _ (clS2_len i r)
theorem clS4_len (i r x s : Int) : (clS4 i r x s).1.length ≤ 1024 := putB_len _ _ (clS3_len i r x)
def clSt (i r x s : Int) (k : Nat) : List UInt8 × Int := if k = 0 then clS0  else if k = 1 then clS1 i else if k = 2 then clS2 i r else if k = 3 then clS3 i r x else clS4 i r x s
/-- What holds in the region, behind those of its operations that have come up. -/
structure clJ (w0 : World) (g : Nat) (i r x s : Int) (L : Nat → Prop) (s2 s3 s11 s12 s13 s14 s15 s16 s17 s18 s19 s20 s21 s22 s23 s24 s25 s26 s27 s28 s29 : Value) (w : World) : Prop where
  f0 : L 0 → s11 = .pointer (some ⟨w0.heap.size, 0, none⟩)
  f1 : L 1 → s12 = .int .i64 i
  f3 : L 3 → s14 = .pointer (some ⟨g, 0, none⟩)
  f4 : L 4 → s15 = .pointer (some ⟨w0.heap.size, 1, none⟩)
  f5 : L 5 → s16 = .int .i64 r
  f7 : L 7 → s18 = .pointer (some ⟨g, 0, none⟩)
  f8 : L 8 → s19 = .pointer (some ⟨w0.heap.size, 2, none⟩)
  f9 : L 9 → s20 = .int .i64 x
  f11 : L 11 → s22 = .pointer (some ⟨g, 0, none⟩)
  f12 : L 12 → s23 = .pointer (some ⟨w0.heap.size, 3, none⟩)
  f13 : L 13 → s24 = .int .i64 s
  f15 : L 15 → s26 = .pointer (some ⟨g, 0, none⟩)
  f17 : L 17 → ∀ v z, s27 = .tuple #[v, z] → s28 = v
  f18 : L 18 → ∀ v z, s27 = .tuple #[v, z] → s29 = z
  f19 : L 19 → s2 = s28
  f20 : L 20 → s3 = s29
  c3 : L 3 → L 2
  c7 : L 7 → L 6
  c11 : L 11 → L 10
  c15 : L 15 → L 14
  c17 : L 17 → L 16
  c18 : L 18 → L 16
  c19 : L 19 → L 17
  c20 : L 20 → L 18
  bx : ∀ j : Nat, w.cell? ⟨w0.heap.size, j, none⟩ = (#[.int .i64 i, .int .i64 r, .int .i64 x, .int .i64 s] : Array Value)[j]?
  pr : ∃ (m : Nat) (F : Bl), (L 3 ↔ 0 < m) ∧ (L 7 ↔ 1 < m) ∧ (L 11 ↔ 2 < m) ∧ (L 15 ↔ 3 < m) ∧ (L 16 ↔ 4 < m) ∧ m ≤ 5 ∧ (L 2 → ∃ b, s13 = .slice (some ⟨b, 0, none⟩) 1 1 ∧ (b, 3, #[Value.int .i64 i]) ∈ F) ∧ (L 6 → ∃ b, s17 = .slice (some ⟨b, 0, none⟩) 1 1 ∧ (b, 3, #[Value.int .i64 r]) ∈ F) ∧ (L 10 → ∃ b, s21 = .slice (some ⟨b, 0, none⟩) 1 1 ∧ (b, 3, #[Value.int .i64 x]) ∈ F) ∧ (L 14 → ∃ b, s25 = .slice (some ⟨b, 0, none⟩) 1 1 ∧ (b, 3, #[Value.int .i64 s]) ∈ F) ∧ (m ≤ 4 → (w0.heap.size, 27, (#[.int .i64 i, .int .i64 r, .int .i64 x, .int .i64 s] : Array Value)) ∈ F ∧ WrAt w0 F [] g (clSt i r x s m) w) ∧ (m = 5 → ∃ v, s27 = .tuple #[v, .int .i64 (clS4 i r x s).2] ∧ Fresh w0 w 5 1 v (if (clS4 i r x s).2 = 0 then (clS4 i r x s).1 else []).length (by8 (if (clS4 i r x s).2 = 0 then (clS4 i r x s).1 else [])))
theorem clOr {p q : Prop} {L : Prop} (h : p ∨ L) (hp : ¬ p) : L := h.resolve_left hp
/-- Right claims as bytes. -/
def clB (i r x s : Int) : List UInt8 := numB 2 i ++ numB 1 r ++ numB 4 x ++ numB 2 s
theorem chk_nf1 {n : Int} (h0 : 0 ≤ n) (h1 : n ≤ 65535) : chkB (nf 1 n).s (nf 1 n).n (nf 1 n).l.length = 0 := by
  show chkB 1 n 0 = 0
  unfold chkB
  rw [if_neg (by omega), if_neg (by omega), if_neg (by omega), if_neg (by omega), if_neg (by omega), if_neg (by omega), if_pos rfl, if_neg (by omega)]
theorem chk_nf0 {n : Int} (h0 : 0 ≤ n) (h1 : n ≤ 255) : chkB (nf 0 n).s (nf 0 n).n (nf 0 n).l.length = 0 := by
  show chkB 0 n 0 = 0
  unfold chkB
  rw [if_neg (by omega), if_neg (by omega), if_neg (by omega), if_neg (by omega), if_neg (by omega), if_pos rfl, if_neg (by omega)]
theorem chk_nf2 {n : Int} (h0 : 0 ≤ n) (h1 : n ≤ 4294967295) : chkB (nf 2 n).s (nf 2 n).n (nf 2 n).l.length = 0 := by
  show chkB 2 n 0 = 0
  unfold chkB
  rw [if_neg (by omega), if_neg (by omega), if_neg (by omega), if_neg (by omega), if_neg (by omega), if_neg (by omega), if_neg (by omega), if_neg (by omega)]
theorem putB_nf {st : List UInt8 × Int} {s n : Int} (h : st.2 = 0) (hc : chkB (nf s n).s (nf s n).n (nf s n).l.length = 0) (hs : s ≠ 4) (hl : st.1.length ≤ 1000) : putB st (nf s n) = (st.1 ++ numB (widB s) n, 0) := by
  have ho : outB (nf s n).s (nf s n).n (nf s n).l = numB (widB s) n := by unfold outB; exact if_neg hs
  rw [putB_ok h hc (by rw [ho, numB_length]; have := widB_le s; omega), ho]
theorem clS4_ok {i r x s : Int} (h : clOk i r x s) : clS4 i r x s = (clB i r x s, 0) := by
  obtain ⟨h1, h2, h3, h4⟩ := h
  unfold clS4 clS3 clS2 clS1 clS0
  have e1 : putB ([], 0) (nf 1 i) = (numB 2 i, 0) := putB_nf rfl (chk_nf1 (by omega) (by omega)) (by omega) (by simp)
  have e2 : putB (numB 2 i, 0) (nf 0 r) = (numB 2 i ++ numB 1 r, 0) := putB_nf rfl (chk_nf0 (by omega) (by omega)) (by omega) (by simp [numB_length])
  have e3 : putB (numB 2 i ++ numB 1 r, 0) (nf 2 x) = (numB 2 i ++ numB 1 r ++ numB 4 x, 0) := putB_nf rfl (chk_nf2 (by omega) (by omega)) (by omega) (by simp [numB_length])
  have e4 : putB (numB 2 i ++ numB 1 r ++ numB 4 x, 0) (nf 1 s) = (numB 2 i ++ numB 1 r ++ numB 4 x ++ numB 2 s, 0) := putB_nf rfl (chk_nf1 (by omega) (by omega)) (by omega) (by simp [numB_length])
  rw [e1, e2, e3, e4]
  rfl
theorem clB_length (i r x s : Int) : (clB i r x s).length = 9 := by simp [clB, numB_length]

def clBPost (i r x s : Int) (W : World) (e : Ending) (w' : World) : Prop := ∃ v, e = .returned (.tuple #[v, .int .i64 0]) ∧ Fresh W w' 5 1 v 9 (by8 (clB i r x s))

theorem clbytes_bad (i r x s : Int) (w : World) (h : ¬ clOk i r x s) :
    Calls Tryd.prog 19 #[.agg #[.int .i64 i, .int .i64 r, .int .i64 x, .int .i64 s]] w fun e w' => e = .returned (.tuple #[.slice none 0 0, .int .i64 10]) ∧ Below w.heap.size w w' := by
  have HN := Lib.hid h
  clear h
  go_enter Tryd.func19, Tryd.ntmps19
  go_wp2_with fail
  refine (clcheck_any i r x s _).mono ?_
  rintro e w1 ⟨h | h, hb⟩
  · exact absurd h.1 HN.out
  · obtain ⟨_, rfl⟩ := h
    have HB := Lib.hid (((Below.refl w.heap.size w).alloc (Nat.le_refl _) (.cells #[.int .i64 i, .int .i64 r, .int .i64 x, .int .i64 s] 27)).trans (hb.mono (by simp)))
    clear hb
    go_wp2
    try go_quiet (fail)
    try go_wp2
    go_ret2
    exact ⟨rfl, HB.out⟩

set_option maxRecDepth 100000 in
set_option maxHeartbeats 8000000 in
theorem clbytes_ok (i r x s : Int) (w0 : World) (h : clOk i r x s) :
    Calls Tryd.prog 19 #[.agg #[.int .i64 i, .int .i64 r, .int .i64 x, .int .i64 s]] w0 (clBPost i r x s w0) := by
  have n0 : i ≤ 9223372036854775807 := by have := h.1; omega
  have n1 : r ≤ 9223372036854775807 := by have := h.2.1; omega
  have n2 : x ≤ 9223372036854775807 := by have := h.2.2.1; omega
  have n3 : s ≤ 9223372036854775807 := by have := h.2.2.2; omega
  have HO := Lib.hid h
  have N0 := Lib.hid n0
  have N1 := Lib.hid n1
  have N2 := Lib.hid n2
  have N3 := Lib.hid n3
  clear h n0 n1 n2 n3
  go_enter Tryd.func19, Tryd.ntmps19
  go_wp2_with fail
  refine (clcheck_any i r x s _).mono ?_
  rintro e w1 ⟨h | h, hb⟩
  case inr => exact absurd HO.out h.1
  obtain ⟨_, rfl⟩ := h
  have P0 := Lib.hid (show WrAt _ _ _ _ clS0 _ from WrAt.start (((Mst.start w0).new 27 #[.int .i64 i, .int .i64 r, .int .i64 x, .int .i64 s]).below hb))
  clear hb
  go_wp2_with fail
  obtain ⟨g, hg⟩ : ∃ g, w1.heap.size = g := ⟨_, rfl⟩
  rw [hg] at P0 ⊢
  refine wp_region_inv (by kernel_rfl) (fun L a w => ∃ s2 s3 s11 s12 s13 s14 s15 s16 s17 s18 s19 s20 s21 s22 s23 s24 s25 s26 s27 s28 s29 : Value, a = ⟨#[.agg #[.int .i64 i, .int .i64 r, .int .i64 x, .int .i64 s], .pointer (some ⟨w0.heap.size, 0, none⟩), s2, s3, .int .i64 0, .pointer (some ⟨g, 0, none⟩), .agg #[.int .i64 i, .int .i64 r, .int .i64 x, .int .i64 s], .int .i64 0, .int .i64 0, .bool false, undef, s11, s12, s13, s14, s15, s16, s17, s18, s19, s20, s21, s22, s23, s24, s25, s26, s27, s28, s29], []⟩ ∧ clJ w0 g i r x s L s2 s3 s11 s12 s13 s14 s15 s16 s17 s18 s19 s20 s21 s22 s23 s24 s25 s26 s27 s28 s29 w) (by kernel_rfl) ?_ ?_ ?_
  · refine ⟨.slice none 0 0, .int .i64 0, undef, undef, undef, undef, undef, undef, undef, undef, undef, undef, undef, undef, undef, undef, undef, undef, undef, undef, undef, rfl, ?_⟩
    exact { f0 := fun h => h.elim, f1 := fun h => h.elim, f3 := fun h => h.elim, f4 := fun h => h.elim, f5 := fun h => h.elim, f7 := fun h => h.elim, f8 := fun h => h.elim, f9 := fun h => h.elim, f11 := fun h => h.elim, f12 := fun h => h.elim, f13 := fun h => h.elim, f15 := fun h => h.elim, f17 := fun h => h.elim, f18 := fun h => h.elim, f19 := fun h => h.elim, f20 := fun h => h.elim, c3 := fun h => h.elim, c7 := fun h => h.elim, c11 := fun h => h.elim, c15 := fun h => h.elim, c17 := fun h => h.elim, c18 := fun h => h.elim, c19 := fun h => h.elim, c20 := fun h => h.elim, bx := fun j => P0.out.drew.cell (List.mem_cons_self ..) j, pr := ⟨0, _, by simp, by simp, by simp, by simp, by simp, by omega, fun h => h.elim, fun h => h.elim, fun h => h.elim, fun h => h.elim, fun _ => ⟨List.mem_cons_self .., P0.out.drew⟩, fun h => by omega⟩ }
  · intro ix o ho
    have hlt : ix < 21 := (Array.getElem?_eq_some_iff.1 ho).1
    have hc : ix = 0 ∨ ix = 1 ∨ ix = 2 ∨ ix = 3 ∨ ix = 4 ∨ ix = 5 ∨ ix = 6 ∨ ix = 7 ∨ ix = 8 ∨ ix = 9 ∨ ix = 10 ∨ ix = 11 ∨ ix = 12 ∨ ix = 13 ∨ ix = 14 ∨ ix = 15 ∨ ix = 16 ∨ ix = 17 ∨ ix = 18 ∨ ix = 19 ∨ ix = 20 := by omega
    clear hlt
    rcases hc with rfl | rfl | rfl | rfl | rfl | rfl | rfl | rfl | rfl | rfl | rfl | rfl | rfl | rfl | rfl | rfl | rfl | rfl | rfl | rfl | rfl
    · obtain rfl := Option.some.inj ho
      clear ho
      rintro L a w hn hp ⟨s2, s3, s11, s12, s13, s14, s15, s16, s17, s18, s19, s20, s21, s22, s23, s24, s25, s26, s27, s28, s29, rfl, hJ⟩ K hK
      clear hp
      go_simp
      refine hK _ _ ⟨_, _, _, _, _, _, _, _, _, _, _, _, _, _, _, _, _, _, _, _, _, rfl, ?_⟩
      obtain ⟨m, F, q0, q1, q2, q3, q4, qm, b0, b1, b2, b3, h4, h5⟩ := hJ.pr
      exact { f0 := fun _ => rfl, f1 := fun h => hJ.f1 (h.resolve_left (by decide)), f3 := fun h => hJ.f3 (h.resolve_left (by decide)), f4 := fun h => hJ.f4 (h.resolve_left (by decide)), f5 := fun h => hJ.f5 (h.resolve_left (by decide)), f7 := fun h => hJ.f7 (h.resolve_left (by decide)), f8 := fun h => hJ.f8 (h.resolve_left (by decide)), f9 := fun h => hJ.f9 (h.resolve_left (by decide)), f11 := fun h => hJ.f11 (h.resolve_left (by decide)), f12 := fun h => hJ.f12 (h.resolve_left (by decide)), f13 := fun h => hJ.f13 (h.resolve_left (by decide)), f15 := fun h => hJ.f15 (h.resolve_left (by decide)), f17 := fun h => hJ.f17 (h.resolve_left (by decide)), f18 := fun h => hJ.f18 (h.resolve_left (by decide)), f19 := fun h => hJ.f19 (h.resolve_left (by decide)), f20 := fun h => hJ.f20 (h.resolve_left (by decide)), c3 := fun h => .inr (hJ.c3 (h.resolve_left (by decide))), c7 := fun h => .inr (hJ.c7 (h.resolve_left (by decide))), c11 := fun h => .inr (hJ.c11 (h.resolve_left (by decide))), c15 := fun h => .inr (hJ.c15 (h.resolve_left (by decide))), c17 := fun h => .inr (hJ.c17 (h.resolve_left (by decide))), c18 := fun h => .inr (hJ.c18 (h.resolve_left (by decide))), c19 := fun h => .inr (hJ.c19 (h.resolve_left (by decide))), c20 := fun h => .inr (hJ.c20 (h.resolve_left (by decide))), bx := hJ.bx, pr := ⟨m, F, by simpa using q0, by simpa using q1, by simpa using q2, by simpa using q3, by simpa using q4, qm, fun h => b0 (h.resolve_left (by decide)), fun h => b1 (h.resolve_left (by decide)), fun h => b2 (h.resolve_left (by decide)), fun h => b3 (h.resolve_left (by decide)), h4, h5⟩ }
    · obtain rfl := Option.some.inj ho
      clear ho
      rintro L a w hn hp ⟨s2, s3, s11, s12, s13, s14, s15, s16, s17, s18, s19, s20, s21, s22, s23, s24, s25, s26, s27, s28, s29, rfl, hJ⟩ K hK
      have p0 : L 0 := hp { on := 0, ground := .data } (by simp) rfl
      clear hp
      obtain rfl := hJ.f0 p0
      have c0 : w.cell? ⟨w0.heap.size, 0, none⟩ = some (.int .i64 i) := hJ.bx 0
      go_simp
      refine hK _ _ ⟨_, _, _, _, _, _, _, _, _, _, _, _, _, _, _, _, _, _, _, _, _, rfl, ?_⟩
      obtain ⟨m, F, q0, q1, q2, q3, q4, qm, b0, b1, b2, b3, h4, h5⟩ := hJ.pr
      exact { f0 := fun h => hJ.f0 (h.resolve_left (by decide)), f1 := fun _ => rfl, f3 := fun h => hJ.f3 (h.resolve_left (by decide)), f4 := fun h => hJ.f4 (h.resolve_left (by decide)), f5 := fun h => hJ.f5 (h.resolve_left (by decide)), f7 := fun h => hJ.f7 (h.resolve_left (by decide)), f8 := fun h => hJ.f8 (h.resolve_left (by decide)), f9 := fun h => hJ.f9 (h.resolve_left (by decide)), f11 := fun h => hJ.f11 (h.resolve_left (by decide)), f12 := fun h => hJ.f12 (h.resolve_left (by decide)), f13 := fun h => hJ.f13 (h.resolve_left (by decide)), f15 := fun h => hJ.f15 (h.resolve_left (by decide)), f17 := fun h => hJ.f17 (h.resolve_left (by decide)), f18 := fun h => hJ.f18 (h.resolve_left (by decide)), f19 := fun h => hJ.f19 (h.resolve_left (by decide)), f20 := fun h => hJ.f20 (h.resolve_left (by decide)), c3 := fun h => .inr (hJ.c3 (h.resolve_left (by decide))), c7 := fun h => .inr (hJ.c7 (h.resolve_left (by decide))), c11 := fun h => .inr (hJ.c11 (h.resolve_left (by decide))), c15 := fun h => .inr (hJ.c15 (h.resolve_left (by decide))), c17 := fun h => .inr (hJ.c17 (h.resolve_left (by decide))), c18 := fun h => .inr (hJ.c18 (h.resolve_left (by decide))), c19 := fun h => .inr (hJ.c19 (h.resolve_left (by decide))), c20 := fun h => .inr (hJ.c20 (h.resolve_left (by decide))), bx := hJ.bx, pr := ⟨m, F, by simpa using q0, by simpa using q1, by simpa using q2, by simpa using q3, by simpa using q4, qm, fun h => b0 (h.resolve_left (by decide)), fun h => b1 (h.resolve_left (by decide)), fun h => b2 (h.resolve_left (by decide)), fun h => b3 (h.resolve_left (by decide)), h4, h5⟩ }
    · obtain rfl := Option.some.inj ho
      clear ho
      rintro L a w hn hp ⟨s2, s3, s11, s12, s13, s14, s15, s16, s17, s18, s19, s20, s21, s22, s23, s24, s25, s26, s27, s28, s29, rfl, hJ⟩ K hK
      have p1 : L 1 := hp { on := 1, ground := .data } (by simp) rfl
      clear hp
      obtain rfl := hJ.f1 p1
      have hz : w0.heap.size < w.heap.size := block_lt_of_cell (v := .int .i64 i) (hJ.bx 0)
      go_simp
      refine hK _ _ ⟨_, _, _, _, _, _, _, _, _, _, _, _, _, _, _, _, _, _, _, _, _, rfl, ?_⟩
      obtain ⟨m, F, q0, q1, q2, q3, q4, qm, b0, b1, b2, b3, h4, h5⟩ := hJ.pr
      have n3 : ¬ L 3 := fun h => hn (hJ.c3 h)
      have hm : m ≤ 0 := by have : ¬ (0 < m) := fun h => n3 (q0.2 h); omega
      exact { f0 := fun h => hJ.f0 (h.resolve_left (by decide)), f1 := fun h => hJ.f1 (h.resolve_left (by decide)), f3 := fun h => hJ.f3 (h.resolve_left (by decide)), f4 := fun h => hJ.f4 (h.resolve_left (by decide)), f5 := fun h => hJ.f5 (h.resolve_left (by decide)), f7 := fun h => hJ.f7 (h.resolve_left (by decide)), f8 := fun h => hJ.f8 (h.resolve_left (by decide)), f9 := fun h => hJ.f9 (h.resolve_left (by decide)), f11 := fun h => hJ.f11 (h.resolve_left (by decide)), f12 := fun h => hJ.f12 (h.resolve_left (by decide)), f13 := fun h => hJ.f13 (h.resolve_left (by decide)), f15 := fun h => hJ.f15 (h.resolve_left (by decide)), f17 := fun h => hJ.f17 (h.resolve_left (by decide)), f18 := fun h => hJ.f18 (h.resolve_left (by decide)), f19 := fun h => hJ.f19 (h.resolve_left (by decide)), f20 := fun h => hJ.f20 (h.resolve_left (by decide)), c3 := fun h => .inr (hJ.c3 (h.resolve_left (by decide))), c7 := fun h => .inr (hJ.c7 (h.resolve_left (by decide))), c11 := fun h => .inr (hJ.c11 (h.resolve_left (by decide))), c15 := fun h => .inr (hJ.c15 (h.resolve_left (by decide))), c17 := fun h => .inr (hJ.c17 (h.resolve_left (by decide))), c18 := fun h => .inr (hJ.c18 (h.resolve_left (by decide))), c19 := fun h => .inr (hJ.c19 (h.resolve_left (by decide))), c20 := fun h => .inr (hJ.c20 (h.resolve_left (by decide))), bx := fun j => (World.cell?_alloc_lt _ _ _ hz).trans (hJ.bx j), pr := ⟨m, (w.heap.size, 3, #[.int .i64 i]) :: F, by simpa using q0, by simpa using q1, by simpa using q2, by simpa using q3, by simpa using q4, qm, fun _ => ⟨_, rfl, List.mem_cons_self ..⟩, fun h => by obtain ⟨b, e, hb⟩ := b1 (h.resolve_left (by decide)); exact ⟨b, e, List.mem_cons_of_mem _ hb⟩, fun h => by obtain ⟨b, e, hb⟩ := b2 (h.resolve_left (by decide)); exact ⟨b, e, List.mem_cons_of_mem _ hb⟩, fun h => by obtain ⟨b, e, hb⟩ := b3 (h.resolve_left (by decide)); exact ⟨b, e, List.mem_cons_of_mem _ hb⟩, fun h => ⟨List.mem_cons_of_mem _ (h4 h).1, (h4 h).2.newb _ _⟩, fun h => by omega⟩ }
    · obtain rfl := Option.some.inj ho
      clear ho
      rintro L a w hn hp ⟨s2, s3, s11, s12, s13, s14, s15, s16, s17, s18, s19, s20, s21, s22, s23, s24, s25, s26, s27, s28, s29, rfl, hJ⟩ K hK
      have p2 : L 2 := hp { on := 2, ground := .data } (by simp) rfl
      clear hp
      obtain ⟨m, F, q0, q1, q2, q3, q4, qm, b0, b1, b2, b3, h4, h5⟩ := hJ.pr
      obtain ⟨b, rfl, hb⟩ := b0 p2
      have hm : m = 0 := by have h1 : ¬ (0 < m) := fun h => hn (q0.2 h); omega
      obtain ⟨hbx, hw⟩ := h4 (by omega)
      subst hm
      have HW := Lib.hid (show WrAt w0 F [] g (clS0 ) w from hw)
      clear hw h4 h5
      go_simp
      refine (num_blk (W := w0) (F := F) (st := clS0 ) HW.out hb N0.out (clS0_len )).mono ?_
      rintro e w2 ⟨rfl, h2⟩
      refine hK _ _ ⟨_, _, _, _, _, _, _, _, _, _, _, _, _, _, _, _, _, _, _, _, _, rfl, ?_⟩
      exact { f0 := fun h => hJ.f0 (h.resolve_left (by decide)), f1 := fun h => hJ.f1 (h.resolve_left (by decide)), f3 := fun _ => rfl, f4 := fun h => hJ.f4 (h.resolve_left (by decide)), f5 := fun h => hJ.f5 (h.resolve_left (by decide)), f7 := fun h => hJ.f7 (h.resolve_left (by decide)), f8 := fun h => hJ.f8 (h.resolve_left (by decide)), f9 := fun h => hJ.f9 (h.resolve_left (by decide)), f11 := fun h => hJ.f11 (h.resolve_left (by decide)), f12 := fun h => hJ.f12 (h.resolve_left (by decide)), f13 := fun h => hJ.f13 (h.resolve_left (by decide)), f15 := fun h => hJ.f15 (h.resolve_left (by decide)), f17 := fun h => hJ.f17 (h.resolve_left (by decide)), f18 := fun h => hJ.f18 (h.resolve_left (by decide)), f19 := fun h => hJ.f19 (h.resolve_left (by decide)), f20 := fun h => hJ.f20 (h.resolve_left (by decide)), c3 := fun _ => .inr p2, c7 := fun h => .inr (hJ.c7 (h.resolve_left (by decide))), c11 := fun h => .inr (hJ.c11 (h.resolve_left (by decide))), c15 := fun h => .inr (hJ.c15 (h.resolve_left (by decide))), c17 := fun h => .inr (hJ.c17 (h.resolve_left (by decide))), c18 := fun h => .inr (hJ.c18 (h.resolve_left (by decide))), c19 := fun h => .inr (hJ.c19 (h.resolve_left (by decide))), c20 := fun h => .inr (hJ.c20 (h.resolve_left (by decide))), bx := fun j => WrAt.cell h2 hbx j, pr := ⟨1, F, ⟨fun _ => by omega, fun _ => .inl rfl⟩, ⟨fun h => by have := q1.1 (h.resolve_left (by decide)); omega, fun h => by omega⟩, ⟨fun h => by have := q2.1 (h.resolve_left (by decide)); omega, fun h => by omega⟩, ⟨fun h => by have := q3.1 (h.resolve_left (by decide)); omega, fun h => by omega⟩, ⟨fun h => by have := q4.1 (h.resolve_left (by decide)); omega, fun h => by omega⟩, by omega, fun _ => ⟨_, rfl, hb⟩, fun h => b1 (h.resolve_left (by decide)), fun h => b2 (h.resolve_left (by decide)), fun h => b3 (h.resolve_left (by decide)), fun _ => ⟨hbx, h2⟩, fun h => by omega⟩ }
    · obtain rfl := Option.some.inj ho
      clear ho
      rintro L a w hn hp ⟨s2, s3, s11, s12, s13, s14, s15, s16, s17, s18, s19, s20, s21, s22, s23, s24, s25, s26, s27, s28, s29, rfl, hJ⟩ K hK
      clear hp
      go_simp
      refine hK _ _ ⟨_, _, _, _, _, _, _, _, _, _, _, _, _, _, _, _, _, _, _, _, _, rfl, ?_⟩
      obtain ⟨m, F, q0, q1, q2, q3, q4, qm, b0, b1, b2, b3, h4, h5⟩ := hJ.pr
      exact { f0 := fun h => hJ.f0 (h.resolve_left (by decide)), f1 := fun h => hJ.f1 (h.resolve_left (by decide)), f3 := fun h => hJ.f3 (h.resolve_left (by decide)), f4 := fun _ => rfl, f5 := fun h => hJ.f5 (h.resolve_left (by decide)), f7 := fun h => hJ.f7 (h.resolve_left (by decide)), f8 := fun h => hJ.f8 (h.resolve_left (by decide)), f9 := fun h => hJ.f9 (h.resolve_left (by decide)), f11 := fun h => hJ.f11 (h.resolve_left (by decide)), f12 := fun h => hJ.f12 (h.resolve_left (by decide)), f13 := fun h => hJ.f13 (h.resolve_left (by decide)), f15 := fun h => hJ.f15 (h.resolve_left (by decide)), f17 := fun h => hJ.f17 (h.resolve_left (by decide)), f18 := fun h => hJ.f18 (h.resolve_left (by decide)), f19 := fun h => hJ.f19 (h.resolve_left (by decide)), f20 := fun h => hJ.f20 (h.resolve_left (by decide)), c3 := fun h => .inr (hJ.c3 (h.resolve_left (by decide))), c7 := fun h => .inr (hJ.c7 (h.resolve_left (by decide))), c11 := fun h => .inr (hJ.c11 (h.resolve_left (by decide))), c15 := fun h => .inr (hJ.c15 (h.resolve_left (by decide))), c17 := fun h => .inr (hJ.c17 (h.resolve_left (by decide))), c18 := fun h => .inr (hJ.c18 (h.resolve_left (by decide))), c19 := fun h => .inr (hJ.c19 (h.resolve_left (by decide))), c20 := fun h => .inr (hJ.c20 (h.resolve_left (by decide))), bx := hJ.bx, pr := ⟨m, F, by simpa using q0, by simpa using q1, by simpa using q2, by simpa using q3, by simpa using q4, qm, fun h => b0 (h.resolve_left (by decide)), fun h => b1 (h.resolve_left (by decide)), fun h => b2 (h.resolve_left (by decide)), fun h => b3 (h.resolve_left (by decide)), h4, h5⟩ }
    · obtain rfl := Option.some.inj ho
      clear ho
      rintro L a w hn hp ⟨s2, s3, s11, s12, s13, s14, s15, s16, s17, s18, s19, s20, s21, s22, s23, s24, s25, s26, s27, s28, s29, rfl, hJ⟩ K hK
      have p4 : L 4 := hp { on := 4, ground := .data } (by simp) rfl
      clear hp
      obtain rfl := hJ.f4 p4
      have c0 : w.cell? ⟨w0.heap.size, 1, none⟩ = some (.int .i64 r) := hJ.bx 1
      go_simp
      refine hK _ _ ⟨_, _, _, _, _, _, _, _, _, _, _, _, _, _, _, _, _, _, _, _, _, rfl, ?_⟩
      obtain ⟨m, F, q0, q1, q2, q3, q4, qm, b0, b1, b2, b3, h4, h5⟩ := hJ.pr
      exact { f0 := fun h => hJ.f0 (h.resolve_left (by decide)), f1 := fun h => hJ.f1 (h.resolve_left (by decide)), f3 := fun h => hJ.f3 (h.resolve_left (by decide)), f4 := fun h => hJ.f4 (h.resolve_left (by decide)), f5 := fun _ => rfl, f7 := fun h => hJ.f7 (h.resolve_left (by decide)), f8 := fun h => hJ.f8 (h.resolve_left (by decide)), f9 := fun h => hJ.f9 (h.resolve_left (by decide)), f11 := fun h => hJ.f11 (h.resolve_left (by decide)), f12 := fun h => hJ.f12 (h.resolve_left (by decide)), f13 := fun h => hJ.f13 (h.resolve_left (by decide)), f15 := fun h => hJ.f15 (h.resolve_left (by decide)), f17 := fun h => hJ.f17 (h.resolve_left (by decide)), f18 := fun h => hJ.f18 (h.resolve_left (by decide)), f19 := fun h => hJ.f19 (h.resolve_left (by decide)), f20 := fun h => hJ.f20 (h.resolve_left (by decide)), c3 := fun h => .inr (hJ.c3 (h.resolve_left (by decide))), c7 := fun h => .inr (hJ.c7 (h.resolve_left (by decide))), c11 := fun h => .inr (hJ.c11 (h.resolve_left (by decide))), c15 := fun h => .inr (hJ.c15 (h.resolve_left (by decide))), c17 := fun h => .inr (hJ.c17 (h.resolve_left (by decide))), c18 := fun h => .inr (hJ.c18 (h.resolve_left (by decide))), c19 := fun h => .inr (hJ.c19 (h.resolve_left (by decide))), c20 := fun h => .inr (hJ.c20 (h.resolve_left (by decide))), bx := hJ.bx, pr := ⟨m, F, by simpa using q0, by simpa using q1, by simpa using q2, by simpa using q3, by simpa using q4, qm, fun h => b0 (h.resolve_left (by decide)), fun h => b1 (h.resolve_left (by decide)), fun h => b2 (h.resolve_left (by decide)), fun h => b3 (h.resolve_left (by decide)), h4, h5⟩ }
    · obtain rfl := Option.some.inj ho
      clear ho
      rintro L a w hn hp ⟨s2, s3, s11, s12, s13, s14, s15, s16, s17, s18, s19, s20, s21, s22, s23, s24, s25, s26, s27, s28, s29, rfl, hJ⟩ K hK
      have p5 : L 5 := hp { on := 5, ground := .data } (by simp) rfl
      clear hp
      obtain rfl := hJ.f5 p5
      have hz : w0.heap.size < w.heap.size := block_lt_of_cell (v := .int .i64 i) (hJ.bx 0)
      go_simp
      refine hK _ _ ⟨_, _, _, _, _, _, _, _, _, _, _, _, _, _, _, _, _, _, _, _, _, rfl, ?_⟩
      obtain ⟨m, F, q0, q1, q2, q3, q4, qm, b0, b1, b2, b3, h4, h5⟩ := hJ.pr
      have n3 : ¬ L 7 := fun h => hn (hJ.c7 h)
      have hm : m ≤ 1 := by have : ¬ (1 < m) := fun h => n3 (q1.2 h); omega
      exact { f0 := fun h => hJ.f0 (h.resolve_left (by decide)), f1 := fun h => hJ.f1 (h.resolve_left (by decide)), f3 := fun h => hJ.f3 (h.resolve_left (by decide)), f4 := fun h => hJ.f4 (h.resolve_left (by decide)), f5 := fun h => hJ.f5 (h.resolve_left (by decide)), f7 := fun h => hJ.f7 (h.resolve_left (by decide)), f8 := fun h => hJ.f8 (h.resolve_left (by decide)), f9 := fun h => hJ.f9 (h.resolve_left (by decide)), f11 := fun h => hJ.f11 (h.resolve_left (by decide)), f12 := fun h => hJ.f12 (h.resolve_left (by decide)), f13 := fun h => hJ.f13 (h.resolve_left (by decide)), f15 := fun h => hJ.f15 (h.resolve_left (by decide)), f17 := fun h => hJ.f17 (h.resolve_left (by decide)), f18 := fun h => hJ.f18 (h.resolve_left (by decide)), f19 := fun h => hJ.f19 (h.resolve_left (by decide)), f20 := fun h => hJ.f20 (h.resolve_left (by decide)), c3 := fun h => .inr (hJ.c3 (h.resolve_left (by decide))), c7 := fun h => .inr (hJ.c7 (h.resolve_left (by decide))), c11 := fun h => .inr (hJ.c11 (h.resolve_left (by decide))), c15 := fun h => .inr (hJ.c15 (h.resolve_left (by decide))), c17 := fun h => .inr (hJ.c17 (h.resolve_left (by decide))), c18 := fun h => .inr (hJ.c18 (h.resolve_left (by decide))), c19 := fun h => .inr (hJ.c19 (h.resolve_left (by decide))), c20 := fun h => .inr (hJ.c20 (h.resolve_left (by decide))), bx := fun j => (World.cell?_alloc_lt _ _ _ hz).trans (hJ.bx j), pr := ⟨m, (w.heap.size, 3, #[.int .i64 r]) :: F, by simpa using q0, by simpa using q1, by simpa using q2, by simpa using q3, by simpa using q4, qm, fun h => by obtain ⟨b, e, hb⟩ := b0 (h.resolve_left (by decide)); exact ⟨b, e, List.mem_cons_of_mem _ hb⟩, fun _ => ⟨_, rfl, List.mem_cons_self ..⟩, fun h => by obtain ⟨b, e, hb⟩ := b2 (h.resolve_left (by decide)); exact ⟨b, e, List.mem_cons_of_mem _ hb⟩, fun h => by obtain ⟨b, e, hb⟩ := b3 (h.resolve_left (by decide)); exact ⟨b, e, List.mem_cons_of_mem _ hb⟩, fun h => ⟨List.mem_cons_of_mem _ (h4 h).1, (h4 h).2.newb _ _⟩, fun h => by omega⟩ }
    · obtain rfl := Option.some.inj ho
      clear ho
      rintro L a w hn hp ⟨s2, s3, s11, s12, s13, s14, s15, s16, s17, s18, s19, s20, s21, s22, s23, s24, s25, s26, s27, s28, s29, rfl, hJ⟩ K hK
      have p6 : L 6 := hp { on := 6, ground := .data } (by simp) rfl
      have p3 : L 3 := hp { on := 3, ground := .data } (by simp) rfl
      clear hp
      obtain ⟨m, F, q0, q1, q2, q3, q4, qm, b0, b1, b2, b3, h4, h5⟩ := hJ.pr
      obtain rfl := hJ.f3 p3
      obtain ⟨b, rfl, hb⟩ := b1 p6
      have hm : m = 1 := by have h1 : ¬ (1 < m) := fun h => hn (q1.2 h); have h2 := q0.1 p3; omega
      obtain ⟨hbx, hw⟩ := h4 (by omega)
      subst hm
      have HW := Lib.hid (show WrAt w0 F [] g (clS1 i) w from hw)
      clear hw h4 h5
      go_simp
      refine (num_blk (W := w0) (F := F) (st := clS1 i) HW.out hb N1.out (clS1_len _)).mono ?_
      rintro e w2 ⟨rfl, h2⟩
      refine hK _ _ ⟨_, _, _, _, _, _, _, _, _, _, _, _, _, _, _, _, _, _, _, _, _, rfl, ?_⟩
      exact { f0 := fun h => hJ.f0 (h.resolve_left (by decide)), f1 := fun h => hJ.f1 (h.resolve_left (by decide)), f3 := fun h => hJ.f3 (h.resolve_left (by decide)), f4 := fun h => hJ.f4 (h.resolve_left (by decide)), f5 := fun h => hJ.f5 (h.resolve_left (by decide)), f7 := fun _ => rfl, f8 := fun h => hJ.f8 (h.resolve_left (by decide)), f9 := fun h => hJ.f9 (h.resolve_left (by decide)), f11 := fun h => hJ.f11 (h.resolve_left (by decide)), f12 := fun h => hJ.f12 (h.resolve_left (by decide)), f13 := fun h => hJ.f13 (h.resolve_left (by decide)), f15 := fun h => hJ.f15 (h.resolve_left (by decide)), f17 := fun h => hJ.f17 (h.resolve_left (by decide)), f18 := fun h => hJ.f18 (h.resolve_left (by decide)), f19 := fun h => hJ.f19 (h.resolve_left (by decide)), f20 := fun h => hJ.f20 (h.resolve_left (by decide)), c3 := fun h => .inr (hJ.c3 (h.resolve_left (by decide))), c7 := fun _ => .inr p6, c11 := fun h => .inr (hJ.c11 (h.resolve_left (by decide))), c15 := fun h => .inr (hJ.c15 (h.resolve_left (by decide))), c17 := fun h => .inr (hJ.c17 (h.resolve_left (by decide))), c18 := fun h => .inr (hJ.c18 (h.resolve_left (by decide))), c19 := fun h => .inr (hJ.c19 (h.resolve_left (by decide))), c20 := fun h => .inr (hJ.c20 (h.resolve_left (by decide))), bx := fun j => WrAt.cell h2 hbx j, pr := ⟨2, F, ⟨fun _ => by omega, fun _ => .inr (q0.2 (by omega))⟩, ⟨fun _ => by omega, fun _ => .inl rfl⟩, ⟨fun h => by have := q2.1 (h.resolve_left (by decide)); omega, fun h => by omega⟩, ⟨fun h => by have := q3.1 (h.resolve_left (by decide)); omega, fun h => by omega⟩, ⟨fun h => by have := q4.1 (h.resolve_left (by decide)); omega, fun h => by omega⟩, by omega, fun h => b0 (h.resolve_left (by decide)), fun _ => ⟨_, rfl, hb⟩, fun h => b2 (h.resolve_left (by decide)), fun h => b3 (h.resolve_left (by decide)), fun _ => ⟨hbx, h2⟩, fun h => by omega⟩ }
    · obtain rfl := Option.some.inj ho
      clear ho
      rintro L a w hn hp ⟨s2, s3, s11, s12, s13, s14, s15, s16, s17, s18, s19, s20, s21, s22, s23, s24, s25, s26, s27, s28, s29, rfl, hJ⟩ K hK
      clear hp
      go_simp
      refine hK _ _ ⟨_, _, _, _, _, _, _, _, _, _, _, _, _, _, _, _, _, _, _, _, _, rfl, ?_⟩
      obtain ⟨m, F, q0, q1, q2, q3, q4, qm, b0, b1, b2, b3, h4, h5⟩ := hJ.pr
      exact { f0 := fun h => hJ.f0 (h.resolve_left (by decide)), f1 := fun h => hJ.f1 (h.resolve_left (by decide)), f3 := fun h => hJ.f3 (h.resolve_left (by decide)), f4 := fun h => hJ.f4 (h.resolve_left (by decide)), f5 := fun h => hJ.f5 (h.resolve_left (by decide)), f7 := fun h => hJ.f7 (h.resolve_left (by decide)), f8 := fun _ => rfl, f9 := fun h => hJ.f9 (h.resolve_left (by decide)), f11 := fun h => hJ.f11 (h.resolve_left (by decide)), f12 := fun h => hJ.f12 (h.resolve_left (by decide)), f13 := fun h => hJ.f13 (h.resolve_left (by decide)), f15 := fun h => hJ.f15 (h.resolve_left (by decide)), f17 := fun h => hJ.f17 (h.resolve_left (by decide)), f18 := fun h => hJ.f18 (h.resolve_left (by decide)), f19 := fun h => hJ.f19 (h.resolve_left (by decide)), f20 := fun h => hJ.f20 (h.resolve_left (by decide)), c3 := fun h => .inr (hJ.c3 (h.resolve_left (by decide))), c7 := fun h => .inr (hJ.c7 (h.resolve_left (by decide))), c11 := fun h => .inr (hJ.c11 (h.resolve_left (by decide))), c15 := fun h => .inr (hJ.c15 (h.resolve_left (by decide))), c17 := fun h => .inr (hJ.c17 (h.resolve_left (by decide))), c18 := fun h => .inr (hJ.c18 (h.resolve_left (by decide))), c19 := fun h => .inr (hJ.c19 (h.resolve_left (by decide))), c20 := fun h => .inr (hJ.c20 (h.resolve_left (by decide))), bx := hJ.bx, pr := ⟨m, F, by simpa using q0, by simpa using q1, by simpa using q2, by simpa using q3, by simpa using q4, qm, fun h => b0 (h.resolve_left (by decide)), fun h => b1 (h.resolve_left (by decide)), fun h => b2 (h.resolve_left (by decide)), fun h => b3 (h.resolve_left (by decide)), h4, h5⟩ }
    · obtain rfl := Option.some.inj ho
      clear ho
      rintro L a w hn hp ⟨s2, s3, s11, s12, s13, s14, s15, s16, s17, s18, s19, s20, s21, s22, s23, s24, s25, s26, s27, s28, s29, rfl, hJ⟩ K hK
      have p8 : L 8 := hp { on := 8, ground := .data } (by simp) rfl
      clear hp
      obtain rfl := hJ.f8 p8
      have c0 : w.cell? ⟨w0.heap.size, 2, none⟩ = some (.int .i64 x) := hJ.bx 2
      go_simp
      refine hK _ _ ⟨_, _, _, _, _, _, _, _, _, _, _, _, _, _, _, _, _, _, _, _, _, rfl, ?_⟩
      obtain ⟨m, F, q0, q1, q2, q3, q4, qm, b0, b1, b2, b3, h4, h5⟩ := hJ.pr
      exact { f0 := fun h => hJ.f0 (h.resolve_left (by decide)), f1 := fun h => hJ.f1 (h.resolve_left (by decide)), f3 := fun h => hJ.f3 (h.resolve_left (by decide)), f4 := fun h => hJ.f4 (h.resolve_left (by decide)), f5 := fun h => hJ.f5 (h.resolve_left (by decide)), f7 := fun h => hJ.f7 (h.resolve_left (by decide)), f8 := fun h => hJ.f8 (h.resolve_left (by decide)), f9 := fun _ => rfl, f11 := fun h => hJ.f11 (h.resolve_left (by decide)), f12 := fun h => hJ.f12 (h.resolve_left (by decide)), f13 := fun h => hJ.f13 (h.resolve_left (by decide)), f15 := fun h => hJ.f15 (h.resolve_left (by decide)), f17 := fun h => hJ.f17 (h.resolve_left (by decide)), f18 := fun h => hJ.f18 (h.resolve_left (by decide)), f19 := fun h => hJ.f19 (h.resolve_left (by decide)), f20 := fun h => hJ.f20 (h.resolve_left (by decide)), c3 := fun h => .inr (hJ.c3 (h.resolve_left (by decide))), c7 := fun h => .inr (hJ.c7 (h.resolve_left (by decide))), c11 := fun h => .inr (hJ.c11 (h.resolve_left (by decide))), c15 := fun h => .inr (hJ.c15 (h.resolve_left (by decide))), c17 := fun h => .inr (hJ.c17 (h.resolve_left (by decide))), c18 := fun h => .inr (hJ.c18 (h.resolve_left (by decide))), c19 := fun h => .inr (hJ.c19 (h.resolve_left (by decide))), c20 := fun h => .inr (hJ.c20 (h.resolve_left (by decide))), bx := hJ.bx, pr := ⟨m, F, by simpa using q0, by simpa using q1, by simpa using q2, by simpa using q3, by simpa using q4, qm, fun h => b0 (h.resolve_left (by decide)), fun h => b1 (h.resolve_left (by decide)), fun h => b2 (h.resolve_left (by decide)), fun h => b3 (h.resolve_left (by decide)), h4, h5⟩ }
    · obtain rfl := Option.some.inj ho
      clear ho
      rintro L a w hn hp ⟨s2, s3, s11, s12, s13, s14, s15, s16, s17, s18, s19, s20, s21, s22, s23, s24, s25, s26, s27, s28, s29, rfl, hJ⟩ K hK
      have p9 : L 9 := hp { on := 9, ground := .data } (by simp) rfl
      clear hp
      obtain rfl := hJ.f9 p9
      have hz : w0.heap.size < w.heap.size := block_lt_of_cell (v := .int .i64 i) (hJ.bx 0)
      go_simp
      refine hK _ _ ⟨_, _, _, _, _, _, _, _, _, _, _, _, _, _, _, _, _, _, _, _, _, rfl, ?_⟩
      obtain ⟨m, F, q0, q1, q2, q3, q4, qm, b0, b1, b2, b3, h4, h5⟩ := hJ.pr
      have n3 : ¬ L 11 := fun h => hn (hJ.c11 h)
      have hm : m ≤ 2 := by have : ¬ (2 < m) := fun h => n3 (q2.2 h); omega
      exact { f0 := fun h => hJ.f0 (h.resolve_left (by decide)), f1 := fun h => hJ.f1 (h.resolve_left (by decide)), f3 := fun h => hJ.f3 (h.resolve_left (by decide)), f4 := fun h => hJ.f4 (h.resolve_left (by decide)), f5 := fun h => hJ.f5 (h.resolve_left (by decide)), f7 := fun h => hJ.f7 (h.resolve_left (by decide)), f8 := fun h => hJ.f8 (h.resolve_left (by decide)), f9 := fun h => hJ.f9 (h.resolve_left (by decide)), f11 := fun h => hJ.f11 (h.resolve_left (by decide)), f12 := fun h => hJ.f12 (h.resolve_left (by decide)), f13 := fun h => hJ.f13 (h.resolve_left (by decide)), f15 := fun h => hJ.f15 (h.resolve_left (by decide)), f17 := fun h => hJ.f17 (h.resolve_left (by decide)), f18 := fun h => hJ.f18 (h.resolve_left (by decide)), f19 := fun h => hJ.f19 (h.resolve_left (by decide)), f20 := fun h => hJ.f20 (h.resolve_left (by decide)), c3 := fun h => .inr (hJ.c3 (h.resolve_left (by decide))), c7 := fun h => .inr (hJ.c7 (h.resolve_left (by decide))), c11 := fun h => .inr (hJ.c11 (h.resolve_left (by decide))), c15 := fun h => .inr (hJ.c15 (h.resolve_left (by decide))), c17 := fun h => .inr (hJ.c17 (h.resolve_left (by decide))), c18 := fun h => .inr (hJ.c18 (h.resolve_left (by decide))), c19 := fun h => .inr (hJ.c19 (h.resolve_left (by decide))), c20 := fun h => .inr (hJ.c20 (h.resolve_left (by decide))), bx := fun j => (World.cell?_alloc_lt _ _ _ hz).trans (hJ.bx j), pr := ⟨m, (w.heap.size, 3, #[.int .i64 x]) :: F, by simpa using q0, by simpa using q1, by simpa using q2, by simpa using q3, by simpa using q4, qm, fun h => by obtain ⟨b, e, hb⟩ := b0 (h.resolve_left (by decide)); exact ⟨b, e, List.mem_cons_of_mem _ hb⟩, fun h => by obtain ⟨b, e, hb⟩ := b1 (h.resolve_left (by decide)); exact ⟨b, e, List.mem_cons_of_mem _ hb⟩, fun _ => ⟨_, rfl, List.mem_cons_self ..⟩, fun h => by obtain ⟨b, e, hb⟩ := b3 (h.resolve_left (by decide)); exact ⟨b, e, List.mem_cons_of_mem _ hb⟩, fun h => ⟨List.mem_cons_of_mem _ (h4 h).1, (h4 h).2.newb _ _⟩, fun h => by omega⟩ }
    · obtain rfl := Option.some.inj ho
      clear ho
      rintro L a w hn hp ⟨s2, s3, s11, s12, s13, s14, s15, s16, s17, s18, s19, s20, s21, s22, s23, s24, s25, s26, s27, s28, s29, rfl, hJ⟩ K hK
      have p10 : L 10 := hp { on := 10, ground := .data } (by simp) rfl
      have p7 : L 7 := hp { on := 7, ground := .data } (by simp) rfl
      clear hp
      obtain ⟨m, F, q0, q1, q2, q3, q4, qm, b0, b1, b2, b3, h4, h5⟩ := hJ.pr
      obtain rfl := hJ.f7 p7
      obtain ⟨b, rfl, hb⟩ := b2 p10
      have hm : m = 2 := by have h1 : ¬ (2 < m) := fun h => hn (q2.2 h); have h2 := q1.1 p7; omega
      obtain ⟨hbx, hw⟩ := h4 (by omega)
      subst hm
      have HW := Lib.hid (show WrAt w0 F [] g (clS2 i r) w from hw)
      clear hw h4 h5
      go_simp
      refine (num_blk (W := w0) (F := F) (st := clS2 i r) HW.out hb N2.out (clS2_len _ _)).mono ?_
      rintro e w2 ⟨rfl, h2⟩
      refine hK _ _ ⟨_, _, _, _, _, _, _, _, _, _, _, _, _, _, _, _, _, _, _, _, _, rfl, ?_⟩
      exact { f0 := fun h => hJ.f0 (h.resolve_left (by decide)), f1 := fun h => hJ.f1 (h.resolve_left (by decide)), f3 := fun h => hJ.f3 (h.resolve_left (by decide)), f4 := fun h => hJ.f4 (h.resolve_left (by decide)), f5 := fun h => hJ.f5 (h.resolve_left (by decide)), f7 := fun h => hJ.f7 (h.resolve_left (by decide)), f8 := fun h => hJ.f8 (h.resolve_left (by decide)), f9 := fun h => hJ.f9 (h.resolve_left (by decide)), f11 := fun _ => rfl, f12 := fun h => hJ.f12 (h.resolve_left (by decide)), f13 := fun h => hJ.f13 (h.resolve_left (by decide)), f15 := fun h => hJ.f15 (h.resolve_left (by decide)), f17 := fun h => hJ.f17 (h.resolve_left (by decide)), f18 := fun h => hJ.f18 (h.resolve_left (by decide)), f19 := fun h => hJ.f19 (h.resolve_left (by decide)), f20 := fun h => hJ.f20 (h.resolve_left (by decide)), c3 := fun h => .inr (hJ.c3 (h.resolve_left (by decide))), c7 := fun h => .inr (hJ.c7 (h.resolve_left (by decide))), c11 := fun _ => .inr p10, c15 := fun h => .inr (hJ.c15 (h.resolve_left (by decide))), c17 := fun h => .inr (hJ.c17 (h.resolve_left (by decide))), c18 := fun h => .inr (hJ.c18 (h.resolve_left (by decide))), c19 := fun h => .inr (hJ.c19 (h.resolve_left (by decide))), c20 := fun h => .inr (hJ.c20 (h.resolve_left (by decide))), bx := fun j => WrAt.cell h2 hbx j, pr := ⟨3, F, ⟨fun _ => by omega, fun _ => .inr (q0.2 (by omega))⟩, ⟨fun _ => by omega, fun _ => .inr (q1.2 (by omega))⟩, ⟨fun _ => by omega, fun _ => .inl rfl⟩, ⟨fun h => by have := q3.1 (h.resolve_left (by decide)); omega, fun h => by omega⟩, ⟨fun h => by have := q4.1 (h.resolve_left (by decide)); omega, fun h => by omega⟩, by omega, fun h => b0 (h.resolve_left (by decide)), fun h => b1 (h.resolve_left (by decide)), fun _ => ⟨_, rfl, hb⟩, fun h => b3 (h.resolve_left (by decide)), fun _ => ⟨hbx, h2⟩, fun h => by omega⟩ }
    · obtain rfl := Option.some.inj ho
      clear ho
      rintro L a w hn hp ⟨s2, s3, s11, s12, s13, s14, s15, s16, s17, s18, s19, s20, s21, s22, s23, s24, s25, s26, s27, s28, s29, rfl, hJ⟩ K hK
      clear hp
      go_simp
      refine hK _ _ ⟨_, _, _, _, _, _, _, _, _, _, _, _, _, _, _, _, _, _, _, _, _, rfl, ?_⟩
      obtain ⟨m, F, q0, q1, q2, q3, q4, qm, b0, b1, b2, b3, h4, h5⟩ := hJ.pr
      exact { f0 := fun h => hJ.f0 (h.resolve_left (by decide)), f1 := fun h => hJ.f1 (h.resolve_left (by decide)), f3 := fun h => hJ.f3 (h.resolve_left (by decide)), f4 := fun h => hJ.f4 (h.resolve_left (by decide)), f5 := fun h => hJ.f5 (h.resolve_left (by decide)), f7 := fun h => hJ.f7 (h.resolve_left (by decide)), f8 := fun h => hJ.f8 (h.resolve_left (by decide)), f9 := fun h => hJ.f9 (h.resolve_left (by decide)), f11 := fun h => hJ.f11 (h.resolve_left (by decide)), f12 := fun _ => rfl, f13 := fun h => hJ.f13 (h.resolve_left (by decide)), f15 := fun h => hJ.f15 (h.resolve_left (by decide)), f17 := fun h => hJ.f17 (h.resolve_left (by decide)), f18 := fun h => hJ.f18 (h.resolve_left (by decide)), f19 := fun h => hJ.f19 (h.resolve_left (by decide)), f20 := fun h => hJ.f20 (h.resolve_left (by decide)), c3 := fun h => .inr (hJ.c3 (h.resolve_left (by decide))), c7 := fun h => .inr (hJ.c7 (h.resolve_left (by decide))), c11 := fun h => .inr (hJ.c11 (h.resolve_left (by decide))), c15 := fun h => .inr (hJ.c15 (h.resolve_left (by decide))), c17 := fun h => .inr (hJ.c17 (h.resolve_left (by decide))), c18 := fun h => .inr (hJ.c18 (h.resolve_left (by decide))), c19 := fun h => .inr (hJ.c19 (h.resolve_left (by decide))), c20 := fun h => .inr (hJ.c20 (h.resolve_left (by decide))), bx := hJ.bx, pr := ⟨m, F, by simpa using q0, by simpa using q1, by simpa using q2, by simpa using q3, by simpa using q4, qm, fun h => b0 (h.resolve_left (by decide)), fun h => b1 (h.resolve_left (by decide)), fun h => b2 (h.resolve_left (by decide)), fun h => b3 (h.resolve_left (by decide)), h4, h5⟩ }
    · obtain rfl := Option.some.inj ho
      clear ho
      rintro L a w hn hp ⟨s2, s3, s11, s12, s13, s14, s15, s16, s17, s18, s19, s20, s21, s22, s23, s24, s25, s26, s27, s28, s29, rfl, hJ⟩ K hK
      have p12 : L 12 := hp { on := 12, ground := .data } (by simp) rfl
      clear hp
      obtain rfl := hJ.f12 p12
      have c0 : w.cell? ⟨w0.heap.size, 3, none⟩ = some (.int .i64 s) := hJ.bx 3
      go_simp
      refine hK _ _ ⟨_, _, _, _, _, _, _, _, _, _, _, _, _, _, _, _, _, _, _, _, _, rfl, ?_⟩
      obtain ⟨m, F, q0, q1, q2, q3, q4, qm, b0, b1, b2, b3, h4, h5⟩ := hJ.pr
      exact { f0 := fun h => hJ.f0 (h.resolve_left (by decide)), f1 := fun h => hJ.f1 (h.resolve_left (by decide)), f3 := fun h => hJ.f3 (h.resolve_left (by decide)), f4 := fun h => hJ.f4 (h.resolve_left (by decide)), f5 := fun h => hJ.f5 (h.resolve_left (by decide)), f7 := fun h => hJ.f7 (h.resolve_left (by decide)), f8 := fun h => hJ.f8 (h.resolve_left (by decide)), f9 := fun h => hJ.f9 (h.resolve_left (by decide)), f11 := fun h => hJ.f11 (h.resolve_left (by decide)), f12 := fun h => hJ.f12 (h.resolve_left (by decide)), f13 := fun _ => rfl, f15 := fun h => hJ.f15 (h.resolve_left (by decide)), f17 := fun h => hJ.f17 (h.resolve_left (by decide)), f18 := fun h => hJ.f18 (h.resolve_left (by decide)), f19 := fun h => hJ.f19 (h.resolve_left (by decide)), f20 := fun h => hJ.f20 (h.resolve_left (by decide)), c3 := fun h => .inr (hJ.c3 (h.resolve_left (by decide))), c7 := fun h => .inr (hJ.c7 (h.resolve_left (by decide))), c11 := fun h => .inr (hJ.c11 (h.resolve_left (by decide))), c15 := fun h => .inr (hJ.c15 (h.resolve_left (by decide))), c17 := fun h => .inr (hJ.c17 (h.resolve_left (by decide))), c18 := fun h => .inr (hJ.c18 (h.resolve_left (by decide))), c19 := fun h => .inr (hJ.c19 (h.resolve_left (by decide))), c20 := fun h => .inr (hJ.c20 (h.resolve_left (by decide))), bx := hJ.bx, pr := ⟨m, F, by simpa using q0, by simpa using q1, by simpa using q2, by simpa using q3, by simpa using q4, qm, fun h => b0 (h.resolve_left (by decide)), fun h => b1 (h.resolve_left (by decide)), fun h => b2 (h.resolve_left (by decide)), fun h => b3 (h.resolve_left (by decide)), h4, h5⟩ }
    · obtain rfl := Option.some.inj ho
      clear ho
      rintro L a w hn hp ⟨s2, s3, s11, s12, s13, s14, s15, s16, s17, s18, s19, s20, s21, s22, s23, s24, s25, s26, s27, s28, s29, rfl, hJ⟩ K hK
      have p13 : L 13 := hp { on := 13, ground := .data } (by simp) rfl
      clear hp
      obtain rfl := hJ.f13 p13
      have hz : w0.heap.size < w.heap.size := block_lt_of_cell (v := .int .i64 i) (hJ.bx 0)
      go_simp
      refine hK _ _ ⟨_, _, _, _, _, _, _, _, _, _, _, _, _, _, _, _, _, _, _, _, _, rfl, ?_⟩
      obtain ⟨m, F, q0, q1, q2, q3, q4, qm, b0, b1, b2, b3, h4, h5⟩ := hJ.pr
      have n3 : ¬ L 15 := fun h => hn (hJ.c15 h)
      have hm : m ≤ 3 := by have : ¬ (3 < m) := fun h => n3 (q3.2 h); omega
      exact { f0 := fun h => hJ.f0 (h.resolve_left (by decide)), f1 := fun h => hJ.f1 (h.resolve_left (by decide)), f3 := fun h => hJ.f3 (h.resolve_left (by decide)), f4 := fun h => hJ.f4 (h.resolve_left (by decide)), f5 := fun h => hJ.f5 (h.resolve_left (by decide)), f7 := fun h => hJ.f7 (h.resolve_left (by decide)), f8 := fun h => hJ.f8 (h.resolve_left (by decide)), f9 := fun h => hJ.f9 (h.resolve_left (by decide)), f11 := fun h => hJ.f11 (h.resolve_left (by decide)), f12 := fun h => hJ.f12 (h.resolve_left (by decide)), f13 := fun h => hJ.f13 (h.resolve_left (by decide)), f15 := fun h => hJ.f15 (h.resolve_left (by decide)), f17 := fun h => hJ.f17 (h.resolve_left (by decide)), f18 := fun h => hJ.f18 (h.resolve_left (by decide)), f19 := fun h => hJ.f19 (h.resolve_left (by decide)), f20 := fun h => hJ.f20 (h.resolve_left (by decide)), c3 := fun h => .inr (hJ.c3 (h.resolve_left (by decide))), c7 := fun h => .inr (hJ.c7 (h.resolve_left (by decide))), c11 := fun h => .inr (hJ.c11 (h.resolve_left (by decide))), c15 := fun h => .inr (hJ.c15 (h.resolve_left (by decide))), c17 := fun h => .inr (hJ.c17 (h.resolve_left (by decide))), c18 := fun h => .inr (hJ.c18 (h.resolve_left (by decide))), c19 := fun h => .inr (hJ.c19 (h.resolve_left (by decide))), c20 := fun h => .inr (hJ.c20 (h.resolve_left (by decide))), bx := fun j => (World.cell?_alloc_lt _ _ _ hz).trans (hJ.bx j), pr := ⟨m, (w.heap.size, 3, #[.int .i64 s]) :: F, by simpa using q0, by simpa using q1, by simpa using q2, by simpa using q3, by simpa using q4, qm, fun h => by obtain ⟨b, e, hb⟩ := b0 (h.resolve_left (by decide)); exact ⟨b, e, List.mem_cons_of_mem _ hb⟩, fun h => by obtain ⟨b, e, hb⟩ := b1 (h.resolve_left (by decide)); exact ⟨b, e, List.mem_cons_of_mem _ hb⟩, fun h => by obtain ⟨b, e, hb⟩ := b2 (h.resolve_left (by decide)); exact ⟨b, e, List.mem_cons_of_mem _ hb⟩, fun _ => ⟨_, rfl, List.mem_cons_self ..⟩, fun h => ⟨List.mem_cons_of_mem _ (h4 h).1, (h4 h).2.newb _ _⟩, fun h => by omega⟩ }
    · obtain rfl := Option.some.inj ho
      clear ho
      rintro L a w hn hp ⟨s2, s3, s11, s12, s13, s14, s15, s16, s17, s18, s19, s20, s21, s22, s23, s24, s25, s26, s27, s28, s29, rfl, hJ⟩ K hK
      have p14 : L 14 := hp { on := 14, ground := .data } (by simp) rfl
      have p11 : L 11 := hp { on := 11, ground := .data } (by simp) rfl
      clear hp
      obtain ⟨m, F, q0, q1, q2, q3, q4, qm, b0, b1, b2, b3, h4, h5⟩ := hJ.pr
      obtain rfl := hJ.f11 p11
      obtain ⟨b, rfl, hb⟩ := b3 p14
      have hm : m = 3 := by have h1 : ¬ (3 < m) := fun h => hn (q3.2 h); have h2 := q2.1 p11; omega
      obtain ⟨hbx, hw⟩ := h4 (by omega)
      subst hm
      have HW := Lib.hid (show WrAt w0 F [] g (clS3 i r x) w from hw)
      clear hw h4 h5
      go_simp
      refine (num_blk (W := w0) (F := F) (st := clS3 i r x) HW.out hb N3.out (clS3_len _ _ _)).mono ?_
      rintro e w2 ⟨rfl, h2⟩
      refine hK _ _ ⟨_, _, _, _, _, _, _, _, _, _, _, _, _, _, _, _, _, _, _, _, _, rfl, ?_⟩
      exact { f0 := fun h => hJ.f0 (h.resolve_left (by decide)), f1 := fun h => hJ.f1 (h.resolve_left (by decide)), f3 := fun h => hJ.f3 (h.resolve_left (by decide)), f4 := fun h => hJ.f4 (h.resolve_left (by decide)), f5 := fun h => hJ.f5 (h.resolve_left (by decide)), f7 := fun h => hJ.f7 (h.resolve_left (by decide)), f8 := fun h => hJ.f8 (h.resolve_left (by decide)), f9 := fun h => hJ.f9 (h.resolve_left (by decide)), f11 := fun h => hJ.f11 (h.resolve_left (by decide)), f12 := fun h => hJ.f12 (h.resolve_left (by decide)), f13 := fun h => hJ.f13 (h.resolve_left (by decide)), f15 := fun _ => rfl, f17 := fun h => hJ.f17 (h.resolve_left (by decide)), f18 := fun h => hJ.f18 (h.resolve_left (by decide)), f19 := fun h => hJ.f19 (h.resolve_left (by decide)), f20 := fun h => hJ.f20 (h.resolve_left (by decide)), c3 := fun h => .inr (hJ.c3 (h.resolve_left (by decide))), c7 := fun h => .inr (hJ.c7 (h.resolve_left (by decide))), c11 := fun h => .inr (hJ.c11 (h.resolve_left (by decide))), c15 := fun _ => .inr p14, c17 := fun h => .inr (hJ.c17 (h.resolve_left (by decide))), c18 := fun h => .inr (hJ.c18 (h.resolve_left (by decide))), c19 := fun h => .inr (hJ.c19 (h.resolve_left (by decide))), c20 := fun h => .inr (hJ.c20 (h.resolve_left (by decide))), bx := fun j => WrAt.cell h2 hbx j, pr := ⟨4, F, ⟨fun _ => by omega, fun _ => .inr (q0.2 (by omega))⟩, ⟨fun _ => by omega, fun _ => .inr (q1.2 (by omega))⟩, ⟨fun _ => by omega, fun _ => .inr (q2.2 (by omega))⟩, ⟨fun _ => by omega, fun _ => .inl rfl⟩, ⟨fun h => by have := q4.1 (h.resolve_left (by decide)); omega, fun h => by omega⟩, by omega, fun h => b0 (h.resolve_left (by decide)), fun h => b1 (h.resolve_left (by decide)), fun h => b2 (h.resolve_left (by decide)), fun _ => ⟨_, rfl, hb⟩, fun _ => ⟨hbx, h2⟩, fun h => by omega⟩ }
    · obtain rfl := Option.some.inj ho
      clear ho
      rintro L a w hn hp ⟨s2, s3, s11, s12, s13, s14, s15, s16, s17, s18, s19, s20, s21, s22, s23, s24, s25, s26, s27, s28, s29, rfl, hJ⟩ K hK
      have p15 : L 15 := hp { on := 15, ground := .data } (by simp) rfl
      clear hp
      obtain ⟨m, F, q0, q1, q2, q3, q4, qm, b0, b1, b2, b3, h4, h5⟩ := hJ.pr
      obtain rfl := hJ.f15 p15
      have hm : m = 4 := by have h1 : ¬ (4 < m) := fun h => hn (q4.2 h); have h2 := q3.1 p15; omega
      obtain ⟨hbx, hw⟩ := h4 (by omega)
      subst hm
      have HW := Lib.hid (show WrAt w0 F [] g (clS4 i r x s) w from hw)
      clear hw h4 h5
      go_simp
      refine (wout_any w0 _ F [] g (clS4 i r x s) HW.out (clS4_len _ _ _ _)).mono ?_
      rintro e w2 ⟨v, v2, rfl, h2⟩
      have hk := Mst.bk h2 _ (List.mem_cons_of_mem _ hbx)
      refine hK _ _ ⟨_, _, _, _, _, _, _, _, _, _, _, _, _, _, _, _, _, _, _, _, _, rfl, ?_⟩
      exact { f0 := fun h => hJ.f0 (h.resolve_left (by decide)), f1 := fun h => hJ.f1 (h.resolve_left (by decide)), f3 := fun h => hJ.f3 (h.resolve_left (by decide)), f4 := fun h => hJ.f4 (h.resolve_left (by decide)), f5 := fun h => hJ.f5 (h.resolve_left (by decide)), f7 := fun h => hJ.f7 (h.resolve_left (by decide)), f8 := fun h => hJ.f8 (h.resolve_left (by decide)), f9 := fun h => hJ.f9 (h.resolve_left (by decide)), f11 := fun h => hJ.f11 (h.resolve_left (by decide)), f12 := fun h => hJ.f12 (h.resolve_left (by decide)), f13 := fun h => hJ.f13 (h.resolve_left (by decide)), f15 := fun h => hJ.f15 (h.resolve_left (by decide)), f17 := fun h => absurd (hJ.c17 (h.resolve_left (by decide))) hn, f18 := fun h => absurd (hJ.c18 (h.resolve_left (by decide))) hn, f19 := fun h => hJ.f19 (h.resolve_left (by decide)), f20 := fun h => hJ.f20 (h.resolve_left (by decide)), c3 := fun h => .inr (hJ.c3 (h.resolve_left (by decide))), c7 := fun h => .inr (hJ.c7 (h.resolve_left (by decide))), c11 := fun h => .inr (hJ.c11 (h.resolve_left (by decide))), c15 := fun h => .inr (hJ.c15 (h.resolve_left (by decide))), c17 := fun h => .inr (hJ.c17 (h.resolve_left (by decide))), c18 := fun h => .inr (hJ.c18 (h.resolve_left (by decide))), c19 := fun h => .inr (hJ.c19 (h.resolve_left (by decide))), c20 := fun h => .inr (hJ.c20 (h.resolve_left (by decide))), bx := fun j => hk.1.cell j, pr := ⟨5, F, ⟨fun _ => by omega, fun _ => .inr (q0.2 (by omega))⟩, ⟨fun _ => by omega, fun _ => .inr (q1.2 (by omega))⟩, ⟨fun _ => by omega, fun _ => .inr (q2.2 (by omega))⟩, ⟨fun _ => by omega, fun _ => .inr (q3.2 (by omega))⟩, ⟨fun _ => by omega, fun _ => .inl rfl⟩, by omega, fun h => b0 (h.resolve_left (by decide)), fun h => b1 (h.resolve_left (by decide)), fun h => b2 (h.resolve_left (by decide)), fun h => b3 (h.resolve_left (by decide)), fun h => by omega, fun _ => ⟨v2, rfl, h2.bel, h2.row []⟩⟩ }
    · obtain rfl := Option.some.inj ho
      clear ho
      rintro L a w hn hp ⟨s2, s3, s11, s12, s13, s14, s15, s16, s17, s18, s19, s20, s21, s22, s23, s24, s25, s26, s27, s28, s29, rfl, hJ⟩ K hK
      have p16 : L 16 := hp { on := 16, ground := .data } (by simp) rfl
      clear hp
      obtain ⟨v, z, rfl⟩ : ∃ v z, s27 = .tuple #[v, z] := by obtain ⟨m, F, q0, q1, q2, q3, q4, qm, b0, b1, b2, b3, h4, h5⟩ := hJ.pr; obtain ⟨v, e, _⟩ := h5 (by have h2 := q4.1 p16; omega); exact ⟨v, _, e⟩
      go_simp
      refine hK _ _ ⟨_, _, _, _, _, _, _, _, _, _, _, _, _, _, _, _, _, _, _, _, _, rfl, ?_⟩
      obtain ⟨m, F, q0, q1, q2, q3, q4, qm, b0, b1, b2, b3, h4, h5⟩ := hJ.pr
      exact { f0 := fun h => hJ.f0 (h.resolve_left (by decide)), f1 := fun h => hJ.f1 (h.resolve_left (by decide)), f3 := fun h => hJ.f3 (h.resolve_left (by decide)), f4 := fun h => hJ.f4 (h.resolve_left (by decide)), f5 := fun h => hJ.f5 (h.resolve_left (by decide)), f7 := fun h => hJ.f7 (h.resolve_left (by decide)), f8 := fun h => hJ.f8 (h.resolve_left (by decide)), f9 := fun h => hJ.f9 (h.resolve_left (by decide)), f11 := fun h => hJ.f11 (h.resolve_left (by decide)), f12 := fun h => hJ.f12 (h.resolve_left (by decide)), f13 := fun h => hJ.f13 (h.resolve_left (by decide)), f15 := fun h => hJ.f15 (h.resolve_left (by decide)), f17 := fun _ v z h => by simp at h; exact h.1, f18 := fun h => hJ.f18 (h.resolve_left (by decide)), f19 := fun h => absurd (hJ.c19 (h.resolve_left (by decide))) hn, f20 := fun h => hJ.f20 (h.resolve_left (by decide)), c3 := fun h => .inr (hJ.c3 (h.resolve_left (by decide))), c7 := fun h => .inr (hJ.c7 (h.resolve_left (by decide))), c11 := fun h => .inr (hJ.c11 (h.resolve_left (by decide))), c15 := fun h => .inr (hJ.c15 (h.resolve_left (by decide))), c17 := fun _ => .inr p16, c18 := fun h => .inr (hJ.c18 (h.resolve_left (by decide))), c19 := fun h => .inr (hJ.c19 (h.resolve_left (by decide))), c20 := fun h => .inr (hJ.c20 (h.resolve_left (by decide))), bx := hJ.bx, pr := ⟨m, F, by simpa using q0, by simpa using q1, by simpa using q2, by simpa using q3, by simpa using q4, qm, fun h => b0 (h.resolve_left (by decide)), fun h => b1 (h.resolve_left (by decide)), fun h => b2 (h.resolve_left (by decide)), fun h => b3 (h.resolve_left (by decide)), h4, h5⟩ }
    · obtain rfl := Option.some.inj ho
      clear ho
      rintro L a w hn hp ⟨s2, s3, s11, s12, s13, s14, s15, s16, s17, s18, s19, s20, s21, s22, s23, s24, s25, s26, s27, s28, s29, rfl, hJ⟩ K hK
      have p16 : L 16 := hp { on := 16, ground := .data } (by simp) rfl
      clear hp
      obtain ⟨v, z, rfl⟩ : ∃ v z, s27 = .tuple #[v, z] := by obtain ⟨m, F, q0, q1, q2, q3, q4, qm, b0, b1, b2, b3, h4, h5⟩ := hJ.pr; obtain ⟨v, e, _⟩ := h5 (by have h2 := q4.1 p16; omega); exact ⟨v, _, e⟩
      go_simp
      refine hK _ _ ⟨_, _, _, _, _, _, _, _, _, _, _, _, _, _, _, _, _, _, _, _, _, rfl, ?_⟩
      obtain ⟨m, F, q0, q1, q2, q3, q4, qm, b0, b1, b2, b3, h4, h5⟩ := hJ.pr
      exact { f0 := fun h => hJ.f0 (h.resolve_left (by decide)), f1 := fun h => hJ.f1 (h.resolve_left (by decide)), f3 := fun h => hJ.f3 (h.resolve_left (by decide)), f4 := fun h => hJ.f4 (h.resolve_left (by decide)), f5 := fun h => hJ.f5 (h.resolve_left (by decide)), f7 := fun h => hJ.f7 (h.resolve_left (by decide)), f8 := fun h => hJ.f8 (h.resolve_left (by decide)), f9 := fun h => hJ.f9 (h.resolve_left (by decide)), f11 := fun h => hJ.f11 (h.resolve_left (by decide)), f12 := fun h => hJ.f12 (h.resolve_left (by decide)), f13 := fun h => hJ.f13 (h.resolve_left (by decide)), f15 := fun h => hJ.f15 (h.resolve_left (by decide)), f17 := fun h => hJ.f17 (h.resolve_left (by decide)), f18 := fun _ v z h => by simp at h; exact h.2, f19 := fun h => hJ.f19 (h.resolve_left (by decide)), f20 := fun h => absurd (hJ.c20 (h.resolve_left (by decide))) hn, c3 := fun h => .inr (hJ.c3 (h.resolve_left (by decide))), c7 := fun h => .inr (hJ.c7 (h.resolve_left (by decide))), c11 := fun h => .inr (hJ.c11 (h.resolve_left (by decide))), c15 := fun h => .inr (hJ.c15 (h.resolve_left (by decide))), c17 := fun h => .inr (hJ.c17 (h.resolve_left (by decide))), c18 := fun _ => .inr p16, c19 := fun h => .inr (hJ.c19 (h.resolve_left (by decide))), c20 := fun h => .inr (hJ.c20 (h.resolve_left (by decide))), bx := hJ.bx, pr := ⟨m, F, by simpa using q0, by simpa using q1, by simpa using q2, by simpa using q3, by simpa using q4, qm, fun h => b0 (h.resolve_left (by decide)), fun h => b1 (h.resolve_left (by decide)), fun h => b2 (h.resolve_left (by decide)), fun h => b3 (h.resolve_left (by decide)), h4, h5⟩ }
    · obtain rfl := Option.some.inj ho
      clear ho
      rintro L a w hn hp ⟨s2, s3, s11, s12, s13, s14, s15, s16, s17, s18, s19, s20, s21, s22, s23, s24, s25, s26, s27, s28, s29, rfl, hJ⟩ K hK
      have p17 : L 17 := hp { on := 17, ground := .data } (by simp) rfl
      clear hp
      go_simp
      refine hK _ _ ⟨_, _, _, _, _, _, _, _, _, _, _, _, _, _, _, _, _, _, _, _, _, rfl, ?_⟩
      obtain ⟨m, F, q0, q1, q2, q3, q4, qm, b0, b1, b2, b3, h4, h5⟩ := hJ.pr
      exact { f0 := fun h => hJ.f0 (h.resolve_left (by decide)), f1 := fun h => hJ.f1 (h.resolve_left (by decide)), f3 := fun h => hJ.f3 (h.resolve_left (by decide)), f4 := fun h => hJ.f4 (h.resolve_left (by decide)), f5 := fun h => hJ.f5 (h.resolve_left (by decide)), f7 := fun h => hJ.f7 (h.resolve_left (by decide)), f8 := fun h => hJ.f8 (h.resolve_left (by decide)), f9 := fun h => hJ.f9 (h.resolve_left (by decide)), f11 := fun h => hJ.f11 (h.resolve_left (by decide)), f12 := fun h => hJ.f12 (h.resolve_left (by decide)), f13 := fun h => hJ.f13 (h.resolve_left (by decide)), f15 := fun h => hJ.f15 (h.resolve_left (by decide)), f17 := fun h => hJ.f17 (h.resolve_left (by decide)), f18 := fun h => hJ.f18 (h.resolve_left (by decide)), f19 := fun _ => rfl, f20 := fun h => hJ.f20 (h.resolve_left (by decide)), c3 := fun h => .inr (hJ.c3 (h.resolve_left (by decide))), c7 := fun h => .inr (hJ.c7 (h.resolve_left (by decide))), c11 := fun h => .inr (hJ.c11 (h.resolve_left (by decide))), c15 := fun h => .inr (hJ.c15 (h.resolve_left (by decide))), c17 := fun h => .inr (hJ.c17 (h.resolve_left (by decide))), c18 := fun h => .inr (hJ.c18 (h.resolve_left (by decide))), c19 := fun _ => .inr p17, c20 := fun h => .inr (hJ.c20 (h.resolve_left (by decide))), bx := hJ.bx, pr := ⟨m, F, by simpa using q0, by simpa using q1, by simpa using q2, by simpa using q3, by simpa using q4, qm, fun h => b0 (h.resolve_left (by decide)), fun h => b1 (h.resolve_left (by decide)), fun h => b2 (h.resolve_left (by decide)), fun h => b3 (h.resolve_left (by decide)), h4, h5⟩ }
    · obtain rfl := Option.some.inj ho
      clear ho
      rintro L a w hn hp ⟨s2, s3, s11, s12, s13, s14, s15, s16, s17, s18, s19, s20, s21, s22, s23, s24, s25, s26, s27, s28, s29, rfl, hJ⟩ K hK
      have p18 : L 18 := hp { on := 18, ground := .data } (by simp) rfl
      clear hp
      go_simp
      refine hK _ _ ⟨_, _, _, _, _, _, _, _, _, _, _, _, _, _, _, _, _, _, _, _, _, rfl, ?_⟩
      obtain ⟨m, F, q0, q1, q2, q3, q4, qm, b0, b1, b2, b3, h4, h5⟩ := hJ.pr
      exact { f0 := fun h => hJ.f0 (h.resolve_left (by decide)), f1 := fun h => hJ.f1 (h.resolve_left (by decide)), f3 := fun h => hJ.f3 (h.resolve_left (by decide)), f4 := fun h => hJ.f4 (h.resolve_left (by decide)), f5 := fun h => hJ.f5 (h.resolve_left (by decide)), f7 := fun h => hJ.f7 (h.resolve_left (by decide)), f8 := fun h => hJ.f8 (h.resolve_left (by decide)), f9 := fun h => hJ.f9 (h.resolve_left (by decide)), f11 := fun h => hJ.f11 (h.resolve_left (by decide)), f12 := fun h => hJ.f12 (h.resolve_left (by decide)), f13 := fun h => hJ.f13 (h.resolve_left (by decide)), f15 := fun h => hJ.f15 (h.resolve_left (by decide)), f17 := fun h => hJ.f17 (h.resolve_left (by decide)), f18 := fun h => hJ.f18 (h.resolve_left (by decide)), f19 := fun h => hJ.f19 (h.resolve_left (by decide)), f20 := fun _ => rfl, c3 := fun h => .inr (hJ.c3 (h.resolve_left (by decide))), c7 := fun h => .inr (hJ.c7 (h.resolve_left (by decide))), c11 := fun h => .inr (hJ.c11 (h.resolve_left (by decide))), c15 := fun h => .inr (hJ.c15 (h.resolve_left (by decide))), c17 := fun h => .inr (hJ.c17 (h.resolve_left (by decide))), c18 := fun h => .inr (hJ.c18 (h.resolve_left (by decide))), c19 := fun h => .inr (hJ.c19 (h.resolve_left (by decide))), c20 := fun _ => .inr p18, bx := hJ.bx, pr := ⟨m, F, by simpa using q0, by simpa using q1, by simpa using q2, by simpa using q3, by simpa using q4, qm, fun h => b0 (h.resolve_left (by decide)), fun h => b1 (h.resolve_left (by decide)), fun h => b2 (h.resolve_left (by decide)), fun h => b3 (h.resolve_left (by decide)), h4, h5⟩ }
  · rintro L a w hL ⟨s2, s3, s11, s12, s13, s14, s15, s16, s17, s18, s19, s20, s21, s22, s23, s24, s25, s26, s27, s28, s29, rfl, hJ⟩
    obtain ⟨m, F, q0, q1, q2, q3, q4, qm, b0, b1, b2, b3, h4, h5⟩ := hJ.pr
    have hm : m = 5 := by have h2 := q4.1 (hL 16 (by decide)); omega
    obtain ⟨v, rfl, hf⟩ := h5 hm
    obtain rfl := hJ.f17 (hL 17 (by decide)) _ _ rfl
    obtain rfl := hJ.f18 (hL 18 (by decide)) _ _ rfl
    obtain rfl := hJ.f19 (hL 19 (by decide))
    obtain rfl := hJ.f20 (hL 20 (by decide))
    have HF := Lib.hid hf
    clear hf h4 h5 hJ hL
    go_wp2_with fail
    go_ret2
    have a := HF.out
    rw [show clS4 i r x s = _ from clS4_ok HO.out] at a ⊢
    exact ⟨_, rfl, by simpa [clB_length] using a⟩
end Go.Proofs.YtnbemfceoianiaaDoor
