/- Contracts of package window: Bytes. -/
import Derived.Test.YtnbemfceoianiaaDoorCl2
import Derived.Test.YtnbemfceoianiaaDoorWin
namespace Go.Proofs.YtnbemfceoianiaaDoor
set_option linter.unusedVariables false
open Go.RowKit

def wnS0 : List UInt8 × Int := ([], 0)
def wnS1 (x : Int) : List UInt8 × Int := putB (wnS0 ) (nf 1 x)
def wnS2 (x y : Int) : List UInt8 × Int := putB (wnS1 x) (nf 2 y)
theorem wnS0_len : (wnS0 ).1.length ≤ 1024 := by decide
theorem wnS1_len (x : Int) : (wnS1 x).1.length ≤ 1024 := putB_len _ _ (wnS0_len )
theorem wnS2_len (x y : Int) : (wnS2 x y).1.length ≤ 1024 := putB_len _ _ (wnS1_len x)
def wnSt (x y : Int) (k : Nat) : List UInt8 × Int := if k = 0 then wnS0  else if k = 1 then wnS1 x else wnS2 x y
/-- What holds in the region, behind those of its operations that have come up. -/
structure wnJ (w0 : World) (g : Nat) (x y : Int) (L : Nat → Prop) (s2 s3 s11 s12 s13 s14 s15 s16 s17 s18 s19 s20 s21 : Value) (w : World) : Prop where
  f0 : L 0 → s11 = .pointer (some ⟨w0.heap.size, 0, none⟩)
  f1 : L 1 → s12 = .int .i64 x
  f3 : L 3 → s14 = .pointer (some ⟨g, 0, none⟩)
  f4 : L 4 → s15 = .pointer (some ⟨w0.heap.size, 1, none⟩)
  f5 : L 5 → s16 = .int .i64 y
  f7 : L 7 → s18 = .pointer (some ⟨g, 0, none⟩)
  f9 : L 9 → ∀ v z, s19 = .tuple #[v, z] → s20 = v
  f10 : L 10 → ∀ v z, s19 = .tuple #[v, z] → s21 = z
  f11 : L 11 → s2 = s20
  f12 : L 12 → s3 = s21
  c3 : L 3 → L 2
  c7 : L 7 → L 6
  c9 : L 9 → L 8
  c10 : L 10 → L 8
  c11 : L 11 → L 9
  c12 : L 12 → L 10
  bx : ∀ j : Nat, w.cell? ⟨w0.heap.size, j, none⟩ = (#[.int .i64 x, .int .i64 y] : Array Value)[j]?
  pr : ∃ (m : Nat) (F : Bl), (L 3 ↔ 0 < m) ∧ (L 7 ↔ 1 < m) ∧ (L 8 ↔ 2 < m) ∧ m ≤ 3 ∧ (L 2 → ∃ b, s13 = .slice (some ⟨b, 0, none⟩) 1 1 ∧ (b, 3, #[Value.int .i64 x]) ∈ F) ∧ (L 6 → ∃ b, s17 = .slice (some ⟨b, 0, none⟩) 1 1 ∧ (b, 3, #[Value.int .i64 y]) ∈ F) ∧ (m ≤ 2 → (w0.heap.size, 29, (#[.int .i64 x, .int .i64 y] : Array Value)) ∈ F ∧ WrAt w0 F [] g (wnSt x y m) w) ∧ (m = 3 → ∃ v, s19 = .tuple #[v, .int .i64 (wnS2 x y).2] ∧ Fresh w0 w 5 1 v (if (wnS2 x y).2 = 0 then (wnS2 x y).1 else []).length (by8 (if (wnS2 x y).2 = 0 then (wnS2 x y).1 else [])))
theorem wnOr {p q : Prop} {L : Prop} (h : p ∨ L) (hp : ¬ p) : L := h.resolve_left hp
/-- A right nonce as bytes. -/
def wnB (b c : Int) : List UInt8 := numB 2 b ++ numB 4 c
theorem wnB_length (b c : Int) : (wnB b c).length = 6 := by simp [wnB, numB_length]
def wnOk (b c : Int) : Prop := 1 ≤ b ∧ b ≤ 65535 ∧ 1 ≤ c ∧ c ≤ 2147483647
theorem wnS2_ok {b c : Int} (h : wnOk b c) : wnS2 b c = (wnB b c, 0) := by
  obtain ⟨h1, h2, h3, h4⟩ := h
  unfold wnS2 wnS1 wnS0
  have e1 : putB ([], 0) (nf 1 b) = (numB 2 b, 0) := putB_nf rfl (chk_nf1 (by omega) (by omega)) (by omega) (by simp)
  have e2 : putB (numB 2 b, 0) (nf 2 c) = (numB 2 b ++ numB 4 c, 0) := putB_nf rfl (chk_nf2 (by omega) (by omega)) (by omega) (by simp [numB_length])
  rw [e1, e2]
  rfl
def wnBPost (b c : Int) (W : World) (e : Ending) (w' : World) : Prop := ∃ v, e = .returned (.tuple #[v, .int .i64 0]) ∧ Fresh W w' 5 1 v 6 (by8 (wnB b c))
theorem wnbytes_bad (b c : Int) (w : World) (h : b < 1 ∨ 65535 < b ∨ c < 1 ∨ 2147483647 < c) :
    Calls Tryd.prog 20 #[.agg #[.int .i64 b, .int .i64 c]] w fun e w' => e = .returned (.tuple #[.slice none 0 0, .int .i64 10]) ∧ Below w.heap.size w w' := by
  have HC := Lib.hid (fun w => check_no b c w h)
  clear h
  go_enter Tryd.func20, Tryd.ntmps20
  go_wp2_with fail
  refine (HC.out _).mono ?_
  rintro e w1 ⟨rfl, hb⟩
  have HB := Lib.hid (((Below.refl w.heap.size w).alloc (Nat.le_refl _) (.cells #[.int .i64 b, .int .i64 c] 29)).trans (hb.mono (by simp)))
  clear hb
  go_wp2
  go_ret2
  exact ⟨rfl, HB.out⟩

set_option maxRecDepth 100000 in
set_option maxHeartbeats 8000000 in
theorem wnbytes_ok (x y : Int) (w0 : World) (h : wnOk x y) :
    Calls Tryd.prog 20 #[.agg #[.int .i64 x, .int .i64 y]] w0 (wnBPost x y w0) := by
  have n0 : x ≤ 9223372036854775807 := by have := h.2.1; omega
  have n1 : y ≤ 9223372036854775807 := by have := h.2.2.2; omega
  have HO := Lib.hid h
  have N0 := Lib.hid n0
  have N1 := Lib.hid n1
  have HC := Lib.hid (fun w => check_yes x y w h.1 h.2.1 h.2.2.1 h.2.2.2)
  clear h n0 n1
  go_enter Tryd.func20, Tryd.ntmps20
  go_wp2_with fail
  refine (HC.out _).mono ?_
  rintro e w1 ⟨rfl, hb⟩
  have P0 := Lib.hid (show WrAt _ _ _ _ wnS0 _ from WrAt.start (((Mst.start w0).new 29 #[.int .i64 x, .int .i64 y]).below hb))
  clear hb
  go_wp2_with fail
  obtain ⟨g, hg⟩ : ∃ g, w1.heap.size = g := ⟨_, rfl⟩
  rw [hg] at P0 ⊢
  refine wp_region_inv (by kernel_rfl) (fun L a w => ∃ s2 s3 s11 s12 s13 s14 s15 s16 s17 s18 s19 s20 s21 : Value, a = ⟨#[.agg #[.int .i64 x, .int .i64 y], .pointer (some ⟨w0.heap.size, 0, none⟩), s2, s3, .int .i64 0, .pointer (some ⟨g, 0, none⟩), .agg #[.int .i64 x, .int .i64 y], .int .i64 0, .int .i64 0, .bool false, undef, s11, s12, s13, s14, s15, s16, s17, s18, s19, s20, s21], []⟩ ∧ wnJ w0 g x y L s2 s3 s11 s12 s13 s14 s15 s16 s17 s18 s19 s20 s21 w) (by kernel_rfl) ?_ ?_ ?_
  · refine ⟨.slice none 0 0, .int .i64 0, undef, undef, undef, undef, undef, undef, undef, undef, undef, undef, undef, rfl, ?_⟩
    exact { f0 := fun h => h.elim, f1 := fun h => h.elim, f3 := fun h => h.elim, f4 := fun h => h.elim, f5 := fun h => h.elim, f7 := fun h => h.elim, f9 := fun h => h.elim, f10 := fun h => h.elim, f11 := fun h => h.elim, f12 := fun h => h.elim, c3 := fun h => h.elim, c7 := fun h => h.elim, c9 := fun h => h.elim, c10 := fun h => h.elim, c11 := fun h => h.elim, c12 := fun h => h.elim, bx := fun j => P0.out.drew.cell (List.mem_cons_self ..) j, pr := ⟨0, _, by simp, by simp, by simp, by omega, fun h => h.elim, fun h => h.elim, fun _ => ⟨List.mem_cons_self .., P0.out.drew⟩, fun h => by omega⟩ }
  · intro ix o ho
    have hlt : ix < 13 := (Array.getElem?_eq_some_iff.1 ho).1
    have hc : ix = 0 ∨ ix = 1 ∨ ix = 2 ∨ ix = 3 ∨ ix = 4 ∨ ix = 5 ∨ ix = 6 ∨ ix = 7 ∨ ix = 8 ∨ ix = 9 ∨ ix = 10 ∨ ix = 11 ∨ ix = 12 := by omega
    clear hlt
    rcases hc with rfl | rfl | rfl | rfl | rfl | rfl | rfl | rfl | rfl | rfl | rfl | rfl | rfl
    · obtain rfl := Option.some.inj ho
      clear ho
      rintro L a w hn hp ⟨s2, s3, s11, s12, s13, s14, s15, s16, s17, s18, s19, s20, s21, rfl, hJ⟩ K hK
      clear hp
      go_simp
      refine hK _ _ ⟨_, _, _, _, _, _, _, _, _, _, _, _, _, rfl, ?_⟩
      obtain ⟨m, F, q0, q1, q2, qm, b0, b1, h4, h5⟩ := hJ.pr
      exact { f0 := fun _ => rfl, f1 := fun h => hJ.f1 (h.resolve_left (by decide)), f3 := fun h => hJ.f3 (h.resolve_left (by decide)), f4 := fun h => hJ.f4 (h.resolve_left (by decide)), f5 := fun h => hJ.f5 (h.resolve_left (by decide)), f7 := fun h => hJ.f7 (h.resolve_left (by decide)), f9 := fun h => hJ.f9 (h.resolve_left (by decide)), f10 := fun h => hJ.f10 (h.resolve_left (by decide)), f11 := fun h => hJ.f11 (h.resolve_left (by decide)), f12 := fun h => hJ.f12 (h.resolve_left (by decide)), c3 := fun h => .inr (hJ.c3 (h.resolve_left (by decide))), c7 := fun h => .inr (hJ.c7 (h.resolve_left (by decide))), c9 := fun h => .inr (hJ.c9 (h.resolve_left (by decide))), c10 := fun h => .inr (hJ.c10 (h.resolve_left (by decide))), c11 := fun h => .inr (hJ.c11 (h.resolve_left (by decide))), c12 := fun h => .inr (hJ.c12 (h.resolve_left (by decide))), bx := hJ.bx, pr := ⟨m, F, by simpa using q0, by simpa using q1, by simpa using q2, qm, fun h => b0 (h.resolve_left (by decide)), fun h => b1 (h.resolve_left (by decide)), h4, h5⟩ }
    · obtain rfl := Option.some.inj ho
      clear ho
      rintro L a w hn hp ⟨s2, s3, s11, s12, s13, s14, s15, s16, s17, s18, s19, s20, s21, rfl, hJ⟩ K hK
      have p0 : L 0 := hp { on := 0, ground := .data } (by simp) rfl
      clear hp
      obtain rfl := hJ.f0 p0
      have c0 : w.cell? ⟨w0.heap.size, 0, none⟩ = some (.int .i64 x) := hJ.bx 0
      go_simp
      refine hK _ _ ⟨_, _, _, _, _, _, _, _, _, _, _, _, _, rfl, ?_⟩
      obtain ⟨m, F, q0, q1, q2, qm, b0, b1, h4, h5⟩ := hJ.pr
      exact { f0 := fun h => hJ.f0 (h.resolve_left (by decide)), f1 := fun _ => rfl, f3 := fun h => hJ.f3 (h.resolve_left (by decide)), f4 := fun h => hJ.f4 (h.resolve_left (by decide)), f5 := fun h => hJ.f5 (h.resolve_left (by decide)), f7 := fun h => hJ.f7 (h.resolve_left (by decide)), f9 := fun h => hJ.f9 (h.resolve_left (by decide)), f10 := fun h => hJ.f10 (h.resolve_left (by decide)), f11 := fun h => hJ.f11 (h.resolve_left (by decide)), f12 := fun h => hJ.f12 (h.resolve_left (by decide)), c3 := fun h => .inr (hJ.c3 (h.resolve_left (by decide))), c7 := fun h => .inr (hJ.c7 (h.resolve_left (by decide))), c9 := fun h => .inr (hJ.c9 (h.resolve_left (by decide))), c10 := fun h => .inr (hJ.c10 (h.resolve_left (by decide))), c11 := fun h => .inr (hJ.c11 (h.resolve_left (by decide))), c12 := fun h => .inr (hJ.c12 (h.resolve_left (by decide))), bx := hJ.bx, pr := ⟨m, F, by simpa using q0, by simpa using q1, by simpa using q2, qm, fun h => b0 (h.resolve_left (by decide)), fun h => b1 (h.resolve_left (by decide)), h4, h5⟩ }
    · obtain rfl := Option.some.inj ho
      clear ho
      rintro L a w hn hp ⟨s2, s3, s11, s12, s13, s14, s15, s16, s17, s18, s19, s20, s21, rfl, hJ⟩ K hK
      have p1 : L 1 := hp { on := 1, ground := .data } (by simp) rfl
      clear hp
      obtain rfl := hJ.f1 p1
      have hz : w0.heap.size < w.heap.size := block_lt_of_cell (v := .int .i64 x) (hJ.bx 0)
      go_simp
      refine hK _ _ ⟨_, _, _, _, _, _, _, _, _, _, _, _, _, rfl, ?_⟩
      obtain ⟨m, F, q0, q1, q2, qm, b0, b1, h4, h5⟩ := hJ.pr
      have n3 : ¬ L 3 := fun h => hn (hJ.c3 h)
      have hm : m ≤ 0 := by have : ¬ (0 < m) := fun h => n3 (q0.2 h); omega
      exact { f0 := fun h => hJ.f0 (h.resolve_left (by decide)), f1 := fun h => hJ.f1 (h.resolve_left (by decide)), f3 := fun h => hJ.f3 (h.resolve_left (by decide)), f4 := fun h => hJ.f4 (h.resolve_left (by decide)), f5 := fun h => hJ.f5 (h.resolve_left (by decide)), f7 := fun h => hJ.f7 (h.resolve_left (by decide)), f9 := fun h => hJ.f9 (h.resolve_left (by decide)), f10 := fun h => hJ.f10 (h.resolve_left (by decide)), f11 := fun h => hJ.f11 (h.resolve_left (by decide)), f12 := fun h => hJ.f12 (h.resolve_left (by decide)), c3 := fun h => .inr (hJ.c3 (h.resolve_left (by decide))), c7 := fun h => .inr (hJ.c7 (h.resolve_left (by decide))), c9 := fun h => .inr (hJ.c9 (h.resolve_left (by decide))), c10 := fun h => .inr (hJ.c10 (h.resolve_left (by decide))), c11 := fun h => .inr (hJ.c11 (h.resolve_left (by decide))), c12 := fun h => .inr (hJ.c12 (h.resolve_left (by decide))), bx := fun j => (World.cell?_alloc_lt _ _ _ hz).trans (hJ.bx j), pr := ⟨m, (w.heap.size, 3, #[.int .i64 x]) :: F, by simpa using q0, by simpa using q1, by simpa using q2, qm, fun _ => ⟨_, rfl, List.mem_cons_self ..⟩, fun h => by obtain ⟨b, e, hb⟩ := b1 (h.resolve_left (by decide)); exact ⟨b, e, List.mem_cons_of_mem _ hb⟩, fun h => ⟨List.mem_cons_of_mem _ (h4 h).1, (h4 h).2.newb _ _⟩, fun h => by omega⟩ }
    · obtain rfl := Option.some.inj ho
      clear ho
      rintro L a w hn hp ⟨s2, s3, s11, s12, s13, s14, s15, s16, s17, s18, s19, s20, s21, rfl, hJ⟩ K hK
      have p2 : L 2 := hp { on := 2, ground := .data } (by simp) rfl
      clear hp
      obtain ⟨m, F, q0, q1, q2, qm, b0, b1, h4, h5⟩ := hJ.pr
      obtain ⟨b, rfl, hb⟩ := b0 p2
      have hm : m = 0 := by have h1 : ¬ (0 < m) := fun h => hn (q0.2 h); omega
      obtain ⟨hbx, hw⟩ := h4 (by omega)
      subst hm
      have HW := Lib.hid (show WrAt w0 F [] g (wnS0 ) w from hw)
      clear hw h4 h5
      go_simp
      refine (num_blk (W := w0) (F := F) (st := wnS0 ) HW.out hb N0.out (wnS0_len )).mono ?_
      rintro e w2 ⟨rfl, h2⟩
      refine hK _ _ ⟨_, _, _, _, _, _, _, _, _, _, _, _, _, rfl, ?_⟩
      exact { f0 := fun h => hJ.f0 (h.resolve_left (by decide)), f1 := fun h => hJ.f1 (h.resolve_left (by decide)), f3 := fun _ => rfl, f4 := fun h => hJ.f4 (h.resolve_left (by decide)), f5 := fun h => hJ.f5 (h.resolve_left (by decide)), f7 := fun h => hJ.f7 (h.resolve_left (by decide)), f9 := fun h => hJ.f9 (h.resolve_left (by decide)), f10 := fun h => hJ.f10 (h.resolve_left (by decide)), f11 := fun h => hJ.f11 (h.resolve_left (by decide)), f12 := fun h => hJ.f12 (h.resolve_left (by decide)), c3 := fun _ => .inr p2, c7 := fun h => .inr (hJ.c7 (h.resolve_left (by decide))), c9 := fun h => .inr (hJ.c9 (h.resolve_left (by decide))), c10 := fun h => .inr (hJ.c10 (h.resolve_left (by decide))), c11 := fun h => .inr (hJ.c11 (h.resolve_left (by decide))), c12 := fun h => .inr (hJ.c12 (h.resolve_left (by decide))), bx := fun j => WrAt.cell h2 hbx j, pr := ⟨1, F, ⟨fun _ => by omega, fun _ => .inl rfl⟩, ⟨fun h => by have := q1.1 (h.resolve_left (by decide)); omega, fun h => by omega⟩, ⟨fun h => by have := q2.1 (h.resolve_left (by decide)); omega, fun h => by omega⟩, by omega, fun _ => ⟨_, rfl, hb⟩, fun h => b1 (h.resolve_left (by decide)), fun _ => ⟨hbx, h2⟩, fun h => by omega⟩ }
    · obtain rfl := Option.some.inj ho
      clear ho
      rintro L a w hn hp ⟨s2, s3, s11, s12, s13, s14, s15, s16, s17, s18, s19, s20, s21, rfl, hJ⟩ K hK
      clear hp
      go_simp
      refine hK _ _ ⟨_, _, _, _, _, _, _, _, _, _, _, _, _, rfl, ?_⟩
      obtain ⟨m, F, q0, q1, q2, qm, b0, b1, h4, h5⟩ := hJ.pr
      exact { f0 := fun h => hJ.f0 (h.resolve_left (by decide)), f1 := fun h => hJ.f1 (h.resolve_left (by decide)), f3 := fun h => hJ.f3 (h.resolve_left (by decide)), f4 := fun _ => rfl, f5 := fun h => hJ.f5 (h.resolve_left (by decide)), f7 := fun h => hJ.f7 (h.resolve_left (by decide)), f9 := fun h => hJ.f9 (h.resolve_left (by decide)), f10 := fun h => hJ.f10 (h.resolve_left (by decide)), f11 := fun h => hJ.f11 (h.resolve_left (by decide)), f12 := fun h => hJ.f12 (h.resolve_left (by decide)), c3 := fun h => .inr (hJ.c3 (h.resolve_left (by decide))), c7 := fun h => .inr (hJ.c7 (h.resolve_left (by decide))), c9 := fun h => .inr (hJ.c9 (h.resolve_left (by decide))), c10 := fun h => .inr (hJ.c10 (h.resolve_left (by decide))), c11 := fun h => .inr (hJ.c11 (h.resolve_left (by decide))), c12 := fun h => .inr (hJ.c12 (h.resolve_left (by decide))), bx := hJ.bx, pr := ⟨m, F, by simpa using q0, by simpa using q1, by simpa using q2, qm, fun h => b0 (h.resolve_left (by decide)), fun h => b1 (h.resolve_left (by decide)), h4, h5⟩ }
    · obtain rfl := Option.some.inj ho
      clear ho
      rintro L a w hn hp ⟨s2, s3, s11, s12, s13, s14, s15, s16, s17, s18, s19, s20, s21, rfl, hJ⟩ K hK
      have p4 : L 4 := hp { on := 4, ground := .data } (by simp) rfl
      clear hp
      obtain rfl := hJ.f4 p4
      have c0 : w.cell? ⟨w0.heap.size, 1, none⟩ = some (.int .i64 y) := hJ.bx 1
      go_simp
      refine hK _ _ ⟨_, _, _, _, _, _, _, _, _, _, _, _, _, rfl, ?_⟩
      obtain ⟨m, F, q0, q1, q2, qm, b0, b1, h4, h5⟩ := hJ.pr
      exact { f0 := fun h => hJ.f0 (h.resolve_left (by decide)), f1 := fun h => hJ.f1 (h.resolve_left (by decide)), f3 := fun h => hJ.f3 (h.resolve_left (by decide)), f4 := fun h => hJ.f4 (h.resolve_left (by decide)), f5 := fun _ => rfl, f7 := fun h => hJ.f7 (h.resolve_left (by decide)), f9 := fun h => hJ.f9 (h.resolve_left (by decide)), f10 := fun h => hJ.f10 (h.resolve_left (by decide)), f11 := fun h => hJ.f11 (h.resolve_left (by decide)), f12 := fun h => hJ.f12 (h.resolve_left (by decide)), c3 := fun h => .inr (hJ.c3 (h.resolve_left (by decide))), c7 := fun h => .inr (hJ.c7 (h.resolve_left (by decide))), c9 := fun h => .inr (hJ.c9 (h.resolve_left (by decide))), c10 := fun h => .inr (hJ.c10 (h.resolve_left (by decide))), c11 := fun h => .inr (hJ.c11 (h.resolve_left (by decide))), c12 := fun h => .inr (hJ.c12 (h.resolve_left (by decide))), bx := hJ.bx, pr := ⟨m, F, by simpa using q0, by simpa using q1, by simpa using q2, qm, fun h => b0 (h.resolve_left (by decide)), fun h => b1 (h.resolve_left (by decide)), h4, h5⟩ }
    · obtain rfl := Option.some.inj ho
      clear ho
      rintro L a w hn hp ⟨s2, s3, s11, s12, s13, s14, s15, s16, s17, s18, s19, s20, s21, rfl, hJ⟩ K hK
      have p5 : L 5 := hp { on := 5, ground := .data } (by simp) rfl
      clear hp
      obtain rfl := hJ.f5 p5
      have hz : w0.heap.size < w.heap.size := block_lt_of_cell (v := .int .i64 x) (hJ.bx 0)
      go_simp
      refine hK _ _ ⟨_, _, _, _, _, _, _, _, _, _, _, _, _, rfl, ?_⟩
      obtain ⟨m, F, q0, q1, q2, qm, b0, b1, h4, h5⟩ := hJ.pr
      have n3 : ¬ L 7 := fun h => hn (hJ.c7 h)
      have hm : m ≤ 1 := by have : ¬ (1 < m) := fun h => n3 (q1.2 h); omega
      exact { f0 := fun h => hJ.f0 (h.resolve_left (by decide)), f1 := fun h => hJ.f1 (h.resolve_left (by decide)), f3 := fun h => hJ.f3 (h.resolve_left (by decide)), f4 := fun h => hJ.f4 (h.resolve_left (by decide)), f5 := fun h => hJ.f5 (h.resolve_left (by decide)), f7 := fun h => hJ.f7 (h.resolve_left (by decide)), f9 := fun h => hJ.f9 (h.resolve_left (by decide)), f10 := fun h => hJ.f10 (h.resolve_left (by decide)), f11 := fun h => hJ.f11 (h.resolve_left (by decide)), f12 := fun h => hJ.f12 (h.resolve_left (by decide)), c3 := fun h => .inr (hJ.c3 (h.resolve_left (by decide))), c7 := fun h => .inr (hJ.c7 (h.resolve_left (by decide))), c9 := fun h => .inr (hJ.c9 (h.resolve_left (by decide))), c10 := fun h => .inr (hJ.c10 (h.resolve_left (by decide))), c11 := fun h => .inr (hJ.c11 (h.resolve_left (by decide))), c12 := fun h => .inr (hJ.c12 (h.resolve_left (by decide))), bx := fun j => (World.cell?_alloc_lt _ _ _ hz).trans (hJ.bx j), pr := ⟨m, (w.heap.size, 3, #[.int .i64 y]) :: F, by simpa using q0, by simpa using q1, by simpa using q2, qm, fun h => by obtain ⟨b, e, hb⟩ := b0 (h.resolve_left (by decide)); exact ⟨b, e, List.mem_cons_of_mem _ hb⟩, fun _ => ⟨_, rfl, List.mem_cons_self ..⟩, fun h => ⟨List.mem_cons_of_mem _ (h4 h).1, (h4 h).2.newb _ _⟩, fun h => by omega⟩ }
    · obtain rfl := Option.some.inj ho
      clear ho
      rintro L a w hn hp ⟨s2, s3, s11, s12, s13, s14, s15, s16, s17, s18, s19, s20, s21, rfl, hJ⟩ K hK
      have p6 : L 6 := hp { on := 6, ground := .data } (by simp) rfl
      have p3 : L 3 := hp { on := 3, ground := .data } (by simp) rfl
      clear hp
      obtain ⟨m, F, q0, q1, q2, qm, b0, b1, h4, h5⟩ := hJ.pr
      obtain rfl := hJ.f3 p3
      obtain ⟨b, rfl, hb⟩ := b1 p6
      have hm : m = 1 := by have h1 : ¬ (1 < m) := fun h => hn (q1.2 h); have h2 := q0.1 p3; omega
      obtain ⟨hbx, hw⟩ := h4 (by omega)
      subst hm
      have HW := Lib.hid (show WrAt w0 F [] g (wnS1 x) w from hw)
      clear hw h4 h5
      go_simp
      refine (num_blk (W := w0) (F := F) (st := wnS1 x) HW.out hb N1.out (wnS1_len _)).mono ?_
      rintro e w2 ⟨rfl, h2⟩
      refine hK _ _ ⟨_, _, _, _, _, _, _, _, _, _, _, _, _, rfl, ?_⟩
      exact { f0 := fun h => hJ.f0 (h.resolve_left (by decide)), f1 := fun h => hJ.f1 (h.resolve_left (by decide)), f3 := fun h => hJ.f3 (h.resolve_left (by decide)), f4 := fun h => hJ.f4 (h.resolve_left (by decide)), f5 := fun h => hJ.f5 (h.resolve_left (by decide)), f7 := fun _ => rfl, f9 := fun h => hJ.f9 (h.resolve_left (by decide)), f10 := fun h => hJ.f10 (h.resolve_left (by decide)), f11 := fun h => hJ.f11 (h.resolve_left (by decide)), f12 := fun h => hJ.f12 (h.resolve_left (by decide)), c3 := fun h => .inr (hJ.c3 (h.resolve_left (by decide))), c7 := fun _ => .inr p6, c9 := fun h => .inr (hJ.c9 (h.resolve_left (by decide))), c10 := fun h => .inr (hJ.c10 (h.resolve_left (by decide))), c11 := fun h => .inr (hJ.c11 (h.resolve_left (by decide))), c12 := fun h => .inr (hJ.c12 (h.resolve_left (by decide))), bx := fun j => WrAt.cell h2 hbx j, pr := ⟨2, F, ⟨fun _ => by omega, fun _ => .inr (q0.2 (by omega))⟩, ⟨fun _ => by omega, fun _ => .inl rfl⟩, ⟨fun h => by have := q2.1 (h.resolve_left (by decide)); omega, fun h => by omega⟩, by omega, fun h => b0 (h.resolve_left (by decide)), fun _ => ⟨_, rfl, hb⟩, fun _ => ⟨hbx, h2⟩, fun h => by omega⟩ }
    · obtain rfl := Option.some.inj ho
      clear ho
      rintro L a w hn hp ⟨s2, s3, s11, s12, s13, s14, s15, s16, s17, s18, s19, s20, s21, rfl, hJ⟩ K hK
      have p7 : L 7 := hp { on := 7, ground := .data } (by simp) rfl
      clear hp
      obtain ⟨m, F, q0, q1, q2, qm, b0, b1, h4, h5⟩ := hJ.pr
      obtain rfl := hJ.f7 p7
      have hm : m = 2 := by have h1 : ¬ (2 < m) := fun h => hn (q2.2 h); have h2 := q1.1 p7; omega
      obtain ⟨hbx, hw⟩ := h4 (by omega)
      subst hm
      have HW := Lib.hid (show WrAt w0 F [] g (wnS2 x y) w from hw)
      clear hw h4 h5
      go_simp
      refine (wout_any w0 _ F [] g (wnS2 x y) HW.out (wnS2_len _ _)).mono ?_
      rintro e w2 ⟨v, v2, rfl, h2⟩
      have hk := Mst.bk h2 _ (List.mem_cons_of_mem _ hbx)
      refine hK _ _ ⟨_, _, _, _, _, _, _, _, _, _, _, _, _, rfl, ?_⟩
      exact { f0 := fun h => hJ.f0 (h.resolve_left (by decide)), f1 := fun h => hJ.f1 (h.resolve_left (by decide)), f3 := fun h => hJ.f3 (h.resolve_left (by decide)), f4 := fun h => hJ.f4 (h.resolve_left (by decide)), f5 := fun h => hJ.f5 (h.resolve_left (by decide)), f7 := fun h => hJ.f7 (h.resolve_left (by decide)), f9 := fun h => absurd (hJ.c9 (h.resolve_left (by decide))) hn, f10 := fun h => absurd (hJ.c10 (h.resolve_left (by decide))) hn, f11 := fun h => hJ.f11 (h.resolve_left (by decide)), f12 := fun h => hJ.f12 (h.resolve_left (by decide)), c3 := fun h => .inr (hJ.c3 (h.resolve_left (by decide))), c7 := fun h => .inr (hJ.c7 (h.resolve_left (by decide))), c9 := fun h => .inr (hJ.c9 (h.resolve_left (by decide))), c10 := fun h => .inr (hJ.c10 (h.resolve_left (by decide))), c11 := fun h => .inr (hJ.c11 (h.resolve_left (by decide))), c12 := fun h => .inr (hJ.c12 (h.resolve_left (by decide))), bx := fun j => hk.1.cell j, pr := ⟨3, F, ⟨fun _ => by omega, fun _ => .inr (q0.2 (by omega))⟩, ⟨fun _ => by omega, fun _ => .inr (q1.2 (by omega))⟩, ⟨fun _ => by omega, fun _ => .inl rfl⟩, by omega, fun h => b0 (h.resolve_left (by decide)), fun h => b1 (h.resolve_left (by decide)), fun h => by omega, fun _ => ⟨v2, rfl, h2.bel, h2.row []⟩⟩ }
    · obtain rfl := Option.some.inj ho
      clear ho
      rintro L a w hn hp ⟨s2, s3, s11, s12, s13, s14, s15, s16, s17, s18, s19, s20, s21, rfl, hJ⟩ K hK
      have p8 : L 8 := hp { on := 8, ground := .data } (by simp) rfl
      clear hp
      obtain ⟨v, z, rfl⟩ : ∃ v z, s19 = .tuple #[v, z] := by obtain ⟨m, F, q0, q1, q2, qm, b0, b1, h4, h5⟩ := hJ.pr; obtain ⟨v, e, _⟩ := h5 (by have h2 := q2.1 p8; omega); exact ⟨v, _, e⟩
      go_simp
      refine hK _ _ ⟨_, _, _, _, _, _, _, _, _, _, _, _, _, rfl, ?_⟩
      obtain ⟨m, F, q0, q1, q2, qm, b0, b1, h4, h5⟩ := hJ.pr
      exact { f0 := fun h => hJ.f0 (h.resolve_left (by decide)), f1 := fun h => hJ.f1 (h.resolve_left (by decide)), f3 := fun h => hJ.f3 (h.resolve_left (by decide)), f4 := fun h => hJ.f4 (h.resolve_left (by decide)), f5 := fun h => hJ.f5 (h.resolve_left (by decide)), f7 := fun h => hJ.f7 (h.resolve_left (by decide)), f9 := fun _ v z h => by simp at h; exact h.1, f10 := fun h => hJ.f10 (h.resolve_left (by decide)), f11 := fun h => absurd (hJ.c11 (h.resolve_left (by decide))) hn, f12 := fun h => hJ.f12 (h.resolve_left (by decide)), c3 := fun h => .inr (hJ.c3 (h.resolve_left (by decide))), c7 := fun h => .inr (hJ.c7 (h.resolve_left (by decide))), c9 := fun _ => .inr p8, c10 := fun h => .inr (hJ.c10 (h.resolve_left (by decide))), c11 := fun h => .inr (hJ.c11 (h.resolve_left (by decide))), c12 := fun h => .inr (hJ.c12 (h.resolve_left (by decide))), bx := hJ.bx, pr := ⟨m, F, by simpa using q0, by simpa using q1, by simpa using q2, qm, fun h => b0 (h.resolve_left (by decide)), fun h => b1 (h.resolve_left (by decide)), h4, h5⟩ }
    · obtain rfl := Option.some.inj ho
      clear ho
      rintro L a w hn hp ⟨s2, s3, s11, s12, s13, s14, s15, s16, s17, s18, s19, s20, s21, rfl, hJ⟩ K hK
      have p8 : L 8 := hp { on := 8, ground := .data } (by simp) rfl
      clear hp
      obtain ⟨v, z, rfl⟩ : ∃ v z, s19 = .tuple #[v, z] := by obtain ⟨m, F, q0, q1, q2, qm, b0, b1, h4, h5⟩ := hJ.pr; obtain ⟨v, e, _⟩ := h5 (by have h2 := q2.1 p8; omega); exact ⟨v, _, e⟩
      go_simp
      refine hK _ _ ⟨_, _, _, _, _, _, _, _, _, _, _, _, _, rfl, ?_⟩
      obtain ⟨m, F, q0, q1, q2, qm, b0, b1, h4, h5⟩ := hJ.pr
      exact { f0 := fun h => hJ.f0 (h.resolve_left (by decide)), f1 := fun h => hJ.f1 (h.resolve_left (by decide)), f3 := fun h => hJ.f3 (h.resolve_left (by decide)), f4 := fun h => hJ.f4 (h.resolve_left (by decide)), f5 := fun h => hJ.f5 (h.resolve_left (by decide)), f7 := fun h => hJ.f7 (h.resolve_left (by decide)), f9 := fun h => hJ.f9 (h.resolve_left (by decide)), f10 := fun _ v z h => by simp at h; exact h.2, f11 := fun h => hJ.f11 (h.resolve_left (by decide)), f12 := fun h => absurd (hJ.c12 (h.resolve_left (by decide))) hn, c3 := fun h => .inr (hJ.c3 (h.resolve_left (by decide))), c7 := fun h => .inr (hJ.c7 (h.resolve_left (by decide))), c9 := fun h => .inr (hJ.c9 (h.resolve_left (by decide))), c10 := fun _ => .inr p8, c11 := fun h => .inr (hJ.c11 (h.resolve_left (by decide))), c12 := fun h => .inr (hJ.c12 (h.resolve_left (by decide))), bx := hJ.bx, pr := ⟨m, F, by simpa using q0, by simpa using q1, by simpa using q2, qm, fun h => b0 (h.resolve_left (by decide)), fun h => b1 (h.resolve_left (by decide)), h4, h5⟩ }
    · obtain rfl := Option.some.inj ho
      clear ho
      rintro L a w hn hp ⟨s2, s3, s11, s12, s13, s14, s15, s16, s17, s18, s19, s20, s21, rfl, hJ⟩ K hK
      have p9 : L 9 := hp { on := 9, ground := .data } (by simp) rfl
      clear hp
      go_simp
      refine hK _ _ ⟨_, _, _, _, _, _, _, _, _, _, _, _, _, rfl, ?_⟩
      obtain ⟨m, F, q0, q1, q2, qm, b0, b1, h4, h5⟩ := hJ.pr
      exact { f0 := fun h => hJ.f0 (h.resolve_left (by decide)), f1 := fun h => hJ.f1 (h.resolve_left (by decide)), f3 := fun h => hJ.f3 (h.resolve_left (by decide)), f4 := fun h => hJ.f4 (h.resolve_left (by decide)), f5 := fun h => hJ.f5 (h.resolve_left (by decide)), f7 := fun h => hJ.f7 (h.resolve_left (by decide)), f9 := fun h => hJ.f9 (h.resolve_left (by decide)), f10 := fun h => hJ.f10 (h.resolve_left (by decide)), f11 := fun _ => rfl, f12 := fun h => hJ.f12 (h.resolve_left (by decide)), c3 := fun h => .inr (hJ.c3 (h.resolve_left (by decide))), c7 := fun h => .inr (hJ.c7 (h.resolve_left (by decide))), c9 := fun h => .inr (hJ.c9 (h.resolve_left (by decide))), c10 := fun h => .inr (hJ.c10 (h.resolve_left (by decide))), c11 := fun _ => .inr p9, c12 := fun h => .inr (hJ.c12 (h.resolve_left (by decide))), bx := hJ.bx, pr := ⟨m, F, by simpa using q0, by simpa using q1, by simpa using q2, qm, fun h => b0 (h.resolve_left (by decide)), fun h => b1 (h.resolve_left (by decide)), h4, h5⟩ }
    · obtain rfl := Option.some.inj ho
      clear ho
      rintro L a w hn hp ⟨s2, s3, s11, s12, s13, s14, s15, s16, s17, s18, s19, s20, s21, rfl, hJ⟩ K hK
      have p10 : L 10 := hp { on := 10, ground := .data } (by simp) rfl
      clear hp
      go_simp
      refine hK _ _ ⟨_, _, _, _, _, _, _, _, _, _, _, _, _, rfl, ?_⟩
      obtain ⟨m, F, q0, q1, q2, qm, b0, b1, h4, h5⟩ := hJ.pr
      exact { f0 := fun h => hJ.f0 (h.resolve_left (by decide)), f1 := fun h => hJ.f1 (h.resolve_left (by decide)), f3 := fun h => hJ.f3 (h.resolve_left (by decide)), f4 := fun h => hJ.f4 (h.resolve_left (by decide)), f5 := fun h => hJ.f5 (h.resolve_left (by decide)), f7 := fun h => hJ.f7 (h.resolve_left (by decide)), f9 := fun h => hJ.f9 (h.resolve_left (by decide)), f10 := fun h => hJ.f10 (h.resolve_left (by decide)), f11 := fun h => hJ.f11 (h.resolve_left (by decide)), f12 := fun _ => rfl, c3 := fun h => .inr (hJ.c3 (h.resolve_left (by decide))), c7 := fun h => .inr (hJ.c7 (h.resolve_left (by decide))), c9 := fun h => .inr (hJ.c9 (h.resolve_left (by decide))), c10 := fun h => .inr (hJ.c10 (h.resolve_left (by decide))), c11 := fun h => .inr (hJ.c11 (h.resolve_left (by decide))), c12 := fun _ => .inr p10, bx := hJ.bx, pr := ⟨m, F, by simpa using q0, by simpa using q1, by simpa using q2, qm, fun h => b0 (h.resolve_left (by decide)), fun h => b1 (h.resolve_left (by decide)), h4, h5⟩ }
  · rintro L a w hL ⟨s2, s3, s11, s12, s13, s14, s15, s16, s17, s18, s19, s20, s21, rfl, hJ⟩
    obtain ⟨m, F, q0, q1, q2, qm, b0, b1, h4, h5⟩ := hJ.pr
    have hm : m = 3 := by have h2 := q2.1 (hL 8 (by decide)); omega
    obtain ⟨v, rfl, hf⟩ := h5 hm
    obtain rfl := hJ.f9 (hL 9 (by decide)) _ _ rfl
    obtain rfl := hJ.f10 (hL 10 (by decide)) _ _ rfl
    obtain rfl := hJ.f11 (hL 11 (by decide))
    obtain rfl := hJ.f12 (hL 12 (by decide))
    have HF := Lib.hid hf
    clear hf h4 h5 hJ hL
    go_wp2_with fail
    go_ret2
    have a := HF.out
    rw [show wnS2 x y = _ from wnS2_ok HO.out] at a ⊢
    exact ⟨_, rfl, by simpa [wnB_length] using a⟩
end Go.Proofs.YtnbemfceoianiaaDoor
