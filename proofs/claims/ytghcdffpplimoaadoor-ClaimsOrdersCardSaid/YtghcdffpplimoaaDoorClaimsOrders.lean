/-
  vigillaw05.ClaimsOrders returns true, whatever it is called with, where the table internal/strconv.uint64pow10 holds what the program's text lays there. Printed by genor.py.
-/
import Derived.Test.YtghcdffpplimoaaDoorOr3
import Derived.Test.YtghcdffpplimoaaDoorKn05
import Derived.Test.YtghcdffpplimoaaDoorReg
import Derived.Test.YtghcdffpplimoaaDoorOpenA
namespace Go.Proofs.YtghcdffpplimoaaDoor
set_option linter.unusedVariables false
set_option linter.unusedSimpArgs false
open Go.RowKit

section
variable {P : Program} {ops : Array Oper} {Q : Exit → Act → World → Prop} {a : Act} {w : World} {K : Act → World → Prop} {E : Prop}
theorem step_store_row5 {o : Oper} (hgd : o.guard = none) (ty : TypeId) (x y : Operand) (ho : o.op = .store ty x y)
    (g : Nat) (cells : Array Value) (hx : a.eval x = .pointer (some ⟨g, 0, none⟩)) (hy : a.eval y = .agg cells)
    (t : TypeId) (old : Array Value) (hg : w.heap[g]? = some (.cells old t (0, 0))) (hi : (P.info? ty).map (·.size) = some cells.size)
    (hold : old.size = cells.size) (h1 : cells.all (·.oneCell') = true)
    (h : K (a.put o.dst undef) (w.setRow g cells)) : if Region.wanted o (yielded ops a.tmps) = true then Oper.wp P o a w K Q else E := by
  have hw : Region.wanted o (yielded ops a.tmps) = true := by simp [Region.wanted, hgd]
  rw [if_pos hw]
  exact wp_store_row ty x y ho g cells hx hy t old hg hi hold h1 h
end
theorem info_c5 (a b c d : Int) : (Tryd.prog.info? 27).map (·.size) = some (#[Value.int .i64 a, .int .i64 b, .int .i64 c, .int .i64 d] : Array Value).size := by kernel_rfl
theorem one_c5 (a b c d : Int) : (#[Value.int .i64 a, .int .i64 b, .int .i64 c, .int .i64 d] : Array Value).all (·.oneCell') = true := by simp [Value.oneCell']
theorem to55 (i r x s : Int) (w : World) : Calls Tryd.prog 11 #[.agg #[.int .i64 i, .int .i64 r, .int .i64 x, .int .i64 s]] w fun e w' => e = .returned (.agg #[.int .i64 i, .int .i64 r, .int .i64 x, .int .i64 s]) ∧ Below w.heap.size w w' := by
  go_enter Tryd.func11, Tryd.ntmps11
  go_wp2
  exact bodyPost_ret (v := .agg #[.int .i64 i, .int .i64 r, .int .i64 x, .int .i64 s]) (by simp [results, Tryd.results11, go_sem]) rfl ⟨rfl, ((Below.refl _ _).alloc (Nat.le_refl _) _).alloc (by simp) _⟩
section
variable {α : Type} {a b c : α} {l : List α}
theorem p3_1 : (a :: b :: c :: l).Perm (a :: b :: c :: l) := List.Perm.refl _
theorem p3_2 : (b :: a :: c :: l).Perm (a :: b :: c :: l) := List.Perm.swap _ _ _
theorem p3_3 : (a :: c :: b :: l).Perm (a :: b :: c :: l) := (List.Perm.swap _ _ _).cons _
theorem p3_4 : (b :: c :: a :: l).Perm (a :: b :: c :: l) := ((List.Perm.swap _ _ _).cons _).trans (List.Perm.swap _ _ _)
theorem p3_5 : (c :: a :: b :: l).Perm (a :: b :: c :: l) := (List.Perm.swap _ _ _).trans ((List.Perm.swap _ _ _).cons _)
theorem p3_6 : (c :: b :: a :: l).Perm (a :: b :: c :: l) := (List.Perm.swap _ _ _).trans (((List.Perm.swap _ _ _).cons _).trans (List.Perm.swap _ _ _))
end

structure OrJ (W : World) (i1 r1 x1 s1 i2 r2 x2 s2 i3 r3 x3 s3 : Int) (L : Nat → Prop) (s9 s10 s11 s14 s15 s16 s17 s18 s19 : Value) (w : World) : Prop where
  f0 : L 0 → s14 = .agg #[.int .i64 i1, .int .i64 r1, .int .i64 x1, .int .i64 s1]
  f1 : L 1 → s15 = .agg #[.int .i64 i1, .int .i64 r1, .int .i64 x1, .int .i64 s1]
  f2 : L 2 → s16 = .agg #[.int .i64 i2, .int .i64 r2, .int .i64 x2, .int .i64 s2]
  f3 : L 3 → s17 = .agg #[.int .i64 i2, .int .i64 r2, .int .i64 x2, .int .i64 s2]
  f4 : L 4 → s18 = .agg #[.int .i64 i3, .int .i64 r3, .int .i64 x3, .int .i64 s3]
  f5 : L 5 → s19 = .agg #[.int .i64 i3, .int .i64 r3, .int .i64 x3, .int .i64 s3]
  c9 : L 9 → L 6 ∧ L 7 ∧ L 8
  c10 : L 10 → L 9
  c11 : L 11 → L 10
  bel : Below W.heap.size W w
  b1 : Bk w W.heap.size 35 #[.int .i64 i1, .int .i64 r1, .int .i64 x1, .int .i64 s1]
  b2 : Bk w (W.heap.size + 1) 35 #[.int .i64 i2, .int .i64 r2, .int .i64 x2, .int .i64 s2]
  b3 : Bk w (W.heap.size + 2) 35 #[.int .i64 i3, .int .i64 r3, .int .i64 x3, .int .i64 s3]
  pr : ∃ (g9 g10 g11 : Nat) (V9 V10 V11 : Array Value), (L 6 → s9 = .pointer (some ⟨g9, 0, none⟩) ∧ Bk w g9 27 V9 ∧ W.heap.size + 3 ≤ g9) ∧ (L 7 → s10 = .pointer (some ⟨g10, 0, none⟩) ∧ Bk w g10 27 V10 ∧ W.heap.size + 3 ≤ g10) ∧ (L 8 → s11 = .pointer (some ⟨g11, 0, none⟩) ∧ Bk w g11 27 V11 ∧ W.heap.size + 3 ≤ g11) ∧
    (L 6 → L 7 → g9 ≠ g10) ∧ (L 6 → L 8 → g9 ≠ g11) ∧ (L 7 → L 8 → g10 ≠ g11) ∧ (L 9 → V9 = #[.int .i64 i1, .int .i64 r1, .int .i64 x1, .int .i64 s1]) ∧ (L 10 → V10 = #[.int .i64 i2, .int .i64 r2, .int .i64 x2, .int .i64 s2]) ∧ (L 11 → V11 = #[.int .i64 i3, .int .i64 r3, .int .i64 x3, .int .i64 s3]) ∧ V9.size = 4 ∧ V10.size = 4 ∧ V11.size = 4
theorem Bk.setO {w : World} {g g' : Nat} {t : TypeId} {cs cs' : Array Value} (h : Bk w g t cs) (hne : g ≠ g') : Bk (w.setRow g' cs') g t cs := (On.refl w g').setRow (.inl rfl) cs' |>.bk h hne
theorem OrJ_end {W w : World} {A B C : Array Value} {g9 g10 g11 : Nat} (hb : Below W.heap.size W w) (b1 : Bk w W.heap.size 35 A) (b2 : Bk w (W.heap.size + 1) 35 B) (b3 : Bk w (W.heap.size + 2) 35 C)
    (k9 : Bk w g9 27 A) (k10 : Bk w g10 27 B) (k11 : Bk w g11 27 C) (l9 : W.heap.size + 3 ≤ g9) (l10 : W.heap.size + 3 ≤ g10) (l11 : W.heap.size + 3 ≤ g11) (m1 : g9 ≠ g10) (m2 : g9 ≠ g11) (m3 : g10 ≠ g11) :
    Mst W w [(g9, 27, A), (g10, 27, B), (g11, 27, C), (W.heap.size + 2, 35, C), (W.heap.size + 1, 35, B), (W.heap.size, 35, A)] [] := by
  refine ⟨hb, ?_, ?_, by simp, by simp, by simp⟩
  · intro x hx
    simp only [List.mem_cons, List.not_mem_nil, or_false] at hx
    rcases hx with rfl | rfl | rfl | rfl | rfl | rfl
    · exact ⟨k9, by simp only; omega⟩
    · exact ⟨k10, by simp only; omega⟩
    · exact ⟨k11, by simp only; omega⟩
    · exact ⟨b3, by simp only; omega⟩
    · exact ⟨b2, by simp only; omega⟩
    · exact ⟨b1, by simp only; omega⟩
  · simp only [List.map_cons, List.map_nil, List.nodup_cons, List.mem_cons, List.not_mem_nil, or_false, not_or, not_false_eq_true, List.nodup_nil, and_true]
    refine ⟨⟨m1, m2, ?_, ?_, ?_⟩, ⟨m3, ?_, ?_, ?_⟩, ⟨?_, ?_, ?_⟩, ⟨?_, ?_⟩, ?_⟩ <;> omega
theorem tx5_eq (a b : C5) : ((tx5 a).toList == (tx5 b).toList) = eqC a b := by
  have h : ((tx5 a).toList == (tx5 b).toList) = decide (tx5 a = tx5 b) := by
    rw [Bool.eq_iff_iff, decide_eq_true_eq, beq_iff_eq]
    constructor
    · intro h
      rw [ByteArray.toList_eq, ByteArray.toList_eq] at h
      exact ByteArray.ext (Array.toList_inj.1 h)
    · intro h
      rw [h]
  rw [h]
  unfold eqC
  rw [decide_eq_decide, C5.key_eq]
  constructor
  · intro h
    have h1 := congrArg (fun s => s.data.toList) h
    simp only [tx5] at h1
    obtain ⟨h1, h2, h3, h4⟩ := txt4_inj h1
    exact ⟨h1, h2, h3, h4⟩
  · rintro ⟨h1, h2, h3, h4⟩
    unfold tx5
    rw [h1, h2, h3, h4]

set_option maxRecDepth 100000 in
set_option maxHeartbeats 40000000 in
theorem claimsOrders_main (W : World) (i1 r1 x1 s1 i2 r2 x2 s2 i3 r3 x3 s3 tick : Int) (hc : ∀ n ∈ [i1, r1, x1, s1, i2, r2, x2, s2], -9223372036854775808 ≤ n ∧ n ≤ 9223372036854775807) (hT : ∀ w', Below W.heap.size W w' → Tab10' w') :
    Calls Tryd.prog 4 #[.agg #[.int .i64 i1, .int .i64 r1, .int .i64 x1, .int .i64 s1], .agg #[.int .i64 i2, .int .i64 r2, .int .i64 x2, .int .i64 s2], .agg #[.int .i64 i3, .int .i64 r3, .int .i64 x3, .int .i64 s3], .int .i64 tick] W fun e W' => e = .returned (.bool true) ∧ Below W.heap.size W W' := by
  have HT := Lib.hid hT
  have m0 := (((Mst.start W).new 35 #[.int .i64 i1, .int .i64 r1, .int .i64 x1, .int .i64 s1]).new 35 #[.int .i64 i2, .int .i64 r2, .int .i64 x2, .int .i64 s2]).new 35 #[.int .i64 i3, .int .i64 r3, .int .i64 x3, .int .i64 s3]
  rw [show (W.alloc (.cells #[.int .i64 i1, .int .i64 r1, .int .i64 x1, .int .i64 s1] 35)).heap.size = W.heap.size + 1 by simp, show ((W.alloc (.cells #[.int .i64 i1, .int .i64 r1, .int .i64 x1, .int .i64 s1] 35)).alloc (.cells #[.int .i64 i2, .int .i64 r2, .int .i64 x2, .int .i64 s2] 35)).heap.size = W.heap.size + 2 by simp] at m0
  have M0 := Lib.hid m0
  have HCB := Lib.hid (show ∀ w' bl, Mst W w' (bl ++ [(W.heap.size + 2, 35, #[.int .i64 i3, .int .i64 r3, .int .i64 x3, .int .i64 s3]), (W.heap.size + 1, 35, #[.int .i64 i2, .int .i64 r2, .int .i64 x2, .int .i64 s2]), (W.heap.size, 35, #[.int .i64 i1, .int .i64 r1, .int .i64 x1, .int .i64 s1])]) [] → (w'.cell? ⟨W.heap.size, 0, none⟩ = some (.int .i64 i1) ∧ w'.cell? ⟨W.heap.size, 1, none⟩ = some (.int .i64 r1) ∧ w'.cell? ⟨W.heap.size, 2, none⟩ = some (.int .i64 x1) ∧ w'.cell? ⟨W.heap.size, 3, none⟩ = some (.int .i64 s1)) ∧ (w'.cell? ⟨W.heap.size + 1, 0, none⟩ = some (.int .i64 i2) ∧ w'.cell? ⟨W.heap.size + 1, 1, none⟩ = some (.int .i64 r2) ∧ w'.cell? ⟨W.heap.size + 1, 2, none⟩ = some (.int .i64 x2) ∧ w'.cell? ⟨W.heap.size + 1, 3, none⟩ = some (.int .i64 s2)) ∧ (w'.cell? ⟨W.heap.size + 2, 0, none⟩ = some (.int .i64 i3) ∧ w'.cell? ⟨W.heap.size + 2, 1, none⟩ = some (.int .i64 r3) ∧ w'.cell? ⟨W.heap.size + 2, 2, none⟩ = some (.int .i64 x3) ∧ w'.cell? ⟨W.heap.size + 2, 3, none⟩ = some (.int .i64 s3)) from fun w' bl h =>
    ⟨h.four 35 (by simp), h.four 35 (by simp), h.four 35 (by simp)⟩)
  have HA := Lib.hid (fun w' => to55 i1 r1 x1 s1 w')
  have HB := Lib.hid (fun w' => to55 i2 r2 x2 s2 w')
  have HC := Lib.hid (fun w' => to55 i3 r3 x3 s3 w')
  have HCL := Lib.hid hc
  clear hT m0 hc
  go_enter Tryd.func4, Tryd.ntmps4
  go_upto_region 1 with fail
  generalize hw1 : World.alloc _ _ = w1
  have Mq := Lib.hid (M0.out.toV5 hw1 rfl)
  clear hw1 M0
  go_cut [9, 10, 11] (fun s9 s10 s11 w => ∃ g9 g10 g11, s9 = .pointer (some ⟨g9, 0, none⟩) ∧ s10 = .pointer (some ⟨g10, 0, none⟩) ∧ s11 = .pointer (some ⟨g11, 0, none⟩) ∧ Mst W w ([(g9, 27, #[.int .i64 i1, .int .i64 r1, .int .i64 x1, .int .i64 s1]), (g10, 27, #[.int .i64 i2, .int .i64 r2, .int .i64 x2, .int .i64 s2]), (g11, 27, #[.int .i64 i3, .int .i64 r3, .int .i64 x3, .int .i64 s3])] ++ [(W.heap.size + 2, 35, #[.int .i64 i3, .int .i64 r3, .int .i64 x3, .int .i64 s3]), (W.heap.size + 1, 35, #[.int .i64 i2, .int .i64 r2, .int .i64 x2, .int .i64 s2]), (W.heap.size, 35, #[.int .i64 i1, .int .i64 r1, .int .i64 x1, .int .i64 s1])]) [])
  case first =>
    refine wp_region_inv (by kernel_rfl) (fun L a w => ∃ s9 s10 s11 s14 s15 s16 s17 s18 s19 : Value, a = ⟨#[.agg #[.int .i64 i1, .int .i64 r1, .int .i64 x1, .int .i64 s1], .agg #[.int .i64 i2, .int .i64 r2, .int .i64 x2, .int .i64 s2], .agg #[.int .i64 i3, .int .i64 r3, .int .i64 x3, .int .i64 s3], .int .i64 tick, .pointer (some ⟨W.heap.size, 0, none⟩), .pointer (some ⟨W.heap.size + 1, 0, none⟩), .pointer (some ⟨W.heap.size + 2, 0, none⟩), undef, .bool false, s9, s10, s11, undef, undef, s14, s15, s16, s17, s18, s19, undef, undef, undef, undef, undef, undef, undef, undef, undef, undef, undef, undef, undef, undef, undef, undef, undef, undef, undef, undef, undef, undef, undef, undef, undef, undef, undef, undef, undef, undef, undef, undef, undef, undef, undef, undef, undef, undef, undef, undef, undef, undef, undef, undef, undef, undef, undef, undef, undef, undef, undef, undef, undef, undef, undef, undef, undef, undef, undef, undef, undef, undef, undef, undef, undef, undef], []⟩ ∧ OrJ W i1 r1 x1 s1 i2 r2 x2 s2 i3 r3 x3 s3 L s9 s10 s11 s14 s15 s16 s17 s18 s19 w) (by kernel_rfl) ?_ ?_ ?_
    · refine ⟨undef, undef, undef, undef, undef, undef, undef, undef, undef, rfl, ?_⟩
      exact { f0 := fun h => h.elim, f1 := fun h => h.elim, f2 := fun h => h.elim, f3 := fun h => h.elim, f4 := fun h => h.elim, f5 := fun h => h.elim, c9 := fun h => h.elim, c10 := fun h => h.elim, c11 := fun h => h.elim, bel := Mq.out.drew.bel, b1 := (Mq.out.drew.blk [_, _]), b2 := (Mq.out.drew.blk [_]), b3 := (Mq.out.drew.blk []), pr := ⟨0, 0, 0, #[.int .i64 0, .int .i64 0, .int .i64 0, .int .i64 0], #[.int .i64 0, .int .i64 0, .int .i64 0, .int .i64 0], #[.int .i64 0, .int .i64 0, .int .i64 0, .int .i64 0], fun h => h.elim, fun h => h.elim, fun h => h.elim, fun h => h.elim, fun h => h.elim, fun h => h.elim, fun h => h.elim, fun h => h.elim, fun h => h.elim, rfl, rfl, rfl⟩ }
    · intro ix o ho
      have hlt : ix < 12 := (Array.getElem?_eq_some_iff.1 ho).1
      have hcs : ix = 0 ∨ ix = 1 ∨ ix = 2 ∨ ix = 3 ∨ ix = 4 ∨ ix = 5 ∨ ix = 6 ∨ ix = 7 ∨ ix = 8 ∨ ix = 9 ∨ ix = 10 ∨ ix = 11 := by omega
      clear hlt
      rcases hcs with rfl | rfl | rfl | rfl | rfl | rfl | rfl | rfl | rfl | rfl | rfl | rfl
      · obtain rfl := Option.some.inj ho
        clear ho
        rintro L a w hn hp ⟨s9, s10, s11, s14, s15, s16, s17, s18, s19, rfl, hJ⟩ K hK
        clear hp
        have c0 : w.cell? ⟨W.heap.size, 0, none⟩ = some (.int .i64 i1) := hJ.b1.cell 0
        have c1 : w.cell? ⟨W.heap.size, 1, none⟩ = some (.int .i64 r1) := hJ.b1.cell 1
        have c2 : w.cell? ⟨W.heap.size, 2, none⟩ = some (.int .i64 x1) := hJ.b1.cell 2
        have c3 : w.cell? ⟨W.heap.size, 3, none⟩ = some (.int .i64 s1) := hJ.b1.cell 3
        go_simp
        refine hK _ _ ⟨_, _, _, _, _, _, _, _, _, rfl, ?_⟩
        obtain ⟨g9, g10, g11, V9, V10, V11, q6, q7, q8, n67, n68, n78, v9, v10, v11, z9, z10, z11⟩ := hJ.pr
        exact { f0 := fun _ => rfl, f1 := fun h => hJ.f1 (h.resolve_left (by decide)), f2 := fun h => hJ.f2 (h.resolve_left (by decide)), f3 := fun h => hJ.f3 (h.resolve_left (by decide)), f4 := fun h => hJ.f4 (h.resolve_left (by decide)), f5 := fun h => hJ.f5 (h.resolve_left (by decide)), c9 := fun h => have h := hJ.c9 (h.resolve_left (by decide)); ⟨.inr h.1, .inr h.2.1, .inr h.2.2⟩, c10 := fun h => .inr (hJ.c10 (h.resolve_left (by decide))), c11 := fun h => .inr (hJ.c11 (h.resolve_left (by decide))), bel := hJ.bel, b1 := hJ.b1, b2 := hJ.b2, b3 := hJ.b3, pr := ⟨g9, g10, g11, V9, V10, V11, fun h => q6 (h.resolve_left (by decide)), fun h => q7 (h.resolve_left (by decide)), fun h => q8 (h.resolve_left (by decide)), fun h h2 => n67 (h.resolve_left (by decide)) (h2.resolve_left (by decide)), fun h h2 => n68 (h.resolve_left (by decide)) (h2.resolve_left (by decide)), fun h h2 => n78 (h.resolve_left (by decide)) (h2.resolve_left (by decide)), fun h => v9 (h.resolve_left (by decide)), fun h => v10 (h.resolve_left (by decide)), fun h => v11 (h.resolve_left (by decide)), z9, z10, z11⟩ }
      · obtain rfl := Option.some.inj ho
        clear ho
        rintro L a w hn hp ⟨s9, s10, s11, s14, s15, s16, s17, s18, s19, rfl, hJ⟩ K hK
        have p0 : L 0 := hp { on := 0, ground := .data } (by simp) rfl
        clear hp
        obtain rfl := hJ.f0 p0
        go_simp
        refine (HA.out _).mono ?_
        rintro e w2 ⟨rfl, hb⟩
        refine hK _ _ ⟨_, _, _, _, _, _, _, _, _, rfl, ?_⟩
        obtain ⟨g9, g10, g11, V9, V10, V11, q6, q7, q8, n67, n68, n78, v9, v10, v11, z9, z10, z11⟩ := hJ.pr
        exact { f0 := fun h => hJ.f0 (h.resolve_left (by decide)), f1 := fun _ => rfl, f2 := fun h => hJ.f2 (h.resolve_left (by decide)), f3 := fun h => hJ.f3 (h.resolve_left (by decide)), f4 := fun h => hJ.f4 (h.resolve_left (by decide)), f5 := fun h => hJ.f5 (h.resolve_left (by decide)), c9 := fun h => have h := hJ.c9 (h.resolve_left (by decide)); ⟨.inr h.1, .inr h.2.1, .inr h.2.2⟩, c10 := fun h => .inr (hJ.c10 (h.resolve_left (by decide))), c11 := fun h => .inr (hJ.c11 (h.resolve_left (by decide))), bel := hJ.bel.trans (hb.mono hJ.bel.size), b1 := hJ.b1.below hb hJ.b1.lt, b2 := hJ.b2.below hb hJ.b2.lt, b3 := hJ.b3.below hb hJ.b3.lt, pr := ⟨g9, g10, g11, V9, V10, V11, fun h => have e := q6 (h.resolve_left (by decide)); ⟨e.1, e.2.1.below hb e.2.1.lt, e.2.2⟩, fun h => have e := q7 (h.resolve_left (by decide)); ⟨e.1, e.2.1.below hb e.2.1.lt, e.2.2⟩, fun h => have e := q8 (h.resolve_left (by decide)); ⟨e.1, e.2.1.below hb e.2.1.lt, e.2.2⟩, fun h h2 => n67 (h.resolve_left (by decide)) (h2.resolve_left (by decide)), fun h h2 => n68 (h.resolve_left (by decide)) (h2.resolve_left (by decide)), fun h h2 => n78 (h.resolve_left (by decide)) (h2.resolve_left (by decide)), fun h => v9 (h.resolve_left (by decide)), fun h => v10 (h.resolve_left (by decide)), fun h => v11 (h.resolve_left (by decide)), z9, z10, z11⟩ }
      · obtain rfl := Option.some.inj ho
        clear ho
        rintro L a w hn hp ⟨s9, s10, s11, s14, s15, s16, s17, s18, s19, rfl, hJ⟩ K hK
        clear hp
        have c0 : w.cell? ⟨W.heap.size + 1, 0, none⟩ = some (.int .i64 i2) := hJ.b2.cell 0
        have c1 : w.cell? ⟨W.heap.size + 1, 1, none⟩ = some (.int .i64 r2) := hJ.b2.cell 1
        have c2 : w.cell? ⟨W.heap.size + 1, 2, none⟩ = some (.int .i64 x2) := hJ.b2.cell 2
        have c3 : w.cell? ⟨W.heap.size + 1, 3, none⟩ = some (.int .i64 s2) := hJ.b2.cell 3
        go_simp
        refine hK _ _ ⟨_, _, _, _, _, _, _, _, _, rfl, ?_⟩
        obtain ⟨g9, g10, g11, V9, V10, V11, q6, q7, q8, n67, n68, n78, v9, v10, v11, z9, z10, z11⟩ := hJ.pr
        exact { f0 := fun h => hJ.f0 (h.resolve_left (by decide)), f1 := fun h => hJ.f1 (h.resolve_left (by decide)), f2 := fun _ => rfl, f3 := fun h => hJ.f3 (h.resolve_left (by decide)), f4 := fun h => hJ.f4 (h.resolve_left (by decide)), f5 := fun h => hJ.f5 (h.resolve_left (by decide)), c9 := fun h => have h := hJ.c9 (h.resolve_left (by decide)); ⟨.inr h.1, .inr h.2.1, .inr h.2.2⟩, c10 := fun h => .inr (hJ.c10 (h.resolve_left (by decide))), c11 := fun h => .inr (hJ.c11 (h.resolve_left (by decide))), bel := hJ.bel, b1 := hJ.b1, b2 := hJ.b2, b3 := hJ.b3, pr := ⟨g9, g10, g11, V9, V10, V11, fun h => q6 (h.resolve_left (by decide)), fun h => q7 (h.resolve_left (by decide)), fun h => q8 (h.resolve_left (by decide)), fun h h2 => n67 (h.resolve_left (by decide)) (h2.resolve_left (by decide)), fun h h2 => n68 (h.resolve_left (by decide)) (h2.resolve_left (by decide)), fun h h2 => n78 (h.resolve_left (by decide)) (h2.resolve_left (by decide)), fun h => v9 (h.resolve_left (by decide)), fun h => v10 (h.resolve_left (by decide)), fun h => v11 (h.resolve_left (by decide)), z9, z10, z11⟩ }
      · obtain rfl := Option.some.inj ho
        clear ho
        rintro L a w hn hp ⟨s9, s10, s11, s14, s15, s16, s17, s18, s19, rfl, hJ⟩ K hK
        have p2 : L 2 := hp { on := 2, ground := .data } (by simp) rfl
        clear hp
        obtain rfl := hJ.f2 p2
        go_simp
        refine (HB.out _).mono ?_
        rintro e w2 ⟨rfl, hb⟩
        refine hK _ _ ⟨_, _, _, _, _, _, _, _, _, rfl, ?_⟩
        obtain ⟨g9, g10, g11, V9, V10, V11, q6, q7, q8, n67, n68, n78, v9, v10, v11, z9, z10, z11⟩ := hJ.pr
        exact { f0 := fun h => hJ.f0 (h.resolve_left (by decide)), f1 := fun h => hJ.f1 (h.resolve_left (by decide)), f2 := fun h => hJ.f2 (h.resolve_left (by decide)), f3 := fun _ => rfl, f4 := fun h => hJ.f4 (h.resolve_left (by decide)), f5 := fun h => hJ.f5 (h.resolve_left (by decide)), c9 := fun h => have h := hJ.c9 (h.resolve_left (by decide)); ⟨.inr h.1, .inr h.2.1, .inr h.2.2⟩, c10 := fun h => .inr (hJ.c10 (h.resolve_left (by decide))), c11 := fun h => .inr (hJ.c11 (h.resolve_left (by decide))), bel := hJ.bel.trans (hb.mono hJ.bel.size), b1 := hJ.b1.below hb hJ.b1.lt, b2 := hJ.b2.below hb hJ.b2.lt, b3 := hJ.b3.below hb hJ.b3.lt, pr := ⟨g9, g10, g11, V9, V10, V11, fun h => have e := q6 (h.resolve_left (by decide)); ⟨e.1, e.2.1.below hb e.2.1.lt, e.2.2⟩, fun h => have e := q7 (h.resolve_left (by decide)); ⟨e.1, e.2.1.below hb e.2.1.lt, e.2.2⟩, fun h => have e := q8 (h.resolve_left (by decide)); ⟨e.1, e.2.1.below hb e.2.1.lt, e.2.2⟩, fun h h2 => n67 (h.resolve_left (by decide)) (h2.resolve_left (by decide)), fun h h2 => n68 (h.resolve_left (by decide)) (h2.resolve_left (by decide)), fun h h2 => n78 (h.resolve_left (by decide)) (h2.resolve_left (by decide)), fun h => v9 (h.resolve_left (by decide)), fun h => v10 (h.resolve_left (by decide)), fun h => v11 (h.resolve_left (by decide)), z9, z10, z11⟩ }
      · obtain rfl := Option.some.inj ho
        clear ho
        rintro L a w hn hp ⟨s9, s10, s11, s14, s15, s16, s17, s18, s19, rfl, hJ⟩ K hK
        clear hp
        have c0 : w.cell? ⟨W.heap.size + 2, 0, none⟩ = some (.int .i64 i3) := hJ.b3.cell 0
        have c1 : w.cell? ⟨W.heap.size + 2, 1, none⟩ = some (.int .i64 r3) := hJ.b3.cell 1
        have c2 : w.cell? ⟨W.heap.size + 2, 2, none⟩ = some (.int .i64 x3) := hJ.b3.cell 2
        have c3 : w.cell? ⟨W.heap.size + 2, 3, none⟩ = some (.int .i64 s3) := hJ.b3.cell 3
        go_simp
        refine hK _ _ ⟨_, _, _, _, _, _, _, _, _, rfl, ?_⟩
        obtain ⟨g9, g10, g11, V9, V10, V11, q6, q7, q8, n67, n68, n78, v9, v10, v11, z9, z10, z11⟩ := hJ.pr
        exact { f0 := fun h => hJ.f0 (h.resolve_left (by decide)), f1 := fun h => hJ.f1 (h.resolve_left (by decide)), f2 := fun h => hJ.f2 (h.resolve_left (by decide)), f3 := fun h => hJ.f3 (h.resolve_left (by decide)), f4 := fun _ => rfl, f5 := fun h => hJ.f5 (h.resolve_left (by decide)), c9 := fun h => have h := hJ.c9 (h.resolve_left (by decide)); ⟨.inr h.1, .inr h.2.1, .inr h.2.2⟩, c10 := fun h => .inr (hJ.c10 (h.resolve_left (by decide))), c11 := fun h => .inr (hJ.c11 (h.resolve_left (by decide))), bel := hJ.bel, b1 := hJ.b1, b2 := hJ.b2, b3 := hJ.b3, pr := ⟨g9, g10, g11, V9, V10, V11, fun h => q6 (h.resolve_left (by decide)), fun h => q7 (h.resolve_left (by decide)), fun h => q8 (h.resolve_left (by decide)), fun h h2 => n67 (h.resolve_left (by decide)) (h2.resolve_left (by decide)), fun h h2 => n68 (h.resolve_left (by decide)) (h2.resolve_left (by decide)), fun h h2 => n78 (h.resolve_left (by decide)) (h2.resolve_left (by decide)), fun h => v9 (h.resolve_left (by decide)), fun h => v10 (h.resolve_left (by decide)), fun h => v11 (h.resolve_left (by decide)), z9, z10, z11⟩ }
      · obtain rfl := Option.some.inj ho
        clear ho
        rintro L a w hn hp ⟨s9, s10, s11, s14, s15, s16, s17, s18, s19, rfl, hJ⟩ K hK
        have p4 : L 4 := hp { on := 4, ground := .data } (by simp) rfl
        clear hp
        obtain rfl := hJ.f4 p4
        go_simp
        refine (HC.out _).mono ?_
        rintro e w2 ⟨rfl, hb⟩
        refine hK _ _ ⟨_, _, _, _, _, _, _, _, _, rfl, ?_⟩
        obtain ⟨g9, g10, g11, V9, V10, V11, q6, q7, q8, n67, n68, n78, v9, v10, v11, z9, z10, z11⟩ := hJ.pr
        exact { f0 := fun h => hJ.f0 (h.resolve_left (by decide)), f1 := fun h => hJ.f1 (h.resolve_left (by decide)), f2 := fun h => hJ.f2 (h.resolve_left (by decide)), f3 := fun h => hJ.f3 (h.resolve_left (by decide)), f4 := fun h => hJ.f4 (h.resolve_left (by decide)), f5 := fun _ => rfl, c9 := fun h => have h := hJ.c9 (h.resolve_left (by decide)); ⟨.inr h.1, .inr h.2.1, .inr h.2.2⟩, c10 := fun h => .inr (hJ.c10 (h.resolve_left (by decide))), c11 := fun h => .inr (hJ.c11 (h.resolve_left (by decide))), bel := hJ.bel.trans (hb.mono hJ.bel.size), b1 := hJ.b1.below hb hJ.b1.lt, b2 := hJ.b2.below hb hJ.b2.lt, b3 := hJ.b3.below hb hJ.b3.lt, pr := ⟨g9, g10, g11, V9, V10, V11, fun h => have e := q6 (h.resolve_left (by decide)); ⟨e.1, e.2.1.below hb e.2.1.lt, e.2.2⟩, fun h => have e := q7 (h.resolve_left (by decide)); ⟨e.1, e.2.1.below hb e.2.1.lt, e.2.2⟩, fun h => have e := q8 (h.resolve_left (by decide)); ⟨e.1, e.2.1.below hb e.2.1.lt, e.2.2⟩, fun h h2 => n67 (h.resolve_left (by decide)) (h2.resolve_left (by decide)), fun h h2 => n68 (h.resolve_left (by decide)) (h2.resolve_left (by decide)), fun h h2 => n78 (h.resolve_left (by decide)) (h2.resolve_left (by decide)), fun h => v9 (h.resolve_left (by decide)), fun h => v10 (h.resolve_left (by decide)), fun h => v11 (h.resolve_left (by decide)), z9, z10, z11⟩ }
      · obtain rfl := Option.some.inj ho
        clear ho
        rintro L a w hn hp ⟨s9, s10, s11, s14, s15, s16, s17, s18, s19, rfl, hJ⟩ K hK
        clear hp
        obtain ⟨g9, g10, g11, V9, V10, V11, q6, q7, q8, n67, n68, n78, v9, v10, v11, z9, z10, z11⟩ := hJ.pr
        go_simp
        refine hK _ _ ⟨_, _, _, _, _, _, _, _, _, rfl, ?_⟩
        exact { f0 := fun h => hJ.f0 (h.resolve_left (by decide)), f1 := fun h => hJ.f1 (h.resolve_left (by decide)), f2 := fun h => hJ.f2 (h.resolve_left (by decide)), f3 := fun h => hJ.f3 (h.resolve_left (by decide)), f4 := fun h => hJ.f4 (h.resolve_left (by decide)), f5 := fun h => hJ.f5 (h.resolve_left (by decide)), c9 := fun h => have h := hJ.c9 (h.resolve_left (by decide)); ⟨.inr h.1, .inr h.2.1, .inr h.2.2⟩, c10 := fun h => .inr (hJ.c10 (h.resolve_left (by decide))), c11 := fun h => .inr (hJ.c11 (h.resolve_left (by decide))), bel := hJ.bel.alloc hJ.bel.size _, b1 := hJ.b1.alloc _, b2 := hJ.b2.alloc _, b3 := hJ.b3.alloc _, pr := ⟨w.heap.size, g10, g11, #[.int .i64 0, .int .i64 0, .int .i64 0, .int .i64 0], V10, V11, fun _ => ⟨rfl, Bk.mk_ _ _ _, (by have h1 := hJ.b3.lt; omega)⟩, fun h => have e := q7 (h.resolve_left (by decide)); ⟨e.1, e.2.1.alloc _, e.2.2⟩, fun h => have e := q8 (h.resolve_left (by decide)); ⟨e.1, e.2.1.alloc _, e.2.2⟩, fun _ h2 => Nat.ne_of_gt (q7 (h2.resolve_left (by decide))).2.1.lt, fun _ h2 => Nat.ne_of_gt (q8 (h2.resolve_left (by decide))).2.1.lt, fun h h2 => n78 (h.resolve_left (by decide)) (h2.resolve_left (by decide)), fun h => absurd (hJ.c9 (h.resolve_left (by decide))).1 hn, fun h => v10 (h.resolve_left (by decide)), fun h => v11 (h.resolve_left (by decide)), rfl, z10, z11⟩ }
      · obtain rfl := Option.some.inj ho
        clear ho
        rintro L a w hn hp ⟨s9, s10, s11, s14, s15, s16, s17, s18, s19, rfl, hJ⟩ K hK
        clear hp
        obtain ⟨g9, g10, g11, V9, V10, V11, q6, q7, q8, n67, n68, n78, v9, v10, v11, z9, z10, z11⟩ := hJ.pr
        go_simp
        refine hK _ _ ⟨_, _, _, _, _, _, _, _, _, rfl, ?_⟩
        exact { f0 := fun h => hJ.f0 (h.resolve_left (by decide)), f1 := fun h => hJ.f1 (h.resolve_left (by decide)), f2 := fun h => hJ.f2 (h.resolve_left (by decide)), f3 := fun h => hJ.f3 (h.resolve_left (by decide)), f4 := fun h => hJ.f4 (h.resolve_left (by decide)), f5 := fun h => hJ.f5 (h.resolve_left (by decide)), c9 := fun h => have h := hJ.c9 (h.resolve_left (by decide)); ⟨.inr h.1, .inr h.2.1, .inr h.2.2⟩, c10 := fun h => .inr (hJ.c10 (h.resolve_left (by decide))), c11 := fun h => .inr (hJ.c11 (h.resolve_left (by decide))), bel := hJ.bel.alloc hJ.bel.size _, b1 := hJ.b1.alloc _, b2 := hJ.b2.alloc _, b3 := hJ.b3.alloc _, pr := ⟨g9, w.heap.size, g11, V9, #[.int .i64 0, .int .i64 0, .int .i64 0, .int .i64 0], V11, fun h => have e := q6 (h.resolve_left (by decide)); ⟨e.1, e.2.1.alloc _, e.2.2⟩, fun _ => ⟨rfl, Bk.mk_ _ _ _, (by have h1 := hJ.b3.lt; omega)⟩, fun h => have e := q8 (h.resolve_left (by decide)); ⟨e.1, e.2.1.alloc _, e.2.2⟩, fun h _ => Nat.ne_of_lt (q6 (h.resolve_left (by decide))).2.1.lt, fun h h2 => n68 (h.resolve_left (by decide)) (h2.resolve_left (by decide)), fun _ h2 => Nat.ne_of_gt (q8 (h2.resolve_left (by decide))).2.1.lt, fun h => v9 (h.resolve_left (by decide)), fun h => absurd (hJ.c9 (hJ.c10 (h.resolve_left (by decide)))).2.1 hn, fun h => v11 (h.resolve_left (by decide)), z9, rfl, z11⟩ }
      · obtain rfl := Option.some.inj ho
        clear ho
        rintro L a w hn hp ⟨s9, s10, s11, s14, s15, s16, s17, s18, s19, rfl, hJ⟩ K hK
        clear hp
        obtain ⟨g9, g10, g11, V9, V10, V11, q6, q7, q8, n67, n68, n78, v9, v10, v11, z9, z10, z11⟩ := hJ.pr
        go_simp
        refine hK _ _ ⟨_, _, _, _, _, _, _, _, _, rfl, ?_⟩
        exact { f0 := fun h => hJ.f0 (h.resolve_left (by decide)), f1 := fun h => hJ.f1 (h.resolve_left (by decide)), f2 := fun h => hJ.f2 (h.resolve_left (by decide)), f3 := fun h => hJ.f3 (h.resolve_left (by decide)), f4 := fun h => hJ.f4 (h.resolve_left (by decide)), f5 := fun h => hJ.f5 (h.resolve_left (by decide)), c9 := fun h => have h := hJ.c9 (h.resolve_left (by decide)); ⟨.inr h.1, .inr h.2.1, .inr h.2.2⟩, c10 := fun h => .inr (hJ.c10 (h.resolve_left (by decide))), c11 := fun h => .inr (hJ.c11 (h.resolve_left (by decide))), bel := hJ.bel.alloc hJ.bel.size _, b1 := hJ.b1.alloc _, b2 := hJ.b2.alloc _, b3 := hJ.b3.alloc _, pr := ⟨g9, g10, w.heap.size, V9, V10, #[.int .i64 0, .int .i64 0, .int .i64 0, .int .i64 0], fun h => have e := q6 (h.resolve_left (by decide)); ⟨e.1, e.2.1.alloc _, e.2.2⟩, fun h => have e := q7 (h.resolve_left (by decide)); ⟨e.1, e.2.1.alloc _, e.2.2⟩, fun _ => ⟨rfl, Bk.mk_ _ _ _, (by have h1 := hJ.b3.lt; omega)⟩, fun h h2 => n67 (h.resolve_left (by decide)) (h2.resolve_left (by decide)), fun h _ => Nat.ne_of_lt (q6 (h.resolve_left (by decide))).2.1.lt, fun h _ => Nat.ne_of_lt (q7 (h.resolve_left (by decide))).2.1.lt, fun h => v9 (h.resolve_left (by decide)), fun h => v10 (h.resolve_left (by decide)), fun h => absurd (hJ.c9 (hJ.c10 (hJ.c11 (h.resolve_left (by decide))))).2.2 hn, z9, z10, rfl⟩ }
      · obtain rfl := Option.some.inj ho
        clear ho
        rintro L a w hn hp ⟨s9, s10, s11, s14, s15, s16, s17, s18, s19, rfl, hJ⟩ K hK
        have p6 : L 6 := hp { on := 6, ground := .data } (by simp) rfl
        have p1 : L 1 := hp { on := 1, ground := .data } (by simp) rfl
        have p7 : L 7 := hp { on := 7, ground := .phase } (by simp) rfl
        have p8 : L 8 := hp { on := 8, ground := .phase } (by simp) rfl
        clear hp
        obtain rfl := hJ.f1 p1
        obtain ⟨g9, g10, g11, V9, V10, V11, q6, q7, q8, n67, n68, n78, v9, v10, v11, z9, z10, z11⟩ := hJ.pr
        obtain ⟨rfl, k9, l9⟩ := q6 p6
        obtain ⟨rfl, k10, l10⟩ := q7 p7
        obtain ⟨rfl, k11, l11⟩ := q8 p8
        have m1 := n67 p6 p7
        have m2 := n68 p6 p8
        have m3 := n78 p7 p8
        refine step_store_row5 rfl _ _ _ rfl g9 #[.int .i64 i1, .int .i64 r1, .int .i64 x1, .int .i64 s1] rfl rfl 27 _ k9 (info_c5 _ _ _ _) z9 (one_c5 _ _ _ _) ?_
        refine hK _ _ ⟨_, _, _, _, _, _, _, _, _, rfl, ?_⟩
        exact { f0 := fun h => hJ.f0 (h.resolve_left (by decide)), f1 := fun h => hJ.f1 (h.resolve_left (by decide)), f2 := fun h => hJ.f2 (h.resolve_left (by decide)), f3 := fun h => hJ.f3 (h.resolve_left (by decide)), f4 := fun h => hJ.f4 (h.resolve_left (by decide)), f5 := fun h => hJ.f5 (h.resolve_left (by decide)), c9 := fun _ => ⟨.inr p6, .inr p7, .inr p8⟩, c10 := fun h => .inr (hJ.c10 (h.resolve_left (by decide))), c11 := fun h => .inr (hJ.c11 (h.resolve_left (by decide))), bel := hJ.bel.trans (((On.refl w g9).setRow (.inl rfl) _).below (by omega) hJ.bel.size), b1 := hJ.b1.setO (by omega), b2 := hJ.b2.setO (by omega), b3 := hJ.b3.setO (by omega), pr := ⟨g9, g10, g11, #[.int .i64 i1, .int .i64 r1, .int .i64 x1, .int .i64 s1], V10, V11, fun _ => ⟨rfl, k9.setRow _, l9⟩, fun _ => ⟨rfl, k10.setO (by omega), l10⟩, fun _ => ⟨rfl, k11.setO (by omega), l11⟩, fun _ _ => m1, fun _ _ => m2, fun _ _ => m3, fun _ => rfl, fun h => v10 (h.resolve_left (by decide)), fun h => v11 (h.resolve_left (by decide)), rfl, z10, z11⟩ }
      · obtain rfl := Option.some.inj ho
        clear ho
        rintro L a w hn hp ⟨s9, s10, s11, s14, s15, s16, s17, s18, s19, rfl, hJ⟩ K hK
        have p7 : L 7 := hp { on := 7, ground := .data } (by simp) rfl
        have p3 : L 3 := hp { on := 3, ground := .data } (by simp) rfl
        have p6 : L 6 := hp { on := 6, ground := .phase } (by simp) rfl
        have p8 : L 8 := hp { on := 8, ground := .phase } (by simp) rfl
        have p9 : L 9 := hp { on := 9, ground := .chain } (by simp) rfl
        clear hp
        obtain rfl := hJ.f3 p3
        obtain ⟨g9, g10, g11, V9, V10, V11, q6, q7, q8, n67, n68, n78, v9, v10, v11, z9, z10, z11⟩ := hJ.pr
        obtain ⟨rfl, k9, l9⟩ := q6 p6
        obtain ⟨rfl, k10, l10⟩ := q7 p7
        obtain ⟨rfl, k11, l11⟩ := q8 p8
        have m1 := n67 p6 p7
        have m2 := n68 p6 p8
        have m3 := n78 p7 p8
        refine step_store_row5 rfl _ _ _ rfl g10 #[.int .i64 i2, .int .i64 r2, .int .i64 x2, .int .i64 s2] rfl rfl 27 _ k10 (info_c5 _ _ _ _) z10 (one_c5 _ _ _ _) ?_
        refine hK _ _ ⟨_, _, _, _, _, _, _, _, _, rfl, ?_⟩
        exact { f0 := fun h => hJ.f0 (h.resolve_left (by decide)), f1 := fun h => hJ.f1 (h.resolve_left (by decide)), f2 := fun h => hJ.f2 (h.resolve_left (by decide)), f3 := fun h => hJ.f3 (h.resolve_left (by decide)), f4 := fun h => hJ.f4 (h.resolve_left (by decide)), f5 := fun h => hJ.f5 (h.resolve_left (by decide)), c9 := fun h => have h := hJ.c9 (h.resolve_left (by decide)); ⟨.inr h.1, .inr h.2.1, .inr h.2.2⟩, c10 := fun _ => .inr p9, c11 := fun h => .inr (hJ.c11 (h.resolve_left (by decide))), bel := hJ.bel.trans (((On.refl w g10).setRow (.inl rfl) _).below (by omega) hJ.bel.size), b1 := hJ.b1.setO (by omega), b2 := hJ.b2.setO (by omega), b3 := hJ.b3.setO (by omega), pr := ⟨g9, g10, g11, V9, #[.int .i64 i2, .int .i64 r2, .int .i64 x2, .int .i64 s2], V11, fun _ => ⟨rfl, k9.setO (by omega), l9⟩, fun _ => ⟨rfl, k10.setRow _, l10⟩, fun _ => ⟨rfl, k11.setO (by omega), l11⟩, fun _ _ => m1, fun _ _ => m2, fun _ _ => m3, fun h => v9 (h.resolve_left (by decide)), fun _ => rfl, fun h => v11 (h.resolve_left (by decide)), z9, rfl, z11⟩ }
      · obtain rfl := Option.some.inj ho
        clear ho
        rintro L a w hn hp ⟨s9, s10, s11, s14, s15, s16, s17, s18, s19, rfl, hJ⟩ K hK
        have p8 : L 8 := hp { on := 8, ground := .data } (by simp) rfl
        have p5 : L 5 := hp { on := 5, ground := .data } (by simp) rfl
        have p6 : L 6 := hp { on := 6, ground := .phase } (by simp) rfl
        have p7 : L 7 := hp { on := 7, ground := .phase } (by simp) rfl
        have p10 : L 10 := hp { on := 10, ground := .chain } (by simp) rfl
        clear hp
        obtain rfl := hJ.f5 p5
        obtain ⟨g9, g10, g11, V9, V10, V11, q6, q7, q8, n67, n68, n78, v9, v10, v11, z9, z10, z11⟩ := hJ.pr
        obtain ⟨rfl, k9, l9⟩ := q6 p6
        obtain ⟨rfl, k10, l10⟩ := q7 p7
        obtain ⟨rfl, k11, l11⟩ := q8 p8
        have m1 := n67 p6 p7
        have m2 := n68 p6 p8
        have m3 := n78 p7 p8
        refine step_store_row5 rfl _ _ _ rfl g11 #[.int .i64 i3, .int .i64 r3, .int .i64 x3, .int .i64 s3] rfl rfl 27 _ k11 (info_c5 _ _ _ _) z11 (one_c5 _ _ _ _) ?_
        refine hK _ _ ⟨_, _, _, _, _, _, _, _, _, rfl, ?_⟩
        exact { f0 := fun h => hJ.f0 (h.resolve_left (by decide)), f1 := fun h => hJ.f1 (h.resolve_left (by decide)), f2 := fun h => hJ.f2 (h.resolve_left (by decide)), f3 := fun h => hJ.f3 (h.resolve_left (by decide)), f4 := fun h => hJ.f4 (h.resolve_left (by decide)), f5 := fun h => hJ.f5 (h.resolve_left (by decide)), c9 := fun h => have h := hJ.c9 (h.resolve_left (by decide)); ⟨.inr h.1, .inr h.2.1, .inr h.2.2⟩, c10 := fun h => .inr (hJ.c10 (h.resolve_left (by decide))), c11 := fun _ => .inr p10, bel := hJ.bel.trans (((On.refl w g11).setRow (.inl rfl) _).below (by omega) hJ.bel.size), b1 := hJ.b1.setO (by omega), b2 := hJ.b2.setO (by omega), b3 := hJ.b3.setO (by omega), pr := ⟨g9, g10, g11, V9, V10, #[.int .i64 i3, .int .i64 r3, .int .i64 x3, .int .i64 s3], fun _ => ⟨rfl, k9.setO (by omega), l9⟩, fun _ => ⟨rfl, k10.setO (by omega), l10⟩, fun _ => ⟨rfl, k11.setRow _, l11⟩, fun _ _ => m1, fun _ _ => m2, fun _ _ => m3, fun h => v9 (h.resolve_left (by decide)), fun h => v10 (h.resolve_left (by decide)), fun _ => rfl, z9, z10, rfl⟩ }
    · rintro L a w hL ⟨s9, s10, s11, s14, s15, s16, s17, s18, s19, rfl, hJ⟩
      obtain ⟨g9, g10, g11, V9, V10, V11, q6, q7, q8, n67, n68, n78, v9, v10, v11, z9, z10, z11⟩ := hJ.pr
      obtain ⟨rfl, k9, l9⟩ := q6 (hL 6 (by decide))
      obtain ⟨rfl, k10, l10⟩ := q7 (hL 7 (by decide))
      obtain ⟨rfl, k11, l11⟩ := q8 (hL 8 (by decide))
      have m1 := n67 (hL 6 (by decide)) (hL 7 (by decide))
      have m2 := n68 (hL 6 (by decide)) (hL 8 (by decide))
      have m3 := n78 (hL 7 (by decide)) (hL 8 (by decide))
      obtain rfl := v9 (hL 9 (by decide))
      obtain rfl := v10 (hL 10 (by decide))
      obtain rfl := v11 (hL 11 (by decide))
      have HM := Lib.hid (OrJ_end hJ.bel hJ.b1 hJ.b2 hJ.b3 k9 k10 k11 l9 l10 l11 m1 m2 m3)
      clear hJ hL q6 q7 q8 k9 k10 k11
      dsimp only
      go_wp2_with fail
      go_meet
      exact ⟨g9, g10, g11, rfl, rfl, rfl, HM.out⟩
  case rest =>
    obtain ⟨g9, g10, g11, rfl, rfl, rfl, hm⟩ := hcut
    have HCE := Lib.hid (show ∀ w', Mst W w' [(g9, 27, #[.int .i64 i1, .int .i64 r1, .int .i64 x1, .int .i64 s1]), (g10, 27, #[.int .i64 i2, .int .i64 r2, .int .i64 x2, .int .i64 s2]), (g11, 27, #[.int .i64 i3, .int .i64 r3, .int .i64 x3, .int .i64 s3]), (W.heap.size + 2, 35, #[.int .i64 i3, .int .i64 r3, .int .i64 x3, .int .i64 s3]), (W.heap.size + 1, 35, #[.int .i64 i2, .int .i64 r2, .int .i64 x2, .int .i64 s2]), (W.heap.size, 35, #[.int .i64 i1, .int .i64 r1, .int .i64 x1, .int .i64 s1])] [] → (w'.cell? ⟨g9, 0, none⟩ = some (.int .i64 i1) ∧ w'.cell? ⟨g9, 1, none⟩ = some (.int .i64 r1) ∧ w'.cell? ⟨g9, 2, none⟩ = some (.int .i64 x1) ∧ w'.cell? ⟨g9, 3, none⟩ = some (.int .i64 s1)) ∧ (w'.cell? ⟨g10, 0, none⟩ = some (.int .i64 i2) ∧ w'.cell? ⟨g10, 1, none⟩ = some (.int .i64 r2) ∧ w'.cell? ⟨g10, 2, none⟩ = some (.int .i64 x2) ∧ w'.cell? ⟨g10, 3, none⟩ = some (.int .i64 s2)) ∧ (w'.cell? ⟨g11, 0, none⟩ = some (.int .i64 i3) ∧ w'.cell? ⟨g11, 1, none⟩ = some (.int .i64 r3) ∧ w'.cell? ⟨g11, 2, none⟩ = some (.int .i64 x3) ∧ w'.cell? ⟨g11, 3, none⟩ = some (.int .i64 s3)) ∧ (w'.cell? ⟨W.heap.size, 0, none⟩ = some (.int .i64 i1) ∧ w'.cell? ⟨W.heap.size, 1, none⟩ = some (.int .i64 r1) ∧ w'.cell? ⟨W.heap.size, 2, none⟩ = some (.int .i64 x1) ∧ w'.cell? ⟨W.heap.size, 3, none⟩ = some (.int .i64 s1)) ∧ (w'.cell? ⟨W.heap.size + 1, 0, none⟩ = some (.int .i64 i2) ∧ w'.cell? ⟨W.heap.size + 1, 1, none⟩ = some (.int .i64 r2) ∧ w'.cell? ⟨W.heap.size + 1, 2, none⟩ = some (.int .i64 x2) ∧ w'.cell? ⟨W.heap.size + 1, 3, none⟩ = some (.int .i64 s2)) from fun w' h => ⟨h.four 27 (by simp), h.four 27 (by simp), h.four 27 (by simp), h.four 35 (by simp), h.four 35 (by simp)⟩)
    have Mq := Lib.hid (show Mst W _ [(g9, 27, #[.int .i64 i1, .int .i64 r1, .int .i64 x1, .int .i64 s1]), (g10, 27, #[.int .i64 i2, .int .i64 r2, .int .i64 x2, .int .i64 s2]), (g11, 27, #[.int .i64 i3, .int .i64 r3, .int .i64 x3, .int .i64 s3]), (W.heap.size + 2, 35, #[.int .i64 i3, .int .i64 r3, .int .i64 x3, .int .i64 s3]), (W.heap.size + 1, 35, #[.int .i64 i2, .int .i64 r2, .int .i64 x2, .int .i64 s2]), (W.heap.size, 35, #[.int .i64 i1, .int .i64 r1, .int .i64 x1, .int .i64 s1])] [] from hm)
    clear hm
    obtain ⟨n, hn⟩ : ∃ n, cmpC ⟨i1, r1, x1, s1⟩ ⟨i2, r2, x2, s2⟩ = n := ⟨_, rfl⟩
    obtain ⟨m, hm⟩ : ∃ n, cmpC ⟨i2, r2, x2, s2⟩ ⟨i3, r3, x3, s3⟩ = n := ⟨_, rfl⟩
    obtain ⟨q, hq⟩ : ∃ n, cmpC ⟨i1, r1, x1, s1⟩ ⟨i3, r3, x3, s3⟩ = n := ⟨_, rfl⟩
    have HN := Lib.hid (show ∀ w', Calls Tryd.prog 12 #[.agg #[.int .i64 i1, .int .i64 r1, .int .i64 x1, .int .i64 s1], .agg #[.int .i64 i2, .int .i64 r2, .int .i64 x2, .int .i64 s2]] w' fun e w2 => e = .returned (.int .i64 n) ∧ Below w'.heap.size w' w2 from fun w' => by have := ccompare5 ⟨i1, r1, x1, s1⟩ ⟨i2, r2, x2, s2⟩ w'; rw [hn] at this; exact this)
    have HMM := Lib.hid (show ∀ w', Calls Tryd.prog 12 #[.agg #[.int .i64 i2, .int .i64 r2, .int .i64 x2, .int .i64 s2], .agg #[.int .i64 i3, .int .i64 r3, .int .i64 x3, .int .i64 s3]] w' fun e w2 => e = .returned (.int .i64 m) ∧ Below w'.heap.size w' w2 from fun w' => by have := ccompare5 ⟨i2, r2, x2, s2⟩ ⟨i3, r3, x3, s3⟩ w'; rw [hm] at this; exact this)
    have HQ := Lib.hid (show ∀ w', Calls Tryd.prog 12 #[.agg #[.int .i64 i1, .int .i64 r1, .int .i64 x1, .int .i64 s1], .agg #[.int .i64 i3, .int .i64 r3, .int .i64 x3, .int .i64 s3]] w' fun e w2 => e = .returned (.int .i64 q) ∧ Below w'.heap.size w' w2 from fun w' => by have := ccompare5 ⟨i1, r1, x1, s1⟩ ⟨i3, r3, x3, s3⟩ w'; rw [hq] at this; exact this)
    obtain ⟨L12, hL12⟩ : ∃ b, lexL (C5.key ⟨i1, r1, x1, s1⟩) (C5.key ⟨i2, r2, x2, s2⟩) = b := ⟨_, rfl⟩
    obtain ⟨L21, hL21⟩ : ∃ b, lexL (C5.key ⟨i2, r2, x2, s2⟩) (C5.key ⟨i1, r1, x1, s1⟩) = b := ⟨_, rfl⟩
    have HL12 := Lib.hid (show ∀ w', Calls Tryd.prog 14 #[.agg #[.int .i64 i1, .int .i64 r1, .int .i64 x1, .int .i64 s1], .agg #[.int .i64 i2, .int .i64 r2, .int .i64 x2, .int .i64 s2]] w' fun e w2 => e = .returned (.bool L12) ∧ Below w'.heap.size w' w2 from fun w' => by have := less5 ⟨i1, r1, x1, s1⟩ ⟨i2, r2, x2, s2⟩ w'; rw [hL12] at this; exact this)
    have HL21 := Lib.hid (show ∀ w', Calls Tryd.prog 14 #[.agg #[.int .i64 i2, .int .i64 r2, .int .i64 x2, .int .i64 s2], .agg #[.int .i64 i1, .int .i64 r1, .int .i64 x1, .int .i64 s1]] w' fun e w2 => e = .returned (.bool L21) ∧ Below w'.heap.size w' w2 from fun w' => by have := less5 ⟨i2, r2, x2, s2⟩ ⟨i1, r1, x1, s1⟩ w'; rw [hL21] at this; exact this)
    obtain ⟨E, hE⟩ : ∃ b, eqC ⟨i1, r1, x1, s1⟩ ⟨i2, r2, x2, s2⟩ = b := ⟨_, rfl⟩
    have heq : ∀ w', (binOp .eql 35 (.agg #[.int .i64 i1, .int .i64 r1, .int .i64 x1, .int .i64 s1]) (.agg #[.int .i64 i2, .int .i64 r2, .int .i64 x2, .int .i64 s2])).run Tryd.prog w' = .ok (.bool E) w' := fun w' => by have := eq5_ref w' ⟨i1, r1, x1, s1⟩ ⟨i2, r2, x2, s2⟩; rw [hE] at this; exact this
    obtain ⟨ta, hta⟩ : ∃ s, tx5 ⟨i1, r1, x1, s1⟩ = s := ⟨_, rfl⟩
    obtain ⟨tb, htb⟩ : ∃ s, tx5 ⟨i2, r2, x2, s2⟩ = s := ⟨_, rfl⟩
    have HTA := Lib.hid (show ∀ w', Below W.heap.size W w' → Calls Tryd.prog 15 #[.agg #[.int .i64 i1, .int .i64 r1, .int .i64 x1, .int .i64 s1]] w' fun e w2 => e = .returned (.string ta) ∧ Below w'.heap.size w' w2 from fun w' hb => by have := ctext5 ⟨i1, r1, x1, s1⟩ (fun z hz => HCL.out z (by simp only [C5.ns, List.mem_cons, List.not_mem_nil, or_false] at hz; rcases hz with rfl | rfl | rfl | rfl <;> simp)) w' (fun w2 hb2 => HT.out w2 (Bsz hb hb2)); rw [hta] at this; exact this)
    have HTB := Lib.hid (show ∀ w', Below W.heap.size W w' → Calls Tryd.prog 15 #[.agg #[.int .i64 i2, .int .i64 r2, .int .i64 x2, .int .i64 s2]] w' fun e w2 => e = .returned (.string tb) ∧ Below w'.heap.size w' w2 from fun w' hb => by have := ctext5 ⟨i2, r2, x2, s2⟩ (fun z hz => HCL.out z (by simp only [C5.ns, List.mem_cons, List.not_mem_nil, or_false] at hz; rcases hz with rfl | rfl | rfl | rfl <;> simp)) w' (fun w2 hb2 => HT.out w2 (Bsz hb hb2)); rw [htb] at this; exact this)
    have HEX := Lib.hid (show ∀ w', Calls Tryd.prog 16 #[.agg #[.int .i64 i1, .int .i64 r1, .int .i64 x1, .int .i64 s1], .int .i64 tick] w' fun e w2 => e = .returned (.bool (decide (x1 ≤ tick))) ∧ Below w'.heap.size w' w2 from fun w' => expired5 ⟨i1, r1, x1, s1⟩ tick w')
    have htx := tx5_eq ⟨i1, r1, x1, s1⟩ ⟨i2, r2, x2, s2⟩
    rw [hta, htb, hE] at htx
    have hcc := cmpL_cases (C5.key ⟨i1, r1, x1, s1⟩) (C5.key ⟨i2, r2, x2, s2⟩) rfl
    have hcm := cmpL_cases (C5.key ⟨i2, r2, x2, s2⟩) (C5.key ⟨i3, r3, x3, s3⟩) rfl
    have htr := cmpL_trans (C5.key ⟨i1, r1, x1, s1⟩) (C5.key ⟨i2, r2, x2, s2⟩) (C5.key ⟨i3, r3, x3, s3⟩) rfl rfl
    rw [hL12, hL21] at hcc
    unfold cmpC at hn hm hq
    rw [hn] at hcc htr
    rw [hm] at hcm htr
    rw [hq] at htr
    have hv : (n = 0 ∧ E = true ∧ L12 = false ∧ L21 = false) ∨ (n = 1 ∧ E = false ∧ L12 = false ∧ L21 = true) ∨ (n = -1 ∧ E = false ∧ L12 = true ∧ L21 = false ∧ (m = 0 ∨ m = 1)) ∨ (n = -1 ∧ E = false ∧ L12 = true ∧ L21 = false ∧ m = -1 ∧ q = -1) := by
      rcases hcc with ⟨h1, h2, h3, h4⟩ | ⟨h1, h2, h3, h4⟩ | ⟨h1, h2, h3, h4⟩
      · exact .inl ⟨h1, by rw [← hE]; exact decide_eq_true h2, h3, h4⟩
      · have hEf : E = false := by rw [← hE]; exact decide_eq_false h2
        rcases hcm with ⟨g1, _⟩ | ⟨g1, _⟩ | ⟨g1, _⟩
        · exact .inr (.inr (.inl ⟨h1, hEf, h3, h4, .inl g1⟩))
        · exact .inr (.inr (.inr ⟨h1, hEf, h3, h4, g1, htr h1 g1⟩))
        · exact .inr (.inr (.inl ⟨h1, hEf, h3, h4, .inr g1⟩))
      · exact .inr (.inl ⟨h1, by rw [← hE]; exact decide_eq_false h2, h3, h4⟩)
    have hxx : (decide (x1 ≤ tick) == decide (x1 ≤ tick)) = true := by simp
    clear hn hm hq hL12 hL21 hE hta htb hcc hcm htr
    have K0 := Lib.hid (HCE.out _ Mq.out.drew)
    go_upto_region 2 with fail
    refine wp_region_held_drew (S := fun w' => (w'.cell? ⟨g9, 0, none⟩ = some (.int .i64 i1) ∧ w'.cell? ⟨g9, 1, none⟩ = some (.int .i64 r1) ∧ w'.cell? ⟨g9, 2, none⟩ = some (.int .i64 x1) ∧ w'.cell? ⟨g9, 3, none⟩ = some (.int .i64 s1)) ∧ (w'.cell? ⟨g10, 0, none⟩ = some (.int .i64 i2) ∧ w'.cell? ⟨g10, 1, none⟩ = some (.int .i64 r2) ∧ w'.cell? ⟨g10, 2, none⟩ = some (.int .i64 x2) ∧ w'.cell? ⟨g10, 3, none⟩ = some (.int .i64 s2)) ∧ (w'.cell? ⟨g11, 0, none⟩ = some (.int .i64 i3) ∧ w'.cell? ⟨g11, 1, none⟩ = some (.int .i64 r3) ∧ w'.cell? ⟨g11, 2, none⟩ = some (.int .i64 x3) ∧ w'.cell? ⟨g11, 3, none⟩ = some (.int .i64 s3)) ∧ (w'.cell? ⟨W.heap.size, 0, none⟩ = some (.int .i64 i1) ∧ w'.cell? ⟨W.heap.size, 1, none⟩ = some (.int .i64 r1) ∧ w'.cell? ⟨W.heap.size, 2, none⟩ = some (.int .i64 x1) ∧ w'.cell? ⟨W.heap.size, 3, none⟩ = some (.int .i64 s1)) ∧ (w'.cell? ⟨W.heap.size + 1, 0, none⟩ = some (.int .i64 i2) ∧ w'.cell? ⟨W.heap.size + 1, 1, none⟩ = some (.int .i64 r2) ∧ w'.cell? ⟨W.heap.size + 1, 2, none⟩ = some (.int .i64 x2) ∧ w'.cell? ⟨W.heap.size + 1, 3, none⟩ = some (.int .i64 s2))) (by kernel_rfl) ?_ (fun hHeld => ?_)
    · exact K0.out
    generalize hw7 : World.drew _ = w7 at hHeld ⊢
    have Mq := Lib.hid (Mq.out.drew.toV5 hw7 rfl)
    clear hw7
    refine wpAnyH_take (i := 0) (v := ?_) rfl (by kernel_rfl) (by kernel_rfl) (by kernel_rfl) (fun _ _ _ h => h) (Or.inl ⟨by rfl, ?_⟩) (by assumption) ?_
    rotate_left
    · intro w hSw; (try dsimp only at hSw); go_split_ands; go_simp; with_reducible rfl
    change wpAnyH _ _ _ _ _ _ _ (Act.put _ (some 20) _) _
    simp only [Act.put, List.setIfInBounds_toArray, List.set_cons_zero, List.set_cons_succ, Array.toArray_toList]
    refine wpAnyH_take (i := 1) (v := ?_) rfl (by kernel_rfl) (by kernel_rfl) (by kernel_rfl) (fun _ _ _ h => h) (Or.inl ⟨by rfl, ?_⟩) (by assumption) ?_
    rotate_left
    · intro w hSw; (try dsimp only at hSw); go_split_ands; go_simp; with_reducible rfl
    change wpAnyH _ _ _ _ _ _ _ (Act.put _ (some 21) _) _
    simp only [Act.put, List.setIfInBounds_toArray, List.set_cons_zero, List.set_cons_succ, Array.toArray_toList]
    refine wpAnyH_take (i := 3) (v := ?_) rfl (by kernel_rfl) (by kernel_rfl) (by kernel_rfl) (fun _ _ _ h => h) (Or.inl ⟨by rfl, ?_⟩) (by assumption) ?_
    rotate_left
    · intro w hSw; (try dsimp only at hSw); go_split_ands; go_simp; with_reducible rfl
    change wpAnyH _ _ _ _ _ _ _ (Act.put _ (some 23) _) _
    simp only [Act.put, List.setIfInBounds_toArray, List.set_cons_zero, List.set_cons_succ, Array.toArray_toList]
    refine wpAnyH_take (i := 4) (v := ?_) rfl (by kernel_rfl) (by kernel_rfl) (by kernel_rfl) (fun _ _ _ h => h) (Or.inl ⟨by rfl, ?_⟩) (by assumption) ?_
    rotate_left
    · intro w hSw; (try dsimp only at hSw); go_split_ands; go_simp; with_reducible rfl
    change wpAnyH _ _ _ _ _ _ _ (Act.put _ (some 24) _) _
    simp only [Act.put, List.setIfInBounds_toArray, List.set_cons_zero, List.set_cons_succ, Array.toArray_toList]
    refine wpAnyH_ready (rs := [2]) (by kernel_rfl) (by simp) ?_
    refine (AllReadyH.cons rfl (fun K hK => ?_) AllReadyH.nil)
    go_simp
    (with_reducible refine (HN.out _).mono ?_); rintro e wq ⟨rfl, hb⟩; have Mq := Lib.hid (Mq.out.below hb); clear hb
    go_wp2_with fail
    refine hK.out _ _ (by exact HCE.out _ Mq.out) (fun hHeld => ?_)
    clear hK K
    refine wpAnyH_ready (rs := [5]) (by kernel_rfl) (by simp) ?_
    refine (AllReadyH.cons rfl (fun K hK => ?_) AllReadyH.nil)
    go_simp
    (with_reducible refine (HMM.out _).mono ?_); rintro e wq ⟨rfl, hb⟩; have Mq := Lib.hid (Mq.out.below hb); clear hb
    go_wp2_with fail
    refine hK.out _ _ (by exact HCE.out _ Mq.out) (fun hHeld => ?_)
    clear hK K
    refine wpAnyH_take (i := 6) (v := ?_) rfl (by kernel_rfl) (by kernel_rfl) (by kernel_rfl) (fun _ _ _ h => h) (Or.inl ⟨by rfl, ?_⟩) (by assumption) ?_
    rotate_left
    · intro w hSw; (try dsimp only at hSw); go_split_ands; go_simp; with_reducible rfl
    change wpAnyH _ _ _ _ _ _ _ (Act.put _ (some 12) _) _
    simp only [Act.put, List.setIfInBounds_toArray, List.set_cons_zero, List.set_cons_succ, Array.toArray_toList]
    refine wpAnyH_take (i := 7) (v := ?_) rfl (by kernel_rfl) (by kernel_rfl) (by kernel_rfl) (fun _ _ _ h => h) (Or.inl ⟨by rfl, ?_⟩) (by assumption) ?_
    rotate_left
    · intro w hSw; (try dsimp only at hSw); go_split_ands; go_simp; with_reducible rfl
    change wpAnyH _ _ _ _ _ _ _ (Act.put _ (some 13) _) _
    simp only [Act.put, List.setIfInBounds_toArray, List.set_cons_zero, List.set_cons_succ, Array.toArray_toList]
    refine wpAnyH_done (by kernel_rfl) ?_ _
    clear hHeld K0
    have K0 := Lib.hid (HCE.out _ Mq.out.drew)
    rcases hv with ⟨rfl, rfl, rfl, rfl⟩ | ⟨rfl, rfl, rfl, rfl⟩ | ⟨rfl, rfl, rfl, rfl, hm⟩ | ⟨rfl, rfl, rfl, rfl, rfl, rfl⟩
    · skip
      go_upto_region 3 with fail
      refine wp_region_held_drew (S := fun w' => (w'.cell? ⟨g9, 0, none⟩ = some (.int .i64 i1) ∧ w'.cell? ⟨g9, 1, none⟩ = some (.int .i64 r1) ∧ w'.cell? ⟨g9, 2, none⟩ = some (.int .i64 x1) ∧ w'.cell? ⟨g9, 3, none⟩ = some (.int .i64 s1)) ∧ (w'.cell? ⟨g10, 0, none⟩ = some (.int .i64 i2) ∧ w'.cell? ⟨g10, 1, none⟩ = some (.int .i64 r2) ∧ w'.cell? ⟨g10, 2, none⟩ = some (.int .i64 x2) ∧ w'.cell? ⟨g10, 3, none⟩ = some (.int .i64 s2)) ∧ (w'.cell? ⟨g11, 0, none⟩ = some (.int .i64 i3) ∧ w'.cell? ⟨g11, 1, none⟩ = some (.int .i64 r3) ∧ w'.cell? ⟨g11, 2, none⟩ = some (.int .i64 x3) ∧ w'.cell? ⟨g11, 3, none⟩ = some (.int .i64 s3)) ∧ (w'.cell? ⟨W.heap.size, 0, none⟩ = some (.int .i64 i1) ∧ w'.cell? ⟨W.heap.size, 1, none⟩ = some (.int .i64 r1) ∧ w'.cell? ⟨W.heap.size, 2, none⟩ = some (.int .i64 x1) ∧ w'.cell? ⟨W.heap.size, 3, none⟩ = some (.int .i64 s1)) ∧ (w'.cell? ⟨W.heap.size + 1, 0, none⟩ = some (.int .i64 i2) ∧ w'.cell? ⟨W.heap.size + 1, 1, none⟩ = some (.int .i64 r2) ∧ w'.cell? ⟨W.heap.size + 1, 2, none⟩ = some (.int .i64 x2) ∧ w'.cell? ⟨W.heap.size + 1, 3, none⟩ = some (.int .i64 s2))) (by kernel_rfl) ?_ (fun hHeld => ?_)
      · exact K0.out
      generalize hw8 : World.drew _ = w8 at hHeld ⊢
      have Mq := Lib.hid (Mq.out.drew.toV5 hw8 rfl)
      clear hw8
      refine wpAnyH_ready (rs := [0]) (by kernel_rfl) (by simp) ?_
      refine (AllReadyH.cons rfl (fun K hK => ?_) AllReadyH.nil)
      go_simp
      (with_reducible refine (known05 _).mono ?_); rintro e wk ⟨rfl, hb⟩; have Mq := Lib.hid (Mq.out.below hb); clear hb
      go_wp2_with fail
      refine hK.out _ _ (by exact HCE.out _ Mq.out) (fun hHeld => ?_)
      clear hK K
      refine wpAnyH_take (i := 1) (v := ?_) rfl (by kernel_rfl) (by kernel_rfl) (by kernel_rfl) (fun _ _ _ h => h) (Or.inl ⟨by rfl, ?_⟩) (by assumption) ?_
      rotate_left
      · intro w hSw; (try dsimp only at hSw); go_split_ands; go_simp; with_reducible rfl
      change wpAnyH _ _ _ _ _ _ _ (Act.put _ (some 27) _) _
      simp only [Act.put, List.setIfInBounds_toArray, List.set_cons_zero, List.set_cons_succ, Array.toArray_toList]
      refine wpAnyH_take (i := 2) (v := ?_) rfl (by kernel_rfl) (by kernel_rfl) (by kernel_rfl) (fun _ _ _ h => h) (Or.inl ⟨by rfl, ?_⟩) (by assumption) ?_
      rotate_left
      · intro w hSw; (try dsimp only at hSw); go_split_ands; go_simp; with_reducible rfl
      change wpAnyH _ _ _ _ _ _ _ (Act.put _ (some 28) _) _
      simp only [Act.put, List.setIfInBounds_toArray, List.set_cons_zero, List.set_cons_succ, Array.toArray_toList]
      refine wpAnyH_take (i := 3) (v := ?_) rfl (by kernel_rfl) (by kernel_rfl) (by kernel_rfl) (fun _ _ _ h => h) (Or.inl ⟨by rfl, ?_⟩) (by assumption) ?_
      rotate_left
      · intro w hSw; (try dsimp only at hSw); go_split_ands; go_simp; with_reducible rfl
      change wpAnyH _ _ _ _ _ _ _ (Act.put _ (some 29) _) _
      simp only [Act.put, List.setIfInBounds_toArray, List.set_cons_zero, List.set_cons_succ, Array.toArray_toList]
      refine wpAnyH_take (i := 4) (v := ?_) rfl (by kernel_rfl) (by kernel_rfl) (by kernel_rfl) (fun _ _ _ h => h) (Or.inl ⟨by rfl, ?_⟩) (by assumption) ?_
      rotate_left
      · intro w hSw; (try dsimp only at hSw); go_split_ands; go_simp; with_reducible rfl
      change wpAnyH _ _ _ _ _ _ _ (Act.put _ (some 30) _) _
      simp only [Act.put, List.setIfInBounds_toArray, List.set_cons_zero, List.set_cons_succ, Array.toArray_toList]
      refine wpAnyH_take (i := 5) (v := ?_) rfl (by kernel_rfl) (by kernel_rfl) (by kernel_rfl) (fun _ _ _ h => h) (Or.inl ⟨by rfl, ?_⟩) (by assumption) ?_
      rotate_left
      · intro w hSw; (try dsimp only at hSw); go_split_ands; go_simp; with_reducible rfl
      change wpAnyH _ _ _ _ _ _ _ (Act.put _ (some 31) _) _
      simp only [Act.put, List.setIfInBounds_toArray, List.set_cons_zero, List.set_cons_succ, Array.toArray_toList]
      refine wpAnyH_ready (rs := [6]) (by kernel_rfl) (by simp) ?_
      refine (AllReadyH.cons rfl (fun K hK => ?_) AllReadyH.nil)
      go_simp
      (with_reducible refine (HL12.out _).mono ?_); rintro e wq ⟨rfl, hb⟩; have Mq := Lib.hid (Mq.out.below hb); clear hb
      go_wp2_with fail
      refine hK.out _ _ (by exact HCE.out _ Mq.out) (fun hHeld => ?_)
      clear hK K
      refine wpAnyH_take (i := 7) (v := ?_) rfl (by kernel_rfl) (by kernel_rfl) (by kernel_rfl) (fun _ _ _ h => h) (Or.inl ⟨by rfl, ?_⟩) (by assumption) ?_
      rotate_left
      · intro w hSw; (try dsimp only at hSw); go_split_ands; go_simp; with_reducible rfl
      change wpAnyH _ _ _ _ _ _ _ (Act.put _ (some 33) _) _
      simp only [Act.put, List.setIfInBounds_toArray, List.set_cons_zero, List.set_cons_succ, Array.toArray_toList]
      refine wpAnyH_take (i := 8) (v := ?_) rfl (by kernel_rfl) (by kernel_rfl) (by kernel_rfl) (fun _ _ _ h => h) (Or.inl ⟨by rfl, ?_⟩) (by assumption) ?_
      rotate_left
      · intro w hSw; (try dsimp only at hSw); go_split_ands; go_simp; with_reducible rfl
      change wpAnyH _ _ _ _ _ _ _ (Act.put _ (some 34) _) _
      simp only [Act.put, List.setIfInBounds_toArray, List.set_cons_zero, List.set_cons_succ, Array.toArray_toList]
      refine wpAnyH_take (i := 9) (v := ?_) rfl (by kernel_rfl) (by kernel_rfl) (by kernel_rfl) (fun _ _ _ h => h) (Or.inl ⟨by rfl, ?_⟩) (by assumption) ?_
      rotate_left
      · intro w hSw; (try dsimp only at hSw); go_split_ands; go_simp; with_reducible rfl
      change wpAnyH _ _ _ _ _ _ _ (Act.put _ (some 35) _) _
      simp only [Act.put, List.setIfInBounds_toArray, List.set_cons_zero, List.set_cons_succ, Array.toArray_toList]
      refine wpAnyH_take (i := 10) (v := ?_) rfl (by kernel_rfl) (by kernel_rfl) (by kernel_rfl) (fun _ _ _ h => h) (Or.inl ⟨by rfl, ?_⟩) (by assumption) ?_
      rotate_left
      · intro w hSw; (try dsimp only at hSw); go_split_ands; go_simp; with_reducible rfl
      change wpAnyH _ _ _ _ _ _ _ (Act.put _ (some 36) _) _
      simp only [Act.put, List.setIfInBounds_toArray, List.set_cons_zero, List.set_cons_succ, Array.toArray_toList]
      refine wpAnyH_take (i := 11) (v := ?_) rfl (by kernel_rfl) (by kernel_rfl) (by kernel_rfl) (fun _ _ _ h => h) (Or.inl ⟨by rfl, ?_⟩) (by assumption) ?_
      rotate_left
      · intro w hSw; (try dsimp only at hSw); go_split_ands; go_simp; with_reducible rfl
      change wpAnyH _ _ _ _ _ _ _ (Act.put _ (some 37) _) _
      simp only [Act.put, List.setIfInBounds_toArray, List.set_cons_zero, List.set_cons_succ, Array.toArray_toList]
      refine wpAnyH_take (i := 12) (v := ?_) rfl (by kernel_rfl) (by kernel_rfl) (by kernel_rfl) (fun _ _ _ h => h) (Or.inl ⟨by rfl, ?_⟩) (by assumption) ?_
      rotate_left
      · intro w hSw; (try dsimp only at hSw); go_split_ands; go_simp; with_reducible rfl
      change wpAnyH _ _ _ _ _ _ _ (Act.put _ (some 38) _) _
      simp only [Act.put, List.setIfInBounds_toArray, List.set_cons_zero, List.set_cons_succ, Array.toArray_toList]
      refine wpAnyH_take (i := 13) (v := ?_) rfl (by kernel_rfl) (by kernel_rfl) (by kernel_rfl) (fun _ _ _ h => h) (Or.inl ⟨by rfl, ?_⟩) (by assumption) ?_
      rotate_left
      · intro w hSw; (try dsimp only at hSw); go_split_ands; go_simp; with_reducible rfl
      change wpAnyH _ _ _ _ _ _ _ (Act.put _ (some 39) _) _
      simp only [Act.put, List.setIfInBounds_toArray, List.set_cons_zero, List.set_cons_succ, Array.toArray_toList]
      refine wpAnyH_ready (rs := [14]) (by kernel_rfl) (by simp) ?_
      refine (AllReadyH.cons rfl (fun K hK => ?_) AllReadyH.nil)
      go_simp
      (with_reducible refine (HL21.out _).mono ?_); rintro e wq ⟨rfl, hb⟩; have Mq := Lib.hid (Mq.out.below hb); clear hb
      go_wp2_with fail
      refine hK.out _ _ (by exact HCE.out _ Mq.out) (fun hHeld => ?_)
      clear hK K
      refine wpAnyH_take (i := 15) (v := ?_) rfl (by kernel_rfl) (by kernel_rfl) (by kernel_rfl) (fun _ _ _ h => h) (Or.inl ⟨by rfl, ?_⟩) (by assumption) ?_
      rotate_left
      · intro w hSw; (try dsimp only at hSw); go_split_ands; go_simp; with_reducible rfl
      change wpAnyH _ _ _ _ _ _ _ (Act.put _ (some 41) _) _
      simp only [Act.put, List.setIfInBounds_toArray, List.set_cons_zero, List.set_cons_succ, Array.toArray_toList]
      refine wpAnyH_take (i := 16) (v := ?_) rfl (by kernel_rfl) (by kernel_rfl) (by kernel_rfl) (fun _ _ _ h => h) (Or.inl ⟨by rfl, ?_⟩) (by assumption) ?_
      rotate_left
      · intro w hSw; (try dsimp only at hSw); go_split_ands; go_simp; with_reducible rfl
      change wpAnyH _ _ _ _ _ _ _ (Act.put _ (some 42) _) _
      simp only [Act.put, List.setIfInBounds_toArray, List.set_cons_zero, List.set_cons_succ, Array.toArray_toList]
      refine wpAnyH_take (i := 17) (v := ?_) rfl (by kernel_rfl) (by kernel_rfl) (by kernel_rfl) (fun _ _ _ h => h) (Or.inl ⟨by rfl, ?_⟩) (by assumption) ?_
      rotate_left
      · intro w hSw; (try dsimp only at hSw); go_split_ands; go_simp; with_reducible rfl
      change wpAnyH _ _ _ _ _ _ _ (Act.put _ (some 43) _) _
      simp only [Act.put, List.setIfInBounds_toArray, List.set_cons_zero, List.set_cons_succ, Array.toArray_toList]
      refine wpAnyH_take (i := 18) (v := ?_) rfl (by kernel_rfl) (by kernel_rfl) (by kernel_rfl) (fun _ _ _ h => h) (Or.inl ⟨by rfl, ?_⟩) (by assumption) ?_
      rotate_left
      · intro w hSw; (try dsimp only at hSw); go_split_ands; go_simp; with_reducible rfl
      change wpAnyH _ _ _ _ _ _ _ (Act.put _ (some 44) _) _
      simp only [Act.put, List.setIfInBounds_toArray, List.set_cons_zero, List.set_cons_succ, Array.toArray_toList]
      refine wpAnyH_take (i := 19) (v := ?_) rfl (by kernel_rfl) (by kernel_rfl) (by kernel_rfl) (fun _ _ _ h => h) (Or.inl ⟨by rfl, ?_⟩) (by assumption) ?_
      rotate_left
      · intro w hSw; (try dsimp only at hSw); go_split_ands; go_simp; with_reducible rfl
      change wpAnyH _ _ _ _ _ _ _ (Act.put _ (some 45) _) _
      simp only [Act.put, List.setIfInBounds_toArray, List.set_cons_zero, List.set_cons_succ, Array.toArray_toList]
      refine wpAnyH_take (i := 20) (v := ?_) rfl (by kernel_rfl) (by kernel_rfl) (by kernel_rfl) (fun _ _ _ h => h) (Or.inl ⟨by rfl, ?_⟩) (by assumption) ?_
      rotate_left
      · intro w hSw; (try dsimp only at hSw); go_split_ands; go_simp; with_reducible rfl
      change wpAnyH _ _ _ _ _ _ _ (Act.put _ (some 46) _) _
      simp only [Act.put, List.setIfInBounds_toArray, List.set_cons_zero, List.set_cons_succ, Array.toArray_toList]
      refine wpAnyH_take (i := 21) (v := ?_) rfl (by kernel_rfl) (by kernel_rfl) (by kernel_rfl) (fun _ _ _ h => h) (Or.inl ⟨by rfl, ?_⟩) (by assumption) ?_
      rotate_left
      · intro w hSw; (try dsimp only at hSw); go_split_ands; go_simp; with_reducible rfl
      change wpAnyH _ _ _ _ _ _ _ (Act.put _ (some 47) _) _
      simp only [Act.put, List.setIfInBounds_toArray, List.set_cons_zero, List.set_cons_succ, Array.toArray_toList]
      refine wpAnyH_take (i := 22) (v := ?_) rfl (by kernel_rfl) (by kernel_rfl) (by kernel_rfl) (fun _ _ _ h => h) (Or.inl ⟨by rfl, ?_⟩) (by assumption) ?_
      rotate_left
      · intro w hSw; (try dsimp only at hSw); go_split_ands; go_simp; with_reducible rfl
      change wpAnyH _ _ _ _ _ _ _ (Act.put _ (some 48) _) _
      simp only [Act.put, List.setIfInBounds_toArray, List.set_cons_zero, List.set_cons_succ, Array.toArray_toList]
      refine wpAnyH_take (i := 23) (v := ?_) rfl (by kernel_rfl) (by kernel_rfl) (by kernel_rfl) (fun _ _ _ h => h) (Or.inl ⟨by rfl, ?_⟩) (by assumption) ?_
      rotate_left
      · intro w hSw; (try dsimp only at hSw); go_split_ands; go_simp; with_reducible rfl
      change wpAnyH _ _ _ _ _ _ _ (Act.put _ (some 49) _) _
      simp only [Act.put, List.setIfInBounds_toArray, List.set_cons_zero, List.set_cons_succ, Array.toArray_toList]
      refine wpAnyH_take (i := 24) (v := ?_) rfl (by kernel_rfl) (by kernel_rfl) (by kernel_rfl) (fun _ _ _ h => h) (Or.inl ⟨by rfl, ?_⟩) (by assumption) ?_
      rotate_left
      · intro w hSw; (try dsimp only at hSw); go_split_ands; go_simp; with_reducible rfl
      change wpAnyH _ _ _ _ _ _ _ (Act.put _ (some 50) _) _
      simp only [Act.put, List.setIfInBounds_toArray, List.set_cons_zero, List.set_cons_succ, Array.toArray_toList]
      refine wpAnyH_take (i := 25) (v := ?_) rfl (by kernel_rfl) (by kernel_rfl) (by kernel_rfl) (fun _ _ _ h => h) (Or.inl ⟨by rfl, ?_⟩) (by assumption) ?_
      rotate_left
      · intro w hSw; (try dsimp only at hSw); go_split_ands; go_simp; with_reducible rfl
      change wpAnyH _ _ _ _ _ _ _ (Act.put _ (some 51) _) _
      simp only [Act.put, List.setIfInBounds_toArray, List.set_cons_zero, List.set_cons_succ, Array.toArray_toList]
      refine wpAnyH_take (i := 26) (v := ?_) rfl (by kernel_rfl) (by kernel_rfl) (by kernel_rfl) (fun _ _ _ h => h) (Or.inl ⟨by rfl, ?_⟩) (by assumption) ?_
      rotate_left
      · intro w hSw; (try dsimp only at hSw); go_split_ands; go_simp; with_reducible rfl
      change wpAnyH _ _ _ _ _ _ _ (Act.put _ (some 52) _) _
      simp only [Act.put, List.setIfInBounds_toArray, List.set_cons_zero, List.set_cons_succ, Array.toArray_toList]
      refine wpAnyH_take (i := 28) (v := ?_) rfl (by kernel_rfl) (by kernel_rfl) (by kernel_rfl) (fun _ _ _ h => h) (Or.inl ⟨by rfl, ?_⟩) (by assumption) ?_
      rotate_left
      · intro w hSw; (try dsimp only at hSw); go_split_ands; go_simp; with_reducible rfl
      change wpAnyH _ _ _ _ _ _ _ (Act.put _ (some 54) _) _
      simp only [Act.put, List.setIfInBounds_toArray, List.set_cons_zero, List.set_cons_succ, Array.toArray_toList]
      refine wpAnyH_take (i := 31) (v := ?_) rfl (by kernel_rfl) (by kernel_rfl) (by kernel_rfl) (fun _ _ _ h => h) (Or.inl ⟨by rfl, ?_⟩) (by assumption) ?_
      rotate_left
      · intro w hSw; (try dsimp only at hSw); go_split_ands; go_simp; with_reducible rfl
      change wpAnyH _ _ _ _ _ _ _ (Act.put _ (some 57) _) _
      simp only [Act.put, List.setIfInBounds_toArray, List.set_cons_zero, List.set_cons_succ, Array.toArray_toList]
      refine wpAnyH_take (i := 32) (v := ?_) rfl (by kernel_rfl) (by kernel_rfl) (by kernel_rfl) (fun _ _ _ h => h) (Or.inl ⟨by rfl, ?_⟩) (by assumption) ?_
      rotate_left
      · intro w hSw; (try dsimp only at hSw); go_split_ands; go_simp; with_reducible rfl
      change wpAnyH _ _ _ _ _ _ _ (Act.put _ (some 58) _) _
      simp only [Act.put, List.setIfInBounds_toArray, List.set_cons_zero, List.set_cons_succ, Array.toArray_toList]
      refine wpAnyH_take (i := 33) (v := ?_) rfl (by kernel_rfl) (by kernel_rfl) (by kernel_rfl) (fun _ _ _ h => h) (Or.inl ⟨by rfl, ?_⟩) (by assumption) ?_
      rotate_left
      · intro w hSw; (try dsimp only at hSw); go_split_ands; go_simp; with_reducible rfl
      change wpAnyH _ _ _ _ _ _ _ (Act.put _ (some 59) _) _
      simp only [Act.put, List.setIfInBounds_toArray, List.set_cons_zero, List.set_cons_succ, Array.toArray_toList]
      refine wpAnyH_ready (rs := [27]) (by kernel_rfl) (by simp) ?_
      refine (AllReadyH.cons rfl (fun K hK => ?_) AllReadyH.nil)
      go_simp
      (with_reducible refine (HTA.out _ Mq.out.bel).mono ?_); rintro e wq ⟨rfl, hb⟩; have Mq := Lib.hid (Mq.out.below hb); clear hb
      go_wp2_with fail
      refine hK.out _ _ (by exact HCE.out _ Mq.out) (fun hHeld => ?_)
      clear hK K
      refine wpAnyH_ready (rs := [29]) (by kernel_rfl) (by simp) ?_
      refine (AllReadyH.cons rfl (fun K hK => ?_) AllReadyH.nil)
      go_simp
      (with_reducible refine (HTB.out _ Mq.out.bel).mono ?_); rintro e wq ⟨rfl, hb⟩; have Mq := Lib.hid (Mq.out.below hb); clear hb
      go_wp2_with fail
      refine hK.out _ _ (by exact HCE.out _ Mq.out) (fun hHeld => ?_)
      clear hK K
      refine wpAnyH_take (i := 30) (v := ?_) rfl (by kernel_rfl) (by kernel_rfl) (by kernel_rfl) (fun _ _ _ h => h) (Or.inl ⟨by rfl, ?_⟩) (by assumption) ?_
      rotate_left
      · intro w hSw; (try dsimp only at hSw); go_split_ands; go_simp; with_reducible rfl
      change wpAnyH _ _ _ _ _ _ _ (Act.put _ (some 56) _) _
      simp only [Act.put, List.setIfInBounds_toArray, List.set_cons_zero, List.set_cons_succ, Array.toArray_toList]
      refine wpAnyH_take (i := 34) (v := ?_) rfl (by kernel_rfl) (by kernel_rfl) (by kernel_rfl) (fun _ _ _ h => h) (Or.inl ⟨by rfl, ?_⟩) (by assumption) ?_
      rotate_left
      · intro w hSw; (try dsimp only at hSw); go_split_ands; go_simp; with_reducible rfl
      change wpAnyH _ _ _ _ _ _ _ (Act.put _ (some 60) _) _
      simp only [Act.put, List.setIfInBounds_toArray, List.set_cons_zero, List.set_cons_succ, Array.toArray_toList]
      refine wpAnyH_take (i := 35) (v := ?_) rfl (by kernel_rfl) (by kernel_rfl) (by kernel_rfl) (fun _ _ _ h => h) (Or.inl ⟨by rfl, ?_⟩) (by assumption) ?_
      rotate_left
      · intro w hSw; (try dsimp only at hSw); go_split_ands; go_simp; with_reducible rfl
      change wpAnyH _ _ _ _ _ _ _ (Act.put _ (some 61) _) _
      simp only [Act.put, List.setIfInBounds_toArray, List.set_cons_zero, List.set_cons_succ, Array.toArray_toList]
      refine wpAnyH_take (i := 36) (v := ?_) rfl (by kernel_rfl) (by kernel_rfl) (by kernel_rfl) (fun _ _ _ h => h) (Or.inl ⟨by rfl, ?_⟩) (by assumption) ?_
      rotate_left
      · intro w hSw; (try dsimp only at hSw); go_split_ands; go_simp; with_reducible rfl
      change wpAnyH _ _ _ _ _ _ _ (Act.put _ (some 62) _) _
      simp only [Act.put, List.setIfInBounds_toArray, List.set_cons_zero, List.set_cons_succ, Array.toArray_toList]
      refine wpAnyH_take (i := 37) (v := ?_) rfl (by kernel_rfl) (by kernel_rfl) (by kernel_rfl) (fun _ _ _ h => h) (Or.inl ⟨by rfl, ?_⟩) (by assumption) ?_
      rotate_left
      · intro w hSw; (try dsimp only at hSw); go_split_ands; go_simp; with_reducible rfl
      change wpAnyH _ _ _ _ _ _ _ (Act.put _ (some 63) _) _
      simp only [Act.put, List.setIfInBounds_toArray, List.set_cons_zero, List.set_cons_succ, Array.toArray_toList]
      refine wpAnyH_take (i := 38) (v := ?_) rfl (by kernel_rfl) (by kernel_rfl) (by kernel_rfl) (fun _ _ _ h => h) (Or.inl ⟨by rfl, ?_⟩) (by assumption) ?_
      rotate_left
      · intro w hSw; (try dsimp only at hSw); go_split_ands; go_simp; with_reducible rfl
      change wpAnyH _ _ _ _ _ _ _ (Act.put _ (some 64) _) _
      simp only [Act.put, List.setIfInBounds_toArray, List.set_cons_zero, List.set_cons_succ, Array.toArray_toList]
      refine wpAnyH_take (i := 39) (v := ?_) rfl (by kernel_rfl) (by kernel_rfl) (by kernel_rfl) (fun _ _ _ h => h) (Or.inl ⟨by rfl, ?_⟩) (by assumption) ?_
      rotate_left
      · intro w hSw; (try dsimp only at hSw); go_split_ands; go_simp; with_reducible rfl
      change wpAnyH _ _ _ _ _ _ _ (Act.put _ (some 65) _) _
      simp only [Act.put, List.setIfInBounds_toArray, List.set_cons_zero, List.set_cons_succ, Array.toArray_toList]
      refine wpAnyH_take (i := 40) (v := undef) rfl (by kernel_rfl) (by kernel_rfl) (by kernel_rfl) (fun _ _ _ h => h) (Or.inr ⟨by rfl, rfl⟩) (by assumption) ?_
      change wpAnyH _ _ _ _ _ _ _ (Act.put _ (some 66) _) _
      simp only [Act.put, List.setIfInBounds_toArray, List.set_cons_zero, List.set_cons_succ, Array.toArray_toList]
      refine wpAnyH_take (i := 41) (v := undef) rfl (by kernel_rfl) (by kernel_rfl) (by kernel_rfl) (fun _ _ _ h => h) (Or.inr ⟨by rfl, rfl⟩) (by assumption) ?_
      change wpAnyH _ _ _ _ _ _ _ (Act.put _ (some 67) _) _
      simp only [Act.put, List.setIfInBounds_toArray, List.set_cons_zero, List.set_cons_succ, Array.toArray_toList]
      refine wpAnyH_take (i := 42) (v := ?_) rfl (by kernel_rfl) (by kernel_rfl) (by kernel_rfl) (fun _ _ _ h => h) (Or.inl ⟨by rfl, ?_⟩) (by assumption) ?_
      rotate_left
      · intro w hSw; (try dsimp only at hSw); go_split_ands; go_simp; with_reducible rfl
      change wpAnyH _ _ _ _ _ _ _ (Act.put _ (some 68) _) _
      simp only [Act.put, List.setIfInBounds_toArray, List.set_cons_zero, List.set_cons_succ, Array.toArray_toList]
      refine wpAnyH_take (i := 43) (v := ?_) rfl (by kernel_rfl) (by kernel_rfl) (by kernel_rfl) (fun _ _ _ h => h) (Or.inl ⟨by rfl, ?_⟩) (by assumption) ?_
      rotate_left
      · intro w hSw; (try dsimp only at hSw); go_split_ands; go_simp; with_reducible rfl
      change wpAnyH _ _ _ _ _ _ _ (Act.put _ (some 69) _) _
      simp only [Act.put, List.setIfInBounds_toArray, List.set_cons_zero, List.set_cons_succ, Array.toArray_toList]
      refine wpAnyH_take (i := 44) (v := undef) rfl (by kernel_rfl) (by kernel_rfl) (by kernel_rfl) (fun _ _ _ h => h) (Or.inr ⟨by rfl, rfl⟩) (by assumption) ?_
      change wpAnyH _ _ _ _ _ _ _ (Act.put _ (some 70) _) _
      simp only [Act.put, List.setIfInBounds_toArray, List.set_cons_zero, List.set_cons_succ, Array.toArray_toList]
      refine wpAnyH_take (i := 45) (v := undef) rfl (by kernel_rfl) (by kernel_rfl) (by kernel_rfl) (fun _ _ _ h => h) (Or.inr ⟨by rfl, rfl⟩) (by assumption) ?_
      change wpAnyH _ _ _ _ _ _ _ (Act.put _ (some 71) _) _
      simp only [Act.put, List.setIfInBounds_toArray, List.set_cons_zero, List.set_cons_succ, Array.toArray_toList]
      refine wpAnyH_take (i := 46) (v := undef) rfl (by kernel_rfl) (by kernel_rfl) (by kernel_rfl) (fun _ _ _ h => h) (Or.inr ⟨by rfl, rfl⟩) (by assumption) ?_
      change wpAnyH _ _ _ _ _ _ _ (Act.put _ (some 72) _) _
      simp only [Act.put, List.setIfInBounds_toArray, List.set_cons_zero, List.set_cons_succ, Array.toArray_toList]
      refine wpAnyH_take (i := 47) (v := undef) rfl (by kernel_rfl) (by kernel_rfl) (by kernel_rfl) (fun _ _ _ h => h) (Or.inr ⟨by rfl, rfl⟩) (by assumption) ?_
      change wpAnyH _ _ _ _ _ _ _ (Act.put _ (some 73) _) _
      simp only [Act.put, List.setIfInBounds_toArray, List.set_cons_zero, List.set_cons_succ, Array.toArray_toList]
      refine wpAnyH_take (i := 48) (v := ?_) rfl (by kernel_rfl) (by kernel_rfl) (by kernel_rfl) (fun _ _ _ h => h) (Or.inl ⟨by rfl, ?_⟩) (by assumption) ?_
      rotate_left
      · intro w hSw; (try dsimp only at hSw); go_split_ands; go_simp; with_reducible rfl
      change wpAnyH _ _ _ _ _ _ _ (Act.put _ (some 74) _) _
      simp only [Act.put, List.setIfInBounds_toArray, List.set_cons_zero, List.set_cons_succ, Array.toArray_toList]
      refine wpAnyH_take (i := 49) (v := ?_) rfl (by kernel_rfl) (by kernel_rfl) (by kernel_rfl) (fun _ _ _ h => h) (Or.inl ⟨by rfl, ?_⟩) (by assumption) ?_
      rotate_left
      · intro w hSw; (try dsimp only at hSw); go_split_ands; go_simp; with_reducible rfl
      change wpAnyH _ _ _ _ _ _ _ (Act.put _ (some 75) _) _
      simp only [Act.put, List.setIfInBounds_toArray, List.set_cons_zero, List.set_cons_succ, Array.toArray_toList]
      refine wpAnyH_take (i := 50) (v := ?_) rfl (by kernel_rfl) (by kernel_rfl) (by kernel_rfl) (fun _ _ _ h => h) (Or.inl ⟨by rfl, ?_⟩) (by assumption) ?_
      rotate_left
      · intro w hSw; (try dsimp only at hSw); go_split_ands; go_simp; with_reducible rfl
      change wpAnyH _ _ _ _ _ _ _ (Act.put _ (some 76) _) _
      simp only [Act.put, List.setIfInBounds_toArray, List.set_cons_zero, List.set_cons_succ, Array.toArray_toList]
      refine wpAnyH_take (i := 51) (v := ?_) rfl (by kernel_rfl) (by kernel_rfl) (by kernel_rfl) (fun _ _ _ h => h) (Or.inl ⟨by rfl, ?_⟩) (by assumption) ?_
      rotate_left
      · intro w hSw; (try dsimp only at hSw); go_split_ands; go_simp; with_reducible rfl
      change wpAnyH _ _ _ _ _ _ _ (Act.put _ (some 77) _) _
      simp only [Act.put, List.setIfInBounds_toArray, List.set_cons_zero, List.set_cons_succ, Array.toArray_toList]
      refine wpAnyH_take (i := 52) (v := ?_) rfl (by kernel_rfl) (by kernel_rfl) (by kernel_rfl) (fun _ _ _ h => h) (Or.inl ⟨by rfl, ?_⟩) (by assumption) ?_
      rotate_left
      · intro w hSw; (try dsimp only at hSw); go_split_ands; go_simp; with_reducible rfl
      change wpAnyH _ _ _ _ _ _ _ (Act.put _ (some 78) _) _
      simp only [Act.put, List.setIfInBounds_toArray, List.set_cons_zero, List.set_cons_succ, Array.toArray_toList]
      refine wpAnyH_take (i := 54) (v := ?_) rfl (by kernel_rfl) (by kernel_rfl) (by kernel_rfl) (fun _ _ _ h => h) (Or.inl ⟨by rfl, ?_⟩) (by assumption) ?_
      rotate_left
      · intro w hSw; (try dsimp only at hSw); go_split_ands; go_simp; with_reducible rfl
      change wpAnyH _ _ _ _ _ _ _ (Act.put _ (some 80) _) _
      simp only [Act.put, List.setIfInBounds_toArray, List.set_cons_zero, List.set_cons_succ, Array.toArray_toList]
      refine wpAnyH_take (i := 55) (v := ?_) rfl (by kernel_rfl) (by kernel_rfl) (by kernel_rfl) (fun _ _ _ h => h) (Or.inl ⟨by rfl, ?_⟩) (by assumption) ?_
      rotate_left
      · intro w hSw; (try dsimp only at hSw); go_split_ands; go_simp; with_reducible rfl
      change wpAnyH _ _ _ _ _ _ _ (Act.put _ (some 81) _) _
      simp only [Act.put, List.setIfInBounds_toArray, List.set_cons_zero, List.set_cons_succ, Array.toArray_toList]
      refine wpAnyH_take (i := 56) (v := ?_) rfl (by kernel_rfl) (by kernel_rfl) (by kernel_rfl) (fun _ _ _ h => h) (Or.inl ⟨by rfl, ?_⟩) (by assumption) ?_
      rotate_left
      · intro w hSw; (try dsimp only at hSw); go_split_ands; go_simp; with_reducible rfl
      change wpAnyH _ _ _ _ _ _ _ (Act.put _ (some 82) _) _
      simp only [Act.put, List.setIfInBounds_toArray, List.set_cons_zero, List.set_cons_succ, Array.toArray_toList]
      refine wpAnyH_take (i := 57) (v := ?_) rfl (by kernel_rfl) (by kernel_rfl) (by kernel_rfl) (fun _ _ _ h => h) (Or.inl ⟨by rfl, ?_⟩) (by assumption) ?_
      rotate_left
      · intro w hSw; (try dsimp only at hSw); go_split_ands; go_simp; with_reducible rfl
      change wpAnyH _ _ _ _ _ _ _ (Act.put _ (some 83) _) _
      simp only [Act.put, List.setIfInBounds_toArray, List.set_cons_zero, List.set_cons_succ, Array.toArray_toList]
      refine wpAnyH_ready (rs := [53]) (by kernel_rfl) (by simp) ?_
      refine (AllReadyH.cons rfl (fun K hK => ?_) AllReadyH.nil)
      go_simp
      (with_reducible refine (HEX.out _).mono ?_); rintro e wq ⟨rfl, hb⟩; have Mq := Lib.hid (Mq.out.below hb); clear hb
      go_wp2_with fail
      refine hK.out _ _ (by exact HCE.out _ Mq.out) (fun hHeld => ?_)
      clear hK K
      refine wpAnyH_take (i := 58) (v := ?_) rfl (by kernel_rfl) (by kernel_rfl) (by kernel_rfl) (fun _ _ _ h => h) (Or.inl ⟨by rfl, ?_⟩) (by assumption) ?_
      rotate_left
      · intro w hSw; (try dsimp only at hSw); go_split_ands; go_simp; with_reducible rfl
      change wpAnyH _ _ _ _ _ _ _ (Act.put _ (some 84) _) _
      simp only [Act.put, List.setIfInBounds_toArray, List.set_cons_zero, List.set_cons_succ, Array.toArray_toList]
      refine wpAnyH_take (i := 59) (v := ?_) rfl (by kernel_rfl) (by kernel_rfl) (by kernel_rfl) (fun _ _ _ h => h) (Or.inl ⟨by rfl, ?_⟩) (by assumption) ?_
      rotate_left
      · intro w hSw; (try dsimp only at hSw); go_split_ands; go_simp; with_reducible rfl
      change wpAnyH _ _ _ _ _ _ _ (Act.put _ (some 85) _) _
      simp only [Act.put, List.setIfInBounds_toArray, List.set_cons_zero, List.set_cons_succ, Array.toArray_toList]
      refine wpAnyH_take (i := 60) (v := ?_) rfl (by kernel_rfl) (by kernel_rfl) (by kernel_rfl) (fun _ _ _ h => h) (Or.inl ⟨by rfl, ?_⟩) (by assumption) ?_
      rotate_left
      · intro w hSw; (try dsimp only at hSw); go_split_ands; go_simp; with_reducible rfl
      change wpAnyH _ _ _ _ _ _ _ (Act.put _ (some 8) _) _
      simp only [Act.put, List.setIfInBounds_toArray, List.set_cons_zero, List.set_cons_succ, Array.toArray_toList]
      refine wpAnyH_done (by kernel_rfl) ?_ _
      clear hHeld K0
      go_wp2
      go_ret
      exact ⟨rfl, Mq.out.bel⟩
    · skip
      go_upto_region 3 with fail
      refine wp_region_held_drew (S := fun w' => (w'.cell? ⟨g9, 0, none⟩ = some (.int .i64 i1) ∧ w'.cell? ⟨g9, 1, none⟩ = some (.int .i64 r1) ∧ w'.cell? ⟨g9, 2, none⟩ = some (.int .i64 x1) ∧ w'.cell? ⟨g9, 3, none⟩ = some (.int .i64 s1)) ∧ (w'.cell? ⟨g10, 0, none⟩ = some (.int .i64 i2) ∧ w'.cell? ⟨g10, 1, none⟩ = some (.int .i64 r2) ∧ w'.cell? ⟨g10, 2, none⟩ = some (.int .i64 x2) ∧ w'.cell? ⟨g10, 3, none⟩ = some (.int .i64 s2)) ∧ (w'.cell? ⟨g11, 0, none⟩ = some (.int .i64 i3) ∧ w'.cell? ⟨g11, 1, none⟩ = some (.int .i64 r3) ∧ w'.cell? ⟨g11, 2, none⟩ = some (.int .i64 x3) ∧ w'.cell? ⟨g11, 3, none⟩ = some (.int .i64 s3)) ∧ (w'.cell? ⟨W.heap.size, 0, none⟩ = some (.int .i64 i1) ∧ w'.cell? ⟨W.heap.size, 1, none⟩ = some (.int .i64 r1) ∧ w'.cell? ⟨W.heap.size, 2, none⟩ = some (.int .i64 x1) ∧ w'.cell? ⟨W.heap.size, 3, none⟩ = some (.int .i64 s1)) ∧ (w'.cell? ⟨W.heap.size + 1, 0, none⟩ = some (.int .i64 i2) ∧ w'.cell? ⟨W.heap.size + 1, 1, none⟩ = some (.int .i64 r2) ∧ w'.cell? ⟨W.heap.size + 1, 2, none⟩ = some (.int .i64 x2) ∧ w'.cell? ⟨W.heap.size + 1, 3, none⟩ = some (.int .i64 s2))) (by kernel_rfl) ?_ (fun hHeld => ?_)
      · exact K0.out
      generalize hw8 : World.drew _ = w8 at hHeld ⊢
      have Mq := Lib.hid (Mq.out.drew.toV5 hw8 rfl)
      clear hw8
      refine wpAnyH_ready (rs := [0]) (by kernel_rfl) (by simp) ?_
      refine (AllReadyH.cons rfl (fun K hK => ?_) AllReadyH.nil)
      go_simp
      (with_reducible refine (known05 _).mono ?_); rintro e wk ⟨rfl, hb⟩; have Mq := Lib.hid (Mq.out.below hb); clear hb
      go_wp2_with fail
      refine hK.out _ _ (by exact HCE.out _ Mq.out) (fun hHeld => ?_)
      clear hK K
      refine wpAnyH_take (i := 1) (v := ?_) rfl (by kernel_rfl) (by kernel_rfl) (by kernel_rfl) (fun _ _ _ h => h) (Or.inl ⟨by rfl, ?_⟩) (by assumption) ?_
      rotate_left
      · intro w hSw; (try dsimp only at hSw); go_split_ands; go_simp; with_reducible rfl
      change wpAnyH _ _ _ _ _ _ _ (Act.put _ (some 27) _) _
      simp only [Act.put, List.setIfInBounds_toArray, List.set_cons_zero, List.set_cons_succ, Array.toArray_toList]
      refine wpAnyH_take (i := 2) (v := ?_) rfl (by kernel_rfl) (by kernel_rfl) (by kernel_rfl) (fun _ _ _ h => h) (Or.inl ⟨by rfl, ?_⟩) (by assumption) ?_
      rotate_left
      · intro w hSw; (try dsimp only at hSw); go_split_ands; go_simp; with_reducible rfl
      change wpAnyH _ _ _ _ _ _ _ (Act.put _ (some 28) _) _
      simp only [Act.put, List.setIfInBounds_toArray, List.set_cons_zero, List.set_cons_succ, Array.toArray_toList]
      refine wpAnyH_take (i := 3) (v := ?_) rfl (by kernel_rfl) (by kernel_rfl) (by kernel_rfl) (fun _ _ _ h => h) (Or.inl ⟨by rfl, ?_⟩) (by assumption) ?_
      rotate_left
      · intro w hSw; (try dsimp only at hSw); go_split_ands; go_simp; with_reducible rfl
      change wpAnyH _ _ _ _ _ _ _ (Act.put _ (some 29) _) _
      simp only [Act.put, List.setIfInBounds_toArray, List.set_cons_zero, List.set_cons_succ, Array.toArray_toList]
      refine wpAnyH_take (i := 4) (v := ?_) rfl (by kernel_rfl) (by kernel_rfl) (by kernel_rfl) (fun _ _ _ h => h) (Or.inl ⟨by rfl, ?_⟩) (by assumption) ?_
      rotate_left
      · intro w hSw; (try dsimp only at hSw); go_split_ands; go_simp; with_reducible rfl
      change wpAnyH _ _ _ _ _ _ _ (Act.put _ (some 30) _) _
      simp only [Act.put, List.setIfInBounds_toArray, List.set_cons_zero, List.set_cons_succ, Array.toArray_toList]
      refine wpAnyH_take (i := 5) (v := ?_) rfl (by kernel_rfl) (by kernel_rfl) (by kernel_rfl) (fun _ _ _ h => h) (Or.inl ⟨by rfl, ?_⟩) (by assumption) ?_
      rotate_left
      · intro w hSw; (try dsimp only at hSw); go_split_ands; go_simp; with_reducible rfl
      change wpAnyH _ _ _ _ _ _ _ (Act.put _ (some 31) _) _
      simp only [Act.put, List.setIfInBounds_toArray, List.set_cons_zero, List.set_cons_succ, Array.toArray_toList]
      refine wpAnyH_ready (rs := [6]) (by kernel_rfl) (by simp) ?_
      refine (AllReadyH.cons rfl (fun K hK => ?_) AllReadyH.nil)
      go_simp
      (with_reducible refine (HL12.out _).mono ?_); rintro e wq ⟨rfl, hb⟩; have Mq := Lib.hid (Mq.out.below hb); clear hb
      go_wp2_with fail
      refine hK.out _ _ (by exact HCE.out _ Mq.out) (fun hHeld => ?_)
      clear hK K
      refine wpAnyH_take (i := 7) (v := ?_) rfl (by kernel_rfl) (by kernel_rfl) (by kernel_rfl) (fun _ _ _ h => h) (Or.inl ⟨by rfl, ?_⟩) (by assumption) ?_
      rotate_left
      · intro w hSw; (try dsimp only at hSw); go_split_ands; go_simp; with_reducible rfl
      change wpAnyH _ _ _ _ _ _ _ (Act.put _ (some 33) _) _
      simp only [Act.put, List.setIfInBounds_toArray, List.set_cons_zero, List.set_cons_succ, Array.toArray_toList]
      refine wpAnyH_take (i := 8) (v := ?_) rfl (by kernel_rfl) (by kernel_rfl) (by kernel_rfl) (fun _ _ _ h => h) (Or.inl ⟨by rfl, ?_⟩) (by assumption) ?_
      rotate_left
      · intro w hSw; (try dsimp only at hSw); go_split_ands; go_simp; with_reducible rfl
      change wpAnyH _ _ _ _ _ _ _ (Act.put _ (some 34) _) _
      simp only [Act.put, List.setIfInBounds_toArray, List.set_cons_zero, List.set_cons_succ, Array.toArray_toList]
      refine wpAnyH_take (i := 9) (v := ?_) rfl (by kernel_rfl) (by kernel_rfl) (by kernel_rfl) (fun _ _ _ h => h) (Or.inl ⟨by rfl, ?_⟩) (by assumption) ?_
      rotate_left
      · intro w hSw; (try dsimp only at hSw); go_split_ands; go_simp; with_reducible rfl
      change wpAnyH _ _ _ _ _ _ _ (Act.put _ (some 35) _) _
      simp only [Act.put, List.setIfInBounds_toArray, List.set_cons_zero, List.set_cons_succ, Array.toArray_toList]
      refine wpAnyH_take (i := 10) (v := ?_) rfl (by kernel_rfl) (by kernel_rfl) (by kernel_rfl) (fun _ _ _ h => h) (Or.inl ⟨by rfl, ?_⟩) (by assumption) ?_
      rotate_left
      · intro w hSw; (try dsimp only at hSw); go_split_ands; go_simp; with_reducible rfl
      change wpAnyH _ _ _ _ _ _ _ (Act.put _ (some 36) _) _
      simp only [Act.put, List.setIfInBounds_toArray, List.set_cons_zero, List.set_cons_succ, Array.toArray_toList]
      refine wpAnyH_take (i := 11) (v := ?_) rfl (by kernel_rfl) (by kernel_rfl) (by kernel_rfl) (fun _ _ _ h => h) (Or.inl ⟨by rfl, ?_⟩) (by assumption) ?_
      rotate_left
      · intro w hSw; (try dsimp only at hSw); go_split_ands; go_simp; with_reducible rfl
      change wpAnyH _ _ _ _ _ _ _ (Act.put _ (some 37) _) _
      simp only [Act.put, List.setIfInBounds_toArray, List.set_cons_zero, List.set_cons_succ, Array.toArray_toList]
      refine wpAnyH_take (i := 12) (v := ?_) rfl (by kernel_rfl) (by kernel_rfl) (by kernel_rfl) (fun _ _ _ h => h) (Or.inl ⟨by rfl, ?_⟩) (by assumption) ?_
      rotate_left
      · intro w hSw; (try dsimp only at hSw); go_split_ands; go_simp; with_reducible rfl
      change wpAnyH _ _ _ _ _ _ _ (Act.put _ (some 38) _) _
      simp only [Act.put, List.setIfInBounds_toArray, List.set_cons_zero, List.set_cons_succ, Array.toArray_toList]
      refine wpAnyH_take (i := 13) (v := ?_) rfl (by kernel_rfl) (by kernel_rfl) (by kernel_rfl) (fun _ _ _ h => h) (Or.inl ⟨by rfl, ?_⟩) (by assumption) ?_
      rotate_left
      · intro w hSw; (try dsimp only at hSw); go_split_ands; go_simp; with_reducible rfl
      change wpAnyH _ _ _ _ _ _ _ (Act.put _ (some 39) _) _
      simp only [Act.put, List.setIfInBounds_toArray, List.set_cons_zero, List.set_cons_succ, Array.toArray_toList]
      refine wpAnyH_ready (rs := [14]) (by kernel_rfl) (by simp) ?_
      refine (AllReadyH.cons rfl (fun K hK => ?_) AllReadyH.nil)
      go_simp
      (with_reducible refine (HL21.out _).mono ?_); rintro e wq ⟨rfl, hb⟩; have Mq := Lib.hid (Mq.out.below hb); clear hb
      go_wp2_with fail
      refine hK.out _ _ (by exact HCE.out _ Mq.out) (fun hHeld => ?_)
      clear hK K
      refine wpAnyH_take (i := 15) (v := ?_) rfl (by kernel_rfl) (by kernel_rfl) (by kernel_rfl) (fun _ _ _ h => h) (Or.inl ⟨by rfl, ?_⟩) (by assumption) ?_
      rotate_left
      · intro w hSw; (try dsimp only at hSw); go_split_ands; go_simp; with_reducible rfl
      change wpAnyH _ _ _ _ _ _ _ (Act.put _ (some 41) _) _
      simp only [Act.put, List.setIfInBounds_toArray, List.set_cons_zero, List.set_cons_succ, Array.toArray_toList]
      refine wpAnyH_take (i := 16) (v := ?_) rfl (by kernel_rfl) (by kernel_rfl) (by kernel_rfl) (fun _ _ _ h => h) (Or.inl ⟨by rfl, ?_⟩) (by assumption) ?_
      rotate_left
      · intro w hSw; (try dsimp only at hSw); go_split_ands; go_simp; with_reducible rfl
      change wpAnyH _ _ _ _ _ _ _ (Act.put _ (some 42) _) _
      simp only [Act.put, List.setIfInBounds_toArray, List.set_cons_zero, List.set_cons_succ, Array.toArray_toList]
      refine wpAnyH_take (i := 17) (v := ?_) rfl (by kernel_rfl) (by kernel_rfl) (by kernel_rfl) (fun _ _ _ h => h) (Or.inl ⟨by rfl, ?_⟩) (by assumption) ?_
      rotate_left
      · intro w hSw; (try dsimp only at hSw); go_split_ands; go_simp; with_reducible rfl
      change wpAnyH _ _ _ _ _ _ _ (Act.put _ (some 43) _) _
      simp only [Act.put, List.setIfInBounds_toArray, List.set_cons_zero, List.set_cons_succ, Array.toArray_toList]
      refine wpAnyH_take (i := 18) (v := ?_) rfl (by kernel_rfl) (by kernel_rfl) (by kernel_rfl) (fun _ _ _ h => h) (Or.inl ⟨by rfl, ?_⟩) (by assumption) ?_
      rotate_left
      · intro w hSw; (try dsimp only at hSw); go_split_ands; go_simp; with_reducible rfl
      change wpAnyH _ _ _ _ _ _ _ (Act.put _ (some 44) _) _
      simp only [Act.put, List.setIfInBounds_toArray, List.set_cons_zero, List.set_cons_succ, Array.toArray_toList]
      refine wpAnyH_take (i := 19) (v := ?_) rfl (by kernel_rfl) (by kernel_rfl) (by kernel_rfl) (fun _ _ _ h => h) (Or.inl ⟨by rfl, ?_⟩) (by assumption) ?_
      rotate_left
      · intro w hSw; (try dsimp only at hSw); go_split_ands; go_simp; with_reducible rfl
      change wpAnyH _ _ _ _ _ _ _ (Act.put _ (some 45) _) _
      simp only [Act.put, List.setIfInBounds_toArray, List.set_cons_zero, List.set_cons_succ, Array.toArray_toList]
      refine wpAnyH_take (i := 20) (v := ?_) rfl (by kernel_rfl) (by kernel_rfl) (by kernel_rfl) (fun _ _ _ h => h) (Or.inl ⟨by rfl, ?_⟩) (by assumption) ?_
      rotate_left
      · intro w hSw; (try dsimp only at hSw); go_split_ands; go_simp; with_reducible rfl
      change wpAnyH _ _ _ _ _ _ _ (Act.put _ (some 46) _) _
      simp only [Act.put, List.setIfInBounds_toArray, List.set_cons_zero, List.set_cons_succ, Array.toArray_toList]
      refine wpAnyH_take (i := 21) (v := ?_) rfl (by kernel_rfl) (by kernel_rfl) (by kernel_rfl) (fun _ _ _ h => h) (Or.inl ⟨by rfl, ?_⟩) (by assumption) ?_
      rotate_left
      · intro w hSw; (try dsimp only at hSw); go_split_ands; go_simp; with_reducible rfl
      change wpAnyH _ _ _ _ _ _ _ (Act.put _ (some 47) _) _
      simp only [Act.put, List.setIfInBounds_toArray, List.set_cons_zero, List.set_cons_succ, Array.toArray_toList]
      refine wpAnyH_take (i := 22) (v := ?_) rfl (by kernel_rfl) (by kernel_rfl) (by kernel_rfl) (fun _ _ _ h => h) (Or.inl ⟨by rfl, ?_⟩) (by assumption) ?_
      rotate_left
      · intro w hSw; (try dsimp only at hSw); go_split_ands; go_simp; with_reducible rfl
      change wpAnyH _ _ _ _ _ _ _ (Act.put _ (some 48) _) _
      simp only [Act.put, List.setIfInBounds_toArray, List.set_cons_zero, List.set_cons_succ, Array.toArray_toList]
      refine wpAnyH_take (i := 23) (v := ?_) rfl (by kernel_rfl) (by kernel_rfl) (by kernel_rfl) (fun _ _ _ h => h) (Or.inl ⟨by rfl, ?_⟩) (by assumption) ?_
      rotate_left
      · intro w hSw; (try dsimp only at hSw); go_split_ands; go_simp; with_reducible rfl
      change wpAnyH _ _ _ _ _ _ _ (Act.put _ (some 49) _) _
      simp only [Act.put, List.setIfInBounds_toArray, List.set_cons_zero, List.set_cons_succ, Array.toArray_toList]
      refine wpAnyH_take (i := 24) (v := ?_) rfl (by kernel_rfl) (by kernel_rfl) (by kernel_rfl) (fun _ _ _ h => h) (Or.inl ⟨by rfl, ?_⟩) (by assumption) ?_
      rotate_left
      · intro w hSw; (try dsimp only at hSw); go_split_ands; go_simp; with_reducible rfl
      change wpAnyH _ _ _ _ _ _ _ (Act.put _ (some 50) _) _
      simp only [Act.put, List.setIfInBounds_toArray, List.set_cons_zero, List.set_cons_succ, Array.toArray_toList]
      refine wpAnyH_take (i := 25) (v := ?_) rfl (by kernel_rfl) (by kernel_rfl) (by kernel_rfl) (fun _ _ _ h => h) (Or.inl ⟨by rfl, ?_⟩) (by assumption) ?_
      rotate_left
      · intro w hSw; (try dsimp only at hSw); go_split_ands; go_simp; with_reducible rfl
      change wpAnyH _ _ _ _ _ _ _ (Act.put _ (some 51) _) _
      simp only [Act.put, List.setIfInBounds_toArray, List.set_cons_zero, List.set_cons_succ, Array.toArray_toList]
      refine wpAnyH_take (i := 26) (v := ?_) rfl (by kernel_rfl) (by kernel_rfl) (by kernel_rfl) (fun _ _ _ h => h) (Or.inl ⟨by rfl, ?_⟩) (by assumption) ?_
      rotate_left
      · intro w hSw; (try dsimp only at hSw); go_split_ands; go_simp; with_reducible rfl
      change wpAnyH _ _ _ _ _ _ _ (Act.put _ (some 52) _) _
      simp only [Act.put, List.setIfInBounds_toArray, List.set_cons_zero, List.set_cons_succ, Array.toArray_toList]
      refine wpAnyH_take (i := 28) (v := ?_) rfl (by kernel_rfl) (by kernel_rfl) (by kernel_rfl) (fun _ _ _ h => h) (Or.inl ⟨by rfl, ?_⟩) (by assumption) ?_
      rotate_left
      · intro w hSw; (try dsimp only at hSw); go_split_ands; go_simp; with_reducible rfl
      change wpAnyH _ _ _ _ _ _ _ (Act.put _ (some 54) _) _
      simp only [Act.put, List.setIfInBounds_toArray, List.set_cons_zero, List.set_cons_succ, Array.toArray_toList]
      refine wpAnyH_take (i := 31) (v := ?_) rfl (by kernel_rfl) (by kernel_rfl) (by kernel_rfl) (fun _ _ _ h => h) (Or.inl ⟨by rfl, ?_⟩) (by assumption) ?_
      rotate_left
      · intro w hSw; (try dsimp only at hSw); go_split_ands; go_simp; with_reducible rfl
      change wpAnyH _ _ _ _ _ _ _ (Act.put _ (some 57) _) _
      simp only [Act.put, List.setIfInBounds_toArray, List.set_cons_zero, List.set_cons_succ, Array.toArray_toList]
      refine wpAnyH_take (i := 32) (v := ?_) rfl (by kernel_rfl) (by kernel_rfl) (by kernel_rfl) (fun _ _ _ h => h) (Or.inl ⟨by rfl, ?_⟩) (by assumption) ?_
      rotate_left
      · intro w hSw; (try dsimp only at hSw); go_split_ands; go_simp; with_reducible rfl
      change wpAnyH _ _ _ _ _ _ _ (Act.put _ (some 58) _) _
      simp only [Act.put, List.setIfInBounds_toArray, List.set_cons_zero, List.set_cons_succ, Array.toArray_toList]
      refine wpAnyH_take (i := 33) (v := ?_) rfl (by kernel_rfl) (by kernel_rfl) (by kernel_rfl) (fun _ _ _ h => h) (Or.inl ⟨by rfl, ?_⟩) (by assumption) ?_
      rotate_left
      · intro w hSw; (try dsimp only at hSw); go_split_ands; go_simp; with_reducible rfl
      change wpAnyH _ _ _ _ _ _ _ (Act.put _ (some 59) _) _
      simp only [Act.put, List.setIfInBounds_toArray, List.set_cons_zero, List.set_cons_succ, Array.toArray_toList]
      refine wpAnyH_ready (rs := [27]) (by kernel_rfl) (by simp) ?_
      refine (AllReadyH.cons rfl (fun K hK => ?_) AllReadyH.nil)
      go_simp
      (with_reducible refine (HTA.out _ Mq.out.bel).mono ?_); rintro e wq ⟨rfl, hb⟩; have Mq := Lib.hid (Mq.out.below hb); clear hb
      go_wp2_with fail
      refine hK.out _ _ (by exact HCE.out _ Mq.out) (fun hHeld => ?_)
      clear hK K
      refine wpAnyH_ready (rs := [29]) (by kernel_rfl) (by simp) ?_
      refine (AllReadyH.cons rfl (fun K hK => ?_) AllReadyH.nil)
      go_simp
      (with_reducible refine (HTB.out _ Mq.out.bel).mono ?_); rintro e wq ⟨rfl, hb⟩; have Mq := Lib.hid (Mq.out.below hb); clear hb
      go_wp2_with fail
      refine hK.out _ _ (by exact HCE.out _ Mq.out) (fun hHeld => ?_)
      clear hK K
      refine wpAnyH_take (i := 30) (v := ?_) rfl (by kernel_rfl) (by kernel_rfl) (by kernel_rfl) (fun _ _ _ h => h) (Or.inl ⟨by rfl, ?_⟩) (by assumption) ?_
      rotate_left
      · intro w hSw; (try dsimp only at hSw); go_split_ands; go_simp; with_reducible rfl
      change wpAnyH _ _ _ _ _ _ _ (Act.put _ (some 56) _) _
      simp only [Act.put, List.setIfInBounds_toArray, List.set_cons_zero, List.set_cons_succ, Array.toArray_toList]
      refine wpAnyH_take (i := 34) (v := ?_) rfl (by kernel_rfl) (by kernel_rfl) (by kernel_rfl) (fun _ _ _ h => h) (Or.inl ⟨by rfl, ?_⟩) (by assumption) ?_
      rotate_left
      · intro w hSw; (try dsimp only at hSw); go_split_ands; go_simp; with_reducible rfl
      change wpAnyH _ _ _ _ _ _ _ (Act.put _ (some 60) _) _
      simp only [Act.put, List.setIfInBounds_toArray, List.set_cons_zero, List.set_cons_succ, Array.toArray_toList]
      refine wpAnyH_take (i := 35) (v := ?_) rfl (by kernel_rfl) (by kernel_rfl) (by kernel_rfl) (fun _ _ _ h => h) (Or.inl ⟨by rfl, ?_⟩) (by assumption) ?_
      rotate_left
      · intro w hSw; (try dsimp only at hSw); go_split_ands; go_simp; with_reducible rfl
      change wpAnyH _ _ _ _ _ _ _ (Act.put _ (some 61) _) _
      simp only [Act.put, List.setIfInBounds_toArray, List.set_cons_zero, List.set_cons_succ, Array.toArray_toList]
      refine wpAnyH_take (i := 36) (v := ?_) rfl (by kernel_rfl) (by kernel_rfl) (by kernel_rfl) (fun _ _ _ h => h) (Or.inl ⟨by rfl, ?_⟩) (by assumption) ?_
      rotate_left
      · intro w hSw; (try dsimp only at hSw); go_split_ands; go_simp; with_reducible rfl
      change wpAnyH _ _ _ _ _ _ _ (Act.put _ (some 62) _) _
      simp only [Act.put, List.setIfInBounds_toArray, List.set_cons_zero, List.set_cons_succ, Array.toArray_toList]
      refine wpAnyH_take (i := 37) (v := ?_) rfl (by kernel_rfl) (by kernel_rfl) (by kernel_rfl) (fun _ _ _ h => h) (Or.inl ⟨by rfl, ?_⟩) (by assumption) ?_
      rotate_left
      · intro w hSw; (try dsimp only at hSw); go_split_ands; go_simp; with_reducible rfl
      change wpAnyH _ _ _ _ _ _ _ (Act.put _ (some 63) _) _
      simp only [Act.put, List.setIfInBounds_toArray, List.set_cons_zero, List.set_cons_succ, Array.toArray_toList]
      refine wpAnyH_take (i := 38) (v := ?_) rfl (by kernel_rfl) (by kernel_rfl) (by kernel_rfl) (fun _ _ _ h => h) (Or.inl ⟨by rfl, ?_⟩) (by assumption) ?_
      rotate_left
      · intro w hSw; (try dsimp only at hSw); go_split_ands; go_simp; with_reducible rfl
      change wpAnyH _ _ _ _ _ _ _ (Act.put _ (some 64) _) _
      simp only [Act.put, List.setIfInBounds_toArray, List.set_cons_zero, List.set_cons_succ, Array.toArray_toList]
      refine wpAnyH_take (i := 39) (v := ?_) rfl (by kernel_rfl) (by kernel_rfl) (by kernel_rfl) (fun _ _ _ h => h) (Or.inl ⟨by rfl, ?_⟩) (by assumption) ?_
      rotate_left
      · intro w hSw; (try dsimp only at hSw); go_split_ands; go_simp; with_reducible rfl
      change wpAnyH _ _ _ _ _ _ _ (Act.put _ (some 65) _) _
      simp only [Act.put, List.setIfInBounds_toArray, List.set_cons_zero, List.set_cons_succ, Array.toArray_toList]
      refine wpAnyH_take (i := 40) (v := undef) rfl (by kernel_rfl) (by kernel_rfl) (by kernel_rfl) (fun _ _ _ h => h) (Or.inr ⟨by rfl, rfl⟩) (by assumption) ?_
      change wpAnyH _ _ _ _ _ _ _ (Act.put _ (some 66) _) _
      simp only [Act.put, List.setIfInBounds_toArray, List.set_cons_zero, List.set_cons_succ, Array.toArray_toList]
      refine wpAnyH_take (i := 41) (v := undef) rfl (by kernel_rfl) (by kernel_rfl) (by kernel_rfl) (fun _ _ _ h => h) (Or.inr ⟨by rfl, rfl⟩) (by assumption) ?_
      change wpAnyH _ _ _ _ _ _ _ (Act.put _ (some 67) _) _
      simp only [Act.put, List.setIfInBounds_toArray, List.set_cons_zero, List.set_cons_succ, Array.toArray_toList]
      refine wpAnyH_take (i := 42) (v := ?_) rfl (by kernel_rfl) (by kernel_rfl) (by kernel_rfl) (fun _ _ _ h => h) (Or.inl ⟨by rfl, ?_⟩) (by assumption) ?_
      rotate_left
      · intro w hSw; (try dsimp only at hSw); go_split_ands; go_simp; with_reducible rfl
      change wpAnyH _ _ _ _ _ _ _ (Act.put _ (some 68) _) _
      simp only [Act.put, List.setIfInBounds_toArray, List.set_cons_zero, List.set_cons_succ, Array.toArray_toList]
      refine wpAnyH_take (i := 43) (v := ?_) rfl (by kernel_rfl) (by kernel_rfl) (by kernel_rfl) (fun _ _ _ h => h) (Or.inl ⟨by rfl, ?_⟩) (by assumption) ?_
      rotate_left
      · intro w hSw; (try dsimp only at hSw); go_split_ands; go_simp; with_reducible rfl
      change wpAnyH _ _ _ _ _ _ _ (Act.put _ (some 69) _) _
      simp only [Act.put, List.setIfInBounds_toArray, List.set_cons_zero, List.set_cons_succ, Array.toArray_toList]
      refine wpAnyH_take (i := 44) (v := undef) rfl (by kernel_rfl) (by kernel_rfl) (by kernel_rfl) (fun _ _ _ h => h) (Or.inr ⟨by rfl, rfl⟩) (by assumption) ?_
      change wpAnyH _ _ _ _ _ _ _ (Act.put _ (some 70) _) _
      simp only [Act.put, List.setIfInBounds_toArray, List.set_cons_zero, List.set_cons_succ, Array.toArray_toList]
      refine wpAnyH_take (i := 45) (v := undef) rfl (by kernel_rfl) (by kernel_rfl) (by kernel_rfl) (fun _ _ _ h => h) (Or.inr ⟨by rfl, rfl⟩) (by assumption) ?_
      change wpAnyH _ _ _ _ _ _ _ (Act.put _ (some 71) _) _
      simp only [Act.put, List.setIfInBounds_toArray, List.set_cons_zero, List.set_cons_succ, Array.toArray_toList]
      refine wpAnyH_take (i := 46) (v := undef) rfl (by kernel_rfl) (by kernel_rfl) (by kernel_rfl) (fun _ _ _ h => h) (Or.inr ⟨by rfl, rfl⟩) (by assumption) ?_
      change wpAnyH _ _ _ _ _ _ _ (Act.put _ (some 72) _) _
      simp only [Act.put, List.setIfInBounds_toArray, List.set_cons_zero, List.set_cons_succ, Array.toArray_toList]
      refine wpAnyH_take (i := 47) (v := undef) rfl (by kernel_rfl) (by kernel_rfl) (by kernel_rfl) (fun _ _ _ h => h) (Or.inr ⟨by rfl, rfl⟩) (by assumption) ?_
      change wpAnyH _ _ _ _ _ _ _ (Act.put _ (some 73) _) _
      simp only [Act.put, List.setIfInBounds_toArray, List.set_cons_zero, List.set_cons_succ, Array.toArray_toList]
      refine wpAnyH_take (i := 48) (v := ?_) rfl (by kernel_rfl) (by kernel_rfl) (by kernel_rfl) (fun _ _ _ h => h) (Or.inl ⟨by rfl, ?_⟩) (by assumption) ?_
      rotate_left
      · intro w hSw; (try dsimp only at hSw); go_split_ands; go_simp; with_reducible rfl
      change wpAnyH _ _ _ _ _ _ _ (Act.put _ (some 74) _) _
      simp only [Act.put, List.setIfInBounds_toArray, List.set_cons_zero, List.set_cons_succ, Array.toArray_toList]
      refine wpAnyH_take (i := 49) (v := ?_) rfl (by kernel_rfl) (by kernel_rfl) (by kernel_rfl) (fun _ _ _ h => h) (Or.inl ⟨by rfl, ?_⟩) (by assumption) ?_
      rotate_left
      · intro w hSw; (try dsimp only at hSw); go_split_ands; go_simp; with_reducible rfl
      change wpAnyH _ _ _ _ _ _ _ (Act.put _ (some 75) _) _
      simp only [Act.put, List.setIfInBounds_toArray, List.set_cons_zero, List.set_cons_succ, Array.toArray_toList]
      refine wpAnyH_take (i := 50) (v := ?_) rfl (by kernel_rfl) (by kernel_rfl) (by kernel_rfl) (fun _ _ _ h => h) (Or.inl ⟨by rfl, ?_⟩) (by assumption) ?_
      rotate_left
      · intro w hSw; (try dsimp only at hSw); go_split_ands; go_simp; with_reducible rfl
      change wpAnyH _ _ _ _ _ _ _ (Act.put _ (some 76) _) _
      simp only [Act.put, List.setIfInBounds_toArray, List.set_cons_zero, List.set_cons_succ, Array.toArray_toList]
      refine wpAnyH_take (i := 51) (v := ?_) rfl (by kernel_rfl) (by kernel_rfl) (by kernel_rfl) (fun _ _ _ h => h) (Or.inl ⟨by rfl, ?_⟩) (by assumption) ?_
      rotate_left
      · intro w hSw; (try dsimp only at hSw); go_split_ands; go_simp; with_reducible rfl
      change wpAnyH _ _ _ _ _ _ _ (Act.put _ (some 77) _) _
      simp only [Act.put, List.setIfInBounds_toArray, List.set_cons_zero, List.set_cons_succ, Array.toArray_toList]
      refine wpAnyH_take (i := 52) (v := ?_) rfl (by kernel_rfl) (by kernel_rfl) (by kernel_rfl) (fun _ _ _ h => h) (Or.inl ⟨by rfl, ?_⟩) (by assumption) ?_
      rotate_left
      · intro w hSw; (try dsimp only at hSw); go_split_ands; go_simp; with_reducible rfl
      change wpAnyH _ _ _ _ _ _ _ (Act.put _ (some 78) _) _
      simp only [Act.put, List.setIfInBounds_toArray, List.set_cons_zero, List.set_cons_succ, Array.toArray_toList]
      refine wpAnyH_take (i := 54) (v := ?_) rfl (by kernel_rfl) (by kernel_rfl) (by kernel_rfl) (fun _ _ _ h => h) (Or.inl ⟨by rfl, ?_⟩) (by assumption) ?_
      rotate_left
      · intro w hSw; (try dsimp only at hSw); go_split_ands; go_simp; with_reducible rfl
      change wpAnyH _ _ _ _ _ _ _ (Act.put _ (some 80) _) _
      simp only [Act.put, List.setIfInBounds_toArray, List.set_cons_zero, List.set_cons_succ, Array.toArray_toList]
      refine wpAnyH_take (i := 55) (v := ?_) rfl (by kernel_rfl) (by kernel_rfl) (by kernel_rfl) (fun _ _ _ h => h) (Or.inl ⟨by rfl, ?_⟩) (by assumption) ?_
      rotate_left
      · intro w hSw; (try dsimp only at hSw); go_split_ands; go_simp; with_reducible rfl
      change wpAnyH _ _ _ _ _ _ _ (Act.put _ (some 81) _) _
      simp only [Act.put, List.setIfInBounds_toArray, List.set_cons_zero, List.set_cons_succ, Array.toArray_toList]
      refine wpAnyH_take (i := 56) (v := ?_) rfl (by kernel_rfl) (by kernel_rfl) (by kernel_rfl) (fun _ _ _ h => h) (Or.inl ⟨by rfl, ?_⟩) (by assumption) ?_
      rotate_left
      · intro w hSw; (try dsimp only at hSw); go_split_ands; go_simp; with_reducible rfl
      change wpAnyH _ _ _ _ _ _ _ (Act.put _ (some 82) _) _
      simp only [Act.put, List.setIfInBounds_toArray, List.set_cons_zero, List.set_cons_succ, Array.toArray_toList]
      refine wpAnyH_take (i := 57) (v := ?_) rfl (by kernel_rfl) (by kernel_rfl) (by kernel_rfl) (fun _ _ _ h => h) (Or.inl ⟨by rfl, ?_⟩) (by assumption) ?_
      rotate_left
      · intro w hSw; (try dsimp only at hSw); go_split_ands; go_simp; with_reducible rfl
      change wpAnyH _ _ _ _ _ _ _ (Act.put _ (some 83) _) _
      simp only [Act.put, List.setIfInBounds_toArray, List.set_cons_zero, List.set_cons_succ, Array.toArray_toList]
      refine wpAnyH_ready (rs := [53]) (by kernel_rfl) (by simp) ?_
      refine (AllReadyH.cons rfl (fun K hK => ?_) AllReadyH.nil)
      go_simp
      (with_reducible refine (HEX.out _).mono ?_); rintro e wq ⟨rfl, hb⟩; have Mq := Lib.hid (Mq.out.below hb); clear hb
      go_wp2_with fail
      refine hK.out _ _ (by exact HCE.out _ Mq.out) (fun hHeld => ?_)
      clear hK K
      refine wpAnyH_take (i := 58) (v := ?_) rfl (by kernel_rfl) (by kernel_rfl) (by kernel_rfl) (fun _ _ _ h => h) (Or.inl ⟨by rfl, ?_⟩) (by assumption) ?_
      rotate_left
      · intro w hSw; (try dsimp only at hSw); go_split_ands; go_simp; with_reducible rfl
      change wpAnyH _ _ _ _ _ _ _ (Act.put _ (some 84) _) _
      simp only [Act.put, List.setIfInBounds_toArray, List.set_cons_zero, List.set_cons_succ, Array.toArray_toList]
      refine wpAnyH_take (i := 59) (v := ?_) rfl (by kernel_rfl) (by kernel_rfl) (by kernel_rfl) (fun _ _ _ h => h) (Or.inl ⟨by rfl, ?_⟩) (by assumption) ?_
      rotate_left
      · intro w hSw; (try dsimp only at hSw); go_split_ands; go_simp; with_reducible rfl
      change wpAnyH _ _ _ _ _ _ _ (Act.put _ (some 85) _) _
      simp only [Act.put, List.setIfInBounds_toArray, List.set_cons_zero, List.set_cons_succ, Array.toArray_toList]
      refine wpAnyH_take (i := 60) (v := ?_) rfl (by kernel_rfl) (by kernel_rfl) (by kernel_rfl) (fun _ _ _ h => h) (Or.inl ⟨by rfl, ?_⟩) (by assumption) ?_
      rotate_left
      · intro w hSw; (try dsimp only at hSw); go_split_ands; go_simp; with_reducible rfl
      change wpAnyH _ _ _ _ _ _ _ (Act.put _ (some 8) _) _
      simp only [Act.put, List.setIfInBounds_toArray, List.set_cons_zero, List.set_cons_succ, Array.toArray_toList]
      refine wpAnyH_done (by kernel_rfl) ?_ _
      clear hHeld K0
      go_wp2
      go_ret
      exact ⟨rfl, Mq.out.bel⟩
    · rcases hm with rfl | rfl
      · skip
        go_upto_region 3 with fail
        refine wp_region_held_drew (S := fun w' => (w'.cell? ⟨g9, 0, none⟩ = some (.int .i64 i1) ∧ w'.cell? ⟨g9, 1, none⟩ = some (.int .i64 r1) ∧ w'.cell? ⟨g9, 2, none⟩ = some (.int .i64 x1) ∧ w'.cell? ⟨g9, 3, none⟩ = some (.int .i64 s1)) ∧ (w'.cell? ⟨g10, 0, none⟩ = some (.int .i64 i2) ∧ w'.cell? ⟨g10, 1, none⟩ = some (.int .i64 r2) ∧ w'.cell? ⟨g10, 2, none⟩ = some (.int .i64 x2) ∧ w'.cell? ⟨g10, 3, none⟩ = some (.int .i64 s2)) ∧ (w'.cell? ⟨g11, 0, none⟩ = some (.int .i64 i3) ∧ w'.cell? ⟨g11, 1, none⟩ = some (.int .i64 r3) ∧ w'.cell? ⟨g11, 2, none⟩ = some (.int .i64 x3) ∧ w'.cell? ⟨g11, 3, none⟩ = some (.int .i64 s3)) ∧ (w'.cell? ⟨W.heap.size, 0, none⟩ = some (.int .i64 i1) ∧ w'.cell? ⟨W.heap.size, 1, none⟩ = some (.int .i64 r1) ∧ w'.cell? ⟨W.heap.size, 2, none⟩ = some (.int .i64 x1) ∧ w'.cell? ⟨W.heap.size, 3, none⟩ = some (.int .i64 s1)) ∧ (w'.cell? ⟨W.heap.size + 1, 0, none⟩ = some (.int .i64 i2) ∧ w'.cell? ⟨W.heap.size + 1, 1, none⟩ = some (.int .i64 r2) ∧ w'.cell? ⟨W.heap.size + 1, 2, none⟩ = some (.int .i64 x2) ∧ w'.cell? ⟨W.heap.size + 1, 3, none⟩ = some (.int .i64 s2))) (by kernel_rfl) ?_ (fun hHeld => ?_)
        · exact K0.out
        generalize hw8 : World.drew _ = w8 at hHeld ⊢
        have Mq := Lib.hid (Mq.out.drew.toV5 hw8 rfl)
        clear hw8
        refine wpAnyH_ready (rs := [0]) (by kernel_rfl) (by simp) ?_
        refine (AllReadyH.cons rfl (fun K hK => ?_) AllReadyH.nil)
        go_simp
        (with_reducible refine (known05 _).mono ?_); rintro e wk ⟨rfl, hb⟩; have Mq := Lib.hid (Mq.out.below hb); clear hb
        go_wp2_with fail
        refine hK.out _ _ (by exact HCE.out _ Mq.out) (fun hHeld => ?_)
        clear hK K
        refine wpAnyH_take (i := 1) (v := ?_) rfl (by kernel_rfl) (by kernel_rfl) (by kernel_rfl) (fun _ _ _ h => h) (Or.inl ⟨by rfl, ?_⟩) (by assumption) ?_
        rotate_left
        · intro w hSw; (try dsimp only at hSw); go_split_ands; go_simp; with_reducible rfl
        change wpAnyH _ _ _ _ _ _ _ (Act.put _ (some 27) _) _
        simp only [Act.put, List.setIfInBounds_toArray, List.set_cons_zero, List.set_cons_succ, Array.toArray_toList]
        refine wpAnyH_take (i := 2) (v := ?_) rfl (by kernel_rfl) (by kernel_rfl) (by kernel_rfl) (fun _ _ _ h => h) (Or.inl ⟨by rfl, ?_⟩) (by assumption) ?_
        rotate_left
        · intro w hSw; (try dsimp only at hSw); go_split_ands; go_simp; with_reducible rfl
        change wpAnyH _ _ _ _ _ _ _ (Act.put _ (some 28) _) _
        simp only [Act.put, List.setIfInBounds_toArray, List.set_cons_zero, List.set_cons_succ, Array.toArray_toList]
        refine wpAnyH_take (i := 3) (v := ?_) rfl (by kernel_rfl) (by kernel_rfl) (by kernel_rfl) (fun _ _ _ h => h) (Or.inl ⟨by rfl, ?_⟩) (by assumption) ?_
        rotate_left
        · intro w hSw; (try dsimp only at hSw); go_split_ands; go_simp; with_reducible rfl
        change wpAnyH _ _ _ _ _ _ _ (Act.put _ (some 29) _) _
        simp only [Act.put, List.setIfInBounds_toArray, List.set_cons_zero, List.set_cons_succ, Array.toArray_toList]
        refine wpAnyH_take (i := 4) (v := ?_) rfl (by kernel_rfl) (by kernel_rfl) (by kernel_rfl) (fun _ _ _ h => h) (Or.inl ⟨by rfl, ?_⟩) (by assumption) ?_
        rotate_left
        · intro w hSw; (try dsimp only at hSw); go_split_ands; go_simp; with_reducible rfl
        change wpAnyH _ _ _ _ _ _ _ (Act.put _ (some 30) _) _
        simp only [Act.put, List.setIfInBounds_toArray, List.set_cons_zero, List.set_cons_succ, Array.toArray_toList]
        refine wpAnyH_take (i := 5) (v := ?_) rfl (by kernel_rfl) (by kernel_rfl) (by kernel_rfl) (fun _ _ _ h => h) (Or.inl ⟨by rfl, ?_⟩) (by assumption) ?_
        rotate_left
        · intro w hSw; (try dsimp only at hSw); go_split_ands; go_simp; with_reducible rfl
        change wpAnyH _ _ _ _ _ _ _ (Act.put _ (some 31) _) _
        simp only [Act.put, List.setIfInBounds_toArray, List.set_cons_zero, List.set_cons_succ, Array.toArray_toList]
        refine wpAnyH_ready (rs := [6]) (by kernel_rfl) (by simp) ?_
        refine (AllReadyH.cons rfl (fun K hK => ?_) AllReadyH.nil)
        go_simp
        (with_reducible refine (HL12.out _).mono ?_); rintro e wq ⟨rfl, hb⟩; have Mq := Lib.hid (Mq.out.below hb); clear hb
        go_wp2_with fail
        refine hK.out _ _ (by exact HCE.out _ Mq.out) (fun hHeld => ?_)
        clear hK K
        refine wpAnyH_take (i := 7) (v := ?_) rfl (by kernel_rfl) (by kernel_rfl) (by kernel_rfl) (fun _ _ _ h => h) (Or.inl ⟨by rfl, ?_⟩) (by assumption) ?_
        rotate_left
        · intro w hSw; (try dsimp only at hSw); go_split_ands; go_simp; with_reducible rfl
        change wpAnyH _ _ _ _ _ _ _ (Act.put _ (some 33) _) _
        simp only [Act.put, List.setIfInBounds_toArray, List.set_cons_zero, List.set_cons_succ, Array.toArray_toList]
        refine wpAnyH_take (i := 8) (v := ?_) rfl (by kernel_rfl) (by kernel_rfl) (by kernel_rfl) (fun _ _ _ h => h) (Or.inl ⟨by rfl, ?_⟩) (by assumption) ?_
        rotate_left
        · intro w hSw; (try dsimp only at hSw); go_split_ands; go_simp; with_reducible rfl
        change wpAnyH _ _ _ _ _ _ _ (Act.put _ (some 34) _) _
        simp only [Act.put, List.setIfInBounds_toArray, List.set_cons_zero, List.set_cons_succ, Array.toArray_toList]
        refine wpAnyH_take (i := 9) (v := ?_) rfl (by kernel_rfl) (by kernel_rfl) (by kernel_rfl) (fun _ _ _ h => h) (Or.inl ⟨by rfl, ?_⟩) (by assumption) ?_
        rotate_left
        · intro w hSw; (try dsimp only at hSw); go_split_ands; go_simp; with_reducible rfl
        change wpAnyH _ _ _ _ _ _ _ (Act.put _ (some 35) _) _
        simp only [Act.put, List.setIfInBounds_toArray, List.set_cons_zero, List.set_cons_succ, Array.toArray_toList]
        refine wpAnyH_take (i := 10) (v := ?_) rfl (by kernel_rfl) (by kernel_rfl) (by kernel_rfl) (fun _ _ _ h => h) (Or.inl ⟨by rfl, ?_⟩) (by assumption) ?_
        rotate_left
        · intro w hSw; (try dsimp only at hSw); go_split_ands; go_simp; with_reducible rfl
        change wpAnyH _ _ _ _ _ _ _ (Act.put _ (some 36) _) _
        simp only [Act.put, List.setIfInBounds_toArray, List.set_cons_zero, List.set_cons_succ, Array.toArray_toList]
        refine wpAnyH_take (i := 11) (v := ?_) rfl (by kernel_rfl) (by kernel_rfl) (by kernel_rfl) (fun _ _ _ h => h) (Or.inl ⟨by rfl, ?_⟩) (by assumption) ?_
        rotate_left
        · intro w hSw; (try dsimp only at hSw); go_split_ands; go_simp; with_reducible rfl
        change wpAnyH _ _ _ _ _ _ _ (Act.put _ (some 37) _) _
        simp only [Act.put, List.setIfInBounds_toArray, List.set_cons_zero, List.set_cons_succ, Array.toArray_toList]
        refine wpAnyH_take (i := 12) (v := ?_) rfl (by kernel_rfl) (by kernel_rfl) (by kernel_rfl) (fun _ _ _ h => h) (Or.inl ⟨by rfl, ?_⟩) (by assumption) ?_
        rotate_left
        · intro w hSw; (try dsimp only at hSw); go_split_ands; go_simp; with_reducible rfl
        change wpAnyH _ _ _ _ _ _ _ (Act.put _ (some 38) _) _
        simp only [Act.put, List.setIfInBounds_toArray, List.set_cons_zero, List.set_cons_succ, Array.toArray_toList]
        refine wpAnyH_take (i := 13) (v := ?_) rfl (by kernel_rfl) (by kernel_rfl) (by kernel_rfl) (fun _ _ _ h => h) (Or.inl ⟨by rfl, ?_⟩) (by assumption) ?_
        rotate_left
        · intro w hSw; (try dsimp only at hSw); go_split_ands; go_simp; with_reducible rfl
        change wpAnyH _ _ _ _ _ _ _ (Act.put _ (some 39) _) _
        simp only [Act.put, List.setIfInBounds_toArray, List.set_cons_zero, List.set_cons_succ, Array.toArray_toList]
        refine wpAnyH_ready (rs := [14]) (by kernel_rfl) (by simp) ?_
        refine (AllReadyH.cons rfl (fun K hK => ?_) AllReadyH.nil)
        go_simp
        (with_reducible refine (HL21.out _).mono ?_); rintro e wq ⟨rfl, hb⟩; have Mq := Lib.hid (Mq.out.below hb); clear hb
        go_wp2_with fail
        refine hK.out _ _ (by exact HCE.out _ Mq.out) (fun hHeld => ?_)
        clear hK K
        refine wpAnyH_take (i := 15) (v := ?_) rfl (by kernel_rfl) (by kernel_rfl) (by kernel_rfl) (fun _ _ _ h => h) (Or.inl ⟨by rfl, ?_⟩) (by assumption) ?_
        rotate_left
        · intro w hSw; (try dsimp only at hSw); go_split_ands; go_simp; with_reducible rfl
        change wpAnyH _ _ _ _ _ _ _ (Act.put _ (some 41) _) _
        simp only [Act.put, List.setIfInBounds_toArray, List.set_cons_zero, List.set_cons_succ, Array.toArray_toList]
        refine wpAnyH_take (i := 16) (v := ?_) rfl (by kernel_rfl) (by kernel_rfl) (by kernel_rfl) (fun _ _ _ h => h) (Or.inl ⟨by rfl, ?_⟩) (by assumption) ?_
        rotate_left
        · intro w hSw; (try dsimp only at hSw); go_split_ands; go_simp; with_reducible rfl
        change wpAnyH _ _ _ _ _ _ _ (Act.put _ (some 42) _) _
        simp only [Act.put, List.setIfInBounds_toArray, List.set_cons_zero, List.set_cons_succ, Array.toArray_toList]
        refine wpAnyH_take (i := 17) (v := ?_) rfl (by kernel_rfl) (by kernel_rfl) (by kernel_rfl) (fun _ _ _ h => h) (Or.inl ⟨by rfl, ?_⟩) (by assumption) ?_
        rotate_left
        · intro w hSw; (try dsimp only at hSw); go_split_ands; go_simp; with_reducible rfl
        change wpAnyH _ _ _ _ _ _ _ (Act.put _ (some 43) _) _
        simp only [Act.put, List.setIfInBounds_toArray, List.set_cons_zero, List.set_cons_succ, Array.toArray_toList]
        refine wpAnyH_take (i := 18) (v := ?_) rfl (by kernel_rfl) (by kernel_rfl) (by kernel_rfl) (fun _ _ _ h => h) (Or.inl ⟨by rfl, ?_⟩) (by assumption) ?_
        rotate_left
        · intro w hSw; (try dsimp only at hSw); go_split_ands; go_simp; with_reducible rfl
        change wpAnyH _ _ _ _ _ _ _ (Act.put _ (some 44) _) _
        simp only [Act.put, List.setIfInBounds_toArray, List.set_cons_zero, List.set_cons_succ, Array.toArray_toList]
        refine wpAnyH_take (i := 19) (v := ?_) rfl (by kernel_rfl) (by kernel_rfl) (by kernel_rfl) (fun _ _ _ h => h) (Or.inl ⟨by rfl, ?_⟩) (by assumption) ?_
        rotate_left
        · intro w hSw; (try dsimp only at hSw); go_split_ands; go_simp; with_reducible rfl
        change wpAnyH _ _ _ _ _ _ _ (Act.put _ (some 45) _) _
        simp only [Act.put, List.setIfInBounds_toArray, List.set_cons_zero, List.set_cons_succ, Array.toArray_toList]
        refine wpAnyH_take (i := 20) (v := ?_) rfl (by kernel_rfl) (by kernel_rfl) (by kernel_rfl) (fun _ _ _ h => h) (Or.inl ⟨by rfl, ?_⟩) (by assumption) ?_
        rotate_left
        · intro w hSw; (try dsimp only at hSw); go_split_ands; go_simp; with_reducible rfl
        change wpAnyH _ _ _ _ _ _ _ (Act.put _ (some 46) _) _
        simp only [Act.put, List.setIfInBounds_toArray, List.set_cons_zero, List.set_cons_succ, Array.toArray_toList]
        refine wpAnyH_take (i := 21) (v := ?_) rfl (by kernel_rfl) (by kernel_rfl) (by kernel_rfl) (fun _ _ _ h => h) (Or.inl ⟨by rfl, ?_⟩) (by assumption) ?_
        rotate_left
        · intro w hSw; (try dsimp only at hSw); go_split_ands; go_simp; with_reducible rfl
        change wpAnyH _ _ _ _ _ _ _ (Act.put _ (some 47) _) _
        simp only [Act.put, List.setIfInBounds_toArray, List.set_cons_zero, List.set_cons_succ, Array.toArray_toList]
        refine wpAnyH_take (i := 22) (v := ?_) rfl (by kernel_rfl) (by kernel_rfl) (by kernel_rfl) (fun _ _ _ h => h) (Or.inl ⟨by rfl, ?_⟩) (by assumption) ?_
        rotate_left
        · intro w hSw; (try dsimp only at hSw); go_split_ands; go_simp; with_reducible rfl
        change wpAnyH _ _ _ _ _ _ _ (Act.put _ (some 48) _) _
        simp only [Act.put, List.setIfInBounds_toArray, List.set_cons_zero, List.set_cons_succ, Array.toArray_toList]
        refine wpAnyH_take (i := 23) (v := ?_) rfl (by kernel_rfl) (by kernel_rfl) (by kernel_rfl) (fun _ _ _ h => h) (Or.inl ⟨by rfl, ?_⟩) (by assumption) ?_
        rotate_left
        · intro w hSw; (try dsimp only at hSw); go_split_ands; go_simp; with_reducible rfl
        change wpAnyH _ _ _ _ _ _ _ (Act.put _ (some 49) _) _
        simp only [Act.put, List.setIfInBounds_toArray, List.set_cons_zero, List.set_cons_succ, Array.toArray_toList]
        refine wpAnyH_take (i := 24) (v := ?_) rfl (by kernel_rfl) (by kernel_rfl) (by kernel_rfl) (fun _ _ _ h => h) (Or.inl ⟨by rfl, ?_⟩) (by assumption) ?_
        rotate_left
        · intro w hSw; (try dsimp only at hSw); go_split_ands; go_simp; with_reducible rfl
        change wpAnyH _ _ _ _ _ _ _ (Act.put _ (some 50) _) _
        simp only [Act.put, List.setIfInBounds_toArray, List.set_cons_zero, List.set_cons_succ, Array.toArray_toList]
        refine wpAnyH_take (i := 25) (v := ?_) rfl (by kernel_rfl) (by kernel_rfl) (by kernel_rfl) (fun _ _ _ h => h) (Or.inl ⟨by rfl, ?_⟩) (by assumption) ?_
        rotate_left
        · intro w hSw; (try dsimp only at hSw); go_split_ands; go_simp; with_reducible rfl
        change wpAnyH _ _ _ _ _ _ _ (Act.put _ (some 51) _) _
        simp only [Act.put, List.setIfInBounds_toArray, List.set_cons_zero, List.set_cons_succ, Array.toArray_toList]
        refine wpAnyH_take (i := 26) (v := ?_) rfl (by kernel_rfl) (by kernel_rfl) (by kernel_rfl) (fun _ _ _ h => h) (Or.inl ⟨by rfl, ?_⟩) (by assumption) ?_
        rotate_left
        · intro w hSw; (try dsimp only at hSw); go_split_ands; go_simp; with_reducible rfl
        change wpAnyH _ _ _ _ _ _ _ (Act.put _ (some 52) _) _
        simp only [Act.put, List.setIfInBounds_toArray, List.set_cons_zero, List.set_cons_succ, Array.toArray_toList]
        refine wpAnyH_take (i := 28) (v := ?_) rfl (by kernel_rfl) (by kernel_rfl) (by kernel_rfl) (fun _ _ _ h => h) (Or.inl ⟨by rfl, ?_⟩) (by assumption) ?_
        rotate_left
        · intro w hSw; (try dsimp only at hSw); go_split_ands; go_simp; with_reducible rfl
        change wpAnyH _ _ _ _ _ _ _ (Act.put _ (some 54) _) _
        simp only [Act.put, List.setIfInBounds_toArray, List.set_cons_zero, List.set_cons_succ, Array.toArray_toList]
        refine wpAnyH_take (i := 31) (v := ?_) rfl (by kernel_rfl) (by kernel_rfl) (by kernel_rfl) (fun _ _ _ h => h) (Or.inl ⟨by rfl, ?_⟩) (by assumption) ?_
        rotate_left
        · intro w hSw; (try dsimp only at hSw); go_split_ands; go_simp; with_reducible rfl
        change wpAnyH _ _ _ _ _ _ _ (Act.put _ (some 57) _) _
        simp only [Act.put, List.setIfInBounds_toArray, List.set_cons_zero, List.set_cons_succ, Array.toArray_toList]
        refine wpAnyH_take (i := 32) (v := ?_) rfl (by kernel_rfl) (by kernel_rfl) (by kernel_rfl) (fun _ _ _ h => h) (Or.inl ⟨by rfl, ?_⟩) (by assumption) ?_
        rotate_left
        · intro w hSw; (try dsimp only at hSw); go_split_ands; go_simp; with_reducible rfl
        change wpAnyH _ _ _ _ _ _ _ (Act.put _ (some 58) _) _
        simp only [Act.put, List.setIfInBounds_toArray, List.set_cons_zero, List.set_cons_succ, Array.toArray_toList]
        refine wpAnyH_take (i := 33) (v := ?_) rfl (by kernel_rfl) (by kernel_rfl) (by kernel_rfl) (fun _ _ _ h => h) (Or.inl ⟨by rfl, ?_⟩) (by assumption) ?_
        rotate_left
        · intro w hSw; (try dsimp only at hSw); go_split_ands; go_simp; with_reducible rfl
        change wpAnyH _ _ _ _ _ _ _ (Act.put _ (some 59) _) _
        simp only [Act.put, List.setIfInBounds_toArray, List.set_cons_zero, List.set_cons_succ, Array.toArray_toList]
        refine wpAnyH_ready (rs := [27]) (by kernel_rfl) (by simp) ?_
        refine (AllReadyH.cons rfl (fun K hK => ?_) AllReadyH.nil)
        go_simp
        (with_reducible refine (HTA.out _ Mq.out.bel).mono ?_); rintro e wq ⟨rfl, hb⟩; have Mq := Lib.hid (Mq.out.below hb); clear hb
        go_wp2_with fail
        refine hK.out _ _ (by exact HCE.out _ Mq.out) (fun hHeld => ?_)
        clear hK K
        refine wpAnyH_ready (rs := [29]) (by kernel_rfl) (by simp) ?_
        refine (AllReadyH.cons rfl (fun K hK => ?_) AllReadyH.nil)
        go_simp
        (with_reducible refine (HTB.out _ Mq.out.bel).mono ?_); rintro e wq ⟨rfl, hb⟩; have Mq := Lib.hid (Mq.out.below hb); clear hb
        go_wp2_with fail
        refine hK.out _ _ (by exact HCE.out _ Mq.out) (fun hHeld => ?_)
        clear hK K
        refine wpAnyH_take (i := 30) (v := ?_) rfl (by kernel_rfl) (by kernel_rfl) (by kernel_rfl) (fun _ _ _ h => h) (Or.inl ⟨by rfl, ?_⟩) (by assumption) ?_
        rotate_left
        · intro w hSw; (try dsimp only at hSw); go_split_ands; go_simp; with_reducible rfl
        change wpAnyH _ _ _ _ _ _ _ (Act.put _ (some 56) _) _
        simp only [Act.put, List.setIfInBounds_toArray, List.set_cons_zero, List.set_cons_succ, Array.toArray_toList]
        refine wpAnyH_take (i := 34) (v := ?_) rfl (by kernel_rfl) (by kernel_rfl) (by kernel_rfl) (fun _ _ _ h => h) (Or.inl ⟨by rfl, ?_⟩) (by assumption) ?_
        rotate_left
        · intro w hSw; (try dsimp only at hSw); go_split_ands; go_simp; with_reducible rfl
        change wpAnyH _ _ _ _ _ _ _ (Act.put _ (some 60) _) _
        simp only [Act.put, List.setIfInBounds_toArray, List.set_cons_zero, List.set_cons_succ, Array.toArray_toList]
        refine wpAnyH_take (i := 35) (v := ?_) rfl (by kernel_rfl) (by kernel_rfl) (by kernel_rfl) (fun _ _ _ h => h) (Or.inl ⟨by rfl, ?_⟩) (by assumption) ?_
        rotate_left
        · intro w hSw; (try dsimp only at hSw); go_split_ands; go_simp; with_reducible rfl
        change wpAnyH _ _ _ _ _ _ _ (Act.put _ (some 61) _) _
        simp only [Act.put, List.setIfInBounds_toArray, List.set_cons_zero, List.set_cons_succ, Array.toArray_toList]
        refine wpAnyH_take (i := 36) (v := ?_) rfl (by kernel_rfl) (by kernel_rfl) (by kernel_rfl) (fun _ _ _ h => h) (Or.inl ⟨by rfl, ?_⟩) (by assumption) ?_
        rotate_left
        · intro w hSw; (try dsimp only at hSw); go_split_ands; go_simp; with_reducible rfl
        change wpAnyH _ _ _ _ _ _ _ (Act.put _ (some 62) _) _
        simp only [Act.put, List.setIfInBounds_toArray, List.set_cons_zero, List.set_cons_succ, Array.toArray_toList]
        refine wpAnyH_take (i := 37) (v := ?_) rfl (by kernel_rfl) (by kernel_rfl) (by kernel_rfl) (fun _ _ _ h => h) (Or.inl ⟨by rfl, ?_⟩) (by assumption) ?_
        rotate_left
        · intro w hSw; (try dsimp only at hSw); go_split_ands; go_simp; with_reducible rfl
        change wpAnyH _ _ _ _ _ _ _ (Act.put _ (some 63) _) _
        simp only [Act.put, List.setIfInBounds_toArray, List.set_cons_zero, List.set_cons_succ, Array.toArray_toList]
        refine wpAnyH_take (i := 38) (v := ?_) rfl (by kernel_rfl) (by kernel_rfl) (by kernel_rfl) (fun _ _ _ h => h) (Or.inl ⟨by rfl, ?_⟩) (by assumption) ?_
        rotate_left
        · intro w hSw; (try dsimp only at hSw); go_split_ands; go_simp; with_reducible rfl
        change wpAnyH _ _ _ _ _ _ _ (Act.put _ (some 64) _) _
        simp only [Act.put, List.setIfInBounds_toArray, List.set_cons_zero, List.set_cons_succ, Array.toArray_toList]
        refine wpAnyH_take (i := 39) (v := ?_) rfl (by kernel_rfl) (by kernel_rfl) (by kernel_rfl) (fun _ _ _ h => h) (Or.inl ⟨by rfl, ?_⟩) (by assumption) ?_
        rotate_left
        · intro w hSw; (try dsimp only at hSw); go_split_ands; go_simp; with_reducible rfl
        change wpAnyH _ _ _ _ _ _ _ (Act.put _ (some 65) _) _
        simp only [Act.put, List.setIfInBounds_toArray, List.set_cons_zero, List.set_cons_succ, Array.toArray_toList]
        refine wpAnyH_take (i := 40) (v := ?_) rfl (by kernel_rfl) (by kernel_rfl) (by kernel_rfl) (fun _ _ _ h => h) (Or.inl ⟨by rfl, ?_⟩) (by assumption) ?_
        rotate_left
        · intro w hSw; (try dsimp only at hSw); go_split_ands; go_simp; with_reducible rfl
        change wpAnyH _ _ _ _ _ _ _ (Act.put _ (some 66) _) _
        simp only [Act.put, List.setIfInBounds_toArray, List.set_cons_zero, List.set_cons_succ, Array.toArray_toList]
        refine wpAnyH_take (i := 41) (v := ?_) rfl (by kernel_rfl) (by kernel_rfl) (by kernel_rfl) (fun _ _ _ h => h) (Or.inl ⟨by rfl, ?_⟩) (by assumption) ?_
        rotate_left
        · intro w hSw; (try dsimp only at hSw); go_split_ands; go_simp; with_reducible rfl
        change wpAnyH _ _ _ _ _ _ _ (Act.put _ (some 67) _) _
        simp only [Act.put, List.setIfInBounds_toArray, List.set_cons_zero, List.set_cons_succ, Array.toArray_toList]
        refine wpAnyH_take (i := 42) (v := ?_) rfl (by kernel_rfl) (by kernel_rfl) (by kernel_rfl) (fun _ _ _ h => h) (Or.inl ⟨by rfl, ?_⟩) (by assumption) ?_
        rotate_left
        · intro w hSw; (try dsimp only at hSw); go_split_ands; go_simp; with_reducible rfl
        change wpAnyH _ _ _ _ _ _ _ (Act.put _ (some 68) _) _
        simp only [Act.put, List.setIfInBounds_toArray, List.set_cons_zero, List.set_cons_succ, Array.toArray_toList]
        refine wpAnyH_take (i := 43) (v := ?_) rfl (by kernel_rfl) (by kernel_rfl) (by kernel_rfl) (fun _ _ _ h => h) (Or.inl ⟨by rfl, ?_⟩) (by assumption) ?_
        rotate_left
        · intro w hSw; (try dsimp only at hSw); go_split_ands; go_simp; with_reducible rfl
        change wpAnyH _ _ _ _ _ _ _ (Act.put _ (some 69) _) _
        simp only [Act.put, List.setIfInBounds_toArray, List.set_cons_zero, List.set_cons_succ, Array.toArray_toList]
        refine wpAnyH_take (i := 44) (v := undef) rfl (by kernel_rfl) (by kernel_rfl) (by kernel_rfl) (fun _ _ _ h => h) (Or.inr ⟨by rfl, rfl⟩) (by assumption) ?_
        change wpAnyH _ _ _ _ _ _ _ (Act.put _ (some 70) _) _
        simp only [Act.put, List.setIfInBounds_toArray, List.set_cons_zero, List.set_cons_succ, Array.toArray_toList]
        refine wpAnyH_take (i := 45) (v := undef) rfl (by kernel_rfl) (by kernel_rfl) (by kernel_rfl) (fun _ _ _ h => h) (Or.inr ⟨by rfl, rfl⟩) (by assumption) ?_
        change wpAnyH _ _ _ _ _ _ _ (Act.put _ (some 71) _) _
        simp only [Act.put, List.setIfInBounds_toArray, List.set_cons_zero, List.set_cons_succ, Array.toArray_toList]
        refine wpAnyH_take (i := 46) (v := undef) rfl (by kernel_rfl) (by kernel_rfl) (by kernel_rfl) (fun _ _ _ h => h) (Or.inr ⟨by rfl, rfl⟩) (by assumption) ?_
        change wpAnyH _ _ _ _ _ _ _ (Act.put _ (some 72) _) _
        simp only [Act.put, List.setIfInBounds_toArray, List.set_cons_zero, List.set_cons_succ, Array.toArray_toList]
        refine wpAnyH_take (i := 47) (v := undef) rfl (by kernel_rfl) (by kernel_rfl) (by kernel_rfl) (fun _ _ _ h => h) (Or.inr ⟨by rfl, rfl⟩) (by assumption) ?_
        change wpAnyH _ _ _ _ _ _ _ (Act.put _ (some 73) _) _
        simp only [Act.put, List.setIfInBounds_toArray, List.set_cons_zero, List.set_cons_succ, Array.toArray_toList]
        refine wpAnyH_take (i := 48) (v := ?_) rfl (by kernel_rfl) (by kernel_rfl) (by kernel_rfl) (fun _ _ _ h => h) (Or.inl ⟨by rfl, ?_⟩) (by assumption) ?_
        rotate_left
        · intro w hSw; (try dsimp only at hSw); go_split_ands; go_simp; with_reducible rfl
        change wpAnyH _ _ _ _ _ _ _ (Act.put _ (some 74) _) _
        simp only [Act.put, List.setIfInBounds_toArray, List.set_cons_zero, List.set_cons_succ, Array.toArray_toList]
        refine wpAnyH_take (i := 49) (v := ?_) rfl (by kernel_rfl) (by kernel_rfl) (by kernel_rfl) (fun _ _ _ h => h) (Or.inl ⟨by rfl, ?_⟩) (by assumption) ?_
        rotate_left
        · intro w hSw; (try dsimp only at hSw); go_split_ands; go_simp; with_reducible rfl
        change wpAnyH _ _ _ _ _ _ _ (Act.put _ (some 75) _) _
        simp only [Act.put, List.setIfInBounds_toArray, List.set_cons_zero, List.set_cons_succ, Array.toArray_toList]
        refine wpAnyH_take (i := 50) (v := ?_) rfl (by kernel_rfl) (by kernel_rfl) (by kernel_rfl) (fun _ _ _ h => h) (Or.inl ⟨by rfl, ?_⟩) (by assumption) ?_
        rotate_left
        · intro w hSw; (try dsimp only at hSw); go_split_ands; go_simp; with_reducible rfl
        change wpAnyH _ _ _ _ _ _ _ (Act.put _ (some 76) _) _
        simp only [Act.put, List.setIfInBounds_toArray, List.set_cons_zero, List.set_cons_succ, Array.toArray_toList]
        refine wpAnyH_take (i := 51) (v := ?_) rfl (by kernel_rfl) (by kernel_rfl) (by kernel_rfl) (fun _ _ _ h => h) (Or.inl ⟨by rfl, ?_⟩) (by assumption) ?_
        rotate_left
        · intro w hSw; (try dsimp only at hSw); go_split_ands; go_simp; with_reducible rfl
        change wpAnyH _ _ _ _ _ _ _ (Act.put _ (some 77) _) _
        simp only [Act.put, List.setIfInBounds_toArray, List.set_cons_zero, List.set_cons_succ, Array.toArray_toList]
        refine wpAnyH_take (i := 52) (v := ?_) rfl (by kernel_rfl) (by kernel_rfl) (by kernel_rfl) (fun _ _ _ h => h) (Or.inl ⟨by rfl, ?_⟩) (by assumption) ?_
        rotate_left
        · intro w hSw; (try dsimp only at hSw); go_split_ands; go_simp; with_reducible rfl
        change wpAnyH _ _ _ _ _ _ _ (Act.put _ (some 78) _) _
        simp only [Act.put, List.setIfInBounds_toArray, List.set_cons_zero, List.set_cons_succ, Array.toArray_toList]
        refine wpAnyH_take (i := 54) (v := ?_) rfl (by kernel_rfl) (by kernel_rfl) (by kernel_rfl) (fun _ _ _ h => h) (Or.inl ⟨by rfl, ?_⟩) (by assumption) ?_
        rotate_left
        · intro w hSw; (try dsimp only at hSw); go_split_ands; go_simp; with_reducible rfl
        change wpAnyH _ _ _ _ _ _ _ (Act.put _ (some 80) _) _
        simp only [Act.put, List.setIfInBounds_toArray, List.set_cons_zero, List.set_cons_succ, Array.toArray_toList]
        refine wpAnyH_take (i := 55) (v := ?_) rfl (by kernel_rfl) (by kernel_rfl) (by kernel_rfl) (fun _ _ _ h => h) (Or.inl ⟨by rfl, ?_⟩) (by assumption) ?_
        rotate_left
        · intro w hSw; (try dsimp only at hSw); go_split_ands; go_simp; with_reducible rfl
        change wpAnyH _ _ _ _ _ _ _ (Act.put _ (some 81) _) _
        simp only [Act.put, List.setIfInBounds_toArray, List.set_cons_zero, List.set_cons_succ, Array.toArray_toList]
        refine wpAnyH_take (i := 56) (v := ?_) rfl (by kernel_rfl) (by kernel_rfl) (by kernel_rfl) (fun _ _ _ h => h) (Or.inl ⟨by rfl, ?_⟩) (by assumption) ?_
        rotate_left
        · intro w hSw; (try dsimp only at hSw); go_split_ands; go_simp; with_reducible rfl
        change wpAnyH _ _ _ _ _ _ _ (Act.put _ (some 82) _) _
        simp only [Act.put, List.setIfInBounds_toArray, List.set_cons_zero, List.set_cons_succ, Array.toArray_toList]
        refine wpAnyH_take (i := 57) (v := ?_) rfl (by kernel_rfl) (by kernel_rfl) (by kernel_rfl) (fun _ _ _ h => h) (Or.inl ⟨by rfl, ?_⟩) (by assumption) ?_
        rotate_left
        · intro w hSw; (try dsimp only at hSw); go_split_ands; go_simp; with_reducible rfl
        change wpAnyH _ _ _ _ _ _ _ (Act.put _ (some 83) _) _
        simp only [Act.put, List.setIfInBounds_toArray, List.set_cons_zero, List.set_cons_succ, Array.toArray_toList]
        refine wpAnyH_ready (rs := [53]) (by kernel_rfl) (by simp) ?_
        refine (AllReadyH.cons rfl (fun K hK => ?_) AllReadyH.nil)
        go_simp
        (with_reducible refine (HEX.out _).mono ?_); rintro e wq ⟨rfl, hb⟩; have Mq := Lib.hid (Mq.out.below hb); clear hb
        go_wp2_with fail
        refine hK.out _ _ (by exact HCE.out _ Mq.out) (fun hHeld => ?_)
        clear hK K
        refine wpAnyH_take (i := 58) (v := ?_) rfl (by kernel_rfl) (by kernel_rfl) (by kernel_rfl) (fun _ _ _ h => h) (Or.inl ⟨by rfl, ?_⟩) (by assumption) ?_
        rotate_left
        · intro w hSw; (try dsimp only at hSw); go_split_ands; go_simp; with_reducible rfl
        change wpAnyH _ _ _ _ _ _ _ (Act.put _ (some 84) _) _
        simp only [Act.put, List.setIfInBounds_toArray, List.set_cons_zero, List.set_cons_succ, Array.toArray_toList]
        refine wpAnyH_take (i := 59) (v := ?_) rfl (by kernel_rfl) (by kernel_rfl) (by kernel_rfl) (fun _ _ _ h => h) (Or.inl ⟨by rfl, ?_⟩) (by assumption) ?_
        rotate_left
        · intro w hSw; (try dsimp only at hSw); go_split_ands; go_simp; with_reducible rfl
        change wpAnyH _ _ _ _ _ _ _ (Act.put _ (some 85) _) _
        simp only [Act.put, List.setIfInBounds_toArray, List.set_cons_zero, List.set_cons_succ, Array.toArray_toList]
        refine wpAnyH_take (i := 60) (v := ?_) rfl (by kernel_rfl) (by kernel_rfl) (by kernel_rfl) (fun _ _ _ h => h) (Or.inl ⟨by rfl, ?_⟩) (by assumption) ?_
        rotate_left
        · intro w hSw; (try dsimp only at hSw); go_split_ands; go_simp; with_reducible rfl
        change wpAnyH _ _ _ _ _ _ _ (Act.put _ (some 8) _) _
        simp only [Act.put, List.setIfInBounds_toArray, List.set_cons_zero, List.set_cons_succ, Array.toArray_toList]
        refine wpAnyH_done (by kernel_rfl) ?_ _
        clear hHeld K0
        go_wp2
        go_ret
        exact ⟨rfl, Mq.out.bel⟩
      · skip
        go_upto_region 3 with fail
        refine wp_region_held_drew (S := fun w' => (w'.cell? ⟨g9, 0, none⟩ = some (.int .i64 i1) ∧ w'.cell? ⟨g9, 1, none⟩ = some (.int .i64 r1) ∧ w'.cell? ⟨g9, 2, none⟩ = some (.int .i64 x1) ∧ w'.cell? ⟨g9, 3, none⟩ = some (.int .i64 s1)) ∧ (w'.cell? ⟨g10, 0, none⟩ = some (.int .i64 i2) ∧ w'.cell? ⟨g10, 1, none⟩ = some (.int .i64 r2) ∧ w'.cell? ⟨g10, 2, none⟩ = some (.int .i64 x2) ∧ w'.cell? ⟨g10, 3, none⟩ = some (.int .i64 s2)) ∧ (w'.cell? ⟨g11, 0, none⟩ = some (.int .i64 i3) ∧ w'.cell? ⟨g11, 1, none⟩ = some (.int .i64 r3) ∧ w'.cell? ⟨g11, 2, none⟩ = some (.int .i64 x3) ∧ w'.cell? ⟨g11, 3, none⟩ = some (.int .i64 s3)) ∧ (w'.cell? ⟨W.heap.size, 0, none⟩ = some (.int .i64 i1) ∧ w'.cell? ⟨W.heap.size, 1, none⟩ = some (.int .i64 r1) ∧ w'.cell? ⟨W.heap.size, 2, none⟩ = some (.int .i64 x1) ∧ w'.cell? ⟨W.heap.size, 3, none⟩ = some (.int .i64 s1)) ∧ (w'.cell? ⟨W.heap.size + 1, 0, none⟩ = some (.int .i64 i2) ∧ w'.cell? ⟨W.heap.size + 1, 1, none⟩ = some (.int .i64 r2) ∧ w'.cell? ⟨W.heap.size + 1, 2, none⟩ = some (.int .i64 x2) ∧ w'.cell? ⟨W.heap.size + 1, 3, none⟩ = some (.int .i64 s2))) (by kernel_rfl) ?_ (fun hHeld => ?_)
        · exact K0.out
        generalize hw8 : World.drew _ = w8 at hHeld ⊢
        have Mq := Lib.hid (Mq.out.drew.toV5 hw8 rfl)
        clear hw8
        refine wpAnyH_ready (rs := [0]) (by kernel_rfl) (by simp) ?_
        refine (AllReadyH.cons rfl (fun K hK => ?_) AllReadyH.nil)
        go_simp
        (with_reducible refine (known05 _).mono ?_); rintro e wk ⟨rfl, hb⟩; have Mq := Lib.hid (Mq.out.below hb); clear hb
        go_wp2_with fail
        refine hK.out _ _ (by exact HCE.out _ Mq.out) (fun hHeld => ?_)
        clear hK K
        refine wpAnyH_take (i := 1) (v := ?_) rfl (by kernel_rfl) (by kernel_rfl) (by kernel_rfl) (fun _ _ _ h => h) (Or.inl ⟨by rfl, ?_⟩) (by assumption) ?_
        rotate_left
        · intro w hSw; (try dsimp only at hSw); go_split_ands; go_simp; with_reducible rfl
        change wpAnyH _ _ _ _ _ _ _ (Act.put _ (some 27) _) _
        simp only [Act.put, List.setIfInBounds_toArray, List.set_cons_zero, List.set_cons_succ, Array.toArray_toList]
        refine wpAnyH_take (i := 2) (v := ?_) rfl (by kernel_rfl) (by kernel_rfl) (by kernel_rfl) (fun _ _ _ h => h) (Or.inl ⟨by rfl, ?_⟩) (by assumption) ?_
        rotate_left
        · intro w hSw; (try dsimp only at hSw); go_split_ands; go_simp; with_reducible rfl
        change wpAnyH _ _ _ _ _ _ _ (Act.put _ (some 28) _) _
        simp only [Act.put, List.setIfInBounds_toArray, List.set_cons_zero, List.set_cons_succ, Array.toArray_toList]
        refine wpAnyH_take (i := 3) (v := ?_) rfl (by kernel_rfl) (by kernel_rfl) (by kernel_rfl) (fun _ _ _ h => h) (Or.inl ⟨by rfl, ?_⟩) (by assumption) ?_
        rotate_left
        · intro w hSw; (try dsimp only at hSw); go_split_ands; go_simp; with_reducible rfl
        change wpAnyH _ _ _ _ _ _ _ (Act.put _ (some 29) _) _
        simp only [Act.put, List.setIfInBounds_toArray, List.set_cons_zero, List.set_cons_succ, Array.toArray_toList]
        refine wpAnyH_take (i := 4) (v := ?_) rfl (by kernel_rfl) (by kernel_rfl) (by kernel_rfl) (fun _ _ _ h => h) (Or.inl ⟨by rfl, ?_⟩) (by assumption) ?_
        rotate_left
        · intro w hSw; (try dsimp only at hSw); go_split_ands; go_simp; with_reducible rfl
        change wpAnyH _ _ _ _ _ _ _ (Act.put _ (some 30) _) _
        simp only [Act.put, List.setIfInBounds_toArray, List.set_cons_zero, List.set_cons_succ, Array.toArray_toList]
        refine wpAnyH_take (i := 5) (v := ?_) rfl (by kernel_rfl) (by kernel_rfl) (by kernel_rfl) (fun _ _ _ h => h) (Or.inl ⟨by rfl, ?_⟩) (by assumption) ?_
        rotate_left
        · intro w hSw; (try dsimp only at hSw); go_split_ands; go_simp; with_reducible rfl
        change wpAnyH _ _ _ _ _ _ _ (Act.put _ (some 31) _) _
        simp only [Act.put, List.setIfInBounds_toArray, List.set_cons_zero, List.set_cons_succ, Array.toArray_toList]
        refine wpAnyH_ready (rs := [6]) (by kernel_rfl) (by simp) ?_
        refine (AllReadyH.cons rfl (fun K hK => ?_) AllReadyH.nil)
        go_simp
        (with_reducible refine (HL12.out _).mono ?_); rintro e wq ⟨rfl, hb⟩; have Mq := Lib.hid (Mq.out.below hb); clear hb
        go_wp2_with fail
        refine hK.out _ _ (by exact HCE.out _ Mq.out) (fun hHeld => ?_)
        clear hK K
        refine wpAnyH_take (i := 7) (v := ?_) rfl (by kernel_rfl) (by kernel_rfl) (by kernel_rfl) (fun _ _ _ h => h) (Or.inl ⟨by rfl, ?_⟩) (by assumption) ?_
        rotate_left
        · intro w hSw; (try dsimp only at hSw); go_split_ands; go_simp; with_reducible rfl
        change wpAnyH _ _ _ _ _ _ _ (Act.put _ (some 33) _) _
        simp only [Act.put, List.setIfInBounds_toArray, List.set_cons_zero, List.set_cons_succ, Array.toArray_toList]
        refine wpAnyH_take (i := 8) (v := ?_) rfl (by kernel_rfl) (by kernel_rfl) (by kernel_rfl) (fun _ _ _ h => h) (Or.inl ⟨by rfl, ?_⟩) (by assumption) ?_
        rotate_left
        · intro w hSw; (try dsimp only at hSw); go_split_ands; go_simp; with_reducible rfl
        change wpAnyH _ _ _ _ _ _ _ (Act.put _ (some 34) _) _
        simp only [Act.put, List.setIfInBounds_toArray, List.set_cons_zero, List.set_cons_succ, Array.toArray_toList]
        refine wpAnyH_take (i := 9) (v := ?_) rfl (by kernel_rfl) (by kernel_rfl) (by kernel_rfl) (fun _ _ _ h => h) (Or.inl ⟨by rfl, ?_⟩) (by assumption) ?_
        rotate_left
        · intro w hSw; (try dsimp only at hSw); go_split_ands; go_simp; with_reducible rfl
        change wpAnyH _ _ _ _ _ _ _ (Act.put _ (some 35) _) _
        simp only [Act.put, List.setIfInBounds_toArray, List.set_cons_zero, List.set_cons_succ, Array.toArray_toList]
        refine wpAnyH_take (i := 10) (v := ?_) rfl (by kernel_rfl) (by kernel_rfl) (by kernel_rfl) (fun _ _ _ h => h) (Or.inl ⟨by rfl, ?_⟩) (by assumption) ?_
        rotate_left
        · intro w hSw; (try dsimp only at hSw); go_split_ands; go_simp; with_reducible rfl
        change wpAnyH _ _ _ _ _ _ _ (Act.put _ (some 36) _) _
        simp only [Act.put, List.setIfInBounds_toArray, List.set_cons_zero, List.set_cons_succ, Array.toArray_toList]
        refine wpAnyH_take (i := 11) (v := ?_) rfl (by kernel_rfl) (by kernel_rfl) (by kernel_rfl) (fun _ _ _ h => h) (Or.inl ⟨by rfl, ?_⟩) (by assumption) ?_
        rotate_left
        · intro w hSw; (try dsimp only at hSw); go_split_ands; go_simp; with_reducible rfl
        change wpAnyH _ _ _ _ _ _ _ (Act.put _ (some 37) _) _
        simp only [Act.put, List.setIfInBounds_toArray, List.set_cons_zero, List.set_cons_succ, Array.toArray_toList]
        refine wpAnyH_take (i := 12) (v := ?_) rfl (by kernel_rfl) (by kernel_rfl) (by kernel_rfl) (fun _ _ _ h => h) (Or.inl ⟨by rfl, ?_⟩) (by assumption) ?_
        rotate_left
        · intro w hSw; (try dsimp only at hSw); go_split_ands; go_simp; with_reducible rfl
        change wpAnyH _ _ _ _ _ _ _ (Act.put _ (some 38) _) _
        simp only [Act.put, List.setIfInBounds_toArray, List.set_cons_zero, List.set_cons_succ, Array.toArray_toList]
        refine wpAnyH_take (i := 13) (v := ?_) rfl (by kernel_rfl) (by kernel_rfl) (by kernel_rfl) (fun _ _ _ h => h) (Or.inl ⟨by rfl, ?_⟩) (by assumption) ?_
        rotate_left
        · intro w hSw; (try dsimp only at hSw); go_split_ands; go_simp; with_reducible rfl
        change wpAnyH _ _ _ _ _ _ _ (Act.put _ (some 39) _) _
        simp only [Act.put, List.setIfInBounds_toArray, List.set_cons_zero, List.set_cons_succ, Array.toArray_toList]
        refine wpAnyH_ready (rs := [14]) (by kernel_rfl) (by simp) ?_
        refine (AllReadyH.cons rfl (fun K hK => ?_) AllReadyH.nil)
        go_simp
        (with_reducible refine (HL21.out _).mono ?_); rintro e wq ⟨rfl, hb⟩; have Mq := Lib.hid (Mq.out.below hb); clear hb
        go_wp2_with fail
        refine hK.out _ _ (by exact HCE.out _ Mq.out) (fun hHeld => ?_)
        clear hK K
        refine wpAnyH_take (i := 15) (v := ?_) rfl (by kernel_rfl) (by kernel_rfl) (by kernel_rfl) (fun _ _ _ h => h) (Or.inl ⟨by rfl, ?_⟩) (by assumption) ?_
        rotate_left
        · intro w hSw; (try dsimp only at hSw); go_split_ands; go_simp; with_reducible rfl
        change wpAnyH _ _ _ _ _ _ _ (Act.put _ (some 41) _) _
        simp only [Act.put, List.setIfInBounds_toArray, List.set_cons_zero, List.set_cons_succ, Array.toArray_toList]
        refine wpAnyH_take (i := 16) (v := ?_) rfl (by kernel_rfl) (by kernel_rfl) (by kernel_rfl) (fun _ _ _ h => h) (Or.inl ⟨by rfl, ?_⟩) (by assumption) ?_
        rotate_left
        · intro w hSw; (try dsimp only at hSw); go_split_ands; go_simp; with_reducible rfl
        change wpAnyH _ _ _ _ _ _ _ (Act.put _ (some 42) _) _
        simp only [Act.put, List.setIfInBounds_toArray, List.set_cons_zero, List.set_cons_succ, Array.toArray_toList]
        refine wpAnyH_take (i := 17) (v := ?_) rfl (by kernel_rfl) (by kernel_rfl) (by kernel_rfl) (fun _ _ _ h => h) (Or.inl ⟨by rfl, ?_⟩) (by assumption) ?_
        rotate_left
        · intro w hSw; (try dsimp only at hSw); go_split_ands; go_simp; with_reducible rfl
        change wpAnyH _ _ _ _ _ _ _ (Act.put _ (some 43) _) _
        simp only [Act.put, List.setIfInBounds_toArray, List.set_cons_zero, List.set_cons_succ, Array.toArray_toList]
        refine wpAnyH_take (i := 18) (v := ?_) rfl (by kernel_rfl) (by kernel_rfl) (by kernel_rfl) (fun _ _ _ h => h) (Or.inl ⟨by rfl, ?_⟩) (by assumption) ?_
        rotate_left
        · intro w hSw; (try dsimp only at hSw); go_split_ands; go_simp; with_reducible rfl
        change wpAnyH _ _ _ _ _ _ _ (Act.put _ (some 44) _) _
        simp only [Act.put, List.setIfInBounds_toArray, List.set_cons_zero, List.set_cons_succ, Array.toArray_toList]
        refine wpAnyH_take (i := 19) (v := ?_) rfl (by kernel_rfl) (by kernel_rfl) (by kernel_rfl) (fun _ _ _ h => h) (Or.inl ⟨by rfl, ?_⟩) (by assumption) ?_
        rotate_left
        · intro w hSw; (try dsimp only at hSw); go_split_ands; go_simp; with_reducible rfl
        change wpAnyH _ _ _ _ _ _ _ (Act.put _ (some 45) _) _
        simp only [Act.put, List.setIfInBounds_toArray, List.set_cons_zero, List.set_cons_succ, Array.toArray_toList]
        refine wpAnyH_take (i := 20) (v := ?_) rfl (by kernel_rfl) (by kernel_rfl) (by kernel_rfl) (fun _ _ _ h => h) (Or.inl ⟨by rfl, ?_⟩) (by assumption) ?_
        rotate_left
        · intro w hSw; (try dsimp only at hSw); go_split_ands; go_simp; with_reducible rfl
        change wpAnyH _ _ _ _ _ _ _ (Act.put _ (some 46) _) _
        simp only [Act.put, List.setIfInBounds_toArray, List.set_cons_zero, List.set_cons_succ, Array.toArray_toList]
        refine wpAnyH_take (i := 21) (v := ?_) rfl (by kernel_rfl) (by kernel_rfl) (by kernel_rfl) (fun _ _ _ h => h) (Or.inl ⟨by rfl, ?_⟩) (by assumption) ?_
        rotate_left
        · intro w hSw; (try dsimp only at hSw); go_split_ands; go_simp; with_reducible rfl
        change wpAnyH _ _ _ _ _ _ _ (Act.put _ (some 47) _) _
        simp only [Act.put, List.setIfInBounds_toArray, List.set_cons_zero, List.set_cons_succ, Array.toArray_toList]
        refine wpAnyH_take (i := 22) (v := ?_) rfl (by kernel_rfl) (by kernel_rfl) (by kernel_rfl) (fun _ _ _ h => h) (Or.inl ⟨by rfl, ?_⟩) (by assumption) ?_
        rotate_left
        · intro w hSw; (try dsimp only at hSw); go_split_ands; go_simp; with_reducible rfl
        change wpAnyH _ _ _ _ _ _ _ (Act.put _ (some 48) _) _
        simp only [Act.put, List.setIfInBounds_toArray, List.set_cons_zero, List.set_cons_succ, Array.toArray_toList]
        refine wpAnyH_take (i := 23) (v := ?_) rfl (by kernel_rfl) (by kernel_rfl) (by kernel_rfl) (fun _ _ _ h => h) (Or.inl ⟨by rfl, ?_⟩) (by assumption) ?_
        rotate_left
        · intro w hSw; (try dsimp only at hSw); go_split_ands; go_simp; with_reducible rfl
        change wpAnyH _ _ _ _ _ _ _ (Act.put _ (some 49) _) _
        simp only [Act.put, List.setIfInBounds_toArray, List.set_cons_zero, List.set_cons_succ, Array.toArray_toList]
        refine wpAnyH_take (i := 24) (v := ?_) rfl (by kernel_rfl) (by kernel_rfl) (by kernel_rfl) (fun _ _ _ h => h) (Or.inl ⟨by rfl, ?_⟩) (by assumption) ?_
        rotate_left
        · intro w hSw; (try dsimp only at hSw); go_split_ands; go_simp; with_reducible rfl
        change wpAnyH _ _ _ _ _ _ _ (Act.put _ (some 50) _) _
        simp only [Act.put, List.setIfInBounds_toArray, List.set_cons_zero, List.set_cons_succ, Array.toArray_toList]
        refine wpAnyH_take (i := 25) (v := ?_) rfl (by kernel_rfl) (by kernel_rfl) (by kernel_rfl) (fun _ _ _ h => h) (Or.inl ⟨by rfl, ?_⟩) (by assumption) ?_
        rotate_left
        · intro w hSw; (try dsimp only at hSw); go_split_ands; go_simp; with_reducible rfl
        change wpAnyH _ _ _ _ _ _ _ (Act.put _ (some 51) _) _
        simp only [Act.put, List.setIfInBounds_toArray, List.set_cons_zero, List.set_cons_succ, Array.toArray_toList]
        refine wpAnyH_take (i := 26) (v := ?_) rfl (by kernel_rfl) (by kernel_rfl) (by kernel_rfl) (fun _ _ _ h => h) (Or.inl ⟨by rfl, ?_⟩) (by assumption) ?_
        rotate_left
        · intro w hSw; (try dsimp only at hSw); go_split_ands; go_simp; with_reducible rfl
        change wpAnyH _ _ _ _ _ _ _ (Act.put _ (some 52) _) _
        simp only [Act.put, List.setIfInBounds_toArray, List.set_cons_zero, List.set_cons_succ, Array.toArray_toList]
        refine wpAnyH_take (i := 28) (v := ?_) rfl (by kernel_rfl) (by kernel_rfl) (by kernel_rfl) (fun _ _ _ h => h) (Or.inl ⟨by rfl, ?_⟩) (by assumption) ?_
        rotate_left
        · intro w hSw; (try dsimp only at hSw); go_split_ands; go_simp; with_reducible rfl
        change wpAnyH _ _ _ _ _ _ _ (Act.put _ (some 54) _) _
        simp only [Act.put, List.setIfInBounds_toArray, List.set_cons_zero, List.set_cons_succ, Array.toArray_toList]
        refine wpAnyH_take (i := 31) (v := ?_) rfl (by kernel_rfl) (by kernel_rfl) (by kernel_rfl) (fun _ _ _ h => h) (Or.inl ⟨by rfl, ?_⟩) (by assumption) ?_
        rotate_left
        · intro w hSw; (try dsimp only at hSw); go_split_ands; go_simp; with_reducible rfl
        change wpAnyH _ _ _ _ _ _ _ (Act.put _ (some 57) _) _
        simp only [Act.put, List.setIfInBounds_toArray, List.set_cons_zero, List.set_cons_succ, Array.toArray_toList]
        refine wpAnyH_take (i := 32) (v := ?_) rfl (by kernel_rfl) (by kernel_rfl) (by kernel_rfl) (fun _ _ _ h => h) (Or.inl ⟨by rfl, ?_⟩) (by assumption) ?_
        rotate_left
        · intro w hSw; (try dsimp only at hSw); go_split_ands; go_simp; with_reducible rfl
        change wpAnyH _ _ _ _ _ _ _ (Act.put _ (some 58) _) _
        simp only [Act.put, List.setIfInBounds_toArray, List.set_cons_zero, List.set_cons_succ, Array.toArray_toList]
        refine wpAnyH_take (i := 33) (v := ?_) rfl (by kernel_rfl) (by kernel_rfl) (by kernel_rfl) (fun _ _ _ h => h) (Or.inl ⟨by rfl, ?_⟩) (by assumption) ?_
        rotate_left
        · intro w hSw; (try dsimp only at hSw); go_split_ands; go_simp; with_reducible rfl
        change wpAnyH _ _ _ _ _ _ _ (Act.put _ (some 59) _) _
        simp only [Act.put, List.setIfInBounds_toArray, List.set_cons_zero, List.set_cons_succ, Array.toArray_toList]
        refine wpAnyH_ready (rs := [27]) (by kernel_rfl) (by simp) ?_
        refine (AllReadyH.cons rfl (fun K hK => ?_) AllReadyH.nil)
        go_simp
        (with_reducible refine (HTA.out _ Mq.out.bel).mono ?_); rintro e wq ⟨rfl, hb⟩; have Mq := Lib.hid (Mq.out.below hb); clear hb
        go_wp2_with fail
        refine hK.out _ _ (by exact HCE.out _ Mq.out) (fun hHeld => ?_)
        clear hK K
        refine wpAnyH_ready (rs := [29]) (by kernel_rfl) (by simp) ?_
        refine (AllReadyH.cons rfl (fun K hK => ?_) AllReadyH.nil)
        go_simp
        (with_reducible refine (HTB.out _ Mq.out.bel).mono ?_); rintro e wq ⟨rfl, hb⟩; have Mq := Lib.hid (Mq.out.below hb); clear hb
        go_wp2_with fail
        refine hK.out _ _ (by exact HCE.out _ Mq.out) (fun hHeld => ?_)
        clear hK K
        refine wpAnyH_take (i := 30) (v := ?_) rfl (by kernel_rfl) (by kernel_rfl) (by kernel_rfl) (fun _ _ _ h => h) (Or.inl ⟨by rfl, ?_⟩) (by assumption) ?_
        rotate_left
        · intro w hSw; (try dsimp only at hSw); go_split_ands; go_simp; with_reducible rfl
        change wpAnyH _ _ _ _ _ _ _ (Act.put _ (some 56) _) _
        simp only [Act.put, List.setIfInBounds_toArray, List.set_cons_zero, List.set_cons_succ, Array.toArray_toList]
        refine wpAnyH_take (i := 34) (v := ?_) rfl (by kernel_rfl) (by kernel_rfl) (by kernel_rfl) (fun _ _ _ h => h) (Or.inl ⟨by rfl, ?_⟩) (by assumption) ?_
        rotate_left
        · intro w hSw; (try dsimp only at hSw); go_split_ands; go_simp; with_reducible rfl
        change wpAnyH _ _ _ _ _ _ _ (Act.put _ (some 60) _) _
        simp only [Act.put, List.setIfInBounds_toArray, List.set_cons_zero, List.set_cons_succ, Array.toArray_toList]
        refine wpAnyH_take (i := 35) (v := ?_) rfl (by kernel_rfl) (by kernel_rfl) (by kernel_rfl) (fun _ _ _ h => h) (Or.inl ⟨by rfl, ?_⟩) (by assumption) ?_
        rotate_left
        · intro w hSw; (try dsimp only at hSw); go_split_ands; go_simp; with_reducible rfl
        change wpAnyH _ _ _ _ _ _ _ (Act.put _ (some 61) _) _
        simp only [Act.put, List.setIfInBounds_toArray, List.set_cons_zero, List.set_cons_succ, Array.toArray_toList]
        refine wpAnyH_take (i := 36) (v := ?_) rfl (by kernel_rfl) (by kernel_rfl) (by kernel_rfl) (fun _ _ _ h => h) (Or.inl ⟨by rfl, ?_⟩) (by assumption) ?_
        rotate_left
        · intro w hSw; (try dsimp only at hSw); go_split_ands; go_simp; with_reducible rfl
        change wpAnyH _ _ _ _ _ _ _ (Act.put _ (some 62) _) _
        simp only [Act.put, List.setIfInBounds_toArray, List.set_cons_zero, List.set_cons_succ, Array.toArray_toList]
        refine wpAnyH_take (i := 37) (v := ?_) rfl (by kernel_rfl) (by kernel_rfl) (by kernel_rfl) (fun _ _ _ h => h) (Or.inl ⟨by rfl, ?_⟩) (by assumption) ?_
        rotate_left
        · intro w hSw; (try dsimp only at hSw); go_split_ands; go_simp; with_reducible rfl
        change wpAnyH _ _ _ _ _ _ _ (Act.put _ (some 63) _) _
        simp only [Act.put, List.setIfInBounds_toArray, List.set_cons_zero, List.set_cons_succ, Array.toArray_toList]
        refine wpAnyH_take (i := 38) (v := ?_) rfl (by kernel_rfl) (by kernel_rfl) (by kernel_rfl) (fun _ _ _ h => h) (Or.inl ⟨by rfl, ?_⟩) (by assumption) ?_
        rotate_left
        · intro w hSw; (try dsimp only at hSw); go_split_ands; go_simp; with_reducible rfl
        change wpAnyH _ _ _ _ _ _ _ (Act.put _ (some 64) _) _
        simp only [Act.put, List.setIfInBounds_toArray, List.set_cons_zero, List.set_cons_succ, Array.toArray_toList]
        refine wpAnyH_take (i := 39) (v := ?_) rfl (by kernel_rfl) (by kernel_rfl) (by kernel_rfl) (fun _ _ _ h => h) (Or.inl ⟨by rfl, ?_⟩) (by assumption) ?_
        rotate_left
        · intro w hSw; (try dsimp only at hSw); go_split_ands; go_simp; with_reducible rfl
        change wpAnyH _ _ _ _ _ _ _ (Act.put _ (some 65) _) _
        simp only [Act.put, List.setIfInBounds_toArray, List.set_cons_zero, List.set_cons_succ, Array.toArray_toList]
        refine wpAnyH_take (i := 40) (v := ?_) rfl (by kernel_rfl) (by kernel_rfl) (by kernel_rfl) (fun _ _ _ h => h) (Or.inl ⟨by rfl, ?_⟩) (by assumption) ?_
        rotate_left
        · intro w hSw; (try dsimp only at hSw); go_split_ands; go_simp; with_reducible rfl
        change wpAnyH _ _ _ _ _ _ _ (Act.put _ (some 66) _) _
        simp only [Act.put, List.setIfInBounds_toArray, List.set_cons_zero, List.set_cons_succ, Array.toArray_toList]
        refine wpAnyH_take (i := 41) (v := ?_) rfl (by kernel_rfl) (by kernel_rfl) (by kernel_rfl) (fun _ _ _ h => h) (Or.inl ⟨by rfl, ?_⟩) (by assumption) ?_
        rotate_left
        · intro w hSw; (try dsimp only at hSw); go_split_ands; go_simp; with_reducible rfl
        change wpAnyH _ _ _ _ _ _ _ (Act.put _ (some 67) _) _
        simp only [Act.put, List.setIfInBounds_toArray, List.set_cons_zero, List.set_cons_succ, Array.toArray_toList]
        refine wpAnyH_take (i := 42) (v := ?_) rfl (by kernel_rfl) (by kernel_rfl) (by kernel_rfl) (fun _ _ _ h => h) (Or.inl ⟨by rfl, ?_⟩) (by assumption) ?_
        rotate_left
        · intro w hSw; (try dsimp only at hSw); go_split_ands; go_simp; with_reducible rfl
        change wpAnyH _ _ _ _ _ _ _ (Act.put _ (some 68) _) _
        simp only [Act.put, List.setIfInBounds_toArray, List.set_cons_zero, List.set_cons_succ, Array.toArray_toList]
        refine wpAnyH_take (i := 43) (v := ?_) rfl (by kernel_rfl) (by kernel_rfl) (by kernel_rfl) (fun _ _ _ h => h) (Or.inl ⟨by rfl, ?_⟩) (by assumption) ?_
        rotate_left
        · intro w hSw; (try dsimp only at hSw); go_split_ands; go_simp; with_reducible rfl
        change wpAnyH _ _ _ _ _ _ _ (Act.put _ (some 69) _) _
        simp only [Act.put, List.setIfInBounds_toArray, List.set_cons_zero, List.set_cons_succ, Array.toArray_toList]
        refine wpAnyH_take (i := 44) (v := undef) rfl (by kernel_rfl) (by kernel_rfl) (by kernel_rfl) (fun _ _ _ h => h) (Or.inr ⟨by rfl, rfl⟩) (by assumption) ?_
        change wpAnyH _ _ _ _ _ _ _ (Act.put _ (some 70) _) _
        simp only [Act.put, List.setIfInBounds_toArray, List.set_cons_zero, List.set_cons_succ, Array.toArray_toList]
        refine wpAnyH_take (i := 45) (v := undef) rfl (by kernel_rfl) (by kernel_rfl) (by kernel_rfl) (fun _ _ _ h => h) (Or.inr ⟨by rfl, rfl⟩) (by assumption) ?_
        change wpAnyH _ _ _ _ _ _ _ (Act.put _ (some 71) _) _
        simp only [Act.put, List.setIfInBounds_toArray, List.set_cons_zero, List.set_cons_succ, Array.toArray_toList]
        refine wpAnyH_take (i := 46) (v := undef) rfl (by kernel_rfl) (by kernel_rfl) (by kernel_rfl) (fun _ _ _ h => h) (Or.inr ⟨by rfl, rfl⟩) (by assumption) ?_
        change wpAnyH _ _ _ _ _ _ _ (Act.put _ (some 72) _) _
        simp only [Act.put, List.setIfInBounds_toArray, List.set_cons_zero, List.set_cons_succ, Array.toArray_toList]
        refine wpAnyH_take (i := 47) (v := undef) rfl (by kernel_rfl) (by kernel_rfl) (by kernel_rfl) (fun _ _ _ h => h) (Or.inr ⟨by rfl, rfl⟩) (by assumption) ?_
        change wpAnyH _ _ _ _ _ _ _ (Act.put _ (some 73) _) _
        simp only [Act.put, List.setIfInBounds_toArray, List.set_cons_zero, List.set_cons_succ, Array.toArray_toList]
        refine wpAnyH_take (i := 48) (v := ?_) rfl (by kernel_rfl) (by kernel_rfl) (by kernel_rfl) (fun _ _ _ h => h) (Or.inl ⟨by rfl, ?_⟩) (by assumption) ?_
        rotate_left
        · intro w hSw; (try dsimp only at hSw); go_split_ands; go_simp; with_reducible rfl
        change wpAnyH _ _ _ _ _ _ _ (Act.put _ (some 74) _) _
        simp only [Act.put, List.setIfInBounds_toArray, List.set_cons_zero, List.set_cons_succ, Array.toArray_toList]
        refine wpAnyH_take (i := 49) (v := ?_) rfl (by kernel_rfl) (by kernel_rfl) (by kernel_rfl) (fun _ _ _ h => h) (Or.inl ⟨by rfl, ?_⟩) (by assumption) ?_
        rotate_left
        · intro w hSw; (try dsimp only at hSw); go_split_ands; go_simp; with_reducible rfl
        change wpAnyH _ _ _ _ _ _ _ (Act.put _ (some 75) _) _
        simp only [Act.put, List.setIfInBounds_toArray, List.set_cons_zero, List.set_cons_succ, Array.toArray_toList]
        refine wpAnyH_take (i := 50) (v := ?_) rfl (by kernel_rfl) (by kernel_rfl) (by kernel_rfl) (fun _ _ _ h => h) (Or.inl ⟨by rfl, ?_⟩) (by assumption) ?_
        rotate_left
        · intro w hSw; (try dsimp only at hSw); go_split_ands; go_simp; with_reducible rfl
        change wpAnyH _ _ _ _ _ _ _ (Act.put _ (some 76) _) _
        simp only [Act.put, List.setIfInBounds_toArray, List.set_cons_zero, List.set_cons_succ, Array.toArray_toList]
        refine wpAnyH_take (i := 51) (v := ?_) rfl (by kernel_rfl) (by kernel_rfl) (by kernel_rfl) (fun _ _ _ h => h) (Or.inl ⟨by rfl, ?_⟩) (by assumption) ?_
        rotate_left
        · intro w hSw; (try dsimp only at hSw); go_split_ands; go_simp; with_reducible rfl
        change wpAnyH _ _ _ _ _ _ _ (Act.put _ (some 77) _) _
        simp only [Act.put, List.setIfInBounds_toArray, List.set_cons_zero, List.set_cons_succ, Array.toArray_toList]
        refine wpAnyH_take (i := 52) (v := ?_) rfl (by kernel_rfl) (by kernel_rfl) (by kernel_rfl) (fun _ _ _ h => h) (Or.inl ⟨by rfl, ?_⟩) (by assumption) ?_
        rotate_left
        · intro w hSw; (try dsimp only at hSw); go_split_ands; go_simp; with_reducible rfl
        change wpAnyH _ _ _ _ _ _ _ (Act.put _ (some 78) _) _
        simp only [Act.put, List.setIfInBounds_toArray, List.set_cons_zero, List.set_cons_succ, Array.toArray_toList]
        refine wpAnyH_take (i := 54) (v := ?_) rfl (by kernel_rfl) (by kernel_rfl) (by kernel_rfl) (fun _ _ _ h => h) (Or.inl ⟨by rfl, ?_⟩) (by assumption) ?_
        rotate_left
        · intro w hSw; (try dsimp only at hSw); go_split_ands; go_simp; with_reducible rfl
        change wpAnyH _ _ _ _ _ _ _ (Act.put _ (some 80) _) _
        simp only [Act.put, List.setIfInBounds_toArray, List.set_cons_zero, List.set_cons_succ, Array.toArray_toList]
        refine wpAnyH_take (i := 55) (v := ?_) rfl (by kernel_rfl) (by kernel_rfl) (by kernel_rfl) (fun _ _ _ h => h) (Or.inl ⟨by rfl, ?_⟩) (by assumption) ?_
        rotate_left
        · intro w hSw; (try dsimp only at hSw); go_split_ands; go_simp; with_reducible rfl
        change wpAnyH _ _ _ _ _ _ _ (Act.put _ (some 81) _) _
        simp only [Act.put, List.setIfInBounds_toArray, List.set_cons_zero, List.set_cons_succ, Array.toArray_toList]
        refine wpAnyH_take (i := 56) (v := ?_) rfl (by kernel_rfl) (by kernel_rfl) (by kernel_rfl) (fun _ _ _ h => h) (Or.inl ⟨by rfl, ?_⟩) (by assumption) ?_
        rotate_left
        · intro w hSw; (try dsimp only at hSw); go_split_ands; go_simp; with_reducible rfl
        change wpAnyH _ _ _ _ _ _ _ (Act.put _ (some 82) _) _
        simp only [Act.put, List.setIfInBounds_toArray, List.set_cons_zero, List.set_cons_succ, Array.toArray_toList]
        refine wpAnyH_take (i := 57) (v := ?_) rfl (by kernel_rfl) (by kernel_rfl) (by kernel_rfl) (fun _ _ _ h => h) (Or.inl ⟨by rfl, ?_⟩) (by assumption) ?_
        rotate_left
        · intro w hSw; (try dsimp only at hSw); go_split_ands; go_simp; with_reducible rfl
        change wpAnyH _ _ _ _ _ _ _ (Act.put _ (some 83) _) _
        simp only [Act.put, List.setIfInBounds_toArray, List.set_cons_zero, List.set_cons_succ, Array.toArray_toList]
        refine wpAnyH_ready (rs := [53]) (by kernel_rfl) (by simp) ?_
        refine (AllReadyH.cons rfl (fun K hK => ?_) AllReadyH.nil)
        go_simp
        (with_reducible refine (HEX.out _).mono ?_); rintro e wq ⟨rfl, hb⟩; have Mq := Lib.hid (Mq.out.below hb); clear hb
        go_wp2_with fail
        refine hK.out _ _ (by exact HCE.out _ Mq.out) (fun hHeld => ?_)
        clear hK K
        refine wpAnyH_take (i := 58) (v := ?_) rfl (by kernel_rfl) (by kernel_rfl) (by kernel_rfl) (fun _ _ _ h => h) (Or.inl ⟨by rfl, ?_⟩) (by assumption) ?_
        rotate_left
        · intro w hSw; (try dsimp only at hSw); go_split_ands; go_simp; with_reducible rfl
        change wpAnyH _ _ _ _ _ _ _ (Act.put _ (some 84) _) _
        simp only [Act.put, List.setIfInBounds_toArray, List.set_cons_zero, List.set_cons_succ, Array.toArray_toList]
        refine wpAnyH_take (i := 59) (v := ?_) rfl (by kernel_rfl) (by kernel_rfl) (by kernel_rfl) (fun _ _ _ h => h) (Or.inl ⟨by rfl, ?_⟩) (by assumption) ?_
        rotate_left
        · intro w hSw; (try dsimp only at hSw); go_split_ands; go_simp; with_reducible rfl
        change wpAnyH _ _ _ _ _ _ _ (Act.put _ (some 85) _) _
        simp only [Act.put, List.setIfInBounds_toArray, List.set_cons_zero, List.set_cons_succ, Array.toArray_toList]
        refine wpAnyH_take (i := 60) (v := ?_) rfl (by kernel_rfl) (by kernel_rfl) (by kernel_rfl) (fun _ _ _ h => h) (Or.inl ⟨by rfl, ?_⟩) (by assumption) ?_
        rotate_left
        · intro w hSw; (try dsimp only at hSw); go_split_ands; go_simp; with_reducible rfl
        change wpAnyH _ _ _ _ _ _ _ (Act.put _ (some 8) _) _
        simp only [Act.put, List.setIfInBounds_toArray, List.set_cons_zero, List.set_cons_succ, Array.toArray_toList]
        refine wpAnyH_done (by kernel_rfl) ?_ _
        clear hHeld K0
        go_wp2
        go_ret
        exact ⟨rfl, Mq.out.bel⟩
    · skip
      go_upto_region 3 with fail
      refine wp_region_held_drew (S := fun w' => (w'.cell? ⟨g9, 0, none⟩ = some (.int .i64 i1) ∧ w'.cell? ⟨g9, 1, none⟩ = some (.int .i64 r1) ∧ w'.cell? ⟨g9, 2, none⟩ = some (.int .i64 x1) ∧ w'.cell? ⟨g9, 3, none⟩ = some (.int .i64 s1)) ∧ (w'.cell? ⟨g10, 0, none⟩ = some (.int .i64 i2) ∧ w'.cell? ⟨g10, 1, none⟩ = some (.int .i64 r2) ∧ w'.cell? ⟨g10, 2, none⟩ = some (.int .i64 x2) ∧ w'.cell? ⟨g10, 3, none⟩ = some (.int .i64 s2)) ∧ (w'.cell? ⟨g11, 0, none⟩ = some (.int .i64 i3) ∧ w'.cell? ⟨g11, 1, none⟩ = some (.int .i64 r3) ∧ w'.cell? ⟨g11, 2, none⟩ = some (.int .i64 x3) ∧ w'.cell? ⟨g11, 3, none⟩ = some (.int .i64 s3)) ∧ (w'.cell? ⟨W.heap.size, 0, none⟩ = some (.int .i64 i1) ∧ w'.cell? ⟨W.heap.size, 1, none⟩ = some (.int .i64 r1) ∧ w'.cell? ⟨W.heap.size, 2, none⟩ = some (.int .i64 x1) ∧ w'.cell? ⟨W.heap.size, 3, none⟩ = some (.int .i64 s1)) ∧ (w'.cell? ⟨W.heap.size + 1, 0, none⟩ = some (.int .i64 i2) ∧ w'.cell? ⟨W.heap.size + 1, 1, none⟩ = some (.int .i64 r2) ∧ w'.cell? ⟨W.heap.size + 1, 2, none⟩ = some (.int .i64 x2) ∧ w'.cell? ⟨W.heap.size + 1, 3, none⟩ = some (.int .i64 s2))) (by kernel_rfl) ?_ (fun hHeld => ?_)
      · exact K0.out
      generalize hw8 : World.drew _ = w8 at hHeld ⊢
      have Mq := Lib.hid (Mq.out.drew.toV5 hw8 rfl)
      clear hw8
      refine wpAnyH_ready (rs := [0]) (by kernel_rfl) (by simp) ?_
      refine (AllReadyH.cons rfl (fun K hK => ?_) AllReadyH.nil)
      go_simp
      (with_reducible refine (known05 _).mono ?_); rintro e wk ⟨rfl, hb⟩; have Mq := Lib.hid (Mq.out.below hb); clear hb
      go_wp2_with fail
      refine hK.out _ _ (by exact HCE.out _ Mq.out) (fun hHeld => ?_)
      clear hK K
      refine wpAnyH_take (i := 1) (v := ?_) rfl (by kernel_rfl) (by kernel_rfl) (by kernel_rfl) (fun _ _ _ h => h) (Or.inl ⟨by rfl, ?_⟩) (by assumption) ?_
      rotate_left
      · intro w hSw; (try dsimp only at hSw); go_split_ands; go_simp; with_reducible rfl
      change wpAnyH _ _ _ _ _ _ _ (Act.put _ (some 27) _) _
      simp only [Act.put, List.setIfInBounds_toArray, List.set_cons_zero, List.set_cons_succ, Array.toArray_toList]
      refine wpAnyH_take (i := 2) (v := ?_) rfl (by kernel_rfl) (by kernel_rfl) (by kernel_rfl) (fun _ _ _ h => h) (Or.inl ⟨by rfl, ?_⟩) (by assumption) ?_
      rotate_left
      · intro w hSw; (try dsimp only at hSw); go_split_ands; go_simp; with_reducible rfl
      change wpAnyH _ _ _ _ _ _ _ (Act.put _ (some 28) _) _
      simp only [Act.put, List.setIfInBounds_toArray, List.set_cons_zero, List.set_cons_succ, Array.toArray_toList]
      refine wpAnyH_take (i := 3) (v := ?_) rfl (by kernel_rfl) (by kernel_rfl) (by kernel_rfl) (fun _ _ _ h => h) (Or.inl ⟨by rfl, ?_⟩) (by assumption) ?_
      rotate_left
      · intro w hSw; (try dsimp only at hSw); go_split_ands; go_simp; with_reducible rfl
      change wpAnyH _ _ _ _ _ _ _ (Act.put _ (some 29) _) _
      simp only [Act.put, List.setIfInBounds_toArray, List.set_cons_zero, List.set_cons_succ, Array.toArray_toList]
      refine wpAnyH_take (i := 4) (v := ?_) rfl (by kernel_rfl) (by kernel_rfl) (by kernel_rfl) (fun _ _ _ h => h) (Or.inl ⟨by rfl, ?_⟩) (by assumption) ?_
      rotate_left
      · intro w hSw; (try dsimp only at hSw); go_split_ands; go_simp; with_reducible rfl
      change wpAnyH _ _ _ _ _ _ _ (Act.put _ (some 30) _) _
      simp only [Act.put, List.setIfInBounds_toArray, List.set_cons_zero, List.set_cons_succ, Array.toArray_toList]
      refine wpAnyH_take (i := 5) (v := ?_) rfl (by kernel_rfl) (by kernel_rfl) (by kernel_rfl) (fun _ _ _ h => h) (Or.inl ⟨by rfl, ?_⟩) (by assumption) ?_
      rotate_left
      · intro w hSw; (try dsimp only at hSw); go_split_ands; go_simp; with_reducible rfl
      change wpAnyH _ _ _ _ _ _ _ (Act.put _ (some 31) _) _
      simp only [Act.put, List.setIfInBounds_toArray, List.set_cons_zero, List.set_cons_succ, Array.toArray_toList]
      refine wpAnyH_ready (rs := [6]) (by kernel_rfl) (by simp) ?_
      refine (AllReadyH.cons rfl (fun K hK => ?_) AllReadyH.nil)
      go_simp
      (with_reducible refine (HL12.out _).mono ?_); rintro e wq ⟨rfl, hb⟩; have Mq := Lib.hid (Mq.out.below hb); clear hb
      go_wp2_with fail
      refine hK.out _ _ (by exact HCE.out _ Mq.out) (fun hHeld => ?_)
      clear hK K
      refine wpAnyH_take (i := 7) (v := ?_) rfl (by kernel_rfl) (by kernel_rfl) (by kernel_rfl) (fun _ _ _ h => h) (Or.inl ⟨by rfl, ?_⟩) (by assumption) ?_
      rotate_left
      · intro w hSw; (try dsimp only at hSw); go_split_ands; go_simp; with_reducible rfl
      change wpAnyH _ _ _ _ _ _ _ (Act.put _ (some 33) _) _
      simp only [Act.put, List.setIfInBounds_toArray, List.set_cons_zero, List.set_cons_succ, Array.toArray_toList]
      refine wpAnyH_take (i := 8) (v := ?_) rfl (by kernel_rfl) (by kernel_rfl) (by kernel_rfl) (fun _ _ _ h => h) (Or.inl ⟨by rfl, ?_⟩) (by assumption) ?_
      rotate_left
      · intro w hSw; (try dsimp only at hSw); go_split_ands; go_simp; with_reducible rfl
      change wpAnyH _ _ _ _ _ _ _ (Act.put _ (some 34) _) _
      simp only [Act.put, List.setIfInBounds_toArray, List.set_cons_zero, List.set_cons_succ, Array.toArray_toList]
      refine wpAnyH_take (i := 9) (v := ?_) rfl (by kernel_rfl) (by kernel_rfl) (by kernel_rfl) (fun _ _ _ h => h) (Or.inl ⟨by rfl, ?_⟩) (by assumption) ?_
      rotate_left
      · intro w hSw; (try dsimp only at hSw); go_split_ands; go_simp; with_reducible rfl
      change wpAnyH _ _ _ _ _ _ _ (Act.put _ (some 35) _) _
      simp only [Act.put, List.setIfInBounds_toArray, List.set_cons_zero, List.set_cons_succ, Array.toArray_toList]
      refine wpAnyH_take (i := 10) (v := ?_) rfl (by kernel_rfl) (by kernel_rfl) (by kernel_rfl) (fun _ _ _ h => h) (Or.inl ⟨by rfl, ?_⟩) (by assumption) ?_
      rotate_left
      · intro w hSw; (try dsimp only at hSw); go_split_ands; go_simp; with_reducible rfl
      change wpAnyH _ _ _ _ _ _ _ (Act.put _ (some 36) _) _
      simp only [Act.put, List.setIfInBounds_toArray, List.set_cons_zero, List.set_cons_succ, Array.toArray_toList]
      refine wpAnyH_take (i := 11) (v := ?_) rfl (by kernel_rfl) (by kernel_rfl) (by kernel_rfl) (fun _ _ _ h => h) (Or.inl ⟨by rfl, ?_⟩) (by assumption) ?_
      rotate_left
      · intro w hSw; (try dsimp only at hSw); go_split_ands; go_simp; with_reducible rfl
      change wpAnyH _ _ _ _ _ _ _ (Act.put _ (some 37) _) _
      simp only [Act.put, List.setIfInBounds_toArray, List.set_cons_zero, List.set_cons_succ, Array.toArray_toList]
      refine wpAnyH_take (i := 12) (v := ?_) rfl (by kernel_rfl) (by kernel_rfl) (by kernel_rfl) (fun _ _ _ h => h) (Or.inl ⟨by rfl, ?_⟩) (by assumption) ?_
      rotate_left
      · intro w hSw; (try dsimp only at hSw); go_split_ands; go_simp; with_reducible rfl
      change wpAnyH _ _ _ _ _ _ _ (Act.put _ (some 38) _) _
      simp only [Act.put, List.setIfInBounds_toArray, List.set_cons_zero, List.set_cons_succ, Array.toArray_toList]
      refine wpAnyH_take (i := 13) (v := ?_) rfl (by kernel_rfl) (by kernel_rfl) (by kernel_rfl) (fun _ _ _ h => h) (Or.inl ⟨by rfl, ?_⟩) (by assumption) ?_
      rotate_left
      · intro w hSw; (try dsimp only at hSw); go_split_ands; go_simp; with_reducible rfl
      change wpAnyH _ _ _ _ _ _ _ (Act.put _ (some 39) _) _
      simp only [Act.put, List.setIfInBounds_toArray, List.set_cons_zero, List.set_cons_succ, Array.toArray_toList]
      refine wpAnyH_ready (rs := [14]) (by kernel_rfl) (by simp) ?_
      refine (AllReadyH.cons rfl (fun K hK => ?_) AllReadyH.nil)
      go_simp
      (with_reducible refine (HL21.out _).mono ?_); rintro e wq ⟨rfl, hb⟩; have Mq := Lib.hid (Mq.out.below hb); clear hb
      go_wp2_with fail
      refine hK.out _ _ (by exact HCE.out _ Mq.out) (fun hHeld => ?_)
      clear hK K
      refine wpAnyH_take (i := 15) (v := ?_) rfl (by kernel_rfl) (by kernel_rfl) (by kernel_rfl) (fun _ _ _ h => h) (Or.inl ⟨by rfl, ?_⟩) (by assumption) ?_
      rotate_left
      · intro w hSw; (try dsimp only at hSw); go_split_ands; go_simp; with_reducible rfl
      change wpAnyH _ _ _ _ _ _ _ (Act.put _ (some 41) _) _
      simp only [Act.put, List.setIfInBounds_toArray, List.set_cons_zero, List.set_cons_succ, Array.toArray_toList]
      refine wpAnyH_take (i := 16) (v := ?_) rfl (by kernel_rfl) (by kernel_rfl) (by kernel_rfl) (fun _ _ _ h => h) (Or.inl ⟨by rfl, ?_⟩) (by assumption) ?_
      rotate_left
      · intro w hSw; (try dsimp only at hSw); go_split_ands; go_simp; with_reducible rfl
      change wpAnyH _ _ _ _ _ _ _ (Act.put _ (some 42) _) _
      simp only [Act.put, List.setIfInBounds_toArray, List.set_cons_zero, List.set_cons_succ, Array.toArray_toList]
      refine wpAnyH_take (i := 17) (v := ?_) rfl (by kernel_rfl) (by kernel_rfl) (by kernel_rfl) (fun _ _ _ h => h) (Or.inl ⟨by rfl, ?_⟩) (by assumption) ?_
      rotate_left
      · intro w hSw; (try dsimp only at hSw); go_split_ands; go_simp; with_reducible rfl
      change wpAnyH _ _ _ _ _ _ _ (Act.put _ (some 43) _) _
      simp only [Act.put, List.setIfInBounds_toArray, List.set_cons_zero, List.set_cons_succ, Array.toArray_toList]
      refine wpAnyH_take (i := 18) (v := ?_) rfl (by kernel_rfl) (by kernel_rfl) (by kernel_rfl) (fun _ _ _ h => h) (Or.inl ⟨by rfl, ?_⟩) (by assumption) ?_
      rotate_left
      · intro w hSw; (try dsimp only at hSw); go_split_ands; go_simp; with_reducible rfl
      change wpAnyH _ _ _ _ _ _ _ (Act.put _ (some 44) _) _
      simp only [Act.put, List.setIfInBounds_toArray, List.set_cons_zero, List.set_cons_succ, Array.toArray_toList]
      refine wpAnyH_take (i := 19) (v := ?_) rfl (by kernel_rfl) (by kernel_rfl) (by kernel_rfl) (fun _ _ _ h => h) (Or.inl ⟨by rfl, ?_⟩) (by assumption) ?_
      rotate_left
      · intro w hSw; (try dsimp only at hSw); go_split_ands; go_simp; with_reducible rfl
      change wpAnyH _ _ _ _ _ _ _ (Act.put _ (some 45) _) _
      simp only [Act.put, List.setIfInBounds_toArray, List.set_cons_zero, List.set_cons_succ, Array.toArray_toList]
      refine wpAnyH_take (i := 20) (v := ?_) rfl (by kernel_rfl) (by kernel_rfl) (by kernel_rfl) (fun _ _ _ h => h) (Or.inl ⟨by rfl, ?_⟩) (by assumption) ?_
      rotate_left
      · intro w hSw; (try dsimp only at hSw); go_split_ands; go_simp; with_reducible rfl
      change wpAnyH _ _ _ _ _ _ _ (Act.put _ (some 46) _) _
      simp only [Act.put, List.setIfInBounds_toArray, List.set_cons_zero, List.set_cons_succ, Array.toArray_toList]
      refine wpAnyH_take (i := 21) (v := ?_) rfl (by kernel_rfl) (by kernel_rfl) (by kernel_rfl) (fun _ _ _ h => h) (Or.inl ⟨by rfl, ?_⟩) (by assumption) ?_
      rotate_left
      · intro w hSw; (try dsimp only at hSw); go_split_ands; go_simp; with_reducible rfl
      change wpAnyH _ _ _ _ _ _ _ (Act.put _ (some 47) _) _
      simp only [Act.put, List.setIfInBounds_toArray, List.set_cons_zero, List.set_cons_succ, Array.toArray_toList]
      refine wpAnyH_take (i := 22) (v := ?_) rfl (by kernel_rfl) (by kernel_rfl) (by kernel_rfl) (fun _ _ _ h => h) (Or.inl ⟨by rfl, ?_⟩) (by assumption) ?_
      rotate_left
      · intro w hSw; (try dsimp only at hSw); go_split_ands; go_simp; with_reducible rfl
      change wpAnyH _ _ _ _ _ _ _ (Act.put _ (some 48) _) _
      simp only [Act.put, List.setIfInBounds_toArray, List.set_cons_zero, List.set_cons_succ, Array.toArray_toList]
      refine wpAnyH_take (i := 23) (v := ?_) rfl (by kernel_rfl) (by kernel_rfl) (by kernel_rfl) (fun _ _ _ h => h) (Or.inl ⟨by rfl, ?_⟩) (by assumption) ?_
      rotate_left
      · intro w hSw; (try dsimp only at hSw); go_split_ands; go_simp; with_reducible rfl
      change wpAnyH _ _ _ _ _ _ _ (Act.put _ (some 49) _) _
      simp only [Act.put, List.setIfInBounds_toArray, List.set_cons_zero, List.set_cons_succ, Array.toArray_toList]
      refine wpAnyH_take (i := 24) (v := ?_) rfl (by kernel_rfl) (by kernel_rfl) (by kernel_rfl) (fun _ _ _ h => h) (Or.inl ⟨by rfl, ?_⟩) (by assumption) ?_
      rotate_left
      · intro w hSw; (try dsimp only at hSw); go_split_ands; go_simp; with_reducible rfl
      change wpAnyH _ _ _ _ _ _ _ (Act.put _ (some 50) _) _
      simp only [Act.put, List.setIfInBounds_toArray, List.set_cons_zero, List.set_cons_succ, Array.toArray_toList]
      refine wpAnyH_take (i := 25) (v := ?_) rfl (by kernel_rfl) (by kernel_rfl) (by kernel_rfl) (fun _ _ _ h => h) (Or.inl ⟨by rfl, ?_⟩) (by assumption) ?_
      rotate_left
      · intro w hSw; (try dsimp only at hSw); go_split_ands; go_simp; with_reducible rfl
      change wpAnyH _ _ _ _ _ _ _ (Act.put _ (some 51) _) _
      simp only [Act.put, List.setIfInBounds_toArray, List.set_cons_zero, List.set_cons_succ, Array.toArray_toList]
      refine wpAnyH_take (i := 26) (v := ?_) rfl (by kernel_rfl) (by kernel_rfl) (by kernel_rfl) (fun _ _ _ h => h) (Or.inl ⟨by rfl, ?_⟩) (by assumption) ?_
      rotate_left
      · intro w hSw; (try dsimp only at hSw); go_split_ands; go_simp; with_reducible rfl
      change wpAnyH _ _ _ _ _ _ _ (Act.put _ (some 52) _) _
      simp only [Act.put, List.setIfInBounds_toArray, List.set_cons_zero, List.set_cons_succ, Array.toArray_toList]
      refine wpAnyH_take (i := 28) (v := ?_) rfl (by kernel_rfl) (by kernel_rfl) (by kernel_rfl) (fun _ _ _ h => h) (Or.inl ⟨by rfl, ?_⟩) (by assumption) ?_
      rotate_left
      · intro w hSw; (try dsimp only at hSw); go_split_ands; go_simp; with_reducible rfl
      change wpAnyH _ _ _ _ _ _ _ (Act.put _ (some 54) _) _
      simp only [Act.put, List.setIfInBounds_toArray, List.set_cons_zero, List.set_cons_succ, Array.toArray_toList]
      refine wpAnyH_take (i := 31) (v := ?_) rfl (by kernel_rfl) (by kernel_rfl) (by kernel_rfl) (fun _ _ _ h => h) (Or.inl ⟨by rfl, ?_⟩) (by assumption) ?_
      rotate_left
      · intro w hSw; (try dsimp only at hSw); go_split_ands; go_simp; with_reducible rfl
      change wpAnyH _ _ _ _ _ _ _ (Act.put _ (some 57) _) _
      simp only [Act.put, List.setIfInBounds_toArray, List.set_cons_zero, List.set_cons_succ, Array.toArray_toList]
      refine wpAnyH_take (i := 32) (v := ?_) rfl (by kernel_rfl) (by kernel_rfl) (by kernel_rfl) (fun _ _ _ h => h) (Or.inl ⟨by rfl, ?_⟩) (by assumption) ?_
      rotate_left
      · intro w hSw; (try dsimp only at hSw); go_split_ands; go_simp; with_reducible rfl
      change wpAnyH _ _ _ _ _ _ _ (Act.put _ (some 58) _) _
      simp only [Act.put, List.setIfInBounds_toArray, List.set_cons_zero, List.set_cons_succ, Array.toArray_toList]
      refine wpAnyH_take (i := 33) (v := ?_) rfl (by kernel_rfl) (by kernel_rfl) (by kernel_rfl) (fun _ _ _ h => h) (Or.inl ⟨by rfl, ?_⟩) (by assumption) ?_
      rotate_left
      · intro w hSw; (try dsimp only at hSw); go_split_ands; go_simp; with_reducible rfl
      change wpAnyH _ _ _ _ _ _ _ (Act.put _ (some 59) _) _
      simp only [Act.put, List.setIfInBounds_toArray, List.set_cons_zero, List.set_cons_succ, Array.toArray_toList]
      refine wpAnyH_ready (rs := [27]) (by kernel_rfl) (by simp) ?_
      refine (AllReadyH.cons rfl (fun K hK => ?_) AllReadyH.nil)
      go_simp
      (with_reducible refine (HTA.out _ Mq.out.bel).mono ?_); rintro e wq ⟨rfl, hb⟩; have Mq := Lib.hid (Mq.out.below hb); clear hb
      go_wp2_with fail
      refine hK.out _ _ (by exact HCE.out _ Mq.out) (fun hHeld => ?_)
      clear hK K
      refine wpAnyH_ready (rs := [29]) (by kernel_rfl) (by simp) ?_
      refine (AllReadyH.cons rfl (fun K hK => ?_) AllReadyH.nil)
      go_simp
      (with_reducible refine (HTB.out _ Mq.out.bel).mono ?_); rintro e wq ⟨rfl, hb⟩; have Mq := Lib.hid (Mq.out.below hb); clear hb
      go_wp2_with fail
      refine hK.out _ _ (by exact HCE.out _ Mq.out) (fun hHeld => ?_)
      clear hK K
      refine wpAnyH_take (i := 30) (v := ?_) rfl (by kernel_rfl) (by kernel_rfl) (by kernel_rfl) (fun _ _ _ h => h) (Or.inl ⟨by rfl, ?_⟩) (by assumption) ?_
      rotate_left
      · intro w hSw; (try dsimp only at hSw); go_split_ands; go_simp; with_reducible rfl
      change wpAnyH _ _ _ _ _ _ _ (Act.put _ (some 56) _) _
      simp only [Act.put, List.setIfInBounds_toArray, List.set_cons_zero, List.set_cons_succ, Array.toArray_toList]
      refine wpAnyH_take (i := 34) (v := ?_) rfl (by kernel_rfl) (by kernel_rfl) (by kernel_rfl) (fun _ _ _ h => h) (Or.inl ⟨by rfl, ?_⟩) (by assumption) ?_
      rotate_left
      · intro w hSw; (try dsimp only at hSw); go_split_ands; go_simp; with_reducible rfl
      change wpAnyH _ _ _ _ _ _ _ (Act.put _ (some 60) _) _
      simp only [Act.put, List.setIfInBounds_toArray, List.set_cons_zero, List.set_cons_succ, Array.toArray_toList]
      refine wpAnyH_take (i := 35) (v := ?_) rfl (by kernel_rfl) (by kernel_rfl) (by kernel_rfl) (fun _ _ _ h => h) (Or.inl ⟨by rfl, ?_⟩) (by assumption) ?_
      rotate_left
      · intro w hSw; (try dsimp only at hSw); go_split_ands; go_simp; with_reducible rfl
      change wpAnyH _ _ _ _ _ _ _ (Act.put _ (some 61) _) _
      simp only [Act.put, List.setIfInBounds_toArray, List.set_cons_zero, List.set_cons_succ, Array.toArray_toList]
      refine wpAnyH_take (i := 36) (v := ?_) rfl (by kernel_rfl) (by kernel_rfl) (by kernel_rfl) (fun _ _ _ h => h) (Or.inl ⟨by rfl, ?_⟩) (by assumption) ?_
      rotate_left
      · intro w hSw; (try dsimp only at hSw); go_split_ands; go_simp; with_reducible rfl
      change wpAnyH _ _ _ _ _ _ _ (Act.put _ (some 62) _) _
      simp only [Act.put, List.setIfInBounds_toArray, List.set_cons_zero, List.set_cons_succ, Array.toArray_toList]
      refine wpAnyH_take (i := 37) (v := ?_) rfl (by kernel_rfl) (by kernel_rfl) (by kernel_rfl) (fun _ _ _ h => h) (Or.inl ⟨by rfl, ?_⟩) (by assumption) ?_
      rotate_left
      · intro w hSw; (try dsimp only at hSw); go_split_ands; go_simp; with_reducible rfl
      change wpAnyH _ _ _ _ _ _ _ (Act.put _ (some 63) _) _
      simp only [Act.put, List.setIfInBounds_toArray, List.set_cons_zero, List.set_cons_succ, Array.toArray_toList]
      refine wpAnyH_take (i := 38) (v := ?_) rfl (by kernel_rfl) (by kernel_rfl) (by kernel_rfl) (fun _ _ _ h => h) (Or.inl ⟨by rfl, ?_⟩) (by assumption) ?_
      rotate_left
      · intro w hSw; (try dsimp only at hSw); go_split_ands; go_simp; with_reducible rfl
      change wpAnyH _ _ _ _ _ _ _ (Act.put _ (some 64) _) _
      simp only [Act.put, List.setIfInBounds_toArray, List.set_cons_zero, List.set_cons_succ, Array.toArray_toList]
      refine wpAnyH_take (i := 39) (v := ?_) rfl (by kernel_rfl) (by kernel_rfl) (by kernel_rfl) (fun _ _ _ h => h) (Or.inl ⟨by rfl, ?_⟩) (by assumption) ?_
      rotate_left
      · intro w hSw; (try dsimp only at hSw); go_split_ands; go_simp; with_reducible rfl
      change wpAnyH _ _ _ _ _ _ _ (Act.put _ (some 65) _) _
      simp only [Act.put, List.setIfInBounds_toArray, List.set_cons_zero, List.set_cons_succ, Array.toArray_toList]
      refine wpAnyH_take (i := 40) (v := ?_) rfl (by kernel_rfl) (by kernel_rfl) (by kernel_rfl) (fun _ _ _ h => h) (Or.inl ⟨by rfl, ?_⟩) (by assumption) ?_
      rotate_left
      · intro w hSw; (try dsimp only at hSw); go_split_ands; go_simp; with_reducible rfl
      change wpAnyH _ _ _ _ _ _ _ (Act.put _ (some 66) _) _
      simp only [Act.put, List.setIfInBounds_toArray, List.set_cons_zero, List.set_cons_succ, Array.toArray_toList]
      refine wpAnyH_take (i := 41) (v := ?_) rfl (by kernel_rfl) (by kernel_rfl) (by kernel_rfl) (fun _ _ _ h => h) (Or.inl ⟨by rfl, ?_⟩) (by assumption) ?_
      rotate_left
      · intro w hSw; (try dsimp only at hSw); go_split_ands; go_simp; with_reducible rfl
      change wpAnyH _ _ _ _ _ _ _ (Act.put _ (some 67) _) _
      simp only [Act.put, List.setIfInBounds_toArray, List.set_cons_zero, List.set_cons_succ, Array.toArray_toList]
      refine wpAnyH_take (i := 42) (v := ?_) rfl (by kernel_rfl) (by kernel_rfl) (by kernel_rfl) (fun _ _ _ h => h) (Or.inl ⟨by rfl, ?_⟩) (by assumption) ?_
      rotate_left
      · intro w hSw; (try dsimp only at hSw); go_split_ands; go_simp; with_reducible rfl
      change wpAnyH _ _ _ _ _ _ _ (Act.put _ (some 68) _) _
      simp only [Act.put, List.setIfInBounds_toArray, List.set_cons_zero, List.set_cons_succ, Array.toArray_toList]
      refine wpAnyH_take (i := 43) (v := ?_) rfl (by kernel_rfl) (by kernel_rfl) (by kernel_rfl) (fun _ _ _ h => h) (Or.inl ⟨by rfl, ?_⟩) (by assumption) ?_
      rotate_left
      · intro w hSw; (try dsimp only at hSw); go_split_ands; go_simp; with_reducible rfl
      change wpAnyH _ _ _ _ _ _ _ (Act.put _ (some 69) _) _
      simp only [Act.put, List.setIfInBounds_toArray, List.set_cons_zero, List.set_cons_succ, Array.toArray_toList]
      refine wpAnyH_take (i := 44) (v := ?_) rfl (by kernel_rfl) (by kernel_rfl) (by kernel_rfl) (fun _ _ _ h => h) (Or.inl ⟨by rfl, ?_⟩) (by assumption) ?_
      rotate_left
      · intro w hSw; (try dsimp only at hSw); go_split_ands; go_simp; with_reducible rfl
      change wpAnyH _ _ _ _ _ _ _ (Act.put _ (some 70) _) _
      simp only [Act.put, List.setIfInBounds_toArray, List.set_cons_zero, List.set_cons_succ, Array.toArray_toList]
      refine wpAnyH_take (i := 45) (v := ?_) rfl (by kernel_rfl) (by kernel_rfl) (by kernel_rfl) (fun _ _ _ h => h) (Or.inl ⟨by rfl, ?_⟩) (by assumption) ?_
      rotate_left
      · intro w hSw; (try dsimp only at hSw); go_split_ands; go_simp; with_reducible rfl
      change wpAnyH _ _ _ _ _ _ _ (Act.put _ (some 71) _) _
      simp only [Act.put, List.setIfInBounds_toArray, List.set_cons_zero, List.set_cons_succ, Array.toArray_toList]
      refine wpAnyH_ready (rs := [46]) (by kernel_rfl) (by simp) ?_
      refine (AllReadyH.cons rfl (fun K hK => ?_) AllReadyH.nil)
      go_simp
      (with_reducible refine (HQ.out _).mono ?_); rintro e wq ⟨rfl, hb⟩; have Mq := Lib.hid (Mq.out.below hb); clear hb
      go_wp2_with fail
      refine hK.out _ _ (by exact HCE.out _ Mq.out) (fun hHeld => ?_)
      clear hK K
      refine wpAnyH_take (i := 47) (v := ?_) rfl (by kernel_rfl) (by kernel_rfl) (by kernel_rfl) (fun _ _ _ h => h) (Or.inl ⟨by rfl, ?_⟩) (by assumption) ?_
      rotate_left
      · intro w hSw; (try dsimp only at hSw); go_split_ands; go_simp; with_reducible rfl
      change wpAnyH _ _ _ _ _ _ _ (Act.put _ (some 73) _) _
      simp only [Act.put, List.setIfInBounds_toArray, List.set_cons_zero, List.set_cons_succ, Array.toArray_toList]
      refine wpAnyH_take (i := 48) (v := ?_) rfl (by kernel_rfl) (by kernel_rfl) (by kernel_rfl) (fun _ _ _ h => h) (Or.inl ⟨by rfl, ?_⟩) (by assumption) ?_
      rotate_left
      · intro w hSw; (try dsimp only at hSw); go_split_ands; go_simp; with_reducible rfl
      change wpAnyH _ _ _ _ _ _ _ (Act.put _ (some 74) _) _
      simp only [Act.put, List.setIfInBounds_toArray, List.set_cons_zero, List.set_cons_succ, Array.toArray_toList]
      refine wpAnyH_take (i := 49) (v := ?_) rfl (by kernel_rfl) (by kernel_rfl) (by kernel_rfl) (fun _ _ _ h => h) (Or.inl ⟨by rfl, ?_⟩) (by assumption) ?_
      rotate_left
      · intro w hSw; (try dsimp only at hSw); go_split_ands; go_simp; with_reducible rfl
      change wpAnyH _ _ _ _ _ _ _ (Act.put _ (some 75) _) _
      simp only [Act.put, List.setIfInBounds_toArray, List.set_cons_zero, List.set_cons_succ, Array.toArray_toList]
      refine wpAnyH_take (i := 50) (v := ?_) rfl (by kernel_rfl) (by kernel_rfl) (by kernel_rfl) (fun _ _ _ h => h) (Or.inl ⟨by rfl, ?_⟩) (by assumption) ?_
      rotate_left
      · intro w hSw; (try dsimp only at hSw); go_split_ands; go_simp; with_reducible rfl
      change wpAnyH _ _ _ _ _ _ _ (Act.put _ (some 76) _) _
      simp only [Act.put, List.setIfInBounds_toArray, List.set_cons_zero, List.set_cons_succ, Array.toArray_toList]
      refine wpAnyH_take (i := 51) (v := ?_) rfl (by kernel_rfl) (by kernel_rfl) (by kernel_rfl) (fun _ _ _ h => h) (Or.inl ⟨by rfl, ?_⟩) (by assumption) ?_
      rotate_left
      · intro w hSw; (try dsimp only at hSw); go_split_ands; go_simp; with_reducible rfl
      change wpAnyH _ _ _ _ _ _ _ (Act.put _ (some 77) _) _
      simp only [Act.put, List.setIfInBounds_toArray, List.set_cons_zero, List.set_cons_succ, Array.toArray_toList]
      refine wpAnyH_take (i := 52) (v := ?_) rfl (by kernel_rfl) (by kernel_rfl) (by kernel_rfl) (fun _ _ _ h => h) (Or.inl ⟨by rfl, ?_⟩) (by assumption) ?_
      rotate_left
      · intro w hSw; (try dsimp only at hSw); go_split_ands; go_simp; with_reducible rfl
      change wpAnyH _ _ _ _ _ _ _ (Act.put _ (some 78) _) _
      simp only [Act.put, List.setIfInBounds_toArray, List.set_cons_zero, List.set_cons_succ, Array.toArray_toList]
      refine wpAnyH_take (i := 54) (v := ?_) rfl (by kernel_rfl) (by kernel_rfl) (by kernel_rfl) (fun _ _ _ h => h) (Or.inl ⟨by rfl, ?_⟩) (by assumption) ?_
      rotate_left
      · intro w hSw; (try dsimp only at hSw); go_split_ands; go_simp; with_reducible rfl
      change wpAnyH _ _ _ _ _ _ _ (Act.put _ (some 80) _) _
      simp only [Act.put, List.setIfInBounds_toArray, List.set_cons_zero, List.set_cons_succ, Array.toArray_toList]
      refine wpAnyH_take (i := 55) (v := ?_) rfl (by kernel_rfl) (by kernel_rfl) (by kernel_rfl) (fun _ _ _ h => h) (Or.inl ⟨by rfl, ?_⟩) (by assumption) ?_
      rotate_left
      · intro w hSw; (try dsimp only at hSw); go_split_ands; go_simp; with_reducible rfl
      change wpAnyH _ _ _ _ _ _ _ (Act.put _ (some 81) _) _
      simp only [Act.put, List.setIfInBounds_toArray, List.set_cons_zero, List.set_cons_succ, Array.toArray_toList]
      refine wpAnyH_take (i := 56) (v := ?_) rfl (by kernel_rfl) (by kernel_rfl) (by kernel_rfl) (fun _ _ _ h => h) (Or.inl ⟨by rfl, ?_⟩) (by assumption) ?_
      rotate_left
      · intro w hSw; (try dsimp only at hSw); go_split_ands; go_simp; with_reducible rfl
      change wpAnyH _ _ _ _ _ _ _ (Act.put _ (some 82) _) _
      simp only [Act.put, List.setIfInBounds_toArray, List.set_cons_zero, List.set_cons_succ, Array.toArray_toList]
      refine wpAnyH_take (i := 57) (v := ?_) rfl (by kernel_rfl) (by kernel_rfl) (by kernel_rfl) (fun _ _ _ h => h) (Or.inl ⟨by rfl, ?_⟩) (by assumption) ?_
      rotate_left
      · intro w hSw; (try dsimp only at hSw); go_split_ands; go_simp; with_reducible rfl
      change wpAnyH _ _ _ _ _ _ _ (Act.put _ (some 83) _) _
      simp only [Act.put, List.setIfInBounds_toArray, List.set_cons_zero, List.set_cons_succ, Array.toArray_toList]
      refine wpAnyH_ready (rs := [53]) (by kernel_rfl) (by simp) ?_
      refine (AllReadyH.cons rfl (fun K hK => ?_) AllReadyH.nil)
      go_simp
      (with_reducible refine (HEX.out _).mono ?_); rintro e wq ⟨rfl, hb⟩; have Mq := Lib.hid (Mq.out.below hb); clear hb
      go_wp2_with fail
      refine hK.out _ _ (by exact HCE.out _ Mq.out) (fun hHeld => ?_)
      clear hK K
      refine wpAnyH_take (i := 58) (v := ?_) rfl (by kernel_rfl) (by kernel_rfl) (by kernel_rfl) (fun _ _ _ h => h) (Or.inl ⟨by rfl, ?_⟩) (by assumption) ?_
      rotate_left
      · intro w hSw; (try dsimp only at hSw); go_split_ands; go_simp; with_reducible rfl
      change wpAnyH _ _ _ _ _ _ _ (Act.put _ (some 84) _) _
      simp only [Act.put, List.setIfInBounds_toArray, List.set_cons_zero, List.set_cons_succ, Array.toArray_toList]
      refine wpAnyH_take (i := 59) (v := ?_) rfl (by kernel_rfl) (by kernel_rfl) (by kernel_rfl) (fun _ _ _ h => h) (Or.inl ⟨by rfl, ?_⟩) (by assumption) ?_
      rotate_left
      · intro w hSw; (try dsimp only at hSw); go_split_ands; go_simp; with_reducible rfl
      change wpAnyH _ _ _ _ _ _ _ (Act.put _ (some 85) _) _
      simp only [Act.put, List.setIfInBounds_toArray, List.set_cons_zero, List.set_cons_succ, Array.toArray_toList]
      refine wpAnyH_take (i := 60) (v := ?_) rfl (by kernel_rfl) (by kernel_rfl) (by kernel_rfl) (fun _ _ _ h => h) (Or.inl ⟨by rfl, ?_⟩) (by assumption) ?_
      rotate_left
      · intro w hSw; (try dsimp only at hSw); go_split_ands; go_simp; with_reducible rfl
      change wpAnyH _ _ _ _ _ _ _ (Act.put _ (some 8) _) _
      simp only [Act.put, List.setIfInBounds_toArray, List.set_cons_zero, List.set_cons_succ, Array.toArray_toList]
      refine wpAnyH_done (by kernel_rfl) ?_ _
      clear hHeld K0
      go_wp2
      go_ret
      exact ⟨rfl, Mq.out.bel⟩
theorem contract_claimsOrders (W : World) (v0 v1 v2 v3 : Value) (a0 : ∃ zs : List Int, v0 = .agg (zs.map (Value.int .i64)).toArray ∧ zs.length = 4 ∧ ∀ z ∈ zs, in64 z) (a1 : ∃ zs : List Int, v1 = .agg (zs.map (Value.int .i64)).toArray ∧ zs.length = 4 ∧ ∀ z ∈ zs, in64 z) (a2 : ∃ zs : List Int, v2 = .agg (zs.map (Value.int .i64)).toArray ∧ zs.length = 4 ∧ ∀ z ∈ zs, in64 z) (a3 : ∃ z, v3 = .int .i64 z ∧ in64 z) (hT : ∀ w', Below W.heap.size W w' → Tab10' w') :
    Calls Tryd.prog 4 #[v0, v1, v2, v3] W fun e W' => e = .returned (.bool true) ∧ Below W.heap.size W W' := by
  obtain ⟨z0, rfl, h0, q0⟩ := a0
  obtain ⟨z1, rfl, h1, q1⟩ := a1
  obtain ⟨z2, rfl, h2, q2⟩ := a2
  obtain ⟨t, rfl, -⟩ := a3
  match z0, h0, z1, h1, z2, h2 with
  | [a, b, c, d], _, [e, f, g, o], _, [i, j, k, l], _ =>
    have hc : ∀ n ∈ [a, b, c, d, e, f, g, o], -9223372036854775808 ≤ n ∧ n ≤ 9223372036854775807 := by
      intro n hn
      have hm : n ∈ [a, b, c, d] ∨ n ∈ [e, f, g, o] := by
        simp only [List.mem_cons, List.not_mem_nil, or_false] at hn ⊢
        rcases hn with hn | hn | hn | hn | hn | hn | hn | hn <;> simp [hn]
      rcases hm with hm | hm
      · exact q0 n hm
      · exact q1 n hm
    exact claimsOrders_main W a b c d e f g o i j k l t hc hT
end Go.Proofs.YtghcdffpplimoaaDoor
