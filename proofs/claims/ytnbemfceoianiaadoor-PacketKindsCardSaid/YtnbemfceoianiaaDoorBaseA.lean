/- Base. Mst. Fresh. Arr. App. App2. Src. ArrEq. Join. -/
import Derived.WalkKit
import Derived.WalkSmall
import Derived.Below
import Derived.Deep.Draws
import Derived.Laws.OwnMore
import Derived.Laws.Rows
import Derived.Maps.AppendAt
import Derived.Deep.AppendLies
import Derived.RegionTactic
import Derived.OwnWalk
import Derived.Lib.Hide
import Derived.Deep.MidRow
import Derived.Deep.WholeRow
import Derived.BigFrame
import Derived.Laws.StructEq
import Derived.BigQuiet
/- Small lemmas on worlds, blocks and rows that all texts of this seat use; nothing here names the program. -/
namespace Go.Proofs.YtnbemfceoianiaaDoor
set_option linter.unusedVariables false
open Go.RowKit

theorem bcell {W w1 : World} (hb : Below W.heap.size W w1) : (∀ b o, b < W.heap.size → w1.cell? ⟨b, o, none⟩ = W.cell? ⟨b, o, none⟩) ∧ (∀ b o, b < W.heap.size → w1.frozen? ⟨b, o, none⟩ = W.frozen? ⟨b, o, none⟩) :=
  ⟨fun b o h => hb.cell (p := ⟨b, o, none⟩) h, fun b o h => hb.frozen (p := ⟨b, o, none⟩) h⟩

/-- Below, over any number of draws. -/
theorem Bdn {B : Nat} {a w : World} (h : Below B a w) (n : Nat) : Below B a (w.drewN n) := ⟨h.os, h.tape, h.output, h.size, h.block⟩

theorem Bsz {w w1 w2 : World} (h : Below w.heap.size w w1) (h2 : Below w1.heap.size w1 w2) : Below w.heap.size w w2 := h.trans (h2.mono h.size)
theorem Bal {w w1 : World} (h : Below w.heap.size w w1) (o : Obj) : Below w.heap.size w (w1.alloc o) := h.alloc h.size o

/-- A whole block: its cells, their type, nothing frozen. -/
def Bk (w : World) (g : Nat) (t : TypeId) (cs : Array Value) : Prop := w.heap[g]? = some (.cells cs t (0, 0))

section
variable {w w' a : World} {g : Nat} {t : TypeId} {cs : Array Value}
theorem Bk.lt (h : Bk w g t cs) : g < w.heap.size := by
  rcases Nat.lt_or_ge g w.heap.size with hlt | hge
  · exact hlt
  · unfold Bk at h; rw [Array.getElem?_eq_none hge] at h; cases h
theorem Bk.cell (h : Bk w g t cs) (i : Nat) : w.cell? ⟨g, i, none⟩ = cs[i]? := cell_of_row w g i cs t (0, 0) h
theorem Bk.fr (h : Bk w g t cs) (i : Nat) : w.frozen? ⟨g, i, none⟩ = false := frozen_of_row w g i cs t h
theorem Bk.mk_ (w : World) (t : TypeId) (cs : Array Value) : Bk (w.alloc (.cells cs t)) w.heap.size t cs := heap_alloc_new w _
theorem Bk.drew (h : Bk w g t cs) : Bk w.drew g t cs := h
theorem Bk.drewN (h : Bk w g t cs) (n : Nat) : Bk (w.drewN n) g t cs := h
theorem Bk.alloc (h : Bk w g t cs) (o : Obj) : Bk (w.alloc o) g t cs := (Below.heap_alloc w o g h.lt).trans h
theorem Bk.put (h : Bk w g t cs) (i : Nat) (u : Value) : Bk (w.setCell ⟨g, i, none⟩ u) g t (cs.setIfInBounds i u) := by
  unfold Bk at h ⊢
  simp [World.setCell, Array.getElem?_modify, h]
theorem Bk.far (h : Bk w g t cs) {p : Addr} (hp : g ≠ p.block) (u : Value) : Bk (w.setCell p u) g t cs := (Below.heap_setCell w p u g hp).trans h
theorem Bk.below {B : Nat} (h : Bk w g t cs) (hb : Below B w w') (hg : g < B) : Bk w' g t cs := (hb.block g hg).trans h
theorem Bk.grown {row : Option Nat} (h : Bk w g t cs) (hb : w.grownBy w' row) (hg : some g ≠ row) : Bk w' g t cs := (hb.block g h.lt hg).trans h
theorem Bk.of_eq {cs' : Array Value} (h : Bk w g t cs) (e : cs = cs') : Bk w g t cs' := e ▸ h

/-- Only block g, and what is new, has turned. -/
def On (a w : World) (g : Nat) : Prop := a.grownBy w (some g)
theorem On.refl (a : World) (g : Nat) : On a a g := ⟨rfl, rfl, rfl, Nat.le_refl _, fun _ _ _ => rfl⟩
theorem On.trans {b c : World} (h : On a b g) (k : On b c g) : On a c g := World.grownBy.trans h k
theorem On.drewN (h : On a w g) (n : Nat) : On a (w.drewN n) g := ⟨h.os, h.tape, h.output, h.size, h.block⟩
theorem On.drew (h : On a w g) : On a w.drew g := ⟨h.os, h.tape, h.output, h.size, h.block⟩
theorem On.alloc (h : On a w g) (o : Obj) : On a (w.alloc o) g :=
  ⟨h.os, h.tape, h.output, Nat.le_trans h.size (by simp), fun i hi hne => (Below.heap_alloc w o i (Nat.lt_of_lt_of_le hi h.size)).trans (h.block i hi hne)⟩
theorem On.set (h : On a w g) {p : Addr} (hp : p.block = g ∨ a.heap.size ≤ p.block) (u : Value) : On a (w.setCell p u) g :=
  ⟨h.os, h.tape, h.output, by simpa [World.setCell] using h.size, fun i hi hne => (Below.heap_setCell w p u i (by
    rintro rfl
    rcases hp with hp | hp
    · exact hne (by rw [hp])
    · omega)).trans (h.block i hi hne)⟩
theorem On.of_below (h : Below a.heap.size a w) : On a w g := ⟨h.os, h.tape, h.output, h.size, fun i hi _ => h.block i hi⟩
theorem On.then_below (h : On a w g) (hb : Below w.heap.size w w') : On a w' g := h.trans (On.of_below hb)
/-- What turned block g alone, g one of the call's own, is Below. -/
theorem On.below {B : Nat} (h : On a w g) (hB : B ≤ g) (hB' : B ≤ a.heap.size) : Below B a w :=
  ⟨h.os, h.tape, h.output, h.size, fun k hk => h.block k (by omega) (fun e => by injection e; omega)⟩
theorem On.bk {g' : Nat} (h : On a w g) (hk : Bk a g' t cs) (hne : g' ≠ g) : Bk w g' t cs := (h.block g' hk.lt (fun e => hne (by injection e))).trans hk
end

/-- A slice that is read: n elements of 'size' cells each, below block B; nil where n is 0 or not. -/
def Rd (w : World) (B size : Nat) (A : Option Addr) (n : Nat) (xs : List Value) : Prop :=
  xs.length = n * size ∧ (0 < n → ∃ b o, A = some ⟨b, o, none⟩ ∧ b < B ∧ ∀ j u, xs[j]? = some u → w.cell? ⟨b, o + j, none⟩ = some u)

section
variable {w w' : World} {B B' size n : Nat} {A : Option Addr} {xs : List Value}
theorem Rd.keep (h : Rd w B size A n xs) (hk : ∀ b o, b < B → w'.cell? ⟨b, o, none⟩ = w.cell? ⟨b, o, none⟩) : Rd w' B size A n xs :=
  ⟨h.1, fun hn => by
    obtain ⟨b, o, e, hb, hc⟩ := h.2 hn
    exact ⟨b, o, e, hb, fun j u hu => (hk _ _ hb).trans (hc j u hu)⟩⟩
theorem Rd.below (h : Rd w B size A n xs) (hb : Below B w w') : Rd w' B size A n xs := h.keep fun b o hp => hb.cell (p := ⟨b, o, none⟩) hp
theorem Rd.more (h : Rd w B size A n xs) (hB : B ≤ B') : Rd w B' size A n xs :=
  ⟨h.1, fun hn => by
    obtain ⟨b, o, e, hb, hc⟩ := h.2 hn
    exact ⟨b, o, e, by omega, hc⟩⟩
theorem Rd.at_ (h : Rd w B size A n xs) (hn : 0 < n) : ∃ b o, A = some ⟨b, o, none⟩ ∧ b < B ∧ ∀ j, (hj : j < xs.length) → w.cell? ⟨b, o + j, none⟩ = some xs[j] := by
  obtain ⟨b, o, e, hb, hc⟩ := h.2 hn
  exact ⟨b, o, e, hb, fun j hj => hc j _ (List.getElem?_eq_getElem hj)⟩
theorem Rd.nil_ (w : World) (B size : Nat) (A : Option Addr) : Rd w B size A 0 [] := ⟨by simp, fun h => absurd h (by omega)⟩
end
end Go.Proofs.YtnbemfceoianiaaDoor

/- The memory of a call: blocks of its own that are known whole, rows that it appends to, and that all older memory is as it was. Over any program. -/
namespace Go.Proofs.YtnbemfceoianiaaDoor
set_option linter.unusedVariables false
open Go.RowKit

/-- A row of the call's own: element type, cells per element, the slice's value, how many, the cells. -/
structure Ro where
  e : TypeId
  size : Nat
  v : Value
  n : Nat
  xs : List Value

structure Mst (W wr : World) (bl : List (Nat × TypeId × Array Value)) (ow : List Ro) : Prop where
  bel : Below W.heap.size W wr
  bk : ∀ x ∈ bl, Bk wr x.1 x.2.1 x.2.2 ∧ W.heap.size ≤ x.1
  nd : (bl.map (·.1)).Nodup
  own : ∀ y ∈ ow, wr.ownsRow W.heap.size y.e y.size y.v y.n y.xs
  ne : ∀ y ∈ ow, ∀ x ∈ bl, y.v.ownBlock ≠ some x.1
  ap : ow.Pairwise fun a b => a.v.ownBlock = none ∨ a.v.ownBlock ≠ b.v.ownBlock

section
variable {W wr w' : World} {bl : List (Nat × TypeId × Array Value)} {ow : List Ro}
theorem Mst.start (W : World) : Mst W W [] [] := ⟨Below.refl _ _, by simp, by simp, by simp, by simp, by simp⟩
theorem Mst.below (h : Mst W wr bl ow) (hb : Below wr.heap.size wr w') : Mst W w' bl ow :=
  ⟨h.bel.trans (hb.mono h.bel.size), fun x hx => ⟨(h.bk x hx).1.below hb (h.bk x hx).1.lt, (h.bk x hx).2⟩, h.nd,
    fun y hy => (h.own y hy).kept (row := none) ⟨hb.os, hb.tape, hb.output, hb.size, fun i hi _ => hb.block i hi⟩ (by
      rcases hv : y.v.ownBlock with _ | g
      · exact .inl rfl
      · exact .inr (by simp)), h.ne, h.ap⟩
theorem Mst.drewN (h : Mst W wr bl ow) (n : Nat) : Mst W (wr.drewN n) bl ow := h.below (Bdn (Below.refl _ _) n)
theorem Mst.drew (h : Mst W wr bl ow) : Mst W wr.drew bl ow := h.below (Below.refl _ _).drew
theorem Mst.alloc (h : Mst W wr bl ow) (o : Obj) : Mst W (wr.alloc o) bl ow := h.below ((Below.refl _ _).alloc (Nat.le_refl _) _)
theorem Mst.new (h : Mst W wr bl ow) (t : TypeId) (cs : Array Value) : Mst W (wr.alloc (.cells cs t)) ((wr.heap.size, t, cs) :: bl) ow := by
  have ha := h.alloc (.cells cs t)
  refine ⟨ha.bel, ?_, ?_, ha.own, ?_, ha.ap⟩
  · intro x hx
    rcases List.mem_cons.1 hx with rfl | hx
    · exact ⟨Bk.mk_ wr t cs, h.bel.size⟩
    · exact ha.bk x hx
  · rw [List.map_cons, List.nodup_cons]
    refine ⟨?_, h.nd⟩
    intro hm
    obtain ⟨x, hx, e⟩ := List.mem_map.1 hm
    have := (h.bk x hx).1.lt
    simp only at e
    omega
  · intro y hy x hx
    rcases List.mem_cons.1 hx with rfl | hx
    · intro e
      have := ((h.own y hy).lt _ e).2
      simp only at this
      omega
    · exact h.ne y hy x hx
/-- A block that a call has made. -/
theorem Mst.addb (h : Mst W wr bl ow) (hb : Below wr.heap.size wr w') {g : Nat} {t : TypeId} {cs : Array Value} (hk : Bk w' g t cs) (hg : wr.heap.size ≤ g) : Mst W w' ((g, t, cs) :: bl) ow := by
  have ha := h.below hb
  refine ⟨ha.bel, ?_, ?_, ha.own, ?_, ha.ap⟩
  · intro x hx
    rcases List.mem_cons.1 hx with rfl | hx
    · exact ⟨hk, Nat.le_trans h.bel.size hg⟩
    · exact ha.bk x hx
  · rw [List.map_cons, List.nodup_cons]
    refine ⟨?_, h.nd⟩
    intro hm
    obtain ⟨x, hx, e⟩ := List.mem_map.1 hm
    have := (h.bk x hx).1.lt
    simp only at e
    omega
  · intro y hy x hx
    rcases List.mem_cons.1 hx with rfl | hx
    · intro e
      have := ((h.own y hy).lt _ e).2
      simp only at this
      omega
    · exact h.ne y hy x hx
theorem Mst.nilrow (h : Mst W wr bl ow) (e : TypeId) (size : Nat) : Mst W wr bl (⟨e, size, .slice none 0 0, 0, []⟩ :: ow) := by
  refine ⟨h.bel, h.bk, h.nd, ?_, ?_, ?_⟩
  · intro y hy
    rcases List.mem_cons.1 hy with rfl | hy
    · exact World.ownsRow_nil _ _ _ _
    · exact h.own y hy
  · intro y hy x hx
    rcases List.mem_cons.1 hy with rfl | hy
    · simp [Value.ownBlock]
    · exact h.ne y hy x hx
  · rw [List.pairwise_cons]
    exact ⟨fun _ _ => .inl rfl, h.ap⟩
/-- A row that was just made. -/
theorem Mst.newrow (h : Mst W wr bl ow) (e : TypeId) (size n cap : Nat) (cs : Array Value) (hn : n ≤ cap) (hm : cap ≤ maxLen) (hs : cs.size = cap * size) :
    Mst W (wr.alloc (.cells cs e)) bl (⟨e, size, .slice (some ⟨wr.heap.size, 0, none⟩) n cap, n, cs.toList.take (n * size)⟩ :: ow) := by
  have ha := h.alloc (.cells cs e)
  refine ⟨ha.bel, ha.bk, ha.nd, ?_, ?_, ?_⟩
  · intro y hy
    rcases List.mem_cons.1 hy with rfl | hy
    · refine ⟨?_, .inr ⟨wr.heap.size, cap, cs, rfl, h.bel.size, heap_alloc_new wr _, hn, hm, hs, rfl⟩⟩
      have : n * size ≤ cap * size := Nat.mul_le_mul_right _ hn
      simp only [List.length_take, Array.length_toList]
      omega
    · exact ha.own y hy
  · intro y hy x hx
    rcases List.mem_cons.1 hy with rfl | hy
    · intro e
      have := (h.bk x hx).1.lt
      have e' : wr.heap.size = x.1 := by injection e
      omega
    · exact h.ne y hy x hx
  · rw [List.pairwise_cons]
    refine ⟨fun b hb => .inr ?_, h.ap⟩
    intro e
    exact Nat.lt_irrefl _ ((h.own b hb).lt _ e.symm).2
/-- Rows and blocks may be forgotten. -/
theorem Mst.sub {bl' : List (Nat × TypeId × Array Value)} {ow' : List Ro} (h : Mst W wr bl ow) (h1 : List.Sublist bl' bl) (h2 : List.Sublist ow' ow) : Mst W wr bl' ow' :=
  ⟨h.bel, fun x hx => h.bk x (h1.subset hx), h.nd.sublist (h1.map _), fun y hy => h.own y (h2.subset hy), fun y hy x hx => h.ne y (h2.subset hy) x (h1.subset hx), h.ap.sublist h2⟩
theorem Mst.dropb {x : Nat × TypeId × Array Value} (h : Mst W wr (x :: bl) ow) : Mst W wr bl ow := h.sub (List.sublist_cons_self _ _) (List.Sublist.refl _)
theorem Mst.dropr {y : Ro} (h : Mst W wr bl (y :: ow)) : Mst W wr bl ow := h.sub (List.Sublist.refl _) (List.sublist_cons_self _ _)

/-- The block behind 'pre' has turned, and nothing else that was. -/
theorem Mst.on (pre : List (Nat × TypeId × Array Value)) {post : List (Nat × TypeId × Array Value)} {g : Nat} {t : TypeId} {cs cs' : Array Value} (h : Mst W wr (pre ++ (g, t, cs) :: post) ow) (ho : On wr w' g) (hk : Bk w' g t cs') :
    Mst W w' (pre ++ (g, t, cs') :: post) ow := by
  have hg : (g, t, cs) ∈ pre ++ (g, t, cs) :: post := by simp
  have hnd := h.nd
  rw [List.map_append, List.map_cons, List.nodup_append, List.nodup_cons] at hnd
  obtain ⟨n1, ⟨n2, n3⟩, n4⟩ := hnd
  have key : ∀ x ∈ pre ++ (g, t, cs') :: post, x = (g, t, cs') ∨ (x ∈ pre ++ (g, t, cs) :: post ∧ x.1 ≠ g) := by
    intro x hx
    rcases List.mem_append.1 hx with hx | hx
    · refine .inr ⟨List.mem_append_left _ hx, ?_⟩
      exact n4 _ (List.mem_map.2 ⟨x, hx, rfl⟩) g (by simp)
    · rcases List.mem_cons.1 hx with rfl | hx
      · exact .inl rfl
      · refine .inr ⟨List.mem_append_right _ (List.mem_cons_of_mem _ hx), ?_⟩
        intro e
        exact n2 (List.mem_map.2 ⟨x, hx, e⟩)
  refine ⟨h.bel.trans (ho.below (h.bk _ hg).2 h.bel.size), ?_, ?_, ?_, ?_, h.ap⟩
  · intro x hx
    rcases key x hx with rfl | ⟨hx, hne⟩
    · exact ⟨hk, (h.bk _ hg).2⟩
    · exact ⟨ho.bk (h.bk x hx).1 hne, (h.bk x hx).2⟩
  · have := h.nd
    simpa using this
  · intro y hy
    refine (h.own y hy).kept ho ?_
    exact .inr (h.ne y hy _ hg)
  · intro y hy x hx
    rcases key x hx with rfl | ⟨hx, _⟩
    · exact h.ne y hy (g, t, cs) hg
    · exact h.ne y hy x hx
theorem Mst.put (pre : List (Nat × TypeId × Array Value)) {post : List (Nat × TypeId × Array Value)} {g : Nat} {t : TypeId} {cs : Array Value} (h : Mst W wr (pre ++ (g, t, cs) :: post) ow) (i : Nat) (u : Value) :
    Mst W (wr.setCell ⟨g, i, none⟩ u) (pre ++ (g, t, cs.setIfInBounds i u) :: post) ow :=
  h.on pre ((On.refl wr g).set (p := ⟨g, i, none⟩) (.inl rfl) u) ((h.bk (g, t, cs) (by simp)).1.put i u)
/-- The row behind 'pre' has grown. -/
theorem Mst.app (pre : List Ro) {post : List Ro} {e : TypeId} {size n n' : Nat} {v v' : Value} {xs xs' : List Value} (h : Mst W wr bl (pre ++ ⟨e, size, v, n, xs⟩ :: post)) (hg : wr.grownBy w' v.ownBlock)
    (ho : w'.ownsRow W.heap.size e size v' n' xs') (hat : v'.ownBlock = v.ownBlock ∨ v'.ownBlock = some wr.heap.size) : Mst W w' bl (pre ++ ⟨e, size, v', n', xs'⟩ :: post) := by
  have hm : (⟨e, size, v, n, xs⟩ : Ro) ∈ pre ++ ⟨e, size, v, n, xs⟩ :: post := by simp
  have hvb : ∀ k, v.ownBlock = some k → W.heap.size ≤ k := fun k hk => ((h.own _ hm).lt k hk).1
  have hap := h.ap
  rw [List.pairwise_append, List.pairwise_cons] at hap
  obtain ⟨a1, ⟨a2, a3⟩, a4⟩ := hap
  have far : ∀ y, y ∈ pre ∨ y ∈ post → (y.v.ownBlock = none ∨ y.v.ownBlock ≠ v.ownBlock) ∧ y ∈ pre ++ ⟨e, size, v, n, xs⟩ :: post := by
    intro y hy
    rcases hy with hy | hy
    · exact ⟨a4 y hy ⟨e, size, v, n, xs⟩ (List.mem_cons_self ..), List.mem_append_left _ hy⟩
    · refine ⟨?_, List.mem_append_right _ (List.mem_cons_of_mem _ hy)⟩
      rcases a2 y hy with h1 | h1
      · rcases hyv : y.v.ownBlock with _ | k
        · exact .inl rfl
        · right
          rw [h1]; simp
      · exact .inr (Ne.symm h1)
  have key : ∀ y ∈ pre ++ (⟨e, size, v', n', xs'⟩ : Ro) :: post, y = ⟨e, size, v', n', xs'⟩ ∨ (y ∈ pre ∨ y ∈ post) := by
    intro y hy
    rcases List.mem_append.1 hy with hy | hy
    · exact .inr (.inl hy)
    · rcases List.mem_cons.1 hy with rfl | hy
      · exact .inl rfl
      · exact .inr (.inr hy)
  have new : ∀ y, y ∈ pre ∨ y ∈ post → y.v.ownBlock = none ∨ y.v.ownBlock ≠ v'.ownBlock := by
    intro y hy
    obtain ⟨f1, f2⟩ := far y hy
    rcases hat with e | e
    · rw [e]; exact f1
    · rcases hyv : y.v.ownBlock with _ | k
      · exact .inl rfl
      · right
        rw [e]
        have := ((h.own y f2).lt k hyv).2
        intro ee; injection ee; omega
  refine ⟨h.bel.grown hg h.bel.size hvb, ?_, h.nd, ?_, ?_, ?_⟩
  · intro x hx
    refine ⟨(h.bk x hx).1.grown hg ?_, (h.bk x hx).2⟩
    intro ee
    exact h.ne _ hm x hx ee.symm
  · intro y hy
    rcases key y hy with rfl | hy
    · exact ho
    · exact (h.own y (far y hy).2).kept hg (far y hy).1
  · intro y hy x hx
    rcases key y hy with rfl | hy
    · rcases hat with ee | ee
      · rw [ee]; exact h.ne _ hm x hx
      · rw [ee]
        have := (h.bk x hx).1.lt
        intro e2; injection e2; omega
    · exact h.ne y (far y hy).2 x hx
  · rw [List.pairwise_append, List.pairwise_cons]
    refine ⟨a1, ⟨fun b hb => ?_, a3⟩, fun a ha b hb => ?_⟩
    · rcases new b (.inr hb) with h1 | h1
      · rcases hv' : v'.ownBlock with _ | k
        · exact .inl rfl
        · right
          rw [h1]; simp
      · exact .inr (Ne.symm h1)
    · rcases List.mem_cons.1 hb with rfl | hb
      · exact new a (.inl ha)
      · exact a4 a ha b (List.mem_cons_of_mem _ hb)
theorem Mst.appL (pre : List Ro) {post : List Ro} {e : TypeId} {size n n2 n3 g cap : Nat} {v : Value} {xs xs2 xs3 : List Value} (h : Mst W wr bl (pre ++ ⟨e, size, v, n, xs⟩ :: post)) (hg : wr.grownBy w' v.ownBlock)
    (ho : w'.ownsRow W.heap.size e size (.slice (some ⟨g, 0, none⟩) n2 cap) n2 xs2) (hat : v.ownBlock = some g ∨ g = wr.heap.size) (hn : n2 = n3) (hx : xs2 = xs3) :
    Mst W w' bl (pre ++ ⟨e, size, .slice (some ⟨g, 0, none⟩) n2 cap, n3, xs3⟩ :: post) := by
  subst hn hx
  refine h.app pre hg ho ?_
  rcases hat with h1 | h1
  · exact .inl h1.symm
  · right
    rw [h1]
    rfl
/-- A cell of the row behind 'pre' is written. -/
theorem Mst.rset (pre : List Ro) {post : List Ro} {e : TypeId} {size n g cap : Nat} {xs : List Value} (h : Mst W wr bl (pre ++ ⟨e, size, .slice (some ⟨g, 0, none⟩) n cap, n, xs⟩ :: post)) (j : Nat) (u : Value) :
    Mst W (wr.setCell ⟨g, j, none⟩ u) bl (pre ++ ⟨e, size, .slice (some ⟨g, 0, none⟩) n cap, n, xs.set j u⟩ :: post) := by
  obtain ⟨h1, h2⟩ := (h.own ⟨e, size, .slice (some ⟨g, 0, none⟩) n cap, n, xs⟩ (by simp)).stored j u
  exact h.app pre h2 h1 (.inl rfl)
theorem Mst.calls {P : Program} {f : FuncId} {args : Array Value} {r : Ending} (h : Mst W wr bl ow) (hc : Calls P f args wr fun e w' => e = r ∧ Below wr.heap.size wr w') :
    Calls P f args wr fun e w' => e = r ∧ Mst W w' bl ow := hc.mono fun _ _ ⟨he, hb⟩ => ⟨he, h.below hb⟩
theorem Mst.callsOn (pre : List (Nat × TypeId × Array Value)) {post : List (Nat × TypeId × Array Value)} {g : Nat} {t : TypeId} {cs cs' : Array Value} {P : Program} {f : FuncId} {args : Array Value} {r : Ending}
    (h : Mst W wr (pre ++ (g, t, cs) :: post) ow) (hc : Calls P f args wr fun e w' => e = r ∧ On wr w' g ∧ Bk w' g t cs') :
    Calls P f args wr fun e w' => e = r ∧ Mst W w' (pre ++ (g, t, cs') :: post) ow := hc.mono fun _ _ ⟨he, ho, hk⟩ => ⟨he, h.on pre ho hk⟩
theorem Mst.blk (pre : List (Nat × TypeId × Array Value)) {post : List (Nat × TypeId × Array Value)} {g : Nat} {t : TypeId} {cs : Array Value} (h : Mst W wr (pre ++ (g, t, cs) :: post) ow) : Bk wr g t cs := (h.bk (g, t, cs) (by simp)).1
theorem Mst.row (pre : List Ro) {post : List Ro} {e : TypeId} {size n : Nat} {v : Value} {xs : List Value} (h : Mst W wr bl (pre ++ ⟨e, size, v, n, xs⟩ :: post)) : wr.ownsRow W.heap.size e size v n xs := h.own ⟨e, size, v, n, xs⟩ (by simp)
theorem Mst.old (h : Mst W wr bl ow) {b o : Nat} {v : Value} (hb : b < W.heap.size) (hc : W.cell? ⟨b, o, none⟩ = some v) : wr.cell? ⟨b, o, none⟩ = some v := (h.bel.cell (p := ⟨b, o, none⟩) hb).trans hc
theorem Mst.oldRd (h : Mst W wr bl ow) {size n : Nat} {A : Option Addr} {xs : List Value} (hr : Rd W W.heap.size size A n xs) : Rd wr wr.heap.size size A n xs := (hr.below h.bel).more h.bel.size
end

theorem meas {j g M : Nat} (h : j + g = M) (h2 : j < M) : M - (j + 1) < g := by omega
theorem meas2 {j M : Nat} (h2 : j < M) : j + 1 + (M - (j + 1)) = M := by omega

/-- An owned row as a slice whose cells are known. -/
theorem own_form {w : World} {base e size n : Nat} {v : Value} {xs : List Value} (h : w.ownsRow base e size v n xs) :
    ∃ A c, v = .slice A n c ∧ Rd w w.heap.size size A n xs ∧ n ≤ maxLen ∧ n ≤ c ∧ (0 < n → ∃ g, A = some ⟨g, 0, none⟩ ∧ base ≤ g ∧ g < w.heap.size) := by
  rcases h.2 with ⟨rfl, rfl⟩ | ⟨g, cap, cur, rfl, hb, hh, hn, hc, _⟩
  · have : xs = [] := List.eq_nil_of_length_eq_zero (by simpa using h.1)
    subst this
    exact ⟨none, 0, rfl, Rd.nil_ _ _ _ _, by simp, Nat.le_refl _, fun h => absurd h (by omega)⟩
  · refine ⟨_, cap, rfl, ⟨h.1, fun hn => ⟨g, 0, rfl, Bk.lt hh, fun j u hu => ?_⟩⟩, by omega, hn, fun _ => ⟨g, rfl, hb, Bk.lt hh⟩⟩
    have a := h.cells (g := g) rfl _ _ hu
    rw [WideShapes.add_plain] at a
    exact a
theorem own_rd {w : World} {base e size n n' c : Nat} {A : Option Addr} {xs : List Value} (h : w.ownsRow base e size (.slice A n' c) n xs) : Rd w w.heap.size size A n xs := by
  obtain ⟨A', c', e1, h1, _⟩ := own_form h
  injection e1 with e1 _ _
  subst e1
  exact h1
end Go.Proofs.YtnbemfceoianiaaDoor

/- A result in new memory: a slice that the call has made, as a row that the caller owns; bytes as cells. Over any program. -/
namespace Go.Proofs.YtnbemfceoianiaaDoor
set_option linter.unusedVariables false
open Go.RowKit

/-- Bytes as cells. -/
def by8 (l : List UInt8) : List Value := l.map fun b => .int .u8 (b.toNat : Int)
theorem by8_length (l : List UInt8) : (by8 l).length = l.length := by simp [by8]
theorem by8_append (a b : List UInt8) : by8 (a ++ b) = by8 a ++ by8 b := by simp [by8]
theorem by8_get {l : List UInt8} {k : Nat} {b : UInt8} (h : l[k]? = some b) : (by8 l)[k]? = some (.int .u8 (b.toNat : Int)) := by simp [by8, h]
theorem by8_one (l : List UInt8) : ∀ u ∈ by8 l, u.oneCell' = true := by
  intro u hu
  simp only [by8, List.mem_map] at hu
  obtain ⟨b, _, rfl⟩ := hu
  rfl
theorem by8_set (l : List UInt8) (k : Nat) (b : UInt8) : by8 (l.set k b) = (by8 l).set k (.int .u8 (b.toNat : Int)) := by simp [by8, List.map_set]

/-- w' is w with new memory, and v is a slice in it, of the cells xs. -/
structure Fresh (w w' : World) (e : TypeId) (size : Nat) (v : Value) (n : Nat) (xs : List Value) : Prop where
  bel : Below w.heap.size w w'
  own : w'.ownsRow w.heap.size e size v n xs

theorem ownsRow_base {w : World} {b b' e size n : Nat} {v : Value} {xs : List Value} (h : w.ownsRow b' e size v n xs) (hb : b ≤ b') : w.ownsRow b e size v n xs := by
  refine ⟨h.1, ?_⟩
  rcases h.2 with h1 | ⟨g, cap, cur, h1, h2, h3⟩
  · exact .inl h1
  · exact .inr ⟨g, cap, cur, h1, Nat.le_trans hb h2, h3⟩

section
variable {W wr w' : World} {bl : List (Nat × TypeId × Array Value)} {ow : List Ro}
/-- A row that a call has made. -/
theorem Mst.addr (h : Mst W wr bl ow) {e size n : Nat} {v : Value} {xs : List Value} (hf : Fresh wr w' e size v n xs) : Mst W w' bl (⟨e, size, v, n, xs⟩ :: ow) := by
  have ha := h.below hf.bel
  have hlt : ∀ k, v.ownBlock = some k → wr.heap.size ≤ k := fun k hk => (hf.own.lt k hk).1
  refine ⟨ha.bel, ha.bk, ha.nd, ?_, ?_, ?_⟩
  · intro y hy
    rcases List.mem_cons.1 hy with rfl | hy
    · exact ownsRow_base hf.own h.bel.size
    · exact ha.own y hy
  · intro y hy x hx
    rcases List.mem_cons.1 hy with rfl | hy
    · intro e1
      have a := hlt _ e1
      have b := (h.bk x hx).1.lt
      omega
    · exact ha.ne y hy x hx
  · rw [List.pairwise_cons]
    refine ⟨fun b hb => ?_, ha.ap⟩
    rcases hv : v.ownBlock with _ | k
    · exact .inl rfl
    · right
      intro e1
      have a := hlt _ hv
      have c := ((h.own b hb).lt _ e1.symm).2
      omega
end
end Go.Proofs.YtnbemfceoianiaaDoor

/- Arrays of numbers by value: one cell of it; the whole out of a block and into a block. Over any program. -/
namespace Go.Proofs.YtnbemfceoianiaaDoor
set_option linter.unusedVariables false

theorem run_index_arr {P : Program} {t e : TypeId} {n : Nat} {cs : Array Value} {k : IntKind} {i : Int} {v : Value} (h : P.underlying t = some (.array n e)) (ha : ∀ w, (isAgg e).run P w = .ok false w) (hs : ∀ w, (sizeOf e).run P w = .ok 1 w)
    (h0 : 0 ≤ i) (h1 : i < (n : Int)) (hv : cs[i.toNat]? = some v) (w : World) : (Instr.index t (.agg cs) (.int k i)).run P w = .ok v w := by
  have hn : 0 ≤ i ∧ i < (n : Int) := ⟨h0, h1⟩
  simp [Instr.index, run_underlying h, asIntOf, hn, go_sem, part, ha, hs, hv]

/-- isAgg and sizeOf of a type that is one cell. -/
theorem agg_no {P : Program} {t : TypeId} {d : TypeDesc} (h : P.underlying t = some d) (hd : d.isRow = false) (w : World) : (isAgg t).run P w = .ok false w := by
  unfold isAgg
  rw [Sem.run_bind, run_underlying h w]
  cases d <;> simp_all
theorem size_of {P : Program} {t : TypeId} {n : Nat} (h : (P.info? t).map (·.size) = some n) (w : World) : (sizeOf t).run P w = .ok n w := by
  cases hq : P.info? t with
  | none => simp [hq] at h
  | some i =>
    have hs : i.size = n := by simpa [hq] using h
    simp [sizeOf, typeInfo, hq, hs]

theorem Bk.setRow {w : World} {g : Nat} {t : TypeId} {cs : Array Value} (h : Bk w g t cs) (cs' : Array Value) : Bk (w.setRow g cs') g t cs' := setRow_heap w g _ _ t _ h
theorem On.setRow {a w : World} {g : Nat} (h : On a w g) {k : Nat} (hk : k = g ∨ a.heap.size ≤ k) (cs : Array Value) : On a (w.setRow k cs) g :=
  ⟨h.os, h.tape, h.output, by simpa using h.size, fun i hi hne => (setRow_other w k i cs (by
    rintro rfl
    rcases hk with rfl | hk
    · exact hne rfl
    · omega)).trans (h.block i hi hne)⟩
theorem Bk.range {w : World} {g : Nat} {t : TypeId} {cs : Array Value} (h : Bk w g t cs) {o : Nat} {xs : List Value} (hx : ∀ j v, xs[j]? = some v → cs[o + j]? = some v) : w.rangeAt g o xs := fun j v hv => by rw [h.cell]; exact hx j v hv
/-- A block of its own is written as a whole. -/
theorem Mst.setRow {W wr : World} {bl : List (Nat × TypeId × Array Value)} {ow : List Ro} (pre : List (Nat × TypeId × Array Value)) {post : List (Nat × TypeId × Array Value)} {g : Nat} {t : TypeId} {cs : Array Value} (h : Mst W wr (pre ++ (g, t, cs) :: post) ow) (cs' : Array Value) :
    Mst W (wr.setRow g cs') (pre ++ (g, t, cs') :: post) ow :=
  h.on pre ((On.refl wr g).setRow (.inl rfl) cs') ((h.bk (g, t, cs) (by simp)).1.setRow cs')
end Go.Proofs.YtnbemfceoianiaaDoor

/- append onto a row of the call's own, from whatever source is read: nil, empty or not; over any program. -/
namespace Go.Proofs.YtnbemfceoianiaaDoor
set_option linter.unusedVariables false
open Go.RowKit

section
variable {P : Program} (w : World)

theorem run_app_nil (base : Nat) (t ty e : TypeId) (i : TypeInfo) (size : Nat) (ht : P.underlying t = some (.slice e)) (hi : P.info? e = some i)
    (v : Value) (n : Nat) (xs : List Value) (hown : w.ownsRow base e size v n xs) (c : Nat) : (Builtin.append_ #[t, t] ty #[v, .slice none 0 c]).run P w = .ok v w := by
  rcases hown.2 with ⟨rfl, rfl⟩ | ⟨g, cap, cur, rfl, _, _, hnc, _⟩
  · simp [Builtin.append_, run_underlying ht, sizeOf, typeInfo, hi, Builtin.lenOf, Builtin.firstCells]
  · simp [Builtin.append_, run_underlying ht, sizeOf, typeInfo, hi, Builtin.lenOf, Builtin.firstCells, hnc, storeCells]

theorem run_app (base : Nat) (t ty e : TypeId) (i : TypeInfo) (z : Value) (size bytes : Nat) (ht : P.underlying t = some (.slice e)) (hi : P.info? e = some i) (hz : i.zero = some z)
    (hsize : i.size = size) (hby : i.bytes = bytes) (hzs : z.cells.size = size) (hsz : 0 < size)
    (v : Value) (n : Nat) (xs : List Value) (hown : w.ownsRow base e size v n xs)
    (B : Nat) (A : Option Addr) (m c : Nat) (news : List Value) (hr : Rd w B size A m news) (h1 : ∀ u ∈ news, u.oneCell' = true)
    (h63 : n + m ≤ maxLen) (hbytes : (n + m) * bytes ≤ 140737488355328) (hbase : base ≤ w.heap.size) :
    ∃ A' c' w', (Builtin.append_ #[t, t] ty #[v, .slice A m c]).run P w = .ok (.slice A' (n + m) c') w' ∧ w'.ownsRow base e size (.slice A' (n + m) c') (n + m) (xs ++ news) ∧ w.grownBy w' v.ownBlock ∧
      ((Value.slice A' (n + m) c').ownBlock = v.ownBlock ∨ (Value.slice A' (n + m) c').ownBlock = some w.heap.size) := by
  rcases A with _ | ad
  · have hm : m = 0 := by
      rcases Nat.eq_zero_or_pos m with h0 | h0
      · exact h0
      · obtain ⟨b, o, e1, _⟩ := hr.2 h0
        cases e1
    subst hm
    have hn : news = [] := List.eq_nil_of_length_eq_zero (by simpa using hr.1)
    subst hn
    obtain ⟨A', c', rfl, _⟩ := own_form hown
    exact ⟨A', c', w, run_app_nil w base t ty e i size ht hi _ n xs hown c, by simpa using hown, World.grownBy.refl w _, .inl rfl⟩
  · have hcells : ∀ j u, news[j]? = some u → w.cell? (ad.add j) = some u := by
      intro j u hu
      rcases Nat.eq_zero_or_pos m with h0 | h0
      · subst h0
        have hn : news = [] := List.eq_nil_of_length_eq_zero (by simpa using hr.1)
        subst hn
        simp at hu
      · obtain ⟨b, o, e1, _, hc⟩ := hr.2 h0
        injection e1 with e1
        subst e1
        rw [WideShapes.add_plain]
        exact hc j u hu
    obtain ⟨v', w', hrun, h2, h3, _, h5⟩ := run_append_own_at (P := P) w base t ty e i z size bytes ht hi hz hsize hby hzs hsz v n xs hown ad m c news hr.1 hcells h1 h63 hbytes hbase
    obtain ⟨A', c', rfl, _⟩ := own_form h2
    exact ⟨A', c', w', hrun, h2, h3, h5⟩

theorem wp_app {o : Oper} {a : Act} {K : Act → World → Prop} {Q : Exit → Act → World → Prop} (s x : Operand) (t : TypeId)
    (ho : o.op = .call { callee := .builtin .append, args := #[s, x], argTypes := #[t, t] })
    (base : Nat) (e : TypeId) (i : TypeInfo) (z : Value) (size bytes : Nat) (ht : P.underlying t = some (.slice e)) (hi : P.info? e = some i) (hz : i.zero = some z)
    (hsize : i.size = size) (hby : i.bytes = bytes) (hzs : z.cells.size = size) (hsz : 0 < size)
    (v : Value) (n : Nat) (xs : List Value) (hs : a.eval s = v) (hown : w.ownsRow base e size v n xs)
    (B : Nat) (A : Option Addr) (m c : Nat) (news : List Value) (hx : a.eval x = .slice A m c) (hr : Rd w B size A m news) (h1 : ∀ u ∈ news, u.oneCell' = true)
    (h63 : n + m ≤ maxLen) (hbytes : (n + m) * bytes ≤ 140737488355328) (hbase : base ≤ w.heap.size)
    (h : ∀ A' c' w', w'.ownsRow base e size (.slice A' (n + m) c') (n + m) (xs ++ news) → w.grownBy w' v.ownBlock → ((Value.slice A' (n + m) c').ownBlock = v.ownBlock ∨ (Value.slice A' (n + m) c').ownBlock = some w.heap.size) → K (a.put o.dst (.slice A' (n + m) c')) w') : o.wp P a w K Q := by
  obtain ⟨A', c', w', hrun, h2, h3, h4⟩ := run_app (P := P) w base t o.type e i z size bytes ht hi hz hsize hby hzs hsz v n xs hown B A m c news hr h1 h63 hbytes hbase
  unfold Oper.wp execOp
  simp only [ho, resolve, invoke, builtin, Sem.run_bind, Sem.run_pure, Result.andThen_ok, List.map_toArray, List.map_cons, List.map_nil, hs, hx, hrun]
  exact h A' c' w' h2 h3 h4

theorem wpList_app {ops : Array Oper} {rest : List Oper} {o : Oper} {a : Act} {Q : Exit → Act → World → Prop} (hgd : o.guard = none) (s x : Operand) (t : TypeId)
    (ho : o.op = .call { callee := .builtin .append, args := #[s, x], argTypes := #[t, t] })
    (base : Nat) (e : TypeId) (i : TypeInfo) (z : Value) (size bytes : Nat) (ht : P.underlying t = some (.slice e)) (hi : P.info? e = some i) (hz : i.zero = some z)
    (hsize : i.size = size) (hby : i.bytes = bytes) (hzs : z.cells.size = size) (hsz : 0 < size)
    (v : Value) (n : Nat) (xs : List Value) (hs : a.eval s = v) (hown : w.ownsRow base e size v n xs)
    (B : Nat) (A : Option Addr) (m c : Nat) (news : List Value) (hx : a.eval x = .slice A m c) (hr : Rd w B size A m news) (h1 : ∀ u ∈ news, u.oneCell' = true)
    (h63 : n + m ≤ maxLen) (hbytes : (n + m) * bytes ≤ 140737488355328) (hbase : base ≤ w.heap.size)
    (h : ∀ A' c' w', w'.ownsRow base e size (.slice A' (n + m) c') (n + m) (xs ++ news) → w.grownBy w' v.ownBlock → ((Value.slice A' (n + m) c').ownBlock = v.ownBlock ∨ (Value.slice A' (n + m) c').ownBlock = some w.heap.size) → wpList P ops Q rest (a.put o.dst (.slice A' (n + m) c')) w') : wpList P ops Q (o :: rest) a w :=
  wpList_plain hgd fun _ hK => wp_app w s x t ho base e i z size bytes ht hi hz hsize hby hzs hsz v n xs hs hown B A m c news hx hr h1 h63 hbytes hbase fun A' c' w' h2 h3 h4 => hK _ _ (h A' c' w' h2 h3 h4)

theorem step_app {ops : Array Oper} {o : Oper} {a : Act} {K : Act → World → Prop} {Q : Exit → Act → World → Prop} {E : Prop} (hgd : o.guard = none) (s x : Operand) (t : TypeId)
    (ho : o.op = .call { callee := .builtin .append, args := #[s, x], argTypes := #[t, t] })
    (base : Nat) (e : TypeId) (i : TypeInfo) (z : Value) (size bytes : Nat) (ht : P.underlying t = some (.slice e)) (hi : P.info? e = some i) (hz : i.zero = some z)
    (hsize : i.size = size) (hby : i.bytes = bytes) (hzs : z.cells.size = size) (hsz : 0 < size)
    (v : Value) (n : Nat) (xs : List Value) (hs : a.eval s = v) (hown : w.ownsRow base e size v n xs)
    (B : Nat) (A : Option Addr) (m c : Nat) (news : List Value) (hx : a.eval x = .slice A m c) (hr : Rd w B size A m news) (h1 : ∀ u ∈ news, u.oneCell' = true)
    (h63 : n + m ≤ maxLen) (hbytes : (n + m) * bytes ≤ 140737488355328) (hbase : base ≤ w.heap.size)
    (h : ∀ A' c' w', w'.ownsRow base e size (.slice A' (n + m) c') (n + m) (xs ++ news) → w.grownBy w' v.ownBlock → ((Value.slice A' (n + m) c').ownBlock = v.ownBlock ∨ (Value.slice A' (n + m) c').ownBlock = some w.heap.size) → K (a.put o.dst (.slice A' (n + m) c')) w') :
    if Region.wanted o (yielded ops a.tmps) = true then Oper.wp P o a w K Q else E := by
  have hw : Region.wanted o (yielded ops a.tmps) = true := by simp [Region.wanted, hgd]
  rw [if_pos hw]
  exact wp_app w s x t ho base e i z size bytes ht hi hz hsize hby hzs hsz v n xs hs hown B A m c news hx hr h1 h63 hbytes hbase h
end
end Go.Proofs.YtnbemfceoianiaaDoor

/- append onto a row of the call's own, as a step from one Mst to the next; elements one by one; over any program. -/
namespace Go.Proofs.YtnbemfceoianiaaDoor
set_option linter.unusedVariables false
open Go.RowKit

/-- A slice's type, its element's type, the cells and bytes of one. -/
structure El (P : Program) (t e : TypeId) (size bytes : Nat) : Prop where
  ht : P.underlying t = some (.slice e)
  hi : ∃ i z, P.info? e = some i ∧ i.zero = some z ∧ i.size = size ∧ i.bytes = bytes ∧ z.cells.size = size
  pos : 0 < size
theorem El.of {P : Program} {t e : TypeId} {size bytes : Nat} {z : Value} (ht : P.underlying t = some (.slice e)) (h : (P.info? e).map (fun i => (i.zero, i.size, i.bytes)) = some (some z, size, bytes)) (hz : z.cells.size = size) (hp : 0 < size) : El P t e size bytes := by
  cases hq : P.info? e with
  | none => simp [hq] at h
  | some i =>
    simp [hq] at h
    exact ⟨ht, ⟨i, z, hq, h.1, h.2.1, h.2.2, hz⟩, hp⟩

/-- What was just made, as a source. -/
theorem Rd.new1 (w : World) (cs : Array Value) (t : TypeId) {size n : Nat} (h : cs.size = n * size) : Rd (w.alloc (.cells cs t)) (w.alloc (.cells cs t)).heap.size size (some ⟨w.heap.size, 0, none⟩) n cs.toList :=
  ⟨by simpa using h, fun _ => ⟨w.heap.size, 0, rfl, by simp, fun j u hu => by rw [(Bk.mk_ w t cs).cell]; simpa using hu⟩⟩

section
variable {P : Program} {w W : World} {bl : List (Nat × TypeId × Array Value)}
theorem wpList_appM {ops : Array Oper} {rest : List Oper} {o : Oper} {a : Act} {Q : Exit → Act → World → Prop} (hgd : o.guard = none) (s x : Operand) (t : TypeId)
    (ho : o.op = .call { callee := .builtin .append, args := #[s, x], argTypes := #[t, t] })
    (pre : List Ro) {post : List Ro} {e : TypeId} {size n bytes : Nat} {v : Value} {xs : List Value} (hm : Mst W w bl (pre ++ ⟨e, size, v, n, xs⟩ :: post)) (hE : El P t e size bytes) (hs : a.eval s = v)
    (B : Nat) (A : Option Addr) (m c : Nat) (news : List Value) (hx : a.eval x = .slice A m c) (hr : Rd w B size A m news) (h1 : ∀ u ∈ news, u.oneCell' = true)
    (h63 : n + m ≤ maxLen) (hbytes : (n + m) * bytes ≤ 140737488355328)
    (h : ∀ A' c' w', Mst W w' bl (pre ++ ⟨e, size, .slice A' (n + m) c', n + m, xs ++ news⟩ :: post) → wpList P ops Q rest (a.put o.dst (.slice A' (n + m) c')) w') : wpList P ops Q (o :: rest) a w := by
  obtain ⟨ht, ⟨i, z, hi, hz, hsize, hby, hzs⟩, hp⟩ := hE
  exact wpList_app w hgd s x t ho W.heap.size e i z size bytes ht hi hz hsize hby hzs hp v n xs hs (hm.row pre) B A m c news hx hr h1 h63 hbytes hm.bel.size fun A' c' w' h2 h3 h4 => h A' c' w' (hm.app pre h3 h2 h4)
/-- .. where the append stands behind a guard that holds. -/
theorem wpList_appG {ops : Array Oper} {rest : List Oper} {o : Oper} {a : Act} {Q : Exit → Act → World → Prop} (hw : Region.wanted o (yielded ops a.tmps) = true) (s x : Operand) (t : TypeId)
    (ho : o.op = .call { callee := .builtin .append, args := #[s, x], argTypes := #[t, t] })
    (pre : List Ro) {post : List Ro} {e : TypeId} {size n bytes : Nat} {v : Value} {xs : List Value} (hm : Mst W w bl (pre ++ ⟨e, size, v, n, xs⟩ :: post)) (hE : El P t e size bytes) (hs : a.eval s = v)
    (B : Nat) (A : Option Addr) (m c : Nat) (news : List Value) (hx : a.eval x = .slice A m c) (hr : Rd w B size A m news) (h1 : ∀ u ∈ news, u.oneCell' = true)
    (h63 : n + m ≤ maxLen) (hbytes : (n + m) * bytes ≤ 140737488355328)
    (h : ∀ A' c' w', Mst W w' bl (pre ++ ⟨e, size, .slice A' (n + m) c', n + m, xs ++ news⟩ :: post) → wpList P ops Q rest (a.put o.dst (.slice A' (n + m) c')) w') : wpList P ops Q (o :: rest) a w := by
  obtain ⟨ht, ⟨i, z, hi, hz, hsize, hby, hzs⟩, hp⟩ := hE
  exact BigFrame.wpList_want hw fun _ hK => wp_app w s x t ho W.heap.size e i z size bytes ht hi hz hsize hby hzs hp v n xs hs (hm.row pre) B A m c news hx hr h1 h63 hbytes hm.bel.size fun A' c' w' h2 h3 h4 => hK _ _ (h A' c' w' (hm.app pre h3 h2 h4))
/-- .. in a region that draws its order. -/
theorem step_appM {ops : Array Oper} {o : Oper} {a : Act} {K : Act → World → Prop} {Q : Exit → Act → World → Prop} {E : Prop} (hgd : o.guard = none) (s x : Operand) (t : TypeId)
    (ho : o.op = .call { callee := .builtin .append, args := #[s, x], argTypes := #[t, t] })
    (pre : List Ro) {post : List Ro} {e : TypeId} {size n bytes : Nat} {v : Value} {xs : List Value} (hm : Mst W w bl (pre ++ ⟨e, size, v, n, xs⟩ :: post)) (hE : El P t e size bytes) (hs : a.eval s = v)
    (B : Nat) (A : Option Addr) (m c : Nat) (news : List Value) (hx : a.eval x = .slice A m c) (hr : Rd w B size A m news) (h1 : ∀ u ∈ news, u.oneCell' = true)
    (h63 : n + m ≤ maxLen) (hbytes : (n + m) * bytes ≤ 140737488355328)
    (h : ∀ A' c' w', Mst W w' bl (pre ++ ⟨e, size, .slice A' (n + m) c', n + m, xs ++ news⟩ :: post) → K (a.put o.dst (.slice A' (n + m) c')) w') :
    if Region.wanted o (yielded ops a.tmps) = true then Oper.wp P o a w K Q else E := by
  obtain ⟨ht, ⟨i, z, hi, hz, hsize, hby, hzs⟩, hp⟩ := hE
  exact step_app w hgd s x t ho W.heap.size e i z size bytes ht hi hz hsize hby hzs hp v n xs hs (hm.row pre) B A m c news hx hr h1 h63 hbytes hm.bel.size fun A' c' w' h2 h3 h4 => h A' c' w' (hm.app pre h3 h2 h4)
end

theorem one1 (v : Value) (h : v.oneCell' = true) : ∀ u ∈ [v], u.oneCell' = true := by simpa using h

/-- Only block g has turned: a cell elsewhere. -/
theorem On.cell {a w : World} {g : Nat} (h : On a w g) {b o : Nat} (hb : b < a.heap.size) (hne : b ≠ g) : w.cell? ⟨b, o, none⟩ = a.cell? ⟨b, o, none⟩ := by
  have := h.block b hb (fun e => hne (by injection e))
  simp only [World.cell?]
  rw [this]
end Go.Proofs.YtnbemfceoianiaaDoor

/- Sources: slices that are read, said by what the memory of a call is known to hold (older memory, a block of its own, a row of its own); frames in another order. Over any program. -/
namespace Go.Proofs.YtnbemfceoianiaaDoor
set_option linter.unusedVariables false
open Go.RowKit

abbrev Bl := List (Nat × TypeId × Array Value)

/-- n elements of 'size' cells each, from cell 'at' on, in older memory, in a block of the call's own, or in a row of its own. -/
def Src (W : World) (bl : Bl) (ow : List Ro) (size : Nat) (A : Option Addr) (n : Nat) (xs : List Value) : Prop :=
  xs.length = n * size ∧ (0 < n → ∃ b o, A = some ⟨b, o, none⟩ ∧
    ((b < W.heap.size ∧ ∀ j u, xs[j]? = some u → W.cell? ⟨b, o + j, none⟩ = some u) ∨ (∃ t cs, (b, t, cs) ∈ bl ∧ ∀ j u, xs[j]? = some u → cs[o + j]? = some u) ∨
      (∃ y ∈ ow, y.v.ownBlock = some b ∧ ∀ j u, xs[j]? = some u → y.xs[o + j]? = some u)))

section
variable {W w w' : World} {bl bl' : Bl} {ow ow' : List Ro} {size n : Nat} {A : Option Addr} {xs : List Value}
theorem Src.sub (h : Src W bl ow size A n xs) (h1 : ∀ x ∈ bl, x ∈ bl') (h2 : ∀ y ∈ ow, y ∈ ow') : Src W bl' ow' size A n xs := by
  refine ⟨h.1, fun hn => ?_⟩
  obtain ⟨b, o, e, hc⟩ := h.2 hn
  refine ⟨b, o, e, ?_⟩
  rcases hc with hc | ⟨t, cs, hm, hc⟩ | ⟨y, hy, hv, hc⟩
  · exact .inl hc
  · exact .inr (.inl ⟨t, cs, h1 _ hm, hc⟩)
  · exact .inr (.inr ⟨y, h2 _ hy, hv, hc⟩)
theorem Src.cb (h : Src W bl ow size A n xs) (x : Nat × TypeId × Array Value) : Src W (x :: bl) ow size A n xs := h.sub (fun _ hx => List.mem_cons_of_mem _ hx) (fun _ hy => hy)
theorem Src.cr (h : Src W bl ow size A n xs) (y : Ro) : Src W bl (y :: ow) size A n xs := h.sub (fun _ hx => hx) (fun _ hy => List.mem_cons_of_mem _ hy)
theorem Src.nil_ (W : World) (bl : Bl) (ow : List Ro) (size : Nat) (A : Option Addr) : Src W bl ow size A 0 [] := ⟨by simp, fun h => absurd h (by omega)⟩
theorem Src.old (h : Rd W W.heap.size size A n xs) : Src W bl ow size A n xs := by
  refine ⟨h.1, fun hn => ?_⟩
  obtain ⟨b, o, e, hb, hc⟩ := h.2 hn
  exact ⟨b, o, e, .inl ⟨hb, hc⟩⟩
theorem Src.blk {g : Nat} {t : TypeId} {cs : Array Value} (hm : (g, t, cs) ∈ bl) (hs : cs.size = n * size) : Src W bl ow size (some ⟨g, 0, none⟩) n cs.toList :=
  ⟨by simpa using hs, fun _ => ⟨g, 0, rfl, .inr (.inl ⟨t, cs, hm, fun j u hu => by simpa using hu⟩)⟩⟩
theorem Mst.src (h : Mst W w bl ow) (hs : Src W bl ow size A n xs) : Rd w w.heap.size size A n xs := by
  refine ⟨hs.1, fun hn => ?_⟩
  obtain ⟨b, o, e, hc⟩ := hs.2 hn
  rcases hc with ⟨hb, hc⟩ | ⟨t, cs, hm, hc⟩ | ⟨y, hy, hv, hc⟩
  · exact ⟨b, o, e, Nat.lt_of_lt_of_le hb h.bel.size, fun j u hu => h.old hb (hc j u hu)⟩
  · have hk := (h.bk _ hm).1
    exact ⟨b, o, e, hk.lt, fun j u hu => (hk.cell _).trans (hc j u hu)⟩
  · have ho := h.own y hy
    have hlt := (ho.lt b hv).2
    refine ⟨b, o, e, hlt, fun j u hu => ?_⟩
    have := ho.cells hv _ _ (hc j u hu)
    rw [WideShapes.add_plain] at this
    simpa using this
/-- A row of the call's own as a source. -/
theorem Mst.rowSrc (h : Mst W w bl ow) {e : TypeId} {c : Nat} (hm : (⟨e, size, .slice A n c, n, xs⟩ : Ro) ∈ ow) : Src W bl ow size A n xs := by
  have ho := h.own _ hm
  refine ⟨ho.1, fun hn => ?_⟩
  rcases ho.2 with ⟨h1, h2⟩ | ⟨g, cap, cur, h1, _⟩
  · simp only at h2
    omega
  · simp only [Value.slice.injEq] at h1
    obtain ⟨rfl, _⟩ := h1
    exact ⟨g, 0, rfl, .inr (.inr ⟨_, hm, rfl, fun j u hu => by simpa using hu⟩)⟩
theorem Src.part (h : Src W bl ow size A n xs) {b o : Nat} (hA : A = some ⟨b, o, none⟩) (k m : Nat) (hk : k + m ≤ n) : Src W bl ow size (some ⟨b, o + k * size, none⟩) m ((xs.drop (k * size)).take (m * size)) := by
  have hlen := h.1
  have h2 : k * size + m * size ≤ n * size := by rw [← Nat.add_mul]; exact Nat.mul_le_mul_right _ hk
  refine ⟨by simp only [List.length_take, List.length_drop]; omega, fun hm => ?_⟩
  obtain ⟨b', o', e, hc⟩ := h.2 (by omega)
  rw [hA] at e
  injection e with e
  injection e with e1 e2 _
  subst e1 e2
  have key : ∀ j u, ((xs.drop (k * size)).take (m * size))[j]? = some u → xs[k * size + j]? = some u := by
    intro j u hu
    rw [List.getElem?_take] at hu
    split at hu
    · rw [List.getElem?_drop] at hu; exact hu
    · cases hu
  refine ⟨b, o + k * size, rfl, ?_⟩
  rcases hc with ⟨hb, hc⟩ | ⟨t, cs, hm', hc⟩ | ⟨y, hy, hv, hc⟩
  · exact .inl ⟨hb, fun j u hu => by rw [Nat.add_assoc]; exact hc _ _ (key j u hu)⟩
  · exact .inr (.inl ⟨t, cs, hm', fun j u hu => by rw [Nat.add_assoc]; exact hc _ _ (key j u hu)⟩)
  · exact .inr (.inr ⟨y, hy, hv, fun j u hu => by rw [Nat.add_assoc]; exact hc _ _ (key j u hu)⟩)

theorem Mst.perm (h : Mst W w bl ow) (h1 : bl.Perm bl') (h2 : ow.Perm ow') : Mst W w bl' ow' := by
  refine ⟨h.bel, fun x hx => h.bk x (h1.mem_iff.2 hx), (h1.map _).nodup_iff.1 h.nd, fun y hy => h.own y (h2.mem_iff.2 hy), fun y hy x hx => h.ne y (h2.mem_iff.2 hy) x (h1.mem_iff.2 hx), ?_⟩
  refine (h2.pairwise_iff ?_).1 h.ap
  intro a b hab
  rcases hab with hab | hab
  · rcases hb : b.v.ownBlock with _ | g
    · exact .inl rfl
    · right; rw [hab]; simp
  · exact .inr (Ne.symm hab)
theorem Mst.frontb (pre : Bl) {post : Bl} {x : Nat × TypeId × Array Value} (h : Mst W w (pre ++ x :: post) ow) : Mst W w (x :: (pre ++ post)) ow := h.perm List.perm_middle (List.Perm.refl _)
theorem Mst.backb (pre : Bl) {post : Bl} {x : Nat × TypeId × Array Value} (h : Mst W w (x :: (pre ++ post)) ow) : Mst W w (pre ++ x :: post) ow := h.perm List.perm_middle.symm (List.Perm.refl _)
theorem Mst.frontr (pre : List Ro) {post : List Ro} {y : Ro} (h : Mst W w bl (pre ++ y :: post)) : Mst W w bl (y :: (pre ++ post)) := h.perm (List.Perm.refl _) List.perm_middle
theorem Mst.backr (pre : List Ro) {post : List Ro} {y : Ro} (h : Mst W w bl (y :: (pre ++ post))) : Mst W w bl (pre ++ y :: post) := h.perm (List.Perm.refl _) List.perm_middle.symm
theorem Mst.fr {bl'' : Bl} {ow'' : List Ro} (h : Mst W w bl ow) (h1 : List.Sublist bl'' bl) (h2 : List.Sublist ow'' ow) : Mst W w bl'' ow'' := h.sub h1 h2
end
end Go.Proofs.YtnbemfceoianiaaDoor

/- Arrays of numbers by value, compared. Over any program. -/
namespace Go.Proofs.YtnbemfceoianiaaDoor
set_option linter.unusedVariables false

theorem all_range_eqI : ∀ (xs ys : List Int), xs.length = ys.length → ((List.range xs.length).all fun i => xs.getD i 0 == ys.getD i 0) = (xs == ys)
  | [], [], _ => rfl
  | x :: xs, y :: ys, h => by
    have ih := all_range_eqI xs ys (by simpa using h)
    rw [List.length_cons, List.range_succ_eq_map, List.all_cons, List.all_map]
    simp only [List.getD_cons_zero, Function.comp_def, List.getD_cons_succ, ih]
    simp [List.cons_beq_cons]
  | [], _ :: _, h => by simp at h
  | _ :: _, [], h => by simp at h

section
variable {P : Program} (w : World)
theorem run_equalIn_ints (d : Nat) (k : IntKind) (t e : TypeId) (n : Nat) (ht : P.underlying t = some (.array n e)) (he : P.underlying e = some (.int k)) (hsz : ∀ w, (sizeOf e).run P w = .ok 1 w)
    (xs ys : List Int) (hx : xs.length = n) (hy : ys.length = n) :
    (Op.equalIn (d + 2) t (.agg (xs.map (Value.int k)).toArray) (.agg (ys.map (Value.int k)).toArray)).run P w = .ok (xs == ys) w := by
  rw [← all_range_eqI xs ys (hx.trans hy.symm), hx, List.range_eq_range', Op.equalIn]
  simp only [Sem.run_bind, run_underlying ht, Result.andThen_ok, hsz, Std.Legacy.Range.forIn_eq_forIn_range', Std.Legacy.Range.size, Nat.sub_zero, Nat.add_sub_cancel, Nat.div_one]
  have hl : ∀ i ∈ List.range' 0 n 1, i < n := fun i hi => by simpa using (List.mem_range'_1.1 hi).2
  generalize List.range' 0 n 1 = l at hl ⊢
  induction l with
  | nil => simp
  | cons i l ih =>
    have hi : i < n := hl i (by simp)
    have px : (part e (xs.map (Value.int k)).toArray (i * 1)).run P w = .ok (.int k (xs.getD i 0)) w := by
      simp [part, isAgg, run_underlying he, List.getD, List.getElem?_eq_getElem (show i < xs.length by omega)]
    have py : (part e (ys.map (Value.int k)).toArray (i * 1)).run P w = .ok (.int k (ys.getD i 0)) w := by
      simp [part, isAgg, run_underlying he, List.getD, List.getElem?_eq_getElem (show i < ys.length by omega)]
    have pe : (Op.equalIn (d + 1) e (.int k (xs.getD i 0)) (.int k (ys.getD i 0))).run P w = .ok (xs.getD i 0 == ys.getD i 0) w :=
      run_equalIn_int w d e k k _ _ he
    simp only [List.forIn_cons, Sem.run_bind, px, py, pe, Result.andThen_ok, List.all_cons]
    cases hb : (xs.getD i 0 == ys.getD i 0)
    · simp
    · simp only [Bool.not_true, Bool.false_eq_true, if_false, Sem.run_pure, Result.andThen_ok, Bool.true_and]
      exact ih fun j hj => hl j (by simp [hj])

theorem run_eql_ints (k : IntKind) (t e : TypeId) (n : Nat) (ht : P.underlying t = some (.array n e)) (he : P.underlying e = some (.int k)) (hsz : ∀ w, (sizeOf e).run P w = .ok 1 w)
    (xs ys : List Int) (hx : xs.length = n) (hy : ys.length = n) :
    (binOp .eql t (.agg (xs.map (Value.int k)).toArray) (.agg (ys.map (Value.int k)).toArray)).run P w = .ok (.bool (xs == ys)) w := by
  rw [run_eql_struct, run_equalIn_ints w 9998 k t e n ht he hsz xs ys hx hy]
  rfl
end

/-- In a region that draws its order and only reads: a whole array out of the middle of a block. -/
theorem wpQuiet_load_mid {P : Program} {ops : Array Oper} {C : World → Prop} {Q : Act → Prop} {a : Act} {o : Oper} {rest : List Oper} (hw : Region.wanted o (yielded ops a.tmps) = true) (ty : TypeId) (x : Operand) (ho : o.op = .load ty x)
    (b off : Nat) (hx : a.eval x = .pointer (some ⟨b, off, none⟩)) (cs : List Value) (d : TypeDesc) (hc : ∀ w, C w → w.rangeAt b off cs) (hu : P.underlying ty = some d) (hd : d.isRow = true) (hi : (P.info? ty).map (·.size) = some cs.length)
    (h : wpQuiet P ops C Q rest (a.put o.dst (.agg cs.toArray))) : wpQuiet P ops C Q (o :: rest) a :=
  wpQuiet_step fun K hK => by
    rw [if_pos hw]
    exact ⟨_, fun w hw' => by
      unfold Oper.quietAt execOp
      simp only [ho, hx, Instr.loadAt, Instr.sureAddr, Sem.run_bind, Sem.run_pure, Result.andThen_ok, run_loadVar_mid w b off ty cs d (hc w hw') hu hd hi]
      exact ⟨rfl, rfl⟩, hK _ h⟩
end Go.Proofs.YtnbemfceoianiaaDoor

/- What a call has made, beside what the caller has: two Msts become one. Over any program. -/
namespace Go.Proofs.YtnbemfceoianiaaDoor
set_option linter.unusedVariables false
open Go.RowKit

section
variable {W wr w' : World} {bl bl' : List (Nat × TypeId × Array Value)} {ow ow' : List Ro}
theorem Mst.join (h : Mst W wr bl ow) (k : Mst wr w' bl' ow') : Mst W w' (bl' ++ bl) (ow' ++ ow) := by
  have ha := h.below k.bel
  have hlt : ∀ y ∈ ow', ∀ g, y.v.ownBlock = some g → wr.heap.size ≤ g := fun y hy g hg => ((k.own y hy).lt g hg).1
  refine ⟨ha.bel, ?_, ?_, ?_, ?_, ?_⟩
  · intro x hx
    rcases List.mem_append.1 hx with hx | hx
    · exact ⟨(k.bk x hx).1, Nat.le_trans h.bel.size (k.bk x hx).2⟩
    · exact ha.bk x hx
  · rw [List.map_append, List.nodup_append]
    refine ⟨k.nd, h.nd, fun a ha' b hb => ?_⟩
    obtain ⟨x, hx, rfl⟩ := List.mem_map.1 ha'
    obtain ⟨y, hy, rfl⟩ := List.mem_map.1 hb
    have := (k.bk x hx).2
    have := (h.bk y hy).1.lt
    omega
  · intro y hy
    rcases List.mem_append.1 hy with hy | hy
    · exact ownsRow_base (k.own y hy) h.bel.size
    · exact ha.own y hy
  · intro y hy x hx
    rcases List.mem_append.1 hy with hy | hy <;> rcases List.mem_append.1 hx with hx | hx
    · exact k.ne y hy x hx
    · intro e
      have := hlt y hy _ e
      have := (h.bk x hx).1.lt
      omega
    · intro e
      have := ((h.own y hy).lt _ e).2
      have := (k.bk x hx).2
      omega
    · exact ha.ne y hy x hx
  · rw [List.pairwise_append]
    refine ⟨k.ap, ha.ap, fun a ha' b hb => ?_⟩
    rcases hv : a.v.ownBlock with _ | g
    · exact .inl rfl
    · right
      intro e
      have := hlt a ha' g hv
      have := ((h.own b hb).lt _ e.symm).2
      omega
/-- A row's block is none of the blocks. -/
theorem Mst.row_ne (h : Mst W wr bl ow) {e size n : _} {v : Value} {xs : List Value} (hy : (⟨e, size, v, n, xs⟩ : Ro) ∈ ow) {g : Nat} {t : TypeId} {cs : Array Value} (hx : (g, t, cs) ∈ bl) {A : Option Addr} {m c : Nat} (hv : v = .slice A m c) :
    ∀ b o, A = some ⟨b, o, none⟩ → b ≠ g := by
  rintro b o rfl rfl
  exact h.ne _ hy _ hx (by rw [hv]; rfl)
end
end Go.Proofs.YtnbemfceoianiaaDoor
