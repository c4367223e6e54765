/- The memory of a call: blocks of its own that are known whole, rows that it appends to, and that all older memory is as it was. Over any program. -/
import Derived.Test.YthnaobolmgcclaaBase
namespace Go.Proofs.Ythnaobolmgcclaa
set_option linter.unusedVariables false
open Go.RowKit

/-- A row of the call's own: element type, cells per element, the slice's value, how many, the cells. -/
structure Ro where
  e : TypeId
  size : Nat
  v : Value
  n : Nat
  xs : List Value

structure Mst (W wr : World) (bl : List (Nat × TypeId × Array Value)) (ow : List Ro) : Prop where
  bel : Below W.heap.size W wr
  bk : ∀ x ∈ bl, Bk wr x.1 x.2.1 x.2.2 ∧ W.heap.size ≤ x.1
  nd : (bl.map (·.1)).Nodup
  own : ∀ y ∈ ow, wr.ownsRow W.heap.size y.e y.size y.v y.n y.xs
  ne : ∀ y ∈ ow, ∀ x ∈ bl, y.v.ownBlock ≠ some x.1
  ap : ow.Pairwise fun a b => a.v.ownBlock = none ∨ a.v.ownBlock ≠ b.v.ownBlock

section
variable {W wr w' : World} {bl : List (Nat × TypeId × Array Value)} {ow : List Ro}
theorem Mst.start (W : World) : Mst W W [] [] := ⟨Below.refl _ _, by simp, by simp, by simp, by simp, by simp⟩
theorem Mst.below (h : Mst W wr bl ow) (hb : Below wr.heap.size wr w') : Mst W w' bl ow :=
  ⟨h.bel.trans (hb.mono h.bel.size), fun x hx => ⟨(h.bk x hx).1.below hb (h.bk x hx).1.lt, (h.bk x hx).2⟩, h.nd,
    fun y hy => (h.own y hy).kept (row := none) ⟨hb.os, hb.tape, hb.output, hb.size, fun i hi _ => hb.block i hi⟩ (by
      rcases hv : y.v.ownBlock with _ | g
      · exact .inl rfl
      · exact .inr (by simp)), h.ne, h.ap⟩
theorem Mst.drewN (h : Mst W wr bl ow) (n : Nat) : Mst W (wr.drewN n) bl ow := h.below (Bdn (Below.refl _ _) n)
theorem Mst.drew (h : Mst W wr bl ow) : Mst W wr.drew bl ow := h.below (Below.refl _ _).drew
theorem Mst.alloc (h : Mst W wr bl ow) (o : Obj) : Mst W (wr.alloc o) bl ow := h.below ((Below.refl _ _).alloc (Nat.le_refl _) _)
theorem Mst.new (h : Mst W wr bl ow) (t : TypeId) (cs : Array Value) : Mst W (wr.alloc (.cells cs t)) ((wr.heap.size, t, cs) :: bl) ow := by
  have ha := h.alloc (.cells cs t)
  refine ⟨ha.bel, ?_, ?_, ha.own, ?_, ha.ap⟩
  · intro x hx
    rcases List.mem_cons.1 hx with rfl | hx
    · exact ⟨Bk.mk_ wr t cs, h.bel.size⟩
    · exact ha.bk x hx
  · rw [List.map_cons, List.nodup_cons]
    refine ⟨?_, h.nd⟩
    intro hm
    obtain ⟨x, hx, e⟩ := List.mem_map.1 hm
    have := (h.bk x hx).1.lt
    simp only at e
    omega
  · intro y hy x hx
    rcases List.mem_cons.1 hx with rfl | hx
    · intro e
      have := ((h.own y hy).lt _ e).2
      simp only at this
      omega
    · exact h.ne y hy x hx
/-- A block that a call has made. -/
theorem Mst.addb (h : Mst W wr bl ow) (hb : Below wr.heap.size wr w') {g : Nat} {t : TypeId} {cs : Array Value} (hk : Bk w' g t cs) (hg : wr.heap.size ≤ g) : Mst W w' ((g, t, cs) :: bl) ow := by
  have ha := h.below hb
  refine ⟨ha.bel, ?_, ?_, ha.own, ?_, ha.ap⟩
  · intro x hx
    rcases List.mem_cons.1 hx with rfl | hx
    · exact ⟨hk, Nat.le_trans h.bel.size hg⟩
    · exact ha.bk x hx
  · rw [List.map_cons, List.nodup_cons]
    refine ⟨?_, h.nd⟩
    intro hm
    obtain ⟨x, hx, e⟩ := List.mem_map.1 hm
    have := (h.bk x hx).1.lt
    simp only at e
    omega
  · intro y hy x hx
    rcases List.mem_cons.1 hx with rfl | hx
    · intro e
      have := ((h.own y hy).lt _ e).2
      simp only at this
      omega
    · exact h.ne y hy x hx
theorem Mst.nilrow (h : Mst W wr bl ow) (e : TypeId) (size : Nat) : Mst W wr bl (⟨e, size, .slice none 0 0, 0, []⟩ :: ow) := by
  refine ⟨h.bel, h.bk, h.nd, ?_, ?_, ?_⟩
  · intro y hy
    rcases List.mem_cons.1 hy with rfl | hy
    · exact World.ownsRow_nil _ _ _ _
    · exact h.own y hy
  · intro y hy x hx
    rcases List.mem_cons.1 hy with rfl | hy
    · simp [Value.ownBlock]
    · exact h.ne y hy x hx
  · rw [List.pairwise_cons]
    exact ⟨fun _ _ => .inl rfl, h.ap⟩
/-- A row that was just made. -/
theorem Mst.newrow (h : Mst W wr bl ow) (e : TypeId) (size n cap : Nat) (cs : Array Value) (hn : n ≤ cap) (hm : cap ≤ maxLen) (hs : cs.size = cap * size) :
    Mst W (wr.alloc (.cells cs e)) bl (⟨e, size, .slice (some ⟨wr.heap.size, 0, none⟩) n cap, n, cs.toList.take (n * size)⟩ :: ow) := by
  have ha := h.alloc (.cells cs e)
  refine ⟨ha.bel, ha.bk, ha.nd, ?_, ?_, ?_⟩
  · intro y hy
    rcases List.mem_cons.1 hy with rfl | hy
    · refine ⟨?_, .inr ⟨wr.heap.size, cap, cs, rfl, h.bel.size, heap_alloc_new wr _, hn, hm, hs, rfl⟩⟩
      have : n * size ≤ cap * size := Nat.mul_le_mul_right _ hn
      simp only [List.length_take, Array.length_toList]
      omega
    · exact ha.own y hy
  · intro y hy x hx
    rcases List.mem_cons.1 hy with rfl | hy
    · intro e
      have := (h.bk x hx).1.lt
      have e' : wr.heap.size = x.1 := by injection e
      omega
    · exact h.ne y hy x hx
  · rw [List.pairwise_cons]
    refine ⟨fun b hb => .inr ?_, h.ap⟩
    intro e
    exact Nat.lt_irrefl _ ((h.own b hb).lt _ e.symm).2
/-- Rows and blocks may be forgotten. -/
theorem Mst.sub {bl' : List (Nat × TypeId × Array Value)} {ow' : List Ro} (h : Mst W wr bl ow) (h1 : List.Sublist bl' bl) (h2 : List.Sublist ow' ow) : Mst W wr bl' ow' :=
  ⟨h.bel, fun x hx => h.bk x (h1.subset hx), h.nd.sublist (h1.map _), fun y hy => h.own y (h2.subset hy), fun y hy x hx => h.ne y (h2.subset hy) x (h1.subset hx), h.ap.sublist h2⟩
theorem Mst.dropb {x : Nat × TypeId × Array Value} (h : Mst W wr (x :: bl) ow) : Mst W wr bl ow := h.sub (List.sublist_cons_self _ _) (List.Sublist.refl _)
theorem Mst.dropr {y : Ro} (h : Mst W wr bl (y :: ow)) : Mst W wr bl ow := h.sub (List.Sublist.refl _) (List.sublist_cons_self _ _)

/-- The block behind 'pre' has turned, and nothing else that was. -/
theorem Mst.on (pre : List (Nat × TypeId × Array Value)) {post : List (Nat × TypeId × Array Value)} {g : Nat} {t : TypeId} {cs cs' : Array Value} (h : Mst W wr (pre ++ (g, t, cs) :: post) ow) (ho : On wr w' g) (hk : Bk w' g t cs') :
    Mst W w' (pre ++ (g, t, cs') :: post) ow := by
  have hg : (g, t, cs) ∈ pre ++ (g, t, cs) :: post := by simp
  have hnd := h.nd
  rw [List.map_append, List.map_cons, List.nodup_append, List.nodup_cons] at hnd
  obtain ⟨n1, ⟨n2, n3⟩, n4⟩ := hnd
  have key : ∀ x ∈ pre ++ (g, t, cs') :: post, x = (g, t, cs') ∨ (x ∈ pre ++ (g, t, cs) :: post ∧ x.1 ≠ g) := by
    intro x hx
    rcases List.mem_append.1 hx with hx | hx
    · refine .inr ⟨List.mem_append_left _ hx, ?_⟩
      exact n4 _ (List.mem_map.2 ⟨x, hx, rfl⟩) g (by simp)
    · rcases List.mem_cons.1 hx with rfl | hx
      · exact .inl rfl
      · refine .inr ⟨List.mem_append_right _ (List.mem_cons_of_mem _ hx), ?_⟩
        intro e
        exact n2 (List.mem_map.2 ⟨x, hx, e⟩)
  refine ⟨h.bel.trans (ho.below (h.bk _ hg).2 h.bel.size), ?_, ?_, ?_, ?_, h.ap⟩
  · intro x hx
    rcases key x hx with rfl | ⟨hx, hne⟩
    · exact ⟨hk, (h.bk _ hg).2⟩
    · exact ⟨ho.bk (h.bk x hx).1 hne, (h.bk x hx).2⟩
  · have := h.nd
    simpa using this
  · intro y hy
    refine (h.own y hy).kept ho ?_
    exact .inr (h.ne y hy _ hg)
  · intro y hy x hx
    rcases key x hx with rfl | ⟨hx, _⟩
    · exact h.ne y hy (g, t, cs) hg
    · exact h.ne y hy x hx
theorem Mst.put (pre : List (Nat × TypeId × Array Value)) {post : List (Nat × TypeId × Array Value)} {g : Nat} {t : TypeId} {cs : Array Value} (h : Mst W wr (pre ++ (g, t, cs) :: post) ow) (i : Nat) (u : Value) :
    Mst W (wr.setCell ⟨g, i, none⟩ u) (pre ++ (g, t, cs.setIfInBounds i u) :: post) ow :=
  h.on pre ((On.refl wr g).set (p := ⟨g, i, none⟩) (.inl rfl) u) ((h.bk (g, t, cs) (by simp)).1.put i u)
/-- The row behind 'pre' has grown. -/
theorem Mst.app (pre : List Ro) {post : List Ro} {e : TypeId} {size n n' : Nat} {v v' : Value} {xs xs' : List Value} (h : Mst W wr bl (pre ++ ⟨e, size, v, n, xs⟩ :: post)) (hg : wr.grownBy w' v.ownBlock)
    (ho : w'.ownsRow W.heap.size e size v' n' xs') (hat : v'.ownBlock = v.ownBlock ∨ v'.ownBlock = some wr.heap.size) : Mst W w' bl (pre ++ ⟨e, size, v', n', xs'⟩ :: post) := by
  have hm : (⟨e, size, v, n, xs⟩ : Ro) ∈ pre ++ ⟨e, size, v, n, xs⟩ :: post := by simp
  have hvb : ∀ k, v.ownBlock = some k → W.heap.size ≤ k := fun k hk => ((h.own _ hm).lt k hk).1
  have hap := h.ap
  rw [List.pairwise_append, List.pairwise_cons] at hap
  obtain ⟨a1, ⟨a2, a3⟩, a4⟩ := hap
  have far : ∀ y, y ∈ pre ∨ y ∈ post → (y.v.ownBlock = none ∨ y.v.ownBlock ≠ v.ownBlock) ∧ y ∈ pre ++ ⟨e, size, v, n, xs⟩ :: post := by
    intro y hy
    rcases hy with hy | hy
    · exact ⟨a4 y hy ⟨e, size, v, n, xs⟩ (List.mem_cons_self ..), List.mem_append_left _ hy⟩
    · refine ⟨?_, List.mem_append_right _ (List.mem_cons_of_mem _ hy)⟩
      rcases a2 y hy with h1 | h1
      · rcases hyv : y.v.ownBlock with _ | k
        · exact .inl rfl
        · right
          rw [h1]; simp
      · exact .inr (Ne.symm h1)
  have key : ∀ y ∈ pre ++ (⟨e, size, v', n', xs'⟩ : Ro) :: post, y = ⟨e, size, v', n', xs'⟩ ∨ (y ∈ pre ∨ y ∈ post) := by
    intro y hy
    rcases List.mem_append.1 hy with hy | hy
    · exact .inr (.inl hy)
    · rcases List.mem_cons.1 hy with rfl | hy
      · exact .inl rfl
      · exact .inr (.inr hy)
  have new : ∀ y, y ∈ pre ∨ y ∈ post → y.v.ownBlock = none ∨ y.v.ownBlock ≠ v'.ownBlock := by
    intro y hy
    obtain ⟨f1, f2⟩ := far y hy
    rcases hat with e | e
    · rw [e]; exact f1
    · rcases hyv : y.v.ownBlock with _ | k
      · exact .inl rfl
      · right
        rw [e]
        have := ((h.own y f2).lt k hyv).2
        intro ee; injection ee; omega
  refine ⟨h.bel.grown hg h.bel.size hvb, ?_, h.nd, ?_, ?_, ?_⟩
  · intro x hx
    refine ⟨(h.bk x hx).1.grown hg ?_, (h.bk x hx).2⟩
    intro ee
    exact h.ne _ hm x hx ee.symm
  · intro y hy
    rcases key y hy with rfl | hy
    · exact ho
    · exact (h.own y (far y hy).2).kept hg (far y hy).1
  · intro y hy x hx
    rcases key y hy with rfl | hy
    · rcases hat with ee | ee
      · rw [ee]; exact h.ne _ hm x hx
      · rw [ee]
        have := (h.bk x hx).1.lt
        intro e2; injection e2; omega
    · exact h.ne y (far y hy).2 x hx
  · rw [List.pairwise_append, List.pairwise_cons]
    refine ⟨a1, ⟨fun b hb => ?_, a3⟩, fun a ha b hb => ?_⟩
    · rcases new b (.inr hb) with h1 | h1
      · rcases hv' : v'.ownBlock with _ | k
        · exact .inl rfl
        · right
          rw [h1]; simp
      · exact .inr (Ne.symm h1)
    · rcases List.mem_cons.1 hb with rfl | hb
      · exact new a (.inl ha)
      · exact a4 a ha b (List.mem_cons_of_mem _ hb)
theorem Mst.appL (pre : List Ro) {post : List Ro} {e : TypeId} {size n n2 n3 g cap : Nat} {v : Value} {xs xs2 xs3 : List Value} (h : Mst W wr bl (pre ++ ⟨e, size, v, n, xs⟩ :: post)) (hg : wr.grownBy w' v.ownBlock)
    (ho : w'.ownsRow W.heap.size e size (.slice (some ⟨g, 0, none⟩) n2 cap) n2 xs2) (hat : v.ownBlock = some g ∨ g = wr.heap.size) (hn : n2 = n3) (hx : xs2 = xs3) :
    Mst W w' bl (pre ++ ⟨e, size, .slice (some ⟨g, 0, none⟩) n2 cap, n3, xs3⟩ :: post) := by
  subst hn hx
  refine h.app pre hg ho ?_
  rcases hat with h1 | h1
  · exact .inl h1.symm
  · right
    rw [h1]
    rfl
/-- A cell of the row behind 'pre' is written. -/
theorem Mst.rset (pre : List Ro) {post : List Ro} {e : TypeId} {size n g cap : Nat} {xs : List Value} (h : Mst W wr bl (pre ++ ⟨e, size, .slice (some ⟨g, 0, none⟩) n cap, n, xs⟩ :: post)) (j : Nat) (u : Value) :
    Mst W (wr.setCell ⟨g, j, none⟩ u) bl (pre ++ ⟨e, size, .slice (some ⟨g, 0, none⟩) n cap, n, xs.set j u⟩ :: post) := by
  obtain ⟨h1, h2⟩ := (h.own ⟨e, size, .slice (some ⟨g, 0, none⟩) n cap, n, xs⟩ (by simp)).stored j u
  exact h.app pre h2 h1 (.inl rfl)
theorem Mst.calls {P : Program} {f : FuncId} {args : Array Value} {r : Ending} (h : Mst W wr bl ow) (hc : Calls P f args wr fun e w' => e = r ∧ Below wr.heap.size wr w') :
    Calls P f args wr fun e w' => e = r ∧ Mst W w' bl ow := hc.mono fun _ _ ⟨he, hb⟩ => ⟨he, h.below hb⟩
theorem Mst.callsOn (pre : List (Nat × TypeId × Array Value)) {post : List (Nat × TypeId × Array Value)} {g : Nat} {t : TypeId} {cs cs' : Array Value} {P : Program} {f : FuncId} {args : Array Value} {r : Ending}
    (h : Mst W wr (pre ++ (g, t, cs) :: post) ow) (hc : Calls P f args wr fun e w' => e = r ∧ On wr w' g ∧ Bk w' g t cs') :
    Calls P f args wr fun e w' => e = r ∧ Mst W w' (pre ++ (g, t, cs') :: post) ow := hc.mono fun _ _ ⟨he, ho, hk⟩ => ⟨he, h.on pre ho hk⟩
theorem Mst.blk (pre : List (Nat × TypeId × Array Value)) {post : List (Nat × TypeId × Array Value)} {g : Nat} {t : TypeId} {cs : Array Value} (h : Mst W wr (pre ++ (g, t, cs) :: post) ow) : Bk wr g t cs := (h.bk (g, t, cs) (by simp)).1
theorem Mst.row (pre : List Ro) {post : List Ro} {e : TypeId} {size n : Nat} {v : Value} {xs : List Value} (h : Mst W wr bl (pre ++ ⟨e, size, v, n, xs⟩ :: post)) : wr.ownsRow W.heap.size e size v n xs := h.own ⟨e, size, v, n, xs⟩ (by simp)
theorem Mst.old (h : Mst W wr bl ow) {b o : Nat} {v : Value} (hb : b < W.heap.size) (hc : W.cell? ⟨b, o, none⟩ = some v) : wr.cell? ⟨b, o, none⟩ = some v := (h.bel.cell (p := ⟨b, o, none⟩) hb).trans hc
theorem Mst.oldRd (h : Mst W wr bl ow) {size n : Nat} {A : Option Addr} {xs : List Value} (hr : Rd W W.heap.size size A n xs) : Rd wr wr.heap.size size A n xs := (hr.below h.bel).more h.bel.size
end

theorem meas {j g M : Nat} (h : j + g = M) (h2 : j < M) : M - (j + 1) < g := by omega
theorem meas2 {j M : Nat} (h2 : j < M) : j + 1 + (M - (j + 1)) = M := by omega

/-- An owned row as a slice whose cells are known. -/
theorem own_form {w : World} {base e size n : Nat} {v : Value} {xs : List Value} (h : w.ownsRow base e size v n xs) :
    ∃ A c, v = .slice A n c ∧ Rd w w.heap.size size A n xs ∧ n ≤ maxLen ∧ n ≤ c ∧ (0 < n → ∃ g, A = some ⟨g, 0, none⟩ ∧ base ≤ g ∧ g < w.heap.size) := by
  rcases h.2 with ⟨rfl, rfl⟩ | ⟨g, cap, cur, rfl, hb, hh, hn, hc, _⟩
  · have : xs = [] := List.eq_nil_of_length_eq_zero (by simpa using h.1)
    subst this
    exact ⟨none, 0, rfl, Rd.nil_ _ _ _ _, by simp, Nat.le_refl _, fun h => absurd h (by omega)⟩
  · refine ⟨_, cap, rfl, ⟨h.1, fun hn => ⟨g, 0, rfl, Bk.lt hh, fun j u hu => ?_⟩⟩, by omega, hn, fun _ => ⟨g, rfl, hb, Bk.lt hh⟩⟩
    have a := h.cells (g := g) rfl _ _ hu
    rw [WideShapes.add_plain] at a
    exact a
theorem own_rd {w : World} {base e size n n' c : Nat} {A : Option Addr} {xs : List Value} (h : w.ownsRow base e size (.slice A n' c) n xs) : Rd w w.heap.size size A n xs := by
  obtain ⟨A', c', e1, h1, _⟩ := own_form h
  injection e1 with e1 _ _
  subst e1
  exact h1
end Go.Proofs.Ythnaobolmgcclaa
