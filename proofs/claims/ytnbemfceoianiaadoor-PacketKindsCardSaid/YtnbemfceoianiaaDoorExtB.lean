/- Slices of bytes in new memory; lists of parts in new memory. -/
import Derived.Test.YtnbemfceoianiaaDoorKeyA
import Derived.Test.YtnbemfceoianiaaDoorExt
namespace Go.Proofs.YtnbemfceoianiaaDoor
set_option linter.unusedVariables false
set_option linter.unusedSimpArgs false
open Go.RowKit

/-- A slice of bytes in new memory. -/
def NewB (w w' : World) (A : Option Addr) (l : List UInt8) : Prop := l = [] ∨ ∃ (g : Nat) (t : TypeId) (cs : Array Value), A = some ⟨g, 0, none⟩ ∧ Bk w' g t cs ∧ w.heap.size ≤ g ∧ ∀ (j : Nat) (u : Value), (by8 l)[j]? = some u → cs[j]? = some u
theorem NewB.rb {w w' : World} {A : Option Addr} {l : List UInt8} (h : NewB w w' A l) : RB w' w'.heap.size A l := by
  refine ⟨by simp [by8], fun hn => ?_⟩
  rcases h with rfl | ⟨g, t, cs, rfl, hb, _, hc⟩
  · simp at hn
  · exact ⟨g, 0, rfl, hb.lt, fun j u hu => by rw [hb.cell]; simpa using hc j u hu⟩
theorem NewB.of_own {w w' : World} {e n c : Nat} {A : Option Addr} {l : List UInt8} (h : w'.ownsRow w.heap.size e 1 (.slice A n c) n (by8 l)) : NewB w w' A l := by
  rcases h.2 with ⟨_, h2⟩ | ⟨g, cap, cur, h1, h3, h4, h5, h6, h7, h8⟩
  · left
    have := h.1
    rw [h2, Nat.zero_mul, by8_length] at this
    exact List.eq_nil_of_length_eq_zero this
  · right
    injection h1 with h1 _ _
    refine ⟨g, e, cur, h1, h4, h3, fun j u hu => ?_⟩
    have h9 := h.cells (g := g) (by rw [h1]; rfl) j u hu
    rw [WideShapes.add_plain, Bk.cell h4] at h9
    simpa using h9
theorem NewB.take {w w' : World} {A : Option Addr} {l : List UInt8} (h : NewB w w' A l) (n : Nat) : NewB w w' A (l.take n) := by
  rcases h with rfl | ⟨g, t, cs, h1, h2, h3, h4⟩
  · left; simp
  · refine .inr ⟨g, t, cs, h1, h2, h3, fun j u hu => h4 j u ?_⟩
    simp only [by8, List.map_take] at hu
    rw [List.getElem?_take] at hu
    split at hu
    · exact hu
    · cases hu
theorem NewB.base {w w1 w' : World} {A : Option Addr} {l : List UInt8} (h : NewB w1 w' A l) (hb : w.heap.size ≤ w1.heap.size) : NewB w w' A l := by
  rcases h with rfl | ⟨g, t, cs, h1, h2, h3, h4⟩
  · exact .inl rfl
  · exact .inr ⟨g, t, cs, h1, h2, Nat.le_trans hb h3, h4⟩
theorem NewB.below {w w1 w' : World} {A : Option Addr} {l : List UInt8} (h : NewB w w1 A l) (hb : Below w1.heap.size w1 w') : NewB w w' A l := by
  rcases h with rfl | ⟨g, t, cs, h1, h2, h3, h4⟩
  · exact .inl rfl
  · exact .inr ⟨g, t, cs, h1, h2.below hb h2.lt, h3, h4⟩
/-- .. beside the memory of a call: as a block of its own. -/
theorem Mst.newb {W w w' : World} {bl : Bl} {ow : List Ro} {A : Option Addr} {l : List UInt8} (h : Mst W w bl ow) (hb : Below w.heap.size w w') (hn : NewB w w' A l) : ∃ xb, Mst W w' (xb ++ bl) ow ∧ Src W (xb ++ bl) ow 1 A l.length (by8 l) := by
  rcases hn with rfl | ⟨g, t, cs, rfl, h2, h3, h4⟩
  · exact ⟨[], h.below hb, Src.nil_ _ _ _ _ _⟩
  · exact ⟨[(g, t, cs)], h.addb hb h2 h3, by simp [by8], fun _ => ⟨g, 0, rfl, .inr (.inl ⟨t, cs, List.mem_cons_self .., fun j u hu => by simpa using h4 j u hu⟩)⟩⟩
theorem RB.keep {w w' : World} {A : Option Addr} {l : List UInt8} (h : RB w w.heap.size A l) (hb : Below w.heap.size w w') : RB w' w'.heap.size A l := (RB.below h hb).more hb.size

/-- A list of parts that was just made. -/
theorem Mst.ptsE {W w w2 : World} {bl : Bl} {ow : List Ro} (h : Mst W w bl ow) (qs : List Pt) (hq : ∀ q ∈ qs, Src W bl ow 1 q.A q.l.length (by8 q.l)) {vs : List Value} (hv : vs = qs.map Pt.v) (hn : qs.length ≤ 1000000)
    (hw : w.alloc (.cells vs.toArray 30) = w2) : ∃ y, Mst W w2 bl (y :: ow) ∧ Pts w2 (some ⟨w.heap.size, 0, none⟩) qs := by
  subst hw hv
  have hsz : (qs.map Pt.v).toArray.size = qs.length * 1 := by simp
  have m := h.newrow 30 1 qs.length qs.length (qs.map Pt.v).toArray (Nat.le_refl _) (by unfold maxLen; omega) hsz
  refine ⟨_, m, ?_, fun p hp => m.src ((hq p hp).cr _)⟩
  have hr := own_rd (m.row [])
  rw [List.take_of_length_le (by simp)] at hr
  exact hr
theorem Mst.ptsG {W w w2 : World} {bl : Bl} {ow : List Ro} (g : Nat) (hg : w.heap.size = g) (h : Mst W w bl ow) (qs : List Pt) (hq : ∀ q ∈ qs, Src W bl ow 1 q.A q.l.length (by8 q.l)) {vs : List Value} (hv : vs = qs.map Pt.v) (hn : qs.length ≤ 1000000)
    (hw : w.alloc (.cells vs.toArray 30) = w2) : ∃ y, Mst W w2 bl (y :: ow) ∧ Pts w2 (some ⟨g, 0, none⟩) qs := by
  subst hg
  exact h.ptsE qs hq hv hn hw
theorem Mst.newX {W w w2 : World} {bl : Bl} {ow : List Ro} {t : TypeId} {cs : Array Value} (h : Mst W w bl ow) (hw : w.alloc (.cells cs t) = w2) : ∃ g, w.heap.size = g ∧ Mst W w2 ((g, t, cs) :: bl) ow := ⟨_, rfl, h.newE hw⟩
/-- A slice of bytes in new memory is handed back. -/
def RetB (w : World) (n : Nat) (l : List UInt8) (e : Ending) (w' : World) : Prop := ∃ A' c', e = .returned (.slice A' n c') ∧ n ≤ c' ∧ c' ≤ 9223372036854775807 ∧ Below w.heap.size w w' ∧ NewB w w' A' l
theorem own_cap {w : World} {base e n c : Nat} {A : Option Addr} {l : List Value} (h : w.ownsRow base e 1 (.slice A n c) n l) : n ≤ c ∧ c ≤ 9223372036854775807 := by
  rcases h.2 with ⟨h1, h2⟩ | ⟨g, cap, cur, h1, _, _, h4, h5, _⟩
  · injection h1 with _ _ h1
    omega
  · injection h1 with _ _ h1
    unfold maxLen at h5
    omega
theorem Mst.oneX {W w w2 : World} {bl : Bl} {ow : List Ro} {e : TypeId} {v : Value} (h : Mst W w bl ow) (hw : w.alloc (.cells #[v] e) = w2) : ∃ g, w.heap.size = g ∧ Mst W w2 bl (⟨e, 1, .slice (some ⟨g, 0, none⟩) 1 1, 1, [v]⟩ :: ow) := by
  subst hw
  exact ⟨_, rfl, h.newrow e 1 1 1 #[v] (Nat.le_refl _) (by decide) rfl⟩
theorem Mst.emptyX {W w w2 : World} {bl : Bl} {ow : List Ro} {e : TypeId} (h : Mst W w bl ow) (hw : w.alloc (.cells #[] e) = w2) : ∃ g, w.heap.size = g ∧ Mst W w2 bl (⟨e, 1, .slice (some ⟨g, 0, none⟩) 0 0, 0, []⟩ :: ow) := ⟨_, rfl, h.emptyE hw⟩
/-- .. in a region that draws its order. -/
theorem Mst.ptsX {W w w2 : World} {bl : Bl} {ow : List Ro} (h : Mst W w bl ow) (qs : List Pt) (hq : ∀ q ∈ qs, Src W bl ow 1 q.A q.l.length (by8 q.l)) {vs : List Value} (hv : vs = qs.map Pt.v) (hn : qs.length ≤ 1000000)
    (hw : w.alloc (.cells vs.toArray 30) = w2) : ∃ g y, w.heap.size = g ∧ Mst W w2 bl (y :: ow) ∧ Pts w2 (some ⟨g, 0, none⟩) qs := by
  obtain ⟨y, h1, h2⟩ := h.ptsE qs hq hv hn hw
  exact ⟨_, y, rfl, h1, h2⟩
theorem List.forall3 {α : Type} {P : α → Prop} {a b c : α} (h1 : P a) (h2 : P b) (h3 : P c) : ∀ x ∈ [a, b, c], P x := by simp [h1, h2, h3]
theorem List.forall2 {α : Type} {P : α → Prop} {a b : α} (h1 : P a) (h2 : P b) : ∀ x ∈ [a, b], P x := by simp [h1, h2]
end Go.Proofs.YtnbemfceoianiaaDoor
