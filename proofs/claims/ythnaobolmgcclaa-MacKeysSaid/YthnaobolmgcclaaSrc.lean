/- Sources: slices that are read, said by what the memory of a call is known to hold (older memory, a block of its own, a row of its own); frames in another order. Over any program. -/
import Derived.Test.YthnaobolmgcclaaFresh
namespace Go.Proofs.Ythnaobolmgcclaa
set_option linter.unusedVariables false
open Go.RowKit

abbrev Bl := List (Nat × TypeId × Array Value)

/-- n elements of 'size' cells each, from cell 'at' on, in older memory, in a block of the call's own, or in a row of its own. -/
def Src (W : World) (bl : Bl) (ow : List Ro) (size : Nat) (A : Option Addr) (n : Nat) (xs : List Value) : Prop :=
  xs.length = n * size ∧ (0 < n → ∃ b o, A = some ⟨b, o, none⟩ ∧
    ((b < W.heap.size ∧ ∀ j u, xs[j]? = some u → W.cell? ⟨b, o + j, none⟩ = some u) ∨ (∃ t cs, (b, t, cs) ∈ bl ∧ ∀ j u, xs[j]? = some u → cs[o + j]? = some u) ∨
      (∃ y ∈ ow, y.v.ownBlock = some b ∧ ∀ j u, xs[j]? = some u → y.xs[o + j]? = some u)))

section
variable {W w w' : World} {bl bl' : Bl} {ow ow' : List Ro} {size n : Nat} {A : Option Addr} {xs : List Value}
theorem Src.sub (h : Src W bl ow size A n xs) (h1 : ∀ x ∈ bl, x ∈ bl') (h2 : ∀ y ∈ ow, y ∈ ow') : Src W bl' ow' size A n xs := by
  refine ⟨h.1, fun hn => ?_⟩
  obtain ⟨b, o, e, hc⟩ := h.2 hn
  refine ⟨b, o, e, ?_⟩
  rcases hc with hc | ⟨t, cs, hm, hc⟩ | ⟨y, hy, hv, hc⟩
  · exact .inl hc
  · exact .inr (.inl ⟨t, cs, h1 _ hm, hc⟩)
  · exact .inr (.inr ⟨y, h2 _ hy, hv, hc⟩)
theorem Src.cb (h : Src W bl ow size A n xs) (x : Nat × TypeId × Array Value) : Src W (x :: bl) ow size A n xs := h.sub (fun _ hx => List.mem_cons_of_mem _ hx) (fun _ hy => hy)
theorem Src.cr (h : Src W bl ow size A n xs) (y : Ro) : Src W bl (y :: ow) size A n xs := h.sub (fun _ hx => hx) (fun _ hy => List.mem_cons_of_mem _ hy)
theorem Src.nil_ (W : World) (bl : Bl) (ow : List Ro) (size : Nat) (A : Option Addr) : Src W bl ow size A 0 [] := ⟨by simp, fun h => absurd h (by omega)⟩
theorem Src.old (h : Rd W W.heap.size size A n xs) : Src W bl ow size A n xs := by
  refine ⟨h.1, fun hn => ?_⟩
  obtain ⟨b, o, e, hb, hc⟩ := h.2 hn
  exact ⟨b, o, e, .inl ⟨hb, hc⟩⟩
theorem Src.blk {g : Nat} {t : TypeId} {cs : Array Value} (hm : (g, t, cs) ∈ bl) (hs : cs.size = n * size) : Src W bl ow size (some ⟨g, 0, none⟩) n cs.toList :=
  ⟨by simpa using hs, fun _ => ⟨g, 0, rfl, .inr (.inl ⟨t, cs, hm, fun j u hu => by simpa using hu⟩)⟩⟩
theorem Mst.src (h : Mst W w bl ow) (hs : Src W bl ow size A n xs) : Rd w w.heap.size size A n xs := by
  refine ⟨hs.1, fun hn => ?_⟩
  obtain ⟨b, o, e, hc⟩ := hs.2 hn
  rcases hc with ⟨hb, hc⟩ | ⟨t, cs, hm, hc⟩ | ⟨y, hy, hv, hc⟩
  · exact ⟨b, o, e, Nat.lt_of_lt_of_le hb h.bel.size, fun j u hu => h.old hb (hc j u hu)⟩
  · have hk := (h.bk _ hm).1
    exact ⟨b, o, e, hk.lt, fun j u hu => (hk.cell _).trans (hc j u hu)⟩
  · have ho := h.own y hy
    have hlt := (ho.lt b hv).2
    refine ⟨b, o, e, hlt, fun j u hu => ?_⟩
    have := ho.cells hv _ _ (hc j u hu)
    rw [WideShapes.add_plain] at this
    simpa using this
/-- A row of the call's own as a source. -/
theorem Mst.rowSrc (h : Mst W w bl ow) {e : TypeId} {c : Nat} (hm : (⟨e, size, .slice A n c, n, xs⟩ : Ro) ∈ ow) : Src W bl ow size A n xs := by
  have ho := h.own _ hm
  refine ⟨ho.1, fun hn => ?_⟩
  rcases ho.2 with ⟨h1, h2⟩ | ⟨g, cap, cur, h1, _⟩
  · simp only at h2
    omega
  · simp only [Value.slice.injEq] at h1
    obtain ⟨rfl, _⟩ := h1
    exact ⟨g, 0, rfl, .inr (.inr ⟨_, hm, rfl, fun j u hu => by simpa using hu⟩)⟩
theorem Src.part (h : Src W bl ow size A n xs) {b o : Nat} (hA : A = some ⟨b, o, none⟩) (k m : Nat) (hk : k + m ≤ n) : Src W bl ow size (some ⟨b, o + k * size, none⟩) m ((xs.drop (k * size)).take (m * size)) := by
  have hlen := h.1
  have h2 : k * size + m * size ≤ n * size := by rw [← Nat.add_mul]; exact Nat.mul_le_mul_right _ hk
  refine ⟨by simp only [List.length_take, List.length_drop]; omega, fun hm => ?_⟩
  obtain ⟨b', o', e, hc⟩ := h.2 (by omega)
  rw [hA] at e
  injection e with e
  injection e with e1 e2 _
  subst e1 e2
  have key : ∀ j u, ((xs.drop (k * size)).take (m * size))[j]? = some u → xs[k * size + j]? = some u := by
    intro j u hu
    rw [List.getElem?_take] at hu
    split at hu
    · rw [List.getElem?_drop] at hu; exact hu
    · cases hu
  refine ⟨b, o + k * size, rfl, ?_⟩
  rcases hc with ⟨hb, hc⟩ | ⟨t, cs, hm', hc⟩ | ⟨y, hy, hv, hc⟩
  · exact .inl ⟨hb, fun j u hu => by rw [Nat.add_assoc]; exact hc _ _ (key j u hu)⟩
  · exact .inr (.inl ⟨t, cs, hm', fun j u hu => by rw [Nat.add_assoc]; exact hc _ _ (key j u hu)⟩)
  · exact .inr (.inr ⟨y, hy, hv, fun j u hu => by rw [Nat.add_assoc]; exact hc _ _ (key j u hu)⟩)

theorem Mst.perm (h : Mst W w bl ow) (h1 : bl.Perm bl') (h2 : ow.Perm ow') : Mst W w bl' ow' := by
  refine ⟨h.bel, fun x hx => h.bk x (h1.mem_iff.2 hx), (h1.map _).nodup_iff.1 h.nd, fun y hy => h.own y (h2.mem_iff.2 hy), fun y hy x hx => h.ne y (h2.mem_iff.2 hy) x (h1.mem_iff.2 hx), ?_⟩
  refine (h2.pairwise_iff ?_).1 h.ap
  intro a b hab
  rcases hab with hab | hab
  · rcases hb : b.v.ownBlock with _ | g
    · exact .inl rfl
    · right; rw [hab]; simp
  · exact .inr (Ne.symm hab)
theorem Mst.frontb (pre : Bl) {post : Bl} {x : Nat × TypeId × Array Value} (h : Mst W w (pre ++ x :: post) ow) : Mst W w (x :: (pre ++ post)) ow := h.perm List.perm_middle (List.Perm.refl _)
theorem Mst.backb (pre : Bl) {post : Bl} {x : Nat × TypeId × Array Value} (h : Mst W w (x :: (pre ++ post)) ow) : Mst W w (pre ++ x :: post) ow := h.perm List.perm_middle.symm (List.Perm.refl _)
theorem Mst.frontr (pre : List Ro) {post : List Ro} {y : Ro} (h : Mst W w bl (pre ++ y :: post)) : Mst W w bl (y :: (pre ++ post)) := h.perm (List.Perm.refl _) List.perm_middle
theorem Mst.backr (pre : List Ro) {post : List Ro} {y : Ro} (h : Mst W w bl (y :: (pre ++ post))) : Mst W w bl (pre ++ y :: post) := h.perm (List.Perm.refl _) List.perm_middle.symm
theorem Mst.fr {bl'' : Bl} {ow'' : List Ro} (h : Mst W w bl ow) (h1 : List.Sublist bl'' bl) (h2 : List.Sublist ow'' ow) : Mst W w bl'' ow'' := h.sub h1 h2
end
end Go.Proofs.Ythnaobolmgcclaa
