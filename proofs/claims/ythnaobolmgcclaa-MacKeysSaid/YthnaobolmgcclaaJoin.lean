/- What a call has made, beside what the caller has: two Msts become one. Over any program. -/
import Derived.Test.YthnaobolmgcclaaFresh
namespace Go.Proofs.Ythnaobolmgcclaa
set_option linter.unusedVariables false
open Go.RowKit

section
variable {W wr w' : World} {bl bl' : List (Nat × TypeId × Array Value)} {ow ow' : List Ro}
theorem Mst.join (h : Mst W wr bl ow) (k : Mst wr w' bl' ow') : Mst W w' (bl' ++ bl) (ow' ++ ow) := by
  have ha := h.below k.bel
  have hlt : ∀ y ∈ ow', ∀ g, y.v.ownBlock = some g → wr.heap.size ≤ g := fun y hy g hg => ((k.own y hy).lt g hg).1
  refine ⟨ha.bel, ?_, ?_, ?_, ?_, ?_⟩
  · intro x hx
    rcases List.mem_append.1 hx with hx | hx
    · exact ⟨(k.bk x hx).1, Nat.le_trans h.bel.size (k.bk x hx).2⟩
    · exact ha.bk x hx
  · rw [List.map_append, List.nodup_append]
    refine ⟨k.nd, h.nd, fun a ha' b hb => ?_⟩
    obtain ⟨x, hx, rfl⟩ := List.mem_map.1 ha'
    obtain ⟨y, hy, rfl⟩ := List.mem_map.1 hb
    have := (k.bk x hx).2
    have := (h.bk y hy).1.lt
    omega
  · intro y hy
    rcases List.mem_append.1 hy with hy | hy
    · exact ownsRow_base (k.own y hy) h.bel.size
    · exact ha.own y hy
  · intro y hy x hx
    rcases List.mem_append.1 hy with hy | hy <;> rcases List.mem_append.1 hx with hx | hx
    · exact k.ne y hy x hx
    · intro e
      have := hlt y hy _ e
      have := (h.bk x hx).1.lt
      omega
    · intro e
      have := ((h.own y hy).lt _ e).2
      have := (k.bk x hx).2
      omega
    · exact ha.ne y hy x hx
  · rw [List.pairwise_append]
    refine ⟨k.ap, ha.ap, fun a ha' b hb => ?_⟩
    rcases hv : a.v.ownBlock with _ | g
    · exact .inl rfl
    · right
      intro e
      have := hlt a ha' g hv
      have := ((h.own b hb).lt _ e.symm).2
      omega
/-- A row's block is none of the blocks. -/
theorem Mst.row_ne (h : Mst W wr bl ow) {e size n : _} {v : Value} {xs : List Value} (hy : (⟨e, size, v, n, xs⟩ : Ro) ∈ ow) {g : Nat} {t : TypeId} {cs : Array Value} (hx : (g, t, cs) ∈ bl) {A : Option Addr} {m c : Nat} (hv : v = .slice A m c) :
    ∀ b o, A = some ⟨b, o, none⟩ → b ≠ g := by
  rintro b o rfl rfl
  exact h.ne _ hy _ hx (by rw [hv]; rfl)
end
end Go.Proofs.Ythnaobolmgcclaa
