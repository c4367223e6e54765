/- A result in new memory: a slice that the call has made, as a row that the caller owns; bytes as cells. Over any program. -/
import Derived.Test.YthnaobolmgcclaaMst
namespace Go.Proofs.Ythnaobolmgcclaa
set_option linter.unusedVariables false
open Go.RowKit

/-- Bytes as cells. -/
def by8 (l : List UInt8) : List Value := l.map fun b => .int .u8 (b.toNat : Int)
theorem by8_length (l : List UInt8) : (by8 l).length = l.length := by simp [by8]
theorem by8_append (a b : List UInt8) : by8 (a ++ b) = by8 a ++ by8 b := by simp [by8]
theorem by8_get {l : List UInt8} {k : Nat} {b : UInt8} (h : l[k]? = some b) : (by8 l)[k]? = some (.int .u8 (b.toNat : Int)) := by simp [by8, h]
theorem by8_one (l : List UInt8) : ∀ u ∈ by8 l, u.oneCell' = true := by
  intro u hu
  simp only [by8, List.mem_map] at hu
  obtain ⟨b, _, rfl⟩ := hu
  rfl
theorem by8_set (l : List UInt8) (k : Nat) (b : UInt8) : by8 (l.set k b) = (by8 l).set k (.int .u8 (b.toNat : Int)) := by simp [by8, List.map_set]

/-- w' is w with new memory, and v is a slice in it, of the cells xs. -/
structure Fresh (w w' : World) (e : TypeId) (size : Nat) (v : Value) (n : Nat) (xs : List Value) : Prop where
  bel : Below w.heap.size w w'
  own : w'.ownsRow w.heap.size e size v n xs

theorem ownsRow_base {w : World} {b b' e size n : Nat} {v : Value} {xs : List Value} (h : w.ownsRow b' e size v n xs) (hb : b ≤ b') : w.ownsRow b e size v n xs := by
  refine ⟨h.1, ?_⟩
  rcases h.2 with h1 | ⟨g, cap, cur, h1, h2, h3⟩
  · exact .inl h1
  · exact .inr ⟨g, cap, cur, h1, Nat.le_trans hb h2, h3⟩

section
variable {W wr w' : World} {bl : List (Nat × TypeId × Array Value)} {ow : List Ro}
/-- A row that a call has made. -/
theorem Mst.addr (h : Mst W wr bl ow) {e size n : Nat} {v : Value} {xs : List Value} (hf : Fresh wr w' e size v n xs) : Mst W w' bl (⟨e, size, v, n, xs⟩ :: ow) := by
  have ha := h.below hf.bel
  have hlt : ∀ k, v.ownBlock = some k → wr.heap.size ≤ k := fun k hk => (hf.own.lt k hk).1
  refine ⟨ha.bel, ha.bk, ha.nd, ?_, ?_, ?_⟩
  · intro y hy
    rcases List.mem_cons.1 hy with rfl | hy
    · exact ownsRow_base hf.own h.bel.size
    · exact ha.own y hy
  · intro y hy x hx
    rcases List.mem_cons.1 hy with rfl | hy
    · intro e1
      have a := hlt _ e1
      have b := (h.bk x hx).1.lt
      omega
    · exact ha.ne y hy x hx
  · rw [List.pairwise_cons]
    refine ⟨fun b hb => ?_, ha.ap⟩
    rcases hv : v.ownBlock with _ | k
    · exact .inl rfl
    · right
      intro e1
      have a := hlt _ hv
      have c := ((h.own b hb).lt _ e1.symm).2
      omega
end
end Go.Proofs.Ythnaobolmgcclaa
