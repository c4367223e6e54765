/- Arrays of numbers by value: one cell of it; the whole out of a block and into a block. Over any program. -/
import Derived.Test.YthnaobolmgcclaaMst
import Derived.Deep.MidRow
import Derived.Deep.WholeRow
namespace Go.Proofs.Ythnaobolmgcclaa
set_option linter.unusedVariables false

theorem run_index_arr {P : Program} {t e : TypeId} {n : Nat} {cs : Array Value} {k : IntKind} {i : Int} {v : Value} (h : P.underlying t = some (.array n e)) (ha : ∀ w, (isAgg e).run P w = .ok false w) (hs : ∀ w, (sizeOf e).run P w = .ok 1 w)
    (h0 : 0 ≤ i) (h1 : i < (n : Int)) (hv : cs[i.toNat]? = some v) (w : World) : (Instr.index t (.agg cs) (.int k i)).run P w = .ok v w := by
  have hn : 0 ≤ i ∧ i < (n : Int) := ⟨h0, h1⟩
  simp [Instr.index, run_underlying h, asIntOf, hn, go_sem, part, ha, hs, hv]

/-- isAgg and sizeOf of a type that is one cell. -/
theorem agg_no {P : Program} {t : TypeId} {d : TypeDesc} (h : P.underlying t = some d) (hd : d.isRow = false) (w : World) : (isAgg t).run P w = .ok false w := by
  unfold isAgg
  rw [Sem.run_bind, run_underlying h w]
  cases d <;> simp_all
theorem size_of {P : Program} {t : TypeId} {n : Nat} (h : (P.info? t).map (·.size) = some n) (w : World) : (sizeOf t).run P w = .ok n w := by
  cases hq : P.info? t with
  | none => simp [hq] at h
  | some i =>
    have hs : i.size = n := by simpa [hq] using h
    simp [sizeOf, typeInfo, hq, hs]

theorem Bk.setRow {w : World} {g : Nat} {t : TypeId} {cs : Array Value} (h : Bk w g t cs) (cs' : Array Value) : Bk (w.setRow g cs') g t cs' := setRow_heap w g _ _ t _ h
theorem On.setRow {a w : World} {g : Nat} (h : On a w g) {k : Nat} (hk : k = g ∨ a.heap.size ≤ k) (cs : Array Value) : On a (w.setRow k cs) g :=
  ⟨h.os, h.tape, h.output, by simpa using h.size, fun i hi hne => (setRow_other w k i cs (by
    rintro rfl
    rcases hk with rfl | hk
    · exact hne rfl
    · omega)).trans (h.block i hi hne)⟩
theorem Bk.range {w : World} {g : Nat} {t : TypeId} {cs : Array Value} (h : Bk w g t cs) {o : Nat} {xs : List Value} (hx : ∀ j v, xs[j]? = some v → cs[o + j]? = some v) : w.rangeAt g o xs := fun j v hv => by rw [h.cell]; exact hx j v hv
/-- A block of its own is written as a whole. -/
theorem Mst.setRow {W wr : World} {bl : List (Nat × TypeId × Array Value)} {ow : List Ro} (pre : List (Nat × TypeId × Array Value)) {post : List (Nat × TypeId × Array Value)} {g : Nat} {t : TypeId} {cs : Array Value} (h : Mst W wr (pre ++ (g, t, cs) :: post) ow) (cs' : Array Value) :
    Mst W (wr.setRow g cs') (pre ++ (g, t, cs') :: post) ow :=
  h.on pre ((On.refl wr g).setRow (.inl rfl) cs') ((h.bk (g, t, cs) (by simp)).1.setRow cs')
end Go.Proofs.Ythnaobolmgcclaa
