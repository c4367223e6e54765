/- An opener for a field: a struct of two ints and a slice of bytes, by value. -/
import Derived.Test.YthnaobolmgcclaaOpen2
import Derived.Deep.Strs
namespace Go.Proofs.Ythnaobolmgcclaa
set_option linter.unusedVariables false
open Go.ChangeShapes Go.WideShapes Go.ChangeAt Go.RowKit Go.Deep

section
variable {H : Type} {enc : TypeId × Value → H} {P : Program} {W : World} {r : Reach} {b0 : Nat} {t t2 e : TypeId} {v : Value} {d : DataW H} {ps : List MemPlace}

theorem open_fld {f0 f1 f2 : Field} (ht : P.underlying t = some (.struct #[f0, f1, f2])) (ct : P.cellsOf t = 3)
    (o0 : f0.offset = 0) (u0 : P.underlying f0.type = some (.int .i64)) (c0 : P.cellsOf f0.type = 1)
    (o1 : f1.offset = 1) (u1 : P.underlying f1.type = some (.int .i64)) (c1 : P.cellsOf f1.type = 1)
    (o2 : f2.offset = 2) (u2 : P.underlying f2.type = some (.slice e)) (c2 : P.cellsOf f2.type = 1) (he : P.underlying e = some (.int .u8)) (ce : P.cellsOf e = 1)
    (hval : Value.okWide P W r b0 t v) (h : DataW.Trod enc P W 0 (fun _ => true) true t v d ps) :
    ∃ (s n : Int) (x : Rw), v = .agg #[.int .i64 s, .int .i64 n, x.v] ∧ in64 s ∧ in64 n ∧ x.ok .u8 W := by
  obtain ⟨cs, rfl, hsz⟩ := okWide_struct ht hval
  obtain ⟨fuel, hf⟩ := h
  obtain ⟨y0, y1, y2, m, _, _, g0, g1, g2⟩ := trod_struct3 ht hf
  rw [o0, c0] at g0
  rw [o1, c1] at g1
  rw [o2, c2] at g2
  obtain ⟨z0, h0, _, w0⟩ := DataW.trod_int u0 g0
  obtain ⟨z1, h1, _, w1⟩ := DataW.trod_int u1 g1
  obtain ⟨x, h2, hx⟩ := trod_row u2 he ce g2
  have hcs : cs.size = 3 := hsz.trans ct
  obtain ⟨l⟩ := cs
  match l, hcs with
  | [a0, a1, a2], _ =>
    simp [Value.cells] at h0 h1 h2
    subst h0 h1 h2
    exact ⟨z0, z1, x, rfl, in64_of w0, in64_of w1, hx⟩
end
end Go.Proofs.Ythnaobolmgcclaa
