/- Operations of a drawn region by a law of one's own: any with one value, a build. Over any program. -/
import Derived.Test.YtghcdffpplimoaaExtC
namespace Go.Proofs.Ytghcdffpplimoaa
set_option linter.unusedVariables false
set_option linter.unusedSimpArgs false
open Go.RowKit

section
variable {P : Program} {w : World} {ops : Array Oper} {rest : List Oper} {o : Oper} {a : Act} {Q : Exit → Act → World → Prop} {K : Act → World → Prop} {E : Prop}
theorem step_val (hw : Region.wanted o (yielded ops a.tmps) = true) (v : Value) (hx : (execOp a.eval o).run P w = .ok (.value v) w) (h : K (a.put o.dst v) w) : if Region.wanted o (yielded ops a.tmps) = true then Oper.wp P o a w K Q else E := by
  rw [if_pos hw]
  unfold Oper.wp
  rw [hx]
  exact h
theorem exec_build (ty : TypeId) (parts : List (Nat × Operand)) (ho : o.op = .build ty parts.toArray) (vs : List (Nat × Value)) (hvs : (parts.map fun (i, x) => (i, a.eval x)) = vs) (v : Value) (hr : (Instr.build ty vs.toArray).run P w = .ok v w) : (execOp a.eval o).run P w = .ok (.value v) w := by
  simp only [execOp, ho, List.map_toArray, hvs, Sem.run_bind, hr, Result.andThen_ok, Sem.run_pure]
theorem step_build (hw : Region.wanted o (yielded ops a.tmps) = true) (ty : TypeId) (parts : List (Nat × Operand)) (ho : o.op = .build ty parts.toArray) (vs : List (Nat × Value)) (hvs : (parts.map fun (i, x) => (i, a.eval x)) = vs) (v : Value) (hr : (Instr.build ty vs.toArray).run P w = .ok v w)
    (h : K (a.put o.dst v) w) : if Region.wanted o (yielded ops a.tmps) = true then Oper.wp P o a w K Q else E := step_val hw v (exec_build ty parts ho vs hvs v hr) h
theorem wpList_build (hw : Region.wanted o (yielded ops a.tmps) = true) (ty : TypeId) (parts : List (Nat × Operand)) (ho : o.op = .build ty parts.toArray) (vs : List (Nat × Value)) (hvs : (parts.map fun (i, x) => (i, a.eval x)) = vs) (v : Value) (hr : (Instr.build ty vs.toArray).run P w = .ok v w)
    (h : wpList P ops Q rest (a.put o.dst v) w) : wpList P ops Q (o :: rest) a w := wpList_val v hw (exec_build ty parts ho vs hvs v hr) h
end
end Go.Proofs.Ytghcdffpplimoaa
