/- Operations of a plain region by a law of one's own: a whole load, a build, an operation of two values, each behind a guard that holds. Over any program. -/
import Derived.Test.YtnbemfceoianiaaDoorBaseA
namespace Go.Proofs.YtnbemfceoianiaaDoor
set_option linter.unusedVariables false
open Go.RowKit

section
variable {P : Program} {w : World} {ops : Array Oper} {rest : List Oper} {o : Oper} {a : Act} {Q : Exit → Act → World → Prop}
theorem wpList_val (v : Value) (hw : Region.wanted o (yielded ops a.tmps) = true) (hx : (execOp a.eval o).run P w = .ok (.value v) w) (h : wpList P ops Q rest (a.put o.dst v) w) : wpList P ops Q (o :: rest) a w :=
  BigFrame.wpList_want hw fun K hK => by unfold Oper.wp; rw [hx]; exact hK _ _ h
theorem wpList_loadG (hw : Region.wanted o (yielded ops a.tmps) = true) (ty : TypeId) (x : Operand) (ho : o.op = .load ty x) (b k : Nat) (hx : a.eval x = .pointer (some ⟨b, k, none⟩)) (cs : Array Value) (d : TypeDesc) (hc : w.rangeAt b k cs.toList)
    (hu : P.underlying ty = some d) (hd : d.isRow = true) (hi : (P.info? ty).map (·.size) = some cs.size) (h : wpList P ops Q rest (a.put o.dst (.agg cs)) w) : wpList P ops Q (o :: rest) a w :=
  BigFrame.wpList_want hw fun K hK => wp_load_mid ty x ho b k hx cs.toList d hc hu hd (by rw [Array.length_toList]; exact hi) (by rw [Array.toArray_toList]; exact hK _ _ h)
theorem wpList_buildG (hw : Region.wanted o (yielded ops a.tmps) = true) (ty : TypeId) (ho : o.op = .build ty #[]) (v : Value) (hr : (Instr.build ty #[]).run P w = .ok v w) (h : wpList P ops Q rest (a.put o.dst v) w) : wpList P ops Q (o :: rest) a w :=
  wpList_val v hw (by simp only [execOp, ho, List.map_toArray, List.map_nil, Sem.run_bind, hr, Result.andThen_ok, Sem.run_pure]) h
/-- '==' or any other operation of two values, of a type whose guard is idle. -/
theorem wpList_binG (hw : Region.wanted o (yielded ops a.tmps) = true) (op : BinOp) (t tr : TypeId) (x y : Operand) (ho : o.op = .binOp op t x y tr) (cx cy : Array Value) (hx : a.eval x = .agg cx) (hy : a.eval y = .agg cy) (hg : P.eqGuardType P.depth t = false)
    (v : Value) (hr : (binOp op t (.agg cx) (.agg cy)).run P w = .ok v w) (h : wpList P ops Q rest (a.put o.dst v) w) : wpList P ops Q (o :: rest) a w :=
  wpList_val v hw (by
    simp only [execOp, ho, hx, hy, Sem.run_bind, run_eqGuard_agg (P := P) w op t x y cx cy hg, hr, Result.andThen_ok, Sem.run_pure]) h
end
end Go.Proofs.YtnbemfceoianiaaDoor
