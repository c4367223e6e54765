/- Tokens compared; operations of a drawn region behind a guard that holds. -/
import Derived.Test.YtghcdffpplimoaaTk7
namespace Go.Proofs.Ytghcdffpplimoaa
set_option linter.unusedVariables false
set_option linter.unusedSimpArgs false
open Go.RowKit

section
variable {P : Program} {w W : World} {bl : Bl} {ops : Array Oper} {rest : List Oper} {o : Oper} {a : Act} {Q : Exit → Act → World → Prop} {K : Act → World → Prop} {E : Prop}
theorem step_binG (hw : Region.wanted o (yielded ops a.tmps) = true) (op : BinOp) (t tr : TypeId) (x y : Operand) (ho : o.op = .binOp op t x y tr) (cx cy : Array Value) (hx : a.eval x = .agg cx) (hy : a.eval y = .agg cy) (hg : P.eqGuardType P.depth t = false)
    (v : Value) (hr : (binOp op t (.agg cx) (.agg cy)).run P w = .ok v w) (h : K (a.put o.dst v) w) : if Region.wanted o (yielded ops a.tmps) = true then Oper.wp P o a w K Q else E :=
  step_val hw v (by
    simp only [execOp, ho, hx, hy, Sem.run_bind, run_eqGuard_agg (P := P) w op t x y cx cy hg, hr, Result.andThen_ok, Sem.run_pure]) h
theorem step_appEG (hw : Region.wanted o (yielded ops a.tmps) = true) (s x : Operand) (t : TypeId)
    (ho : o.op = .call { callee := .builtin .append, args := #[s, x], argTypes := #[t, t] })
    (pre : List Ro) {post : List Ro} {e : TypeId} {size n bytes : Nat} {v : Value} {xs : List Value} (hm : Mst W w bl (pre ++ ⟨e, size, v, n, xs⟩ :: post)) (hE : El P t e size bytes) (hs : a.eval s = v)
    (B : Nat) (A : Option Addr) (m c : Nat) (news : List Value) (hx : a.eval x = .slice A m c) (hr : Rd w B size A m news) (h1 : ∀ u ∈ news, u.oneCell' = true)
    (h63 : n + m ≤ maxLen) (hbytes : (n + m) * bytes ≤ 140737488355328)
    (h : ∀ A' c' w' N X, N = n + m → X = xs ++ news → Mst W w' bl (pre ++ ⟨e, size, .slice A' N c', N, X⟩ :: post) → K (a.put o.dst (.slice A' N c')) w') :
    if Region.wanted o (yielded ops a.tmps) = true then Oper.wp P o a w K Q else E := by
  rw [if_pos hw]
  obtain ⟨ht, ⟨i, z, hi, hz, hsize, hby, hzs⟩, hp⟩ := hE
  exact wp_app w s x t ho W.heap.size e i z size bytes ht hi hz hsize hby hzs hp v n xs hs (hm.row pre) B A m c news hx hr h1 h63 hbytes hm.bel.size fun A' c' w' h2 h3 h4 => h A' c' w' _ _ rfl rfl (hm.app pre h3 h2 h4)
theorem step_loadG (hw : Region.wanted o (yielded ops a.tmps) = true) (ty : TypeId) (x : Operand) (ho : o.op = .load ty x) (b k : Nat) (hx : a.eval x = .pointer (some ⟨b, k, none⟩)) (cs : List Value) (d : TypeDesc) (hc : w.rangeAt b k cs)
    (hu : P.underlying ty = some d) (hd : d.isRow = true) (hi : (P.info? ty).map (·.size) = some cs.length) (h : K (a.put o.dst (.agg cs.toArray)) w) : if Region.wanted o (yielded ops a.tmps) = true then Oper.wp P o a w K Q else E := by
  rw [if_pos hw]
  exact wp_load_mid ty x ho b k hx cs d hc hu hd hi h
end
theorem size_u8 (w : World) : (sizeOf 5).run Try.prog w = .ok 1 w := size_of (by kernel_rfl) w
theorem equalIn32 (d : Nat) (K : List UInt8) (h : K.length = 32) (w : World) : (Op.equalIn (d + 2) 27 (.agg (b8a K)) (.agg (b8a K))).run Try.prog w = .ok true w := by
  have hx : b8a K = ((K.map fun b => (b.toNat : Int)).map (Value.int .u8)).toArray := by simp [b8a, by8]
  rw [hx, run_equalIn_ints w d .u8 27 5 32 Try.underlying27 Try.underlying5 size_u8 _ _ (by simpa using h) (by simpa using h)]
  simp
theorem eq32T (K : List UInt8) (h : K.length = 32) (w : World) : (binOp .eql 27 (.agg (b8a K)) (.agg (b8a K))).run Try.prog w = .ok (.bool true) w := by
  rw [run_eql_struct, equalIn32 9998 K h w]
  rfl
theorem tkc_ex0 (i r x s : Int) (K : List UInt8) : (tkc i r x s K).extract 0 4 = #[.int .i64 i, .int .i64 r, .int .i64 x, .int .i64 s] := by
  unfold tkc
  rw [Array.extract_append]
  simp
theorem tkc_ex1 (i r x s : Int) (K : List UInt8) (h : K.length = 32) : (tkc i r x s K).extract 4 36 = b8a K := by
  unfold tkc
  rw [Array.extract_append]
  simp [b8a_size, h]
theorem part_cl (cs : Array Value) (w : World) : (part 30 cs 0).run Try.prog w = .ok (.agg (cs.extract 0 4)) w := by
  simp only [part, isAgg, Sem.run_bind, run_underlying Try.underlying30, Result.andThen_ok, Sem.run_pure, if_true, size_of (n := 4) (t := 30) (P := Try.prog) (by kernel_rfl)]
theorem part_sec (cs : Array Value) (w : World) : (part 27 cs 4).run Try.prog w = .ok (.agg (cs.extract 4 36)) w := by
  simp only [part, isAgg, Sem.run_bind, run_underlying Try.underlying27, Result.andThen_ok, Sem.run_pure, if_true, size_of (n := 32) (t := 27) (P := Try.prog) info_arr32]
set_option maxRecDepth 100000 in
theorem eqTok (i r x s : Int) (K : List UInt8) (h : K.length = 32) (w : World) : (binOp .eql 78 (.agg (tkc i r x s K)) (.agg (tkc i r x s K))).run Try.prog w = .ok (.bool true) w := by
  have hf : (Try.prog.fieldsOf 78).toList.map (fun f => (f.name, f.type, f.offset)) = [("Claims", 30, 0), ("Secret", 27, 4)] := by kernel_rfl
  have hc : (Op.equalIn 9999 30 (.agg #[.int .i64 i, .int .i64 r, .int .i64 x, .int .i64 s]) (.agg #[.int .i64 i, .int .i64 r, .int .i64 x, .int .i64 s])).run Try.prog w = .ok true w := by
    go_simp
  rw [run_eql_struct, run_equalIn_struct w 9999 78 _ _ (by kernel_rfl) (by kernel_rfl)]
  generalize (Try.prog.fieldsOf 78).toList = fs at hf
  rcases fs with _ | ⟨f0, _ | ⟨f1, _ | ⟨f2, fs⟩⟩⟩
  · simp at hf
  · simp at hf
  · simp only [List.map_cons, List.map_nil, List.cons.injEq, Prod.mk.injEq, and_true] at hf
    obtain ⟨⟨n0, t0, o0⟩, ⟨n1, t1, o1⟩⟩ := hf
    simp only [Op.eqFields, n0, t0, o0, n1, t1, o1, Sem.run_bind, Sem.run_ite, part_cl, part_sec, Result.andThen_ok, tkc_ex0, tkc_ex1 i r x s K h, hc, equalIn32 9997 K h w]
    rfl
  · simp at hf
end Go.Proofs.Ytghcdffpplimoaa
