/- Packets: their cells; plain words. -/
import Derived.Test.YtnbemfceoianiaaDoorShaA
import Derived.Test.YtnbemfceoianiaaDoorExt
import Derived.Deep.RegionHeld3
import Derived.Deep.DeepCutAuto
import Derived.BigQuiet
namespace Go.Proofs.YtnbemfceoianiaaDoor
set_option linter.unusedVariables false
set_option linter.unusedSimpArgs false
open Go.RowKit

theorem Mst.toVP {W w w2 w3 : World} {bl : Bl} {ow : List Ro} (h : Mst W w bl ow) (e : w2 = w3) (hh : w = w2) : Mst W w3 bl ow := by
  subst e hh
  exact h
theorem Mst.newXP {W w w2 : World} {bl : Bl} {ow : List Ro} {t : TypeId} {cs : Array Value} (h : Mst W w bl ow) (hw : w.alloc (.cells cs t) = w2) : ∃ g, w.heap.size = g ∧ Mst W w2 ((g, t, cs) :: bl) ow := by
  subst hw
  exact ⟨_, rfl, h.new t cs⟩
section
variable {P : Program} {w W : World} {bl : Bl}
theorem step_appEP {ops : Array Oper} {o : Oper} {a : Act} {K : Act → World → Prop} {Q : Exit → Act → World → Prop} {E : Prop} (hgd : o.guard = none) (s x : Operand) (t : TypeId)
    (ho : o.op = .call { callee := .builtin .append, args := #[s, x], argTypes := #[t, t] })
    (pre : List Ro) {post : List Ro} {e : TypeId} {size n bytes : Nat} {v : Value} {xs : List Value} (hm : Mst W w bl (pre ++ ⟨e, size, v, n, xs⟩ :: post)) (hE : El P t e size bytes) (hs : a.eval s = v)
    (B : Nat) (A : Option Addr) (m c : Nat) (news : List Value) (hx : a.eval x = .slice A m c) (hr : Rd w B size A m news) (h1 : ∀ u ∈ news, u.oneCell' = true)
    (h63 : n + m ≤ maxLen) (hbytes : (n + m) * bytes ≤ 140737488355328)
    (h : ∀ A' c' w' N X, N = n + m → X = xs ++ news → Mst W w' bl (pre ++ ⟨e, size, .slice A' N c', N, X⟩ :: post) → K (a.put o.dst (.slice A' N c')) w') :
    if Region.wanted o (yielded ops a.tmps) = true then Oper.wp P o a w K Q else E :=
  step_appM hgd s x t ho pre hm hE hs B A m c news hx hr h1 h63 hbytes fun A' c' w' hm' => h A' c' w' _ _ rfl rfl hm'
theorem wpList_appEP {ops : Array Oper} {rest : List Oper} {o : Oper} {a : Act} {Q : Exit → Act → World → Prop} (hgd : o.guard = none) (s x : Operand) (t : TypeId)
    (ho : o.op = .call { callee := .builtin .append, args := #[s, x], argTypes := #[t, t] })
    (pre : List Ro) {post : List Ro} {e : TypeId} {size n bytes : Nat} {v : Value} {xs : List Value} (hm : Mst W w bl (pre ++ ⟨e, size, v, n, xs⟩ :: post)) (hE : El P t e size bytes) (hs : a.eval s = v)
    (B : Nat) (A : Option Addr) (m c : Nat) (news : List Value) (hx : a.eval x = .slice A m c) (hr : Rd w B size A m news) (h1 : ∀ u ∈ news, u.oneCell' = true)
    (h63 : n + m ≤ maxLen) (hbytes : (n + m) * bytes ≤ 140737488355328)
    (h : ∀ A' c' w' N X, N = n + m → X = xs ++ news → Mst W w' bl (pre ++ ⟨e, size, .slice A' N c', N, X⟩ :: post) → wpList P ops Q rest (a.put o.dst (.slice A' N c')) w') : wpList P ops Q (o :: rest) a w :=
  wpList_appM hgd s x t ho pre hm hE hs B A m c news hx hr h1 h63 hbytes fun A' c' w' hm' => h A' c' w' _ _ rfl rfl hm'
end

/-- A packet: its numbers, its body's slice and bytes, its tag. -/
structure Pk where
  k : Int
  i : Int
  r : Int
  x : Int
  s : Int
  t : Int
  b : Int
  c : Int
  A : Option Addr
  l : List UInt8
  cp : Nat
  T : List UInt8
def pkh (p : Pk) : Array Value := #[.int .i64 p.k, .int .i64 p.i, .int .i64 p.r, .int .i64 p.x, .int .i64 p.s, .int .i64 p.t, .int .i64 p.b, .int .i64 p.c, .slice p.A p.l.length p.cp]
def pkc (p : Pk) : Array Value := pkh p ++ b8a p.T
abbrev Z32 : List UInt8 := List.replicate 32 0
/-- No packet. -/
def Pk0 : Pk := ⟨0, 0, 0, 0, 0, 0, 0, 0, none, [], 0, Z32⟩
theorem pkc_size {p : Pk} (h : p.T.length = 32) : (pkc p).size = 41 := by simp [pkc, pkh, b8a_size, h]
theorem pkc_one (p : Pk) : (pkc p).all (·.oneCell') = true := by
  rw [pkc, Array.all_append, b8a_one]
  simp [pkh, Value.oneCell']
theorem pkc_get9 (p : Pk) (j : Nat) : (pkc p)[9 + j]? = (b8a p.T)[j]? := by
  unfold pkc
  rw [Array.getElem?_append_right (by simp [pkh])]
  congr 1
  simp [pkh]
theorem pkc_range {w : World} {g : Nat} {t : TypeId} {p : Pk} (h : Bk w g t (pkc p)) : w.rangeAt g 9 (by8 p.T) := fun j v hv => by rw [h.cell, pkc_get9]; simpa [b8a] using hv
theorem pkc_whole {w : World} {g : Nat} {t : TypeId} {p : Pk} (h : Bk w g t (pkc p)) : w.rangeAt g 0 (pkc p).toList := fun j v hv => by rw [h.cell, Nat.zero_add]; simpa using hv
/-- The nine cells ahead of the tag. -/
abbrev PkAt (w : World) (g o : Nat) (p : Pk) : Prop :=
  w.cell? ⟨g, o + 0, none⟩ = some (.int .i64 p.k) ∧ w.cell? ⟨g, o + 1, none⟩ = some (.int .i64 p.i) ∧ w.cell? ⟨g, o + 2, none⟩ = some (.int .i64 p.r) ∧ w.cell? ⟨g, o + 3, none⟩ = some (.int .i64 p.x) ∧ w.cell? ⟨g, o + 4, none⟩ = some (.int .i64 p.s) ∧
  w.cell? ⟨g, o + 5, none⟩ = some (.int .i64 p.t) ∧ w.cell? ⟨g, o + 6, none⟩ = some (.int .i64 p.b) ∧ w.cell? ⟨g, o + 7, none⟩ = some (.int .i64 p.c) ∧ w.cell? ⟨g, o + 8, none⟩ = some (.slice p.A p.l.length p.cp)
theorem pkc_lt (p : Pk) {j : Nat} (h : j < 9) : (pkc p)[j]? = (pkh p)[j]? := by
  unfold pkc
  rw [Array.getElem?_append_left (by simp [pkh]; omega)]
theorem pkc_cells {w : World} {g : Nat} {t : TypeId} {p : Pk} (h : Bk w g t (pkc p)) :
    w.cell? ⟨g, 0, none⟩ = some (.int .i64 p.k) ∧ w.cell? ⟨g, 1, none⟩ = some (.int .i64 p.i) ∧ w.cell? ⟨g, 2, none⟩ = some (.int .i64 p.r) ∧ w.cell? ⟨g, 3, none⟩ = some (.int .i64 p.x) ∧ w.cell? ⟨g, 4, none⟩ = some (.int .i64 p.s) ∧
    w.cell? ⟨g, 5, none⟩ = some (.int .i64 p.t) ∧ w.cell? ⟨g, 6, none⟩ = some (.int .i64 p.b) ∧ w.cell? ⟨g, 7, none⟩ = some (.int .i64 p.c) ∧ w.cell? ⟨g, 8, none⟩ = some (.slice p.A p.l.length p.cp) :=
  ⟨(h.cell 0).trans ((pkc_lt p (by decide)).trans rfl), (h.cell 1).trans ((pkc_lt p (by decide)).trans rfl), (h.cell 2).trans ((pkc_lt p (by decide)).trans rfl), (h.cell 3).trans ((pkc_lt p (by decide)).trans rfl), (h.cell 4).trans ((pkc_lt p (by decide)).trans rfl), (h.cell 5).trans ((pkc_lt p (by decide)).trans rfl), (h.cell 6).trans ((pkc_lt p (by decide)).trans rfl), (h.cell 7).trans ((pkc_lt p (by decide)).trans rfl), (h.cell 8).trans ((pkc_lt p (by decide)).trans rfl)⟩
theorem pkc_rb {w : World} {g : Nat} {t : TypeId} {p : Pk} (h : Bk w g t (pkc p)) : RB w w.heap.size (some ⟨g, 9, none⟩) p.T :=
  ⟨by simp [by8], fun _ => ⟨g, 9, rfl, h.lt, pkc_range h⟩⟩
theorem info_pk41 : (Tryd.prog.info? 33).map (·.size) = some 41 := by kernel_rfl
theorem info_rpk41 : (Tryd.prog.info? 38).map (·.size) = some 41 := by kernel_rfl
theorem info_pk {p : Pk} (h : p.T.length = 32) : (Tryd.prog.info? 33).map (·.size) = some (pkc p).size := by rw [pkc_size h]; exact info_pk41
theorem info_rpk {p : Pk} (h : p.T.length = 32) : (Tryd.prog.info? 38).map (·.size) = some (pkc p).size := by rw [pkc_size h]; exact info_rpk41
theorem info_arr32p : (Tryd.prog.info? 31).map (·.size) = some 32 := by kernel_rfl
theorem info_tag {K : List UInt8} (h : K.length = 32) : (Tryd.prog.info? 31).map (·.size) = some (by8 K).length := by rw [by8_length, h]; exact info_arr32p
theorem info_tagA {K : List UInt8} (h : K.length = 32) : (Tryd.prog.info? 31).map (·.size) = some (b8a K).size := by rw [b8a_size, h]; exact info_arr32p
theorem len32p : ∀ {K : List UInt8}, K.length = 32 → ∃ a0 a1 a2 a3 a4 a5 a6 a7 a8 a9 b0 b1 b2 b3 b4 b5 b6 b7 b8 b9 c0 c1 c2 c3 c4 c5 c6 c7 c8 c9 d0 d1, K = [a0, a1, a2, a3, a4, a5, a6, a7, a8, a9, b0, b1, b2, b3, b4, b5, b6, b7, b8, b9, c0, c1, c2, c3, c4, c5, c6, c7, c8, c9, d0, d1]
  | [a0, a1, a2, a3, a4, a5, a6, a7, a8, a9, b0, b1, b2, b3, b4, b5, b6, b7, b8, b9, c0, c1, c2, c3, c4, c5, c6, c7, c8, c9, d0, d1], _ => ⟨a0, a1, a2, a3, a4, a5, a6, a7, a8, a9, b0, b1, b2, b3, b4, b5, b6, b7, b8, b9, c0, c1, c2, c3, c4, c5, c6, c7, c8, c9, d0, d1, rfl⟩
set_option maxRecDepth 100000 in
theorem build_pk {K : List UInt8} (h : K.length = 32) (k i r x s t b c : Int) (A : Option Addr) (l : List UInt8) (cp : Nat) (w : World) :
    (Instr.build 33 #[(0, .int .i64 k), (1, .agg #[.int .i64 i, .int .i64 r, .int .i64 x, .int .i64 s]), (2, .int .i64 t), (3, .agg #[.int .i64 b, .int .i64 c]), (4, .slice A l.length cp), (5, .agg (b8a K))]).run Tryd.prog w = .ok (.agg (pkc ⟨k, i, r, x, s, t, b, c, A, l, cp, K⟩)) w := by
  obtain ⟨a0, a1, a2, a3, a4, a5, a6, a7, a8, a9, b0, b1, b2, b3, b4, b5, b6, b7, b8, b9, c0, c1, c2, c3, c4, c5, c6, c7, c8, c9, d0, d1, rfl⟩ := len32p h
  kernel_rfl
set_option maxRecDepth 100000 in
theorem build_rpk {K : List UInt8} (h : K.length = 32) (k i r x s t b c : Int) (A : Option Addr) (l : List UInt8) (cp : Nat) (w : World) :
    (Instr.build 38 #[(0, .int .i64 k), (1, .agg #[.int .i64 i, .int .i64 r, .int .i64 x, .int .i64 s]), (2, .int .i64 t), (3, .agg #[.int .i64 b, .int .i64 c]), (4, .slice A l.length cp), (5, .agg (b8a K))]).run Tryd.prog w = .ok (.agg (pkc ⟨k, i, r, x, s, t, b, c, A, l, cp, K⟩)) w := by
  obtain ⟨a0, a1, a2, a3, a4, a5, a6, a7, a8, a9, b0, b1, b2, b3, b4, b5, b6, b7, b8, b9, c0, c1, c2, c3, c4, c5, c6, c7, c8, c9, d0, d1, rfl⟩ := len32p h
  kernel_rfl
set_option maxRecDepth 100000 in
theorem build_pk0 (w : World) : (Instr.build 33 #[]).run Tryd.prog w = .ok (.agg (pkc Pk0)) w := by kernel_rfl
set_option maxRecDepth 100000 in
theorem build_pk1 (k : Int) (w : World) : (Instr.build 33 #[(0, .int .i64 k)]).run Tryd.prog w = .ok (.agg (pkc { Pk0 with k := k })) w := by kernel_rfl
set_option maxRecDepth 100000 in
theorem build_tag0 (w : World) : (Instr.build 31 #[]).run Tryd.prog w = .ok (.agg (b8a Z32)) w := by kernel_rfl

section
variable {P : Program} {w : World} {ops : Array Oper} {rest : List Oper} {o : Oper} {a : Act} {Q : Exit → Act → World → Prop} {K : Act → World → Prop} {E : Prop}
theorem step_valP (hw : Region.wanted o (yielded ops a.tmps) = true) (v : Value) (hx : (execOp a.eval o).run P w = .ok (.value v) w) (h : K (a.put o.dst v) w) : if Region.wanted o (yielded ops a.tmps) = true then Oper.wp P o a w K Q else E := by
  rw [if_pos hw]
  unfold Oper.wp
  rw [hx]
  exact h
theorem exec_buildP (ty : TypeId) (parts : List (Nat × Operand)) (ho : o.op = .build ty parts.toArray) (vs : List (Nat × Value)) (hvs : (parts.map fun (i, x) => (i, a.eval x)) = vs) (v : Value) (hr : (Instr.build ty vs.toArray).run P w = .ok v w) : (execOp a.eval o).run P w = .ok (.value v) w := by
  simp only [execOp, ho, List.map_toArray, hvs, Sem.run_bind, hr, Result.andThen_ok, Sem.run_pure]
theorem step_buildP (hw : Region.wanted o (yielded ops a.tmps) = true) (ty : TypeId) (parts : List (Nat × Operand)) (ho : o.op = .build ty parts.toArray) (vs : List (Nat × Value)) (hvs : (parts.map fun (i, x) => (i, a.eval x)) = vs) (v : Value) (hr : (Instr.build ty vs.toArray).run P w = .ok v w)
    (h : K (a.put o.dst v) w) : if Region.wanted o (yielded ops a.tmps) = true then Oper.wp P o a w K Q else E := step_valP hw v (exec_buildP ty parts ho vs hvs v hr) h
theorem wpList_buildP (hw : Region.wanted o (yielded ops a.tmps) = true) (ty : TypeId) (parts : List (Nat × Operand)) (ho : o.op = .build ty parts.toArray) (vs : List (Nat × Value)) (hvs : (parts.map fun (i, x) => (i, a.eval x)) = vs) (v : Value) (hr : (Instr.build ty vs.toArray).run P w = .ok v w)
    (h : wpList P ops Q rest (a.put o.dst v) w) : wpList P ops Q (o :: rest) a w := wpList_val v hw (exec_buildP ty parts ho vs hvs v hr) h
theorem step_loadP (hw : Region.wanted o (yielded ops a.tmps) = true) (ty : TypeId) (x : Operand) (ho : o.op = .load ty x) (b k : Nat) (hx : a.eval x = .pointer (some ⟨b, k, none⟩)) (cs : List Value) (d : TypeDesc) (hc : w.rangeAt b k cs)
    (hu : P.underlying ty = some d) (hd : d.isRow = true) (hi : (P.info? ty).map (·.size) = some cs.length) (h : K (a.put o.dst (.agg cs.toArray)) w) : if Region.wanted o (yielded ops a.tmps) = true then Oper.wp P o a w K Q else E := by
  rw [if_pos hw]
  exact wp_load_mid ty x ho b k hx cs d hc hu hd hi h
theorem step_store_rowP (hgd : o.guard = none) (ty : TypeId) (x y : Operand) (ho : o.op = .store ty x y)
    (g : Nat) (cells : Array Value) (hx : a.eval x = .pointer (some ⟨g, 0, none⟩)) (hy : a.eval y = .agg cells)
    (t : TypeId) (old : Array Value) (hg : w.heap[g]? = some (.cells old t (0, 0))) (hi : (P.info? ty).map (·.size) = some cells.size)
    (hold : old.size = cells.size) (h1 : cells.all (·.oneCell') = true)
    (h : K (a.put o.dst undef) (w.setRow g cells)) : if Region.wanted o (yielded ops a.tmps) = true then Oper.wp P o a w K Q else E := by
  have hw : Region.wanted o (yielded ops a.tmps) = true := by simp [Region.wanted, hgd]
  rw [if_pos hw]
  exact wp_store_row ty x y ho g cells hx hy t old hg hi hold h1 h
end

/-- Cells from o on are others. -/
def putAt (cs : Array Value) (o : Nat) : List Value → Array Value
  | [] => cs
  | v :: vs => putAt (cs.setIfInBounds o v) (o + 1) vs
theorem putAt_size : ∀ (vs : List Value) (cs : Array Value) (o : Nat), (putAt cs o vs).size = cs.size
  | [], _, _ => rfl
  | v :: vs, cs, o => by rw [putAt, putAt_size vs]; simp
theorem putAt_get : ∀ (vs : List Value) (cs : Array Value) (o j : Nat), o + vs.length ≤ cs.size → (putAt cs o vs)[j]? = if o ≤ j ∧ j < o + vs.length then vs[j - o]? else cs[j]?
  | [], cs, o, j, _ => by rw [putAt, if_neg (by simp only [List.length_nil]; omega)]
  | v :: vs, cs, o, j, h => by
    simp only [List.length_cons] at h
    rw [putAt, putAt_get vs _ _ _ (by simp; omega)]
    by_cases h1 : o + 1 ≤ j ∧ j < o + 1 + vs.length
    · rw [if_pos h1, if_pos (by simp only [List.length_cons]; omega), show j - o = (j - (o + 1)) + 1 by omega, List.getElem?_cons_succ]
    · rw [if_neg h1]
      by_cases h2 : j = o
      · subst h2
        rw [if_pos (by simp only [List.length_cons]; omega), Nat.sub_self, List.getElem?_cons_zero, Array.getElem?_setIfInBounds_self_of_lt (by omega)]
      · rw [if_neg (by simp only [List.length_cons]; omega), Array.getElem?_setIfInBounds_ne (by omega)]
theorem putAt_tag (p : Pk) (K : List UInt8) (h : p.T.length = 32) (hK : K.length = 32) : putAt (pkc p) 9 (by8 K) = pkc { p with T := K } := by
  apply Array.ext_getElem?
  intro j
  rw [putAt_get _ _ _ _ (by rw [pkc_size h, by8_length, hK]; decide)]
  by_cases hj : 9 ≤ j ∧ j < 9 + (by8 K).length
  · rw [if_pos hj]
    obtain ⟨q, rfl⟩ : ∃ q, j = 9 + q := ⟨j - 9, by omega⟩
    rw [pkc_get9, show 9 + q - 9 = q by omega]
    simp [b8a]
  · rw [if_neg hj]
    by_cases h9 : j < 9
    · rw [pkc_lt _ h9, pkc_lt _ h9]
      rfl
    · rw [by8_length, hK] at hj
      rw [Array.getElem?_eq_none (by rw [pkc_size h]; omega), Array.getElem?_eq_none (by rw [pkc_size (p := { p with T := K }) hK]; omega)]
theorem Mst.putAt : ∀ (vs : List Value) {W wr : World} (pre : Bl) {post : Bl} {ow : List Ro} {g : Nat} {t : TypeId} {cs : Array Value} (h : Mst W wr (pre ++ (g, t, cs) :: post) ow) (o : Nat), Mst W (wr.setCells g o vs) (pre ++ (g, t, putAt cs o vs) :: post) ow
  | [], _, _, pre, _, _, _, _, _, h, _ => h
  | v :: vs, _, _, pre, _, _, _, _, _, h, o => Mst.putAt vs pre (h.put pre o v) (o + 1)
theorem Bk.thereP {w : World} {g : Nat} {t : TypeId} {cs : Array Value} (h : Bk w g t cs) (o n : Nat) (hn : o + n ≤ cs.size) : w.there g o n := fun j hj => by
  rw [h.cell, h.fr]
  exact ⟨by simp; omega, rfl⟩
end Go.Proofs.YtnbemfceoianiaaDoor
