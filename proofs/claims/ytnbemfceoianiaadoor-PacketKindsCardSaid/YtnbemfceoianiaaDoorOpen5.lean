/- An opener for a packet of the document's. -/
import Derived.Test.YtnbemfceoianiaaDoorOpenA
import Derived.Test.YtnbemfceoianiaaDoorPk1
import Derived.Deep.Strs
namespace Go.Proofs.YtnbemfceoianiaaDoor
set_option linter.unusedVariables false
set_option linter.unusedSimpArgs false
open Go.ChangeShapes Go.WideShapes Go.ChangeAt Go.RowKit Go.Deep

theorem one_at {l : List Value} {j : Nat} {v : Value} (h : (l.drop j).take 1 = [v]) : l[j]? = some v := by
  have h3 : ((l.drop j).take 1)[0]? = some v := by rw [h]; rfl
  simpa using h3
theorem mid_at {l : List Value} {a b c : Nat} (hc : c < b) : ((l.drop a).take b)[c]? = l[a + c]? := by
  rw [List.getElem?_take, if_pos hc, List.getElem?_drop]
section
variable {H : Type} {enc : TypeId × Value → H} {W : World}
theorem xs_some {α : Type} {xs : List α} {n i : Nat} (h : xs.length = n) (hi : i < n) : ∃ x, xs[i]? = some x := ⟨_, List.getElem?_eq_getElem (by omega)⟩
set_option maxRecDepth 100000 in
/-- A packet's cells, of whatever is opened. -/
theorem trod_pk {fuel : Nat} {cs : List Value} {x : DataW H × List MemPlace} (h : DataW.trod enc Tryd.prog W 0 (fun _ => true) true fuel 38 cs = some x) :
    ∃ p : Pk, cs = (pkc p).toList ∧ p.T.length = 32 ∧ RB W W.heap.size p.A p.l ∧ p.l.length ≤ p.cp ∧ p.cp ≤ 9223372036854775807 := by
  obtain ⟨xs, n, -, -, hlen, hxl, hf⟩ := DataW.trod_struct Tryd.underlying38 h
  have hcl : Tryd.prog.cellsOf 38 = 41 := by kernel_rfl
  have c3 : Tryd.prog.cellsOf 3 = 1 := by kernel_rfl
  have c23 : Tryd.prog.cellsOf 35 = 4 := by kernel_rfl
  have c25 : Tryd.prog.cellsOf 36 = 2 := by kernel_rfl
  have c26 : Tryd.prog.cellsOf 30 = 1 := by kernel_rfl
  have c27 : Tryd.prog.cellsOf 31 = 32 := by kernel_rfl
  have c5 : Tryd.prog.cellsOf 5 = 1 := by kernel_rfl
  rw [hcl] at hlen
  have hxl6 : xs.length = 6 := hxl
  obtain ⟨y0, e0⟩ := xs_some hxl6 (show 0 < 6 by decide)
  obtain ⟨y1, e1⟩ := xs_some hxl6 (show 1 < 6 by decide)
  obtain ⟨y2, e2⟩ := xs_some hxl6 (show 2 < 6 by decide)
  obtain ⟨y3, e3⟩ := xs_some hxl6 (show 3 < 6 by decide)
  obtain ⟨y4, e4⟩ := xs_some hxl6 (show 4 < 6 by decide)
  obtain ⟨y5, e5⟩ := xs_some hxl6 (show 5 < 6 by decide)
  have g0 : DataW.trod enc Tryd.prog W 0 (fun _ => true) true n 3 ((cs.drop 0).take (Tryd.prog.cellsOf 3)) = xs[0]? := hf 0 _ rfl
  have g1 : DataW.trod enc Tryd.prog W 0 (fun _ => true) true n 35 ((cs.drop 1).take (Tryd.prog.cellsOf 35)) = xs[1]? := hf 1 _ rfl
  have g2 : DataW.trod enc Tryd.prog W 0 (fun _ => true) true n 3 ((cs.drop 5).take (Tryd.prog.cellsOf 3)) = xs[2]? := hf 2 _ rfl
  have g3 : DataW.trod enc Tryd.prog W 0 (fun _ => true) true n 36 ((cs.drop 6).take (Tryd.prog.cellsOf 36)) = xs[3]? := hf 3 _ rfl
  have g4 : DataW.trod enc Tryd.prog W 0 (fun _ => true) true n 30 ((cs.drop 8).take (Tryd.prog.cellsOf 30)) = xs[4]? := hf 4 _ rfl
  have g5 : DataW.trod enc Tryd.prog W 0 (fun _ => true) true n 31 ((cs.drop 9).take (Tryd.prog.cellsOf 31)) = xs[5]? := hf 5 _ rfl
  rw [e0, c3] at g0
  rw [e1, c23] at g1
  rw [e2, c3] at g2
  rw [e3, c25] at g3
  rw [e4, c26] at g4
  rw [e5, c27] at g5
  obtain ⟨k, hk, -, -⟩ := DataW.trod_int Tryd.underlying3 g0
  obtain ⟨t, ht, -, -⟩ := DataW.trod_int Tryd.underlying3 g2
  have k0 := one_at hk
  have k5 := one_at ht
  obtain ⟨r, hr, hok⟩ := trod_row (k := .u8) Tryd.underlying30 Tryd.underlying5 c5 g4
  have k8 := one_at hr
  -- the claims
  obtain ⟨ys, n1, -, -, -, hyl, hg⟩ := DataW.trod_struct Tryd.underlying35 g1
  have hyl4 : ys.length = 4 := hyl
  obtain ⟨u0, f0⟩ := xs_some hyl4 (show 0 < 4 by decide)
  obtain ⟨u1, f1⟩ := xs_some hyl4 (show 1 < 4 by decide)
  obtain ⟨u2, f2⟩ := xs_some hyl4 (show 2 < 4 by decide)
  obtain ⟨u3, f3⟩ := xs_some hyl4 (show 3 < 4 by decide)
  have q0 : DataW.trod enc Tryd.prog W 0 (fun _ => true) true n1 3 ((((cs.drop 1).take 4).drop 0).take (Tryd.prog.cellsOf 3)) = ys[0]? := hg 0 _ rfl
  have q1 : DataW.trod enc Tryd.prog W 0 (fun _ => true) true n1 3 ((((cs.drop 1).take 4).drop 1).take (Tryd.prog.cellsOf 3)) = ys[1]? := hg 1 _ rfl
  have q2 : DataW.trod enc Tryd.prog W 0 (fun _ => true) true n1 3 ((((cs.drop 1).take 4).drop 2).take (Tryd.prog.cellsOf 3)) = ys[2]? := hg 2 _ rfl
  have q3 : DataW.trod enc Tryd.prog W 0 (fun _ => true) true n1 3 ((((cs.drop 1).take 4).drop 3).take (Tryd.prog.cellsOf 3)) = ys[3]? := hg 3 _ rfl
  rw [f0, c3] at q0
  rw [f1, c3] at q1
  rw [f2, c3] at q2
  rw [f3, c3] at q3
  obtain ⟨i, hi, -, -⟩ := DataW.trod_int Tryd.underlying3 q0
  obtain ⟨ro, hro, -, -⟩ := DataW.trod_int Tryd.underlying3 q1
  obtain ⟨x1, hx1, -, -⟩ := DataW.trod_int Tryd.underlying3 q2
  obtain ⟨s, hs, -, -⟩ := DataW.trod_int Tryd.underlying3 q3
  have k1 := (mid_at (l := cs) (a := 1) (b := 4) (c := 0) (by decide)).symm.trans (one_at hi)
  have k2 := (mid_at (l := cs) (a := 1) (b := 4) (c := 1) (by decide)).symm.trans (one_at hro)
  have k3 := (mid_at (l := cs) (a := 1) (b := 4) (c := 2) (by decide)).symm.trans (one_at hx1)
  have k4 := (mid_at (l := cs) (a := 1) (b := 4) (c := 3) (by decide)).symm.trans (one_at hs)
  -- the nonce
  obtain ⟨zs, n2, -, -, -, hzl, hh⟩ := DataW.trod_struct Tryd.underlying36 g3
  have hzl2 : zs.length = 2 := hzl
  obtain ⟨v0, w0⟩ := xs_some hzl2 (show 0 < 2 by decide)
  obtain ⟨v1, w1⟩ := xs_some hzl2 (show 1 < 2 by decide)
  have p0 : DataW.trod enc Tryd.prog W 0 (fun _ => true) true n2 3 ((((cs.drop 6).take 2).drop 0).take (Tryd.prog.cellsOf 3)) = zs[0]? := hh 0 _ rfl
  have p1 : DataW.trod enc Tryd.prog W 0 (fun _ => true) true n2 3 ((((cs.drop 6).take 2).drop 1).take (Tryd.prog.cellsOf 3)) = zs[1]? := hh 1 _ rfl
  rw [w0, c3] at p0
  rw [w1, c3] at p1
  obtain ⟨b, hb, -, -⟩ := DataW.trod_int Tryd.underlying3 p0
  obtain ⟨c, hc, -, -⟩ := DataW.trod_int Tryd.underlying3 p1
  have k6 := (mid_at (l := cs) (a := 6) (b := 2) (c := 0) (by decide)).symm.trans (one_at hb)
  have k7 := (mid_at (l := cs) (a := 6) (b := 2) (c := 1) (by decide)).symm.trans (one_at hc)
  -- the tag
  obtain ⟨ts, n3, -, -, -, htl, ha⟩ := DataW.trod_array Tryd.underlying31 g5
  rw [c5] at ha
  obtain ⟨F, hF⟩ : ∃ F : Nat → Int, ∀ j, j < 32 → cs[9 + j]? = some (.int .u8 (F j)) ∧ (Lit.int .u8 (F j)).wf = true := by
    refine choose_lt (p := fun j z => cs[9 + j]? = some (.int .u8 z) ∧ (Lit.int .u8 z).wf = true) ?_
    intro j hj
    have g := ha j hj
    obtain ⟨y, hy⟩ := xs_some htl hj
    rw [hy, Nat.mul_one] at g
    obtain ⟨z, hz, -, hwf⟩ := DataW.trod_int Tryd.underlying5 g
    exact ⟨z, (mid_at (l := cs) (a := 9) (b := 32) (c := j) hj).symm.trans (one_at hz), hwf⟩
  obtain ⟨T, hT1, hT2⟩ := bytes_of ((List.range 32).map F) (fun z hz => by
    obtain ⟨j, hj, rfl⟩ := List.mem_map.1 hz
    exact (hF j (List.mem_range.1 hj)).2)
  have hTl : T.length = 32 := by rw [hT2]; simp
  obtain ⟨l, e, e'⟩ := bytes_of r.zs hok.wf
  have hrd := hok.rd
  have hle := hok.le
  have hcap := hok.cap
  rw [e] at hrd
  rw [← e'] at hrd hle
  refine ⟨⟨k, i, ro, x1, s, t, b, c, r.A, l, r.c, T⟩, ?_, hTl, hrd, hle, by unfold maxLen at hcap; exact hcap⟩
  apply List.ext_getElem?
  intro j
  rw [show (pkc ⟨k, i, ro, x1, s, t, b, c, r.A, l, r.c, T⟩).toList[j]? = (pkc ⟨k, i, ro, x1, s, t, b, c, r.A, l, r.c, T⟩)[j]? from Array.getElem?_toList ..]
  by_cases h9 : j < 9
  · rw [pkc_lt _ h9]
    have hj : j = 0 ∨ j = 1 ∨ j = 2 ∨ j = 3 ∨ j = 4 ∨ j = 5 ∨ j = 6 ∨ j = 7 ∨ j = 8 := by omega
    rcases hj with rfl | rfl | rfl | rfl | rfl | rfl | rfl | rfl | rfl
    · exact k0
    · exact k1
    · exact k2
    · exact k3
    · exact k4
    · exact k5
    · exact k6
    · exact k7
    · rw [k8]
      show some r.v = some (Value.slice r.A l.length r.c)
      rw [e']
      rfl
  · obtain ⟨q, rfl⟩ : ∃ q, j = 9 + q := ⟨j - 9, by omega⟩
    rw [pkc_get9]
    by_cases hq : q < 32
    · rw [(hF q hq).1]
      show _ = (by8 T).toArray[q]?
      rw [List.getElem?_toArray, ← hT1]
      simp [hq]
    · rw [List.getElem?_eq_none (by omega), Array.getElem?_eq_none (by rw [b8a_size, hTl]; omega)]
set_option maxRecDepth 100000 in
theorem open_pk {r : Reach} {b0 : Nat} {v : Value} {d : DataW H} {ps : List MemPlace} (hval : Value.okWide Tryd.prog W r b0 38 v) (h : DataW.Trod enc Tryd.prog W 0 (fun _ => true) true 38 v d ps) :
    ∃ p : Pk, v = .agg (pkc p) ∧ p.T.length = 32 ∧ RB W W.heap.size p.A p.l ∧ p.l.length ≤ p.cp ∧ p.cp ≤ 9223372036854775807 := by
  obtain ⟨cs, rfl, hsz⟩ := okWide_struct Tryd.underlying38 hval
  obtain ⟨fuel, hf⟩ := h
  obtain ⟨p, hp, h1⟩ := trod_pk hf
  exact ⟨p, congrArg Value.agg (Array.toList_inj.1 (show cs.toList = (pkc p).toList from hp)), h1⟩
end
end Go.Proofs.YtnbemfceoianiaaDoor
