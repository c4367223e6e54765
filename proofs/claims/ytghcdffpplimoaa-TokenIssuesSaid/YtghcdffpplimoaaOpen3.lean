/- An opener for a field: a struct of two ints and a slice of bytes, by value. -/
import Derived.Test.YtghcdffpplimoaaOpenA
import Derived.Deep.Strs
namespace Go.Proofs.Ytghcdffpplimoaa
set_option linter.unusedVariables false
open Go.ChangeShapes Go.WideShapes Go.ChangeAt Go.RowKit Go.Deep

section
variable {H : Type} {enc : TypeId × Value → H} {P : Program} {W : World} {r : Reach} {b0 : Nat} {t t2 e : TypeId} {v : Value} {d : DataW H} {ps : List MemPlace} {k : IntKind}

theorem open_fld {f0 f1 f2 : Field} (ht : P.underlying t = some (.struct #[f0, f1, f2])) (ct : P.cellsOf t = 3)
    (o0 : f0.offset = 0) (u0 : P.underlying f0.type = some (.int .i64)) (c0 : P.cellsOf f0.type = 1)
    (o1 : f1.offset = 1) (u1 : P.underlying f1.type = some (.int .i64)) (c1 : P.cellsOf f1.type = 1)
    (o2 : f2.offset = 2) (u2 : P.underlying f2.type = some (.slice e)) (c2 : P.cellsOf f2.type = 1) (he : P.underlying e = some (.int k)) (ce : P.cellsOf e = 1)
    (hval : Value.okWide P W r b0 t v) (h : DataW.Trod enc P W 0 (fun _ => true) true t v d ps) :
    ∃ (s n : Int) (x : Rw), v = .agg #[.int .i64 s, .int .i64 n, x.v] ∧ in64 s ∧ in64 n ∧ x.ok k W := by
  obtain ⟨cs, rfl, hsz⟩ := okWide_struct ht hval
  obtain ⟨fuel, hf⟩ := h
  obtain ⟨y0, y1, y2, m, _, _, g0, g1, g2⟩ := trod_struct3 ht hf
  rw [o0, c0] at g0
  rw [o1, c1] at g1
  rw [o2, c2] at g2
  obtain ⟨z0, h0, _, w0⟩ := DataW.trod_int u0 g0
  obtain ⟨z1, h1, _, w1⟩ := DataW.trod_int u1 g1
  obtain ⟨x, h2, hx⟩ := trod_row u2 he ce g2
  have hcs : cs.size = 3 := hsz.trans ct
  obtain ⟨l⟩ := cs
  match l, hcs with
  | [a0, a1, a2], _ =>
    simp [Value.cells] at h0 h1 h2
    subst h0 h1 h2
    exact ⟨z0, z1, x, rfl, in64_of w0, in64_of w1, hx⟩

/-- A field's three cells. -/
def f3 (f : Int × Int × Rw) : List Value := [.int .i64 f.1, .int .i64 f.2.1, f.2.2.v]
def v3 (F : Nat → Int × Int × Rw) (q : Nat) : Value := if q % 3 = 0 then .int .i64 (F (q / 3)).1 else if q % 3 = 1 then .int .i64 (F (q / 3)).2.1 else (F (q / 3)).2.2.v
theorem v3_list (F : Nat → Int × Int × Rw) (n : Nat) : (List.range (n * 3)).map (v3 F) = ((List.range n).map F).flatMap f3 := by
  induction n with
  | zero => rfl
  | succ n ih =>
    rw [show (n + 1) * 3 = n * 3 + 1 + 1 + 1 by omega, List.range_succ, List.range_succ, List.range_succ, List.range_succ]
    simp only [List.map_append, List.map_cons, List.map_nil, List.flatMap_append, ih, List.flatMap_cons, List.flatMap_nil, List.append_assoc, List.append_nil]
    congr 1
    have a0 : v3 F (n * 3) = .int .i64 (F n).1 := by unfold v3; rw [if_pos (by omega), show n * 3 / 3 = n by omega]
    have a1 : v3 F (n * 3 + 1) = .int .i64 (F n).2.1 := by unfold v3; rw [if_neg (by omega), if_pos (by omega), show (n * 3 + 1) / 3 = n by omega]
    have a2 : v3 F (n * 3 + 1 + 1) = (F n).2.2.v := by unfold v3; rw [if_neg (by omega), if_neg (by omega), show (n * 3 + 1 + 1) / 3 = n by omega]
    rw [a0, a1, a2]
    rfl

theorem open_flds {f0 f1 f2 : Field} (ht2 : P.underlying t2 = some (.slice t)) (ht : P.underlying t = some (.struct #[f0, f1, f2])) (ct : P.cellsOf t = 3)
    (o0 : f0.offset = 0) (u0 : P.underlying f0.type = some (.int .i64)) (c0 : P.cellsOf f0.type = 1)
    (o1 : f1.offset = 1) (u1 : P.underlying f1.type = some (.int .i64)) (c1 : P.cellsOf f1.type = 1)
    (o2 : f2.offset = 2) (u2 : P.underlying f2.type = some (.slice e)) (c2 : P.cellsOf f2.type = 1) (he : P.underlying e = some (.int k)) (ce : P.cellsOf e = 1)
    (hval : Value.okWide P W r b0 t2 v) (h : DataW.Trod enc P W 0 (fun _ => true) true t2 v d ps) :
    ∃ A c, ∃ fs : List (Int × Int × Rw), v = .slice A fs.length c ∧ fs.length ≤ c ∧ c ≤ maxLen ∧ Rd W W.heap.size 3 A fs.length (fs.flatMap f3) ∧ ∀ f ∈ fs, in64 f.1 ∧ in64 f.2.1 ∧ f.2.2.ok k W := by
  obtain ⟨A, n, c, rfl⟩ := okWide_slice ht2 hval
  obtain ⟨fuel, hf⟩ := h
  rcases open_slice ht2 hf with ⟨hcs, _⟩ | ⟨a, len, cap, m, q, D, Pl, hcs, _, hl, hm, hmm, _, hx⟩
  · simp [Value.cells] at hcs
    obtain ⟨rfl, rfl, rfl⟩ := hcs
    exact ⟨none, 0, [], rfl, by simp, by simp [maxLen], Rd.nil_ _ _ _ _, by simp⟩
  · simp [Value.cells] at hcs
    obtain ⟨rfl, rfl, rfl⟩ := hcs
    have hm2 : n ≤ m := by simp at hmm; omega
    obtain ⟨F, hF⟩ : ∃ F : Nat → Int × Int × Rw, ∀ i, i < n → W.cell? (a.add (i * 3)) = some (.int .i64 (F i).1) ∧ W.cell? (a.add (i * 3 + 1)) = some (.int .i64 (F i).2.1) ∧ W.cell? (a.add (i * 3 + 2)) = some (F i).2.2.v ∧ in64 (F i).1 ∧ in64 (F i).2.1 ∧ (F i).2.2.ok k W := by
      haveI : Inhabited (Int × Int × Rw) := ⟨(0, 0, ⟨none, 0, []⟩)⟩
      refine choose_lt (p := fun i (z : Int × Int × Rw) => W.cell? (a.add (i * 3)) = some (.int .i64 z.1) ∧ W.cell? (a.add (i * 3 + 1)) = some (.int .i64 z.2.1) ∧ W.cell? (a.add (i * 3 + 2)) = some z.2.2.v ∧ in64 z.1 ∧ in64 z.2.1 ∧ z.2.2.ok k W) fun i hi => ?_
      obtain ⟨cs, h1, h2⟩ := hx i (by omega)
      rw [ct] at h1
      obtain ⟨_, hlen, hcell⟩ := World.cells?_some h1
      obtain ⟨y0, y1, y2, m', _, _, g0, g1, g2⟩ := trod_struct3 ht h2
      rw [o0, c0] at g0
      rw [o1, c1] at g1
      rw [o2, c2] at g2
      obtain ⟨z0, k0, _, w0⟩ := DataW.trod_int u0 g0
      obtain ⟨z1, k1, _, w1⟩ := DataW.trod_int u1 g1
      obtain ⟨x, k2, hx2⟩ := trod_row u2 he ce g2
      have e0 := hcell 0 (by omega)
      have e1 := hcell 1 (by omega)
      have e2 := hcell 2 (by omega)
      rw [add_add] at e0 e1 e2
      match cs, hlen with
      | [b0, b1, b2], _ =>
        simp at k0 k1 k2
        subst k0 k1 k2
        exact ⟨(z0, z1, x), e0, e1, e2, in64_of w0, in64_of w1, hx2⟩
    refine ⟨some a, c, (List.range n).map F, by simp, by simpa using hl, hm, ?_, ?_⟩
    · have h1 := rd_of_cells (W := W) (a := a) (n := n * 3) (v3 F) fun q hq => by
        have hi : q / 3 < n := by omega
        obtain ⟨q0, q1, q2, _⟩ := hF (q / 3) hi
        have hr : q % 3 = 0 ∨ q % 3 = 1 ∨ q % 3 = 2 := by omega
        unfold v3
        rcases hr with hr | hr | hr
        · rw [if_pos hr]
          rwa [show q / 3 * 3 = q by omega] at q0
        · rw [if_neg (by omega), if_pos hr]
          rwa [show q / 3 * 3 + 1 = q by omega] at q1
        · rw [if_neg (by omega), if_neg (by omega)]
          rwa [show q / 3 * 3 + 2 = q by omega] at q2
      rw [v3_list] at h1
      have hl1 := h1.1
      refine ⟨by simpa using hl1, fun hn => h1.2 (by simp at hn; omega)⟩
    · intro z hz
      simp only [List.mem_map, List.mem_range] at hz
      obtain ⟨i, hi, rfl⟩ := hz
      exact (hF i hi).2.2.2
end
end Go.Proofs.Ytghcdffpplimoaa
