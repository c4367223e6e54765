/- An opener for a slice of {int, int, int, []byte}. -/
import Derived.Test.YtnopmdhjamkoaaaDoorOpenA
import Derived.Deep.Strs
import Derived.Lib.SmallJoins
namespace Go.Proofs.YtnopmdhjamkoaaaDoor
set_option linter.unusedVariables false
open Go.Joins Go.ChangeShapes Go.WideShapes Go.ChangeAt Go.RowKit Go.Deep

section
variable {H : Type} {enc : TypeId × Value → H} {P : Program} {W : World} {r : Reach} {b0 : Nat} {t t2 e : TypeId} {v : Value} {d : DataW H} {ps : List MemPlace} {k : IntKind}

/-- A step's four cells. -/
def f4 (f : Int × Int × Int × Rw) : List Value := [.int .i64 f.1, .int .i64 f.2.1, .int .i64 f.2.2.1, f.2.2.2.v]
def v4 (F : Nat → Int × Int × Int × Rw) (q : Nat) : Value := if q % 4 = 0 then .int .i64 (F (q / 4)).1 else if q % 4 = 1 then .int .i64 (F (q / 4)).2.1 else if q % 4 = 2 then .int .i64 (F (q / 4)).2.2.1 else (F (q / 4)).2.2.2.v
theorem v4_list (F : Nat → Int × Int × Int × Rw) (n : Nat) : (List.range (n * 4)).map (v4 F) = ((List.range n).map F).flatMap f4 := by
  induction n with
  | zero => rfl
  | succ n ih =>
    rw [show (n + 1) * 4 = n * 4 + 1 + 1 + 1 + 1 by omega, List.range_succ, List.range_succ, List.range_succ, List.range_succ, List.range_succ]
    simp only [List.map_append, List.map_cons, List.map_nil, List.flatMap_append, ih, List.flatMap_cons, List.flatMap_nil, List.append_assoc, List.append_nil]
    congr 1
    have a0 : v4 F (n * 4) = .int .i64 (F n).1 := by unfold v4; rw [if_pos (by omega), show n * 4 / 4 = n by omega]
    have a1 : v4 F (n * 4 + 1) = .int .i64 (F n).2.1 := by unfold v4; rw [if_neg (by omega), if_pos (by omega), show (n * 4 + 1) / 4 = n by omega]
    have a2 : v4 F (n * 4 + 1 + 1) = .int .i64 (F n).2.2.1 := by unfold v4; rw [if_neg (by omega), if_neg (by omega), if_pos (by omega), show (n * 4 + 1 + 1) / 4 = n by omega]
    have a3 : v4 F (n * 4 + 1 + 1 + 1) = (F n).2.2.2.v := by unfold v4; rw [if_neg (by omega), if_neg (by omega), if_neg (by omega), show (n * 4 + 1 + 1 + 1) / 4 = n by omega]
    rw [a0, a1, a2, a3]
    rfl

theorem open_stps {f0 f1 f2 f3 : Field} (ht2 : P.underlying t2 = some (.slice t)) (ht : P.underlying t = some (.struct #[f0, f1, f2, f3])) (ct : P.cellsOf t = 4)
    (o0 : f0.offset = 0) (u0 : P.underlying f0.type = some (.int .i64)) (c0 : P.cellsOf f0.type = 1)
    (o1 : f1.offset = 1) (u1 : P.underlying f1.type = some (.int .i64)) (c1 : P.cellsOf f1.type = 1)
    (o2 : f2.offset = 2) (u2 : P.underlying f2.type = some (.int .i64)) (c2 : P.cellsOf f2.type = 1)
    (o3 : f3.offset = 3) (u3 : P.underlying f3.type = some (.slice e)) (c3 : P.cellsOf f3.type = 1) (he : P.underlying e = some (.int k)) (ce : P.cellsOf e = 1)
    (hval : Value.okWide P W r b0 t2 v) (h : DataW.Trod enc P W 0 (fun _ => true) true t2 v d ps) :
    ∃ A c, ∃ fs : List (Int × Int × Int × Rw), v = .slice A fs.length c ∧ fs.length ≤ c ∧ c ≤ maxLen ∧ Rd W W.heap.size 4 A fs.length (fs.flatMap f4) ∧ ∀ f ∈ fs, in64 f.1 ∧ in64 f.2.1 ∧ in64 f.2.2.1 ∧ f.2.2.2.ok k W := by
  obtain ⟨A, n, c, rfl⟩ := okWide_slice ht2 hval
  obtain ⟨fuel, hf⟩ := h
  rcases open_slice ht2 hf with ⟨hcs, _⟩ | ⟨a, len, cap, m, q, D, Pl, hcs, _, hl, hm, hmm, _, hx⟩
  · simp [Value.cells] at hcs
    obtain ⟨rfl, rfl, rfl⟩ := hcs
    exact ⟨none, 0, [], rfl, by simp, by simp [maxLen], Rd.nil_ _ _ _ _, by simp⟩
  · simp [Value.cells] at hcs
    obtain ⟨rfl, rfl, rfl⟩ := hcs
    have hm2 : n ≤ m := by simp at hmm; omega
    obtain ⟨F, hF⟩ : ∃ F : Nat → Int × Int × Int × Rw, ∀ i, i < n → W.cell? (a.add (i * 4)) = some (.int .i64 (F i).1) ∧ W.cell? (a.add (i * 4 + 1)) = some (.int .i64 (F i).2.1) ∧ W.cell? (a.add (i * 4 + 2)) = some (.int .i64 (F i).2.2.1) ∧ W.cell? (a.add (i * 4 + 3)) = some (F i).2.2.2.v ∧ in64 (F i).1 ∧ in64 (F i).2.1 ∧ in64 (F i).2.2.1 ∧ (F i).2.2.2.ok k W := by
      haveI : Inhabited (Int × Int × Int × Rw) := ⟨(0, 0, 0, ⟨none, 0, []⟩)⟩
      refine choose_lt (p := fun i (z : Int × Int × Int × Rw) => W.cell? (a.add (i * 4)) = some (.int .i64 z.1) ∧ W.cell? (a.add (i * 4 + 1)) = some (.int .i64 z.2.1) ∧ W.cell? (a.add (i * 4 + 2)) = some (.int .i64 z.2.2.1) ∧ W.cell? (a.add (i * 4 + 3)) = some z.2.2.2.v ∧ in64 z.1 ∧ in64 z.2.1 ∧ in64 z.2.2.1 ∧ z.2.2.2.ok k W) fun i hi => ?_
      obtain ⟨cs, h1, h2⟩ := hx i (by omega)
      rw [ct] at h1
      obtain ⟨_, hlen, hcell⟩ := World.cells?_some h1
      obtain ⟨y0, y1, y2, y3, m', _, _, g0, g1, g2, g3⟩ := trod_struct4 ht h2
      rw [o0, c0] at g0
      rw [o1, c1] at g1
      rw [o2, c2] at g2
      rw [o3, c3] at g3
      obtain ⟨z0, k0, _, w0⟩ := DataW.trod_int u0 g0
      obtain ⟨z1, k1, _, w1⟩ := DataW.trod_int u1 g1
      obtain ⟨z2, k2, _, w2⟩ := DataW.trod_int u2 g2
      obtain ⟨x, k3, hx2⟩ := trod_row u3 he ce g3
      have e0 := hcell 0 (by omega)
      have e1 := hcell 1 (by omega)
      have e2 := hcell 2 (by omega)
      have e3 := hcell 3 (by omega)
      rw [add_add] at e0 e1 e2 e3
      match cs, hlen with
      | [b0, b1, b2, b3], _ =>
        simp at k0 k1 k2 k3
        subst k0 k1 k2 k3
        exact ⟨(z0, z1, z2, x), e0, e1, e2, e3, in64_of w0, in64_of w1, in64_of w2, hx2⟩
    refine ⟨some a, c, (List.range n).map F, by simp, by simpa using hl, hm, ?_, ?_⟩
    · have h1 := rd_of_cells (W := W) (a := a) (n := n * 4) (v4 F) fun q hq => by
        have hi : q / 4 < n := by omega
        obtain ⟨q0, q1, q2, q3, _⟩ := hF (q / 4) hi
        have hr : q % 4 = 0 ∨ q % 4 = 1 ∨ q % 4 = 2 ∨ q % 4 = 3 := by omega
        unfold v4
        rcases hr with hr | hr | hr | hr
        · rw [if_pos hr]
          rwa [show q / 4 * 4 = q by omega] at q0
        · rw [if_neg (by omega), if_pos hr]
          rwa [show q / 4 * 4 + 1 = q by omega] at q1
        · rw [if_neg (by omega), if_neg (by omega), if_pos hr]
          rwa [show q / 4 * 4 + 2 = q by omega] at q2
        · rw [if_neg (by omega), if_neg (by omega), if_neg (by omega)]
          rwa [show q / 4 * 4 + 3 = q by omega] at q3
      rw [v4_list] at h1
      have hl1 := h1.1
      refine ⟨by simpa using hl1, fun hn => h1.2 (by simp at hn; omega)⟩
    · intro z hz
      simp only [List.mem_map, List.mem_range] at hz
      obtain ⟨i, hi, rfl⟩ := hz
      exact (hF i hi).2.2.2.2
end
end Go.Proofs.YtnopmdhjamkoaaaDoor
