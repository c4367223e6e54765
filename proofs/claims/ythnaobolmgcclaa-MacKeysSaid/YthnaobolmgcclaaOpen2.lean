/- Openers for slices of numbers of any kind, and for slices of such slices; over any program. -/
import Derived.Test.YthnaobolmgcclaaOpen
import Derived.Test.YthnaobolmgcclaaFresh
namespace Go.Proofs.Ythnaobolmgcclaa
set_option linter.unusedVariables false
open Go.ChangeShapes Go.WideShapes Go.ChangeAt Go.RowKit Go.Deep

/-- A slice of numbers of a kind, as an argument holds it. -/
structure Rw where
  A : Option Addr
  c : Nat
  zs : List Int
def Rw.v (r : Rw) : Value := .slice r.A r.zs.length r.c
structure Rw.ok (k : IntKind) (W : World) (r : Rw) : Prop where
  le : r.zs.length ≤ r.c
  cap : r.c ≤ maxLen
  rd : Rd W W.heap.size 1 r.A r.zs.length (r.zs.map (.int k))
  wf : ∀ z ∈ r.zs, (Lit.int k z).wf = true

section
variable {H : Type} {enc : TypeId × Value → H} {P : Program} {W : World} {r : Reach} {b0 : Nat} {t t2 e : TypeId} {v : Value} {d : DataW H} {ps : List MemPlace} {k : IntKind}

theorem rd_of_cells {a : Addr} {n : Nat} (V : Nat → Value) (h : ∀ i, i < n → W.cell? (a.add i) = some (V i)) : Rd W W.heap.size 1 (some a) n ((List.range n).map V) := by
  refine ⟨by simp, fun hn => ?_⟩
  have h1 := h 0 hn
  obtain ⟨b, o, s⟩ := a
  have hs : s = none := by simpa [Addr.add] using World.cell?_spot h1
  subst hs
  refine ⟨b, o, rfl, ?_, fun j u hu => ?_⟩
  · simpa [Addr.add] using block_lt_of_cell h1
  · have hj : j < n := by
      have := (List.getElem?_eq_some_iff.1 hu).1
      simpa using this
    rw [List.getElem?_map, List.getElem?_range hj] at hu
    simp at hu
    subst hu
    have h2 := h j hj
    rw [add_plain] at h2
    exact h2

theorem trod_row (ht : P.underlying t = some (.slice e)) (he : P.underlying e = some (.int k)) (ce : P.cellsOf e = 1) {fuel : Nat} {cs : List Value} {x : DataW H × List MemPlace}
    (h : DataW.trod enc P W 0 (fun _ => true) true fuel t cs = some x) : ∃ r : Rw, cs = [r.v] ∧ r.ok k W := by
  rcases open_slice1 ht ce h with ⟨hcs, _⟩ | ⟨a, len, cap, m, q, V, D, Pl, hcs, _, hl, hm, hmm, _, hx⟩
  · exact ⟨⟨none, 0, []⟩, hcs, by simp, by simp [maxLen], Rd.nil_ _ _ _ _, by simp⟩
  · have hm2 : len ≤ m := by simp at hmm; omega
    obtain ⟨f, hf⟩ : ∃ f : Nat → Int, ∀ i, i < len → V i = .int k (f i) ∧ (Lit.int k (f i)).wf = true := by
      refine choose_lt (p := fun i z => V i = .int k z ∧ (Lit.int k z).wf = true) fun i hi => ?_
      obtain ⟨z, hz, _, hwf⟩ := DataW.trod_int he (hx i (by omega)).2
      simp at hz
      exact ⟨z, hz, hwf⟩
    refine ⟨⟨some a, cap, (List.range len).map f⟩, by simp [Rw.v, hcs], by simpa using hl, hm, ?_, ?_⟩
    · have h1 := rd_of_cells (W := W) (a := a) (n := len) V fun i hi => (hx i (by omega)).1
      have h2 : (List.range len).map V = ((List.range len).map f).map (.int k) := by
        rw [List.map_map]
        apply List.map_congr_left
        intro i hi
        exact (hf i (by simpa using hi)).1
      rw [h2] at h1
      simpa using h1
    · intro z hz
      simp only [List.mem_map, List.mem_range] at hz
      obtain ⟨i, hi, rfl⟩ := hz
      exact (hf i hi).2

theorem open_row (ht : P.underlying t = some (.slice e)) (he : P.underlying e = some (.int k)) (ce : P.cellsOf e = 1)
    (hval : Value.okWide P W r b0 t v) (h : DataW.Trod enc P W 0 (fun _ => true) true t v d ps) : ∃ r : Rw, v = r.v ∧ r.ok k W := by
  obtain ⟨A, n, c, rfl⟩ := okWide_slice ht hval
  obtain ⟨fuel, hf⟩ := h
  obtain ⟨r, h1, h2⟩ := trod_row ht he ce hf
  simp [Value.cells] at h1
  exact ⟨r, h1, h2⟩

theorem open_rows (ht2 : P.underlying t2 = some (.slice t)) (ct : P.cellsOf t = 1) (ht : P.underlying t = some (.slice e)) (he : P.underlying e = some (.int k)) (ce : P.cellsOf e = 1)
    (hval : Value.okWide P W r b0 t2 v) (h : DataW.Trod enc P W 0 (fun _ => true) true t2 v d ps) :
    ∃ A c, ∃ rows : List Rw, v = .slice A rows.length c ∧ rows.length ≤ c ∧ c ≤ maxLen ∧ Rd W W.heap.size 1 A rows.length (rows.map Rw.v) ∧ ∀ x ∈ rows, x.ok k W := by
  obtain ⟨A, n, c, rfl⟩ := okWide_slice ht2 hval
  obtain ⟨fuel, hf⟩ := h
  rcases open_slice1 ht2 ct hf with ⟨hcs, _⟩ | ⟨a, len, cap, m, q, V, D, Pl, hcs, _, hl, hm, hmm, _, hx⟩
  · simp [Value.cells] at hcs
    obtain ⟨rfl, rfl, rfl⟩ := hcs
    exact ⟨none, 0, [], rfl, by simp, by simp [maxLen], Rd.nil_ _ _ _ _, by simp⟩
  · simp [Value.cells] at hcs
    obtain ⟨rfl, rfl, rfl⟩ := hcs
    have hm2 : n ≤ m := by simp at hmm; omega
    obtain ⟨f, hf⟩ : ∃ f : Nat → Rw, ∀ i, i < n → V i = (f i).v ∧ (f i).ok k W := by
      haveI : Inhabited Rw := ⟨⟨none, 0, []⟩⟩
      refine choose_lt (p := fun i (z : Rw) => V i = z.v ∧ z.ok k W) fun i hi => ?_
      obtain ⟨z, hz, hz2⟩ := trod_row ht he ce (hx i (by omega)).2
      simp at hz
      exact ⟨z, hz, hz2⟩
    refine ⟨some a, c, (List.range n).map f, by simp, by simpa using hl, hm, ?_, ?_⟩
    · have h1 := rd_of_cells (W := W) (a := a) (n := n) V fun i hi => (hx i (by omega)).1
      have h2 : (List.range n).map V = ((List.range n).map f).map Rw.v := by
        rw [List.map_map]
        apply List.map_congr_left
        intro i hi
        exact (hf i (by simpa using hi)).1
      rw [h2] at h1
      simpa using h1
    · intro z hz
      simp only [List.mem_map, List.mem_range] at hz
      obtain ⟨i, hi, rfl⟩ := hz
      exact (hf i hi).2
end

/-- Numbers of a byte's range are bytes. -/
theorem bytes_of : ∀ zs : List Int, (∀ z ∈ zs, (Lit.int .u8 z).wf = true) → ∃ l : List UInt8, zs.map (Value.int .u8) = by8 l ∧ l.length = zs.length
  | [], _ => ⟨[], rfl, rfl⟩
  | z :: zs, h => by
    obtain ⟨l, h1, h2⟩ := bytes_of zs fun y hy => h y (List.mem_cons_of_mem _ hy)
    have hz := bounds_u8 (h z (List.mem_cons_self ..))
    refine ⟨UInt8.ofNat z.toNat :: l, ?_, by simp [h2]⟩
    have : ((UInt8.ofNat z.toNat).toNat : Int) = z := by
      rw [UInt8.toNat_ofNat']
      omega
    rw [List.map_cons, h1]
    show _ = Value.int .u8 ((UInt8.ofNat z.toNat).toNat : Int) :: by8 l
    rw [this]
end Go.Proofs.Ythnaobolmgcclaa
