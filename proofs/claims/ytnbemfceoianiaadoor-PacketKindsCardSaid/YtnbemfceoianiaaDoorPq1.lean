/- Slices of packets in memory; counters of kinds. -/
import Derived.Test.YtnbemfceoianiaaDoorPkA
import Derived.Test.YtnbemfceoianiaaDoorPkD
import Derived.Test.YtnbemfceoianiaaDoorOpen5
import Derived.Deep.DeepCutAuto
import Derived.Great.BuildSlice
import Derived.Lib.SmallJoins
namespace Go.Proofs.YtnbemfceoianiaaDoor
set_option linter.unusedVariables false
set_option linter.unusedSimpArgs false
open Go.RowKit

/-- The cells of packets, one behind the other. -/
def pks (l : List Pk) : List Value := l.flatMap fun p => (pkc p).toList
def T32 (l : List Pk) : Prop := ∀ p ∈ l, p.T.length = 32
theorem pkc_len {p : Pk} (h : p.T.length = 32) : (pkc p).toList.length = 41 := by rw [Array.length_toList]; exact pkc_size h
theorem pks_length {l : List Pk} (h : T32 l) : (pks l).length = l.length * 41 := by
  induction l with
  | nil => rfl
  | cons a l ih =>
    have h1 := ih fun p hp => h p (List.mem_cons_of_mem _ hp)
    simp only [pks, List.flatMap_cons, List.length_append] at h1 ⊢
    rw [h1, pkc_len (h a List.mem_cons_self), List.length_cons]
    omega
theorem pkc_k (p : Pk) : (pkc p).toList[0]? = some (.int .i64 p.k) := by
  rw [show (pkc p).toList[0]? = (pkc p)[0]? from Array.getElem?_toList .., pkc_lt _ (by decide)]
  rfl
theorem pks_snoc (l : List Pk) (p : Pk) : pks (l ++ [p]) = pks l ++ (pkc p).toList := by simp [pks]
theorem pks_get : ∀ {l : List Pk} (h : T32 l) {k : Nat} {p : Pk} (hk : l[k]? = some p) {j : Nat} (hj : j < 41), (pks l)[k * 41 + j]? = (pkc p).toList[j]?
  | [], _, k, p, hk, _, _ => by simp at hk
  | a :: l, h, 0, p, hk, j, hj => by
    simp only [List.getElem?_cons_zero, Option.some.injEq] at hk
    subst hk
    simp only [pks, List.flatMap_cons]
    rw [List.getElem?_append_left (by rw [pkc_len (h a List.mem_cons_self)]; omega)]
    congr 1
    omega
  | a :: l, h, k + 1, p, hk, j, hj => by
    have ih := pks_get (l := l) (fun p hp => h p (List.mem_cons_of_mem _ hp)) (k := k) (p := p) (by simpa using hk) hj
    simp only [pks, List.flatMap_cons] at ih ⊢
    rw [List.getElem?_append_right (by rw [pkc_len (h a List.mem_cons_self)]; omega), ← ih]
    congr 1
    rw [pkc_len (h a List.mem_cons_self)]
    omega
theorem pks_one (l : List Pk) : ∀ u ∈ pks l, u.oneCell' = true := by
  intro u hu
  simp only [pks, List.mem_flatMap] at hu
  obtain ⟨p, _, hu⟩ := hu
  have h := pkc_one p
  rw [Array.all_eq_true_iff_forall_mem] at h
  exact h u (by simpa using hu)
/-- The k-th packet behind an address. -/
theorem Rd.pkAt {w : World} {B n : Nat} {A : Option Addr} {l : List Pk} (h : Rd w B 41 A n (pks l)) (hn : l.length = n) (hT : T32 l) {k : Nat} {p : Pk} (hk : l[k]? = some p) :
    ∃ b o, A = some ⟨b, o, none⟩ ∧ b < B ∧ w.rangeAt b (o + k * 41) (pkc p).toList := by
  have hlt := (List.getElem?_eq_some_iff.1 hk).1
  obtain ⟨b, o, e, hb, hc⟩ := h.2 (by omega)
  refine ⟨b, o, e, hb, fun j v hv => ?_⟩
  have hj : j < 41 := by
    have h1 := (List.getElem?_eq_some_iff.1 hv).1
    rwa [pkc_len (hT p (List.mem_of_getElem? hk))] at h1
  rw [Nat.add_assoc]
  exact hc _ _ ((pks_get hT hk hj).trans hv)
theorem el_pk : El Tryd.prog 24 33 41 120 := El.of Tryd.underlying24 (z := .agg (pkc Pk0)) (by kernel_rfl) rfl (by decide)
/-- A literal of one packet. -/
theorem fill_pk {p : Pk} (h : p.T.length = 32) (z : Array Value) (hz : z.size = 41) : Instr.fill (fun i => some (i * 41, 41)) z [(0, .agg (pkc p))] = some (pkc p) := by
  have h1 := Great.fill_whole (s := 41) (by decide) [.agg (pkc p)] z (fun v hv => by
    obtain rfl : v = .agg (pkc p) := by simpa using hv
    exact pkc_size h) (by rw [hz]; rfl)
  simpa [Value.cells] using h1
theorem run_lit {p : Pk} (h : p.T.length = 32) (w : World) : (Instr.buildSlice 24 1 #[(0, .agg (pkc p))]).run Tryd.prog w = .ok (.slice (some ⟨w.heap.size, 0, none⟩) 1 1) (w.alloc (.cells (pkc p) 33)) := by
  have hi : ∃ ie z, Tryd.prog.info? 33 = some ie ∧ ie.zero = some z ∧ ie.size = 41 := by
    cases hie : Tryd.prog.info? 33 with
    | none => have := info_pk41; rw [hie] at this; cases this
    | some ie =>
      have h1 := info_pk41
      rw [hie] at h1
      have hz : ((Tryd.prog.info? 33).bind (·.zero)).isSome = true := by kernel_rfl
      rw [hie] at hz
      obtain ⟨z, hz⟩ := Option.isSome_iff_exists.1 hz
      exact ⟨ie, z, rfl, hz, by simpa using h1⟩
  obtain ⟨ie, z, h1, h2, h3⟩ := hi
  exact run_buildSlice w _ _ 1 _ (pkc p) ie z Tryd.underlying24 h1 h2 (by rw [h3]; decide) (by rw [h3]; decide) (by
    rw [h3]
    exact fill_pk h _ (by simp))

/-- A kind's place among the counters. -/
def kix (k : Int) : Nat := if 0 < k ∧ k < 15 then k.toNat else 0
def cntS (C : List Int) (k : Int) : List Int := C.set (kix k) (C.getD (kix k) 0 + 1)
def cnt (l : List Int) : List Int := l.foldl cntS (List.replicate 15 0)
def ik (C : List Int) : Array Value := (C.map (Value.int .i64)).toArray
theorem kix_lt (k : Int) : kix k < 15 := by unfold kix; split <;> omega
theorem kix_in {k : Int} (h : 0 < k ∧ k < 15) : kix k = k.toNat := if_pos h
theorem kix_out {k : Int} (h : ¬ (0 < k ∧ k < 15)) : kix k = 0 := if_neg h
theorem cnt_snoc (l : List Int) (k : Int) : cnt (l ++ [k]) = cntS (cnt l) k := by simp [cnt]
theorem cnt_ok (l : List Int) : (cnt l).length = 15 ∧ ∀ j, 0 ≤ (cnt l).getD j 0 ∧ (cnt l).getD j 0 ≤ l.length := by
  suffices h : ∀ (l : List Int) (C : List Int) (m : Nat), C.length = 15 → (∀ j, 0 ≤ C.getD j 0 ∧ C.getD j 0 ≤ m) → (l.foldl cntS C).length = 15 ∧ ∀ j, 0 ≤ (l.foldl cntS C).getD j 0 ∧ (l.foldl cntS C).getD j 0 ≤ ((m + l.length : Nat) : Int) by
    have := h l (List.replicate 15 0) 0 (by simp) (fun j => by
      rw [List.getD_eq_getElem?_getD, List.getElem?_replicate]
      split <;> simp)
    rw [Nat.zero_add] at this
    exact this
  intro l
  induction l with
  | nil => intro C m h1 h2; exact ⟨h1, h2⟩
  | cons k l ih =>
    intro C m h1 h2
    have h3 : ∀ j, 0 ≤ (cntS C k).getD j 0 ∧ (cntS C k).getD j 0 ≤ ((m + 1 : Nat) : Int) := by
      intro j
      unfold cntS
      have hj := h2 j
      have hk := h2 (kix k)
      rw [List.getD_eq_getElem?_getD] at hj ⊢
      rw [List.getElem?_set]
      by_cases he : kix k = j
      · rw [if_pos he, if_pos (by rw [h1]; exact kix_lt k)]
        simp only [Option.getD_some]
        omega
      · rw [if_neg he]
        omega
    have h4 := ih (cntS C k) (m + 1) (by unfold cntS; rw [List.length_set]; exact h1) h3
    rw [List.foldl_cons, List.length_cons, show m + (l.length + 1) = m + 1 + l.length by omega]
    exact h4
theorem ik_get {C : List Int} (h : C.length = 15) {j : Nat} (hj : j < 15) : (ik C)[j]? = some (.int .i64 (C.getD j 0)) := by
  unfold ik
  rw [List.getElem?_toArray, List.getElem?_map, List.getD_eq_getElem?_getD, List.getElem?_eq_getElem (by omega)]
  rfl
theorem ik_set (C : List Int) (j : Nat) (x : Int) : (ik C).setIfInBounds j (.int .i64 x) = ik (C.set j x) := by simp [ik, List.map_set]
theorem ik_size (C : List Int) : (ik C).size = C.length := by simp [ik]
abbrev z15 : Array Value := #[.int .i64 0, .int .i64 0, .int .i64 0, .int .i64 0, .int .i64 0, .int .i64 0, .int .i64 0, .int .i64 0, .int .i64 0, .int .i64 0, .int .i64 0, .int .i64 0, .int .i64 0, .int .i64 0, .int .i64 0]
theorem z15_ik : z15 = ik (cnt []) := rfl
/-- A counter and its bounds. -/
theorem cnt_at (l : List Int) (k : Int) (N : Nat) (h : l.length ≤ N) : ∃ C x, cnt l = C ∧ C.getD (kix k) 0 = x ∧ C.length = 15 ∧ 0 ≤ x ∧ x ≤ N ∧ cnt (l ++ [k]) = C.set (kix k) (x + 1) := by
  obtain ⟨h1, h2⟩ := cnt_ok l
  have := h2 (kix k)
  exact ⟨_, _, rfl, rfl, h1, this.1, by omega, cnt_snoc l k⟩

section
open Go.Joins Go.ChangeShapes Go.WideShapes Go.ChangeAt Go.RowKit Go.Deep
variable {H : Type} {enc : TypeId × Value → H} {W : World}
set_option maxRecDepth 100000 in
theorem open_pks {r : Reach} {b0 : Nat} {v : Value} {d : DataW H} {ps : List MemPlace} (hval : Value.okWide Tryd.prog W r b0 22 v) (h : DataW.Trod enc Tryd.prog W 0 (fun _ => true) true 22 v d ps) :
    ∃ A c, ∃ l : List Pk, v = .slice A l.length c ∧ l.length ≤ c ∧ c ≤ 9223372036854775807 ∧ Rd W W.heap.size 41 A l.length (pks l) ∧ ∀ p ∈ l, p.T.length = 32 ∧ RB W W.heap.size p.A p.l ∧ p.l.length ≤ p.cp ∧ p.cp ≤ 9223372036854775807 := by
  obtain ⟨A, n, c, rfl⟩ := okWide_slice Tryd.underlying22 hval
  obtain ⟨fuel, hf⟩ := h
  have hcl : Tryd.prog.cellsOf 38 = 41 := by kernel_rfl
  rcases open_slice Tryd.underlying22 hf with ⟨hcs, _⟩ | ⟨a, len, cap, m, q, D, Pl, hcs, _, hl, hm, hmm, _, hx⟩
  · simp [Value.cells] at hcs
    obtain ⟨rfl, rfl, rfl⟩ := hcs
    exact ⟨none, 0, [], rfl, by simp, by simp, Rd.nil_ _ _ _ _, by simp⟩
  · simp [Value.cells] at hcs
    obtain ⟨rfl, rfl, rfl⟩ := hcs
    have hm2 : n ≤ m := by simp at hmm; omega
    obtain ⟨F, hF⟩ : ∃ F : Nat → Pk, ∀ i, i < n → (∀ (j : Nat) u, (pkc (F i)).toList[j]? = some u → W.cell? (a.add (i * 41 + j)) = some u) ∧ (F i).T.length = 32 ∧ RB W W.heap.size (F i).A (F i).l ∧ (F i).l.length ≤ (F i).cp ∧ (F i).cp ≤ 9223372036854775807 := by
      haveI : Inhabited Pk := ⟨Pk0⟩
      refine choose_lt (p := fun i (z : Pk) => (∀ (j : Nat) u, (pkc z).toList[j]? = some u → W.cell? (a.add (i * 41 + j)) = some u) ∧ z.T.length = 32 ∧ RB W W.heap.size z.A z.l ∧ z.l.length ≤ z.cp ∧ z.cp ≤ 9223372036854775807) fun i hi => ?_
      obtain ⟨cs, h1, h2⟩ := hx i (by omega)
      rw [hcl] at h1
      obtain ⟨_, hlen, hcell⟩ := World.cells?_some h1
      obtain ⟨p, rfl, hp⟩ := trod_pk h2
      refine ⟨p, fun j u hu => ?_, hp⟩
      have hj := (List.getElem?_eq_some_iff.1 hu).1
      have hc := hcell j (by rw [← hlen]; exact hj)
      rw [add_add] at hc
      rw [hc, hu]
    have hT : T32 ((List.range n).map F) := by
      intro p hp
      obtain ⟨i, hi, rfl⟩ := List.mem_map.1 hp
      exact (hF i (List.mem_range.1 hi)).2.1
    refine ⟨some a, c, (List.range n).map F, by simp, by simpa using hl, by unfold maxLen at hm; exact hm, ⟨pks_length hT, fun h0 => ?_⟩, ?_⟩
    · have h0' : 0 < n := by simpa using h0
      have hc0 : W.cell? (a.add (0 * 41 + 0)) = some (.int .i64 (F 0).k) := (hF 0 h0').1 0 _ (pkc_k (F 0))
      obtain ⟨b, o, s⟩ := a
      have hs : s = none := by simpa [Addr.add] using World.cell?_spot hc0
      subst hs
      refine ⟨b, o, rfl, by simpa [Addr.add] using block_lt_of_cell hc0, fun j u hu => ?_⟩
      have hjl := (List.getElem?_eq_some_iff.1 hu).1
      rw [pks_length hT, List.length_map, List.length_range] at hjl
      have hi : j / 41 < n := by omega
      have hg : ((List.range n).map F)[j / 41]? = some (F (j / 41)) := by rw [List.getElem?_map, List.getElem?_range hi]; rfl
      have h1 := pks_get hT hg (j := j % 41) (by omega)
      rw [show j / 41 * 41 + j % 41 = j by omega, hu] at h1
      have h2 := (hF (j / 41) hi).1 (j % 41) u h1.symm
      rw [show j / 41 * 41 + j % 41 = j by omega] at h2
      rwa [WideShapes.add_plain] at h2
    · intro p hp
      obtain ⟨i, hi, rfl⟩ := List.mem_map.1 hp
      exact (hF i (List.mem_range.1 hi)).2
end
end Go.Proofs.YtnbemfceoianiaaDoor
