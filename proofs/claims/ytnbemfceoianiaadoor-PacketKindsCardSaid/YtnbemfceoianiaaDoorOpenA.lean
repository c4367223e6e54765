/- Open. Open2. OpenS. -/
import Derived.Test.YtnbemfceoianiaaDoorBaseA
import Derived.ProofKit
import Derived.OpenShut
import Derived.ShutString
import Derived.ChangeOld
import Derived.Deep.Slices
/- What an argument that can be read looks like to a walk: openers for the types of this seat's laws; over any program. -/
namespace Go.Proofs.YtnbemfceoianiaaDoor
set_option linter.unusedVariables false
open Go.ChangeShapes Go.WideShapes Go.ChangeAt Go.RowKit Go.Deep
open Go.ChangeMaps (open_string shut_string)

def in64 (z : Int) : Prop := -9223372036854775808 ≤ z ∧ z ≤ 9223372036854775807
theorem in64_of {z : Int} (h : (Lit.int .i64 z).wf = true) : in64 z := by
  simpa [Lit.wf, IntKind.min, IntKind.max, IntKind.signed, IntKind.bits, in64] using h

/-- n elements of k cells each, all of them ints, in old memory. -/
def Flat (k : Nat) (w : World) (A : Option Addr) (n : Nat) (zs : List Int) : Prop :=
  Rd w w.heap.size k A n (zs.map (Value.int .i64)) ∧ ∀ z ∈ zs, in64 z

theorem Flat.length {k : Nat} {w : World} {A : Option Addr} {n : Nat} {zs : List Int} (h : Flat k w A n zs) : zs.length = n * k := by
  have := h.1.1
  simpa using this

section
variable {H : Type} {enc : TypeId × Value → H} {P : Program} {W : World} {r : Reach} {b0 : Nat} {t e : TypeId} {v : Value} {d : DataW H} {ps : List MemPlace}

theorem flat_of_cells {a : Addr} {n k : Nat} (hk0 : 0 < k) (h : ∀ i, i < n → ∀ j, j < k → ∃ z, W.cell? (a.add (i * k + j)) = some (.int .i64 z) ∧ in64 z) : ∃ zs, Flat k W (some a) n zs := by
  obtain ⟨f, hf⟩ : ∃ f : Nat → Int, ∀ q, q < n * k → W.cell? (a.add q) = some (.int .i64 (f q)) ∧ in64 (f q) := by
    refine choose_lt (p := fun q z => W.cell? (a.add q) = some (.int .i64 z) ∧ in64 z) ?_
    intro q hq
    have hk : 0 < k := by
      rcases Nat.eq_zero_or_pos k with h0 | h0
      · subst h0; omega
      · exact h0
    obtain ⟨z, h1, h2⟩ := h (q / k) (Nat.div_lt_of_lt_mul (by rw [Nat.mul_comm]; exact hq)) (q % k) (Nat.mod_lt _ hk)
    refine ⟨z, ?_, h2⟩
    rw [show q / k * k + q % k = q from Nat.div_add_mod' q k] at h1
    exact h1
  refine ⟨(List.range (n * k)).map f, ⟨by simp, fun hn => ?_⟩, fun z hz => ?_⟩
  · have hpos : 0 < n * k := Nat.mul_pos hn hk0
    obtain ⟨b, o, s⟩ := a
    have h1 := (hf 0 hpos).1
    have hs : s = none := by simpa [Addr.add] using World.cell?_spot h1
    subst hs
    refine ⟨b, o, rfl, ?_, fun j u hu => ?_⟩
    · simpa [Addr.add] using block_lt_of_cell h1
    · simp only [List.map_map, List.getElem?_map, Option.map_eq_some_iff] at hu
      obtain ⟨q, hq, rfl⟩ := hu
      have hj : j < n * k := by
        rcases Nat.lt_or_ge j (n * k) with h | h
        · exact h
        · rw [List.getElem?_eq_none (by simpa using h)] at hq; cases hq
      rw [List.getElem?_range hj] at hq
      injection hq with hq
      subst hq
      have h2 := (hf j hj).1
      rw [add_plain] at h2
      exact h2
  · simp only [List.mem_map, List.mem_range] at hz
    obtain ⟨q, hq, rfl⟩ := hz
    exact (hf q hq).2

theorem open_flat {fs : Array Field} (k : Nat) (hk0 : 0 < k) (ht : P.underlying t = some (.slice e)) (he : P.underlying e = some (.struct fs)) (ce : P.cellsOf e = k)
    (hfs : ∀ j, j < k → ∃ f, fs[j]? = some f ∧ f.offset = j ∧ P.underlying f.type = some (.int .i64) ∧ P.cellsOf f.type = 1)
    (hval : Value.okWide P W r b0 t v) (h : DataW.Trod enc P W 0 (fun _ => true) true t v d ps) : ∃ A n c zs, v = .slice A n c ∧ n ≤ c ∧ c ≤ maxLen ∧ Flat k W A n zs := by
  obtain ⟨A, n, c, rfl⟩ := okWide_slice ht hval
  obtain ⟨fuel, hf⟩ := h
  rcases open_slice ht hf with ⟨hcs, _⟩ | ⟨a, len, cap, m, q, D, Pl, hcs, _, hl, hm, hmm, _, hx⟩
  · simp [Value.cells] at hcs
    obtain ⟨rfl, rfl, rfl⟩ := hcs
    exact ⟨none, 0, 0, [], rfl, Nat.le_refl _, by simp [maxLen], Rd.nil_ _ _ _ _, by simp⟩
  · simp [Value.cells] at hcs
    obtain ⟨rfl, rfl, rfl⟩ := hcs
    obtain ⟨zs, hz⟩ : ∃ zs, Flat k W (some a) n zs := by
      apply flat_of_cells (by omega)
      intro i hi j hj
      obtain ⟨cs', h1, h2⟩ := hx i (by simp at hmm; omega)
      rw [ce] at h1
      obtain ⟨_, hlen, hcell⟩ := World.cells?_some h1
      obtain ⟨xs, q', _, _, hcl, hxl, hff⟩ := DataW.trod_struct he h2
      obtain ⟨f, hfj, ho, hu, hc1⟩ := hfs j hj
      have g := hff j f hfj
      have hjx : j < xs.length := by
        rw [hxl]
        rcases Nat.lt_or_ge j fs.size with h | h
        · exact h
        · rw [Array.getElem?_eq_none h] at hfj; cases hfj
      rw [ho, hc1, List.getElem?_eq_getElem hjx] at g
      obtain ⟨z, hz, _, hwf⟩ := DataW.trod_int hu g
      refine ⟨z, ?_, in64_of hwf⟩
      have := hcell j hj
      rw [add_add] at this
      rw [this]
      have h3 : ((cs'.drop j).take 1)[0]? = some (.int .i64 z) := by rw [hz]; rfl
      simpa using h3
    exact ⟨some a, n, c, zs, rfl, hl, hm, hz⟩

theorem open_ints64 (ht : P.underlying t = some (.slice e)) (he : P.underlying e = some (.int .i64)) (ce : P.cellsOf e = 1)
    (hval : Value.okWide P W r b0 t v) (h : DataW.Trod enc P W 0 (fun _ => true) true t v d ps) : ∃ A n c zs, v = .slice A n c ∧ n ≤ c ∧ c ≤ maxLen ∧ Flat 1 W A n zs := by
  obtain ⟨A, n, c, rfl⟩ := okWide_slice ht hval
  obtain ⟨fuel, hf⟩ := h
  rcases open_slice1 ht ce hf with ⟨hcs, _⟩ | ⟨a, len, cap, m, q, V, D, Pl, hcs, _, hl, hm, hmm, _, hx⟩
  · simp [Value.cells] at hcs
    obtain ⟨rfl, rfl, rfl⟩ := hcs
    exact ⟨none, 0, 0, [], rfl, Nat.le_refl _, by simp [maxLen], Rd.nil_ _ _ _ _, by simp⟩
  · simp [Value.cells] at hcs
    obtain ⟨rfl, rfl, rfl⟩ := hcs
    obtain ⟨zs, hz⟩ : ∃ zs, Flat 1 W (some a) n zs := by
      apply flat_of_cells (by omega)
      intro i hi j hj
      obtain ⟨h1, h2⟩ := hx i (by simp at hmm; omega)
      obtain ⟨z, hz, _, hwf⟩ := DataW.trod_int he h2
      simp at hz
      refine ⟨z, ?_, in64_of hwf⟩
      have : j = 0 := by omega
      subst this
      simpa [hz] using h1
    exact ⟨some a, n, c, zs, rfl, hl, hm, hz⟩

theorem open_int64 (ht : P.underlying t = some (.int .i64)) (hval : Value.okWide P W r b0 t v) (h : DataW.Trod enc P W 0 (fun _ => true) true t v d ps) : ∃ a, v = .int .i64 a ∧ in64 a := by
  obtain ⟨a, rfl, _, _, w⟩ := open_int ht hval h
  exact ⟨a, rfl, in64_of w⟩

/-- A struct of k ints, by value. -/
theorem open_aggs {fs : Array Field} (k : Nat) (he : P.underlying t = some (.struct fs)) (ce : P.cellsOf t = k)
    (hfs : ∀ j, j < k → ∃ f, fs[j]? = some f ∧ f.offset = j ∧ P.underlying f.type = some (.int .i64) ∧ P.cellsOf f.type = 1)
    (hval : Value.okWide P W r b0 t v) (h : DataW.Trod enc P W 0 (fun _ => true) true t v d ps) : ∃ zs : List Int, v = .agg (zs.map (Value.int .i64)).toArray ∧ zs.length = k ∧ ∀ z ∈ zs, in64 z := by
  obtain ⟨cs, rfl, hsz⟩ := okWide_struct he hval
  obtain ⟨fuel, hf⟩ := h
  obtain ⟨xs, q', _, _, hcl, hxl, hff⟩ := DataW.trod_struct he hf
  have hk : cs.size = k := hsz.trans ce
  obtain ⟨f, hfz⟩ : ∃ f : Nat → Int, ∀ j, j < k → cs[j]? = some (.int .i64 (f j)) ∧ in64 (f j) := by
    refine choose_lt (p := fun j z => cs[j]? = some (.int .i64 z) ∧ in64 z) ?_
    intro j hj
    obtain ⟨fl, hfj, ho, hu, hc1⟩ := hfs j hj
    have g := hff j fl hfj
    have hjx : j < xs.length := by
      rw [hxl]
      rcases Nat.lt_or_ge j fs.size with h | h
      · exact h
      · rw [Array.getElem?_eq_none h] at hfj; cases hfj
    rw [ho, hc1, List.getElem?_eq_getElem hjx] at g
    obtain ⟨z, hz, _, hwf⟩ := DataW.trod_int hu g
    refine ⟨z, ?_, in64_of hwf⟩
    have h3 : (((Value.cells (.agg cs)).toList.drop j).take 1)[0]? = some (.int .i64 z) := by rw [hz]; rfl
    simpa [Value.cells] using h3
  refine ⟨(List.range k).map f, ?_, by simp, fun z hz => ?_⟩
  · congr 1
    apply Array.ext_getElem?
    intro j
    rcases Nat.lt_or_ge j k with hj | hj
    · rw [(hfz j hj).1]
      simp [List.getElem?_range hj]
    · rw [Array.getElem?_eq_none (by omega)]
      simp [hj]
  · simp only [List.mem_map, List.mem_range] at hz
    obtain ⟨q, hq, rfl⟩ := hz
    exact (hfz q hq).2
end

/-- Pairs of ints as cells. -/
def prs (ns : List (Int × Int)) : List Value := ns.flatMap fun x => [.int .i64 x.1, .int .i64 x.2]
theorem prs_nil : prs [] = [] := rfl
theorem prs_cons (x : Int × Int) (ns : List (Int × Int)) : prs (x :: ns) = .int .i64 x.1 :: .int .i64 x.2 :: prs ns := rfl
theorem prs_length (ns : List (Int × Int)) : (prs ns).length = ns.length * 2 := by
  induction ns with
  | nil => rfl
  | cons x ns ih => rw [prs_cons, List.length_cons, List.length_cons, ih, List.length_cons]; omega
theorem prs_append (a b : List (Int × Int)) : prs (a ++ b) = prs a ++ prs b := by simp [prs]
theorem prs_get {ns : List (Int × Int)} {k : Nat} {x : Int × Int} (h : ns[k]? = some x) : (prs ns)[k * 2]? = some (.int .i64 x.1) ∧ (prs ns)[k * 2 + 1]? = some (.int .i64 x.2) := by
  induction ns generalizing k with
  | nil => simp at h
  | cons y ns ih =>
    rcases k with _ | k
    · simp at h; subst h; exact ⟨rfl, rfl⟩
    · have := ih (k := k) (by simpa using h)
      rw [prs_cons, show (k + 1) * 2 = k * 2 + 1 + 1 by omega]
      simpa using this
theorem flat_pairs : ∀ (n : Nat) (zs : List Int), zs.length = n * 2 → ∃ ns : List (Int × Int), zs.map (Value.int .i64) = prs ns ∧ ns.length = n ∧ ∀ x ∈ ns, x.1 ∈ zs ∧ x.2 ∈ zs
  | 0, zs, h => by
    have : zs = [] := List.eq_nil_of_length_eq_zero (by omega)
    subst this
    exact ⟨[], rfl, rfl, by simp⟩
  | n + 1, [], h => by simp at h
  | n + 1, [_], h => by simp at h; omega
  | n + 1, a :: b :: zs, h => by
    obtain ⟨ns, h1, h2, h3⟩ := flat_pairs n zs (by simp at h; omega)
    refine ⟨(a, b) :: ns, by simp [prs_cons, h1], by simp [h2], ?_⟩
    intro x hx
    rcases List.mem_cons.1 hx with rfl | hx
    · simp
    · have := h3 x hx
      exact ⟨by simp [this.1], by simp [this.2]⟩

theorem oc2 (a b : Int) : ∀ u ∈ [Value.int .i64 a, Value.int .i64 b], u.oneCell' = true := by
  intro u hu
  simp at hu
  rcases hu with rfl | rfl <;> rfl

/-- A slice of nonces that is read. -/
def Prs (w : World) (B : Nat) (A : Option Addr) (ns : List (Int × Int)) : Prop := Rd w B 2 A ns.length (prs ns)
theorem Flat.prs {w : World} {A : Option Addr} {n : Nat} {zs : List Int} (h : Flat 2 w A n zs) : ∃ ns, ns.length = n ∧ Prs w w.heap.size A ns ∧ ∀ x ∈ ns, in64 x.1 ∧ in64 x.2 := by
  obtain ⟨ns, h1, h2, h3⟩ := flat_pairs n zs h.length
  refine ⟨ns, h2, ?_, fun x hx => ⟨h.2 _ (h3 x hx).1, h.2 _ (h3 x hx).2⟩⟩
  have := h.1
  rw [h1, ← h2] at this
  exact this
theorem Prs.at_ {w : World} {B : Nat} {A : Option Addr} {ns : List (Int × Int)} (h : Prs w B A ns) (hn : 0 < ns.length) : ∃ b o, A = some ⟨b, o, none⟩ ∧ b < B ∧
    ∀ k x, ns[k]? = some x → w.cell? ⟨b, o + k * 2, none⟩ = some (.int .i64 x.1) ∧ w.cell? ⟨b, o + k * 2 + 1, none⟩ = some (.int .i64 x.2) := by
  obtain ⟨b, o, e, hb, hc⟩ := h.2 hn
  exact ⟨b, o, e, hb, fun k x hk => ⟨hc _ _ (prs_get hk).1, by rw [Nat.add_assoc]; exact hc _ _ (prs_get hk).2⟩⟩
theorem Prs.below {w w' : World} {B : Nat} {A : Option Addr} {ns : List (Int × Int)} (h : Prs w B A ns) (hb : Below B w w') : Prs w' B A ns := Rd.below h hb
end Go.Proofs.YtnbemfceoianiaaDoor

/- Openers for slices of numbers of any kind, and for slices of such slices; over any program. -/
namespace Go.Proofs.YtnbemfceoianiaaDoor
set_option linter.unusedVariables false
open Go.ChangeShapes Go.WideShapes Go.ChangeAt Go.RowKit Go.Deep

/-- A slice of numbers of a kind, as an argument holds it. -/
structure Rw where
  A : Option Addr
  c : Nat
  zs : List Int
def Rw.v (r : Rw) : Value := .slice r.A r.zs.length r.c
structure Rw.ok (k : IntKind) (W : World) (r : Rw) : Prop where
  le : r.zs.length ≤ r.c
  cap : r.c ≤ maxLen
  rd : Rd W W.heap.size 1 r.A r.zs.length (r.zs.map (.int k))
  wf : ∀ z ∈ r.zs, (Lit.int k z).wf = true

section
variable {H : Type} {enc : TypeId × Value → H} {P : Program} {W : World} {r : Reach} {b0 : Nat} {t t2 e : TypeId} {v : Value} {d : DataW H} {ps : List MemPlace} {k : IntKind}

theorem rd_of_cells {a : Addr} {n : Nat} (V : Nat → Value) (h : ∀ i, i < n → W.cell? (a.add i) = some (V i)) : Rd W W.heap.size 1 (some a) n ((List.range n).map V) := by
  refine ⟨by simp, fun hn => ?_⟩
  have h1 := h 0 hn
  obtain ⟨b, o, s⟩ := a
  have hs : s = none := by simpa [Addr.add] using World.cell?_spot h1
  subst hs
  refine ⟨b, o, rfl, ?_, fun j u hu => ?_⟩
  · simpa [Addr.add] using block_lt_of_cell h1
  · have hj : j < n := by
      have := (List.getElem?_eq_some_iff.1 hu).1
      simpa using this
    rw [List.getElem?_map, List.getElem?_range hj] at hu
    simp at hu
    subst hu
    have h2 := h j hj
    rw [add_plain] at h2
    exact h2

theorem trod_row (ht : P.underlying t = some (.slice e)) (he : P.underlying e = some (.int k)) (ce : P.cellsOf e = 1) {fuel : Nat} {cs : List Value} {x : DataW H × List MemPlace}
    (h : DataW.trod enc P W 0 (fun _ => true) true fuel t cs = some x) : ∃ r : Rw, cs = [r.v] ∧ r.ok k W := by
  rcases open_slice1 ht ce h with ⟨hcs, _⟩ | ⟨a, len, cap, m, q, V, D, Pl, hcs, _, hl, hm, hmm, _, hx⟩
  · exact ⟨⟨none, 0, []⟩, hcs, by simp, by simp [maxLen], Rd.nil_ _ _ _ _, by simp⟩
  · have hm2 : len ≤ m := by simp at hmm; omega
    obtain ⟨f, hf⟩ : ∃ f : Nat → Int, ∀ i, i < len → V i = .int k (f i) ∧ (Lit.int k (f i)).wf = true := by
      refine choose_lt (p := fun i z => V i = .int k z ∧ (Lit.int k z).wf = true) fun i hi => ?_
      obtain ⟨z, hz, _, hwf⟩ := DataW.trod_int he (hx i (by omega)).2
      simp at hz
      exact ⟨z, hz, hwf⟩
    refine ⟨⟨some a, cap, (List.range len).map f⟩, by simp [Rw.v, hcs], by simpa using hl, hm, ?_, ?_⟩
    · have h1 := rd_of_cells (W := W) (a := a) (n := len) V fun i hi => (hx i (by omega)).1
      have h2 : (List.range len).map V = ((List.range len).map f).map (.int k) := by
        rw [List.map_map]
        apply List.map_congr_left
        intro i hi
        exact (hf i (by simpa using hi)).1
      rw [h2] at h1
      simpa using h1
    · intro z hz
      simp only [List.mem_map, List.mem_range] at hz
      obtain ⟨i, hi, rfl⟩ := hz
      exact (hf i hi).2

theorem open_row (ht : P.underlying t = some (.slice e)) (he : P.underlying e = some (.int k)) (ce : P.cellsOf e = 1)
    (hval : Value.okWide P W r b0 t v) (h : DataW.Trod enc P W 0 (fun _ => true) true t v d ps) : ∃ r : Rw, v = r.v ∧ r.ok k W := by
  obtain ⟨A, n, c, rfl⟩ := okWide_slice ht hval
  obtain ⟨fuel, hf⟩ := h
  obtain ⟨r, h1, h2⟩ := trod_row ht he ce hf
  simp [Value.cells] at h1
  exact ⟨r, h1, h2⟩

theorem open_rows (ht2 : P.underlying t2 = some (.slice t)) (ct : P.cellsOf t = 1) (ht : P.underlying t = some (.slice e)) (he : P.underlying e = some (.int k)) (ce : P.cellsOf e = 1)
    (hval : Value.okWide P W r b0 t2 v) (h : DataW.Trod enc P W 0 (fun _ => true) true t2 v d ps) :
    ∃ A c, ∃ rows : List Rw, v = .slice A rows.length c ∧ rows.length ≤ c ∧ c ≤ maxLen ∧ Rd W W.heap.size 1 A rows.length (rows.map Rw.v) ∧ ∀ x ∈ rows, x.ok k W := by
  obtain ⟨A, n, c, rfl⟩ := okWide_slice ht2 hval
  obtain ⟨fuel, hf⟩ := h
  rcases open_slice1 ht2 ct hf with ⟨hcs, _⟩ | ⟨a, len, cap, m, q, V, D, Pl, hcs, _, hl, hm, hmm, _, hx⟩
  · simp [Value.cells] at hcs
    obtain ⟨rfl, rfl, rfl⟩ := hcs
    exact ⟨none, 0, [], rfl, by simp, by simp [maxLen], Rd.nil_ _ _ _ _, by simp⟩
  · simp [Value.cells] at hcs
    obtain ⟨rfl, rfl, rfl⟩ := hcs
    have hm2 : n ≤ m := by simp at hmm; omega
    obtain ⟨f, hf⟩ : ∃ f : Nat → Rw, ∀ i, i < n → V i = (f i).v ∧ (f i).ok k W := by
      haveI : Inhabited Rw := ⟨⟨none, 0, []⟩⟩
      refine choose_lt (p := fun i (z : Rw) => V i = z.v ∧ z.ok k W) fun i hi => ?_
      obtain ⟨z, hz, hz2⟩ := trod_row ht he ce (hx i (by omega)).2
      simp at hz
      exact ⟨z, hz, hz2⟩
    refine ⟨some a, c, (List.range n).map f, by simp, by simpa using hl, hm, ?_, ?_⟩
    · have h1 := rd_of_cells (W := W) (a := a) (n := n) V fun i hi => (hx i (by omega)).1
      have h2 : (List.range n).map V = ((List.range n).map f).map Rw.v := by
        rw [List.map_map]
        apply List.map_congr_left
        intro i hi
        exact (hf i (by simpa using hi)).1
      rw [h2] at h1
      simpa using h1
    · intro z hz
      simp only [List.mem_map, List.mem_range] at hz
      obtain ⟨i, hi, rfl⟩ := hz
      exact (hf i hi).2
end

/-- Numbers of a byte's range are bytes. -/
theorem bytes_of : ∀ zs : List Int, (∀ z ∈ zs, (Lit.int .u8 z).wf = true) → ∃ l : List UInt8, zs.map (Value.int .u8) = by8 l ∧ l.length = zs.length
  | [], _ => ⟨[], rfl, rfl⟩
  | z :: zs, h => by
    obtain ⟨l, h1, h2⟩ := bytes_of zs fun y hy => h y (List.mem_cons_of_mem _ hy)
    have hz := bounds_u8 (h z (List.mem_cons_self ..))
    refine ⟨UInt8.ofNat z.toNat :: l, ?_, by simp [h2]⟩
    have : ((UInt8.ofNat z.toNat).toNat : Int) = z := by
      rw [UInt8.toNat_ofNat']
      omega
    rw [List.map_cons, h1]
    show _ = Value.int .u8 ((UInt8.ofNat z.toNat).toNat : Int) :: by8 l
    rw [this]
end Go.Proofs.YtnbemfceoianiaaDoor

/- An opener for strings, over any program. -/
namespace Go.Proofs.YtnbemfceoianiaaDoor
set_option linter.unusedVariables false
open Go.ChangeShapes Go.WideShapes Go.ChangeAt Go.RowKit Go.Deep
open Go.ChangeMaps (open_string)

theorem open_strB {H : Type} {enc : TypeId × Value → H} {P : Program} {w : World} {base : Nat} {sp : Nat → Bool} {held : Bool} {r : Reach} {b0 : Nat} {t : TypeId} {v : Value} {d : DataW H} {ps : List MemPlace} (ht : P.underlying t = some .string) (hval : Value.okWide P w r b0 t v) (hd : DataW.Trod enc P w base sp held t v d ps) :
    ∃ s : ByteArray, v = .string s ∧ s.size ≤ maxLen := by
  obtain ⟨s, h1, _, _, h2⟩ := open_string ht hval hd
  exact ⟨s, h1, h2⟩
end Go.Proofs.YtnbemfceoianiaaDoor
