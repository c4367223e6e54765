/- A region that draws its order, by an invariant that each operation keeps, whichever have come up before it. Over any program. -/
import Derived.Test.YtnbemfceoianiaaDoorBaseA
import Derived.Orders
import Derived.RegionTactic
namespace Go.Proofs.YtnbemfceoianiaaDoor
set_option linter.unusedVariables false
open Go.RowKit

section
variable {P : Program} {md : Region.Mode} {ops : Array Oper} {Q : Exit → Act → World → Prop}
/-- How many have not come up yet. -/
def unl (listed : Array Bool) : Nat := listed.toList.count false
theorem count_set : ∀ (l : List Bool) (i : Nat), l[i]? = some false → (l.set i true).count false + 1 = l.count false
  | [], i, h => by simp at h
  | b :: l, 0, h => by simp at h; subst h; simp
  | b :: l, i + 1, h => by
    have := count_set l i (by simpa using h)
    simp only [List.set_cons_succ, List.count_cons]
    omega
theorem getD_some {listed : Array Bool} {i : Nat} (h : listed.getD i true = false) : listed[i]? = some false := by
  rw [Array.getD_eq_getD_getElem?] at h
  cases hq : listed[i]? with
  | none => rw [hq] at h; simp at h
  | some b => rw [hq] at h; simp at h; rw [h]
theorem unl_set {listed : Array Bool} {i : Nat} (h : listed.getD i true = false) : unl (listed.setIfInBounds i true) + 1 = unl listed := by
  unfold unl
  rw [Array.toList_setIfInBounds]
  exact count_set _ _ (by simpa using getD_some h)
theorem unl_zero {listed : Array Bool} (h : unl listed = 0) {j : Nat} : listed.getD j true = true := by
  rcases Nat.lt_or_ge j listed.size with h1 | h1
  · have h2 : false ∉ listed.toList := List.count_eq_zero.1 h
    cases hb : listed[j] with
    | true => simp [h1, hb]
    | false => exact absurd (by rw [← hb]; simp) h2
  · simp [Array.getElem?_eq_none h1]

theorem wpAny_inv (J : (Nat → Prop) → Act → World → Prop)
    (hext : ∀ L L' a w, (∀ j, L j ↔ L' j) → J L a w → J L' a w)
    (hstep : ∀ L a w i (o : Oper), ops[i]? = some o → ¬ L i → (∀ e ∈ o.after, Region.binds md e = true → L e.on) → J L a w → wpOp P ops Q i (J (fun j => j = i ∨ L j)) a w)
    (hback : ∀ i (o : Oper), ops[i]? = some o → ∀ e ∈ o.after, e.on < i)
    (hdone : ∀ L a w, (∀ i, i < ops.size → L i) → J L a w → Q .normal a w) :
    ∀ (fuel : Nat) (listed : Array Bool) (a : Act) (w : World), listed.size = ops.size → unl listed ≤ fuel → J (fun j => listed.getD j false = true) a w → wpAny P md ops Q fuel listed a w := by
  have done : ∀ listed a w, listed.size = ops.size → Region.ready md ops listed = [] → J (fun j => listed.getD j false = true) a w → Q .normal a w := by
    intro listed a w hs hr hj
    refine hdone _ a w ?_ hj
    intro i
    induction i using Nat.strongRecOn with
    | ind i ih =>
      intro hi
      cases hl : listed.getD i false with
      | true => rfl
      | false =>
        exfalso
        have hm : i ∈ Region.ready md ops listed := by
          rw [mem_ready]
          refine ⟨?_, ops[i], by simp [hi], fun e he _ => ?_⟩
          · have : i < listed.size := by omega
            simp [this] at hl ⊢
            exact hl
          · have hlt := hback i ops[i] (by simp [hi]) e he
            exact ih e.on hlt (by omega)
        rw [hr] at hm
        cases hm
  intro fuel
  induction fuel with
  | zero =>
    intro listed a w hs hu hj
    have hr : Region.ready md ops listed = [] := by
      rw [List.eq_nil_iff_forall_not_mem]
      intro j hm
      have h1 := (mem_ready.1 hm).1
      rw [unl_zero (by omega)] at h1
      cases h1
    exact ⟨hr, done listed a w hs hr hj⟩
  | succ fuel ih =>
    intro listed a w hs hu hj
    refine ⟨fun hr => done listed a w hs hr hj, fun i hi => ?_⟩
    obtain ⟨h0, o, ho, hall⟩ := mem_ready.1 hi
    have hlt : i < listed.size := by
      rcases Nat.lt_or_ge i listed.size with h1 | h1
      · exact h1
      · simp [Array.getElem?_eq_none h1] at h0
    refine wpOp_mono (fun a' w' hj' => ih _ a' w' (by simpa using hs) (by have := unl_set h0; omega) (hext _ _ a' w' ?_ hj')) (hstep _ a w i o ho ?_ hall hj)
    · intro j
      by_cases hji : j = i
      · subst hji; simp [hlt]
      · simp [hji, Ne.symm hji]
    · simp [hlt] at h0 ⊢
      exact h0

/-- Every edge of the region leads back (a closed computation). -/
def backB (ops : Array Oper) : Bool := (List.range ops.size).all fun i => (ops[i]?).all fun o => o.after.all fun e => decide (e.on < i)
theorem backB_spec {ops : Array Oper} (h : backB ops = true) (i : Nat) (o : Oper) (ho : ops[i]? = some o) : ∀ e ∈ o.after, e.on < i := by
  intro e he
  unfold backB at h
  rw [List.all_eq_true] at h
  have h1 := h i (List.mem_range.2 (Array.getElem?_eq_some_iff.1 ho).1)
  rw [ho] at h1
  simp only [Option.all_some] at h1
  rw [Array.all_eq_true_iff_forall_mem] at h1
  simpa using h1 e he

/-- The invariant's step at operation i: behind those that it waits for, itself not up yet. -/
def StepAt (P : Program) (ops : Array Oper) (Q : Exit → Act → World → Prop) (J : (Nat → Prop) → Act → World → Prop) (i : Nat) (o : Oper) : Prop :=
  ∀ L a w, ¬ L i → (∀ e ∈ o.after, Region.binds .any e = true → L e.on) → J L a w →
    ∀ K' : Act → World → Prop, (∀ a w, J (fun j => j = i ∨ L j) a w → K' a w) → if Region.wanted o (yielded ops a.tmps) = true then Oper.wp P o a w K' Q else K' (a.put o.dst undef) w

theorem wp_region_inv {id : Nat} {a : Act} {w : World} (hm : P.follows .mixedOrders = true) (J : (Nat → Prop) → Act → World → Prop)
    (hback : backB ops = true)
    (hstart : J (fun _ => False) a { w with drawn := w.drawn + 1 })
    (hstep : ∀ i (o : Oper), ops[i]? = some o → StepAt P ops Q J i o)
    (hdone : ∀ L a w, (∀ i, i < ops.size → L i) → J L a w → Q .normal a w) : (Code.region id ops true).wp P Q a w := by
  have hext : ∀ L L' a w, (∀ j, L j ↔ L' j) → J L a w → J L' a w := by
    intro L L' a w h hj
    have : L = L' := funext fun j => propext (h j)
    rw [← this]
    exact hj
  refine wp_region_any hm (wpAny_inv J hext (fun L a w i o ho hn hp hj => wpOp_step ho (hstep i o ho L a w hn hp hj)) (backB_spec hback) hdone _ _ a _ (by simp) (by unfold unl; simp) (hext _ _ _ _ (fun j => ?_) hstart))
  constructor
  · exact False.elim
  · intro h
    rcases Nat.lt_or_ge j ops.size with h1 | h1
    · simp [h1] at h
    · simp [h1] at h
/-- The operations one by one. -/
theorem steps_cons {ops : List Oper} {i n : Nat} {F : Nat → Oper → Prop} {o : Oper} {l : List Oper} (hl : ops.drop i = o :: l) (h : F i o) (hr : ∀ j (q : Oper), i + 1 ≤ j → ops[j]? = some q → F j q) : ∀ j (q : Oper), i ≤ j → ops[j]? = some q → F j q := by
  intro j q hj hq
  rcases Nat.eq_or_lt_of_le hj with rfl | h1
  · have : ops[i]? = some o := by
      have := congrArg (fun l => l[0]?) hl
      simpa using this
    rw [this] at hq
    injection hq with hq
    subst hq
    exact h
  · exact hr j q h1 hq
end
end Go.Proofs.YtnbemfceoianiaaDoor
