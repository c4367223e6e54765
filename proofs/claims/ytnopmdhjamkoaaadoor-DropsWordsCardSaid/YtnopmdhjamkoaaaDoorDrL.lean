/- Drops in plain numbers: sixteen counts of a list of what was counted. No program in sight. -/
import Derived.Test.YtnopmdhjamkoaaaDoorBaseA
namespace Go.Proofs.YtnopmdhjamkoaaaDoor
set_option linter.unusedVariables false

/-- How often, as it is told. -/
def ofN (top : Int) (L : List Int) (e : Int) : Int := if 1 ≤ e ∧ e ≤ 15 then min (L.count e : Int) top else 0
/-- The sixteen counts. -/
def dns (top : Int) (L : List Int) : List Int := (List.range 16).map fun (k : Nat) => ofN top L (k : Int)
/-- Cells of numbers. -/
def i64s (ns : List Int) : List Value := ns.map (.int .i64)
theorem i64s_get {ns : List Int} {k : Nat} {x : Int} (h : ns[k]? = some x) : (i64s ns)[k]? = some (.int .i64 x) := by simp [i64s, h]
theorem i64s_len (ns : List Int) : (i64s ns).length = ns.length := by simp [i64s]
theorem i64s_set (ns : List Int) (k : Nat) (x : Int) : i64s (ns.set k x) = (i64s ns).set k (.int .i64 x) := by simp [i64s, List.map_set]
theorem i64s_one (ns : List Int) : ∀ v ∈ i64s ns, v.oneCell' = true := by
  intro v hv
  simp only [i64s, List.mem_map] at hv
  obtain ⟨x, _, rfl⟩ := hv
  rfl

theorem dns_len (top : Int) (L : List Int) : (dns top L).length = 16 := by simp [dns]
theorem dns_get (top : Int) (L : List Int) {k : Nat} (h : k < 16) : (dns top L)[k]? = some (ofN top L (k : Int)) := by
  simp [dns, h]
theorem ofN_no {top : Int} {L : List Int} {e : Int} (h : ¬ (1 ≤ e ∧ e ≤ 15)) : ofN top L e = 0 := by unfold ofN; rw [if_neg h]
theorem ofN_yes {top : Int} {L : List Int} {e : Int} (h : 1 ≤ e ∧ e ≤ 15) : ofN top L e = min (L.count e : Int) top := by unfold ofN; rw [if_pos h]
theorem ofN_lo {top : Int} (ht : 1 ≤ top) (L : List Int) (e : Int) : 0 ≤ ofN top L e := by unfold ofN; split <;> omega
theorem ofN_hi {top : Int} (ht : 1 ≤ top) (L : List Int) (e : Int) : ofN top L e ≤ top := by unfold ofN; split <;> omega
theorem ofN_mono {top : Int} (ht : 1 ≤ top) (L y : List Int) (e : Int) : ofN top L e ≤ ofN top (L ++ y) e := by
  unfold ofN
  split
  · rw [List.count_append]; omega
  · omega
theorem dns_add {top : Int} (ht : 1 ≤ top) (L : List Int) {e : Int} (h : 1 ≤ e ∧ e ≤ 15) : (dns top L).set e.toNat (min (ofN top L e + 1) top) = dns top (L ++ [e]) := by
  apply List.ext_getElem?
  intro k
  by_cases hk : k < 16
  · rw [List.getElem?_set, dns_len, dns_get top _ hk]
    by_cases hke : e.toNat = k
    · subst hke
      rw [if_pos rfl, if_pos hk]
      have : ((e.toNat : Nat) : Int) = e := by omega
      rw [dns_get top _ hk, this, ofN_yes h, ofN_yes h, List.count_append]
      simp
      omega
    · rw [if_neg hke, dns_get top _ hk]
      unfold ofN
      rw [List.count_append]
      have hne : ([e] : List Int).count (k : Int) = 0 := by
        rw [List.count_eq_zero]; simp; omega
      rw [hne]; simp
  · rw [List.getElem?_eq_none (by simp [dns_len]; omega), List.getElem?_eq_none (by simp [dns_len]; omega)]
theorem dns_skip (top : Int) (L : List Int) {e : Int} (h : ¬ (1 ≤ e ∧ e ≤ 15)) : dns top (L ++ [e]) = dns top L := by
  unfold dns
  apply List.map_congr_left
  intro k _
  unfold ofN
  split
  · rw [List.count_append]
    have hne : ([e] : List Int).count (k : Int) = 0 := by
      rw [List.count_eq_zero]; simp; omega
    rw [hne]; simp
  · rfl

/-- How many of them are reasons. -/
def rsn (l : List Int) : Nat := (l.filter fun e => decide (1 ≤ e ∧ e ≤ 15)).length
theorem rsn_yes {l : List Int} {k : Nat} {e : Int} (h : l[k]? = some e) (he : 1 ≤ e ∧ e ≤ 15) : rsn (l.take (k + 1)) = rsn (l.take k) + 1 := by
  unfold rsn
  rw [List.take_add_one, h, List.filter_append, List.length_append]
  simp [he]
theorem rsn_no {l : List Int} {k : Nat} {e : Int} (h : l[k]? = some e) (he : ¬ (1 ≤ e ∧ e ≤ 15)) : rsn (l.take (k + 1)) = rsn (l.take k) := by
  unfold rsn
  rw [List.take_add_one, h, List.filter_append, List.length_append]
  simp [he]
theorem rsn_le (l : List Int) : rsn l ≤ l.length := List.length_filter_le _ _

/-- The sum of the first k. -/
def sumK (ns : List Int) (k : Nat) : Int := (ns.take k).foldl (· + ·) 0
theorem sumK_step {ns : List Int} {k : Nat} {x : Int} (h : ns[k]? = some x) : sumK ns (k + 1) = sumK ns k + x := by
  unfold sumK
  rw [List.take_add_one, h, List.foldl_append]
  rfl
theorem sumK_bd {ns : List Int} (h : ∀ x ∈ ns, 0 ≤ x ∧ x ≤ 2147483647) : ∀ k, k ≤ ns.length → 0 ≤ sumK ns k ∧ sumK ns k ≤ k * 2147483647
  | 0, _ => by simp [sumK]
  | k + 1, hk => by
    obtain ⟨a, b⟩ := sumK_bd h k (by omega)
    have hx := List.getElem?_eq_getElem (l := ns) (i := k) (by omega)
    rw [sumK_step hx]
    have := h _ (List.getElem_mem (l := ns) (n := k) (by omega))
    omega
/-- The one that was most often, of the first k, and how often. -/
def wst (ns : List Int) : Nat → Int × Int
  | 0 => (0, 0)
  | k + 1 => if (wst ns k).2 < ns.getD k 0 then ((k : Int), ns.getD k 0) else wst ns k
theorem wst_yes {ns : List Int} {k : Nat} {x : Int} (h : ns[k]? = some x) (hx : (wst ns k).2 < x) : wst ns (k + 1) = ((k : Int), x) := by
  have : ns.getD k 0 = x := by simp [List.getD, h]
  rw [wst, this, if_pos hx]
theorem wst_no {ns : List Int} {k : Nat} {x : Int} (h : ns[k]? = some x) (hx : ¬ (wst ns k).2 < x) : wst ns (k + 1) = wst ns k := by
  have : ns.getD k 0 = x := by simp [List.getD, h]
  rw [wst, this, if_neg hx]

theorem dns_bd {top : Int} (ht : 1 ≤ top) (ht' : top ≤ 2147483647) (L : List Int) : ∀ x ∈ dns top L, 0 ≤ x ∧ x ≤ 2147483647 := by
  intro x hx
  simp only [dns, List.mem_map] at hx
  obtain ⟨k, _, rfl⟩ := hx
  have := ofN_lo ht L k
  have := ofN_hi ht L k
  omega

/-- How often, of the first k, no more than the limit: the document's way. -/
def occ (top : Int) (L : List Int) (e : Int) (k : Nat) : Int := if 1 ≤ e ∧ e ≤ 15 then min ((L.take k).count e : Int) top else 0
theorem occ_end (top : Int) (L : List Int) (e : Int) : occ top L e L.length = ofN top L e := by unfold occ ofN; rw [List.take_length]
theorem occ_zero {top : Int} (ht : 1 ≤ top) (L : List Int) (e : Int) : occ top L e 0 = 0 := by unfold occ; simp; omega
theorem occ_yes {top : Int} {L : List Int} {e : Int} {k : Nat} {x : Int} (h : L[k]? = some x) (hx : x = e) (he : 1 ≤ e ∧ e ≤ 15) (hn : occ top L e k < top) : occ top L e (k + 1) = occ top L e k + 1 := by
  unfold occ at *
  rw [if_pos he] at *
  rw [if_pos he, List.take_add_one, h, List.count_append]
  subst hx
  simp
  omega
theorem occ_no {top : Int} {L : List Int} {e : Int} {k : Nat} {x : Int} (h : L[k]? = some x) (hx : ¬ (x = e ∧ (1 ≤ e ∧ e ≤ 15) ∧ occ top L e k < top)) : occ top L e (k + 1) = occ top L e k := by
  unfold occ at *
  by_cases he : 1 ≤ e ∧ e ≤ 15
  · rw [if_pos he] at *
    rw [if_pos he, List.take_add_one, h, List.count_append]
    by_cases hxe : x = e
    · subst hxe
      simp
      have : ¬ min ((L.take k).count x : Int) top < top := fun q => hx ⟨rfl, he, q⟩
      omega
    · have hne : (some x).toList.count e = 0 := by rw [List.count_eq_zero]; simp; exact fun q => hxe q.symm
      rw [hne]; simp
  · rw [if_neg he, if_neg he]
end Go.Proofs.YtnopmdhjamkoaaaDoor
