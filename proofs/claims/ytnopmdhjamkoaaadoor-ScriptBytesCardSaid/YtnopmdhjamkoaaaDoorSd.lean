/- Steps in memory. -/
import Derived.Test.YtnopmdhjamkoaaaDoorSc1
import Derived.Test.YtnopmdhjamkoaaaDoorExtE
import Derived.Deep.RegionHeld3
import Derived.Deep.DeepCutAuto
import Derived.BigQuiet
import Derived.Laws.BitsAll
namespace Go.Proofs.YtnopmdhjamkoaaaDoor
set_option linter.unusedVariables false
set_option linter.unusedSimpArgs false
open Go.RowKit

/-- A step: its numbers and its bytes' slice. -/
structure St where
  k : Int
  who : Int
  n : Int
  A : Option Addr
  l : Nat
  c : Nat
abbrev St.cs (e : St) : List Value := [.int .i64 e.k, .int .i64 e.who, .int .i64 e.n, .slice e.A e.l e.c]
abbrev St.v (e : St) : Value := .agg #[.int .i64 e.k, .int .i64 e.who, .int .i64 e.n, .slice e.A e.l e.c]
def sts (l : List St) : List Value := l.flatMap St.cs
theorem sts_length (l : List St) : (sts l).length = l.length * 4 := by
  induction l with
  | nil => rfl
  | cons a l ih => simp only [sts, List.flatMap_cons, List.length_append] at ih ⊢; simp [ih]; omega
theorem sts_take (l : List St) (n : Nat) : (sts l).take (n * 4) = sts (l.take n) := by
  induction l generalizing n with
  | nil => simp [sts]
  | cons a l ih =>
    cases n with
    | zero => simp [sts]
    | succ n =>
      simp only [sts, List.flatMap_cons, List.take_succ_cons] at ih ⊢
      rw [show (n + 1) * 4 = n * 4 + 4 by omega]
      simp only [St.cs, List.cons_append, List.nil_append, List.take_succ_cons]
      rw [ih]
theorem sts_get : ∀ {l : List St} {k : Nat} {e : St}, l[k]? = some e → (sts l)[k * 4]? = some (.int .i64 e.k) ∧ (sts l)[k * 4 + 1]? = some (.int .i64 e.who) ∧ (sts l)[k * 4 + 2]? = some (.int .i64 e.n) ∧ (sts l)[k * 4 + 3]? = some (.slice e.A e.l e.c)
  | [], k, e, h => by simp at h
  | a :: l, 0, e, h => by
    simp only [List.getElem?_cons_zero, Option.some.injEq] at h
    subst h
    simp [sts]
  | a :: l, k + 1, e, h => by
    have ih := sts_get (l := l) (k := k) (e := e) (by simpa using h)
    have e1 : sts (a :: l) = a.cs ++ sts l := by simp [sts]
    rw [e1]
    have hx (j : Nat) : (a.cs ++ sts l)[(k + 1) * 4 + j]? = (sts l)[k * 4 + j]? := by
      rw [List.getElem?_append_right (by simp only [St.cs, List.length_cons, List.length_nil]; omega)]
      congr 1
      simp only [St.cs, List.length_cons, List.length_nil]; omega
    exact ⟨(hx 0).trans ih.1, (hx 1).trans ih.2.1, (hx 2).trans ih.2.2.1, (hx 3).trans ih.2.2.2⟩
theorem sts_one (l : List St) : ∀ u ∈ sts l, u.oneCell' = true := by
  intro u hu
  simp only [sts, List.mem_flatMap] at hu
  obtain ⟨e, _, hu⟩ := hu
  simp only [St.cs, List.mem_cons, List.not_mem_nil, or_false] at hu
  rcases hu with rfl | rfl | rfl | rfl <;> rfl
theorem st_one (e : St) : ∀ u ∈ e.cs, u.oneCell' = true := by
  intro u hu
  simp only [St.cs, List.mem_cons, List.not_mem_nil, or_false] at hu
  rcases hu with rfl | rfl | rfl | rfl <;> rfl
/-- The k-th step behind an address. -/
def StAt (w : World) (b o k : Nat) (e : St) : Prop := w.cell? ⟨b, o + k * 4, none⟩ = some (.int .i64 e.k) ∧ w.cell? ⟨b, o + k * 4 + 1, none⟩ = some (.int .i64 e.who) ∧ w.cell? ⟨b, o + k * 4 + 2, none⟩ = some (.int .i64 e.n) ∧ w.cell? ⟨b, o + k * 4 + 3, none⟩ = some (.slice e.A e.l e.c)
theorem Rd.stAt {w : World} {B : Nat} {A : Option Addr} {l : List St} (h : Rd w B 4 A l.length (sts l)) {k : Nat} {e : St} (hk : l[k]? = some e) : ∃ b o, A = some ⟨b, o, none⟩ ∧ b < B ∧ StAt w b o k e := by
  have hlt := (List.getElem?_eq_some_iff.1 hk).1
  obtain ⟨b, o, e', hb, hc⟩ := h.2 (by omega)
  obtain ⟨h1, h2, h3, h4⟩ := sts_get hk
  exact ⟨b, o, e', hb, hc _ _ h1, by rw [Nat.add_assoc]; exact hc _ _ h2, by rw [Nat.add_assoc]; exact hc _ _ h3, by rw [Nat.add_assoc]; exact hc _ _ h4⟩
theorem StAt.below {w w' : World} {b o k : Nat} {e : St} (h : StAt w b o k e) {B : Nat} (hb : Below B w w') (hB : b < B) : StAt w' b o k e :=
  ⟨(hb.cell (p := ⟨b, _, none⟩) hB).trans h.1, (hb.cell (p := ⟨b, _, none⟩) hB).trans h.2.1, (hb.cell (p := ⟨b, _, none⟩) hB).trans h.2.2.1, (hb.cell (p := ⟨b, _, none⟩) hB).trans h.2.2.2⟩

theorem Rd.takeS {w : World} {B : Nat} {A : Option Addr} {l : List St} {n : Nat} (h : Rd w B 4 A n (sts l)) (hn : l.length = n) {m : Nat} (hm : m ≤ n) : Rd w B 4 A m (sts (l.take m)) := by
  refine ⟨by rw [sts_length, List.length_take]; congr 1; omega, fun h0 => ?_⟩
  obtain ⟨b, o, e, hb, hc⟩ := h.2 (by omega)
  refine ⟨b, o, e, hb, fun j u hu => hc j u ?_⟩
  rw [← sts_take, List.getElem?_take] at hu
  split at hu
  · exact hu
  · cases hu
theorem Src.takeS {W : World} {bl : Bl} {ow : List Ro} {A : Option Addr} {l : List St} {n : Nat} (h : Src W bl ow 4 A n (sts l)) (hn : l.length = n) {m : Nat} (hm : m ≤ n) : Src W bl ow 4 A m (sts (l.take m)) := by
  have hu {j : Nat} {u : Value} (hu : (sts (l.take m))[j]? = some u) : (sts l)[j]? = some u := by
    rw [← sts_take, List.getElem?_take] at hu
    split at hu
    · exact hu
    · cases hu
  refine ⟨by rw [sts_length, List.length_take]; congr 1; omega, fun h0 => ?_⟩
  obtain ⟨b, o, e, hc⟩ := h.2 (by omega)
  refine ⟨b, o, e, ?_⟩
  rcases hc with ⟨hb, hc⟩ | ⟨t, cs, h1, hc⟩ | ⟨y, hy, h1, hc⟩
  · exact .inl ⟨hb, fun j u h => hc j u (hu h)⟩
  · exact .inr (.inl ⟨t, cs, h1, fun j u h => hc j u (hu h)⟩)
  · exact .inr (.inr ⟨y, hy, h1, fun j u h => hc j u (hu h)⟩)
theorem el_step : El Tryd.prog 54 62 4 48 := El.of Tryd.underlying54 (z := .agg #[.int .i64 0, .int .i64 0, .int .i64 0, .slice none 0 0]) (by kernel_rfl) rfl (by decide)

theorem el_rstep : El Tryd.prog 53 67 4 48 := El.of Tryd.underlying53 (z := .agg #[.int .i64 0, .int .i64 0, .int .i64 0, .slice none 0 0]) (by kernel_rfl) rfl (by decide)
theorem sts_snoc (l : List St) (e : St) : sts (l ++ [e]) = sts l ++ e.cs := by simp [sts]
theorem sts_step {l : List St} {k : Nat} {e : St} (h : l[k]? = some e) : sts (l.take (k + 1)) = sts (l.take k) ++ e.cs := by
  rw [List.take_add_one, h]
  exact sts_snoc _ _
theorem four_one (a b c : Int) (A : Option Addr) (l d : Nat) : ∀ u ∈ [Value.int .i64 a, .int .i64 b, .int .i64 c, .slice A l d], u.oneCell' = true := by simp [Value.oneCell']
end Go.Proofs.YtnopmdhjamkoaaaDoor
