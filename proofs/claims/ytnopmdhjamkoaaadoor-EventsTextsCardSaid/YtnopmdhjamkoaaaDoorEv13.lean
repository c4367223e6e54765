/- The law's to, the document's Check; a log that is put one event, and read; the chapter's example. -/
import Derived.Test.YtnopmdhjamkoaaaDoorEv12
import Derived.Test.YtnopmdhjamkoaaaDoorOpenA
namespace Go.Proofs.YtnopmdhjamkoaaaDoor
set_option linter.unusedVariables false
set_option linter.unusedSimpArgs false
open Go.RowKit

theorem to27_any (t k i r : Int) (w : World) : Calls Tryd.prog 13 #[.agg #[.int .i64 t, .int .i64 k, .int .i64 i, .int .i64 r]] w fun e w' => e = .returned (.agg #[.int .i64 t, .int .i64 k, .int .i64 i, .int .i64 r]) ∧ Below w.heap.size w w' := by
  go_enter Tryd.func13, Tryd.ntmps13
  go_wp2
  exact bodyPost_ret (v := .agg #[.int .i64 t, .int .i64 k, .int .i64 i, .int .i64 r]) (by simp [results, Tryd.results13, go_sem]) rfl ⟨rfl, ((Below.refl _ _).alloc (Nat.le_refl _) _).alloc (by simp) _⟩

set_option maxRecDepth 100000 in
set_option maxHeartbeats 1600000 in
theorem refcheck27_any (t k i r : Int) (w : World) : Calls Tryd.prog 8 #[.agg #[.int .i64 t, .int .i64 k, .int .i64 i, .int .i64 r]] w fun e w' => e = .returned (.int .i64 (evC t k i r)) ∧ Below w.heap.size w w' := by
  obtain ⟨v, hv⟩ : ∃ v, evC t k i r = v := ⟨_, rfl⟩
  have hs := evC_split t k i r v hv
  rw [hv]
  clear hv
  rcases hs with ⟨h1, rfl⟩ | ⟨h0, h1, rfl⟩ | ⟨k0, k1, (⟨h1, rfl⟩ | ⟨h0, h1, rfl⟩ | ⟨h0, h2, h1, rfl⟩ | ⟨h0, h2, h3, h1, rfl⟩ | ⟨h0, h2, h3, h4, (⟨h1, rfl⟩ | ⟨h5, h1, rfl⟩ | ⟨h5, h6, (⟨h1, h7, rfl⟩ | ⟨rfl, rfl⟩ | ⟨h1, rfl, rfl⟩)⟩)⟩)⟩
  case inr.inr.inr.inr.inr.inr.inr.inr.inl =>
    have f1 : k < 4 := by omega
    have f2 : 0 < r := by omega
    clear h1 h7
    go_enter Tryd.func8, Tryd.ntmps8
    go_wp2
    go_ret
    exact ⟨rfl, (Below.refl _ _).alloc (Nat.le_refl _) _⟩
  all_goals
    try have f1 : k < 4 := by omega
  all_goals
    go_enter Tryd.func8, Tryd.ntmps8
    go_wp2
    go_ret
    exact ⟨rfl, (Below.refl _ _).alloc (Nat.le_refl _) _⟩

theorem flat_evs : ∀ (n : Nat) (zs : List Int), zs.length = n * 4 → ∃ es : List Ev, zs.map (Value.int .i64) = evs es ∧ es.length = n ∧ ∀ e ∈ es, e.t ∈ zs ∧ e.k ∈ zs ∧ e.i ∈ zs ∧ e.r ∈ zs
  | 0, zs, h => by
    have : zs = [] := List.eq_nil_of_length_eq_zero (by omega)
    subst this
    exact ⟨[], rfl, rfl, by simp⟩
  | n + 1, [], h => by simp at h
  | n + 1, [_], h => by simp at h; omega
  | n + 1, [_, _], h => by simp at h; omega
  | n + 1, [_, _, _], h => by simp at h; omega
  | n + 1, a :: b :: c :: d :: zs, h => by
    obtain ⟨es, h1, h2, h3⟩ := flat_evs n zs (by simp at h; omega)
    refine ⟨⟨a, b, c, d⟩ :: es, by simp [evs, Ev.cs] at h1 ⊢; exact h1, by simp [h2], ?_⟩
    intro x hx
    rcases List.mem_cons.1 hx with rfl | hx
    · simp
    · obtain ⟨q1, q2, q3, q4⟩ := h3 x hx
      exact ⟨by simp [q1], by simp [q2], by simp [q3], by simp [q4]⟩
/-- A slice of events that is read. -/
theorem Flat.evs {w : World} {A : Option Addr} {n : Nat} {zs : List Int} (h : Flat 4 w A n zs) : ∃ es : List Ev, es.length = n ∧ Rd w w.heap.size 4 A es.length (evs es) ∧ ∀ e ∈ es, in64 e.t ∧ in64 e.k ∧ in64 e.i ∧ in64 e.r := by
  obtain ⟨es, h1, h2, h3⟩ := flat_evs n zs h.length
  refine ⟨es, h2, ?_, fun x hx => ⟨h.2 _ (h3 x hx).1, h.2 _ (h3 x hx).2.1, h.2 _ (h3 x hx).2.2.1, h.2 _ (h3 x hx).2.2.2⟩⟩
  have := h.1
  rw [h1, ← h2] at this
  exact this

/-- The k-th event behind an address. -/
def EvAt (w : World) (b o k : Nat) (e : Ev) : Prop := w.cell? ⟨b, o + k * 4, none⟩ = some (.int .i64 e.t) ∧ w.cell? ⟨b, o + k * 4 + 1, none⟩ = some (.int .i64 e.k) ∧ w.cell? ⟨b, o + k * 4 + 2, none⟩ = some (.int .i64 e.i) ∧ w.cell? ⟨b, o + k * 4 + 3, none⟩ = some (.int .i64 e.r)
theorem Rd.evAt {w : World} {B : Nat} {A : Option Addr} {l : List Ev} (h : Rd w B 4 A l.length (evs l)) {k : Nat} {e : Ev} (hk : l[k]? = some e) : ∃ b o, A = some ⟨b, o, none⟩ ∧ b < B ∧ EvAt w b o k e := by
  have hlt := (List.getElem?_eq_some_iff.1 hk).1
  obtain ⟨b, o, e', hb, hc⟩ := h.2 (by omega)
  obtain ⟨h1, h2, h3, h4⟩ := evs_get hk
  exact ⟨b, o, e', hb, hc _ _ h1, by rw [Nat.add_assoc]; exact hc _ _ h2, by rw [Nat.add_assoc]; exact hc _ _ h3, by rw [Nat.add_assoc]; exact hc _ _ h4⟩
theorem Mst.evAt {W w : World} {bl : Bl} {ow : List Ro} (h : Mst W w bl ow) {b o k : Nat} {e : Ev} (hb : b < W.heap.size) (p : EvAt W b o k e) : EvAt w b o k e :=
  ⟨h.old hb p.1, h.old hb p.2.1, h.old hb p.2.2.1, h.old hb p.2.2.2⟩
theorem Mst.rowAt {W w : World} {bl : Bl} {ow : List Ro} (h : Mst W w bl ow) {A : Option Addr} {n c : Nat} {X : List Ev} (hy : evRow A n c X ∈ ow) (hn : X.length = n) {k : Nat} {e : Ev} (hk : X[k]? = some e) : ∃ b o, A = some ⟨b, o, none⟩ ∧ EvAt w b o k e := by
  subst hn
  obtain ⟨b, o, e1, _, p⟩ := srcE h (h.rowSrc hy) hk
  exact ⟨b, o, e1, p⟩

theorem LgAt.below {W w w' : World} {bl : Bl} {ow : List Ro} {g : Nat} {s : List Ev × Nat} (h : LgAt W bl ow g s w) (hb : Below w.heap.size w w') : LgAt W bl ow g s w' := by
  obtain ⟨v, h⟩ := h
  exact ⟨v, h.below hb⟩
theorem LgAt.bel {W w : World} {bl : Bl} {ow : List Ro} {g : Nat} {s : List Ev × Nat} (h : LgAt W bl ow g s w) : Below W.heap.size W w := by
  obtain ⟨v, h⟩ := h
  exact h.bel
theorem LgAt.forget {W w : World} {bl : Bl} {y : Ro} {ow : List Ro} {g : Nat} {s : List Ev × Nat} (h : LgAt W bl (y :: ow) g s w) : LgAt W bl ow g s w := by
  obtain ⟨v, h⟩ := h
  exact ⟨v, h.sub (List.Sublist.refl _) ((List.sublist_cons_self _ _).cons_cons _)⟩
theorem LgAt.zero {W w : World} {bl : Bl} {ow : List Ro} (h : Mst W w bl ow) : LgAt W bl ow w.heap.size ([], 0) (w.alloc (.cells #[.slice none 0 0, .int .i64 0] 83)) :=
  ⟨.slice none 0 0, (h.new 83 #[.slice none 0 0, .int .i64 0]).nilrow 30 4⟩
/-- One event is put. -/
theorem evput1 {W w w1 : World} {bl : Bl} {ow : List Ro} {g : Nat} {s : List Ev × Nat} (h : LgAt W bl ow g s w) (e : Ev) (h128 : s.1.length ≤ 128) (hlost : s.2 + 1 ≤ 1000000)
    (hw : w.alloc (.cells #[.int .i64 e.t, .int .i64 e.k, .int .i64 e.i, .int .i64 e.r] 30) = w1) :
    Calls Tryd.prog 14 #[.pointer (some ⟨g, 0, none⟩), .slice (some ⟨w.heap.size, 0, none⟩) 1 1] w1 fun r w' => r = .returned (.int .i64 (((putE s e).1.length : Int) - s.1.length)) ∧ LgAt W bl ow g (putE s e) w' := by
  subst hw
  obtain ⟨v, h⟩ := h
  have m := (h.newrow 30 4 1 1 #[.int .i64 e.t, .int .i64 e.k, .int .i64 e.i, .int .i64 e.r] (Nat.le_refl _) (by decide) rfl).perm (List.Perm.refl _) (List.Perm.swap _ _ _)
  have this := evput_any W _ bl _ g s ⟨v, m⟩ [e] (some ⟨w.heap.size, 0, none⟩) 1 (m.dropb.dropr.rowSrc (List.mem_cons_self ..)) h128 hlost
  exact this.mono fun r w' ⟨hr, hl⟩ => ⟨hr, hl.forget⟩
theorem readL {W w : World} {bl : Bl} {ow : List Ro} {g : Nat} {s : List Ev × Nat} (h : LgAt W bl ow g s w) (hn : s.1.length ≤ 1000000) (hE : ∀ e ∈ s.1, 0 ≤ e.r ∧ e.r < 8) (m : Nat) (hm : m < 256) :
    Calls Tryd.prog 15 #[.pointer (some ⟨g, 0, none⟩), .int .i64 m, .slice none 0 0] w fun r w' => ∃ A' n' c', r = .returned (.slice A' n' c') ∧ n' = (keepE (sD m fun _ => true) s.1).length ∧ LgAt W bl (evRow A' n' c' (keepE (sD m fun _ => true) s.1) :: ow) g s w' := by
  obtain ⟨v, h⟩ := h
  refine (read_any W w bl ow g s v h hn hE m hm).mono ?_
  rintro r w' ⟨A, n, c, rfl, hn', hm'⟩
  exact ⟨A, n, c, rfl, hn', v, hm'.perm (List.Perm.refl _) (List.Perm.swap _ _ _)⟩

set_option maxRecDepth 100000 in
set_option maxHeartbeats 1000000 in
theorem known27 (w : World) : Calls Tryd.prog 10 #[] w fun e w' => e = .returned (.bool true) ∧ Below w.heap.size w w' := by
  have L0 := Lib.hid (LgAt.zero (Mst.start w))
  have HP := Lib.hid (fun w1 w2 h hw => evput1 (W := w) (w := w1) (w1 := w2) (bl := []) (ow := []) (g := w.heap.size) (s := ([], 0)) h ⟨0, 4, 5, 2⟩ (by decide) (by decide) hw)
  have HR4 := Lib.hid (fun w1 ow h => readL (W := w) (w := w1) (bl := []) (ow := ow) (g := w.heap.size) (s := ([⟨0, 4, 5, 2⟩], 0)) h (by decide) (by decide) 4 (by decide))
  have HR3 := Lib.hid (fun w1 ow h => readL (W := w) (w := w1) (bl := []) (ow := ow) (g := w.heap.size) (s := ([⟨0, 4, 5, 2⟩], 0)) h (by decide) (by decide) 3 (by decide))
  go_enter Tryd.func10, Tryd.ntmps10
  go_upto_region 2 with fail
  generalize hw1 : World.alloc _ _ = w1
  have L1 := Lib.hid (hw1 ▸ L0.out)
  clear L0
  go_wp2_with fail
  refine (HP.out _ _ L1.out rfl).mono ?_
  rintro e w2 ⟨rfl, hl⟩
  have L2 := Lib.hid (show LgAt w [] [] w.heap.size ([⟨0, 4, 5, 2⟩], 0) w2 from hl)
  clear hl L1 hw1
  go_wp2_with fail
  refine (HR4.out _ _ L2.out).mono ?_
  rintro e w3 ⟨A3, n3, c3, rfl, hn3, hl⟩
  obtain rfl : n3 = 1 := hn3
  have L3 := Lib.hid hl
  clear hl
  go_wp2_with fail
  refine (HR3.out _ _ L3.out).mono ?_
  rintro e w4 ⟨A4, n4, c4, rfl, hn4, hl⟩
  obtain rfl : n4 = 0 := hn4
  have L4 := Lib.hid hl
  clear hl
  go_wp2
  go_ret
  exact ⟨rfl, L4.out.bel⟩
end Go.Proofs.YtnopmdhjamkoaaaDoor
