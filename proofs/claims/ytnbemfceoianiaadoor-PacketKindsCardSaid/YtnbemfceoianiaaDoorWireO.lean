/- Contracts of package wire: a field's bytes. -/
import Derived.Test.YtnbemfceoianiaaDoorBaseB
import Derived.Test.YtnbemfceoianiaaDoorWireC
namespace Go.Proofs.YtnbemfceoianiaaDoor
set_option linter.unusedVariables false
open Go.RowKit

theorem RetFresh.later {w w1 : World} {e size n : Nat} {xs : List Value} {en : Ending} {w' : World} (hb : Below w.heap.size w w1) (h : RetFresh w1 e size n xs en w') : RetFresh w e size n xs en w' := by
  obtain ⟨v, rfl, hf⟩ := h
  exact ⟨v, rfl, Bsz hb hf.bel, ownsRow_base hf.own hb.size⟩

set_option maxHeartbeats 400000 in
theorem out_0 (n : Int) (B : Value) (w : World) (h0 : 0 ≤ n) (h1 : n ≤ 9223372036854775807) (hB : ∃ A m c, B = .slice A m c) :
    Calls Tryd.prog 35 #[.agg #[.int .i64 0, .int .i64 n, B]] w (RetFresh w 5 1 1 (by8 (numB 1 n))) := by
  have hc := fun W => number_0 n W h0 h1
  have HC := Lib.hid hc
  clear h0 h1 hc
  obtain ⟨A, m, c, rfl⟩ := hB
  have main : Calls Tryd.prog 35 #[.agg #[.int .i64 0, .int .i64 n, .slice A m c]] w (fun e w' => ∃ w1, Below w.heap.size w w1 ∧ RetFresh w1 5 1 1 (by8 (numB 1 n)) e w') := by
    go_enter Tryd.func35, Tryd.ntmps35
    go_wp2_with fail
    refine (HC.out _).mono ?_
    rintro e w1 ⟨v, rfl, hf⟩
    have HF := Lib.hid hf
    clear hf
    go_wp2_with fail
    go_ret
    exact ⟨_, (Below.refl _ _).alloc (Nat.le_refl _) _, _, rfl, HF.out⟩
  exact main.mono fun e w' ⟨w1, hb, hr⟩ => hr.later hb

set_option maxHeartbeats 400000 in
theorem out_1 (n : Int) (B : Value) (w : World) (h0 : 0 ≤ n) (h1 : n ≤ 9223372036854775807) (hB : ∃ A m c, B = .slice A m c) :
    Calls Tryd.prog 35 #[.agg #[.int .i64 1, .int .i64 n, B]] w (RetFresh w 5 1 2 (by8 (numB 2 n))) := by
  have hc := fun W => number_1 n W h0 h1
  have HC := Lib.hid hc
  clear h0 h1 hc
  obtain ⟨A, m, c, rfl⟩ := hB
  have main : Calls Tryd.prog 35 #[.agg #[.int .i64 1, .int .i64 n, .slice A m c]] w (fun e w' => ∃ w1, Below w.heap.size w w1 ∧ RetFresh w1 5 1 2 (by8 (numB 2 n)) e w') := by
    go_enter Tryd.func35, Tryd.ntmps35
    go_wp2_with fail
    refine (HC.out _).mono ?_
    rintro e w1 ⟨v, rfl, hf⟩
    have HF := Lib.hid hf
    clear hf
    go_wp2_with fail
    go_ret
    exact ⟨_, (Below.refl _ _).alloc (Nat.le_refl _) _, _, rfl, HF.out⟩
  exact main.mono fun e w' ⟨w1, hb, hr⟩ => hr.later hb

set_option maxHeartbeats 400000 in
theorem out_2 (n : Int) (B : Value) (w : World) (h0 : 0 ≤ n) (h1 : n ≤ 9223372036854775807) (hB : ∃ A m c, B = .slice A m c) :
    Calls Tryd.prog 35 #[.agg #[.int .i64 2, .int .i64 n, B]] w (RetFresh w 5 1 4 (by8 (numB 4 n))) := by
  have hc := fun W => number_2 n W h0 h1
  have HC := Lib.hid hc
  clear h0 h1 hc
  obtain ⟨A, m, c, rfl⟩ := hB
  have main : Calls Tryd.prog 35 #[.agg #[.int .i64 2, .int .i64 n, .slice A m c]] w (fun e w' => ∃ w1, Below w.heap.size w w1 ∧ RetFresh w1 5 1 4 (by8 (numB 4 n)) e w') := by
    go_enter Tryd.func35, Tryd.ntmps35
    go_wp2_with fail
    refine (HC.out _).mono ?_
    rintro e w1 ⟨v, rfl, hf⟩
    have HF := Lib.hid hf
    clear hf
    go_wp2_with fail
    go_ret
    exact ⟨_, (Below.refl _ _).alloc (Nat.le_refl _) _, _, rfl, HF.out⟩
  exact main.mono fun e w' ⟨w1, hb, hr⟩ => hr.later hb

set_option maxHeartbeats 400000 in
theorem out_3 (n : Int) (B : Value) (w : World) (h0 : 0 ≤ n) (h1 : n ≤ 9223372036854775807) (hB : ∃ A m c, B = .slice A m c) :
    Calls Tryd.prog 35 #[.agg #[.int .i64 3, .int .i64 n, B]] w (RetFresh w 5 1 8 (by8 (numB 8 n))) := by
  have hc := fun W => number_3 n W h0 h1
  have HC := Lib.hid hc
  clear h0 h1 hc
  obtain ⟨A, m, c, rfl⟩ := hB
  have main : Calls Tryd.prog 35 #[.agg #[.int .i64 3, .int .i64 n, .slice A m c]] w (fun e w' => ∃ w1, Below w.heap.size w w1 ∧ RetFresh w1 5 1 8 (by8 (numB 8 n)) e w') := by
    go_enter Tryd.func35, Tryd.ntmps35
    go_wp2_with fail
    refine (HC.out _).mono ?_
    rintro e w1 ⟨v, rfl, hf⟩
    have HF := Lib.hid hf
    clear hf
    go_wp2_with fail
    go_ret
    exact ⟨_, (Below.refl _ _).alloc (Nat.le_refl _) _, _, rfl, HF.out⟩
  exact main.mono fun e w' ⟨w1, hb, hr⟩ => hr.later hb
end Go.Proofs.YtnbemfceoianiaaDoor
