/- The document's Text of any step. -/
import Derived.Test.YtnopmdhjamkoaaaDoorSc21
namespace Go.Proofs.YtnopmdhjamkoaaaDoor
set_option linter.unusedVariables false
set_option linter.unusedSimpArgs false
open Go.RowKit
set_option maxRecDepth 100000 in
theorem rtextbad_any (w : World) (k q m : Int) (A : Option Addr) (L c : Nat) (hchk : scC k q m L ≠ 0) :
    Calls Tryd.prog 39 #[.agg #[.int .i64 k, .int .i64 q, .int .i64 m, .slice A L c]] w fun r w' => r = .returned (.string ⟨#[]⟩) ∧ Below w.heap.size w w' := by
  have Mq := Lib.hid ((Mst.start w).new 67 #[.int .i64 k, .int .i64 q, .int .i64 m, .slice A L c])
  obtain ⟨C, hC⟩ : ∃ C, scC k q m L = C := ⟨_, rfl⟩
  rw [hC] at hchk
  have HC := Lib.hid (show ∀ w', Below w.heap.size w w' → Calls Tryd.prog 40 #[.agg #[.int .i64 k, .int .i64 q, .int .i64 m, .slice A L c]] w' fun r w2 => r = .returned (.int .i64 C) ∧ Below w'.heap.size w' w2 from fun w' hb => by
    have h := (scrc_any k q m A L c).2 w'
    rw [hC] at h
    exact h)
  have hc1 : (C == 0) = false := by simpa using hchk
  have hc2 : (C != 0) = true := by simpa using hchk
  clear hC hchk
  have c0 := (Mq.out.blk []).cell 0
  have c1 := (Mq.out.blk []).cell 1
  have c2 := (Mq.out.blk []).cell 2
  have c3 := (Mq.out.blk []).cell 3
  simp only [List.getElem?_toArray, List.getElem?_cons_zero, List.getElem?_cons_succ] at c0 c1 c2 c3
  go_enter Tryd.func39, Tryd.ntmps39
  go_wp2_with fail
  with_reducible refine (HC.out _ Mq.out.bel).mono ?_
  rintro r w1 ⟨rfl, hb⟩
  have Mq := Lib.hid (Mq.out.below hb)
  clear hb c0 c1 c2 c3
  go_wp2_with fail
  go_ret
  exact ⟨rfl, Mq.out.bel⟩
theorem rtextS_any (w : World) (k who n : Int) (A : Option Addr) (l : List UInt8) (c : Nat) (hr : RB w w.heap.size A l) :
    Calls Tryd.prog 39 #[.agg #[.int .i64 k, .int .i64 who, .int .i64 n, .slice A l.length c]] w fun r w' => r = .returned (.string (txB k who n l)) ∧ Below w.heap.size w w' := by
  by_cases hc : scC k who n l.length = 0
  · unfold txB
    rw [if_pos hc]
    obtain ⟨k0, k1, w0, w1, n0, n1, hl⟩ := scC_ok hc
    obtain ⟨k, rfl⟩ : ∃ m : Nat, k = m := ⟨k.toNat, by omega⟩
    obtain ⟨q, rfl⟩ : ∃ m : Nat, who = m := ⟨who.toNat, by omega⟩
    obtain ⟨m, rfl⟩ : ∃ m : Nat, n = m := ⟨n.toNat, by omega⟩
    simp only [Int.toNat_natCast]
    exact rtext_ok w k q m (by omega) (by omega) (by omega) A l l.length c rfl (by omega) hr hc _ rfl
  · unfold txB
    rw [if_neg hc]
    exact rtextbad_any w k who n A l.length c hc
theorem str_same (S : ByteArray) : (S.toList == S.toList) = true ∧ (S.toList != S.toList) = false := by simp
/-- The kinds' word, or none; is it one of a member? -/
theorem wordT (kind : Int) (w : World) (hT : TabA w) : Calls Tryd.prog 42 #[.int .i64 kind] w fun r w' => r = .returned (.string (if 0 ≤ kind ∧ kind < 11 then wK kind.toNat else ⟨#[]⟩)) ∧ Below w.heap.size w w' := by
  by_cases h : 0 ≤ kind ∧ kind < 11
  · rw [if_pos h]
    obtain ⟨k, rfl⟩ : ∃ m : Nat, kind = m := ⟨kind.toNat, by omega⟩
    simp only [Int.toNat_natCast]
    exact word31_yes k (by omega) w hT _ rfl
  · rw [if_neg h]
    refine (word31_no kind (by omega) w).mono ?_
    rintro r w' ⟨rfl, rfl⟩
    exact ⟨rfl, Below.refl _ _⟩
end Go.Proofs.YtnopmdhjamkoaaaDoor
