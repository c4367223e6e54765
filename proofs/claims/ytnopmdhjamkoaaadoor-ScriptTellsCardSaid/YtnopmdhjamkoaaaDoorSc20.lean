/- Text of any step. -/
import Derived.Test.YtnopmdhjamkoaaaDoorSc19
namespace Go.Proofs.YtnopmdhjamkoaaaDoor
set_option linter.unusedVariables false
set_option linter.unusedSimpArgs false
open Go.RowKit
theorem scC_ok {k who n : Int} {len : Nat} (h : scC k who n len = 0) : 0 ≤ k ∧ k < 11 ∧ 0 ≤ who ∧ who ≤ 65535 ∧ 0 ≤ n ∧ n ≤ 2147483647 ∧ len ≤ 400 := by
  unfold scC at h
  split at h
  · omega
  split at h
  · omega
  split at h
  · omega
  split at h
  · omega
  omega
/-- The text's beginning: word and numbers. -/
def tx3 (k q m : Nat) : List UInt8 := (wK k).data.toList ++ 32 :: (Lib.decDigits q ++ 32 :: Lib.decDigits m)
/-- What stands behind it. -/
def tx4 (l : List UInt8) : List UInt8 := if l = [] then [] else 32 :: hexL l
def txB (k who n : Int) (l : List UInt8) : ByteArray := if scC k who n l.length = 0 then ⟨(tx3 k.toNat who.toNat n.toNat ++ tx4 l).toArray⟩ else ⟨#[]⟩
theorem tx_join3 (k q m : Nat) : (Lib.join ([wK k, decB q, decB m].map (·.data.toList)) (⟨#[32]⟩ : ByteArray).data.toList) = tx3 k q m := by
  simp [Lib.join_cons, Lib.joinTail, decB, tx3]
theorem tx_join4 (k q m : Nat) (l : List UInt8) : (Lib.join ([wK k, decB q, decB m, ⟨(hexL l).toArray⟩].map (·.data.toList)) (⟨#[32]⟩ : ByteArray).data.toList) = tx3 k q m ++ 32 :: hexL l := by
  simp [Lib.join_cons, Lib.joinTail, decB, tx3]
theorem wK_size (k : Nat) (h : k < 11) : (wK k).data.toList.length ≤ 6 := by
  have h11 : k = 0 ∨ k = 1 ∨ k = 2 ∨ k = 3 ∨ k = 4 ∨ k = 5 ∨ k = 6 ∨ k = 7 ∨ k = 8 ∨ k = 9 ∨ k = 10 := by omega
  rcases h11 with rfl | rfl | rfl | rfl | rfl | rfl | rfl | rfl | rfl | rfl | rfl <;> decide
theorem tx3_len (k q m : Nat) (hk : k < 11) (hq : q ≤ 65535) (hm : m ≤ 2147483647) : (tx3 k q m).length ≤ 60 := by
  have h1 := wK_size k hk
  have h2 := decB_size q (by omega)
  have h3 := decB_size m (by omega)
  simp only [decB, ByteArray.size, List.size_toArray] at h2 h3
  simp only [tx3, List.length_append, List.length_cons]
  omega
set_option maxRecDepth 100000 in
theorem textbad_any (w : World) (hT : TabU w) (k q m : Int) (A : Option Addr) (L c : Nat) (hchk : scC k q m L ≠ 0) :
    Calls Tryd.prog 38 #[.agg #[.int .i64 k, .int .i64 q, .int .i64 m, .slice A L c]] w fun r w' => r = .returned (.string ⟨#[]⟩) ∧ Below w.heap.size w w' := by
  have Mq := Lib.hid ((Mst.start w).new 62 #[.int .i64 k, .int .i64 q, .int .i64 m, .slice A L c])
  obtain ⟨C, hC⟩ : ∃ C, scC k q m L = C := ⟨_, rfl⟩
  rw [hC] at hchk
  have HC := Lib.hid (show ∀ w', Below w.heap.size w w' → Calls Tryd.prog 35 #[.agg #[.int .i64 k, .int .i64 q, .int .i64 m, .slice A L c]] w' fun r w2 => r = .returned (.int .i64 C) ∧ Below w'.heap.size w' w2 from fun w' hb => by
    have h := (scrc_any k q m A L c).1 w' (hT.keep hb)
    rw [hC] at h
    exact h)
  have hc1 : (C == 0) = false := by simpa using hchk
  have hc2 : (C != 0) = true := by simpa using hchk
  clear hT hC hchk
  have c0 := (Mq.out.blk []).cell 0
  have c1 := (Mq.out.blk []).cell 1
  have c2 := (Mq.out.blk []).cell 2
  have c3 := (Mq.out.blk []).cell 3
  simp only [List.getElem?_toArray, List.getElem?_cons_zero, List.getElem?_cons_succ] at c0 c1 c2 c3
  go_enter Tryd.func38, Tryd.ntmps38
  go_wp2_with fail
  with_reducible refine (HC.out _ Mq.out.bel).mono ?_
  rintro r w1 ⟨rfl, hb⟩
  have Mq := Lib.hid (Mq.out.below hb)
  clear hb c0 c1 c2 c3
  go_wp2_with fail
  go_ret
  exact ⟨rfl, Mq.out.bel⟩
theorem textS_any (w : World) (hT : TabU w) (hP : ∀ w', Below w.heap.size w w' → Tab31 w') (k who n : Int) (A : Option Addr) (l : List UInt8) (c : Nat) (hr : RB w w.heap.size A l) :
    Calls Tryd.prog 38 #[.agg #[.int .i64 k, .int .i64 who, .int .i64 n, .slice A l.length c]] w fun r w' => r = .returned (.string (txB k who n l)) ∧ Below w.heap.size w w' := by
  by_cases hc : scC k who n l.length = 0
  · unfold txB
    rw [if_pos hc]
    obtain ⟨k0, k1, w0, w1, n0, n1, hl⟩ := scC_ok hc
    obtain ⟨k, rfl⟩ : ∃ m : Nat, k = m := ⟨k.toNat, by omega⟩
    obtain ⟨q, rfl⟩ : ∃ m : Nat, who = m := ⟨who.toNat, by omega⟩
    obtain ⟨m, rfl⟩ : ∃ m : Nat, n = m := ⟨n.toNat, by omega⟩
    simp only [Int.toNat_natCast]
    have h3 := tx3_len k q m (by omega) (by omega) (by omega)
    by_cases h0 : l = []
    · subst h0
      simp only [tx4, if_pos, List.append_nil]
      exact text0_any w hT hP k q m (by omega) (by omega) (by omega) A c hc _ _ _ _ rfl rfl rfl (by rw [tx_join3]) (by rw [tx_join3]; omega)
    · have hp : 0 < l.length := List.length_pos_iff.2 h0
      simp only [tx4, if_neg h0]
      exact text1_any w hT hP k q m (by omega) (by omega) (by omega) A l l.length c rfl hp (by omega) hr hc _ _ _ _ _ rfl rfl rfl rfl (by rw [tx_join4]) (by rw [tx_join4, List.length_append, List.length_cons, hexL_len]; omega)
  · unfold txB
    rw [if_neg hc]
    exact textbad_any w hT k who n A l.length c hc
end Go.Proofs.YtnopmdhjamkoaaaDoor
