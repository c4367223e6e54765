/- Contracts: the law's to, known, tells of layer 13. -/
import Derived.Test.YtidphalfafaniaaDr3
namespace Go.Proofs.Ytidphalfafaniaa
set_option linter.unusedVariables false
open Go.RowKit

set_option maxHeartbeats 1000000 in
theorem to13 (A : Option Addr) (c : Nat) (l : List Int) (w : World) (hr : RI w w.heap.size A l) (hl : l.length ≤ maxLen) :
    Calls Try.prog 24 #[.slice A l.length c] w fun r w' => ∃ A1 c1 A2 c2 n, r = .returned (.tuple #[.slice A1 n c1, .slice A2 n c2]) ∧ n = (l.take 20).length ∧
      Mst w w' [] [⟨3, 1, .slice A2 n c2, n, i64s (l.take 20)⟩, ⟨29, 1, .slice A1 n c1, n, i64s (l.take 20)⟩] := by
  have HR := Lib.hid hr
  clear hr
  unfold maxLen at hl
  obtain ⟨N, hN1, hN2, hN3⟩ : ∃ N : Nat, N ≤ l.length ∧ N ≤ 20 ∧ (N = l.length ∨ N = 20) := ⟨min l.length 20, by omega, by omega, by omega⟩
  go_enter Try.func24, Try.ntmps24
  go_wp2_with fail
  go_loopg [4, 5, 6] N (fun gg s4 s5 s6 wr => ∃ k : Nat, k + gg = N ∧ s6 = .int .i64 k ∧ Mst w wr [] [⟨3, 1, s5, k, i64s (l.take k)⟩, ⟨29, 1, s4, k, i64s (l.take k)⟩])
  case atStart => exact ⟨0, by omega, rfl, ((Mst.start w).nilrow _ _).nilrow _ _⟩
  case round =>
    obtain ⟨k, hk, rfl, s0⟩ := hrel
    obtain ⟨A4, c4, h4, -, -, -, -⟩ := own_form (s0.row [_])
    obtain ⟨A5, c5, h5, -, -, -, -⟩ := own_form (s0.row [])
    subst h4 h5
    have S0 := Lib.hid s0
    by_cases hlt : k < l.length ∧ k < 20
    · obtain ⟨hlt1, hlt2⟩ := hlt
      have HK := Lib.hid (show k < N from by omega)
      obtain ⟨b, o, hA, hbB, hc⟩ := HR.out.at_ (by omega)
      obtain ⟨x, hx⟩ : ∃ x, l[k]? = some x := ⟨_, List.getElem?_eq_getElem hlt1⟩
      have e0 := s0.old hbB (hc k x hx)
      have HX := Lib.hid hx
      have HE := Lib.hid (hc k x hx)
      clear hc hx s0
      subst hA
      go_wp2_with (at_builtin; first
        | (refine wpList_appM rfl _ _ 48 rfl [_] (Mst.alloc S0.out _) el_errno rfl _ _ 1 1 [.int .i64 x] rfl (Rd.new1 _ #[.int .i64 x] _ rfl) (one1 _ rfl) (by unfold maxLen; omega) (by omega) ?_; intro A1 c1 w1 s1; have e1 := s1.old hbB HE.out; have S1 := Lib.hid s1; clear s1)
        | (refine wpList_appM rfl _ _ 37 rfl [] (Mst.alloc S1.out _) el_int rfl _ _ 1 1 [.int .i64 x] rfl (Rd.new1 _ #[.int .i64 x] _ rfl) (one1 _ rfl) (by unfold maxLen; omega) (by omega) ?_; intro A2 c2 w2 s2; have S2 := Lib.hid s2; clear s2))
      have HS : Hid (i64s (l.take (k + 1)) = i64s (l.take k) ++ [.int .i64 x]) := by
        show _ = _
        rw [List.take_add_one, HX.out]
        simp [i64s]
      go_roundg (N - (k + 1))
      case measure => exact meas hk HK.out
      case rel => exact ⟨k + 1, meas2 HK.out, by go_num, by rw [HS.out]; exact S2.out⟩
    · have hkN : k = N := by omega
      subst hkN
      have HT : Hid (l.take k = l.take 20) := by
        show _ = _
        rcases hN3 with h | h
        · rw [h, List.take_length, List.take_of_length_le (by omega)]
        · rw [h]
      have HL : Hid (k = (l.take 20).length) := by
        show _ = _
        rw [List.length_take]; omega
      clear s0
      go_wp2_with fail
      all_goals
        go_ret2
        exact ⟨_, _, _, _, _, rfl, HL.out, by have := S0.out; rwa [HT.out] at this⟩
end Go.Proofs.Ytidphalfafaniaa
