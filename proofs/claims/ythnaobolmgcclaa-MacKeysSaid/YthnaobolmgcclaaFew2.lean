/- Contract of few of the second chapter's law: at most eight parts, of at most 60 bytes. Printed by genfew2.py. -/
import Derived.Test.YthnaobolmgcclaaFew1
namespace Go.Proofs.Ythnaobolmgcclaa
set_option linter.unusedVariables false
open Go.RowKit

set_option maxRecDepth 100000 in
set_option maxHeartbeats 2000000 in
theorem few2_any (w : World) (A : Option Addr) (c : Nat) (ps : List Pt) (hp : Pts w A ps) (hc : ∀ p ∈ ps, p.l.length ≤ p.c ∧ p.c ≤ 9223372036854775807) (hn : ps.length ≤ 9223372036854775807) :
    Calls Try.prog 49 #[.slice A ps.length c] w fun e w' => ∃ v1 v2, e = .returned (.tuple #[v1, v2]) ∧ FeR w w' (fewP 8 60 ps) (fewP 8 60 ps).length v1 v2 := by
  obtain ⟨n, hN⟩ : ∃ n, ps.length = n := ⟨_, rfl⟩
  obtain ⟨N, hN0⟩ : ∃ N, (fewP 8 60 ps).length = N := ⟨_, rfl⟩
  have hN1 : N ≤ 8 := by rw [← hN0, fewP_len]; omega
  have hN2 : N ≤ n := by rw [← hN0, fewP_len, hN]; omega
  have HN := Lib.hid (show N = n ∨ N = 8 by rw [← hN0, fewP_len, hN]; omega)
  have HNn := Lib.hid hN
  have HNN := Lib.hid hN0
  rw [hN] at hn ⊢
  rw [hN0]
  have HP := Lib.hid hp
  have HC := Lib.hid hc
  have hn1 : (n : Int) ≤ 9223372036854775807 := by omega
  clear hp hc hN hN0
  go_enter Try.func49, Try.ntmps49
  go_wp2_with fail
  go_loopg [6, 4, 5] N (fun gk s6 s4 s5 wr => ∃ k : Nat, k + gk = N ∧ s6 = .int .i64 k ∧ FeR w wr (fewP 8 60 ps) k s4 s5)
  case atStart => exact ⟨0, by omega, rfl, ⟨((Mst.start w).nilrow _ _).nilrow _ _⟩⟩
  case round =>
    obtain ⟨k, hk, rfl, ⟨hm⟩⟩ := hrel
    by_cases hlt : k < N
    · obtain ⟨p, hpk⟩ : ∃ p, ps[k]? = some p := ⟨_, List.getElem?_eq_getElem (by have := HNn.out; omega)⟩
      obtain ⟨b, o, rfl, hb, hcell⟩ := HP.out.at_ (by have := HNn.out; omega)
      have c0 := hm.old hb (hcell k p hpk)
      have hq := fewP_get 8 60 hpk (by omega)
      have e1 := catP_take hq
      obtain ⟨hpc, hpc2⟩ := HC.out p (List.mem_of_getElem? hpk)
      have hrd := (HP.out.2 p (List.mem_of_getElem? hpk)).cut 60
      have e2 : (fewP 8 60 ps).take (k + 1) = (fewP 8 60 ps).take k ++ [p.cut 60] := by
        have hkl : k < (fewP 8 60 ps).length := by rw [HNN.out]; exact hlt
        rw [List.take_succ_eq_append_getElem hkl]
        rw [List.getElem?_eq_getElem hkl] at hq
        injection hq with hq
        rw [hq]
      have hcl : (catP ((fewP 8 60 ps).take k)).length ≤ 480 := by
        have h1 := catP_len_le (N := 60) (ps := (fewP 8 60 ps).take k) fun p hp => fewP_le 8 60 ps p (List.mem_of_mem_take hp)
        have h2 : ((fewP 8 60 ps).take k).length ≤ 8 := by rw [List.length_take]; omega
        omega
      obtain ⟨pA, pc, pl⟩ := p
      unfold Pt.v at c0
      simp only at c0 hpc hpc2 hrd
      have HQ : QEq (fewP 8 60 ps) k ⟨pA, pc, pl.take 60⟩ := ⟨e2, e1⟩
      obtain ⟨G, hG⟩ : ∃ G, pl.length = G := ⟨_, rfl⟩
      obtain ⟨L, hL⟩ : ∃ L, (pl.take 60).length = L := ⟨_, rfl⟩
      have hLG : (G ≤ 60 ∧ L = G) ∨ (60 < G ∧ L = 60) := by
        have : (pl.take 60).length = min 60 pl.length := by simp
        omega
      obtain ⟨S, hS⟩ : ∃ S, (catP ((fewP 8 60 ps).take k)).length = S := ⟨_, rfl⟩
      rw [hG] at c0 hpc
      unfold RB at hrd
      rw [hL] at hrd
      rw [hS] at hcl hm
      have HM := Lib.hid hm
      have HRD := Lib.hid hrd
      have HLL := Lib.hid hL
      have HSS := Lib.hid hS
      have i1 : (k : Int) < n := by omega
      have i2 : (0 : Int) ≤ k := by omega
      have i3 : (k : Int) < 8 := by omega
      clear hm hcell hq e1 e2 hrd hG hL hS hpk
      rcases hLG with ⟨h5, h6⟩ | ⟨h5, h6⟩
      · subst h6
        have i4 : (0 : Int) ≤ (L : Int) := by omega
        have i6 : (L : Int) ≤ (pc : Int) := by omega
        have hd : decide (60 < (L : Int)) = false := by simp; omega
        have hm : min (L : Int) 60 = (L : Int) := by omega
        go_wp2
        go_quiet (fail)
        go_wp2_with (at_builtin; first
          | (refine wpList_appM rfl _ _ 51 rfl [] (Mst.alloc (HM.out.drewN nq) _) el_bs rfl _ _ 1 1 [.slice pA L pc] rfl (Rd.new1 _ #[.slice pA L pc] _ rfl) (one1 _ rfl) (by unfold maxLen; omega) (by omega) ?_; intro A4 c4 w4 s4; have S4 := Lib.hid s4; clear s4)
          | (refine wpList_appM rfl _ _ 26 rfl [_] S4.out el_u8c rfl _ pA L pc (by8 (pl.take 60)) rfl (S4.out.oldRd HRD.out) (by8_one _) (by unfold maxLen; omega) (by omega) ?_; intro A5 c5 w5 s5; have S5 := Lib.hid s5; clear s5))
        go_roundg (N - (k + 1))
        case measure => exact meas hk hlt
        case rel => exact ⟨k + 1, meas2 hlt, by go_num, few_next HQ HSS.out HLL.out S5.out⟩
      · subst h6
        have i4 : (0 : Int) ≤ (G : Int) := by omega
        have i6 : (60 : Int) ≤ (pc : Int) := by omega
        have i7 : (60 : Int) < (G : Int) := by omega
        have hd : decide (60 < (G : Int)) = true := by simp; omega
        have hm : min (G : Int) 60 = (60 : Int) := by omega
        go_wp2
        go_quiet (fail)
        go_wp2_with (at_builtin; first
          | (refine wpList_appM rfl _ _ 51 rfl [] (Mst.alloc (HM.out.drewN nq) _) el_bs rfl _ _ 1 1 [.slice pA 60 pc] rfl (Rd.new1 _ #[.slice pA 60 pc] _ rfl) (one1 _ rfl) (by unfold maxLen; omega) (by omega) ?_; intro A4 c4 w4 s4; have S4 := Lib.hid s4; clear s4)
          | (refine wpList_appM rfl _ _ 26 rfl [_] S4.out el_u8c rfl _ pA 60 pc (by8 (pl.take 60)) rfl (S4.out.oldRd HRD.out) (by8_one _) (by unfold maxLen; omega) (by omega) ?_; intro A5 c5 w5 s5; have S5 := Lib.hid s5; clear s5))
        go_roundg (N - (k + 1))
        case measure => exact meas hk hlt
        case rel => exact ⟨k + 1, meas2 hlt, by go_num, few_next HQ HSS.out HLL.out S5.out⟩
    · obtain rfl : k = N := by omega
      have i1 : ¬ ((k : Int) < n) ∨ ¬ ((k : Int) < 8) := by have := HN.out; omega
      have HM := Lib.hid hm
      clear hm hk hlt
      go_wp2_with fail
      all_goals (
        go_ret2
        exact ⟨_, _, rfl, ⟨HM.out⟩⟩)
end Go.Proofs.Ythnaobolmgcclaa
