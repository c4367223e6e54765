/- Contracts of the sixth chapter's law: cut, few. -/
import Derived.Test.YtghcdffpplimoaaExtC
namespace Go.Proofs.Ytghcdffpplimoaa
set_option linter.unusedVariables false
set_option linter.unusedSimpArgs false
open Go.RowKit

theorem cut06_any (w : World) (A : Option Addr) (l : List UInt8) (c M : Nat) (hc : l.length ≤ c ∧ c ≤ 9223372036854775807) (hM : M ≤ 100000) :
    Calls Try.prog 24 #[.slice A l.length c, .int .i64 (M : Int)] w fun e w' => e = .returned (.slice A (l.take M).length c) ∧ w = w' := by
  rw [List.length_take]
  obtain ⟨N, hN⟩ : ∃ N, l.length = N := ⟨_, rfl⟩
  rw [hN] at hc ⊢
  obtain ⟨hc1, hc2⟩ := hc
  rw [Nat.min_comm]
  clear hN
  by_cases hlt : N ≤ M
  · rw [Nat.min_eq_left hlt]
    have h1 : min (N : Int) (M : Int) = N := by omega
    have h2 : (0 : Int) ≤ N := by omega
    have h3 : (N : Int) ≤ c := by omega
    have h4 : ¬ (M : Int) < N := by omega
    go_enter Try.func24, Try.ntmps24
    go_wp2
    go_ret
    exact ⟨rfl, rfl⟩
  · rw [Nat.min_eq_right (by omega)]
    have h1 : min (N : Int) (M : Int) = M := by omega
    have h2 : (0 : Int) ≤ M := by omega
    have h3 : (M : Int) ≤ c := by omega
    have h4 : (M : Int) < N := by omega
    go_enter Try.func24, Try.ntmps24
    go_wp2
    go_ret
    exact ⟨rfl, rfl⟩
/-- A slice that is cut. -/
theorem cut_ex6 {W : World} {A : Option Addr} {c : Nat} {l : List UInt8} (M : Nat) (hr : RB W W.heap.size A l) (hc : l.length ≤ c ∧ c ≤ 9223372036854775807) (hM : M ≤ 100000) :
    ∃ l', l'.length ≤ M ∧ RB W W.heap.size A l' ∧ l'.length ≤ c ∧ l' = l.take M ∧ ∀ w, Calls Try.prog 24 #[.slice A l.length c, .int .i64 (M : Int)] w fun e w' => e = .returned (.slice A l'.length c) ∧ w = w' :=
  ⟨l.take M, by rw [List.length_take]; omega, hr.cut M, by rw [List.length_take]; omega, rfl, fun w => cut06_any w A l c M hc hM⟩

structure F6R (w wr : World) (qs : List Pt) (k : Nat) (v1 : Value) : Prop where
  m : Mst w wr [] [⟨26, 1, v1, k, (qs.take k).map Pt.v⟩]
set_option maxRecDepth 100000 in
set_option maxHeartbeats 2000000 in
theorem few06_any (w : World) (A : Option Addr) (c : Nat) (ps : List Pt) (hp : Pts w A ps) (hc : ∀ p ∈ ps, p.l.length ≤ p.c ∧ p.c ≤ 9223372036854775807) (hn : ps.length ≤ 9223372036854775807) :
    Calls Try.prog 25 #[.slice A ps.length c] w fun e w' => ∃ A' c', e = .returned (.slice A' (fewP 4 40 ps).length c') ∧ Mst w w' [] [⟨26, 1, .slice A' (fewP 4 40 ps).length c', (fewP 4 40 ps).length, (fewP 4 40 ps).map Pt.v⟩] := by
  obtain ⟨n, hN⟩ : ∃ n, ps.length = n := ⟨_, rfl⟩
  obtain ⟨N, hN0⟩ : ∃ N, (fewP 4 40 ps).length = N := ⟨_, rfl⟩
  have hN1 : N ≤ 4 := by rw [← hN0, fewP_len]; omega
  have hN2 : N ≤ n := by rw [← hN0, fewP_len, hN]; omega
  have HN := Lib.hid (show N = n ∨ N = 4 by rw [← hN0, fewP_len, hN]; omega)
  have HNn := Lib.hid hN
  have HNN := Lib.hid hN0
  rw [hN] at hn ⊢
  rw [hN0]
  have HP := Lib.hid hp
  have HC := Lib.hid hc
  have hn1 : (n : Int) ≤ 9223372036854775807 := by omega
  clear hp hc hN hN0
  go_enter Try.func25, Try.ntmps25
  go_wp2_with fail
  go_loopg [4, 3] N (fun gk s3 s2 wr => ∃ k : Nat, k + gk = N ∧ s3 = .int .i64 k ∧ F6R w wr (fewP 4 40 ps) k s2)
  case atStart => exact ⟨0, by omega, rfl, ⟨(Mst.start w).nilrow _ _⟩⟩
  case round =>
    obtain ⟨k, hk, rfl, ⟨hm⟩⟩ := hrel
    by_cases hlt : k < N
    · obtain ⟨p, hpk⟩ : ∃ p, ps[k]? = some p := ⟨_, List.getElem?_eq_getElem (by have := HNn.out; omega)⟩
      obtain ⟨b, o, rfl, hb, hcell⟩ := HP.out.at_ (by have := HNn.out; omega)
      have c00 := hcell k p hpk
      have hq := fewP_get 4 40 hpk (by omega)
      obtain ⟨hpc, hpc2⟩ := HC.out p (List.mem_of_getElem? hpk)
      have e2 : (fewP 4 40 ps).take (k + 1) = (fewP 4 40 ps).take k ++ [p.cut 40] := by
        have hkl : k < (fewP 4 40 ps).length := by rw [HNN.out]; exact hlt
        rw [List.take_succ_eq_append_getElem hkl]
        rw [List.getElem?_eq_getElem hkl] at hq
        injection hq with hq
        rw [hq]
      obtain ⟨pA, pc, pl⟩ := p
      unfold Pt.v at c00
      simp only at c00 hpc hpc2
      have hcut := fun w' => cut06_any w' pA pl pc 40 ⟨hpc, hpc2⟩ (by decide)
      obtain ⟨G, hG⟩ : ∃ G, pl.length = G := ⟨_, rfl⟩
      obtain ⟨L, hL⟩ : ∃ L, (pl.take 40).length = L := ⟨_, rfl⟩
      have hL4 : L ≤ 40 := by rw [← hL, List.length_take]; omega
      have hx : ((fewP 4 40 ps).take (k + 1)).map Pt.v = ((fewP 4 40 ps).take k).map Pt.v ++ [.slice pA L pc] := by
        rw [e2, List.map_append]
        show _ ++ [Value.slice pA (pl.take 40).length pc] = _
        rw [hL]
      simp only [hG, hL] at c00 hpc hcut
      have HCU := Lib.hid hcut
      obtain ⟨A3, c3, rfl, _⟩ := own_form (hm.row [])
      have k0 := hm.old hb c00
      have HM := Lib.hid hm
      have HX := Lib.hid hx
      have i1 : (k : Int) < n := by omega
      have i2 : (0 : Int) ≤ k := by omega
      have i3 : (k : Int) < 4 := by omega
      have M2 := Lib.hid (hm.newrow 26 1 1 1 #[.slice pA L pc] (Nat.le_refl _) (by decide) rfl)
      clear hm hcell hq e2 hG hL hpk hx hcut c00
      go_wp2_with fail
      refine (HCU.out _).mono ?_
      rintro e w1 ⟨rfl, rfl⟩
      go_wp2_with (at_builtin; refine wpList_appE rfl _ _ 49 rfl [_] M2.out el_bs rfl _ (some ⟨wr.heap.size, 0, none⟩) 1 1 [.slice pA L pc] rfl (M2.out.src (M2.out.rowSrc (List.mem_cons_self ..))) (one1 _ rfl) (by unfold maxLen; omega) (by omega) ?_; intro A5 c5 wq N5 X5 hn5 hx5 mq; have Mq := Lib.hid mq; have HN5 := Lib.hid hn5; have HX5 := Lib.hid hx5; clear mq hn5 hx5)
      go_roundg (N - (k + 1))
      case measure => exact meas hk hlt
      case rel => exact ⟨k + 1, meas2 hlt, by go_num, ⟨by
        have m := Mq.out.sub (bl' := []) (ow' := [_]) (List.Sublist.refl _) (List.sublist_cons_self _ _)
        rw [HX5.out, ← HX.out, HN5.out] at m
        rw [HN5.out]
        exact m⟩⟩
    · obtain rfl : k = N := by omega
      have i1 : ¬ ((k : Int) < n) ∨ ¬ ((k : Int) < 4) := by have := HN.out; omega
      rw [List.take_of_length_le (by rw [HNN.out]; exact Nat.le_refl _)] at hm
      obtain ⟨A3, c3, rfl, _⟩ := own_form (hm.row [])
      have HM := Lib.hid hm
      clear hm hk hlt
      go_wp2_with fail
      all_goals (
        go_ret
        exact ⟨A3, c3, rfl, HM.out⟩)
end Go.Proofs.Ytghcdffpplimoaa
