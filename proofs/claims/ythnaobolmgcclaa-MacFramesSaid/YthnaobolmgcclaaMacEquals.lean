/-
  vigillaw02.MacEquals returns true, whatever it is called with. Conditions: none but that the arguments are slices of bytes that can be read.
-/
import Derived.Test.YthnaobolmgcclaaKn02
import Derived.Test.YthnaobolmgcclaaMac8
import Derived.Lib.MinMax
namespace Go.Proofs.Ythnaobolmgcclaa
set_option linter.unusedVariables false
set_option linter.unusedSimpArgs false
open Go.RowKit

/-- A slice's first bytes: how many, as the program reckons it. -/
theorem cut_n (N M : Nat) : ∃ n : Nat, (n : Int) = min (N : Int) M ∧ n ≤ N ∧ n ≤ M := ⟨min N M, by omega, by omega, by omega⟩
theorem decide_comm8 (l l' : List UInt8) : decide (l = l') = decide (l' = l) := by
  rw [Bool.eq_iff_iff]
  simp only [decide_eq_true_eq]
  exact eq_comm
set_option maxRecDepth 100000 in
set_option maxHeartbeats 1600000 in
theorem macEquals_main (W : World) (A B : Option Addr) (c d : Nat) (l k : List UInt8) (hr : RB W W.heap.size A l) (hc : l.length ≤ c ∧ c ≤ 9223372036854775807) (hr' : RB W W.heap.size B k) (hd : k.length ≤ d ∧ d ≤ 9223372036854775807) :
    Calls Try.prog 8 #[.slice A l.length c, .slice B k.length d] W fun e W' => e = .returned (.bool true) ∧ Below W.heap.size W W' := by
  obtain ⟨N, hN⟩ : ∃ N, l.length = N := ⟨_, rfl⟩
  obtain ⟨M, hM⟩ : ∃ M, k.length = M := ⟨_, rfl⟩
  rw [hN] at hc ⊢
  rw [hM] at hd ⊢
  obtain ⟨hc1, hc2⟩ := hc
  obtain ⟨hd1, hd2⟩ := hd
  have hr2 := hr.cut 100
  have hr3 := hr'.cut 100
  obtain ⟨n, hn, n2, n1⟩ := cut_n N 100
  obtain ⟨m, hm, m2, m1⟩ := cut_n M 100
  obtain ⟨l', hl'⟩ : ∃ l', l.take 100 = l' := ⟨_, rfl⟩
  obtain ⟨k', hk'⟩ : ∃ l', k.take 100 = l' := ⟨_, rfl⟩
  have hln : l'.length = n := by rw [← hl', List.length_take]; omega
  have hkn : k'.length = m := by rw [← hk', List.length_take]; omega
  rw [hl'] at hr2
  rw [hk'] at hr3
  have hmin1 : min (N : Int) 100 = n := hn.symm
  have hmin2 : min (M : Int) 100 = m := hm.symm
  have n4 : (0 : Int) ≤ n := by omega
  have m4 : (0 : Int) ≤ m := by omega
  have n5 : (n : Int) ≤ c := by omega
  have m5 : (m : Int) ≤ d := by omega
  have HLN := Lib.hid hln
  have HKN := Lib.hid hkn
  have R1 := Lib.hid (show Src W [] [] 1 A n (by8 l') from by rw [← hln]; exact Src.old hr2)
  have R2 := Lib.hid (show Src W [] [] 1 B m (by8 k') from by rw [← hkn]; exact Src.old hr3)
  have HE1 := Lib.hid (show ∀ w' (A B : Option Addr) c d, Rd w' w'.heap.size 1 A n (by8 l') → Rd w' w'.heap.size 1 B m (by8 k') → Calls Try.prog 48 #[.slice A n c, .slice B m d] w' fun e w2 => e = .returned (.bool (decide (l' = k'))) ∧ Below w'.heap.size w' w2 from fun w' A B c d h1 h2 => by
    have := equal2_any A B c d l' k' w' (by unfold RB; rw [hln]; exact h1) (by unfold RB; rw [hkn]; exact h2) (by unfold maxLen; omega)
    rw [hln, hkn] at this
    exact this)
  have HE2 := Lib.hid (show ∀ w' (A B : Option Addr) c d, Rd w' w'.heap.size 1 A n (by8 l') → Rd w' w'.heap.size 1 B m (by8 k') → Calls Try.prog 25 #[.slice A n c, .slice B m d] w' fun e w2 => e = .returned (.bool (decide (l' = k'))) ∧ Below w'.heap.size w' w2 from fun w' A B c d h1 h2 => by
    have := same_any A B c d l' k' w' (by unfold RB; rw [hln]; exact h1) (by unfold RB; rw [hkn]; exact h2) (by unfold maxLen; omega)
    rw [hln, hkn] at this
    exact this)
  have HE3 := Lib.hid (show ∀ w' (A B : Option Addr) c d N X, N = n → X = by8 l' → Rd w' w'.heap.size 1 A n (by8 l') → Rd w' w'.heap.size 1 B N X → Calls Try.prog 48 #[.slice A n c, .slice B N d] w' fun e w2 => e = .returned (.bool true) ∧ Below w'.heap.size w' w2 from fun w' A B c d N X hN hX h1 h2 => by
    subst hN hX
    have := equal2_any A B c d l' l' w' (by unfold RB; rw [hln]; exact h1) (by unfold RB; rw [hln]; exact h2) (by unfold maxLen; omega)
    rw [hln, decide_eq_true rfl] at this
    exact this)
  have HE4 := Lib.hid (show ∀ w', Calls Try.prog 48 #[.slice none 0 0, .slice none 0 0] w' fun e w2 => e = .returned (.bool true) ∧ Below w'.heap.size w' w2 from fun w' => equal2_any none none 0 0 [] [] w' (Rd.nil_ _ _ _ _) (Rd.nil_ _ _ _ _) (by decide))
  clear hr hr' hr2 hr3 hln hkn hl' hk' hn hm
  obtain ⟨D, hD⟩ : ∃ D, decide (l' = k') = D := ⟨_, rfl⟩
  rw [hD] at HE1 HE2
  have hDD : (D == D) = true := beq_self_eq_true D
  clear hD
  go_enter Try.func8, Try.ntmps8
  go_wp2_with fail
  go_quiet (fail)
  have M0 := Lib.hid ((Mst.start W).drewN nq)
  clear hmin1 hmin2
  go_wp2_with fail
  refine (known02 _).mono ?_
  rintro e w1 ⟨rfl, hb⟩
  have Mq := Lib.hid (M0.out.below hb)
  clear hb
  go_wp2_with fail
  refine (HE1.out _ _ _ _ _ (Mq.out.src R1.out) (Mq.out.src R2.out)).mono ?_
  rintro e w2 ⟨rfl, hb⟩
  have Mq := Lib.hid (Mq.out.below hb)
  clear hb
  go_wp2_with fail
  refine (HE2.out _ _ _ _ _ (Mq.out.src R1.out) (Mq.out.src R2.out)).mono ?_
  rintro e w3 ⟨rfl, hb⟩
  have Mq := Lib.hid (Mq.out.below hb)
  clear hb
  have MR := Lib.hid (Mq.out.emptyE (e := 5) rfl)
  go_wp2_with (at_builtin; refine wpList_appGE (by rfl) _ _ 26 rfl [] MR.out el_u8c rfl _ A n c (by8 l') rfl (MR.out.src (R1.out.sub (fun _ h => h) (fun _ h => nomatch h))) (by8_one _) (by unfold maxLen; omega) (by omega) ?_; intro A5 c5 w4 N5 X5 hn5 hx5 mq; have M4 := Lib.hid mq; have HN5 := Lib.hid (show N5 = n by omega); have HX5 := Lib.hid (show X5 = by8 l' from hx5); clear mq hn5 hx5)
  refine (HE3.out _ _ _ _ _ _ _ HN5.out HX5.out (M4.out.src (R1.out.sub (fun _ h => h) (fun _ h => nomatch h))) (M4.out.src (M4.out.rowSrc (List.mem_cons_self ..)))).mono ?_
  rintro e w5 ⟨rfl, hb⟩
  have Mq := Lib.hid (M4.out.below hb)
  clear hb
  go_wp2_with fail
  refine (HE4.out _).mono ?_
  rintro e w6 ⟨rfl, hb⟩
  have Mq := Lib.hid (Mq.out.below hb)
  clear hb
  go_wp2
  go_ret
  exact ⟨rfl, Mq.out.bel⟩
theorem contract_macEquals (W : World) (v0 v1 : Value) (a0 : ∃ r : Rw, v0 = r.v ∧ r.ok .u8 W) (a1 : ∃ r : Rw, v1 = r.v ∧ r.ok .u8 W) :
    Calls Try.prog 8 #[v0, v1] W fun e W' => e = .returned (.bool true) ∧ Below W.heap.size W W' := by
  obtain ⟨r, rfl, hr⟩ := a0
  obtain ⟨s, rfl, hs⟩ := a1
  obtain ⟨l, e, h1, h2, h3⟩ := rw_pt hr
  obtain ⟨k, e', h1', h2', h3'⟩ := rw_pt hs
  rw [e, e']
  exact macEquals_main W r.A s.A r.c s.c l k h1 ⟨h2, h3⟩ h1' ⟨h2', h3'⟩
end Go.Proofs.Ythnaobolmgcclaa
