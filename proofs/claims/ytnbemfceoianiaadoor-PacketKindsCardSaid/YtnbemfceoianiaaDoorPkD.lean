/- Pk2. Pk3. -/
import Derived.Test.YtnbemfceoianiaaDoorPk1
import Derived.Test.YtnbemfceoianiaaDoorCl1
import Derived.Test.YtnbemfceoianiaaDoorWinR
import Derived.Test.YtnbemfceoianiaaDoorRf5
/- Packets: Check, the program's. -/
namespace Go.Proofs.YtnbemfceoianiaaDoor
set_option linter.unusedVariables false
set_option linter.unusedSimpArgs false
open Go.RowKit
theorem size_u8p (w : World) : (sizeOf 5).run Tryd.prog w = .ok 1 w := size_of (by kernel_rfl) w
theorem nat_list_eq (a b : List UInt8) : ((a.map fun b => (b.toNat : Int)) == (b.map fun b => (b.toNat : Int))) = decide (a = b) := by
  rw [Bool.eq_iff_iff, beq_iff_eq, decide_eq_true_eq]
  constructor
  · intro h
    refine List.map_inj_right (f := fun b : UInt8 => (b.toNat : Int)) ?_ |>.1 h
    intro x y hxy
    have h : (x.toNat : Int) = (y.toNat : Int) := hxy
    have : x.toNat = y.toNat := by omega
    exact UInt8.toNat_inj.1 this
  · rintro rfl
    rfl
theorem equalInP (d : Nat) (K K' : List UInt8) (h : K.length = 32) (h' : K'.length = 32) (w : World) : (Op.equalIn (d + 2) 31 (.agg (b8a K)) (.agg (b8a K'))).run Tryd.prog w = .ok (decide (K = K')) w := by
  have := run_equalIn_ints (P := Tryd.prog) w d .u8 31 5 32 Tryd.underlying31 Tryd.underlying5 size_u8p (K.map fun b => (b.toNat : Int)) (K'.map fun b => (b.toNat : Int)) (by simpa using h) (by simpa using h')
  rw [nat_list_eq] at this
  rw [← this]
  simp [b8a, by8, List.map_map, Function.comp_def]
theorem eqlP (K K' : List UInt8) (h : K.length = 32) (h' : K'.length = 32) (w : World) : (binOp .eql 31 (.agg (b8a K)) (.agg (b8a K'))).run Tryd.prog w = .ok (.bool (decide (K = K'))) w := by
  rw [run_eql_struct, equalInP 9998 K K' h h' w]
  rfl
theorem neqP (K K' : List UInt8) (h : K.length = 32) (h' : K'.length = 32) (w : World) : (binOp .neq 31 (.agg (b8a K)) (.agg (b8a K'))).run Tryd.prog w = .ok (.bool (!decide (K = K'))) w := by
  rw [run_neq_struct, equalInP 9998 K K' h h' w]
  rfl
theorem guard_arr : Tryd.prog.eqGuardType Tryd.prog.depth 31 = false := by kernel_rfl
/-- What is wrong with a packet. -/
def chkP (p : Pk) : Int :=
  if p.k < 1 ∨ 14 < p.k then 13 else if ¬ clOk p.i p.r p.x p.s ∨ p.t < 0 ∨ 65535 < p.t ∨ ¬ wnOk p.b p.c then 10
  else if 512 < p.l.length then 2 else if p.k < 3 ∧ p.T ≠ Z32 then 3 else 0
theorem kind_any (n : Int) (w : World) : Calls Tryd.prog 13 #[.int .i64 n] w fun e w' => e = .returned (.bool (decide (0 < n ∧ n < 15))) ∧ w' = w := by
  by_cases h1 : 0 < n
  · by_cases h2 : n < 15
    · rw [decide_eq_true ⟨h1, h2⟩]
      go_enter Tryd.func13, Tryd.ntmps13
      go_wp2
      go_ret
      exact ⟨rfl, rfl⟩
    · rw [decide_eq_false (by omega)]
      go_enter Tryd.func13, Tryd.ntmps13
      go_wp2
      go_ret
      exact ⟨rfl, rfl⟩
  · rw [decide_eq_false (by omega)]
    go_enter Tryd.func13, Tryd.ntmps13
    go_wp2
    go_ret
    exact ⟨rfl, rfl⟩
theorem plain_any (n : Int) (w : World) : Calls Tryd.prog 7 #[.int .i64 n] w fun e w' => e = .returned (.bool (decide (n = 1 ∨ n = 2))) ∧ w' = w := by
  by_cases h1 : n = 1
  · subst h1
    rw [decide_eq_true (.inl rfl)]
    go_enter Tryd.func7, Tryd.ntmps7
    go_wp2
    go_ret
    exact ⟨rfl, rfl⟩
  · have e1 : (n == 1) = false := by simpa using h1
    by_cases h2 : n = 2
    · subst h2
      rw [decide_eq_true (.inr rfl)]
      go_enter Tryd.func7, Tryd.ntmps7
      go_wp2
      go_ret
      exact ⟨rfl, rfl⟩
    · have e2 : (n == 2) = false := by simpa using h2
      rw [decide_eq_false (by omega)]
      clear h1 h2
      go_enter Tryd.func7, Tryd.ntmps7
      go_wp2
      go_ret
      exact ⟨rfl, rfl⟩
set_option maxRecDepth 100000 in
set_option maxHeartbeats 4000000 in
theorem pcheck_any (p : Pk) (hT : p.T.length = 32) (w : World) : Calls Tryd.prog 18 #[.agg (pkc p)] w fun e w' => e = .returned (.int .i64 (chkP p)) ∧ Below w.heap.size w w' := by
  have m1 := (Mst.start w).new 33 (pkc p)
  have M1 := Lib.hid m1
  have HCE := Lib.hid (show ∀ w' ow, Mst w w' [(w.heap.size, 33, pkc p)] ow → _ from fun w' ow h => pkc_cells (h.blk []))
  have HRG := Lib.hid (show ∀ w' ow, Mst w w' [(w.heap.size, 33, pkc p)] ow → _ from fun w' ow h => pkc_range (h.blk []))
  have HK := Lib.hid (kind_any p.k)
  have HPL := Lib.hid (plain_any p.k)
  have HCL := Lib.hid (clcheck_any p.i p.r p.x p.s)
  have HWN := Lib.hid (wcheck_any p.b p.c)
  obtain ⟨V, hV⟩ : ∃ V, chkP p = V := ⟨_, rfl⟩
  have HV := Lib.hid hV
  rw [hV]
  have HT := Lib.hid hT
  have hT2 := hT
  obtain ⟨c0, c1, c2, c3, c4, c5, c6, c7, c8⟩ := HCE.out _ _ m1
  clear m1 hT hV
  by_cases hk : 0 < p.k ∧ p.k < 15
  case neg =>
    rw [decide_eq_false hk] at HK
    have HV13 := Lib.hid (show V = 13 from by rw [← HV.out]; unfold chkP; rw [if_pos (by omega)])
    clear hk
    go_enter Tryd.func18, Tryd.ntmps18
    go_wp2_with (go_at_call 13; refine (HK.out _).mono ?_; rintro e w2 ⟨rfl, rfl⟩)
    go_ret
    exact ⟨by rw [HV13.out]; rfl, M1.out.bel⟩
  rw [decide_eq_true hk] at HK
  obtain ⟨hk1, hk2⟩ := hk
  by_cases hcl : clOk p.i p.r p.x p.s
  case neg =>
    have HV10 := Lib.hid (show V = 10 from by rw [← HV.out]; unfold chkP; rw [if_neg (by omega), if_pos (.inl hcl)])
    have HNC := Lib.hid hcl
    clear hcl hk1 hk2
    go_enter Tryd.func18, Tryd.ntmps18
    go_wp2_with (go_at_call 13; refine (HK.out _).mono ?_; rintro e w2 ⟨rfl, rfl⟩)
    with_reducible refine (HCL.out _).mono ?_
    rintro e w2 ⟨h | h, hb⟩
    · exact absurd h.1 HNC.out
    obtain ⟨_, rfl⟩ := h
    have Mq := Lib.hid (M1.out.below hb)
    clear hb
    go_wp2_with fail
    go_ret
    exact ⟨by rw [HV10.out]; rfl, Mq.out.bel⟩
  by_cases ht : p.t < 0 ∨ 65535 < p.t
  case pos =>
    have HV10 := Lib.hid (show V = 10 from by rw [← HV.out]; unfold chkP; rw [if_neg (by omega), if_pos (by omega)])
    have HOC := Lib.hid hcl
    have ht2 : p.t < 0 ∨ (¬ p.t < 0 ∧ 65535 < p.t) := by omega
    clear hcl hk1 hk2 ht
    rcases ht2 with ht | ⟨h0, ht⟩
    all_goals
      go_enter Tryd.func18, Tryd.ntmps18
      go_wp2_with (go_at_call 13; refine (HK.out _).mono ?_; rintro e w2 ⟨rfl, rfl⟩)
      with_reducible refine (HCL.out _).mono ?_
      rintro e w2 ⟨h | h, hb⟩
      case inr => exact absurd HOC.out h.1
      obtain ⟨_, rfl⟩ := h
      have Mq := Lib.hid (M1.out.below hb)
      clear hb c0 c1 c2 c3 c4 c5 c6 c7 c8
      obtain ⟨c0, c1, c2, c3, c4, c5, c6, c7, c8⟩ := HCE.out _ _ Mq.out
      go_wp2_with fail
      go_ret
      exact ⟨by rw [HV10.out]; rfl, Mq.out.bel⟩
  have t0 : ¬ p.t < 0 := by omega
  have t1 : ¬ 65535 < p.t := by omega
  by_cases hwn : wnOk p.b p.c
  case neg =>
    have HV10 := Lib.hid (show V = 10 from by rw [← HV.out]; unfold chkP; rw [if_neg (by omega), if_pos (.inr (.inr (.inr hwn)))])
    have HOC := Lib.hid hcl
    have HNW := Lib.hid hwn
    clear hcl hk1 hk2 ht hwn
    go_enter Tryd.func18, Tryd.ntmps18
    go_wp2_with (go_at_call 13; refine (HK.out _).mono ?_; rintro e w2 ⟨rfl, rfl⟩)
    with_reducible refine (HCL.out _).mono ?_
    rintro e w2 ⟨h | h, hb⟩
    case inr => exact absurd HOC.out h.1
    obtain ⟨_, rfl⟩ := h
    have Mq := Lib.hid (M1.out.below hb)
    clear hb c0 c1 c2 c3 c4 c5 c6 c7 c8
    obtain ⟨c0, c1, c2, c3, c4, c5, c6, c7, c8⟩ := HCE.out _ _ Mq.out
    go_wp2_with fail
    with_reducible refine (HWN.out _).mono ?_
    rintro e w3 ⟨h | h, hb⟩
    · exact absurd h.1 HNW.out
    obtain ⟨_, rfl⟩ := h
    have Mq := Lib.hid (Mq.out.below hb)
    clear hb
    go_wp2_with fail
    go_ret
    exact ⟨by rw [HV10.out]; rfl, Mq.out.bel⟩
  have HOC := Lib.hid hcl
  have HOW := Lib.hid hwn
  have HR := Lib.hid (show chkP p = if 512 < p.l.length then 2 else if p.k < 3 ∧ p.T ≠ Z32 then 3 else 0 from by
    unfold chkP
    rw [if_neg (by omega), if_neg (by
      rintro (h | h | h | h)
      · exact h hcl
      · omega
      · omega
      · exact h hwn)])
  have HNQ := Lib.hid (fun w => neqP p.T Z32 hT2 rfl w)
  rw [HV.out] at HR
  clear hcl hwn ht
  by_cases hL : 512 < p.l.length
  case pos =>
    have HVV := Lib.hid (show V = 2 from by rw [HR.out, if_pos hL])
    have l1 : (512 : Int) < p.l.length := by omega
    clear hT2 hL hk1 hk2
    go_enter Tryd.func18, Tryd.ntmps18
    go_wp2_with (go_at_call 13; refine (HK.out _).mono ?_; rintro e w2 ⟨rfl, rfl⟩)
    with_reducible refine (HCL.out _).mono ?_
    rintro e w2 ⟨h | h, hb⟩
    case inr => exact absurd HOC.out h.1
    obtain ⟨_, rfl⟩ := h
    have Mq := Lib.hid (M1.out.below hb)
    clear hb c0 c1 c2 c3 c4 c5 c6 c7 c8
    obtain ⟨c0, c1, c2, c3, c4, c5, c6, c7, c8⟩ := HCE.out _ _ Mq.out
    go_wp2_with fail
    with_reducible refine (HWN.out _).mono ?_
    rintro e w3 ⟨h | h, hb⟩
    case inr => exact absurd HOW.out h.1
    obtain ⟨_, rfl⟩ := h
    have Mq := Lib.hid (Mq.out.below hb)
    clear hb c0 c1 c2 c3 c4 c5 c6 c7 c8
    obtain ⟨c0, c1, c2, c3, c4, c5, c6, c7, c8⟩ := HCE.out _ _ Mq.out
    go_wp2_with fail
    go_ret
    exact ⟨by rw [HVV.out]; rfl, Mq.out.bel⟩
  have l1 : ¬ (512 : Int) < p.l.length := by omega
  by_cases hp : p.k = 1 ∨ p.k = 2
  case neg =>
    have HVV := Lib.hid (show V = 0 from by rw [HR.out, if_neg hL, if_neg (by omega)])
    rw [decide_eq_false hp] at HPL
    clear hT2 hL hk1 hk2 hp
    go_enter Tryd.func18, Tryd.ntmps18
    go_wp2_with (go_at_call 13; refine (HK.out _).mono ?_; rintro e w2 ⟨rfl, rfl⟩)
    with_reducible refine (HCL.out _).mono ?_
    rintro e w2 ⟨h | h, hb⟩
    case inr => exact absurd HOC.out h.1
    obtain ⟨_, rfl⟩ := h
    have Mq := Lib.hid (M1.out.below hb)
    clear hb c0 c1 c2 c3 c4 c5 c6 c7 c8
    obtain ⟨c0, c1, c2, c3, c4, c5, c6, c7, c8⟩ := HCE.out _ _ Mq.out
    go_wp2_with fail
    with_reducible refine (HWN.out _).mono ?_
    rintro e w3 ⟨h | h, hb⟩
    case inr => exact absurd HOW.out h.1
    obtain ⟨_, rfl⟩ := h
    have Mq := Lib.hid (Mq.out.below hb)
    clear hb c0 c1 c2 c3 c4 c5 c6 c7 c8
    obtain ⟨c0, c1, c2, c3, c4, c5, c6, c7, c8⟩ := HCE.out _ _ Mq.out
    go_wp2_with (go_at_call 7; refine (HPL.out _).mono ?_; rintro e w4 ⟨rfl, rfl⟩)
    go_ret
    exact ⟨by rw [HVV.out]; rfl, Mq.out.bel⟩
  rw [decide_eq_true hp] at HPL
  by_cases hz : p.T = Z32
  · have HVV := Lib.hid (show V = 0 from by rw [HR.out, if_neg hL, if_neg (fun h => h.2 hz)])
    have HNN := Lib.hid (show ∀ w, (binOp .neq 31 (.agg (b8a p.T)) (.agg (b8a Z32))).run Tryd.prog w = .ok (.bool false) w from fun w => by rw [HNQ.out w, decide_eq_true hz]; rfl)
    clear hT2 hL hk1 hk2 hp hz HNQ
    go_enter Tryd.func18, Tryd.ntmps18
    go_wp2_with (go_at_call 13; refine (HK.out _).mono ?_; rintro e w2 ⟨rfl, rfl⟩)
    with_reducible refine (HCL.out _).mono ?_
    rintro e w2 ⟨h | h, hb⟩
    case inr => exact absurd HOC.out h.1
    obtain ⟨_, rfl⟩ := h
    have Mq := Lib.hid (M1.out.below hb)
    clear hb c0 c1 c2 c3 c4 c5 c6 c7 c8
    obtain ⟨c0, c1, c2, c3, c4, c5, c6, c7, c8⟩ := HCE.out _ _ Mq.out
    go_wp2_with fail
    with_reducible refine (HWN.out _).mono ?_
    rintro e w3 ⟨h | h, hb⟩
    case inr => exact absurd HOW.out h.1
    obtain ⟨_, rfl⟩ := h
    have Mq := Lib.hid (Mq.out.below hb)
    clear hb c0 c1 c2 c3 c4 c5 c6 c7 c8
    obtain ⟨c0, c1, c2, c3, c4, c5, c6, c7, c8⟩ := HCE.out _ _ Mq.out
    go_wp2_with (first | (go_at_call 7; refine (HPL.out _).mono ?_; rintro e w4 ⟨rfl, rfl⟩) | refine wpList_loadG (by first | rfl | kernel_rfl) _ _ rfl w.heap.size 9 rfl (b8a p.T) _ (HRG.out _ _ Mq.out) Tryd.underlying31 rfl (info_tagA HT.out) ?_ | refine wpList_buildG (by first | rfl | kernel_rfl) _ rfl (.agg (b8a Z32)) (build_tag0 _) ?_ | refine wpList_binG (by first | rfl | kernel_rfl) _ _ _ _ _ rfl (b8a p.T) (b8a Z32) rfl rfl guard_arr (.bool false) (HNN.out _) ?_)
    go_ret
    exact ⟨by rw [HVV.out]; rfl, Mq.out.bel⟩
  · have HVV := Lib.hid (show V = 3 from by rw [HR.out, if_neg hL, if_pos ⟨by omega, hz⟩])
    have HNN := Lib.hid (show ∀ w, (binOp .neq 31 (.agg (b8a p.T)) (.agg (b8a Z32))).run Tryd.prog w = .ok (.bool true) w from fun w => by rw [HNQ.out w, decide_eq_false hz]; rfl)
    clear hT2 hL hk1 hk2 hp hz HNQ
    go_enter Tryd.func18, Tryd.ntmps18
    go_wp2_with (go_at_call 13; refine (HK.out _).mono ?_; rintro e w2 ⟨rfl, rfl⟩)
    with_reducible refine (HCL.out _).mono ?_
    rintro e w2 ⟨h | h, hb⟩
    case inr => exact absurd HOC.out h.1
    obtain ⟨_, rfl⟩ := h
    have Mq := Lib.hid (M1.out.below hb)
    clear hb c0 c1 c2 c3 c4 c5 c6 c7 c8
    obtain ⟨c0, c1, c2, c3, c4, c5, c6, c7, c8⟩ := HCE.out _ _ Mq.out
    go_wp2_with fail
    with_reducible refine (HWN.out _).mono ?_
    rintro e w3 ⟨h | h, hb⟩
    case inr => exact absurd HOW.out h.1
    obtain ⟨_, rfl⟩ := h
    have Mq := Lib.hid (Mq.out.below hb)
    clear hb c0 c1 c2 c3 c4 c5 c6 c7 c8
    obtain ⟨c0, c1, c2, c3, c4, c5, c6, c7, c8⟩ := HCE.out _ _ Mq.out
    go_wp2_with (first | (go_at_call 7; refine (HPL.out _).mono ?_; rintro e w4 ⟨rfl, rfl⟩) | refine wpList_loadG (by first | rfl | kernel_rfl) _ _ rfl w.heap.size 9 rfl (b8a p.T) _ (HRG.out _ _ Mq.out) Tryd.underlying31 rfl (info_tagA HT.out) ?_ | refine wpList_buildG (by first | rfl | kernel_rfl) _ rfl (.agg (b8a Z32)) (build_tag0 _) ?_ | refine wpList_binG (by first | rfl | kernel_rfl) _ _ _ _ _ rfl (b8a p.T) (b8a Z32) rfl rfl guard_arr (.bool true) (HNN.out _) ?_)
    go_ret
    exact ⟨by rw [HVV.out]; rfl, Mq.out.bel⟩
end Go.Proofs.YtnbemfceoianiaaDoor

/- Packets: Check, the document's. -/
namespace Go.Proofs.YtnbemfceoianiaaDoor
set_option linter.unusedVariables false
set_option linter.unusedSimpArgs false
open Go.RowKit
theorem z32_get {j : Nat} (h : j < 32) : Z32[j]? = some 0 := by rw [show Z32 = List.replicate 32 0 from rfl, List.getElem?_replicate, if_pos h]
theorem z32_all {K : List UInt8} (h : K.length = 32) : (∀ (j : Nat) (b : UInt8), K[j]? = some b → b = 0) ↔ K = Z32 := by
  constructor
  · intro hz
    apply List.ext_getElem?
    intro j
    by_cases hj : j < 32
    · obtain ⟨b, hb⟩ : ∃ b, K[j]? = some b := ⟨_, List.getElem?_eq_getElem (by omega)⟩
      rw [hb, hz j b hb, z32_get hj]
    · rw [List.getElem?_eq_none (by omega), List.getElem?_eq_none (by simp [Z32]; omega)]
  · rintro rfl j b hb
    have hlt := (List.getElem?_eq_some_iff.1 hb).1
    rw [z32_get (by simpa [Z32] using hlt)] at hb
    injection hb with hb
    exact hb.symm
end Go.Proofs.YtnbemfceoianiaaDoor
