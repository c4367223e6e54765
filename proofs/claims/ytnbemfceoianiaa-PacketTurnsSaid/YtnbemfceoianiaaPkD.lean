/- Pk2. Pk3. -/
import Derived.Test.YtnbemfceoianiaaPk1
import Derived.Test.YtnbemfceoianiaaCl1
import Derived.Test.YtnbemfceoianiaaWinR
import Derived.Test.YtnbemfceoianiaaRf5
/- Packets: Check, the program's. -/
namespace Go.Proofs.Ytnbemfceoianiaa
set_option linter.unusedVariables false
set_option linter.unusedSimpArgs false
open Go.RowKit
theorem size_u8p (w : World) : (sizeOf 5).run Try.prog w = .ok 1 w := size_of (by kernel_rfl) w
theorem nat_list_eq (a b : List UInt8) : ((a.map fun b => (b.toNat : Int)) == (b.map fun b => (b.toNat : Int))) = decide (a = b) := by
  rw [Bool.eq_iff_iff, beq_iff_eq, decide_eq_true_eq]
  constructor
  · intro h
    refine List.map_inj_right (f := fun b : UInt8 => (b.toNat : Int)) ?_ |>.1 h
    intro x y hxy
    have h : (x.toNat : Int) = (y.toNat : Int) := hxy
    have : x.toNat = y.toNat := by omega
    exact UInt8.toNat_inj.1 this
  · rintro rfl
    rfl
theorem equalInP (d : Nat) (K K' : List UInt8) (h : K.length = 32) (h' : K'.length = 32) (w : World) : (Op.equalIn (d + 2) 27 (.agg (b8a K)) (.agg (b8a K'))).run Try.prog w = .ok (decide (K = K')) w := by
  have := run_equalIn_ints (P := Try.prog) w d .u8 27 5 32 Try.underlying27 Try.underlying5 size_u8p (K.map fun b => (b.toNat : Int)) (K'.map fun b => (b.toNat : Int)) (by simpa using h) (by simpa using h')
  rw [nat_list_eq] at this
  rw [← this]
  simp [b8a, by8, List.map_map, Function.comp_def]
theorem eqlP (K K' : List UInt8) (h : K.length = 32) (h' : K'.length = 32) (w : World) : (binOp .eql 27 (.agg (b8a K)) (.agg (b8a K'))).run Try.prog w = .ok (.bool (decide (K = K'))) w := by
  rw [run_eql_struct, equalInP 9998 K K' h h' w]
  rfl
theorem neqP (K K' : List UInt8) (h : K.length = 32) (h' : K'.length = 32) (w : World) : (binOp .neq 27 (.agg (b8a K)) (.agg (b8a K'))).run Try.prog w = .ok (.bool (!decide (K = K'))) w := by
  rw [run_neq_struct, equalInP 9998 K K' h h' w]
  rfl
theorem guard_arr : Try.prog.eqGuardType Try.prog.depth 27 = false := by kernel_rfl
/-- What is wrong with a packet. -/
def chkP (p : Pk) : Int :=
  if p.k < 1 ∨ 14 < p.k then 13 else if ¬ clOk p.i p.r p.x p.s ∨ p.t < 0 ∨ 65535 < p.t ∨ ¬ wnOk p.b p.c then 10
  else if 512 < p.l.length then 2 else if p.k < 3 ∧ p.T ≠ Z32 then 3 else 0
theorem kind_any (n : Int) (w : World) : Calls Try.prog 39 #[.int .i64 n] w fun e w' => e = .returned (.bool (decide (0 < n ∧ n < 15))) ∧ w' = w := by
  by_cases h1 : 0 < n
  · by_cases h2 : n < 15
    · rw [decide_eq_true ⟨h1, h2⟩]
      go_enter Try.func39, Try.ntmps39
      go_wp2
      go_ret
      exact ⟨rfl, rfl⟩
    · rw [decide_eq_false (by omega)]
      go_enter Try.func39, Try.ntmps39
      go_wp2
      go_ret
      exact ⟨rfl, rfl⟩
  · rw [decide_eq_false (by omega)]
    go_enter Try.func39, Try.ntmps39
    go_wp2
    go_ret
    exact ⟨rfl, rfl⟩
theorem plain_any (n : Int) (w : World) : Calls Try.prog 23 #[.int .i64 n] w fun e w' => e = .returned (.bool (decide (n = 1 ∨ n = 2))) ∧ w' = w := by
  by_cases h1 : n = 1
  · subst h1
    rw [decide_eq_true (.inl rfl)]
    go_enter Try.func23, Try.ntmps23
    go_wp2
    go_ret
    exact ⟨rfl, rfl⟩
  · have e1 : (n == 1) = false := by simpa using h1
    by_cases h2 : n = 2
    · subst h2
      rw [decide_eq_true (.inr rfl)]
      go_enter Try.func23, Try.ntmps23
      go_wp2
      go_ret
      exact ⟨rfl, rfl⟩
    · have e2 : (n == 2) = false := by simpa using h2
      rw [decide_eq_false (by omega)]
      clear h1 h2
      go_enter Try.func23, Try.ntmps23
      go_wp2
      go_ret
      exact ⟨rfl, rfl⟩
set_option maxRecDepth 100000 in
set_option maxHeartbeats 4000000 in
theorem pcheck_any (p : Pk) (hT : p.T.length = 32) (w : World) : Calls Try.prog 41 #[.agg (pkc p)] w fun e w' => e = .returned (.int .i64 (chkP p)) ∧ Below w.heap.size w w' := by
  have m1 := (Mst.start w).new 33 (pkc p)
  have M1 := Lib.hid m1
  have HCE := Lib.hid (show ∀ w' ow, Mst w w' [(w.heap.size, 33, pkc p)] ow → _ from fun w' ow h => pkc_cells (h.blk []))
  have HRG := Lib.hid (show ∀ w' ow, Mst w w' [(w.heap.size, 33, pkc p)] ow → _ from fun w' ow h => pkc_range (h.blk []))
  have HK := Lib.hid (kind_any p.k)
  have HPL := Lib.hid (plain_any p.k)
  have HCL := Lib.hid (clcheck_any p.i p.r p.x p.s)
  have HWN := Lib.hid (wcheck_any p.b p.c)
  obtain ⟨V, hV⟩ : ∃ V, chkP p = V := ⟨_, rfl⟩
  have HV := Lib.hid hV
  rw [hV]
  have HT := Lib.hid hT
  have hT2 := hT
  obtain ⟨c0, c1, c2, c3, c4, c5, c6, c7, c8⟩ := HCE.out _ _ m1
  clear m1 hT hV
  by_cases hk : 0 < p.k ∧ p.k < 15
  case neg =>
    rw [decide_eq_false hk] at HK
    have HV13 := Lib.hid (show V = 13 from by rw [← HV.out]; unfold chkP; rw [if_pos (by omega)])
    clear hk
    go_enter Try.func41, Try.ntmps41
    go_wp2_with (go_at_call 39; refine (HK.out _).mono ?_; rintro e w2 ⟨rfl, rfl⟩)
    go_ret
    exact ⟨by rw [HV13.out]; rfl, M1.out.bel⟩
  rw [decide_eq_true hk] at HK
  obtain ⟨hk1, hk2⟩ := hk
  by_cases hcl : clOk p.i p.r p.x p.s
  case neg =>
    have HV10 := Lib.hid (show V = 10 from by rw [← HV.out]; unfold chkP; rw [if_neg (by omega), if_pos (.inl hcl)])
    have HNC := Lib.hid hcl
    clear hcl hk1 hk2
    go_enter Try.func41, Try.ntmps41
    go_wp2_with (go_at_call 39; refine (HK.out _).mono ?_; rintro e w2 ⟨rfl, rfl⟩)
    with_reducible refine (HCL.out _).mono ?_
    rintro e w2 ⟨h | h, hb⟩
    · exact absurd h.1 HNC.out
    obtain ⟨_, rfl⟩ := h
    have Mq := Lib.hid (M1.out.below hb)
    clear hb
    go_wp2_with fail
    go_ret
    exact ⟨by rw [HV10.out]; rfl, Mq.out.bel⟩
  by_cases ht : p.t < 0 ∨ 65535 < p.t
  case pos =>
    have HV10 := Lib.hid (show V = 10 from by rw [← HV.out]; unfold chkP; rw [if_neg (by omega), if_pos (by omega)])
    have HOC := Lib.hid hcl
    have ht2 : p.t < 0 ∨ (¬ p.t < 0 ∧ 65535 < p.t) := by omega
    clear hcl hk1 hk2 ht
    rcases ht2 with ht | ⟨h0, ht⟩
    all_goals
      go_enter Try.func41, Try.ntmps41
      go_wp2_with (go_at_call 39; refine (HK.out _).mono ?_; rintro e w2 ⟨rfl, rfl⟩)
      with_reducible refine (HCL.out _).mono ?_
      rintro e w2 ⟨h | h, hb⟩
      case inr => exact absurd HOC.out h.1
      obtain ⟨_, rfl⟩ := h
      have Mq := Lib.hid (M1.out.below hb)
      clear hb c0 c1 c2 c3 c4 c5 c6 c7 c8
      obtain ⟨c0, c1, c2, c3, c4, c5, c6, c7, c8⟩ := HCE.out _ _ Mq.out
      go_wp2_with fail
      go_ret
      exact ⟨by rw [HV10.out]; rfl, Mq.out.bel⟩
  have t0 : ¬ p.t < 0 := by omega
  have t1 : ¬ 65535 < p.t := by omega
  by_cases hwn : wnOk p.b p.c
  case neg =>
    have HV10 := Lib.hid (show V = 10 from by rw [← HV.out]; unfold chkP; rw [if_neg (by omega), if_pos (.inr (.inr (.inr hwn)))])
    have HOC := Lib.hid hcl
    have HNW := Lib.hid hwn
    clear hcl hk1 hk2 ht hwn
    go_enter Try.func41, Try.ntmps41
    go_wp2_with (go_at_call 39; refine (HK.out _).mono ?_; rintro e w2 ⟨rfl, rfl⟩)
    with_reducible refine (HCL.out _).mono ?_
    rintro e w2 ⟨h | h, hb⟩
    case inr => exact absurd HOC.out h.1
    obtain ⟨_, rfl⟩ := h
    have Mq := Lib.hid (M1.out.below hb)
    clear hb c0 c1 c2 c3 c4 c5 c6 c7 c8
    obtain ⟨c0, c1, c2, c3, c4, c5, c6, c7, c8⟩ := HCE.out _ _ Mq.out
    go_wp2_with fail
    with_reducible refine (HWN.out _).mono ?_
    rintro e w3 ⟨h | h, hb⟩
    · exact absurd h.1 HNW.out
    obtain ⟨_, rfl⟩ := h
    have Mq := Lib.hid (Mq.out.below hb)
    clear hb
    go_wp2_with fail
    go_ret
    exact ⟨by rw [HV10.out]; rfl, Mq.out.bel⟩
  have HOC := Lib.hid hcl
  have HOW := Lib.hid hwn
  have HR := Lib.hid (show chkP p = if 512 < p.l.length then 2 else if p.k < 3 ∧ p.T ≠ Z32 then 3 else 0 from by
    unfold chkP
    rw [if_neg (by omega), if_neg (by
      rintro (h | h | h | h)
      · exact h hcl
      · omega
      · omega
      · exact h hwn)])
  have HNQ := Lib.hid (fun w => neqP p.T Z32 hT2 rfl w)
  rw [HV.out] at HR
  clear hcl hwn ht
  by_cases hL : 512 < p.l.length
  case pos =>
    have HVV := Lib.hid (show V = 2 from by rw [HR.out, if_pos hL])
    have l1 : (512 : Int) < p.l.length := by omega
    clear hT2 hL hk1 hk2
    go_enter Try.func41, Try.ntmps41
    go_wp2_with (go_at_call 39; refine (HK.out _).mono ?_; rintro e w2 ⟨rfl, rfl⟩)
    with_reducible refine (HCL.out _).mono ?_
    rintro e w2 ⟨h | h, hb⟩
    case inr => exact absurd HOC.out h.1
    obtain ⟨_, rfl⟩ := h
    have Mq := Lib.hid (M1.out.below hb)
    clear hb c0 c1 c2 c3 c4 c5 c6 c7 c8
    obtain ⟨c0, c1, c2, c3, c4, c5, c6, c7, c8⟩ := HCE.out _ _ Mq.out
    go_wp2_with fail
    with_reducible refine (HWN.out _).mono ?_
    rintro e w3 ⟨h | h, hb⟩
    case inr => exact absurd HOW.out h.1
    obtain ⟨_, rfl⟩ := h
    have Mq := Lib.hid (Mq.out.below hb)
    clear hb c0 c1 c2 c3 c4 c5 c6 c7 c8
    obtain ⟨c0, c1, c2, c3, c4, c5, c6, c7, c8⟩ := HCE.out _ _ Mq.out
    go_wp2_with fail
    go_ret
    exact ⟨by rw [HVV.out]; rfl, Mq.out.bel⟩
  have l1 : ¬ (512 : Int) < p.l.length := by omega
  by_cases hp : p.k = 1 ∨ p.k = 2
  case neg =>
    have HVV := Lib.hid (show V = 0 from by rw [HR.out, if_neg hL, if_neg (by omega)])
    rw [decide_eq_false hp] at HPL
    clear hT2 hL hk1 hk2 hp
    go_enter Try.func41, Try.ntmps41
    go_wp2_with (go_at_call 39; refine (HK.out _).mono ?_; rintro e w2 ⟨rfl, rfl⟩)
    with_reducible refine (HCL.out _).mono ?_
    rintro e w2 ⟨h | h, hb⟩
    case inr => exact absurd HOC.out h.1
    obtain ⟨_, rfl⟩ := h
    have Mq := Lib.hid (M1.out.below hb)
    clear hb c0 c1 c2 c3 c4 c5 c6 c7 c8
    obtain ⟨c0, c1, c2, c3, c4, c5, c6, c7, c8⟩ := HCE.out _ _ Mq.out
    go_wp2_with fail
    with_reducible refine (HWN.out _).mono ?_
    rintro e w3 ⟨h | h, hb⟩
    case inr => exact absurd HOW.out h.1
    obtain ⟨_, rfl⟩ := h
    have Mq := Lib.hid (Mq.out.below hb)
    clear hb c0 c1 c2 c3 c4 c5 c6 c7 c8
    obtain ⟨c0, c1, c2, c3, c4, c5, c6, c7, c8⟩ := HCE.out _ _ Mq.out
    go_wp2_with (go_at_call 23; refine (HPL.out _).mono ?_; rintro e w4 ⟨rfl, rfl⟩)
    go_ret
    exact ⟨by rw [HVV.out]; rfl, Mq.out.bel⟩
  rw [decide_eq_true hp] at HPL
  by_cases hz : p.T = Z32
  · have HVV := Lib.hid (show V = 0 from by rw [HR.out, if_neg hL, if_neg (fun h => h.2 hz)])
    have HNN := Lib.hid (show ∀ w, (binOp .neq 27 (.agg (b8a p.T)) (.agg (b8a Z32))).run Try.prog w = .ok (.bool false) w from fun w => by rw [HNQ.out w, decide_eq_true hz]; rfl)
    clear hT2 hL hk1 hk2 hp hz HNQ
    go_enter Try.func41, Try.ntmps41
    go_wp2_with (go_at_call 39; refine (HK.out _).mono ?_; rintro e w2 ⟨rfl, rfl⟩)
    with_reducible refine (HCL.out _).mono ?_
    rintro e w2 ⟨h | h, hb⟩
    case inr => exact absurd HOC.out h.1
    obtain ⟨_, rfl⟩ := h
    have Mq := Lib.hid (M1.out.below hb)
    clear hb c0 c1 c2 c3 c4 c5 c6 c7 c8
    obtain ⟨c0, c1, c2, c3, c4, c5, c6, c7, c8⟩ := HCE.out _ _ Mq.out
    go_wp2_with fail
    with_reducible refine (HWN.out _).mono ?_
    rintro e w3 ⟨h | h, hb⟩
    case inr => exact absurd HOW.out h.1
    obtain ⟨_, rfl⟩ := h
    have Mq := Lib.hid (Mq.out.below hb)
    clear hb c0 c1 c2 c3 c4 c5 c6 c7 c8
    obtain ⟨c0, c1, c2, c3, c4, c5, c6, c7, c8⟩ := HCE.out _ _ Mq.out
    go_wp2_with (first | (go_at_call 23; refine (HPL.out _).mono ?_; rintro e w4 ⟨rfl, rfl⟩) | refine wpList_loadG (by first | rfl | kernel_rfl) _ _ rfl w.heap.size 9 rfl (b8a p.T) _ (HRG.out _ _ Mq.out) Try.underlying27 rfl (info_tagA HT.out) ?_ | refine wpList_buildG (by first | rfl | kernel_rfl) _ rfl (.agg (b8a Z32)) (build_tag0 _) ?_ | refine wpList_binG (by first | rfl | kernel_rfl) _ _ _ _ _ rfl (b8a p.T) (b8a Z32) rfl rfl guard_arr (.bool false) (HNN.out _) ?_)
    go_ret
    exact ⟨by rw [HVV.out]; rfl, Mq.out.bel⟩
  · have HVV := Lib.hid (show V = 3 from by rw [HR.out, if_neg hL, if_pos ⟨by omega, hz⟩])
    have HNN := Lib.hid (show ∀ w, (binOp .neq 27 (.agg (b8a p.T)) (.agg (b8a Z32))).run Try.prog w = .ok (.bool true) w from fun w => by rw [HNQ.out w, decide_eq_false hz]; rfl)
    clear hT2 hL hk1 hk2 hp hz HNQ
    go_enter Try.func41, Try.ntmps41
    go_wp2_with (go_at_call 39; refine (HK.out _).mono ?_; rintro e w2 ⟨rfl, rfl⟩)
    with_reducible refine (HCL.out _).mono ?_
    rintro e w2 ⟨h | h, hb⟩
    case inr => exact absurd HOC.out h.1
    obtain ⟨_, rfl⟩ := h
    have Mq := Lib.hid (M1.out.below hb)
    clear hb c0 c1 c2 c3 c4 c5 c6 c7 c8
    obtain ⟨c0, c1, c2, c3, c4, c5, c6, c7, c8⟩ := HCE.out _ _ Mq.out
    go_wp2_with fail
    with_reducible refine (HWN.out _).mono ?_
    rintro e w3 ⟨h | h, hb⟩
    case inr => exact absurd HOW.out h.1
    obtain ⟨_, rfl⟩ := h
    have Mq := Lib.hid (Mq.out.below hb)
    clear hb c0 c1 c2 c3 c4 c5 c6 c7 c8
    obtain ⟨c0, c1, c2, c3, c4, c5, c6, c7, c8⟩ := HCE.out _ _ Mq.out
    go_wp2_with (first | (go_at_call 23; refine (HPL.out _).mono ?_; rintro e w4 ⟨rfl, rfl⟩) | refine wpList_loadG (by first | rfl | kernel_rfl) _ _ rfl w.heap.size 9 rfl (b8a p.T) _ (HRG.out _ _ Mq.out) Try.underlying27 rfl (info_tagA HT.out) ?_ | refine wpList_buildG (by first | rfl | kernel_rfl) _ rfl (.agg (b8a Z32)) (build_tag0 _) ?_ | refine wpList_binG (by first | rfl | kernel_rfl) _ _ _ _ _ rfl (b8a p.T) (b8a Z32) rfl rfl guard_arr (.bool true) (HNN.out _) ?_)
    go_ret
    exact ⟨by rw [HVV.out]; rfl, Mq.out.bel⟩
end Go.Proofs.Ytnbemfceoianiaa

/- Packets: Check, the document's. -/
namespace Go.Proofs.Ytnbemfceoianiaa
set_option linter.unusedVariables false
set_option linter.unusedSimpArgs false
open Go.RowKit
theorem right12p (b c : Int) (w : World) :
    Calls Try.prog 28 #[.agg #[.int .i64 b, .int .i64 c]] w fun e w' => e = .returned (.bool (okN b c)) ∧ Below w.heap.size w w' := by
  by_cases h1 : 0 < b
  · by_cases h2 : b < 65536
    · by_cases h3 : 0 < c
      · by_cases h4 : c < 2147483648
        · have e : okN b c = true := by simp [okN]; omega
          rw [e]
          go_enter Try.func28, Try.ntmps28
          go_wp2
          go_ret
          exact ⟨rfl, (Below.refl _ _).alloc (Nat.le_refl _) _⟩
        · have e : okN b c = false := by simp [okN]; omega
          rw [e]
          go_enter Try.func28, Try.ntmps28
          go_wp2
          go_ret
          exact ⟨rfl, (Below.refl _ _).alloc (Nat.le_refl _) _⟩
      · have e : okN b c = false := by simp [okN]; omega
        rw [e]
        go_enter Try.func28, Try.ntmps28
        go_wp2
        go_ret
        exact ⟨rfl, (Below.refl _ _).alloc (Nat.le_refl _) _⟩
    · have e : okN b c = false := by simp [okN]; omega
      rw [e]
      go_enter Try.func28, Try.ntmps28
      go_wp2
      go_ret
      exact ⟨rfl, (Below.refl _ _).alloc (Nat.le_refl _) _⟩
  · have e : okN b c = false := by simp [okN]; omega
    rw [e]
    go_enter Try.func28, Try.ntmps28
    go_wp2
    go_ret
    exact ⟨rfl, (Below.refl _ _).alloc (Nat.le_refl _) _⟩
theorem z32_get {j : Nat} (h : j < 32) : Z32[j]? = some 0 := by rw [show Z32 = List.replicate 32 0 from rfl, List.getElem?_replicate, if_pos h]
theorem z32_all {K : List UInt8} (h : K.length = 32) : (∀ (j : Nat) (b : UInt8), K[j]? = some b → b = 0) ↔ K = Z32 := by
  constructor
  · intro hz
    apply List.ext_getElem?
    intro j
    by_cases hj : j < 32
    · obtain ⟨b, hb⟩ : ∃ b, K[j]? = some b := ⟨_, List.getElem?_eq_getElem (by omega)⟩
      rw [hb, hz j b hb, z32_get hj]
    · rw [List.getElem?_eq_none (by omega), List.getElem?_eq_none (by simp [Z32]; omega)]
  · rintro rfl j b hb
    have hlt := (List.getElem?_eq_some_iff.1 hb).1
    rw [z32_get (by simpa [Z32] using hlt)] at hb
    injection hb with hb
    exact hb.symm
set_option maxRecDepth 100000 in
set_option maxHeartbeats 4000000 in
theorem rcheck14_any (p : Pk) (hT : p.T.length = 32) (w : World) : Calls Try.prog 10 #[.agg (pkc p)] w fun e w' => e = .returned (.int .i64 (chkP p)) ∧ Below w.heap.size w w' := by
  have m1 := (Mst.start w).new 29 (pkc p)
  have M1 := Lib.hid m1
  have HCE := Lib.hid (show ∀ w' ow, Mst w w' [(w.heap.size, 29, pkc p)] ow → _ from fun w' ow h => pkc_cells (h.blk []))
  have HRG := Lib.hid (show ∀ w' ow, Mst w w' [(w.heap.size, 29, pkc p)] ow → _ from fun w' ow h => pkc_range (h.blk []))
  have HCL := Lib.hid (right05_any p.i p.r p.x p.s)
  have HWN := Lib.hid (right12p p.b p.c)
  obtain ⟨V, hV⟩ : ∃ V, chkP p = V := ⟨_, rfl⟩
  have HV := Lib.hid hV
  rw [hV]
  have HT := Lib.hid hT
  obtain ⟨c0, c1, c2, c3, c4, c5, c6, c7, c8⟩ := HCE.out _ _ m1
  clear m1 hT hV
  by_cases hk : 1 ≤ p.k ∧ p.k ≤ 14
  case neg =>
    have HV13 := Lib.hid (show V = 13 from by rw [← HV.out]; unfold chkP; rw [if_pos (by omega)])
    have hk2 : p.k < 1 ∨ (¬ p.k < 1 ∧ 14 < p.k) := by omega
    clear hk
    rcases hk2 with h | ⟨h, h2⟩
    all_goals
      go_enter Try.func10, Try.ntmps10
      go_wp2_with fail
      go_ret
      exact ⟨by rw [HV13.out]; rfl, M1.out.bel⟩
  have k1 : ¬ p.k < 1 := by omega
  have k2 : ¬ 14 < p.k := by omega
  by_cases hcl : clOk p.i p.r p.x p.s
  case neg =>
    have HV10 := Lib.hid (show V = 10 from by rw [← HV.out]; unfold chkP; rw [if_neg (by omega), if_pos (.inl hcl)])
    rw [decide_eq_false hcl] at HCL
    clear hcl hk
    go_enter Try.func10, Try.ntmps10
    go_wp2_with fail
    with_reducible refine (HCL.out _).mono ?_
    rintro e w2 ⟨rfl, hb⟩
    have Mq := Lib.hid (M1.out.below hb)
    clear hb c0 c1 c2 c3 c4 c5 c6 c7 c8
    obtain ⟨c0, c1, c2, c3, c4, c5, c6, c7, c8⟩ := HCE.out _ _ Mq.out
    go_wp2_with fail
    go_ret
    exact ⟨by rw [HV10.out]; rfl, Mq.out.bel⟩
  rw [decide_eq_true hcl] at HCL
  by_cases ht : p.t < 0 ∨ 65535 < p.t
  case pos =>
    have HV10 := Lib.hid (show V = 10 from by rw [← HV.out]; unfold chkP; rw [if_neg (by omega), if_pos (by omega)])
    have ht2 : p.t < 0 ∨ (¬ p.t < 0 ∧ 65535 < p.t) := by omega
    clear hcl hk ht
    rcases ht2 with ht | ⟨h0, ht⟩
    all_goals
      go_enter Try.func10, Try.ntmps10
      go_wp2_with fail
      with_reducible refine (HCL.out _).mono ?_
      rintro e w2 ⟨rfl, hb⟩
      have Mq := Lib.hid (M1.out.below hb)
      clear hb c0 c1 c2 c3 c4 c5 c6 c7 c8
      obtain ⟨c0, c1, c2, c3, c4, c5, c6, c7, c8⟩ := HCE.out _ _ Mq.out
      go_wp2_with fail
      go_ret
      exact ⟨by rw [HV10.out]; rfl, Mq.out.bel⟩
  have t0 : ¬ p.t < 0 := by omega
  have t1 : ¬ 65535 < p.t := by omega
  by_cases hwn : wnOk p.b p.c
  case neg =>
    have HV10 := Lib.hid (show V = 10 from by rw [← HV.out]; unfold chkP; rw [if_neg (by omega), if_pos (.inr (.inr (.inr hwn)))])
    rw [show okN p.b p.c = false from decide_eq_false hwn] at HWN
    clear hcl hk ht hwn
    go_enter Try.func10, Try.ntmps10
    go_wp2_with fail
    with_reducible refine (HCL.out _).mono ?_
    rintro e w2 ⟨rfl, hb⟩
    have Mq := Lib.hid (M1.out.below hb)
    clear hb c0 c1 c2 c3 c4 c5 c6 c7 c8
    obtain ⟨c0, c1, c2, c3, c4, c5, c6, c7, c8⟩ := HCE.out _ _ Mq.out
    go_wp2_with fail
    with_reducible refine (HWN.out _).mono ?_
    rintro e w3 ⟨rfl, hb⟩
    have Mq := Lib.hid (Mq.out.below hb)
    clear hb c0 c1 c2 c3 c4 c5 c6 c7 c8
    obtain ⟨c0, c1, c2, c3, c4, c5, c6, c7, c8⟩ := HCE.out _ _ Mq.out
    go_wp2_with fail
    go_ret
    exact ⟨by rw [HV10.out]; rfl, Mq.out.bel⟩
  rw [show okN p.b p.c = true from decide_eq_true hwn] at HWN
  have HR := Lib.hid (show chkP p = if 512 < p.l.length then 2 else if p.k < 3 ∧ p.T ≠ Z32 then 3 else 0 from by
    unfold chkP
    rw [if_neg (by omega), if_neg (by
      rintro (h | h | h | h)
      · exact h hcl
      · omega
      · omega
      · exact h hwn)])
  rw [HV.out] at HR
  clear hcl hwn ht
  by_cases hL : 512 < p.l.length
  case pos =>
    have HVV := Lib.hid (show V = 2 from by rw [HR.out, if_pos hL])
    have l1 : (512 : Int) < p.l.length := by omega
    clear hL hk
    go_enter Try.func10, Try.ntmps10
    go_wp2_with fail
    with_reducible refine (HCL.out _).mono ?_
    rintro e w2 ⟨rfl, hb⟩
    have Mq := Lib.hid (M1.out.below hb)
    clear hb c0 c1 c2 c3 c4 c5 c6 c7 c8
    obtain ⟨c0, c1, c2, c3, c4, c5, c6, c7, c8⟩ := HCE.out _ _ Mq.out
    go_wp2_with fail
    with_reducible refine (HWN.out _).mono ?_
    rintro e w3 ⟨rfl, hb⟩
    have Mq := Lib.hid (Mq.out.below hb)
    clear hb c0 c1 c2 c3 c4 c5 c6 c7 c8
    obtain ⟨c0, c1, c2, c3, c4, c5, c6, c7, c8⟩ := HCE.out _ _ Mq.out
    go_wp2_with fail
    go_ret
    exact ⟨by rw [HVV.out]; rfl, Mq.out.bel⟩
  have l1 : ¬ (512 : Int) < p.l.length := by omega
  have HV3 := Lib.hid (show p.k < 3 → p.T ≠ Z32 → V = 3 from fun h1 h2 => by rw [HR.out, if_neg hL, if_pos ⟨h1, h2⟩])
  have HV0 := Lib.hid (show (p.k < 3 → p.T = Z32) → V = 0 from fun h => by rw [HR.out, if_neg hL, if_neg (fun q => q.2 (h q.1))])
  clear hL hk HR
  go_enter Try.func10, Try.ntmps10
  go_wp2_with fail
  with_reducible refine (HCL.out _).mono ?_
  rintro e w2 ⟨rfl, hb⟩
  have Mq := Lib.hid (M1.out.below hb)
  clear hb c0 c1 c2 c3 c4 c5 c6 c7 c8
  obtain ⟨c0, c1, c2, c3, c4, c5, c6, c7, c8⟩ := HCE.out _ _ Mq.out
  go_wp2_with fail
  with_reducible refine (HWN.out _).mono ?_
  rintro e w3 ⟨rfl, hb⟩
  have Mq := Lib.hid (Mq.out.below hb)
  clear hb c0 c1 c2 c3 c4 c5 c6 c7 c8
  obtain ⟨c0, c1, c2, c3, c4, c5, c6, c7, c8⟩ := HCE.out _ _ Mq.out
  go_wp2_with fail
  go_loopg [3] 32 (fun gg s3 wr => ∃ k : Nat, k + gg = 32 ∧ s3 = .int .i64 k ∧ Hid (p.k < 3 → ∀ (j : Nat) (b : UInt8), j < k → p.T[j]? = some b → b = 0) ∧ Mst w wr [(w.heap.size, 29, pkc p)] [])
  case atStart => exact ⟨0, by omega, rfl, Lib.hid (fun _ j b h => absurd h (by omega)), Mq.out⟩
  case round =>
    obtain ⟨k, hk, rfl, hz, hm⟩ := hrel
    have Mr := Lib.hid hm
    clear Mq c0 c1 c2 c3 c4 c5 c6 c7 c8
    obtain ⟨c0, c1, c2, c3, c4, c5, c6, c7, c8⟩ := HCE.out _ _ hm
    by_cases hlt : k < 32
    · obtain ⟨b, hb⟩ : ∃ b, p.T[k]? = some b := ⟨_, List.getElem?_eq_getElem (by rw [HT.out]; exact hlt)⟩
      have d0 := (HRG.out _ _ hm) k _ (by8_get hb)
      have HB := Lib.hid hb
      have i1 : (k : Int) < 32 := by omega
      have i2 : (0 : Int) ≤ k := by omega
      clear hm hb
      by_cases h3 : p.k < 3
      · by_cases hb0 : b = 0
        · have n0 : ((b.toNat : Int) != 0) = false := by rw [hb0]; rfl
          have HZ := Lib.hid (show p.k < 3 → ∀ (j : Nat) (b : UInt8), j < k + 1 → p.T[j]? = some b → b = 0 from fun h j c hj hc => by
            by_cases hjk : j < k
            · exact hz.out h j c hjk hc
            · obtain rfl : j = k := by omega
              rw [HB.out] at hc
              injection hc with hc
              rw [← hc]
              exact hb0)
          clear hb0 hz
          go_wp2_with fail
          go_roundg (32 - (k + 1))
          case measure => exact meas hk hlt
          case rel => exact ⟨k + 1, meas2 hlt, by go_num, HZ, Mr.out⟩
        · have n0 : ((b.toNat : Int) != 0) = true := by
            rw [bne_iff_ne]
            intro h
            exact hb0 (UInt8.toNat_inj.1 (by simpa using h))
          have HVV := Lib.hid (HV3.out h3 (fun e => hb0 ((z32_all HT.out).2 e k b HB.out)))
          clear hb0 hz
          go_wp2_with fail
          go_ret
          exact ⟨by rw [HVV.out]; rfl, Mr.out.bel⟩
      · have HZ := Lib.hid (show p.k < 3 → ∀ (j : Nat) (b : UInt8), j < k + 1 → p.T[j]? = some b → b = 0 from fun h => absurd h h3)
        clear hz
        go_wp2_with fail
        go_roundg (32 - (k + 1))
        case measure => exact meas hk hlt
        case rel => exact ⟨k + 1, meas2 hlt, by go_num, HZ, Mr.out⟩
    · obtain rfl : k = 32 := by omega
      have HVV := Lib.hid (HV0.out (fun h => (z32_all HT.out).1 (fun j b hb => hz.out h j b (by have := (List.getElem?_eq_some_iff.1 hb).1; rw [HT.out] at this; exact this) hb)))
      clear hlt hk hz hm
      go_wp2_with fail
      go_ret
      exact ⟨by rw [HVV.out]; rfl, Mr.out.bel⟩
end Go.Proofs.Ytnbemfceoianiaa
