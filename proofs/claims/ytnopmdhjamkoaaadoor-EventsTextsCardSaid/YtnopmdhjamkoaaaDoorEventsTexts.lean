/-
  vigillaw27.EventsTexts returns true, whatever it is called with, where the table internal/strconv.uint64pow10 holds what the program's text lays there.
-/
import Derived.Test.YtnopmdhjamkoaaaDoorEt1
import Derived.Test.YtnopmdhjamkoaaaDoorOpenA
namespace Go.Proofs.YtnopmdhjamkoaaaDoor
set_option linter.unusedVariables false
set_option linter.unusedSimpArgs false
open Go.RowKit

/-- The word that the law wants. -/
def wdN (n : Int) : ByteArray := if 0 ≤ n ∧ n < 5 then wdB n.toNat else ⟨#[]⟩
theorem evword_any (n : Int) (w : World) : Calls Tryd.prog 11 #[.int .i64 n] w fun r w' => r = .returned (.string (wdN n)) ∧ w = w' := by
  by_cases h : 0 ≤ n ∧ n < 5
  · have := evword_yes n.toNat (by omega) (wdN n) (by unfold wdN; rw [if_pos h]) w
    rwa [show (n.toNat : Int) = n by omega] at this
  · have := evword_no n (by omega) w
    unfold wdN
    rwa [if_neg h]
abbrev Ts (W w : World) (t k i r : Int) : Prop := Mst W w [(W.heap.size + 1, 24, wda), (W.heap.size, 23, #[.int .i64 t, .int .i64 k, .int .i64 i, .int .i64 r])] []

set_option maxRecDepth 100000 in
set_option maxHeartbeats 4000000 in
theorem eventsTexts_main (W : World) (t k i r n : Int) (hT : ∀ w', Below W.heap.size W w' → Tab10 w') :
    Calls Tryd.prog 3 #[.agg #[.int .i64 t, .int .i64 k, .int .i64 i, .int .i64 r], .int .i64 n] W fun e W' => e = .returned (.bool true) ∧ Below W.heap.size W W' := by
  have HT := Lib.hid hT
  have HCE := Lib.hid (show ∀ w', Ts W w' t k i r → w'.cell? ⟨W.heap.size, 0, none⟩ = some (.int .i64 t) ∧ w'.cell? ⟨W.heap.size, 1, none⟩ = some (.int .i64 k) ∧ w'.cell? ⟨W.heap.size, 2, none⟩ = some (.int .i64 i) ∧ w'.cell? ⟨W.heap.size, 3, none⟩ = some (.int .i64 r) from fun w' h => ⟨(h.blk [_]).cell 0, (h.blk [_]).cell 1, (h.blk [_]).cell 2, (h.blk [_]).cell 3⟩)
  have HWD := Lib.hid (show ∀ w' (q : Nat), q < 5 → Ts W w' t k i r → w'.cell? ⟨W.heap.size + 1, q, none⟩ = some (.string (wdB q)) from fun w' q hq h => ((h.blk []).cell q).trans (wda_at hq))
  obtain ⟨wn, hwn⟩ : ∃ s, wdN n = s := ⟨_, rfl⟩
  have HWN := Lib.hid hwn
  have HEW := Lib.hid (fun w' => evword_any n w')
  rw [hwn] at HEW
  obtain ⟨tx, htx⟩ : ∃ s, txE ⟨t, k, i, r⟩ = s := ⟨_, rfl⟩
  have HTX := Lib.hid htx
  have HET := Lib.hid (show ∀ w', Below W.heap.size W w' → Calls Tryd.prog 12 #[.agg #[.int .i64 t, .int .i64 k, .int .i64 i, .int .i64 r]] w' fun e w2 => e = .returned (.string tx) ∧ Below w'.heap.size w' w2 from fun w' hb => by
    have := evtext_any w' (fun w2 hb2 => hT w2 (Bsz hb hb2)) ⟨t, k, i, r⟩
    rw [htx] at this
    exact this)
  have hck := fun w' => refcheck27_any t k i r w'
  obtain ⟨ck, hc⟩ : ∃ v, evC t k i r = v := ⟨_, rfl⟩
  simp only [hc] at hck
  have HCK := Lib.hid hck
  have HC := Lib.hid hc
  clear hT hwn htx hck hc
  go_enter Tryd.func3, Tryd.ntmps3
  go_upto_region 3 with fail
  generalize hw1 : World.alloc _ _ = w1
  have Mq := Lib.hid (show Ts W w1 t k i r by
    rw [← hw1]
    have m := ((Mst.start W).new 23 #[.int .i64 t, .int .i64 k, .int .i64 i, .int .i64 r]).new 24 wda
    rw [show (W.alloc (.cells #[.int .i64 t, .int .i64 k, .int .i64 i, .int .i64 r] 23)).heap.size = W.heap.size + 1 by simp] at m
    exact m)
  clear hw1
  obtain ⟨c0, c1, c2, c3⟩ := HCE.out _ Mq.out
  have hn : (∃ q : Nat, n = (q : Int) ∧ (0 : Int) ≤ q ∧ (q : Int) < 5 ∧ w1.cell? ⟨W.heap.size + 1, q, none⟩ = some (.string wn)) ∨ (n < 0 ∧ wn = ⟨#[]⟩) ∨ (0 ≤ n ∧ 5 ≤ n ∧ wn = ⟨#[]⟩) := by
    have h := HWN.out
    unfold wdN at h
    by_cases h1 : 0 ≤ n ∧ n < 5
    · rw [if_pos h1] at h
      refine .inl ⟨n.toNat, by omega, by omega, by omega, ?_⟩
      rw [HWD.out _ _ (by omega) Mq.out, h]
    · rw [if_neg h1] at h
      by_cases h2 : n < 0
      · exact .inr (.inl ⟨h2, h.symm⟩)
      · exact .inr (.inr ⟨by omega, by omega, h.symm⟩)
  rcases hn with ⟨q, rfl, hq0, hq, c5⟩ | ⟨h1, rfl⟩ | ⟨h1, h2, rfl⟩
  all_goals (
    go_wp2_with fail
    refine (HCK.out _).mono ?_
    rintro x w2 ⟨rfl, hb⟩
    have Mq := Lib.hid (Mq.out.below hb)
    clear hb c0 c1 c2 c3
    try clear c5
    by_cases h0 : ck = 0
    · subst h0
      have hsp := evC_split t k i r 0 HC.out
      have hb5 : 0 ≤ t ∧ t ≤ 1073741824 ∧ 0 ≤ k ∧ k < 5 ∧ 1 ≤ i ∧ i ≤ 65535 ∧ 0 ≤ r ∧ r < 8 := by
        rcases hsp with ⟨_, h⟩ | ⟨_, _, h⟩ | ⟨k1, k2, (⟨_, h⟩ | ⟨_, _, h⟩ | ⟨_, _, _, h⟩ | ⟨_, _, _, _, h⟩ | ⟨q0, q1, q2, q3, (⟨_, h⟩ | ⟨_, _, h⟩ | ⟨h1, h2, _⟩)⟩)⟩
        all_goals first | cases h | exact ⟨q0, q1, k1, k2, q2, q3, h1, h2⟩
      obtain ⟨t0, t1, k0, k1, i0, i1, r0, r1⟩ := hb5
      obtain ⟨K, rfl⟩ := Int.eq_ofNat_of_zero_le k0
      have htx : (if K = 4 then txB t K i ++ txR r else txB t K i) = tx := by
        have h := HTX.out
        unfold txE at h
        rw [if_pos (show Ev.chk ⟨t, (K : Int), i, r⟩ = 0 from HC.out)] at h
        by_cases h4 : K = 4
        · rw [if_pos (by simp only; omega)] at h
          rw [if_pos h4]
          exact h
        · rw [if_neg (by simp only; omega)] at h
          rw [if_neg h4]
          exact h
      obtain ⟨a0, ha0⟩ : ∃ a, itB t = a := ⟨_, rfl⟩
      obtain ⟨a2, ha2⟩ : ∃ a, wdB K = a := ⟨_, rfl⟩
      obtain ⟨a4, ha4⟩ : ∃ a, itB i = a := ⟨_, rfl⟩
      obtain ⟨a6, ha6⟩ : ∃ a, itB r = a := ⟨_, rfl⟩
      have s0 : a0.size ≤ 21 := by rw [← ha0]; exact itB_size (by omega) (by omega)
      have s2 : a2.size ≤ 5 := by rw [← ha2]; exact wdB_size K
      have s4 : a4.size ≤ 21 := by rw [← ha4]; exact itB_size (by omega) (by omega)
      have s6 : a6.size ≤ 21 := by rw [← ha6]; exact itB_size (by omega) (by omega)
      obtain ⟨add1, z1⟩ := str_add (b := spS) s0 (show spS.size ≤ 1 by decide) (by decide)
      obtain ⟨add2, z2⟩ := str_add z1 s2 (by decide)
      obtain ⟨add3, z3⟩ := str_add (b := spS) z2 (show spS.size ≤ 1 by decide) (by decide)
      obtain ⟨add4, z4⟩ := str_add z3 s4 (by decide)
      obtain ⟨add5, z5⟩ := str_add (b := spS) z4 (show spS.size ≤ 1 by decide) (by decide)
      obtain ⟨add6, z6⟩ := str_add z5 s6 (by decide)
      have hxb : txB t K i = a0 ++ spS ++ a2 ++ spS ++ a4 := by unfold txB; rw [ha0, ha4, show ((K : Int)).toNat = K by omega, ha2]
      have hxr : txR r = spS ++ a6 := by unfold txR; rw [ha6]
      rw [hxb, hxr, ← ByteArray.append_assoc] at htx
      have HI0 := Lib.hid (show ∀ w', Tab10 w' → Calls Tryd.prog 9 #[.int .i64 t] w' fun e w2 => e = .returned (.string a0) ∧ Below w'.heap.size w' w2 from fun w' h => by have := itoa_any t (by omega) (by omega) w' h; rw [ha0] at this; exact this)
      have HI4 := Lib.hid (show ∀ w', Tab10 w' → Calls Tryd.prog 9 #[.int .i64 i] w' fun e w2 => e = .returned (.string a4) ∧ Below w'.heap.size w' w2 from fun w' h => by have := itoa_any i (by omega) (by omega) w' h; rw [ha4] at this; exact this)
      have HI6 := Lib.hid (show ∀ w', Tab10 w' → Calls Tryd.prog 9 #[.int .i64 r] w' fun e w2 => e = .returned (.string a6) ∧ Below w'.heap.size w' w2 from fun w' h => by have := itoa_any r (by omega) (by omega) w' h; rw [ha6] at this; exact this)
      have HCF := Lib.hid (show ∀ w', Ts W w' t K i r → (w'.cell? ⟨W.heap.size, 0, none⟩ = some (.int .i64 t) ∧ w'.cell? ⟨W.heap.size, 1, none⟩ = some (.int .i64 K) ∧ w'.cell? ⟨W.heap.size, 2, none⟩ = some (.int .i64 i) ∧ w'.cell? ⟨W.heap.size, 3, none⟩ = some (.int .i64 r)) ∧ w'.cell? ⟨W.heap.size + 1, K, none⟩ = some (.string a2) from fun w' h => ⟨HCE.out w' h, by rw [← ha2]; exact HWD.out w' K (by omega) h⟩)
      have hK5 : (K : Int) < 5 := k1
      have hK0 : (0 : Int) ≤ K := k0
      generalize a0 ++ spS = b1 at add1 add2 add3 add4 add5 add6 htx
      generalize b1 ++ a2 = b2 at add2 add3 add4 add5 add6 htx
      generalize b2 ++ spS = b3 at add3 add4 add5 add6 htx
      generalize b3 ++ a4 = b4 at add4 add5 add6 htx
      generalize b4 ++ spS = b5 at add5 add6 htx
      generalize b5 ++ a6 = b6 at add6 htx
      have HTX2 := Lib.hid htx
      have K0 := Lib.hid (HCF.out _ Mq.out.drew)
      clear hsp ha0 ha2 ha4 ha6 s0 s2 s4 s6 z1 z2 z3 z4 z5 z6 t0 t1 i0 i1 r0 r1 k0 k1 htx hxb hxr
      go_upto_region 7 with fail
      refine wp_region_held_drew (S := fun w' => (w'.cell? ⟨W.heap.size, 0, none⟩ = some (.int .i64 t) ∧ w'.cell? ⟨W.heap.size, 1, none⟩ = some (.int .i64 (K : Int)) ∧ w'.cell? ⟨W.heap.size, 2, none⟩ = some (.int .i64 i) ∧ w'.cell? ⟨W.heap.size, 3, none⟩ = some (.int .i64 r)) ∧ w'.cell? ⟨W.heap.size + 1, K, none⟩ = some (.string a2)) (by kernel_rfl) ?_ (fun hHeld => ?_)
      · exact K0.out
      generalize hw7 : World.drew _ = w7 at hHeld ⊢
      have Mq := Lib.hid (Mq.out.drew.toV hw7 rfl)
      clear hw7
      refine wpAnyH_take (i := 0) (v := ?_) rfl (by kernel_rfl) (by kernel_rfl) (by kernel_rfl) (fun _ _ _ h => h) (Or.inl ⟨by rfl, ?_⟩) (by assumption) ?_
      rotate_left
      · intro w hSw; (try dsimp only at hSw); go_split_ands; go_simp; with_reducible rfl
      change wpAnyH _ _ _ _ _ _ _ (Act.put _ (some 22) _) _
      simp only [Act.put, List.setIfInBounds_toArray, List.set_cons_zero, List.set_cons_succ, Array.toArray_toList]
      refine wpAnyH_take (i := 1) (v := ?_) rfl (by kernel_rfl) (by kernel_rfl) (by kernel_rfl) (fun _ _ _ h => h) (Or.inl ⟨by rfl, ?_⟩) (by assumption) ?_
      rotate_left
      · intro w hSw; (try dsimp only at hSw); go_split_ands; go_simp; with_reducible rfl
      change wpAnyH _ _ _ _ _ _ _ (Act.put _ (some 23) _) _
      simp only [Act.put, List.setIfInBounds_toArray, List.set_cons_zero, List.set_cons_succ, Array.toArray_toList]
      refine wpAnyH_take (i := 4) (v := ?_) rfl (by kernel_rfl) (by kernel_rfl) (by kernel_rfl) (fun _ _ _ h => h) (Or.inl ⟨by rfl, ?_⟩) (by assumption) ?_
      rotate_left
      · intro w hSw; (try dsimp only at hSw); go_split_ands; go_simp; with_reducible rfl
      change wpAnyH _ _ _ _ _ _ _ (Act.put _ (some 26) _) _
      simp only [Act.put, List.setIfInBounds_toArray, List.set_cons_zero, List.set_cons_succ, Array.toArray_toList]
      refine wpAnyH_take (i := 5) (v := ?_) rfl (by kernel_rfl) (by kernel_rfl) (by kernel_rfl) (fun _ _ _ h => h) (Or.inl ⟨by rfl, ?_⟩) (by assumption) ?_
      rotate_left
      · intro w hSw; (try dsimp only at hSw); go_split_ands; go_simp; with_reducible rfl
      change wpAnyH _ _ _ _ _ _ _ (Act.put _ (some 27) _) _
      simp only [Act.put, List.setIfInBounds_toArray, List.set_cons_zero, List.set_cons_succ, Array.toArray_toList]
      refine wpAnyH_take (i := 6) (v := ?_) rfl (by kernel_rfl) (by kernel_rfl) (by kernel_rfl) (fun _ _ _ h => h) (Or.inl ⟨by rfl, ?_⟩) (by assumption) ?_
      rotate_left
      · intro w hSw; (try dsimp only at hSw); go_split_ands; go_simp; with_reducible rfl
      change wpAnyH _ _ _ _ _ _ _ (Act.put _ (some 28) _) _
      simp only [Act.put, List.setIfInBounds_toArray, List.set_cons_zero, List.set_cons_succ, Array.toArray_toList]
      refine wpAnyH_take (i := 7) (v := ?_) rfl (by kernel_rfl) (by kernel_rfl) (by kernel_rfl) (fun _ _ _ h => h) (Or.inl ⟨by rfl, ?_⟩) (by assumption) ?_
      rotate_left
      · intro w hSw; (try dsimp only at hSw); go_split_ands; go_simp; with_reducible rfl
      change wpAnyH _ _ _ _ _ _ _ (Act.put _ (some 29) _) _
      simp only [Act.put, List.setIfInBounds_toArray, List.set_cons_zero, List.set_cons_succ, Array.toArray_toList]
      refine wpAnyH_take (i := 10) (v := ?_) rfl (by kernel_rfl) (by kernel_rfl) (by kernel_rfl) (fun _ _ _ h => h) (Or.inl ⟨by rfl, ?_⟩) (by assumption) ?_
      rotate_left
      · intro w hSw; (try dsimp only at hSw); go_split_ands; go_simp; with_reducible rfl
      change wpAnyH _ _ _ _ _ _ _ (Act.put _ (some 32) _) _
      simp only [Act.put, List.setIfInBounds_toArray, List.set_cons_zero, List.set_cons_succ, Array.toArray_toList]
      refine wpAnyH_take (i := 11) (v := ?_) rfl (by kernel_rfl) (by kernel_rfl) (by kernel_rfl) (fun _ _ _ h => h) (Or.inl ⟨by rfl, ?_⟩) (by assumption) ?_
      rotate_left
      · intro w hSw; (try dsimp only at hSw); go_split_ands; go_simp; with_reducible rfl
      change wpAnyH _ _ _ _ _ _ _ (Act.put _ (some 33) _) _
      simp only [Act.put, List.setIfInBounds_toArray, List.set_cons_zero, List.set_cons_succ, Array.toArray_toList]
      refine wpAnyH_ready (rs := [2]) (by kernel_rfl) (by simp) ?_
      refine (AllReadyH.cons rfl (fun K hK => ?_) AllReadyH.nil)
      go_simp
      (with_reducible refine (HI0.out _ (HT.out _ Mq.out.bel)).mono ?_); rintro x wq ⟨rfl, hb⟩; have Mq := Lib.hid (Mq.out.below hb); clear hb
      go_wp2_with fail
      refine hK.out _ _ (by exact HCF.out _ Mq.out) (fun hHeld => ?_)
      clear hK K
      refine wpAnyH_take (i := 3) (v := ?_) rfl (by kernel_rfl) (by kernel_rfl) (by kernel_rfl) (fun _ _ _ h => h) (Or.inl ⟨by rfl, ?_⟩) (by assumption) ?_
      rotate_left
      · intro w hSw; (try dsimp only at hSw); go_split_ands; go_simp; with_reducible rfl
      change wpAnyH _ _ _ _ _ _ _ (Act.put _ (some 25) _) _
      simp only [Act.put, List.setIfInBounds_toArray, List.set_cons_zero, List.set_cons_succ, Array.toArray_toList]
      refine wpAnyH_take (i := 8) (v := ?_) rfl (by kernel_rfl) (by kernel_rfl) (by kernel_rfl) (fun _ _ _ h => h) (Or.inl ⟨by rfl, ?_⟩) (by assumption) ?_
      rotate_left
      · intro w hSw; (try dsimp only at hSw); go_split_ands; go_simp; with_reducible rfl
      change wpAnyH _ _ _ _ _ _ _ (Act.put _ (some 30) _) _
      simp only [Act.put, List.setIfInBounds_toArray, List.set_cons_zero, List.set_cons_succ, Array.toArray_toList]
      refine wpAnyH_take (i := 9) (v := ?_) rfl (by kernel_rfl) (by kernel_rfl) (by kernel_rfl) (fun _ _ _ h => h) (Or.inl ⟨by rfl, ?_⟩) (by assumption) ?_
      rotate_left
      · intro w hSw; (try dsimp only at hSw); go_split_ands; go_simp; with_reducible rfl
      change wpAnyH _ _ _ _ _ _ _ (Act.put _ (some 31) _) _
      simp only [Act.put, List.setIfInBounds_toArray, List.set_cons_zero, List.set_cons_succ, Array.toArray_toList]
      refine wpAnyH_ready (rs := [12]) (by kernel_rfl) (by simp) ?_
      refine (AllReadyH.cons rfl (fun K hK => ?_) AllReadyH.nil)
      go_simp
      (with_reducible refine (HI4.out _ (HT.out _ Mq.out.bel)).mono ?_); rintro x wq ⟨rfl, hb⟩; have Mq := Lib.hid (Mq.out.below hb); clear hb
      go_wp2_with fail
      refine hK.out _ _ (by exact HCF.out _ Mq.out) (fun hHeld => ?_)
      clear hK K
      refine wpAnyH_take (i := 13) (v := ?_) rfl (by kernel_rfl) (by kernel_rfl) (by kernel_rfl) (fun _ _ _ h => h) (Or.inl ⟨by rfl, ?_⟩) (by assumption) ?_
      rotate_left
      · intro w hSw; (try dsimp only at hSw); go_split_ands; go_simp; with_reducible rfl
      change wpAnyH _ _ _ _ _ _ _ (Act.put _ (some 35) _) _
      simp only [Act.put, List.setIfInBounds_toArray, List.set_cons_zero, List.set_cons_succ, Array.toArray_toList]
      refine wpAnyH_take (i := 14) (v := ?_) rfl (by kernel_rfl) (by kernel_rfl) (by kernel_rfl) (fun _ _ _ h => h) (Or.inl ⟨by rfl, ?_⟩) (by assumption) ?_
      rotate_left
      · intro w hSw; (try dsimp only at hSw); go_split_ands; go_simp; with_reducible rfl
      change wpAnyH _ _ _ _ _ _ _ (Act.put _ (some 7) _) _
      simp only [Act.put, List.setIfInBounds_toArray, List.set_cons_zero, List.set_cons_succ, Array.toArray_toList]
      refine wpAnyH_done (by kernel_rfl) ?_ _
      clear hHeld K0
      obtain ⟨c0, c1, c2, c3⟩ := HCE.out _ Mq.out
      by_cases h4 : K = 4
      · subst h4
        have c1' : wq.cell? ⟨W.heap.size, 1, none⟩ = some (.int .i64 4) := c1
        clear c1
        obtain rfl : b6 = tx := by
          have := HTX2.out
          simpa using this
        go_wp2_with fail
        refine (HI6.out _ (HT.out _ Mq.out.bel)).mono ?_
        rintro x w3 ⟨rfl, hb⟩
        have Mq := Lib.hid (Mq.out.below hb)
        clear hb c0 c1' c2 c3
        have hKK : ((4 : Nat) : Int) = 4 := rfl
        simp only [hKK] at HCE HET
        go_wp2_with fail
        refine (known27 _).mono ?_
        rintro x w10 ⟨rfl, hb⟩
        have Mq := Lib.hid (Mq.out.below hb)
        clear hb
        go_wp2_with fail
        refine (HEW.out _).mono ?_
        rintro x w11 ⟨rfl, rfl⟩
        obtain ⟨c0, c1, c2, c3⟩ := HCE.out _ Mq.out
        go_wp2_with fail
        refine (to27_any _ _ _ _ _).mono ?_
        rintro x w12 ⟨rfl, hb⟩
        have Mq := Lib.hid (Mq.out.below hb)
        clear hb c0 c1 c2 c3
        go_wp2_with fail
        refine (HET.out _ Mq.out.bel).mono ?_
        rintro x w13 ⟨rfl, hb⟩
        have Mq := Lib.hid (Mq.out.below hb)
        clear hb
        obtain ⟨c0, c1, c2, c3⟩ := HCE.out _ Mq.out
        go_wp2_with fail
        refine (to27_any _ _ _ _ _).mono ?_
        rintro x w14 ⟨rfl, hb⟩
        have Mq := Lib.hid (Mq.out.below hb)
        clear hb c0 c1 c2 c3
        go_wp2_with fail
        refine (evput_nil _ _ _ _).mono ?_
        rintro x w20 ⟨rfl, rfl⟩
        have Mq := Lib.hid (Mq.out.alloc (.cells #[.int .i64 t, .int .i64 4, .int .i64 i, .int .i64 r] 30))
        go_wp2_with fail
        refine (read_nil27 _ _).mono ?_
        rintro x w21 ⟨rfl, hb⟩
        have Mq := Lib.hid (Mq.out.below hb)
        clear hb
        go_wp2_with fail
        refine (since_nil27 _ _ _).mono ?_
        rintro x w22 ⟨rfl, hb⟩
        have Mq := Lib.hid (Mq.out.below hb)
        clear hb
        go_wp2_with fail
        refine (of_nil27 _ _ _).mono ?_
        rintro x w23 ⟨rfl, hb⟩
        have Mq := Lib.hid (Mq.out.below hb)
        clear hb
        go_wp2_with fail
        refine (lost_nil27 _).mono ?_
        rintro x w24 ⟨rfl, rfl⟩
        go_wp2_with fail
        refine (len_nil27 _).mono ?_
        rintro x w25 ⟨rfl, rfl⟩
        go_wp2
        go_ret
        exact ⟨rfl, Mq.out.bel⟩
      · have f1 : ((K : Int) == 4) = false := by simp; omega
        obtain rfl : b4 = tx := by
          have := HTX2.out
          rwa [if_neg h4] at this
        clear h4
        have Mq := Lib.hid (Mq.out)
        go_wp2_with fail
        clear c0 c1 c2 c3
        refine (known27 _).mono ?_
        rintro x w10 ⟨rfl, hb⟩
        have Mq := Lib.hid (Mq.out.below hb)
        clear hb
        go_wp2_with fail
        refine (HEW.out _).mono ?_
        rintro x w11 ⟨rfl, rfl⟩
        obtain ⟨c0, c1, c2, c3⟩ := HCE.out _ Mq.out
        go_wp2_with fail
        refine (to27_any _ _ _ _ _).mono ?_
        rintro x w12 ⟨rfl, hb⟩
        have Mq := Lib.hid (Mq.out.below hb)
        clear hb c0 c1 c2 c3
        go_wp2_with fail
        refine (HET.out _ Mq.out.bel).mono ?_
        rintro x w13 ⟨rfl, hb⟩
        have Mq := Lib.hid (Mq.out.below hb)
        clear hb
        obtain ⟨c0, c1, c2, c3⟩ := HCE.out _ Mq.out
        go_wp2_with fail
        refine (to27_any _ _ _ _ _).mono ?_
        rintro x w14 ⟨rfl, hb⟩
        have Mq := Lib.hid (Mq.out.below hb)
        clear hb c0 c1 c2 c3
        go_wp2_with fail
        refine (evput_nil _ _ _ _).mono ?_
        rintro x w20 ⟨rfl, rfl⟩
        have Mq := Lib.hid (Mq.out.alloc (.cells #[.int .i64 t, .int .i64 (K : Int), .int .i64 i, .int .i64 r] 30))
        go_wp2_with fail
        refine (read_nil27 _ _).mono ?_
        rintro x w21 ⟨rfl, hb⟩
        have Mq := Lib.hid (Mq.out.below hb)
        clear hb
        go_wp2_with fail
        refine (since_nil27 _ _ _).mono ?_
        rintro x w22 ⟨rfl, hb⟩
        have Mq := Lib.hid (Mq.out.below hb)
        clear hb
        go_wp2_with fail
        refine (of_nil27 _ _ _).mono ?_
        rintro x w23 ⟨rfl, hb⟩
        have Mq := Lib.hid (Mq.out.below hb)
        clear hb
        go_wp2_with fail
        refine (lost_nil27 _).mono ?_
        rintro x w24 ⟨rfl, rfl⟩
        go_wp2_with fail
        refine (len_nil27 _).mono ?_
        rintro x w25 ⟨rfl, rfl⟩
        go_wp2
        go_ret
        exact ⟨rfl, Mq.out.bel⟩
    · obtain rfl : tx = ⟨#[]⟩ := by
        rw [← HTX.out]
        unfold txE
        rw [if_neg (by simpa [Ev.chk, HC.out] using h0)]
      have j1 : (ck == 0) = false := by simpa using h0
      clear h0
      go_wp2_with fail
      refine (known27 _).mono ?_
      rintro x w10 ⟨rfl, hb⟩
      have Mq := Lib.hid (Mq.out.below hb)
      clear hb
      go_wp2_with fail
      refine (HEW.out _).mono ?_
      rintro x w11 ⟨rfl, rfl⟩
      obtain ⟨c0, c1, c2, c3⟩ := HCE.out _ Mq.out
      go_wp2_with fail
      refine (to27_any _ _ _ _ _).mono ?_
      rintro x w12 ⟨rfl, hb⟩
      have Mq := Lib.hid (Mq.out.below hb)
      clear hb c0 c1 c2 c3
      go_wp2_with fail
      refine (HET.out _ Mq.out.bel).mono ?_
      rintro x w13 ⟨rfl, hb⟩
      have Mq := Lib.hid (Mq.out.below hb)
      clear hb
      obtain ⟨c0, c1, c2, c3⟩ := HCE.out _ Mq.out
      go_wp2_with fail
      refine (to27_any _ _ _ _ _).mono ?_
      rintro x w14 ⟨rfl, hb⟩
      have Mq := Lib.hid (Mq.out.below hb)
      clear hb c0 c1 c2 c3
      go_wp2_with fail
      refine (evput_nil _ _ _ _).mono ?_
      rintro x w20 ⟨rfl, rfl⟩
      have Mq := Lib.hid (Mq.out.alloc (.cells #[.int .i64 t, .int .i64 k, .int .i64 i, .int .i64 r] 30))
      go_wp2_with fail
      refine (read_nil27 _ _).mono ?_
      rintro x w21 ⟨rfl, hb⟩
      have Mq := Lib.hid (Mq.out.below hb)
      clear hb
      go_wp2_with fail
      refine (since_nil27 _ _ _).mono ?_
      rintro x w22 ⟨rfl, hb⟩
      have Mq := Lib.hid (Mq.out.below hb)
      clear hb
      go_wp2_with fail
      refine (of_nil27 _ _ _).mono ?_
      rintro x w23 ⟨rfl, hb⟩
      have Mq := Lib.hid (Mq.out.below hb)
      clear hb
      go_wp2_with fail
      refine (lost_nil27 _).mono ?_
      rintro x w24 ⟨rfl, rfl⟩
      go_wp2_with fail
      refine (len_nil27 _).mono ?_
      rintro x w25 ⟨rfl, rfl⟩
      go_wp2
      go_ret
      exact ⟨rfl, Mq.out.bel⟩)
theorem contract_eventsTexts (W : World) (v0 v1 : Value) (a0 : ∃ zs : List Int, v0 = .agg (zs.map (Value.int .i64)).toArray ∧ zs.length = 4 ∧ ∀ z ∈ zs, in64 z) (a1 : ∃ z, v1 = .int .i64 z ∧ in64 z) (hT : ∀ w', Below W.heap.size W w' → Tab10 w') :
    Calls Tryd.prog 3 #[v0, v1] W fun e W' => e = .returned (.bool true) ∧ Below W.heap.size W W' := by
  obtain ⟨zs, rfl, hl, -⟩ := a0
  obtain ⟨n, rfl, -⟩ := a1
  match zs, hl with
  | [a, b, c, d], _ => exact eventsTexts_main W a b c d n hT
end Go.Proofs.YtnopmdhjamkoaaaDoor
