/- Contracts of package mac's keys: Derive, Print, Zero. -/
import Derived.Test.YthnaobolmgcclaaKey1
namespace Go.Proofs.Ythnaobolmgcclaa
set_option linter.unusedVariables false
set_option linter.unusedSimpArgs false
open Go.RowKit

theorem Pts.stay {w w' : World} {A : Option Addr} {ps : List Pt} (h : Pts w A ps) (hb : Below w.heap.size w w') : Pts w' A ps :=
  ⟨(h.1.below hb).more hb.size, fun p hp => ((h.2 p hp).below hb).more hb.size⟩
theorem Pts.allocE {w w2 : World} {A : Option Addr} {ps : List Pt} {ob : Obj} (h : Pts w A ps) (hw : w.alloc ob = w2) : Pts w2 A ps := by
  subst hw
  exact h.stay ((Below.refl _ _).alloc (Nat.le_refl _) _)
set_option maxRecDepth 100000 in
set_option maxHeartbeats 2000000 in
theorem kderive_any (w : World) (gk : Nat) (kb : List UInt8) (hk : KeyW w gk kb) (hl : kb.length ≤ 100000) (s : ByteArray) (hs : s.size ≤ 1000) (A1 : Option Addr) (c1 : Nat) (ps : List Pt) (hp : Pts w A1 ps) (hn : ps.length ≤ 100) (hpl : ∀ p ∈ ps, p.l.length ≤ 1000) :
    Calls Try.prog 69 #[.pointer (some ⟨gk, 0, none⟩), .string s, .slice A1 ps.length c1] w fun e w' => ∃ gk', e = .returned (.pointer (some ⟨gk', 0, none⟩)) ∧ KeyW w' gk' (macT kb (frameB (s.data.toList :: ps.map Pt.l))) ∧ Below w.heap.size w w' := by
  obtain ⟨K2, hK2⟩ : ∃ K, macT kb (frameB (s.data.toList :: ps.map Pt.l)) = K := ⟨_, rfl⟩
  have hKl2 : K2.length = 32 := by rw [← hK2]; rfl
  rw [hK2]
  have HT := Lib.hid (frtag kb s ps hs hn hpl hl K2 hK2)
  have hkl := hk.lt
  obtain ⟨A, c, c0, hr⟩ := hk
  have HF := Lib.hid (fun w' (hb : Below w.heap.size w w') => framed_any w' s A1 c1 ps ⟨(hp.1.below hb).more hb.size, fun p h => ((hp.2 p h).below hb).more hb.size⟩ (by omega) (by omega) (fun p h => Nat.le_trans (hpl p h) (by decide)))
  obtain ⟨n, hnn⟩ : ∃ n, kb.length = n := ⟨_, rfl⟩
  obtain ⟨pn, hpn⟩ : ∃ n, ps.length = n := ⟨_, rfl⟩
  rw [hnn] at c0
  rw [hpn] at HF ⊢
  have HNN := Lib.hid hnn
  have KL2 := Lib.hid hKl2
  have HR := Lib.hid (show ∀ w', Below w.heap.size w w' → RB w' w'.heap.size A kb from fun w' hb => (hr.below hb).more hb.size)
  have C0 := Lib.hid (show ∀ w' bl ow, Mst w w' bl ow → w'.cell? ⟨gk, 0, none⟩ = some (.slice A n c) from fun w' bl ow h => h.old hkl c0)
  have k0 := C0.out _ _ _ (Mst.start w).drew
  have Mq := Lib.hid (Mst.start w).drew
  clear hr hp hK2 hKl2 hnn hpn c0 hn hpl hs
  go_enter Try.func69, Try.ntmps69
  go_wp2_with fail
  refine wp_region_held_drew (S := fun w' => w'.cell? ⟨gk, 0, none⟩ = some (.slice A n c)) (by kernel_rfl) ?_ (fun hHeld => ?_)
  · exact k0
  generalize World.drew w = w1 at Mq hHeld ⊢
  refine wpAnyH_take (i := 0) (v := ?_) rfl (by kernel_rfl) (by kernel_rfl) (by kernel_rfl) (fun _ _ _ h => h) (Or.inl ⟨by rfl, ?_⟩) (by assumption) ?_
  rotate_left
  · intro w hSw; (try dsimp only at hSw); go_split_ands; go_simp; with_reducible rfl
  change wpAnyH _ _ _ _ _ _ _ (Act.put _ (some 10) _) _
  simp only [Act.put, List.setIfInBounds_toArray, List.set_cons_zero, List.set_cons_succ, Array.toArray_toList]
  refine wpAnyH_take (i := 1) (v := ?_) rfl (by kernel_rfl) (by kernel_rfl) (by kernel_rfl) (fun _ _ _ h => h) (Or.inl ⟨by rfl, ?_⟩) (by assumption) ?_
  rotate_left
  · intro w hSw; (try dsimp only at hSw); go_split_ands; go_simp; with_reducible rfl
  change wpAnyH _ _ _ _ _ _ _ (Act.put _ (some 11) _) _
  simp only [Act.put, List.setIfInBounds_toArray, List.set_cons_zero, List.set_cons_succ, Array.toArray_toList]
  refine wpAnyH_take (i := 2) (v := ?_) rfl (by kernel_rfl) (by kernel_rfl) (by kernel_rfl) (fun _ _ _ h => h) (Or.inl ⟨by rfl, ?_⟩) (by assumption) ?_
  rotate_left
  · intro w hSw; (try dsimp only at hSw); go_split_ands; go_simp; with_reducible rfl
  change wpAnyH _ _ _ _ _ _ _ (Act.put _ (some 12) _) _
  simp only [Act.put, List.setIfInBounds_toArray, List.set_cons_zero, List.set_cons_succ, Array.toArray_toList]
  refine wpAnyH_take (i := 3) (v := ?_) rfl (by kernel_rfl) (by kernel_rfl) (by kernel_rfl) (fun _ _ _ h => h) (Or.inl ⟨by rfl, ?_⟩) (by assumption) ?_
  rotate_left
  · intro w hSw; (try dsimp only at hSw); go_split_ands; go_simp; with_reducible rfl
  change wpAnyH _ _ _ _ _ _ _ (Act.put _ (some 13) _) _
  simp only [Act.put, List.setIfInBounds_toArray, List.set_cons_zero, List.set_cons_succ, Array.toArray_toList]
  refine wpAnyH_take (i := 4) (v := ?_) rfl (by kernel_rfl) (by kernel_rfl) (by kernel_rfl) (fun _ _ _ h => h) (Or.inl ⟨by rfl, ?_⟩) (by assumption) ?_
  rotate_left
  · intro w hSw; (try dsimp only at hSw); go_split_ands; go_simp; with_reducible rfl
  change wpAnyH _ _ _ _ _ _ _ (Act.put _ (some 14) _) _
  simp only [Act.put, List.setIfInBounds_toArray, List.set_cons_zero, List.set_cons_succ, Array.toArray_toList]
  refine wpAnyH_take (i := 5) (v := ?_) rfl (by kernel_rfl) (by kernel_rfl) (by kernel_rfl) (fun _ _ _ h => h) (Or.inl ⟨by rfl, ?_⟩) (by assumption) ?_
  rotate_left
  · intro w hSw; (try dsimp only at hSw); go_split_ands; go_simp; with_reducible rfl
  change wpAnyH _ _ _ _ _ _ _ (Act.put _ (some 15) _) _
  simp only [Act.put, List.setIfInBounds_toArray, List.set_cons_zero, List.set_cons_succ, Array.toArray_toList]
  refine wpAnyH_ready (rs := [6, 8]) (by kernel_rfl) (by simp) ?_
  refine (AllReadyH.cons rfl (fun K hK => ?_) (AllReadyH.cons rfl (fun K hK => ?_) AllReadyH.nil))
  · skip
    go_simp
    with_reducible refine (HF.out _ Mq.out.bel).mono ?_; rintro e wq ⟨A', c', qs, rfl, hq1, hq2, hb⟩; have Mq := Lib.hid (Mq.out.below hb); have HQ := Lib.hid hq1; have HQ2 := Lib.hid hq2; obtain ⟨m, hm⟩ : ∃ m, qs.length = m := ⟨_, rfl⟩; rw [hm]; have HMM := Lib.hid hm; clear hm hq1 hq2 hb
    go_wp2_with fail
    refine hK.out _ _ (by exact C0.out _ _ _ Mq.out) (fun hHeld => ?_)
    clear hK K
    refine wpAnyH_ready (rs := [7, 8]) (by kernel_rfl) (by simp) ?_
    refine (AllReadyH.cons rfl (fun K hK => ?_) (AllReadyH.cons rfl (fun K hK => ?_) AllReadyH.nil))
    · skip
      go_simp
      with_reducible refine (HT.out _ A A' c c' qs n m HNN.out HMM.out (HR.out _ Mq.out.bel) HQ.out HQ2.out).mono ?_; rintro e wq ⟨rfl, hb⟩; have Mq := Lib.hid (Mq.out.below hb); clear hb
      go_wp2_with fail
      refine hK.out _ _ (by exact C0.out _ _ _ Mq.out) (fun hHeld => ?_)
      clear hK K
      refine wpAnyH_ready (rs := [8]) (by kernel_rfl) (by simp) ?_
      refine (AllReadyH.cons rfl (fun K hK => ?_) AllReadyH.nil)
      go_simp; generalize hwq : World.alloc _ _ = wq; (try have HQ := Lib.hid (HQ.out.allocE hwq)); have Mq := Lib.hid (Mq.out.newE hwq); clear hwq
      refine hK.out _ _ (by exact C0.out _ _ _ Mq.out) (fun hHeld => ?_)
      clear hK K
      refine wpAnyH_ready (rs := [9]) (by kernel_rfl) (by simp) ?_
      refine (AllReadyH.cons rfl (fun K hK => ?_) AllReadyH.nil)
      refine step_store_row rfl _ _ _ rfl _ (b8a K2) rfl rfl 54 _ (Mq.out.blk []) (info_k KL2.out) (y32_k KL2.out) (b8a_one K2) ?_; have Mq := Lib.hid (Mst.setRow (bl := []) [] Mq.out (b8a K2))
      refine hK.out _ _ (by exact C0.out _ _ _ Mq.out) (fun hHeld => ?_)
      clear hK K
      refine wpAnyH_done (by kernel_rfl) ?_ _
      have HN := Lib.hid (show Calls _ _ _ _ _ from new_any _ _ 32 K2 (by unfold RB; rw [KL2.out]; exact Mq.out.src (Src.arr (List.mem_cons_self ..) KL2.out)) (by rw [KL2.out]; decide))
      rw [KL2.out] at HN
      go_wp2_with fail
      refine HN.out.mono ?_
      rintro e wq ⟨gk', rfl, h1, h2⟩
      have H1 := Lib.hid h1
      have Mq := Lib.hid (Mq.out.below h2)
      clear h1 h2
      go_wp2
      go_ret
      exact ⟨gk', rfl, H1.out, Mq.out.bel⟩
    · skip
      go_simp; generalize hwq : World.alloc _ _ = wq; (try have HQ := Lib.hid (HQ.out.allocE hwq)); have Mq := Lib.hid (Mq.out.newE hwq); clear hwq
      refine hK.out _ _ (by exact C0.out _ _ _ Mq.out) (fun hHeld => ?_)
      clear hK K
      refine wpAnyH_ready (rs := [7]) (by kernel_rfl) (by simp) ?_
      refine (AllReadyH.cons rfl (fun K hK => ?_) AllReadyH.nil)
      go_simp
      with_reducible refine (HT.out _ A A' c c' qs n m HNN.out HMM.out (HR.out _ Mq.out.bel) HQ.out HQ2.out).mono ?_; rintro e wq ⟨rfl, hb⟩; have Mq := Lib.hid (Mq.out.below hb); clear hb
      go_wp2_with fail
      refine hK.out _ _ (by exact C0.out _ _ _ Mq.out) (fun hHeld => ?_)
      clear hK K
      refine wpAnyH_ready (rs := [9]) (by kernel_rfl) (by simp) ?_
      refine (AllReadyH.cons rfl (fun K hK => ?_) AllReadyH.nil)
      refine step_store_row rfl _ _ _ rfl _ (b8a K2) rfl rfl 54 _ (Mq.out.blk []) (info_k KL2.out) (y32_k KL2.out) (b8a_one K2) ?_; have Mq := Lib.hid (Mst.setRow (bl := []) [] Mq.out (b8a K2))
      refine hK.out _ _ (by exact C0.out _ _ _ Mq.out) (fun hHeld => ?_)
      clear hK K
      refine wpAnyH_done (by kernel_rfl) ?_ _
      have HN := Lib.hid (show Calls _ _ _ _ _ from new_any _ _ 32 K2 (by unfold RB; rw [KL2.out]; exact Mq.out.src (Src.arr (List.mem_cons_self ..) KL2.out)) (by rw [KL2.out]; decide))
      rw [KL2.out] at HN
      go_wp2_with fail
      refine HN.out.mono ?_
      rintro e wq ⟨gk', rfl, h1, h2⟩
      have H1 := Lib.hid h1
      have Mq := Lib.hid (Mq.out.below h2)
      clear h1 h2
      go_wp2
      go_ret
      exact ⟨gk', rfl, H1.out, Mq.out.bel⟩
  · skip
    go_simp; generalize hwq : World.alloc _ _ = wq; (try have HQ := Lib.hid (HQ.out.allocE hwq)); have Mq := Lib.hid (Mq.out.newE hwq); clear hwq
    refine hK.out _ _ (by exact C0.out _ _ _ Mq.out) (fun hHeld => ?_)
    clear hK K
    refine wpAnyH_ready (rs := [6]) (by kernel_rfl) (by simp) ?_
    refine (AllReadyH.cons rfl (fun K hK => ?_) AllReadyH.nil)
    go_simp
    with_reducible refine (HF.out _ Mq.out.bel).mono ?_; rintro e wq ⟨A', c', qs, rfl, hq1, hq2, hb⟩; have Mq := Lib.hid (Mq.out.below hb); have HQ := Lib.hid hq1; have HQ2 := Lib.hid hq2; obtain ⟨m, hm⟩ : ∃ m, qs.length = m := ⟨_, rfl⟩; rw [hm]; have HMM := Lib.hid hm; clear hm hq1 hq2 hb
    go_wp2_with fail
    refine hK.out _ _ (by exact C0.out _ _ _ Mq.out) (fun hHeld => ?_)
    clear hK K
    refine wpAnyH_ready (rs := [7]) (by kernel_rfl) (by simp) ?_
    refine (AllReadyH.cons rfl (fun K hK => ?_) AllReadyH.nil)
    go_simp
    with_reducible refine (HT.out _ A A' c c' qs n m HNN.out HMM.out (HR.out _ Mq.out.bel) HQ.out HQ2.out).mono ?_; rintro e wq ⟨rfl, hb⟩; have Mq := Lib.hid (Mq.out.below hb); clear hb
    go_wp2_with fail
    refine hK.out _ _ (by exact C0.out _ _ _ Mq.out) (fun hHeld => ?_)
    clear hK K
    refine wpAnyH_ready (rs := [9]) (by kernel_rfl) (by simp) ?_
    refine (AllReadyH.cons rfl (fun K hK => ?_) AllReadyH.nil)
    refine step_store_row rfl _ _ _ rfl _ (b8a K2) rfl rfl 54 _ (Mq.out.blk []) (info_k KL2.out) (y32_k KL2.out) (b8a_one K2) ?_; have Mq := Lib.hid (Mst.setRow (bl := []) [] Mq.out (b8a K2))
    refine hK.out _ _ (by exact C0.out _ _ _ Mq.out) (fun hHeld => ?_)
    clear hK K
    refine wpAnyH_done (by kernel_rfl) ?_ _
    have HN := Lib.hid (show Calls _ _ _ _ _ from new_any _ _ 32 K2 (by unfold RB; rw [KL2.out]; exact Mq.out.src (Src.arr (List.mem_cons_self ..) KL2.out)) (by rw [KL2.out]; decide))
    rw [KL2.out] at HN
    go_wp2_with fail
    refine HN.out.mono ?_
    rintro e wq ⟨gk', rfl, h1, h2⟩
    have H1 := Lib.hid h1
    have Mq := Lib.hid (Mq.out.below h2)
    clear h1 h2
    go_wp2
    go_ret
    exact ⟨gk', rfl, H1.out, Mq.out.bel⟩
theorem kderive_nil (w : World) (s : ByteArray) (v : Value) : Calls Try.prog 69 #[.pointer none, .string s, v] w fun e w' => e = .returned (.pointer none) ∧ w' = w := by
  go_enter Try.func69, Try.ntmps69
  go_wp2
  go_ret
  exact ⟨rfl, rfl⟩

set_option maxRecDepth 100000 in
set_option maxHeartbeats 2000000 in
theorem zero_any (w : World) (gk : Nat) (kb : List UInt8) (hk : KeyW w gk kb) (hl : kb.length ≤ 100000) :
    Calls Try.prog 71 #[.pointer (some ⟨gk, 0, none⟩)] w fun e w' => e = .returned (.bool (decide (kb = List.replicate kb.length 0))) ∧ Below w.heap.size w w' := by
  have hkl := hk.lt
  obtain ⟨A, c, c0, hr⟩ := hk
  obtain ⟨n, hnn⟩ : ∃ n, kb.length = n := ⟨_, rfl⟩
  have hmk := fun w => make_u8 n (by omega) w
  have HE := Lib.hid (show ∀ w' A', Below w.heap.size w w' → Rd w' w'.heap.size 1 A' n (by8 (List.replicate n 0)) → Calls Try.prog 48 #[.slice A n c, .slice A' n n] w' fun e w2 => e = .returned (.bool (decide (kb = List.replicate n 0))) ∧ Below w'.heap.size w' w2 from fun w' A' hb h => by
    have := equal2_any A A' c n kb (List.replicate n 0) w' ((hr.below hb).more hb.size) (by unfold RB; rw [List.length_replicate]; exact h) (by unfold maxLen; omega)
    rw [hnn, List.length_replicate] at this
    exact this)
  rw [hnn] at c0 ⊢
  have C0 := Lib.hid (show ∀ w' bl ow, Mst w w' bl ow → w'.cell? ⟨gk, 0, none⟩ = some (.slice A n c) from fun w' bl ow h => h.old hkl c0)
  have k0 := C0.out _ _ _ (Mst.start w).drew
  have Mq := Lib.hid (Mst.start w).drew
  obtain ⟨z, hz⟩ : ∃ z, b8a (List.replicate n 0) = z := ⟨_, rfl⟩
  rw [hz] at hmk
  have HZ := Lib.hid hz
  clear hr hnn c0 hz
  go_enter Try.func71, Try.ntmps71
  go_wp2_with fail
  refine wp_region_held_drew (S := fun w' => w'.cell? ⟨gk, 0, none⟩ = some (.slice A n c)) (by kernel_rfl) ?_ (fun hHeld => ?_)
  · exact k0
  generalize World.drew w = w1 at Mq hHeld ⊢
  refine wpAnyH_take (i := 0) (v := ?_) rfl (by kernel_rfl) (by kernel_rfl) (by kernel_rfl) (fun _ _ _ h => h) (Or.inl ⟨by rfl, ?_⟩) (by assumption) ?_
  rotate_left
  · intro w hSw; (try dsimp only at hSw); go_split_ands; go_simp; with_reducible rfl
  change wpAnyH _ _ _ _ _ _ _ (Act.put _ (some 3) _) _
  simp only [Act.put, List.setIfInBounds_toArray, List.set_cons_zero, List.set_cons_succ, Array.toArray_toList]
  refine wpAnyH_take (i := 1) (v := ?_) rfl (by kernel_rfl) (by kernel_rfl) (by kernel_rfl) (fun _ _ _ h => h) (Or.inl ⟨by rfl, ?_⟩) (by assumption) ?_
  rotate_left
  · intro w hSw; (try dsimp only at hSw); go_split_ands; go_simp; with_reducible rfl
  change wpAnyH _ _ _ _ _ _ _ (Act.put _ (some 4) _) _
  simp only [Act.put, List.setIfInBounds_toArray, List.set_cons_zero, List.set_cons_succ, Array.toArray_toList]
  refine wpAnyH_take (i := 2) (v := ?_) rfl (by kernel_rfl) (by kernel_rfl) (by kernel_rfl) (fun _ _ _ h => h) (Or.inl ⟨by rfl, ?_⟩) (by assumption) ?_
  rotate_left
  · intro w hSw; (try dsimp only at hSw); go_split_ands; go_simp; with_reducible rfl
  change wpAnyH _ _ _ _ _ _ _ (Act.put _ (some 5) _) _
  simp only [Act.put, List.setIfInBounds_toArray, List.set_cons_zero, List.set_cons_succ, Array.toArray_toList]
  refine wpAnyH_take (i := 3) (v := ?_) rfl (by kernel_rfl) (by kernel_rfl) (by kernel_rfl) (fun _ _ _ h => h) (Or.inl ⟨by rfl, ?_⟩) (by assumption) ?_
  rotate_left
  · intro w hSw; (try dsimp only at hSw); go_split_ands; go_simp; with_reducible rfl
  change wpAnyH _ _ _ _ _ _ _ (Act.put _ (some 6) _) _
  simp only [Act.put, List.setIfInBounds_toArray, List.set_cons_zero, List.set_cons_succ, Array.toArray_toList]
  refine wpAnyH_take (i := 4) (v := ?_) rfl (by kernel_rfl) (by kernel_rfl) (by kernel_rfl) (fun _ _ _ h => h) (Or.inl ⟨by rfl, ?_⟩) (by assumption) ?_
  rotate_left
  · intro w hSw; (try dsimp only at hSw); go_split_ands; go_simp; with_reducible rfl
  change wpAnyH _ _ _ _ _ _ _ (Act.put _ (some 7) _) _
  simp only [Act.put, List.setIfInBounds_toArray, List.set_cons_zero, List.set_cons_succ, Array.toArray_toList]
  refine wpAnyH_take (i := 5) (v := ?_) rfl (by kernel_rfl) (by kernel_rfl) (by kernel_rfl) (fun _ _ _ h => h) (Or.inl ⟨by rfl, ?_⟩) (by assumption) ?_
  rotate_left
  · intro w hSw; (try dsimp only at hSw); go_split_ands; go_simp; with_reducible rfl
  change wpAnyH _ _ _ _ _ _ _ (Act.put _ (some 8) _) _
  simp only [Act.put, List.setIfInBounds_toArray, List.set_cons_zero, List.set_cons_succ, Array.toArray_toList]
  refine wpAnyH_take (i := 6) (v := ?_) rfl (by kernel_rfl) (by kernel_rfl) (by kernel_rfl) (fun _ _ _ h => h) (Or.inl ⟨by rfl, ?_⟩) (by assumption) ?_
  rotate_left
  · intro w hSw; (try dsimp only at hSw); go_split_ands; go_simp; with_reducible rfl
  change wpAnyH _ _ _ _ _ _ _ (Act.put _ (some 9) _) _
  simp only [Act.put, List.setIfInBounds_toArray, List.set_cons_zero, List.set_cons_succ, Array.toArray_toList]
  refine wpAnyH_take (i := 7) (v := ?_) rfl (by kernel_rfl) (by kernel_rfl) (by kernel_rfl) (fun _ _ _ h => h) (Or.inl ⟨by rfl, ?_⟩) (by assumption) ?_
  rotate_left
  · intro w hSw; (try dsimp only at hSw); go_split_ands; go_simp; with_reducible rfl
  change wpAnyH _ _ _ _ _ _ _ (Act.put _ (some 10) _) _
  simp only [Act.put, List.setIfInBounds_toArray, List.set_cons_zero, List.set_cons_succ, Array.toArray_toList]
  refine wpAnyH_take (i := 8) (v := ?_) rfl (by kernel_rfl) (by kernel_rfl) (by kernel_rfl) (fun _ _ _ h => h) (Or.inl ⟨by rfl, ?_⟩) (by assumption) ?_
  rotate_left
  · intro w hSw; (try dsimp only at hSw); go_split_ands; go_simp; with_reducible rfl
  change wpAnyH _ _ _ _ _ _ _ (Act.put _ (some 11) _) _
  simp only [Act.put, List.setIfInBounds_toArray, List.set_cons_zero, List.set_cons_succ, Array.toArray_toList]
  refine wpAnyH_take (i := 9) (v := ?_) rfl (by kernel_rfl) (by kernel_rfl) (by kernel_rfl) (fun _ _ _ h => h) (Or.inl ⟨by rfl, ?_⟩) (by assumption) ?_
  rotate_left
  · intro w hSw; (try dsimp only at hSw); go_split_ands; go_simp; with_reducible rfl
  change wpAnyH _ _ _ _ _ _ _ (Act.put _ (some 12) _) _
  simp only [Act.put, List.setIfInBounds_toArray, List.set_cons_zero, List.set_cons_succ, Array.toArray_toList]
  refine wpAnyH_take (i := 10) (v := ?_) rfl (by kernel_rfl) (by kernel_rfl) (by kernel_rfl) (fun _ _ _ h => h) (Or.inl ⟨by rfl, ?_⟩) (by assumption) ?_
  rotate_left
  · intro w hSw; (try dsimp only at hSw); go_split_ands; go_simp; with_reducible rfl
  change wpAnyH _ _ _ _ _ _ _ (Act.put _ (some 13) _) _
  simp only [Act.put, List.setIfInBounds_toArray, List.set_cons_zero, List.set_cons_succ, Array.toArray_toList]
  refine wpAnyH_take (i := 11) (v := ?_) rfl (by kernel_rfl) (by kernel_rfl) (by kernel_rfl) (fun _ _ _ h => h) (Or.inl ⟨by rfl, ?_⟩) (by assumption) ?_
  rotate_left
  · intro w hSw; (try dsimp only at hSw); go_split_ands; go_simp; with_reducible rfl
  change wpAnyH _ _ _ _ _ _ _ (Act.put _ (some 14) _) _
  simp only [Act.put, List.setIfInBounds_toArray, List.set_cons_zero, List.set_cons_succ, Array.toArray_toList]
  refine wpAnyH_ready (rs := [12]) (by kernel_rfl) (by simp) ?_
  refine (AllReadyH.cons rfl (fun K hK => ?_) AllReadyH.nil)
  go_simp; generalize hwq : World.alloc _ _ = wq; have Mq := Lib.hid (Mq.out.newE hwq); clear hwq
  refine hK.out _ _ (by exact C0.out _ _ _ Mq.out) (fun hHeld => ?_)
  clear hK K
  refine wpAnyH_ready (rs := [13]) (by kernel_rfl) (by simp) ?_
  refine (AllReadyH.cons rfl (fun K hK => ?_) AllReadyH.nil)
  go_simp
  with_reducible refine (HE.out _ _ Mq.out.bel (Mq.out.src (Src.arr (K := List.replicate n 0) (t := 5) (by rw [HZ.out]; exact List.mem_cons_self ..) (List.length_replicate ..)))).mono ?_; rintro e wq ⟨rfl, hb⟩; have Mq := Lib.hid (Mq.out.below hb); clear hb
  go_wp2_with fail
  refine hK.out _ _ (by exact C0.out _ _ _ Mq.out) (fun hHeld => ?_)
  clear hK K
  refine wpAnyH_take (i := 14) (v := ?_) rfl (by kernel_rfl) (by kernel_rfl) (by kernel_rfl) (fun _ _ _ h => h) (Or.inl ⟨by rfl, ?_⟩) (by assumption) ?_
  rotate_left
  · intro w hSw; (try dsimp only at hSw); go_split_ands; go_simp; with_reducible rfl
  change wpAnyH _ _ _ _ _ _ _ (Act.put _ (some 17) _) _
  simp only [Act.put, List.setIfInBounds_toArray, List.set_cons_zero, List.set_cons_succ, Array.toArray_toList]
  refine wpAnyH_take (i := 15) (v := ?_) rfl (by kernel_rfl) (by kernel_rfl) (by kernel_rfl) (fun _ _ _ h => h) (Or.inl ⟨by rfl, ?_⟩) (by assumption) ?_
  rotate_left
  · intro w hSw; (try dsimp only at hSw); go_split_ands; go_simp; with_reducible rfl
  change wpAnyH _ _ _ _ _ _ _ (Act.put _ (some 2) _) _
  simp only [Act.put, List.setIfInBounds_toArray, List.set_cons_zero, List.set_cons_succ, Array.toArray_toList]
  refine wpAnyH_done (by kernel_rfl) ?_ _
  go_wp2
  go_ret
  exact ⟨rfl, Mq.out.bel⟩
theorem zero_nil (w : World) : Calls Try.prog 71 #[.pointer none] w fun e w' => e = .returned (.bool true) ∧ Below w.heap.size w w' := by
  have Mq := Lib.hid (Mst.start w).drew
  go_enter Try.func71, Try.ntmps71
  go_wp2_with fail
  refine wp_region_held_drew (S := fun _ => True) (by kernel_rfl) ?_ (fun hHeld => ?_)
  · trivial
  refine wpAnyH_take (i := 0) (v := ?_) rfl (by kernel_rfl) (by kernel_rfl) (by kernel_rfl) (fun _ _ _ h => h) (Or.inl ⟨by rfl, ?_⟩) (by assumption) ?_
  rotate_left
  · intro w hSw; (try dsimp only at hSw); go_split_ands; go_simp; with_reducible rfl
  change wpAnyH _ _ _ _ _ _ _ (Act.put _ (some 3) _) _
  simp only [Act.put, List.setIfInBounds_toArray, List.set_cons_zero, List.set_cons_succ, Array.toArray_toList]
  refine wpAnyH_take (i := 1) (v := ?_) rfl (by kernel_rfl) (by kernel_rfl) (by kernel_rfl) (fun _ _ _ h => h) (Or.inl ⟨by rfl, ?_⟩) (by assumption) ?_
  rotate_left
  · intro w hSw; (try dsimp only at hSw); go_split_ands; go_simp; with_reducible rfl
  change wpAnyH _ _ _ _ _ _ _ (Act.put _ (some 4) _) _
  simp only [Act.put, List.setIfInBounds_toArray, List.set_cons_zero, List.set_cons_succ, Array.toArray_toList]
  refine wpAnyH_take (i := 2) (v := ?_) rfl (by kernel_rfl) (by kernel_rfl) (by kernel_rfl) (fun _ _ _ h => h) (Or.inl ⟨by rfl, ?_⟩) (by assumption) ?_
  rotate_left
  · intro w hSw; (try dsimp only at hSw); go_split_ands; go_simp; with_reducible rfl
  change wpAnyH _ _ _ _ _ _ _ (Act.put _ (some 5) _) _
  simp only [Act.put, List.setIfInBounds_toArray, List.set_cons_zero, List.set_cons_succ, Array.toArray_toList]
  refine wpAnyH_take (i := 3) (v := undef) rfl (by kernel_rfl) (by kernel_rfl) (by kernel_rfl) (fun _ _ _ h => h) (Or.inr ⟨by rfl, rfl⟩) (by assumption) ?_
  change wpAnyH _ _ _ _ _ _ _ (Act.put _ (some 6) _) _
  simp only [Act.put, List.setIfInBounds_toArray, List.set_cons_zero, List.set_cons_succ, Array.toArray_toList]
  refine wpAnyH_take (i := 4) (v := undef) rfl (by kernel_rfl) (by kernel_rfl) (by kernel_rfl) (fun _ _ _ h => h) (Or.inr ⟨by rfl, rfl⟩) (by assumption) ?_
  change wpAnyH _ _ _ _ _ _ _ (Act.put _ (some 7) _) _
  simp only [Act.put, List.setIfInBounds_toArray, List.set_cons_zero, List.set_cons_succ, Array.toArray_toList]
  refine wpAnyH_take (i := 5) (v := undef) rfl (by kernel_rfl) (by kernel_rfl) (by kernel_rfl) (fun _ _ _ h => h) (Or.inr ⟨by rfl, rfl⟩) (by assumption) ?_
  change wpAnyH _ _ _ _ _ _ _ (Act.put _ (some 8) _) _
  simp only [Act.put, List.setIfInBounds_toArray, List.set_cons_zero, List.set_cons_succ, Array.toArray_toList]
  refine wpAnyH_take (i := 6) (v := undef) rfl (by kernel_rfl) (by kernel_rfl) (by kernel_rfl) (fun _ _ _ h => h) (Or.inr ⟨by rfl, rfl⟩) (by assumption) ?_
  change wpAnyH _ _ _ _ _ _ _ (Act.put _ (some 9) _) _
  simp only [Act.put, List.setIfInBounds_toArray, List.set_cons_zero, List.set_cons_succ, Array.toArray_toList]
  refine wpAnyH_take (i := 7) (v := undef) rfl (by kernel_rfl) (by kernel_rfl) (by kernel_rfl) (fun _ _ _ h => h) (Or.inr ⟨by rfl, rfl⟩) (by assumption) ?_
  change wpAnyH _ _ _ _ _ _ _ (Act.put _ (some 10) _) _
  simp only [Act.put, List.setIfInBounds_toArray, List.set_cons_zero, List.set_cons_succ, Array.toArray_toList]
  refine wpAnyH_take (i := 8) (v := undef) rfl (by kernel_rfl) (by kernel_rfl) (by kernel_rfl) (fun _ _ _ h => h) (Or.inr ⟨by rfl, rfl⟩) (by assumption) ?_
  change wpAnyH _ _ _ _ _ _ _ (Act.put _ (some 11) _) _
  simp only [Act.put, List.setIfInBounds_toArray, List.set_cons_zero, List.set_cons_succ, Array.toArray_toList]
  refine wpAnyH_take (i := 9) (v := undef) rfl (by kernel_rfl) (by kernel_rfl) (by kernel_rfl) (fun _ _ _ h => h) (Or.inr ⟨by rfl, rfl⟩) (by assumption) ?_
  change wpAnyH _ _ _ _ _ _ _ (Act.put _ (some 12) _) _
  simp only [Act.put, List.setIfInBounds_toArray, List.set_cons_zero, List.set_cons_succ, Array.toArray_toList]
  refine wpAnyH_take (i := 10) (v := undef) rfl (by kernel_rfl) (by kernel_rfl) (by kernel_rfl) (fun _ _ _ h => h) (Or.inr ⟨by rfl, rfl⟩) (by assumption) ?_
  change wpAnyH _ _ _ _ _ _ _ (Act.put _ (some 13) _) _
  simp only [Act.put, List.setIfInBounds_toArray, List.set_cons_zero, List.set_cons_succ, Array.toArray_toList]
  refine wpAnyH_take (i := 11) (v := undef) rfl (by kernel_rfl) (by kernel_rfl) (by kernel_rfl) (fun _ _ _ h => h) (Or.inr ⟨by rfl, rfl⟩) (by assumption) ?_
  change wpAnyH _ _ _ _ _ _ _ (Act.put _ (some 14) _) _
  simp only [Act.put, List.setIfInBounds_toArray, List.set_cons_zero, List.set_cons_succ, Array.toArray_toList]
  refine wpAnyH_take (i := 12) (v := undef) rfl (by kernel_rfl) (by kernel_rfl) (by kernel_rfl) (fun _ _ _ h => h) (Or.inr ⟨by rfl, rfl⟩) (by assumption) ?_
  change wpAnyH _ _ _ _ _ _ _ (Act.put _ (some 15) _) _
  simp only [Act.put, List.setIfInBounds_toArray, List.set_cons_zero, List.set_cons_succ, Array.toArray_toList]
  refine wpAnyH_take (i := 13) (v := undef) rfl (by kernel_rfl) (by kernel_rfl) (by kernel_rfl) (fun _ _ _ h => h) (Or.inr ⟨by rfl, rfl⟩) (by assumption) ?_
  change wpAnyH _ _ _ _ _ _ _ (Act.put _ (some 16) _) _
  simp only [Act.put, List.setIfInBounds_toArray, List.set_cons_zero, List.set_cons_succ, Array.toArray_toList]
  refine wpAnyH_take (i := 14) (v := ?_) rfl (by kernel_rfl) (by kernel_rfl) (by kernel_rfl) (fun _ _ _ h => h) (Or.inl ⟨by rfl, ?_⟩) (by assumption) ?_
  rotate_left
  · intro w hSw; (try dsimp only at hSw); go_split_ands; go_simp; with_reducible rfl
  change wpAnyH _ _ _ _ _ _ _ (Act.put _ (some 17) _) _
  simp only [Act.put, List.setIfInBounds_toArray, List.set_cons_zero, List.set_cons_succ, Array.toArray_toList]
  refine wpAnyH_take (i := 15) (v := ?_) rfl (by kernel_rfl) (by kernel_rfl) (by kernel_rfl) (fun _ _ _ h => h) (Or.inl ⟨by rfl, ?_⟩) (by assumption) ?_
  rotate_left
  · intro w hSw; (try dsimp only at hSw); go_split_ands; go_simp; with_reducible rfl
  change wpAnyH _ _ _ _ _ _ _ (Act.put _ (some 2) _) _
  simp only [Act.put, List.setIfInBounds_toArray, List.set_cons_zero, List.set_cons_succ, Array.toArray_toList]
  refine wpAnyH_done (by kernel_rfl) ?_ _
  go_wp2
  go_ret
  exact ⟨rfl, Mq.out.bel⟩
end Go.Proofs.Ythnaobolmgcclaa
