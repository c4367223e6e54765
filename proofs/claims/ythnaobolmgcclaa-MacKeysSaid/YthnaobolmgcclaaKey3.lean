/- Contract of package mac's Print. -/
import Derived.Test.YthnaobolmgcclaaKey2
namespace Go.Proofs.Ythnaobolmgcclaa
set_option linter.unusedVariables false
set_option linter.unusedSimpArgs false
open Go.RowKit

abbrev printS : ByteArray := ⟨#[112, 114, 105, 110, 116]⟩
/-- What a key is known by. -/
def printB (kb : List UInt8) : List UInt8 := (macT kb (frameB [printS.data.toList])).take 8
theorem printB_len (kb : List UInt8) : (printB kb).length = 8 := by unfold printB; rw [List.length_take]; rfl
theorem info_arr8 : (Try.prog.info? 108).map (·.size) = some 8 := by kernel_rfl
abbrev Y8 : Array Value := #[.int .u8 0, .int .u8 0, .int .u8 0, .int .u8 0, .int .u8 0, .int .u8 0, .int .u8 0, .int .u8 0]
theorem info_8 {K : List UInt8} (h : K.length = 8) : (Try.prog.info? 108).map (·.size) = some (b8a K).size := by rw [b8a_size, h]; exact info_arr8
theorem info_8L {K : List UInt8} (h : K.length = 8) : (Try.prog.info? 108).map (·.size) = some (by8 K).length := by rw [by8_length, h]; exact info_arr8
theorem y8_k {K : List UInt8} (h : K.length = 8) : Y8.size = (b8a K).size := by rw [b8a_size, h]; rfl

set_option maxRecDepth 100000 in
set_option maxHeartbeats 2000000 in
theorem kprint_any (w : World) (gk : Nat) (kb : List UInt8) (hk : KeyW w gk kb) (hl : kb.length ≤ 100000) :
    Calls Try.prog 67 #[.pointer (some ⟨gk, 0, none⟩)] w fun e w' => e = .returned (.agg (b8a (printB kb))) ∧ Below w.heap.size w w' := by
  obtain ⟨K2, hK2⟩ : ∃ K, macT kb (frameB [printS.data.toList]) = K := ⟨_, rfl⟩
  have hKl2 : K2.length = 32 := by rw [← hK2]; rfl
  obtain ⟨K8, hK8⟩ : ∃ K, printB kb = K := ⟨_, rfl⟩
  have hKl8 : K8.length = 8 := by rw [← hK8]; exact printB_len kb
  have hK28 : K2.take 8 = K8 := by rw [← hK2, ← hK8]; rfl
  rw [hK8]
  have HT := Lib.hid (frtag kb printS [] (by decide) (by simp) (by simp) hl K2 hK2)
  have hkl := hk.lt
  obtain ⟨A, c, c0, hr⟩ := hk
  have HF := Lib.hid (show ∀ w', Calls Try.prog 91 #[.string printS, .slice none 0 0] w' fun e w2 => ∃ A' c' qs, e = .returned (.slice A' (qs.length) c') ∧ Pts w2 A' qs ∧ qs.map Pt.l = framesL (printS.data.toList :: ([] : List Pt).map Pt.l) ∧ Below w'.heap.size w' w2 from fun w' => framed_any w' printS none 0 [] ⟨Rd.nil_ _ _ _ _, by simp⟩ (by decide) (by simp) (by simp))
  obtain ⟨n, hnn⟩ : ∃ n, kb.length = n := ⟨_, rfl⟩
  rw [hnn] at c0
  have HNN := Lib.hid hnn
  have KL2 := Lib.hid hKl2
  have KL8 := Lib.hid hKl8
  have HK28 := Lib.hid hK28
  have HR := Lib.hid (show ∀ w', Below w.heap.size w w' → RB w' w'.heap.size A kb from fun w' hb => (hr.below hb).more hb.size)
  have C0 := Lib.hid (show ∀ w' bl ow, Mst w w' bl ow → w'.cell? ⟨gk, 0, none⟩ = some (.slice A n c) from fun w' bl ow h => h.old hkl c0)
  have M1 := Lib.hid ((Mst.start w).new 108 Y8)
  have c1 := C0.out _ _ _ M1.out
  have hAA : ∀ (a : Option Addr) (w : World), (Instr.arrayAt 108 (.slice a 8 32)).run Try.prog w = .ok (.pointer a) w := fun a w => by simp [Instr.arrayAt, run_underlying Try.underlying108]
  clear hr hK2 hKl2 hnn c0 hK8 hKl8 hK28
  go_enter Try.func67, Try.ntmps67
  go_wp2_with fail
  generalize hw0 : World.alloc w _ = w0
  have Mq := Lib.hid (show Mst w w0.drew [(w.heap.size, 108, Y8)] [] by rw [← hw0]; exact M1.out.drew)
  have k0 := C0.out _ _ _ Mq.out
  clear hw0
  refine wp_region_held_drew (S := fun w' => w'.cell? ⟨gk, 0, none⟩ = some (.slice A n c)) (by kernel_rfl) ?_ (fun hHeld => ?_)
  · exact k0
  generalize World.drew w0 = w1 at Mq hHeld ⊢
  refine wpAnyH_take (i := 0) (v := ?_) rfl (by kernel_rfl) (by kernel_rfl) (by kernel_rfl) (fun _ _ _ h => h) (Or.inl ⟨by rfl, ?_⟩) (by assumption) ?_
  rotate_left
  · intro w hSw; (try dsimp only at hSw); go_split_ands; go_simp; with_reducible rfl
  change wpAnyH _ _ _ _ _ _ _ (Act.put _ (some 7) _) _
  simp only [Act.put, List.setIfInBounds_toArray, List.set_cons_zero, List.set_cons_succ, Array.toArray_toList]
  refine wpAnyH_take (i := 1) (v := ?_) rfl (by kernel_rfl) (by kernel_rfl) (by kernel_rfl) (fun _ _ _ h => h) (Or.inl ⟨by rfl, ?_⟩) (by assumption) ?_
  rotate_left
  · intro w hSw; (try dsimp only at hSw); go_split_ands; go_simp; with_reducible rfl
  change wpAnyH _ _ _ _ _ _ _ (Act.put _ (some 8) _) _
  simp only [Act.put, List.setIfInBounds_toArray, List.set_cons_zero, List.set_cons_succ, Array.toArray_toList]
  refine wpAnyH_take (i := 2) (v := ?_) rfl (by kernel_rfl) (by kernel_rfl) (by kernel_rfl) (fun _ _ _ h => h) (Or.inl ⟨by rfl, ?_⟩) (by assumption) ?_
  rotate_left
  · intro w hSw; (try dsimp only at hSw); go_split_ands; go_simp; with_reducible rfl
  change wpAnyH _ _ _ _ _ _ _ (Act.put _ (some 9) _) _
  simp only [Act.put, List.setIfInBounds_toArray, List.set_cons_zero, List.set_cons_succ, Array.toArray_toList]
  refine wpAnyH_take (i := 3) (v := ?_) rfl (by kernel_rfl) (by kernel_rfl) (by kernel_rfl) (fun _ _ _ h => h) (Or.inl ⟨by rfl, ?_⟩) (by assumption) ?_
  rotate_left
  · intro w hSw; (try dsimp only at hSw); go_split_ands; go_simp; with_reducible rfl
  change wpAnyH _ _ _ _ _ _ _ (Act.put _ (some 10) _) _
  simp only [Act.put, List.setIfInBounds_toArray, List.set_cons_zero, List.set_cons_succ, Array.toArray_toList]
  refine wpAnyH_ready (rs := [4, 6]) (by kernel_rfl) (by simp) ?_
  refine (AllReadyH.cons rfl (fun K hK => ?_) (AllReadyH.cons rfl (fun K hK => ?_) AllReadyH.nil))
  · skip
    go_simp
    with_reducible refine (HF.out _).mono ?_; rintro e wq ⟨A', c', qs, rfl, hq1, hq2, hb⟩; have Mq := Lib.hid (Mq.out.below hb); have HQ := Lib.hid hq1; have HQ2 := Lib.hid hq2; obtain ⟨m, hm⟩ : ∃ m, qs.length = m := ⟨_, rfl⟩; rw [hm]; have HMM := Lib.hid hm; clear hm hq1 hq2 hb
    go_wp2_with fail
    refine hK.out _ _ (by exact C0.out _ _ _ Mq.out) (fun hHeld => ?_)
    clear hK K
    refine wpAnyH_ready (rs := [5, 6]) (by kernel_rfl) (by simp) ?_
    refine (AllReadyH.cons rfl (fun K hK => ?_) (AllReadyH.cons rfl (fun K hK => ?_) AllReadyH.nil))
    · skip
      go_simp
      with_reducible refine (HT.out _ A A' c c' qs n m HNN.out HMM.out (HR.out _ Mq.out.bel) HQ.out HQ2.out).mono ?_; rintro e wq ⟨rfl, hb⟩; have Mq := Lib.hid (Mq.out.below hb); clear hb
      go_wp2_with fail
      refine hK.out _ _ (by exact C0.out _ _ _ Mq.out) (fun hHeld => ?_)
      clear hK K
      refine wpAnyH_ready (rs := [6]) (by kernel_rfl) (by simp) ?_
      refine (AllReadyH.cons rfl (fun K hK => ?_) AllReadyH.nil)
      go_simp; generalize hwq : World.alloc _ _ = wq; (try have HQ := Lib.hid (HQ.out.allocE hwq)); have Mq := Lib.hid (Mq.out.newE hwq); clear hwq
      refine hK.out _ _ (by exact C0.out _ _ _ Mq.out) (fun hHeld => ?_)
      clear hK K
      refine wpAnyH_ready (rs := [7]) (by kernel_rfl) (by simp) ?_
      refine (AllReadyH.cons rfl (fun K hK => ?_) AllReadyH.nil)
      refine step_store_row rfl _ _ _ rfl _ (b8a K2) rfl rfl 54 _ (Mq.out.blk []) (info_k KL2.out) (y32_k KL2.out) (b8a_one K2) ?_; have Mq := Lib.hid (Mst.setRow (bl := []) [] Mq.out (b8a K2))
      refine hK.out _ _ (by exact C0.out _ _ _ Mq.out) (fun hHeld => ?_)
      clear hK K
      refine wpAnyH_done (by kernel_rfl) ?_ _
      have L8 := Lib.hid ((Mq.out.blk []).range (o := 0) (xs := by8 K8) (by intro j v hv; rw [Nat.zero_add]; rw [← HK28.out] at hv; simp only [by8, List.map_take] at hv; rw [List.getElem?_take] at hv; split at hv; (first | exact hv | simpa [b8a, by8] using hv); cases hv))
      go_wp2_with (first | refine wpList_load_mid rfl _ _ rfl _ 0 rfl (by8 K8) _ L8.out Try.underlying108 rfl (info_8L KL8.out) ?_ | refine wpList_store_row rfl _ _ _ rfl w.heap.size (b8a K8) rfl rfl 108 _ (Mq.out.blk [_]) (info_8 KL8.out) (y8_k KL8.out) (b8a_one K8) ?_)
      exact bodyPost_ret (results_cell_row rfl _ _ w.heap.size 108 _ (0, 0) _ rfl (setRow_heap _ _ _ _ _ _ (Mq.out.blk [_])) Try.underlying108 rfl (info_8 KL8.out)) rfl ⟨rfl, (Mst.setRow (bl := []) [_] Mq.out (b8a K8)).bel⟩
    · skip
      go_simp; generalize hwq : World.alloc _ _ = wq; (try have HQ := Lib.hid (HQ.out.allocE hwq)); have Mq := Lib.hid (Mq.out.newE hwq); clear hwq
      refine hK.out _ _ (by exact C0.out _ _ _ Mq.out) (fun hHeld => ?_)
      clear hK K
      refine wpAnyH_ready (rs := [5]) (by kernel_rfl) (by simp) ?_
      refine (AllReadyH.cons rfl (fun K hK => ?_) AllReadyH.nil)
      go_simp
      with_reducible refine (HT.out _ A A' c c' qs n m HNN.out HMM.out (HR.out _ Mq.out.bel) HQ.out HQ2.out).mono ?_; rintro e wq ⟨rfl, hb⟩; have Mq := Lib.hid (Mq.out.below hb); clear hb
      go_wp2_with fail
      refine hK.out _ _ (by exact C0.out _ _ _ Mq.out) (fun hHeld => ?_)
      clear hK K
      refine wpAnyH_ready (rs := [7]) (by kernel_rfl) (by simp) ?_
      refine (AllReadyH.cons rfl (fun K hK => ?_) AllReadyH.nil)
      refine step_store_row rfl _ _ _ rfl _ (b8a K2) rfl rfl 54 _ (Mq.out.blk []) (info_k KL2.out) (y32_k KL2.out) (b8a_one K2) ?_; have Mq := Lib.hid (Mst.setRow (bl := []) [] Mq.out (b8a K2))
      refine hK.out _ _ (by exact C0.out _ _ _ Mq.out) (fun hHeld => ?_)
      clear hK K
      refine wpAnyH_done (by kernel_rfl) ?_ _
      have L8 := Lib.hid ((Mq.out.blk []).range (o := 0) (xs := by8 K8) (by intro j v hv; rw [Nat.zero_add]; rw [← HK28.out] at hv; simp only [by8, List.map_take] at hv; rw [List.getElem?_take] at hv; split at hv; (first | exact hv | simpa [b8a, by8] using hv); cases hv))
      go_wp2_with (first | refine wpList_load_mid rfl _ _ rfl _ 0 rfl (by8 K8) _ L8.out Try.underlying108 rfl (info_8L KL8.out) ?_ | refine wpList_store_row rfl _ _ _ rfl w.heap.size (b8a K8) rfl rfl 108 _ (Mq.out.blk [_]) (info_8 KL8.out) (y8_k KL8.out) (b8a_one K8) ?_)
      exact bodyPost_ret (results_cell_row rfl _ _ w.heap.size 108 _ (0, 0) _ rfl (setRow_heap _ _ _ _ _ _ (Mq.out.blk [_])) Try.underlying108 rfl (info_8 KL8.out)) rfl ⟨rfl, (Mst.setRow (bl := []) [_] Mq.out (b8a K8)).bel⟩
  · skip
    go_simp; generalize hwq : World.alloc _ _ = wq; (try have HQ := Lib.hid (HQ.out.allocE hwq)); have Mq := Lib.hid (Mq.out.newE hwq); clear hwq
    refine hK.out _ _ (by exact C0.out _ _ _ Mq.out) (fun hHeld => ?_)
    clear hK K
    refine wpAnyH_ready (rs := [4]) (by kernel_rfl) (by simp) ?_
    refine (AllReadyH.cons rfl (fun K hK => ?_) AllReadyH.nil)
    go_simp
    with_reducible refine (HF.out _).mono ?_; rintro e wq ⟨A', c', qs, rfl, hq1, hq2, hb⟩; have Mq := Lib.hid (Mq.out.below hb); have HQ := Lib.hid hq1; have HQ2 := Lib.hid hq2; obtain ⟨m, hm⟩ : ∃ m, qs.length = m := ⟨_, rfl⟩; rw [hm]; have HMM := Lib.hid hm; clear hm hq1 hq2 hb
    go_wp2_with fail
    refine hK.out _ _ (by exact C0.out _ _ _ Mq.out) (fun hHeld => ?_)
    clear hK K
    refine wpAnyH_ready (rs := [5]) (by kernel_rfl) (by simp) ?_
    refine (AllReadyH.cons rfl (fun K hK => ?_) AllReadyH.nil)
    go_simp
    with_reducible refine (HT.out _ A A' c c' qs n m HNN.out HMM.out (HR.out _ Mq.out.bel) HQ.out HQ2.out).mono ?_; rintro e wq ⟨rfl, hb⟩; have Mq := Lib.hid (Mq.out.below hb); clear hb
    go_wp2_with fail
    refine hK.out _ _ (by exact C0.out _ _ _ Mq.out) (fun hHeld => ?_)
    clear hK K
    refine wpAnyH_ready (rs := [7]) (by kernel_rfl) (by simp) ?_
    refine (AllReadyH.cons rfl (fun K hK => ?_) AllReadyH.nil)
    refine step_store_row rfl _ _ _ rfl _ (b8a K2) rfl rfl 54 _ (Mq.out.blk []) (info_k KL2.out) (y32_k KL2.out) (b8a_one K2) ?_; have Mq := Lib.hid (Mst.setRow (bl := []) [] Mq.out (b8a K2))
    refine hK.out _ _ (by exact C0.out _ _ _ Mq.out) (fun hHeld => ?_)
    clear hK K
    refine wpAnyH_done (by kernel_rfl) ?_ _
    have L8 := Lib.hid ((Mq.out.blk []).range (o := 0) (xs := by8 K8) (by intro j v hv; rw [Nat.zero_add]; rw [← HK28.out] at hv; simp only [by8, List.map_take] at hv; rw [List.getElem?_take] at hv; split at hv; (first | exact hv | simpa [b8a, by8] using hv); cases hv))
    go_wp2_with (first | refine wpList_load_mid rfl _ _ rfl _ 0 rfl (by8 K8) _ L8.out Try.underlying108 rfl (info_8L KL8.out) ?_ | refine wpList_store_row rfl _ _ _ rfl w.heap.size (b8a K8) rfl rfl 108 _ (Mq.out.blk [_]) (info_8 KL8.out) (y8_k KL8.out) (b8a_one K8) ?_)
    exact bodyPost_ret (results_cell_row rfl _ _ w.heap.size 108 _ (0, 0) _ rfl (setRow_heap _ _ _ _ _ _ (Mq.out.blk [_])) Try.underlying108 rfl (info_8 KL8.out)) rfl ⟨rfl, (Mst.setRow (bl := []) [_] Mq.out (b8a K8)).bel⟩
theorem kprint_nil (w : World) : Calls Try.prog 67 #[.pointer none] w fun e w' => e = .returned (.agg Y8) ∧ Below w.heap.size w w' := by
  have M1 := Lib.hid ((Mst.start w).new 108 Y8)
  go_enter Try.func67, Try.ntmps67
  go_wp2
  exact bodyPost_ret (results_cell_row rfl _ _ w.heap.size 108 _ (0, 0) _ rfl (M1.out.blk []) Try.underlying108 rfl info_arr8) rfl ⟨rfl, M1.out.bel⟩
end Go.Proofs.Ythnaobolmgcclaa
