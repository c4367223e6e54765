/- The document's seal: contracts of tag and Seal. -/
import Derived.Test.YtiakgohipnbdbaaSr1
import Derived.Test.YtiakgohipnbdbaaSr2
namespace Go.Proofs.Ytiakgohipnbdbaa
set_option linter.unusedVariables false
set_option linter.unusedSimpArgs false
open Go.RowKit

set_option maxRecDepth 100000 in
set_option maxHeartbeats 1600000 in
theorem reftag3_any (KT : Array Value) (hKT : RSum KT) (w : World) (Ak : Option Addr) (ck : Nat) (key : List UInt8) (hk : RB w w.heap.size Ak key) (hkl : key.length ≤ 1000) (A : Option Addr) (c : Nat) (nc : List UInt8) (hr : RB w w.heap.size A nc) (hn : nc.length ≤ 1000)
    (Ad : Option Addr) (cd : Nat) (bd : List UInt8) (hrd : RB w w.heap.size Ad bd) (hnd : bd.length ≤ 1000) (Ab : Option Addr) (cb : Nat) (b : List UInt8) (hrb : RB w w.heap.size Ab b) (hnb : b.length ≤ 1000) :
    Calls Try.prog 72 #[.agg KT, .slice Ak key.length ck, .slice A nc.length c, .slice Ad bd.length cd, .slice Ab b.length cb] w fun e w' => e = .returned (.agg (b8a (sTag key nc bd b))) ∧ Below w.heap.size w w' := by
  have HD := Lib.hid (show ∀ w', Below w.heap.size w w' → Calls Try.prog 66 #[.agg KT, .slice Ak key.length ck, .string bindS, .slice none 0 0] w' fun e w2 => e = .returned (.agg (b8a (bindK key))) ∧ Below w'.heap.size w' w2 from fun w' hb => refderive_any KT hKT w' Ak ck key (hk.keep hb) (by omega) bindS (by decide) none 0 [] ⟨Rd.nil_ _ _ _ _, by simp⟩ (by simp) (by simp))
  have hsT : sTag key nc bd b = macT (bindK key) (frameB [nc, bd, b]) := rfl
  have hfl : (frameB [nc, bd, b]).length ≤ 3 * 1004 := frameB_len _ 1000 (List.forall3 hn hnd hnb)
  obtain ⟨FR, hFR⟩ : ∃ F, frameB [nc, bd, b] = F := ⟨_, rfl⟩
  obtain ⟨FL, hFL⟩ : ∃ n, FR.length = n := ⟨_, rfl⟩
  have HFM := Lib.hid (show ∀ w' A', Pts w' A' [⟨A, c, nc⟩, ⟨Ad, cd, bd⟩, ⟨Ab, cb, b⟩] → Calls Try.prog 84 #[.slice A' 3 3] w' fun e w2 => ∃ A2 c2, e = .returned (.slice A2 FL c2) ∧ Fresh w' w2 5 1 (.slice A2 FL c2) FL (by8 FR) from fun w' A' hp => by
    have := refframe_any w' A' 3 _ hp (by simp) (List.forall3 hn hnd hnb)
    rw [show List.map Pt.l [(⟨A, c, nc⟩ : Pt), ⟨Ad, cd, bd⟩, ⟨Ab, cb, b⟩] = [nc, bd, b] from rfl, hFR, hFL] at this
    exact this)
  obtain ⟨T, hT⟩ : ∃ T, sTag key nc bd b = T := ⟨_, rfl⟩
  have hTl : T.length = 32 := by rw [← hT]; rfl
  obtain ⟨kd, hkd⟩ : ∃ k, bindK key = k := ⟨_, rfl⟩
  have hkdl : kd.length = 32 := by rw [← hkd]; rfl
  rw [hFR] at hsT hfl
  rw [hFL] at hfl
  rw [hT] at hsT ⊢
  rw [hkd] at HD hsT
  have HTG := Lib.hid (show ∀ w' A' c' g, Rd w' w'.heap.size 1 A' FL (by8 FR) → Rd w' w'.heap.size 1 (some ⟨g, 0, none⟩) 32 (by8 kd) → Calls Try.prog 78 #[.agg KT, .slice (some ⟨g, 0, none⟩) 32 32, .slice A' FL c'] w' fun e w2 => e = .returned (.agg (b8a T)) ∧ Below w'.heap.size w' w2 from fun w' A' c' g h3 h4 => by
    have := reftag_any KT hKT w' (some ⟨g, 0, none⟩) 32 kd (by unfold RB; rw [hkdl]; exact h4) (by omega) A' c' FR (by unfold RB; rw [hFL]; exact h3) (by omega)
    rw [hkdl, hFL, ← hsT] at this
    exact this)
  obtain ⟨N, hN⟩ : ∃ N, nc.length = N := ⟨_, rfl⟩
  obtain ⟨D, hD⟩ : ∃ N, bd.length = N := ⟨_, rfl⟩
  obtain ⟨B, hB⟩ : ∃ N, b.length = N := ⟨_, rfl⟩
  obtain ⟨KN, hKN⟩ : ∃ N, key.length = N := ⟨_, rfl⟩
  have SN := Lib.hid (show Src w [] [] 1 A nc.length (by8 nc) from Src.old hr)
  have SD := Lib.hid (show Src w [] [] 1 Ad bd.length (by8 bd) from Src.old hrd)
  have SB := Lib.hid (show Src w [] [] 1 Ab b.length (by8 b) from Src.old hrb)
  rw [hN, hD, hB, hKN]
  rw [hKN] at HD
  have HN := Lib.hid hN
  have HDN := Lib.hid hD
  have HBN := Lib.hid hB
  have HKL := Lib.hid hkdl
  have HTL := Lib.hid hTl
  have hu : ∃ d, Try.prog.underlying 61 = some d ∧ d.isRow = true := ⟨_, Try.underlying61, rfl⟩
  obtain ⟨d, hu, hd⟩ := hu
  have hki := hKT.infL
  have hki2 := hKT.inf
  have m1 := ((Mst.start w).new 61 KT).new 119 Y32
  rw [show (w.alloc (.cells KT 61)).heap.size = w.heap.size + 1 by simp] at m1
  have Mq := Lib.hid m1
  have HD0 := Lib.hid (HD.out _ m1.bel)
  have HR0 := Lib.hid (m1.blk [_]).rangeL
  clear hk hr hrd hrb hn hnd hnb hN hD hB hKN hkd hkdl hsT hFR hFL hT hTl m1 HD hfl
  go_enter Try.func72, Try.ntmps72
  go_wp2_with (first | refine wpList_loadG rfl _ _ rfl w.heap.size 0 rfl KT _ HR0.out hu hd hki2 ?_)
  refine HD0.out.mono ?_
  rintro e w2 ⟨rfl, hb⟩
  have M2 := Lib.hid ((Mq.out.below hb).arr32 kd)
  clear hb HD0 HR0 Mq
  go_upto_region 2 with (first | refine wpList_store_row rfl _ _ _ rfl w2.heap.size (b8a kd) rfl rfl 119 _ (Bk.mk_ _ _ _) (info_k HKL.out) (y32_k HKL.out) (b8a_one kd) ?_)
  obtain ⟨g9, hg9⟩ : ∃ g, w2.heap.size = g := ⟨_, rfl⟩
  rw [hg9] at M2 ⊢
  clear hg9
  generalize World.setRow _ _ _ = w3 at M2 ⊢
  have Mq := Lib.hid M2.out.drew
  have k0 := (Mq.out.blk [_, _]).rangeL
  clear M2
  refine wp_region_held_drew (S := fun w' => w'.rangeAt w.heap.size 0 KT.toList) (by kernel_rfl) ?_ (fun hHeld => ?_)
  · exact k0
  generalize World.drew w3 = w7 at Mq hHeld ⊢
  refine wpAnyH_take (i := 0) rfl (by kernel_rfl) (by kernel_rfl) (by kernel_rfl) (fun _ _ _ h => h) (yieldsIf_load_mid (by rfl) _ _ rfl _ _ rfl _ _ (fun w hw => hw) hu hd hki) (by assumption) ?_
  change wpAnyH _ _ _ _ _ _ _ (Act.put _ (some 15) _) _
  simp only [Act.put, List.setIfInBounds_toArray, List.set_cons_zero, List.set_cons_succ, Array.toArray_toList]
  refine wpAnyH_take (i := 1) (v := ?_) rfl (by kernel_rfl) (by kernel_rfl) (by kernel_rfl) (fun _ _ _ h => h) (Or.inl ⟨by rfl, ?_⟩) (by assumption) ?_
  rotate_left
  · intro w hSw; (try dsimp only at hSw); go_split_ands; go_simp; with_reducible rfl
  change wpAnyH _ _ _ _ _ _ _ (Act.put _ (some 16) _) _
  simp only [Act.put, List.setIfInBounds_toArray, List.set_cons_zero, List.set_cons_succ, Array.toArray_toList]
  refine wpAnyH_take (i := 2) (v := ?_) rfl (by kernel_rfl) (by kernel_rfl) (by kernel_rfl) (fun _ _ _ h => h) (Or.inl ⟨by rfl, ?_⟩) (by assumption) ?_
  rotate_left
  · intro w hSw; (try dsimp only at hSw); go_split_ands; go_simp; with_reducible rfl
  change wpAnyH _ _ _ _ _ _ _ (Act.put _ (some 17) _) _
  simp only [Act.put, List.setIfInBounds_toArray, List.set_cons_zero, List.set_cons_succ, Array.toArray_toList]
  refine wpAnyH_take (i := 3) (v := ?_) rfl (by kernel_rfl) (by kernel_rfl) (by kernel_rfl) (fun _ _ _ h => h) (Or.inl ⟨by rfl, ?_⟩) (by assumption) ?_
  rotate_left
  · intro w hSw; (try dsimp only at hSw); go_split_ands; go_simp; with_reducible rfl
  change wpAnyH _ _ _ _ _ _ _ (Act.put _ (some 18) _) _
  simp only [Act.put, List.setIfInBounds_toArray, List.set_cons_zero, List.set_cons_succ, Array.toArray_toList]
  refine wpAnyH_take (i := 4) (v := ?_) rfl (by kernel_rfl) (by kernel_rfl) (by kernel_rfl) (fun _ _ _ h => h) (Or.inl ⟨by rfl, ?_⟩) (by assumption) ?_
  rotate_left
  · intro w hSw; (try dsimp only at hSw); go_split_ands; go_simp; with_reducible rfl
  change wpAnyH _ _ _ _ _ _ _ (Act.put _ (some 19) _) _
  simp only [Act.put, List.setIfInBounds_toArray, List.set_cons_zero, List.set_cons_succ, Array.toArray_toList]
  refine wpAnyH_ready (rs := [5]) (by kernel_rfl) (by simp) ?_
  refine (AllReadyH.cons rfl (fun K hK => ?_) AllReadyH.nil)
  go_simp; generalize hwq : World.alloc _ _ = wq; obtain ⟨g20, y20, hg20, mq, hp⟩ := Mq.out.ptsX [⟨A, c, nc⟩, ⟨Ad, cd, bd⟩, ⟨Ab, cb, b⟩] (List.forall3 (SN.out.sub (fun _ h => nomatch h) (fun _ h => h)) (SD.out.sub (fun _ h => nomatch h) (fun _ h => h)) (SB.out.sub (fun _ h => nomatch h) (fun _ h => h))) (by simp only [List.map_cons, List.map_nil, Pt.v, HN.out, HDN.out, HBN.out]) (by simp) hwq; rw [hg20]; have Mq := Lib.hid mq; have HP := Lib.hid hp; clear hwq hg20 mq hp
  refine hK.out _ _ (by exact (Mq.out.blk [_, _]).rangeL) (fun hHeld => ?_)
  clear hK K
  refine wpAnyH_ready (rs := [6]) (by kernel_rfl) (by simp) ?_
  refine (AllReadyH.cons rfl (fun K hK => ?_) AllReadyH.nil)
  go_simp
  (with_reducible refine (HFM.out _ _ HP.out).mono ?_); rintro e wq ⟨A2, c2, rfl, hf⟩; have Mq := Lib.hid (Mq.out.addr hf); clear hf
  go_wp2_with fail
  refine hK.out _ _ (by exact (Mq.out.blk [_, _]).rangeL) (fun hHeld => ?_)
  clear hK K
  refine wpAnyH_ready (rs := [7]) (by kernel_rfl) (by simp) ?_
  refine (AllReadyH.cons rfl (fun K hK => ?_) AllReadyH.nil)
  go_simp
  (with_reducible refine (HTG.out _ _ _ _ (Mq.out.src (Mq.out.rowSrc (List.mem_cons_self ..))) (Mq.out.src (Src.arr (t := 119) (by simp) HKL.out))).mono ?_); rintro e wq ⟨rfl, hb⟩; have Mq := Lib.hid (Mq.out.below hb); clear hb
  go_wp2_with fail
  refine hK.out _ _ (by exact (Mq.out.blk [_, _]).rangeL) (fun hHeld => ?_)
  clear hK K
  refine wpAnyH_ready (rs := [8]) (by kernel_rfl) (by simp) ?_
  refine (AllReadyH.cons rfl (fun K hK => ?_) AllReadyH.nil)
  refine step_store_row rfl _ _ _ rfl (w.heap.size + 1) (b8a T) rfl rfl 119 _ (Mq.out.blk [_]) (info_k HTL.out) (y32_k HTL.out) (b8a_one T) ?_; have Mq := Lib.hid (Mst.setRow (bl := []) [_] Mq.out (b8a T))
  refine hK.out _ _ (by exact (Mq.out.blk [_, _]).rangeL) (fun hHeld => ?_)
  clear hK K
  refine wpAnyH_done (by kernel_rfl) ?_ _
  go_wp2_with fail
  exact bodyPost_ret (results_cell_row rfl _ _ (w.heap.size + 1) 119 _ (0, 0) _ rfl (Mq.out.blk [_]) Try.underlying119 rfl (info_k HTL.out)) rfl ⟨rfl, Mq.out.bel⟩
end Go.Proofs.Ytiakgohipnbdbaa
