/- The sixth chapter's example. -/
import Derived.Test.YtghcdffpplimoaaTk6
namespace Go.Proofs.Ytghcdffpplimoaa
set_option linter.unusedVariables false
set_option linter.unusedSimpArgs false
open Go.RowKit

theorem tkc_full {w : World} {g : Nat} {t : TypeId} {tk : Array Value} (h : Bk w g t tk) : w.rangeAt g 0 tk.toList := Bk.range h (o := 0) (fun j v h => by simpa using h)
theorem info_tokL {i r x s : Int} {K : List UInt8} (h : K.length = 32) : (Try.prog.info? 78).map (·.size) = some (tkc i r x s K).toList.length := by rw [Array.length_toList]; exact info_tok h
set_option maxRecDepth 100000 in
set_option maxHeartbeats 2000000 in
theorem known06 (w : World) : Calls Try.prog 30 #[] w fun e w' => e = .returned (.bool true) ∧ Below w.heap.size w w' := by
  obtain ⟨kb, hkb⟩ : ∃ kb : List UInt8, List.replicate 16 0 = kb := ⟨_, rfl⟩
  have hkl : kb.length = 16 := by rw [← hkb]; simp
  have hmk0 : ∀ w, (Instr.makeSlice 26 (.int .i64 16) (.int .i64 16)).run Try.prog w = .ok (.slice (some ⟨w.heap.size, 0, none⟩) 16 16) (w.alloc (.cells (b8a (List.replicate 16 0)) 5)) := fun w => make_u8 16 (by decide) w
  have m1 := (Mst.start w).newrow 5 1 16 16 (b8a (List.replicate 16 0)) (Nat.le_refl _) (by decide) rfl
  have hr := own_rd (m1.row [])
  rw [show (b8a (List.replicate 16 0)).toList.take (16 * 1) = by8 (List.replicate 16 0) from rfl] at hr
  have HN := Lib.hid (show Calls Try.prog 34 #[.slice (some ⟨w.heap.size, 0, none⟩) 16 16] (w.alloc (.cells (b8a (List.replicate 16 0)) 5)) fun e w' => ∃ g gk, e = .returned (.tuple #[.pointer (some ⟨g, 0, none⟩), .int .i64 0]) ∧ MtX w [] _ g gk kb [] w' from by
    have := tnew_any w _ [] _ m1 (some ⟨w.heap.size, 0, none⟩) 16 kb (by show Rd _ _ 1 _ kb.length (by8 kb); rw [hkl, ← hkb]; exact hr) (by omega) (by omega)
    rw [hkl] at this
    exact this)
  have HIS := Lib.hid (fun w' ow g gk (hM : MtX w [] ow g gk kb [] w') A c (hl : Rd w' w'.heap.size 1 A 1 [.int .i64 1]) => issue_ok w w' [] ow g gk kb (by omega) [] hM (by decide) 5 100 [1] A c hl (by decide) rfl (by decide))
  have HMA := Lib.hid (fun w' ow bl g gk cs (hM : MtX w bl ow g gk kb cs w') => master_any w w' bl ow g gk kb (by omega) cs hM)
  obtain ⟨S, hS⟩ : ∃ S, secB kb 5 (maskN [1] : Nat) 100 ((([] : List C4).length : Int) + 1) = S := ⟨_, rfl⟩
  have hSl : S.length = 32 := by rw [← hS]; rfl
  have HHO := Lib.hid (fun w' gk (hk : KeyW w' gk kb) => holds_ok w' gk kb hk (by omega) 5 2 100 1 S hSl (by decide))
  have hmn : ((maskN [1] : Nat) : Int) = 2 := rfl
  have hln : ((([] : List C4).length : Nat) : Int) + 1 = 1 := rfl
  simp only [hS] at HIS
  rw [hmn, hln] at hS
  simp only [hmn, hln] at HIS
  simp only [hS, decide_true] at HHO
  have SL := Lib.hid hSl
  obtain ⟨z16, hz16⟩ : ∃ z, b8a (List.replicate 16 0) = z := ⟨_, rfl⟩
  rw [hz16] at HN
  have hmk : ∀ w, (Instr.makeSlice 26 (.int .i64 16) (.int .i64 16)).run Try.prog w = .ok (.slice (some ⟨w.heap.size, 0, none⟩) 16 16) (w.alloc (.cells z16 5)) := fun w => by rw [hmk0, hz16]
  clear hmk0
  clear hkb hkl hr hS hSl hmn hln m1 hz16
  go_enter Try.func30, Try.ntmps30
  go_wp2_with fail
  refine HN.out.mono ?_
  rintro e w1 ⟨g, gk, rfl, m⟩
  clear hmk
  have Mq := Lib.hid m
  clear m
  go_wp2_with fail
  refine (HIS.out _ _ _ _ (Mq.out.below ((Below.refl _ _).alloc (Nat.le_refl _) _)) _ _ (Rd.new1 _ #[.int .i64 1] _ rfl)).mono ?_
  rintro e w2 ⟨rfl, m⟩
  have Mq := Lib.hid (m.newb 78 Y36)
  clear m
  go_wp2_with (first | refine wpList_store_row rfl _ _ _ rfl w2.heap.size (tkc 5 2 100 1 S) rfl rfl 78 _ (Bk.mk_ _ _ _) (info_tok SL.out) (y36_k SL.out) (tkc_one _ _ _ _ _) ?_; have Mq := Lib.hid (Mq.out.setRow (tkc 5 2 100 1 S)))
  have HSC := Lib.hid (show ∀ w' ow cs, MtX w [(w2.heap.size, 78, tkc 5 2 100 1 S)] ow g gk kb cs w' → w'.cell? ⟨w2.heap.size, 3, none⟩ = some (.int .i64 1) ∧ w'.rangeAt w2.heap.size 0 (tkc 5 2 100 1 S).toList from fun w' ow cs h => ⟨(tkc_cells (h.blk (List.mem_cons_self ..))).2.2.2, tkc_full (h.blk (List.mem_cons_self ..))⟩)
  have K0 := Lib.hid (HSC.out _ _ _ (Mq.out.below (Below.refl _ _).drew))
  have hu : ∃ d, Try.prog.underlying 78 = some d ∧ d.isRow = true := ⟨_, Try.underlying78, rfl⟩
  obtain ⟨d, hu, hd⟩ := hu
  have hki := info_tokL (i := 5) (r := 2) (x := 100) (s := 1) SL.out
  go_upto_region 3 with fail
  refine wp_region_held_drew (S := fun w' => w'.cell? ⟨w2.heap.size, 3, none⟩ = some (.int .i64 1) ∧ w'.rangeAt w2.heap.size 0 (tkc 5 2 100 1 S).toList) (by kernel_rfl) ?_ (fun hHeld => ?_)
  · exact K0.out
  generalize hw7 : World.drew _ = w7 at hHeld ⊢
  have Mq := Lib.hid (show MtX w _ _ g gk kb _ w7 from hw7 ▸ Mq.out.below (Below.refl _ _).drew)
  clear hw7
  refine wpAnyH_take (i := 0) (v := ?_) rfl (by kernel_rfl) (by kernel_rfl) (by kernel_rfl) (fun _ _ _ h => h) (Or.inl ⟨by rfl, ?_⟩) (by assumption) ?_
  rotate_left
  · intro w hSw; (try dsimp only at hSw); go_split_ands; go_simp; with_reducible rfl
  change wpAnyH _ _ _ _ _ _ _ (Act.put _ (some 16) _) _
  simp only [Act.put, List.setIfInBounds_toArray, List.set_cons_zero, List.set_cons_succ, Array.toArray_toList]
  refine wpAnyH_take (i := 1) (v := ?_) rfl (by kernel_rfl) (by kernel_rfl) (by kernel_rfl) (fun _ _ _ h => h) (Or.inl ⟨by rfl, ?_⟩) (by assumption) ?_
  rotate_left
  · intro w hSw; (try dsimp only at hSw); go_split_ands; go_simp; with_reducible rfl
  change wpAnyH _ _ _ _ _ _ _ (Act.put _ (some 17) _) _
  simp only [Act.put, List.setIfInBounds_toArray, List.set_cons_zero, List.set_cons_succ, Array.toArray_toList]
  refine wpAnyH_take (i := 2) (v := ?_) rfl (by kernel_rfl) (by kernel_rfl) (by kernel_rfl) (fun _ _ _ h => h) (Or.inl ⟨by rfl, ?_⟩) (by assumption) ?_
  rotate_left
  · intro w hSw; (try dsimp only at hSw); go_split_ands; go_simp; with_reducible rfl
  change wpAnyH _ _ _ _ _ _ _ (Act.put _ (some 18) _) _
  simp only [Act.put, List.setIfInBounds_toArray, List.set_cons_zero, List.set_cons_succ, Array.toArray_toList]
  refine wpAnyH_take (i := 3) (v := ?_) rfl (by kernel_rfl) (by kernel_rfl) (by kernel_rfl) (fun _ _ _ h => h) (Or.inl ⟨by rfl, ?_⟩) (by assumption) ?_
  rotate_left
  · intro w hSw; (try dsimp only at hSw); go_split_ands; go_simp; with_reducible rfl
  change wpAnyH _ _ _ _ _ _ _ (Act.put _ (some 19) _) _
  simp only [Act.put, List.setIfInBounds_toArray, List.set_cons_zero, List.set_cons_succ, Array.toArray_toList]
  refine wpAnyH_take (i := 4) (v := ?_) rfl (by kernel_rfl) (by kernel_rfl) (by kernel_rfl) (fun _ _ _ h => h) (Or.inl ⟨by rfl, ?_⟩) (by assumption) ?_
  rotate_left
  · intro w hSw; (try dsimp only at hSw); go_split_ands; go_simp; with_reducible rfl
  change wpAnyH _ _ _ _ _ _ _ (Act.put _ (some 20) _) _
  simp only [Act.put, List.setIfInBounds_toArray, List.set_cons_zero, List.set_cons_succ, Array.toArray_toList]
  refine wpAnyH_take (i := 5) (v := ?_) rfl (by kernel_rfl) (by kernel_rfl) (by kernel_rfl) (fun _ _ _ h => h) (Or.inl ⟨by rfl, ?_⟩) (by assumption) ?_
  rotate_left
  · intro w hSw; (try dsimp only at hSw); go_split_ands; go_simp; with_reducible rfl
  change wpAnyH _ _ _ _ _ _ _ (Act.put _ (some 21) _) _
  simp only [Act.put, List.setIfInBounds_toArray, List.set_cons_zero, List.set_cons_succ, Array.toArray_toList]
  refine wpAnyH_take (i := 6) (v := ?_) rfl (by kernel_rfl) (by kernel_rfl) (by kernel_rfl) (fun _ _ _ h => h) (Or.inl ⟨by rfl, ?_⟩) (by assumption) ?_
  rotate_left
  · intro w hSw; (try dsimp only at hSw); go_split_ands; go_simp; with_reducible rfl
  change wpAnyH _ _ _ _ _ _ _ (Act.put _ (some 22) _) _
  simp only [Act.put, List.setIfInBounds_toArray, List.set_cons_zero, List.set_cons_succ, Array.toArray_toList]
  refine wpAnyH_take (i := 7) (v := ?_) rfl (by kernel_rfl) (by kernel_rfl) (by kernel_rfl) (fun _ _ _ h => h) (Or.inl ⟨by rfl, ?_⟩) (by assumption) ?_
  rotate_left
  · intro w hSw; (try dsimp only at hSw); go_split_ands; go_simp; with_reducible rfl
  change wpAnyH _ _ _ _ _ _ _ (Act.put _ (some 23) _) _
  simp only [Act.put, List.setIfInBounds_toArray, List.set_cons_zero, List.set_cons_succ, Array.toArray_toList]
  refine wpAnyH_take (i := 8) (v := ?_) rfl (by kernel_rfl) (by kernel_rfl) (by kernel_rfl) (fun _ _ _ h => h) (Or.inl ⟨by rfl, ?_⟩) (by assumption) ?_
  rotate_left
  · intro w hSw; (try dsimp only at hSw); go_split_ands; go_simp; with_reducible rfl
  change wpAnyH _ _ _ _ _ _ _ (Act.put _ (some 24) _) _
  simp only [Act.put, List.setIfInBounds_toArray, List.set_cons_zero, List.set_cons_succ, Array.toArray_toList]
  refine wpAnyH_take (i := 9) (v := ?_) rfl (by kernel_rfl) (by kernel_rfl) (by kernel_rfl) (fun _ _ _ h => h) (Or.inl ⟨by rfl, ?_⟩) (by assumption) ?_
  rotate_left
  · intro w hSw; (try dsimp only at hSw); go_split_ands; go_simp; with_reducible rfl
  change wpAnyH _ _ _ _ _ _ _ (Act.put _ (some 25) _) _
  simp only [Act.put, List.setIfInBounds_toArray, List.set_cons_zero, List.set_cons_succ, Array.toArray_toList]
  refine wpAnyH_take (i := 10) (v := ?_) rfl (by kernel_rfl) (by kernel_rfl) (by kernel_rfl) (fun _ _ _ h => h) (Or.inl ⟨by rfl, ?_⟩) (by assumption) ?_
  rotate_left
  · intro w hSw; (try dsimp only at hSw); go_split_ands; go_simp; with_reducible rfl
  change wpAnyH _ _ _ _ _ _ _ (Act.put _ (some 26) _) _
  simp only [Act.put, List.setIfInBounds_toArray, List.set_cons_zero, List.set_cons_succ, Array.toArray_toList]
  refine wpAnyH_take (i := 11) (v := ?_) rfl (by kernel_rfl) (by kernel_rfl) (by kernel_rfl) (fun _ _ _ h => h) (Or.inl ⟨by rfl, ?_⟩) (by assumption) ?_
  rotate_left
  · intro w hSw; (try dsimp only at hSw); go_split_ands; go_simp; with_reducible rfl
  change wpAnyH _ _ _ _ _ _ _ (Act.put _ (some 27) _) _
  simp only [Act.put, List.setIfInBounds_toArray, List.set_cons_zero, List.set_cons_succ, Array.toArray_toList]
  refine wpAnyH_take (i := 12) (v := ?_) rfl (by kernel_rfl) (by kernel_rfl) (by kernel_rfl) (fun _ _ _ h => h) (Or.inl ⟨by rfl, ?_⟩) (by assumption) ?_
  rotate_left
  · intro w hSw; (try dsimp only at hSw); go_split_ands; go_simp; with_reducible rfl
  change wpAnyH _ _ _ _ _ _ _ (Act.put _ (some 28) _) _
  simp only [Act.put, List.setIfInBounds_toArray, List.set_cons_zero, List.set_cons_succ, Array.toArray_toList]
  refine wpAnyH_take (i := 13) (v := ?_) rfl (by kernel_rfl) (by kernel_rfl) (by kernel_rfl) (fun _ _ _ h => h) (Or.inl ⟨by rfl, ?_⟩) (by assumption) ?_
  rotate_left
  · intro w hSw; (try dsimp only at hSw); go_split_ands; go_simp; with_reducible rfl
  change wpAnyH _ _ _ _ _ _ _ (Act.put _ (some 29) _) _
  simp only [Act.put, List.setIfInBounds_toArray, List.set_cons_zero, List.set_cons_succ, Array.toArray_toList]
  refine wpAnyH_take (i := 15) rfl (by kernel_rfl) (by kernel_rfl) (by kernel_rfl) (fun _ _ _ h => h) (yieldsIf_load_mid (by rfl) _ _ rfl _ _ rfl _ _ (fun w hw => hw.2) hu hd hki) (by assumption) ?_
  change wpAnyH _ _ _ _ _ _ _ (Act.put _ (some 31) _) _
  simp only [Act.put, List.setIfInBounds_toArray, List.set_cons_zero, List.set_cons_succ, Array.toArray_toList]
  refine wpAnyH_ready (rs := [14]) (by kernel_rfl) (by simp) ?_
  refine (AllReadyH.cons rfl (fun K hK => ?_) AllReadyH.nil)
  go_simp
  (with_reducible refine (HMA.out _ _ _ _ _ _ Mq.out).mono ?_); rintro e wq ⟨gk', rfl, hk, hb⟩; have Mq := Lib.hid (Mq.out.below hb); have HK := Lib.hid hk; clear hb hk
  go_wp2_with fail
  refine hK.out _ _ (by exact HSC.out _ _ _ Mq.out) (fun hHeld => ?_)
  clear hK K
  refine wpAnyH_ready (rs := [16]) (by kernel_rfl) (by simp) ?_
  refine (AllReadyH.cons rfl (fun K hK => ?_) AllReadyH.nil)
  go_simp
  (with_reducible refine (HHO.out _ _ HK.out).mono ?_); rintro e wq ⟨rfl, hb⟩; have Mq := Lib.hid (Mq.out.below hb); clear hb
  go_wp2_with fail
  refine hK.out _ _ (by exact HSC.out _ _ _ Mq.out) (fun hHeld => ?_)
  clear hK K
  refine wpAnyH_take (i := 17) (v := ?_) rfl (by kernel_rfl) (by kernel_rfl) (by kernel_rfl) (fun _ _ _ h => h) (Or.inl ⟨by rfl, ?_⟩) (by assumption) ?_
  rotate_left
  · intro w hSw; (try dsimp only at hSw); go_split_ands; go_simp; with_reducible rfl
  change wpAnyH _ _ _ _ _ _ _ (Act.put _ (some 33) _) _
  simp only [Act.put, List.setIfInBounds_toArray, List.set_cons_zero, List.set_cons_succ, Array.toArray_toList]
  refine wpAnyH_take (i := 18) (v := ?_) rfl (by kernel_rfl) (by kernel_rfl) (by kernel_rfl) (fun _ _ _ h => h) (Or.inl ⟨by rfl, ?_⟩) (by assumption) ?_
  rotate_left
  · intro w hSw; (try dsimp only at hSw); go_split_ands; go_simp; with_reducible rfl
  change wpAnyH _ _ _ _ _ _ _ (Act.put _ (some 0) _) _
  simp only [Act.put, List.setIfInBounds_toArray, List.set_cons_zero, List.set_cons_succ, Array.toArray_toList]
  refine wpAnyH_done (by kernel_rfl) ?_ _
  go_wp2
  go_ret
  exact ⟨rfl, Mq.out.bel⟩
end Go.Proofs.Ytghcdffpplimoaa
