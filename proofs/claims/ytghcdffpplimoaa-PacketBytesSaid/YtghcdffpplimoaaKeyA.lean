/- Key1. Key2. -/
import Derived.Test.YtghcdffpplimoaaMacA
/- Contracts of package mac's keys. -/
namespace Go.Proofs.Ytghcdffpplimoaa
set_option linter.unusedVariables false
set_option linter.unusedSimpArgs false
open Go.RowKit

/-- A key in memory: its bytes. -/
def KeyW (w : World) (gk : Nat) (kb : List UInt8) : Prop := ∃ A c, w.cell? ⟨gk, 0, none⟩ = some (.slice A kb.length c) ∧ RB w w.heap.size A kb
theorem KeyW.lt {w : World} {gk : Nat} {kb : List UInt8} (h : KeyW w gk kb) : gk < w.heap.size := by
  obtain ⟨A, c, h1, _⟩ := h
  exact block_lt_of_cell h1
theorem KeyW.keep {w w' : World} {gk : Nat} {kb : List UInt8} (h : KeyW w gk kb) (hb : Below w.heap.size w w') : KeyW w' gk kb := by
  have hl := h.lt
  obtain ⟨A, c, h1, h2⟩ := h
  exact ⟨A, c, (hb.cell (p := ⟨gk, 0, none⟩) hl).trans h1, (h2.below hb).more hb.size⟩
theorem Mst.key {W w : World} {bl : Bl} {ow : List Ro} {gk c n : Nat} {A : Option Addr} {kb : List UInt8} {t : TypeId} (h : Mst W w bl ow) (hb : (gk, t, #[Value.slice A n c]) ∈ bl) (hn : kb.length = n) (hr : Src W bl ow 1 A n (by8 kb)) : KeyW w gk kb := by
  subst hn
  exact ⟨A, c, (h.bk _ hb).1.cell 0, h.src hr⟩

set_option maxRecDepth 100000 in
set_option maxHeartbeats 1000000 in
theorem new_M (W w : World) (bl : Bl) (ow : List Ro) (hm : Mst W w bl ow) (A : Option Addr) (c : Nat) (kb : List UInt8) (hr : RB w w.heap.size A kb) (hk : kb.length ≤ 100000) :
    Calls Try.prog 27 #[.slice A kb.length c] w fun e w' => ∃ gk A' c', e = .returned (.pointer (some ⟨gk, 0, none⟩)) ∧ Mst W w' ((gk, 129, #[.slice A' kb.length c']) :: bl) (⟨5, 1, .slice A' kb.length c', kb.length, by8 kb⟩ :: ow) := by
  have HC := Lib.hid (clone_any A c kb w hr (by omega))
  obtain ⟨n, hn⟩ : ∃ n, kb.length = n := ⟨_, rfl⟩
  rw [hn] at HC ⊢
  have HM := Lib.hid hm
  clear hr hm hn
  go_enter Try.func27, Try.ntmps27
  go_wp2_with fail
  refine HC.out.mono ?_
  rintro e w1 ⟨v, rfl, hf⟩
  have m1 := HM.out.addr hf
  obtain ⟨A', c', rfl, _⟩ := own_form hf.own
  have M2 := Lib.hid (m1.new 129 #[.slice A' n c'])
  clear m1 hf
  go_wp2
  go_ret
  exact ⟨_, A', c', rfl, M2.out⟩
theorem new_any (w : World) (A : Option Addr) (c : Nat) (kb : List UInt8) (hr : RB w w.heap.size A kb) (hk : kb.length ≤ 100000) :
    Calls Try.prog 27 #[.slice A kb.length c] w fun e w' => ∃ gk, e = .returned (.pointer (some ⟨gk, 0, none⟩)) ∧ KeyW w' gk kb ∧ Below w.heap.size w w' := by
  refine (new_M w w [] [] (Mst.start w) A c kb hr hk).mono ?_
  rintro e w' ⟨gk, A', c', rfl, m⟩
  exact ⟨gk, rfl, m.key (List.mem_cons_self ..) rfl (m.rowSrc (List.mem_cons_self ..)), m.bel⟩

set_option maxRecDepth 100000 in
set_option maxHeartbeats 1000000 in
theorem kbytes_any (w : World) (gk : Nat) (kb : List UInt8) (hk : KeyW w gk kb) (hl : kb.length ≤ 100000) :
    Calls Try.prog 36 #[.pointer (some ⟨gk, 0, none⟩)] w (RetFresh w 5 1 kb.length (by8 kb)) := by
  obtain ⟨A, c, c0, hr⟩ := hk
  have HC := Lib.hid (clone_any A c kb w hr (by omega))
  obtain ⟨n, hn⟩ : ∃ n, kb.length = n := ⟨_, rfl⟩
  rw [hn] at HC c0 ⊢
  clear hr hn
  go_enter Try.func36, Try.ntmps36
  go_wp2_with fail
  refine HC.out.mono ?_
  rintro e w1 ⟨v, rfl, hf⟩
  go_wp2
  go_ret
  exact ⟨v, rfl, hf⟩
theorem kbytes_nil (w : World) : Calls Try.prog 36 #[.pointer none] w fun e w' => e = .returned (.slice none 0 0) ∧ w' = w := by
  go_enter Try.func36, Try.ntmps36
  go_wp2
  go_ret
  exact ⟨rfl, rfl⟩

set_option maxRecDepth 100000 in
set_option maxHeartbeats 1000000 in
theorem ktag_any (w : World) (gk : Nat) (kb : List UInt8) (hk : KeyW w gk kb) (hl : kb.length ≤ 100000) (A1 : Option Addr) (c1 : Nat) (ps : List Pt) (hp : Pts w A1 ps) (hn : ps.length ≤ 1000) (hpl : (catP ps).length ≤ 800000) :
    Calls Try.prog 84 #[.pointer (some ⟨gk, 0, none⟩), .slice A1 ps.length c1] w fun e w' => e = .returned (.agg (b8a (macT kb (catP ps)))) ∧ Below w.heap.size w w' := by
  obtain ⟨K2, hK2⟩ : ∃ K, macT kb (catP ps) = K := ⟨_, rfl⟩
  have hKl2 : K2.length = 32 := by rw [← hK2]; rfl
  have hkl := hk.lt
  obtain ⟨A, c, c0, hr⟩ := hk
  have m1 := (Mst.start w).new 27 Y32
  have h1 := rtag_any (w.alloc (.cells Y32 27)) A c kb (m1.src (Src.old hr)) hl A1 c1 ps (m1.pts (hp.old _ _)) hn hpl
  rw [hK2] at h1 ⊢
  have c1' := m1.old hkl c0
  obtain ⟨n, hn⟩ : ∃ n, kb.length = n := ⟨_, rfl⟩
  rw [hn] at h1 c0 c1'
  have HT := Lib.hid h1
  have KL2 := Lib.hid hKl2
  have M1 := Lib.hid m1
  clear hr hp hK2 hKl2 h1 m1 hn c0
  go_enter Try.func84, Try.ntmps84
  go_wp2_with fail
  refine HT.out.mono ?_
  rintro e w2 ⟨rfl, hb⟩
  have Mq := Lib.hid (M1.out.below hb)
  clear hb
  go_wp2_with (first | refine wpList_store_row rfl _ _ _ rfl w.heap.size (b8a K2) rfl rfl 27 _ (Mq.out.blk []) (info_k KL2.out) (y32_k KL2.out) (b8a_one K2) ?_)
  exact bodyPost_ret (results_cell_row rfl _ _ w.heap.size 27 _ (0, 0) _ rfl (setRow_heap _ _ _ _ _ _ (Mq.out.blk [])) Try.underlying27 rfl (info_k KL2.out)) rfl ⟨rfl, (Mst.setRow (bl := []) [] Mq.out (b8a K2)).bel⟩
set_option maxRecDepth 100000 in
set_option maxHeartbeats 1000000 in
theorem ktag_nil (w : World) (A1 : Option Addr) (c1 : Nat) (ps : List Pt) (hp : Pts w A1 ps) (hn : ps.length ≤ 1000) (hpl : (catP ps).length ≤ 800000) :
    Calls Try.prog 84 #[.pointer none, .slice A1 ps.length c1] w fun e w' => e = .returned (.agg (b8a (macT [] (catP ps)))) ∧ Below w.heap.size w w' := by
  obtain ⟨K2, hK2⟩ : ∃ K, macT [] (catP ps) = K := ⟨_, rfl⟩
  have hKl2 : K2.length = 32 := by rw [← hK2]; rfl
  have m1 := (Mst.start w).new 27 Y32
  have h1 := mtag_any (w.alloc (.cells Y32 27)) none 0 [] (Rd.nil_ _ _ _ _) (by simp) A1 c1 ps (m1.pts (hp.old _ _)) hn hpl
  rw [hK2] at h1 ⊢
  have HT := Lib.hid (show Calls Try.prog 100 #[.slice none 0 0, .slice A1 ps.length c1] _ _ from h1)
  have KL2 := Lib.hid hKl2
  have M1 := Lib.hid m1
  clear hp hK2 hKl2 h1 m1
  go_enter Try.func84, Try.ntmps84
  go_wp2_with fail
  refine HT.out.mono ?_
  rintro e w2 ⟨rfl, hb⟩
  have Mq := Lib.hid (M1.out.below hb)
  clear hb
  go_wp2_with (first | refine wpList_store_row rfl _ _ _ rfl w.heap.size (b8a K2) rfl rfl 27 _ (Mq.out.blk []) (info_k KL2.out) (y32_k KL2.out) (b8a_one K2) ?_)
  exact bodyPost_ret (results_cell_row rfl _ _ w.heap.size 27 _ (0, 0) _ rfl (setRow_heap _ _ _ _ _ _ (Mq.out.blk [])) Try.underlying27 rfl (info_k KL2.out)) rfl ⟨rfl, (Mst.setRow (bl := []) [] Mq.out (b8a K2)).bel⟩

/-- The tag of a key in memory over what framed has laid. -/
theorem frtag (kb : List UInt8) (s : ByteArray) (ps : List Pt) (hs : s.size ≤ 1000) (hn : ps.length ≤ 100) (hl : ∀ p ∈ ps, p.l.length ≤ 1000) (hkl : kb.length ≤ 100000) (K2 : List UInt8) (hK2 : macT kb (frameB (s.data.toList :: ps.map Pt.l)) = K2)
    (w' : World) (A A' : Option Addr) (c c' : Nat) (qs : List Pt) (n m : Nat) (hn1 : kb.length = n) (hm1 : qs.length = m) (hr : RB w' w'.heap.size A kb) (hq : Pts w' A' qs) (hq2 : qs.map Pt.l = framesL (s.data.toList :: ps.map Pt.l)) :
    Calls Try.prog 101 #[.slice A n c, .slice A' m c'] w' fun e w2 => e = .returned (.agg (b8a K2)) ∧ Below w'.heap.size w' w2 := by
  subst hn1 hm1
  have hfl : (frameB (s.data.toList :: ps.map Pt.l)).length ≤ 110000 := by
    have := frameB_len (s.data.toList :: ps.map Pt.l) 1000 (by
      intro l hl2
      rcases List.mem_cons.1 hl2 with rfl | hl2
      · simpa using hs
      · obtain ⟨p, hp, rfl⟩ := List.mem_map.1 hl2
        exact hl p hp)
    simp only [List.length_cons, List.length_map] at this
    have : (ps.length + 1) * (4 + 1000) ≤ 101 * 1004 := Nat.mul_le_mul (by omega) (by omega)
    omega
  have e1 : catP qs = frameB (s.data.toList :: ps.map Pt.l) := by rw [catP_map, hq2]; rfl
  have e2 := congrArg List.length hq2
  rw [List.length_map, framesL_len, List.length_cons, List.length_map] at e2
  have := rtag_any w' A c kb hr hkl A' c' qs hq (by omega) (by rw [e1]; omega)
  rw [e1, hK2] at this
  exact this
end Go.Proofs.Ytghcdffpplimoaa
/- Contracts of package mac's keys: Derive, Print, Zero. -/
namespace Go.Proofs.Ytghcdffpplimoaa
set_option linter.unusedVariables false
set_option linter.unusedSimpArgs false
open Go.RowKit

theorem Pts.stay {w w' : World} {A : Option Addr} {ps : List Pt} (h : Pts w A ps) (hb : Below w.heap.size w w') : Pts w' A ps :=
  ⟨(h.1.below hb).more hb.size, fun p hp => ((h.2 p hp).below hb).more hb.size⟩
theorem Pts.allocE {w w2 : World} {A : Option Addr} {ps : List Pt} {ob : Obj} (h : Pts w A ps) (hw : w.alloc ob = w2) : Pts w2 A ps := by
  subst hw
  exact h.stay ((Below.refl _ _).alloc (Nat.le_refl _) _)
set_option maxRecDepth 100000 in
set_option maxHeartbeats 2000000 in
theorem kderive_any (w : World) (gk : Nat) (kb : List UInt8) (hk : KeyW w gk kb) (hl : kb.length ≤ 100000) (s : ByteArray) (hs : s.size ≤ 1000) (A1 : Option Addr) (c1 : Nat) (ps : List Pt) (hp : Pts w A1 ps) (hn : ps.length ≤ 100) (hpl : ∀ p ∈ ps, p.l.length ≤ 1000) :
    Calls Try.prog 88 #[.pointer (some ⟨gk, 0, none⟩), .string s, .slice A1 ps.length c1] w fun e w' => ∃ gk', e = .returned (.pointer (some ⟨gk', 0, none⟩)) ∧ KeyW w' gk' (macT kb (frameB (s.data.toList :: ps.map Pt.l))) ∧ Below w.heap.size w w' := by
  obtain ⟨K2, hK2⟩ : ∃ K, macT kb (frameB (s.data.toList :: ps.map Pt.l)) = K := ⟨_, rfl⟩
  have hKl2 : K2.length = 32 := by rw [← hK2]; rfl
  rw [hK2]
  have HT := Lib.hid (frtag kb s ps hs hn hpl hl K2 hK2)
  have hkl := hk.lt
  obtain ⟨A, c, c0, hr⟩ := hk
  have HF := Lib.hid (fun w' (hb : Below w.heap.size w w') => framed_any w' s A1 c1 ps ⟨(hp.1.below hb).more hb.size, fun p h => ((hp.2 p h).below hb).more hb.size⟩ (by omega) (by omega) (fun p h => Nat.le_trans (hpl p h) (by decide)))
  obtain ⟨n, hnn⟩ : ∃ n, kb.length = n := ⟨_, rfl⟩
  obtain ⟨pn, hpn⟩ : ∃ n, ps.length = n := ⟨_, rfl⟩
  rw [hnn] at c0
  rw [hpn] at HF ⊢
  have HNN := Lib.hid hnn
  have KL2 := Lib.hid hKl2
  have HR := Lib.hid (show ∀ w', Below w.heap.size w w' → RB w' w'.heap.size A kb from fun w' hb => (hr.below hb).more hb.size)
  have C0 := Lib.hid (show ∀ w' bl ow, Mst w w' bl ow → w'.cell? ⟨gk, 0, none⟩ = some (.slice A n c) from fun w' bl ow h => h.old hkl c0)
  have k0 := C0.out _ _ _ (Mst.start w).drew
  have Mq := Lib.hid (Mst.start w).drew
  clear hr hp hK2 hKl2 hnn hpn c0 hn hpl hs
  go_enter Try.func88, Try.ntmps88
  go_wp2_with fail
  refine wp_region_held_drew (S := fun w' => w'.cell? ⟨gk, 0, none⟩ = some (.slice A n c)) (by kernel_rfl) ?_ (fun hHeld => ?_)
  · exact k0
  generalize World.drew w = w1 at Mq hHeld ⊢
  refine wpAnyH_take (i := 0) (v := ?_) rfl (by kernel_rfl) (by kernel_rfl) (by kernel_rfl) (fun _ _ _ h => h) (Or.inl ⟨by rfl, ?_⟩) (by assumption) ?_
  rotate_left
  · intro w hSw; (try dsimp only at hSw); go_split_ands; go_simp; with_reducible rfl
  change wpAnyH _ _ _ _ _ _ _ (Act.put _ (some 10) _) _
  simp only [Act.put, List.setIfInBounds_toArray, List.set_cons_zero, List.set_cons_succ, Array.toArray_toList]
  refine wpAnyH_take (i := 1) (v := ?_) rfl (by kernel_rfl) (by kernel_rfl) (by kernel_rfl) (fun _ _ _ h => h) (Or.inl ⟨by rfl, ?_⟩) (by assumption) ?_
  rotate_left
  · intro w hSw; (try dsimp only at hSw); go_split_ands; go_simp; with_reducible rfl
  change wpAnyH _ _ _ _ _ _ _ (Act.put _ (some 11) _) _
  simp only [Act.put, List.setIfInBounds_toArray, List.set_cons_zero, List.set_cons_succ, Array.toArray_toList]
  refine wpAnyH_take (i := 2) (v := ?_) rfl (by kernel_rfl) (by kernel_rfl) (by kernel_rfl) (fun _ _ _ h => h) (Or.inl ⟨by rfl, ?_⟩) (by assumption) ?_
  rotate_left
  · intro w hSw; (try dsimp only at hSw); go_split_ands; go_simp; with_reducible rfl
  change wpAnyH _ _ _ _ _ _ _ (Act.put _ (some 12) _) _
  simp only [Act.put, List.setIfInBounds_toArray, List.set_cons_zero, List.set_cons_succ, Array.toArray_toList]
  refine wpAnyH_take (i := 3) (v := ?_) rfl (by kernel_rfl) (by kernel_rfl) (by kernel_rfl) (fun _ _ _ h => h) (Or.inl ⟨by rfl, ?_⟩) (by assumption) ?_
  rotate_left
  · intro w hSw; (try dsimp only at hSw); go_split_ands; go_simp; with_reducible rfl
  change wpAnyH _ _ _ _ _ _ _ (Act.put _ (some 13) _) _
  simp only [Act.put, List.setIfInBounds_toArray, List.set_cons_zero, List.set_cons_succ, Array.toArray_toList]
  refine wpAnyH_take (i := 4) (v := ?_) rfl (by kernel_rfl) (by kernel_rfl) (by kernel_rfl) (fun _ _ _ h => h) (Or.inl ⟨by rfl, ?_⟩) (by assumption) ?_
  rotate_left
  · intro w hSw; (try dsimp only at hSw); go_split_ands; go_simp; with_reducible rfl
  change wpAnyH _ _ _ _ _ _ _ (Act.put _ (some 14) _) _
  simp only [Act.put, List.setIfInBounds_toArray, List.set_cons_zero, List.set_cons_succ, Array.toArray_toList]
  refine wpAnyH_take (i := 5) (v := ?_) rfl (by kernel_rfl) (by kernel_rfl) (by kernel_rfl) (fun _ _ _ h => h) (Or.inl ⟨by rfl, ?_⟩) (by assumption) ?_
  rotate_left
  · intro w hSw; (try dsimp only at hSw); go_split_ands; go_simp; with_reducible rfl
  change wpAnyH _ _ _ _ _ _ _ (Act.put _ (some 15) _) _
  simp only [Act.put, List.setIfInBounds_toArray, List.set_cons_zero, List.set_cons_succ, Array.toArray_toList]
  refine wpAnyH_ready (rs := [6, 8]) (by kernel_rfl) (by simp) ?_
  refine (AllReadyH.cons rfl (fun K hK => ?_) (AllReadyH.cons rfl (fun K hK => ?_) AllReadyH.nil))
  · skip
    go_simp
    with_reducible refine (HF.out _ Mq.out.bel).mono ?_; rintro e wq ⟨A', c', qs, rfl, hq1, hq2, hb⟩; have Mq := Lib.hid (Mq.out.below hb); have HQ := Lib.hid hq1; have HQ2 := Lib.hid hq2; obtain ⟨m, hm⟩ : ∃ m, qs.length = m := ⟨_, rfl⟩; rw [hm]; have HMM := Lib.hid hm; clear hm hq1 hq2 hb
    go_wp2_with fail
    refine hK.out _ _ (by exact C0.out _ _ _ Mq.out) (fun hHeld => ?_)
    clear hK K
    refine wpAnyH_ready (rs := [7, 8]) (by kernel_rfl) (by simp) ?_
    refine (AllReadyH.cons rfl (fun K hK => ?_) (AllReadyH.cons rfl (fun K hK => ?_) AllReadyH.nil))
    · skip
      go_simp
      with_reducible refine (HT.out _ A A' c c' qs n m HNN.out HMM.out (HR.out _ Mq.out.bel) HQ.out HQ2.out).mono ?_; rintro e wq ⟨rfl, hb⟩; have Mq := Lib.hid (Mq.out.below hb); clear hb
      go_wp2_with fail
      refine hK.out _ _ (by exact C0.out _ _ _ Mq.out) (fun hHeld => ?_)
      clear hK K
      refine wpAnyH_ready (rs := [8]) (by kernel_rfl) (by simp) ?_
      refine (AllReadyH.cons rfl (fun K hK => ?_) AllReadyH.nil)
      go_simp; generalize hwq : World.alloc _ _ = wq; (try have HQ := Lib.hid (HQ.out.allocE hwq)); have Mq := Lib.hid (Mq.out.newE hwq); clear hwq
      refine hK.out _ _ (by exact C0.out _ _ _ Mq.out) (fun hHeld => ?_)
      clear hK K
      refine wpAnyH_ready (rs := [9]) (by kernel_rfl) (by simp) ?_
      refine (AllReadyH.cons rfl (fun K hK => ?_) AllReadyH.nil)
      refine step_store_row rfl _ _ _ rfl _ (b8a K2) rfl rfl 27 _ (Mq.out.blk []) (info_k KL2.out) (y32_k KL2.out) (b8a_one K2) ?_; have Mq := Lib.hid (Mst.setRow (bl := []) [] Mq.out (b8a K2))
      refine hK.out _ _ (by exact C0.out _ _ _ Mq.out) (fun hHeld => ?_)
      clear hK K
      refine wpAnyH_done (by kernel_rfl) ?_ _
      have HN := Lib.hid (show Calls _ _ _ _ _ from new_any _ _ 32 K2 (by unfold RB; rw [KL2.out]; exact Mq.out.src (Src.arr (List.mem_cons_self ..) KL2.out)) (by rw [KL2.out]; decide))
      rw [KL2.out] at HN
      go_wp2_with fail
      refine HN.out.mono ?_
      rintro e wq ⟨gk', rfl, h1, h2⟩
      have H1 := Lib.hid h1
      have Mq := Lib.hid (Mq.out.below h2)
      clear h1 h2
      go_wp2
      go_ret
      exact ⟨gk', rfl, H1.out, Mq.out.bel⟩
    · skip
      go_simp; generalize hwq : World.alloc _ _ = wq; (try have HQ := Lib.hid (HQ.out.allocE hwq)); have Mq := Lib.hid (Mq.out.newE hwq); clear hwq
      refine hK.out _ _ (by exact C0.out _ _ _ Mq.out) (fun hHeld => ?_)
      clear hK K
      refine wpAnyH_ready (rs := [7]) (by kernel_rfl) (by simp) ?_
      refine (AllReadyH.cons rfl (fun K hK => ?_) AllReadyH.nil)
      go_simp
      with_reducible refine (HT.out _ A A' c c' qs n m HNN.out HMM.out (HR.out _ Mq.out.bel) HQ.out HQ2.out).mono ?_; rintro e wq ⟨rfl, hb⟩; have Mq := Lib.hid (Mq.out.below hb); clear hb
      go_wp2_with fail
      refine hK.out _ _ (by exact C0.out _ _ _ Mq.out) (fun hHeld => ?_)
      clear hK K
      refine wpAnyH_ready (rs := [9]) (by kernel_rfl) (by simp) ?_
      refine (AllReadyH.cons rfl (fun K hK => ?_) AllReadyH.nil)
      refine step_store_row rfl _ _ _ rfl _ (b8a K2) rfl rfl 27 _ (Mq.out.blk []) (info_k KL2.out) (y32_k KL2.out) (b8a_one K2) ?_; have Mq := Lib.hid (Mst.setRow (bl := []) [] Mq.out (b8a K2))
      refine hK.out _ _ (by exact C0.out _ _ _ Mq.out) (fun hHeld => ?_)
      clear hK K
      refine wpAnyH_done (by kernel_rfl) ?_ _
      have HN := Lib.hid (show Calls _ _ _ _ _ from new_any _ _ 32 K2 (by unfold RB; rw [KL2.out]; exact Mq.out.src (Src.arr (List.mem_cons_self ..) KL2.out)) (by rw [KL2.out]; decide))
      rw [KL2.out] at HN
      go_wp2_with fail
      refine HN.out.mono ?_
      rintro e wq ⟨gk', rfl, h1, h2⟩
      have H1 := Lib.hid h1
      have Mq := Lib.hid (Mq.out.below h2)
      clear h1 h2
      go_wp2
      go_ret
      exact ⟨gk', rfl, H1.out, Mq.out.bel⟩
  · skip
    go_simp; generalize hwq : World.alloc _ _ = wq; (try have HQ := Lib.hid (HQ.out.allocE hwq)); have Mq := Lib.hid (Mq.out.newE hwq); clear hwq
    refine hK.out _ _ (by exact C0.out _ _ _ Mq.out) (fun hHeld => ?_)
    clear hK K
    refine wpAnyH_ready (rs := [6]) (by kernel_rfl) (by simp) ?_
    refine (AllReadyH.cons rfl (fun K hK => ?_) AllReadyH.nil)
    go_simp
    with_reducible refine (HF.out _ Mq.out.bel).mono ?_; rintro e wq ⟨A', c', qs, rfl, hq1, hq2, hb⟩; have Mq := Lib.hid (Mq.out.below hb); have HQ := Lib.hid hq1; have HQ2 := Lib.hid hq2; obtain ⟨m, hm⟩ : ∃ m, qs.length = m := ⟨_, rfl⟩; rw [hm]; have HMM := Lib.hid hm; clear hm hq1 hq2 hb
    go_wp2_with fail
    refine hK.out _ _ (by exact C0.out _ _ _ Mq.out) (fun hHeld => ?_)
    clear hK K
    refine wpAnyH_ready (rs := [7]) (by kernel_rfl) (by simp) ?_
    refine (AllReadyH.cons rfl (fun K hK => ?_) AllReadyH.nil)
    go_simp
    with_reducible refine (HT.out _ A A' c c' qs n m HNN.out HMM.out (HR.out _ Mq.out.bel) HQ.out HQ2.out).mono ?_; rintro e wq ⟨rfl, hb⟩; have Mq := Lib.hid (Mq.out.below hb); clear hb
    go_wp2_with fail
    refine hK.out _ _ (by exact C0.out _ _ _ Mq.out) (fun hHeld => ?_)
    clear hK K
    refine wpAnyH_ready (rs := [9]) (by kernel_rfl) (by simp) ?_
    refine (AllReadyH.cons rfl (fun K hK => ?_) AllReadyH.nil)
    refine step_store_row rfl _ _ _ rfl _ (b8a K2) rfl rfl 27 _ (Mq.out.blk []) (info_k KL2.out) (y32_k KL2.out) (b8a_one K2) ?_; have Mq := Lib.hid (Mst.setRow (bl := []) [] Mq.out (b8a K2))
    refine hK.out _ _ (by exact C0.out _ _ _ Mq.out) (fun hHeld => ?_)
    clear hK K
    refine wpAnyH_done (by kernel_rfl) ?_ _
    have HN := Lib.hid (show Calls _ _ _ _ _ from new_any _ _ 32 K2 (by unfold RB; rw [KL2.out]; exact Mq.out.src (Src.arr (List.mem_cons_self ..) KL2.out)) (by rw [KL2.out]; decide))
    rw [KL2.out] at HN
    go_wp2_with fail
    refine HN.out.mono ?_
    rintro e wq ⟨gk', rfl, h1, h2⟩
    have H1 := Lib.hid h1
    have Mq := Lib.hid (Mq.out.below h2)
    clear h1 h2
    go_wp2
    go_ret
    exact ⟨gk', rfl, H1.out, Mq.out.bel⟩
theorem kderive_nil (w : World) (s : ByteArray) (v : Value) : Calls Try.prog 88 #[.pointer none, .string s, v] w fun e w' => e = .returned (.pointer none) ∧ w' = w := by
  go_enter Try.func88, Try.ntmps88
  go_wp2
  go_ret
  exact ⟨rfl, rfl⟩

end Go.Proofs.Ytghcdffpplimoaa
