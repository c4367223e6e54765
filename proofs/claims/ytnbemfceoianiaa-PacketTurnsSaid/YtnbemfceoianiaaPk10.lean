/- Packets: the document's Head and Bytes, of a right packet. -/
import Derived.Test.YtnbemfceoianiaaPkB
import Derived.Test.YtnbemfceoianiaaRc4
namespace Go.Proofs.Ytnbemfceoianiaa
set_option linter.unusedVariables false
set_option linter.unusedSimpArgs false
open Go.RowKit
theorem Mst.onePx {W w w2 : World} {bl : Bl} {ow : List Ro} {e : TypeId} {v : Value} (h : Mst W w bl ow) (hw : w.alloc (.cells #[v] e) = w2) : ∃ g, w.heap.size = g ∧ Mst W w2 bl (⟨e, 1, .slice (some ⟨g, 0, none⟩) 1 1, 1, [v]⟩ :: ow) := by
  subst hw
  exact ⟨_, rfl, h.newrow e 1 1 1 #[v] (Nat.le_refl _) (by decide) rfl⟩
theorem two14_any (n : Int) (h0 : 0 ≤ n) (h1 : n ≤ 65535) (w : World) : Calls Try.prog 55 #[.int .i64 n] w (RetFresh w 5 1 2 (by8 (numB 2 n))) := by
  have HO := Lib.hid (show ∀ w', Calls Try.prog 72 #[.agg #[.int .i64 1, .int .i64 n, .slice none 0 0]] w' (RetFresh w' 5 1 2 (by8 (numB 2 n))) from fun w' => by
    have h := refout_any (nf 1 n) w' (chk_nf1 h0 h1) (by show n ≤ _; omega) (Rd.nil_ _ _ _ _)
    exact h)
  clear h0 h1
  go_enter Try.func55, Try.ntmps55
  go_wp2_with fail
  with_reducible refine (HO.out _).mono ?_
  rintro e w1 ⟨v, rfl, hf⟩
  have HF := Lib.hid hf
  clear hf
  go_wp2_with fail
  go_ret
  exact ⟨v, rfl, HF.out⟩
theorem four14_any (n : Int) (h0 : 0 ≤ n) (h1 : n ≤ 4294967295) (w : World) : Calls Try.prog 56 #[.int .i64 n] w (RetFresh w 5 1 4 (by8 (numB 4 n))) := by
  have HO := Lib.hid (show ∀ w', Calls Try.prog 72 #[.agg #[.int .i64 2, .int .i64 n, .slice none 0 0]] w' (RetFresh w' 5 1 4 (by8 (numB 4 n))) from fun w' => by
    have h := refout_any (nf 2 n) w' (chk_nf2 h0 h1) (by show n ≤ _; omega) (Rd.nil_ _ _ _ _)
    exact h)
  clear h0 h1
  go_enter Try.func56, Try.ntmps56
  go_wp2_with fail
  with_reducible refine (HO.out _).mono ?_
  rintro e w1 ⟨v, rfl, hf⟩
  have HF := Lib.hid hf
  clear hf
  go_wp2_with fail
  go_ret
  exact ⟨v, rfl, HF.out⟩
theorem RetFresh.toP {w w' : World} {e size n : Nat} {xs : List Value} {en : Ending} (h : RetFresh w e size n xs en w') : ∃ A c, en = .returned (.slice A n c) ∧ Fresh w w' e size (.slice A n c) n xs := by
  obtain ⟨v, rfl, hf⟩ := h
  obtain ⟨A, c, rfl, _⟩ := own_form hf.own
  exact ⟨A, c, rfl, hf⟩
set_option maxRecDepth 100000 in
set_option maxHeartbeats 8000000 in
theorem rhead_ok (p : Pk) (hT : p.T.length = 32) (w : World) (hchk : chkP p = 0) (hr : RB w w.heap.size p.A p.l) : Calls Try.prog 31 #[.agg (pkc p)] w (RetFresh w 5 1 (20 + p.l.length) (by8 (hdB p))) := by
  have m1 := (Mst.start w).new 29 (pkc p)
  have M1 := Lib.hid m1
  obtain ⟨⟨hk1, hk2⟩, hcl, ⟨ht1, ht2⟩, hwn, hl5, -⟩ := chkP_ok hchk
  have HCB := Lib.hid (fun w' => refbytes_any p.i p.r p.x p.s w' hcl)
  obtain ⟨L, hL⟩ : ∃ L, p.l.length = L := ⟨_, rfl⟩
  have H1 := Lib.hid (fun w' => two14_any p.t ht1 ht2 w')
  have H2 := Lib.hid (fun w' => two14_any p.b (by have := hwn.1; omega) hwn.2.1 w')
  have H3 := Lib.hid (fun w' => four14_any p.c (by have := hwn.2.2.1; omega) (by have := hwn.2.2.2; omega) w')
  have H4 := Lib.hid (fun w' => two14_any (L : Int) (by omega) (by omega) w')
  have HSB := Lib.hid (show ∀ w' bl ow, Mst w w' bl ow → Rd w' w'.heap.size 1 p.A L (by8 p.l) from fun w' bl ow h => by
    have hr := hr
    unfold RB at hr
    rw [hL] at hr
    exact h.src (Src.old hr))
  have HCE := Lib.hid (show ∀ w' bl' ow', Mst w w' ((w.heap.size, 29, pkc p) :: bl') ow' → w'.cell? ⟨w.heap.size, 0, none⟩ = some (.int .i64 p.k) ∧ w'.cell? ⟨w.heap.size, 1, none⟩ = some (.int .i64 p.i) ∧ w'.cell? ⟨w.heap.size, 2, none⟩ = some (.int .i64 p.r) ∧ w'.cell? ⟨w.heap.size, 3, none⟩ = some (.int .i64 p.x) ∧ w'.cell? ⟨w.heap.size, 4, none⟩ = some (.int .i64 p.s) ∧ w'.cell? ⟨w.heap.size, 5, none⟩ = some (.int .i64 p.t) ∧ w'.cell? ⟨w.heap.size, 6, none⟩ = some (.int .i64 p.b) ∧ w'.cell? ⟨w.heap.size, 7, none⟩ = some (.int .i64 p.c) ∧ w'.cell? ⟨w.heap.size, 8, none⟩ = some (.slice p.A L p.cp) from fun w' bl' ow' h => by
    have q := pkc_cells (h.blk [])
    rw [hL] at q
    exact q)
  have HHD := Lib.hid (show ((((by8 (numB 1 p.k ++ clB p.i p.r p.x p.s) ++ by8 (numB 2 p.t)) ++ by8 (numB 2 p.b)) ++ by8 (numB 4 p.c)) ++ by8 (numB 2 (L : Int))) ++ by8 p.l = by8 (hdB p) from by
    rw [← by8_append, ← by8_append, ← by8_append, ← by8_append, ← by8_append, ← hL]
    simp [hdB, wnB])
  have HLL := Lib.hid hL
  have HL5 := Lib.hid (show L ≤ 512 by omega)
  have wk : IntKind.u8.wrap p.k = p.k := IntWalk.u8_in _ (by omega)
  have HK1 := Lib.hid (byte_row p.k (by omega) (by omega))
  clear m1 hT hchk hr hk1 hk2 hcl ht1 ht2 hwn hl5
  rw [hL]
  clear hL
  go_enter Try.func31, Try.ntmps31
  go_upto_region 1 with fail
  generalize hw1 : World.alloc _ _ = w1
  have Mq := Lib.hid (M1.out.toVP hw1 rfl)
  clear hw1 M1
  have K0 := Lib.hid (HCE.out _ _ _ Mq.out.drew)
  go_cut [3] (fun s3 wr => ∃ A N c X, s3 = .slice A N c ∧ Hid (N = 10) ∧ Hid (X = by8 (numB 1 p.k ++ clB p.i p.r p.x p.s)) ∧ Mst w wr [(w.heap.size, 29, pkc p)] [⟨5, 1, .slice A N c, N, X⟩])
  refine wp_region_held_drew (S := fun w' => w'.cell? ⟨w.heap.size, 0, none⟩ = some (.int .i64 p.k) ∧ w'.cell? ⟨w.heap.size, 1, none⟩ = some (.int .i64 p.i) ∧ w'.cell? ⟨w.heap.size, 2, none⟩ = some (.int .i64 p.r) ∧ w'.cell? ⟨w.heap.size, 3, none⟩ = some (.int .i64 p.x) ∧ w'.cell? ⟨w.heap.size, 4, none⟩ = some (.int .i64 p.s) ∧ w'.cell? ⟨w.heap.size, 5, none⟩ = some (.int .i64 p.t) ∧ w'.cell? ⟨w.heap.size, 6, none⟩ = some (.int .i64 p.b) ∧ w'.cell? ⟨w.heap.size, 7, none⟩ = some (.int .i64 p.c) ∧ w'.cell? ⟨w.heap.size, 8, none⟩ = some (.slice p.A L p.cp)) (by kernel_rfl) ?_ (fun hHeld => ?_)
  · exact K0.out
  generalize hw7 : World.drew _ = w7 at hHeld ⊢
  have Mq := Lib.hid (Mq.out.drew.toVP hw7 rfl)
  clear hw7
  refine wpAnyH_take (i := 0) (v := ?_) rfl (by kernel_rfl) (by kernel_rfl) (by kernel_rfl) (fun _ _ _ h => h) (Or.inl ⟨by rfl, ?_⟩) (by assumption) ?_
  rotate_left
  · intro w hSw; (try dsimp only at hSw); go_split_ands; go_simp; with_reducible rfl
  change wpAnyH _ _ _ _ _ _ _ (Act.put _ (some 4) _) _
  simp only [Act.put, List.setIfInBounds_toArray, List.set_cons_zero, List.set_cons_succ, Array.toArray_toList]
  refine wpAnyH_take (i := 1) (v := ?_) rfl (by kernel_rfl) (by kernel_rfl) (by kernel_rfl) (fun _ _ _ h => h) (Or.inl ⟨by rfl, ?_⟩) (by assumption) ?_
  rotate_left
  · intro w hSw; (try dsimp only at hSw); go_split_ands; go_simp; with_reducible rfl
  change wpAnyH _ _ _ _ _ _ _ (Act.put _ (some 5) _) _
  simp only [Act.put, List.setIfInBounds_toArray, List.set_cons_zero, List.set_cons_succ, Array.toArray_toList]
  refine wpAnyH_take (i := 2) (v := ?_) rfl (by kernel_rfl) (by kernel_rfl) (by kernel_rfl) (fun _ _ _ h => h) (Or.inl ⟨by rfl, ?_⟩) (by assumption) ?_
  rotate_left
  · intro w hSw; (try dsimp only at hSw); go_split_ands; go_simp; with_reducible rfl
  change wpAnyH _ _ _ _ _ _ _ (Act.put _ (some 6) _) _
  simp only [Act.put, List.setIfInBounds_toArray, List.set_cons_zero, List.set_cons_succ, Array.toArray_toList]
  refine wpAnyH_take (i := 4) (v := ?_) rfl (by kernel_rfl) (by kernel_rfl) (by kernel_rfl) (fun _ _ _ h => h) (Or.inl ⟨by rfl, ?_⟩) (by assumption) ?_
  rotate_left
  · intro w hSw; (try dsimp only at hSw); go_split_ands; go_simp; with_reducible rfl
  change wpAnyH _ _ _ _ _ _ _ (Act.put _ (some 8) _) _
  simp only [Act.put, List.setIfInBounds_toArray, List.set_cons_zero, List.set_cons_succ, Array.toArray_toList]
  refine wpAnyH_take (i := 5) (v := ?_) rfl (by kernel_rfl) (by kernel_rfl) (by kernel_rfl) (fun _ _ _ h => h) (Or.inl ⟨by rfl, ?_⟩) (by assumption) ?_
  rotate_left
  · intro w hSw; (try dsimp only at hSw); go_split_ands; go_simp; with_reducible rfl
  change wpAnyH _ _ _ _ _ _ _ (Act.put _ (some 9) _) _
  simp only [Act.put, List.setIfInBounds_toArray, List.set_cons_zero, List.set_cons_succ, Array.toArray_toList]
  refine wpAnyH_ready (rs := [3, 6]) (by kernel_rfl) (by simp) ?_
  refine (AllReadyH.cons rfl (fun K hK => ?_) (AllReadyH.cons rfl (fun K hK => ?_) AllReadyH.nil))
  · skip
    go_simp; generalize hwq : World.alloc _ _ = wq; obtain ⟨g4, hg4, mq⟩ := Mq.out.onePx hwq; rw [hg4]; have Mq := Lib.hid mq; clear hwq hg4 mq
    refine hK.out _ _ (by exact HCE.out _ _ _ Mq.out) (fun hHeld => ?_)
    clear hK K
    refine wpAnyH_ready (rs := [6]) (by kernel_rfl) (by simp) ?_
    refine (AllReadyH.cons rfl (fun K hK => ?_) AllReadyH.nil)
    go_simp
    (with_reducible refine (HCB.out _).mono ?_); rintro r wq hrf; obtain ⟨A2, c2, rfl, hf⟩ := hrf.toP; have Mq := Lib.hid (Mq.out.addr hf); clear hrf hf
    go_wp2_with fail
    refine hK.out _ _ (by exact HCE.out _ _ _ Mq.out) (fun hHeld => ?_)
    clear hK K
    refine wpAnyH_ready (rs := [7]) (by kernel_rfl) (by simp) ?_
    refine (AllReadyH.cons rfl (fun K hK => ?_) AllReadyH.nil)
    first | (refine step_appEP rfl _ _ 26 rfl [] Mq.out el_u8 rfl _ A2 9 c2 (by8 (clB p.i p.r p.x p.s)) rfl (Mq.out.src (Mq.out.rowSrc (e := 5) (c := c2) (by simp))) (by8_one _) (by unfold maxLen; omega) (by omega) ?_; intro A5 c5 w5 N5 X5 hn5 hx5 mq; have Mq := Lib.hid (mq.sub (bl' := [_]) (ow' := [_]) (List.Sublist.refl _) (List.Sublist.cons_cons _ (List.nil_sublist _))); have HN5 := Lib.hid (show N5 = 10 by omega); have HX5 := Lib.hid (show X5 = by8 (numB 1 p.k ++ clB p.i p.r p.x p.s) by rw [hx5, by8_append, HK1.out]); clear mq hn5 hx5) | (refine step_appEP rfl _ _ 26 rfl [_] Mq.out el_u8 rfl _ A2 9 c2 (by8 (clB p.i p.r p.x p.s)) rfl (Mq.out.src (Mq.out.rowSrc (e := 5) (c := c2) (by simp))) (by8_one _) (by unfold maxLen; omega) (by omega) ?_; intro A5 c5 w5 N5 X5 hn5 hx5 mq; have Mq := Lib.hid (mq.dropr); have HN5 := Lib.hid (show N5 = 10 by omega); have HX5 := Lib.hid (show X5 = by8 (numB 1 p.k ++ clB p.i p.r p.x p.s) by rw [hx5, by8_append, HK1.out]); clear mq hn5 hx5)
    refine hK.out _ _ (by exact HCE.out _ _ _ Mq.out) (fun hHeld => ?_)
    clear hK K
    (try (change wpAnyH _ _ _ _ _ _ _ (Act.put _ (some 11) _) _; simp only [Act.put, List.setIfInBounds_toArray, List.set_cons_zero, List.set_cons_succ, Array.toArray_toList]))
    refine wpAnyH_take (i := 8) (v := ?_) rfl (by kernel_rfl) (by kernel_rfl) (by kernel_rfl) (fun _ _ _ h => h) (Or.inl ⟨by rfl, ?_⟩) (by assumption) ?_
    rotate_left
    · intro w hSw; (try dsimp only at hSw); go_split_ands; go_simp; with_reducible rfl
    change wpAnyH _ _ _ _ _ _ _ (Act.put _ (some 3) _) _
    simp only [Act.put, List.setIfInBounds_toArray, List.set_cons_zero, List.set_cons_succ, Array.toArray_toList]
    refine wpAnyH_done (by kernel_rfl) ?_ _
    go_wp2_with fail
    go_meet
    exact ⟨_, _, _, _, rfl, HN5, HX5, Mq.out⟩
  · skip
    go_simp
    (with_reducible refine (HCB.out _).mono ?_); rintro r wq hrf; obtain ⟨A2, c2, rfl, hf⟩ := hrf.toP; have Mq := Lib.hid (Mq.out.addr hf); clear hrf hf
    go_wp2_with fail
    refine hK.out _ _ (by exact HCE.out _ _ _ Mq.out) (fun hHeld => ?_)
    clear hK K
    refine wpAnyH_ready (rs := [3]) (by kernel_rfl) (by simp) ?_
    refine (AllReadyH.cons rfl (fun K hK => ?_) AllReadyH.nil)
    go_simp; generalize hwq : World.alloc _ _ = wq; obtain ⟨g4, hg4, mq⟩ := Mq.out.onePx hwq; rw [hg4]; have Mq := Lib.hid mq; clear hwq hg4 mq
    refine hK.out _ _ (by exact HCE.out _ _ _ Mq.out) (fun hHeld => ?_)
    clear hK K
    refine wpAnyH_ready (rs := [7]) (by kernel_rfl) (by simp) ?_
    refine (AllReadyH.cons rfl (fun K hK => ?_) AllReadyH.nil)
    first | (refine step_appEP rfl _ _ 26 rfl [] Mq.out el_u8 rfl _ A2 9 c2 (by8 (clB p.i p.r p.x p.s)) rfl (Mq.out.src (Mq.out.rowSrc (e := 5) (c := c2) (by simp))) (by8_one _) (by unfold maxLen; omega) (by omega) ?_; intro A5 c5 w5 N5 X5 hn5 hx5 mq; have Mq := Lib.hid (mq.sub (bl' := [_]) (ow' := [_]) (List.Sublist.refl _) (List.Sublist.cons_cons _ (List.nil_sublist _))); have HN5 := Lib.hid (show N5 = 10 by omega); have HX5 := Lib.hid (show X5 = by8 (numB 1 p.k ++ clB p.i p.r p.x p.s) by rw [hx5, by8_append, HK1.out]); clear mq hn5 hx5) | (refine step_appEP rfl _ _ 26 rfl [_] Mq.out el_u8 rfl _ A2 9 c2 (by8 (clB p.i p.r p.x p.s)) rfl (Mq.out.src (Mq.out.rowSrc (e := 5) (c := c2) (by simp))) (by8_one _) (by unfold maxLen; omega) (by omega) ?_; intro A5 c5 w5 N5 X5 hn5 hx5 mq; have Mq := Lib.hid (mq.dropr); have HN5 := Lib.hid (show N5 = 10 by omega); have HX5 := Lib.hid (show X5 = by8 (numB 1 p.k ++ clB p.i p.r p.x p.s) by rw [hx5, by8_append, HK1.out]); clear mq hn5 hx5)
    refine hK.out _ _ (by exact HCE.out _ _ _ Mq.out) (fun hHeld => ?_)
    clear hK K
    (try (change wpAnyH _ _ _ _ _ _ _ (Act.put _ (some 11) _) _; simp only [Act.put, List.setIfInBounds_toArray, List.set_cons_zero, List.set_cons_succ, Array.toArray_toList]))
    refine wpAnyH_take (i := 8) (v := ?_) rfl (by kernel_rfl) (by kernel_rfl) (by kernel_rfl) (fun _ _ _ h => h) (Or.inl ⟨by rfl, ?_⟩) (by assumption) ?_
    rotate_left
    · intro w hSw; (try dsimp only at hSw); go_split_ands; go_simp; with_reducible rfl
    change wpAnyH _ _ _ _ _ _ _ (Act.put _ (some 3) _) _
    simp only [Act.put, List.setIfInBounds_toArray, List.set_cons_zero, List.set_cons_succ, Array.toArray_toList]
    refine wpAnyH_done (by kernel_rfl) ?_ _
    go_wp2_with fail
    go_meet
    exact ⟨_, _, _, _, rfl, HN5, HX5, Mq.out⟩
  case rest =>
    obtain ⟨A3, N3, c3, X3, rfl, HN3, HX3, m3⟩ := hcut
    have Mq := Lib.hid m3
    clear m3
    have K0 := Lib.hid (HCE.out _ _ _ Mq.out.drew)
    go_upto_region 2 with fail
    refine wp_region_held_drew (S := fun w' => w'.cell? ⟨w.heap.size, 0, none⟩ = some (.int .i64 p.k) ∧ w'.cell? ⟨w.heap.size, 1, none⟩ = some (.int .i64 p.i) ∧ w'.cell? ⟨w.heap.size, 2, none⟩ = some (.int .i64 p.r) ∧ w'.cell? ⟨w.heap.size, 3, none⟩ = some (.int .i64 p.x) ∧ w'.cell? ⟨w.heap.size, 4, none⟩ = some (.int .i64 p.s) ∧ w'.cell? ⟨w.heap.size, 5, none⟩ = some (.int .i64 p.t) ∧ w'.cell? ⟨w.heap.size, 6, none⟩ = some (.int .i64 p.b) ∧ w'.cell? ⟨w.heap.size, 7, none⟩ = some (.int .i64 p.c) ∧ w'.cell? ⟨w.heap.size, 8, none⟩ = some (.slice p.A L p.cp)) (by kernel_rfl) ?_ (fun hHeld => ?_)
    · exact K0.out
    generalize hw7 : World.drew _ = w7 at hHeld ⊢
    have Mq := Lib.hid (Mq.out.drew.toVP hw7 rfl)
    clear hw7
    refine wpAnyH_take (i := 0) (v := ?_) rfl (by kernel_rfl) (by kernel_rfl) (by kernel_rfl) (fun _ _ _ h => h) (Or.inl ⟨by rfl, ?_⟩) (by assumption) ?_
    rotate_left
    · intro w hSw; (try dsimp only at hSw); go_split_ands; go_simp; with_reducible rfl
    change wpAnyH _ _ _ _ _ _ _ (Act.put _ (some 12) _) _
    simp only [Act.put, List.setIfInBounds_toArray, List.set_cons_zero, List.set_cons_succ, Array.toArray_toList]
    refine wpAnyH_take (i := 1) (v := ?_) rfl (by kernel_rfl) (by kernel_rfl) (by kernel_rfl) (fun _ _ _ h => h) (Or.inl ⟨by rfl, ?_⟩) (by assumption) ?_
    rotate_left
    · intro w hSw; (try dsimp only at hSw); go_split_ands; go_simp; with_reducible rfl
    change wpAnyH _ _ _ _ _ _ _ (Act.put _ (some 13) _) _
    simp only [Act.put, List.setIfInBounds_toArray, List.set_cons_zero, List.set_cons_succ, Array.toArray_toList]
    refine wpAnyH_take (i := 2) (v := ?_) rfl (by kernel_rfl) (by kernel_rfl) (by kernel_rfl) (fun _ _ _ h => h) (Or.inl ⟨by rfl, ?_⟩) (by assumption) ?_
    rotate_left
    · intro w hSw; (try dsimp only at hSw); go_split_ands; go_simp; with_reducible rfl
    change wpAnyH _ _ _ _ _ _ _ (Act.put _ (some 14) _) _
    simp only [Act.put, List.setIfInBounds_toArray, List.set_cons_zero, List.set_cons_succ, Array.toArray_toList]
    refine wpAnyH_take (i := 5) (v := ?_) rfl (by kernel_rfl) (by kernel_rfl) (by kernel_rfl) (fun _ _ _ h => h) (Or.inl ⟨by rfl, ?_⟩) (by assumption) ?_
    rotate_left
    · intro w hSw; (try dsimp only at hSw); go_split_ands; go_simp; with_reducible rfl
    change wpAnyH _ _ _ _ _ _ _ (Act.put _ (some 17) _) _
    simp only [Act.put, List.setIfInBounds_toArray, List.set_cons_zero, List.set_cons_succ, Array.toArray_toList]
    refine wpAnyH_take (i := 6) (v := ?_) rfl (by kernel_rfl) (by kernel_rfl) (by kernel_rfl) (fun _ _ _ h => h) (Or.inl ⟨by rfl, ?_⟩) (by assumption) ?_
    rotate_left
    · intro w hSw; (try dsimp only at hSw); go_split_ands; go_simp; with_reducible rfl
    change wpAnyH _ _ _ _ _ _ _ (Act.put _ (some 18) _) _
    simp only [Act.put, List.setIfInBounds_toArray, List.set_cons_zero, List.set_cons_succ, Array.toArray_toList]
    refine wpAnyH_take (i := 7) (v := ?_) rfl (by kernel_rfl) (by kernel_rfl) (by kernel_rfl) (fun _ _ _ h => h) (Or.inl ⟨by rfl, ?_⟩) (by assumption) ?_
    rotate_left
    · intro w hSw; (try dsimp only at hSw); go_split_ands; go_simp; with_reducible rfl
    change wpAnyH _ _ _ _ _ _ _ (Act.put _ (some 19) _) _
    simp only [Act.put, List.setIfInBounds_toArray, List.set_cons_zero, List.set_cons_succ, Array.toArray_toList]
    refine wpAnyH_ready (rs := [3]) (by kernel_rfl) (by simp) ?_
    refine (AllReadyH.cons rfl (fun K hK => ?_) AllReadyH.nil)
    go_simp
    (with_reducible refine (H1.out _).mono ?_); rintro r wq hrf; obtain ⟨A4, c4, rfl, hf⟩ := hrf.toP; have Mq := Lib.hid (Mq.out.addr hf); clear hrf hf
    go_wp2_with fail
    refine hK.out _ _ (by exact HCE.out _ _ _ Mq.out) (fun hHeld => ?_)
    clear hK K
    refine wpAnyH_ready (rs := [4]) (by kernel_rfl) (by simp) ?_
    refine (AllReadyH.cons rfl (fun K hK => ?_) AllReadyH.nil)
    refine step_appEP rfl _ _ 26 rfl [_] Mq.out el_u8 rfl _ A4 2 c4 (by8 (numB 2 p.t)) rfl (Mq.out.src (Mq.out.rowSrc (List.mem_cons_self ..))) (by8_one _) (by unfold maxLen; have := HN3.out; omega) (by have := HN3.out; omega) ?_; intro A5 c5 w5 N5 X5 hn5 hx5 mq; have Mq := Lib.hid mq.dropr; have HN5 := Lib.hid hn5; have HX5 := Lib.hid hx5; clear mq hn5 hx5
    refine hK.out _ _ (by exact HCE.out _ _ _ Mq.out) (fun hHeld => ?_)
    clear hK K
    (try (change wpAnyH _ _ _ _ _ _ _ (Act.put _ (some 16) _) _; simp only [Act.put, List.setIfInBounds_toArray, List.set_cons_zero, List.set_cons_succ, Array.toArray_toList]))
    refine wpAnyH_ready (rs := [8]) (by kernel_rfl) (by simp) ?_
    refine (AllReadyH.cons rfl (fun K hK => ?_) AllReadyH.nil)
    go_simp
    (with_reducible refine (H2.out _).mono ?_); rintro r wq hrf; obtain ⟨A6, c6, rfl, hf⟩ := hrf.toP; have Mq := Lib.hid (Mq.out.addr hf); clear hrf hf
    go_wp2_with fail
    refine hK.out _ _ (by exact HCE.out _ _ _ Mq.out) (fun hHeld => ?_)
    clear hK K
    refine wpAnyH_ready (rs := [9]) (by kernel_rfl) (by simp) ?_
    refine (AllReadyH.cons rfl (fun K hK => ?_) AllReadyH.nil)
    refine step_appEP rfl _ _ 26 rfl [_] Mq.out el_u8 rfl _ A6 2 c6 (by8 (numB 2 p.b)) rfl (Mq.out.src (Mq.out.rowSrc (List.mem_cons_self ..))) (by8_one _) (by unfold maxLen; have := HN3.out; have := HN5.out; omega) (by have := HN3.out; have := HN5.out; omega) ?_; intro A7 c7 w7 N7 X7 hn7 hx7 mq; have Mq := Lib.hid mq.dropr; have HN7 := Lib.hid hn7; have HX7 := Lib.hid hx7; clear mq hn7 hx7
    refine hK.out _ _ (by exact HCE.out _ _ _ Mq.out) (fun hHeld => ?_)
    clear hK K
    (try (change wpAnyH _ _ _ _ _ _ _ (Act.put _ (some 21) _) _; simp only [Act.put, List.setIfInBounds_toArray, List.set_cons_zero, List.set_cons_succ, Array.toArray_toList]))
    refine wpAnyH_take (i := 10) (v := ?_) rfl (by kernel_rfl) (by kernel_rfl) (by kernel_rfl) (fun _ _ _ h => h) (Or.inl ⟨by rfl, ?_⟩) (by assumption) ?_
    rotate_left
    · intro w hSw; (try dsimp only at hSw); go_split_ands; go_simp; with_reducible rfl
    change wpAnyH _ _ _ _ _ _ _ (Act.put _ (some 3) _) _
    simp only [Act.put, List.setIfInBounds_toArray, List.set_cons_zero, List.set_cons_succ, Array.toArray_toList]
    refine wpAnyH_done (by kernel_rfl) ?_ _
    clear hHeld K0
    have K0 := Lib.hid (HCE.out _ _ _ Mq.out.drew)
    go_upto_region 3 with fail
    refine wp_region_held_drew (S := fun w' => w'.cell? ⟨w.heap.size, 0, none⟩ = some (.int .i64 p.k) ∧ w'.cell? ⟨w.heap.size, 1, none⟩ = some (.int .i64 p.i) ∧ w'.cell? ⟨w.heap.size, 2, none⟩ = some (.int .i64 p.r) ∧ w'.cell? ⟨w.heap.size, 3, none⟩ = some (.int .i64 p.x) ∧ w'.cell? ⟨w.heap.size, 4, none⟩ = some (.int .i64 p.s) ∧ w'.cell? ⟨w.heap.size, 5, none⟩ = some (.int .i64 p.t) ∧ w'.cell? ⟨w.heap.size, 6, none⟩ = some (.int .i64 p.b) ∧ w'.cell? ⟨w.heap.size, 7, none⟩ = some (.int .i64 p.c) ∧ w'.cell? ⟨w.heap.size, 8, none⟩ = some (.slice p.A L p.cp)) (by kernel_rfl) ?_ (fun hHeld => ?_)
    · exact K0.out
    generalize hw7 : World.drew _ = w7 at hHeld ⊢
    have Mq := Lib.hid (Mq.out.drew.toVP hw7 rfl)
    clear hw7
    refine wpAnyH_take (i := 0) (v := ?_) rfl (by kernel_rfl) (by kernel_rfl) (by kernel_rfl) (fun _ _ _ h => h) (Or.inl ⟨by rfl, ?_⟩) (by assumption) ?_
    rotate_left
    · intro w hSw; (try dsimp only at hSw); go_split_ands; go_simp; with_reducible rfl
    change wpAnyH _ _ _ _ _ _ _ (Act.put _ (some 22) _) _
    simp only [Act.put, List.setIfInBounds_toArray, List.set_cons_zero, List.set_cons_succ, Array.toArray_toList]
    refine wpAnyH_take (i := 1) (v := ?_) rfl (by kernel_rfl) (by kernel_rfl) (by kernel_rfl) (fun _ _ _ h => h) (Or.inl ⟨by rfl, ?_⟩) (by assumption) ?_
    rotate_left
    · intro w hSw; (try dsimp only at hSw); go_split_ands; go_simp; with_reducible rfl
    change wpAnyH _ _ _ _ _ _ _ (Act.put _ (some 23) _) _
    simp only [Act.put, List.setIfInBounds_toArray, List.set_cons_zero, List.set_cons_succ, Array.toArray_toList]
    refine wpAnyH_take (i := 2) (v := ?_) rfl (by kernel_rfl) (by kernel_rfl) (by kernel_rfl) (fun _ _ _ h => h) (Or.inl ⟨by rfl, ?_⟩) (by assumption) ?_
    rotate_left
    · intro w hSw; (try dsimp only at hSw); go_split_ands; go_simp; with_reducible rfl
    change wpAnyH _ _ _ _ _ _ _ (Act.put _ (some 24) _) _
    simp only [Act.put, List.setIfInBounds_toArray, List.set_cons_zero, List.set_cons_succ, Array.toArray_toList]
    refine wpAnyH_take (i := 3) (v := ?_) rfl (by kernel_rfl) (by kernel_rfl) (by kernel_rfl) (fun _ _ _ h => h) (Or.inl ⟨by rfl, ?_⟩) (by assumption) ?_
    rotate_left
    · intro w hSw; (try dsimp only at hSw); go_split_ands; go_simp; with_reducible rfl
    change wpAnyH _ _ _ _ _ _ _ (Act.put _ (some 25) _) _
    simp only [Act.put, List.setIfInBounds_toArray, List.set_cons_zero, List.set_cons_succ, Array.toArray_toList]
    refine wpAnyH_take (i := 6) (v := ?_) rfl (by kernel_rfl) (by kernel_rfl) (by kernel_rfl) (fun _ _ _ h => h) (Or.inl ⟨by rfl, ?_⟩) (by assumption) ?_
    rotate_left
    · intro w hSw; (try dsimp only at hSw); go_split_ands; go_simp; with_reducible rfl
    change wpAnyH _ _ _ _ _ _ _ (Act.put _ (some 28) _) _
    simp only [Act.put, List.setIfInBounds_toArray, List.set_cons_zero, List.set_cons_succ, Array.toArray_toList]
    refine wpAnyH_take (i := 7) (v := ?_) rfl (by kernel_rfl) (by kernel_rfl) (by kernel_rfl) (fun _ _ _ h => h) (Or.inl ⟨by rfl, ?_⟩) (by assumption) ?_
    rotate_left
    · intro w hSw; (try dsimp only at hSw); go_split_ands; go_simp; with_reducible rfl
    change wpAnyH _ _ _ _ _ _ _ (Act.put _ (some 29) _) _
    simp only [Act.put, List.setIfInBounds_toArray, List.set_cons_zero, List.set_cons_succ, Array.toArray_toList]
    refine wpAnyH_take (i := 8) (v := ?_) rfl (by kernel_rfl) (by kernel_rfl) (by kernel_rfl) (fun _ _ _ h => h) (Or.inl ⟨by rfl, ?_⟩) (by assumption) ?_
    rotate_left
    · intro w hSw; (try dsimp only at hSw); go_split_ands; go_simp; with_reducible rfl
    change wpAnyH _ _ _ _ _ _ _ (Act.put _ (some 30) _) _
    simp only [Act.put, List.setIfInBounds_toArray, List.set_cons_zero, List.set_cons_succ, Array.toArray_toList]
    refine wpAnyH_ready (rs := [4]) (by kernel_rfl) (by simp) ?_
    refine (AllReadyH.cons rfl (fun K hK => ?_) AllReadyH.nil)
    go_simp
    (with_reducible refine (H3.out _).mono ?_); rintro r wq hrf; obtain ⟨A8, c8, rfl, hf⟩ := hrf.toP; have Mq := Lib.hid (Mq.out.addr hf); clear hrf hf
    go_wp2_with fail
    refine hK.out _ _ (by exact HCE.out _ _ _ Mq.out) (fun hHeld => ?_)
    clear hK K
    refine wpAnyH_ready (rs := [5]) (by kernel_rfl) (by simp) ?_
    refine (AllReadyH.cons rfl (fun K hK => ?_) AllReadyH.nil)
    refine step_appEP rfl _ _ 26 rfl [_] Mq.out el_u8 rfl _ A8 4 c8 (by8 (numB 4 p.c)) rfl (Mq.out.src (Mq.out.rowSrc (List.mem_cons_self ..))) (by8_one _) (by unfold maxLen; have := HN3.out; have := HN5.out; have := HN7.out; omega) (by have := HN3.out; have := HN5.out; have := HN7.out; omega) ?_; intro A9 c9 w9 N9 X9 hn9 hx9 mq; have Mq := Lib.hid mq.dropr; have HN9 := Lib.hid hn9; have HX9 := Lib.hid hx9; clear mq hn9 hx9
    refine hK.out _ _ (by exact HCE.out _ _ _ Mq.out) (fun hHeld => ?_)
    clear hK K
    (try (change wpAnyH _ _ _ _ _ _ _ (Act.put _ (some 27) _) _; simp only [Act.put, List.setIfInBounds_toArray, List.set_cons_zero, List.set_cons_succ, Array.toArray_toList]))
    refine wpAnyH_ready (rs := [9]) (by kernel_rfl) (by simp) ?_
    refine (AllReadyH.cons rfl (fun K hK => ?_) AllReadyH.nil)
    go_simp
    (with_reducible refine (H4.out _).mono ?_); rintro r wq hrf; obtain ⟨A10, c10, rfl, hf⟩ := hrf.toP; have Mq := Lib.hid (Mq.out.addr hf); clear hrf hf
    go_wp2_with fail
    refine hK.out _ _ (by exact HCE.out _ _ _ Mq.out) (fun hHeld => ?_)
    clear hK K
    refine wpAnyH_ready (rs := [10]) (by kernel_rfl) (by simp) ?_
    refine (AllReadyH.cons rfl (fun K hK => ?_) AllReadyH.nil)
    refine step_appEP rfl _ _ 26 rfl [_] Mq.out el_u8 rfl _ A10 2 c10 (by8 (numB 2 (L : Int))) rfl (Mq.out.src (Mq.out.rowSrc (List.mem_cons_self ..))) (by8_one _) (by unfold maxLen; have := HN3.out; have := HN5.out; have := HN7.out; have := HN9.out; omega) (by have := HN3.out; have := HN5.out; have := HN7.out; have := HN9.out; omega) ?_; intro A11 c11 w11 N11 X11 hn11 hx11 mq; have Mq := Lib.hid mq.dropr; have HN11 := Lib.hid hn11; have HX11 := Lib.hid hx11; clear mq hn11 hx11
    refine hK.out _ _ (by exact HCE.out _ _ _ Mq.out) (fun hHeld => ?_)
    clear hK K
    (try (change wpAnyH _ _ _ _ _ _ _ (Act.put _ (some 32) _) _; simp only [Act.put, List.setIfInBounds_toArray, List.set_cons_zero, List.set_cons_succ, Array.toArray_toList]))
    refine wpAnyH_take (i := 11) (v := ?_) rfl (by kernel_rfl) (by kernel_rfl) (by kernel_rfl) (fun _ _ _ h => h) (Or.inl ⟨by rfl, ?_⟩) (by assumption) ?_
    rotate_left
    · intro w hSw; (try dsimp only at hSw); go_split_ands; go_simp; with_reducible rfl
    change wpAnyH _ _ _ _ _ _ _ (Act.put _ (some 3) _) _
    simp only [Act.put, List.setIfInBounds_toArray, List.set_cons_zero, List.set_cons_succ, Array.toArray_toList]
    refine wpAnyH_done (by kernel_rfl) ?_ _
    clear hHeld K0
    obtain ⟨k0, k1, k2, k3, k4, k5, k6, k7, k8⟩ := HCE.out _ _ _ Mq.out
    go_wp2_with (at_builtin; refine wpList_appEP rfl _ _ 26 rfl [] Mq.out el_u8 rfl _ p.A L p.cp (by8 p.l) rfl (HSB.out _ _ _ Mq.out) (by8_one _) (by unfold maxLen; have := HN3.out; have := HN5.out; have := HN7.out; have := HN9.out; have := HN11.out; have := HL5.out; omega) (by have := HN3.out; have := HN5.out; have := HN7.out; have := HN9.out; have := HN11.out; have := HL5.out; omega) ?_; intro A13 c13 w13 N13 X13 hn13 hx13 mq; have Mr := Lib.hid mq; have HN13 := Lib.hid (show N13 = 20 + L by have := HN3.out; have := HN5.out; have := HN7.out; have := HN9.out; have := HN11.out; omega); have HX13 := Lib.hid (show X13 = by8 (hdB p) by rw [hx13, HX11.out, HX9.out, HX7.out, HX5.out, HX3.out]; exact HHD.out); clear mq hn13 hx13)
    go_ret
    refine ⟨.slice A13 N13 c13, rfl, Mr.out.bel, ?_⟩
    have h := Mr.out.row []
    rw [HX13.out, HN13.out] at h
    rw [HN13.out]
    exact h
end Go.Proofs.Ytnbemfceoianiaa
