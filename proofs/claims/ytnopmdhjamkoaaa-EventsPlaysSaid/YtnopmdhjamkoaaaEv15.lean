/- Contracts of the document's 27th chapter: Put, Sees, Read; the law's Same. -/
import Derived.Test.YtnopmdhjamkoaaaEv14
namespace Go.Proofs.Ytnopmdhjamkoaaa
set_option linter.unusedVariables false
set_option linter.unusedSimpArgs false
open Go.RowKit

abbrev rfRow (A : Option Addr) (n c : Nat) (l : List Ev) : Ro := ⟨31, 4, .slice A n c, n, evs l⟩
theorem el_ref : El Try.prog 22 31 4 32 := El.of Try.underlying22 (z := .agg #[.int .i64 0, .int .i64 0, .int .i64 0, .int .i64 0]) (by kernel_rfl) rfl (by decide)
theorem Mst.emptyQ {W w w2 : World} {bl : Bl} {ow : List Ro} {e : TypeId} {size : Nat} (h : Mst W w bl ow) (hw : w.alloc (.cells #[] e) = w2) : ∃ g, w.heap.size = g ∧ Mst W w2 bl (⟨e, size, .slice (some ⟨g, 0, none⟩) 0 0, 0, []⟩ :: ow) := by
  subst hw
  have := h.newrow e size 0 0 #[] (Nat.le_refl _) (by decide) (by simp)
  simp only [Nat.zero_mul, List.take_zero] at this
  exact ⟨_, rfl, this⟩
/-- One more, if it is right, and there is room. -/
def putM (l : List Ev) (e : Ev) : List Ev := if e.chk ≠ 0 then l else if l.length = 128 then l else l ++ [e]
theorem putE_M (s : List Ev × Nat) (e : Ev) : (putE s e).1 = putM s.1 e := by
  unfold putE putM
  (repeat' split) <;> rfl

theorem refput_end {W w : World} {bl : Bl} {ow : List Ro} {x1 x2 : Nat × TypeId × Array Value} {y : Ro} {A5 : Option Addr} {N5 c5 : Nat} {X5 X2 : List Value} {l : List Ev} {et ek ei er : Int} (h : Mst W w (x1 :: x2 :: bl) (⟨31, 4, .slice A5 N5 c5, N5, X5⟩ :: y :: ow))
    (h5 : X5 = X2 ++ [.int .i64 et, .int .i64 ek, .int .i64 ei, .int .i64 er]) (h2 : X2 = [] ++ evs l) : Mst W w bl (rfRow A5 N5 c5 (l ++ [⟨et, ek, ei, er⟩]) :: ow) := by
  have hx : evs (l ++ [⟨et, ek, ei, er⟩]) = X5 := by rw [h5, h2, evs_snoc]; rfl
  show Mst W w bl (⟨31, 4, .slice A5 N5 c5, N5, evs (l ++ [⟨et, ek, ei, er⟩])⟩ :: ow)
  rw [hx]
  exact h.sub ((List.sublist_cons_self _ _).trans (List.sublist_cons_self _ _)) ((List.sublist_cons_self _ _).cons_cons _)
set_option maxRecDepth 100000 in
set_option maxHeartbeats 1600000 in
theorem refput27_any (W w : World) (bl : Bl) (ow : List Ro) (A : Option Addr) (c : Nat) (l : List Ev) (hM : Mst W w bl (rfRow A l.length c l :: ow)) (hn : l.length ≤ 128) (e : Ev) :
    Calls Try.prog 13 #[.slice A l.length c, .agg #[.int .i64 e.t, .int .i64 e.k, .int .i64 e.i, .int .i64 e.r]] w fun r w' => ∃ A' n' c', r = .returned (.slice A' n' c') ∧ n' = (putM l e).length ∧ Mst W w' bl (rfRow A' n' c' (putM l e) :: ow) := by
  obtain ⟨n, hN⟩ : ∃ n, l.length = n := ⟨_, rfl⟩
  obtain ⟨et, ek, ei, er⟩ := e
  rw [hN] at hM hn ⊢
  have HN := Lib.hid hN
  have Mq := Lib.hid (hM.new 31 #[.int .i64 et, .int .i64 ek, .int .i64 ei, .int .i64 er])
  have hck := fun w' => refcheck27_any et ek ei er w'
  obtain ⟨ck, hc⟩ : ∃ v, evC et ek ei er = v := ⟨_, rfl⟩
  simp only [hc] at hck
  have HCK := Lib.hid hck
  have HC := Lib.hid hc
  have HS := Lib.hid (show ∀ w' bl' ow', Mst W w' bl' ow' → rfRow A n c l ∈ ow' → Rd w' w'.heap.size 4 A n (evs l) from fun w' bl' ow' h hm => h.src (h.rowSrc hm))
  have hn1 : (n : Int) ≤ 128 := by omega
  have hn2 : (0 : Int) ≤ n := by omega
  have HW := Lib.hid (show w.heap.size = w.heap.size from rfl)
  clear hM hN hck hc
  go_enter Try.func13, Try.ntmps13
  have c0 := (Mq.out.blk []).cell 0
  have c1 := (Mq.out.blk []).cell 1
  have c2 := (Mq.out.blk []).cell 2
  have c3 := (Mq.out.blk []).cell 3
  simp only [List.getElem?_toArray, List.getElem?_cons_zero, List.getElem?_cons_succ] at c0 c1 c2 c3
  go_wp2_with fail
  refine (HCK.out _).mono ?_
  rintro r w1 ⟨rfl, hb⟩
  have Mq := Lib.hid (Mq.out.below hb)
  clear hb c0 c1 c2 c3
  by_cases h0 : ck = 0
  · subst h0
    by_cases hfull : n = 128
    · have HP := Lib.hid (show putM l ⟨et, ek, ei, er⟩ = l by unfold putM; rw [if_neg (by simpa [Ev.chk] using HC.out), if_pos (by rw [HN.out, hfull])])
      subst hfull
      go_wp2
      go_ret
      exact ⟨A, 128, c, rfl, by rw [HP.out]; exact HN.out.symm, by rw [HP.out]; exact Mq.out.dropb⟩
    · have HP := Lib.hid (show putM l ⟨et, ek, ei, er⟩ = l ++ [⟨et, ek, ei, er⟩] by unfold putM; rw [if_neg (by simpa [Ev.chk] using HC.out), if_neg (by rw [HN.out]; exact hfull)])
      have j1 : (n : Int) < 128 := by omega
      have HCE := Lib.hid (show ∀ w' bl' ow', Mst W w' bl' ow' → (w.heap.size, 31, #[.int .i64 et, .int .i64 ek, .int .i64 ei, .int .i64 er]) ∈ bl' → w'.cell? ⟨w.heap.size, 0, none⟩ = some (.int .i64 et) ∧ w'.cell? ⟨w.heap.size, 1, none⟩ = some (.int .i64 ek) ∧ w'.cell? ⟨w.heap.size, 2, none⟩ = some (.int .i64 ei) ∧ w'.cell? ⟨w.heap.size, 3, none⟩ = some (.int .i64 er) from fun w' bl' ow' h hm => ⟨(h.bk _ hm).1.cell 0, (h.bk _ hm).1.cell 1, (h.bk _ hm).1.cell 2, (h.bk _ hm).1.cell 3⟩)
      have K0 := Lib.hid (HCE.out _ _ _ Mq.out.drew (List.mem_cons_self ..))
      clear hfull
      go_upto_region 3 with fail
      refine wp_region_held_drew (S := fun w' => w'.cell? ⟨w.heap.size, 0, none⟩ = some (.int .i64 et) ∧ w'.cell? ⟨w.heap.size, 1, none⟩ = some (.int .i64 ek) ∧ w'.cell? ⟨w.heap.size, 2, none⟩ = some (.int .i64 ei) ∧ w'.cell? ⟨w.heap.size, 3, none⟩ = some (.int .i64 er)) (by kernel_rfl) ?_ (fun hHeld => ?_)
      · exact K0.out
      generalize hw7 : World.drew _ = w7 at hHeld ⊢
      have Mq := Lib.hid (Mq.out.drew.toV hw7 rfl)
      clear hw7
      refine wpAnyH_take (i := 1) (v := ?_) rfl (by kernel_rfl) (by kernel_rfl) (by kernel_rfl) (fun _ _ _ h => h) (Or.inl ⟨by rfl, ?_⟩) (by assumption) ?_
      rotate_left
      · intro w hSw; (try dsimp only at hSw); go_split_ands; go_simp; with_reducible rfl
      change wpAnyH _ _ _ _ _ _ _ (Act.put _ (some 15) _) _
      simp only [Act.put, List.setIfInBounds_toArray, List.set_cons_zero, List.set_cons_succ, Array.toArray_toList]
      refine wpAnyH_take (i := 3) (v := ?_) rfl (by kernel_rfl) (by kernel_rfl) (by kernel_rfl) (fun _ _ _ h => h) (Or.inl ⟨by rfl, ?_⟩) (by assumption) ?_
      rotate_left
      · intro w hSw; (try dsimp only at hSw); go_split_ands; go_simp; with_reducible rfl
      change wpAnyH _ _ _ _ _ _ _ (Act.put _ (some 17) _) _
      simp only [Act.put, List.setIfInBounds_toArray, List.set_cons_zero, List.set_cons_succ, Array.toArray_toList]
      refine wpAnyH_ready (rs := [0, 4]) (by kernel_rfl) (by simp) ?_
      refine (AllReadyH.cons rfl (fun K hK => ?_) (AllReadyH.cons rfl (fun K hK => ?_) AllReadyH.nil))
      · skip
        go_simp; generalize hwq : World.alloc _ _ = wq; obtain ⟨g0, hg0, mq⟩ := Mq.out.emptyQ (size := 4) hwq; rw [hg0]; have Mq := Lib.hid mq; clear hwq hg0 mq
        refine hK.out _ _ (by exact HCE.out _ _ _ Mq.out (by simp)) (fun hHeld => ?_)
        clear hK K
        refine wpAnyH_ready (rs := [2, 4]) (by kernel_rfl) (by simp) ?_
        refine (AllReadyH.cons rfl (fun K hK => ?_) (AllReadyH.cons rfl (fun K hK => ?_) AllReadyH.nil))
        · skip
          refine step_appE rfl _ _ 22 rfl [] Mq.out el_ref rfl _ A n c (evs l) rfl (HS.out _ _ _ Mq.out (by simp)) (evs_one l) (by unfold maxLen; omega) (by omega) ?_; intro A2 c2 w8 N2 X2 hn2 hx2 mq; have Mq := Lib.hid mq; have HN2 := Lib.hid hn2; have HX2 := Lib.hid hx2; clear mq hn2 hx2
          refine hK.out _ _ (by exact HCE.out _ _ _ Mq.out (by simp)) (fun hHeld => ?_)
          clear hK K
          (try (change wpAnyH _ _ _ _ _ _ _ (Act.put _ (some 16) _) _; simp only [Act.put, List.setIfInBounds_toArray, List.set_cons_zero, List.set_cons_succ, Array.toArray_toList]))
          refine wpAnyH_ready (rs := [4]) (by kernel_rfl) (by simp) ?_
          refine (AllReadyH.cons rfl (fun K hK => ?_) AllReadyH.nil)
          go_simp; generalize hwq : World.alloc _ _ = wq; obtain ⟨g4, hg4, mq⟩ := Mq.out.newX hwq; rw [hg4]; have Mq := Lib.hid mq; clear hwq hg4 mq
          refine hK.out _ _ (by exact HCE.out _ _ _ Mq.out (by simp)) (fun hHeld => ?_)
          clear hK K
          refine wpAnyH_ready (rs := [5]) (by kernel_rfl) (by simp) ?_
          refine (AllReadyH.cons rfl (fun K hK => ?_) AllReadyH.nil)
          have h2 := HN2.out; refine step_appE rfl _ _ 22 rfl [] Mq.out el_ref rfl _ (some ⟨g4, 0, none⟩) 1 1 [.int .i64 et, .int .i64 ek, .int .i64 ei, .int .i64 er] rfl (Mq.out.src (Src.blk (n := 1) (size := 4) (by first | exact List.mem_cons_self .. | simp) rfl)) (ev_one _ _ _ _) (by unfold maxLen; omega) (by omega) ?_; clear h2; intro A5 c5 w9 N5 X5 hn5 hx5 mq; have Mq := Lib.hid mq; have HN5 := Lib.hid hn5; have HX5 := Lib.hid hx5; clear mq hn5 hx5
          refine hK.out _ _ (by exact HCE.out _ _ _ Mq.out (by simp)) (fun hHeld => ?_)
          clear hK K
          (try (change wpAnyH _ _ _ _ _ _ _ (Act.put _ (some 19) _) _; simp only [Act.put, List.setIfInBounds_toArray, List.set_cons_zero, List.set_cons_succ, Array.toArray_toList]))
          refine wpAnyH_take (i := 6) (v := ?_) rfl (by kernel_rfl) (by kernel_rfl) (by kernel_rfl) (fun _ _ _ h => h) (Or.inl ⟨by rfl, ?_⟩) (by assumption) ?_
          rotate_left
          · intro w hSw; (try dsimp only at hSw); go_split_ands; go_simp; with_reducible rfl
          change wpAnyH _ _ _ _ _ _ _ (Act.put _ (some 4) _) _
          simp only [Act.put, List.setIfInBounds_toArray, List.set_cons_zero, List.set_cons_succ, Array.toArray_toList]
          refine wpAnyH_done (by kernel_rfl) ?_ _
          clear hHeld K0
          go_wp2
          go_ret
          refine ⟨A5, N5, c5, rfl, ?_, ?_⟩
          · rw [HP.out, List.length_append, HN.out, HN5.out, HN2.out]; simp
          · rw [HP.out]; exact refput_end Mq.out HX5.out HX2.out
        · skip
          go_simp; generalize hwq : World.alloc _ _ = wq; obtain ⟨g4, hg4, mq⟩ := Mq.out.newX hwq; rw [hg4]; have Mq := Lib.hid mq; clear hwq hg4 mq
          refine hK.out _ _ (by exact HCE.out _ _ _ Mq.out (by simp)) (fun hHeld => ?_)
          clear hK K
          refine wpAnyH_ready (rs := [2]) (by kernel_rfl) (by simp) ?_
          refine (AllReadyH.cons rfl (fun K hK => ?_) AllReadyH.nil)
          refine step_appE rfl _ _ 22 rfl [] Mq.out el_ref rfl _ A n c (evs l) rfl (HS.out _ _ _ Mq.out (by simp)) (evs_one l) (by unfold maxLen; omega) (by omega) ?_; intro A2 c2 w8 N2 X2 hn2 hx2 mq; have Mq := Lib.hid mq; have HN2 := Lib.hid hn2; have HX2 := Lib.hid hx2; clear mq hn2 hx2
          refine hK.out _ _ (by exact HCE.out _ _ _ Mq.out (by simp)) (fun hHeld => ?_)
          clear hK K
          (try (change wpAnyH _ _ _ _ _ _ _ (Act.put _ (some 16) _) _; simp only [Act.put, List.setIfInBounds_toArray, List.set_cons_zero, List.set_cons_succ, Array.toArray_toList]))
          refine wpAnyH_ready (rs := [5]) (by kernel_rfl) (by simp) ?_
          refine (AllReadyH.cons rfl (fun K hK => ?_) AllReadyH.nil)
          have h2 := HN2.out; refine step_appE rfl _ _ 22 rfl [] Mq.out el_ref rfl _ (some ⟨g4, 0, none⟩) 1 1 [.int .i64 et, .int .i64 ek, .int .i64 ei, .int .i64 er] rfl (Mq.out.src (Src.blk (n := 1) (size := 4) (by first | exact List.mem_cons_self .. | simp) rfl)) (ev_one _ _ _ _) (by unfold maxLen; omega) (by omega) ?_; clear h2; intro A5 c5 w9 N5 X5 hn5 hx5 mq; have Mq := Lib.hid mq; have HN5 := Lib.hid hn5; have HX5 := Lib.hid hx5; clear mq hn5 hx5
          refine hK.out _ _ (by exact HCE.out _ _ _ Mq.out (by simp)) (fun hHeld => ?_)
          clear hK K
          (try (change wpAnyH _ _ _ _ _ _ _ (Act.put _ (some 19) _) _; simp only [Act.put, List.setIfInBounds_toArray, List.set_cons_zero, List.set_cons_succ, Array.toArray_toList]))
          refine wpAnyH_take (i := 6) (v := ?_) rfl (by kernel_rfl) (by kernel_rfl) (by kernel_rfl) (fun _ _ _ h => h) (Or.inl ⟨by rfl, ?_⟩) (by assumption) ?_
          rotate_left
          · intro w hSw; (try dsimp only at hSw); go_split_ands; go_simp; with_reducible rfl
          change wpAnyH _ _ _ _ _ _ _ (Act.put _ (some 4) _) _
          simp only [Act.put, List.setIfInBounds_toArray, List.set_cons_zero, List.set_cons_succ, Array.toArray_toList]
          refine wpAnyH_done (by kernel_rfl) ?_ _
          clear hHeld K0
          go_wp2
          go_ret
          refine ⟨A5, N5, c5, rfl, ?_, ?_⟩
          · rw [HP.out, List.length_append, HN.out, HN5.out, HN2.out]; simp
          · rw [HP.out]; exact refput_end Mq.out HX5.out HX2.out
      · skip
        go_simp; generalize hwq : World.alloc _ _ = wq; obtain ⟨g4, hg4, mq⟩ := Mq.out.newX hwq; rw [hg4]; have Mq := Lib.hid mq; clear hwq hg4 mq
        refine hK.out _ _ (by exact HCE.out _ _ _ Mq.out (by simp)) (fun hHeld => ?_)
        clear hK K
        refine wpAnyH_ready (rs := [0]) (by kernel_rfl) (by simp) ?_
        refine (AllReadyH.cons rfl (fun K hK => ?_) AllReadyH.nil)
        go_simp; generalize hwq : World.alloc _ _ = wq; obtain ⟨g0, hg0, mq⟩ := Mq.out.emptyQ (size := 4) hwq; rw [hg0]; have Mq := Lib.hid mq; clear hwq hg0 mq
        refine hK.out _ _ (by exact HCE.out _ _ _ Mq.out (by simp)) (fun hHeld => ?_)
        clear hK K
        refine wpAnyH_ready (rs := [2]) (by kernel_rfl) (by simp) ?_
        refine (AllReadyH.cons rfl (fun K hK => ?_) AllReadyH.nil)
        refine step_appE rfl _ _ 22 rfl [] Mq.out el_ref rfl _ A n c (evs l) rfl (HS.out _ _ _ Mq.out (by simp)) (evs_one l) (by unfold maxLen; omega) (by omega) ?_; intro A2 c2 w8 N2 X2 hn2 hx2 mq; have Mq := Lib.hid mq; have HN2 := Lib.hid hn2; have HX2 := Lib.hid hx2; clear mq hn2 hx2
        refine hK.out _ _ (by exact HCE.out _ _ _ Mq.out (by simp)) (fun hHeld => ?_)
        clear hK K
        (try (change wpAnyH _ _ _ _ _ _ _ (Act.put _ (some 16) _) _; simp only [Act.put, List.setIfInBounds_toArray, List.set_cons_zero, List.set_cons_succ, Array.toArray_toList]))
        refine wpAnyH_ready (rs := [5]) (by kernel_rfl) (by simp) ?_
        refine (AllReadyH.cons rfl (fun K hK => ?_) AllReadyH.nil)
        have h2 := HN2.out; refine step_appE rfl _ _ 22 rfl [] Mq.out el_ref rfl _ (some ⟨g4, 0, none⟩) 1 1 [.int .i64 et, .int .i64 ek, .int .i64 ei, .int .i64 er] rfl (Mq.out.src (Src.blk (n := 1) (size := 4) (by first | exact List.mem_cons_self .. | simp) rfl)) (ev_one _ _ _ _) (by unfold maxLen; omega) (by omega) ?_; clear h2; intro A5 c5 w9 N5 X5 hn5 hx5 mq; have Mq := Lib.hid mq; have HN5 := Lib.hid hn5; have HX5 := Lib.hid hx5; clear mq hn5 hx5
        refine hK.out _ _ (by exact HCE.out _ _ _ Mq.out (by simp)) (fun hHeld => ?_)
        clear hK K
        (try (change wpAnyH _ _ _ _ _ _ _ (Act.put _ (some 19) _) _; simp only [Act.put, List.setIfInBounds_toArray, List.set_cons_zero, List.set_cons_succ, Array.toArray_toList]))
        refine wpAnyH_take (i := 6) (v := ?_) rfl (by kernel_rfl) (by kernel_rfl) (by kernel_rfl) (fun _ _ _ h => h) (Or.inl ⟨by rfl, ?_⟩) (by assumption) ?_
        rotate_left
        · intro w hSw; (try dsimp only at hSw); go_split_ands; go_simp; with_reducible rfl
        change wpAnyH _ _ _ _ _ _ _ (Act.put _ (some 4) _) _
        simp only [Act.put, List.setIfInBounds_toArray, List.set_cons_zero, List.set_cons_succ, Array.toArray_toList]
        refine wpAnyH_done (by kernel_rfl) ?_ _
        clear hHeld K0
        go_wp2
        go_ret
        refine ⟨A5, N5, c5, rfl, ?_, ?_⟩
        · rw [HP.out, List.length_append, HN.out, HN5.out, HN2.out]; simp
        · rw [HP.out]; exact refput_end Mq.out HX5.out HX2.out
  · have HP := Lib.hid (show putM l ⟨et, ek, ei, er⟩ = l by unfold putM; rw [if_pos (by simpa [Ev.chk, HC.out] using h0)])
    have j1 : (ck != 0) = true := by simpa using h0
    clear h0
    go_wp2
    go_ret
    exact ⟨A, n, c, rfl, by rw [HP.out]; exact HN.out.symm, by rw [HP.out]; exact Mq.out.dropb⟩

theorem div_pow27 (m k : Nat) : (m / 2 ^ k) / 2 = m / 2 ^ (k + 1) := by rw [Nat.div_div_eq_div_mul, Nat.pow_succ]
theorem bit_mod27 (m k : Nat) : (((m / 2 ^ k : Nat) : Int) % 2 == 1) = m.testBit k := by
  rw [Nat.testBit_eq_decide_div_mod_eq, Bool.eq_iff_iff]
  simp only [beq_iff_eq, decide_eq_true_eq]
  omega
set_option maxRecDepth 100000 in
set_option maxHeartbeats 1600000 in
theorem bit27_is (m k : Nat) (v : Bool) (h : m.testBit k = v) (hm : m < 256) (hk : k < 8) (w : World) :
    Calls Try.prog 29 #[.int .i64 m, .int .i64 k] w fun e w' => e = .returned (.bool v) ∧ w = w' := by
  have HV := Lib.hid h
  clear h
  go_enter Try.func29, Try.ntmps29
  go_wp2_with fail
  go_loopg [0, 5] k (fun gg s0 s5 wr => ∃ j : Nat, j + gg = k ∧ s5 = .int .i64 j ∧ s0 = .int .i64 (m / 2 ^ j : Nat) ∧ w = wr)
  case atStart => exact ⟨0, by omega, rfl, by simp, rfl⟩
  case round =>
    obtain ⟨j, hj, rfl, rfl, rfl⟩ := hrel
    obtain ⟨q, hq⟩ : ∃ q, m / 2 ^ j = q := ⟨_, rfl⟩
    have hq2 : q < 256 := by rw [← hq]; exact Nat.lt_of_le_of_lt (Nat.div_le_self _ _) hm
    have HQ := Lib.hid hq
    rw [hq]
    clear hq
    by_cases hlt : j < k
    · have HN := Lib.hid (show m / 2 ^ (j + 1) = q / 2 by rw [← HQ.out, div_pow27])
      go_wp2_with fail
      go_roundg (k - (j + 1))
      case measure => exact meas hj hlt
      case rel => exact ⟨j + 1, meas2 hlt, by go_num, by rw [HN.out]; first | rfl | simp, rfl⟩
    · obtain rfl : j = k := by omega
      have hb := bit_mod27 m j
      rw [HV.out, HQ.out] at hb
      go_wp2_with fail
      go_ret
      exact ⟨rfl, rfl⟩
/-- Is one with a mask told of it? -/
def seeB (m : Nat) (e : Ev) : Bool := !(e.k == 4) || m.testBit e.r.toNat
set_option maxRecDepth 100000 in
set_option maxHeartbeats 1600000 in
theorem sees27_any (m : Nat) (hm : m < 256) (e : Ev) (hr0 : 0 ≤ e.r) (hr8 : e.r < 8) (w : World) :
    Calls Try.prog 22 #[.int .i64 m, .agg #[.int .i64 e.t, .int .i64 e.k, .int .i64 e.i, .int .i64 e.r]] w fun r w' => r = .returned (.bool (seeB m e)) ∧ Below w.heap.size w w' := by
  obtain ⟨et, ek, ei, er⟩ := e
  simp only at hr0 hr8
  obtain ⟨R, rfl⟩ := Int.eq_ofNat_of_zero_le hr0
  have HB := Lib.hid ((Below.refl w.heap.size w).alloc (Nat.le_refl _) (.cells #[.int .i64 et, .int .i64 ek, .int .i64 ei, .int .i64 (R : Int)] 31))
  obtain ⟨v, hv⟩ : ∃ v, m.testBit R = v := ⟨_, rfl⟩
  have HT := Lib.hid (fun w' => bit27_is m R v hv hm (by omega) w')
  have HV := Lib.hid hv
  clear hv hr8 hm
  by_cases hk : ek = 4
  · subst hk
    go_enter Try.func22, Try.ntmps22
    go_wp2_with fail
    refine (HT.out _).mono ?_
    rintro r w2 ⟨rfl, rfl⟩
    go_wp2
    go_ret
    exact ⟨by simp [seeB, HV.out], HB.out⟩
  · have f1 : (ek != 4) = true := by simpa using hk
    have f2 : (ek == 4) = false := by simpa using hk
    clear hk
    go_enter Try.func22, Try.ntmps22
    go_wp2
    go_ret
    exact ⟨by simp [seeB, f2], HB.out⟩
end Go.Proofs.Ytnopmdhjamkoaaa
