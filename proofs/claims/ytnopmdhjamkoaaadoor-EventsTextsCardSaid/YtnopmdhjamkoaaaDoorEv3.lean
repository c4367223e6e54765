/- Contracts of package events: Log.Put. -/
import Derived.Test.YtnopmdhjamkoaaaDoorEv2
import Derived.Test.YtnopmdhjamkoaaaDoorExtE
import Derived.Deep.RegionHeld3
import Derived.Deep.DeepCutAuto
namespace Go.Proofs.YtnopmdhjamkoaaaDoor
set_option linter.unusedVariables false
set_option linter.unusedSimpArgs false
open Go.RowKit

theorem el_event : El Tryd.prog 33 30 4 32 := El.of Tryd.underlying33 (z := .agg #[.int .i64 0, .int .i64 0, .int .i64 0, .int .i64 0]) (by kernel_rfl) rfl (by decide)
theorem srcE {W w : World} {bl : Bl} {ow : List Ro} {A : Option Addr} {l : List Ev} (h : Mst W w bl ow) (hs : Src W bl ow 4 A l.length (evs l)) {k : Nat} {e : Ev} (hk : l[k]? = some e) :
    ∃ b o, A = some ⟨b, o, none⟩ ∧ b < w.heap.size ∧ w.cell? ⟨b, o + k * 4, none⟩ = some (.int .i64 e.t) ∧ w.cell? ⟨b, o + k * 4 + 1, none⟩ = some (.int .i64 e.k) ∧ w.cell? ⟨b, o + k * 4 + 2, none⟩ = some (.int .i64 e.i) ∧ w.cell? ⟨b, o + k * 4 + 3, none⟩ = some (.int .i64 e.r) := by
  have hlt := (List.getElem?_eq_some_iff.1 hk).1
  obtain ⟨b, o, e', hb, hc⟩ := (h.src hs).2 (by omega)
  obtain ⟨h1, h2, h3, h4⟩ := evs_get hk
  exact ⟨b, o, e', hb, hc _ _ h1, by rw [Nat.add_assoc]; exact hc _ _ h2, by rw [Nat.add_assoc]; exact hc _ _ h3, by rw [Nat.add_assoc]; exact hc _ _ h4⟩

theorem putsE_lost (s : List Ev × Nat) : ∀ l : List Ev, (putsE s l).2 ≤ s.2 + l.length
  | [] => by simp [putsE]
  | e :: l => by
    have ih := putsE_lost (putE s e) l
    have h : (putE s e).2 ≤ s.2 + 1 := by
      unfold putE
      (repeat' split) <;> simp
    simp only [putsE, List.foldl_cons, List.length_cons] at ih ⊢
    omega
theorem putsE_len (s : List Ev × Nat) (h : s.1.length ≤ 128) : ∀ l : List Ev, (putsE s l).1.length ≤ 128 ∧ s.1.length ≤ (putsE s l).1.length
  | [] => by simp [putsE]; exact h
  | e :: l => by
    have h1 := putE_len s e h
    have ih := putsE_len (putE s e) h1 l
    have h2 : s.1.length ≤ (putE s e).1.length := by
      unfold putE
      (repeat' split) <;> simp
    simp only [putsE, List.foldl_cons] at ih ⊢
    exact ⟨ih.1, by omega⟩
theorem evs_snoc (l : List Ev) (e : Ev) : evs (l ++ [e]) = evs l ++ e.cs := by simp [evs]
theorem ev_one (a b c d : Int) : ∀ u ∈ [Value.int .i64 a, .int .i64 b, .int .i64 c, .int .i64 d], u.oneCell' = true := by simp [Value.oneCell']

theorem ev_end {W w : World} {bl : Bl} {ow : List Ro} {g q c N : Nat} {A : Option Addr} {s2 st : List Ev × Nat} {lo : Nat} {et ek ei er : Int} {X : List Value} {x : Nat × TypeId × Array Value} {y : Ro} {s : List Ev × Nat} {l : List Ev}
    (h : Mst W w (x :: (g, 83, #[.slice A N c, .int .i64 lo]) :: bl) (⟨30, 4, .slice A N c, N, X⟩ :: y :: ow)) (hN : N = q + 1) (hX : X = evs st.1 ++ [.int .i64 et, .int .i64 ek, .int .i64 ei, .int .i64 er])
    (h1 : putsE s l = s2) (h2 : s2 = (st.1 ++ [⟨et, ek, ei, er⟩], st.2)) (hq : st.1.length = q) (hlo : st.2 = lo) : Lg W w bl ow g (putsE s l) (.slice A N c) := by
  rw [h1, h2]
  unfold Lg
  simp only
  rw [evs_snoc, List.length_append, hq, hlo]
  subst hN hX
  exact h.sub (List.sublist_cons_self _ _) ((List.sublist_cons_self _ _).cons_cons _)
set_option maxRecDepth 100000 in
set_option maxHeartbeats 3200000 in
theorem evput_any (W w : World) (bl : Bl) (ow : List Ro) (g : Nat) (s : List Ev × Nat) (hW : LgAt W bl ow g s w) (l : List Ev) (A : Option Addr) (c : Nat) (hl : Src W bl ow 4 A l.length (evs l)) (h128 : s.1.length ≤ 128) (hlost : s.2 + l.length ≤ 1000000) :
    Calls Tryd.prog 14 #[.pointer (some ⟨g, 0, none⟩), .slice A l.length c] w fun e w' => e = .returned (.int .i64 (((putsE s l).1.length : Int) - s.1.length)) ∧ LgAt W bl ow g (putsE s l) w' := by
  have H0 := Lib.hid hW
  have H1 := Lib.hid hl
  obtain ⟨n, hn⟩ : ∃ n, l.length = n := ⟨_, rfl⟩
  have HN := Lib.hid hn
  rw [hn] at hlost ⊢
  obtain ⟨q0, hq0⟩ : ∃ q, s.1.length = q := ⟨_, rfl⟩
  have HQ0 := Lib.hid hq0
  rw [hq0] at h128 ⊢
  clear hW hl hn hq0
  go_enter Tryd.func14, Tryd.ntmps14
  go_wp2_with fail
  go_step3
  go_wp2_with fail
  go_step3
  go_wp2_with fail
  go_loopg [5, 12] n (fun gg s5 s12 wr => ∃ (k q : Nat), k + gg = n ∧ s12 = .int .i64 k ∧ s5 = .int .i64 ((q : Int) - q0) ∧ Hid ((putsE s (l.take k)).1.length = q) ∧ LgAt W bl ow g (putsE s (l.take k)) wr)
  case atStart => exact ⟨0, q0, by omega, rfl, by rw [Int.sub_self], Lib.hid (by simpa [putsE] using HQ0.out), H0.out⟩
  case round =>
    obtain ⟨k, q, hk, rfl, rfl, hq, vk, hr⟩ := hrel
    by_cases hlt : k < n
    · obtain ⟨e, he⟩ : ∃ e, l[k]? = some e := ⟨_, List.getElem?_eq_getElem (by rw [HN.out]; exact hlt)⟩
      have hst := putsE_snoc s l k e he
      have hlen := putsE_len s (by rw [HQ0.out]; exact h128) (l.take k)
      have hlo := putsE_lost s (l.take k)
      rw [List.length_take] at hlo
      obtain ⟨b, o, rfl, hb, p0, p1, p2, p3⟩ := srcE (hr.sub (List.sublist_cons_self _ _) (List.sublist_cons_self _ _)) H1.out he
      obtain ⟨st, hS⟩ : ∃ st, putsE s (l.take k) = st := ⟨_, rfl⟩
      rw [hS] at hst hlen hlo hr hq
      obtain ⟨lo, hlo1⟩ : ∃ lo, st.2 = lo := ⟨_, rfl⟩
      rw [hq.out, HQ0.out] at hlen
      rw [hlo1] at hlo
      unfold Lg at hr
      rw [hq.out, hlo1] at hr
      obtain ⟨Av, cv, rfl, -, -, hqc, -⟩ := own_form (hr.row [])
      have HQ := Lib.hid hq.out
      have HLO := Lib.hid hlo1
      have HST := Lib.hid hst
      obtain ⟨et, ek, ei, er⟩ := e
      have hck := fun w' => evcheck_any et ek ei er w'
      obtain ⟨ck, hc⟩ : ∃ v, evC et ek ei er = v := ⟨_, rfl⟩
      simp only [hc] at hck
      have HCK := Lib.hid hck
      have HC := Lib.hid hc
      simp only at p0 p1 p2 p3
      have i1 : (k : Int) < n := by omega
      have i2 : (0 : Int) ≤ k := by omega
      have i3 : (n : Int) ≤ 1000000 := by omega
      have i4 : (lo : Int) ≤ 1000000 := by omega
      have i5 : (0 : Int) ≤ lo := by omega
      have i6 : (q : Int) ≤ 128 := by omega
      have i7 : (0 : Int) ≤ q0 := by omega
      have i8 : (q0 : Int) ≤ q := by omega
      have Mq := Lib.hid (hr.new 30 #[.int .i64 et, .int .i64 ek, .int .i64 ei, .int .i64 er])
      have hq128 := hlen.1
      clear hr hq hS hlo1 hst hc hck he hb hlen hlo hqc
      go_wp2_with fail
      refine (HCK.out _).mono ?_
      rintro r w1 ⟨rfl, hb⟩
      have Mq := Lib.hid (Mq.out.below hb)
      clear hb p0 p1 p2 p3
      by_cases h0 : ck = 0
      · subst h0
        by_cases hfull : q = 128
        · have HPE := Lib.hid (show putE st ⟨et, ek, ei, er⟩ = (st.1, st.2 + 1) by unfold putE; rw [if_neg (by simpa [Ev.chk] using HC.out), if_pos (by rw [HQ.out, hfull])])
          subst hfull
          have c0 := (Mq.out.blk [_]).cell 0
          have c1 := (Mq.out.blk [_]).cell 1
          have f1 := (Mq.out.blk [_]).fr 1
          simp at c0 c1
          go_wp2_with fail
          generalize hw2 : World.setCell _ _ _ = w2
          have Mr := Lib.hid ((Mq.out.put [_] 1 (.int .i64 ((lo : Int) + 1))).toV hw2 rfl)
          clear hw2 Mq c0 c1 f1
          go_roundg (n - (k + 1))
          case measure => exact meas hk hlt
          case rel => exact ⟨k + 1, 128, meas2 hlt, by go_num, rfl, Lib.hid (by rw [HST.out, HPE.out]; exact HQ.out), .slice Av 128 cv, by
            rw [HST.out, HPE.out]
            unfold Lg
            simp only
            rw [HQ.out, HLO.out]
            exact Mr.out.sub (List.sublist_cons_self _ _) (List.Sublist.refl _)⟩
        · have HPE := Lib.hid (show putE st ⟨et, ek, ei, er⟩ = (st.1 ++ [⟨et, ek, ei, er⟩], st.2) by unfold putE; rw [if_neg (by simpa [Ev.chk] using HC.out), if_neg (by rw [HQ.out]; exact hfull)])
          have j1 : ((q : Int) == 128) = false := by simp; omega
          have c0 := (Mq.out.blk [_]).cell 0
          simp at c0
          have HCE := Lib.hid (show ∀ w' gb bl' ow', Mst W w' ((wr.heap.size, 30, #[.int .i64 et, .int .i64 ek, .int .i64 ei, .int .i64 er]) :: gb :: bl') ow' → w'.cell? ⟨wr.heap.size, 0, none⟩ = some (.int .i64 et) ∧ w'.cell? ⟨wr.heap.size, 1, none⟩ = some (.int .i64 ek) ∧ w'.cell? ⟨wr.heap.size, 2, none⟩ = some (.int .i64 ei) ∧ w'.cell? ⟨wr.heap.size, 3, none⟩ = some (.int .i64 er) from fun w' gb bl' ow' h => ⟨(h.blk []).cell 0, (h.blk []).cell 1, (h.blk []).cell 2, (h.blk []).cell 3⟩)
          have K0 := Lib.hid (HCE.out _ _ _ _ Mq.out.drew)
          go_upto_region 10 with fail
          refine wp_region_held_drew (S := fun w' => w'.cell? ⟨wr.heap.size, 0, none⟩ = some (.int .i64 et) ∧ w'.cell? ⟨wr.heap.size, 1, none⟩ = some (.int .i64 ek) ∧ w'.cell? ⟨wr.heap.size, 2, none⟩ = some (.int .i64 ei) ∧ w'.cell? ⟨wr.heap.size, 3, none⟩ = some (.int .i64 er)) (by kernel_rfl) ?_ (fun hHeld => ?_)
          · exact K0.out
          generalize hw7 : World.drew _ = w7 at hHeld ⊢
          have Mq := Lib.hid (Mq.out.drew.toV hw7 rfl)
          clear hw7 c0
          refine wpAnyH_take (i := 0) (v := ?_) rfl (by kernel_rfl) (by kernel_rfl) (by kernel_rfl) (fun _ _ _ h => h) (Or.inl ⟨by rfl, ?_⟩) (by assumption) ?_
          rotate_left
          · intro w hSw; (try dsimp only at hSw); go_split_ands; go_simp; with_reducible rfl
          change wpAnyH _ _ _ _ _ _ _ (Act.put _ (some 34) _) _
          simp only [Act.put, List.setIfInBounds_toArray, List.set_cons_zero, List.set_cons_succ, Array.toArray_toList]
          refine wpAnyH_take (i := 1) (v := ?_) rfl (by kernel_rfl) (by kernel_rfl) (by kernel_rfl) (fun _ _ _ h => h) (Or.inl ⟨by rfl, ?_⟩) (by assumption) ?_
          rotate_left
          · intro w hSw; (try dsimp only at hSw); go_split_ands; go_simp; with_reducible rfl
          change wpAnyH _ _ _ _ _ _ _ (Act.put _ (some 35) _) _
          simp only [Act.put, List.setIfInBounds_toArray, List.set_cons_zero, List.set_cons_succ, Array.toArray_toList]
          refine wpAnyH_take (i := 2) (v := ?_) rfl (by kernel_rfl) (by kernel_rfl) (by kernel_rfl) (fun _ _ _ h => h) (Or.inl ⟨by rfl, ?_⟩) (by assumption) ?_
          rotate_left
          · intro w hSw; (try dsimp only at hSw); go_split_ands; go_simp; with_reducible rfl
          change wpAnyH _ _ _ _ _ _ _ (Act.put _ (some 36) _) _
          simp only [Act.put, List.setIfInBounds_toArray, List.set_cons_zero, List.set_cons_succ, Array.toArray_toList]
          refine wpAnyH_take (i := 3) (v := ?_) rfl (by kernel_rfl) (by kernel_rfl) (by kernel_rfl) (fun _ _ _ h => h) (Or.inl ⟨by rfl, ?_⟩) (by assumption) ?_
          rotate_left
          · intro w hSw; (try dsimp only at hSw); go_split_ands; go_simp; with_reducible rfl
          change wpAnyH _ _ _ _ _ _ _ (Act.put _ (some 37) _) _
          simp only [Act.put, List.setIfInBounds_toArray, List.set_cons_zero, List.set_cons_succ, Array.toArray_toList]
          refine wpAnyH_take (i := 5) (v := ?_) rfl (by kernel_rfl) (by kernel_rfl) (by kernel_rfl) (fun _ _ _ h => h) (Or.inl ⟨by rfl, ?_⟩) (by assumption) ?_
          rotate_left
          · intro w hSw; (try dsimp only at hSw); go_split_ands; go_simp; with_reducible rfl
          change wpAnyH _ _ _ _ _ _ _ (Act.put _ (some 39) _) _
          simp only [Act.put, List.setIfInBounds_toArray, List.set_cons_zero, List.set_cons_succ, Array.toArray_toList]
          refine wpAnyH_ready (rs := [4, 6]) (by kernel_rfl) (by simp) ?_
          refine (AllReadyH.cons rfl (fun K hK => ?_) (AllReadyH.cons rfl (fun K hK => ?_) AllReadyH.nil))
          · skip
            have d0 := (Mq.out.blk [_]).cell 0; simp at d0; go_simp; clear d0
            refine hK.out _ _ (by exact HCE.out _ _ _ _ Mq.out) (fun hHeld => ?_)
            clear hK K
            (try (change wpAnyH _ _ _ _ _ _ _ (Act.put _ (some 38) _) _; simp only [Act.put, List.setIfInBounds_toArray, List.set_cons_zero, List.set_cons_succ, Array.toArray_toList]))
            refine wpAnyH_ready (rs := [6]) (by kernel_rfl) (by simp) ?_
            refine (AllReadyH.cons rfl (fun K hK => ?_) AllReadyH.nil)
            go_simp; generalize hwq : World.alloc _ _ = wq; obtain ⟨g21, hg21, mq⟩ := Mq.out.row4E hwq; rw [hg21]; have Mq := Lib.hid mq; clear hwq hg21 mq
            refine hK.out _ _ (by exact HCE.out _ _ _ _ Mq.out) (fun hHeld => ?_)
            clear hK K
            refine wpAnyH_ready (rs := [7]) (by kernel_rfl) (by simp) ?_
            refine (AllReadyH.cons rfl (fun K hK => ?_) AllReadyH.nil)
            refine step_appE rfl _ _ 33 rfl [] Mq.out el_event rfl _ (some ⟨g21, 0, none⟩) 1 1 [.int .i64 et, .int .i64 ek, .int .i64 ei, .int .i64 er] rfl (Mq.out.src (Mq.out.rowSrc (List.mem_cons_of_mem _ (List.mem_cons_self ..)))) (ev_one _ _ _ _) (by unfold maxLen; omega) (by omega) ?_; intro A7 c7 w8 N7 X7 hn7 hx7 mq; have Mq := Lib.hid mq; have HN7 := Lib.hid hn7; have HX7 := Lib.hid hx7; clear mq hn7 hx7
            refine hK.out _ _ (by exact HCE.out _ _ _ _ Mq.out) (fun hHeld => ?_)
            clear hK K
            (try (change wpAnyH _ _ _ _ _ _ _ (Act.put _ (some 41) _) _; simp only [Act.put, List.setIfInBounds_toArray, List.set_cons_zero, List.set_cons_succ, Array.toArray_toList]))
            refine wpAnyH_take (i := 8) (v := ?_) rfl (by kernel_rfl) (by kernel_rfl) (by kernel_rfl) (fun _ _ _ h => h) (Or.inl ⟨by rfl, ?_⟩) (by assumption) ?_
            rotate_left
            · intro w hSw; (try dsimp only at hSw); go_split_ands; go_simp; with_reducible rfl
            change wpAnyH _ _ _ _ _ _ _ (Act.put _ (some 42) _) _
            simp only [Act.put, List.setIfInBounds_toArray, List.set_cons_zero, List.set_cons_succ, Array.toArray_toList]
            refine wpAnyH_take (i := 9) (v := ?_) rfl (by kernel_rfl) (by kernel_rfl) (by kernel_rfl) (fun _ _ _ h => h) (Or.inl ⟨by rfl, ?_⟩) (by assumption) ?_
            rotate_left
            · intro w hSw; (try dsimp only at hSw); go_split_ands; go_simp; with_reducible rfl
            change wpAnyH _ _ _ _ _ _ _ (Act.put _ (some 43) _) _
            simp only [Act.put, List.setIfInBounds_toArray, List.set_cons_zero, List.set_cons_succ, Array.toArray_toList]
            refine wpAnyH_ready (rs := [10]) (by kernel_rfl) (by simp) ?_
            refine (AllReadyH.cons rfl (fun K hK => ?_) AllReadyH.nil)
            have d0 := (Mq.out.blk [_]).cell 0; have d1 := (Mq.out.blk [_]).fr 0; simp at d0; go_simp; generalize hwq : World.setCell _ _ _ = wq; have Mq := Lib.hid ((Mq.out.put [_] 0 (.slice A7 N7 c7)).toV hwq rfl); clear d0 d1 hwq
            refine hK.out _ _ (by exact HCE.out _ _ _ _ Mq.out) (fun hHeld => ?_)
            clear hK K
            refine wpAnyH_done (by kernel_rfl) ?_ _
            clear hHeld K0
            go_wp2_with fail
            go_roundg (n - (k + 1))
            case measure => exact meas hk hlt
            case rel => exact ⟨k + 1, q + 1, meas2 hlt, by go_num, by go_num, Lib.hid (by rw [HST.out, HPE.out, List.length_append, HQ.out]; rfl), .slice A7 N7 c7, ev_end Mq.out HN7.out HX7.out HST.out HPE.out HQ.out HLO.out⟩
          · skip
            go_simp; generalize hwq : World.alloc _ _ = wq; obtain ⟨g21, hg21, mq⟩ := Mq.out.row4E hwq; rw [hg21]; have Mq := Lib.hid mq; clear hwq hg21 mq
            refine hK.out _ _ (by exact HCE.out _ _ _ _ Mq.out) (fun hHeld => ?_)
            clear hK K
            refine wpAnyH_ready (rs := [4]) (by kernel_rfl) (by simp) ?_
            refine (AllReadyH.cons rfl (fun K hK => ?_) AllReadyH.nil)
            have d0 := (Mq.out.blk [_]).cell 0; simp at d0; go_simp; clear d0
            refine hK.out _ _ (by exact HCE.out _ _ _ _ Mq.out) (fun hHeld => ?_)
            clear hK K
            (try (change wpAnyH _ _ _ _ _ _ _ (Act.put _ (some 38) _) _; simp only [Act.put, List.setIfInBounds_toArray, List.set_cons_zero, List.set_cons_succ, Array.toArray_toList]))
            refine wpAnyH_ready (rs := [7]) (by kernel_rfl) (by simp) ?_
            refine (AllReadyH.cons rfl (fun K hK => ?_) AllReadyH.nil)
            refine step_appE rfl _ _ 33 rfl [] Mq.out el_event rfl _ (some ⟨g21, 0, none⟩) 1 1 [.int .i64 et, .int .i64 ek, .int .i64 ei, .int .i64 er] rfl (Mq.out.src (Mq.out.rowSrc (List.mem_cons_of_mem _ (List.mem_cons_self ..)))) (ev_one _ _ _ _) (by unfold maxLen; omega) (by omega) ?_; intro A7 c7 w8 N7 X7 hn7 hx7 mq; have Mq := Lib.hid mq; have HN7 := Lib.hid hn7; have HX7 := Lib.hid hx7; clear mq hn7 hx7
            refine hK.out _ _ (by exact HCE.out _ _ _ _ Mq.out) (fun hHeld => ?_)
            clear hK K
            (try (change wpAnyH _ _ _ _ _ _ _ (Act.put _ (some 41) _) _; simp only [Act.put, List.setIfInBounds_toArray, List.set_cons_zero, List.set_cons_succ, Array.toArray_toList]))
            refine wpAnyH_take (i := 8) (v := ?_) rfl (by kernel_rfl) (by kernel_rfl) (by kernel_rfl) (fun _ _ _ h => h) (Or.inl ⟨by rfl, ?_⟩) (by assumption) ?_
            rotate_left
            · intro w hSw; (try dsimp only at hSw); go_split_ands; go_simp; with_reducible rfl
            change wpAnyH _ _ _ _ _ _ _ (Act.put _ (some 42) _) _
            simp only [Act.put, List.setIfInBounds_toArray, List.set_cons_zero, List.set_cons_succ, Array.toArray_toList]
            refine wpAnyH_take (i := 9) (v := ?_) rfl (by kernel_rfl) (by kernel_rfl) (by kernel_rfl) (fun _ _ _ h => h) (Or.inl ⟨by rfl, ?_⟩) (by assumption) ?_
            rotate_left
            · intro w hSw; (try dsimp only at hSw); go_split_ands; go_simp; with_reducible rfl
            change wpAnyH _ _ _ _ _ _ _ (Act.put _ (some 43) _) _
            simp only [Act.put, List.setIfInBounds_toArray, List.set_cons_zero, List.set_cons_succ, Array.toArray_toList]
            refine wpAnyH_ready (rs := [10]) (by kernel_rfl) (by simp) ?_
            refine (AllReadyH.cons rfl (fun K hK => ?_) AllReadyH.nil)
            have d0 := (Mq.out.blk [_]).cell 0; have d1 := (Mq.out.blk [_]).fr 0; simp at d0; go_simp; generalize hwq : World.setCell _ _ _ = wq; have Mq := Lib.hid ((Mq.out.put [_] 0 (.slice A7 N7 c7)).toV hwq rfl); clear d0 d1 hwq
            refine hK.out _ _ (by exact HCE.out _ _ _ _ Mq.out) (fun hHeld => ?_)
            clear hK K
            refine wpAnyH_done (by kernel_rfl) ?_ _
            clear hHeld K0
            go_wp2_with fail
            go_roundg (n - (k + 1))
            case measure => exact meas hk hlt
            case rel => exact ⟨k + 1, q + 1, meas2 hlt, by go_num, by go_num, Lib.hid (by rw [HST.out, HPE.out, List.length_append, HQ.out]; rfl), .slice A7 N7 c7, ev_end Mq.out HN7.out HX7.out HST.out HPE.out HQ.out HLO.out⟩
      · have HPE := Lib.hid (show putE st ⟨et, ek, ei, er⟩ = st by unfold putE; rw [if_pos (by simpa [Ev.chk, HC.out] using h0)])
        have j1 : (ck != 0) = true := by simpa using h0
        go_wp2_with fail
        go_roundg (n - (k + 1))
        case measure => exact meas hk hlt
        case rel => exact ⟨k + 1, q, meas2 hlt, by go_num, rfl, Lib.hid (by rw [HST.out, HPE.out]; exact HQ.out), .slice Av q cv, by
            rw [HST.out, HPE.out]
            unfold Lg
            rw [HQ.out, HLO.out]
            exact Mq.out.sub (List.sublist_cons_self _ _) (List.Sublist.refl _)⟩
    · obtain rfl : k = n := by omega
      have HM := Lib.hid hr
      have HQ := Lib.hid hq.out
      have HT := Lib.hid (show l.take k = l from List.take_of_length_le (by rw [HN.out]; exact Nat.le_refl _))
      clear hr hq hk hlt
      go_wp2_with fail
      try rw [Exit.noGoto_ret]
      go_ret
      have h1 := HQ.out
      have h2 := HM.out
      rw [HT.out] at h1 h2
      exact ⟨by rw [h1]; rfl, vk, h2⟩
end Go.Proofs.YtnopmdhjamkoaaaDoor
