/- The law's Same; what the law of plays asks of logs. -/
import Derived.Test.YtnopmdhjamkoaaaEv16
namespace Go.Proofs.Ytnopmdhjamkoaaa
set_option linter.unusedVariables false
set_option linter.unusedSimpArgs false
open Go.RowKit

theorem ne4s (w : World) (a b c d : Int) : (binOp .neq 29 (.agg #[.int .i64 a, .int .i64 b, .int .i64 c, .int .i64 d]) (.agg #[.int .i64 a, .int .i64 b, .int .i64 c, .int .i64 d])).run Try.prog w = .ok (.bool false) w := by go_simp
set_option maxRecDepth 100000 in
set_option maxHeartbeats 4000000 in
theorem same27_any (W w : World) (bl : Bl) (ow : List Ro) (hM : Mst W w bl ow) (A A2 : Option Addr) (n c c2 : Nat) (X : List Ev) (h1 : evRow A n c X ∈ ow) (h2 : rfRow A2 n c2 X ∈ ow) (hn : X.length = n) (hn1 : n ≤ 1000) :
    Calls Try.prog 15 #[.slice A n c, .slice A2 n c2] w fun r w' => r = .returned (.bool true) ∧ Mst W w' bl ow := by
  have HM := Lib.hid hM
  have HX := Lib.hid hn
  have HP := Lib.hid (show ∀ w' bl' k e, Mst W w' bl' ow → X[k]? = some e → ∃ b o, A = some ⟨b, o, none⟩ ∧ EvAt w' b o k e from fun w' bl' k e h hk => h.rowAt h1 hn hk)
  have HQ := Lib.hid (show ∀ w' bl' k e, Mst W w' bl' ow → X[k]? = some e → ∃ b o, A2 = some ⟨b, o, none⟩ ∧ EvAt w' b o k e from fun w' bl' k e h hk => h.rfAt h2 hn hk)
  have hne : ((n : Int) != (n : Int)) = false := by simp
  clear hM h1 h2 hn
  go_enter Try.func15, Try.ntmps15
  go_wp2_with fail
  go_loopg [5] n (fun gg s5 wr => ∃ k : Nat, k + gg = n ∧ s5 = .int .i64 k ∧ Mst W wr bl ow)
  case atStart => exact ⟨0, by omega, rfl, HM.out⟩
  case round =>
    obtain ⟨k, hk, rfl, hm⟩ := hrel
    clear HM
    by_cases hlt : k < n
    · obtain ⟨e, he⟩ : ∃ e, X[k]? = some e := ⟨_, List.getElem?_eq_getElem (by rw [HX.out]; exact hlt)⟩
      obtain ⟨b, o, hA, hp⟩ := HP.out _ _ k e hm he
      obtain ⟨b2, o2, hA2, hq⟩ := HQ.out _ _ k e hm he
      have HCE := Lib.hid (show ∀ w' bl', Mst W w' bl' ow → EvAt w' b o k e ∧ EvAt w' b2 o2 k e from fun w' bl' h => by
        obtain ⟨b', o', e', h'⟩ := HP.out _ _ k e h he
        obtain ⟨b3, o3, e3, h3⟩ := HQ.out _ _ k e h he
        rw [hA] at e'
        rw [hA2] at e3
        injection e' with e'
        injection e' with e1 e2 _
        injection e3 with e3
        injection e3 with e4 e5 _
        subst e1 e2 e4 e5
        exact ⟨h', h3⟩)
      have Mq := Lib.hid hm
      obtain ⟨et, ek, ei, er⟩ := e
      have hne4 := fun w' => ne4s w' et ek ei er
      have i1 : (k : Int) < n := by omega
      have i2 : (0 : Int) ≤ k := by omega
      have i3 : (n : Int) ≤ 1000 := by omega
      have K0 := Lib.hid (HCE.out _ _ Mq.out.drew)
      subst hA hA2
      clear hm he hp hq
      go_upto_region 6 with fail
      refine wp_region_held_drew (S := fun w' => (w'.cell? ⟨b, o + k * 4, none⟩ = some (.int .i64 et) ∧ w'.cell? ⟨b, o + k * 4 + 1, none⟩ = some (.int .i64 ek) ∧ w'.cell? ⟨b, o + k * 4 + 2, none⟩ = some (.int .i64 ei) ∧ w'.cell? ⟨b, o + k * 4 + 3, none⟩ = some (.int .i64 er)) ∧ (w'.cell? ⟨b2, o2 + k * 4, none⟩ = some (.int .i64 et) ∧ w'.cell? ⟨b2, o2 + k * 4 + 1, none⟩ = some (.int .i64 ek) ∧ w'.cell? ⟨b2, o2 + k * 4 + 2, none⟩ = some (.int .i64 ei) ∧ w'.cell? ⟨b2, o2 + k * 4 + 3, none⟩ = some (.int .i64 er))) (by kernel_rfl) ?_ (fun hHeld => ?_)
      · exact K0.out
      generalize hw7 : World.drew _ = w7 at hHeld ⊢
      have Mq := Lib.hid (Mq.out.drew.toV hw7 rfl)
      clear hw7
      refine wpAnyH_take (i := 0) (v := ?_) rfl (by kernel_rfl) (by kernel_rfl) (by kernel_rfl) (fun _ _ _ h => h) (Or.inl ⟨by rfl, ?_⟩) (by assumption) ?_
      rotate_left
      · intro w hSw; (try dsimp only at hSw); go_split_ands; go_simp; with_reducible rfl
      change wpAnyH _ _ _ _ _ _ _ (Act.put _ (some 17) _) _
      simp only [Act.put, List.setIfInBounds_toArray, List.set_cons_zero, List.set_cons_succ, Array.toArray_toList]
      refine wpAnyH_take (i := 1) (v := ?_) rfl (by kernel_rfl) (by kernel_rfl) (by kernel_rfl) (fun _ _ _ h => h) (Or.inl ⟨by rfl, ?_⟩) (by assumption) ?_
      rotate_left
      · intro w hSw; (try dsimp only at hSw); go_split_ands; go_simp; with_reducible rfl
      change wpAnyH _ _ _ _ _ _ _ (Act.put _ (some 18) _) _
      simp only [Act.put, List.setIfInBounds_toArray, List.set_cons_zero, List.set_cons_succ, Array.toArray_toList]
      refine wpAnyH_take (i := 2) (v := ?_) rfl (by kernel_rfl) (by kernel_rfl) (by kernel_rfl) (fun _ _ _ h => h) (Or.inl ⟨by rfl, ?_⟩) (by assumption) ?_
      rotate_left
      · intro w hSw; (try dsimp only at hSw); go_split_ands; go_simp; with_reducible rfl
      change wpAnyH _ _ _ _ _ _ _ (Act.put _ (some 19) _) _
      simp only [Act.put, List.setIfInBounds_toArray, List.set_cons_zero, List.set_cons_succ, Array.toArray_toList]
      refine wpAnyH_take (i := 3) (v := ?_) rfl (by kernel_rfl) (by kernel_rfl) (by kernel_rfl) (fun _ _ _ h => h) (Or.inl ⟨by rfl, ?_⟩) (by assumption) ?_
      rotate_left
      · intro w hSw; (try dsimp only at hSw); go_split_ands; go_simp; with_reducible rfl
      change wpAnyH _ _ _ _ _ _ _ (Act.put _ (some 20) _) _
      simp only [Act.put, List.setIfInBounds_toArray, List.set_cons_zero, List.set_cons_succ, Array.toArray_toList]
      refine wpAnyH_take (i := 4) (v := ?_) rfl (by kernel_rfl) (by kernel_rfl) (by kernel_rfl) (fun _ _ _ h => h) (Or.inl ⟨by rfl, ?_⟩) (by assumption) ?_
      rotate_left
      · intro w hSw; (try dsimp only at hSw); go_split_ands; go_simp; with_reducible rfl
      change wpAnyH _ _ _ _ _ _ _ (Act.put _ (some 21) _) _
      simp only [Act.put, List.setIfInBounds_toArray, List.set_cons_zero, List.set_cons_succ, Array.toArray_toList]
      refine wpAnyH_take (i := 5) (v := ?_) rfl (by kernel_rfl) (by kernel_rfl) (by kernel_rfl) (fun _ _ _ h => h) (Or.inl ⟨by rfl, ?_⟩) (by assumption) ?_
      rotate_left
      · intro w hSw; (try dsimp only at hSw); go_split_ands; go_simp; with_reducible rfl
      change wpAnyH _ _ _ _ _ _ _ (Act.put _ (some 22) _) _
      simp only [Act.put, List.setIfInBounds_toArray, List.set_cons_zero, List.set_cons_succ, Array.toArray_toList]
      refine wpAnyH_take (i := 6) (v := ?_) rfl (by kernel_rfl) (by kernel_rfl) (by kernel_rfl) (fun _ _ _ h => h) (Or.inl ⟨by rfl, ?_⟩) (by assumption) ?_
      rotate_left
      · intro w hSw; (try dsimp only at hSw); go_split_ands; go_simp; with_reducible rfl
      change wpAnyH _ _ _ _ _ _ _ (Act.put _ (some 23) _) _
      simp only [Act.put, List.setIfInBounds_toArray, List.set_cons_zero, List.set_cons_succ, Array.toArray_toList]
      refine wpAnyH_take (i := 7) (v := ?_) rfl (by kernel_rfl) (by kernel_rfl) (by kernel_rfl) (fun _ _ _ h => h) (Or.inl ⟨by rfl, ?_⟩) (by assumption) ?_
      rotate_left
      · intro w hSw; (try dsimp only at hSw); go_split_ands; go_simp; with_reducible rfl
      change wpAnyH _ _ _ _ _ _ _ (Act.put _ (some 24) _) _
      simp only [Act.put, List.setIfInBounds_toArray, List.set_cons_zero, List.set_cons_succ, Array.toArray_toList]
      refine wpAnyH_ready (rs := [8]) (by kernel_rfl) (by simp) ?_
      refine (AllReadyH.cons rfl (fun K hK => ?_) AllReadyH.nil)
      go_simp
      (with_reducible refine (to27_any _ _ _ _ _).mono ?_); rintro r wq ⟨rfl, hb⟩; have Mq := Lib.hid (Mq.out.below hb); clear hb
      go_wp2_with fail
      refine hK.out _ _ (by exact HCE.out _ _ Mq.out) (fun hHeld => ?_)
      clear hK K
      refine wpAnyH_take (i := 9) (v := ?_) rfl (by kernel_rfl) (by kernel_rfl) (by kernel_rfl) (fun _ _ _ h => h) (Or.inl ⟨by rfl, ?_⟩) (by assumption) ?_
      rotate_left
      · intro w hSw; (try dsimp only at hSw); go_split_ands; go_simp; with_reducible rfl
      change wpAnyH _ _ _ _ _ _ _ (Act.put _ (some 26) _) _
      simp only [Act.put, List.setIfInBounds_toArray, List.set_cons_zero, List.set_cons_succ, Array.toArray_toList]
      refine wpAnyH_done (by kernel_rfl) ?_ _
      clear hHeld K0
      go_wp2_with fail
      go_roundg (n - (k + 1))
      case measure => exact meas hk hlt
      case rel => exact ⟨k + 1, meas2 hlt, by go_num, Mq.out⟩
    · obtain rfl : k = n := by omega
      have HM := Lib.hid hm
      clear hm hk hlt
      go_wp2
      go_ret
      exact ⟨rfl, HM.out⟩

theorem putE_chk {s : List Ev × Nat} {e : Ev} (h : ∀ x ∈ s.1, x.chk = 0) : ∀ x ∈ (putE s e).1, x.chk = 0 := by
  intro x hx
  unfold putE at hx
  split at hx
  · exact h x hx
  · split at hx
    · exact h x hx
    · rcases List.mem_append.1 hx with hx | hx
      · exact h x hx
      · obtain rfl : x = e := by simpa using hx
        rename_i h1 _
        simpa using h1
theorem putsE_chk : ∀ (l : List Ev) (s : List Ev × Nat), (∀ x ∈ s.1, x.chk = 0) → ∀ x ∈ (putsE s l).1, x.chk = 0
  | [], s, h => h
  | e :: l, s, h => by
    unfold putsE
    rw [List.foldl_cons]
    exact putsE_chk l _ (putE_chk h)
theorem chk_facts {e : Ev} (h : e.chk = 0) : 0 ≤ e.t ∧ 0 ≤ e.r ∧ e.r < 8 := by
  rcases evC_split e.t e.k e.i e.r 0 h with ⟨_, h⟩ | ⟨_, _, h⟩ | ⟨_, _, (⟨_, h⟩ | ⟨_, _, h⟩ | ⟨_, _, _, h⟩ | ⟨_, _, _, _, h⟩ | ⟨h0, _, _, _, (⟨_, h⟩ | ⟨_, _, h⟩ | ⟨h1, h2, _⟩)⟩)⟩
  all_goals first | cases h | exact ⟨h0, h1, h2⟩
theorem notsD (m : Nat) (is : Ev → Bool) (e : Ev) : (!sD m is e) = (seeB m e && is e) := by
  unfold sD seeB
  cases (e.k == 4) <;> cases (m.testBit e.r.toNat) <;> cases is e <;> rfl
theorem keep_read {m : Nat} {ks : List Int} {l : List Ev} (h : ∀ x ∈ l, x.chk = 0) : rdE m 0 0 ks l = keepE (sD m fun e => ks.isEmpty || ks.contains e.k) l := by
  unfold rdE keepE
  refine List.filter_congr fun x hx => ?_
  rw [notsD]
  unfold rdP
  have := (chk_facts (h x hx)).1
  rw [decide_eq_true this]
  simp [Bool.and_comm]
theorem keep_since {m : Nat} {t : Int} {l : List Ev} : rdE m t 0 [] l = keepE (sD m fun e => decide (t ≤ e.t)) l := by
  unfold rdE keepE
  refine List.filter_congr fun x hx => ?_
  rw [notsD]
  unfold rdP
  simp
theorem keep_of {m : Nat} {id : Int} (hid : id ≠ 0) {l : List Ev} (h : ∀ x ∈ l, x.chk = 0) : rdE m 0 id [] l = keepE (sD m fun e => e.i == id) l := by
  unfold rdE keepE
  refine List.filter_congr fun x hx => ?_
  rw [notsD]
  unfold rdP
  have := (chk_facts (h x hx)).1
  rw [decide_eq_true this]
  have h2 : (id == 0) = false := by simpa using hid
  rw [h2]
  simp

/-- A log read with kinds, and by the document. -/
theorem readkL {W w : World} {bl : Bl} {ow : List Ro} {g : Nat} {s : List Ev × Nat} (h : LgAt W bl ow g s w) (hn : s.1.length ≤ 1000) (hE : ∀ x ∈ s.1, x.chk = 0) (m : Nat) (hm : m < 256) (A : Option Addr) (c : Nat) (ks : List Int) (hr : Rd W W.heap.size 1 A ks.length (iv ks)) (hkn : ks.length ≤ 1000) :
    Calls Try.prog 9 #[.pointer (some ⟨g, 0, none⟩), .int .i64 m, .slice A ks.length c] w fun r w' => ∃ A' n' c', r = .returned (.slice A' n' c') ∧ n' = (rdE m 0 0 ks s.1).length ∧ LgAt W bl (evRow A' n' c' (rdE m 0 0 ks s.1) :: ow) g s w' := by
  obtain ⟨v, h⟩ := h
  rw [keep_read hE]
  refine (readk_any W w bl ow g s v h (by omega) (fun e he => (chk_facts (hE e he)).2) m hm A c ks hr (by omega)).mono ?_
  rintro r w' ⟨A, n, c, rfl, hn', hm'⟩
  exact ⟨A, n, c, rfl, hn', v, hm'.perm (List.Perm.refl _) (List.Perm.swap _ _ _)⟩
theorem sinceL {W w : World} {bl : Bl} {ow : List Ro} {g : Nat} {s : List Ev × Nat} (h : LgAt W bl ow g s w) (hn : s.1.length ≤ 1000) (hE : ∀ x ∈ s.1, x.chk = 0) (m : Nat) (hm : m < 256) (t : Int) :
    Calls Try.prog 17 #[.pointer (some ⟨g, 0, none⟩), .int .i64 t, .int .i64 m] w fun r w' => ∃ A' n' c', r = .returned (.slice A' n' c') ∧ n' = (rdE m t 0 [] s.1).length ∧ LgAt W bl (evRow A' n' c' (rdE m t 0 [] s.1) :: ow) g s w' := by
  obtain ⟨v, h⟩ := h
  rw [keep_since]
  refine (since_any W w bl ow g s v h (by omega) (fun e he => (chk_facts (hE e he)).2) m hm t).mono ?_
  rintro r w' ⟨A, n, c, rfl, hn', hm'⟩
  exact ⟨A, n, c, rfl, hn', v, hm'.perm (List.Perm.refl _) (List.Perm.swap _ _ _)⟩
theorem ofL {W w : World} {bl : Bl} {ow : List Ro} {g : Nat} {s : List Ev × Nat} (h : LgAt W bl ow g s w) (hn : s.1.length ≤ 1000) (hE : ∀ x ∈ s.1, x.chk = 0) (m : Nat) (hm : m < 256) (id : Int) (hid : id ≠ 0) :
    Calls Try.prog 18 #[.pointer (some ⟨g, 0, none⟩), .int .i64 id, .int .i64 m] w fun r w' => ∃ A' n' c', r = .returned (.slice A' n' c') ∧ n' = (rdE m 0 id [] s.1).length ∧ LgAt W bl (evRow A' n' c' (rdE m 0 id [] s.1) :: ow) g s w' := by
  obtain ⟨v, h⟩ := h
  rw [keep_of hid hE]
  refine (of_any W w bl ow g s v h (by omega) (fun e he => (chk_facts (hE e he)).2) m hm id).mono ?_
  rintro r w' ⟨A, n, c, rfl, hn', hm'⟩
  exact ⟨A, n, c, rfl, hn', v, hm'.perm (List.Perm.refl _) (List.Perm.swap _ _ _)⟩
theorem refreadL {W w : World} {bl : Bl} {ow : List Ro} {g : Nat} {s : List Ev × Nat} (h : LgAt W bl ow g s w) (hn : s.1.length ≤ 1000) (hE : ∀ x ∈ s.1, x.chk = 0) (m : Nat) (hm : m < 256) (tick id : Int) (A : Option Addr) (c : Nat) (hy : rfRow A s.1.length c s.1 ∈ ow)
    (A2 : Option Addr) (c2 : Nat) (ks : List Int) (hr : Rd W W.heap.size 1 A2 ks.length (iv ks)) (hkn : ks.length ≤ 1000) :
    Calls Try.prog 16 #[.slice A s.1.length c, .int .i64 m, .int .i64 tick, .int .i64 id, .slice A2 ks.length c2] w fun r w' => ∃ A' n' c', r = .returned (.slice A' n' c') ∧ n' = (rdE m tick id ks s.1).length ∧ LgAt W bl (rfRow A' n' c' (rdE m tick id ks s.1) :: ow) g s w' := by
  obtain ⟨v, h⟩ := h
  refine (refread27_any W w _ _ h A c s.1 (List.mem_cons_of_mem _ hy) hn (fun e he => (chk_facts (hE e he)).2) m hm tick id A2 c2 ks hr hkn).mono ?_
  rintro r w' ⟨A, n, c, rfl, hn', hm'⟩
  exact ⟨A, n, c, rfl, hn', v, hm'.perm (List.Perm.refl _) (List.Perm.swap _ _ _)⟩
theorem sameL {W w : World} {bl : Bl} {ow : List Ro} {g : Nat} {s : List Ev × Nat} (h : LgAt W bl ow g s w) (A A2 : Option Addr) (n c c2 : Nat) (X : List Ev) (h1 : evRow A n c X ∈ ow) (h2 : rfRow A2 n c2 X ∈ ow) (hn : n = X.length) (hn1 : n ≤ 1000) :
    Calls Try.prog 15 #[.slice A n c, .slice A2 n c2] w fun r w' => r = .returned (.bool true) ∧ LgAt W bl ow g s w' := by
  obtain ⟨v, h⟩ := h
  refine (same27_any W w _ _ h A A2 n c c2 X (List.mem_cons_of_mem _ h1) (List.mem_cons_of_mem _ h2) hn.symm hn1).mono ?_
  rintro r w' ⟨rfl, hm'⟩
  exact ⟨rfl, v, hm'⟩
theorem refputL {W w : World} {bl : Bl} {ow : List Ro} {g : Nat} {s : List Ev × Nat} {A : Option Addr} {c : Nat} (h : LgAt W bl (rfRow A s.1.length c s.1 :: ow) g s w) (hn : s.1.length ≤ 128) (e : Ev) :
    Calls Try.prog 13 #[.slice A s.1.length c, .agg #[.int .i64 e.t, .int .i64 e.k, .int .i64 e.i, .int .i64 e.r]] w fun r w' => ∃ A' n' c', r = .returned (.slice A' n' c') ∧ n' = (putE s e).1.length ∧ LgAt W bl (rfRow A' n' c' (putE s e).1 :: ow) g s w' := by
  obtain ⟨v, h⟩ := h
  rw [putE_M]
  refine (refput27_any W w _ _ A c s.1 (h.perm (List.Perm.refl _) (List.Perm.swap _ _ _)) hn e).mono ?_
  rintro r w' ⟨A, n, c, rfl, hn', hm'⟩
  exact ⟨A, n, c, rfl, hn', v, hm'.perm (List.Perm.refl _) (List.Perm.swap _ _ _)⟩
theorem lenL27 {W w : World} {bl : Bl} {ow : List Ro} {g : Nat} {s : List Ev × Nat} (h : LgAt W bl ow g s w) :
    Calls Try.prog 11 #[.pointer (some ⟨g, 0, none⟩)] w fun r w' => r = .returned (.int .i64 s.1.length) ∧ w' = w := by
  obtain ⟨v, h⟩ := h
  exact len_any W w bl ow g s v h
theorem lostL27 {W w : World} {bl : Bl} {ow : List Ro} {g : Nat} {s : List Ev × Nat} (h : LgAt W bl ow g s w) :
    Calls Try.prog 12 #[.pointer (some ⟨g, 0, none⟩)] w fun r w' => r = .returned (.int .i64 s.2) ∧ w' = w := by
  obtain ⟨v, h⟩ := h
  exact lost_any W w bl ow g s v h
theorem LgAt.evAt {W w : World} {bl : Bl} {ow : List Ro} {g : Nat} {s : List Ev × Nat} (h : LgAt W bl ow g s w) {b o k : Nat} {e : Ev} (hb : b < W.heap.size) (p : EvAt W b o k e) : EvAt w b o k e := by
  obtain ⟨v, h⟩ := h
  exact h.evAt hb p
theorem putE_lost (s : List Ev × Nat) (e : Ev) : (putE s e).2 = if e.chk = 0 ∧ (putE s e).1.length = s.1.length then s.2 + 1 else s.2 := by
  unfold putE
  by_cases h : e.chk = 0
  · rw [if_neg (by simpa using h)]
    by_cases h2 : s.1.length = 128
    · rw [if_pos h2, if_pos ⟨h, rfl⟩]
    · rw [if_neg h2, if_neg (by simp)]
  · rw [if_pos h, if_neg (fun h2 => h h2.1)]
theorem iv_take {W : World} {B : Nat} {A : Option Addr} {ks : List Int} (h : Rd W B 1 A ks.length (iv ks)) (n : Nat) : Rd W B 1 A (ks.take n).length (iv (ks.take n)) := by
  refine ⟨by simp, fun hn => ?_⟩
  obtain ⟨b, o, e, hb, hc⟩ := h.2 (by rw [List.length_take] at hn; omega)
  refine ⟨b, o, e, hb, fun j u hu => hc j u ?_⟩
  simp only [iv, List.map_take, List.getElem?_take] at hu ⊢
  split at hu
  · exact hu
  · cases hu
end Go.Proofs.Ytnopmdhjamkoaaa
