/- The law ScriptTells. -/
import Derived.Test.YtnopmdhjamkoaaaDoorSc22
namespace Go.Proofs.YtnopmdhjamkoaaaDoor
set_option linter.unusedVariables false
set_option linter.unusedSimpArgs false
open Go.RowKit
theorem cut_ticks (l : List St) (most : Int) (n q : Nat) (hn : l.length = n) (hq : q = cutN l most n) (hm : 0 ≤ most) : tickS (l.take q) ≤ most := by
  obtain ⟨h1, h2, -⟩ := cutN_spec l most n (by omega)
  rw [← hq] at h1 h2
  rcases Nat.eq_zero_or_pos q with h0 | h0
  · subst h0
    simpa [tickS] using hm
  · obtain ⟨e, he⟩ : ∃ e, l[q - 1]? = some e := ⟨_, List.getElem?_eq_getElem (by omega)⟩
    have h := (h2 (q - 1) e (by omega) he).2
    rw [show q - 1 + 1 = q by omega] at h
    exact h
set_option maxRecDepth 100000 in
set_option maxHeartbeats 8000000 in
theorem scriptTells_main (W : World) (gs : List Sb) (A : Option Addr) (c : Nat) (hgs : Rd W W.heap.size 4 A gs.length (sts (gs.map Sb.st))) (hb : ∀ g ∈ gs, RB W W.heap.size g.A g.l ∧ g.l.length ≤ g.c ∧ g.c ≤ 9223372036854775807)
    (hn : gs.length ≤ 9223372036854775807) (kind most : Int) (hT : TabU W) (hP : ∀ w', Below W.heap.size W w' → Tab31 w') :
    Calls Tryd.prog 6 #[.slice A gs.length c, .int .i64 kind, .int .i64 most] W fun e W' => e = .returned (.bool true) ∧ Below W.heap.size W W' := by
  obtain ⟨N, hN⟩ : ∃ N, N = min gs.length 34 := ⟨_, rfl⟩
  have HTO := Lib.hid (to31_any W W [] [] (Mst.start W) gs A c (Src.old hgs) (fun g hg => ⟨Src.old (hb g hg).1, (hb g hg).2⟩) hn N hN)
  have hN34 : N ≤ 34 := by omega
  have HT := Lib.hid hT
  have HP := Lib.hid hP
  clear hgs hb hN hT hP
  go_enter Tryd.func6, Tryd.ntmps6
  go_wp2_with fail
  with_reducible refine (HTO.out).mono ?_
  rintro r w1 ⟨v, rfl, fs, hfl, hfs, hm⟩
  obtain ⟨Ax, cx, rfl, -, -, hcx, -⟩ := own_form (hm.row [])
  obtain ⟨br, hbr⟩ : ∃ b, fs.reverse.map brow ++ [] = b := ⟨_, rfl⟩
  have HBR := Lib.hid (show ∀ f ∈ fs, brow f ∈ br from fun f hf => by rw [← hbr]; simp; exact ⟨f, hf, rfl⟩)
  rw [hbr] at hm
  obtain ⟨sl, hsl⟩ : ∃ sl, fs.map Sb.st = sl := ⟨_, rfl⟩
  have hslN : sl.length = N := by rw [← hsl]; simpa using hfl
  have HCX := Lib.hid hcx
  have HSL := Lib.hid hsl
  have HSN := Lib.hid hslN
  have HFL := Lib.hid hfl
  have HFS := Lib.hid hfs
  have Mq := Lib.hid hm
  have HOX := Lib.hid (of31_any W w1 [] _ hm Ax cx sl N hslN (by rw [← hsl]; exact hm.rowSrc (List.mem_cons_self ..)) (by omega))
  clear hfl hfs hm hbr hsl hslN hcx HTO
  go_wp2_with fail
  with_reducible refine (HOX.out).mono ?_
  rintro r w2 ⟨Ay, cy, rfl, hm⟩
  rw [← HSL.out] at hm
  obtain ⟨_, _, he, -, -, hcy, -⟩ := own_form (hm.row [])
  simp only [Value.slice.injEq, true_and] at he
  obtain ⟨rfl, rfl⟩ := he
  obtain ⟨OW, hOW⟩ : ∃ OW, (rRow Ay N cy fs :: sRow Ax N cx fs :: br : List Ro) = OW := ⟨_, rfl⟩
  have hm2 : Mst W w2 [] OW := by rw [← hOW]; exact hm
  have hx : sRow Ax N cx fs ∈ OW := by rw [← hOW]; simp
  have hy : rRow Ay N cy fs ∈ OW := by rw [← hOW]; simp
  have HBW := Lib.hid (show ∀ f ∈ fs, brow f ∈ OW from fun f hf => by rw [← hOW]; have := HBR.out f hf; simp [this])
  have HEL := Lib.hid (show ∀ k f, fs[k]? = some f → (∃ b o b2 o2, Ax = some ⟨b, o, none⟩ ∧ Ay = some ⟨b2, o2, none⟩ ∧ ∀ w', Mst W w' [] OW → StAt w' b o k f.st ∧ StAt w' b2 o2 k f.st) from fun k f hk => by
    obtain ⟨b, o, h1, -, h3⟩ := (hm2.src (hm2.rowSrc hx)).sb HFL.out hk
    obtain ⟨b2, o2, h4, -, h6⟩ := (hm2.src (hm2.rowSrc hy)).sb HFL.out hk
    refine ⟨b, o, b2, o2, h1, h4, fun w' h => ?_⟩
    obtain ⟨b', o', q1, -, q3⟩ := (h.src (h.rowSrc hx)).sb HFL.out hk
    obtain ⟨b2', o2', q4, -, q6⟩ := (h.src (h.rowSrc hy)).sb HFL.out hk
    rw [h1] at q1
    rw [h4] at q4
    injection q1 with q1
    injection q1 with e1 e2 _
    injection q4 with q4
    injection q4 with e3 e4 _
    subst e1 e2 e3 e4
    exact ⟨q3, q6⟩)
  have HTX := Lib.hid (show ∀ w' (k : Nat) (f : Sb), Mst W w' [] OW → fs[k]? = some f → (Calls Tryd.prog 38 #[.agg #[.int .i64 f.k, .int .i64 f.who, .int .i64 f.n, .slice f.A f.l.length f.c]] w' fun r w2 => r = .returned (.string (txB f.k f.who f.n f.l)) ∧ Below w'.heap.size w' w2) ∧ (Calls Tryd.prog 39 #[.agg #[.int .i64 f.k, .int .i64 f.who, .int .i64 f.n, .slice f.A f.l.length f.c]] w' fun r w2 => r = .returned (.string (txB f.k f.who f.n f.l)) ∧ Below w'.heap.size w' w2) from fun w' k f h hk => by
    have hr := h.src (h.rowSrc (HBW.out f (List.mem_of_getElem? hk)))
    exact ⟨textS_any w' (HT.out.keep h.bel) (fun w2 hb => HP.out w2 (h.below hb).bel) _ _ _ _ _ _ hr, rtextS_any w' _ _ _ _ _ _ hr⟩)
  have HKN := Lib.hid (show ∀ w' ow', Mst W w' [] ow' → Calls Tryd.prog 36 #[] w' fun r w2 => r = .returned (.bool true) ∧ Below w'.heap.size w' w2 from fun w' ow' h => known31_any w' (HT.out.keep h.bel) fun w2 hb => HP.out w2 (h.below hb).bel)
  have HCUT := Lib.hid (show ∀ w', Mst W w' [] OW → Calls Tryd.prog 32 #[.slice Ax N cx, .int .i64 most] w' fun r w2 => ∃ A' q c', r = .returned (.slice A' q c') ∧ q = cutN sl most N ∧ q ≤ N ∧ Mst W w2 [] (sRow A' q c' (fs.take q) :: OW) from fun w' h => by
    refine (scut_any W w' [] OW h (HT.out.keep h.bel) Ax cx sl N HSN.out (by rw [← HSL.out]; exact h.rowSrc hx) (by omega) HCX.out (by rintro rfl; exact own_none (h.own _ hx)) most).mono ?_
    rintro r w2 ⟨A', q', c', rfl, hq', hqn, m⟩
    have e : sts (sl.take q') = sts ((fs.take q').map Sb.st) := by rw [← HSL.out, List.map_take]
    rw [e] at m
    exact ⟨A', q', c', rfl, hq', hqn, m⟩)
  have HTK := Lib.hid (show ∀ w' ow', Mst W w' [] ow' → sRow Ax N cx fs ∈ ow' → Calls Tryd.prog 37 #[.slice Ax N cx] w' fun r w2 => r = .returned (.int .i64 (tickS sl)) ∧ Below w'.heap.size w' w2 from fun w' ow' h hx => by
    have hr : Rd w' w'.heap.size 4 Ax sl.length (sts sl) := by rw [HSN.out, ← HSL.out]; exact h.src (h.rowSrc hx)
    have := ticks_any w' (HT.out.keep h.bel) sl Ax cx hr (by rw [HSN.out]; omega)
    rw [HSN.out] at this
    exact this)
  have HRC := Lib.hid (show ∀ w' ow', Mst W w' [] ow' → rRow Ay N cy fs ∈ ow' → Calls Tryd.prog 44 #[.slice Ay N cy, .int .i64 most] w' fun r w2 => r = .returned (.int .i64 (cutN sl most N : Nat)) ∧ Below w'.heap.size w' w2 from fun w' ow' h hy => by
    exact rcut31_any w' sl Ay N cy HSN.out (by rw [← HSL.out]; exact h.src (h.rowSrc hy)) (by omega) most)
  have HWD := Lib.hid (show ∀ w', Below W.heap.size W w' → _ from fun w' hb => wordT kind w' (HT.out w' hb))
  have HTC := Lib.hid (touches31_any kind)
  have HWS := Lib.hid (words31_any)
  have Mz := Lib.hid hm2
  have HX := Lib.hid hx
  have HY := Lib.hid hy
  have HCY := Lib.hid hcy
  have i2 : (N : Int) ≤ 34 := by omega
  clear hm hm2 hx hy hOW hcy HOX Mq HBR
  go_wp2_with fail
  go_loopg [9, 10] N (fun gg s9 s10 wr => ∃ k : Nat, k + gg = N ∧ s10 = .int .i64 k ∧ s9 = .int .i64 (tickS (sl.take k)) ∧ Mst W wr [] OW)
  case atStart => exact ⟨0, by omega, rfl, by simp [tickS], Mz.out⟩
  case round =>
    obtain ⟨k, hk, rfl, rfl, hm⟩ := hrel
    have Mq := Lib.hid hm
    clear Mz hm
    by_cases hlt : k < N
    · obtain ⟨f, hf⟩ : ∃ e, fs[k]? = some e := ⟨_, List.getElem?_eq_getElem (by rw [HFL.out]; exact hlt)⟩
      obtain ⟨b, o, b2, o2, hA, hA2, hp⟩ := HEL.out k f hf
      have HTX1 := Lib.hid (show ∀ w', Mst W w' [] OW → _ from fun w' h => (HTX.out w' k f h hf))
      have ht := tickS_take sl (k := k) (e := f.st) (by rw [← HSL.out]; simp [hf])
      have hr2 := (tickS_le (sl.take k)).2
      have hr1 := (tickS_le (sl.take k)).1
      have ho := tick_one f.st
      have hlen : (sl.take k).length ≤ 1000 := by simp; omega
      have hr3 : tickS (sl.take k) ≤ 200000 := by omega
      obtain ⟨TT, hTT⟩ : ∃ T, txB f.k f.who f.n f.l = T := ⟨_, rfl⟩
      obtain ⟨L, hL⟩ : ∃ L, f.l.length = L := ⟨_, rfl⟩
      obtain ⟨C, hC⟩ : ∃ C, f.st.chk = C := ⟨_, rfl⟩
      have hchk := (scrc_any f.k f.who f.n f.A f.l.length f.c).2
      rw [show scC f.k f.who f.n f.l.length = C from hC, hL] at hchk
      have HCK := Lib.hid (show ∀ w', _ from fun w' => hchk w')
      rw [hC] at ht ho
      rw [hTT, hL] at HTX1
      obtain ⟨T, hT0⟩ : ∃ T, tickS (sl.take k) = T := ⟨_, rfl⟩
      rw [hT0] at ht hr1 hr3 ⊢
      obtain ⟨n1, n2⟩ := str_same TT
      have HPP := Lib.hid (show ∀ w', Mst W w' [] OW → (w'.cell? ⟨b, o + k * 4, none⟩ = some (.int .i64 f.k) ∧ w'.cell? ⟨b, o + k * 4 + 1, none⟩ = some (.int .i64 f.who) ∧ w'.cell? ⟨b, o + k * 4 + 2, none⟩ = some (.int .i64 f.n) ∧ w'.cell? ⟨b, o + k * 4 + 3, none⟩ = some (.slice f.A L f.c)) ∧ (w'.cell? ⟨b2, o2 + k * 4, none⟩ = some (.int .i64 f.k) ∧ w'.cell? ⟨b2, o2 + k * 4 + 1, none⟩ = some (.int .i64 f.who) ∧ w'.cell? ⟨b2, o2 + k * 4 + 2, none⟩ = some (.int .i64 f.n) ∧ w'.cell? ⟨b2, o2 + k * 4 + 3, none⟩ = some (.slice f.A L f.c)) from fun w' h => by
        obtain ⟨p, q⟩ := hp w' h
        unfold StAt at p q
        simp only [Sb.st, hL] at p q
        exact ⟨p, q⟩)
      obtain ⟨fk, fw, fn, fA, fc, fl⟩ := f
      simp only [Sb.st] at ht ho HTX1 HCK HPP
      have HHT := Lib.hid ht
      have K0 := Lib.hid (HPP.out _ Mq.out.drew)
      have i1 : (k : Int) < N := by omega
      have i3 : (0 : Int) ≤ k := by omega
      subst hA hA2
      clear hp hf hTT hL hC hchk hT0 hr2 hlen HEL HTX ht
      go_upto_region 7 with fail
      refine wp_region_held_drew (S := fun w' => (w'.cell? ⟨b, o + k * 4, none⟩ = some (.int .i64 fk) ∧ w'.cell? ⟨b, o + k * 4 + 1, none⟩ = some (.int .i64 fw) ∧ w'.cell? ⟨b, o + k * 4 + 2, none⟩ = some (.int .i64 fn) ∧ w'.cell? ⟨b, o + k * 4 + 3, none⟩ = some (.slice fA L fc)) ∧ (w'.cell? ⟨b2, o2 + k * 4, none⟩ = some (.int .i64 fk) ∧ w'.cell? ⟨b2, o2 + k * 4 + 1, none⟩ = some (.int .i64 fw) ∧ w'.cell? ⟨b2, o2 + k * 4 + 2, none⟩ = some (.int .i64 fn) ∧ w'.cell? ⟨b2, o2 + k * 4 + 3, none⟩ = some (.slice fA L fc))) (by kernel_rfl) ?_ (fun hHeld => ?_)
      · exact K0.out
      generalize hw7 : World.drew _ = w7 at hHeld ⊢
      have Mq := Lib.hid (Mq.out.drew.toV hw7 rfl)
      clear hw7
      refine wpAnyH_take (i := 0) (v := ?_) rfl (by kernel_rfl) (by kernel_rfl) (by kernel_rfl) (fun _ _ _ h => h) (Or.inl ⟨by rfl, ?_⟩) (by assumption) ?_
      rotate_left
      · intro w hSw; (try dsimp only at hSw); go_split_ands; go_simp; with_reducible rfl
      change wpAnyH _ _ _ _ _ _ _ (Act.put _ (some 24) _) _
      simp only [Act.put, List.setIfInBounds_toArray, List.set_cons_zero, List.set_cons_succ, Array.toArray_toList]
      refine wpAnyH_take (i := 1) (v := ?_) rfl (by kernel_rfl) (by kernel_rfl) (by kernel_rfl) (fun _ _ _ h => h) (Or.inl ⟨by rfl, ?_⟩) (by assumption) ?_
      rotate_left
      · intro w hSw; (try dsimp only at hSw); go_split_ands; go_simp; with_reducible rfl
      change wpAnyH _ _ _ _ _ _ _ (Act.put _ (some 25) _) _
      simp only [Act.put, List.setIfInBounds_toArray, List.set_cons_zero, List.set_cons_succ, Array.toArray_toList]
      refine wpAnyH_take (i := 2) (v := ?_) rfl (by kernel_rfl) (by kernel_rfl) (by kernel_rfl) (fun _ _ _ h => h) (Or.inl ⟨by rfl, ?_⟩) (by assumption) ?_
      rotate_left
      · intro w hSw; (try dsimp only at hSw); go_split_ands; go_simp; with_reducible rfl
      change wpAnyH _ _ _ _ _ _ _ (Act.put _ (some 26) _) _
      simp only [Act.put, List.setIfInBounds_toArray, List.set_cons_zero, List.set_cons_succ, Array.toArray_toList]
      refine wpAnyH_take (i := 3) (v := ?_) rfl (by kernel_rfl) (by kernel_rfl) (by kernel_rfl) (fun _ _ _ h => h) (Or.inl ⟨by rfl, ?_⟩) (by assumption) ?_
      rotate_left
      · intro w hSw; (try dsimp only at hSw); go_split_ands; go_simp; with_reducible rfl
      change wpAnyH _ _ _ _ _ _ _ (Act.put _ (some 27) _) _
      simp only [Act.put, List.setIfInBounds_toArray, List.set_cons_zero, List.set_cons_succ, Array.toArray_toList]
      refine wpAnyH_take (i := 5) (v := ?_) rfl (by kernel_rfl) (by kernel_rfl) (by kernel_rfl) (fun _ _ _ h => h) (Or.inl ⟨by rfl, ?_⟩) (by assumption) ?_
      rotate_left
      · intro w hSw; (try dsimp only at hSw); go_split_ands; go_simp; with_reducible rfl
      change wpAnyH _ _ _ _ _ _ _ (Act.put _ (some 29) _) _
      simp only [Act.put, List.setIfInBounds_toArray, List.set_cons_zero, List.set_cons_succ, Array.toArray_toList]
      refine wpAnyH_take (i := 6) (v := ?_) rfl (by kernel_rfl) (by kernel_rfl) (by kernel_rfl) (fun _ _ _ h => h) (Or.inl ⟨by rfl, ?_⟩) (by assumption) ?_
      rotate_left
      · intro w hSw; (try dsimp only at hSw); go_split_ands; go_simp; with_reducible rfl
      change wpAnyH _ _ _ _ _ _ _ (Act.put _ (some 30) _) _
      simp only [Act.put, List.setIfInBounds_toArray, List.set_cons_zero, List.set_cons_succ, Array.toArray_toList]
      refine wpAnyH_take (i := 7) (v := ?_) rfl (by kernel_rfl) (by kernel_rfl) (by kernel_rfl) (fun _ _ _ h => h) (Or.inl ⟨by rfl, ?_⟩) (by assumption) ?_
      rotate_left
      · intro w hSw; (try dsimp only at hSw); go_split_ands; go_simp; with_reducible rfl
      change wpAnyH _ _ _ _ _ _ _ (Act.put _ (some 31) _) _
      simp only [Act.put, List.setIfInBounds_toArray, List.set_cons_zero, List.set_cons_succ, Array.toArray_toList]
      refine wpAnyH_take (i := 8) (v := ?_) rfl (by kernel_rfl) (by kernel_rfl) (by kernel_rfl) (fun _ _ _ h => h) (Or.inl ⟨by rfl, ?_⟩) (by assumption) ?_
      rotate_left
      · intro w hSw; (try dsimp only at hSw); go_split_ands; go_simp; with_reducible rfl
      change wpAnyH _ _ _ _ _ _ _ (Act.put _ (some 32) _) _
      simp only [Act.put, List.setIfInBounds_toArray, List.set_cons_zero, List.set_cons_succ, Array.toArray_toList]
      refine wpAnyH_ready (rs := [4]) (by kernel_rfl) (by simp) ?_
      refine (AllReadyH.cons rfl (fun K hK => ?_) AllReadyH.nil)
      go_simp
      (with_reducible refine ((HTX1.out _ Mq.out).1).mono ?_); rintro r wq ⟨rfl, hb⟩; have Mq := Lib.hid (Mq.out.below hb); clear hb
      go_wp2_with fail
      refine hK.out _ _ (by exact HPP.out _ Mq.out) (fun hHeld => ?_)
      clear hK K
      refine wpAnyH_ready (rs := [9]) (by kernel_rfl) (by simp) ?_
      refine (AllReadyH.cons rfl (fun K hK => ?_) AllReadyH.nil)
      go_simp
      (with_reducible refine ((HTX1.out _ Mq.out).2).mono ?_); rintro r wq ⟨rfl, hb⟩; have Mq := Lib.hid (Mq.out.below hb); clear hb
      go_wp2_with fail
      refine hK.out _ _ (by exact HPP.out _ Mq.out) (fun hHeld => ?_)
      clear hK K
      refine wpAnyH_take (i := 10) (v := ?_) rfl (by kernel_rfl) (by kernel_rfl) (by kernel_rfl) (fun _ _ _ h => h) (Or.inl ⟨by rfl, ?_⟩) (by assumption) ?_
      rotate_left
      · intro w hSw; (try dsimp only at hSw); go_split_ands; go_simp; with_reducible rfl
      change wpAnyH _ _ _ _ _ _ _ (Act.put _ (some 34) _) _
      simp only [Act.put, List.setIfInBounds_toArray, List.set_cons_zero, List.set_cons_succ, Array.toArray_toList]
      refine wpAnyH_done (by kernel_rfl) ?_ _
      clear hHeld K0
      obtain ⟨-, q0, q1, q2, q3⟩ := HPP.out _ Mq.out
      by_cases h0 : fk = 0
      · subst h0
        go_wp2_with fail
        with_reducible refine (HCK.out _).mono ?_
        rintro r w5 ⟨rfl, hb⟩
        have Mq := Lib.hid (Mq.out.below hb)
        clear hb q0 q1 q2 q3
        obtain ⟨-, q0, q1, q2, q3⟩ := HPP.out _ Mq.out
        by_cases hc0 : C = 0
        · subst hc0
          rw [if_pos (by simp)] at ho
          obtain ⟨o1, o2⟩ := ho
          have HT2 := Lib.hid (show tickS (sl.take (k + 1)) = T + fn from by rw [HHT.out, if_pos (by simp)])
          go_wp2_with fail
          go_roundg (N - (k + 1))
          case measure => exact meas hk hlt
          case rel => exact ⟨k + 1, meas2 hlt, by go_num, by rw [HT2.out], Mq.out⟩
        · have hc1 : (C == 0) = false := by simpa using hc0
          have HT2 := Lib.hid (show tickS (sl.take (k + 1)) = T from by rw [HHT.out, if_neg (by omega)]; omega)
          clear hc0 ho
          go_wp2_with fail
          go_roundg (N - (k + 1))
          case measure => exact meas hk hlt
          case rel => exact ⟨k + 1, meas2 hlt, by go_num, by rw [HT2.out], Mq.out⟩
      · have h1 : (fk == 0) = false := by simpa using h0
        have HT2 := Lib.hid (show tickS (sl.take (k + 1)) = T from by rw [HHT.out, if_neg (by omega)]; omega)
        clear h0 ho
        go_wp2_with fail
        go_roundg (N - (k + 1))
        case measure => exact meas hk hlt
        case rel => exact ⟨k + 1, meas2 hlt, by go_num, by rw [HT2.out], Mq.out⟩
    · obtain rfl : k = N := by omega
      have htk : sl.take k = sl := List.take_of_length_le (by rw [HSN.out]; exact Nat.le_refl _)
      rw [htk]
      clear htk hlt hk HEL HTX
      by_cases hin : 0 ≤ kind ∧ kind < 11
      · obtain ⟨kd, rfl⟩ : ∃ m : Nat, kind = m := ⟨kind.toNat, by omega⟩
        rw [if_pos hin, Int.toNat_natCast] at HWD
        have HWX := idx31 kd (by omega) (wK kd) rfl
        obtain ⟨WD, hWD⟩ : ∃ S, wK kd = S := ⟨_, rfl⟩
        obtain ⟨TV, hTV⟩ : ∃ b, ([2, 6, 7, 8, 9] : List Int).contains (kd : Int) = b := ⟨_, rfl⟩
        rw [hWD] at HWX HWD
        rw [hTV] at HTC
        obtain ⟨g3, -⟩ := str_same WD
        obtain ⟨j1, j2⟩ := hin
        have hK : (kd = 2 ∧ TV = true) ∨ (5 < kd ∧ kd < 10 ∧ TV = true) ∨ (kd ≠ 2 ∧ kd ≤ 5 ∧ TV = false) ∨ (10 ≤ kd ∧ TV = false) := by
          have h11 : kd = 0 ∨ kd = 1 ∨ kd = 2 ∨ kd = 3 ∨ kd = 4 ∨ kd = 5 ∨ kd = 6 ∨ kd = 7 ∨ kd = 8 ∨ kd = 9 ∨ kd = 10 := by omega
          rcases h11 with rfl | rfl | rfl | rfl | rfl | rfl | rfl | rfl | rfl | rfl | rfl <;> simp at hTV <;> subst hTV <;> simp
        generalize wsA31 = WSA at HWS HWX
        clear hWD hTV
        go_wp2_with fail
        with_reducible refine (HWS.out _).mono ?_
        rintro r w3 ⟨rfl, hb⟩
        have Mq := Lib.hid (Mq.out.below hb)
        clear hb
        rcases hK with ⟨h1, rfl⟩ | ⟨h1, h2, rfl⟩ | ⟨h1, h2, rfl⟩ | ⟨h1, rfl⟩
        · have e0 : ((kd : Int) == 2) = true := by rw [beq_iff_eq]; omega
          clear h1
          go_wp2_with fail
          clear e0
          clear HWX HWS
          with_reducible refine (HCUT.out _ Mq.out).mono ?_
          rintro r w4 ⟨Ac, q, cc, rfl, hq, hqN, hm⟩
          obtain ⟨TA, hTA⟩ : ∃ T, tickS sl = T := ⟨_, rfl⟩
          obtain ⟨OV, hOV⟩ : ∃ OV, (sRow Ac q cc (fs.take q) :: OW : List Ro) = OV := ⟨_, rfl⟩
          have hm2 : Mst W w4 [] OV := by rw [← hOV]; exact hm
          have hxV : sRow Ax k cx fs ∈ OV := by rw [← hOV]; exact List.mem_cons_of_mem _ HX.out
          have hyV : rRow Ay k cy fs ∈ OV := by rw [← hOV]; exact List.mem_cons_of_mem _ HY.out
          have hcV : sRow Ac q cc (fs.take q) ∈ OV := by rw [← hOV]; exact List.mem_cons_self ..
          have hfq : (fs.take q).length = q := by rw [List.length_take, HFL.out]; omega
          have hslq : sl.take q = (fs.take q).map Sb.st := by rw [← HSL.out, List.map_take]
          have HKN := Lib.hid (show ∀ w', Mst W w' [] OV → _ from fun w' h => HKN.out w' OV h)
          have HTK := Lib.hid (show ∀ w', Mst W w' [] OV → _ from fun w' h => HTK.out w' OV h hxV)
          have HRC := Lib.hid (show ∀ w' ow', Mst W w' [] ow' → rRow Ay k cy fs ∈ ow' → Calls Tryd.prog 44 #[.slice Ay k cy, .int .i64 most] w' fun r w2 => r = .returned (.int .i64 (q : Int)) ∧ Below w'.heap.size w' w2 from fun w' ow' h hy => by
            have := HRC.out w' ow' h hy
            rw [← hq] at this
            exact this)
          have HOF := Lib.hid (show ∀ w', Mst W w' [] OV → Calls Tryd.prog 34 #[.slice Ac q cc] w' fun r w2 => ∃ A' c', r = .returned (.slice A' q c') ∧ Mst W w2 [] (rRow A' q c' (fs.take q) :: OV) from fun w' h =>
            of31_any W w' [] OV h Ac cc ((fs.take q).map Sb.st) q (by simpa using hfq) (h.rowSrc hcV) (by omega))
          have HSM := Lib.hid (show ∀ w' A1 c1, Mst W w' [] (rRow A1 q c1 (fs.take q) :: OV) → Calls Tryd.prog 33 #[.slice A1 q c1, .slice Ay q cy] w' fun r w2 => r = .returned (.bool true) ∧ Below w'.heap.size w' w2 from fun w' A1 c1 h => by
            have hbs : ∀ x ∈ fs.take q, RB w' w'.heap.size x.A x.l := fun x hx => h.src (h.rowSrc (List.mem_cons_of_mem _ (by rw [← hOV]; exact List.mem_cons_of_mem _ (HBW.out x (List.mem_of_mem_take hx)))))
            have h2 := (h.src (h.rowSrc (List.mem_cons_of_mem _ hyV))).takeS (l := fs.map Sb.st) (by simpa using HFL.out) hqN
            rw [← List.map_take] at h2
            exact rsame31_any w' A1 Ay q c1 cy (fs.take q) (fs.take q) hfq hfq (h.src (h.rowSrc (List.mem_cons_self ..))) h2 hbs hbs (fun i x y hx hy => by rw [hx] at hy; cases hy; exact ⟨rfl, rfl, rfl, rfl⟩) (fun x hx => Nat.le_trans (HFS.out x (List.mem_of_mem_take hx)) (by omega)) (by omega))
          have hct := cut_ticks sl most k q HSN.out hq
          have HTQ := Lib.hid (show ∀ w' y, Mst W w' [] (y :: OV) → Calls Tryd.prog 37 #[.slice Ac q cc] w' fun r w2 => r = .returned (.int .i64 (tickS (sl.take q))) ∧ Below w'.heap.size w' w2 from fun w' y h => by
            have hlq : (sl.take q).length = q := by rw [List.length_take, HSN.out]; omega
            have hr : Rd w' w'.heap.size 4 Ac (sl.take q).length (sts (sl.take q)) := by rw [hlq, hslq]; exact h.src (h.rowSrc (List.mem_cons_of_mem _ hcV))
            have := ticks_any w' (HT.out.keep h.bel) (sl.take q) Ac cc hr (by omega)
            rw [hlq] at this
            exact this)
          obtain ⟨TQ, hTQ⟩ : ∃ T, tickS (sl.take q) = T := ⟨_, rfl⟩
          rw [hTQ] at hct HTQ
          rw [hTA] at HTK ⊢
          have HYV := Lib.hid hyV
          have Mq := Lib.hid hm2
          have g1 : (TA == TA) = true := by simp
          have g2 : (true == true) = true := rfl
          have i4 : (q : Int) ≤ k := by omega
          have HCYY := Lib.hid HCY.out
          have i5 : (q : Int) ≤ cy := by have := HCY.out; omega
          have i6 : (0 : Int) ≤ q := by omega
          clear hm hm2 hq hqN hTA hOV hxV hyV hcV hfq hslq hTQ HCUT
          go_wp2_with fail
          with_reducible refine (HKN.out _ Mq.out).mono ?_
          rintro r w5 ⟨rfl, hb⟩
          have Mq := Lib.hid (Mq.out.below hb)
          clear hb
          go_wp2_with fail
          with_reducible refine (HWD.out _ Mq.out.bel).mono ?_
          rintro r w5 ⟨rfl, hb⟩
          have Mq := Lib.hid (Mq.out.below hb)
          clear hb
          go_wp2_with fail
          with_reducible refine (HTC.out _).mono ?_
          rintro r w5 ⟨rfl, hb⟩
          have Mq := Lib.hid (Mq.out.below hb)
          clear hb
          go_wp2_with fail
          with_reducible refine (HTK.out _ Mq.out).mono ?_
          rintro r w5 ⟨rfl, hb⟩
          have Mq := Lib.hid (Mq.out.below hb)
          clear hb
          go_wp2_with fail
          with_reducible refine (HOF.out _ Mq.out).mono ?_
          rintro r w5 ⟨A5, c5, rfl, hm⟩
          have Mq := Lib.hid hm
          clear hm
          go_wp2_with fail
          with_reducible refine (HRC.out _ _ Mq.out (List.mem_cons_of_mem _ HYV.out)).mono ?_
          rintro r w5 ⟨rfl, hb⟩
          have Mq := Lib.hid (Mq.out.below hb)
          clear hb
          go_wp2_with fail
          with_reducible refine (HSM.out _ _ _ Mq.out).mono ?_
          rintro r w5 ⟨rfl, hb⟩
          have Mq := Lib.hid (Mq.out.below hb)
          clear hb
          by_cases hneg : most < 0
          · clear hct
            go_wp2_with fail
            go_ret
            exact ⟨rfl, Mq.out.bel⟩
          · have hle := hct (by omega)
            clear hct
            go_wp2_with fail
            with_reducible refine (HTQ.out _ _ Mq.out).mono ?_
            rintro r w5 ⟨rfl, hb⟩
            have Mq := Lib.hid (Mq.out.below hb)
            clear hb
            go_wp2_with fail
            go_ret
            exact ⟨rfl, Mq.out.bel⟩
        · skip
          have e0 : ((kd : Int) == 2) = false := by rw [beq_eq_false_iff_ne]; omega
          have e1 : (5 : Int) < kd := by omega
          have e2 : (kd : Int) < 10 := by omega
          go_wp2_with fail
          clear e0 e1 e2
          clear HWX HWS
          with_reducible refine (HCUT.out _ Mq.out).mono ?_
          rintro r w4 ⟨Ac, q, cc, rfl, hq, hqN, hm⟩
          obtain ⟨TA, hTA⟩ : ∃ T, tickS sl = T := ⟨_, rfl⟩
          obtain ⟨OV, hOV⟩ : ∃ OV, (sRow Ac q cc (fs.take q) :: OW : List Ro) = OV := ⟨_, rfl⟩
          have hm2 : Mst W w4 [] OV := by rw [← hOV]; exact hm
          have hxV : sRow Ax k cx fs ∈ OV := by rw [← hOV]; exact List.mem_cons_of_mem _ HX.out
          have hyV : rRow Ay k cy fs ∈ OV := by rw [← hOV]; exact List.mem_cons_of_mem _ HY.out
          have hcV : sRow Ac q cc (fs.take q) ∈ OV := by rw [← hOV]; exact List.mem_cons_self ..
          have hfq : (fs.take q).length = q := by rw [List.length_take, HFL.out]; omega
          have hslq : sl.take q = (fs.take q).map Sb.st := by rw [← HSL.out, List.map_take]
          have HKN := Lib.hid (show ∀ w', Mst W w' [] OV → _ from fun w' h => HKN.out w' OV h)
          have HTK := Lib.hid (show ∀ w', Mst W w' [] OV → _ from fun w' h => HTK.out w' OV h hxV)
          have HRC := Lib.hid (show ∀ w' ow', Mst W w' [] ow' → rRow Ay k cy fs ∈ ow' → Calls Tryd.prog 44 #[.slice Ay k cy, .int .i64 most] w' fun r w2 => r = .returned (.int .i64 (q : Int)) ∧ Below w'.heap.size w' w2 from fun w' ow' h hy => by
            have := HRC.out w' ow' h hy
            rw [← hq] at this
            exact this)
          have HOF := Lib.hid (show ∀ w', Mst W w' [] OV → Calls Tryd.prog 34 #[.slice Ac q cc] w' fun r w2 => ∃ A' c', r = .returned (.slice A' q c') ∧ Mst W w2 [] (rRow A' q c' (fs.take q) :: OV) from fun w' h =>
            of31_any W w' [] OV h Ac cc ((fs.take q).map Sb.st) q (by simpa using hfq) (h.rowSrc hcV) (by omega))
          have HSM := Lib.hid (show ∀ w' A1 c1, Mst W w' [] (rRow A1 q c1 (fs.take q) :: OV) → Calls Tryd.prog 33 #[.slice A1 q c1, .slice Ay q cy] w' fun r w2 => r = .returned (.bool true) ∧ Below w'.heap.size w' w2 from fun w' A1 c1 h => by
            have hbs : ∀ x ∈ fs.take q, RB w' w'.heap.size x.A x.l := fun x hx => h.src (h.rowSrc (List.mem_cons_of_mem _ (by rw [← hOV]; exact List.mem_cons_of_mem _ (HBW.out x (List.mem_of_mem_take hx)))))
            have h2 := (h.src (h.rowSrc (List.mem_cons_of_mem _ hyV))).takeS (l := fs.map Sb.st) (by simpa using HFL.out) hqN
            rw [← List.map_take] at h2
            exact rsame31_any w' A1 Ay q c1 cy (fs.take q) (fs.take q) hfq hfq (h.src (h.rowSrc (List.mem_cons_self ..))) h2 hbs hbs (fun i x y hx hy => by rw [hx] at hy; cases hy; exact ⟨rfl, rfl, rfl, rfl⟩) (fun x hx => Nat.le_trans (HFS.out x (List.mem_of_mem_take hx)) (by omega)) (by omega))
          have hct := cut_ticks sl most k q HSN.out hq
          have HTQ := Lib.hid (show ∀ w' y, Mst W w' [] (y :: OV) → Calls Tryd.prog 37 #[.slice Ac q cc] w' fun r w2 => r = .returned (.int .i64 (tickS (sl.take q))) ∧ Below w'.heap.size w' w2 from fun w' y h => by
            have hlq : (sl.take q).length = q := by rw [List.length_take, HSN.out]; omega
            have hr : Rd w' w'.heap.size 4 Ac (sl.take q).length (sts (sl.take q)) := by rw [hlq, hslq]; exact h.src (h.rowSrc (List.mem_cons_of_mem _ hcV))
            have := ticks_any w' (HT.out.keep h.bel) (sl.take q) Ac cc hr (by omega)
            rw [hlq] at this
            exact this)
          obtain ⟨TQ, hTQ⟩ : ∃ T, tickS (sl.take q) = T := ⟨_, rfl⟩
          rw [hTQ] at hct HTQ
          rw [hTA] at HTK ⊢
          have HYV := Lib.hid hyV
          have Mq := Lib.hid hm2
          have g1 : (TA == TA) = true := by simp
          have g2 : (true == true) = true := rfl
          have i4 : (q : Int) ≤ k := by omega
          have HCYY := Lib.hid HCY.out
          have i5 : (q : Int) ≤ cy := by have := HCY.out; omega
          have i6 : (0 : Int) ≤ q := by omega
          clear hm hm2 hq hqN hTA hOV hxV hyV hcV hfq hslq hTQ HCUT
          go_wp2_with fail
          with_reducible refine (HKN.out _ Mq.out).mono ?_
          rintro r w5 ⟨rfl, hb⟩
          have Mq := Lib.hid (Mq.out.below hb)
          clear hb
          go_wp2_with fail
          with_reducible refine (HWD.out _ Mq.out.bel).mono ?_
          rintro r w5 ⟨rfl, hb⟩
          have Mq := Lib.hid (Mq.out.below hb)
          clear hb
          go_wp2_with fail
          with_reducible refine (HTC.out _).mono ?_
          rintro r w5 ⟨rfl, hb⟩
          have Mq := Lib.hid (Mq.out.below hb)
          clear hb
          go_wp2_with fail
          with_reducible refine (HTK.out _ Mq.out).mono ?_
          rintro r w5 ⟨rfl, hb⟩
          have Mq := Lib.hid (Mq.out.below hb)
          clear hb
          go_wp2_with fail
          with_reducible refine (HOF.out _ Mq.out).mono ?_
          rintro r w5 ⟨A5, c5, rfl, hm⟩
          have Mq := Lib.hid hm
          clear hm
          go_wp2_with fail
          with_reducible refine (HRC.out _ _ Mq.out (List.mem_cons_of_mem _ HYV.out)).mono ?_
          rintro r w5 ⟨rfl, hb⟩
          have Mq := Lib.hid (Mq.out.below hb)
          clear hb
          go_wp2_with fail
          with_reducible refine (HSM.out _ _ _ Mq.out).mono ?_
          rintro r w5 ⟨rfl, hb⟩
          have Mq := Lib.hid (Mq.out.below hb)
          clear hb
          by_cases hneg : most < 0
          · clear hct
            go_wp2_with fail
            go_ret
            exact ⟨rfl, Mq.out.bel⟩
          · have hle := hct (by omega)
            clear hct
            go_wp2_with fail
            with_reducible refine (HTQ.out _ _ Mq.out).mono ?_
            rintro r w5 ⟨rfl, hb⟩
            have Mq := Lib.hid (Mq.out.below hb)
            clear hb
            go_wp2_with fail
            go_ret
            exact ⟨rfl, Mq.out.bel⟩
        · skip
          have e0 : ((kd : Int) == 2) = false := by rw [beq_eq_false_iff_ne]; omega
          have e1 : ¬ (5 : Int) < kd := by omega
          go_wp2_with fail
          clear e0 e1
          clear HWX HWS
          with_reducible refine (HCUT.out _ Mq.out).mono ?_
          rintro r w4 ⟨Ac, q, cc, rfl, hq, hqN, hm⟩
          obtain ⟨TA, hTA⟩ : ∃ T, tickS sl = T := ⟨_, rfl⟩
          obtain ⟨OV, hOV⟩ : ∃ OV, (sRow Ac q cc (fs.take q) :: OW : List Ro) = OV := ⟨_, rfl⟩
          have hm2 : Mst W w4 [] OV := by rw [← hOV]; exact hm
          have hxV : sRow Ax k cx fs ∈ OV := by rw [← hOV]; exact List.mem_cons_of_mem _ HX.out
          have hyV : rRow Ay k cy fs ∈ OV := by rw [← hOV]; exact List.mem_cons_of_mem _ HY.out
          have hcV : sRow Ac q cc (fs.take q) ∈ OV := by rw [← hOV]; exact List.mem_cons_self ..
          have hfq : (fs.take q).length = q := by rw [List.length_take, HFL.out]; omega
          have hslq : sl.take q = (fs.take q).map Sb.st := by rw [← HSL.out, List.map_take]
          have HKN := Lib.hid (show ∀ w', Mst W w' [] OV → _ from fun w' h => HKN.out w' OV h)
          have HTK := Lib.hid (show ∀ w', Mst W w' [] OV → _ from fun w' h => HTK.out w' OV h hxV)
          have HRC := Lib.hid (show ∀ w' ow', Mst W w' [] ow' → rRow Ay k cy fs ∈ ow' → Calls Tryd.prog 44 #[.slice Ay k cy, .int .i64 most] w' fun r w2 => r = .returned (.int .i64 (q : Int)) ∧ Below w'.heap.size w' w2 from fun w' ow' h hy => by
            have := HRC.out w' ow' h hy
            rw [← hq] at this
            exact this)
          have HOF := Lib.hid (show ∀ w', Mst W w' [] OV → Calls Tryd.prog 34 #[.slice Ac q cc] w' fun r w2 => ∃ A' c', r = .returned (.slice A' q c') ∧ Mst W w2 [] (rRow A' q c' (fs.take q) :: OV) from fun w' h =>
            of31_any W w' [] OV h Ac cc ((fs.take q).map Sb.st) q (by simpa using hfq) (h.rowSrc hcV) (by omega))
          have HSM := Lib.hid (show ∀ w' A1 c1, Mst W w' [] (rRow A1 q c1 (fs.take q) :: OV) → Calls Tryd.prog 33 #[.slice A1 q c1, .slice Ay q cy] w' fun r w2 => r = .returned (.bool true) ∧ Below w'.heap.size w' w2 from fun w' A1 c1 h => by
            have hbs : ∀ x ∈ fs.take q, RB w' w'.heap.size x.A x.l := fun x hx => h.src (h.rowSrc (List.mem_cons_of_mem _ (by rw [← hOV]; exact List.mem_cons_of_mem _ (HBW.out x (List.mem_of_mem_take hx)))))
            have h2 := (h.src (h.rowSrc (List.mem_cons_of_mem _ hyV))).takeS (l := fs.map Sb.st) (by simpa using HFL.out) hqN
            rw [← List.map_take] at h2
            exact rsame31_any w' A1 Ay q c1 cy (fs.take q) (fs.take q) hfq hfq (h.src (h.rowSrc (List.mem_cons_self ..))) h2 hbs hbs (fun i x y hx hy => by rw [hx] at hy; cases hy; exact ⟨rfl, rfl, rfl, rfl⟩) (fun x hx => Nat.le_trans (HFS.out x (List.mem_of_mem_take hx)) (by omega)) (by omega))
          have hct := cut_ticks sl most k q HSN.out hq
          have HTQ := Lib.hid (show ∀ w' y, Mst W w' [] (y :: OV) → Calls Tryd.prog 37 #[.slice Ac q cc] w' fun r w2 => r = .returned (.int .i64 (tickS (sl.take q))) ∧ Below w'.heap.size w' w2 from fun w' y h => by
            have hlq : (sl.take q).length = q := by rw [List.length_take, HSN.out]; omega
            have hr : Rd w' w'.heap.size 4 Ac (sl.take q).length (sts (sl.take q)) := by rw [hlq, hslq]; exact h.src (h.rowSrc (List.mem_cons_of_mem _ hcV))
            have := ticks_any w' (HT.out.keep h.bel) (sl.take q) Ac cc hr (by omega)
            rw [hlq] at this
            exact this)
          obtain ⟨TQ, hTQ⟩ : ∃ T, tickS (sl.take q) = T := ⟨_, rfl⟩
          rw [hTQ] at hct HTQ
          rw [hTA] at HTK ⊢
          have HYV := Lib.hid hyV
          have Mq := Lib.hid hm2
          have g1 : (TA == TA) = true := by simp
          have g2 : (false == false) = true := rfl
          have i4 : (q : Int) ≤ k := by omega
          have HCYY := Lib.hid HCY.out
          have i5 : (q : Int) ≤ cy := by have := HCY.out; omega
          have i6 : (0 : Int) ≤ q := by omega
          clear hm hm2 hq hqN hTA hOV hxV hyV hcV hfq hslq hTQ HCUT
          go_wp2_with fail
          with_reducible refine (HKN.out _ Mq.out).mono ?_
          rintro r w5 ⟨rfl, hb⟩
          have Mq := Lib.hid (Mq.out.below hb)
          clear hb
          go_wp2_with fail
          with_reducible refine (HWD.out _ Mq.out.bel).mono ?_
          rintro r w5 ⟨rfl, hb⟩
          have Mq := Lib.hid (Mq.out.below hb)
          clear hb
          go_wp2_with fail
          with_reducible refine (HTC.out _).mono ?_
          rintro r w5 ⟨rfl, hb⟩
          have Mq := Lib.hid (Mq.out.below hb)
          clear hb
          go_wp2_with fail
          with_reducible refine (HTK.out _ Mq.out).mono ?_
          rintro r w5 ⟨rfl, hb⟩
          have Mq := Lib.hid (Mq.out.below hb)
          clear hb
          go_wp2_with fail
          with_reducible refine (HOF.out _ Mq.out).mono ?_
          rintro r w5 ⟨A5, c5, rfl, hm⟩
          have Mq := Lib.hid hm
          clear hm
          go_wp2_with fail
          with_reducible refine (HRC.out _ _ Mq.out (List.mem_cons_of_mem _ HYV.out)).mono ?_
          rintro r w5 ⟨rfl, hb⟩
          have Mq := Lib.hid (Mq.out.below hb)
          clear hb
          go_wp2_with fail
          with_reducible refine (HSM.out _ _ _ Mq.out).mono ?_
          rintro r w5 ⟨rfl, hb⟩
          have Mq := Lib.hid (Mq.out.below hb)
          clear hb
          by_cases hneg : most < 0
          · clear hct
            go_wp2_with fail
            go_ret
            exact ⟨rfl, Mq.out.bel⟩
          · have hle := hct (by omega)
            clear hct
            go_wp2_with fail
            with_reducible refine (HTQ.out _ _ Mq.out).mono ?_
            rintro r w5 ⟨rfl, hb⟩
            have Mq := Lib.hid (Mq.out.below hb)
            clear hb
            go_wp2_with fail
            go_ret
            exact ⟨rfl, Mq.out.bel⟩
        · skip
          have e0 : ((kd : Int) == 2) = false := by rw [beq_eq_false_iff_ne]; omega
          have e1 : (5 : Int) < kd := by omega
          have e2 : decide ((kd : Int) < 10) = false := by rw [decide_eq_false_iff_not]; omega
          go_wp2_with fail
          clear e0 e1 e2
          clear HWX HWS
          with_reducible refine (HCUT.out _ Mq.out).mono ?_
          rintro r w4 ⟨Ac, q, cc, rfl, hq, hqN, hm⟩
          obtain ⟨TA, hTA⟩ : ∃ T, tickS sl = T := ⟨_, rfl⟩
          obtain ⟨OV, hOV⟩ : ∃ OV, (sRow Ac q cc (fs.take q) :: OW : List Ro) = OV := ⟨_, rfl⟩
          have hm2 : Mst W w4 [] OV := by rw [← hOV]; exact hm
          have hxV : sRow Ax k cx fs ∈ OV := by rw [← hOV]; exact List.mem_cons_of_mem _ HX.out
          have hyV : rRow Ay k cy fs ∈ OV := by rw [← hOV]; exact List.mem_cons_of_mem _ HY.out
          have hcV : sRow Ac q cc (fs.take q) ∈ OV := by rw [← hOV]; exact List.mem_cons_self ..
          have hfq : (fs.take q).length = q := by rw [List.length_take, HFL.out]; omega
          have hslq : sl.take q = (fs.take q).map Sb.st := by rw [← HSL.out, List.map_take]
          have HKN := Lib.hid (show ∀ w', Mst W w' [] OV → _ from fun w' h => HKN.out w' OV h)
          have HTK := Lib.hid (show ∀ w', Mst W w' [] OV → _ from fun w' h => HTK.out w' OV h hxV)
          have HRC := Lib.hid (show ∀ w' ow', Mst W w' [] ow' → rRow Ay k cy fs ∈ ow' → Calls Tryd.prog 44 #[.slice Ay k cy, .int .i64 most] w' fun r w2 => r = .returned (.int .i64 (q : Int)) ∧ Below w'.heap.size w' w2 from fun w' ow' h hy => by
            have := HRC.out w' ow' h hy
            rw [← hq] at this
            exact this)
          have HOF := Lib.hid (show ∀ w', Mst W w' [] OV → Calls Tryd.prog 34 #[.slice Ac q cc] w' fun r w2 => ∃ A' c', r = .returned (.slice A' q c') ∧ Mst W w2 [] (rRow A' q c' (fs.take q) :: OV) from fun w' h =>
            of31_any W w' [] OV h Ac cc ((fs.take q).map Sb.st) q (by simpa using hfq) (h.rowSrc hcV) (by omega))
          have HSM := Lib.hid (show ∀ w' A1 c1, Mst W w' [] (rRow A1 q c1 (fs.take q) :: OV) → Calls Tryd.prog 33 #[.slice A1 q c1, .slice Ay q cy] w' fun r w2 => r = .returned (.bool true) ∧ Below w'.heap.size w' w2 from fun w' A1 c1 h => by
            have hbs : ∀ x ∈ fs.take q, RB w' w'.heap.size x.A x.l := fun x hx => h.src (h.rowSrc (List.mem_cons_of_mem _ (by rw [← hOV]; exact List.mem_cons_of_mem _ (HBW.out x (List.mem_of_mem_take hx)))))
            have h2 := (h.src (h.rowSrc (List.mem_cons_of_mem _ hyV))).takeS (l := fs.map Sb.st) (by simpa using HFL.out) hqN
            rw [← List.map_take] at h2
            exact rsame31_any w' A1 Ay q c1 cy (fs.take q) (fs.take q) hfq hfq (h.src (h.rowSrc (List.mem_cons_self ..))) h2 hbs hbs (fun i x y hx hy => by rw [hx] at hy; cases hy; exact ⟨rfl, rfl, rfl, rfl⟩) (fun x hx => Nat.le_trans (HFS.out x (List.mem_of_mem_take hx)) (by omega)) (by omega))
          have hct := cut_ticks sl most k q HSN.out hq
          have HTQ := Lib.hid (show ∀ w' y, Mst W w' [] (y :: OV) → Calls Tryd.prog 37 #[.slice Ac q cc] w' fun r w2 => r = .returned (.int .i64 (tickS (sl.take q))) ∧ Below w'.heap.size w' w2 from fun w' y h => by
            have hlq : (sl.take q).length = q := by rw [List.length_take, HSN.out]; omega
            have hr : Rd w' w'.heap.size 4 Ac (sl.take q).length (sts (sl.take q)) := by rw [hlq, hslq]; exact h.src (h.rowSrc (List.mem_cons_of_mem _ hcV))
            have := ticks_any w' (HT.out.keep h.bel) (sl.take q) Ac cc hr (by omega)
            rw [hlq] at this
            exact this)
          obtain ⟨TQ, hTQ⟩ : ∃ T, tickS (sl.take q) = T := ⟨_, rfl⟩
          rw [hTQ] at hct HTQ
          rw [hTA] at HTK ⊢
          have HYV := Lib.hid hyV
          have Mq := Lib.hid hm2
          have g1 : (TA == TA) = true := by simp
          have g2 : (false == false) = true := rfl
          have i4 : (q : Int) ≤ k := by omega
          have HCYY := Lib.hid HCY.out
          have i5 : (q : Int) ≤ cy := by have := HCY.out; omega
          have i6 : (0 : Int) ≤ q := by omega
          clear hm hm2 hq hqN hTA hOV hxV hyV hcV hfq hslq hTQ HCUT
          go_wp2_with fail
          with_reducible refine (HKN.out _ Mq.out).mono ?_
          rintro r w5 ⟨rfl, hb⟩
          have Mq := Lib.hid (Mq.out.below hb)
          clear hb
          go_wp2_with fail
          with_reducible refine (HWD.out _ Mq.out.bel).mono ?_
          rintro r w5 ⟨rfl, hb⟩
          have Mq := Lib.hid (Mq.out.below hb)
          clear hb
          go_wp2_with fail
          with_reducible refine (HTC.out _).mono ?_
          rintro r w5 ⟨rfl, hb⟩
          have Mq := Lib.hid (Mq.out.below hb)
          clear hb
          go_wp2_with fail
          with_reducible refine (HTK.out _ Mq.out).mono ?_
          rintro r w5 ⟨rfl, hb⟩
          have Mq := Lib.hid (Mq.out.below hb)
          clear hb
          go_wp2_with fail
          with_reducible refine (HOF.out _ Mq.out).mono ?_
          rintro r w5 ⟨A5, c5, rfl, hm⟩
          have Mq := Lib.hid hm
          clear hm
          go_wp2_with fail
          with_reducible refine (HRC.out _ _ Mq.out (List.mem_cons_of_mem _ HYV.out)).mono ?_
          rintro r w5 ⟨rfl, hb⟩
          have Mq := Lib.hid (Mq.out.below hb)
          clear hb
          go_wp2_with fail
          with_reducible refine (HSM.out _ _ _ Mq.out).mono ?_
          rintro r w5 ⟨rfl, hb⟩
          have Mq := Lib.hid (Mq.out.below hb)
          clear hb
          by_cases hneg : most < 0
          · clear hct
            go_wp2_with fail
            go_ret
            exact ⟨rfl, Mq.out.bel⟩
          · have hle := hct (by omega)
            clear hct
            go_wp2_with fail
            with_reducible refine (HTQ.out _ _ Mq.out).mono ?_
            rintro r w5 ⟨rfl, hb⟩
            have Mq := Lib.hid (Mq.out.below hb)
            clear hb
            go_wp2_with fail
            go_ret
            exact ⟨rfl, Mq.out.bel⟩
      · rw [if_neg hin] at HWD
        have HWX := True.intro
        obtain ⟨WD, hWD⟩ : ∃ S, (⟨#[]⟩ : ByteArray) = S := ⟨_, rfl⟩
        rw [hWD] at HWD
        obtain ⟨g3, -⟩ := str_same WD
        have hTV : ([2, 6, 7, 8, 9] : List Int).contains kind = false := by
          simp
          omega
        rw [hTV] at HTC
        have hK : kind < 0 ∨ (0 ≤ kind ∧ 11 ≤ kind) := by omega
        clear hTV
        have HWDE := Lib.hid hWD
        clear hWD
        have e0 : (kind == 2) = false := by rw [beq_eq_false_iff_ne]; omega
        clear hin
        rcases hK with h1 | ⟨h1, h2⟩
        · have e1 : ¬ (5 : Int) < kind := by omega
          go_wp2_with fail
          rw [HWDE.out]
          clear HWDE e0 e1
          clear HWX HWS
          with_reducible refine (HCUT.out _ Mq.out).mono ?_
          rintro r w4 ⟨Ac, q, cc, rfl, hq, hqN, hm⟩
          obtain ⟨TA, hTA⟩ : ∃ T, tickS sl = T := ⟨_, rfl⟩
          obtain ⟨OV, hOV⟩ : ∃ OV, (sRow Ac q cc (fs.take q) :: OW : List Ro) = OV := ⟨_, rfl⟩
          have hm2 : Mst W w4 [] OV := by rw [← hOV]; exact hm
          have hxV : sRow Ax k cx fs ∈ OV := by rw [← hOV]; exact List.mem_cons_of_mem _ HX.out
          have hyV : rRow Ay k cy fs ∈ OV := by rw [← hOV]; exact List.mem_cons_of_mem _ HY.out
          have hcV : sRow Ac q cc (fs.take q) ∈ OV := by rw [← hOV]; exact List.mem_cons_self ..
          have hfq : (fs.take q).length = q := by rw [List.length_take, HFL.out]; omega
          have hslq : sl.take q = (fs.take q).map Sb.st := by rw [← HSL.out, List.map_take]
          have HKN := Lib.hid (show ∀ w', Mst W w' [] OV → _ from fun w' h => HKN.out w' OV h)
          have HTK := Lib.hid (show ∀ w', Mst W w' [] OV → _ from fun w' h => HTK.out w' OV h hxV)
          have HRC := Lib.hid (show ∀ w' ow', Mst W w' [] ow' → rRow Ay k cy fs ∈ ow' → Calls Tryd.prog 44 #[.slice Ay k cy, .int .i64 most] w' fun r w2 => r = .returned (.int .i64 (q : Int)) ∧ Below w'.heap.size w' w2 from fun w' ow' h hy => by
            have := HRC.out w' ow' h hy
            rw [← hq] at this
            exact this)
          have HOF := Lib.hid (show ∀ w', Mst W w' [] OV → Calls Tryd.prog 34 #[.slice Ac q cc] w' fun r w2 => ∃ A' c', r = .returned (.slice A' q c') ∧ Mst W w2 [] (rRow A' q c' (fs.take q) :: OV) from fun w' h =>
            of31_any W w' [] OV h Ac cc ((fs.take q).map Sb.st) q (by simpa using hfq) (h.rowSrc hcV) (by omega))
          have HSM := Lib.hid (show ∀ w' A1 c1, Mst W w' [] (rRow A1 q c1 (fs.take q) :: OV) → Calls Tryd.prog 33 #[.slice A1 q c1, .slice Ay q cy] w' fun r w2 => r = .returned (.bool true) ∧ Below w'.heap.size w' w2 from fun w' A1 c1 h => by
            have hbs : ∀ x ∈ fs.take q, RB w' w'.heap.size x.A x.l := fun x hx => h.src (h.rowSrc (List.mem_cons_of_mem _ (by rw [← hOV]; exact List.mem_cons_of_mem _ (HBW.out x (List.mem_of_mem_take hx)))))
            have h2 := (h.src (h.rowSrc (List.mem_cons_of_mem _ hyV))).takeS (l := fs.map Sb.st) (by simpa using HFL.out) hqN
            rw [← List.map_take] at h2
            exact rsame31_any w' A1 Ay q c1 cy (fs.take q) (fs.take q) hfq hfq (h.src (h.rowSrc (List.mem_cons_self ..))) h2 hbs hbs (fun i x y hx hy => by rw [hx] at hy; cases hy; exact ⟨rfl, rfl, rfl, rfl⟩) (fun x hx => Nat.le_trans (HFS.out x (List.mem_of_mem_take hx)) (by omega)) (by omega))
          have hct := cut_ticks sl most k q HSN.out hq
          have HTQ := Lib.hid (show ∀ w' y, Mst W w' [] (y :: OV) → Calls Tryd.prog 37 #[.slice Ac q cc] w' fun r w2 => r = .returned (.int .i64 (tickS (sl.take q))) ∧ Below w'.heap.size w' w2 from fun w' y h => by
            have hlq : (sl.take q).length = q := by rw [List.length_take, HSN.out]; omega
            have hr : Rd w' w'.heap.size 4 Ac (sl.take q).length (sts (sl.take q)) := by rw [hlq, hslq]; exact h.src (h.rowSrc (List.mem_cons_of_mem _ hcV))
            have := ticks_any w' (HT.out.keep h.bel) (sl.take q) Ac cc hr (by omega)
            rw [hlq] at this
            exact this)
          obtain ⟨TQ, hTQ⟩ : ∃ T, tickS (sl.take q) = T := ⟨_, rfl⟩
          rw [hTQ] at hct HTQ
          rw [hTA] at HTK ⊢
          have HYV := Lib.hid hyV
          have Mq := Lib.hid hm2
          have g1 : (TA == TA) = true := by simp
          have g2 : (false == false) = true := rfl
          have i4 : (q : Int) ≤ k := by omega
          have HCYY := Lib.hid HCY.out
          have i5 : (q : Int) ≤ cy := by have := HCY.out; omega
          have i6 : (0 : Int) ≤ q := by omega
          clear hm hm2 hq hqN hTA hOV hxV hyV hcV hfq hslq hTQ HCUT
          go_wp2_with fail
          with_reducible refine (HKN.out _ Mq.out).mono ?_
          rintro r w5 ⟨rfl, hb⟩
          have Mq := Lib.hid (Mq.out.below hb)
          clear hb
          go_wp2_with fail
          with_reducible refine (HWD.out _ Mq.out.bel).mono ?_
          rintro r w5 ⟨rfl, hb⟩
          have Mq := Lib.hid (Mq.out.below hb)
          clear hb
          go_wp2_with fail
          with_reducible refine (HTC.out _).mono ?_
          rintro r w5 ⟨rfl, hb⟩
          have Mq := Lib.hid (Mq.out.below hb)
          clear hb
          go_wp2_with fail
          with_reducible refine (HTK.out _ Mq.out).mono ?_
          rintro r w5 ⟨rfl, hb⟩
          have Mq := Lib.hid (Mq.out.below hb)
          clear hb
          go_wp2_with fail
          with_reducible refine (HOF.out _ Mq.out).mono ?_
          rintro r w5 ⟨A5, c5, rfl, hm⟩
          have Mq := Lib.hid hm
          clear hm
          go_wp2_with fail
          with_reducible refine (HRC.out _ _ Mq.out (List.mem_cons_of_mem _ HYV.out)).mono ?_
          rintro r w5 ⟨rfl, hb⟩
          have Mq := Lib.hid (Mq.out.below hb)
          clear hb
          go_wp2_with fail
          with_reducible refine (HSM.out _ _ _ Mq.out).mono ?_
          rintro r w5 ⟨rfl, hb⟩
          have Mq := Lib.hid (Mq.out.below hb)
          clear hb
          by_cases hneg : most < 0
          · clear hct
            go_wp2_with fail
            go_ret
            exact ⟨rfl, Mq.out.bel⟩
          · have hle := hct (by omega)
            clear hct
            go_wp2_with fail
            with_reducible refine (HTQ.out _ _ Mq.out).mono ?_
            rintro r w5 ⟨rfl, hb⟩
            have Mq := Lib.hid (Mq.out.below hb)
            clear hb
            go_wp2_with fail
            go_ret
            exact ⟨rfl, Mq.out.bel⟩
        · have e1 : (5 : Int) < kind := by omega
          have e2 : ¬ kind < 10 := by omega
          go_wp2_with fail
          rw [HWDE.out]
          clear HWDE e0 e1 e2
          clear HWX HWS
          with_reducible refine (HCUT.out _ Mq.out).mono ?_
          rintro r w4 ⟨Ac, q, cc, rfl, hq, hqN, hm⟩
          obtain ⟨TA, hTA⟩ : ∃ T, tickS sl = T := ⟨_, rfl⟩
          obtain ⟨OV, hOV⟩ : ∃ OV, (sRow Ac q cc (fs.take q) :: OW : List Ro) = OV := ⟨_, rfl⟩
          have hm2 : Mst W w4 [] OV := by rw [← hOV]; exact hm
          have hxV : sRow Ax k cx fs ∈ OV := by rw [← hOV]; exact List.mem_cons_of_mem _ HX.out
          have hyV : rRow Ay k cy fs ∈ OV := by rw [← hOV]; exact List.mem_cons_of_mem _ HY.out
          have hcV : sRow Ac q cc (fs.take q) ∈ OV := by rw [← hOV]; exact List.mem_cons_self ..
          have hfq : (fs.take q).length = q := by rw [List.length_take, HFL.out]; omega
          have hslq : sl.take q = (fs.take q).map Sb.st := by rw [← HSL.out, List.map_take]
          have HKN := Lib.hid (show ∀ w', Mst W w' [] OV → _ from fun w' h => HKN.out w' OV h)
          have HTK := Lib.hid (show ∀ w', Mst W w' [] OV → _ from fun w' h => HTK.out w' OV h hxV)
          have HRC := Lib.hid (show ∀ w' ow', Mst W w' [] ow' → rRow Ay k cy fs ∈ ow' → Calls Tryd.prog 44 #[.slice Ay k cy, .int .i64 most] w' fun r w2 => r = .returned (.int .i64 (q : Int)) ∧ Below w'.heap.size w' w2 from fun w' ow' h hy => by
            have := HRC.out w' ow' h hy
            rw [← hq] at this
            exact this)
          have HOF := Lib.hid (show ∀ w', Mst W w' [] OV → Calls Tryd.prog 34 #[.slice Ac q cc] w' fun r w2 => ∃ A' c', r = .returned (.slice A' q c') ∧ Mst W w2 [] (rRow A' q c' (fs.take q) :: OV) from fun w' h =>
            of31_any W w' [] OV h Ac cc ((fs.take q).map Sb.st) q (by simpa using hfq) (h.rowSrc hcV) (by omega))
          have HSM := Lib.hid (show ∀ w' A1 c1, Mst W w' [] (rRow A1 q c1 (fs.take q) :: OV) → Calls Tryd.prog 33 #[.slice A1 q c1, .slice Ay q cy] w' fun r w2 => r = .returned (.bool true) ∧ Below w'.heap.size w' w2 from fun w' A1 c1 h => by
            have hbs : ∀ x ∈ fs.take q, RB w' w'.heap.size x.A x.l := fun x hx => h.src (h.rowSrc (List.mem_cons_of_mem _ (by rw [← hOV]; exact List.mem_cons_of_mem _ (HBW.out x (List.mem_of_mem_take hx)))))
            have h2 := (h.src (h.rowSrc (List.mem_cons_of_mem _ hyV))).takeS (l := fs.map Sb.st) (by simpa using HFL.out) hqN
            rw [← List.map_take] at h2
            exact rsame31_any w' A1 Ay q c1 cy (fs.take q) (fs.take q) hfq hfq (h.src (h.rowSrc (List.mem_cons_self ..))) h2 hbs hbs (fun i x y hx hy => by rw [hx] at hy; cases hy; exact ⟨rfl, rfl, rfl, rfl⟩) (fun x hx => Nat.le_trans (HFS.out x (List.mem_of_mem_take hx)) (by omega)) (by omega))
          have hct := cut_ticks sl most k q HSN.out hq
          have HTQ := Lib.hid (show ∀ w' y, Mst W w' [] (y :: OV) → Calls Tryd.prog 37 #[.slice Ac q cc] w' fun r w2 => r = .returned (.int .i64 (tickS (sl.take q))) ∧ Below w'.heap.size w' w2 from fun w' y h => by
            have hlq : (sl.take q).length = q := by rw [List.length_take, HSN.out]; omega
            have hr : Rd w' w'.heap.size 4 Ac (sl.take q).length (sts (sl.take q)) := by rw [hlq, hslq]; exact h.src (h.rowSrc (List.mem_cons_of_mem _ hcV))
            have := ticks_any w' (HT.out.keep h.bel) (sl.take q) Ac cc hr (by omega)
            rw [hlq] at this
            exact this)
          obtain ⟨TQ, hTQ⟩ : ∃ T, tickS (sl.take q) = T := ⟨_, rfl⟩
          rw [hTQ] at hct HTQ
          rw [hTA] at HTK ⊢
          have HYV := Lib.hid hyV
          have Mq := Lib.hid hm2
          have g1 : (TA == TA) = true := by simp
          have g2 : (false == false) = true := rfl
          have i4 : (q : Int) ≤ k := by omega
          have HCYY := Lib.hid HCY.out
          have i5 : (q : Int) ≤ cy := by have := HCY.out; omega
          have i6 : (0 : Int) ≤ q := by omega
          clear hm hm2 hq hqN hTA hOV hxV hyV hcV hfq hslq hTQ HCUT
          go_wp2_with fail
          with_reducible refine (HKN.out _ Mq.out).mono ?_
          rintro r w5 ⟨rfl, hb⟩
          have Mq := Lib.hid (Mq.out.below hb)
          clear hb
          go_wp2_with fail
          with_reducible refine (HWD.out _ Mq.out.bel).mono ?_
          rintro r w5 ⟨rfl, hb⟩
          have Mq := Lib.hid (Mq.out.below hb)
          clear hb
          go_wp2_with fail
          with_reducible refine (HTC.out _).mono ?_
          rintro r w5 ⟨rfl, hb⟩
          have Mq := Lib.hid (Mq.out.below hb)
          clear hb
          go_wp2_with fail
          with_reducible refine (HTK.out _ Mq.out).mono ?_
          rintro r w5 ⟨rfl, hb⟩
          have Mq := Lib.hid (Mq.out.below hb)
          clear hb
          go_wp2_with fail
          with_reducible refine (HOF.out _ Mq.out).mono ?_
          rintro r w5 ⟨A5, c5, rfl, hm⟩
          have Mq := Lib.hid hm
          clear hm
          go_wp2_with fail
          with_reducible refine (HRC.out _ _ Mq.out (List.mem_cons_of_mem _ HYV.out)).mono ?_
          rintro r w5 ⟨rfl, hb⟩
          have Mq := Lib.hid (Mq.out.below hb)
          clear hb
          go_wp2_with fail
          with_reducible refine (HSM.out _ _ _ Mq.out).mono ?_
          rintro r w5 ⟨rfl, hb⟩
          have Mq := Lib.hid (Mq.out.below hb)
          clear hb
          by_cases hneg : most < 0
          · clear hct
            go_wp2_with fail
            go_ret
            exact ⟨rfl, Mq.out.bel⟩
          · have hle := hct (by omega)
            clear hct
            go_wp2_with fail
            with_reducible refine (HTQ.out _ _ Mq.out).mono ?_
            rintro r w5 ⟨rfl, hb⟩
            have Mq := Lib.hid (Mq.out.below hb)
            clear hb
            go_wp2_with fail
            go_ret
            exact ⟨rfl, Mq.out.bel⟩
theorem contract_scriptTells (W : World) (v0 v1 v2 : Value) (a0 : ∃ A c, ∃ fs : List (Int × Int × Int × Rw), v0 = .slice A fs.length c ∧ fs.length ≤ c ∧ c ≤ maxLen ∧ Rd W W.heap.size 4 A fs.length (fs.flatMap f4) ∧ ∀ f ∈ fs, in64 f.1 ∧ in64 f.2.1 ∧ in64 f.2.2.1 ∧ f.2.2.2.ok .u8 W) (a1 : ∃ z, v1 = .int .i64 z ∧ in64 z) (a2 : ∃ z, v2 = .int .i64 z ∧ in64 z)
    (hP : ∀ w, Below W.heap.size W w → Lib.TabIs Tryd.prog w "internal/strconv.uint64pow10" .u64 Lib.pow10Tab) (hT : ∀ w, Below W.heap.size W w → Lib.TabIs Tryd.prog w "strings.asciiSpace" .u8 Lib.asciiSpaceTab) :
    Calls Tryd.prog 6 #[v0, v1, v2] W fun e W' => e = .returned (.bool true) ∧ Below W.heap.size W W' := by
  obtain ⟨A, c, fs, rfl, h1, h2, h3, h4⟩ := a0
  obtain ⟨kind, rfl, -⟩ := a1
  obtain ⟨most, rfl, -⟩ := a2
  obtain ⟨gs, e1, e2, e3⟩ := stps_sb fs h4
  rw [← e1, ← e2] at h3
  rw [← e2] at h1 ⊢
  exact scriptTells_main W gs A c h3 e3 (by unfold maxLen at h2; omega) kind most hT hP
end Go.Proofs.YtnopmdhjamkoaaaDoor
