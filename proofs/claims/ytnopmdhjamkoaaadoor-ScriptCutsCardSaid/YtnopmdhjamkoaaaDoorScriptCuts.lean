/- The law ScriptCuts. -/
import Derived.Test.YtnopmdhjamkoaaaDoorSc11
namespace Go.Proofs.YtnopmdhjamkoaaaDoor
set_option linter.unusedVariables false
set_option linter.unusedSimpArgs false
open Go.RowKit
set_option maxRecDepth 100000 in
set_option maxHeartbeats 8000000 in
theorem scriptCuts_main (W : World) (gs : List Sb) (A : Option Addr) (c : Nat) (hgs : Rd W W.heap.size 4 A gs.length (sts (gs.map Sb.st))) (hb : ∀ g ∈ gs, RB W W.heap.size g.A g.l ∧ g.l.length ≤ g.c ∧ g.c ≤ 9223372036854775807)
    (hn : gs.length ≤ 9223372036854775807) (most : Int) (hT : TabU W) (hP : ∀ w', Below W.heap.size W w' → Tab31 w') :
    Calls Tryd.prog 5 #[.slice A gs.length c, .int .i64 most] W fun e W' => e = .returned (.bool true) ∧ Below W.heap.size W W' := by
  obtain ⟨N, hN⟩ : ∃ N, N = min gs.length 34 := ⟨_, rfl⟩
  have HTO := Lib.hid (to31_any W W [] [] (Mst.start W) gs A c (Src.old hgs) (fun g hg => ⟨Src.old (hb g hg).1, (hb g hg).2⟩) hn N hN)
  have hN34 : N ≤ 34 := by omega
  have HT := Lib.hid hT
  have HP := Lib.hid hP
  clear hgs hb hN hT hP
  go_enter Tryd.func5, Tryd.ntmps5
  go_wp2_with fail
  with_reducible refine (HTO.out).mono ?_
  rintro r w1 ⟨v, rfl, fs, hfl, hfs, hm⟩
  obtain ⟨Ax, cx, rfl, -, -, hcx, -⟩ := own_form (hm.row [])
  obtain ⟨br, hbr⟩ : ∃ b, fs.reverse.map brow ++ [] = b := ⟨_, rfl⟩
  have HBR := Lib.hid (show ∀ f ∈ fs, brow f ∈ br from fun f hf => by rw [← hbr]; simp; exact ⟨f, hf, rfl⟩)
  rw [hbr] at hm
  obtain ⟨sl, hsl⟩ : ∃ sl, fs.map Sb.st = sl := ⟨_, rfl⟩
  have hslN : sl.length = N := by rw [← hsl]; simpa using hfl
  have hcut := fun w' bl' ow' (h : Mst W w' bl' ow') (hx : sRow Ax N cx fs ∈ ow') => scut_any W w' bl' ow' h (HT.out.keep h.bel) Ax cx sl N hslN (by rw [← hsl]; exact h.rowSrc hx) (by omega) hcx (by rintro rfl; exact own_none (h.own _ hx)) most
  have HCUT := Lib.hid hcut
  have HSL := Lib.hid hsl
  have HSN := Lib.hid hslN
  have HFL := Lib.hid hfl
  have HFS := Lib.hid hfs
  have Mq := Lib.hid hm
  have HC1 := Lib.hid (HCUT.out w1 [] _ hm (List.mem_cons_self ..))
  clear hfl hfs hm hbr hsl hslN hcut HTO
  go_wp2_with fail
  with_reducible refine (HC1.out).mono ?_
  rintro r w2 ⟨Ac, q, cc, rfl, hq, hqN, hm⟩
  obtain ⟨_, _, he, -, -, hcc, -⟩ := own_form (hm.row [])
  simp only [Value.slice.injEq, true_and] at he
  obtain ⟨rfl, rfl⟩ := he
  have hm2 : Mst W w2 [] (sRow Ac q cc (fs.take q) :: sRow Ax N cx fs :: br) := by
    have e : sts (sl.take q) = sts ((fs.take q).map Sb.st) := by rw [← HSL.out, List.map_take]
    rw [e] at hm
    exact hm
  obtain ⟨hs1, hs2, hs3⟩ := cutN_spec sl most N (by rw [HSN.out]; exact Nat.le_refl _)
  rw [← hq] at hs2 hs3
  have hagain := cutN_again sl most N q (by rw [HSN.out]; exact Nat.le_refl _) hq
  have hfq : (fs.take q).length = q := by rw [List.length_take, HFL.out]; omega
  have HBQ := Lib.hid (show ∀ f ∈ fs.take q, brow f ∈ br from fun f hf => HBR.out f (List.mem_of_mem_take hf))
  have HLQ := Lib.hid (show ∀ f ∈ fs.take q, f.l.length ≤ 410 from fun f hf => HFS.out f (List.mem_of_mem_take hf))
  have hslq : sl.take q = (fs.take q).map Sb.st := by rw [← HSL.out, List.map_take]
  have HOF1 := Lib.hid (show ∀ w' ow', Mst W w' [] ow' → sRow Ac q cc (fs.take q) ∈ ow' → Calls Tryd.prog 34 #[.slice Ac q cc] w' fun r w2 => ∃ A' c', r = .returned (.slice A' q c') ∧ Mst W w2 [] (rRow A' q c' (fs.take q) :: ow') from fun w' ow' h hc =>
    of31_any W w' [] ow' h Ac cc ((fs.take q).map Sb.st) q (by simpa using hfq) (h.rowSrc hc) (by omega))
  have HOF2 := Lib.hid (show ∀ w' ow', Mst W w' [] ow' → sRow Ax N cx fs ∈ ow' → Calls Tryd.prog 34 #[.slice Ax q cx] w' fun r w2 => ∃ A' c', r = .returned (.slice A' q c') ∧ Mst W w2 [] (rRow A' q c' (fs.take q) :: ow') from fun w' ow' h hc =>
    of31_any W w' [] ow' h Ax cx ((fs.take q).map Sb.st) q (by simpa using hfq) (by
      have e := (h.rowSrc hc).takeS (l := fs.map Sb.st) (by simpa using HFL.out) hqN
      rw [← List.map_take] at e
      exact e) (by omega))
  have HSM := Lib.hid (show ∀ w' A1 c1 A2 c2, Mst W w' [] (rRow A2 q c2 (fs.take q) :: rRow A1 q c1 (fs.take q) :: sRow Ac q cc (fs.take q) :: sRow Ax N cx fs :: br) → Calls Tryd.prog 33 #[.slice A1 q c1, .slice A2 q c2] w' fun r w2 => r = .returned (.bool true) ∧ Below w'.heap.size w' w2 from fun w' A1 c1 A2 c2 h =>
    rsame_rows h hfq (by simp) (by simp) (fun f hf => by have := HBQ.out f hf; simp [this]) HLQ.out (by omega))
  have HCC := Lib.hid (show ∀ w' ow', Mst W w' [] ow' → sRow Ac q cc (fs.take q) ∈ ow' → Calls Tryd.prog 32 #[.slice Ac q cc, .int .i64 most] w' fun r w2 => ∃ A' c' y, r = .returned (.slice A' q c') ∧ Mst W w2 [] (y :: ow') from fun w' ow' h hc => by
    refine (scut_any W w' [] ow' h (HT.out.keep h.bel) Ac cc ((fs.take q).map Sb.st) q (by simpa using hfq) (h.rowSrc hc) (by omega) hcc (by rintro rfl; exact own_none (h.own _ hc)) most).mono ?_
    rintro r w2 ⟨A', q', c', rfl, hq', -, m⟩
    rw [← hslq, hagain] at hq'
    subst hq'
    exact ⟨A', c', _, rfl, m⟩)
  have HCK := Lib.hid (show ∀ w' ow' k, Mst W w' [] ow' → sRow Ac q cc (fs.take q) ∈ ow' → k < q → ∃ (b o : Nat) (e : St), Ac = some ⟨b, o, none⟩ ∧ StAt w' b o k e ∧ Calls Tryd.prog 35 #[.agg #[.int .i64 e.k, .int .i64 e.who, .int .i64 e.n, .slice e.A e.l e.c]] w' fun r w2 => r = .returned (.int .i64 0) ∧ Below w'.heap.size w' w2 from fun w' ow' k h hc hk => by
    obtain ⟨e, he⟩ : ∃ e, (fs.take q)[k]? = some e := ⟨_, List.getElem?_eq_getElem (by rw [hfq]; exact hk)⟩
    obtain ⟨b, o, h1, -, h3⟩ := (h.src (h.rowSrc hc)).sb hfq he
    have hes : sl[k]? = some e.st := by
      rw [List.getElem?_take, if_pos hk] at he
      rw [← HSL.out]
      simp [he]
    have hchk := (hs2 k e.st hk hes).1
    have hh := (scrc_any e.st.k e.st.who e.st.n e.st.A e.st.l e.st.c).1 w' (HT.out.keep h.bel)
    rw [show scC e.st.k e.st.who e.st.n e.st.l = 0 from hchk] at hh
    exact ⟨b, o, e.st, h1, h3, hh⟩)
  have HEND := Lib.hid (show q < N → ∃ e : St, (e.chk ≠ 0 ∨ most < tickS (sl.take (q + 1))) ∧ ∀ w' ow', Mst W w' [] ow' → sRow Ax N cx fs ∈ ow' → (∃ b o, Ax = some ⟨b, o, none⟩ ∧ StAt w' b o q e) ∧ (Calls Tryd.prog 35 #[.agg #[.int .i64 e.k, .int .i64 e.who, .int .i64 e.n, .slice e.A e.l e.c]] w' fun r w2 => r = .returned (.int .i64 e.chk) ∧ Below w'.heap.size w' w2) ∧
      (Calls Tryd.prog 37 #[.slice Ax ((q + 1 : Nat)) cx] w' fun r w2 => r = .returned (.int .i64 (tickS (sl.take (q + 1)))) ∧ Below w'.heap.size w' w2) from fun hlt => by
    obtain ⟨e, he, hor⟩ := hs3 hlt
    refine ⟨e, hor, fun w' ow' h hc => ?_⟩
    have hr : Rd w' w'.heap.size 4 Ax N (sts sl) := by rw [← HSL.out]; exact h.src (h.rowSrc hc)
    have hr2 := hr.takeS HSN.out (m := q + 1) hlt
    have hr' := hr
    rw [← HSN.out] at hr'
    obtain ⟨b, o, h1, -, h3⟩ := hr'.stAt he
    have hlt2 : (sl.take (q + 1)).length = q + 1 := by rw [List.length_take, HSN.out]; omega
    have htk := ticks_any w' (HT.out.keep h.bel) (sl.take (q + 1)) Ax cx (by rw [hlt2]; exact hr2) (by omega)
    rw [hlt2] at htk
    exact ⟨⟨b, o, h1, h3⟩, (scrc_any e.k e.who e.n e.A e.l e.c).1 w' (HT.out.keep h.bel), htk⟩)
  have Mq := Lib.hid hm2
  have i1 : (q : Int) ≤ N := by omega
  have i2 : (N : Int) ≤ 34 := by omega
  have i3 : (N : Int) ≤ cx := by omega
  have i4 : (0 : Int) ≤ q := by omega
  have i5 : (q : Int) ≤ cx := by omega
  have d1 : decide (N < q) = false := by simp; omega
  have d2 : ((q : Int) != (q : Int)) = false := by simp
  have HQN := Lib.hid hqN
  clear hm hm2 hq hs1 hs2 hs3 hagain hfq hslq hcc hcx HC1 hqN
  go_upto_region 4 with fail
  refine wp_region_held_drew (S := fun _ => True) (by kernel_rfl) ?_ (fun hHeld => ?_)
  · trivial
  generalize hw7 : World.drew _ = w7 at hHeld ⊢
  have Mq := Lib.hid (Mq.out.drew.toV hw7 rfl)
  clear hw7
  refine wpAnyH_take (i := 0) (v := ?_) rfl (by kernel_rfl) (by kernel_rfl) (by kernel_rfl) (fun _ _ _ h => h) (Or.inl ⟨by rfl, ?_⟩) (by assumption) ?_
  rotate_left
  · intro w hSw; (try dsimp only at hSw); go_split_ands; go_simp; with_reducible rfl
  change wpAnyH _ _ _ _ _ _ _ (Act.put _ (some 16) _) _
  simp only [Act.put, List.setIfInBounds_toArray, List.set_cons_zero, List.set_cons_succ, Array.toArray_toList]
  refine wpAnyH_take (i := 1) (v := ?_) rfl (by kernel_rfl) (by kernel_rfl) (by kernel_rfl) (fun _ _ _ h => h) (Or.inl ⟨by rfl, ?_⟩) (by assumption) ?_
  rotate_left
  · intro w hSw; (try dsimp only at hSw); go_split_ands; go_simp; with_reducible rfl
  change wpAnyH _ _ _ _ _ _ _ (Act.put _ (some 17) _) _
  simp only [Act.put, List.setIfInBounds_toArray, List.set_cons_zero, List.set_cons_succ, Array.toArray_toList]
  refine wpAnyH_take (i := 2) (v := ?_) rfl (by kernel_rfl) (by kernel_rfl) (by kernel_rfl) (fun _ _ _ h => h) (Or.inl ⟨by rfl, ?_⟩) (by assumption) ?_
  rotate_left
  · intro w hSw; (try dsimp only at hSw); go_split_ands; go_simp; with_reducible rfl
  change wpAnyH _ _ _ _ _ _ _ (Act.put _ (some 18) _) _
  simp only [Act.put, List.setIfInBounds_toArray, List.set_cons_zero, List.set_cons_succ, Array.toArray_toList]
  refine wpAnyH_take (i := 3) (v := ?_) rfl (by kernel_rfl) (by kernel_rfl) (by kernel_rfl) (fun _ _ _ h => h) (Or.inl ⟨by rfl, ?_⟩) (by assumption) ?_
  rotate_left
  · intro w hSw; (try dsimp only at hSw); go_split_ands; go_simp; with_reducible rfl
  change wpAnyH _ _ _ _ _ _ _ (Act.put _ (some 19) _) _
  simp only [Act.put, List.setIfInBounds_toArray, List.set_cons_zero, List.set_cons_succ, Array.toArray_toList]
  refine wpAnyH_take (i := 4) (v := ?_) rfl (by kernel_rfl) (by kernel_rfl) (by kernel_rfl) (fun _ _ _ h => h) (Or.inl ⟨by rfl, ?_⟩) (by assumption) ?_
  rotate_left
  · intro w hSw; (try dsimp only at hSw); go_split_ands; go_simp; with_reducible rfl
  change wpAnyH _ _ _ _ _ _ _ (Act.put _ (some 20) _) _
  simp only [Act.put, List.setIfInBounds_toArray, List.set_cons_zero, List.set_cons_succ, Array.toArray_toList]
  refine wpAnyH_take (i := 5) (v := ?_) rfl (by kernel_rfl) (by kernel_rfl) (by kernel_rfl) (fun _ _ _ h => h) (Or.inl ⟨by rfl, ?_⟩) (by assumption) ?_
  rotate_left
  · intro w hSw; (try dsimp only at hSw); go_split_ands; go_simp; with_reducible rfl
  change wpAnyH _ _ _ _ _ _ _ (Act.put _ (some 21) _) _
  simp only [Act.put, List.setIfInBounds_toArray, List.set_cons_zero, List.set_cons_succ, Array.toArray_toList]
  refine wpAnyH_take (i := 7) (v := ?_) rfl (by kernel_rfl) (by kernel_rfl) (by kernel_rfl) (fun _ _ _ h => h) (Or.inl ⟨by rfl, ?_⟩) (by assumption) ?_
  rotate_left
  · intro w hSw; (try dsimp only at hSw); go_split_ands; go_simp; with_reducible rfl
  change wpAnyH _ _ _ _ _ _ _ (Act.put _ (some 23) _) _
  simp only [Act.put, List.setIfInBounds_toArray, List.set_cons_zero, List.set_cons_succ, Array.toArray_toList]
  refine wpAnyH_take (i := 8) (v := ?_) rfl (by kernel_rfl) (by kernel_rfl) (by kernel_rfl) (fun _ _ _ h => h) (Or.inl ⟨by rfl, ?_⟩) (by assumption) ?_
  rotate_left
  · intro w hSw; (try dsimp only at hSw); go_split_ands; go_simp; with_reducible rfl
  change wpAnyH _ _ _ _ _ _ _ (Act.put _ (some 24) _) _
  simp only [Act.put, List.setIfInBounds_toArray, List.set_cons_zero, List.set_cons_succ, Array.toArray_toList]
  refine wpAnyH_take (i := 9) (v := ?_) rfl (by kernel_rfl) (by kernel_rfl) (by kernel_rfl) (fun _ _ _ h => h) (Or.inl ⟨by rfl, ?_⟩) (by assumption) ?_
  rotate_left
  · intro w hSw; (try dsimp only at hSw); go_split_ands; go_simp; with_reducible rfl
  change wpAnyH _ _ _ _ _ _ _ (Act.put _ (some 25) _) _
  simp only [Act.put, List.setIfInBounds_toArray, List.set_cons_zero, List.set_cons_succ, Array.toArray_toList]
  refine wpAnyH_ready (rs := [6]) (by kernel_rfl) (by simp) ?_
  refine (AllReadyH.cons rfl (fun K hK => ?_) AllReadyH.nil)
  go_simp
  (with_reducible refine (HOF1.out _ _ Mq.out (by simp)).mono ?_); rintro r wq ⟨A6, c6, rfl, mq⟩; have Mq := Lib.hid mq; clear mq
  go_wp2_with fail
  refine hK.out _ _ (by first | assumption | go_keep) (fun hHeld => ?_)
  clear hK K
  refine wpAnyH_ready (rs := [10]) (by kernel_rfl) (by simp) ?_
  refine (AllReadyH.cons rfl (fun K hK => ?_) AllReadyH.nil)
  go_simp
  (with_reducible refine (HOF2.out _ _ Mq.out (by simp)).mono ?_); rintro r wq ⟨A7, c7, rfl, mq⟩; have Mq := Lib.hid mq; clear mq
  go_wp2_with fail
  refine hK.out _ _ (by first | assumption | go_keep) (fun hHeld => ?_)
  clear hK K
  refine wpAnyH_ready (rs := [11]) (by kernel_rfl) (by simp) ?_
  refine (AllReadyH.cons rfl (fun K hK => ?_) AllReadyH.nil)
  go_simp
  (with_reducible refine (HSM.out _ _ _ _ _ Mq.out).mono ?_); rintro r wq ⟨rfl, hb⟩; have Mq := Lib.hid (Mq.out.below hb); clear hb
  go_wp2_with fail
  refine hK.out _ _ (by first | assumption | go_keep) (fun hHeld => ?_)
  clear hK K
  refine wpAnyH_take (i := 12) (v := ?_) rfl (by kernel_rfl) (by kernel_rfl) (by kernel_rfl) (fun _ _ _ h => h) (Or.inl ⟨by rfl, ?_⟩) (by assumption) ?_
  rotate_left
  · intro w hSw; (try dsimp only at hSw); go_split_ands; go_simp; with_reducible rfl
  change wpAnyH _ _ _ _ _ _ _ (Act.put _ (some 28) _) _
  simp only [Act.put, List.setIfInBounds_toArray, List.set_cons_zero, List.set_cons_succ, Array.toArray_toList]
  refine wpAnyH_take (i := 13) (v := ?_) rfl (by kernel_rfl) (by kernel_rfl) (by kernel_rfl) (fun _ _ _ h => h) (Or.inl ⟨by rfl, ?_⟩) (by assumption) ?_
  rotate_left
  · intro w hSw; (try dsimp only at hSw); go_split_ands; go_simp; with_reducible rfl
  change wpAnyH _ _ _ _ _ _ _ (Act.put _ (some 29) _) _
  simp only [Act.put, List.setIfInBounds_toArray, List.set_cons_zero, List.set_cons_succ, Array.toArray_toList]
  refine wpAnyH_take (i := 14) (v := ?_) rfl (by kernel_rfl) (by kernel_rfl) (by kernel_rfl) (fun _ _ _ h => h) (Or.inl ⟨by rfl, ?_⟩) (by assumption) ?_
  rotate_left
  · intro w hSw; (try dsimp only at hSw); go_split_ands; go_simp; with_reducible rfl
  change wpAnyH _ _ _ _ _ _ _ (Act.put _ (some 30) _) _
  simp only [Act.put, List.setIfInBounds_toArray, List.set_cons_zero, List.set_cons_succ, Array.toArray_toList]
  refine wpAnyH_take (i := 15) (v := ?_) rfl (by kernel_rfl) (by kernel_rfl) (by kernel_rfl) (fun _ _ _ h => h) (Or.inl ⟨by rfl, ?_⟩) (by assumption) ?_
  rotate_left
  · intro w hSw; (try dsimp only at hSw); go_split_ands; go_simp; with_reducible rfl
  change wpAnyH _ _ _ _ _ _ _ (Act.put _ (some 31) _) _
  simp only [Act.put, List.setIfInBounds_toArray, List.set_cons_zero, List.set_cons_succ, Array.toArray_toList]
  refine wpAnyH_take (i := 16) (v := ?_) rfl (by kernel_rfl) (by kernel_rfl) (by kernel_rfl) (fun _ _ _ h => h) (Or.inl ⟨by rfl, ?_⟩) (by assumption) ?_
  rotate_left
  · intro w hSw; (try dsimp only at hSw); go_split_ands; go_simp; with_reducible rfl
  change wpAnyH _ _ _ _ _ _ _ (Act.put _ (some 32) _) _
  simp only [Act.put, List.setIfInBounds_toArray, List.set_cons_zero, List.set_cons_succ, Array.toArray_toList]
  refine wpAnyH_take (i := 19) (v := ?_) rfl (by kernel_rfl) (by kernel_rfl) (by kernel_rfl) (fun _ _ _ h => h) (Or.inl ⟨by rfl, ?_⟩) (by assumption) ?_
  rotate_left
  · intro w hSw; (try dsimp only at hSw); go_split_ands; go_simp; with_reducible rfl
  change wpAnyH _ _ _ _ _ _ _ (Act.put _ (some 35) _) _
  simp only [Act.put, List.setIfInBounds_toArray, List.set_cons_zero, List.set_cons_succ, Array.toArray_toList]
  refine wpAnyH_ready (rs := [17]) (by kernel_rfl) (by simp) ?_
  refine (AllReadyH.cons rfl (fun K hK => ?_) AllReadyH.nil)
  go_simp
  (with_reducible refine (HCC.out _ _ Mq.out (by simp)).mono ?_); rintro r wq ⟨A8, c8, y8, rfl, mq⟩; have Mq := Lib.hid mq; clear mq
  go_wp2_with fail
  refine hK.out _ _ (by first | assumption | go_keep) (fun hHeld => ?_)
  clear hK K
  refine wpAnyH_take (i := 18) (v := ?_) rfl (by kernel_rfl) (by kernel_rfl) (by kernel_rfl) (fun _ _ _ h => h) (Or.inl ⟨by rfl, ?_⟩) (by assumption) ?_
  rotate_left
  · intro w hSw; (try dsimp only at hSw); go_split_ands; go_simp; with_reducible rfl
  change wpAnyH _ _ _ _ _ _ _ (Act.put _ (some 34) _) _
  simp only [Act.put, List.setIfInBounds_toArray, List.set_cons_zero, List.set_cons_succ, Array.toArray_toList]
  refine wpAnyH_take (i := 20) (v := ?_) rfl (by kernel_rfl) (by kernel_rfl) (by kernel_rfl) (fun _ _ _ h => h) (Or.inl ⟨by rfl, ?_⟩) (by assumption) ?_
  rotate_left
  · intro w hSw; (try dsimp only at hSw); go_split_ands; go_simp; with_reducible rfl
  change wpAnyH _ _ _ _ _ _ _ (Act.put _ (some 36) _) _
  simp only [Act.put, List.setIfInBounds_toArray, List.set_cons_zero, List.set_cons_succ, Array.toArray_toList]
  refine wpAnyH_take (i := 21) (v := ?_) rfl (by kernel_rfl) (by kernel_rfl) (by kernel_rfl) (fun _ _ _ h => h) (Or.inl ⟨by rfl, ?_⟩) (by assumption) ?_
  rotate_left
  · intro w hSw; (try dsimp only at hSw); go_split_ands; go_simp; with_reducible rfl
  change wpAnyH _ _ _ _ _ _ _ (Act.put _ (some 37) _) _
  simp only [Act.put, List.setIfInBounds_toArray, List.set_cons_zero, List.set_cons_succ, Array.toArray_toList]
  refine wpAnyH_done (by kernel_rfl) ?_ _
  clear hHeld
  have HMW := Lib.hid (show ∃ OW, sRow Ac q cc (fs.take q) ∈ OW ∧ sRow Ax N cx fs ∈ OW ∧ Mst W _ [] OW from ⟨_, by simp, by simp, Mq.out⟩)
  obtain ⟨OW, hc, hx, hm⟩ := HMW.out
  have HM := Lib.hid hm
  have HKN := Lib.hid (show ∀ w', Mst W w' [] OW → Calls Tryd.prog 36 #[] w' fun r w2 => r = .returned (.bool true) ∧ Below w'.heap.size w' w2 from fun w' h => known31_any w' (HT.out.keep h.bel) fun w2 hb => HP.out w2 (h.below hb).bel)
  have HCK := Lib.hid (show ∀ w' k, Mst W w' [] OW → k < q → _ from fun w' k h hk => HCK.out w' OW k h hc hk)
  have HEN := Lib.hid (show q < N → ∃ e : St, _ ∧ ∀ w', Mst W w' [] OW → _ from fun hlt => by
    obtain ⟨e, h1, h2⟩ := HEND.out hlt
    exact ⟨e, h1, fun w' h => h2 w' OW h hx⟩)
  clear Mq HMW hm HOF1 HOF2 HSM HCC HEND d1 d2
  go_wp2_with fail
  go_loopg [8] q (fun gg s8 wr => ∃ k : Nat, k + gg = q ∧ s8 = .int .i64 k ∧ Mst W wr [] OW)
  case atStart => exact ⟨0, by omega, rfl, HM.out⟩
  case round =>
    obtain ⟨k, hk, rfl, hm⟩ := hrel
    have Mz := Lib.hid hm
    clear HM hm
    by_cases hlt : k < q
    · obtain ⟨b, o, e, hA, hAt, hcall⟩ := HCK.out wr k Mz.out hlt
      have HCL := Lib.hid hcall
      obtain ⟨ek, ew, en, eA, el, ec⟩ := e
      obtain ⟨a0, a1, a2, a3⟩ := hAt
      simp only at a0 a1 a2 a3 HCL
      subst hA
      have j1 : (k : Int) < q := by omega
      have j2 : (0 : Int) ≤ k := by omega
      clear hcall
      go_wp2_with fail
      with_reducible refine (HCL.out).mono ?_
      rintro r w4 ⟨rfl, hb⟩
      have Mz := Lib.hid (Mz.out.below hb)
      clear hb a0 a1 a2 a3
      go_wp2_with fail
      go_roundg (q - (k + 1))
      case measure => exact meas hk hlt
      case rel => exact ⟨k + 1, meas2 hlt, by go_num, Mz.out⟩
    · obtain rfl : k = q := by omega
      have HKC := Lib.hid (HKN.out wr Mz.out)
      clear hlt hk
      go_wp2_with fail
      with_reducible refine (HKC.out).mono ?_
      rintro r w4 ⟨rfl, hb⟩
      have Mz := Lib.hid (Mz.out.below hb)
      clear hb
      by_cases hkN : k = N
      · subst hkN
        go_wp2_with fail
        go_ret
        exact ⟨rfl, Mz.out.bel⟩
      · have n1 : (k == N) = false := by simpa using hkN
        have n2 : ((k : Int) == (N : Int)) = false := by rw [beq_eq_false_iff_ne]; omega
        have n3 : (k : Int) < N := by omega
        obtain ⟨e, hor, hall⟩ := HEN.out (by omega)
        obtain ⟨⟨b, o, hA, hAt⟩, hcall, -⟩ := hall w4 Mz.out
        have HAL := Lib.hid hall
        obtain ⟨C, hC⟩ : ∃ C, e.chk = C := ⟨_, rfl⟩
        obtain ⟨T, hTT⟩ : ∃ T, tickS (sl.take (k + 1)) = T := ⟨_, rfl⟩
        rw [hC] at hor hcall
        rw [hTT] at hor
        have HTK := Lib.hid (show ∀ w', Mst W w' [] OW → Calls Tryd.prog 37 #[.slice Ax (k + 1) cx] w' fun r w2 => r = .returned (.int .i64 T) ∧ Below w'.heap.size w' w2 from fun w' h => by
          have := (HAL.out w' h).2.2
          rw [hTT] at this
          exact this)
        have HCL := Lib.hid hcall
        obtain ⟨ek, ew, en, eA, el, ec⟩ := e
        obtain ⟨a0, a1, a2, a3⟩ := hAt
        simp only at a0 a1 a2 a3 HCL
        subst hA
        clear hcall hall HAL hC hTT hkN
        go_wp2_with fail
        with_reducible refine (HCL.out).mono ?_
        rintro r w5 ⟨rfl, hb⟩
        have Mz := Lib.hid (Mz.out.below hb)
        clear hb a0 a1 a2 a3
        by_cases hc0 : C = 0
        · subst hc0
          have hm : most < T := by
            rcases hor with h | h
            · exact absurd rfl h
            · exact h
          have HTC := Lib.hid (HTK.out w5 Mz.out)
          clear hor
          go_wp2_with fail
          with_reducible refine (HTC.out).mono ?_
          rintro r w6 ⟨rfl, hb⟩
          have Mz := Lib.hid (Mz.out.below hb)
          clear hb
          go_wp2_with fail
          go_ret
          exact ⟨rfl, Mz.out.bel⟩
        · have hc1 : (C == 0) = false := by simpa using hc0
          have hc2 : (C != 0) = true := by simpa using hc0
          clear hor hc0
          go_wp2_with fail
          go_ret
          exact ⟨rfl, Mz.out.bel⟩
theorem contract_scriptCuts (W : World) (v0 v1 : Value) (a0 : ∃ A c, ∃ fs : List (Int × Int × Int × Rw), v0 = .slice A fs.length c ∧ fs.length ≤ c ∧ c ≤ maxLen ∧ Rd W W.heap.size 4 A fs.length (fs.flatMap f4) ∧ ∀ f ∈ fs, in64 f.1 ∧ in64 f.2.1 ∧ in64 f.2.2.1 ∧ f.2.2.2.ok .u8 W) (a1 : ∃ z, v1 = .int .i64 z ∧ in64 z)
    (hP : ∀ w, Below W.heap.size W w → Lib.TabIs Tryd.prog w "internal/strconv.uint64pow10" .u64 Lib.pow10Tab) (hT : ∀ w, Below W.heap.size W w → Lib.TabIs Tryd.prog w "strings.asciiSpace" .u8 Lib.asciiSpaceTab) :
    Calls Tryd.prog 5 #[v0, v1] W fun e W' => e = .returned (.bool true) ∧ Below W.heap.size W W' := by
  obtain ⟨A, c, fs, rfl, h1, h2, h3, h4⟩ := a0
  obtain ⟨most, rfl, -⟩ := a1
  obtain ⟨gs, e1, e2, e3⟩ := stps_sb fs h4
  rw [← e1, ← e2] at h3
  rw [← e2] at h1 ⊢
  exact scriptCuts_main W gs A c h3 e3 (by unfold maxLen at h2; omega) most hT hP
end Go.Proofs.YtnopmdhjamkoaaaDoor
