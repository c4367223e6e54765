/- Text of a right step with bytes. -/
import Derived.Test.YtnopmdhjamkoaaaDoorSc18
namespace Go.Proofs.YtnopmdhjamkoaaaDoor
set_option linter.unusedVariables false
set_option linter.unusedSimpArgs false
open Go.RowKit
theorem el_str31 : El Tryd.prog 92 9 1 16 := El.of Tryd.underlying92 (z := .string ⟨#[]⟩) (by kernel_rfl) rfl (by decide)
theorem joinM31 {W w : World} {bl : Bl} {ow : List Ro} (xs : List ByteArray) (n : Nat) (hn : xs.length = n) (h0 : 0 < n) (A : Option Addr) (c : Nat) (h : Mst W w bl (⟨9, 1, .slice A n c, n, xs.map Value.string⟩ :: ow)) (S : ByteArray)
    (hS : (⟨(Lib.join (xs.map (·.data.toList)) (⟨#[32]⟩ : ByteArray).data.toList).toArray⟩ : ByteArray) = S) (hlen : (Lib.join (xs.map (·.data.toList)) (⟨#[32]⟩ : ByteArray).data.toList).length ≤ 140737488355328) (hx : n ≤ 1000000) :
    Calls Tryd.prog 66 #[.slice A n c, .string ⟨#[32]⟩] w fun e w' => e = .returned (.string S) ∧ Below w.heap.size w w' := by
  obtain ⟨A', c', e, hr, h1, h2, h3⟩ := own_form (h.row [])
  injection e with e1 _ e2
  subst e1 e2
  obtain ⟨g, rfl, h4, h5⟩ := h3 h0
  have hc : ∀ (j : Nat) x, xs[j]? = some x → w.cell? ⟨g, 0 + j, none⟩ = some (.string x) := by
    intro j x hx
    obtain ⟨b, o, e, _, hc⟩ := hr.2 h0
    injection e with e
    injection e with e1 e2 _
    subst e1 e2
    exact hc j _ (by simp [hx])
  subst hn
  have h := Go.Proofs.Tryd.strings_Join g 0 c xs ⟨#[32]⟩ w hc h5 (by omega) h2 hlen
  rw [hS] at h
  exact h
set_option maxRecDepth 100000 in
set_option maxHeartbeats 4000000 in
theorem text1_any (w : World) (hT : TabU w) (hP : ∀ w', Below w.heap.size w w' → Tab31 w') (k q m : Nat) (hk : k < 11) (hq : q ≤ 65535) (hm : m ≤ 2147483647) (A : Option Addr) (l : List UInt8) (L c : Nat) (hl : l.length = L) (hL0 : 0 < L) (hL1 : L ≤ 1000) (hr : RB w w.heap.size A l)
    (hchk : scC k q m L = 0) (S1 S2 S3 S4 S : ByteArray) (h1 : wK k = S1) (h2 : decB q = S2) (h3 : decB m = S3) (h4 : (⟨(hexL l).toArray⟩ : ByteArray) = S4) (hS : (⟨(Lib.join ([S1, S2, S3, S4].map (·.data.toList)) (⟨#[32]⟩ : ByteArray).data.toList).toArray⟩ : ByteArray) = S)
    (hlen : (Lib.join ([S1, S2, S3, S4].map (·.data.toList)) (⟨#[32]⟩ : ByteArray).data.toList).length ≤ 140737488355328) :
    Calls Tryd.prog 38 #[.agg #[.int .i64 (k : Int), .int .i64 (q : Int), .int .i64 (m : Int), .slice A L c]] w fun r w' => r = .returned (.string S) ∧ Below w.heap.size w w' := by
  have Mq := Lib.hid ((Mst.start w).new 62 #[.int .i64 (k : Int), .int .i64 (q : Int), .int .i64 (m : Int), .slice A L c])
  have hU : ∀ w', Below w.heap.size w w' → TabU w' := fun w' hb => hT.keep hb
  have HC := Lib.hid (show ∀ w', Below w.heap.size w w' → Calls Tryd.prog 35 #[.agg #[.int .i64 (k : Int), .int .i64 (q : Int), .int .i64 (m : Int), .slice A L c]] w' fun r w2 => r = .returned (.int .i64 0) ∧ Below w'.heap.size w' w2 from fun w' hb => by
    have h := (scrc_any k q m A L c).1 w' (hU w' hb)
    rw [hchk] at h
    exact h)
  have HW := Lib.hid (show ∀ w', Below w.heap.size w w' → Calls Tryd.prog 42 #[.int .i64 (k : Int)] w' fun r w2 => r = .returned (.string S1) ∧ Below w'.heap.size w' w2 from fun w' hb => word31_yes k hk w' (hT w' hb) _ h1)
  have HI0 := Lib.hid (show ∀ w', Below w.heap.size w w' → Calls Tryd.prog 9 #[.int .i64 (q : Int)] w' fun r w2 => r = .returned (.string S2) ∧ Below w'.heap.size w' w2 from fun w' hb => itoa31 q (by omega) _ (by rw [Lib.itoa_nonneg]; exact h2) w' (hP w' hb))
  have HI5 := Lib.hid (show ∀ w', Below w.heap.size w w' → Calls Tryd.prog 9 #[.int .i64 (m : Int)] w' fun r w2 => r = .returned (.string S3) ∧ Below w'.heap.size w' w2 from fun w' hb => itoa31 m (by omega) _ (by rw [Lib.itoa_nonneg]; exact h3) w' (hP w' hb))
  have HH := Lib.hid (show ∀ w', Below w.heap.size w w' → Calls Tryd.prog 65 #[.slice A L c] w' fun r w2 => r = .returned (.string S4) ∧ Below w'.heap.size w' w2 from fun w' hb => by
    have h := hex_any w' A c l ((RB.below hr hb).more hb.size) (by omega)
    rw [hl, h4] at h
    exact h)
  have HCE := Lib.hid (show ∀ w' bl' ow', Mst w w' ((w.heap.size, 62, #[.int .i64 (k : Int), .int .i64 (q : Int), .int .i64 (m : Int), .slice A L c]) :: bl') ow' → w'.cell? ⟨w.heap.size, 0, none⟩ = some (.int .i64 (k : Int)) ∧ w'.cell? ⟨w.heap.size, 1, none⟩ = some (.int .i64 (q : Int)) ∧ w'.cell? ⟨w.heap.size, 2, none⟩ = some (.int .i64 (m : Int)) ∧ w'.cell? ⟨w.heap.size, 3, none⟩ = some (.slice A L c) from fun w' bl' ow' h => ⟨(h.blk []).cell 0, (h.blk []).cell 1, (h.blk []).cell 2, (h.blk []).cell 3⟩)
  have HS := Lib.hid (show ∀ (w' w2 : World) bl' (v : Array Value), Mst w w' bl' [] → w'.alloc (.cells v 9) = w2 → v = #[.string S1, .string S2, .string S3] → ∃ g, w'.heap.size = g ∧ Mst w w2 bl' [⟨9, 1, .slice (some ⟨g, 0, none⟩) 3 3, 3, [.string S1, .string S2, .string S3]⟩] from fun w' w2 bl' v h hw hv => by
    subst hw hv
    exact ⟨_, rfl, h.newrow 9 1 3 3 _ (Nat.le_refl _) (by decide) rfl⟩)
  have HS2 := Lib.hid (show ∀ (w' w2 : World) bl' ow' y, Mst w w' bl' (y :: ow') → w'.alloc (.cells #[.string S4] 9) = w2 → ∃ g, w'.heap.size = g ∧ Mst w w2 bl' (y :: ⟨9, 1, .slice (some ⟨g, 0, none⟩) 1 1, 1, [.string S4]⟩ :: ow') from fun w' w2 bl' ow' y h hw => by
    subst hw
    exact ⟨_, rfl, (h.newrow 9 1 1 1 #[.string S4] (Nat.le_refl _) (by decide) rfl).perm (List.Perm.refl _) (List.Perm.swap _ _ _)⟩)
  have HJ := Lib.hid (show ∀ (w' : World) bl' ow' A' n' X' c', n' = 4 → X' = [Value.string S1, .string S2, .string S3, .string S4] → Mst w w' bl' (⟨9, 1, .slice A' n' c', n', X'⟩ :: ow') → Calls Tryd.prog 66 #[.slice A' n' c', .string ⟨#[32]⟩] w' fun e w2 => e = .returned (.string S) ∧ Below w'.heap.size w' w2 from fun w' bl' ow' A' n' X' c' hn hX h => by
    subst hn hX
    exact joinM31 [S1, S2, S3, S4] 4 rfl (by decide) A' c' h S hS hlen (by decide))
  have i1 : (0 : Int) < L := by omega
  have i2 : (L : Int) ≤ 1000 := by omega
  clear hT hP hU hk hq hm hchk h1 h2 h3 hS hlen hr hl h4
  have c0 := (Mq.out.blk []).cell 0
  have c1 := (Mq.out.blk []).cell 1
  have c2 := (Mq.out.blk []).cell 2
  have c3 := (Mq.out.blk []).cell 3
  simp only [List.getElem?_toArray, List.getElem?_cons_zero, List.getElem?_cons_succ] at c0 c1 c2 c3
  go_enter Tryd.func38, Tryd.ntmps38
  go_wp2_with fail
  with_reducible refine (HC.out _ Mq.out.bel).mono ?_
  rintro r w1 ⟨rfl, hb⟩
  have Mq := Lib.hid (Mq.out.below hb)
  clear hb c0 c1 c2 c3
  have K0 := Lib.hid (HCE.out _ _ _ Mq.out.drew)
  go_upto_region 3 with fail
  refine wp_region_held_drew (S := fun w' => w'.cell? ⟨w.heap.size, 0, none⟩ = some (.int .i64 (k : Int)) ∧ w'.cell? ⟨w.heap.size, 1, none⟩ = some (.int .i64 (q : Int)) ∧ w'.cell? ⟨w.heap.size, 2, none⟩ = some (.int .i64 (m : Int)) ∧ w'.cell? ⟨w.heap.size, 3, none⟩ = some (.slice A L c)) (by kernel_rfl) ?_ (fun hHeld => ?_)
  · exact K0.out
  generalize hw7 : World.drew _ = w7 at hHeld ⊢
  have Mq := Lib.hid (Mq.out.drew.toV hw7 rfl)
  clear hw7
  refine wpAnyH_take (i := 0) (v := ?_) rfl (by kernel_rfl) (by kernel_rfl) (by kernel_rfl) (fun _ _ _ h => h) (Or.inl ⟨by rfl, ?_⟩) (by assumption) ?_
  rotate_left
  · intro w hSw; (try dsimp only at hSw); go_split_ands; go_simp; with_reducible rfl
  change wpAnyH _ _ _ _ _ _ _ (Act.put _ (some 7) _) _
  simp only [Act.put, List.setIfInBounds_toArray, List.set_cons_zero, List.set_cons_succ, Array.toArray_toList]
  refine wpAnyH_take (i := 1) (v := ?_) rfl (by kernel_rfl) (by kernel_rfl) (by kernel_rfl) (fun _ _ _ h => h) (Or.inl ⟨by rfl, ?_⟩) (by assumption) ?_
  rotate_left
  · intro w hSw; (try dsimp only at hSw); go_split_ands; go_simp; with_reducible rfl
  change wpAnyH _ _ _ _ _ _ _ (Act.put _ (some 8) _) _
  simp only [Act.put, List.setIfInBounds_toArray, List.set_cons_zero, List.set_cons_succ, Array.toArray_toList]
  refine wpAnyH_take (i := 3) (v := ?_) rfl (by kernel_rfl) (by kernel_rfl) (by kernel_rfl) (fun _ _ _ h => h) (Or.inl ⟨by rfl, ?_⟩) (by assumption) ?_
  rotate_left
  · intro w hSw; (try dsimp only at hSw); go_split_ands; go_simp; with_reducible rfl
  change wpAnyH _ _ _ _ _ _ _ (Act.put _ (some 10) _) _
  simp only [Act.put, List.setIfInBounds_toArray, List.set_cons_zero, List.set_cons_succ, Array.toArray_toList]
  refine wpAnyH_take (i := 4) (v := ?_) rfl (by kernel_rfl) (by kernel_rfl) (by kernel_rfl) (fun _ _ _ h => h) (Or.inl ⟨by rfl, ?_⟩) (by assumption) ?_
  rotate_left
  · intro w hSw; (try dsimp only at hSw); go_split_ands; go_simp; with_reducible rfl
  change wpAnyH _ _ _ _ _ _ _ (Act.put _ (some 11) _) _
  simp only [Act.put, List.setIfInBounds_toArray, List.set_cons_zero, List.set_cons_succ, Array.toArray_toList]
  refine wpAnyH_take (i := 6) (v := ?_) rfl (by kernel_rfl) (by kernel_rfl) (by kernel_rfl) (fun _ _ _ h => h) (Or.inl ⟨by rfl, ?_⟩) (by assumption) ?_
  rotate_left
  · intro w hSw; (try dsimp only at hSw); go_split_ands; go_simp; with_reducible rfl
  change wpAnyH _ _ _ _ _ _ _ (Act.put _ (some 13) _) _
  simp only [Act.put, List.setIfInBounds_toArray, List.set_cons_zero, List.set_cons_succ, Array.toArray_toList]
  refine wpAnyH_take (i := 7) (v := ?_) rfl (by kernel_rfl) (by kernel_rfl) (by kernel_rfl) (fun _ _ _ h => h) (Or.inl ⟨by rfl, ?_⟩) (by assumption) ?_
  rotate_left
  · intro w hSw; (try dsimp only at hSw); go_split_ands; go_simp; with_reducible rfl
  change wpAnyH _ _ _ _ _ _ _ (Act.put _ (some 14) _) _
  simp only [Act.put, List.setIfInBounds_toArray, List.set_cons_zero, List.set_cons_succ, Array.toArray_toList]
  refine wpAnyH_ready (rs := [2]) (by kernel_rfl) (by simp) ?_
  refine (AllReadyH.cons rfl (fun K hK => ?_) AllReadyH.nil)
  go_simp
  (with_reducible refine (HW.out _ Mq.out.bel).mono ?_); rintro r wq ⟨rfl, hb⟩; have Mq := Lib.hid (Mq.out.below hb); clear hb
  go_wp2_with fail
  refine hK.out _ _ (by exact HCE.out _ _ _ Mq.out) (fun hHeld => ?_)
  clear hK K
  refine wpAnyH_ready (rs := [5]) (by kernel_rfl) (by simp) ?_
  refine (AllReadyH.cons rfl (fun K hK => ?_) AllReadyH.nil)
  go_simp
  (with_reducible refine (HI0.out _ Mq.out.bel).mono ?_); rintro r wq ⟨rfl, hb⟩; have Mq := Lib.hid (Mq.out.below hb); clear hb
  go_wp2_with fail
  refine hK.out _ _ (by exact HCE.out _ _ _ Mq.out) (fun hHeld => ?_)
  clear hK K
  refine wpAnyH_ready (rs := [8]) (by kernel_rfl) (by simp) ?_
  refine (AllReadyH.cons rfl (fun K hK => ?_) AllReadyH.nil)
  go_simp
  (with_reducible refine (HI5.out _ Mq.out.bel).mono ?_); rintro r wq ⟨rfl, hb⟩; have Mq := Lib.hid (Mq.out.below hb); clear hb
  go_wp2_with fail
  refine hK.out _ _ (by exact HCE.out _ _ _ Mq.out) (fun hHeld => ?_)
  clear hK K
  refine wpAnyH_ready (rs := [9]) (by kernel_rfl) (by simp) ?_
  refine (AllReadyH.cons rfl (fun K hK => ?_) AllReadyH.nil)
  go_simp; generalize hwq : World.alloc _ _ = wq; obtain ⟨g4, hg4, mq⟩ := HS.out _ _ _ _ Mq.out hwq rfl; rw [hg4]; have Mq := Lib.hid mq; clear hwq hg4 mq
  refine hK.out _ _ (by exact HCE.out _ _ _ Mq.out) (fun hHeld => ?_)
  clear hK K
  refine wpAnyH_take (i := 10) (v := ?_) rfl (by kernel_rfl) (by kernel_rfl) (by kernel_rfl) (fun _ _ _ h => h) (Or.inl ⟨by rfl, ?_⟩) (by assumption) ?_
  rotate_left
  · intro w hSw; (try dsimp only at hSw); go_split_ands; go_simp; with_reducible rfl
  change wpAnyH _ _ _ _ _ _ _ (Act.put _ (some 3) _) _
  simp only [Act.put, List.setIfInBounds_toArray, List.set_cons_zero, List.set_cons_succ, Array.toArray_toList]
  refine wpAnyH_done (by kernel_rfl) ?_ _
  obtain ⟨d0, d1, d2, d3⟩ := HCE.out _ _ _ Mq.out
  clear hHeld K0
  go_wp2_with fail
  with_reducible refine (HH.out _ Mq.out.bel).mono ?_
  rintro r w6 ⟨rfl, hb⟩
  have Mq := Lib.hid (Mq.out.below hb)
  clear hb d0 d1 d2 d3
  go_wp2_with (at_builtin; generalize hwq : World.alloc _ _ = wq; obtain ⟨g5, hg5, mq⟩ := HS2.out _ _ _ _ _ Mq.out hwq; simp only [hg5]; refine wpList_appE rfl _ _ 92 rfl [] mq el_str31 rfl _ (some ⟨g5, 0, none⟩) 1 1 [.string S4] rfl (mq.src (mq.rowSrc (List.mem_cons_of_mem _ (List.mem_cons_self ..)))) (by simp [Value.oneCell']) (by decide) (by decide) ?_; intro A5 c5 w5 N5 X5 hn5 hx5 mr; have Mr := Lib.hid mr; have HJ5 := Lib.hid (HJ.out _ _ _ _ _ _ _ hn5 hx5 mr); clear mq mr hn5 hx5)
  with_reducible refine (HJ5.out).mono ?_
  rintro r w6 ⟨rfl, hb⟩
  have Mq := Lib.hid (Mr.out.below hb)
  clear hb
  go_wp2
  go_ret
  exact ⟨rfl, Mq.out.bel⟩
end Go.Proofs.YtnopmdhjamkoaaaDoor
