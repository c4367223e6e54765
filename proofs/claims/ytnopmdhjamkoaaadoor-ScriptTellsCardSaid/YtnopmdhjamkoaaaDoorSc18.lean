/- Text of a step without bytes. -/
import Derived.Test.YtnopmdhjamkoaaaDoorSc17
namespace Go.Proofs.YtnopmdhjamkoaaaDoor
set_option linter.unusedVariables false
set_option linter.unusedSimpArgs false
open Go.RowKit
set_option maxRecDepth 100000 in
set_option maxHeartbeats 4000000 in
theorem text0_any (w : World) (hT : TabU w) (hP : ∀ w', Below w.heap.size w w' → Tab31 w') (k q m : Nat) (hk : k < 11) (hq : q ≤ 65535) (hm : m ≤ 2147483647) (A : Option Addr) (c : Nat) (hchk : scC k q m 0 = 0) (S1 S2 S3 S : ByteArray) (h1 : wK k = S1) (h2 : decB q = S2) (h3 : decB m = S3) (hS : (⟨(Lib.join ([S1, S2, S3].map (·.data.toList)) (⟨#[32]⟩ : ByteArray).data.toList).toArray⟩ : ByteArray) = S)
    (hlen : (Lib.join ([S1, S2, S3].map (·.data.toList)) (⟨#[32]⟩ : ByteArray).data.toList).length ≤ 140737488355328) :
    Calls Tryd.prog 38 #[.agg #[.int .i64 (k : Int), .int .i64 (q : Int), .int .i64 (m : Int), .slice A 0 c]] w fun r w' => r = .returned (.string S) ∧ Below w.heap.size w w' := by
  have Mq := Lib.hid ((Mst.start w).new 62 #[.int .i64 (k : Int), .int .i64 (q : Int), .int .i64 (m : Int), .slice A 0 c])
  have hU : ∀ w', Below w.heap.size w w' → TabU w' := fun w' hb => hT.keep hb
  have HC := Lib.hid (show ∀ w', Below w.heap.size w w' → Calls Tryd.prog 35 #[.agg #[.int .i64 (k : Int), .int .i64 (q : Int), .int .i64 (m : Int), .slice A 0 c]] w' fun r w2 => r = .returned (.int .i64 0) ∧ Below w'.heap.size w' w2 from fun w' hb => by
    have h := (scrc_any k q m A 0 c).1 w' (hU w' hb)
    rw [hchk] at h
    exact h)
  have HW := Lib.hid (show ∀ w', Below w.heap.size w w' → Calls Tryd.prog 42 #[.int .i64 (k : Int)] w' fun r w2 => r = .returned (.string S1) ∧ Below w'.heap.size w' w2 from fun w' hb => word31_yes k hk w' (hT w' hb) _ h1)
  have HI0 := Lib.hid (show ∀ w', Below w.heap.size w w' → Calls Tryd.prog 9 #[.int .i64 (q : Int)] w' fun r w2 => r = .returned (.string S2) ∧ Below w'.heap.size w' w2 from fun w' hb => itoa31 q (by omega) _ (by rw [Lib.itoa_nonneg]; exact h2) w' (hP w' hb))
  have HI5 := Lib.hid (show ∀ w', Below w.heap.size w w' → Calls Tryd.prog 9 #[.int .i64 (m : Int)] w' fun r w2 => r = .returned (.string S3) ∧ Below w'.heap.size w' w2 from fun w' hb => itoa31 m (by omega) _ (by rw [Lib.itoa_nonneg]; exact h3) w' (hP w' hb))
  have HCE := Lib.hid (show ∀ w' bl', Mst w w' ((w.heap.size, 62, #[.int .i64 (k : Int), .int .i64 (q : Int), .int .i64 (m : Int), .slice A 0 c]) :: bl') [] → w'.cell? ⟨w.heap.size, 0, none⟩ = some (.int .i64 (k : Int)) ∧ w'.cell? ⟨w.heap.size, 1, none⟩ = some (.int .i64 (q : Int)) ∧ w'.cell? ⟨w.heap.size, 2, none⟩ = some (.int .i64 (m : Int)) ∧ w'.cell? ⟨w.heap.size, 3, none⟩ = some (.slice A 0 c) from fun w' bl' h => ⟨(h.blk []).cell 0, (h.blk []).cell 1, (h.blk []).cell 2, (h.blk []).cell 3⟩)
  have HS := Lib.hid (show ∀ (w' w2 : World) bl' (v : Array Value), Mst w w' bl' [] → w'.alloc (.cells v 9) = w2 → v = #[.string S1, .string S2, .string S3] → ∃ g, w'.heap.size = g ∧ Mst w w2 bl' [] ∧ Calls Tryd.prog 66 #[.slice (some ⟨g, 0, none⟩) 3 3, .string ⟨#[32]⟩] w2 fun e w' => e = .returned (.string S) ∧ Below w2.heap.size w2 w' from fun w' w2 bl' v h hw hv => by
    subst hw hv
    refine ⟨_, rfl, (h.new _ _).dropb, (by
      have h := Go.Proofs.Tryd.strings_Join w'.heap.size 0 3 [S1, S2, S3] ⟨#[32]⟩ (w'.alloc (.cells #[.string S1, .string S2, .string S3] 9)) ?_ (by simp) (by simp) (by simp) hlen
      · rw [hS] at h
        exact h
      intro j x hx
      have B := Bk.mk_ w' 9 #[.string S1, .string S2, .string S3]
      have hj : j < 3 := (List.getElem?_eq_some_iff.1 hx).1
      have h3 : j = 0 ∨ j = 1 ∨ j = 2 := by omega
      rw [Nat.zero_add]
      rcases h3 with rfl | rfl | rfl <;> (injection hx with hx; subst hx; exact B.cell _))⟩)
  clear hT hP hU hk hq hm hchk h1 h2 h3 hS hlen
  have c0 := (Mq.out.blk []).cell 0
  have c1 := (Mq.out.blk []).cell 1
  have c2 := (Mq.out.blk []).cell 2
  have c3 := (Mq.out.blk []).cell 3
  simp only [List.getElem?_toArray, List.getElem?_cons_zero, List.getElem?_cons_succ] at c0 c1 c2 c3
  go_enter Tryd.func38, Tryd.ntmps38
  go_wp2_with fail
  with_reducible refine (HC.out _ Mq.out.bel).mono ?_
  rintro r w1 ⟨rfl, hb⟩
  have Mq := Lib.hid (Mq.out.below hb)
  clear hb c0 c1 c2 c3
  have K0 := Lib.hid (HCE.out _ _ Mq.out.drew)
  go_upto_region 3 with fail
  refine wp_region_held_drew (S := fun w' => w'.cell? ⟨w.heap.size, 0, none⟩ = some (.int .i64 (k : Int)) ∧ w'.cell? ⟨w.heap.size, 1, none⟩ = some (.int .i64 (q : Int)) ∧ w'.cell? ⟨w.heap.size, 2, none⟩ = some (.int .i64 (m : Int)) ∧ w'.cell? ⟨w.heap.size, 3, none⟩ = some (.slice A 0 c)) (by kernel_rfl) ?_ (fun hHeld => ?_)
  · exact K0.out
  generalize hw7 : World.drew _ = w7 at hHeld ⊢
  have Mq := Lib.hid (Mq.out.drew.toV hw7 rfl)
  clear hw7
  refine wpAnyH_take (i := 0) (v := ?_) rfl (by kernel_rfl) (by kernel_rfl) (by kernel_rfl) (fun _ _ _ h => h) (Or.inl ⟨by rfl, ?_⟩) (by assumption) ?_
  rotate_left
  · intro w hSw; (try dsimp only at hSw); go_split_ands; go_simp; with_reducible rfl
  change wpAnyH _ _ _ _ _ _ _ (Act.put _ (some 7) _) _
  simp only [Act.put, List.setIfInBounds_toArray, List.set_cons_zero, List.set_cons_succ, Array.toArray_toList]
  refine wpAnyH_take (i := 1) (v := ?_) rfl (by kernel_rfl) (by kernel_rfl) (by kernel_rfl) (fun _ _ _ h => h) (Or.inl ⟨by rfl, ?_⟩) (by assumption) ?_
  rotate_left
  · intro w hSw; (try dsimp only at hSw); go_split_ands; go_simp; with_reducible rfl
  change wpAnyH _ _ _ _ _ _ _ (Act.put _ (some 8) _) _
  simp only [Act.put, List.setIfInBounds_toArray, List.set_cons_zero, List.set_cons_succ, Array.toArray_toList]
  refine wpAnyH_take (i := 3) (v := ?_) rfl (by kernel_rfl) (by kernel_rfl) (by kernel_rfl) (fun _ _ _ h => h) (Or.inl ⟨by rfl, ?_⟩) (by assumption) ?_
  rotate_left
  · intro w hSw; (try dsimp only at hSw); go_split_ands; go_simp; with_reducible rfl
  change wpAnyH _ _ _ _ _ _ _ (Act.put _ (some 10) _) _
  simp only [Act.put, List.setIfInBounds_toArray, List.set_cons_zero, List.set_cons_succ, Array.toArray_toList]
  refine wpAnyH_take (i := 4) (v := ?_) rfl (by kernel_rfl) (by kernel_rfl) (by kernel_rfl) (fun _ _ _ h => h) (Or.inl ⟨by rfl, ?_⟩) (by assumption) ?_
  rotate_left
  · intro w hSw; (try dsimp only at hSw); go_split_ands; go_simp; with_reducible rfl
  change wpAnyH _ _ _ _ _ _ _ (Act.put _ (some 11) _) _
  simp only [Act.put, List.setIfInBounds_toArray, List.set_cons_zero, List.set_cons_succ, Array.toArray_toList]
  refine wpAnyH_take (i := 6) (v := ?_) rfl (by kernel_rfl) (by kernel_rfl) (by kernel_rfl) (fun _ _ _ h => h) (Or.inl ⟨by rfl, ?_⟩) (by assumption) ?_
  rotate_left
  · intro w hSw; (try dsimp only at hSw); go_split_ands; go_simp; with_reducible rfl
  change wpAnyH _ _ _ _ _ _ _ (Act.put _ (some 13) _) _
  simp only [Act.put, List.setIfInBounds_toArray, List.set_cons_zero, List.set_cons_succ, Array.toArray_toList]
  refine wpAnyH_take (i := 7) (v := ?_) rfl (by kernel_rfl) (by kernel_rfl) (by kernel_rfl) (fun _ _ _ h => h) (Or.inl ⟨by rfl, ?_⟩) (by assumption) ?_
  rotate_left
  · intro w hSw; (try dsimp only at hSw); go_split_ands; go_simp; with_reducible rfl
  change wpAnyH _ _ _ _ _ _ _ (Act.put _ (some 14) _) _
  simp only [Act.put, List.setIfInBounds_toArray, List.set_cons_zero, List.set_cons_succ, Array.toArray_toList]
  refine wpAnyH_ready (rs := [2]) (by kernel_rfl) (by simp) ?_
  refine (AllReadyH.cons rfl (fun K hK => ?_) AllReadyH.nil)
  go_simp
  (with_reducible refine (HW.out _ Mq.out.bel).mono ?_); rintro r wq ⟨rfl, hb⟩; have Mq := Lib.hid (Mq.out.below hb); clear hb
  go_wp2_with fail
  refine hK.out _ _ (by exact HCE.out _ _ Mq.out) (fun hHeld => ?_)
  clear hK K
  refine wpAnyH_ready (rs := [5]) (by kernel_rfl) (by simp) ?_
  refine (AllReadyH.cons rfl (fun K hK => ?_) AllReadyH.nil)
  go_simp
  (with_reducible refine (HI0.out _ Mq.out.bel).mono ?_); rintro r wq ⟨rfl, hb⟩; have Mq := Lib.hid (Mq.out.below hb); clear hb
  go_wp2_with fail
  refine hK.out _ _ (by exact HCE.out _ _ Mq.out) (fun hHeld => ?_)
  clear hK K
  refine wpAnyH_ready (rs := [8]) (by kernel_rfl) (by simp) ?_
  refine (AllReadyH.cons rfl (fun K hK => ?_) AllReadyH.nil)
  go_simp
  (with_reducible refine (HI5.out _ Mq.out.bel).mono ?_); rintro r wq ⟨rfl, hb⟩; have Mq := Lib.hid (Mq.out.below hb); clear hb
  go_wp2_with fail
  refine hK.out _ _ (by exact HCE.out _ _ Mq.out) (fun hHeld => ?_)
  clear hK K
  refine wpAnyH_ready (rs := [9]) (by kernel_rfl) (by simp) ?_
  refine (AllReadyH.cons rfl (fun K hK => ?_) AllReadyH.nil)
  go_simp; generalize hwq : World.alloc _ _ = wq; obtain ⟨g4, hg4, mq, hj⟩ := HS.out _ _ _ _ Mq.out hwq rfl; rw [hg4]; have Mq := Lib.hid mq; have HJ := Lib.hid hj; clear hwq hg4 mq hj
  refine hK.out _ _ (by exact HCE.out _ _ Mq.out) (fun hHeld => ?_)
  clear hK K
  refine wpAnyH_take (i := 10) (v := ?_) rfl (by kernel_rfl) (by kernel_rfl) (by kernel_rfl) (fun _ _ _ h => h) (Or.inl ⟨by rfl, ?_⟩) (by assumption) ?_
  rotate_left
  · intro w hSw; (try dsimp only at hSw); go_split_ands; go_simp; with_reducible rfl
  change wpAnyH _ _ _ _ _ _ _ (Act.put _ (some 3) _) _
  simp only [Act.put, List.setIfInBounds_toArray, List.set_cons_zero, List.set_cons_succ, Array.toArray_toList]
  refine wpAnyH_done (by kernel_rfl) ?_ _
  obtain ⟨d0, d1, d2, d3⟩ := HCE.out _ _ Mq.out
  clear hHeld K0
  go_wp2_with fail
  with_reducible refine (HJ.out).mono ?_
  rintro r w6 ⟨rfl, hb⟩
  have Mq := Lib.hid (Mq.out.below hb)
  clear hb
  go_wp2
  go_ret
  exact ⟨rfl, Mq.out.bel⟩
end Go.Proofs.YtnopmdhjamkoaaaDoor
