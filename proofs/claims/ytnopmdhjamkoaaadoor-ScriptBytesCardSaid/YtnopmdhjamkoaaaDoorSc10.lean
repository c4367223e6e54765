/- The law's known: the text of one step. -/
import Derived.Test.YtnopmdhjamkoaaaDoorSc8
import Derived.Test.YtnopmdhjamkoaaaDoorSc3
import Derived.Test.YtnopmdhjamkoaaaDoorShelfI
import Derived.Test.YtnopmdhjamkoaaaDoorShelfJ
import Derived.WalkSmall
import Derived.Lib.AppendIntMem
namespace Go.Proofs.YtnopmdhjamkoaaaDoor
set_option linter.unusedVariables false
set_option linter.unusedSimpArgs false
open Go.RowKit

abbrev Tab31 (w : World) : Prop := Lib.TabIs Tryd.prog w "internal/strconv.uint64pow10" .u64 Lib.pow10Tab
theorem itoa31 (n : Int) (hn : -9223372036854775808 ≤ n ∧ n ≤ 9223372036854775807) (s : ByteArray) (hs : (⟨(Lib.itoa n).toArray⟩ : ByteArray) = s) (w : World) (hT : Tab31 w) :
    Calls Tryd.prog 9 #[.int .i64 n] w fun e w' => e = .returned (.string s) ∧ Below w.heap.size w w' := by
  refine (Go.Proofs.Tryd.strconv_Itoa n hn.1 hn.2 w hT).mono ?_
  rintro e w' ⟨rfl, k, os, rfl⟩
  exact ⟨by rw [hs], Lib.below_grow _ _ (Nat.le_refl _) _ _⟩
def waitL : List ByteArray := [⟨#[119, 97, 105, 116]⟩, ⟨#[48]⟩, ⟨#[53]⟩]
theorem join31 (g : Nat) (w : World) (hg : g < w.heap.size) (hc : ∀ (j : Nat) x, waitL[j]? = some x → w.cell? ⟨g, 0 + j, none⟩ = some (.string x)) :
    Calls Tryd.prog 66 #[.slice (some ⟨g, 0, none⟩) 3 3, .string ⟨#[32]⟩] w fun e w' => e = .returned (.string ⟨#[119, 97, 105, 116, 32, 48, 32, 53]⟩) ∧ Below w.heap.size w w' := by
  have h := Go.Proofs.Tryd.strings_Join g 0 3 waitL ⟨#[32]⟩ w hc hg (by decide) (by decide) (by decide)
  have e : (⟨(Lib.join (waitL.map (·.data.toList)) (⟨#[32]⟩ : ByteArray).data.toList).toArray⟩ : ByteArray) = ⟨#[119, 97, 105, 116, 32, 48, 32, 53]⟩ := by kernel_rfl
  rw [e] at h
  exact h
set_option maxRecDepth 100000 in
set_option maxHeartbeats 4000000 in
theorem text5_any (w : World) (hT : TabU w) (hP : ∀ w', Below w.heap.size w w' → Tab31 w') :
    Calls Tryd.prog 38 #[.agg #[.int .i64 0, .int .i64 0, .int .i64 5, .slice none 0 0]] w fun r w' => r = .returned (.string ⟨#[119, 97, 105, 116, 32, 48, 32, 53]⟩) ∧ Below w.heap.size w w' := by
  have Mq := Lib.hid ((Mst.start w).new 62 #[.int .i64 0, .int .i64 0, .int .i64 5, .slice none 0 0])
  have hU : ∀ w', Below w.heap.size w w' → TabU w' := fun w' hb => hT.keep hb
  have HC := Lib.hid (show ∀ w', Below w.heap.size w w' → Calls Tryd.prog 35 #[.agg #[.int .i64 0, .int .i64 0, .int .i64 5, .slice none 0 0]] w' fun r w2 => r = .returned (.int .i64 0) ∧ Below w'.heap.size w' w2 from fun w' hb => (scrc_any 0 0 5 none 0 0).1 w' (hU w' hb))
  have HW := Lib.hid (show ∀ w', Below w.heap.size w w' → Calls Tryd.prog 42 #[.int .i64 0] w' fun r w2 => r = .returned (.string ⟨#[119, 97, 105, 116]⟩) ∧ Below w'.heap.size w' w2 from fun w' hb => word31_yes 0 (by decide) w' (hT w' hb) _ rfl)
  have HI0 := Lib.hid (show ∀ w', Below w.heap.size w w' → Calls Tryd.prog 9 #[.int .i64 0] w' fun r w2 => r = .returned (.string ⟨#[48]⟩) ∧ Below w'.heap.size w' w2 from fun w' hb => itoa31 0 (by decide) _ (by kernel_rfl) w' (hP w' hb))
  have HI5 := Lib.hid (show ∀ w', Below w.heap.size w w' → Calls Tryd.prog 9 #[.int .i64 5] w' fun r w2 => r = .returned (.string ⟨#[53]⟩) ∧ Below w'.heap.size w' w2 from fun w' hb => itoa31 5 (by decide) _ (by kernel_rfl) w' (hP w' hb))
  have HCE := Lib.hid (show ∀ w' bl', Mst w w' ((w.heap.size, 62, #[.int .i64 0, .int .i64 0, .int .i64 5, .slice none 0 0]) :: bl') [] → w'.cell? ⟨w.heap.size, 0, none⟩ = some (.int .i64 0) ∧ w'.cell? ⟨w.heap.size, 1, none⟩ = some (.int .i64 0) ∧ w'.cell? ⟨w.heap.size, 2, none⟩ = some (.int .i64 5) ∧ w'.cell? ⟨w.heap.size, 3, none⟩ = some (.slice none 0 0) from fun w' bl' h => ⟨(h.blk []).cell 0, (h.blk []).cell 1, (h.blk []).cell 2, (h.blk []).cell 3⟩)
  have HS := Lib.hid (show ∀ (w' w2 : World) bl' (v : Array Value), Mst w w' bl' [] → w'.alloc (.cells v 9) = w2 → v = #[.string ⟨#[119, 97, 105, 116]⟩, .string ⟨#[48]⟩, .string ⟨#[53]⟩] → ∃ g, w'.heap.size = g ∧ Mst w w2 bl' [] ∧ Calls Tryd.prog 66 #[.slice (some ⟨g, 0, none⟩) 3 3, .string ⟨#[32]⟩] w2 fun e w' => e = .returned (.string ⟨#[119, 97, 105, 116, 32, 48, 32, 53]⟩) ∧ Below w2.heap.size w2 w' from fun w' w2 bl' v h hw hv => by
    subst hw hv
    refine ⟨_, rfl, (h.new _ _).dropb, join31 _ _ (by simp) fun j x hx => ?_⟩
    have B := Bk.mk_ w' 9 #[.string ⟨#[119, 97, 105, 116]⟩, .string ⟨#[48]⟩, .string ⟨#[53]⟩]
    have hj : j < 3 := (List.getElem?_eq_some_iff.1 hx).1
    have h3 : j = 0 ∨ j = 1 ∨ j = 2 := by omega
    rw [Nat.zero_add]
    rcases h3 with rfl | rfl | rfl <;> (injection hx with hx; subst hx; exact B.cell _))
  clear hT hP hU
  have c0 := (Mq.out.blk []).cell 0
  have c1 := (Mq.out.blk []).cell 1
  have c2 := (Mq.out.blk []).cell 2
  have c3 := (Mq.out.blk []).cell 3
  simp only [List.getElem?_toArray, List.getElem?_cons_zero, List.getElem?_cons_succ] at c0 c1 c2 c3
  go_enter Tryd.func38, Tryd.ntmps38
  go_wp2_with fail
  with_reducible refine (HC.out _ Mq.out.bel).mono ?_
  rintro r w1 ⟨rfl, hb⟩
  have Mq := Lib.hid (Mq.out.below hb)
  clear hb c0 c1 c2 c3
  have K0 := Lib.hid (HCE.out _ _ Mq.out.drew)
  go_upto_region 3 with fail
  refine wp_region_held_drew (S := fun w' => w'.cell? ⟨w.heap.size, 0, none⟩ = some (.int .i64 0) ∧ w'.cell? ⟨w.heap.size, 1, none⟩ = some (.int .i64 0) ∧ w'.cell? ⟨w.heap.size, 2, none⟩ = some (.int .i64 5) ∧ w'.cell? ⟨w.heap.size, 3, none⟩ = some (.slice none 0 0)) (by kernel_rfl) ?_ (fun hHeld => ?_)
  · exact K0.out
  generalize hw7 : World.drew _ = w7 at hHeld ⊢
  have Mq := Lib.hid (Mq.out.drew.toV hw7 rfl)
  clear hw7
  refine wpAnyH_take (i := 0) (v := ?_) rfl (by kernel_rfl) (by kernel_rfl) (by kernel_rfl) (fun _ _ _ h => h) (Or.inl ⟨by rfl, ?_⟩) (by assumption) ?_
  rotate_left
  · intro w hSw; (try dsimp only at hSw); go_split_ands; go_simp; with_reducible rfl
  change wpAnyH _ _ _ _ _ _ _ (Act.put _ (some 7) _) _
  simp only [Act.put, List.setIfInBounds_toArray, List.set_cons_zero, List.set_cons_succ, Array.toArray_toList]
  refine wpAnyH_take (i := 1) (v := ?_) rfl (by kernel_rfl) (by kernel_rfl) (by kernel_rfl) (fun _ _ _ h => h) (Or.inl ⟨by rfl, ?_⟩) (by assumption) ?_
  rotate_left
  · intro w hSw; (try dsimp only at hSw); go_split_ands; go_simp; with_reducible rfl
  change wpAnyH _ _ _ _ _ _ _ (Act.put _ (some 8) _) _
  simp only [Act.put, List.setIfInBounds_toArray, List.set_cons_zero, List.set_cons_succ, Array.toArray_toList]
  refine wpAnyH_take (i := 3) (v := ?_) rfl (by kernel_rfl) (by kernel_rfl) (by kernel_rfl) (fun _ _ _ h => h) (Or.inl ⟨by rfl, ?_⟩) (by assumption) ?_
  rotate_left
  · intro w hSw; (try dsimp only at hSw); go_split_ands; go_simp; with_reducible rfl
  change wpAnyH _ _ _ _ _ _ _ (Act.put _ (some 10) _) _
  simp only [Act.put, List.setIfInBounds_toArray, List.set_cons_zero, List.set_cons_succ, Array.toArray_toList]
  refine wpAnyH_take (i := 4) (v := ?_) rfl (by kernel_rfl) (by kernel_rfl) (by kernel_rfl) (fun _ _ _ h => h) (Or.inl ⟨by rfl, ?_⟩) (by assumption) ?_
  rotate_left
  · intro w hSw; (try dsimp only at hSw); go_split_ands; go_simp; with_reducible rfl
  change wpAnyH _ _ _ _ _ _ _ (Act.put _ (some 11) _) _
  simp only [Act.put, List.setIfInBounds_toArray, List.set_cons_zero, List.set_cons_succ, Array.toArray_toList]
  refine wpAnyH_take (i := 6) (v := ?_) rfl (by kernel_rfl) (by kernel_rfl) (by kernel_rfl) (fun _ _ _ h => h) (Or.inl ⟨by rfl, ?_⟩) (by assumption) ?_
  rotate_left
  · intro w hSw; (try dsimp only at hSw); go_split_ands; go_simp; with_reducible rfl
  change wpAnyH _ _ _ _ _ _ _ (Act.put _ (some 13) _) _
  simp only [Act.put, List.setIfInBounds_toArray, List.set_cons_zero, List.set_cons_succ, Array.toArray_toList]
  refine wpAnyH_take (i := 7) (v := ?_) rfl (by kernel_rfl) (by kernel_rfl) (by kernel_rfl) (fun _ _ _ h => h) (Or.inl ⟨by rfl, ?_⟩) (by assumption) ?_
  rotate_left
  · intro w hSw; (try dsimp only at hSw); go_split_ands; go_simp; with_reducible rfl
  change wpAnyH _ _ _ _ _ _ _ (Act.put _ (some 14) _) _
  simp only [Act.put, List.setIfInBounds_toArray, List.set_cons_zero, List.set_cons_succ, Array.toArray_toList]
  refine wpAnyH_ready (rs := [2]) (by kernel_rfl) (by simp) ?_
  refine (AllReadyH.cons rfl (fun K hK => ?_) AllReadyH.nil)
  go_simp
  (with_reducible refine (HW.out _ Mq.out.bel).mono ?_); rintro r wq ⟨rfl, hb⟩; have Mq := Lib.hid (Mq.out.below hb); clear hb
  go_wp2_with fail
  refine hK.out _ _ (by exact HCE.out _ _ Mq.out) (fun hHeld => ?_)
  clear hK K
  refine wpAnyH_ready (rs := [5]) (by kernel_rfl) (by simp) ?_
  refine (AllReadyH.cons rfl (fun K hK => ?_) AllReadyH.nil)
  go_simp
  (with_reducible refine (HI0.out _ Mq.out.bel).mono ?_); rintro r wq ⟨rfl, hb⟩; have Mq := Lib.hid (Mq.out.below hb); clear hb
  go_wp2_with fail
  refine hK.out _ _ (by exact HCE.out _ _ Mq.out) (fun hHeld => ?_)
  clear hK K
  refine wpAnyH_ready (rs := [8]) (by kernel_rfl) (by simp) ?_
  refine (AllReadyH.cons rfl (fun K hK => ?_) AllReadyH.nil)
  go_simp
  (with_reducible refine (HI5.out _ Mq.out.bel).mono ?_); rintro r wq ⟨rfl, hb⟩; have Mq := Lib.hid (Mq.out.below hb); clear hb
  go_wp2_with fail
  refine hK.out _ _ (by exact HCE.out _ _ Mq.out) (fun hHeld => ?_)
  clear hK K
  refine wpAnyH_ready (rs := [9]) (by kernel_rfl) (by simp) ?_
  refine (AllReadyH.cons rfl (fun K hK => ?_) AllReadyH.nil)
  go_simp; generalize hwq : World.alloc _ _ = wq; obtain ⟨g4, hg4, mq, hj⟩ := HS.out _ _ _ _ Mq.out hwq rfl; rw [hg4]; have Mq := Lib.hid mq; have HJ := Lib.hid hj; clear hwq hg4 mq hj
  refine hK.out _ _ (by exact HCE.out _ _ Mq.out) (fun hHeld => ?_)
  clear hK K
  refine wpAnyH_take (i := 10) (v := ?_) rfl (by kernel_rfl) (by kernel_rfl) (by kernel_rfl) (fun _ _ _ h => h) (Or.inl ⟨by rfl, ?_⟩) (by assumption) ?_
  rotate_left
  · intro w hSw; (try dsimp only at hSw); go_split_ands; go_simp; with_reducible rfl
  change wpAnyH _ _ _ _ _ _ _ (Act.put _ (some 3) _) _
  simp only [Act.put, List.setIfInBounds_toArray, List.set_cons_zero, List.set_cons_succ, Array.toArray_toList]
  refine wpAnyH_done (by kernel_rfl) ?_ _
  obtain ⟨d0, d1, d2, d3⟩ := HCE.out _ _ Mq.out
  clear hHeld K0
  go_wp2_with fail
  with_reducible refine (HJ.out).mono ?_
  rintro r w6 ⟨rfl, hb⟩
  have Mq := Lib.hid (Mq.out.below hb)
  clear hb
  go_wp2
  go_ret
  exact ⟨rfl, Mq.out.bel⟩
set_option maxRecDepth 100000 in
theorem known31_any (w : World) (hT : TabU w) (hP : ∀ w', Below w.heap.size w w' → Tab31 w') : Calls Tryd.prog 36 #[] w fun r w' => r = .returned (.bool true) ∧ Below w.heap.size w w' := by
  have H := Lib.hid (text5_any w hT hP)
  clear hT hP
  go_enter Tryd.func36, Tryd.ntmps36
  go_wp2_with fail
  with_reducible refine (H.out).mono ?_
  rintro r w6 ⟨rfl, hb⟩
  go_wp2
  go_ret
  exact ⟨rfl, hb⟩
end Go.Proofs.YtnopmdhjamkoaaaDoor
