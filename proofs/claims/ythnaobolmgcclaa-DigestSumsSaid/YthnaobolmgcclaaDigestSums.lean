/-
  vigillaw01.DigestSums returns true, whatever it is called with. Conditions: none but that the argument is a slice of slices of bytes that can be read.
-/
import Derived.Test.YthnaobolmgcclaaDig1
import Derived.Test.YthnaobolmgcclaaKn01
namespace Go.Proofs.Ythnaobolmgcclaa
set_option linter.unusedVariables false
set_option linter.unusedSimpArgs false
open Go.RowKit

set_option maxRecDepth 100000 in
set_option maxHeartbeats 1600000 in
theorem digestSums_main (W : World) (A : Option Addr) (c : Nat) (ps : List Pt) (hp : Rd W W.heap.size 1 A ps.length (ps.map Pt.v)) (hc : ∀ p ∈ ps, RB W W.heap.size p.A p.l ∧ p.l.length ≤ p.c ∧ p.c ≤ 9223372036854775807) (hn : ps.length ≤ 9223372036854775807) :
    Calls Try.prog 4 #[.slice A ps.length c] W fun e W' => e = .returned (.bool true) ∧ Below W.heap.size W W' := by
  have HF := Lib.hid (few1_any W A c ps ⟨hp, fun p h => (hc p h).1⟩ (fun p h => (hc p h).2) hn)
  have hq := fewP_old (M := 12) (N := 100) fun p h => (hc p h).1
  have hlen : (fewP 12 100 ps).length ≤ 12 := by rw [fewP_len]; omega
  have hcl : (catP (fewP 12 100 ps)).length ≤ 1200 := by
    have h1 := catP_len_le (N := 100) (ps := fewP 12 100 ps) (fewP_le 12 100 ps)
    omega
  obtain ⟨qs, hqs⟩ : ∃ q, fewP 12 100 ps = q := ⟨_, rfl⟩
  rw [hqs] at HF hq hlen hcl
  have HQ := Lib.hid hq
  obtain ⟨n, hN⟩ : ∃ n, qs.length = n := ⟨_, rfl⟩
  rw [hN] at HF
  have HN := Lib.hid hN
  rw [hN] at hlen
  clear hp hc hn hq hqs hN
  obtain ⟨KT, HMK, HRS⟩ := ref_sum
  go_enter Try.func4, Try.ntmps4
  go_wp2_with fail
  refine HF.out.mono ?_
  rintro e w1 ⟨v1, v2, rfl, hfe⟩
  obtain ⟨A1, c1, A2, c2, ow, rfl, rfl, m1, hS1, hS2⟩ := fe_open HN.out hfe HQ.out
  obtain ⟨T, hT⟩ : ∃ T, catP qs = T := ⟨_, rfl⟩
  rw [hT] at hS2 hcl ⊢
  have H1 := Lib.hid hS1
  have H2 := Lib.hid hS2
  have HT := Lib.hid hT
  have M1 := Lib.hid m1
  clear hfe m1 hS1 hS2 hT HF
  go_wp2_with fail
  refine (HMK w1).mono ?_
  rintro e w2 ⟨rfl, hb2⟩
  have M2 := Lib.hid (M1.out.below hb2)
  clear hb2
  go_wp2_with fail
  refine (HRS w2 A2 c2 T (M2.out.src H2.out) (by omega)).mono ?_
  rintro e w3 ⟨rfl, hb3⟩
  obtain ⟨K, hK⟩ : ∃ K, sha T = K := ⟨_, rfl⟩
  have hKl : K.length = 32 := by rw [← hK]; rfl
  rw [hK]
  have m3 := (M2.out.below hb3).new 54 Y32
  have B3 := Lib.hid (m3.blk [])
  have m4 := Mst.setRow (bl := []) [] m3 (b8a K)
  have I4 := Lib.hid (info_k hKl)
  have S4 := Lib.hid (y32_k hKl)
  have O4 := Lib.hid (b8a_one K)
  have hi := info_kL hKl
  have hu := Try.underlying54
  have c4 := (m4.drew.blk []).rangeL
  have M4 := Lib.hid m4.drew
  have HK := Lib.hid hK
  have EQ := eq32 K K hKl hKl
  rw [beq_self_eq_true] at EQ
  have L4 := Lib.hid (b8a_one K)
  clear hb3 m3 m4 hK hKl M2 M1
  go_wp2_with (first | refine wpList_store_row rfl _ _ _ rfl w3.heap.size (b8a K) rfl rfl 54 _ B3.out I4.out S4.out O4.out ?_)
  have HD1 := Lib.hid (show ∀ w', Pts w' A1 qs → Calls Try.prog 35 #[.slice A1 n c1] w' fun e w2 => e = .returned (.agg (b8a K)) ∧ Below w'.heap.size w' w2 from fun w' h => by
    have := dsum_any w' A1 c1 qs h (by have := HN.out; omega) (by rw [HT.out]; omega)
    rw [HT.out, HK.out, HN.out] at this
    exact this)
  have HD2 := Lib.hid (show ∀ w' A c, Pts w' A [⟨A2, c2, T⟩] → Calls Try.prog 35 #[.slice A 1 c] w' fun e w2 => e = .returned (.agg (b8a K)) ∧ Below w'.heap.size w' w2 from fun w' A c h => by
    have := dsum_any w' A c _ h (by simp) (by simp [catP]; omega)
    rw [show catP [⟨A2, c2, T⟩] = T by simp [catP], HK.out] at this
    exact this)
  refine wp_region_held_drew (S := fun w' => w'.rangeAt w3.heap.size 0 (b8a K).toList) (by kernel_rfl) ?_ (fun hHeld => ?_)
  · exact c4
  refine wpAnyH_ready (rs := [0]) (by kernel_rfl) (by simp) ?_
  refine AllReadyH.cons rfl (fun K hK => ?_) AllReadyH.nil
  go_simp
  refine (known01 _).mono ?_; rintro e w5 ⟨rfl, hb5⟩; have M5 := Lib.hid (M4.out.below hb5); have c5 := ra_below c4 hb5; clear hb5
  go_wp2_with fail
  refine hK.out _ _ (by first | assumption | exact ra_alloc (by assumption) _) (fun hHeld => ?_)
  clear hK K
  refine wpAnyH_take (i := 1) (v := ?_) rfl (by kernel_rfl) (by kernel_rfl) (by kernel_rfl) (fun _ _ _ h => h) (Or.inl ⟨by rfl, ?_⟩) (by assumption) ?_
  rotate_left
  · intro w hSw; go_simp; with_reducible rfl
  change wpAnyH _ _ _ _ _ _ _ (Act.put _ (some 15) _) _
  simp only [Act.put, List.setIfInBounds_toArray, List.set_cons_zero, List.set_cons_succ, Array.toArray_toList]
  refine wpAnyH_take (i := 2) (v := ?_) rfl (by kernel_rfl) (by kernel_rfl) (by kernel_rfl) (fun _ _ _ h => h) (Or.inl ⟨by rfl, ?_⟩) (by assumption) ?_
  rotate_left
  · intro w hSw; go_simp; with_reducible rfl
  change wpAnyH _ _ _ _ _ _ _ (Act.put _ (some 16) _) _
  simp only [Act.put, List.setIfInBounds_toArray, List.set_cons_zero, List.set_cons_succ, Array.toArray_toList]
  refine wpAnyH_take (i := 4) rfl (by kernel_rfl) (by kernel_rfl) (by kernel_rfl) (fun _ _ _ h => h) (yieldsIf_load_mid (by rfl) _ _ rfl _ _ rfl _ _ (fun w hw => hw) hu rfl hi) (by assumption) ?_
  change wpAnyH _ _ _ _ _ _ _ (Act.put _ (some 18) _) _
  simp only [Act.put, List.setIfInBounds_toArray, List.set_cons_zero, List.set_cons_succ, Array.toArray_toList]
  refine wpAnyH_ready (rs := [3]) (by kernel_rfl) (by simp) ?_
  refine AllReadyH.cons rfl (fun K hK => ?_) AllReadyH.nil
  go_simp
  (with_reducible refine (HD1.out _ (M5.out.pts (H1.out.sub (by simp) (fun _ h => h)))).mono ?_); rintro e w6 ⟨rfl, hb6⟩; have M6 := Lib.hid (M5.out.below hb6); have c6 := ra_below c5 hb6; clear hb6
  go_wp2_with fail
  refine hK.out _ _ (by first | assumption | exact ra_alloc (by assumption) _) (fun hHeld => ?_)
  clear hK K
  refine wpAnyH_take (i := 5) (v := ?_) rfl (by kernel_rfl) (by kernel_rfl) (by kernel_rfl) (fun _ _ _ h => h) (Or.inl ⟨by rfl, ?_⟩) (by assumption) ?_
  rotate_left
  · intro w hSw; go_simp; with_reducible rfl
  change wpAnyH _ _ _ _ _ _ _ (Act.put _ (some 19) _) _
  simp only [Act.put, List.setIfInBounds_toArray, List.set_cons_zero, List.set_cons_succ, Array.toArray_toList]
  refine wpAnyH_take (i := 6) (v := ?_) rfl (by kernel_rfl) (by kernel_rfl) (by kernel_rfl) (fun _ _ _ h => h) (Or.inl ⟨by rfl, ?_⟩) (by assumption) ?_
  rotate_left
  · intro w hSw; go_simp; with_reducible rfl
  change wpAnyH _ _ _ _ _ _ _ (Act.put _ (some 20) _) _
  simp only [Act.put, List.setIfInBounds_toArray, List.set_cons_zero, List.set_cons_succ, Array.toArray_toList]
  refine wpAnyH_take (i := 7) (v := ?_) rfl (by kernel_rfl) (by kernel_rfl) (by kernel_rfl) (fun _ _ _ h => h) (Or.inl ⟨by rfl, ?_⟩) (by assumption) ?_
  rotate_left
  · intro w hSw; go_simp; with_reducible rfl
  change wpAnyH _ _ _ _ _ _ _ (Act.put _ (some 21) _) _
  simp only [Act.put, List.setIfInBounds_toArray, List.set_cons_zero, List.set_cons_succ, Array.toArray_toList]
  refine wpAnyH_take (i := 8) (v := ?_) rfl (by kernel_rfl) (by kernel_rfl) (by kernel_rfl) (fun _ _ _ h => h) (Or.inl ⟨by rfl, ?_⟩) (by assumption) ?_
  rotate_left
  · intro w hSw; go_simp; with_reducible rfl
  change wpAnyH _ _ _ _ _ _ _ (Act.put _ (some 22) _) _
  simp only [Act.put, List.setIfInBounds_toArray, List.set_cons_zero, List.set_cons_succ, Array.toArray_toList]
  refine wpAnyH_take (i := 11) rfl (by kernel_rfl) (by kernel_rfl) (by kernel_rfl) (fun _ _ _ h => h) (yieldsIf_load_mid (by rfl) _ _ rfl _ _ rfl _ _ (fun w hw => hw) hu rfl hi) (by assumption) ?_
  change wpAnyH _ _ _ _ _ _ _ (Act.put _ (some 25) _) _
  simp only [Act.put, List.setIfInBounds_toArray, List.set_cons_zero, List.set_cons_succ, Array.toArray_toList]
  refine wpAnyH_ready (rs := [9]) (by kernel_rfl) (by simp) ?_
  refine AllReadyH.cons rfl (fun K hK => ?_) AllReadyH.nil
  go_simp
  refine hK.out _ _ (by first | assumption | exact ra_alloc (by assumption) _) (fun hHeld => ?_)
  clear hK K
  refine wpAnyH_ready (rs := [10]) (by kernel_rfl) (by simp) ?_
  refine AllReadyH.cons rfl (fun K hK => ?_) AllReadyH.nil
  go_simp
  (with_reducible refine (HD2.out _ _ _ (M6.out.one (H2.out.sub (by simp) (fun _ h => h)) c2).2).mono ?_); rintro e w7 ⟨rfl, hb7⟩; have M7 := Lib.hid ((M6.out.one (H2.out.sub (by simp) (fun _ h => h)) c2).1.below hb7); have c7 := ra_below (ra_alloc c6 _) hb7; clear hb7
  go_wp2_with fail
  refine hK.out _ _ (by first | assumption | exact ra_alloc (by assumption) _) (fun hHeld => ?_)
  clear hK K
  refine wpAnyH_take (i := 12) (v := ?_) rfl (by kernel_rfl) (by kernel_rfl) (by kernel_rfl) (fun _ _ _ h => h) (Or.inl ⟨by rfl, ?_⟩) (by assumption) ?_
  rotate_left
  · intro w hSw; go_simp; with_reducible rfl
  change wpAnyH _ _ _ _ _ _ _ (Act.put _ (some 26) _) _
  simp only [Act.put, List.setIfInBounds_toArray, List.set_cons_zero, List.set_cons_succ, Array.toArray_toList]
  refine wpAnyH_take (i := 13) (v := ?_) rfl (by kernel_rfl) (by kernel_rfl) (by kernel_rfl) (fun _ _ _ h => h) (Or.inl ⟨by rfl, ?_⟩) (by assumption) ?_
  rotate_left
  · intro w hSw; go_simp; with_reducible rfl
  change wpAnyH _ _ _ _ _ _ _ (Act.put _ (some 27) _) _
  simp only [Act.put, List.setIfInBounds_toArray, List.set_cons_zero, List.set_cons_succ, Array.toArray_toList]
  refine wpAnyH_take (i := 14) (v := ?_) rfl (by kernel_rfl) (by kernel_rfl) (by kernel_rfl) (fun _ _ _ h => h) (Or.inl ⟨by rfl, ?_⟩) (by assumption) ?_
  rotate_left
  · intro w hSw; go_simp; with_reducible rfl
  change wpAnyH _ _ _ _ _ _ _ (Act.put _ (some 2) _) _
  simp only [Act.put, List.setIfInBounds_toArray, List.set_cons_zero, List.set_cons_succ, Array.toArray_toList]
  refine wpAnyH_done (by kernel_rfl) ?_ _
  go_wp2
  go_ret
  exact ⟨rfl, M7.out.bel⟩

theorem contract_digestSums (W : World) (v0 : Value) (a0 : ∃ A c, ∃ rows : List Rw, v0 = .slice A rows.length c ∧ rows.length ≤ c ∧ c ≤ maxLen ∧ Rd W W.heap.size 1 A rows.length (rows.map Rw.v) ∧ ∀ x ∈ rows, x.ok .u8 W) :
    Calls Try.prog 4 #[v0] W fun e W' => e = .returned (.bool true) ∧ Below W.heap.size W W' := by
  obtain ⟨A, c, rows, rfl, h1, h2, h3, h4⟩ := a0
  obtain ⟨ps, e1, e2, e3⟩ := rows_pt rows h4
  rw [← e1, ← e2] at h3
  rw [← e2] at h1 ⊢
  exact digestSums_main W A c ps h3 e3 (by unfold maxLen at h2; omega)
end Go.Proofs.Ythnaobolmgcclaa
