/-
  vigillaw02.MacTags returns true, whatever it is called with. Conditions: none but that the arguments are slices that can be read.
-/
import Derived.Test.YthnaobolmgcclaaMacEquals
import Derived.Test.YthnaobolmgcclaaFew2
import Derived.Test.YthnaobolmgcclaaOpen2
namespace Go.Proofs.Ythnaobolmgcclaa
set_option linter.unusedVariables false
set_option linter.unusedSimpArgs false
open Go.RowKit

theorem few2_cat {ps : List Pt} : (catP (fewP 8 60 ps)).length ≤ 480 := by
  have h1 := catP_len_le (N := 60) (ps := fewP 8 60 ps) (fewP_le 8 60 ps)
  have h2 : (fewP 8 60 ps).length ≤ 8 := by rw [fewP_len]; omega
  omega
set_option maxRecDepth 100000 in
set_option maxHeartbeats 1600000 in
theorem macTags_main (W : World) (A B C : Option Addr) (c d f : Nat) (l t : List UInt8) (ps : List Pt) (hr : RB W W.heap.size A l) (hc : l.length ≤ c ∧ c ≤ 9223372036854775807)
    (hp : Rd W W.heap.size 1 B ps.length (ps.map Pt.v)) (hpc : ∀ p ∈ ps, RB W W.heap.size p.A p.l ∧ p.l.length ≤ p.c ∧ p.c ≤ 9223372036854775807) (hpn : ps.length ≤ 9223372036854775807)
    (hr' : RB W W.heap.size C t) (hd : t.length ≤ f ∧ f ≤ 9223372036854775807) :
    Calls Try.prog 9 #[.slice A l.length c, .slice B ps.length d, .slice C t.length f] W fun e W' => e = .returned (.bool true) ∧ Below W.heap.size W W' := by
  obtain ⟨N, hN⟩ : ∃ N, l.length = N := ⟨_, rfl⟩
  obtain ⟨M, hM⟩ : ∃ M, t.length = M := ⟨_, rfl⟩
  rw [hN] at hc ⊢
  rw [hM] at hd ⊢
  obtain ⟨hc1, hc2⟩ := hc
  obtain ⟨hd1, hd2⟩ := hd
  have hr2 := hr.cut 150
  have hr3 := hr'.cut 40
  obtain ⟨n, hn, n2, n1⟩ := cut_n N 150
  obtain ⟨m, hm, m2, m1⟩ := cut_n M 40
  obtain ⟨l', hl'⟩ : ∃ l', l.take 150 = l' := ⟨_, rfl⟩
  obtain ⟨t', ht'⟩ : ∃ l', t.take 40 = l' := ⟨_, rfl⟩
  have hln : l'.length = n := by rw [← hl', List.length_take]; omega
  have htn : t'.length = m := by rw [← ht', List.length_take]; omega
  rw [hl'] at hr2
  rw [ht'] at hr3
  have hmin1 : min (N : Int) 150 = n := hn.symm
  have hmin2 : min (M : Int) 40 = m := hm.symm
  have n4 : (0 : Int) ≤ n := by omega
  have m4 : (0 : Int) ≤ m := by omega
  have n5 : (n : Int) ≤ c := by omega
  have m5 : (m : Int) ≤ f := by omega
  have HLN := Lib.hid hln
  have HTN := Lib.hid htn
  have R1 := Lib.hid (show Rd W W.heap.size 1 A n (by8 l') from by rw [← hln]; exact hr2)
  have R2 := Lib.hid (show Rd W W.heap.size 1 C m (by8 t') from by rw [← htn]; exact hr3)
  have HF := Lib.hid (show ∀ w', Below W.heap.size W w' → Calls Try.prog 49 #[.slice B ps.length d] w' fun e w2 => ∃ v1 v2, e = .returned (.tuple #[v1, v2]) ∧ FeR w' w2 (fewP 8 60 ps) (fewP 8 60 ps).length v1 v2 from fun w' hb => few2_any w' B d ps ⟨(hp.below hb).more hb.size, fun p h => ((hpc p h).1.below hb).more hb.size⟩ (fun p h => (hpc p h).2) hpn)
  have hq := fewP_old (M := 8) (N := 60) fun p h => (hpc p h).1
  have hlen : (fewP 8 60 ps).length ≤ 8 := by rw [fewP_len]; omega
  have hcl := few2_cat (ps := ps)
  obtain ⟨qs, hqs⟩ : ∃ q, fewP 8 60 ps = q := ⟨_, rfl⟩
  rw [hqs] at HF hq hlen hcl
  have HQ := Lib.hid hq
  obtain ⟨g, hG⟩ : ∃ n, qs.length = n := ⟨_, rfl⟩
  rw [hG] at HF hlen
  have HG := Lib.hid hG
  obtain ⟨pn, hPN⟩ : ∃ n, ps.length = n := ⟨_, rfl⟩
  rw [hPN] at HF ⊢
  obtain ⟨KT, hKT⟩ := rsum_ex
  have HKT := Lib.hid hKT
  have HMK := Lib.hid hKT.make
  clear hr hr' hr2 hr3 hln htn hl' ht' hn hm hp hpc hpn hq hqs hPN hKT hG
  go_enter Try.func9, Try.ntmps9
  go_wp2_with fail
  go_quiet (fail)
  have M0 := Lib.hid ((Mst.start W).drewN nq)
  generalize World.drewN _ _ = w0 at M0 ⊢
  clear hmin1 hmin2
  go_wp2_with fail
  refine (HF.out _ M0.out.bel).mono ?_
  rintro e w1 ⟨v1, v2, rfl, hfe⟩
  have hq1 : ∀ q ∈ qs, RB w0 w0.heap.size q.A q.l := fun q h => ((HQ.out q h).below M0.out.bel).more M0.out.bel.size
  obtain ⟨A1, c1, A2, c2, ow, rfl, rfl, m1', hS1, hS2⟩ := fe_open HG.out hfe hq1
  obtain ⟨T, hT⟩ : ∃ T, catP qs = T := ⟨_, rfl⟩
  rw [hT] at hS2 hcl ⊢
  obtain ⟨TL, hTL⟩ : ∃ n, T.length = n := ⟨_, rfl⟩
  rw [hTL] at hS2 hcl ⊢
  have H1 := Lib.hid hS1
  have H2 := Lib.hid hS2
  have HT := Lib.hid hT
  have HTL := Lib.hid hTL
  have Mq := Lib.hid m1'
  have R1 := Lib.hid ((R1.out.below M0.out.bel).more M0.out.bel.size)
  have R2 := Lib.hid ((R2.out.below M0.out.bel).more M0.out.bel.size)
  have HB0 := Lib.hid M0.out.bel
  clear hfe m1' hS1 hS2 hT hTL HF M0 hq1
  go_wp2_with fail
  refine (HMK.out _).mono ?_
  rintro e w2 ⟨rfl, hb⟩
  have Mq := Lib.hid (Mq.out.below hb)
  clear hb
  obtain ⟨K, hK⟩ : ∃ K, macT l' T = K := ⟨_, rfl⟩
  have hKl : K.length = 32 := by rw [← hK]; rfl
  have HK := Lib.hid hK
  have HKL := Lib.hid hKl
  have HRT := Lib.hid (show ∀ w', Rd w' w'.heap.size 1 A n (by8 l') → Rd w' w'.heap.size 1 A2 TL (by8 T) → Calls Try.prog 50 #[.agg KT, .slice A n c, .slice A2 TL c2] w' fun e w2 => e = .returned (.agg (b8a K)) ∧ Below w'.heap.size w' w2 from fun w' h1 h2 => by
    have := reftag_any KT HKT.out w' A c l' (by unfold RB; rw [HLN.out]; exact h1) (by rw [HLN.out]; omega) A2 c2 T (by unfold RB; rw [HTL.out]; exact h2) (by rw [HTL.out]; omega)
    rw [HLN.out, HTL.out, hK] at this
    exact this)
  have HMT := Lib.hid (show ∀ w', Rd w' w'.heap.size 1 A n (by8 l') → Pts w' A1 qs → Calls Try.prog 51 #[.slice A n c, .slice A1 g c1] w' fun e w2 => e = .returned (.agg (b8a K)) ∧ Below w'.heap.size w' w2 from fun w' h1 h2 => by
    have := mtag_any w' A c l' (by unfold RB; rw [HLN.out]; exact h1) (by rw [HLN.out]; omega) A1 c1 qs h2 (by rw [HG.out]; omega) (by rw [HT.out, HTL.out]; omega)
    rw [HLN.out, HG.out, HT.out, hK] at this
    exact this)
  have HCK := Lib.hid (show ∀ w' At ct tag tn, tag.length = tn → tn ≤ 100 → Rd w' w'.heap.size 1 A n (by8 l') → Rd w' w'.heap.size 1 At tn (by8 tag) → Pts w' A1 qs → Calls Try.prog 52 #[.slice A n c, .slice At tn ct, .slice A1 g c1] w' fun e w2 => e = .returned (.bool (decide (tag = K))) ∧ Below w'.heap.size w' w2 from fun w' At ct tag tn htn htn2 h1 h3 h2 => by
    subst htn
    have := check_any w' A c l' (by unfold RB; rw [HLN.out]; exact h1) (by rw [HLN.out]; omega) At ct tag h3 (by omega) A1 c1 qs h2 (by rw [HG.out]; omega) (by rw [HT.out, HTL.out]; omega)
    rw [HLN.out, HG.out, HT.out, hK] at this
    exact this)
  have HSM := Lib.hid (show ∀ w' At ct, Rd w' w'.heap.size 1 C m (by8 t') → Rd w' w'.heap.size 1 At 32 (by8 K) → Calls Try.prog 25 #[.slice C m f, .slice At 32 ct] w' fun e w2 => e = .returned (.bool (decide (t' = K))) ∧ Below w'.heap.size w' w2 from fun w' At ct h1 h2 => by
    have := same_any C At f ct t' K w' (by unfold RB; rw [HTN.out]; exact h1) (by unfold RB; rw [hKl]; exact h2) (by rw [HTN.out]; unfold maxLen; omega)
    rw [HTN.out, hKl] at this
    exact this)
  go_wp2_with fail
  refine (HRT.out _ (Mq.out.src (Src.old R1.out)) (Mq.out.src H2.out)).mono ?_
  rintro e w3 ⟨rfl, hb⟩
  have Mq := Lib.hid (Mq.out.below hb)
  have hi := info_kL hKl
  have hu := Try.underlying54
  have EQ := eq32 K K hKl hKl
  rw [beq_self_eq_true] at EQ
  have Mq := Lib.hid (Mq.out.arr32 K)
  obtain ⟨D, hD⟩ : ∃ D, decide (t' = K) = D := ⟨_, rfl⟩
  have hDD : (D == D) = true := beq_self_eq_true D
  have hKK := decide_eq_true (rfl : K = K)
  have HCK2 := Lib.hid (HCK.out · · · K 32 hKl (by decide))
  have HCK3 := Lib.hid (HCK.out · C f t' m HTN.out (by omega))
  rw [hKK] at HCK2
  rw [hD] at HCK3 HSM
  clear hb hK hKl hKK hD HCK
  go_wp2_with (first | refine wpList_store_row rfl _ _ _ rfl w3.heap.size (b8a K) rfl rfl 54 _ (Bk.mk_ _ _ _) (info_k HKL.out) (y32_k HKL.out) (b8a_one K) ?_)
  obtain ⟨g9, hg9⟩ : ∃ g, w3.heap.size = g := ⟨_, rfl⟩
  rw [hg9] at Mq ⊢
  generalize World.setRow _ _ _ = w4 at Mq ⊢
  have Mq := Lib.hid Mq.out.drew
  have k0 := (Mq.out.blk []).rangeL
  clear hg9
  refine wp_region_held_drew (S := fun w' => w'.rangeAt g9 0 (b8a K).toList) (by kernel_rfl) ?_ (fun hHeld => ?_)
  · exact k0
  generalize World.drew w4 = w5 at Mq hHeld ⊢
  refine wpAnyH_ready (rs := [0]) (by kernel_rfl) (by simp) ?_
  refine (AllReadyH.cons rfl (fun K hK => ?_) AllReadyH.nil)
  go_simp
  (with_reducible refine (known02 _).mono ?_); rintro e wq ⟨rfl, hb⟩; have Mq := Lib.hid (Mq.out.below hb); clear hb
  go_wp2_with fail
  refine hK.out _ _ (by exact (Mq.out.blk []).rangeL) (fun hHeld => ?_)
  clear hK K
  refine wpAnyH_take (i := 1) (v := ?_) rfl (by kernel_rfl) (by kernel_rfl) (by kernel_rfl) (fun _ _ _ h => h) (Or.inl ⟨by rfl, ?_⟩) (by assumption) ?_
  rotate_left
  · intro w hSw; (try dsimp only at hSw); go_split_ands; go_simp; with_reducible rfl
  change wpAnyH _ _ _ _ _ _ _ (Act.put _ (some 30) _) _
  simp only [Act.put, List.setIfInBounds_toArray, List.set_cons_zero, List.set_cons_succ, Array.toArray_toList]
  refine wpAnyH_take (i := 2) (v := ?_) rfl (by kernel_rfl) (by kernel_rfl) (by kernel_rfl) (fun _ _ _ h => h) (Or.inl ⟨by rfl, ?_⟩) (by assumption) ?_
  rotate_left
  · intro w hSw; (try dsimp only at hSw); go_split_ands; go_simp; with_reducible rfl
  change wpAnyH _ _ _ _ _ _ _ (Act.put _ (some 31) _) _
  simp only [Act.put, List.setIfInBounds_toArray, List.set_cons_zero, List.set_cons_succ, Array.toArray_toList]
  refine wpAnyH_take (i := 3) (v := ?_) rfl (by kernel_rfl) (by kernel_rfl) (by kernel_rfl) (fun _ _ _ h => h) (Or.inl ⟨by rfl, ?_⟩) (by assumption) ?_
  rotate_left
  · intro w hSw; (try dsimp only at hSw); go_split_ands; go_simp; with_reducible rfl
  change wpAnyH _ _ _ _ _ _ _ (Act.put _ (some 32) _) _
  simp only [Act.put, List.setIfInBounds_toArray, List.set_cons_zero, List.set_cons_succ, Array.toArray_toList]
  refine wpAnyH_take (i := 5) rfl (by kernel_rfl) (by kernel_rfl) (by kernel_rfl) (fun _ _ _ h => h) (yieldsIf_load_mid (by rfl) _ _ rfl _ _ rfl _ _ (fun w hw => hw) hu rfl hi) (by assumption) ?_
  change wpAnyH _ _ _ _ _ _ _ (Act.put _ (some 34) _) _
  simp only [Act.put, List.setIfInBounds_toArray, List.set_cons_zero, List.set_cons_succ, Array.toArray_toList]
  refine wpAnyH_ready (rs := [4]) (by kernel_rfl) (by simp) ?_
  refine (AllReadyH.cons rfl (fun K hK => ?_) AllReadyH.nil)
  go_simp
  (with_reducible refine (HMT.out _ (Mq.out.src (Src.old R1.out)) (Mq.out.pts (H1.out.sub (fun _ h => absurd h List.not_mem_nil) (fun _ h => h)))).mono ?_); rintro e wq ⟨rfl, hb⟩; have Mq := Lib.hid (Mq.out.below hb); clear hb
  go_wp2_with fail
  refine hK.out _ _ (by exact (Mq.out.blk []).rangeL) (fun hHeld => ?_)
  clear hK K
  refine wpAnyH_take (i := 6) (v := ?_) rfl (by kernel_rfl) (by kernel_rfl) (by kernel_rfl) (fun _ _ _ h => h) (Or.inl ⟨by rfl, ?_⟩) (by assumption) ?_
  rotate_left
  · intro w hSw; (try dsimp only at hSw); go_split_ands; go_simp; with_reducible rfl
  change wpAnyH _ _ _ _ _ _ _ (Act.put _ (some 35) _) _
  simp only [Act.put, List.setIfInBounds_toArray, List.set_cons_zero, List.set_cons_succ, Array.toArray_toList]
  refine wpAnyH_take (i := 7) (v := ?_) rfl (by kernel_rfl) (by kernel_rfl) (by kernel_rfl) (fun _ _ _ h => h) (Or.inl ⟨by rfl, ?_⟩) (by assumption) ?_
  rotate_left
  · intro w hSw; (try dsimp only at hSw); go_split_ands; go_simp; with_reducible rfl
  change wpAnyH _ _ _ _ _ _ _ (Act.put _ (some 36) _) _
  simp only [Act.put, List.setIfInBounds_toArray, List.set_cons_zero, List.set_cons_succ, Array.toArray_toList]
  refine wpAnyH_take (i := 8) (v := ?_) rfl (by kernel_rfl) (by kernel_rfl) (by kernel_rfl) (fun _ _ _ h => h) (Or.inl ⟨by rfl, ?_⟩) (by assumption) ?_
  rotate_left
  · intro w hSw; (try dsimp only at hSw); go_split_ands; go_simp; with_reducible rfl
  change wpAnyH _ _ _ _ _ _ _ (Act.put _ (some 37) _) _
  simp only [Act.put, List.setIfInBounds_toArray, List.set_cons_zero, List.set_cons_succ, Array.toArray_toList]
  refine wpAnyH_take (i := 9) (v := ?_) rfl (by kernel_rfl) (by kernel_rfl) (by kernel_rfl) (fun _ _ _ h => h) (Or.inl ⟨by rfl, ?_⟩) (by assumption) ?_
  rotate_left
  · intro w hSw; (try dsimp only at hSw); go_split_ands; go_simp; with_reducible rfl
  change wpAnyH _ _ _ _ _ _ _ (Act.put _ (some 38) _) _
  simp only [Act.put, List.setIfInBounds_toArray, List.set_cons_zero, List.set_cons_succ, Array.toArray_toList]
  refine wpAnyH_take (i := 10) (v := ?_) rfl (by kernel_rfl) (by kernel_rfl) (by kernel_rfl) (fun _ _ _ h => h) (Or.inl ⟨by rfl, ?_⟩) (by assumption) ?_
  rotate_left
  · intro w hSw; (try dsimp only at hSw); go_split_ands; go_simp; with_reducible rfl
  change wpAnyH _ _ _ _ _ _ _ (Act.put _ (some 39) _) _
  simp only [Act.put, List.setIfInBounds_toArray, List.set_cons_zero, List.set_cons_succ, Array.toArray_toList]
  refine wpAnyH_take (i := 11) (v := ?_) rfl (by kernel_rfl) (by kernel_rfl) (by kernel_rfl) (fun _ _ _ h => h) (Or.inl ⟨by rfl, ?_⟩) (by assumption) ?_
  rotate_left
  · intro w hSw; (try dsimp only at hSw); go_split_ands; go_simp; with_reducible rfl
  change wpAnyH _ _ _ _ _ _ _ (Act.put _ (some 40) _) _
  simp only [Act.put, List.setIfInBounds_toArray, List.set_cons_zero, List.set_cons_succ, Array.toArray_toList]
  refine wpAnyH_ready (rs := [12]) (by kernel_rfl) (by simp) ?_
  refine (AllReadyH.cons rfl (fun K hK => ?_) AllReadyH.nil)
  go_simp
  (with_reducible refine (HCK2.out _ _ _ (Mq.out.src (Src.old R1.out)) (Mq.out.src (Src.arr (List.mem_cons_self ..) HKL.out)) (Mq.out.pts (H1.out.sub (fun _ h => absurd h List.not_mem_nil) (fun _ h => h)))).mono ?_); rintro e wq ⟨rfl, hb⟩; have Mq := Lib.hid (Mq.out.below hb); clear hb
  go_wp2_with fail
  refine hK.out _ _ (by exact (Mq.out.blk []).rangeL) (fun hHeld => ?_)
  clear hK K
  refine wpAnyH_take (i := 13) (v := ?_) rfl (by kernel_rfl) (by kernel_rfl) (by kernel_rfl) (fun _ _ _ h => h) (Or.inl ⟨by rfl, ?_⟩) (by assumption) ?_
  rotate_left
  · intro w hSw; (try dsimp only at hSw); go_split_ands; go_simp; with_reducible rfl
  change wpAnyH _ _ _ _ _ _ _ (Act.put _ (some 42) _) _
  simp only [Act.put, List.setIfInBounds_toArray, List.set_cons_zero, List.set_cons_succ, Array.toArray_toList]
  refine wpAnyH_take (i := 14) (v := ?_) rfl (by kernel_rfl) (by kernel_rfl) (by kernel_rfl) (fun _ _ _ h => h) (Or.inl ⟨by rfl, ?_⟩) (by assumption) ?_
  rotate_left
  · intro w hSw; (try dsimp only at hSw); go_split_ands; go_simp; with_reducible rfl
  change wpAnyH _ _ _ _ _ _ _ (Act.put _ (some 43) _) _
  simp only [Act.put, List.setIfInBounds_toArray, List.set_cons_zero, List.set_cons_succ, Array.toArray_toList]
  refine wpAnyH_take (i := 15) (v := ?_) rfl (by kernel_rfl) (by kernel_rfl) (by kernel_rfl) (fun _ _ _ h => h) (Or.inl ⟨by rfl, ?_⟩) (by assumption) ?_
  rotate_left
  · intro w hSw; (try dsimp only at hSw); go_split_ands; go_simp; with_reducible rfl
  change wpAnyH _ _ _ _ _ _ _ (Act.put _ (some 44) _) _
  simp only [Act.put, List.setIfInBounds_toArray, List.set_cons_zero, List.set_cons_succ, Array.toArray_toList]
  refine wpAnyH_take (i := 16) (v := ?_) rfl (by kernel_rfl) (by kernel_rfl) (by kernel_rfl) (fun _ _ _ h => h) (Or.inl ⟨by rfl, ?_⟩) (by assumption) ?_
  rotate_left
  · intro w hSw; (try dsimp only at hSw); go_split_ands; go_simp; with_reducible rfl
  change wpAnyH _ _ _ _ _ _ _ (Act.put _ (some 45) _) _
  simp only [Act.put, List.setIfInBounds_toArray, List.set_cons_zero, List.set_cons_succ, Array.toArray_toList]
  refine wpAnyH_take (i := 17) (v := ?_) rfl (by kernel_rfl) (by kernel_rfl) (by kernel_rfl) (fun _ _ _ h => h) (Or.inl ⟨by rfl, ?_⟩) (by assumption) ?_
  rotate_left
  · intro w hSw; (try dsimp only at hSw); go_split_ands; go_simp; with_reducible rfl
  change wpAnyH _ _ _ _ _ _ _ (Act.put _ (some 46) _) _
  simp only [Act.put, List.setIfInBounds_toArray, List.set_cons_zero, List.set_cons_succ, Array.toArray_toList]
  refine wpAnyH_take (i := 19) (v := ?_) rfl (by kernel_rfl) (by kernel_rfl) (by kernel_rfl) (fun _ _ _ h => h) (Or.inl ⟨by rfl, ?_⟩) (by assumption) ?_
  rotate_left
  · intro w hSw; (try dsimp only at hSw); go_split_ands; go_simp; with_reducible rfl
  change wpAnyH _ _ _ _ _ _ _ (Act.put _ (some 48) _) _
  simp only [Act.put, List.setIfInBounds_toArray, List.set_cons_zero, List.set_cons_succ, Array.toArray_toList]
  refine wpAnyH_take (i := 20) (v := ?_) rfl (by kernel_rfl) (by kernel_rfl) (by kernel_rfl) (fun _ _ _ h => h) (Or.inl ⟨by rfl, ?_⟩) (by assumption) ?_
  rotate_left
  · intro w hSw; (try dsimp only at hSw); go_split_ands; go_simp; with_reducible rfl
  change wpAnyH _ _ _ _ _ _ _ (Act.put _ (some 49) _) _
  simp only [Act.put, List.setIfInBounds_toArray, List.set_cons_zero, List.set_cons_succ, Array.toArray_toList]
  refine wpAnyH_ready (rs := [18]) (by kernel_rfl) (by simp) ?_
  refine (AllReadyH.cons rfl (fun K hK => ?_) AllReadyH.nil)
  go_simp
  (with_reducible refine (HCK3.out _ (Mq.out.src (Src.old R1.out)) (Mq.out.src (Src.old R2.out)) (Mq.out.pts (H1.out.sub (fun _ h => absurd h List.not_mem_nil) (fun _ h => h)))).mono ?_); rintro e wq ⟨rfl, hb⟩; have Mq := Lib.hid (Mq.out.below hb); clear hb
  go_wp2_with fail
  refine hK.out _ _ (by exact (Mq.out.blk []).rangeL) (fun hHeld => ?_)
  clear hK K
  refine wpAnyH_ready (rs := [21]) (by kernel_rfl) (by simp) ?_
  refine (AllReadyH.cons rfl (fun K hK => ?_) AllReadyH.nil)
  go_simp
  (with_reducible refine (HSM.out _ _ _ (Mq.out.src (Src.old R2.out)) (Mq.out.src (Src.arr (List.mem_cons_self ..) HKL.out))).mono ?_); rintro e wq ⟨rfl, hb⟩; have Mq := Lib.hid (Mq.out.below hb); clear hb
  go_wp2_with fail
  refine hK.out _ _ (by exact (Mq.out.blk []).rangeL) (fun hHeld => ?_)
  clear hK K
  refine wpAnyH_take (i := 22) (v := ?_) rfl (by kernel_rfl) (by kernel_rfl) (by kernel_rfl) (fun _ _ _ h => h) (Or.inl ⟨by rfl, ?_⟩) (by assumption) ?_
  rotate_left
  · intro w hSw; (try dsimp only at hSw); go_split_ands; go_simp; with_reducible rfl
  change wpAnyH _ _ _ _ _ _ _ (Act.put _ (some 51) _) _
  simp only [Act.put, List.setIfInBounds_toArray, List.set_cons_zero, List.set_cons_succ, Array.toArray_toList]
  refine wpAnyH_take (i := 23) (v := ?_) rfl (by kernel_rfl) (by kernel_rfl) (by kernel_rfl) (fun _ _ _ h => h) (Or.inl ⟨by rfl, ?_⟩) (by assumption) ?_
  rotate_left
  · intro w hSw; (try dsimp only at hSw); go_split_ands; go_simp; with_reducible rfl
  change wpAnyH _ _ _ _ _ _ _ (Act.put _ (some 52) _) _
  simp only [Act.put, List.setIfInBounds_toArray, List.set_cons_zero, List.set_cons_succ, Array.toArray_toList]
  refine wpAnyH_take (i := 24) (v := ?_) rfl (by kernel_rfl) (by kernel_rfl) (by kernel_rfl) (fun _ _ _ h => h) (Or.inl ⟨by rfl, ?_⟩) (by assumption) ?_
  rotate_left
  · intro w hSw; (try dsimp only at hSw); go_split_ands; go_simp; with_reducible rfl
  change wpAnyH _ _ _ _ _ _ _ (Act.put _ (some 6) _) _
  simp only [Act.put, List.setIfInBounds_toArray, List.set_cons_zero, List.set_cons_succ, Array.toArray_toList]
  refine wpAnyH_done (by kernel_rfl) ?_ _
  go_wp2
  go_ret
  exact ⟨rfl, Bsz HB0.out Mq.out.bel⟩
theorem contract_macTags (W : World) (v0 v1 v2 : Value) (a0 : ∃ r : Rw, v0 = r.v ∧ r.ok .u8 W) (a1 : ∃ A c, ∃ rows : List Rw, v1 = .slice A rows.length c ∧ rows.length ≤ c ∧ c ≤ maxLen ∧ Rd W W.heap.size 1 A rows.length (rows.map Rw.v) ∧ ∀ x ∈ rows, x.ok .u8 W) (a2 : ∃ r : Rw, v2 = r.v ∧ r.ok .u8 W) :
    Calls Try.prog 9 #[v0, v1, v2] W fun e W' => e = .returned (.bool true) ∧ Below W.heap.size W W' := by
  obtain ⟨r, rfl, hr⟩ := a0
  obtain ⟨s, rfl, hs⟩ := a2
  obtain ⟨A, c, rows, rfl, h1, h2, h3, h4⟩ := a1
  obtain ⟨ps, e1, e2, e3⟩ := rows_pt rows h4
  rw [← e1, ← e2] at h3
  rw [← e2] at h1 ⊢
  obtain ⟨l, e, g1, g2, g3⟩ := rw_pt hr
  obtain ⟨k, e', g1', g2', g3'⟩ := rw_pt hs
  rw [e, e']
  exact macTags_main W r.A A s.A r.c c s.c l k ps g1 ⟨g2, g3⟩ h3 e3 (by unfold maxLen at h2; omega) g1' ⟨g2', g3'⟩
end Go.Proofs.Ythnaobolmgcclaa
