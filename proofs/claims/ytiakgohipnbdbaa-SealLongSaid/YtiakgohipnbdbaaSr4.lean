/- The document's seal: contract of Seal. -/
import Derived.Test.YtiakgohipnbdbaaSr3
namespace Go.Proofs.Ytiakgohipnbdbaa
set_option linter.unusedVariables false
set_option linter.unusedSimpArgs false
open Go.RowKit

/-- What a call hands back, beside the memory of the caller. -/
theorem Mst.retb {W w w' : World} {bl : Bl} {ow : List Ro} {A : Option Addr} {n : Nat} {l : List UInt8} (h : Mst W w bl ow) (hb : Below w.heap.size w w') (hn : NewB w w' A l) (hl : l.length = n) : ∃ xb, Mst W w' (xb ++ bl) ow ∧ Src W (xb ++ bl) ow 1 A n (by8 l) := by
  subst hl
  exact h.newb hb hn

set_option maxRecDepth 100000 in
set_option maxHeartbeats 1600000 in
theorem refseal_any (KT : Array Value) (hKT : RSum KT) (w : World) (Ak : Option Addr) (ck : Nat) (key : List UInt8) (hk : RB w w.heap.size Ak key) (hkl : key.length ≤ 1000) (A : Option Addr) (c : Nat) (nc : List UInt8) (hr : RB w w.heap.size A nc) (hn : nc.length ≤ 32)
    (Ad : Option Addr) (cd : Nat) (bd : List UInt8) (hrd : RB w w.heap.size Ad bd) (hnd : bd.length ≤ 1000) (Ab : Option Addr) (cb : Nat) (b : List UInt8) (hrb : RB w w.heap.size Ab b) (hnb : b.length ≤ 1000) :
    Calls Try.prog 46 #[.agg KT, .slice Ak key.length ck, .slice A nc.length c, .slice Ad bd.length cd, .slice Ab b.length cb] w (RetB w (b.length + 32) (sealB key nc bd b)) := by
  have HS := Lib.hid (show ∀ w', Below w.heap.size w w' → _ from fun w' hb => refstream_any KT hKT w' Ak ck key (hk.keep hb) hkl A c nc (hr.keep hb) hn b.length (by omega))
  have HTU := Lib.hid (show ∀ w' A' c', Below w.heap.size w w' → RB w' w'.heap.size A' (strB (hideK key) nc b.length) → Calls Try.prog 73 #[.slice Ab b.length cb, .slice A' b.length c'] w' (RetB w' b.length (bodyB key nc b)) from fun w' A' c' hb h => by
    have := refturned_any w' Ab cb b (hrb.keep hb) A' c' _ h (by rw [strB_len]; exact Nat.le_refl _) (by omega)
    rw [strB_len] at this
    exact this)
  have hbl := bodyB_len key nc b
  have hsl := strB_len (hideK key) nc b.length
  obtain ⟨ST, hST⟩ : ∃ l, strB (hideK key) nc b.length = l := ⟨_, rfl⟩
  have hSE : sealB key nc bd b = bodyB key nc b ++ sTag key nc bd (bodyB key nc b) := rfl
  obtain ⟨SE, hSE2⟩ : ∃ l, sealB key nc bd b = l := ⟨_, rfl⟩
  have hSEL : SE.length = b.length + 32 := by rw [← hSE2]; exact sealB_len _ _ _ _
  rw [hSE2] at hSE ⊢
  obtain ⟨B, hB⟩ : ∃ l, bodyB key nc b = l := ⟨_, rfl⟩
  rw [hB] at hbl hSE HTU
  rw [hST] at HS HTU hsl
  obtain ⟨T, hT⟩ : ∃ l, sTag key nc bd B = l := ⟨_, rfl⟩
  have hTl : T.length = 32 := by rw [← hT]; rfl
  rw [hT] at hSE
  obtain ⟨n, hNb⟩ : ∃ n, b.length = n := ⟨_, rfl⟩
  have HTG := Lib.hid (show ∀ w' Av cv, Below w.heap.size w w' → Rd w' w'.heap.size 1 Av n (by8 B) → Calls Try.prog 72 #[.agg KT, .slice Ak key.length ck, .slice A nc.length c, .slice Ad bd.length cd, .slice Av n cv] w' fun e w2 => e = .returned (.agg (b8a T)) ∧ Below w'.heap.size w' w2 from fun w' Av cv hb h => by
    have := reftag3_any KT hKT w' Ak ck key (hk.keep hb) hkl A c nc (hr.keep hb) (by omega) Ad cd bd (hrd.keep hb) hnd Av cv B (by unfold RB; rw [hbl, hNb]; exact h) (by omega)
    rw [hT, hbl, hNb] at this
    exact this)
  rw [hNb] at HS HTU hbl hnb hSEL hsl ⊢
  obtain ⟨N, hN⟩ : ∃ n, nc.length = n := ⟨_, rfl⟩
  obtain ⟨D, hD⟩ : ∃ n, bd.length = n := ⟨_, rfl⟩
  obtain ⟨KN, hKN⟩ : ∃ n, key.length = n := ⟨_, rfl⟩
  rw [hN] at HS HTG ⊢
  rw [hD] at HTG ⊢
  rw [hKN] at HS HTG ⊢
  have HSE := Lib.hid hSE
  have HTL := Lib.hid hTl
  have HBL := Lib.hid hbl
  have HSL := Lib.hid hsl
  have HSEL := Lib.hid hSEL
  have hu : ∃ d, Try.prog.underlying 61 = some d ∧ d.isRow = true := ⟨_, Try.underlying61, rfl⟩
  obtain ⟨d, hu, hd⟩ := hu
  have hki := hKT.infL
  have hki2 := hKT.inf
  have m1 := (Mst.start w).new 61 KT
  have Mq := Lib.hid m1
  have HS0 := Lib.hid (HS.out _ m1.bel)
  have HR0 := Lib.hid (m1.blk []).rangeL
  clear hk hr hrd hrb hN hD hKN hNb hT hTl hSE hSE2 hSEL hB hST hbl hsl HS m1
  go_enter Try.func46, Try.ntmps46
  go_wp2_with (first | refine wpList_loadG rfl _ _ rfl w.heap.size 0 rfl KT _ HR0.out hu hd hki2 ?_)
  refine HS0.out.mono ?_
  rintro e w1 ⟨A1, c1, rfl, _, _, hb1, nb1⟩
  have HT1 := Lib.hid (HTU.out w1 A1 c1 (Bsz Mq.out.bel hb1) nb1.rb)
  have M1 := Lib.hid (Mq.out.below hb1)
  clear hb1 nb1 HS0 HTU Mq HR0
  go_wp2_with fail
  refine HT1.out.mono ?_
  rintro e w2 ⟨Av, cv, rfl, _, _, hb2, nb2⟩
  obtain ⟨xb, m2, s2⟩ := M1.out.retb hb2 nb2 HBL.out
  have HT2 := Lib.hid (HTG.out w2 Av cv m2.bel (m2.src s2))
  have HR2 := Lib.hid (m2.blk xb).rangeL
  have M2 := Lib.hid m2
  have S2 := Lib.hid s2
  clear hb2 nb2 m2 s2 HT1 HTG M1
  go_wp2_with (first | refine wpList_loadG rfl _ _ rfl w.heap.size 0 rfl KT _ HR2.out hu hd hki2 ?_)
  refine HT2.out.mono ?_
  rintro e w4 ⟨rfl, hb4⟩
  have M4 := Lib.hid ((M2.out.below hb4).arr32 T)
  clear hb4 HT2 HR2 M2
  go_upto_region 3 with (first | refine wpList_store_row rfl _ _ _ rfl w4.heap.size (b8a T) rfl rfl 119 _ (Bk.mk_ _ _ _) (info_k HTL.out) (y32_k HTL.out) (b8a_one T) ?_)
  obtain ⟨g9, hg9⟩ : ∃ g, w4.heap.size = g := ⟨_, rfl⟩
  rw [hg9] at M4 ⊢
  clear hg9
  generalize World.setRow _ _ _ = w3 at M4 ⊢
  have Mq := Lib.hid M4.out.drew
  clear M4
  refine wp_region_held_drew (S := fun _ => True) (by kernel_rfl) ?_ (fun hHeld => ?_)
  · trivial
  generalize World.drew w3 = w7 at Mq hHeld ⊢
  refine wpAnyH_take (i := 1) (v := ?_) rfl (by kernel_rfl) (by kernel_rfl) (by kernel_rfl) (fun _ _ _ h => h) (Or.inl ⟨by rfl, ?_⟩) (by assumption) ?_
  rotate_left
  · intro w hSw; (try dsimp only at hSw); go_split_ands; go_simp; with_reducible rfl
  change wpAnyH _ _ _ _ _ _ _ (Act.put _ (some 28) _) _
  simp only [Act.put, List.setIfInBounds_toArray, List.set_cons_zero, List.set_cons_succ, Array.toArray_toList]
  refine wpAnyH_take (i := 3) (v := ?_) rfl (by kernel_rfl) (by kernel_rfl) (by kernel_rfl) (fun _ _ _ h => h) (Or.inl ⟨by rfl, ?_⟩) (by assumption) ?_
  rotate_left
  · intro w hSw; (try dsimp only at hSw); go_split_ands; go_simp; with_reducible rfl
  change wpAnyH _ _ _ _ _ _ _ (Act.put _ (some 30) _) _
  simp only [Act.put, List.setIfInBounds_toArray, List.set_cons_zero, List.set_cons_succ, Array.toArray_toList]
  refine wpAnyH_ready (rs := [0]) (by kernel_rfl) (by simp) ?_
  refine (AllReadyH.cons rfl (fun K hK => ?_) AllReadyH.nil)
  go_simp; generalize hwq : World.alloc _ _ = wq; obtain ⟨g27, hg27, mq⟩ := Mq.out.emptyX hwq; rw [hg27]; have Mq := Lib.hid mq; clear hwq hg27 mq
  refine hK.out _ _ (by first | assumption | go_keep) (fun hHeld => ?_)
  clear hK K
  refine wpAnyH_ready (rs := [2]) (by kernel_rfl) (by simp) ?_
  refine (AllReadyH.cons rfl (fun K hK => ?_) AllReadyH.nil)
  refine step_appE rfl _ _ 24 rfl [] Mq.out el_u8c rfl _ Av n cv (by8 B) rfl (Mq.out.src (S2.out.sub (fun _ h => List.mem_cons_of_mem _ h) (fun _ h => nomatch h))) (by8_one _) (by unfold maxLen; omega) (by omega) ?_; intro A5 c5 w8 N5 X5 hn5 hx5 mq; have Mq := Lib.hid mq; have HN5 := Lib.hid hn5; have HX5 := Lib.hid hx5; clear mq hn5 hx5
  refine hK.out _ _ (by first | assumption | go_keep) (fun hHeld => ?_)
  clear hK K
  (try (change wpAnyH _ _ _ _ _ _ _ (Act.put _ (some 29) _) _; simp only [Act.put, List.setIfInBounds_toArray, List.set_cons_zero, List.set_cons_succ, Array.toArray_toList]))
  refine wpAnyH_ready (rs := [4]) (by kernel_rfl) (by simp) ?_
  refine (AllReadyH.cons rfl (fun K hK => ?_) AllReadyH.nil)
  refine step_appE rfl _ _ 24 rfl [] Mq.out el_u8c rfl _ (some ⟨g9, 0, none⟩) 32 32 (by8 T) rfl (Mq.out.src (Src.arr (t := 119) (List.mem_cons_self ..) HTL.out)) (by8_one _) (by rw [HN5.out]; unfold maxLen; omega) (by rw [HN5.out]; omega) ?_; intro A7 c7 w9 N7 X7 hn7 hx7 mq; have Mq := Lib.hid mq; have HN7 := Lib.hid hn7; have HX7 := Lib.hid hx7; clear mq hn7 hx7
  refine hK.out _ _ (by first | assumption | go_keep) (fun hHeld => ?_)
  clear hK K
  (try (change wpAnyH _ _ _ _ _ _ _ (Act.put _ (some 31) _) _; simp only [Act.put, List.setIfInBounds_toArray, List.set_cons_zero, List.set_cons_succ, Array.toArray_toList]))
  refine wpAnyH_take (i := 5) (v := ?_) rfl (by kernel_rfl) (by kernel_rfl) (by kernel_rfl) (fun _ _ _ h => h) (Or.inl ⟨by rfl, ?_⟩) (by assumption) ?_
  rotate_left
  · intro w hSw; (try dsimp only at hSw); go_split_ands; go_simp; with_reducible rfl
  change wpAnyH _ _ _ _ _ _ _ (Act.put _ (some 10) _) _
  simp only [Act.put, List.setIfInBounds_toArray, List.set_cons_zero, List.set_cons_succ, Array.toArray_toList]
  refine wpAnyH_done (by kernel_rfl) ?_ _
  have hN7 : N7 = n + 32 := by rw [HN7.out, HN5.out]; omega
  have hX7 : X7 = by8 SE := by rw [HX7.out, HX5.out, HSE.out, by8_append]; rfl
  subst hN7 hX7
  have hcc := own_cap (Mq.out.row [])
  have HNB := Lib.hid (NewB.of_own (Mq.out.row []))
  obtain ⟨hcc1, hcc2⟩ := hcc
  clear hHeld
  go_wp2_with fail
  go_ret
  trace_state
  exact ⟨A7, c7, rfl, hcc1, hcc2, Mq.out.bel, HNB.out⟩
end Go.Proofs.Ytiakgohipnbdbaa
