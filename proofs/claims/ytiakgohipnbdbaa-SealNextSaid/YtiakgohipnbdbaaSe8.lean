/- Package seal: contracts of New, the sealer's Seal and Count. -/
import Derived.Test.YtiakgohipnbdbaaSe7
namespace Go.Proofs.Ytiakgohipnbdbaa
set_option linter.unusedVariables false
set_option linter.unusedSimpArgs false
open Go.RowKit

/-- What a call hands back, as a block of its own beside the memory of the caller. -/
theorem Mst.retx {W w w' : World} {bl : Bl} {ow : List Ro} {A : Option Addr} {n : Nat} {l : List UInt8} (h : Mst W w bl ow) (hb : Below w.heap.size w w') (hn : NewB w w' A l) (hl : l.length = n) : ∃ xb, Mst W w' (xb ++ bl) ow ∧ Src W xb [] 1 A n (by8 l) := by
  subst hl
  rcases hn with rfl | ⟨g, t, cs, rfl, h2, h3, h4⟩
  · exact ⟨[], h.below hb, Src.nil_ _ _ _ _ _⟩
  · exact ⟨[(g, t, cs)], h.addb hb h2 h3, by simp [by8], fun _ => ⟨g, 0, rfl, .inr (.inl ⟨t, cs, List.mem_cons_self .., fun j u hu => by simpa using h4 j u hu⟩)⟩⟩
def skc (p : Value) (k : Nat) : Array Value := #[p, .int .u64 (k : Int)]
theorem snew_any (p : Option Addr) (w : World) : Calls Try.prog 50 #[.pointer p] w fun e w' => e = .returned (.pointer (some ⟨w.heap.size, 0, none⟩)) ∧ w' = w.alloc (.cells (skc (.pointer p) 0) 136) := by
  go_enter Try.func50, Try.ntmps50
  go_wp2
  go_ret
  exact ⟨rfl, rfl⟩
theorem scount_any (w : World) (g : Nat) (p : Value) (k : Nat) (hk : k ≤ 1000000) (hb : Bk w g 136 (skc p k)) : Calls Try.prog 52 #[.pointer (some ⟨g, 0, none⟩)] w fun e w' => e = .returned (.int .i64 (k : Int)) ∧ w = w' := by
  have c1 : w.cell? ⟨g, 1, none⟩ = some (.int .u64 (k : Int)) := hb.cell 1
  have h1 : (0 : Int) ≤ k := by omega
  have h2 : (k : Int) ≤ 1000000 := by omega
  go_enter Try.func52, Try.ntmps52
  go_wp2
  go_ret
  exact ⟨rfl, rfl⟩
theorem scount_nil (w : World) : Calls Try.prog 52 #[.pointer none] w fun e w' => e = .returned (.int .i64 0) ∧ w = w' := by
  go_enter Try.func52, Try.ntmps52
  go_wp2
  go_ret
  exact ⟨rfl, rfl⟩
theorem sealer_nil (w : World) (v1 v2 : Value) : Calls Try.prog 51 #[.pointer none, v1, v2] w fun e w' => e = .returned (.tuple #[.slice none 0 0, .slice none 0 0, .int .i64 11]) ∧ w = w' := by
  go_enter Try.func51, Try.ntmps51
  go_wp2
  go_ret3
  exact ⟨rfl, rfl⟩
def nonceL (k : Nat) : List UInt8 := len4 0 ++ len4 k
theorem nonceL_len (k : Nat) : (nonceL k).length = 8 := rfl

set_option maxRecDepth 100000 in
set_option maxHeartbeats 1600000 in
theorem sealer_M (W w : World) (gS gk : Nat) (k : Nat) (hm : Mst W w [(gS, 136, skc (.pointer (some ⟨gk, 0, none⟩)) k)] []) (hk0 : k ≤ 1000) (kb : List UInt8) (hk : KeyW W gk kb) (hkl : kb.length ≤ 1000)
    (Ad : Option Addr) (cd : Nat) (bd : List UInt8) (hrd : RB W W.heap.size Ad bd) (hnd : bd.length ≤ 1000) (Ab : Option Addr) (cb : Nat) (b : List UInt8) (hrb : RB W W.heap.size Ab b) (hnb : b.length ≤ 65536) :
    Calls Try.prog 51 #[.pointer (some ⟨gS, 0, none⟩), .slice Ad bd.length cd, .slice Ab b.length cb] w fun e w' => ∃ An cn A' c', e = .returned (.tuple #[.slice An 8 cn, .slice A' (b.length + 32) c', .int .i64 0]) ∧ b.length + 32 ≤ c' ∧ c' ≤ 9223372036854775807 ∧
      Mst W w' [(gS, 136, skc (.pointer (some ⟨gk, 0, none⟩)) (k + 1))] [] ∧ RB w' w'.heap.size An (nonceL k) ∧ RB w' w'.heap.size A' (sealB kb (nonceL k) bd b) := by
  have HF0 := Lib.hid (show ∀ w', Calls Try.prog 77 #[.int .i64 0] w' fun e w2 => ∃ g, e = .returned (.slice (some ⟨g, 0, none⟩) 4 4) ∧ Fresh w' w2 5 1 (.slice (some ⟨g, 0, none⟩) 4 4) 4 (by8 (len4 0)) from four_any 0 (by decide))
  have HFK := Lib.hid (four_any k (by omega))
  have HCC := Lib.hid (show ∀ w' A' c1 c2 g1 g2, Pts w' A' [⟨some ⟨g1, 0, none⟩, c1, len4 0⟩, ⟨some ⟨g2, 0, none⟩, c2, len4 k⟩] → Calls Try.prog 74 #[.slice A' 2 2] w' (RetFresh w' 5 1 8 (by8 (nonceL k))) from fun w' A' c1 c2 g1 g2 hp => by
    have hc : catP [(⟨some ⟨g1, 0, none⟩, c1, len4 0⟩ : Pt), ⟨some ⟨g2, 0, none⟩, c2, len4 k⟩] = nonceL k := by simp [catP, nonceL]
    have := concat_any w' A' 2 _ hp (by simp) (by rw [hc, nonceL_len]; decide)
    rw [hc, nonceL_len] at this
    exact this)
  have HSL := Lib.hid (show ∀ w' An cn, Below W.heap.size W w' → RB w' w'.heap.size An (nonceL k) → Calls Try.prog 44 #[.pointer (some ⟨gk, 0, none⟩), .slice An 8 cn, .slice Ad bd.length cd, .slice Ab b.length cb] w' fun e w2 => ∃ A' c', e = .returned (.tuple #[.slice A' (b.length + 32) c', .int .i64 0]) ∧ b.length + 32 ≤ c' ∧ c' ≤ 9223372036854775807 ∧ Below w'.heap.size w' w2 ∧ NewB w' w2 A' (sealB kb (nonceL k) bd b) from fun w' An cn hb h =>
    seal_any w' gk kb (hk.keep hb) hkl An cn (nonceL k) h (by rw [nonceL_len]; decide) Ad cd bd (hrd.keep hb) hnd Ab cb b (hrb.keep hb) hnb)
  obtain ⟨NL, hNL⟩ : ∃ l, nonceL k = l := ⟨_, rfl⟩
  have hNLl : NL.length = 8 := by rw [← hNL]; rfl
  have hsel := sealB_len kb NL bd b
  rw [hNL] at HCC HSL ⊢
  obtain ⟨SE, hSE⟩ : ∃ l, sealB kb NL bd b = l := ⟨_, rfl⟩
  rw [hSE] at HSL hsel ⊢
  obtain ⟨D, hD⟩ : ∃ n, bd.length = n := ⟨_, rfl⟩
  obtain ⟨n, hN⟩ : ∃ n, b.length = n := ⟨_, rfl⟩
  rw [hD] at HSL ⊢
  rw [hN] at HSL hsel ⊢
  have HNLl := Lib.hid hNLl
  have HSEL := Lib.hid hsel
  have h0 : (0 : Int) ≤ k := by omega
  have h1 : (k : Int) ≤ 1000 := by omega
  have Mq := Lib.hid hm.drew
  have K0 := Lib.hid (show w.drew.cell? ⟨gS, 1, none⟩ = some (.int .u64 (k : Int)) from (Mq.out.blk []).cell 1)
  have K1 := Lib.hid (show ∀ w' ow, Mst W w' [(gS, 136, skc (.pointer (some ⟨gk, 0, none⟩)) k)] ow → w'.cell? ⟨gS, 1, none⟩ = some (.int .u64 (k : Int)) from fun w' ow h => (h.blk []).cell 1)
  clear hk hrd hrb hNL hNLl hSE hsel hD hN hm
  go_enter Try.func51, Try.ntmps51
  have hw0 : IntKind.i64.wrap ((k : Int) / 4294967296) = 0 := by rw [show (k : Int) / 4294967296 = 0 by omega]; exact IntWalk.i64_in _ (by omega)
  have hwk : IntKind.i64.wrap (k : Int) = k := IntWalk.i64_in _ (by omega)
  go_upto_region 3 with fail
  refine wp_region_held_drew (S := fun w' => w'.cell? ⟨gS, 1, none⟩ = some (.int .u64 (k : Int))) (by kernel_rfl) ?_ (fun hHeld => ?_)
  · exact K0.out
  generalize World.drew w = w7 at Mq hHeld ⊢
  refine wpAnyH_take (i := 0) (v := ?_) rfl (by kernel_rfl) (by kernel_rfl) (by kernel_rfl) (fun _ _ _ h => h) (Or.inl ⟨by rfl, ?_⟩) (by assumption) ?_
  rotate_left
  · intro w hSw; (try dsimp only at hSw); go_split_ands; go_simp; with_reducible rfl
  change wpAnyH _ _ _ _ _ _ _ (Act.put _ (some 14) _) _
  simp only [Act.put, List.setIfInBounds_toArray, List.set_cons_zero, List.set_cons_succ, Array.toArray_toList]
  refine wpAnyH_take (i := 1) (v := ?_) rfl (by kernel_rfl) (by kernel_rfl) (by kernel_rfl) (fun _ _ _ h => h) (Or.inl ⟨by rfl, ?_⟩) (by assumption) ?_
  rotate_left
  · intro w hSw; (try dsimp only at hSw); go_split_ands; go_simp; with_reducible rfl
  change wpAnyH _ _ _ _ _ _ _ (Act.put _ (some 15) _) _
  simp only [Act.put, List.setIfInBounds_toArray, List.set_cons_zero, List.set_cons_succ, Array.toArray_toList]
  refine wpAnyH_take (i := 2) (v := ?_) rfl (by kernel_rfl) (by kernel_rfl) (by kernel_rfl) (fun _ _ _ h => h) (Or.inl ⟨by rfl, ?_⟩) (by assumption) ?_
  rotate_left
  · intro w hSw; (try dsimp only at hSw); go_split_ands; go_simp; with_reducible rfl
  change wpAnyH _ _ _ _ _ _ _ (Act.put _ (some 16) _) _
  simp only [Act.put, List.setIfInBounds_toArray, List.set_cons_zero, List.set_cons_succ, Array.toArray_toList]
  refine wpAnyH_take (i := 3) (v := ?_) rfl (by kernel_rfl) (by kernel_rfl) (by kernel_rfl) (fun _ _ _ h => h) (Or.inl ⟨by rfl, ?_⟩) (by assumption) ?_
  rotate_left
  · intro w hSw; (try dsimp only at hSw); go_split_ands; go_simp; with_reducible rfl
  change wpAnyH _ _ _ _ _ _ _ (Act.put _ (some 17) _) _
  simp only [Act.put, List.setIfInBounds_toArray, List.set_cons_zero, List.set_cons_succ, Array.toArray_toList]
  refine wpAnyH_take (i := 4) (v := ?_) rfl (by kernel_rfl) (by kernel_rfl) (by kernel_rfl) (fun _ _ _ h => h) (Or.inl ⟨by rfl, ?_⟩) (by assumption) ?_
  rotate_left
  · intro w hSw; (try dsimp only at hSw); go_split_ands; go_simp; with_reducible rfl
  change wpAnyH _ _ _ _ _ _ _ (Act.put _ (some 18) _) _
  simp only [Act.put, List.setIfInBounds_toArray, List.set_cons_zero, List.set_cons_succ, Array.toArray_toList]
  refine wpAnyH_take (i := 5) (v := ?_) rfl (by kernel_rfl) (by kernel_rfl) (by kernel_rfl) (fun _ _ _ h => h) (Or.inl ⟨by rfl, ?_⟩) (by assumption) ?_
  rotate_left
  · intro w hSw; (try dsimp only at hSw); go_split_ands; go_simp; with_reducible rfl
  change wpAnyH _ _ _ _ _ _ _ (Act.put _ (some 19) _) _
  simp only [Act.put, List.setIfInBounds_toArray, List.set_cons_zero, List.set_cons_succ, Array.toArray_toList]
  refine wpAnyH_take (i := 7) (v := ?_) rfl (by kernel_rfl) (by kernel_rfl) (by kernel_rfl) (fun _ _ _ h => h) (Or.inl ⟨by rfl, ?_⟩) (by assumption) ?_
  rotate_left
  · intro w hSw; (try dsimp only at hSw); go_split_ands; go_simp; with_reducible rfl
  change wpAnyH _ _ _ _ _ _ _ (Act.put _ (some 21) _) _
  simp only [Act.put, List.setIfInBounds_toArray, List.set_cons_zero, List.set_cons_succ, Array.toArray_toList]
  refine wpAnyH_take (i := 8) (v := ?_) rfl (by kernel_rfl) (by kernel_rfl) (by kernel_rfl) (fun _ _ _ h => h) (Or.inl ⟨by rfl, ?_⟩) (by assumption) ?_
  rotate_left
  · intro w hSw; (try dsimp only at hSw); go_split_ands; go_simp; with_reducible rfl
  change wpAnyH _ _ _ _ _ _ _ (Act.put _ (some 22) _) _
  simp only [Act.put, List.setIfInBounds_toArray, List.set_cons_zero, List.set_cons_succ, Array.toArray_toList]
  refine wpAnyH_take (i := 9) (v := ?_) rfl (by kernel_rfl) (by kernel_rfl) (by kernel_rfl) (fun _ _ _ h => h) (Or.inl ⟨by rfl, ?_⟩) (by assumption) ?_
  rotate_left
  · intro w hSw; (try dsimp only at hSw); go_split_ands; go_simp; with_reducible rfl
  change wpAnyH _ _ _ _ _ _ _ (Act.put _ (some 23) _) _
  simp only [Act.put, List.setIfInBounds_toArray, List.set_cons_zero, List.set_cons_succ, Array.toArray_toList]
  refine wpAnyH_take (i := 10) (v := ?_) rfl (by kernel_rfl) (by kernel_rfl) (by kernel_rfl) (fun _ _ _ h => h) (Or.inl ⟨by rfl, ?_⟩) (by assumption) ?_
  rotate_left
  · intro w hSw; (try dsimp only at hSw); go_split_ands; go_simp; with_reducible rfl
  change wpAnyH _ _ _ _ _ _ _ (Act.put _ (some 24) _) _
  simp only [Act.put, List.setIfInBounds_toArray, List.set_cons_zero, List.set_cons_succ, Array.toArray_toList]
  refine wpAnyH_take (i := 11) (v := ?_) rfl (by kernel_rfl) (by kernel_rfl) (by kernel_rfl) (fun _ _ _ h => h) (Or.inl ⟨by rfl, ?_⟩) (by assumption) ?_
  rotate_left
  · intro w hSw; (try dsimp only at hSw); go_split_ands; go_simp; with_reducible rfl
  change wpAnyH _ _ _ _ _ _ _ (Act.put _ (some 25) _) _
  simp only [Act.put, List.setIfInBounds_toArray, List.set_cons_zero, List.set_cons_succ, Array.toArray_toList]
  refine wpAnyH_ready (rs := [6]) (by kernel_rfl) (by simp) ?_
  refine (AllReadyH.cons rfl (fun K hK => ?_) AllReadyH.nil)
  go_simp
  (with_reducible refine (HF0.out _).mono ?_); rintro e wq ⟨g1, rfl, hf⟩; have Mq := Lib.hid (Mq.out.addr hf); clear hf
  go_wp2_with fail
  refine hK.out _ _ (by exact K1.out _ _ Mq.out) (fun hHeld => ?_)
  clear hK K
  refine wpAnyH_ready (rs := [12]) (by kernel_rfl) (by simp) ?_
  refine (AllReadyH.cons rfl (fun K hK => ?_) AllReadyH.nil)
  go_simp
  (with_reducible refine (HFK.out _).mono ?_); rintro e wq ⟨g2, rfl, hf⟩; have Mq := Lib.hid (Mq.out.addr hf); clear hf
  go_wp2_with fail
  refine hK.out _ _ (by exact K1.out _ _ Mq.out) (fun hHeld => ?_)
  clear hK K
  refine wpAnyH_ready (rs := [13]) (by kernel_rfl) (by simp) ?_
  refine (AllReadyH.cons rfl (fun K hK => ?_) AllReadyH.nil)
  go_simp; generalize hwq : World.alloc _ _ = wq; obtain ⟨g20, y20, hg20, mq, hp⟩ := Mq.out.ptsX [⟨some ⟨g1, 0, none⟩, 4, len4 0⟩, ⟨some ⟨g2, 0, none⟩, 4, len4 k⟩] (List.forall2 (Mq.out.rowSrc (e := 5) (c := 4) (List.mem_cons_of_mem _ (List.mem_cons_self ..))) (Mq.out.rowSrc (e := 5) (c := 4) (List.mem_cons_self ..))) rfl (by simp) hwq; rw [hg20]; have Mq := Lib.hid mq; have HP := Lib.hid hp; clear hwq hg20 mq hp
  refine hK.out _ _ (by exact K1.out _ _ Mq.out) (fun hHeld => ?_)
  clear hK K
  refine wpAnyH_ready (rs := [14]) (by kernel_rfl) (by simp) ?_
  refine (AllReadyH.cons rfl (fun K hK => ?_) AllReadyH.nil)
  go_simp
  (with_reducible refine (HCC.out _ _ _ _ _ _ HP.out).mono ?_); rintro e wq ⟨v, rfl, hf⟩; have Mq := Lib.hid (Mq.out.addr hf); clear hf
  go_wp2_with fail
  refine hK.out _ _ (by exact K1.out _ _ Mq.out) (fun hHeld => ?_)
  clear hK K
  refine wpAnyH_take (i := 15) (v := ?_) rfl (by kernel_rfl) (by kernel_rfl) (by kernel_rfl) (fun _ _ _ h => h) (Or.inl ⟨by rfl, ?_⟩) (by assumption) ?_
  rotate_left
  · intro w hSw; (try dsimp only at hSw); go_split_ands; go_simp; with_reducible rfl
  change wpAnyH _ _ _ _ _ _ _ (Act.put _ (some 9) _) _
  simp only [Act.put, List.setIfInBounds_toArray, List.set_cons_zero, List.set_cons_succ, Array.toArray_toList]
  refine wpAnyH_done (by kernel_rfl) ?_ _
  obtain ⟨An, cn, rfl, _⟩ := own_form (Mq.out.row [])
  have HRN := Lib.hid (show RB wq wq.heap.size An NL from by have := own_rd (Mq.out.row []); unfold RB; rw [HNLl.out]; exact this)
  have c0 : wq.cell? ⟨gS, 0, none⟩ = some (.pointer (some ⟨gk, 0, none⟩)) := (Mq.out.blk []).cell 0
  have HS2 := Lib.hid (HSL.out wq An cn Mq.out.bel HRN.out)
  clear hw0 hwk hHeld K0 K1 HSL HF0 HFK HCC HP
  go_wp2_with fail
  refine HS2.out.mono ?_
  rintro e w8 ⟨A8, c8, rfl, hc8, hc9, hb, hnb⟩
  obtain ⟨xb, m8, s8⟩ := Mq.out.retx hb hnb HSEL.out
  have M8 := Lib.hid m8
  have S8 := Lib.hid s8
  have c1 : w8.cell? ⟨gS, 1, none⟩ = some (.int .u64 (k : Int)) := (m8.blk xb).cell 1
  have f1 := (m8.blk xb).fr 1
  have hu1 : ((k : Int) + 1) % 18446744073709551616 = (k : Int) + 1 := by omega
  clear hb hnb c0 HS2 m8 s8
  go_wp2_with fail
  generalize hw9 : World.setCell _ _ _ = w9
  have M9 := Lib.hid (show Mst W w9 (xb ++ [(gS, 136, skc (.pointer (some ⟨gk, 0, none⟩)) (k + 1))]) _ from by
    have := M8.out.put xb 1 (.int .u64 ((k : Int) + 1))
    rw [hw9] at this
    exact this)
  clear hw9 c1 f1
  go_ret3
  refine ⟨An, cn, A8, c8, rfl, hc8, hc9, M9.out.sub (List.sublist_append_right xb _) (List.nil_sublist _), ?_, ?_⟩
  · have := M9.out.src (M9.out.rowSrc (List.mem_cons_self ..))
    unfold RB
    rw [HNLl.out]
    exact this
  · have := M9.out.src (S8.out.sub (fun x h => List.mem_append_left _ h) (fun _ h => nomatch h))
    unfold RB
    rw [HSEL.out]
    exact this
set_option maxRecDepth 100000 in
set_option maxHeartbeats 1600000 in
theorem sealer_nilkey (W w : World) (gS : Nat) (k : Nat) (hm : Mst W w [(gS, 136, skc (.pointer none) k)] []) (hk0 : k ≤ 1000) (v1 : Value) (Ab : Option Addr) (n cb : Nat) :
    Calls Try.prog 51 #[.pointer (some ⟨gS, 0, none⟩), v1, .slice Ab n cb] w fun e w' => e = .returned (.tuple #[.slice none 0 0, .slice none 0 0, .int .i64 1]) ∧ Below W.heap.size W w' := by
  have HF0 := Lib.hid (show ∀ w', Calls Try.prog 77 #[.int .i64 0] w' fun e w2 => ∃ g, e = .returned (.slice (some ⟨g, 0, none⟩) 4 4) ∧ Fresh w' w2 5 1 (.slice (some ⟨g, 0, none⟩) 4 4) 4 (by8 (len4 0)) from four_any 0 (by decide))
  have HFK := Lib.hid (four_any k (by omega))
  have HCC := Lib.hid (show ∀ w' A' c1 c2 g1 g2, Pts w' A' [⟨some ⟨g1, 0, none⟩, c1, len4 0⟩, ⟨some ⟨g2, 0, none⟩, c2, len4 k⟩] → Calls Try.prog 74 #[.slice A' 2 2] w' (RetFresh w' 5 1 8 (by8 (nonceL k))) from fun w' A' c1 c2 g1 g2 hp => by
    have hc : catP [(⟨some ⟨g1, 0, none⟩, c1, len4 0⟩ : Pt), ⟨some ⟨g2, 0, none⟩, c2, len4 k⟩] = nonceL k := by simp [catP, nonceL]
    have := concat_any w' A' 2 _ hp (by simp) (by rw [hc, nonceL_len]; decide)
    rw [hc, nonceL_len] at this
    exact this)
  have HSL := Lib.hid (fun w' An cn => seal_no w' (.pointer none) An 8 cn v1 Ab n cb 1 (fun w => stream_nil w An 8 cn _) (by decide))
  obtain ⟨NL, hNL⟩ : ∃ l, nonceL k = l := ⟨_, rfl⟩
  have hNLl : NL.length = 8 := by rw [← hNL]; rfl
  rw [hNL] at HCC
  have HNLl := Lib.hid hNLl
  have h0 : (0 : Int) ≤ k := by omega
  have h1 : (k : Int) ≤ 1000 := by omega
  have Mq := Lib.hid hm.drew
  have K0 := Lib.hid (show w.drew.cell? ⟨gS, 1, none⟩ = some (.int .u64 (k : Int)) from (Mq.out.blk []).cell 1)
  have K1 := Lib.hid (show ∀ w' ow, Mst W w' [(gS, 136, skc (.pointer none) k)] ow → w'.cell? ⟨gS, 1, none⟩ = some (.int .u64 (k : Int)) from fun w' ow h => (h.blk []).cell 1)
  clear hNL hNLl hm
  go_enter Try.func51, Try.ntmps51
  have hw0 : IntKind.i64.wrap ((k : Int) / 4294967296) = 0 := by rw [show (k : Int) / 4294967296 = 0 by omega]; exact IntWalk.i64_in _ (by omega)
  have hwk : IntKind.i64.wrap (k : Int) = k := IntWalk.i64_in _ (by omega)
  go_upto_region 3 with fail
  refine wp_region_held_drew (S := fun w' => w'.cell? ⟨gS, 1, none⟩ = some (.int .u64 (k : Int))) (by kernel_rfl) ?_ (fun hHeld => ?_)
  · exact K0.out
  generalize World.drew w = w7 at Mq hHeld ⊢
  refine wpAnyH_take (i := 0) (v := ?_) rfl (by kernel_rfl) (by kernel_rfl) (by kernel_rfl) (fun _ _ _ h => h) (Or.inl ⟨by rfl, ?_⟩) (by assumption) ?_
  rotate_left
  · intro w hSw; (try dsimp only at hSw); go_split_ands; go_simp; with_reducible rfl
  change wpAnyH _ _ _ _ _ _ _ (Act.put _ (some 14) _) _
  simp only [Act.put, List.setIfInBounds_toArray, List.set_cons_zero, List.set_cons_succ, Array.toArray_toList]
  refine wpAnyH_take (i := 1) (v := ?_) rfl (by kernel_rfl) (by kernel_rfl) (by kernel_rfl) (fun _ _ _ h => h) (Or.inl ⟨by rfl, ?_⟩) (by assumption) ?_
  rotate_left
  · intro w hSw; (try dsimp only at hSw); go_split_ands; go_simp; with_reducible rfl
  change wpAnyH _ _ _ _ _ _ _ (Act.put _ (some 15) _) _
  simp only [Act.put, List.setIfInBounds_toArray, List.set_cons_zero, List.set_cons_succ, Array.toArray_toList]
  refine wpAnyH_take (i := 2) (v := ?_) rfl (by kernel_rfl) (by kernel_rfl) (by kernel_rfl) (fun _ _ _ h => h) (Or.inl ⟨by rfl, ?_⟩) (by assumption) ?_
  rotate_left
  · intro w hSw; (try dsimp only at hSw); go_split_ands; go_simp; with_reducible rfl
  change wpAnyH _ _ _ _ _ _ _ (Act.put _ (some 16) _) _
  simp only [Act.put, List.setIfInBounds_toArray, List.set_cons_zero, List.set_cons_succ, Array.toArray_toList]
  refine wpAnyH_take (i := 3) (v := ?_) rfl (by kernel_rfl) (by kernel_rfl) (by kernel_rfl) (fun _ _ _ h => h) (Or.inl ⟨by rfl, ?_⟩) (by assumption) ?_
  rotate_left
  · intro w hSw; (try dsimp only at hSw); go_split_ands; go_simp; with_reducible rfl
  change wpAnyH _ _ _ _ _ _ _ (Act.put _ (some 17) _) _
  simp only [Act.put, List.setIfInBounds_toArray, List.set_cons_zero, List.set_cons_succ, Array.toArray_toList]
  refine wpAnyH_take (i := 4) (v := ?_) rfl (by kernel_rfl) (by kernel_rfl) (by kernel_rfl) (fun _ _ _ h => h) (Or.inl ⟨by rfl, ?_⟩) (by assumption) ?_
  rotate_left
  · intro w hSw; (try dsimp only at hSw); go_split_ands; go_simp; with_reducible rfl
  change wpAnyH _ _ _ _ _ _ _ (Act.put _ (some 18) _) _
  simp only [Act.put, List.setIfInBounds_toArray, List.set_cons_zero, List.set_cons_succ, Array.toArray_toList]
  refine wpAnyH_take (i := 5) (v := ?_) rfl (by kernel_rfl) (by kernel_rfl) (by kernel_rfl) (fun _ _ _ h => h) (Or.inl ⟨by rfl, ?_⟩) (by assumption) ?_
  rotate_left
  · intro w hSw; (try dsimp only at hSw); go_split_ands; go_simp; with_reducible rfl
  change wpAnyH _ _ _ _ _ _ _ (Act.put _ (some 19) _) _
  simp only [Act.put, List.setIfInBounds_toArray, List.set_cons_zero, List.set_cons_succ, Array.toArray_toList]
  refine wpAnyH_take (i := 7) (v := ?_) rfl (by kernel_rfl) (by kernel_rfl) (by kernel_rfl) (fun _ _ _ h => h) (Or.inl ⟨by rfl, ?_⟩) (by assumption) ?_
  rotate_left
  · intro w hSw; (try dsimp only at hSw); go_split_ands; go_simp; with_reducible rfl
  change wpAnyH _ _ _ _ _ _ _ (Act.put _ (some 21) _) _
  simp only [Act.put, List.setIfInBounds_toArray, List.set_cons_zero, List.set_cons_succ, Array.toArray_toList]
  refine wpAnyH_take (i := 8) (v := ?_) rfl (by kernel_rfl) (by kernel_rfl) (by kernel_rfl) (fun _ _ _ h => h) (Or.inl ⟨by rfl, ?_⟩) (by assumption) ?_
  rotate_left
  · intro w hSw; (try dsimp only at hSw); go_split_ands; go_simp; with_reducible rfl
  change wpAnyH _ _ _ _ _ _ _ (Act.put _ (some 22) _) _
  simp only [Act.put, List.setIfInBounds_toArray, List.set_cons_zero, List.set_cons_succ, Array.toArray_toList]
  refine wpAnyH_take (i := 9) (v := ?_) rfl (by kernel_rfl) (by kernel_rfl) (by kernel_rfl) (fun _ _ _ h => h) (Or.inl ⟨by rfl, ?_⟩) (by assumption) ?_
  rotate_left
  · intro w hSw; (try dsimp only at hSw); go_split_ands; go_simp; with_reducible rfl
  change wpAnyH _ _ _ _ _ _ _ (Act.put _ (some 23) _) _
  simp only [Act.put, List.setIfInBounds_toArray, List.set_cons_zero, List.set_cons_succ, Array.toArray_toList]
  refine wpAnyH_take (i := 10) (v := ?_) rfl (by kernel_rfl) (by kernel_rfl) (by kernel_rfl) (fun _ _ _ h => h) (Or.inl ⟨by rfl, ?_⟩) (by assumption) ?_
  rotate_left
  · intro w hSw; (try dsimp only at hSw); go_split_ands; go_simp; with_reducible rfl
  change wpAnyH _ _ _ _ _ _ _ (Act.put _ (some 24) _) _
  simp only [Act.put, List.setIfInBounds_toArray, List.set_cons_zero, List.set_cons_succ, Array.toArray_toList]
  refine wpAnyH_take (i := 11) (v := ?_) rfl (by kernel_rfl) (by kernel_rfl) (by kernel_rfl) (fun _ _ _ h => h) (Or.inl ⟨by rfl, ?_⟩) (by assumption) ?_
  rotate_left
  · intro w hSw; (try dsimp only at hSw); go_split_ands; go_simp; with_reducible rfl
  change wpAnyH _ _ _ _ _ _ _ (Act.put _ (some 25) _) _
  simp only [Act.put, List.setIfInBounds_toArray, List.set_cons_zero, List.set_cons_succ, Array.toArray_toList]
  refine wpAnyH_ready (rs := [6]) (by kernel_rfl) (by simp) ?_
  refine (AllReadyH.cons rfl (fun K hK => ?_) AllReadyH.nil)
  go_simp
  (with_reducible refine (HF0.out _).mono ?_); rintro e wq ⟨g1, rfl, hf⟩; have Mq := Lib.hid (Mq.out.addr hf); clear hf
  go_wp2_with fail
  refine hK.out _ _ (by exact K1.out _ _ Mq.out) (fun hHeld => ?_)
  clear hK K
  refine wpAnyH_ready (rs := [12]) (by kernel_rfl) (by simp) ?_
  refine (AllReadyH.cons rfl (fun K hK => ?_) AllReadyH.nil)
  go_simp
  (with_reducible refine (HFK.out _).mono ?_); rintro e wq ⟨g2, rfl, hf⟩; have Mq := Lib.hid (Mq.out.addr hf); clear hf
  go_wp2_with fail
  refine hK.out _ _ (by exact K1.out _ _ Mq.out) (fun hHeld => ?_)
  clear hK K
  refine wpAnyH_ready (rs := [13]) (by kernel_rfl) (by simp) ?_
  refine (AllReadyH.cons rfl (fun K hK => ?_) AllReadyH.nil)
  go_simp; generalize hwq : World.alloc _ _ = wq; obtain ⟨g20, y20, hg20, mq, hp⟩ := Mq.out.ptsX [⟨some ⟨g1, 0, none⟩, 4, len4 0⟩, ⟨some ⟨g2, 0, none⟩, 4, len4 k⟩] (List.forall2 (Mq.out.rowSrc (e := 5) (c := 4) (List.mem_cons_of_mem _ (List.mem_cons_self ..))) (Mq.out.rowSrc (e := 5) (c := 4) (List.mem_cons_self ..))) rfl (by simp) hwq; rw [hg20]; have Mq := Lib.hid mq; have HP := Lib.hid hp; clear hwq hg20 mq hp
  refine hK.out _ _ (by exact K1.out _ _ Mq.out) (fun hHeld => ?_)
  clear hK K
  refine wpAnyH_ready (rs := [14]) (by kernel_rfl) (by simp) ?_
  refine (AllReadyH.cons rfl (fun K hK => ?_) AllReadyH.nil)
  go_simp
  (with_reducible refine (HCC.out _ _ _ _ _ _ HP.out).mono ?_); rintro e wq ⟨v, rfl, hf⟩; have Mq := Lib.hid (Mq.out.addr hf); clear hf
  go_wp2_with fail
  refine hK.out _ _ (by exact K1.out _ _ Mq.out) (fun hHeld => ?_)
  clear hK K
  refine wpAnyH_take (i := 15) (v := ?_) rfl (by kernel_rfl) (by kernel_rfl) (by kernel_rfl) (fun _ _ _ h => h) (Or.inl ⟨by rfl, ?_⟩) (by assumption) ?_
  rotate_left
  · intro w hSw; (try dsimp only at hSw); go_split_ands; go_simp; with_reducible rfl
  change wpAnyH _ _ _ _ _ _ _ (Act.put _ (some 9) _) _
  simp only [Act.put, List.setIfInBounds_toArray, List.set_cons_zero, List.set_cons_succ, Array.toArray_toList]
  refine wpAnyH_done (by kernel_rfl) ?_ _
  obtain ⟨An, cn, rfl, _⟩ := own_form (Mq.out.row [])
  have c0 : wq.cell? ⟨gS, 0, none⟩ = some (.pointer none) := (Mq.out.blk []).cell 0
  have HS2 := Lib.hid (HSL.out wq An cn)
  clear hw0 hwk hHeld K0 K1 HSL HF0 HFK HCC HP
  go_wp2_with fail
  refine HS2.out.mono ?_
  rintro e w8 ⟨rfl, rfl⟩
  go_wp2_with fail
  go_ret3
  exact ⟨rfl, Mq.out.bel⟩
end Go.Proofs.Ytiakgohipnbdbaa
