/- Package token: contracts of Bytes, Parse, Key, Prove, Proves. -/
import Derived.Test.YtghcdffpplimoaaTk1
import Derived.Test.YtghcdffpplimoaaMacD
import Derived.Test.YtghcdffpplimoaaCl5
namespace Go.Proofs.Ytghcdffpplimoaa
set_option linter.unusedVariables false
set_option linter.unusedSimpArgs false
open Go.RowKit

set_option maxRecDepth 100000 in
set_option maxHeartbeats 1000000 in
theorem tkey_any (w : World) (i r x s : Int) (K : List UInt8) (hKl : K.length = 32) :
    Calls Try.prog 53 #[.agg (tkc i r x s K)] w fun e w' => ∃ gk, e = .returned (.pointer (some ⟨gk, 0, none⟩)) ∧ KeyW w' gk K ∧ Below w.heap.size w w' := by
  have M1 := Lib.hid ((Mst.start w).new 78 (tkc i r x s K))
  have HN := Lib.hid (show Calls Try.prog 27 #[.slice (some ⟨w.heap.size, 4, none⟩) 32 32] (w.alloc (.cells (tkc i r x s K) 78)) fun e w' => ∃ gk, e = .returned (.pointer (some ⟨gk, 0, none⟩)) ∧ KeyW w' gk K ∧ Below (w.alloc (.cells (tkc i r x s K) 78)).heap.size (w.alloc (.cells (tkc i r x s K) 78)) w' from by
    have := new_any (w.alloc (.cells (tkc i r x s K) 78)) (some ⟨w.heap.size, 4, none⟩) 32 K (tkc_rb (M1.out.blk [])) (by omega)
    rw [hKl] at this
    exact this)
  clear hKl
  go_enter Try.func53, Try.ntmps53
  go_wp2_with fail
  refine HN.out.mono ?_
  rintro e w1 ⟨gk, rfl, hk, hb⟩
  have Mq := Lib.hid (M1.out.below hb)
  have HK := Lib.hid hk
  clear hk hb
  go_wp2
  go_ret
  exact ⟨gk, rfl, HK.out, Mq.out.bel⟩

/-- A proof by a secret. -/
def prvB (K : List UInt8) (ps : List (List UInt8)) : List UInt8 := macT K (frameB (proofS.data.toList :: ps))
theorem prvB_len (K : List UInt8) (ps : List (List UInt8)) : (prvB K ps).length = 32 := rfl
set_option maxRecDepth 100000 in
set_option maxHeartbeats 1000000 in
theorem prove_any (w : World) (i r x s : Int) (K : List UInt8) (hKl : K.length = 32) (A1 : Option Addr) (c1 : Nat) (ps : List Pt) (hp : Pts w A1 ps) (hn : ps.length ≤ 90) (hpl : ∀ p ∈ ps, p.l.length ≤ 1000) :
    Calls Try.prog 52 #[.agg (tkc i r x s K), .slice A1 ps.length c1] w fun e w' => e = .returned (.agg (b8a (prvB K (ps.map Pt.l)))) ∧ Below w.heap.size w w' := by
  obtain ⟨T, hT⟩ : ∃ T, prvB K (ps.map Pt.l) = T := ⟨_, rfl⟩
  have hTl : T.length = 32 := by rw [← hT]; rfl
  have m1 := ((Mst.start w).new 78 (tkc i r x s K)).new 27 Y32
  rw [show (w.alloc (.cells (tkc i r x s K) 78)).heap.size = w.heap.size + 1 by simp] at m1
  have M1 := Lib.hid m1
  obtain ⟨w0, hw0⟩ : ∃ w0, ((w.alloc (.cells (tkc i r x s K) 78)).alloc (.cells Y32 27)) = w0 := ⟨_, rfl⟩
  have HD := Lib.hid (show Calls Try.prog 90 #[.slice (some ⟨w.heap.size, 4, none⟩) 32 32, .string proofS, .slice A1 ps.length c1] w0 fun e w' => e = .returned (.agg (b8a T)) ∧ Below w0.heap.size w0 w' from by
    have hb := M1.out
    rw [hw0] at hb
    have := derive_any w0 (some ⟨w.heap.size, 4, none⟩) 32 K (tkc_rb (hb.blk [_])) (by omega) proofS (by decide) A1 c1 ps (hp.stay hb.bel) (by omega) hpl
    rw [hKl] at this
    rw [← hT]
    exact this)
  rw [hT]
  have TL := Lib.hid hTl
  have HW0 := Lib.hid hw0
  obtain ⟨n, hN⟩ : ∃ n, ps.length = n := ⟨_, rfl⟩
  rw [hN] at HD ⊢
  clear hKl hp hn hpl hT hTl hN m1 hw0
  go_enter Try.func52, Try.ntmps52
  go_wp2_with fail
  rw [HW0.out]
  refine HD.out.mono ?_
  rintro e w1 ⟨rfl, hb⟩
  have Mq := Lib.hid (show Mst w w1 [(w.heap.size + 1, 27, Y32), (w.heap.size, 78, tkc i r x s K)] [] from by have := M1.out; rw [HW0.out] at this; exact this.below hb)
  clear hb
  go_wp2_with (first | refine wpList_store_row rfl _ _ _ rfl (w.heap.size + 1) (b8a T) rfl rfl 27 _ (Mq.out.blk []) (info_k TL.out) (y32_k TL.out) (b8a_one T) ?_)
  exact bodyPost_ret (results_cell_row rfl _ _ (w.heap.size + 1) 27 _ (0, 0) _ rfl (setRow_heap _ _ _ _ _ _ (Mq.out.blk [])) Try.underlying27 rfl (info_k TL.out)) rfl ⟨rfl, (Mst.setRow (bl := []) [] Mq.out (b8a T)).bel⟩

set_option maxRecDepth 100000 in
set_option maxHeartbeats 1000000 in
theorem tbytes_bad (w : World) (i r x s : Int) (K : List UInt8) (hcl : ¬ clOk i r x s) :
    Calls Try.prog 48 #[.agg (tkc i r x s K)] w fun e w' => e = .returned (.tuple #[.slice none 0 0, .int .i64 10]) ∧ Below w.heap.size w w' := by
  have HCB := Lib.hid (fun w' => clbytes_bad i r x s w' hcl)
  have M1 := Lib.hid ((Mst.start w).new 78 (tkc i r x s K))
  obtain ⟨k0, k1, k2, k3⟩ := tkc_cells (M1.out.blk [])
  clear hcl
  go_enter Try.func48, Try.ntmps48
  go_wp2_with fail
  refine (HCB.out _).mono ?_
  rintro e w1 ⟨rfl, hb⟩
  have Mq := Lib.hid (M1.out.below hb)
  clear hb k0 k1 k2 k3
  go_wp2
  go_ret2
  exact ⟨rfl, Mq.out.bel⟩
set_option maxRecDepth 100000 in
set_option maxHeartbeats 1000000 in
theorem tbytes_ok (w : World) (i r x s : Int) (K : List UInt8) (hKl : K.length = 32) (hcl : clOk i r x s) :
    Calls Try.prog 48 #[.agg (tkc i r x s K)] w fun e w' => ∃ A c, e = .returned (.tuple #[.slice A 41 c, .int .i64 0]) ∧ 41 ≤ c ∧ c ≤ 9223372036854775807 ∧ NewB w w' A (clB i r x s ++ K) ∧ Below w.heap.size w w' := by
  obtain ⟨B, hB⟩ : ∃ B, clB i r x s = B := ⟨_, rfl⟩
  have hBl : B.length = 9 := by rw [← hB]; exact clB_length _ _ _ _
  have HCB := Lib.hid (show ∀ w', Calls Try.prog 56 #[.agg #[.int .i64 i, .int .i64 r, .int .i64 x, .int .i64 s]] w' (clBPost i r x s w') from fun w' => clbytes_ok i r x s w' hcl)
  have M1 := Lib.hid ((Mst.start w).new 78 (tkc i r x s K))
  obtain ⟨k0, k1, k2, k3⟩ := tkc_cells (M1.out.blk [])
  have HCC := Lib.hid (show ∀ w' A A1 c1 A2, Pts w' A [⟨A1, c1, B⟩, ⟨A2, 32, K⟩] → Calls Try.prog 87 #[.slice A 2 2] w' (RetFresh w' 5 1 41 (by8 (B ++ K))) from fun w' A A1 c1 A2 h => by
    have := concat_any w' A 2 _ h (by simp) (by simp [catP]; omega)
    rw [show catP [⟨A1, c1, B⟩, ⟨A2, 32, K⟩] = B ++ K by simp [catP], show (B ++ K).length = 41 by simp; omega] at this
    exact this)
  have HBE := Lib.hid hB
  have HBL := Lib.hid hBl
  have HKL := Lib.hid hKl
  rw [hB]
  clear hcl hB hBl hKl
  go_enter Try.func48, Try.ntmps48
  go_wp2_with fail
  refine (HCB.out _).mono ?_
  rintro e w1 ⟨v, rfl, hf⟩
  obtain ⟨A1, c1, rfl, -, -, hc1, -⟩ := own_form hf.own
  rw [HBE.out] at hf
  have Mq := Lib.hid (M1.out.addr hf)
  clear hf hc1 k0 k1 k2 k3 M1
  go_wp2_with fail
  generalize hwq : World.alloc _ _ = w2
  obtain ⟨g20, y20, hg20, mq, hp⟩ := Mq.out.ptsX [⟨A1, c1, B⟩, ⟨some ⟨w.heap.size, 4, none⟩, 32, K⟩] (List.forall2 (by show Src _ _ _ 1 A1 B.length (by8 B); rw [HBL.out]; exact Mq.out.rowSrc (List.mem_cons_self ..)) (by
    refine ⟨by simp [by8], fun _ => ⟨w.heap.size, 4, rfl, .inr (.inl ⟨78, tkc i r x s K, by simp, fun j u hu => ?_⟩)⟩⟩
    rw [tkc_get4]
    simpa [b8a] using hu)) (by simp only [List.map_cons, List.map_nil, Pt.v, HBL.out, HKL.out]) (by simp) hwq
  rw [hg20]
  have Mq := Lib.hid mq
  have HP := Lib.hid hp
  clear hwq hg20 mq hp
  refine (HCC.out _ _ _ _ _ HP.out).mono ?_
  rintro e w3 ⟨v, rfl, hf⟩
  obtain ⟨A3, c3, rfl, -, -, hc3, -⟩ := own_form hf.own
  have HC3 := Lib.hid (own_cap hf.own)
  have Mr := Lib.hid (Mq.out.addr hf)
  clear hf hc3
  go_wp2
  go_ret2
  exact ⟨A3, c3, rfl, HC3.out.1, HC3.out.2, NewB.of_own (Mr.out.row []), Mr.out.bel⟩
set_option maxRecDepth 100000 in
set_option maxHeartbeats 1000000 in
theorem tparse_short (w : World) (A : Option Addr) (n c : Nat) (h : n < 41) :
    Calls Try.prog 46 #[.slice A n c] w fun e w' => e = .returned (.tuple #[.agg Y36, .int .i64 4]) ∧ Below w.heap.size w w' := by
  have i1 : (n : Int) < 41 := by omega
  have Mq := Lib.hid ((Mst.start w).new 78 Y36)
  go_enter Try.func46, Try.ntmps46
  go_upto_region 2 with fail
  generalize hw0 : World.alloc _ _ = w0
  have Mq := Lib.hid (show Mst w w0 _ _ from hw0 ▸ Mq.out)
  clear hw0
  go_wp2_with (first | refine wpList_buildG rfl _ rfl (.agg Y36) (build_tok0 _) ?_ | refine wpList_store_row rfl _ _ _ rfl w.heap.size Y36 rfl rfl 78 _ (Mq.out.blk []) info_y36 rfl y36_one ?_)
  exact bodyPost_ret (results_cell2T (cs := Y36) rfl _ _ w.heap.size 78 (0, 0) _ rfl (setRow_heap _ _ _ _ _ _ (Mq.out.blk [])) Try.underlying78 rfl info_arr36) rfl (And.intro rfl (Mst.setRow (bl := []) [] Mq.out Y36).bel)
set_option maxRecDepth 100000 in
set_option maxHeartbeats 1000000 in
theorem tparse_long (w : World) (A : Option Addr) (n c : Nat) (h : 41 < n) :
    Calls Try.prog 46 #[.slice A n c] w fun e w' => e = .returned (.tuple #[.agg Y36, .int .i64 3]) ∧ Below w.heap.size w w' := by
  have i1 : ¬ (n : Int) < 41 := by omega
  have i2 : (41 : Int) < n := by omega
  have Mq := Lib.hid ((Mst.start w).new 78 Y36)
  go_enter Try.func46, Try.ntmps46
  go_upto_region 4 with fail
  generalize hw0 : World.alloc _ _ = w0
  have Mq := Lib.hid (show Mst w w0 _ _ from hw0 ▸ Mq.out)
  clear hw0
  go_wp2_with (first | refine wpList_buildG rfl _ rfl (.agg Y36) (build_tok0 _) ?_ | refine wpList_store_row rfl _ _ _ rfl w.heap.size Y36 rfl rfl 78 _ (Mq.out.blk []) info_y36 rfl y36_one ?_)
  exact bodyPost_ret (results_cell2T (cs := Y36) rfl _ _ w.heap.size 78 (0, 0) _ rfl (setRow_heap _ _ _ _ _ _ (Mq.out.blk [])) Try.underlying78 rfl info_arr36) rfl (And.intro rfl (Mst.setRow (bl := []) [] Mq.out Y36).bel)
set_option maxRecDepth 100000 in
set_option maxHeartbeats 1000000 in
theorem tparse_41 (w : World) (A : Option Addr) (c : Nat) (l : List UInt8) (hr : RB w w.heap.size A l) (hl : l.length = 41) (hc : 41 ≤ c ∧ c ≤ 9223372036854775807) (i r x s e0 : Int) (h9 : clParse (l.take 9) = ((i, r, x, s), e0)) :
    Calls Try.prog 46 #[.slice A 41 c] w fun e w' => e = .returned (.tuple #[.agg (if e0 = 0 then tkc i r x s (l.drop 9) else Y36), .int .i64 e0]) ∧ Below w.heap.size w w' := by
  obtain ⟨b, o, rfl, hbw, hcell⟩ := hr.at_ (by omega)
  obtain ⟨Kx, hK⟩ : ∃ Kx, l.drop 9 = Kx := ⟨_, rfl⟩
  have hKl : Kx.length = 32 := by rw [← hK, List.length_drop]; omega
  have hl9 : (l.take 9).length = 9 := by rw [List.length_take]; omega
  have HP := Lib.hid (show ∀ w', Below w.heap.size w w' → Calls Try.prog 73 #[.slice (some ⟨b, o, none⟩) 9 c] w' fun e w2 => e = .returned (.tuple #[.agg #[.int .i64 i, .int .i64 r, .int .i64 x, .int .i64 s], .int .i64 e0]) ∧ Below w'.heap.size w' w2 from fun w' hb => by
    have := clparse_any w' (some ⟨b, o, none⟩) c (l.take 9) ((RB.keep hr hb).cut 9) (by omega)
    rw [hl9, h9] at this
    exact this)
  have HRA := Lib.hid (show ∀ w', Below w.heap.size w w' → w'.rangeAt b (o + 9) (by8 Kx) from fun w' hb j v hv => by
    obtain ⟨_, _, e2, _, hc2⟩ := (RB.keep hr hb).2 (by omega)
    injection e2 with e2
    injection e2 with e2 e3 _
    subst e2 e3
    rw [Nat.add_assoc]
    refine hc2 (9 + j) v ?_
    rw [← hK] at hv
    simp only [by8, List.map_drop, List.getElem?_drop] at hv ⊢
    exact hv)
  have KL := Lib.hid hKl
  have HBT := Lib.hid (show ∀ w, (Instr.build 78 #[(0, .agg #[.int .i64 i, .int .i64 r, .int .i64 x, .int .i64 s]), (1, .agg (by8 Kx).toArray)]).run Try.prog w = .ok (.agg (tkc i r x s Kx)) w from fun w => build_tok hKl i r x s w)
  have M1 := Lib.hid ((Mst.start w).new 78 Y36)
  obtain ⟨c1, c2⟩ := hc
  have i3 : (9 : Int) ≤ c := by omega
  have i4 : ¬ c = 9 := by omega
  rw [hK]
  clear hr hl hcell hK hKl hl9 h9
  by_cases he : e0 = 0
  · subst he
    rw [if_pos rfl]
    go_enter Try.func46, Try.ntmps46
    go_wp2_with fail
    refine (HP.out _ M1.out.bel).mono ?_
    rintro e w1 ⟨rfl, hb⟩
    have Mq := Lib.hid ((M1.out.below hb).new 30 #[.int .i64 i, .int .i64 r, .int .i64 x, .int .i64 s]).drew
    have HCL := Lib.hid (show ∀ w' cs, Mst w w' [(w1.heap.size, 30, #[.int .i64 i, .int .i64 r, .int .i64 x, .int .i64 s]), (w.heap.size, 78, cs)] [] → w'.cell? ⟨w1.heap.size, 0, none⟩ = some (.int .i64 i) ∧ w'.cell? ⟨w1.heap.size, 1, none⟩ = some (.int .i64 r) ∧ w'.cell? ⟨w1.heap.size, 2, none⟩ = some (.int .i64 x) ∧ w'.cell? ⟨w1.heap.size, 3, none⟩ = some (.int .i64 s) from
      fun w' cs h => ⟨(h.blk []).cell 0, (h.blk []).cell 1, (h.blk []).cell 2, (h.blk []).cell 3⟩)
    have K0 := Lib.hid (HCL.out _ _ Mq.out)
    clear hb
    go_upto_region 8 with fail
    have hAA := arrayAt32
    refine wp_region_held_drew (S := fun w' => w'.cell? ⟨w1.heap.size, 0, none⟩ = some (.int .i64 i) ∧ w'.cell? ⟨w1.heap.size, 1, none⟩ = some (.int .i64 r) ∧ w'.cell? ⟨w1.heap.size, 2, none⟩ = some (.int .i64 x) ∧ w'.cell? ⟨w1.heap.size, 3, none⟩ = some (.int .i64 s)) (by kernel_rfl) ?_ (fun hHeld => ?_)
    · exact K0.out
    generalize World.drew _ = w7 at Mq hHeld ⊢
    refine wpAnyH_take (i := 0) (v := ?_) rfl (by kernel_rfl) (by kernel_rfl) (by kernel_rfl) (fun _ _ _ h => h) (Or.inl ⟨by rfl, ?_⟩) (by assumption) ?_
    rotate_left
    · intro w hSw; (try dsimp only at hSw); go_split_ands; go_simp; with_reducible rfl
    change wpAnyH _ _ _ _ _ _ _ (Act.put _ (some 26) _) _
    simp only [Act.put, List.setIfInBounds_toArray, List.set_cons_zero, List.set_cons_succ, Array.toArray_toList]
    refine wpAnyH_take (i := 1) (v := ?_) rfl (by kernel_rfl) (by kernel_rfl) (by kernel_rfl) (fun _ _ _ h => h) (Or.inl ⟨by rfl, ?_⟩) (by assumption) ?_
    rotate_left
    · intro w hSw; (try dsimp only at hSw); go_split_ands; go_simp; with_reducible rfl
    change wpAnyH _ _ _ _ _ _ _ (Act.put _ (some 27) _) _
    simp only [Act.put, List.setIfInBounds_toArray, List.set_cons_zero, List.set_cons_succ, Array.toArray_toList]
    refine wpAnyH_take (i := 2) (v := ?_) rfl (by kernel_rfl) (by kernel_rfl) (by kernel_rfl) (fun _ _ _ h => h) (Or.inl ⟨by rfl, ?_⟩) (by assumption) ?_
    rotate_left
    · intro w hSw; (try dsimp only at hSw); go_split_ands; go_simp; with_reducible rfl
    change wpAnyH _ _ _ _ _ _ _ (Act.put _ (some 28) _) _
    simp only [Act.put, List.setIfInBounds_toArray, List.set_cons_zero, List.set_cons_succ, Array.toArray_toList]
    refine wpAnyH_take (i := 3) (v := ?_) rfl (by kernel_rfl) (by kernel_rfl) (by kernel_rfl) (fun _ _ _ h => h) (Or.inl ⟨by rfl, ?_⟩) (by assumption) ?_
    rotate_left
    · intro w hSw; (try dsimp only at hSw); go_split_ands; go_simp; with_reducible rfl
    change wpAnyH _ _ _ _ _ _ _ (Act.put _ (some 29) _) _
    simp only [Act.put, List.setIfInBounds_toArray, List.set_cons_zero, List.set_cons_succ, Array.toArray_toList]
    refine wpAnyH_ready (rs := [4]) (by kernel_rfl) (by simp) ?_
    refine (AllReadyH.cons rfl (fun K hK => ?_) AllReadyH.nil)
    refine step_load_mid rfl _ _ rfl b (o + 9) rfl (by8 Kx) _ (HRA.out _ Mq.out.bel) Try.underlying27 rfl (info_kL8 KL.out) ?_
    refine hK.out _ _ (by exact HCL.out _ _ Mq.out) (fun hHeld => ?_)
    clear hK K
    (try (change wpAnyH _ _ _ _ _ _ _ (Act.put _ (some 30) _) _; simp only [Act.put, List.setIfInBounds_toArray, List.set_cons_zero, List.set_cons_succ, Array.toArray_toList]))
    refine wpAnyH_ready (rs := [5]) (by kernel_rfl) (by simp) ?_
    refine (AllReadyH.cons rfl (fun K hK => ?_) AllReadyH.nil)
    refine step_build rfl _ _ rfl [(0, .agg #[.int .i64 i, .int .i64 r, .int .i64 x, .int .i64 s]), (1, .agg (by8 Kx).toArray)] rfl (.agg (tkc i r x s Kx)) (HBT.out _) ?_
    refine hK.out _ _ (by exact HCL.out _ _ Mq.out) (fun hHeld => ?_)
    clear hK K
    (try (change wpAnyH _ _ _ _ _ _ _ (Act.put _ (some 31) _) _; simp only [Act.put, List.setIfInBounds_toArray, List.set_cons_zero, List.set_cons_succ, Array.toArray_toList]))
    refine wpAnyH_ready (rs := [6]) (by kernel_rfl) (by simp) ?_
    refine (AllReadyH.cons rfl (fun K hK => ?_) AllReadyH.nil)
    refine step_store_row rfl _ _ _ rfl w.heap.size (tkc i r x s Kx) rfl rfl 78 _ (Mq.out.blk [_]) (info_tok KL.out) (y36_k KL.out) (tkc_one _ _ _ _ _) ?_; have Mq := Lib.hid (Mst.setRow (bl := []) [_] Mq.out (tkc i r x s Kx))
    refine hK.out _ _ (by exact HCL.out _ _ Mq.out) (fun hHeld => ?_)
    clear hK K
    refine wpAnyH_take (i := 7) (v := ?_) rfl (by kernel_rfl) (by kernel_rfl) (by kernel_rfl) (fun _ _ _ h => h) (Or.inl ⟨by rfl, ?_⟩) (by assumption) ?_
    rotate_left
    · intro w hSw; (try dsimp only at hSw); go_split_ands; go_simp; with_reducible rfl
    change wpAnyH _ _ _ _ _ _ _ (Act.put _ (some 3) _) _
    simp only [Act.put, List.setIfInBounds_toArray, List.set_cons_zero, List.set_cons_succ, Array.toArray_toList]
    refine wpAnyH_done (by kernel_rfl) ?_ _
    go_wp2
    exact bodyPost_ret (results_cell2T rfl _ _ w.heap.size 78 _ (0, 0) _ rfl (Mq.out.blk [_]) Try.underlying78 rfl (info_tok KL.out)) rfl ⟨rfl, Mq.out.bel⟩
  · rw [if_neg he]
    go_enter Try.func46, Try.ntmps46
    go_wp2_with fail
    refine (HP.out _ M1.out.bel).mono ?_
    rintro e w1 ⟨rfl, hb⟩
    have Mq := Lib.hid ((M1.out.below hb).new 30 #[.int .i64 i, .int .i64 r, .int .i64 x, .int .i64 s])
    clear hb
    go_upto_region 7 with fail
    generalize hw0 : World.alloc _ _ = w0
    have Mq := Lib.hid (show Mst w w0 _ _ from hw0 ▸ Mq.out)
    clear hw0
    go_wp2_with (first | refine wpList_buildG rfl _ rfl (.agg Y36) (build_tok0 _) ?_ | refine wpList_store_row rfl _ _ _ rfl w.heap.size Y36 rfl rfl 78 _ (Mq.out.blk [_]) info_y36 rfl y36_one ?_)
    exact bodyPost_ret (results_cell2T (cs := Y36) rfl _ _ w.heap.size 78 (0, 0) _ rfl (setRow_heap _ _ _ _ _ _ (Mq.out.blk [_])) Try.underlying78 rfl info_arr36) rfl (And.intro rfl (Mst.setRow (bl := []) [_] Mq.out Y36).bel)

/-- The closure of Proves: is it the tag? -/
theorem proves1_any (w : World) (gt : Nat) (At : Option Addr) (ct : Nat) (tag T : List UInt8) (hc : w.cell? ⟨gt, 0, none⟩ = some (.slice At tag.length ct)) (hr : RB w w.heap.size At tag) (htl : tag.length ≤ 100000) (hT : T.length = 32) :
    Calls Try.prog 77 #[.agg (b8a T), .pointer (some ⟨gt, 0, none⟩)] w fun e w' => e = .returned (.bool (decide (tag = T))) ∧ Below w.heap.size w w' := by
  have hgt := block_lt_of_cell hc
  have M1 := Lib.hid ((Mst.start w).new 27 (b8a T)).drew
  have HEQ := Lib.hid (show ∀ w', Mst w w' [(w.heap.size, 27, b8a T)] [] → Calls Try.prog 78 #[.slice At tag.length ct, .slice (some ⟨w.heap.size, 0, none⟩) 32 32] w' fun e w2 => e = .returned (.bool (decide (tag = T))) ∧ Below w'.heap.size w' w2 from fun w' h => by
    have := equal2_any At (some ⟨w.heap.size, 0, none⟩) ct 32 tag T w' (RB.keep hr h.bel) ⟨by simp [by8], fun _ => ⟨w.heap.size, 0, rfl, (h.blk []).lt, fun j u hu => by rw [(h.blk []).cell, Nat.zero_add]; simpa [b8a] using hu⟩⟩ (by unfold maxLen; omega)
    rw [hT] at this
    exact this)
  have K0 := Lib.hid (M1.out.old hgt hc)
  obtain ⟨n, hn⟩ : ∃ n, tag.length = n := ⟨_, rfl⟩
  obtain ⟨D, hD⟩ : ∃ D, decide (tag = T) = D := ⟨_, rfl⟩
  rw [hn] at HEQ K0 hc
  rw [hD] at HEQ ⊢
  have HOC := Lib.hid (show ∀ w', Mst w w' [(w.heap.size, 27, b8a T)] [] → w'.cell? ⟨gt, 0, none⟩ = some (.slice At n ct) from fun w' h => h.old hgt hc)
  clear hc hr hT hn hD
  go_enter Try.func77, Try.ntmps77
  go_upto_region 1 with fail
  refine wp_region_held_drew (S := fun w' => w'.cell? ⟨gt, 0, none⟩ = some (.slice At n ct)) (by kernel_rfl) ?_ (fun hHeld => ?_)
  · exact K0.out
  generalize hw7 : World.drew _ = w7 at hHeld ⊢; have Mq := Lib.hid (show Mst w w7 _ _ from hw7 ▸ M1.out); clear hw7
  refine wpAnyH_take (i := 0) (v := ?_) rfl (by kernel_rfl) (by kernel_rfl) (by kernel_rfl) (fun _ _ _ h => h) (Or.inl ⟨by rfl, ?_⟩) (by assumption) ?_
  rotate_left
  · intro w hSw; (try dsimp only at hSw); go_split_ands; go_simp; with_reducible rfl
  change wpAnyH _ _ _ _ _ _ _ (Act.put _ (some 4) _) _
  simp only [Act.put, List.setIfInBounds_toArray, List.set_cons_zero, List.set_cons_succ, Array.toArray_toList]
  refine wpAnyH_take (i := 1) (v := ?_) rfl (by kernel_rfl) (by kernel_rfl) (by kernel_rfl) (fun _ _ _ h => h) (Or.inl ⟨by rfl, ?_⟩) (by assumption) ?_
  rotate_left
  · intro w hSw; (try dsimp only at hSw); go_split_ands; go_simp; with_reducible rfl
  change wpAnyH _ _ _ _ _ _ _ (Act.put _ (some 5) _) _
  simp only [Act.put, List.setIfInBounds_toArray, List.set_cons_zero, List.set_cons_succ, Array.toArray_toList]
  refine wpAnyH_ready (rs := [2]) (by kernel_rfl) (by simp) ?_
  refine (AllReadyH.cons rfl (fun K hK => ?_) AllReadyH.nil)
  go_simp
  (with_reducible refine (HEQ.out _ Mq.out).mono ?_); rintro e wq ⟨rfl, hb⟩; have Mq := Lib.hid (Mq.out.below hb); clear hb
  go_wp2_with fail
  refine hK.out _ _ (by exact HOC.out _ Mq.out) (fun hHeld => ?_)
  clear hK K
  refine wpAnyH_take (i := 3) (v := ?_) rfl (by kernel_rfl) (by kernel_rfl) (by kernel_rfl) (fun _ _ _ h => h) (Or.inl ⟨by rfl, ?_⟩) (by assumption) ?_
  rotate_left
  · intro w hSw; (try dsimp only at hSw); go_split_ands; go_simp; with_reducible rfl
  change wpAnyH _ _ _ _ _ _ _ (Act.put _ (some 3) _) _
  simp only [Act.put, List.setIfInBounds_toArray, List.set_cons_zero, List.set_cons_succ, Array.toArray_toList]
  refine wpAnyH_done (by kernel_rfl) ?_ _
  go_wp2
  go_ret
  exact ⟨rfl, Mq.out.bel⟩
end Go.Proofs.Ytghcdffpplimoaa
