/- The document's seal: contract of Stream. -/
import Derived.Test.YtiakgohipnbdbaaSe1
namespace Go.Proofs.Ytiakgohipnbdbaa
set_option linter.unusedVariables false
set_option linter.unusedSimpArgs false
open Go.RowKit

structure RsL (w wr : World) (KT : Array Value) (kd : List UInt8) (g9 : Nat) (v : Value) (l : List UInt8) : Prop where
  m : Mst w wr [(g9, 119, b8a kd), (w.heap.size, 61, KT)] [⟨5, 1, v, l.length, by8 l⟩]

set_option maxRecDepth 100000 in
set_option maxHeartbeats 1600000 in
theorem refstream_any (KT : Array Value) (hKT : RSum KT) (w : World) (Ak : Option Addr) (ck : Nat) (key : List UInt8) (hk : RB w w.heap.size Ak key) (hkl : key.length ≤ 1000) (A : Option Addr) (c : Nat) (nc : List UInt8) (hr : RB w w.heap.size A nc) (hn : nc.length ≤ 32) (n : Nat) (hm : n ≤ 65536) :
    Calls Try.prog 47 #[.agg KT, .slice Ak key.length ck, .slice A nc.length c, .int .i64 (n : Int)] w (RetB w n (strB (hideK key) nc n)) := by
  have HD := Lib.hid (show ∀ w', Below w.heap.size w w' → Calls Try.prog 66 #[.agg KT, .slice Ak key.length ck, .string hideS, .slice none 0 0] w' fun e w2 => e = .returned (.agg (b8a (hideK key))) ∧ Below w'.heap.size w' w2 from fun w' hb => refderive_any KT hKT w' Ak ck key (hk.keep hb) (by omega) hideS (by decide) none 0 [] ⟨Rd.nil_ _ _ _ _, by simp⟩ (by simp) (by simp))
  obtain ⟨kd, hkd⟩ : ∃ k, hideK key = k := ⟨_, rfl⟩
  have hkdl : kd.length = 32 := by rw [← hkd]; rfl
  rw [hkd] at HD ⊢
  have hsT : ∀ k, strT kd nc k = macT kd (UInt8.ofNat nc.length :: nc ++ len4 k) := fun k => rfl
  obtain ⟨N, hN⟩ : ∃ N, nc.length = N := ⟨_, rfl⟩
  obtain ⟨KN, hKN⟩ : ∃ N, key.length = N := ⟨_, rfl⟩
  rw [hN] at hn ⊢
  simp only [hN] at hsT
  rw [hKN] at HD ⊢
  have HTG := Lib.hid (show ∀ w' A' c' g k N' X', N' = 1 + N + 4 → X' = by8 (UInt8.ofNat N :: nc ++ len4 k) → Rd w' w'.heap.size 1 A' N' X' → Rd w' w'.heap.size 1 (some ⟨g, 0, none⟩) 32 (by8 kd) → Calls Try.prog 78 #[.agg KT, .slice (some ⟨g, 0, none⟩) 32 32, .slice A' N' c'] w' fun e w2 => e = .returned (.agg (b8a (strT kd nc k))) ∧ Below w'.heap.size w' w2 from fun w' A' c' g k N' X' h1 h2 h3 h4 => by
    have hl : (UInt8.ofNat N :: nc ++ len4 k).length = N' := by simp [len4]; omega
    have := reftag_any KT hKT w' (some ⟨g, 0, none⟩) 32 kd (by unfold RB; rw [hkdl]; exact h4) (by omega) A' c' (UInt8.ofNat N :: nc ++ len4 k) (by unfold RB; rw [hl, ← h2]; exact h3) (by rw [hl]; omega)
    rw [hkdl, hl, ← hsT k] at this
    exact this)
  have HN := Lib.hid hN
  have SN := Lib.hid (show Src w [] [] 1 A N (by8 nc) from by rw [← hN]; exact Src.old hr)
  have HKL := Lib.hid hkdl
  have hm0 : (0 : Int) ≤ n := by omega
  have hm1 : (n : Int) ≤ 65536 := by omega
  have hn0 : (0 : Int) ≤ N := by omega
  have hn1 : (N : Int) ≤ 32 := by omega
  have hu : ∃ d, Try.prog.underlying 61 = some d ∧ d.isRow = true := ⟨_, Try.underlying61, rfl⟩
  obtain ⟨d, hu, hd⟩ := hu
  have hki := hKT.infL
  have hki2 := hKT.inf
  have Mq := Lib.hid ((Mst.start w).new 61 KT)
  have hsl0 := fun k => strK_len kd nc k
  have HSL := Lib.hid hsl0
  clear hk hr hN hkd hkdl hsT hKN hsl0
  go_enter Try.func47, Try.ntmps47
  have HD0 := Lib.hid (HD.out _ Mq.out.bel)
  have HR0 := Lib.hid ((Mq.out.blk []).range (o := 0) (xs := KT.toList) (fun j v h => by simpa using h))
  clear HD
  go_wp2_with (first | refine wpList_loadG rfl _ _ rfl w.heap.size 0 rfl KT _ HR0.out hu hd hki2 ?_)
  refine HD0.out.mono ?_
  rintro e w2 ⟨rfl, hb⟩
  have M2 := Lib.hid ((Mq.out.below hb).arr32 kd)
  clear hb HD0 HR0 Mq
  go_wp2_with (first | refine wpList_store_row rfl _ _ _ rfl w2.heap.size (b8a kd) rfl rfl 119 _ (Bk.mk_ _ _ _) (info_k HKL.out) (y32_k HKL.out) (b8a_one kd) ?_)
  obtain ⟨g9, hg9⟩ : ∃ g, w2.heap.size = g := ⟨_, rfl⟩
  rw [hg9] at M2 ⊢
  clear hg9
  generalize World.setRow _ _ _ = w3 at M2 ⊢
  have M3 := Lib.hid (show RsL w w3 KT kd g9 (.slice none 0 0) (strK kd nc 0) from ⟨M2.out.nilrow _ _⟩)
  clear M2
  go_loopg [10, 11] ((n + 31) / 32) (fun gk s10 s11 wr => ∃ k : Nat, k + gk = (n + 31) / 32 ∧ s11 = .int .i64 k ∧ RsL w wr KT kd g9 s10 (strK kd nc k))
  case atStart => exact ⟨0, by omega, rfl, M3.out⟩
  case round =>
    obtain ⟨k, hk, rfl, ⟨hm⟩⟩ := hrel
    have hsl := HSL.out k
    obtain ⟨F, hF⟩ : ∃ F, strK kd nc k = F := ⟨_, rfl⟩
    rw [hF] at hm hsl
    obtain ⟨L, hL⟩ : ∃ L, F.length = L := ⟨_, rfl⟩
    rw [hL] at hm hsl
    obtain ⟨A3, c3, rfl, _⟩ := own_form (hm.row [])
    by_cases hlt : k < (n + 31) / 32
    · have ht1 : decide (L < n) = true := by simp; omega
      have hk0 : (k : Int) ≤ 2048 := by omega
      have hk1 : (0 : Int) ≤ k := by omega
      have hLm : L ≤ 70000 := by omega
      have HF := Lib.hid hF
      have HL := Lib.hid hL
      have L4 := Lib.hid (len4_cells k (by omega))
      have M1 := Lib.hid (hm.newrow 5 1 1 1 #[.int .u8 (N : Int)] (Nat.le_refl _) (by decide) rfl)
      clear hF hsl hm hL
      go_upto_region 8 with (at_builtin; first
        | (refine wpList_appE rfl _ _ 24 rfl [] M1.out el_u8c rfl _ A N c (by8 nc) rfl (M1.out.src (SN.out.sub (fun _ h => nomatch h) (fun _ h => nomatch h))) (by8_one _) (by unfold maxLen; omega) (by omega) ?_; intro A5 c5 w5 N5 X5 hn5 hx5 mq; have M5 := Lib.hid mq; have HN5 := Lib.hid hn5; have HX5 := Lib.hid hx5; clear mq hn5 hx5)
        | (refine wpList_appE rfl _ _ 24 rfl [] (M5.out.alloc _) el_u8c rfl _ _ 4 4 _ rfl (Rd.new1 _ #[.int .u8 ((k : Int) / 16777216), .int .u8 ((k : Int) / 65536 % 256), .int .u8 ((k : Int) / 256 % 256), .int .u8 ((k : Int) % 256)] _ rfl) (by simp [Value.oneCell']) (by rw [HN5.out]; unfold maxLen; omega) (by rw [HN5.out]; omega) ?_; intro A6 c6 w6 N6 X6 hn6 hx6 mq; have M6 := Lib.hid mq; have HN6 := Lib.hid hn6; have HX6 := Lib.hid hx6; clear mq hn6 hx6))
      have e6 : N6 = 1 + N + 4 := by rw [HN6.out, HN5.out]
      have x6 : X6 = by8 (UInt8.ofNat N :: nc ++ len4 k) := by
        rw [HX6.out, HX5.out, by8_append, ← L4.out]
        rw [show by8 (UInt8.ofNat N :: nc) = .int .u8 (N : Int) :: by8 nc by simp [by8]; omega]
        rfl
      have HE6 := Lib.hid e6
      have HX6 := Lib.hid x6
      have Mq := Lib.hid M6.out.drew
      have k0 := (Mq.out.blk [_]).rangeL
      obtain ⟨T, hT⟩ : ∃ T, strT kd nc k = T := ⟨_, rfl⟩
      have hTl : T.length = 32 := by rw [← hT]; rfl
      have HTT := Lib.hid hT
      have HTL := Lib.hid hTl
      have htr := fun w' h1 h2 => HTG.out w' A6 c6 g9 k N6 X6 e6 x6 h1 h2
      simp only [hT] at htr
      have HTR := Lib.hid htr
      clear e6 x6 hT hTl htr M6 M5 M1 HN5 HN6 HX5
      refine wp_region_held_drew (S := fun w' => w'.rangeAt w.heap.size 0 KT.toList) (by kernel_rfl) ?_ (fun hHeld => ?_)
      · exact k0
      generalize World.drew w6 = w7 at Mq hHeld ⊢
      refine wpAnyH_take (i := 0) rfl (by kernel_rfl) (by kernel_rfl) (by kernel_rfl) (fun _ _ _ h => h) (yieldsIf_load_mid (by rfl) _ _ rfl _ _ rfl _ _ (fun w hw => hw) hu hd hki) (by assumption) ?_
      change wpAnyH _ _ _ _ _ _ _ (Act.put _ (some 46) _) _
      simp only [Act.put, List.setIfInBounds_toArray, List.set_cons_zero, List.set_cons_succ, Array.toArray_toList]
      refine wpAnyH_take (i := 1) (v := ?_) rfl (by kernel_rfl) (by kernel_rfl) (by kernel_rfl) (fun _ _ _ h => h) (Or.inl ⟨by rfl, ?_⟩) (by assumption) ?_
      rotate_left
      · intro w hSw; (try dsimp only at hSw); go_split_ands; go_simp; with_reducible rfl
      change wpAnyH _ _ _ _ _ _ _ (Act.put _ (some 47) _) _
      simp only [Act.put, List.setIfInBounds_toArray, List.set_cons_zero, List.set_cons_succ, Array.toArray_toList]
      refine wpAnyH_take (i := 2) (v := ?_) rfl (by kernel_rfl) (by kernel_rfl) (by kernel_rfl) (fun _ _ _ h => h) (Or.inl ⟨by rfl, ?_⟩) (by assumption) ?_
      rotate_left
      · intro w hSw; (try dsimp only at hSw); go_split_ands; go_simp; with_reducible rfl
      change wpAnyH _ _ _ _ _ _ _ (Act.put _ (some 48) _) _
      simp only [Act.put, List.setIfInBounds_toArray, List.set_cons_zero, List.set_cons_succ, Array.toArray_toList]
      refine wpAnyH_ready (rs := [3, 4]) (by kernel_rfl) (by simp) ?_
      refine (AllReadyH.cons rfl (fun K hK => ?_) (AllReadyH.cons rfl (fun K hK => ?_) AllReadyH.nil))
      · skip
        go_simp
        with_reducible refine (HTR.out _ (Mq.out.src (Mq.out.rowSrc (List.mem_cons_self ..))) (Mq.out.src (Src.arr (t := 119) (by simp) HKL.out))).mono ?_; rintro e wq ⟨rfl, hb⟩; have Mq := Lib.hid (Mq.out.below hb).dropr; clear hb
        go_wp2_with fail
        refine hK.out _ _ (by first | exact (Mq.out.blk [_]).rangeL | exact (Mq.out.blk [_, _]).rangeL) (fun hHeld => ?_)
        clear hK K
        refine wpAnyH_ready (rs := [4]) (by kernel_rfl) (by simp) ?_
        refine (AllReadyH.cons rfl (fun K hK => ?_) AllReadyH.nil)
        go_simp; generalize hwq : World.alloc _ _ = wq2; obtain ⟨g12, hg12, mq⟩ := Mq.out.newX hwq; rw [hg12]; have Mq := Lib.hid mq; clear hwq hg12 mq
        refine hK.out _ _ (by first | exact (Mq.out.blk [_]).rangeL | exact (Mq.out.blk [_, _]).rangeL) (fun hHeld => ?_)
        clear hK K
        refine wpAnyH_ready (rs := [5]) (by kernel_rfl) (by simp) ?_
        refine (AllReadyH.cons rfl (fun K hK => ?_) AllReadyH.nil)
        refine step_store_row rfl _ _ _ rfl g12 (b8a T) rfl rfl 119 _ (Mq.out.blk []) (info_k HTL.out) (y32_k HTL.out) (b8a_one T) ?_; have Mq := Lib.hid (Mst.setRow (bl := []) [] Mq.out (b8a T))
        refine hK.out _ _ (by first | exact (Mq.out.blk [_]).rangeL | exact (Mq.out.blk [_, _]).rangeL) (fun hHeld => ?_)
        clear hK K
        refine wpAnyH_done (by kernel_rfl) ?_ _
        simp only [Act.put]
        clear HTR hHeld k0
        go_wp2_with (at_builtin; refine wpList_appE rfl _ _ 24 rfl [] Mq.out el_u8c rfl _ (some ⟨g12, 0, none⟩) 32 32 (by8 T) rfl (Mq.out.src (Src.arr (List.mem_cons_self ..) HTL.out)) (by8_one _) (by unfold maxLen; omega) (by omega) ?_; intro A7 c7 w8 N7 X7 hn7 hx7 mq; have M7 := Lib.hid mq; have HN7 := Lib.hid hn7; have HX7 := Lib.hid hx7; clear mq hn7 hx7)
        go_roundg ((n + 31) / 32 - (k + 1))
        case measure => exact meas hk hlt
        case rel => exact ⟨k + 1, meas2 hlt, by go_num, ⟨by rw [strK_succ, HF.out, HTT.out, ← show N7 = (F ++ T).length by rw [HN7.out, List.length_append, HTL.out, HL.out], ← show X7 = by8 (F ++ T) by rw [HX7.out, by8_append]]; exact M7.out.dropb⟩⟩
      · skip
        go_simp; generalize hwq : World.alloc _ _ = wq2; obtain ⟨g12, hg12, mq⟩ := Mq.out.newX hwq; rw [hg12]; have Mq := Lib.hid mq; clear hwq hg12 mq
        refine hK.out _ _ (by first | exact (Mq.out.blk [_]).rangeL | exact (Mq.out.blk [_, _]).rangeL) (fun hHeld => ?_)
        clear hK K
        refine wpAnyH_ready (rs := [3]) (by kernel_rfl) (by simp) ?_
        refine (AllReadyH.cons rfl (fun K hK => ?_) AllReadyH.nil)
        go_simp
        with_reducible refine (HTR.out _ (Mq.out.src (Mq.out.rowSrc (List.mem_cons_self ..))) (Mq.out.src (Src.arr (t := 119) (by simp) HKL.out))).mono ?_; rintro e wq ⟨rfl, hb⟩; have Mq := Lib.hid (Mq.out.below hb).dropr; clear hb
        go_wp2_with fail
        refine hK.out _ _ (by first | exact (Mq.out.blk [_]).rangeL | exact (Mq.out.blk [_, _]).rangeL) (fun hHeld => ?_)
        clear hK K
        refine wpAnyH_ready (rs := [5]) (by kernel_rfl) (by simp) ?_
        refine (AllReadyH.cons rfl (fun K hK => ?_) AllReadyH.nil)
        refine step_store_row rfl _ _ _ rfl g12 (b8a T) rfl rfl 119 _ (Mq.out.blk []) (info_k HTL.out) (y32_k HTL.out) (b8a_one T) ?_; have Mq := Lib.hid (Mst.setRow (bl := []) [] Mq.out (b8a T))
        refine hK.out _ _ (by first | exact (Mq.out.blk [_]).rangeL | exact (Mq.out.blk [_, _]).rangeL) (fun hHeld => ?_)
        clear hK K
        refine wpAnyH_done (by kernel_rfl) ?_ _
        simp only [Act.put]
        clear HTR hHeld k0
        go_wp2_with (at_builtin; refine wpList_appE rfl _ _ 24 rfl [] Mq.out el_u8c rfl _ (some ⟨g12, 0, none⟩) 32 32 (by8 T) rfl (Mq.out.src (Src.arr (List.mem_cons_self ..) HTL.out)) (by8_one _) (by unfold maxLen; omega) (by omega) ?_; intro A7 c7 w8 N7 X7 hn7 hx7 mq; have M7 := Lib.hid mq; have HN7 := Lib.hid hn7; have HX7 := Lib.hid hx7; clear mq hn7 hx7)
        go_roundg ((n + 31) / 32 - (k + 1))
        case measure => exact meas hk hlt
        case rel => exact ⟨k + 1, meas2 hlt, by go_num, ⟨by rw [strK_succ, HF.out, HTT.out, ← show N7 = (F ++ T).length by rw [HN7.out, List.length_append, HTL.out, HL.out], ← show X7 = by8 (F ++ T) by rw [HX7.out, by8_append]]; exact M7.out.dropb⟩⟩
    · obtain rfl : k = (n + 31) / 32 := by omega
      have ht1 : decide (L < n) = false := by simp; omega
      have hc3 : n ≤ c3 := by
        rcases (hm.row []).2 with ⟨h1, h2⟩ | ⟨g, cap, cur, h1, _, _, h4, _⟩
        · omega
        · injection h1 with _ _ h1
          omega
      have hc4 : (n : Int) ≤ c3 := by omega
      have hc5 := (own_cap (hm.row [])).2
      have HNB := Lib.hid (show NewB w wr A3 (strB kd nc n) from by
        rw [strB, hF]
        exact (NewB.of_own (hm.row [])).take n)
      have HB2 := Lib.hid hm.bel
      clear hm hF hsl hL
      go_wp2_with fail
      go_ret
      exact ⟨A3, c3, rfl, hc3, hc5, HB2.out, HNB.out⟩
end Go.Proofs.Ytiakgohipnbdbaa
