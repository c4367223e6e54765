/- Contract of the document's Tag. -/
import Derived.Test.YthnaobolmgcclaaMac5
namespace Go.Proofs.Ythnaobolmgcclaa
set_option linter.unusedVariables false
set_option linter.unusedSimpArgs false
open Go.RowKit

section
variable {P : Program} {w W : World} {bl : List (Nat × TypeId × Array Value)}
theorem step_appE {ops : Array Oper} {o : Oper} {a : Act} {K : Act → World → Prop} {Q : Exit → Act → World → Prop} {E : Prop} (hgd : o.guard = none) (s x : Operand) (t : TypeId)
    (ho : o.op = .call { callee := .builtin .append, args := #[s, x], argTypes := #[t, t] })
    (pre : List Ro) {post : List Ro} {e : TypeId} {size n bytes : Nat} {v : Value} {xs : List Value} (hm : Mst W w bl (pre ++ ⟨e, size, v, n, xs⟩ :: post)) (hE : El P t e size bytes) (hs : a.eval s = v)
    (B : Nat) (A : Option Addr) (m c : Nat) (news : List Value) (hx : a.eval x = .slice A m c) (hr : Rd w B size A m news) (h1 : ∀ u ∈ news, u.oneCell' = true)
    (h63 : n + m ≤ maxLen) (hbytes : (n + m) * bytes ≤ 140737488355328)
    (h : ∀ A' c' w' N X, N = n + m → X = xs ++ news → Mst W w' bl (pre ++ ⟨e, size, .slice A' N c', N, X⟩ :: post) → K (a.put o.dst (.slice A' N c')) w') :
    if Region.wanted o (yielded ops a.tmps) = true then Oper.wp P o a w K Q else E :=
  step_appM hgd s x t ho pre hm hE hs B A m c news hx hr h1 h63 hbytes fun A' c' w' hm' => h A' c' w' _ _ rfl rfl hm'
theorem wpList_appE {ops : Array Oper} {rest : List Oper} {o : Oper} {a : Act} {Q : Exit → Act → World → Prop} (hgd : o.guard = none) (s x : Operand) (t : TypeId)
    (ho : o.op = .call { callee := .builtin .append, args := #[s, x], argTypes := #[t, t] })
    (pre : List Ro) {post : List Ro} {e : TypeId} {size n bytes : Nat} {v : Value} {xs : List Value} (hm : Mst W w bl (pre ++ ⟨e, size, v, n, xs⟩ :: post)) (hE : El P t e size bytes) (hs : a.eval s = v)
    (B : Nat) (A : Option Addr) (m c : Nat) (news : List Value) (hx : a.eval x = .slice A m c) (hr : Rd w B size A m news) (h1 : ∀ u ∈ news, u.oneCell' = true)
    (h63 : n + m ≤ maxLen) (hbytes : (n + m) * bytes ≤ 140737488355328)
    (h : ∀ A' c' w' N X, N = n + m → X = xs ++ news → Mst W w' bl (pre ++ ⟨e, size, .slice A' N c', N, X⟩ :: post) → wpList P ops Q rest (a.put o.dst (.slice A' N c')) w') : wpList P ops Q (o :: rest) a w :=
  wpList_appM hgd s x t ho pre hm hE hs B A m c news hx hr h1 h63 hbytes fun A' c' w' hm' => h A' c' w' _ _ rfl rfl hm'
theorem Mst.newE {w2 : World} {ow : List Ro} {t : TypeId} {cs : Array Value} (h : Mst W w bl ow) (hw : w.alloc (.cells cs t) = w2) : Mst W w2 ((w.heap.size, t, cs) :: bl) ow := by
  subst hw
  exact h.new t cs
end
theorem RSum.at_ {KT : Array Value} (h : RSum KT) {w : World} {A : Option Addr} {c N : Nat} {X : List Value} {l K : List UInt8} (hr : Rd w w.heap.size 1 A N X) (hN : N = l.length) (hX : X = by8 l) (hl : l.length ≤ 900000) (hK : sha l = K) :
    Calls Try.prog 32 #[.agg KT, .slice A N c] w fun e w' => e = .returned (.agg (b8a K)) ∧ Below w.heap.size w w' := by
  subst hN hX hK
  exact h.sum w A c l hr hl

structure TgR (w wr : World) (KT : Array Value) (K1 : List UInt8) (s7 : Value) : Prop where
  m : ∃ g7, s7 = .pointer (some ⟨g7, 0, none⟩) ∧ Mst w wr [(g7, 54, b8a K1), (w.heap.size + 1, 54, Y32), (w.heap.size, 60, KT)] []
set_option maxRecDepth 100000 in
set_option maxHeartbeats 2000000 in
theorem reftag_any (KT : Array Value) (hKT : RSum KT) (w : World) (A : Option Addr) (c : Nat) (key : List UInt8) (hr : RB w w.heap.size A key) (hk : key.length ≤ 100000) (A2 : Option Addr) (c2 : Nat) (b : List UInt8) (hb : RB w w.heap.size A2 b) (hbl : b.length ≤ 800000) :
    Calls Try.prog 50 #[.agg KT, .slice A key.length c, .slice A2 b.length c2] w fun e w' => e = .returned (.agg (b8a (macT key b))) ∧ Below w.heap.size w w' := by
  obtain ⟨K1, hK1⟩ : ∃ K, sha (fillB key 54 ++ b) = K := ⟨_, rfl⟩
  have hKl1 : K1.length = 32 := by rw [← hK1]; rfl
  obtain ⟨K2, hK2⟩ : ∃ K, macT key b = K := ⟨_, rfl⟩
  have hKl2 : K2.length = 32 := by rw [← hK2]; rfl
  rw [hK2]
  have hK3 : sha (fillB key 92 ++ K1) = K2 := by rw [← hK2, ← hK1]; rfl
  have KL1 := Lib.hid hKl1
  have KL2 := Lib.hid hKl2
  have HKT := Lib.hid hKT
  have HF1 := Lib.hid (show ∀ (w' : World), Below w.heap.size w w' → Calls Try.prog 89 #[.agg KT, .slice A key.length c, .int .u8 54] w' fun e w2 => ∃ g, e = .returned (.slice (some ⟨g, 0, none⟩) 64 64) ∧ Fresh w' w2 5 1 (.slice (some ⟨g, 0, none⟩) 64 64) 64 (by8 (fillB key 54)) from fun (w' : World) (hb : Below w.heap.size w w') => rfilled_any KT hKT w' A c key 54 ((hr.below hb).more hb.size) hk)
  have HF2 := Lib.hid (show ∀ (w' : World), Below w.heap.size w w' → Calls Try.prog 89 #[.agg KT, .slice A key.length c, .int .u8 92] w' fun e w2 => ∃ g, e = .returned (.slice (some ⟨g, 0, none⟩) 64 64) ∧ Fresh w' w2 5 1 (.slice (some ⟨g, 0, none⟩) 64 64) 64 (by8 (fillB key 92)) from fun (w' : World) (hb : Below w.heap.size w w') => rfilled_any KT hKT w' A c key 92 ((hr.below hb).more hb.size) hk)
  have m1 := ((Mst.start w).new 60 KT).new 54 Y32
  rw [show (w.alloc (.cells KT 60)).heap.size = w.heap.size + 1 by simp] at m1
  have Mq := Lib.hid m1.drew
  obtain ⟨L1, hL1⟩ : ∃ L, fillB key 54 = L := ⟨_, rfl⟩
  obtain ⟨L2, hL2⟩ : ∃ L, fillB key 92 = L := ⟨_, rfl⟩
  have hl1 : L1.length = 64 := by rw [← hL1, fillB_len]
  have hl2 : L2.length = 64 := by rw [← hL2, fillB_len]
  rw [hL1] at HF1 hK1
  rw [hL2] at HF2 hK3
  obtain ⟨N, hN⟩ : ∃ n, key.length = n := ⟨_, rfl⟩
  obtain ⟨n, hN2⟩ : ∃ n, b.length = n := ⟨_, rfl⟩
  have HBB := Lib.hid (show Src w [] [] 1 A2 n (by8 b) from by rw [← hN2]; exact Src.old hb)
  rw [hN] at HF1 HF2 hk ⊢
  rw [hN2] at hbl ⊢
  have LL1 := Lib.hid hl1
  have LL2 := Lib.hid hl2
  have HN2 := Lib.hid hN2
  have HK1 := Lib.hid hK1
  have HK3 := Lib.hid hK3
  have hu : ∃ d, Try.prog.underlying 60 = some d ∧ d.isRow = true := ⟨_, Try.underlying60, rfl⟩
  obtain ⟨d, hu, hd⟩ := hu
  have hki := hKT.infL
  clear hr hb m1 hK1 hK2 hK3 hKl1 hKl2 hL1 hL2 hl1 hl2 hN hN2
  go_enter Try.func50, Try.ntmps50
  go_upto_region 1 with fail
  go_cut [7] (fun s7 wr => TgR w wr KT K1 s7)
  case first =>
    generalize hw0 : World.alloc (World.alloc _ _) _ = w0
    have Mq := Lib.hid (show Mst w w0.drew [(w.heap.size + 1, 54, Y32), (w.heap.size, 60, KT)] [] by rw [← hw0]; exact Mq.out)
    have k0 := (Mq.out.blk [_]).rangeL
    clear hw0
    refine wp_region_held_drew (S := fun w' => w'.rangeAt w.heap.size 0 KT.toList) (by kernel_rfl) ?_ (fun hHeld => ?_)
    · exact k0
    generalize World.drew w0 = w1 at Mq hHeld ⊢
    refine wpAnyH_take (i := 0) rfl (by kernel_rfl) (by kernel_rfl) (by kernel_rfl) (fun _ _ _ h => h) (yieldsIf_load_mid (by rfl) _ _ rfl _ _ rfl _ _ (fun w hw => hw) hu hd hki) (by assumption) ?_
    change wpAnyH _ _ _ _ _ _ _ (Act.put _ (some 8) _) _
    simp only [Act.put, List.setIfInBounds_toArray, List.set_cons_zero, List.set_cons_succ, Array.toArray_toList]
    refine wpAnyH_take (i := 1) rfl (by kernel_rfl) (by kernel_rfl) (by kernel_rfl) (fun _ _ _ h => h) (yieldsIf_load_mid (by rfl) _ _ rfl _ _ rfl _ _ (fun w hw => hw) hu hd hki) (by assumption) ?_
    change wpAnyH _ _ _ _ _ _ _ (Act.put _ (some 9) _) _
    simp only [Act.put, List.setIfInBounds_toArray, List.set_cons_zero, List.set_cons_succ, Array.toArray_toList]
    refine wpAnyH_take (i := 2) (v := ?_) rfl (by kernel_rfl) (by kernel_rfl) (by kernel_rfl) (fun _ _ _ h => h) (Or.inl ⟨by rfl, ?_⟩) (by assumption) ?_
    rotate_left
    · intro w hSw; (try dsimp only at hSw); go_split_ands; go_simp; with_reducible rfl
    change wpAnyH _ _ _ _ _ _ _ (Act.put _ (some 10) _) _
    simp only [Act.put, List.setIfInBounds_toArray, List.set_cons_zero, List.set_cons_succ, Array.toArray_toList]
    refine wpAnyH_take (i := 4) (v := ?_) rfl (by kernel_rfl) (by kernel_rfl) (by kernel_rfl) (fun _ _ _ h => h) (Or.inl ⟨by rfl, ?_⟩) (by assumption) ?_
    rotate_left
    · intro w hSw; (try dsimp only at hSw); go_split_ands; go_simp; with_reducible rfl
    change wpAnyH _ _ _ _ _ _ _ (Act.put _ (some 12) _) _
    simp only [Act.put, List.setIfInBounds_toArray, List.set_cons_zero, List.set_cons_succ, Array.toArray_toList]
    refine wpAnyH_ready (rs := [3, 7]) (by kernel_rfl) (by simp) ?_
    refine (AllReadyH.cons rfl (fun K hK => ?_) (AllReadyH.cons rfl (fun K hK => ?_) AllReadyH.nil))
    · skip
      go_simp
      with_reducible refine (HF1.out _ Mq.out.bel).mono ?_; rintro e wq ⟨g9, rfl, hf⟩; have Mq := Lib.hid (Mq.out.addr hf); clear hf
      go_wp2_with fail
      refine hK.out _ _ (by first | exact (Mq.out.blk [_]).rangeL | exact (Mq.out.blk [_, _]).rangeL) (fun hHeld => ?_)
      clear hK K
      refine wpAnyH_ready (rs := [5, 7]) (by kernel_rfl) (by simp) ?_
      refine (AllReadyH.cons rfl (fun K hK => ?_) (AllReadyH.cons rfl (fun K hK => ?_) AllReadyH.nil))
      · skip
        refine step_appE rfl _ _ 26 rfl [] Mq.out el_u8c rfl _ A2 n c2 (by8 b) rfl (Mq.out.src (HBB.out.sub (fun _ h => nomatch h) (fun _ h => nomatch h))) (by8_one _) (by unfold maxLen; omega) (by omega) ?_; intro A5 c5 wq N5 X5 hn5 hx5 mq; have Mq := Lib.hid mq; have HN5 := Lib.hid hn5; have HX5 := Lib.hid hx5; clear mq hn5 hx5
        refine hK.out _ _ (by first | exact (Mq.out.blk [_]).rangeL | exact (Mq.out.blk [_, _]).rangeL) (fun hHeld => ?_)
        clear hK K
        refine wpAnyH_ready (rs := [6, 7]) (by kernel_rfl) (by simp) ?_
        refine (AllReadyH.cons rfl (fun K hK => ?_) (AllReadyH.cons rfl (fun K hK => ?_) AllReadyH.nil))
        · skip
          go_simp
          with_reducible refine (HKT.out.at_ (Mq.out.src (Mq.out.rowSrc (List.mem_cons_self ..))) (l := L1 ++ b) (by rw [HN5.out, List.length_append, LL1.out, HN2.out]) (by rw [HX5.out, by8_append]) (by rw [List.length_append, LL1.out, HN2.out]; omega) HK1.out).mono ?_; rintro e wq ⟨rfl, hb⟩; have Mq := Lib.hid (Mq.out.below hb); clear hb
          go_wp2_with fail
          refine hK.out _ _ (by first | exact (Mq.out.blk [_]).rangeL | exact (Mq.out.blk [_, _]).rangeL) (fun hHeld => ?_)
          clear hK K
          refine wpAnyH_ready (rs := [7]) (by kernel_rfl) (by simp) ?_
          refine (AllReadyH.cons rfl (fun K hK => ?_) AllReadyH.nil)
          go_simp; generalize hwq : World.alloc _ _ = wq; have Mq := Lib.hid (Mq.out.newE hwq); clear hwq
          refine hK.out _ _ (by first | exact (Mq.out.blk [_]).rangeL | exact (Mq.out.blk [_, _]).rangeL) (fun hHeld => ?_)
          clear hK K
          refine wpAnyH_ready (rs := [8]) (by kernel_rfl) (by simp) ?_
          refine (AllReadyH.cons rfl (fun K hK => ?_) AllReadyH.nil)
          refine step_store_row rfl _ _ _ rfl _ (b8a K1) rfl rfl 54 _ (Mq.out.blk []) (info_k KL1.out) (y32_k KL1.out) (b8a_one K1) ?_; have Mq := Lib.hid (Mst.setRow (bl := []) [] Mq.out (b8a K1))
          refine hK.out _ _ (by first | exact (Mq.out.blk [_]).rangeL | exact (Mq.out.blk [_, _]).rangeL) (fun hHeld => ?_)
          clear hK K
          refine wpAnyH_done (by kernel_rfl) ?_ _
          go_wp2_with fail
          go_meet
          exact ⟨_, rfl, Mq.out.sub (List.Sublist.refl _) (List.nil_sublist _)⟩
        · skip
          go_simp; generalize hwq : World.alloc _ _ = wq; have Mq := Lib.hid (Mq.out.newE hwq); clear hwq
          refine hK.out _ _ (by first | exact (Mq.out.blk [_]).rangeL | exact (Mq.out.blk [_, _]).rangeL) (fun hHeld => ?_)
          clear hK K
          refine wpAnyH_ready (rs := [6]) (by kernel_rfl) (by simp) ?_
          refine (AllReadyH.cons rfl (fun K hK => ?_) AllReadyH.nil)
          go_simp
          with_reducible refine (HKT.out.at_ (Mq.out.src (Mq.out.rowSrc (List.mem_cons_self ..))) (l := L1 ++ b) (by rw [HN5.out, List.length_append, LL1.out, HN2.out]) (by rw [HX5.out, by8_append]) (by rw [List.length_append, LL1.out, HN2.out]; omega) HK1.out).mono ?_; rintro e wq ⟨rfl, hb⟩; have Mq := Lib.hid (Mq.out.below hb); clear hb
          go_wp2_with fail
          refine hK.out _ _ (by first | exact (Mq.out.blk [_]).rangeL | exact (Mq.out.blk [_, _]).rangeL) (fun hHeld => ?_)
          clear hK K
          refine wpAnyH_ready (rs := [8]) (by kernel_rfl) (by simp) ?_
          refine (AllReadyH.cons rfl (fun K hK => ?_) AllReadyH.nil)
          refine step_store_row rfl _ _ _ rfl _ (b8a K1) rfl rfl 54 _ (Mq.out.blk []) (info_k KL1.out) (y32_k KL1.out) (b8a_one K1) ?_; have Mq := Lib.hid (Mst.setRow (bl := []) [] Mq.out (b8a K1))
          refine hK.out _ _ (by first | exact (Mq.out.blk [_]).rangeL | exact (Mq.out.blk [_, _]).rangeL) (fun hHeld => ?_)
          clear hK K
          refine wpAnyH_done (by kernel_rfl) ?_ _
          go_wp2_with fail
          go_meet
          exact ⟨_, rfl, Mq.out.sub (List.Sublist.refl _) (List.nil_sublist _)⟩
      · skip
        go_simp; generalize hwq : World.alloc _ _ = wq; have Mq := Lib.hid (Mq.out.newE hwq); clear hwq
        refine hK.out _ _ (by first | exact (Mq.out.blk [_]).rangeL | exact (Mq.out.blk [_, _]).rangeL) (fun hHeld => ?_)
        clear hK K
        refine wpAnyH_ready (rs := [5]) (by kernel_rfl) (by simp) ?_
        refine (AllReadyH.cons rfl (fun K hK => ?_) AllReadyH.nil)
        refine step_appE rfl _ _ 26 rfl [] Mq.out el_u8c rfl _ A2 n c2 (by8 b) rfl (Mq.out.src (HBB.out.sub (fun _ h => nomatch h) (fun _ h => nomatch h))) (by8_one _) (by unfold maxLen; omega) (by omega) ?_; intro A5 c5 wq N5 X5 hn5 hx5 mq; have Mq := Lib.hid mq; have HN5 := Lib.hid hn5; have HX5 := Lib.hid hx5; clear mq hn5 hx5
        refine hK.out _ _ (by first | exact (Mq.out.blk [_]).rangeL | exact (Mq.out.blk [_, _]).rangeL) (fun hHeld => ?_)
        clear hK K
        refine wpAnyH_ready (rs := [6]) (by kernel_rfl) (by simp) ?_
        refine (AllReadyH.cons rfl (fun K hK => ?_) AllReadyH.nil)
        go_simp
        with_reducible refine (HKT.out.at_ (Mq.out.src (Mq.out.rowSrc (List.mem_cons_self ..))) (l := L1 ++ b) (by rw [HN5.out, List.length_append, LL1.out, HN2.out]) (by rw [HX5.out, by8_append]) (by rw [List.length_append, LL1.out, HN2.out]; omega) HK1.out).mono ?_; rintro e wq ⟨rfl, hb⟩; have Mq := Lib.hid (Mq.out.below hb); clear hb
        go_wp2_with fail
        refine hK.out _ _ (by first | exact (Mq.out.blk [_]).rangeL | exact (Mq.out.blk [_, _]).rangeL) (fun hHeld => ?_)
        clear hK K
        refine wpAnyH_ready (rs := [8]) (by kernel_rfl) (by simp) ?_
        refine (AllReadyH.cons rfl (fun K hK => ?_) AllReadyH.nil)
        refine step_store_row rfl _ _ _ rfl _ (b8a K1) rfl rfl 54 _ (Mq.out.blk []) (info_k KL1.out) (y32_k KL1.out) (b8a_one K1) ?_; have Mq := Lib.hid (Mst.setRow (bl := []) [] Mq.out (b8a K1))
        refine hK.out _ _ (by first | exact (Mq.out.blk [_]).rangeL | exact (Mq.out.blk [_, _]).rangeL) (fun hHeld => ?_)
        clear hK K
        refine wpAnyH_done (by kernel_rfl) ?_ _
        go_wp2_with fail
        go_meet
        exact ⟨_, rfl, Mq.out.sub (List.Sublist.refl _) (List.nil_sublist _)⟩
    · skip
      go_simp; generalize hwq : World.alloc _ _ = wq; have Mq := Lib.hid (Mq.out.newE hwq); clear hwq
      refine hK.out _ _ (by first | exact (Mq.out.blk [_]).rangeL | exact (Mq.out.blk [_, _]).rangeL) (fun hHeld => ?_)
      clear hK K
      refine wpAnyH_ready (rs := [3]) (by kernel_rfl) (by simp) ?_
      refine (AllReadyH.cons rfl (fun K hK => ?_) AllReadyH.nil)
      go_simp
      with_reducible refine (HF1.out _ Mq.out.bel).mono ?_; rintro e wq ⟨g9, rfl, hf⟩; have Mq := Lib.hid (Mq.out.addr hf); clear hf
      go_wp2_with fail
      refine hK.out _ _ (by first | exact (Mq.out.blk [_]).rangeL | exact (Mq.out.blk [_, _]).rangeL) (fun hHeld => ?_)
      clear hK K
      refine wpAnyH_ready (rs := [5]) (by kernel_rfl) (by simp) ?_
      refine (AllReadyH.cons rfl (fun K hK => ?_) AllReadyH.nil)
      refine step_appE rfl _ _ 26 rfl [] Mq.out el_u8c rfl _ A2 n c2 (by8 b) rfl (Mq.out.src (HBB.out.sub (fun _ h => nomatch h) (fun _ h => nomatch h))) (by8_one _) (by unfold maxLen; omega) (by omega) ?_; intro A5 c5 wq N5 X5 hn5 hx5 mq; have Mq := Lib.hid mq; have HN5 := Lib.hid hn5; have HX5 := Lib.hid hx5; clear mq hn5 hx5
      refine hK.out _ _ (by first | exact (Mq.out.blk [_]).rangeL | exact (Mq.out.blk [_, _]).rangeL) (fun hHeld => ?_)
      clear hK K
      refine wpAnyH_ready (rs := [6]) (by kernel_rfl) (by simp) ?_
      refine (AllReadyH.cons rfl (fun K hK => ?_) AllReadyH.nil)
      go_simp
      with_reducible refine (HKT.out.at_ (Mq.out.src (Mq.out.rowSrc (List.mem_cons_self ..))) (l := L1 ++ b) (by rw [HN5.out, List.length_append, LL1.out, HN2.out]) (by rw [HX5.out, by8_append]) (by rw [List.length_append, LL1.out, HN2.out]; omega) HK1.out).mono ?_; rintro e wq ⟨rfl, hb⟩; have Mq := Lib.hid (Mq.out.below hb); clear hb
      go_wp2_with fail
      refine hK.out _ _ (by first | exact (Mq.out.blk [_]).rangeL | exact (Mq.out.blk [_, _]).rangeL) (fun hHeld => ?_)
      clear hK K
      refine wpAnyH_ready (rs := [8]) (by kernel_rfl) (by simp) ?_
      refine (AllReadyH.cons rfl (fun K hK => ?_) AllReadyH.nil)
      refine step_store_row rfl _ _ _ rfl _ (b8a K1) rfl rfl 54 _ (Mq.out.blk []) (info_k KL1.out) (y32_k KL1.out) (b8a_one K1) ?_; have Mq := Lib.hid (Mst.setRow (bl := []) [] Mq.out (b8a K1))
      refine hK.out _ _ (by first | exact (Mq.out.blk [_]).rangeL | exact (Mq.out.blk [_, _]).rangeL) (fun hHeld => ?_)
      clear hK K
      refine wpAnyH_done (by kernel_rfl) ?_ _
      go_wp2_with fail
      go_meet
      exact ⟨_, rfl, Mq.out.sub (List.Sublist.refl _) (List.nil_sublist _)⟩
  case rest =>
    obtain ⟨g7, rfl, mq⟩ := hcut.m
    have Mq := Lib.hid mq.drew
    have k0 := (Mq.out.blk [_, _]).rangeL
    clear mq hcut
    go_wp2_with fail
    refine wp_region_held_drew (S := fun w' => w'.rangeAt w.heap.size 0 KT.toList) (by kernel_rfl) ?_ (fun hHeld => ?_)
    · exact k0
    refine wpAnyH_take (i := 0) rfl (by kernel_rfl) (by kernel_rfl) (by kernel_rfl) (fun _ _ _ h => h) (yieldsIf_load_mid (by rfl) _ _ rfl _ _ rfl _ _ (fun w hw => hw) hu hd hki) (by assumption) ?_
    change wpAnyH _ _ _ _ _ _ _ (Act.put _ (some 15) _) _
    simp only [Act.put, List.setIfInBounds_toArray, List.set_cons_zero, List.set_cons_succ, Array.toArray_toList]
    refine wpAnyH_take (i := 1) rfl (by kernel_rfl) (by kernel_rfl) (by kernel_rfl) (fun _ _ _ h => h) (yieldsIf_load_mid (by rfl) _ _ rfl _ _ rfl _ _ (fun w hw => hw) hu hd hki) (by assumption) ?_
    change wpAnyH _ _ _ _ _ _ _ (Act.put _ (some 16) _) _
    simp only [Act.put, List.setIfInBounds_toArray, List.set_cons_zero, List.set_cons_succ, Array.toArray_toList]
    refine wpAnyH_take (i := 2) (v := ?_) rfl (by kernel_rfl) (by kernel_rfl) (by kernel_rfl) (fun _ _ _ h => h) (Or.inl ⟨by rfl, ?_⟩) (by assumption) ?_
    rotate_left
    · intro w hSw; (try dsimp only at hSw); go_split_ands; go_simp; with_reducible rfl
    change wpAnyH _ _ _ _ _ _ _ (Act.put _ (some 17) _) _
    simp only [Act.put, List.setIfInBounds_toArray, List.set_cons_zero, List.set_cons_succ, Array.toArray_toList]
    refine wpAnyH_take (i := 4) (v := ?_) rfl (by kernel_rfl) (by kernel_rfl) (by kernel_rfl) (fun _ _ _ h => h) (Or.inl ⟨by rfl, ?_⟩) (by assumption) ?_
    rotate_left
    · intro w hSw; (try dsimp only at hSw); go_split_ands; go_simp; with_reducible rfl
    change wpAnyH _ _ _ _ _ _ _ (Act.put _ (some 19) _) _
    simp only [Act.put, List.setIfInBounds_toArray, List.set_cons_zero, List.set_cons_succ, Array.toArray_toList]
    refine wpAnyH_ready (rs := [3]) (by kernel_rfl) (by simp) ?_
    refine (AllReadyH.cons rfl (fun K hK => ?_) AllReadyH.nil)
    go_simp
    with_reducible refine (HF2.out _ Mq.out.bel).mono ?_; rintro e wq ⟨g9, rfl, hf⟩; have Mq := Lib.hid (Mq.out.addr hf); clear hf
    go_wp2_with fail
    refine hK.out _ _ (by first | exact (Mq.out.blk [_, _]).rangeL) (fun hHeld => ?_)
    clear hK K
    refine wpAnyH_ready (rs := [5]) (by kernel_rfl) (by simp) ?_
    refine (AllReadyH.cons rfl (fun K hK => ?_) AllReadyH.nil)
    refine step_appE rfl _ _ 26 rfl [] Mq.out el_u8c rfl _ (some ⟨g7, 0, none⟩) 32 32 (by8 K1) rfl (Mq.out.src (Src.arr (List.mem_cons_self ..) KL1.out)) (by8_one _) (by decide) (by omega) ?_; intro A5 c5 wq N5 X5 hn5 hx5 mq; have Mq := Lib.hid mq; have HN5 := Lib.hid hn5; have HX5 := Lib.hid hx5; clear mq hn5 hx5
    refine hK.out _ _ (by first | exact (Mq.out.blk [_, _]).rangeL) (fun hHeld => ?_)
    clear hK K
    refine wpAnyH_ready (rs := [6]) (by kernel_rfl) (by simp) ?_
    refine (AllReadyH.cons rfl (fun K hK => ?_) AllReadyH.nil)
    go_simp
    with_reducible refine (HKT.out.at_ (Mq.out.src (Mq.out.rowSrc (List.mem_cons_self ..))) (l := L2 ++ K1) (by rw [HN5.out, List.length_append, LL2.out, KL1.out]) (by rw [HX5.out, by8_append]) (by rw [List.length_append, LL2.out, KL1.out]; decide) HK3.out).mono ?_; rintro e wq ⟨rfl, hb⟩; have Mq := Lib.hid (Mq.out.below hb); clear hb
    go_wp2_with fail
    refine hK.out _ _ (by first | exact (Mq.out.blk [_, _]).rangeL) (fun hHeld => ?_)
    clear hK K
    refine wpAnyH_ready (rs := [7]) (by kernel_rfl) (by simp) ?_
    refine (AllReadyH.cons rfl (fun K hK => ?_) AllReadyH.nil)
    refine step_store_row rfl _ _ _ rfl (w.heap.size + 1) (b8a K2) rfl rfl 54 _ (Mq.out.blk [_]) (info_k KL2.out) (y32_k KL2.out) (b8a_one K2) ?_; have Mq := Lib.hid (Mst.setRow (bl := []) [_] Mq.out (b8a K2))
    refine hK.out _ _ (by first | exact (Mq.out.blk [_, _]).rangeL) (fun hHeld => ?_)
    clear hK K
    refine wpAnyH_done (by kernel_rfl) ?_ _
    go_wp2_with fail
    exact bodyPost_ret (results_cell_row rfl _ _ (w.heap.size + 1) 54 _ (0, 0) _ rfl (Mq.out.blk [_]) Try.underlying54 rfl (info_k KL2.out)) rfl ⟨rfl, Mq.out.bel⟩
end Go.Proofs.Ythnaobolmgcclaa
