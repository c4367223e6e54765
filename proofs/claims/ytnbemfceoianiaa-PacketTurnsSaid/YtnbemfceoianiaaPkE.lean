/- Pk16. Pk17. Pk18. -/
import Derived.Test.YtnbemfceoianiaaPkB
import Derived.Test.YtnbemfceoianiaaPk12
import Derived.Test.YtnbemfceoianiaaPk10
import Derived.Test.YtnbemfceoianiaaKeyA
/- Packets: Tagged. -/
namespace Go.Proofs.Ytnbemfceoianiaa
set_option linter.unusedVariables false
set_option linter.unusedSimpArgs false
open Go.RowKit
theorem On.frozen {a w : World} {g : Nat} (h : On a w g) {b o : Nat} (hb : b < a.heap.size) (hne : b ≠ g) : w.frozen? ⟨b, o, none⟩ = a.frozen? ⟨b, o, none⟩ := by
  unfold World.frozen?
  rw [h.block b hb (fun e => hne (by injection e))]
theorem FrB.on {B g : Nat} {w w' : World} {v : Value} {l : List UInt8} (h : FrB B w v l) (ho : On w w' g) (hg : g < B) : FrB B w' v l := by
  obtain ⟨k, c, rfl, h1, h2, h3, h4, h5, h6⟩ := h
  refine ⟨k, c, rfl, h1, Nat.lt_of_lt_of_le h2 ho.size, h3, h4, fun j u hu => (ho.cell h2 (by omega)).trans (h5 j u hu), fun j hj => ?_⟩
  rw [ho.cell h2 (by omega), ho.frozen h2 (by omega)]
  exact h6 j hj
theorem FrB.rbE {B n c : Nat} {w : World} {A : Option Addr} {l : List UInt8} (h : FrB B w (.slice A n c) l) : RB w w.heap.size A l := by
  obtain ⟨A1, c1, e, h1, -⟩ := h.rb
  injection e with e1 e2 e3
  rw [e1]
  exact h1
theorem ptsOneE {w w2 W : World} {bl : Bl} {ow : List Ro} (h : Mst W w bl ow) {A : Option Addr} {l : List UInt8} {n c : Nat} (hn : l.length = n) (hr : RB w w.heap.size A l) (hw : w.alloc (.cells #[.slice A n c] 26) = w2) :
    ∃ y, Mst W w2 bl (y :: ow) ∧ Pts w2 (some ⟨w.heap.size, 0, none⟩) [⟨A, c, l⟩] := by
  subst hw hn
  have m1 := h.newrow 26 1 1 1 #[.slice A l.length c] (Nat.le_refl _) (by decide) rfl
  refine ⟨_, m1, m1.src (m1.rowSrc (List.mem_cons_self ..)), fun p hp => ?_⟩
  obtain rfl : p = ⟨A, c, l⟩ := by simpa using hp
  exact hr.keep ((Below.refl _ _).alloc (Nat.le_refl _) _)
theorem keyW_of {w w' : World} {gk : Nat} {kb : List UInt8} (h : KeyW w gk kb) (hb : Below w.heap.size w w') : KeyW w' gk kb := h.keep hb
set_option maxRecDepth 100000 in
set_option maxHeartbeats 4000000 in
theorem tagged_nil (p : Pk) (hT : p.T.length = 32) (w : World) : Calls Try.prog 8 #[.agg (pkc p), .pointer none] w fun e w' => e = .returned (.tuple #[.agg (pkc Pk0), .int .i64 1]) ∧ Below w.heap.size w w' := by
  have m1 := ((Mst.start w).new 33 (pkc p)).new 33 Y41
  rw [show (w.alloc (.cells (pkc p) 33)).heap.size = w.heap.size + 1 by simp] at m1
  have M1 := Lib.hid m1
  have HT := Lib.hid hT
  have HZ0 := Lib.hid (show Pk0.T.length = 32 from rfl)
  clear m1 hT
  go_enter Try.func8, Try.ntmps8
  go_upto_region 1 with fail
  generalize hw1 : World.alloc (World.alloc _ _) _ = w1
  have Mq := Lib.hid (M1.out.toVP hw1 rfl)
  clear hw1 M1
  go_wp2_with (first | refine wpList_buildG (by first | rfl | kernel_rfl) _ rfl (.agg (pkc Pk0)) (build_pk0 _) ?_ | refine wpList_store_row rfl _ _ _ rfl (w.heap.size + 1) (pkc Pk0) rfl rfl 33 _ (Mq.out.blk []) (info_pk HZ0.out) (y41_k HZ0.out) (pkc_one _) ?_)
  exact bodyPost_ret (results_cell2P rfl _ _ (w.heap.size + 1) 33 _ (0, 0) _ rfl (setRow_heap _ _ _ _ _ _ (Mq.out.blk [])) Try.underlying33 rfl (info_pk HZ0.out)) rfl ⟨rfl, (Mst.setRow (bl := []) [] Mq.out (pkc Pk0)).bel⟩
set_option maxRecDepth 100000 in
set_option maxHeartbeats 4000000 in
theorem tagged_plain (p : Pk) (hT : p.T.length = 32) (hpl : p.k = 1 ∨ p.k = 2) (gk : Nat) (w : World) : Calls Try.prog 8 #[.agg (pkc p), .pointer (some ⟨gk, 0, none⟩)] w fun e w' => e = .returned (.tuple #[.agg (pkc Pk0), .int .i64 11]) ∧ Below w.heap.size w w' := by
  have m1 := ((Mst.start w).new 33 (pkc p)).new 33 Y41
  rw [show (w.alloc (.cells (pkc p) 33)).heap.size = w.heap.size + 1 by simp] at m1
  have M1 := Lib.hid m1
  have HT := Lib.hid hT
  have HZ0 := Lib.hid (show Pk0.T.length = 32 from rfl)
  have HPL := Lib.hid (show ∀ w', Calls Try.prog 23 #[.int .i64 p.k] w' fun e w2 => e = .returned (.bool true) ∧ w2 = w' from fun w' => by
    have h := plain_any p.k w'
    rw [decide_eq_true hpl] at h
    exact h)
  clear m1 hT hpl
  go_enter Try.func8, Try.ntmps8
  go_upto_region 1 with fail
  generalize hw1 : World.alloc (World.alloc _ _) _ = w1
  have Mq := Lib.hid (M1.out.toVP hw1 rfl)
  clear hw1 M1
  obtain ⟨x0, x1, x2, x3, x4, x5, x6, x7, x8⟩ := pkc_cells (Mq.out.blk [_])
  clear x1 x2 x3 x4 x5 x6 x7 x8
  go_wp2_with (first | (go_at_call 23; refine (HPL.out _).mono ?_; rintro e wk ⟨rfl, rfl⟩) | refine wpList_buildG (by first | rfl | kernel_rfl) _ rfl (.agg (pkc Pk0)) (build_pk0 _) ?_ | refine wpList_store_row rfl _ _ _ rfl (w.heap.size + 1) (pkc Pk0) rfl rfl 33 _ (Mq.out.blk []) (info_pk HZ0.out) (y41_k HZ0.out) (pkc_one _) ?_)
  exact bodyPost_ret (results_cell2P rfl _ _ (w.heap.size + 1) 33 _ (0, 0) _ rfl (setRow_heap _ _ _ _ _ _ (Mq.out.blk [])) Try.underlying33 rfl (info_pk HZ0.out)) rfl ⟨rfl, (Mst.setRow (bl := []) [] Mq.out (pkc Pk0)).bel⟩
set_option maxRecDepth 100000 in
set_option maxHeartbeats 4000000 in
theorem tagged_bad (p : Pk) (hT : p.T.length = 32) (hpl : ¬ (p.k = 1 ∨ p.k = 2)) (hchk : chkP { p with T := Z32 } ≠ 0) (gk : Nat) (w : World) : Calls Try.prog 8 #[.agg (pkc p), .pointer (some ⟨gk, 0, none⟩)] w fun e w' => e = .returned (.tuple #[.agg (pkc Pk0), .int .i64 (chkP { p with T := Z32 })]) ∧ Below w.heap.size w w' := by
  have m1 := ((Mst.start w).new 33 (pkc p)).new 33 Y41
  rw [show (w.alloc (.cells (pkc p) 33)).heap.size = w.heap.size + 1 by simp] at m1
  have M1 := Lib.hid m1
  have HT := Lib.hid hT
  have HZ := Lib.hid (show (Z32 : List UInt8).length = 32 from rfl)
  have HZ0 := Lib.hid (show Pk0.T.length = 32 from rfl)
  have HPL := Lib.hid (show ∀ w', Calls Try.prog 23 #[.int .i64 p.k] w' fun e w2 => e = .returned (.bool false) ∧ w2 = w' from fun w' => by
    have h := plain_any p.k w'
    rw [decide_eq_false hpl] at h
    exact h)
  obtain ⟨X, hX⟩ : ∃ X : Pk, { p with T := Z32 } = X := ⟨_, rfl⟩
  have HXT := Lib.hid (show X.T.length = 32 by rw [← hX]; rfl)
  have HX := Lib.hid hX
  rw [hX] at hchk ⊢
  have HHD := Lib.hid (fun w' => head_bad X HXT.out w' hchk)
  obtain ⟨C, hC⟩ : ∃ C, chkP X = C := ⟨_, rfl⟩
  rw [hC] at HHD hchk ⊢
  have hc1 : (C == 0) = false := by simpa using hchk
  have hc2 : (C != 0) = true := by simpa using hchk
  clear m1 hT hpl hX hC hchk
  go_enter Try.func8, Try.ntmps8
  go_upto_region 1 with fail
  generalize hw1 : World.alloc (World.alloc _ _) _ = w1
  have Mq := Lib.hid (M1.out.toVP hw1 rfl)
  clear hw1 M1
  obtain ⟨x0, x1, x2, x3, x4, x5, x6, x7, x8⟩ := pkc_cells (Mq.out.blk [_])
  clear x1 x2 x3 x4 x5 x6 x7 x8
  go_upto_region 6 with (first | (go_at_call 23; refine (HPL.out _).mono ?_; rintro e wk ⟨rfl, rfl⟩) | refine wpList_buildG (by first | rfl | kernel_rfl) _ rfl (.agg (b8a Z32)) (build_tag0 _) ?_ | refine wpList_store_mid rfl _ _ _ rfl w.heap.size 9 (b8a Z32) rfl rfl (Bk.thereP (Mq.out.blk [_]) 9 _ (by rw [pkc_size HT.out, b8a_size, HZ.out]; decide)) (info_tagA HZ.out) (b8a_one _) ?_)
  generalize hw2 : World.setCells _ _ _ _ = w2
  have mq := (Mst.putAt (by8 Z32) [_] Mq.out 9).toVP hw2 rfl
  rw [putAt_tag p Z32 HT.out HZ.out, HX.out] at mq
  have Mq := Lib.hid mq
  clear hw2 mq x0
  go_wp2_with (first | refine wpList_loadG (by first | rfl | kernel_rfl) _ _ rfl w.heap.size 0 rfl (pkc X) _ (pkc_whole (Mq.out.blk [_])) Try.underlying33 rfl (info_pk HXT.out) ?_)
  with_reducible refine (HHD.out _).mono ?_
  rintro r wq ⟨rfl, hb⟩
  have Mq := Lib.hid (Mq.out.below hb)
  clear hb
  go_wp2_with (first | refine wpList_buildG (by first | rfl | kernel_rfl) _ rfl (.agg (pkc Pk0)) (build_pk0 _) ?_ | refine wpList_store_row rfl _ _ _ rfl (w.heap.size + 1) (pkc Pk0) rfl rfl 33 _ (Mq.out.blk []) (info_pk HZ0.out) (y41_k HZ0.out) (pkc_one _) ?_)
  exact bodyPost_ret (results_cell2P rfl _ _ (w.heap.size + 1) 33 _ (0, 0) _ rfl (setRow_heap _ _ _ _ _ _ (Mq.out.blk [])) Try.underlying33 rfl (info_pk HZ0.out)) rfl ⟨rfl, (Mst.setRow (bl := []) [] Mq.out (pkc Pk0)).bel⟩
set_option maxRecDepth 100000 in
set_option maxHeartbeats 8000000 in
theorem tagged_ok (w : World) (p : Pk) (hT : p.T.length = 32) (hpl : ¬ (p.k = 1 ∨ p.k = 2)) (hchk : chkP { p with T := Z32 } = 0) (hr : RB w w.heap.size p.A p.l) (gk : Nat) (kb : List UInt8) (hk : KeyW w gk kb) (hkl : kb.length ≤ 100000) (N : Nat) (hN : p.l.length = N) :
    Calls Try.prog 8 #[.agg (pkc p), .pointer (some ⟨gk, 0, none⟩)] w fun e w' => ∃ A' c', e = .returned (.tuple #[.agg (pkc { p with A := A', cp := c', T := macT kb (hdB p) }), .int .i64 0]) ∧ Fresh w w' 5 1 (.slice A' N c') N (by8 p.l) := by
  have m1 := ((Mst.start w).new 33 (pkc p)).new 33 Y41
  rw [show (w.alloc (.cells (pkc p) 33)).heap.size = w.heap.size + 1 by simp] at m1
  have M1 := Lib.hid m1
  have HT := Lib.hid hT
  have HZ := Lib.hid (show (Z32 : List UInt8).length = 32 from rfl)
  have HZ0 := Lib.hid (show Pk0.T.length = 32 from rfl)
  have HPL := Lib.hid (show ∀ w', Calls Try.prog 23 #[.int .i64 p.k] w' fun e w2 => e = .returned (.bool false) ∧ w2 = w' from fun w' => by
    have h := plain_any p.k w'
    rw [decide_eq_false hpl] at h
    exact h)
  obtain ⟨X, hX⟩ : ∃ X : Pk, { p with T := Z32 } = X := ⟨_, rfl⟩
  have HXT := Lib.hid (show X.T.length = 32 by rw [← hX]; rfl)
  have HX := Lib.hid hX
  have hl5 := (chkP_ok hchk).2.2.2.2.1
  have hl5' : p.l.length ≤ 512 := hl5
  rw [hX] at hchk
  have hXA : X.A = p.A := by rw [← hX]
  have hXl : X.l = p.l := by rw [← hX]
  have hXc : X.cp = p.cp := by rw [← hX]
  have hXh : hdB X = hdB p := by rw [← hX]; rfl
  obtain ⟨K, hK⟩ : ∃ K, macT kb (hdB p) = K := ⟨_, rfl⟩
  have HKT := Lib.hid (show K.length = 32 by rw [← hK]; rfl)
  obtain ⟨hl, hhl⟩ : ∃ n, (hdB p).length = n := ⟨_, rfl⟩
  have hhl6 : hl ≤ 600 := by rw [← hhl, hdB_len]; omega
  have HHD := Lib.hid (show ∀ w', Below w.heap.size w w' → Calls Try.prog 24 #[.agg (pkc X)] w' fun e w2 => ∃ v, e = .returned (.tuple #[v, .int .i64 0]) ∧ FrB w'.heap.size w2 v (hdB p) ∧ Below w'.heap.size w' w2 from fun w' hb => by
    have h := head_ok X HXT.out w' hchk (by rw [hXA, hXl]; exact hr.keep hb)
    rw [hXh] at h
    exact h)
  have HCN := Lib.hid (show ∀ w', Below w.heap.size w w' → Calls Try.prog 22 #[.slice p.A N p.cp] w' (RetFresh w' 5 1 N (by8 p.l)) from fun w' hb => by
    subst hN
    exact clone_any p.A p.cp p.l w' (hr.keep hb) (by omega))
  have HTG := Lib.hid (show ∀ w' (A1 : Option Addr) (c1 : Nat) (q : Pt), q.l = hdB p → Below w.heap.size w w' → Pts w' A1 [q] → Calls Try.prog 25 #[.pointer (some ⟨gk, 0, none⟩), .slice A1 1 c1] w' fun e w2 => e = .returned (.agg (b8a K)) ∧ Below w'.heap.size w' w2 from fun w' A1 c1 q hq hb hp => by
    have hcat : catP [q] = hdB p := by simp [catP, hq]
    have h := ktag_any w' gk kb (hk.keep hb) hkl A1 c1 [q] hp (by simp) (by rw [hcat, hhl]; omega)
    rw [hcat, hK] at h
    exact h)
  have HXL := Lib.hid (show X.l.length = N by rw [hXl, hN])
  have HXA := Lib.hid hXA
  have HXC := Lib.hid hXc
  have HNN := Lib.hid hN
  have HHL := Lib.hid hhl
  have HHX := Lib.hid (show ∀ A2 c2, ({ X with A := A2, l := p.l, cp := c2, T := K } : Pk) = { p with A := A2, cp := c2, T := K } from fun A2 c2 => by rw [← hX])
  rw [hK]
  clear m1 hT hpl hX hchk hr hk hkl hXA hXl hXc hXh hK hN hhl hl5
  go_enter Try.func8, Try.ntmps8
  go_upto_region 1 with fail
  generalize hw1 : World.alloc (World.alloc _ _) _ = w1
  have Mq := Lib.hid (M1.out.toVP hw1 rfl)
  clear hw1 M1
  obtain ⟨x0, x1, x2, x3, x4, x5, x6, x7, x8⟩ := pkc_cells (Mq.out.blk [_])
  clear x1 x2 x3 x4 x5 x6 x7 x8
  go_upto_region 6 with (first | (go_at_call 23; refine (HPL.out _).mono ?_; rintro e wk ⟨rfl, rfl⟩) | refine wpList_buildG (by first | rfl | kernel_rfl) _ rfl (.agg (b8a Z32)) (build_tag0 _) ?_ | refine wpList_store_mid rfl _ _ _ rfl w.heap.size 9 (b8a Z32) rfl rfl (Bk.thereP (Mq.out.blk [_]) 9 _ (by rw [pkc_size HT.out, b8a_size, HZ.out]; decide)) (info_tagA HZ.out) (b8a_one _) ?_)
  generalize hw2 : World.setCells _ _ _ _ = w2
  have mq := (Mst.putAt (by8 Z32) [_] Mq.out 9).toVP hw2 rfl
  rw [putAt_tag p Z32 HT.out HZ.out, HX.out] at mq
  have Mq := Lib.hid mq
  clear hw2 mq x0
  go_wp2_with (first | refine wpList_loadG (by first | rfl | kernel_rfl) _ _ rfl w.heap.size 0 rfl (pkc X) _ (pkc_whole (Mq.out.blk [_])) Try.underlying33 rfl (info_pk HXT.out) ?_)
  with_reducible refine (HHD.out _ Mq.out.bel).mono ?_
  rintro r wq ⟨v, rfl, hf, hb⟩
  have HF := Lib.hid (hf.base (B' := w.heap.size + 1) (Mq.out.blk [_]).lt)
  obtain ⟨Ah, ch, hv, -⟩ := hf.rb
  rw [HHL.out] at hv
  subst hv
  have Mq := Lib.hid (Mq.out.below hb)
  clear hf hb
  obtain ⟨x0, x1, x2, x3, x4, x5, x6, x7, x8⟩ := pkc_cells (Mq.out.blk [_])
  clear x0 x1 x2 x3 x4 x5 x6 x7
  rw [HXA.out, HXL.out, HXC.out] at x8
  go_wp2_with fail
  with_reducible refine (HCN.out _ Mq.out.bel).mono ?_
  rintro r wq2 hret
  obtain ⟨A2, c2, rfl, hf2⟩ := hret.toP
  have Mq := Lib.hid (Mq.out.addr hf2)
  have HF := Lib.hid (HF.out.below hf2.bel)
  clear hret hf2 x8
  have y8 := (Mq.out.blk [_]).cell 8
  have f8 := (Mq.out.blk [_]).fr 8
  obtain ⟨x0, x1, x2, x3, x4, x5, x6, x7, x8⟩ := pkc_cells (Mq.out.blk [_])
  clear x0 x1 x2 x3 x4 x5 x6 x7 y8
  go_upto_region 10 with fail
  generalize hw3 : World.setCell _ _ _ = w3
  have mq := (Mst.put [_] Mq.out 8 (.slice A2 N c2)).toVP hw3 rfl
  rw [pkc_set8 X A2 p.l N c2 HNN.out] at mq
  have ho : On wq2 w3 w.heap.size := by rw [← hw3]; exact (On.refl _ _).set (.inl rfl) _
  have HF := Lib.hid (HF.out.on ho (by omega))
  have Mq := Lib.hid mq
  clear hw3 mq ho x8 f8
  go_wp2_with fail
  generalize hw4 : World.alloc _ _ = w4
  obtain ⟨y, m4, hp⟩ := ptsOneE (c := ch) Mq.out HHL.out HF.out.rbE hw4
  have Mq := Lib.hid m4
  have HP := Lib.hid hp
  clear hw4 m4 hp HF
  with_reducible refine (HTG.out _ _ _ _ rfl Mq.out.bel HP.out).mono ?_
  rintro r wq4 ⟨rfl, hb⟩
  have Mq := Lib.hid (Mq.out.below hb)
  clear hb HP
  have HXT2 := Lib.hid (show ({ X with A := A2, l := p.l, cp := c2 } : Pk).T.length = 32 from HXT.out)
  go_upto_region 11 with (first | refine wpList_store_mid rfl _ _ _ rfl w.heap.size 9 (b8a K) rfl rfl (Bk.thereP (Mq.out.blk [_]) 9 _ (by rw [pkc_size (p := { X with A := A2, l := p.l, cp := c2 }) HXT2.out, b8a_size, HKT.out]; decide)) (info_tagA HKT.out) (b8a_one _) ?_)
  generalize hw5 : World.setCells _ _ _ _ = w5
  have mq := (Mst.putAt (by8 K) [_] Mq.out 9).toVP hw5 rfl
  rw [putAt_tag { X with A := A2, l := p.l, cp := c2 } K HXT2.out HKT.out] at mq
  obtain ⟨Y, hY⟩ : ∃ Y : Pk, { p with A := A2, cp := c2, T := K } = Y := ⟨_, rfl⟩
  have HYT := Lib.hid (show Y.T.length = 32 by rw [← hY]; exact HKT.out)
  have mq2 : Mst w w5 ((w.heap.size + 1, 33, Y41) :: (w.heap.size, 33, pkc Y) :: []) [y, ⟨5, 1, .slice A2 N c2, N, by8 p.l⟩] := by
    rw [← hY, ← HHX.out]
    exact mq
  have HY := Lib.hid hY
  have Mq := Lib.hid mq2
  clear hw5 mq mq2 hY
  go_wp2_with (first | refine wpList_loadG (by first | rfl | kernel_rfl) _ _ rfl w.heap.size 0 rfl (pkc Y) _ (pkc_whole (Mq.out.blk [_])) Try.underlying33 rfl (info_pk HYT.out) ?_ | refine wpList_store_row rfl _ _ _ rfl (w.heap.size + 1) (pkc Y) rfl rfl 33 _ (Mq.out.blk []) (info_pk HYT.out) (y41_k HYT.out) (pkc_one _) ?_)
  have MF := Lib.hid (Mst.setRow (bl := []) [] Mq.out (pkc Y))
  exact bodyPost_ret (results_cell2P rfl _ _ (w.heap.size + 1) 33 _ (0, 0) _ rfl (setRow_heap _ _ _ _ _ _ (Mq.out.blk [])) Try.underlying33 rfl (info_pk HYT.out)) rfl ⟨A2, c2, by rw [HY.out]; rfl, ⟨MF.out.bel, MF.out.row [_]⟩⟩
end Go.Proofs.Ytnbemfceoianiaa

/- Packets: Holds. -/
namespace Go.Proofs.Ytnbemfceoianiaa
set_option linter.unusedVariables false
set_option linter.unusedSimpArgs false
open Go.RowKit
set_option maxRecDepth 100000 in
set_option maxHeartbeats 4000000 in
theorem holds_gen (p : Pk) (hT : p.T.length = 32) (kv : Value) (w : World) (E : Int) (D : Bool) (hE : E ≠ 0 → D = false)
    (h : ∀ w', Below w.heap.size w w' → Calls Try.prog 8 #[.agg (pkc p), kv] w' fun e w2 => ∃ X : Pk, X.T.length = 32 ∧ e = .returned (.tuple #[.agg (pkc X), .int .i64 E]) ∧ Below w'.heap.size w' w2 ∧ (E = 0 → D = decide (X.T = p.T))) :
    Calls Try.prog 11 #[.agg (pkc p), kv] w fun e w' => e = .returned (.bool D) ∧ Below w.heap.size w w' := by
  have m1 := (Mst.start w).new 33 (pkc p)
  have Mq := Lib.hid m1
  have HT := Lib.hid hT
  have HTA := Lib.hid h
  clear m1 h hT
  go_enter Try.func11, Try.ntmps11
  go_wp2_with (first | refine wpList_loadG (by first | rfl | kernel_rfl) _ _ rfl w.heap.size 0 rfl (pkc p) _ (pkc_whole (Mq.out.blk [])) Try.underlying33 rfl (info_pk HT.out) ?_)
  with_reducible refine (HTA.out _ Mq.out.bel).mono ?_
  rintro r wq ⟨X, hXT, rfl, hb, hd⟩
  have HXT := Lib.hid hXT
  have Mq := Lib.hid ((Mq.out.below hb).new 33 Y41)
  clear hb hXT HTA
  by_cases hE0 : E = 0
  · subst hE0
    have hdd := hd rfl
    have HEQ := Lib.hid (show ∀ w', Mst w w' [(wq.heap.size, 33, pkc X), (w.heap.size, 33, pkc p)] [] → Calls Try.prog 29 #[.slice (some ⟨wq.heap.size, 9, none⟩) 32 32, .slice (some ⟨w.heap.size, 9, none⟩) 32 32] w' fun e w2 => e = .returned (.bool D) ∧ Below w'.heap.size w' w2 from fun w' h => by
      have := equal2_any (some ⟨wq.heap.size, 9, none⟩) (some ⟨w.heap.size, 9, none⟩) 32 32 X.T p.T w' (pkc_rb (h.blk [])) (pkc_rb (h.blk [_])) (by rw [HXT.out]; decide)
      rw [HXT.out, HT.out, ← hdd] at this
      exact this)
    clear hd hdd hE
    go_upto_region 2 with (first | refine wpList_store_row rfl _ _ _ rfl wq.heap.size (pkc X) rfl rfl 33 _ (Mq.out.blk []) (info_pk HXT.out) (y41_k HXT.out) (pkc_one _) ?_)
    generalize hw2 : World.setRow _ _ _ = w2
    have Mq := Lib.hid ((Mst.setRow (bl := []) [] Mq.out (pkc X)).toVP hw2 rfl)
    clear hw2
    have HOC := Lib.hid (show ∀ w', Mst w w' [(wq.heap.size, 33, pkc X), (w.heap.size, 33, pkc p)] [] → w'.cell? ⟨w.heap.size, 0, none⟩ = some (.int .i64 p.k) from fun w' h => (pkc_cells (h.blk [_])).1)
    have K0 := Lib.hid (HOC.out _ Mq.out.drew)
    refine wp_region_held_drew (S := fun w' => w'.cell? ⟨w.heap.size, 0, none⟩ = some (.int .i64 p.k)) (by kernel_rfl) ?_ (fun hHeld => ?_)
    · exact K0.out
    generalize hw7 : World.drew _ = w7 at hHeld ⊢; have Mq := Lib.hid (Mq.out.drew.toVP hw7 rfl); clear hw7
    refine wpAnyH_take (i := 0) (v := ?_) rfl (by kernel_rfl) (by kernel_rfl) (by kernel_rfl) (fun _ _ _ h => h) (Or.inl ⟨by rfl, ?_⟩) (by assumption) ?_
    rotate_left
    · intro w hSw; (try dsimp only at hSw); go_split_ands; go_simp; with_reducible rfl
    change wpAnyH _ _ _ _ _ _ _ (Act.put _ (some 13) _) _
    simp only [Act.put, List.setIfInBounds_toArray, List.set_cons_zero, List.set_cons_succ, Array.toArray_toList]
    refine wpAnyH_take (i := 1) (v := ?_) rfl (by kernel_rfl) (by kernel_rfl) (by kernel_rfl) (fun _ _ _ h => h) (Or.inl ⟨by rfl, ?_⟩) (by assumption) ?_
    rotate_left
    · intro w hSw; (try dsimp only at hSw); go_split_ands; go_simp; with_reducible rfl
    change wpAnyH _ _ _ _ _ _ _ (Act.put _ (some 14) _) _
    simp only [Act.put, List.setIfInBounds_toArray, List.set_cons_zero, List.set_cons_succ, Array.toArray_toList]
    refine wpAnyH_take (i := 2) (v := ?_) rfl (by kernel_rfl) (by kernel_rfl) (by kernel_rfl) (fun _ _ _ h => h) (Or.inl ⟨by rfl, ?_⟩) (by assumption) ?_
    rotate_left
    · intro w hSw; (try dsimp only at hSw); go_split_ands; go_simp; with_reducible rfl
    change wpAnyH _ _ _ _ _ _ _ (Act.put _ (some 15) _) _
    simp only [Act.put, List.setIfInBounds_toArray, List.set_cons_zero, List.set_cons_succ, Array.toArray_toList]
    refine wpAnyH_take (i := 3) (v := ?_) rfl (by kernel_rfl) (by kernel_rfl) (by kernel_rfl) (fun _ _ _ h => h) (Or.inl ⟨by rfl, ?_⟩) (by assumption) ?_
    rotate_left
    · intro w hSw; (try dsimp only at hSw); go_split_ands; go_simp; with_reducible rfl
    change wpAnyH _ _ _ _ _ _ _ (Act.put _ (some 16) _) _
    simp only [Act.put, List.setIfInBounds_toArray, List.set_cons_zero, List.set_cons_succ, Array.toArray_toList]
    refine wpAnyH_take (i := 4) (v := ?_) rfl (by kernel_rfl) (by kernel_rfl) (by kernel_rfl) (fun _ _ _ h => h) (Or.inl ⟨by rfl, ?_⟩) (by assumption) ?_
    rotate_left
    · intro w hSw; (try dsimp only at hSw); go_split_ands; go_simp; with_reducible rfl
    change wpAnyH _ _ _ _ _ _ _ (Act.put _ (some 17) _) _
    simp only [Act.put, List.setIfInBounds_toArray, List.set_cons_zero, List.set_cons_succ, Array.toArray_toList]
    refine wpAnyH_take (i := 5) (v := ?_) rfl (by kernel_rfl) (by kernel_rfl) (by kernel_rfl) (fun _ _ _ h => h) (Or.inl ⟨by rfl, ?_⟩) (by assumption) ?_
    rotate_left
    · intro w hSw; (try dsimp only at hSw); go_split_ands; go_simp; with_reducible rfl
    change wpAnyH _ _ _ _ _ _ _ (Act.put _ (some 18) _) _
    simp only [Act.put, List.setIfInBounds_toArray, List.set_cons_zero, List.set_cons_succ, Array.toArray_toList]
    refine wpAnyH_take (i := 6) (v := ?_) rfl (by kernel_rfl) (by kernel_rfl) (by kernel_rfl) (fun _ _ _ h => h) (Or.inl ⟨by rfl, ?_⟩) (by assumption) ?_
    rotate_left
    · intro w hSw; (try dsimp only at hSw); go_split_ands; go_simp; with_reducible rfl
    change wpAnyH _ _ _ _ _ _ _ (Act.put _ (some 19) _) _
    simp only [Act.put, List.setIfInBounds_toArray, List.set_cons_zero, List.set_cons_succ, Array.toArray_toList]
    refine wpAnyH_ready (rs := [7]) (by kernel_rfl) (by simp) ?_
    refine (AllReadyH.cons rfl (fun K hK => ?_) AllReadyH.nil)
    go_simp
    (with_reducible refine (HEQ.out _ Mq.out).mono ?_); rintro e wq ⟨rfl, hb⟩; have Mq := Lib.hid (Mq.out.below hb); clear hb
    go_wp2_with fail
    refine hK.out _ _ (by exact HOC.out _ Mq.out) (fun hHeld => ?_)
    clear hK K
    refine wpAnyH_take (i := 8) (v := ?_) rfl (by kernel_rfl) (by kernel_rfl) (by kernel_rfl) (fun _ _ _ h => h) (Or.inl ⟨by rfl, ?_⟩) (by assumption) ?_
    rotate_left
    · intro w hSw; (try dsimp only at hSw); go_split_ands; go_simp; with_reducible rfl
    change wpAnyH _ _ _ _ _ _ _ (Act.put _ (some 21) _) _
    simp only [Act.put, List.setIfInBounds_toArray, List.set_cons_zero, List.set_cons_succ, Array.toArray_toList]
    refine wpAnyH_take (i := 9) (v := ?_) rfl (by kernel_rfl) (by kernel_rfl) (by kernel_rfl) (fun _ _ _ h => h) (Or.inl ⟨by rfl, ?_⟩) (by assumption) ?_
    rotate_left
    · intro w hSw; (try dsimp only at hSw); go_split_ands; go_simp; with_reducible rfl
    change wpAnyH _ _ _ _ _ _ _ (Act.put _ (some 4) _) _
    simp only [Act.put, List.setIfInBounds_toArray, List.set_cons_zero, List.set_cons_succ, Array.toArray_toList]
    refine wpAnyH_done (by kernel_rfl) ?_ _
    go_wp2
    go_ret
    exact ⟨rfl, Mq.out.bel⟩
  · have hDf := hE hE0
    subst hDf
    have hc1 : (E == 0) = false := by simpa using hE0
    have hc2 : (E != 0) = true := by simpa using hE0
    clear hd hE
    go_upto_region 2 with (first | refine wpList_store_row rfl _ _ _ rfl wq.heap.size (pkc X) rfl rfl 33 _ (Mq.out.blk []) (info_pk HXT.out) (y41_k HXT.out) (pkc_one _) ?_)
    generalize hw2 : World.setRow _ _ _ = w2
    have Mq := Lib.hid ((Mst.setRow (bl := []) [] Mq.out (pkc X)).toVP hw2 rfl)
    clear hw2
    go_region
    go_wp2_with fail
    go_ret
    exact ⟨rfl, Mq.out.drew.bel⟩
theorem holds_nil (p : Pk) (hT : p.T.length = 32) (w : World) : Calls Try.prog 11 #[.agg (pkc p), .pointer none] w fun e w' => e = .returned (.bool false) ∧ Below w.heap.size w w' :=
  holds_gen p hT _ w 1 false (fun _ => rfl) fun w' hb => (tagged_nil p hT w').mono fun e w2 h => ⟨Pk0, rfl, h.1, h.2, fun h => absurd h (by decide)⟩
theorem holds_plain (p : Pk) (hT : p.T.length = 32) (hpl : p.k = 1 ∨ p.k = 2) (gk : Nat) (w : World) : Calls Try.prog 11 #[.agg (pkc p), .pointer (some ⟨gk, 0, none⟩)] w fun e w' => e = .returned (.bool false) ∧ Below w.heap.size w w' :=
  holds_gen p hT _ w 11 false (fun _ => rfl) fun w' hb => (tagged_plain p hT hpl gk w').mono fun e w2 h => ⟨Pk0, rfl, h.1, h.2, fun h => absurd h (by decide)⟩
theorem holds_bad (p : Pk) (hT : p.T.length = 32) (hpl : ¬ (p.k = 1 ∨ p.k = 2)) (hchk : chkP { p with T := Z32 } ≠ 0) (gk : Nat) (w : World) : Calls Try.prog 11 #[.agg (pkc p), .pointer (some ⟨gk, 0, none⟩)] w fun e w' => e = .returned (.bool false) ∧ Below w.heap.size w w' :=
  holds_gen p hT _ w _ false (fun _ => rfl) fun w' hb => (tagged_bad p hT hpl hchk gk w').mono fun e w2 h => ⟨Pk0, rfl, h.1, h.2, fun h => absurd h hchk⟩
theorem holds_ok (p : Pk) (hT : p.T.length = 32) (hpl : ¬ (p.k = 1 ∨ p.k = 2)) (hchk : chkP { p with T := Z32 } = 0) (w : World) (hr : RB w w.heap.size p.A p.l) (gk : Nat) (kb : List UInt8) (hk : KeyW w gk kb) (hkl : kb.length ≤ 100000) :
    Calls Try.prog 11 #[.agg (pkc p), .pointer (some ⟨gk, 0, none⟩)] w fun e w' => e = .returned (.bool (decide (macT kb (hdB p) = p.T))) ∧ Below w.heap.size w w' :=
  holds_gen p hT _ w 0 _ (fun h => absurd rfl h) fun w' hb => (tagged_ok w' p hT hpl hchk (hr.keep hb) gk kb (hk.keep hb) hkl _ rfl).mono fun e w2 h => by
    obtain ⟨A', c', he, hf⟩ := h
    exact ⟨_, macT_len _ _, he, hf.bel, fun _ => rfl⟩
/-- What Holds answers. -/
def holdP (kb : List UInt8) (p : Pk) : Bool := !(decide (p.k = 1 ∨ p.k = 2)) && (decide (chkP { p with T := Z32 } = 0) && decide (macT kb (hdB p) = p.T))
theorem holds_any (p : Pk) (hT : p.T.length = 32) (w : World) (hr : RB w w.heap.size p.A p.l) (gk : Nat) (kb : List UInt8) (hk : KeyW w gk kb) (hkl : kb.length ≤ 100000) :
    Calls Try.prog 11 #[.agg (pkc p), .pointer (some ⟨gk, 0, none⟩)] w fun e w' => e = .returned (.bool (holdP kb p)) ∧ Below w.heap.size w w' := by
  unfold holdP
  by_cases h1 : p.k = 1 ∨ p.k = 2
  · rw [decide_eq_true h1]
    exact holds_plain p hT h1 gk w
  · rw [decide_eq_false h1]
    by_cases h2 : chkP { p with T := Z32 } = 0
    · rw [decide_eq_true h2]
      exact holds_ok p hT h1 h2 w hr gk kb hk hkl
    · rw [decide_eq_false h2]
      exact holds_bad p hT h1 h2 gk w
end Go.Proofs.Ytnbemfceoianiaa

/- Packets: the document's Tag. -/
namespace Go.Proofs.Ytnbemfceoianiaa
set_option linter.unusedVariables false
set_option linter.unusedSimpArgs false
open Go.RowKit
set_option maxRecDepth 100000 in
set_option maxHeartbeats 4000000 in
theorem rtag14_any (KT : Array Value) (hKT : RSum KT) (w : World) (A : Option Addr) (c n : Nat) (key : List UInt8) (hn : key.length = n) (hr : RB w w.heap.size A key) (hk : key.length ≤ 100000) (p : Pk) (hT : p.T.length = 32) (hchk : chkP p = 0) (hp : RB w w.heap.size p.A p.l) :
    Calls Try.prog 12 #[.agg KT, .slice A n c, .agg (pkc p)] w fun e w' => e = .returned (.agg (b8a (macT key (hdB p)))) ∧ Below w.heap.size w w' := by
  subst hn
  have m1 := (((Mst.start w).new 45 KT).new 29 (pkc p)).new 27 Y32
  rw [show ((w.alloc (.cells KT 45)).alloc (.cells (pkc p) 29)).heap.size = w.heap.size + 2 by simp, show (w.alloc (.cells KT 45)).heap.size = w.heap.size + 1 by simp] at m1
  have M1 := Lib.hid m1
  have hl5 : p.l.length ≤ 512 := (chkP_ok hchk).2.2.2.2.1
  have HH := Lib.hid (show ∀ w', Below w.heap.size w w' → _ from fun w' hb => rhead_ok p hT w' hchk (hp.keep hb))
  have hhl := hdB_len p
  have HTG := Lib.hid (show ∀ w' A2 c2, Below w.heap.size w w' → RB w' w'.heap.size A2 (hdB p) → Calls Try.prog 30 #[.agg KT, .slice A key.length c, .slice A2 (20 + p.l.length) c2] w' fun e w2 => e = .returned (.agg (b8a (macT key (hdB p)))) ∧ Below w'.heap.size w' w2 from fun w' A2 c2 hb h2 => by
    have h := reftag_any KT hKT w' A c key (hr.keep hb) hk A2 c2 (hdB p) h2 (by omega)
    rw [hhl] at h
    exact h)
  obtain ⟨H, hH⟩ : ∃ H, hdB p = H := ⟨_, rfl⟩
  obtain ⟨L, hL⟩ : ∃ L, p.l.length = L := ⟨_, rfl⟩
  obtain ⟨N, hN⟩ : ∃ L, key.length = L := ⟨_, rfl⟩
  obtain ⟨Kt, hK⟩ : ∃ K, macT key H = K := ⟨_, rfl⟩
  have KL := Lib.hid (show Kt.length = 32 by rw [← hK]; rfl)
  rw [hH, hL] at HH hhl
  rw [hH, hL, hN, hK] at HTG
  rw [hH, hN, hK]
  have HHL := Lib.hid hhl
  have HT := Lib.hid hT
  have HKI := Lib.hid hKT.infL
  have HIN := Lib.hid (show (Try.prog.info? 29).map (·.size) = some (pkc p).toList.length from by rw [Array.length_toList]; exact info_rpk hT)
  have hu : ∃ d, Try.prog.underlying 45 = some d ∧ d.isRow = true := ⟨_, Try.underlying45, rfl⟩
  obtain ⟨d, hu, hd⟩ := hu
  have HCE := Lib.hid (show ∀ w' x ow', Mst w w' (x :: (w.heap.size + 1, 29, pkc p) :: (w.heap.size, 45, KT) :: []) ow' → w'.rangeAt w.heap.size 0 KT.toList ∧ w'.rangeAt (w.heap.size + 1) 0 (pkc p).toList from fun w' x ow' h => ⟨(h.blk [_, _]).rangeL, pkc_whole (h.blk [_])⟩)
  clear m1 hT hchk hp hr hl5 hKT hk hH hL hN hK hhl
  go_enter Try.func12, Try.ntmps12
  go_upto_region 1 with fail
  generalize hw1 : World.alloc (World.alloc (World.alloc _ _) _) _ = w1
  have Mq := Lib.hid (M1.out.toVP hw1 rfl)
  clear hw1 M1
  have K0 := Lib.hid (HCE.out _ _ _ Mq.out.drew)
  refine wp_region_held_drew (S := fun w' => w'.rangeAt w.heap.size 0 KT.toList ∧ w'.rangeAt (w.heap.size + 1) 0 (pkc p).toList) (by kernel_rfl) ?_ (fun hHeld => ?_)
  · exact K0.out
  generalize hw7 : World.drew _ = w7 at hHeld ⊢
  have Mq := Lib.hid (Mq.out.drew.toVP hw7 rfl)
  clear hw7
  refine wpAnyH_take (i := 0) rfl (by kernel_rfl) (by kernel_rfl) (by kernel_rfl) (fun _ _ _ h => h) (yieldsIf_load_mid (by rfl) _ _ rfl _ _ rfl _ _ (fun w hw => hw.1) hu hd HKI.out) (by assumption) ?_
  change wpAnyH _ _ _ _ _ _ _ (Act.put _ (some 7) _) _
  simp only [Act.put, List.setIfInBounds_toArray, List.set_cons_zero, List.set_cons_succ, Array.toArray_toList]
  refine wpAnyH_take (i := 1) (v := ?_) rfl (by kernel_rfl) (by kernel_rfl) (by kernel_rfl) (fun _ _ _ h => h) (Or.inl ⟨by rfl, ?_⟩) (by assumption) ?_
  rotate_left
  · intro w hSw; (try dsimp only at hSw); go_split_ands; go_simp; with_reducible rfl
  change wpAnyH _ _ _ _ _ _ _ (Act.put _ (some 8) _) _
  simp only [Act.put, List.setIfInBounds_toArray, List.set_cons_zero, List.set_cons_succ, Array.toArray_toList]
  refine wpAnyH_take (i := 2) rfl (by kernel_rfl) (by kernel_rfl) (by kernel_rfl) (fun _ _ _ h => h) (yieldsIf_load_mid (by rfl) _ _ rfl _ _ rfl _ _ (fun w hw => hw.2) Try.underlying29 rfl HIN.out) (by assumption) ?_
  change wpAnyH _ _ _ _ _ _ _ (Act.put _ (some 9) _) _
  simp only [Act.put, List.setIfInBounds_toArray, List.set_cons_zero, List.set_cons_succ, Array.toArray_toList]
  refine wpAnyH_ready (rs := [3]) (by kernel_rfl) (by simp) ?_
  refine (AllReadyH.cons rfl (fun K hK => ?_) AllReadyH.nil)
  go_simp
  (with_reducible refine (HH.out _ Mq.out.bel).mono ?_); rintro r wq hrf; obtain ⟨A2, c2, rfl, hf⟩ := hrf.toP; have Mq := Lib.hid (Mq.out.addr hf); clear hrf hf
  go_wp2_with fail
  refine hK.out _ _ (by exact HCE.out _ _ _ Mq.out) (fun hHeld => ?_)
  clear hK K
  refine wpAnyH_ready (rs := [4]) (by kernel_rfl) (by simp) ?_
  refine (AllReadyH.cons rfl (fun K hK => ?_) AllReadyH.nil)
  go_simp
  (with_reducible refine (HTG.out _ _ _ Mq.out.bel (by unfold RB; rw [HHL.out]; exact Mq.out.src (Mq.out.rowSrc (List.mem_cons_self ..)))).mono ?_); rintro r wq ⟨rfl, hb⟩; have Mq := Lib.hid (Mq.out.below hb); clear hb
  go_wp2_with fail
  refine hK.out _ _ (by exact HCE.out _ _ _ Mq.out) (fun hHeld => ?_)
  clear hK K
  refine wpAnyH_ready (rs := [5]) (by kernel_rfl) (by simp) ?_
  refine (AllReadyH.cons rfl (fun K hK => ?_) AllReadyH.nil)
  refine step_store_row rfl _ _ _ rfl (w.heap.size + 2) (b8a Kt) rfl rfl 27 _ (Mq.out.blk []) (info_k KL.out) (y32_k KL.out) (b8a_one Kt) ?_; have Mq := Lib.hid (Mst.setRow (bl := []) [] Mq.out (b8a Kt))
  refine hK.out _ _ (by exact HCE.out _ _ _ Mq.out) (fun hHeld => ?_)
  clear hK K
  refine wpAnyH_done (by kernel_rfl) ?_ _
  go_wp2
  exact bodyPost_ret (results_cell_row rfl _ _ (w.heap.size + 2) 27 _ (0, 0) _ rfl (Mq.out.blk []) Try.underlying27 rfl (info_k KL.out)) rfl ⟨rfl, Mq.out.bel⟩
end Go.Proofs.Ytnbemfceoianiaa
