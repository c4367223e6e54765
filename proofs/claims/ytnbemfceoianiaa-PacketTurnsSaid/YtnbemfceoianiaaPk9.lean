/- Packets: Same, the program's and the document's (printed by genpsame.py). -/
import Derived.Test.YtnbemfceoianiaaPkB
import Derived.Test.YtnbemfceoianiaaEq2
namespace Go.Proofs.Ytnbemfceoianiaa
set_option linter.unusedVariables false
set_option linter.unusedSimpArgs false
open Go.RowKit
def eq4 (a b c d e f g h : Int) : Bool := a == e && (b == f && (c == g && d == h))
theorem eq4cl (a b c d e f g h : Int) (w : World) : (binOp .eql 30 (.agg #[.int .i64 a, .int .i64 b, .int .i64 c, .int .i64 d]) (.agg #[.int .i64 e, .int .i64 f, .int .i64 g, .int .i64 h])).run Try.prog w = .ok (.bool (eq4 a b c d e f g h)) w := by
  unfold eq4
  cases h1 : (a == e) <;> cases h2 : (b == f) <;> cases h3 : (c == g) <;> cases h4 : (d == h) <;> go_simp
theorem eq4rc (a b c d e f g h : Int) (w : World) : (binOp .eql 23 (.agg #[.int .i64 a, .int .i64 b, .int .i64 c, .int .i64 d]) (.agg #[.int .i64 e, .int .i64 f, .int .i64 g, .int .i64 h])).run Try.prog w = .ok (.bool (eq4 a b c d e f g h)) w := by
  unfold eq4
  cases h1 : (a == e) <;> cases h2 : (b == f) <;> cases h3 : (c == g) <;> cases h4 : (d == h) <;> go_simp
/-- The same packet, but for where its body lies? -/
def eqP (p q : Pk) : Bool := (p.k == q.k) && (eq4 p.i p.r p.x p.s q.i q.r q.x q.s && ((p.t == q.t) && (eq2 p.b p.c q.b q.c && (decide (p.T = q.T) && decide (p.l = q.l)))))
set_option maxRecDepth 100000 in
set_option maxHeartbeats 8000000 in
theorem psame_any (p q : Pk) (hp : p.T.length = 32) (hq : q.T.length = 32) (w : World) (hr : RB w w.heap.size p.A p.l) (hs : RB w w.heap.size q.A q.l) (hl : p.l.length ≤ 1000000) :
    Calls Try.prog 17 #[.agg (pkc p), .agg (pkc q)] w fun e w' => e = .returned (.bool (eqP p q)) ∧ Below w.heap.size w w' := by
  have m1 := (Mst.start w).new 33 (pkc p)
  have m2 := m1.new 33 (pkc q)
  rw [show (w.alloc (.cells (pkc p) 33)).heap.size = w.heap.size + 1 by simp] at m2
  have M2 := Lib.hid m2
  obtain ⟨L, hL⟩ : ∃ L, p.l.length = L := ⟨_, rfl⟩
  obtain ⟨K, hK⟩ : ∃ K, q.l.length = K := ⟨_, rfl⟩
  have hcp := pkc_cells (m2.blk [_])
  have hcq := pkc_cells (m2.blk [])
  rw [hL] at hcp
  rw [hK] at hcq
  obtain ⟨c0, c1, c2, c3, c4, c5, c6, c7, c8⟩ := hcp
  obtain ⟨d0, d1, d2, d3, d4, d5, d6, d7, d8⟩ := hcq
  have HB := Lib.hid (show ∀ w', Below w.heap.size w w' → Calls Try.prog 42 #[.slice p.A L p.cp, .slice q.A K q.cp] w' fun e w2 => e = .returned (.bool (decide (p.l = q.l))) ∧ Below w'.heap.size w' w2 from fun w' hb => by
    have h1 := (RB.below hr hb).more hb.size
    have h2 := (RB.below hs hb).more hb.size
    rw [← hL, ← hK]
    refine (equal_is p.A q.A p.cp q.cp p.l q.l _ rfl w' h1 h2).mono ?_
    rintro e w2 ⟨rfl, rfl⟩
    exact ⟨rfl, Below.refl _ _⟩)
  have HP := Lib.hid hp
  have HQ := Lib.hid hq
  have HE := Lib.hid (show eqP p q = ((p.k == q.k) && (eq4 p.i p.r p.x p.s q.i q.r q.x q.s && ((p.t == q.t) && (eq2 p.b p.c q.b q.c && (decide (p.T = q.T) && decide (p.l = q.l)))))) from rfl)
  have HT := Lib.hid (fun w => eqlP p.T q.T hp hq w)
  have e2 := fun w => eq4cl p.i p.r p.x p.s q.i q.r q.x q.s w
  have e4 := fun w => eq_winNonce w p.b p.c q.b q.c
  obtain ⟨R, hR⟩ : ∃ R, eqP p q = R := ⟨_, rfl⟩
  rw [hR] at HE ⊢
  clear m1 m2 hr hs hl hp hq hL hK hR
  cases e1 : (p.k == q.k)
  · rw [e1] at HE
    rw [Bool.false_and] at HE
    go_enter Try.func17, Try.ntmps17
    go_wp2_with fail
    go_ret
    exact ⟨by rw [HE.out]; rfl, M2.out.bel⟩
  · rw [e1, Bool.true_and] at HE
    cases b2 : eq4 p.i p.r p.x p.s q.i q.r q.x q.s
    · rw [b2, Bool.false_and] at HE
      rw [b2] at e2
      go_enter Try.func17, Try.ntmps17
      go_wp2_with fail
      go_ret
      exact ⟨by rw [HE.out]; rfl, M2.out.bel⟩
    · rw [b2, Bool.true_and] at HE
      rw [b2] at e2
      cases e3 : (p.t == q.t)
      · rw [e3, Bool.false_and] at HE
        go_enter Try.func17, Try.ntmps17
        go_wp2_with fail
        go_ret
        exact ⟨by rw [HE.out]; rfl, M2.out.bel⟩
      · rw [e3, Bool.true_and] at HE
        cases b4 : eq2 p.b p.c q.b q.c
        · rw [b4, Bool.false_and] at HE
          rw [b4] at e4
          go_enter Try.func17, Try.ntmps17
          go_wp2_with fail
          go_ret
          exact ⟨by rw [HE.out]; rfl, M2.out.bel⟩
        · rw [b4, Bool.true_and] at HE
          rw [b4] at e4
          cases b5 : decide (p.T = q.T)
          · rw [b5, Bool.false_and] at HE
            rw [b5] at HT
            clear b2 b4 b5
            go_enter Try.func17, Try.ntmps17
            go_wp2_with (first | refine wpList_loadG (by first | rfl | kernel_rfl) _ _ rfl w.heap.size 9 rfl (b8a p.T) _ (pkc_range (M2.out.blk [_])) Try.underlying27 rfl (info_tagA HP.out) ?_ | refine wpList_loadG (by first | rfl | kernel_rfl) _ _ rfl (w.heap.size + 1) 9 rfl (b8a q.T) _ (pkc_range (M2.out.blk [])) Try.underlying27 rfl (info_tagA HQ.out) ?_ | refine wpList_binG (by first | rfl | kernel_rfl) _ _ _ _ _ rfl (b8a p.T) (b8a q.T) rfl rfl guard_arr (.bool false) (HT.out _) ?_)
            go_ret
            exact ⟨by rw [HE.out]; rfl, M2.out.bel⟩
          · rw [b5, Bool.true_and] at HE
            rw [b5] at HT
            obtain ⟨D, hD⟩ : ∃ D, decide (p.l = q.l) = D := ⟨_, rfl⟩
            rw [hD] at HE HB
            clear b2 b4 b5 hD
            go_enter Try.func17, Try.ntmps17
            go_wp2_with (first | refine wpList_loadG (by first | rfl | kernel_rfl) _ _ rfl w.heap.size 9 rfl (b8a p.T) _ (pkc_range (M2.out.blk [_])) Try.underlying27 rfl (info_tagA HP.out) ?_ | refine wpList_loadG (by first | rfl | kernel_rfl) _ _ rfl (w.heap.size + 1) 9 rfl (b8a q.T) _ (pkc_range (M2.out.blk [])) Try.underlying27 rfl (info_tagA HQ.out) ?_ | refine wpList_binG (by first | rfl | kernel_rfl) _ _ _ _ _ rfl (b8a p.T) (b8a q.T) rfl rfl guard_arr (.bool true) (HT.out _) ?_)
            with_reducible refine (HB.out _ M2.out.bel).mono ?_
            rintro r w3 ⟨rfl, hb⟩
            have Mq := Lib.hid (M2.out.below hb)
            clear hb
            go_wp2_with fail
            go_ret
            exact ⟨by rw [HE.out]; rfl, Mq.out.bel⟩
set_option maxRecDepth 100000 in
set_option maxHeartbeats 8000000 in
theorem rsame14_any (p q : Pk) (hp : p.T.length = 32) (hq : q.T.length = 32) (w : World) (hr : RB w w.heap.size p.A p.l) (hs : RB w w.heap.size q.A q.l) (hl : p.l.length ≤ 1000000) :
    Calls Try.prog 14 #[.agg (pkc p), .agg (pkc q)] w fun e w' => e = .returned (.bool (eqP p q)) ∧ Below w.heap.size w w' := by
  have m1 := (Mst.start w).new 29 (pkc p)
  have m2 := m1.new 29 (pkc q)
  rw [show (w.alloc (.cells (pkc p) 29)).heap.size = w.heap.size + 1 by simp] at m2
  have M2 := Lib.hid m2
  obtain ⟨L, hL⟩ : ∃ L, p.l.length = L := ⟨_, rfl⟩
  obtain ⟨K, hK⟩ : ∃ K, q.l.length = K := ⟨_, rfl⟩
  have hcp := pkc_cells (m2.blk [_])
  have hcq := pkc_cells (m2.blk [])
  rw [hL] at hcp
  rw [hK] at hcq
  obtain ⟨c0, c1, c2, c3, c4, c5, c6, c7, c8⟩ := hcp
  obtain ⟨d0, d1, d2, d3, d4, d5, d6, d7, d8⟩ := hcq
  have HB := Lib.hid (show ∀ w', Below w.heap.size w w' → Calls Try.prog 32 #[.slice p.A L p.cp, .slice q.A K q.cp] w' fun e w2 => e = .returned (.bool (decide (p.l = q.l))) ∧ Below w'.heap.size w' w2 from fun w' hb => by
    have h1 := (RB.below hr hb).more hb.size
    have h2 := (RB.below hs hb).more hb.size
    rw [← hL, ← hK]
    exact same_any p.A q.A p.cp q.cp p.l q.l w' h1 h2 (by unfold maxLen; omega))
  have HP := Lib.hid hp
  have HQ := Lib.hid hq
  have HE := Lib.hid (show eqP p q = ((p.k == q.k) && (eq4 p.i p.r p.x p.s q.i q.r q.x q.s && ((p.t == q.t) && (eq2 p.b p.c q.b q.c && (decide (p.T = q.T) && decide (p.l = q.l)))))) from rfl)
  have HT := Lib.hid (fun w => eqlP p.T q.T hp hq w)
  have e2 := fun w => eq4rc p.i p.r p.x p.s q.i q.r q.x q.s w
  have e4 := fun w => eq_refNonce w p.b p.c q.b q.c
  obtain ⟨R, hR⟩ : ∃ R, eqP p q = R := ⟨_, rfl⟩
  rw [hR] at HE ⊢
  clear m1 m2 hr hs hl hp hq hL hK hR
  cases e1 : (p.k == q.k)
  · rw [e1] at HE
    rw [Bool.false_and] at HE
    go_enter Try.func14, Try.ntmps14
    go_wp2_with fail
    go_ret
    exact ⟨by rw [HE.out]; rfl, M2.out.bel⟩
  · rw [e1, Bool.true_and] at HE
    cases b2 : eq4 p.i p.r p.x p.s q.i q.r q.x q.s
    · rw [b2, Bool.false_and] at HE
      rw [b2] at e2
      go_enter Try.func14, Try.ntmps14
      go_wp2_with fail
      go_ret
      exact ⟨by rw [HE.out]; rfl, M2.out.bel⟩
    · rw [b2, Bool.true_and] at HE
      rw [b2] at e2
      cases e3 : (p.t == q.t)
      · rw [e3, Bool.false_and] at HE
        go_enter Try.func14, Try.ntmps14
        go_wp2_with fail
        go_ret
        exact ⟨by rw [HE.out]; rfl, M2.out.bel⟩
      · rw [e3, Bool.true_and] at HE
        cases b4 : eq2 p.b p.c q.b q.c
        · rw [b4, Bool.false_and] at HE
          rw [b4] at e4
          go_enter Try.func14, Try.ntmps14
          go_wp2_with fail
          go_ret
          exact ⟨by rw [HE.out]; rfl, M2.out.bel⟩
        · rw [b4, Bool.true_and] at HE
          rw [b4] at e4
          cases b5 : decide (p.T = q.T)
          · rw [b5, Bool.false_and] at HE
            rw [b5] at HT
            clear b2 b4 b5
            go_enter Try.func14, Try.ntmps14
            go_wp2_with (first | refine wpList_loadG (by first | rfl | kernel_rfl) _ _ rfl w.heap.size 9 rfl (b8a p.T) _ (pkc_range (M2.out.blk [_])) Try.underlying27 rfl (info_tagA HP.out) ?_ | refine wpList_loadG (by first | rfl | kernel_rfl) _ _ rfl (w.heap.size + 1) 9 rfl (b8a q.T) _ (pkc_range (M2.out.blk [])) Try.underlying27 rfl (info_tagA HQ.out) ?_ | refine wpList_binG (by first | rfl | kernel_rfl) _ _ _ _ _ rfl (b8a p.T) (b8a q.T) rfl rfl guard_arr (.bool false) (HT.out _) ?_)
            go_ret
            exact ⟨by rw [HE.out]; rfl, M2.out.bel⟩
          · rw [b5, Bool.true_and] at HE
            rw [b5] at HT
            obtain ⟨D, hD⟩ : ∃ D, decide (p.l = q.l) = D := ⟨_, rfl⟩
            rw [hD] at HE HB
            clear b2 b4 b5 hD
            go_enter Try.func14, Try.ntmps14
            go_wp2_with (first | refine wpList_loadG (by first | rfl | kernel_rfl) _ _ rfl w.heap.size 9 rfl (b8a p.T) _ (pkc_range (M2.out.blk [_])) Try.underlying27 rfl (info_tagA HP.out) ?_ | refine wpList_loadG (by first | rfl | kernel_rfl) _ _ rfl (w.heap.size + 1) 9 rfl (b8a q.T) _ (pkc_range (M2.out.blk [])) Try.underlying27 rfl (info_tagA HQ.out) ?_ | refine wpList_binG (by first | rfl | kernel_rfl) _ _ _ _ _ rfl (b8a p.T) (b8a q.T) rfl rfl guard_arr (.bool true) (HT.out _) ?_)
            with_reducible refine (HB.out _ M2.out.bel).mono ?_
            rintro r w3 ⟨rfl, hb⟩
            have Mq := Lib.hid (M2.out.below hb)
            clear hb
            go_wp2_with fail
            go_ret
            exact ⟨by rw [HE.out]; rfl, Mq.out.bel⟩
theorem eqP_same (p : Pk) : eqP p p = true := by simp [eqP, eq4, eq2]
end Go.Proofs.Ytnbemfceoianiaa
