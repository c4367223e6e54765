/- Contract of the document's Bytes (steps). -/
import Derived.Test.YtnopmdhjamkoaaaDoorSc24
import Derived.Test.YtnopmdhjamkoaaaDoorRfO
namespace Go.Proofs.YtnopmdhjamkoaaaDoor
set_option linter.unusedVariables false
set_option linter.unusedSimpArgs false
open Go.RowKit
theorem byte31 (n : Int) (h0 : 0 ≤ n) (h1 : n ≤ 255) : by8 (numB 1 n) = [.int .u8 n] := by
  have e : numB 1 n = [nbyte n 0] := rfl
  rw [e]
  simp only [by8, List.map_cons, List.map_nil, List.cons.injEq, Value.int.injEq, true_and, and_true]
  unfold nbyte
  rw [UInt8.toNat_ofNat']
  simp
  omega
theorem enc1_len (f : Sb) : (enc1 f).length = 9 + f.l.length := by simp [enc1, numB_length]; omega
theorem by8_enc (N : Nat) (fs : List Sb) (f : Sb) (X : List Value) (h0 : 0 ≤ f.k) (h1 : f.k ≤ 255) (hX : X = by8 (encS N fs)) : (((X ++ [.int .u8 f.k]) ++ by8 (numB 2 f.who)) ++ by8 (numB 4 f.n)) ++ by8 (numB 2 (f.l.length : Int) ++ f.l) = by8 (encS N (fs ++ [f])) := by
  rw [encS_snoc, hX, ← byte31 f.k h0 h1]
  simp [enc1, by8_append]
theorem RetFresh.to {w w' : World} {e size n : Nat} {xs : List Value} {en : Ending} (h : RetFresh w e size n xs en w') : ∃ A c, en = .returned (.slice A n c) ∧ Fresh w w' e size (.slice A n c) n xs := by
  obtain ⟨v, rfl, hf⟩ := h
  obtain ⟨A, c, rfl, _⟩ := own_form hf.own
  exact ⟨A, c, rfl, hf⟩
set_option maxRecDepth 100000 in
set_option maxHeartbeats 8000000 in
theorem rbytes31_any (w0 : World) (fs : List Sb) (A : Option Addr) (c N : Nat) (hN : fs.length = N) (hl : Rd w0 w0.heap.size 4 A N (sts (fs.map Sb.st))) (hb : ∀ f ∈ fs, RB w0 w0.heap.size f.A f.l) (hL : ∀ f ∈ fs, f.l.length ≤ 410) (hn : N ≤ 1000) :
    Calls Tryd.prog 46 #[.slice A N c] w0 fun r w' => ∃ v, r = .returned (.tuple #[v, .int .i64 (sbytes fs).2]) ∧ Fresh w0 w' 5 1 v (sbytes fs).1.length (by8 (sbytes fs).1) := by
  have HN := Lib.hid hN
  by_cases h32 : 32 < N
  · rw [sbytes_long (by omega)]
    have i1 : (32 : Int) < N := by omega
    have HB0 := Lib.hid (show Fresh w0 w0 5 1 (.slice none 0 0) 0 (by8 []) from ⟨Below.refl _ _, World.ownsRow_nil _ _ _ _⟩)
    clear hN hl hb hL h32
    go_enter Tryd.func46, Tryd.ntmps46
    go_wp2_with fail
    go_ret2
    exact ⟨_, rfl, HB0.out⟩
  · have HAt := Lib.hid (show ∀ w' k e, Below w0.heap.size w0 w' → fs[k]? = some e → ∃ b o, A = some ⟨b, o, none⟩ ∧ StAt w' b o k e.st from fun w' k e hb hk => by
      obtain ⟨b, o, h1, h2, h3⟩ := hl.sb hN hk
      exact ⟨b, o, h1, h3.below hb h2⟩)
    have HS := Lib.hid (show ∀ (w' : World) (f : Sb), Below w0.heap.size w0 w' → f ∈ fs → RB w' w'.heap.size f.A f.l from fun w' f h hf => (RB.below (hb f hf) h).more h.size)
    have HL := Lib.hid hL
    have i1 : ¬ (32 : Int) < N := by omega
    have i2 : (N : Int) ≤ 32 := by omega
    have i3 : (0 : Int) ≤ N := by omega
    have w1 : IntKind.u8.wrap (N : Int) = N := IntWalk.u8_in _ (by omega)
    have M0 := Lib.hid ((Mst.start w0).newrow 5 1 1 1 #[.int .u8 (N : Int)] (Nat.le_refl _) (by decide) rfl)
    have HX0 := Lib.hid (show [Value.int .u8 (N : Int)] = by8 (encS N (fs.take 0)) from by
      rw [← byte31 N (by omega) (by omega)]
      simp [encS])
    have hU : N ≤ 32 := by omega
    clear hN hl hb hL h32
    go_enter Tryd.func46, Tryd.ntmps46
    go_wp2_with fail
    go_loopg [4, 5, 6] N (fun gg s4 s5 s6 wr => ∃ (k n : Nat) (X : List Value) (A5 : Option Addr) (c5 : Nat), k + gg = N ∧ s6 = .int .i64 k ∧ s5 = .bool (decide (1024 < n)) ∧ s4 = .slice A5 n c5 ∧ n ≤ 1 + 420 * k ∧ Hid (n = (encS N (fs.take k)).length) ∧ Hid (X = by8 (encS N (fs.take k))) ∧ Hid (∀ f ∈ fs.take k, f.st.chk = 0) ∧ Mst w0 wr [] [⟨5, 1, .slice A5 n c5, n, X⟩])
    case atStart => exact ⟨0, 1, _, _, _, by omega, rfl, rfl, rfl, by omega, Lib.hid (by simp [encS, numB_length]), HX0, Lib.hid (by simp), M0.out⟩
    case round =>
      obtain ⟨k, n, X, A5, c5, hk, rfl, rfl, rfl, hn, HNN, HX, hok, hm⟩ := hrel
      have Mq := Lib.hid hm
      clear M0 hm
      by_cases hlt : k < N
      · obtain ⟨e, he⟩ : ∃ e, fs[k]? = some e := ⟨_, List.getElem?_eq_getElem (by rw [HN.out]; exact hlt)⟩
        have HE := Lib.hid he
        obtain ⟨b, o, rfl, hAt⟩ := HAt.out wr k e Mq.out.bel he
        obtain ⟨L, hL⟩ : ∃ L, e.l.length = L := ⟨_, rfl⟩
        obtain ⟨C, hC⟩ : ∃ C, e.st.chk = C := ⟨_, rfl⟩
        have HSR := Lib.hid (show ∀ w', Below w0.heap.size w0 w' → RB w' w'.heap.size e.A e.l from fun w' h => HS.out w' e h (List.mem_of_getElem? he))
        have HLL := Lib.hid hL
        have hL1 : L ≤ 410 := by rw [← hL]; exact HL.out e (List.mem_of_getElem? he)
        have hchk := (scrc_any e.k e.who e.n e.A e.l.length e.c).2
        rw [show scC e.k e.who e.n e.l.length = C from hC, hL] at hchk
        have HCK := Lib.hid (show ∀ w', _ from fun w' => hchk w')
        have HCC := Lib.hid hC
        have HTS := Lib.hid (take_snoc31 he)
        obtain ⟨ek, ew, en, eA, ec, el⟩ := e
        obtain ⟨a0, a1, a2, a3⟩ := hAt
        simp only [Sb.st, hL] at a0 a1 a2 a3
        simp only at HCK HSR HLL
        have j1 : (k : Int) < N := by omega
        have j2 : (0 : Int) ≤ k := by omega
        clear hchk hC he hL
        go_wp2_with fail
        generalize hw4 : World.alloc _ _ = w4
        obtain ⟨gx, hgx, hW⟩ := Mq.out.newX hw4
        simp only [hgx]
        have M4 := Lib.hid hW
        clear hW hw4 a0 a1 a2 a3 Mq hgx
        with_reducible refine (HCK.out _).mono ?_
        rintro r w5 ⟨rfl, hb⟩
        have M5 := Lib.hid (M4.out.below hb)
        clear hb M4
        by_cases hc0 : C = 0
        · subst hc0
          obtain ⟨k0, k1, q0, q1, n0, n1, hl4⟩ := scC_ok31 HCC.out
          simp only [Sb.st] at k0 k1 q0 q1 n0 n1 hl4
          rw [HLL.out] at hl4
          have HO1 := Lib.hid (show ∀ w', Calls Tryd.prog 72 #[.agg #[.int .i64 1, .int .i64 ew, .slice none 0 0]] w' (RetFresh w' 5 1 2 (by8 (numB 2 ew))) from fun w' => by
            have h := refout_any (nf 1 ew) w' (chkn1 q0 q1) (by show ew ≤ _; omega) (Rd.nil_ _ _ _ _)
            exact h)
          have HO2 := Lib.hid (show ∀ w', Calls Tryd.prog 72 #[.agg #[.int .i64 2, .int .i64 en, .slice none 0 0]] w' (RetFresh w' 5 1 4 (by8 (numB 4 en))) from fun w' => by
            have h := refout_any (nf 2 en) w' (chkn2 n0 (by omega)) (by show en ≤ _; omega) (Rd.nil_ _ _ _ _)
            exact h)
          have HO4 := Lib.hid (show ∀ w', Below w0.heap.size w0 w' → Calls Tryd.prog 72 #[.agg #[.int .i64 4, .int .i64 0, .slice eA L ec]] w' (RetFresh w' 5 1 (2 + L) (by8 (numB 2 (el.length : Int) ++ el))) from fun w' hb => by
            have h := refout_some 0 w' eA ec el (HSR.out w' hb) (by rw [HLL.out]; omega)
            rw [HLL.out] at h ⊢
            exact h)
          have HOK := Lib.hid (show ∀ f ∈ fs.take (k + 1), f.st.chk = 0 from by
            rw [HTS.out]
            intro f hf
            rcases List.mem_append.1 hf with hf | hf
            · exact hok.out f hf
            · obtain rfl := List.mem_singleton.1 hf
              exact HCC.out)
          have HNX := Lib.hid (show n + 1 + 2 + 4 + (2 + L) = (encS N (fs.take (k + 1))).length from by
            rw [HTS.out, encS_snoc, List.length_append, ← HNN.out, enc1_len, HLL.out]
            omega)
          have HXX := Lib.hid (show (((X ++ [.int .u8 ek]) ++ by8 (numB 2 ew)) ++ by8 (numB 4 en)) ++ by8 (numB 2 (el.length : Int) ++ el) = by8 (encS N (fs.take (k + 1))) from by
            rw [HTS.out]
            exact by8_enc N (fs.take k) ⟨ek, ew, en, eA, ec, el⟩ X k0 (by show ek ≤ _; omega) HX.out)
          have w2 : IntKind.u8.wrap ek = ek := IntWalk.u8_in _ (by omega)
          have HCE := Lib.hid (show ∀ w' bl' ow', Mst w0 w' ((gx, 67, #[.int .i64 ek, .int .i64 ew, .int .i64 en, .slice eA L ec]) :: bl') ow' → w'.cell? ⟨gx, 0, none⟩ = some (.int .i64 ek) ∧ w'.cell? ⟨gx, 1, none⟩ = some (.int .i64 ew) ∧ w'.cell? ⟨gx, 2, none⟩ = some (.int .i64 en) ∧ w'.cell? ⟨gx, 3, none⟩ = some (.slice eA L ec) from fun w' bl' ow' h => ⟨(h.blk []).cell 0, (h.blk []).cell 1, (h.blk []).cell 2, (h.blk []).cell 3⟩)
          obtain ⟨d0, d1, d2, d3⟩ := HCE.out _ _ _ M5.out
          clear k0 k1 q0 q1 n0 n1
          go_wp2_with (at_builtin; refine wpList_appE rfl _ _ 60 rfl [] (M5.out.alloc _) el_u8 rfl _ _ 1 1 _ rfl (Rd.new1 _ #[.int .u8 ek] _ rfl) (by simp [Value.oneCell']) (by unfold maxLen; omega) (by omega) ?_; intro A6 c6 w6 N6 X6 hn6 hx6 mq; have M6 := Lib.hid mq; have HN6 := Lib.hid hn6; have HX6 := Lib.hid hx6; obtain ⟨d0, d1, d2, d3⟩ := HCE.out _ _ _ mq; clear mq hn6 hx6)
          with_reducible refine (HO1.out _).mono ?_
          rintro r w7 hr
          obtain ⟨A7, c7, rfl, hf⟩ := hr.to
          have M7 := Lib.hid (M6.out.addr hf)
          obtain ⟨d0, d1, d2, d3⟩ := HCE.out _ _ _ M7.out
          clear hr hf M6
          go_wp2_with (at_builtin; refine wpList_appE rfl _ _ 60 rfl [_] M7.out el_u8 rfl _ A7 2 c7 (by8 (numB 2 ew)) rfl (M7.out.src (M7.out.rowSrc (List.mem_cons_self ..))) (by8_one _) (by unfold maxLen; have := HN6.out; omega) (by have := HN6.out; omega) ?_; intro A8 c8 w8 N8 X8 hn8 hx8 mq; have M8 := Lib.hid mq.dropr; have HN8 := Lib.hid hn8; have HX8 := Lib.hid hx8; obtain ⟨d0, d1, d2, d3⟩ := HCE.out _ _ _ mq; clear mq hn8 hx8)
          with_reducible refine (HO2.out _).mono ?_
          rintro r w9 hr
          obtain ⟨A9, c9, rfl, hf⟩ := hr.to
          have M9 := Lib.hid (M8.out.addr hf)
          obtain ⟨d0, d1, d2, d3⟩ := HCE.out _ _ _ M9.out
          clear hr hf M8 M7
          go_wp2_with (at_builtin; refine wpList_appE rfl _ _ 60 rfl [_] M9.out el_u8 rfl _ A9 4 c9 (by8 (numB 4 en)) rfl (M9.out.src (M9.out.rowSrc (List.mem_cons_self ..))) (by8_one _) (by unfold maxLen; have := HN6.out; have := HN8.out; omega) (by have := HN6.out; have := HN8.out; omega) ?_; intro A10 c10 w10 N10 X10 hn10 hx10 mq; have M10 := Lib.hid mq.dropr; have HN10 := Lib.hid hn10; have HX10 := Lib.hid hx10; obtain ⟨d0, d1, d2, d3⟩ := HCE.out _ _ _ mq; clear mq hn10 hx10)
          with_reducible refine (HO4.out _ M10.out.bel).mono ?_
          rintro r w11 hr
          obtain ⟨A11, c11, rfl, hf⟩ := hr.to
          have M11 := Lib.hid (M10.out.addr hf)
          obtain ⟨d0, d1, d2, d3⟩ := HCE.out _ _ _ M11.out
          clear hr hf M10 M9
          have HB1 : decide (1024 < n) = true ∨ decide (1024 < n) = false := by cases decide (1024 < n) <;> simp
          have HBN := Lib.hid (show ∀ b N12, decide (1024 < n) = b → N12 = n + 1 + 2 + 4 + (2 + L) → (b || decide (1024 < N12)) = decide (1024 < N12) from fun b N12 h e => by
            cases b
            · rfl
            · have := of_decide_eq_true h
              rw [decide_eq_true (show 1024 < N12 by omega)]
              rfl)
          obtain ⟨b0, hb0⟩ : ∃ b, decide (1024 < n) = b := ⟨_, rfl⟩
          have HB0 := Lib.hid hb0
          simp only [hb0]
          clear hb0 HB1
          have hbb : b0 = true ∨ b0 = false := by cases b0 <;> simp
          rcases hbb with rfl | rfl
          · skip
            go_wp2_with (at_builtin; refine wpList_appE rfl _ _ 60 rfl [_] M11.out el_u8 rfl _ A11 (2 + L) c11 (by8 (numB 2 (el.length : Int) ++ el)) rfl (M11.out.src (M11.out.rowSrc (List.mem_cons_self ..))) (by8_one _) (by unfold maxLen; have := HN6.out; have := HN8.out; have := HN10.out; omega) (by have := HN6.out; have := HN8.out; have := HN10.out; omega) ?_; intro A12 c12 w12 N12 X12 hn12 hx12 mq; have M12 := Lib.hid (mq.dropr.sub (bl' := []) (List.nil_sublist _) (List.Sublist.refl _)); have HN12 := Lib.hid (show N12 = n + 1 + 2 + 4 + (2 + L) by have := HN6.out; have := HN8.out; have := HN10.out; omega); have HX12 := Lib.hid (show X12 = by8 (encS N (fs.take (k + 1))) by rw [hx12, HX10.out, HX8.out, HX6.out]; exact HXX.out); clear mq hn12 hx12)
            go_roundg (N - (k + 1))
            case measure => exact meas hk hlt
            case rel => exact ⟨k + 1, N12, X12, A12, c12, meas2 hlt, by go_num, by first | exact congrArg Value.bool (HBN.out _ _ HB0.out HN12.out) | (have h := HBN.out _ _ HB0.out HN12.out; simp at h ⊢; omega), rfl, by have := HN12.out; omega, Lib.hid (by rw [HN12.out]; exact HNX.out), HX12, HOK, M12.out⟩
          · skip
            go_wp2_with (at_builtin; refine wpList_appE rfl _ _ 60 rfl [_] M11.out el_u8 rfl _ A11 (2 + L) c11 (by8 (numB 2 (el.length : Int) ++ el)) rfl (M11.out.src (M11.out.rowSrc (List.mem_cons_self ..))) (by8_one _) (by unfold maxLen; have := HN6.out; have := HN8.out; have := HN10.out; omega) (by have := HN6.out; have := HN8.out; have := HN10.out; omega) ?_; intro A12 c12 w12 N12 X12 hn12 hx12 mq; have M12 := Lib.hid (mq.dropr.sub (bl' := []) (List.nil_sublist _) (List.Sublist.refl _)); have HN12 := Lib.hid (show N12 = n + 1 + 2 + 4 + (2 + L) by have := HN6.out; have := HN8.out; have := HN10.out; omega); have HX12 := Lib.hid (show X12 = by8 (encS N (fs.take (k + 1))) by rw [hx12, HX10.out, HX8.out, HX6.out]; exact HXX.out); clear mq hn12 hx12)
            go_roundg (N - (k + 1))
            case measure => exact meas hk hlt
            case rel => exact ⟨k + 1, N12, X12, A12, c12, meas2 hlt, by go_num, by first | exact congrArg Value.bool (HBN.out _ _ HB0.out HN12.out) | (have h := HBN.out _ _ HB0.out HN12.out; simp at h ⊢; omega), rfl, by have := HN12.out; omega, Lib.hid (by rw [HN12.out]; exact HNX.out), HX12, HOK, M12.out⟩
        · have hc1 : (C == 0) = false := by simpa using hc0
          have hc2 : (C != 0) = true := by simpa using hc0
          have HSB := Lib.hid (show sbytes fs = ([], C) from by
            rw [sbytes_bad (by rw [HN.out]; exact hU) HE.out hok.out (by rw [HCC.out]; exact hc0), HCC.out])
          have HF := Lib.hid (show Fresh w0 w5 5 1 (.slice none 0 0) 0 (by8 []) from ⟨M5.out.bel, World.ownsRow_nil _ _ _ _⟩)
          clear hc0
          go_wp2_with fail
          go_ret2
          exact ⟨_, by rw [HSB.out]; rfl, by rw [HSB.out]; exact HF.out⟩
      · obtain rfl : k = N := by omega
        have htk : fs.take k = fs := List.take_of_length_le (by rw [HN.out]; exact Nat.le_refl _)
        rw [htk] at HNN HX hok
        have HSB := Lib.hid (sbytes_ok (fs := fs) (by rw [HN.out]; exact hU) hok.out)
        rw [HN.out, ← HNN.out] at HSB
        clear htk hlt hk hok
        by_cases h10 : 1024 < n
        · have HSC := Lib.hid (show sbytes fs = ([], 2) from by rw [HSB.out, if_pos h10])
          have HF := Lib.hid (show Fresh w0 wr 5 1 (.slice none 0 0) 0 (by8 []) from ⟨Mq.out.bel, World.ownsRow_nil _ _ _ _⟩)
          clear HSB
          go_wp2_with fail
          go_ret2
          exact ⟨_, by rw [HSC.out]; rfl, by rw [HSC.out]; exact HF.out⟩
        · have HSC := Lib.hid (show sbytes fs = (encS k fs, 0) from by rw [HSB.out, if_neg h10])
          have HF := Lib.hid (show Fresh w0 wr 5 1 (.slice A5 n c5) (encS k fs).length (by8 (encS k fs)) from ⟨Mq.out.bel, by rw [← HNN.out, ← HX.out]; exact Mq.out.row []⟩)
          clear HSB
          go_wp2_with fail
          go_ret2
          exact ⟨_, by rw [HSC.out]; rfl, by rw [HSC.out]; exact HF.out⟩
end Go.Proofs.YtnopmdhjamkoaaaDoor
