/-
  vigillaw02.MacFrames returns true, whatever it is called with. Conditions: none but that the slices can be read.
-/
import Derived.Test.YthnaobolmgcclaaMacDerives
import Derived.Test.YthnaobolmgcclaaMacP
import Derived.Deep.CutBlock
namespace Go.Proofs.Ythnaobolmgcclaa
set_option linter.unusedVariables false
set_option linter.unusedSimpArgs false
open Go.RowKit

theorem wpList_appZE {W wr : World} {bl : Bl} {gM : Nat} {ob : Obj} {P : Program} {ops : Array Oper} {rest : List Oper} {o : Oper} {a : Act} {Q : Exit → Act → World → Prop} (hgd : o.guard = none) (s x : Operand) (t : TypeId)
    (ho : o.op = .call { callee := .builtin .append, args := #[s, x], argTypes := #[t, t] })
    (pre : List Ro) {post : List Ro} {e : TypeId} {size n bytes : Nat} {v : Value} {xs : List Value} (hm : Mz W wr bl (pre ++ ⟨e, size, v, n, xs⟩ :: post) gM ob) (hE : El P t e size bytes) (hs : a.eval s = v)
    (B : Nat) (A : Option Addr) (m c : Nat) (news : List Value) (hx : a.eval x = .slice A m c) (hr : Rd wr B size A m news) (h1 : ∀ u ∈ news, u.oneCell' = true)
    (h63 : n + m ≤ maxLen) (hbytes : (n + m) * bytes ≤ 140737488355328)
    (h : ∀ A' c' w' N X, N = n + m → X = xs ++ news → Mz W w' bl (pre ++ ⟨e, size, .slice A' N c', N, X⟩ :: post) gM ob → wpList P ops Q rest (a.put o.dst (.slice A' N c')) w') : wpList P ops Q (o :: rest) a wr :=
  wpList_appZ hgd s x t ho pre hm hE hs B A m c news hx hr h1 h63 hbytes fun A' c' w' hm' => h A' c' w' _ _ rfl rfl hm'
theorem Mst.oneS {W w w2 : World} {bl : Bl} {ow : List Ro} (h : Mst W w bl ow) {A1 : Option Addr} {l1 : List UInt8} {n1 : Nat} (e1 : l1.length = n1) (h1 : Src W bl ow 1 A1 n1 (by8 l1))
    {c1 : Nat} (hw : w.alloc (.cells #[.slice A1 n1 c1] 26) = w2) : ∃ y, Mst W w2 bl (y :: ow) ∧ SPts W bl (y :: ow) (some ⟨w.heap.size, 0, none⟩) [⟨A1, c1, l1⟩] := by
  subst e1 hw
  have m1 := h.newrow 26 1 1 1 #[.slice A1 l1.length c1] (Nat.le_refl _) (by decide) rfl
  refine ⟨_, m1, m1.rowSrc (List.mem_cons_self ..), fun p hp => ?_⟩
  obtain rfl : p = ⟨A1, c1, l1⟩ := by simpa using hp
  exact h1.cr _
theorem Mst.markrow {W w : World} {bl : Bl} {ow : List Ro} (h : Mst W w bl ow) (ob : Obj) {e : TypeId} (v : Value) : Mz W ((w.alloc ob).alloc (.cells #[v] e)).drew bl (⟨e, 1, .slice (some ⟨w.heap.size + 1, 0, none⟩) 1 1, 1, [v]⟩ :: ow) w.heap.size ob := by
  have := (h.mark ob).newrow e 1 1 1 #[v] (Nat.le_refl _) (by decide) rfl
  rw [show (w.drew.alloc ob).heap.size = w.heap.size + 1 by simp] at this
  exact this
/-- The parts that few has made, read behind the call. -/
theorem fe_pts {w0 w : World} {ps qs : List Pt} {g : Nat} {v1 v2 : Value} (hG : qs.length = g) (h : FeR w0 w qs g v1 v2) (hq : ∀ q ∈ qs, RB w0 w0.heap.size q.A q.l) :
    ∃ A1 c1 A2 n2 c2, v1 = .slice A1 g c1 ∧ v2 = .slice A2 n2 c2 ∧ Pts w A1 qs ∧ Below w0.heap.size w0 w := by
  obtain ⟨A1, c1, A2, c2, ow, rfl, rfl, m, hS1, hS2⟩ := fe_open hG h hq
  exact ⟨_, _, _, _, _, rfl, rfl, m.pts hS1, m.bel⟩
theorem Pts.keep {w w' : World} {A : Option Addr} {ps : List Pt} (h : Pts w A ps) (hb : Below w.heap.size w w') : Pts w' A ps :=
  ⟨(h.1.below hb).more hb.size, fun p hp => ((h.2 p hp).below hb).more hb.size⟩

theorem frame_call (a : List UInt8) (ha : a.length ≤ 1000) (qs : List Pt) (hn : qs.length ≤ 90) (hq : ∀ q ∈ qs, q.l.length ≤ 60) (x : List (List UInt8)) (hx : qs.map Pt.l = x) (FB : List UInt8) (hFB : frameB (a :: x) = FB) (F : Nat) (hF : FB.length = F) (w' : World) (A' : Option Addr) (c' g C N : Nat) (hN : N = qs.length + 1) (h : Pts w' A' (⟨some ⟨g, 0, none⟩, C, a⟩ :: qs)) :
    Calls Try.prog 55 #[.slice A' N c'] w' fun e w2 => ∃ A2 c2, e = .returned (.slice A2 F c2) ∧ Fresh w' w2 5 1 (.slice A2 F c2) F (by8 FB) := by
  subst hN hx hFB hF
  exact refframe_any w' A' c' _ h (by simp; omega) (by
    intro p hp
    rcases List.mem_cons.1 hp with rfl | hp
    · exact ha
    · exact Nat.le_trans (hq p hp) (by decide))
set_option maxRecDepth 100000 in
set_option maxHeartbeats 3200000 in
theorem macFrames_main (W : World) (A B C : Option Addr) (c d f : Nat) (l : List UInt8) (S T : ByteArray) (ps rs : List Pt) (hr : RB W W.heap.size A l) (hc : l.length ≤ c ∧ c ≤ 9223372036854775807) (hS : S.size ≤ maxLen) (hT : T.size ≤ maxLen)
    (hp : Rd W W.heap.size 1 B ps.length (ps.map Pt.v)) (hpc : ∀ p ∈ ps, RB W W.heap.size p.A p.l ∧ p.l.length ≤ p.c ∧ p.c ≤ 9223372036854775807) (hpn : ps.length ≤ 9223372036854775807)
    (hp' : Rd W W.heap.size 1 C rs.length (rs.map Pt.v)) (hpc' : ∀ p ∈ rs, RB W W.heap.size p.A p.l ∧ p.l.length ≤ p.c ∧ p.c ≤ 9223372036854775807) (hpn' : rs.length ≤ 9223372036854775807) :
    Calls Try.prog 11 #[.slice A l.length c, .string S, .string T, .slice B ps.length d, .slice C rs.length f] W fun e W' => e = .returned (.bool true) ∧ Below W.heap.size W W' := by
  unfold maxLen at hS hT
  obtain ⟨N, hN⟩ : ∃ N, l.length = N := ⟨_, rfl⟩
  obtain ⟨M, hM⟩ : ∃ M, S.size = M := ⟨_, rfl⟩
  obtain ⟨L, hL⟩ : ∃ M, T.size = M := ⟨_, rfl⟩
  rw [hN] at hc ⊢
  rw [hM] at hS
  rw [hL] at hT
  obtain ⟨hc1, hc2⟩ := hc
  have hr2 := hr.cut 70
  obtain ⟨n, hn, n2, n1⟩ := cut_n N 70
  obtain ⟨m, hm, m2, m1⟩ := cut_n M 60
  obtain ⟨t, ht, t2, t1⟩ := cut_n L 60
  obtain ⟨l', hl'⟩ : ∃ l', l.take 70 = l' := ⟨_, rfl⟩
  have hln : l'.length = n := by rw [← hl', List.length_take]; omega
  rw [hl'] at hr2
  have hmin1 : min (N : Int) 70 = n := hn.symm
  have hmin2 : min (M : Int) 60 = m := hm.symm
  have hmin3 : min (L : Int) 60 = t := ht.symm
  have n4 : (0 : Int) ≤ n := by omega
  have m4 : (0 : Int) ≤ m := by omega
  have t4 : (0 : Int) ≤ t := by omega
  have n5 : (n : Int) ≤ c := by omega
  have m5 : (m : Int) ≤ M := by omega
  have t5 : (t : Int) ≤ L := by omega
  have HLN := Lib.hid hln
  have R1 := Lib.hid (show Rd W W.heap.size 1 A n (by8 l') from by rw [← hln]; exact hr2)
  have HF := Lib.hid (show ∀ w', Below W.heap.size W w' → Calls Try.prog 49 #[.slice B ps.length d] w' fun e w2 => ∃ v1 v2, e = .returned (.tuple #[v1, v2]) ∧ FeR w' w2 (fewP 8 60 ps) (fewP 8 60 ps).length v1 v2 from fun w' hb => few2_any w' B d ps ⟨(hp.below hb).more hb.size, fun p h => ((hpc p h).1.below hb).more hb.size⟩ (fun p h => (hpc p h).2) hpn)
  have HF' := Lib.hid (show ∀ w', Below W.heap.size W w' → Calls Try.prog 49 #[.slice C rs.length f] w' fun e w2 => ∃ v1 v2, e = .returned (.tuple #[v1, v2]) ∧ FeR w' w2 (fewP 8 60 rs) (fewP 8 60 rs).length v1 v2 from fun w' hb => few2_any w' C f rs ⟨(hp'.below hb).more hb.size, fun p h => ((hpc' p h).1.below hb).more hb.size⟩ (fun p h => (hpc' p h).2) hpn')
  have hq := fewP_old (M := 8) (N := 60) fun p h => (hpc p h).1
  have hq' := fewP_old (M := 8) (N := 60) fun p h => (hpc' p h).1
  have hq6 := fewP_le 8 60 ps
  have hq6' := fewP_le 8 60 rs
  have hlen : (fewP 8 60 ps).length ≤ 8 := by rw [fewP_len]; omega
  have hlen' : (fewP 8 60 rs).length ≤ 8 := by rw [fewP_len]; omega
  obtain ⟨qs, hqs⟩ : ∃ q, fewP 8 60 ps = q := ⟨_, rfl⟩
  obtain ⟨us, hus⟩ : ∃ q, fewP 8 60 rs = q := ⟨_, rfl⟩
  rw [hqs] at HF hq hlen hq6
  rw [hus] at HF' hq' hlen' hq6'
  have HQ := Lib.hid hq
  have HQ6 := Lib.hid hq6
  have HU := Lib.hid hq'
  have HU6 := Lib.hid hq6'
  obtain ⟨g, hG⟩ : ∃ n, qs.length = n := ⟨_, rfl⟩
  rw [hG] at HF hlen
  obtain ⟨u, hG'⟩ : ∃ n, us.length = n := ⟨_, rfl⟩
  rw [hG'] at HF' hlen'
  have HG := Lib.hid hG
  have HGu := Lib.hid hG'
  obtain ⟨pn, hPN⟩ : ∃ n, ps.length = n := ⟨_, rfl⟩
  rw [hPN] at HF ⊢
  obtain ⟨rn, hRN⟩ : ∃ n, rs.length = n := ⟨_, rfl⟩
  rw [hRN] at HF' ⊢
  clear hr hr2 hln hl' hn hm ht hp hpc hpn hq hqs hPN hG hq6 hp' hpc' hpn' hq' hus hRN hG' hq6'
  go_enter Try.func11, Try.ntmps11
  go_wp2_with fail
  go_quiet (fail)
  obtain ⟨S', hS'⟩ : ∃ B', S.extract 0 m = B' := ⟨_, rfl⟩
  obtain ⟨T', hT'⟩ : ∃ B', T.extract 0 t = B' := ⟨_, rfl⟩
  rw [hS', hT']
  have hSs : S'.size = m := by rw [← hS', ByteArray.size_extract]; omega
  have hTs : T'.size = t := by rw [← hT', ByteArray.size_extract]; omega
  have HSS := Lib.hid hSs
  have HTS := Lib.hid hTs
  have M0 := Lib.hid ((Mst.start W).drewN nq)
  generalize World.drewN _ _ = w0 at M0 ⊢
  clear hmin1 hmin2 hmin3 hS' hSs hT' hTs
  go_wp2_with fail
  refine (HF.out _ M0.out.bel).mono ?_
  rintro e w1 ⟨v1, v2, rfl, hfe⟩
  obtain ⟨A1, c1, A2, n2', c2, rfl, rfl, hp1, hb1⟩ := fe_pts (ps := qs) HG.out hfe (fun q h => ((HQ.out q h).below M0.out.bel).more M0.out.bel.size)
  have B1 := Lib.hid (Bsz M0.out.bel hb1)
  have P1 := Lib.hid hp1
  clear hfe hp1 hb1 HF
  go_wp2_with fail
  refine (HF'.out _ B1.out).mono ?_
  rintro e w2 ⟨v1, v2, rfl, hfe⟩
  obtain ⟨A3, c3, A4, n4', c4, rfl, rfl, hp2, hb2⟩ := fe_pts (ps := us) HGu.out hfe (fun q h => ((HU.out q h).below B1.out).more B1.out.size)
  have B2 := Lib.hid (Bsz B1.out hb2)
  have P2 := Lib.hid hp2
  have P1 := Lib.hid (P1.out.keep hb2)
  have R1 := Lib.hid ((R1.out.below B2.out).more B2.out.size)
  clear hfe hp2 hb2 HF' B1 M0
  obtain ⟨x, hx⟩ : ∃ x, qs.map Pt.l = x := ⟨_, rfl⟩
  obtain ⟨y, hy⟩ : ∃ x, us.map Pt.l = x := ⟨_, rfl⟩
  have hxl : x.length = g := by rw [← hx, List.length_map]; exact HG.out
  have hyl : y.length = u := by rw [← hy, List.length_map]; exact HGu.out
  obtain ⟨a, ha⟩ : ∃ x, S'.data.toList = x := ⟨_, rfl⟩
  obtain ⟨b, hb⟩ : ∃ x, T'.data.toList = x := ⟨_, rfl⟩
  have HA := Lib.hid ha
  have HB := Lib.hid hb
  have HX := Lib.hid hx
  have HY := Lib.hid hy
  have HXL := Lib.hid hxl
  have HYL := Lib.hid hyl
  have hE : (S'.toList == T'.toList) = decide (a = b) := by
    rw [ByteArray.toList_eq, ByteArray.toList_eq, ha, hb, Bool.eq_iff_iff]
    simp
  have hK0 := sameK_0 a b x y
  rw [hxl, hyl] at hK0
  have M3 := Lib.hid (Mst.start w2)
  obtain ⟨E0, hE0⟩ : ∃ E, decide (a = b) = E := ⟨_, rfl⟩
  rw [hE0] at hE hK0
  have HK0 := Lib.hid hK0
  clear ha hb hx hy hxl hyl hE0 hK0
  go_upto_region 4 with fail
  go_cut [15] (fun s15 wr => s15 = .bool (sameK a b x y 0) ∧ wr = w2)
  case first =>
    cases E0 with
    | true =>
      go_wp2_with fail
      go_meet
      exact ⟨by rw [HK0.out, Bool.true_and, show ((g : Int) == (u : Int)) = decide ((g : Int) = u) by rw [Bool.eq_iff_iff]; simp], rfl⟩
    | false =>
      go_wp2_with fail
      go_meet
      exact ⟨by rw [HK0.out, Bool.false_and], rfl⟩
  case rest =>
    obtain ⟨rfl, hwc⟩ := hcut
    rw [hwc]
    clear hwc
    obtain ⟨DD, hDD⟩ : ∃ D, decide (a = b ∧ x = y) = D := ⟨_, rfl⟩
    have HDD := Lib.hid hDD
    have HALL := Lib.hid (sameK_all a b x y)
    rw [hDD] at HALL
    clear hDD
    go_upto_block 0 with fail
    go_cut [15] (fun s15 wr => s15 = .bool DD ∧ Mst w2 wr [] [])
    case first =>
      go_wp2_with fail
      go_loopg [16, 15] g (fun gg s16 s15 wr => ∃ k : Nat, k + gg = g ∧ s16 = .int .i64 k ∧ s15 = .bool (sameK a b x y k) ∧ Mst w2 wr [] [])
      case atStart => exact ⟨0, by omega, rfl, rfl, M3.out⟩
      case round =>
        obtain ⟨k, hk, rfl, rfl, hm⟩ := hrel
        have M4 := Lib.hid hm
        clear hm
        have HALL := Lib.hid (HALL.out k)
        cases hD : sameK a b x y k with
        | false =>
          have HE := Lib.hid (HALL.out (by rw [hD]; intro h; cases h))
          rw [hD] at HE
          have HD := Lib.hid hD
          clear hD
          go_wp2_with fail
          go_meet
          exact ⟨by rw [← HE.out], M4.out⟩
        | true =>
          by_cases hlt : k < g
          · obtain ⟨p, hpk⟩ : ∃ p, qs[k]? = some p := ⟨_, List.getElem?_eq_getElem (by have := HG.out; omega)⟩
            obtain ⟨q, hqk⟩ : ∃ p, us[k]? = some p := ⟨_, List.getElem?_eq_getElem (by
              have h1 := hD
              simp only [sameK, decide_eq_true_eq] at h1
              have := h1.2.1
              have := HXL.out
              have := HYL.out
              have := HGu.out
              omega)⟩
            have hku : (k : Int) < u := by
              have := (List.getElem?_eq_some_iff.1 hqk).1
              have := HGu.out
              omega
            have HS := Lib.hid (sameK_succ a b x y k p.l q.l (by rw [← HX.out, List.getElem?_map, hpk]; rfl) (by rw [← HY.out, List.getElem?_map, hqk]; rfl) hD)
            obtain ⟨b1, o1, rfl, hb1, hc1'⟩ := P1.out.at_ (by have := HG.out; omega)
            obtain ⟨b2, o2, rfl, hb2, hc2'⟩ := P2.out.at_ (by have := HGu.out; omega)
            have e1 := M4.out.old hb1 (hc1' k p hpk)
            have e2 := M4.out.old hb2 (hc2' k q hqk)
            have s1 := P1.out.2 p (List.mem_of_getElem? hpk)
            have s2 := P2.out.2 q (List.mem_of_getElem? hqk)
            have l1 := HQ6.out p (List.mem_of_getElem? hpk)
            obtain ⟨pA, pc, pl⟩ := p
            obtain ⟨qA, qc, ql⟩ := q
            unfold Pt.v at e1 e2
            simp only at e1 e2 s1 s2 l1 HS
            have HSM := Lib.hid (same_any pA qA pc qc pl ql wr.drew (M4.out.drew.src (Src.old s1)) (M4.out.drew.src (Src.old s2)) (by unfold maxLen; omega))
            have i1 : (k : Int) < g := by omega
            have i2 : (0 : Int) ≤ k := by omega
            obtain ⟨pn2, hpn2⟩ : ∃ n, pl.length = n := ⟨_, rfl⟩
            obtain ⟨qn2, hqn2⟩ : ∃ n, ql.length = n := ⟨_, rfl⟩
            rw [hpn2] at e1 HSM
            rw [hqn2] at e2 HSM
            clear hD hpk hqk hc1' hc2' s1 s2 hb1 hb2 hpn2 hqn2 HALL l1
            go_wp2_with fail
            go_region_with (first | ((with_reducible refine HSM.out.mono ?_); rintro e w5 ⟨rfl, hb5⟩; have M5 := Lib.hid (M4.out.drew.below hb5); clear hb5) | fail)
            all_goals (
              go_wp2_with fail
              go_roundg (g - (k + 1))
              case measure => exact meas hk hlt
              case rel => exact ⟨k + 1, meas2 hlt, by go_num, by rw [HS.out], M5.out⟩)
          · have HE := Lib.hid (HALL.out (by intro _; rw [HXL.out]; omega))
            rw [hD] at HE
            clear hD
            have i1 : ¬ (k : Int) < g := by omega
            go_wp2_with fail
            go_meet
            exact ⟨by rw [← HE.out], M4.out⟩
    case rest =>
      obtain ⟨rfl, hm⟩ := hcut
      have M4 := Lib.hid hm
      obtain ⟨C1, ob1, hcv1, hob1⟩ := conv_ex S'
      obtain ⟨C2, ob2, hcv2, hob2⟩ := conv_ex T'
      rw [HSS.out] at hcv1
      rw [HTS.out] at hcv2
      have HO1 := Lib.hid hob1
      have HO2 := Lib.hid hob2
      have Z1 := Lib.hid (M4.out.markrow (ob1 wc) (e := 26) (.slice (some ⟨wc.heap.size, 0, none⟩) m (C1 wc)))
      have PO1 := Lib.hid (show ∀ q ∈ qs, RB w2 w2.heap.size q.A q.l from P1.out.2)
      have PO2 := Lib.hid (show ∀ q ∈ us, RB w2 w2.heap.size q.A q.l from P2.out.2)
      have PR1 := Lib.hid (show Rd w2 w2.heap.size 1 A1 g (qs.map Pt.v) from by have := P1.out.1; rwa [HG.out] at this)
      have PR2 := Lib.hid (show Rd w2 w2.heap.size 1 A3 u (us.map Pt.v) from by have := P2.out.1; rwa [HGu.out] at this)
      clear hm hob1 hob2
      go_upto_region 10 with (at_builtin; refine wpList_appZE rfl _ _ 51 rfl [] Z1.out el_bs rfl _ A1 g c1 (qs.map Pt.v) rfl (Z1.out.m.src (Src.old PR1.out)) (by simp [Pt.v, Value.oneCell']) (by unfold maxLen; omega) (by omega) ?_; intro A5 c5 w5 N5 X5 hn5 hx5 mq; have Z2 := Lib.hid mq; have HN5 := Lib.hid hn5; have HX5 := Lib.hid hx5; clear mq hn5 hx5)
      have hal : a.length = m := by rw [← HA.out, Array.length_toList]; exact HSS.out
      have hbl : b.length = t := by rw [← HB.out, Array.length_toList]; exact HTS.out
      obtain ⟨FB1, hFB1⟩ : ∃ F, frameB (a :: x) = F := ⟨_, rfl⟩
      obtain ⟨FB2, hFB2⟩ : ∃ F, frameB (b :: y) = F := ⟨_, rfl⟩
      obtain ⟨F1, hF1⟩ : ∃ F, FB1.length = F := ⟨_, rfl⟩
      obtain ⟨F2, hF2⟩ : ∃ F, FB2.length = F := ⟨_, rfl⟩
      have hx6 : ∀ l ∈ x, l.length ≤ 60 := by
        rw [← HX.out]; intro l hl
        obtain ⟨q, hq, rfl⟩ := List.mem_map.1 hl
        exact HQ6.out q hq
      have hy6 : ∀ l ∈ y, l.length ≤ 60 := by
        rw [← HY.out]; intro l hl
        obtain ⟨q, hq, rfl⟩ := List.mem_map.1 hl
        exact HU6.out q hq
      have hF1l : F1 ≤ 10000 := by
        have := frameB_len (a :: x) 60 (by
          intro l hl
          rcases List.mem_cons.1 hl with rfl | hl
          · omega
          · exact hx6 l hl)
        rw [hFB1, hF1, List.length_cons, HXL.out] at this
        have : (g + 1) * (4 + 60) ≤ 9 * 64 := Nat.mul_le_mul (by omega) (by omega)
        omega
      have hF2l : F2 ≤ 10000 := by
        have := frameB_len (b :: y) 60 (by
          intro l hl
          rcases List.mem_cons.1 hl with rfl | hl
          · omega
          · exact hy6 l hl)
        rw [hFB2, hF2, List.length_cons, HYL.out] at this
        have : (u + 1) * (4 + 60) ≤ 9 * 64 := Nat.mul_le_mul (by omega) (by omega)
        omega
      have hSAME : decide (FB1 = FB2) = DD := by
        rw [← hFB1, ← hFB2, frame_same a b x y (by omega) (by omega) (fun l hl => Nat.le_trans (hx6 l hl) (by decide)) (fun l hl => Nat.le_trans (hy6 l hl) (by decide))]
        exact HDD.out
      have HSAME := Lib.hid hSAME
      have HC1 := Lib.hid (frame_call a (by omega) qs (by have := HG.out; omega) HQ6.out x HX.out FB1 hFB1 F1 hF1)
      have HC2 := Lib.hid (frame_call b (by omega) us (by have := HGu.out; omega) HU6.out y HY.out FB2 hFB2 F2 hF2)
      have HFB1 := Lib.hid hFB1
      have HFB2 := Lib.hid hFB2
      have HF1 := Lib.hid hF1
      have HF2 := Lib.hid hF2
      have HAL := Lib.hid hal
      have HBL := Lib.hid hbl
      clear hal hbl hFB1 hFB2 hF1 hF2 hx6 hy6 hSAME
      refine (HC1.out _ _ _ wc.heap.size (C1 wc) _ (by rw [HN5.out, HG.out]; omega) (Z2.out.pts (v := undef) (by rw [HN5.out]; simp; rw [HG.out]; omega) (by rw [HX5.out, ← HAL.out]; rfl) (by
        intro q hq
        rcases List.mem_cons.1 hq with rfl | hq
        · exact SZ.marked (HA.out ▸ HO1.out wc)
        · exact SZ.old (PO1.out q hq)))).mono ?_
      rintro e w6 ⟨A7, c7, rfl, hf⟩
      have M7 := Lib.hid ((Z2.out.m.addr hf).sub (bl' := []) (ow' := [⟨5, 1, .slice A7 F1 c7, F1, by8 FB1⟩]) (List.Sublist.refl _) (.cons_cons _ (List.nil_sublist _)))
      have Z3 := Lib.hid (M7.out.markrow (ob2 w6) (e := 26) (.slice (some ⟨w6.heap.size, 0, none⟩) t (C2 w6)))
      clear hf Z2 Z1 hcv1
      go_upto_region 11 with (at_builtin; refine wpList_appZE rfl _ _ 51 rfl [] Z3.out el_bs rfl _ A3 u c3 (us.map Pt.v) rfl (Z3.out.m.src (Src.old PR2.out)) (by simp [Pt.v, Value.oneCell']) (by unfold maxLen; omega) (by omega) ?_; intro A8 c8 w7 N8 X8 hn8 hx8 mq; have Z4 := Lib.hid mq; have HN8 := Lib.hid hn8; have HX8 := Lib.hid hx8; clear mq hn8 hx8)
      refine (HC2.out _ _ _ w6.heap.size (C2 w6) _ (by rw [HN8.out, HGu.out]; omega) (Z4.out.pts (v := undef) (by rw [HN8.out]; simp; rw [HGu.out]; omega) (by rw [HX8.out, ← HBL.out]; rfl) (by
        intro q hq
        rcases List.mem_cons.1 hq with rfl | hq
        · exact SZ.marked (HB.out ▸ HO2.out w6)
        · exact SZ.old (PO2.out q hq)))).mono ?_
      rintro e w8 ⟨A9, c9, rfl, hf⟩
      have Mq := Lib.hid ((Z4.out.m.addr hf).sub (bl' := []) (ow' := [⟨5, 1, .slice A9 F2 c9, F2, by8 FB2⟩, ⟨5, 1, .slice A7 F1 c7, F1, by8 FB1⟩]) (List.Sublist.refl _) (.cons_cons _ (List.sublist_cons_self _ _)))
      clear hf Z4 Z3 hcv2 M7
      obtain ⟨K1, hK1⟩ : ∃ K, macT l' FB1 = K := ⟨_, rfl⟩
      obtain ⟨K2, hK2⟩ : ∃ K, macT l' FB2 = K := ⟨_, rfl⟩
      have hKl1 : K1.length = 32 := by rw [← hK1]; rfl
      have hKl2 : K2.length = 32 := by rw [← hK2]; rfl
      have EQ := eq32 K1 K2 hKl1 hKl2
      obtain ⟨EE, hEE⟩ : ∃ E, (K1 == K2) = E := ⟨_, rfl⟩
      rw [hEE] at EQ
      have hEEE : (EE == EE) = true := beq_self_eq_true EE
      have hDDD : (DD == DD) = true := beq_self_eq_true DD
      have HSM := Lib.hid (show ∀ w', Rd w' w'.heap.size 1 A7 F1 (by8 FB1) → Rd w' w'.heap.size 1 A9 F2 (by8 FB2) → Calls Try.prog 25 #[.slice A7 F1 c7, .slice A9 F2 c9] w' fun e w2 => e = .returned (.bool DD) ∧ Below w'.heap.size w' w2 from fun w' h1 h2 => by
        have := same_any A7 A9 c7 c9 FB1 FB2 w' (by unfold RB; rw [HF1.out]; exact h1) (by unfold RB; rw [HF2.out]; exact h2) (by rw [HF1.out]; unfold maxLen; omega)
        rw [HF1.out, HF2.out, HSAME.out] at this
        exact this)
      have HD1 := Lib.hid (show ∀ w', Rd w' w'.heap.size 1 A n (by8 l') → Pts w' A1 qs → Calls Try.prog 53 #[.slice A n c, .string S', .slice A1 g c1] w' fun e w2 => e = .returned (.agg (b8a K1)) ∧ Below w'.heap.size w' w2 from fun w' h1 h2 => by
        have := derive_any w' A c l' (by unfold RB; rw [HLN.out]; exact h1) (by rw [HLN.out]; omega) S' (by rw [HSS.out]; omega) A1 c1 qs h2 (by rw [HG.out]; omega) (fun p hp => Nat.le_trans (HQ6.out p hp) (by decide))
        rw [HLN.out, HG.out, HA.out, HX.out, HFB1.out, hK1] at this
        exact this)
      have HD2 := Lib.hid (show ∀ w', Rd w' w'.heap.size 1 A n (by8 l') → Pts w' A3 us → Calls Try.prog 53 #[.slice A n c, .string T', .slice A3 u c3] w' fun e w2 => e = .returned (.agg (b8a K2)) ∧ Below w'.heap.size w' w2 from fun w' h1 h2 => by
        have := derive_any w' A c l' (by unfold RB; rw [HLN.out]; exact h1) (by rw [HLN.out]; omega) T' (by rw [HTS.out]; omega) A3 c3 us h2 (by rw [HGu.out]; omega) (fun p hp => Nat.le_trans (HU6.out p hp) (by decide))
        rw [HLN.out, HGu.out, HB.out, HY.out, HFB2.out, hK2] at this
        exact this)
      have HT1 := Lib.hid (show ∀ w' A' c', Rd w' w'.heap.size 1 A n (by8 l') → Pts w' A' [⟨A7, c7, FB1⟩] → Calls Try.prog 51 #[.slice A n c, .slice A' 1 c'] w' fun e w2 => e = .returned (.agg (b8a K1)) ∧ Below w'.heap.size w' w2 from fun w' A' c' h1 h2 => by
        have := mtag_any w' A c l' (by unfold RB; rw [HLN.out]; exact h1) (by rw [HLN.out]; omega) A' c' _ h2 (by simp) (by simp [catP]; rw [HF1.out]; omega)
        rw [HLN.out, show catP [(⟨A7, c7, FB1⟩ : Pt)] = FB1 by simp [catP], hK1] at this
        exact this)
      have HT2 := Lib.hid (show ∀ w' A' c', Rd w' w'.heap.size 1 A n (by8 l') → Pts w' A' [⟨A9, c9, FB2⟩] → Calls Try.prog 51 #[.slice A n c, .slice A' 1 c'] w' fun e w2 => e = .returned (.agg (b8a K2)) ∧ Below w'.heap.size w' w2 from fun w' A' c' h1 h2 => by
        have := mtag_any w' A c l' (by unfold RB; rw [HLN.out]; exact h1) (by rw [HLN.out]; omega) A' c' _ h2 (by simp) (by simp [catP]; rw [HF2.out]; omega)
        rw [HLN.out, show catP [(⟨A9, c9, FB2⟩ : Pt)] = FB2 by simp [catP], hK2] at this
        exact this)
      have S1 := Lib.hid (show Src w2 [] [⟨5, 1, .slice A9 F2 c9, F2, by8 FB2⟩, ⟨5, 1, .slice A7 F1 c7, F1, by8 FB1⟩] 1 A7 F1 (by8 FB1) from Mq.out.rowSrc (List.mem_cons_of_mem _ (List.mem_cons_self ..)))
      have S2 := Lib.hid (show Src w2 [] [⟨5, 1, .slice A9 F2 c9, F2, by8 FB2⟩, ⟨5, 1, .slice A7 F1 c7, F1, by8 FB1⟩] 1 A9 F2 (by8 FB2) from Mq.out.rowSrc (List.mem_cons_self ..))
      have Q1 := Lib.hid (show ∀ w' ow, Mst w2 w' [] ow → Pts w' A1 qs from fun w' ow h => h.pts (P1.out.old _ _))
      have Q2 := Lib.hid (show ∀ w' ow, Mst w2 w' [] ow → Pts w' A3 us from fun w' ow h => h.pts (P2.out.old _ _))
      clear hK1 hK2 hKl1 hKl2 hEE
      have Mq := Lib.hid Mq.out.drew
      go_wp2_with fail
      refine wp_region_held_drew (S := fun _ => True) (by kernel_rfl) ?_ (fun hHeld => ?_)
      · trivial
      generalize World.drew w8 = w9 at Mq hHeld ⊢
      refine wpAnyH_ready (rs := [0]) (by kernel_rfl) (by simp) ?_
      refine (AllReadyH.cons rfl (fun K hK => ?_) AllReadyH.nil)
      go_simp
      (with_reducible refine (known02 _).mono ?_); rintro e wq ⟨rfl, hb⟩; have Mq := Lib.hid (Mq.out.below hb); clear hb
      go_wp2_with fail
      refine hK.out _ _ (by trivial) (fun hHeld => ?_)
      clear hK K
      refine wpAnyH_take (i := 1) (v := ?_) rfl (by kernel_rfl) (by kernel_rfl) (by kernel_rfl) (fun _ _ _ h => h) (Or.inl ⟨by rfl, ?_⟩) (by assumption) ?_
      rotate_left
      · intro w hSw; (try dsimp only at hSw); go_split_ands; go_simp; with_reducible rfl
      change wpAnyH _ _ _ _ _ _ _ (Act.put _ (some 85) _) _
      simp only [Act.put, List.setIfInBounds_toArray, List.set_cons_zero, List.set_cons_succ, Array.toArray_toList]
      refine wpAnyH_take (i := 2) (v := ?_) rfl (by kernel_rfl) (by kernel_rfl) (by kernel_rfl) (fun _ _ _ h => h) (Or.inl ⟨by rfl, ?_⟩) (by assumption) ?_
      rotate_left
      · intro w hSw; (try dsimp only at hSw); go_split_ands; go_simp; with_reducible rfl
      change wpAnyH _ _ _ _ _ _ _ (Act.put _ (some 86) _) _
      simp only [Act.put, List.setIfInBounds_toArray, List.set_cons_zero, List.set_cons_succ, Array.toArray_toList]
      refine wpAnyH_take (i := 3) (v := ?_) rfl (by kernel_rfl) (by kernel_rfl) (by kernel_rfl) (fun _ _ _ h => h) (Or.inl ⟨by rfl, ?_⟩) (by assumption) ?_
      rotate_left
      · intro w hSw; (try dsimp only at hSw); go_split_ands; go_simp; with_reducible rfl
      change wpAnyH _ _ _ _ _ _ _ (Act.put _ (some 87) _) _
      simp only [Act.put, List.setIfInBounds_toArray, List.set_cons_zero, List.set_cons_succ, Array.toArray_toList]
      refine wpAnyH_take (i := 5) (v := ?_) rfl (by kernel_rfl) (by kernel_rfl) (by kernel_rfl) (fun _ _ _ h => h) (Or.inl ⟨by rfl, ?_⟩) (by assumption) ?_
      rotate_left
      · intro w hSw; (try dsimp only at hSw); go_split_ands; go_simp; with_reducible rfl
      change wpAnyH _ _ _ _ _ _ _ (Act.put _ (some 89) _) _
      simp only [Act.put, List.setIfInBounds_toArray, List.set_cons_zero, List.set_cons_succ, Array.toArray_toList]
      refine wpAnyH_ready (rs := [4]) (by kernel_rfl) (by simp) ?_
      refine (AllReadyH.cons rfl (fun K hK => ?_) AllReadyH.nil)
      go_simp
      (with_reducible refine (HSM.out _ (Mq.out.src S1.out) (Mq.out.src S2.out)).mono ?_); rintro e wq ⟨rfl, hb⟩; have Mq := Lib.hid (Mq.out.below hb); clear hb
      go_wp2_with fail
      refine hK.out _ _ (by trivial) (fun hHeld => ?_)
      clear hK K
      refine wpAnyH_take (i := 6) (v := ?_) rfl (by kernel_rfl) (by kernel_rfl) (by kernel_rfl) (fun _ _ _ h => h) (Or.inl ⟨by rfl, ?_⟩) (by assumption) ?_
      rotate_left
      · intro w hSw; (try dsimp only at hSw); go_split_ands; go_simp; with_reducible rfl
      change wpAnyH _ _ _ _ _ _ _ (Act.put _ (some 90) _) _
      simp only [Act.put, List.setIfInBounds_toArray, List.set_cons_zero, List.set_cons_succ, Array.toArray_toList]
      refine wpAnyH_take (i := 7) (v := ?_) rfl (by kernel_rfl) (by kernel_rfl) (by kernel_rfl) (fun _ _ _ h => h) (Or.inl ⟨by rfl, ?_⟩) (by assumption) ?_
      rotate_left
      · intro w hSw; (try dsimp only at hSw); go_split_ands; go_simp; with_reducible rfl
      change wpAnyH _ _ _ _ _ _ _ (Act.put _ (some 91) _) _
      simp only [Act.put, List.setIfInBounds_toArray, List.set_cons_zero, List.set_cons_succ, Array.toArray_toList]
      refine wpAnyH_take (i := 8) (v := ?_) rfl (by kernel_rfl) (by kernel_rfl) (by kernel_rfl) (fun _ _ _ h => h) (Or.inl ⟨by rfl, ?_⟩) (by assumption) ?_
      rotate_left
      · intro w hSw; (try dsimp only at hSw); go_split_ands; go_simp; with_reducible rfl
      change wpAnyH _ _ _ _ _ _ _ (Act.put _ (some 92) _) _
      simp only [Act.put, List.setIfInBounds_toArray, List.set_cons_zero, List.set_cons_succ, Array.toArray_toList]
      refine wpAnyH_take (i := 9) (v := ?_) rfl (by kernel_rfl) (by kernel_rfl) (by kernel_rfl) (fun _ _ _ h => h) (Or.inl ⟨by rfl, ?_⟩) (by assumption) ?_
      rotate_left
      · intro w hSw; (try dsimp only at hSw); go_split_ands; go_simp; with_reducible rfl
      change wpAnyH _ _ _ _ _ _ _ (Act.put _ (some 93) _) _
      simp only [Act.put, List.setIfInBounds_toArray, List.set_cons_zero, List.set_cons_succ, Array.toArray_toList]
      refine wpAnyH_take (i := 10) (v := ?_) rfl (by kernel_rfl) (by kernel_rfl) (by kernel_rfl) (fun _ _ _ h => h) (Or.inl ⟨by rfl, ?_⟩) (by assumption) ?_
      rotate_left
      · intro w hSw; (try dsimp only at hSw); go_split_ands; go_simp; with_reducible rfl
      change wpAnyH _ _ _ _ _ _ _ (Act.put _ (some 94) _) _
      simp only [Act.put, List.setIfInBounds_toArray, List.set_cons_zero, List.set_cons_succ, Array.toArray_toList]
      refine wpAnyH_take (i := 11) (v := ?_) rfl (by kernel_rfl) (by kernel_rfl) (by kernel_rfl) (fun _ _ _ h => h) (Or.inl ⟨by rfl, ?_⟩) (by assumption) ?_
      rotate_left
      · intro w hSw; (try dsimp only at hSw); go_split_ands; go_simp; with_reducible rfl
      change wpAnyH _ _ _ _ _ _ _ (Act.put _ (some 95) _) _
      simp only [Act.put, List.setIfInBounds_toArray, List.set_cons_zero, List.set_cons_succ, Array.toArray_toList]
      refine wpAnyH_take (i := 13) (v := ?_) rfl (by kernel_rfl) (by kernel_rfl) (by kernel_rfl) (fun _ _ _ h => h) (Or.inl ⟨by rfl, ?_⟩) (by assumption) ?_
      rotate_left
      · intro w hSw; (try dsimp only at hSw); go_split_ands; go_simp; with_reducible rfl
      change wpAnyH _ _ _ _ _ _ _ (Act.put _ (some 97) _) _
      simp only [Act.put, List.setIfInBounds_toArray, List.set_cons_zero, List.set_cons_succ, Array.toArray_toList]
      refine wpAnyH_take (i := 14) (v := ?_) rfl (by kernel_rfl) (by kernel_rfl) (by kernel_rfl) (fun _ _ _ h => h) (Or.inl ⟨by rfl, ?_⟩) (by assumption) ?_
      rotate_left
      · intro w hSw; (try dsimp only at hSw); go_split_ands; go_simp; with_reducible rfl
      change wpAnyH _ _ _ _ _ _ _ (Act.put _ (some 98) _) _
      simp only [Act.put, List.setIfInBounds_toArray, List.set_cons_zero, List.set_cons_succ, Array.toArray_toList]
      refine wpAnyH_take (i := 15) (v := ?_) rfl (by kernel_rfl) (by kernel_rfl) (by kernel_rfl) (fun _ _ _ h => h) (Or.inl ⟨by rfl, ?_⟩) (by assumption) ?_
      rotate_left
      · intro w hSw; (try dsimp only at hSw); go_split_ands; go_simp; with_reducible rfl
      change wpAnyH _ _ _ _ _ _ _ (Act.put _ (some 99) _) _
      simp only [Act.put, List.setIfInBounds_toArray, List.set_cons_zero, List.set_cons_succ, Array.toArray_toList]
      refine wpAnyH_take (i := 18) (v := ?_) rfl (by kernel_rfl) (by kernel_rfl) (by kernel_rfl) (fun _ _ _ h => h) (Or.inl ⟨by rfl, ?_⟩) (by assumption) ?_
      rotate_left
      · intro w hSw; (try dsimp only at hSw); go_split_ands; go_simp; with_reducible rfl
      change wpAnyH _ _ _ _ _ _ _ (Act.put _ (some 102) _) _
      simp only [Act.put, List.setIfInBounds_toArray, List.set_cons_zero, List.set_cons_succ, Array.toArray_toList]
      refine wpAnyH_take (i := 19) (v := ?_) rfl (by kernel_rfl) (by kernel_rfl) (by kernel_rfl) (fun _ _ _ h => h) (Or.inl ⟨by rfl, ?_⟩) (by assumption) ?_
      rotate_left
      · intro w hSw; (try dsimp only at hSw); go_split_ands; go_simp; with_reducible rfl
      change wpAnyH _ _ _ _ _ _ _ (Act.put _ (some 103) _) _
      simp only [Act.put, List.setIfInBounds_toArray, List.set_cons_zero, List.set_cons_succ, Array.toArray_toList]
      refine wpAnyH_take (i := 22) (v := ?_) rfl (by kernel_rfl) (by kernel_rfl) (by kernel_rfl) (fun _ _ _ h => h) (Or.inl ⟨by rfl, ?_⟩) (by assumption) ?_
      rotate_left
      · intro w hSw; (try dsimp only at hSw); go_split_ands; go_simp; with_reducible rfl
      change wpAnyH _ _ _ _ _ _ _ (Act.put _ (some 106) _) _
      simp only [Act.put, List.setIfInBounds_toArray, List.set_cons_zero, List.set_cons_succ, Array.toArray_toList]
      refine wpAnyH_take (i := 23) (v := ?_) rfl (by kernel_rfl) (by kernel_rfl) (by kernel_rfl) (fun _ _ _ h => h) (Or.inl ⟨by rfl, ?_⟩) (by assumption) ?_
      rotate_left
      · intro w hSw; (try dsimp only at hSw); go_split_ands; go_simp; with_reducible rfl
      change wpAnyH _ _ _ _ _ _ _ (Act.put _ (some 107) _) _
      simp only [Act.put, List.setIfInBounds_toArray, List.set_cons_zero, List.set_cons_succ, Array.toArray_toList]
      refine wpAnyH_ready (rs := [12, 20, 24]) (by kernel_rfl) (by simp) ?_
      refine (AllReadyH.cons rfl (fun K hK => ?_) (AllReadyH.cons rfl (fun K hK => ?_) (AllReadyH.cons rfl (fun K hK => ?_) AllReadyH.nil)))
      · skip
        go_simp
        (with_reducible refine (HD1.out _ (Mq.out.src (Src.old R1.out)) (Q1.out _ _ Mq.out)).mono ?_); rintro e wq ⟨rfl, hb⟩; have Mq := Lib.hid (Mq.out.below hb); clear hb
        go_wp2_with fail
        refine hK.out _ _ (by trivial) (fun hHeld => ?_)
        clear hK K
        refine wpAnyH_ready (rs := [16, 20, 24]) (by kernel_rfl) (by simp) ?_
        refine (AllReadyH.cons rfl (fun K hK => ?_) (AllReadyH.cons rfl (fun K hK => ?_) (AllReadyH.cons rfl (fun K hK => ?_) AllReadyH.nil)))
        · skip
          go_simp
          (with_reducible refine (HD2.out _ (Mq.out.src (Src.old R1.out)) (Q2.out _ _ Mq.out)).mono ?_); rintro e wq ⟨rfl, hb⟩; have Mq := Lib.hid (Mq.out.below hb); clear hb
          go_wp2_with fail
          refine hK.out _ _ (by trivial) (fun hHeld => ?_)
          clear hK K
          refine wpAnyH_take (i := 17) (v := ?_) rfl (by kernel_rfl) (by kernel_rfl) (by kernel_rfl) (fun _ _ _ h => h) (Or.inl ⟨by rfl, ?_⟩) (by assumption) ?_
          rotate_left
          · intro w hSw; (try dsimp only at hSw); go_split_ands; go_simp; with_reducible rfl
          change wpAnyH _ _ _ _ _ _ _ (Act.put _ (some 101) _) _
          simp only [Act.put, List.setIfInBounds_toArray, List.set_cons_zero, List.set_cons_succ, Array.toArray_toList]
          refine wpAnyH_ready (rs := [20, 24]) (by kernel_rfl) (by simp) ?_
          refine (AllReadyH.cons rfl (fun K hK => ?_) (AllReadyH.cons rfl (fun K hK => ?_) AllReadyH.nil))
          · skip
            go_simp; generalize hwq : World.alloc _ _ = wq; obtain ⟨y1, mq, hs⟩ := Mq.out.oneS HF1.out (by first | exact S1.out | exact S1.out.cr _) hwq; have Mq := Lib.hid mq; have HS1 := Lib.hid hs; clear mq hs hwq
            refine hK.out _ _ (by trivial) (fun hHeld => ?_)
            clear hK K
            refine wpAnyH_ready (rs := [21, 24]) (by kernel_rfl) (by simp) ?_
            refine (AllReadyH.cons rfl (fun K hK => ?_) (AllReadyH.cons rfl (fun K hK => ?_) AllReadyH.nil))
            · skip
              go_simp
              (first | (with_reducible refine (HT1.out _ _ _ (Mq.out.src (Src.old R1.out)) (Mq.out.pts HS1.out)).mono ?_) | (with_reducible refine (HT1.out _ _ _ (Mq.out.src (Src.old R1.out)) (Mq.out.pts (HS1.out.cr _))).mono ?_)); rintro e wq ⟨rfl, hb⟩; have Mq := Lib.hid (Mq.out.below hb); clear hb
              go_wp2_with fail
              refine hK.out _ _ (by trivial) (fun hHeld => ?_)
              clear hK K
              refine wpAnyH_ready (rs := [24]) (by kernel_rfl) (by simp) ?_
              refine (AllReadyH.cons rfl (fun K hK => ?_) AllReadyH.nil)
              go_simp; generalize hwq : World.alloc _ _ = wq; obtain ⟨y1, mq, hs⟩ := Mq.out.oneS HF2.out (by first | exact S2.out | exact S2.out.cr _) hwq; have Mq := Lib.hid mq; have HS2 := Lib.hid hs; clear mq hs hwq
              refine hK.out _ _ (by trivial) (fun hHeld => ?_)
              clear hK K
              refine wpAnyH_ready (rs := [25]) (by kernel_rfl) (by simp) ?_
              refine (AllReadyH.cons rfl (fun K hK => ?_) AllReadyH.nil)
              go_simp
              (first | (with_reducible refine (HT2.out _ _ _ (Mq.out.src (Src.old R1.out)) (Mq.out.pts HS2.out)).mono ?_) | (with_reducible refine (HT2.out _ _ _ (Mq.out.src (Src.old R1.out)) (Mq.out.pts (HS2.out.cr _))).mono ?_)); rintro e wq ⟨rfl, hb⟩; have Mq := Lib.hid (Mq.out.below hb); clear hb
              go_wp2_with fail
              refine hK.out _ _ (by trivial) (fun hHeld => ?_)
              clear hK K
              refine wpAnyH_take (i := 26) (v := ?_) rfl (by kernel_rfl) (by kernel_rfl) (by kernel_rfl) (fun _ _ _ h => h) (Or.inl ⟨by rfl, ?_⟩) (by assumption) ?_
              rotate_left
              · intro w hSw; (try dsimp only at hSw); go_split_ands; go_simp; with_reducible rfl
              change wpAnyH _ _ _ _ _ _ _ (Act.put _ (some 110) _) _
              simp only [Act.put, List.setIfInBounds_toArray, List.set_cons_zero, List.set_cons_succ, Array.toArray_toList]
              refine wpAnyH_take (i := 27) (v := ?_) rfl (by kernel_rfl) (by kernel_rfl) (by kernel_rfl) (fun _ _ _ h => h) (Or.inl ⟨by rfl, ?_⟩) (by assumption) ?_
              rotate_left
              · intro w hSw; (try dsimp only at hSw); go_split_ands; go_simp; with_reducible rfl
              change wpAnyH _ _ _ _ _ _ _ (Act.put _ (some 111) _) _
              simp only [Act.put, List.setIfInBounds_toArray, List.set_cons_zero, List.set_cons_succ, Array.toArray_toList]
              refine wpAnyH_take (i := 28) (v := ?_) rfl (by kernel_rfl) (by kernel_rfl) (by kernel_rfl) (fun _ _ _ h => h) (Or.inl ⟨by rfl, ?_⟩) (by assumption) ?_
              rotate_left
              · intro w hSw; (try dsimp only at hSw); go_split_ands; go_simp; with_reducible rfl
              change wpAnyH _ _ _ _ _ _ _ (Act.put _ (some 112) _) _
              simp only [Act.put, List.setIfInBounds_toArray, List.set_cons_zero, List.set_cons_succ, Array.toArray_toList]
              refine wpAnyH_take (i := 29) (v := ?_) rfl (by kernel_rfl) (by kernel_rfl) (by kernel_rfl) (fun _ _ _ h => h) (Or.inl ⟨by rfl, ?_⟩) (by assumption) ?_
              rotate_left
              · intro w hSw; (try dsimp only at hSw); go_split_ands; go_simp; with_reducible rfl
              change wpAnyH _ _ _ _ _ _ _ (Act.put _ (some 10) _) _
              simp only [Act.put, List.setIfInBounds_toArray, List.set_cons_zero, List.set_cons_succ, Array.toArray_toList]
              refine wpAnyH_done (by kernel_rfl) ?_ _
              go_wp2
              go_ret
              exact ⟨rfl, Bsz B2.out Mq.out.bel⟩
            · skip
              go_simp; generalize hwq : World.alloc _ _ = wq; obtain ⟨y1, mq, hs⟩ := Mq.out.oneS HF2.out (by first | exact S2.out | exact S2.out.cr _) hwq; have Mq := Lib.hid mq; have HS2 := Lib.hid hs; clear mq hs hwq
              refine hK.out _ _ (by trivial) (fun hHeld => ?_)
              clear hK K
              refine wpAnyH_ready (rs := [21]) (by kernel_rfl) (by simp) ?_
              refine (AllReadyH.cons rfl (fun K hK => ?_) AllReadyH.nil)
              go_simp
              (first | (with_reducible refine (HT1.out _ _ _ (Mq.out.src (Src.old R1.out)) (Mq.out.pts HS1.out)).mono ?_) | (with_reducible refine (HT1.out _ _ _ (Mq.out.src (Src.old R1.out)) (Mq.out.pts (HS1.out.cr _))).mono ?_)); rintro e wq ⟨rfl, hb⟩; have Mq := Lib.hid (Mq.out.below hb); clear hb
              go_wp2_with fail
              refine hK.out _ _ (by trivial) (fun hHeld => ?_)
              clear hK K
              refine wpAnyH_ready (rs := [25]) (by kernel_rfl) (by simp) ?_
              refine (AllReadyH.cons rfl (fun K hK => ?_) AllReadyH.nil)
              go_simp
              (first | (with_reducible refine (HT2.out _ _ _ (Mq.out.src (Src.old R1.out)) (Mq.out.pts HS2.out)).mono ?_) | (with_reducible refine (HT2.out _ _ _ (Mq.out.src (Src.old R1.out)) (Mq.out.pts (HS2.out.cr _))).mono ?_)); rintro e wq ⟨rfl, hb⟩; have Mq := Lib.hid (Mq.out.below hb); clear hb
              go_wp2_with fail
              refine hK.out _ _ (by trivial) (fun hHeld => ?_)
              clear hK K
              refine wpAnyH_take (i := 26) (v := ?_) rfl (by kernel_rfl) (by kernel_rfl) (by kernel_rfl) (fun _ _ _ h => h) (Or.inl ⟨by rfl, ?_⟩) (by assumption) ?_
              rotate_left
              · intro w hSw; (try dsimp only at hSw); go_split_ands; go_simp; with_reducible rfl
              change wpAnyH _ _ _ _ _ _ _ (Act.put _ (some 110) _) _
              simp only [Act.put, List.setIfInBounds_toArray, List.set_cons_zero, List.set_cons_succ, Array.toArray_toList]
              refine wpAnyH_take (i := 27) (v := ?_) rfl (by kernel_rfl) (by kernel_rfl) (by kernel_rfl) (fun _ _ _ h => h) (Or.inl ⟨by rfl, ?_⟩) (by assumption) ?_
              rotate_left
              · intro w hSw; (try dsimp only at hSw); go_split_ands; go_simp; with_reducible rfl
              change wpAnyH _ _ _ _ _ _ _ (Act.put _ (some 111) _) _
              simp only [Act.put, List.setIfInBounds_toArray, List.set_cons_zero, List.set_cons_succ, Array.toArray_toList]
              refine wpAnyH_take (i := 28) (v := ?_) rfl (by kernel_rfl) (by kernel_rfl) (by kernel_rfl) (fun _ _ _ h => h) (Or.inl ⟨by rfl, ?_⟩) (by assumption) ?_
              rotate_left
              · intro w hSw; (try dsimp only at hSw); go_split_ands; go_simp; with_reducible rfl
              change wpAnyH _ _ _ _ _ _ _ (Act.put _ (some 112) _) _
              simp only [Act.put, List.setIfInBounds_toArray, List.set_cons_zero, List.set_cons_succ, Array.toArray_toList]
              refine wpAnyH_take (i := 29) (v := ?_) rfl (by kernel_rfl) (by kernel_rfl) (by kernel_rfl) (fun _ _ _ h => h) (Or.inl ⟨by rfl, ?_⟩) (by assumption) ?_
              rotate_left
              · intro w hSw; (try dsimp only at hSw); go_split_ands; go_simp; with_reducible rfl
              change wpAnyH _ _ _ _ _ _ _ (Act.put _ (some 10) _) _
              simp only [Act.put, List.setIfInBounds_toArray, List.set_cons_zero, List.set_cons_succ, Array.toArray_toList]
              refine wpAnyH_done (by kernel_rfl) ?_ _
              go_wp2
              go_ret
              exact ⟨rfl, Bsz B2.out Mq.out.bel⟩
          · skip
            go_simp; generalize hwq : World.alloc _ _ = wq; obtain ⟨y1, mq, hs⟩ := Mq.out.oneS HF2.out (by first | exact S2.out | exact S2.out.cr _) hwq; have Mq := Lib.hid mq; have HS2 := Lib.hid hs; clear mq hs hwq
            refine hK.out _ _ (by trivial) (fun hHeld => ?_)
            clear hK K
            refine wpAnyH_ready (rs := [20]) (by kernel_rfl) (by simp) ?_
            refine (AllReadyH.cons rfl (fun K hK => ?_) AllReadyH.nil)
            go_simp; generalize hwq : World.alloc _ _ = wq; obtain ⟨y1, mq, hs⟩ := Mq.out.oneS HF1.out (by first | exact S1.out | exact S1.out.cr _) hwq; have Mq := Lib.hid mq; have HS1 := Lib.hid hs; clear mq hs hwq
            refine hK.out _ _ (by trivial) (fun hHeld => ?_)
            clear hK K
            refine wpAnyH_ready (rs := [21]) (by kernel_rfl) (by simp) ?_
            refine (AllReadyH.cons rfl (fun K hK => ?_) AllReadyH.nil)
            go_simp
            (first | (with_reducible refine (HT1.out _ _ _ (Mq.out.src (Src.old R1.out)) (Mq.out.pts HS1.out)).mono ?_) | (with_reducible refine (HT1.out _ _ _ (Mq.out.src (Src.old R1.out)) (Mq.out.pts (HS1.out.cr _))).mono ?_)); rintro e wq ⟨rfl, hb⟩; have Mq := Lib.hid (Mq.out.below hb); clear hb
            go_wp2_with fail
            refine hK.out _ _ (by trivial) (fun hHeld => ?_)
            clear hK K
            refine wpAnyH_ready (rs := [25]) (by kernel_rfl) (by simp) ?_
            refine (AllReadyH.cons rfl (fun K hK => ?_) AllReadyH.nil)
            go_simp
            (first | (with_reducible refine (HT2.out _ _ _ (Mq.out.src (Src.old R1.out)) (Mq.out.pts HS2.out)).mono ?_) | (with_reducible refine (HT2.out _ _ _ (Mq.out.src (Src.old R1.out)) (Mq.out.pts (HS2.out.cr _))).mono ?_)); rintro e wq ⟨rfl, hb⟩; have Mq := Lib.hid (Mq.out.below hb); clear hb
            go_wp2_with fail
            refine hK.out _ _ (by trivial) (fun hHeld => ?_)
            clear hK K
            refine wpAnyH_take (i := 26) (v := ?_) rfl (by kernel_rfl) (by kernel_rfl) (by kernel_rfl) (fun _ _ _ h => h) (Or.inl ⟨by rfl, ?_⟩) (by assumption) ?_
            rotate_left
            · intro w hSw; (try dsimp only at hSw); go_split_ands; go_simp; with_reducible rfl
            change wpAnyH _ _ _ _ _ _ _ (Act.put _ (some 110) _) _
            simp only [Act.put, List.setIfInBounds_toArray, List.set_cons_zero, List.set_cons_succ, Array.toArray_toList]
            refine wpAnyH_take (i := 27) (v := ?_) rfl (by kernel_rfl) (by kernel_rfl) (by kernel_rfl) (fun _ _ _ h => h) (Or.inl ⟨by rfl, ?_⟩) (by assumption) ?_
            rotate_left
            · intro w hSw; (try dsimp only at hSw); go_split_ands; go_simp; with_reducible rfl
            change wpAnyH _ _ _ _ _ _ _ (Act.put _ (some 111) _) _
            simp only [Act.put, List.setIfInBounds_toArray, List.set_cons_zero, List.set_cons_succ, Array.toArray_toList]
            refine wpAnyH_take (i := 28) (v := ?_) rfl (by kernel_rfl) (by kernel_rfl) (by kernel_rfl) (fun _ _ _ h => h) (Or.inl ⟨by rfl, ?_⟩) (by assumption) ?_
            rotate_left
            · intro w hSw; (try dsimp only at hSw); go_split_ands; go_simp; with_reducible rfl
            change wpAnyH _ _ _ _ _ _ _ (Act.put _ (some 112) _) _
            simp only [Act.put, List.setIfInBounds_toArray, List.set_cons_zero, List.set_cons_succ, Array.toArray_toList]
            refine wpAnyH_take (i := 29) (v := ?_) rfl (by kernel_rfl) (by kernel_rfl) (by kernel_rfl) (fun _ _ _ h => h) (Or.inl ⟨by rfl, ?_⟩) (by assumption) ?_
            rotate_left
            · intro w hSw; (try dsimp only at hSw); go_split_ands; go_simp; with_reducible rfl
            change wpAnyH _ _ _ _ _ _ _ (Act.put _ (some 10) _) _
            simp only [Act.put, List.setIfInBounds_toArray, List.set_cons_zero, List.set_cons_succ, Array.toArray_toList]
            refine wpAnyH_done (by kernel_rfl) ?_ _
            go_wp2
            go_ret
            exact ⟨rfl, Bsz B2.out Mq.out.bel⟩
        · skip
          go_simp; generalize hwq : World.alloc _ _ = wq; obtain ⟨y1, mq, hs⟩ := Mq.out.oneS HF1.out (by first | exact S1.out | exact S1.out.cr _) hwq; have Mq := Lib.hid mq; have HS1 := Lib.hid hs; clear mq hs hwq
          refine hK.out _ _ (by trivial) (fun hHeld => ?_)
          clear hK K
          refine wpAnyH_ready (rs := [16, 24]) (by kernel_rfl) (by simp) ?_
          refine (AllReadyH.cons rfl (fun K hK => ?_) (AllReadyH.cons rfl (fun K hK => ?_) AllReadyH.nil))
          · skip
            go_simp
            (with_reducible refine (HD2.out _ (Mq.out.src (Src.old R1.out)) (Q2.out _ _ Mq.out)).mono ?_); rintro e wq ⟨rfl, hb⟩; have Mq := Lib.hid (Mq.out.below hb); clear hb
            go_wp2_with fail
            refine hK.out _ _ (by trivial) (fun hHeld => ?_)
            clear hK K
            refine wpAnyH_take (i := 17) (v := ?_) rfl (by kernel_rfl) (by kernel_rfl) (by kernel_rfl) (fun _ _ _ h => h) (Or.inl ⟨by rfl, ?_⟩) (by assumption) ?_
            rotate_left
            · intro w hSw; (try dsimp only at hSw); go_split_ands; go_simp; with_reducible rfl
            change wpAnyH _ _ _ _ _ _ _ (Act.put _ (some 101) _) _
            simp only [Act.put, List.setIfInBounds_toArray, List.set_cons_zero, List.set_cons_succ, Array.toArray_toList]
            refine wpAnyH_ready (rs := [21, 24]) (by kernel_rfl) (by simp) ?_
            refine (AllReadyH.cons rfl (fun K hK => ?_) (AllReadyH.cons rfl (fun K hK => ?_) AllReadyH.nil))
            · skip
              go_simp
              (first | (with_reducible refine (HT1.out _ _ _ (Mq.out.src (Src.old R1.out)) (Mq.out.pts HS1.out)).mono ?_) | (with_reducible refine (HT1.out _ _ _ (Mq.out.src (Src.old R1.out)) (Mq.out.pts (HS1.out.cr _))).mono ?_)); rintro e wq ⟨rfl, hb⟩; have Mq := Lib.hid (Mq.out.below hb); clear hb
              go_wp2_with fail
              refine hK.out _ _ (by trivial) (fun hHeld => ?_)
              clear hK K
              refine wpAnyH_ready (rs := [24]) (by kernel_rfl) (by simp) ?_
              refine (AllReadyH.cons rfl (fun K hK => ?_) AllReadyH.nil)
              go_simp; generalize hwq : World.alloc _ _ = wq; obtain ⟨y1, mq, hs⟩ := Mq.out.oneS HF2.out (by first | exact S2.out | exact S2.out.cr _) hwq; have Mq := Lib.hid mq; have HS2 := Lib.hid hs; clear mq hs hwq
              refine hK.out _ _ (by trivial) (fun hHeld => ?_)
              clear hK K
              refine wpAnyH_ready (rs := [25]) (by kernel_rfl) (by simp) ?_
              refine (AllReadyH.cons rfl (fun K hK => ?_) AllReadyH.nil)
              go_simp
              (first | (with_reducible refine (HT2.out _ _ _ (Mq.out.src (Src.old R1.out)) (Mq.out.pts HS2.out)).mono ?_) | (with_reducible refine (HT2.out _ _ _ (Mq.out.src (Src.old R1.out)) (Mq.out.pts (HS2.out.cr _))).mono ?_)); rintro e wq ⟨rfl, hb⟩; have Mq := Lib.hid (Mq.out.below hb); clear hb
              go_wp2_with fail
              refine hK.out _ _ (by trivial) (fun hHeld => ?_)
              clear hK K
              refine wpAnyH_take (i := 26) (v := ?_) rfl (by kernel_rfl) (by kernel_rfl) (by kernel_rfl) (fun _ _ _ h => h) (Or.inl ⟨by rfl, ?_⟩) (by assumption) ?_
              rotate_left
              · intro w hSw; (try dsimp only at hSw); go_split_ands; go_simp; with_reducible rfl
              change wpAnyH _ _ _ _ _ _ _ (Act.put _ (some 110) _) _
              simp only [Act.put, List.setIfInBounds_toArray, List.set_cons_zero, List.set_cons_succ, Array.toArray_toList]
              refine wpAnyH_take (i := 27) (v := ?_) rfl (by kernel_rfl) (by kernel_rfl) (by kernel_rfl) (fun _ _ _ h => h) (Or.inl ⟨by rfl, ?_⟩) (by assumption) ?_
              rotate_left
              · intro w hSw; (try dsimp only at hSw); go_split_ands; go_simp; with_reducible rfl
              change wpAnyH _ _ _ _ _ _ _ (Act.put _ (some 111) _) _
              simp only [Act.put, List.setIfInBounds_toArray, List.set_cons_zero, List.set_cons_succ, Array.toArray_toList]
              refine wpAnyH_take (i := 28) (v := ?_) rfl (by kernel_rfl) (by kernel_rfl) (by kernel_rfl) (fun _ _ _ h => h) (Or.inl ⟨by rfl, ?_⟩) (by assumption) ?_
              rotate_left
              · intro w hSw; (try dsimp only at hSw); go_split_ands; go_simp; with_reducible rfl
              change wpAnyH _ _ _ _ _ _ _ (Act.put _ (some 112) _) _
              simp only [Act.put, List.setIfInBounds_toArray, List.set_cons_zero, List.set_cons_succ, Array.toArray_toList]
              refine wpAnyH_take (i := 29) (v := ?_) rfl (by kernel_rfl) (by kernel_rfl) (by kernel_rfl) (fun _ _ _ h => h) (Or.inl ⟨by rfl, ?_⟩) (by assumption) ?_
              rotate_left
              · intro w hSw; (try dsimp only at hSw); go_split_ands; go_simp; with_reducible rfl
              change wpAnyH _ _ _ _ _ _ _ (Act.put _ (some 10) _) _
              simp only [Act.put, List.setIfInBounds_toArray, List.set_cons_zero, List.set_cons_succ, Array.toArray_toList]
              refine wpAnyH_done (by kernel_rfl) ?_ _
              go_wp2
              go_ret
              exact ⟨rfl, Bsz B2.out Mq.out.bel⟩
            · skip
              go_simp; generalize hwq : World.alloc _ _ = wq; obtain ⟨y1, mq, hs⟩ := Mq.out.oneS HF2.out (by first | exact S2.out | exact S2.out.cr _) hwq; have Mq := Lib.hid mq; have HS2 := Lib.hid hs; clear mq hs hwq
              refine hK.out _ _ (by trivial) (fun hHeld => ?_)
              clear hK K
              refine wpAnyH_ready (rs := [21]) (by kernel_rfl) (by simp) ?_
              refine (AllReadyH.cons rfl (fun K hK => ?_) AllReadyH.nil)
              go_simp
              (first | (with_reducible refine (HT1.out _ _ _ (Mq.out.src (Src.old R1.out)) (Mq.out.pts HS1.out)).mono ?_) | (with_reducible refine (HT1.out _ _ _ (Mq.out.src (Src.old R1.out)) (Mq.out.pts (HS1.out.cr _))).mono ?_)); rintro e wq ⟨rfl, hb⟩; have Mq := Lib.hid (Mq.out.below hb); clear hb
              go_wp2_with fail
              refine hK.out _ _ (by trivial) (fun hHeld => ?_)
              clear hK K
              refine wpAnyH_ready (rs := [25]) (by kernel_rfl) (by simp) ?_
              refine (AllReadyH.cons rfl (fun K hK => ?_) AllReadyH.nil)
              go_simp
              (first | (with_reducible refine (HT2.out _ _ _ (Mq.out.src (Src.old R1.out)) (Mq.out.pts HS2.out)).mono ?_) | (with_reducible refine (HT2.out _ _ _ (Mq.out.src (Src.old R1.out)) (Mq.out.pts (HS2.out.cr _))).mono ?_)); rintro e wq ⟨rfl, hb⟩; have Mq := Lib.hid (Mq.out.below hb); clear hb
              go_wp2_with fail
              refine hK.out _ _ (by trivial) (fun hHeld => ?_)
              clear hK K
              refine wpAnyH_take (i := 26) (v := ?_) rfl (by kernel_rfl) (by kernel_rfl) (by kernel_rfl) (fun _ _ _ h => h) (Or.inl ⟨by rfl, ?_⟩) (by assumption) ?_
              rotate_left
              · intro w hSw; (try dsimp only at hSw); go_split_ands; go_simp; with_reducible rfl
              change wpAnyH _ _ _ _ _ _ _ (Act.put _ (some 110) _) _
              simp only [Act.put, List.setIfInBounds_toArray, List.set_cons_zero, List.set_cons_succ, Array.toArray_toList]
              refine wpAnyH_take (i := 27) (v := ?_) rfl (by kernel_rfl) (by kernel_rfl) (by kernel_rfl) (fun _ _ _ h => h) (Or.inl ⟨by rfl, ?_⟩) (by assumption) ?_
              rotate_left
              · intro w hSw; (try dsimp only at hSw); go_split_ands; go_simp; with_reducible rfl
              change wpAnyH _ _ _ _ _ _ _ (Act.put _ (some 111) _) _
              simp only [Act.put, List.setIfInBounds_toArray, List.set_cons_zero, List.set_cons_succ, Array.toArray_toList]
              refine wpAnyH_take (i := 28) (v := ?_) rfl (by kernel_rfl) (by kernel_rfl) (by kernel_rfl) (fun _ _ _ h => h) (Or.inl ⟨by rfl, ?_⟩) (by assumption) ?_
              rotate_left
              · intro w hSw; (try dsimp only at hSw); go_split_ands; go_simp; with_reducible rfl
              change wpAnyH _ _ _ _ _ _ _ (Act.put _ (some 112) _) _
              simp only [Act.put, List.setIfInBounds_toArray, List.set_cons_zero, List.set_cons_succ, Array.toArray_toList]
              refine wpAnyH_take (i := 29) (v := ?_) rfl (by kernel_rfl) (by kernel_rfl) (by kernel_rfl) (fun _ _ _ h => h) (Or.inl ⟨by rfl, ?_⟩) (by assumption) ?_
              rotate_left
              · intro w hSw; (try dsimp only at hSw); go_split_ands; go_simp; with_reducible rfl
              change wpAnyH _ _ _ _ _ _ _ (Act.put _ (some 10) _) _
              simp only [Act.put, List.setIfInBounds_toArray, List.set_cons_zero, List.set_cons_succ, Array.toArray_toList]
              refine wpAnyH_done (by kernel_rfl) ?_ _
              go_wp2
              go_ret
              exact ⟨rfl, Bsz B2.out Mq.out.bel⟩
          · skip
            go_simp; generalize hwq : World.alloc _ _ = wq; obtain ⟨y1, mq, hs⟩ := Mq.out.oneS HF2.out (by first | exact S2.out | exact S2.out.cr _) hwq; have Mq := Lib.hid mq; have HS2 := Lib.hid hs; clear mq hs hwq
            refine hK.out _ _ (by trivial) (fun hHeld => ?_)
            clear hK K
            refine wpAnyH_ready (rs := [16]) (by kernel_rfl) (by simp) ?_
            refine (AllReadyH.cons rfl (fun K hK => ?_) AllReadyH.nil)
            go_simp
            (with_reducible refine (HD2.out _ (Mq.out.src (Src.old R1.out)) (Q2.out _ _ Mq.out)).mono ?_); rintro e wq ⟨rfl, hb⟩; have Mq := Lib.hid (Mq.out.below hb); clear hb
            go_wp2_with fail
            refine hK.out _ _ (by trivial) (fun hHeld => ?_)
            clear hK K
            refine wpAnyH_take (i := 17) (v := ?_) rfl (by kernel_rfl) (by kernel_rfl) (by kernel_rfl) (fun _ _ _ h => h) (Or.inl ⟨by rfl, ?_⟩) (by assumption) ?_
            rotate_left
            · intro w hSw; (try dsimp only at hSw); go_split_ands; go_simp; with_reducible rfl
            change wpAnyH _ _ _ _ _ _ _ (Act.put _ (some 101) _) _
            simp only [Act.put, List.setIfInBounds_toArray, List.set_cons_zero, List.set_cons_succ, Array.toArray_toList]
            refine wpAnyH_ready (rs := [21]) (by kernel_rfl) (by simp) ?_
            refine (AllReadyH.cons rfl (fun K hK => ?_) AllReadyH.nil)
            go_simp
            (first | (with_reducible refine (HT1.out _ _ _ (Mq.out.src (Src.old R1.out)) (Mq.out.pts HS1.out)).mono ?_) | (with_reducible refine (HT1.out _ _ _ (Mq.out.src (Src.old R1.out)) (Mq.out.pts (HS1.out.cr _))).mono ?_)); rintro e wq ⟨rfl, hb⟩; have Mq := Lib.hid (Mq.out.below hb); clear hb
            go_wp2_with fail
            refine hK.out _ _ (by trivial) (fun hHeld => ?_)
            clear hK K
            refine wpAnyH_ready (rs := [25]) (by kernel_rfl) (by simp) ?_
            refine (AllReadyH.cons rfl (fun K hK => ?_) AllReadyH.nil)
            go_simp
            (first | (with_reducible refine (HT2.out _ _ _ (Mq.out.src (Src.old R1.out)) (Mq.out.pts HS2.out)).mono ?_) | (with_reducible refine (HT2.out _ _ _ (Mq.out.src (Src.old R1.out)) (Mq.out.pts (HS2.out.cr _))).mono ?_)); rintro e wq ⟨rfl, hb⟩; have Mq := Lib.hid (Mq.out.below hb); clear hb
            go_wp2_with fail
            refine hK.out _ _ (by trivial) (fun hHeld => ?_)
            clear hK K
            refine wpAnyH_take (i := 26) (v := ?_) rfl (by kernel_rfl) (by kernel_rfl) (by kernel_rfl) (fun _ _ _ h => h) (Or.inl ⟨by rfl, ?_⟩) (by assumption) ?_
            rotate_left
            · intro w hSw; (try dsimp only at hSw); go_split_ands; go_simp; with_reducible rfl
            change wpAnyH _ _ _ _ _ _ _ (Act.put _ (some 110) _) _
            simp only [Act.put, List.setIfInBounds_toArray, List.set_cons_zero, List.set_cons_succ, Array.toArray_toList]
            refine wpAnyH_take (i := 27) (v := ?_) rfl (by kernel_rfl) (by kernel_rfl) (by kernel_rfl) (fun _ _ _ h => h) (Or.inl ⟨by rfl, ?_⟩) (by assumption) ?_
            rotate_left
            · intro w hSw; (try dsimp only at hSw); go_split_ands; go_simp; with_reducible rfl
            change wpAnyH _ _ _ _ _ _ _ (Act.put _ (some 111) _) _
            simp only [Act.put, List.setIfInBounds_toArray, List.set_cons_zero, List.set_cons_succ, Array.toArray_toList]
            refine wpAnyH_take (i := 28) (v := ?_) rfl (by kernel_rfl) (by kernel_rfl) (by kernel_rfl) (fun _ _ _ h => h) (Or.inl ⟨by rfl, ?_⟩) (by assumption) ?_
            rotate_left
            · intro w hSw; (try dsimp only at hSw); go_split_ands; go_simp; with_reducible rfl
            change wpAnyH _ _ _ _ _ _ _ (Act.put _ (some 112) _) _
            simp only [Act.put, List.setIfInBounds_toArray, List.set_cons_zero, List.set_cons_succ, Array.toArray_toList]
            refine wpAnyH_take (i := 29) (v := ?_) rfl (by kernel_rfl) (by kernel_rfl) (by kernel_rfl) (fun _ _ _ h => h) (Or.inl ⟨by rfl, ?_⟩) (by assumption) ?_
            rotate_left
            · intro w hSw; (try dsimp only at hSw); go_split_ands; go_simp; with_reducible rfl
            change wpAnyH _ _ _ _ _ _ _ (Act.put _ (some 10) _) _
            simp only [Act.put, List.setIfInBounds_toArray, List.set_cons_zero, List.set_cons_succ, Array.toArray_toList]
            refine wpAnyH_done (by kernel_rfl) ?_ _
            go_wp2
            go_ret
            exact ⟨rfl, Bsz B2.out Mq.out.bel⟩
        · skip
          go_simp; generalize hwq : World.alloc _ _ = wq; obtain ⟨y1, mq, hs⟩ := Mq.out.oneS HF2.out (by first | exact S2.out | exact S2.out.cr _) hwq; have Mq := Lib.hid mq; have HS2 := Lib.hid hs; clear mq hs hwq
          refine hK.out _ _ (by trivial) (fun hHeld => ?_)
          clear hK K
          refine wpAnyH_ready (rs := [16, 20]) (by kernel_rfl) (by simp) ?_
          refine (AllReadyH.cons rfl (fun K hK => ?_) (AllReadyH.cons rfl (fun K hK => ?_) AllReadyH.nil))
          · skip
            go_simp
            (with_reducible refine (HD2.out _ (Mq.out.src (Src.old R1.out)) (Q2.out _ _ Mq.out)).mono ?_); rintro e wq ⟨rfl, hb⟩; have Mq := Lib.hid (Mq.out.below hb); clear hb
            go_wp2_with fail
            refine hK.out _ _ (by trivial) (fun hHeld => ?_)
            clear hK K
            refine wpAnyH_take (i := 17) (v := ?_) rfl (by kernel_rfl) (by kernel_rfl) (by kernel_rfl) (fun _ _ _ h => h) (Or.inl ⟨by rfl, ?_⟩) (by assumption) ?_
            rotate_left
            · intro w hSw; (try dsimp only at hSw); go_split_ands; go_simp; with_reducible rfl
            change wpAnyH _ _ _ _ _ _ _ (Act.put _ (some 101) _) _
            simp only [Act.put, List.setIfInBounds_toArray, List.set_cons_zero, List.set_cons_succ, Array.toArray_toList]
            refine wpAnyH_ready (rs := [20]) (by kernel_rfl) (by simp) ?_
            refine (AllReadyH.cons rfl (fun K hK => ?_) AllReadyH.nil)
            go_simp; generalize hwq : World.alloc _ _ = wq; obtain ⟨y1, mq, hs⟩ := Mq.out.oneS HF1.out (by first | exact S1.out | exact S1.out.cr _) hwq; have Mq := Lib.hid mq; have HS1 := Lib.hid hs; clear mq hs hwq
            refine hK.out _ _ (by trivial) (fun hHeld => ?_)
            clear hK K
            refine wpAnyH_ready (rs := [21]) (by kernel_rfl) (by simp) ?_
            refine (AllReadyH.cons rfl (fun K hK => ?_) AllReadyH.nil)
            go_simp
            (first | (with_reducible refine (HT1.out _ _ _ (Mq.out.src (Src.old R1.out)) (Mq.out.pts HS1.out)).mono ?_) | (with_reducible refine (HT1.out _ _ _ (Mq.out.src (Src.old R1.out)) (Mq.out.pts (HS1.out.cr _))).mono ?_)); rintro e wq ⟨rfl, hb⟩; have Mq := Lib.hid (Mq.out.below hb); clear hb
            go_wp2_with fail
            refine hK.out _ _ (by trivial) (fun hHeld => ?_)
            clear hK K
            refine wpAnyH_ready (rs := [25]) (by kernel_rfl) (by simp) ?_
            refine (AllReadyH.cons rfl (fun K hK => ?_) AllReadyH.nil)
            go_simp
            (first | (with_reducible refine (HT2.out _ _ _ (Mq.out.src (Src.old R1.out)) (Mq.out.pts HS2.out)).mono ?_) | (with_reducible refine (HT2.out _ _ _ (Mq.out.src (Src.old R1.out)) (Mq.out.pts (HS2.out.cr _))).mono ?_)); rintro e wq ⟨rfl, hb⟩; have Mq := Lib.hid (Mq.out.below hb); clear hb
            go_wp2_with fail
            refine hK.out _ _ (by trivial) (fun hHeld => ?_)
            clear hK K
            refine wpAnyH_take (i := 26) (v := ?_) rfl (by kernel_rfl) (by kernel_rfl) (by kernel_rfl) (fun _ _ _ h => h) (Or.inl ⟨by rfl, ?_⟩) (by assumption) ?_
            rotate_left
            · intro w hSw; (try dsimp only at hSw); go_split_ands; go_simp; with_reducible rfl
            change wpAnyH _ _ _ _ _ _ _ (Act.put _ (some 110) _) _
            simp only [Act.put, List.setIfInBounds_toArray, List.set_cons_zero, List.set_cons_succ, Array.toArray_toList]
            refine wpAnyH_take (i := 27) (v := ?_) rfl (by kernel_rfl) (by kernel_rfl) (by kernel_rfl) (fun _ _ _ h => h) (Or.inl ⟨by rfl, ?_⟩) (by assumption) ?_
            rotate_left
            · intro w hSw; (try dsimp only at hSw); go_split_ands; go_simp; with_reducible rfl
            change wpAnyH _ _ _ _ _ _ _ (Act.put _ (some 111) _) _
            simp only [Act.put, List.setIfInBounds_toArray, List.set_cons_zero, List.set_cons_succ, Array.toArray_toList]
            refine wpAnyH_take (i := 28) (v := ?_) rfl (by kernel_rfl) (by kernel_rfl) (by kernel_rfl) (fun _ _ _ h => h) (Or.inl ⟨by rfl, ?_⟩) (by assumption) ?_
            rotate_left
            · intro w hSw; (try dsimp only at hSw); go_split_ands; go_simp; with_reducible rfl
            change wpAnyH _ _ _ _ _ _ _ (Act.put _ (some 112) _) _
            simp only [Act.put, List.setIfInBounds_toArray, List.set_cons_zero, List.set_cons_succ, Array.toArray_toList]
            refine wpAnyH_take (i := 29) (v := ?_) rfl (by kernel_rfl) (by kernel_rfl) (by kernel_rfl) (fun _ _ _ h => h) (Or.inl ⟨by rfl, ?_⟩) (by assumption) ?_
            rotate_left
            · intro w hSw; (try dsimp only at hSw); go_split_ands; go_simp; with_reducible rfl
            change wpAnyH _ _ _ _ _ _ _ (Act.put _ (some 10) _) _
            simp only [Act.put, List.setIfInBounds_toArray, List.set_cons_zero, List.set_cons_succ, Array.toArray_toList]
            refine wpAnyH_done (by kernel_rfl) ?_ _
            go_wp2
            go_ret
            exact ⟨rfl, Bsz B2.out Mq.out.bel⟩
          · skip
            go_simp; generalize hwq : World.alloc _ _ = wq; obtain ⟨y1, mq, hs⟩ := Mq.out.oneS HF1.out (by first | exact S1.out | exact S1.out.cr _) hwq; have Mq := Lib.hid mq; have HS1 := Lib.hid hs; clear mq hs hwq
            refine hK.out _ _ (by trivial) (fun hHeld => ?_)
            clear hK K
            refine wpAnyH_ready (rs := [16]) (by kernel_rfl) (by simp) ?_
            refine (AllReadyH.cons rfl (fun K hK => ?_) AllReadyH.nil)
            go_simp
            (with_reducible refine (HD2.out _ (Mq.out.src (Src.old R1.out)) (Q2.out _ _ Mq.out)).mono ?_); rintro e wq ⟨rfl, hb⟩; have Mq := Lib.hid (Mq.out.below hb); clear hb
            go_wp2_with fail
            refine hK.out _ _ (by trivial) (fun hHeld => ?_)
            clear hK K
            refine wpAnyH_take (i := 17) (v := ?_) rfl (by kernel_rfl) (by kernel_rfl) (by kernel_rfl) (fun _ _ _ h => h) (Or.inl ⟨by rfl, ?_⟩) (by assumption) ?_
            rotate_left
            · intro w hSw; (try dsimp only at hSw); go_split_ands; go_simp; with_reducible rfl
            change wpAnyH _ _ _ _ _ _ _ (Act.put _ (some 101) _) _
            simp only [Act.put, List.setIfInBounds_toArray, List.set_cons_zero, List.set_cons_succ, Array.toArray_toList]
            refine wpAnyH_ready (rs := [21]) (by kernel_rfl) (by simp) ?_
            refine (AllReadyH.cons rfl (fun K hK => ?_) AllReadyH.nil)
            go_simp
            (first | (with_reducible refine (HT1.out _ _ _ (Mq.out.src (Src.old R1.out)) (Mq.out.pts HS1.out)).mono ?_) | (with_reducible refine (HT1.out _ _ _ (Mq.out.src (Src.old R1.out)) (Mq.out.pts (HS1.out.cr _))).mono ?_)); rintro e wq ⟨rfl, hb⟩; have Mq := Lib.hid (Mq.out.below hb); clear hb
            go_wp2_with fail
            refine hK.out _ _ (by trivial) (fun hHeld => ?_)
            clear hK K
            refine wpAnyH_ready (rs := [25]) (by kernel_rfl) (by simp) ?_
            refine (AllReadyH.cons rfl (fun K hK => ?_) AllReadyH.nil)
            go_simp
            (first | (with_reducible refine (HT2.out _ _ _ (Mq.out.src (Src.old R1.out)) (Mq.out.pts HS2.out)).mono ?_) | (with_reducible refine (HT2.out _ _ _ (Mq.out.src (Src.old R1.out)) (Mq.out.pts (HS2.out.cr _))).mono ?_)); rintro e wq ⟨rfl, hb⟩; have Mq := Lib.hid (Mq.out.below hb); clear hb
            go_wp2_with fail
            refine hK.out _ _ (by trivial) (fun hHeld => ?_)
            clear hK K
            refine wpAnyH_take (i := 26) (v := ?_) rfl (by kernel_rfl) (by kernel_rfl) (by kernel_rfl) (fun _ _ _ h => h) (Or.inl ⟨by rfl, ?_⟩) (by assumption) ?_
            rotate_left
            · intro w hSw; (try dsimp only at hSw); go_split_ands; go_simp; with_reducible rfl
            change wpAnyH _ _ _ _ _ _ _ (Act.put _ (some 110) _) _
            simp only [Act.put, List.setIfInBounds_toArray, List.set_cons_zero, List.set_cons_succ, Array.toArray_toList]
            refine wpAnyH_take (i := 27) (v := ?_) rfl (by kernel_rfl) (by kernel_rfl) (by kernel_rfl) (fun _ _ _ h => h) (Or.inl ⟨by rfl, ?_⟩) (by assumption) ?_
            rotate_left
            · intro w hSw; (try dsimp only at hSw); go_split_ands; go_simp; with_reducible rfl
            change wpAnyH _ _ _ _ _ _ _ (Act.put _ (some 111) _) _
            simp only [Act.put, List.setIfInBounds_toArray, List.set_cons_zero, List.set_cons_succ, Array.toArray_toList]
            refine wpAnyH_take (i := 28) (v := ?_) rfl (by kernel_rfl) (by kernel_rfl) (by kernel_rfl) (fun _ _ _ h => h) (Or.inl ⟨by rfl, ?_⟩) (by assumption) ?_
            rotate_left
            · intro w hSw; (try dsimp only at hSw); go_split_ands; go_simp; with_reducible rfl
            change wpAnyH _ _ _ _ _ _ _ (Act.put _ (some 112) _) _
            simp only [Act.put, List.setIfInBounds_toArray, List.set_cons_zero, List.set_cons_succ, Array.toArray_toList]
            refine wpAnyH_take (i := 29) (v := ?_) rfl (by kernel_rfl) (by kernel_rfl) (by kernel_rfl) (fun _ _ _ h => h) (Or.inl ⟨by rfl, ?_⟩) (by assumption) ?_
            rotate_left
            · intro w hSw; (try dsimp only at hSw); go_split_ands; go_simp; with_reducible rfl
            change wpAnyH _ _ _ _ _ _ _ (Act.put _ (some 10) _) _
            simp only [Act.put, List.setIfInBounds_toArray, List.set_cons_zero, List.set_cons_succ, Array.toArray_toList]
            refine wpAnyH_done (by kernel_rfl) ?_ _
            go_wp2
            go_ret
            exact ⟨rfl, Bsz B2.out Mq.out.bel⟩
      · skip
        go_simp; generalize hwq : World.alloc _ _ = wq; obtain ⟨y1, mq, hs⟩ := Mq.out.oneS HF1.out (by first | exact S1.out | exact S1.out.cr _) hwq; have Mq := Lib.hid mq; have HS1 := Lib.hid hs; clear mq hs hwq
        refine hK.out _ _ (by trivial) (fun hHeld => ?_)
        clear hK K
        refine wpAnyH_ready (rs := [12, 24]) (by kernel_rfl) (by simp) ?_
        refine (AllReadyH.cons rfl (fun K hK => ?_) (AllReadyH.cons rfl (fun K hK => ?_) AllReadyH.nil))
        · skip
          go_simp
          (with_reducible refine (HD1.out _ (Mq.out.src (Src.old R1.out)) (Q1.out _ _ Mq.out)).mono ?_); rintro e wq ⟨rfl, hb⟩; have Mq := Lib.hid (Mq.out.below hb); clear hb
          go_wp2_with fail
          refine hK.out _ _ (by trivial) (fun hHeld => ?_)
          clear hK K
          refine wpAnyH_ready (rs := [16, 24]) (by kernel_rfl) (by simp) ?_
          refine (AllReadyH.cons rfl (fun K hK => ?_) (AllReadyH.cons rfl (fun K hK => ?_) AllReadyH.nil))
          · skip
            go_simp
            (with_reducible refine (HD2.out _ (Mq.out.src (Src.old R1.out)) (Q2.out _ _ Mq.out)).mono ?_); rintro e wq ⟨rfl, hb⟩; have Mq := Lib.hid (Mq.out.below hb); clear hb
            go_wp2_with fail
            refine hK.out _ _ (by trivial) (fun hHeld => ?_)
            clear hK K
            refine wpAnyH_take (i := 17) (v := ?_) rfl (by kernel_rfl) (by kernel_rfl) (by kernel_rfl) (fun _ _ _ h => h) (Or.inl ⟨by rfl, ?_⟩) (by assumption) ?_
            rotate_left
            · intro w hSw; (try dsimp only at hSw); go_split_ands; go_simp; with_reducible rfl
            change wpAnyH _ _ _ _ _ _ _ (Act.put _ (some 101) _) _
            simp only [Act.put, List.setIfInBounds_toArray, List.set_cons_zero, List.set_cons_succ, Array.toArray_toList]
            refine wpAnyH_ready (rs := [21, 24]) (by kernel_rfl) (by simp) ?_
            refine (AllReadyH.cons rfl (fun K hK => ?_) (AllReadyH.cons rfl (fun K hK => ?_) AllReadyH.nil))
            · skip
              go_simp
              (first | (with_reducible refine (HT1.out _ _ _ (Mq.out.src (Src.old R1.out)) (Mq.out.pts HS1.out)).mono ?_) | (with_reducible refine (HT1.out _ _ _ (Mq.out.src (Src.old R1.out)) (Mq.out.pts (HS1.out.cr _))).mono ?_)); rintro e wq ⟨rfl, hb⟩; have Mq := Lib.hid (Mq.out.below hb); clear hb
              go_wp2_with fail
              refine hK.out _ _ (by trivial) (fun hHeld => ?_)
              clear hK K
              refine wpAnyH_ready (rs := [24]) (by kernel_rfl) (by simp) ?_
              refine (AllReadyH.cons rfl (fun K hK => ?_) AllReadyH.nil)
              go_simp; generalize hwq : World.alloc _ _ = wq; obtain ⟨y1, mq, hs⟩ := Mq.out.oneS HF2.out (by first | exact S2.out | exact S2.out.cr _) hwq; have Mq := Lib.hid mq; have HS2 := Lib.hid hs; clear mq hs hwq
              refine hK.out _ _ (by trivial) (fun hHeld => ?_)
              clear hK K
              refine wpAnyH_ready (rs := [25]) (by kernel_rfl) (by simp) ?_
              refine (AllReadyH.cons rfl (fun K hK => ?_) AllReadyH.nil)
              go_simp
              (first | (with_reducible refine (HT2.out _ _ _ (Mq.out.src (Src.old R1.out)) (Mq.out.pts HS2.out)).mono ?_) | (with_reducible refine (HT2.out _ _ _ (Mq.out.src (Src.old R1.out)) (Mq.out.pts (HS2.out.cr _))).mono ?_)); rintro e wq ⟨rfl, hb⟩; have Mq := Lib.hid (Mq.out.below hb); clear hb
              go_wp2_with fail
              refine hK.out _ _ (by trivial) (fun hHeld => ?_)
              clear hK K
              refine wpAnyH_take (i := 26) (v := ?_) rfl (by kernel_rfl) (by kernel_rfl) (by kernel_rfl) (fun _ _ _ h => h) (Or.inl ⟨by rfl, ?_⟩) (by assumption) ?_
              rotate_left
              · intro w hSw; (try dsimp only at hSw); go_split_ands; go_simp; with_reducible rfl
              change wpAnyH _ _ _ _ _ _ _ (Act.put _ (some 110) _) _
              simp only [Act.put, List.setIfInBounds_toArray, List.set_cons_zero, List.set_cons_succ, Array.toArray_toList]
              refine wpAnyH_take (i := 27) (v := ?_) rfl (by kernel_rfl) (by kernel_rfl) (by kernel_rfl) (fun _ _ _ h => h) (Or.inl ⟨by rfl, ?_⟩) (by assumption) ?_
              rotate_left
              · intro w hSw; (try dsimp only at hSw); go_split_ands; go_simp; with_reducible rfl
              change wpAnyH _ _ _ _ _ _ _ (Act.put _ (some 111) _) _
              simp only [Act.put, List.setIfInBounds_toArray, List.set_cons_zero, List.set_cons_succ, Array.toArray_toList]
              refine wpAnyH_take (i := 28) (v := ?_) rfl (by kernel_rfl) (by kernel_rfl) (by kernel_rfl) (fun _ _ _ h => h) (Or.inl ⟨by rfl, ?_⟩) (by assumption) ?_
              rotate_left
              · intro w hSw; (try dsimp only at hSw); go_split_ands; go_simp; with_reducible rfl
              change wpAnyH _ _ _ _ _ _ _ (Act.put _ (some 112) _) _
              simp only [Act.put, List.setIfInBounds_toArray, List.set_cons_zero, List.set_cons_succ, Array.toArray_toList]
              refine wpAnyH_take (i := 29) (v := ?_) rfl (by kernel_rfl) (by kernel_rfl) (by kernel_rfl) (fun _ _ _ h => h) (Or.inl ⟨by rfl, ?_⟩) (by assumption) ?_
              rotate_left
              · intro w hSw; (try dsimp only at hSw); go_split_ands; go_simp; with_reducible rfl
              change wpAnyH _ _ _ _ _ _ _ (Act.put _ (some 10) _) _
              simp only [Act.put, List.setIfInBounds_toArray, List.set_cons_zero, List.set_cons_succ, Array.toArray_toList]
              refine wpAnyH_done (by kernel_rfl) ?_ _
              go_wp2
              go_ret
              exact ⟨rfl, Bsz B2.out Mq.out.bel⟩
            · skip
              go_simp; generalize hwq : World.alloc _ _ = wq; obtain ⟨y1, mq, hs⟩ := Mq.out.oneS HF2.out (by first | exact S2.out | exact S2.out.cr _) hwq; have Mq := Lib.hid mq; have HS2 := Lib.hid hs; clear mq hs hwq
              refine hK.out _ _ (by trivial) (fun hHeld => ?_)
              clear hK K
              refine wpAnyH_ready (rs := [21]) (by kernel_rfl) (by simp) ?_
              refine (AllReadyH.cons rfl (fun K hK => ?_) AllReadyH.nil)
              go_simp
              (first | (with_reducible refine (HT1.out _ _ _ (Mq.out.src (Src.old R1.out)) (Mq.out.pts HS1.out)).mono ?_) | (with_reducible refine (HT1.out _ _ _ (Mq.out.src (Src.old R1.out)) (Mq.out.pts (HS1.out.cr _))).mono ?_)); rintro e wq ⟨rfl, hb⟩; have Mq := Lib.hid (Mq.out.below hb); clear hb
              go_wp2_with fail
              refine hK.out _ _ (by trivial) (fun hHeld => ?_)
              clear hK K
              refine wpAnyH_ready (rs := [25]) (by kernel_rfl) (by simp) ?_
              refine (AllReadyH.cons rfl (fun K hK => ?_) AllReadyH.nil)
              go_simp
              (first | (with_reducible refine (HT2.out _ _ _ (Mq.out.src (Src.old R1.out)) (Mq.out.pts HS2.out)).mono ?_) | (with_reducible refine (HT2.out _ _ _ (Mq.out.src (Src.old R1.out)) (Mq.out.pts (HS2.out.cr _))).mono ?_)); rintro e wq ⟨rfl, hb⟩; have Mq := Lib.hid (Mq.out.below hb); clear hb
              go_wp2_with fail
              refine hK.out _ _ (by trivial) (fun hHeld => ?_)
              clear hK K
              refine wpAnyH_take (i := 26) (v := ?_) rfl (by kernel_rfl) (by kernel_rfl) (by kernel_rfl) (fun _ _ _ h => h) (Or.inl ⟨by rfl, ?_⟩) (by assumption) ?_
              rotate_left
              · intro w hSw; (try dsimp only at hSw); go_split_ands; go_simp; with_reducible rfl
              change wpAnyH _ _ _ _ _ _ _ (Act.put _ (some 110) _) _
              simp only [Act.put, List.setIfInBounds_toArray, List.set_cons_zero, List.set_cons_succ, Array.toArray_toList]
              refine wpAnyH_take (i := 27) (v := ?_) rfl (by kernel_rfl) (by kernel_rfl) (by kernel_rfl) (fun _ _ _ h => h) (Or.inl ⟨by rfl, ?_⟩) (by assumption) ?_
              rotate_left
              · intro w hSw; (try dsimp only at hSw); go_split_ands; go_simp; with_reducible rfl
              change wpAnyH _ _ _ _ _ _ _ (Act.put _ (some 111) _) _
              simp only [Act.put, List.setIfInBounds_toArray, List.set_cons_zero, List.set_cons_succ, Array.toArray_toList]
              refine wpAnyH_take (i := 28) (v := ?_) rfl (by kernel_rfl) (by kernel_rfl) (by kernel_rfl) (fun _ _ _ h => h) (Or.inl ⟨by rfl, ?_⟩) (by assumption) ?_
              rotate_left
              · intro w hSw; (try dsimp only at hSw); go_split_ands; go_simp; with_reducible rfl
              change wpAnyH _ _ _ _ _ _ _ (Act.put _ (some 112) _) _
              simp only [Act.put, List.setIfInBounds_toArray, List.set_cons_zero, List.set_cons_succ, Array.toArray_toList]
              refine wpAnyH_take (i := 29) (v := ?_) rfl (by kernel_rfl) (by kernel_rfl) (by kernel_rfl) (fun _ _ _ h => h) (Or.inl ⟨by rfl, ?_⟩) (by assumption) ?_
              rotate_left
              · intro w hSw; (try dsimp only at hSw); go_split_ands; go_simp; with_reducible rfl
              change wpAnyH _ _ _ _ _ _ _ (Act.put _ (some 10) _) _
              simp only [Act.put, List.setIfInBounds_toArray, List.set_cons_zero, List.set_cons_succ, Array.toArray_toList]
              refine wpAnyH_done (by kernel_rfl) ?_ _
              go_wp2
              go_ret
              exact ⟨rfl, Bsz B2.out Mq.out.bel⟩
          · skip
            go_simp; generalize hwq : World.alloc _ _ = wq; obtain ⟨y1, mq, hs⟩ := Mq.out.oneS HF2.out (by first | exact S2.out | exact S2.out.cr _) hwq; have Mq := Lib.hid mq; have HS2 := Lib.hid hs; clear mq hs hwq
            refine hK.out _ _ (by trivial) (fun hHeld => ?_)
            clear hK K
            refine wpAnyH_ready (rs := [16]) (by kernel_rfl) (by simp) ?_
            refine (AllReadyH.cons rfl (fun K hK => ?_) AllReadyH.nil)
            go_simp
            (with_reducible refine (HD2.out _ (Mq.out.src (Src.old R1.out)) (Q2.out _ _ Mq.out)).mono ?_); rintro e wq ⟨rfl, hb⟩; have Mq := Lib.hid (Mq.out.below hb); clear hb
            go_wp2_with fail
            refine hK.out _ _ (by trivial) (fun hHeld => ?_)
            clear hK K
            refine wpAnyH_take (i := 17) (v := ?_) rfl (by kernel_rfl) (by kernel_rfl) (by kernel_rfl) (fun _ _ _ h => h) (Or.inl ⟨by rfl, ?_⟩) (by assumption) ?_
            rotate_left
            · intro w hSw; (try dsimp only at hSw); go_split_ands; go_simp; with_reducible rfl
            change wpAnyH _ _ _ _ _ _ _ (Act.put _ (some 101) _) _
            simp only [Act.put, List.setIfInBounds_toArray, List.set_cons_zero, List.set_cons_succ, Array.toArray_toList]
            refine wpAnyH_ready (rs := [21]) (by kernel_rfl) (by simp) ?_
            refine (AllReadyH.cons rfl (fun K hK => ?_) AllReadyH.nil)
            go_simp
            (first | (with_reducible refine (HT1.out _ _ _ (Mq.out.src (Src.old R1.out)) (Mq.out.pts HS1.out)).mono ?_) | (with_reducible refine (HT1.out _ _ _ (Mq.out.src (Src.old R1.out)) (Mq.out.pts (HS1.out.cr _))).mono ?_)); rintro e wq ⟨rfl, hb⟩; have Mq := Lib.hid (Mq.out.below hb); clear hb
            go_wp2_with fail
            refine hK.out _ _ (by trivial) (fun hHeld => ?_)
            clear hK K
            refine wpAnyH_ready (rs := [25]) (by kernel_rfl) (by simp) ?_
            refine (AllReadyH.cons rfl (fun K hK => ?_) AllReadyH.nil)
            go_simp
            (first | (with_reducible refine (HT2.out _ _ _ (Mq.out.src (Src.old R1.out)) (Mq.out.pts HS2.out)).mono ?_) | (with_reducible refine (HT2.out _ _ _ (Mq.out.src (Src.old R1.out)) (Mq.out.pts (HS2.out.cr _))).mono ?_)); rintro e wq ⟨rfl, hb⟩; have Mq := Lib.hid (Mq.out.below hb); clear hb
            go_wp2_with fail
            refine hK.out _ _ (by trivial) (fun hHeld => ?_)
            clear hK K
            refine wpAnyH_take (i := 26) (v := ?_) rfl (by kernel_rfl) (by kernel_rfl) (by kernel_rfl) (fun _ _ _ h => h) (Or.inl ⟨by rfl, ?_⟩) (by assumption) ?_
            rotate_left
            · intro w hSw; (try dsimp only at hSw); go_split_ands; go_simp; with_reducible rfl
            change wpAnyH _ _ _ _ _ _ _ (Act.put _ (some 110) _) _
            simp only [Act.put, List.setIfInBounds_toArray, List.set_cons_zero, List.set_cons_succ, Array.toArray_toList]
            refine wpAnyH_take (i := 27) (v := ?_) rfl (by kernel_rfl) (by kernel_rfl) (by kernel_rfl) (fun _ _ _ h => h) (Or.inl ⟨by rfl, ?_⟩) (by assumption) ?_
            rotate_left
            · intro w hSw; (try dsimp only at hSw); go_split_ands; go_simp; with_reducible rfl
            change wpAnyH _ _ _ _ _ _ _ (Act.put _ (some 111) _) _
            simp only [Act.put, List.setIfInBounds_toArray, List.set_cons_zero, List.set_cons_succ, Array.toArray_toList]
            refine wpAnyH_take (i := 28) (v := ?_) rfl (by kernel_rfl) (by kernel_rfl) (by kernel_rfl) (fun _ _ _ h => h) (Or.inl ⟨by rfl, ?_⟩) (by assumption) ?_
            rotate_left
            · intro w hSw; (try dsimp only at hSw); go_split_ands; go_simp; with_reducible rfl
            change wpAnyH _ _ _ _ _ _ _ (Act.put _ (some 112) _) _
            simp only [Act.put, List.setIfInBounds_toArray, List.set_cons_zero, List.set_cons_succ, Array.toArray_toList]
            refine wpAnyH_take (i := 29) (v := ?_) rfl (by kernel_rfl) (by kernel_rfl) (by kernel_rfl) (fun _ _ _ h => h) (Or.inl ⟨by rfl, ?_⟩) (by assumption) ?_
            rotate_left
            · intro w hSw; (try dsimp only at hSw); go_split_ands; go_simp; with_reducible rfl
            change wpAnyH _ _ _ _ _ _ _ (Act.put _ (some 10) _) _
            simp only [Act.put, List.setIfInBounds_toArray, List.set_cons_zero, List.set_cons_succ, Array.toArray_toList]
            refine wpAnyH_done (by kernel_rfl) ?_ _
            go_wp2
            go_ret
            exact ⟨rfl, Bsz B2.out Mq.out.bel⟩
        · skip
          go_simp; generalize hwq : World.alloc _ _ = wq; obtain ⟨y1, mq, hs⟩ := Mq.out.oneS HF2.out (by first | exact S2.out | exact S2.out.cr _) hwq; have Mq := Lib.hid mq; have HS2 := Lib.hid hs; clear mq hs hwq
          refine hK.out _ _ (by trivial) (fun hHeld => ?_)
          clear hK K
          refine wpAnyH_ready (rs := [12]) (by kernel_rfl) (by simp) ?_
          refine (AllReadyH.cons rfl (fun K hK => ?_) AllReadyH.nil)
          go_simp
          (with_reducible refine (HD1.out _ (Mq.out.src (Src.old R1.out)) (Q1.out _ _ Mq.out)).mono ?_); rintro e wq ⟨rfl, hb⟩; have Mq := Lib.hid (Mq.out.below hb); clear hb
          go_wp2_with fail
          refine hK.out _ _ (by trivial) (fun hHeld => ?_)
          clear hK K
          refine wpAnyH_ready (rs := [16]) (by kernel_rfl) (by simp) ?_
          refine (AllReadyH.cons rfl (fun K hK => ?_) AllReadyH.nil)
          go_simp
          (with_reducible refine (HD2.out _ (Mq.out.src (Src.old R1.out)) (Q2.out _ _ Mq.out)).mono ?_); rintro e wq ⟨rfl, hb⟩; have Mq := Lib.hid (Mq.out.below hb); clear hb
          go_wp2_with fail
          refine hK.out _ _ (by trivial) (fun hHeld => ?_)
          clear hK K
          refine wpAnyH_take (i := 17) (v := ?_) rfl (by kernel_rfl) (by kernel_rfl) (by kernel_rfl) (fun _ _ _ h => h) (Or.inl ⟨by rfl, ?_⟩) (by assumption) ?_
          rotate_left
          · intro w hSw; (try dsimp only at hSw); go_split_ands; go_simp; with_reducible rfl
          change wpAnyH _ _ _ _ _ _ _ (Act.put _ (some 101) _) _
          simp only [Act.put, List.setIfInBounds_toArray, List.set_cons_zero, List.set_cons_succ, Array.toArray_toList]
          refine wpAnyH_ready (rs := [21]) (by kernel_rfl) (by simp) ?_
          refine (AllReadyH.cons rfl (fun K hK => ?_) AllReadyH.nil)
          go_simp
          (first | (with_reducible refine (HT1.out _ _ _ (Mq.out.src (Src.old R1.out)) (Mq.out.pts HS1.out)).mono ?_) | (with_reducible refine (HT1.out _ _ _ (Mq.out.src (Src.old R1.out)) (Mq.out.pts (HS1.out.cr _))).mono ?_)); rintro e wq ⟨rfl, hb⟩; have Mq := Lib.hid (Mq.out.below hb); clear hb
          go_wp2_with fail
          refine hK.out _ _ (by trivial) (fun hHeld => ?_)
          clear hK K
          refine wpAnyH_ready (rs := [25]) (by kernel_rfl) (by simp) ?_
          refine (AllReadyH.cons rfl (fun K hK => ?_) AllReadyH.nil)
          go_simp
          (first | (with_reducible refine (HT2.out _ _ _ (Mq.out.src (Src.old R1.out)) (Mq.out.pts HS2.out)).mono ?_) | (with_reducible refine (HT2.out _ _ _ (Mq.out.src (Src.old R1.out)) (Mq.out.pts (HS2.out.cr _))).mono ?_)); rintro e wq ⟨rfl, hb⟩; have Mq := Lib.hid (Mq.out.below hb); clear hb
          go_wp2_with fail
          refine hK.out _ _ (by trivial) (fun hHeld => ?_)
          clear hK K
          refine wpAnyH_take (i := 26) (v := ?_) rfl (by kernel_rfl) (by kernel_rfl) (by kernel_rfl) (fun _ _ _ h => h) (Or.inl ⟨by rfl, ?_⟩) (by assumption) ?_
          rotate_left
          · intro w hSw; (try dsimp only at hSw); go_split_ands; go_simp; with_reducible rfl
          change wpAnyH _ _ _ _ _ _ _ (Act.put _ (some 110) _) _
          simp only [Act.put, List.setIfInBounds_toArray, List.set_cons_zero, List.set_cons_succ, Array.toArray_toList]
          refine wpAnyH_take (i := 27) (v := ?_) rfl (by kernel_rfl) (by kernel_rfl) (by kernel_rfl) (fun _ _ _ h => h) (Or.inl ⟨by rfl, ?_⟩) (by assumption) ?_
          rotate_left
          · intro w hSw; (try dsimp only at hSw); go_split_ands; go_simp; with_reducible rfl
          change wpAnyH _ _ _ _ _ _ _ (Act.put _ (some 111) _) _
          simp only [Act.put, List.setIfInBounds_toArray, List.set_cons_zero, List.set_cons_succ, Array.toArray_toList]
          refine wpAnyH_take (i := 28) (v := ?_) rfl (by kernel_rfl) (by kernel_rfl) (by kernel_rfl) (fun _ _ _ h => h) (Or.inl ⟨by rfl, ?_⟩) (by assumption) ?_
          rotate_left
          · intro w hSw; (try dsimp only at hSw); go_split_ands; go_simp; with_reducible rfl
          change wpAnyH _ _ _ _ _ _ _ (Act.put _ (some 112) _) _
          simp only [Act.put, List.setIfInBounds_toArray, List.set_cons_zero, List.set_cons_succ, Array.toArray_toList]
          refine wpAnyH_take (i := 29) (v := ?_) rfl (by kernel_rfl) (by kernel_rfl) (by kernel_rfl) (fun _ _ _ h => h) (Or.inl ⟨by rfl, ?_⟩) (by assumption) ?_
          rotate_left
          · intro w hSw; (try dsimp only at hSw); go_split_ands; go_simp; with_reducible rfl
          change wpAnyH _ _ _ _ _ _ _ (Act.put _ (some 10) _) _
          simp only [Act.put, List.setIfInBounds_toArray, List.set_cons_zero, List.set_cons_succ, Array.toArray_toList]
          refine wpAnyH_done (by kernel_rfl) ?_ _
          go_wp2
          go_ret
          exact ⟨rfl, Bsz B2.out Mq.out.bel⟩
      · skip
        go_simp; generalize hwq : World.alloc _ _ = wq; obtain ⟨y1, mq, hs⟩ := Mq.out.oneS HF2.out (by first | exact S2.out | exact S2.out.cr _) hwq; have Mq := Lib.hid mq; have HS2 := Lib.hid hs; clear mq hs hwq
        refine hK.out _ _ (by trivial) (fun hHeld => ?_)
        clear hK K
        refine wpAnyH_ready (rs := [12, 20]) (by kernel_rfl) (by simp) ?_
        refine (AllReadyH.cons rfl (fun K hK => ?_) (AllReadyH.cons rfl (fun K hK => ?_) AllReadyH.nil))
        · skip
          go_simp
          (with_reducible refine (HD1.out _ (Mq.out.src (Src.old R1.out)) (Q1.out _ _ Mq.out)).mono ?_); rintro e wq ⟨rfl, hb⟩; have Mq := Lib.hid (Mq.out.below hb); clear hb
          go_wp2_with fail
          refine hK.out _ _ (by trivial) (fun hHeld => ?_)
          clear hK K
          refine wpAnyH_ready (rs := [16, 20]) (by kernel_rfl) (by simp) ?_
          refine (AllReadyH.cons rfl (fun K hK => ?_) (AllReadyH.cons rfl (fun K hK => ?_) AllReadyH.nil))
          · skip
            go_simp
            (with_reducible refine (HD2.out _ (Mq.out.src (Src.old R1.out)) (Q2.out _ _ Mq.out)).mono ?_); rintro e wq ⟨rfl, hb⟩; have Mq := Lib.hid (Mq.out.below hb); clear hb
            go_wp2_with fail
            refine hK.out _ _ (by trivial) (fun hHeld => ?_)
            clear hK K
            refine wpAnyH_take (i := 17) (v := ?_) rfl (by kernel_rfl) (by kernel_rfl) (by kernel_rfl) (fun _ _ _ h => h) (Or.inl ⟨by rfl, ?_⟩) (by assumption) ?_
            rotate_left
            · intro w hSw; (try dsimp only at hSw); go_split_ands; go_simp; with_reducible rfl
            change wpAnyH _ _ _ _ _ _ _ (Act.put _ (some 101) _) _
            simp only [Act.put, List.setIfInBounds_toArray, List.set_cons_zero, List.set_cons_succ, Array.toArray_toList]
            refine wpAnyH_ready (rs := [20]) (by kernel_rfl) (by simp) ?_
            refine (AllReadyH.cons rfl (fun K hK => ?_) AllReadyH.nil)
            go_simp; generalize hwq : World.alloc _ _ = wq; obtain ⟨y1, mq, hs⟩ := Mq.out.oneS HF1.out (by first | exact S1.out | exact S1.out.cr _) hwq; have Mq := Lib.hid mq; have HS1 := Lib.hid hs; clear mq hs hwq
            refine hK.out _ _ (by trivial) (fun hHeld => ?_)
            clear hK K
            refine wpAnyH_ready (rs := [21]) (by kernel_rfl) (by simp) ?_
            refine (AllReadyH.cons rfl (fun K hK => ?_) AllReadyH.nil)
            go_simp
            (first | (with_reducible refine (HT1.out _ _ _ (Mq.out.src (Src.old R1.out)) (Mq.out.pts HS1.out)).mono ?_) | (with_reducible refine (HT1.out _ _ _ (Mq.out.src (Src.old R1.out)) (Mq.out.pts (HS1.out.cr _))).mono ?_)); rintro e wq ⟨rfl, hb⟩; have Mq := Lib.hid (Mq.out.below hb); clear hb
            go_wp2_with fail
            refine hK.out _ _ (by trivial) (fun hHeld => ?_)
            clear hK K
            refine wpAnyH_ready (rs := [25]) (by kernel_rfl) (by simp) ?_
            refine (AllReadyH.cons rfl (fun K hK => ?_) AllReadyH.nil)
            go_simp
            (first | (with_reducible refine (HT2.out _ _ _ (Mq.out.src (Src.old R1.out)) (Mq.out.pts HS2.out)).mono ?_) | (with_reducible refine (HT2.out _ _ _ (Mq.out.src (Src.old R1.out)) (Mq.out.pts (HS2.out.cr _))).mono ?_)); rintro e wq ⟨rfl, hb⟩; have Mq := Lib.hid (Mq.out.below hb); clear hb
            go_wp2_with fail
            refine hK.out _ _ (by trivial) (fun hHeld => ?_)
            clear hK K
            refine wpAnyH_take (i := 26) (v := ?_) rfl (by kernel_rfl) (by kernel_rfl) (by kernel_rfl) (fun _ _ _ h => h) (Or.inl ⟨by rfl, ?_⟩) (by assumption) ?_
            rotate_left
            · intro w hSw; (try dsimp only at hSw); go_split_ands; go_simp; with_reducible rfl
            change wpAnyH _ _ _ _ _ _ _ (Act.put _ (some 110) _) _
            simp only [Act.put, List.setIfInBounds_toArray, List.set_cons_zero, List.set_cons_succ, Array.toArray_toList]
            refine wpAnyH_take (i := 27) (v := ?_) rfl (by kernel_rfl) (by kernel_rfl) (by kernel_rfl) (fun _ _ _ h => h) (Or.inl ⟨by rfl, ?_⟩) (by assumption) ?_
            rotate_left
            · intro w hSw; (try dsimp only at hSw); go_split_ands; go_simp; with_reducible rfl
            change wpAnyH _ _ _ _ _ _ _ (Act.put _ (some 111) _) _
            simp only [Act.put, List.setIfInBounds_toArray, List.set_cons_zero, List.set_cons_succ, Array.toArray_toList]
            refine wpAnyH_take (i := 28) (v := ?_) rfl (by kernel_rfl) (by kernel_rfl) (by kernel_rfl) (fun _ _ _ h => h) (Or.inl ⟨by rfl, ?_⟩) (by assumption) ?_
            rotate_left
            · intro w hSw; (try dsimp only at hSw); go_split_ands; go_simp; with_reducible rfl
            change wpAnyH _ _ _ _ _ _ _ (Act.put _ (some 112) _) _
            simp only [Act.put, List.setIfInBounds_toArray, List.set_cons_zero, List.set_cons_succ, Array.toArray_toList]
            refine wpAnyH_take (i := 29) (v := ?_) rfl (by kernel_rfl) (by kernel_rfl) (by kernel_rfl) (fun _ _ _ h => h) (Or.inl ⟨by rfl, ?_⟩) (by assumption) ?_
            rotate_left
            · intro w hSw; (try dsimp only at hSw); go_split_ands; go_simp; with_reducible rfl
            change wpAnyH _ _ _ _ _ _ _ (Act.put _ (some 10) _) _
            simp only [Act.put, List.setIfInBounds_toArray, List.set_cons_zero, List.set_cons_succ, Array.toArray_toList]
            refine wpAnyH_done (by kernel_rfl) ?_ _
            go_wp2
            go_ret
            exact ⟨rfl, Bsz B2.out Mq.out.bel⟩
          · skip
            go_simp; generalize hwq : World.alloc _ _ = wq; obtain ⟨y1, mq, hs⟩ := Mq.out.oneS HF1.out (by first | exact S1.out | exact S1.out.cr _) hwq; have Mq := Lib.hid mq; have HS1 := Lib.hid hs; clear mq hs hwq
            refine hK.out _ _ (by trivial) (fun hHeld => ?_)
            clear hK K
            refine wpAnyH_ready (rs := [16]) (by kernel_rfl) (by simp) ?_
            refine (AllReadyH.cons rfl (fun K hK => ?_) AllReadyH.nil)
            go_simp
            (with_reducible refine (HD2.out _ (Mq.out.src (Src.old R1.out)) (Q2.out _ _ Mq.out)).mono ?_); rintro e wq ⟨rfl, hb⟩; have Mq := Lib.hid (Mq.out.below hb); clear hb
            go_wp2_with fail
            refine hK.out _ _ (by trivial) (fun hHeld => ?_)
            clear hK K
            refine wpAnyH_take (i := 17) (v := ?_) rfl (by kernel_rfl) (by kernel_rfl) (by kernel_rfl) (fun _ _ _ h => h) (Or.inl ⟨by rfl, ?_⟩) (by assumption) ?_
            rotate_left
            · intro w hSw; (try dsimp only at hSw); go_split_ands; go_simp; with_reducible rfl
            change wpAnyH _ _ _ _ _ _ _ (Act.put _ (some 101) _) _
            simp only [Act.put, List.setIfInBounds_toArray, List.set_cons_zero, List.set_cons_succ, Array.toArray_toList]
            refine wpAnyH_ready (rs := [21]) (by kernel_rfl) (by simp) ?_
            refine (AllReadyH.cons rfl (fun K hK => ?_) AllReadyH.nil)
            go_simp
            (first | (with_reducible refine (HT1.out _ _ _ (Mq.out.src (Src.old R1.out)) (Mq.out.pts HS1.out)).mono ?_) | (with_reducible refine (HT1.out _ _ _ (Mq.out.src (Src.old R1.out)) (Mq.out.pts (HS1.out.cr _))).mono ?_)); rintro e wq ⟨rfl, hb⟩; have Mq := Lib.hid (Mq.out.below hb); clear hb
            go_wp2_with fail
            refine hK.out _ _ (by trivial) (fun hHeld => ?_)
            clear hK K
            refine wpAnyH_ready (rs := [25]) (by kernel_rfl) (by simp) ?_
            refine (AllReadyH.cons rfl (fun K hK => ?_) AllReadyH.nil)
            go_simp
            (first | (with_reducible refine (HT2.out _ _ _ (Mq.out.src (Src.old R1.out)) (Mq.out.pts HS2.out)).mono ?_) | (with_reducible refine (HT2.out _ _ _ (Mq.out.src (Src.old R1.out)) (Mq.out.pts (HS2.out.cr _))).mono ?_)); rintro e wq ⟨rfl, hb⟩; have Mq := Lib.hid (Mq.out.below hb); clear hb
            go_wp2_with fail
            refine hK.out _ _ (by trivial) (fun hHeld => ?_)
            clear hK K
            refine wpAnyH_take (i := 26) (v := ?_) rfl (by kernel_rfl) (by kernel_rfl) (by kernel_rfl) (fun _ _ _ h => h) (Or.inl ⟨by rfl, ?_⟩) (by assumption) ?_
            rotate_left
            · intro w hSw; (try dsimp only at hSw); go_split_ands; go_simp; with_reducible rfl
            change wpAnyH _ _ _ _ _ _ _ (Act.put _ (some 110) _) _
            simp only [Act.put, List.setIfInBounds_toArray, List.set_cons_zero, List.set_cons_succ, Array.toArray_toList]
            refine wpAnyH_take (i := 27) (v := ?_) rfl (by kernel_rfl) (by kernel_rfl) (by kernel_rfl) (fun _ _ _ h => h) (Or.inl ⟨by rfl, ?_⟩) (by assumption) ?_
            rotate_left
            · intro w hSw; (try dsimp only at hSw); go_split_ands; go_simp; with_reducible rfl
            change wpAnyH _ _ _ _ _ _ _ (Act.put _ (some 111) _) _
            simp only [Act.put, List.setIfInBounds_toArray, List.set_cons_zero, List.set_cons_succ, Array.toArray_toList]
            refine wpAnyH_take (i := 28) (v := ?_) rfl (by kernel_rfl) (by kernel_rfl) (by kernel_rfl) (fun _ _ _ h => h) (Or.inl ⟨by rfl, ?_⟩) (by assumption) ?_
            rotate_left
            · intro w hSw; (try dsimp only at hSw); go_split_ands; go_simp; with_reducible rfl
            change wpAnyH _ _ _ _ _ _ _ (Act.put _ (some 112) _) _
            simp only [Act.put, List.setIfInBounds_toArray, List.set_cons_zero, List.set_cons_succ, Array.toArray_toList]
            refine wpAnyH_take (i := 29) (v := ?_) rfl (by kernel_rfl) (by kernel_rfl) (by kernel_rfl) (fun _ _ _ h => h) (Or.inl ⟨by rfl, ?_⟩) (by assumption) ?_
            rotate_left
            · intro w hSw; (try dsimp only at hSw); go_split_ands; go_simp; with_reducible rfl
            change wpAnyH _ _ _ _ _ _ _ (Act.put _ (some 10) _) _
            simp only [Act.put, List.setIfInBounds_toArray, List.set_cons_zero, List.set_cons_succ, Array.toArray_toList]
            refine wpAnyH_done (by kernel_rfl) ?_ _
            go_wp2
            go_ret
            exact ⟨rfl, Bsz B2.out Mq.out.bel⟩
        · skip
          go_simp; generalize hwq : World.alloc _ _ = wq; obtain ⟨y1, mq, hs⟩ := Mq.out.oneS HF1.out (by first | exact S1.out | exact S1.out.cr _) hwq; have Mq := Lib.hid mq; have HS1 := Lib.hid hs; clear mq hs hwq
          refine hK.out _ _ (by trivial) (fun hHeld => ?_)
          clear hK K
          refine wpAnyH_ready (rs := [12]) (by kernel_rfl) (by simp) ?_
          refine (AllReadyH.cons rfl (fun K hK => ?_) AllReadyH.nil)
          go_simp
          (with_reducible refine (HD1.out _ (Mq.out.src (Src.old R1.out)) (Q1.out _ _ Mq.out)).mono ?_); rintro e wq ⟨rfl, hb⟩; have Mq := Lib.hid (Mq.out.below hb); clear hb
          go_wp2_with fail
          refine hK.out _ _ (by trivial) (fun hHeld => ?_)
          clear hK K
          refine wpAnyH_ready (rs := [16]) (by kernel_rfl) (by simp) ?_
          refine (AllReadyH.cons rfl (fun K hK => ?_) AllReadyH.nil)
          go_simp
          (with_reducible refine (HD2.out _ (Mq.out.src (Src.old R1.out)) (Q2.out _ _ Mq.out)).mono ?_); rintro e wq ⟨rfl, hb⟩; have Mq := Lib.hid (Mq.out.below hb); clear hb
          go_wp2_with fail
          refine hK.out _ _ (by trivial) (fun hHeld => ?_)
          clear hK K
          refine wpAnyH_take (i := 17) (v := ?_) rfl (by kernel_rfl) (by kernel_rfl) (by kernel_rfl) (fun _ _ _ h => h) (Or.inl ⟨by rfl, ?_⟩) (by assumption) ?_
          rotate_left
          · intro w hSw; (try dsimp only at hSw); go_split_ands; go_simp; with_reducible rfl
          change wpAnyH _ _ _ _ _ _ _ (Act.put _ (some 101) _) _
          simp only [Act.put, List.setIfInBounds_toArray, List.set_cons_zero, List.set_cons_succ, Array.toArray_toList]
          refine wpAnyH_ready (rs := [21]) (by kernel_rfl) (by simp) ?_
          refine (AllReadyH.cons rfl (fun K hK => ?_) AllReadyH.nil)
          go_simp
          (first | (with_reducible refine (HT1.out _ _ _ (Mq.out.src (Src.old R1.out)) (Mq.out.pts HS1.out)).mono ?_) | (with_reducible refine (HT1.out _ _ _ (Mq.out.src (Src.old R1.out)) (Mq.out.pts (HS1.out.cr _))).mono ?_)); rintro e wq ⟨rfl, hb⟩; have Mq := Lib.hid (Mq.out.below hb); clear hb
          go_wp2_with fail
          refine hK.out _ _ (by trivial) (fun hHeld => ?_)
          clear hK K
          refine wpAnyH_ready (rs := [25]) (by kernel_rfl) (by simp) ?_
          refine (AllReadyH.cons rfl (fun K hK => ?_) AllReadyH.nil)
          go_simp
          (first | (with_reducible refine (HT2.out _ _ _ (Mq.out.src (Src.old R1.out)) (Mq.out.pts HS2.out)).mono ?_) | (with_reducible refine (HT2.out _ _ _ (Mq.out.src (Src.old R1.out)) (Mq.out.pts (HS2.out.cr _))).mono ?_)); rintro e wq ⟨rfl, hb⟩; have Mq := Lib.hid (Mq.out.below hb); clear hb
          go_wp2_with fail
          refine hK.out _ _ (by trivial) (fun hHeld => ?_)
          clear hK K
          refine wpAnyH_take (i := 26) (v := ?_) rfl (by kernel_rfl) (by kernel_rfl) (by kernel_rfl) (fun _ _ _ h => h) (Or.inl ⟨by rfl, ?_⟩) (by assumption) ?_
          rotate_left
          · intro w hSw; (try dsimp only at hSw); go_split_ands; go_simp; with_reducible rfl
          change wpAnyH _ _ _ _ _ _ _ (Act.put _ (some 110) _) _
          simp only [Act.put, List.setIfInBounds_toArray, List.set_cons_zero, List.set_cons_succ, Array.toArray_toList]
          refine wpAnyH_take (i := 27) (v := ?_) rfl (by kernel_rfl) (by kernel_rfl) (by kernel_rfl) (fun _ _ _ h => h) (Or.inl ⟨by rfl, ?_⟩) (by assumption) ?_
          rotate_left
          · intro w hSw; (try dsimp only at hSw); go_split_ands; go_simp; with_reducible rfl
          change wpAnyH _ _ _ _ _ _ _ (Act.put _ (some 111) _) _
          simp only [Act.put, List.setIfInBounds_toArray, List.set_cons_zero, List.set_cons_succ, Array.toArray_toList]
          refine wpAnyH_take (i := 28) (v := ?_) rfl (by kernel_rfl) (by kernel_rfl) (by kernel_rfl) (fun _ _ _ h => h) (Or.inl ⟨by rfl, ?_⟩) (by assumption) ?_
          rotate_left
          · intro w hSw; (try dsimp only at hSw); go_split_ands; go_simp; with_reducible rfl
          change wpAnyH _ _ _ _ _ _ _ (Act.put _ (some 112) _) _
          simp only [Act.put, List.setIfInBounds_toArray, List.set_cons_zero, List.set_cons_succ, Array.toArray_toList]
          refine wpAnyH_take (i := 29) (v := ?_) rfl (by kernel_rfl) (by kernel_rfl) (by kernel_rfl) (fun _ _ _ h => h) (Or.inl ⟨by rfl, ?_⟩) (by assumption) ?_
          rotate_left
          · intro w hSw; (try dsimp only at hSw); go_split_ands; go_simp; with_reducible rfl
          change wpAnyH _ _ _ _ _ _ _ (Act.put _ (some 10) _) _
          simp only [Act.put, List.setIfInBounds_toArray, List.set_cons_zero, List.set_cons_succ, Array.toArray_toList]
          refine wpAnyH_done (by kernel_rfl) ?_ _
          go_wp2
          go_ret
          exact ⟨rfl, Bsz B2.out Mq.out.bel⟩
theorem contract_macFrames (W : World) (v0 v1 v2 v3 v4 : Value) (a0 : ∃ r : Rw, v0 = r.v ∧ r.ok .u8 W) (a1 : ∃ s : ByteArray, v1 = .string s ∧ s.size ≤ maxLen) (a2 : ∃ s : ByteArray, v2 = .string s ∧ s.size ≤ maxLen)
    (a3 : ∃ A c, ∃ rows : List Rw, v3 = .slice A rows.length c ∧ rows.length ≤ c ∧ c ≤ maxLen ∧ Rd W W.heap.size 1 A rows.length (rows.map Rw.v) ∧ ∀ x ∈ rows, x.ok .u8 W)
    (a4 : ∃ A c, ∃ rows : List Rw, v4 = .slice A rows.length c ∧ rows.length ≤ c ∧ c ≤ maxLen ∧ Rd W W.heap.size 1 A rows.length (rows.map Rw.v) ∧ ∀ x ∈ rows, x.ok .u8 W) :
    Calls Try.prog 11 #[v0, v1, v2, v3, v4] W fun e W' => e = .returned (.bool true) ∧ Below W.heap.size W W' := by
  obtain ⟨r, rfl, hr⟩ := a0
  obtain ⟨s, rfl, hs⟩ := a1
  obtain ⟨s', rfl, hs'⟩ := a2
  obtain ⟨A, c, rows, rfl, h1, h2, h3, h4⟩ := a3
  obtain ⟨ps, e1, e2, e3⟩ := rows_pt rows h4
  obtain ⟨A', c', rows', rfl, h1', h2', h3', h4'⟩ := a4
  obtain ⟨ps', e1', e2', e3'⟩ := rows_pt rows' h4'
  rw [← e1, ← e2] at h3
  rw [← e2] at h1 ⊢
  rw [← e1', ← e2'] at h3'
  rw [← e2'] at h1' ⊢
  obtain ⟨l, e, g1, g2, g3⟩ := rw_pt hr
  rw [e]
  exact macFrames_main W r.A A A' r.c c c' l s s' ps ps' g1 ⟨g2, g3⟩ hs hs' h3 e3 (by unfold maxLen at h2; omega) h3' e3' (by unfold maxLen at h2'; omega)
end Go.Proofs.Ythnaobolmgcclaa
