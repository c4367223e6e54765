/- Contracts of the document's 27th chapter: Read; the law's Same. -/
import Derived.Test.YtnopmdhjamkoaaaEv15
namespace Go.Proofs.Ytnopmdhjamkoaaa
set_option linter.unusedVariables false
set_option linter.unusedSimpArgs false
open Go.RowKit

/-- The document's Read. -/
def rdP (m : Nat) (tick id : Int) (ks : List Int) (e : Ev) : Bool := (ks.isEmpty || ks.contains e.k) && (seeB m e && (decide (tick ≤ e.t) && (id == 0 || e.i == id)))
def rdE (m : Nat) (tick id : Int) (ks : List Int) (l : List Ev) : List Ev := l.filter (rdP m tick id ks)
theorem rdE_snoc (m : Nat) (tick id : Int) (ks : List Int) (l : List Ev) (e : Ev) : rdE m tick id ks (l ++ [e]) = if rdP m tick id ks e then rdE m tick id ks l ++ [e] else rdE m tick id ks l := by
  unfold rdE
  rw [List.filter_append]
  cases h : rdP m tick id ks e <;> simp [h]
theorem rdE_len (m : Nat) (tick id : Int) (ks : List Int) (l : List Ev) : (rdE m tick id ks l).length ≤ l.length := List.length_filter_le _ _
theorem rdE_step {m : Nat} {tick id : Int} {ks : List Int} {l : List Ev} {k : Nat} {e : Ev} (h : l[k]? = some e) : rdE m tick id ks (l.take (k + 1)) = if rdP m tick id ks e then rdE m tick id ks (l.take k) ++ [e] else rdE m tick id ks (l.take k) := by
  rw [List.take_add_one, h]
  exact rdE_snoc _ _ _ _ _ _
structure RdR (W : World) (bl : Bl) (ow : List Ro) (m : Nat) (tick id : Int) (ks : List Int) (l : List Ev) (k q : Nat) (s11 : Value) (w : World) : Prop where
  len : (rdE m tick id ks (l.take k)).length = q
  m : Mst W w bl (⟨31, 4, s11, q, evs (rdE m tick id ks (l.take k))⟩ :: ow)
theorem RdR.no {W w w' : World} {bl : Bl} {ow : List Ro} {m : Nat} {tick id : Int} {ks : List Int} {l : List Ev} {k q : Nat} {s11 : Value} (h : RdR W bl ow m tick id ks l k q s11 w) {e : Ev} (he : l[k]? = some e) (hp : rdP m tick id ks e = false) (hb : Below w.heap.size w w') : RdR W bl ow m tick id ks l (k + 1) q s11 w' := by
  have e1 := rdE_step (m := m) (tick := tick) (id := id) (ks := ks) he
  rw [hp, if_neg (by decide)] at e1
  exact ⟨by rw [e1]; exact h.len, by rw [e1]; exact h.m.below hb⟩

theorem RdR.yes {W w w' : World} {bl : Bl} {ow : List Ro} {m : Nat} {tick id : Int} {ks : List Int} {l : List Ev} {k q : Nat} {s11 : Value} (h : RdR W bl ow m tick id ks l k q s11 w) {et ek ei er : Int} (he : l[k]? = some ⟨et, ek, ei, er⟩) (hp : rdP m tick id ks ⟨et, ek, ei, er⟩ = true)
    {A5 : Option Addr} {N5 c5 : Nat} {X5 : List Value} {y : Ro} (hm : Mst W w' bl (⟨31, 4, .slice A5 N5 c5, N5, X5⟩ :: y :: ow)) (hN : N5 = q + 1) (hX : X5 = evs (rdE m tick id ks (l.take k)) ++ [.int .i64 et, .int .i64 ek, .int .i64 ei, .int .i64 er]) :
    RdR W bl ow m tick id ks l (k + 1) (q + 1) (.slice A5 N5 c5) w' := by
  have e1 := rdE_step (m := m) (tick := tick) (id := id) (ks := ks) he
  rw [if_pos hp] at e1
  have hx : evs (rdE m tick id ks (l.take (k + 1))) = X5 := by rw [hX, e1, evs_snoc]; rfl
  refine ⟨by rw [e1, List.length_append, h.len]; rfl, ?_⟩
  rw [hx]
  subst hN
  exact hm.sub (List.Sublist.refl _) ((List.sublist_cons_self _ _).cons_cons _)
theorem Mst.rfAt {W w : World} {bl : Bl} {ow : List Ro} (h : Mst W w bl ow) {A : Option Addr} {n c : Nat} {X : List Ev} (hy : rfRow A n c X ∈ ow) (hn : X.length = n) {k : Nat} {e : Ev} (hk : X[k]? = some e) : ∃ b o, A = some ⟨b, o, none⟩ ∧ EvAt w b o k e := by
  subst hn
  obtain ⟨b, o, e1, _, p⟩ := srcE h (h.rowSrc hy) hk
  exact ⟨b, o, e1, p⟩
set_option maxRecDepth 100000 in
set_option maxHeartbeats 8000000 in
theorem refread27_any (W w : World) (bl : Bl) (ow : List Ro) (hM : Mst W w bl ow) (A : Option Addr) (c : Nat) (l : List Ev) (hy : rfRow A l.length c l ∈ ow) (hn : l.length ≤ 1000) (hE : ∀ e ∈ l, 0 ≤ e.r ∧ e.r < 8) (m : Nat) (hm : m < 256) (tick id : Int)
    (A2 : Option Addr) (c2 : Nat) (ks : List Int) (hr : Rd W W.heap.size 1 A2 ks.length (iv ks)) (hkn : ks.length ≤ 1000) :
    Calls Try.prog 16 #[.slice A l.length c, .int .i64 m, .int .i64 tick, .int .i64 id, .slice A2 ks.length c2] w fun r w' => ∃ A' n' c', r = .returned (.slice A' n' c') ∧ n' = (rdE m tick id ks l).length ∧ Mst W w' bl (rfRow A' n' c' (rdE m tick id ks l) :: ow) := by
  obtain ⟨n, hN⟩ : ∃ n, l.length = n := ⟨_, rfl⟩
  obtain ⟨q, hQ⟩ : ∃ n, ks.length = n := ⟨_, rfl⟩
  have HR := Lib.hid hr
  have HAt := Lib.hid (show ∀ w' ow' k e, Mst W w' bl ow' → (∀ y ∈ ow, y ∈ ow') → l[k]? = some e → ∃ b o, A = some ⟨b, o, none⟩ ∧ EvAt w' b o k e from fun w' ow' k e h hs hk => h.rfAt (hs _ hy) rfl hk)
  rw [hN] at hn ⊢
  rw [hQ] at hkn ⊢
  have HN := Lib.hid hN
  have HQ := Lib.hid hQ
  have HM := Lib.hid hM
  have HEE := Lib.hid hE
  have HMM := Lib.hid hm
  obtain ⟨V0, hV0⟩ : ∃ V, ks.isEmpty = V := ⟨_, rfl⟩
  have HV0 := Lib.hid hV0
  have hv0 : ((q : Int) == 0) = V0 := by
    rw [← hV0, Bool.eq_iff_iff, beq_iff_eq]
    rcases ks with _ | ⟨a, t⟩
    · simp at hQ ⊢; omega
    · simp at hQ ⊢; omega
  have hn1 : (n : Int) ≤ 1000 := by omega
  have hq1 : (q : Int) ≤ 1000 := by omega
  clear hr hM hy hN hQ hE hm hV0
  go_enter Try.func16, Try.ntmps16
  go_wp2_with fail
  go_loopg [11, 12] n (fun gg s11 s12 wr => ∃ (k p : Nat), k + gg = n ∧ s12 = .int .i64 k ∧ p ≤ k ∧ RdR W bl ow m tick id ks l k p s11 wr)
  case atStart => exact ⟨0, 0, by omega, rfl, Nat.le_refl _, ⟨by simp [rdE], HM.out.nilrow 31 4⟩⟩
  case round =>
    obtain ⟨k, p, hk, rfl, hpk, hR⟩ := hrel
    have HRR := Lib.hid hR
    obtain ⟨A11, c11, rfl, -, -, hcap, -⟩ := own_form (hR.m.row [])
    clear HM hR hcap
    by_cases hlt : k < n
    · obtain ⟨e, he⟩ : ∃ e, l[k]? = some e := ⟨_, List.getElem?_eq_getElem (by rw [HN.out]; exact hlt)⟩
      have HE := Lib.hid he
      obtain ⟨hr0, hr8⟩ := HEE.out e (List.mem_of_getElem? he)
      have HSE := Lib.hid (fun w' => sees27_any m HMM.out e hr0 hr8 w')
      obtain ⟨b, o, hA, hAt⟩ := HAt.out _ _ k e HRR.out.m (fun y hy => List.mem_cons_of_mem _ hy) he
      have HAT := Lib.hid hAt
      have HAT' := Lib.hid (show ∀ w', Below wr.heap.size wr w' → EvAt w' b o k e from fun w' hb => by
        obtain ⟨b', o', e', h'⟩ := HAt.out _ _ k e (HRR.out.m.below hb) (fun y hy => List.mem_cons_of_mem _ hy) he
        rw [hA] at e'
        injection e' with e'
        injection e' with e1 e2 _
        subst e1 e2
        exact h')
      have i1 : (k : Int) < n := by omega
      have i2 : (0 : Int) ≤ k := by omega
      subst hA
      clear hr0 hr8 he hAt
      obtain ⟨et, ek, ei, er⟩ := e
      go_wp2_with fail
      go_loopg [13, 14] q (fun gg s13 s14 wx => ∃ (j : Nat) (I : Bool), j + gg = q ∧ s14 = .int .i64 j ∧ s13 = .bool I ∧ Hid (I = (V0 || (ks.take j).contains ek)) ∧ ∃ t, wx = wr.drewN t)
      case atStart => exact ⟨0, V0, by omega, rfl, rfl, Lib.hid (by simp), 0, rfl⟩
      case round =>
        obtain ⟨j, I, hj, rfl, rfl, hI, t, rfl⟩ := hrel
        by_cases hjl : j < q
        · obtain ⟨x, hx⟩ : ∃ x, ks[j]? = some x := ⟨_, List.getElem?_eq_getElem (by rw [HQ.out]; exact hjl)⟩
          obtain ⟨b2, o2, hA2, hb2, hc2⟩ := HR.out.2 (by rw [HQ.out]; omega)
          have q0 := HRR.out.m.old hb2 (hc2 j (.int .i64 x) (by simp [iv, hx]))
          subst hA2
          have HX := Lib.hid (show ∀ I', I' = (I || (x == ek)) → I' = (V0 || (ks.take (j + 1)).contains ek) from fun I' h => by
            rw [h, hI.out, List.take_add_one, hx]
            simp [Bool.or_assoc]
            cases V0 <;> simp [Bool.beq_eq_decide_eq, eq_comm])
          have j1 : (j : Int) < q := by omega
          have j2 : (0 : Int) ≤ j := by omega
          clear hx hc2 hb2 hI
          cases I
          · obtain ⟨p0, p1, p2, p3⟩ := HAT.out
            simp only at p0 p1 p2 p3
            obtain ⟨I2, hI2⟩ : ∃ I2, (x == ek) = I2 := ⟨_, rfl⟩
            have HI2 := Lib.hid hI2
            go_wp2_with fail
            go_quiet (fail)
            go_wp2_with fail
            go_roundg (q - (j + 1))
            case measure => exact meas hj hjl
            case rel => exact ⟨j + 1, I2, meas2 hjl, by go_num, rfl, Lib.hid (HX.out _ (by rw [HI2.out]; rfl)), _, rfl⟩
          · go_wp2_with fail
            go_quiet (fail)
            go_wp2_with fail
            go_roundg (q - (j + 1))
            case measure => exact meas hj hjl
            case rel => exact ⟨j + 1, true, meas2 hjl, by go_num, rfl, Lib.hid (HX.out _ rfl), _, rfl⟩
        · obtain rfl : j = q := by omega
          have HI := Lib.hid (show (ks.isEmpty || ks.contains ek) = I by
            have h := hI.out
            rw [List.take_of_length_le (by rw [HQ.out]; exact Nat.le_refl _)] at h
            rw [HV0.out, h])
          have HB := Lib.hid (show Below wr.heap.size wr (wr.drewN t) from Bdn (Below.refl _ _) _)
          generalize hw2 : wr.drewN t = w2 at HB ⊢
          obtain ⟨S, hS⟩ : ∃ S, seeB m ⟨et, ek, ei, er⟩ = S := ⟨_, rfl⟩
          have HS := Lib.hid hS
          rw [hS] at HSE
          clear hI hj hjl hS hw2
          cases I
          · have HB3 := HB
            have HP := Lib.hid (show rdP m tick id ks ⟨et, ek, ei, er⟩ = false by unfold rdP; simp only []; rw [HI.out]; simp)
            go_wp2_with fail
            go_roundg (n - (k + 1))
            case measure => exact meas hk hlt
            case rel => exact ⟨k + 1, p, meas2 hlt, by go_num, by omega, HRR.out.no HE.out HP.out HB3.out⟩
          · obtain ⟨p0, p1, p2, p3⟩ := HAT'.out _ HB.out
            simp only at p0 p1 p2 p3
            go_wp2_with fail
            with_reducible refine (HSE.out _).mono ?_
            rintro r w3 ⟨rfl, hb⟩
            have HB3 := Lib.hid (Bsz HB.out hb)
            clear hb p0 p1 p2 p3
            cases S
            · skip
              have HP := Lib.hid (show rdP m tick id ks ⟨et, ek, ei, er⟩ = false by unfold rdP; simp only []; rw [HI.out, HS.out]; simp)
              go_wp2_with fail
              go_roundg (n - (k + 1))
              case measure => exact meas hk hlt
              case rel => exact ⟨k + 1, p, meas2 hlt, by go_num, by omega, HRR.out.no HE.out HP.out HB3.out⟩
            · by_cases ht : tick ≤ et
              · by_cases hid0 : id = 0
                · subst hid0
                  obtain ⟨p0, p1, p2, p3⟩ := HAT'.out _ HB3.out
                  simp only at p0 p1 p2 p3
                  have HP := Lib.hid (show rdP m tick 0 ks ⟨et, ek, ei, er⟩ = true by unfold rdP; simp only []; rw [HI.out, HS.out]; simp [ht])
                  have Mq := Lib.hid (((HRR.out.m.below HB3.out).newrow 31 4 1 1 #[.int .i64 et, .int .i64 ek, .int .i64 ei, .int .i64 er] (Nat.le_refl _) (by decide) rfl).perm (List.Perm.refl _) (List.Perm.swap _ _ _))
                  go_wp2_with (at_builtin; refine wpList_appE rfl _ _ 22 rfl [] Mq.out el_ref rfl _ (some ⟨w3.heap.size, 0, none⟩) 1 1 [.int .i64 et, .int .i64 ek, .int .i64 ei, .int .i64 er] rfl (Mq.out.src (Mq.out.rowSrc (List.mem_cons_of_mem _ (List.mem_cons_self ..)))) (ev_one _ _ _ _) (by unfold maxLen; omega) (by omega) ?_; intro A5 c5 w5 N5 X5 hn5 hx5 mq; have Mr := Lib.hid mq; have HN5 := Lib.hid hn5; have HX5 := Lib.hid hx5; clear mq hn5 hx5)
                  go_roundg (n - (k + 1))
                  case measure => exact meas hk hlt
                  case rel => exact ⟨k + 1, p + 1, meas2 hlt, by go_num, by omega, HRR.out.yes HE.out HP.out Mr.out HN5.out HX5.out⟩
                · have f1 : (id == 0) = false := by simpa using hid0
                  by_cases hei : ei = id
                  · subst hei
                    have f2 : (ei == ei) = true := by simp
                    obtain ⟨p0, p1, p2, p3⟩ := HAT'.out _ HB3.out
                    simp only at p0 p1 p2 p3
                    have HP := Lib.hid (show rdP m tick ei ks ⟨et, ek, ei, er⟩ = true by unfold rdP; simp only []; rw [HI.out, HS.out]; simp [ht])
                    have Mq := Lib.hid (((HRR.out.m.below HB3.out).newrow 31 4 1 1 #[.int .i64 et, .int .i64 ek, .int .i64 ei, .int .i64 er] (Nat.le_refl _) (by decide) rfl).perm (List.Perm.refl _) (List.Perm.swap _ _ _))
                    go_wp2_with (at_builtin; refine wpList_appE rfl _ _ 22 rfl [] Mq.out el_ref rfl _ (some ⟨w3.heap.size, 0, none⟩) 1 1 [.int .i64 et, .int .i64 ek, .int .i64 ei, .int .i64 er] rfl (Mq.out.src (Mq.out.rowSrc (List.mem_cons_of_mem _ (List.mem_cons_self ..)))) (ev_one _ _ _ _) (by unfold maxLen; omega) (by omega) ?_; intro A5 c5 w5 N5 X5 hn5 hx5 mq; have Mr := Lib.hid mq; have HN5 := Lib.hid hn5; have HX5 := Lib.hid hx5; clear mq hn5 hx5)
                    go_roundg (n - (k + 1))
                    case measure => exact meas hk hlt
                    case rel => exact ⟨k + 1, p + 1, meas2 hlt, by go_num, by omega, HRR.out.yes HE.out HP.out Mr.out HN5.out HX5.out⟩
                  · have f2 : (ei == id) = false := by simpa using hei
                    obtain ⟨p0, p1, p2, p3⟩ := HAT'.out _ HB3.out
                    simp only at p0 p1 p2 p3
                    have HP := Lib.hid (show rdP m tick id ks ⟨et, ek, ei, er⟩ = false by unfold rdP; simp only []; rw [HI.out, HS.out]; simp [ht, f1, f2])
                    go_wp2_with fail
                    go_roundg (n - (k + 1))
                    case measure => exact meas hk hlt
                    case rel => exact ⟨k + 1, p, meas2 hlt, by go_num, by omega, HRR.out.no HE.out HP.out HB3.out⟩
              · skip
                obtain ⟨p0, p1, p2, p3⟩ := HAT'.out _ HB3.out
                simp only at p0 p1 p2 p3
                have HP := Lib.hid (show rdP m tick id ks ⟨et, ek, ei, er⟩ = false by unfold rdP; simp only []; rw [HI.out, HS.out]; simp [ht])
                go_wp2_with fail
                go_roundg (n - (k + 1))
                case measure => exact meas hk hlt
                case rel => exact ⟨k + 1, p, meas2 hlt, by go_num, by omega, HRR.out.no HE.out HP.out HB3.out⟩
    · obtain rfl : k = n := by omega
      have HT := Lib.hid (show l.take k = l from List.take_of_length_le (by rw [HN.out]; exact Nat.le_refl _))
      clear hk hlt
      go_wp2
      go_ret
      have h1 := HRR.out.len
      have h2 := HRR.out.m
      rw [HT.out] at h1 h2
      exact ⟨A11, p, c11, rfl, h1.symm, h2⟩
end Go.Proofs.Ytnopmdhjamkoaaa
