/- Contracts of package script: slices.Clone of steps; Cut. -/
import Derived.Test.YtnopmdhjamkoaaaDoorSc4
import Derived.Test.YtnopmdhjamkoaaaDoorSc7
namespace Go.Proofs.YtnopmdhjamkoaaaDoor
set_option linter.unusedVariables false
set_option linter.unusedSimpArgs false
open Go.RowKit

theorem cutN_stop {l : List St} {most : Int} {k : Nat} {e : St} (h : cutN l most k = k) (he : l[k]? = some e) (hc : e.chk ≠ 0 ∨ most < tickS (l.take (k + 1))) : ∀ m, k ≤ m → cutN l most m = k
  | 0, hm => by
    obtain rfl : k = 0 := by omega
    rfl
  | m + 1, hm => by
    rcases Nat.lt_or_ge m k with hlt | hge
    · obtain rfl : k = m + 1 := by omega
      exact h
    · have ih := cutN_stop h he hc m hge
      unfold cutN
      simp only [ih]
      by_cases hkm : k < m
      · rw [if_pos hkm]
      · obtain rfl : k = m := by omega
        rw [if_neg (by omega), he]
        simp only []
        rw [if_pos hc]
theorem cutN_go {l : List St} {most : Int} {k : Nat} {e : St} (h : cutN l most k = k) (he : l[k]? = some e) (hc : e.chk = 0) (ht : tickS (l.take (k + 1)) ≤ most) : cutN l most (k + 1) = k + 1 := by
  unfold cutN
  simp only [h]
  rw [if_neg (by omega), he]
  simp only []
  rw [if_neg (by rintro (h | h) <;> omega)]
set_option maxRecDepth 100000 in
set_option maxHeartbeats 4000000 in
theorem scut_any (W w : World) (bl : Bl) (ow : List Ro) (hM : Mst W w bl ow) (hT : TabU w) (A : Option Addr) (c : Nat) (l : List St) (n : Nat) (hN : l.length = n) (hl : Src W bl ow 4 A n (sts l)) (hn : n ≤ 1000) (hcap : n ≤ c) (hA : A = none → c = 0) (most : Int) :
    Calls Tryd.prog 32 #[.slice A n c, .int .i64 most] w fun r w' => ∃ A' q c', r = .returned (.slice A' q c') ∧ q = cutN l most n ∧ q ≤ n ∧ Mst W w' bl (⟨62, 4, .slice A' q c', q, sts (l.take q)⟩ :: ow) := by
  have HS := Lib.hid hl
  have HM := Lib.hid hM
  have hrd : ∀ w', Below w.heap.size w w' → Rd w' w'.heap.size 4 A n (sts l) := fun w' hb => (hM.below hb).src hl
  have HAt := Lib.hid (show ∀ w' k e, Below w.heap.size w w' → l[k]? = some e → ∃ b o, A = some ⟨b, o, none⟩ ∧ StAt w' b o k e from fun w' k e hb hk => by
    have h := hrd w' hb
    rw [← hN] at h
    obtain ⟨b, o, h1, h2, h3⟩ := h.stAt hk
    exact ⟨b, o, h1, h3⟩)
  have HTk := Lib.hid (show ∀ w' m T, Below w.heap.size w w' → m ≤ n → tickS (l.take m) = T → Calls Tryd.prog 37 #[.slice A m c] w' fun r w2 => r = .returned (.int .i64 T) ∧ Below w'.heap.size w' w2 from fun w' m T hb hm hT2 => by
    have h := (hrd w' hb).takeS hN hm
    have hln : (l.take m).length = m := by rw [List.length_take]; omega
    have := ticks_any w' (hT.keep hb) (l.take m) A c (by rw [hln]; exact h) (by omega)
    rw [hln, hT2] at this
    exact this)
  have HCl := Lib.hid (show ∀ w' m, Below w.heap.size w w' → m ≤ n → Calls Tryd.prog 63 #[.slice A m c] w' fun r w2 => ∃ A' c', r = .returned (.slice A' m c') ∧ Mst W w2 bl (⟨62, 4, .slice A' m c', m, sts (l.take m)⟩ :: ow) from fun w' m hb hm =>
    sclone_any W w' bl ow (hM.below hb) A c (l.take m) m (by rw [List.length_take]; omega) (hl.takeS hN hm) (by omega) hA)
  have HN := Lib.hid hN
  have HT := Lib.hid hT
  have HB0 := Lib.hid (Below.refl w.heap.size w)
  have hn1 : (n : Int) ≤ 1000 := by omega
  have hcap1 : (n : Int) ≤ c := by omega
  clear hM hl hN hT hrd hA
  go_enter Tryd.func32, Tryd.ntmps32
  go_wp2_with fail
  go_step3
  go_wp2_with fail
  go_step3
  go_wp2_with fail
  go_loopg [5, 10] n (fun gg s5 s10 wr => ∃ k : Nat, k + gg = n ∧ s10 = .int .i64 k ∧ s5 = .int .i64 k ∧ Hid (cutN l most k = k) ∧ Below w.heap.size w wr)
  case atStart => exact ⟨0, by omega, rfl, rfl, Lib.hid rfl, HB0.out⟩
  case round =>
    obtain ⟨k, hk, rfl, rfl, HK, hb⟩ := hrel
    have HB := Lib.hid hb
    clear HB0 hb
    by_cases hlt : k < n
    · obtain ⟨e, he⟩ : ∃ e, l[k]? = some e := ⟨_, List.getElem?_eq_getElem (by rw [HN.out]; exact hlt)⟩
      have HE := Lib.hid he
      obtain ⟨b, o, rfl, hAt⟩ := HAt.out wr k e HB.out he
      obtain ⟨C, hC⟩ : ∃ C, e.chk = C := ⟨_, rfl⟩
      have HCC := Lib.hid hC
      obtain ⟨T, hTT⟩ : ∃ T, tickS (l.take (k + 1)) = T := ⟨_, rfl⟩
      have HTT := Lib.hid hTT
      obtain ⟨ek, ew, en, eA, el, ec⟩ := e
      obtain ⟨a0, a1, a2, a3⟩ := hAt
      simp only at a0 a1 a2 a3
      have hB1 := HB.out.alloc HB.out.size (.cells #[.int .i64 ek, .int .i64 ew, .int .i64 en, .slice eA el ec] 62)
      have hchk := (scrc_any ek ew en eA el ec).1 _ (HT.out.keep hB1)
      rw [show scC ek ew en el = C from hC] at hchk
      have HC := Lib.hid hchk
      have HX := Lib.hid (fun w2 => sccells (w := wr) (w1 := w2) (k := ek) (who := ew) (n := en) (A := eA) (len := el) (cap := ec))
      have i1 : (k : Int) < n := by omega
      have i2 : (0 : Int) ≤ k := by omega
      clear he hC hTT hB1 hchk
      by_cases hc0 : C = 0
      · subst hc0
        go_wp2_with fail
        with_reducible refine (HC.out).mono ?_
        rintro r w2 ⟨rfl, hb⟩
        obtain ⟨hb, -, -, -, -⟩ := HX.out _ hb
        have hB2 := HB.out.trans (hb.mono HB.out.size)
        have HB2 := Lib.hid hB2
        have HTC := Lib.hid (HTk.out w2 (k + 1) T hB2 hlt HTT.out)
        clear hb hB2 a0 a1 a2 a3
        by_cases hm : most < T
        · have HSTOP := Lib.hid (cutN_stop HK.out HE.out (.inr (by rw [HTT.out]; exact hm)) n (by omega))
          go_wp2_with fail
          with_reducible refine (HTC.out).mono ?_
          rintro r w3 ⟨rfl, hb⟩
          have hB3 := HB2.out.trans (hb.mono HB2.out.size)
          have HCL := Lib.hid (HCl.out w3 k hB3 (by omega))
          clear hb hB3
          go_wp2_with fail
          with_reducible refine (HCL.out).mono ?_
          rintro r w4 ⟨A', c', rfl, hm4⟩
          have HM4 := Lib.hid hm4
          clear hm4
          go_wp2_with fail
          try rw [Exit.noGoto_ret]
          go_ret
          exact ⟨A', k, c', rfl, HSTOP.out.symm, by omega, HM4.out⟩
        · have HGO := Lib.hid (cutN_go HK.out HE.out HCC.out (by rw [HTT.out]; omega))
          go_wp2_with fail
          with_reducible refine (HTC.out).mono ?_
          rintro r w3 ⟨rfl, hb⟩
          have HB3 := Lib.hid (HB2.out.trans (hb.mono HB2.out.size))
          clear hb
          go_wp2_with fail
          go_roundg (n - (k + 1))
          case measure => exact meas hk hlt
          case rel => exact ⟨k + 1, meas2 hlt, by go_num, by go_num, HGO, HB3.out⟩
      · have hc1 : (C == 0) = false := by simpa using hc0
        have hc2 : (C != 0) = true := by simpa using hc0
        have HSTOP := Lib.hid (cutN_stop HK.out HE.out (.inl (by rw [HCC.out]; exact hc0)) n (by omega))
        go_wp2_with fail
        with_reducible refine (HC.out).mono ?_
        rintro r w2 ⟨rfl, hb⟩
        obtain ⟨hb, -, -, -, -⟩ := HX.out _ hb
        have hB2 := HB.out.trans (hb.mono HB.out.size)
        have HCL := Lib.hid (HCl.out w2 k hB2 (by omega))
        clear hb hB2 a0 a1 a2 a3
        go_wp2_with fail
        with_reducible refine (HCL.out).mono ?_
        rintro r w4 ⟨A', c', rfl, hm4⟩
        have HM4 := Lib.hid hm4
        clear hm4
        go_wp2_with fail
        try rw [Exit.noGoto_ret]
        go_ret
        exact ⟨A', k, c', rfl, HSTOP.out.symm, by omega, HM4.out⟩
    · obtain rfl : k = n := by omega
      have HCL := Lib.hid (HCl.out wr k HB.out (Nat.le_refl _))
      clear hlt hk
      go_wp2_with fail
      with_reducible refine (HCL.out).mono ?_
      rintro r w4 ⟨A', c', rfl, hm4⟩
      have HM4 := Lib.hid hm4
      clear hm4
      go_wp2_with fail
      try rw [Exit.noGoto_ret]
      go_ret
      exact ⟨A', k, c', rfl, HK.out.symm, Nat.le_refl _, HM4.out⟩
end Go.Proofs.YtnopmdhjamkoaaaDoor
