/- The document's Cut (steps). -/
import Derived.Test.YtnopmdhjamkoaaaDoorSc11
namespace Go.Proofs.YtnopmdhjamkoaaaDoor
set_option linter.unusedVariables false
set_option linter.unusedSimpArgs false
open Go.RowKit
set_option maxRecDepth 100000 in
set_option maxHeartbeats 4000000 in
theorem rcut31_any (w : World) (l : List St) (A : Option Addr) (n c : Nat) (hN : l.length = n) (hl : Rd w w.heap.size 4 A n (sts l)) (hn : n ≤ 1000) (most : Int) :
    Calls Tryd.prog 44 #[.slice A n c, .int .i64 most] w fun r w' => r = .returned (.int .i64 (cutN l most n : Nat)) ∧ Below w.heap.size w w' := by
  have HAt := Lib.hid (show ∀ w' k e, Below w.heap.size w w' → l[k]? = some e → ∃ b o, A = some ⟨b, o, none⟩ ∧ StAt w' b o k e from fun w' k e hb hk => by
    have hl := hl
    rw [← hN] at hl
    obtain ⟨b, o, h1, h2, h3⟩ := hl.stAt hk
    exact ⟨b, o, h1, h3.below hb h2⟩)
  have HN := Lib.hid hN
  have hn1 : (n : Int) ≤ 1000 := by omega
  have HB0 := Lib.hid (Below.refl w.heap.size w)
  obtain ⟨R, hR⟩ : ∃ R, cutN l most n = R := ⟨_, rfl⟩
  have HR := Lib.hid hR
  rw [hR]
  clear hl hN hR
  go_enter Tryd.func44, Tryd.ntmps44
  go_wp2_with fail
  go_loopg [5, 6] n (fun gg s5 s6 wr => ∃ k : Nat, k + gg = n ∧ s6 = .int .i64 k ∧ s5 = .int .i64 (tickS (l.take k)) ∧ Hid (cutN l most k = k) ∧ Below w.heap.size w wr)
  case atStart => exact ⟨0, by omega, rfl, by simp [tickS], Lib.hid rfl, HB0.out⟩
  case round =>
    obtain ⟨k, hk, rfl, rfl, HK, hb⟩ := hrel
    have HB := Lib.hid hb
    clear HB0 hb
    by_cases hlt : k < n
    · obtain ⟨e, he⟩ : ∃ e, l[k]? = some e := ⟨_, List.getElem?_eq_getElem (by rw [HN.out]; exact hlt)⟩
      have HE := Lib.hid he
      obtain ⟨b, o, rfl, hAt⟩ := HAt.out wr k e HB.out he
      have HAT := Lib.hid (show ∀ w', Below w.heap.size w w' → StAt w' b o k e from fun w' hb => by
        obtain ⟨b', o', e', h'⟩ := HAt.out w' k e hb he
        injection e' with e'
        injection e' with e1 e2 _
        subst e1 e2
        exact h')
      have ht := tickS_take l he
      have hr := (tickS_le (l.take k)).1
      have hr2 := (tickS_le (l.take k)).2
      have ho := tick_one e
      have hlen : (l.take k).length ≤ 1000 := by simp; omega
      have hr3 : tickS (l.take k) ≤ 200000 := by omega
      obtain ⟨T, hTT⟩ : ∃ T, tickS (l.take k) = T := ⟨_, rfl⟩
      rw [hTT] at hr hr3 ht ⊢
      obtain ⟨C, hC⟩ : ∃ C, e.chk = C := ⟨_, rfl⟩
      have HCC := Lib.hid hC
      rw [hC] at ht ho
      have HSTOP := Lib.hid (show (C ≠ 0 ∨ most < tickS (l.take (k + 1))) → R = k from fun h => by
        rw [← HR.out]
        exact cutN_stop HK.out he (by rw [hC]; exact h) n (by omega))
      have HGO := Lib.hid (show C = 0 → tickS (l.take (k + 1)) ≤ most → cutN l most (k + 1) = k + 1 from fun h1 h2 => cutN_go HK.out he (by rw [hC]; exact h1) h2)
      obtain ⟨ek, ew, en, eA, el, ec⟩ := e
      obtain ⟨a0, a1, a2, a3⟩ := hAt
      simp only at a0 a1 a2 a3 ht ho HAT
      have hchk := (scrc_any ek ew en eA el ec).2 wr
      rw [show scC ek ew en el = C from hC] at hchk
      have HC := Lib.hid hchk
      have HHT := Lib.hid ht
      have i1 : (k : Int) < n := by omega
      have i2 : (0 : Int) ≤ k := by omega
      clear hTT hr2 hlen he hC hchk ht
      go_wp2_with fail
      with_reducible refine (HC.out).mono ?_
      rintro r w2 ⟨rfl, hb⟩
      have hB2 := HB.out.trans (hb.mono HB.out.size)
      have HB2 := Lib.hid hB2
      obtain ⟨c0, c1, c2, c3⟩ := HAT.out w2 hB2
      clear hb HB a0 a1 a2 a3 hB2
      by_cases hc0 : C = 0
      · subst hc0
        by_cases h0 : ek = 0
        · subst h0
          rw [if_pos ⟨rfl, rfl⟩] at ho
          have HT2 := Lib.hid (show tickS (l.take (k + 1)) = T + en from by rw [HHT.out, if_pos ⟨rfl, rfl⟩])
          obtain ⟨o1, o2⟩ := ho
          by_cases hm : most < T + en
          · have HRK := Lib.hid (HSTOP.out (.inr (by rw [HT2.out]; exact hm)))
            go_wp2_with fail
            go_ret
            exact ⟨by rw [HRK.out]; rfl, HB2.out⟩
          · have HG := Lib.hid (HGO.out rfl (by rw [HT2.out]; omega))
            go_wp2_with fail
            go_roundg (n - (k + 1))
            case measure => exact meas hk hlt
            case rel => exact ⟨k + 1, meas2 hlt, by go_num, by rw [HT2.out], HG, HB2.out⟩
        · have h1 : (ek == 0) = false := by simpa using h0
          have HT2 := Lib.hid (show tickS (l.take (k + 1)) = T from by rw [HHT.out, if_neg (by omega)]; omega)
          clear ho h0
          by_cases hm : most < T
          · have HRK := Lib.hid (HSTOP.out (.inr (by rw [HT2.out]; exact hm)))
            go_wp2_with fail
            go_ret
            exact ⟨by rw [HRK.out]; rfl, HB2.out⟩
          · have HG := Lib.hid (HGO.out rfl (by rw [HT2.out]; omega))
            go_wp2_with fail
            go_roundg (n - (k + 1))
            case measure => exact meas hk hlt
            case rel => exact ⟨k + 1, meas2 hlt, by go_num, by rw [HT2.out], HG, HB2.out⟩
      · have hc1 : (C == 0) = false := by simpa using hc0
        have hc2 : (C != 0) = true := by simpa using hc0
        have HRK := Lib.hid (HSTOP.out (.inl hc0))
        clear ho hc0
        go_wp2_with fail
        go_ret
        exact ⟨by rw [HRK.out]; rfl, HB2.out⟩
    · obtain rfl : k = n := by omega
      have HRK := Lib.hid (show R = k from by rw [← HR.out]; exact HK.out)
      clear hlt hk
      go_wp2_with fail
      go_ret
      exact ⟨by rw [HRK.out]; rfl, HB.out⟩
end Go.Proofs.YtnopmdhjamkoaaaDoor
