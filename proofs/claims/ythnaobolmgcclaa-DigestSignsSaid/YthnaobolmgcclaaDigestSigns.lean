/-
  vigillaw01.DigestSigns returns true, whatever it is called with. Conditions: none but that the first argument is a slice of bytes that can be read.
-/
import Derived.Test.YthnaobolmgcclaaDig1
import Derived.Test.YthnaobolmgcclaaKn01
import Derived.Test.YthnaobolmgcclaaHex4
import Derived.Test.YthnaobolmgcclaaOpenS
import Derived.Lib.MinMax
namespace Go.Proofs.Ythnaobolmgcclaa
set_option linter.unusedVariables false
set_option linter.unusedSimpArgs false
open Go.RowKit

set_option maxRecDepth 100000 in
set_option maxHeartbeats 1600000 in
theorem digestSigns_main (W : World) (A : Option Addr) (c : Nat) (l : List UInt8) (B : ByteArray) (hr : RB W W.heap.size A l) (hc : l.length ≤ c ∧ c ≤ 9223372036854775807) (hB : B.size ≤ maxLen) :
    Calls Try.prog 7 #[.slice A l.length c, .string B] W fun e W' => e = .returned (.bool true) ∧ Below W.heap.size W W' := by
  unfold maxLen at hB
  obtain ⟨N, hN⟩ : ∃ N, l.length = N := ⟨_, rfl⟩
  obtain ⟨M, hM⟩ : ∃ M, B.size = M := ⟨_, rfl⟩
  rw [hN] at hc ⊢
  rw [hM] at hB
  obtain ⟨hc1, hc2⟩ := hc
  have hr2 := hr.cut 100
  obtain ⟨n, hn⟩ : ∃ n : Nat, (n : Int) = min (N : Int) 100 := ⟨min N 100, by omega⟩
  obtain ⟨m, hm⟩ : ∃ m : Nat, (m : Int) = min (M : Int) 100 := ⟨min M 100, by omega⟩
  have n1 : (n : Int) ≤ 100 := by omega
  have n2 : (n : Int) ≤ N := by omega
  have n3 : (n : Int) ≤ c := by omega
  have n4 : (0 : Int) ≤ n := by omega
  have m1 : (m : Int) ≤ 100 := by omega
  have m2 : (m : Int) ≤ M := by omega
  have m4 : (0 : Int) ≤ m := by omega
  obtain ⟨l', hl'⟩ : ∃ l', l.take 100 = l' := ⟨_, rfl⟩
  have hln : l'.length = n := by rw [← hl', List.length_take]; omega
  rw [hl'] at hr2
  have hmin1 : min (N : Int) 100 = n := hn.symm
  have hmin2 : min (M : Int) 100 = m := hm.symm
  have HR := Lib.hid hr2
  have HL := Lib.hid hln
  clear hr hr2 hln hl' hn hm
  go_enter Try.func7, Try.ntmps7
  go_wp2_with fail
  go_quiet (fail)
  obtain ⟨B', hB'⟩ : ∃ B', B.extract 0 m = B' := ⟨_, rfl⟩
  rw [hB']
  have hBs : B'.size = m := by rw [← hB', ByteArray.size_extract]; omega
  obtain ⟨s, hs⟩ : ∃ s, B'.data.toList = s := ⟨_, rfl⟩
  have hsl : s.length = m := by rw [← hs, Array.length_toList]; exact hBs
  obtain ⟨H, hH⟩ : ∃ H : ByteArray, (⟨(hexL l').toArray⟩ : ByteArray) = H := ⟨_, rfl⟩
  have hHl : H.data.toList = hexL l' := by rw [← hH]
  have hHs : H.size = 2 * n := by
    rw [← hH]
    show (hexL l').toArray.size = _
    rw [List.size_toArray, hexL_len, HL.out]
  have HX := Lib.hid (show ∀ w', RB w' w'.heap.size A l' → Calls Try.prog 43 #[.slice A n c] w' fun e w2 => e = .returned (.string H) ∧ Below w'.heap.size w' w2 from fun w' h => by
    have := hex_any w' A c l' h (by have := HL.out; omega)
    rw [hH, HL.out] at this
    exact this)
  have HHL := Lib.hid hHl
  have HS := Lib.hid hs
  have HSL := Lib.hid hsl
  have M0 := Lib.hid ((Mst.start W).drewN nq)
  have R0 := Lib.hid (Src.old (bl := []) (ow := []) HR.out)
  have hm2 : (m : Int) * 2 = m * 2 := rfl
  clear hB' hs hsl hH hHl hmin1 hmin2 m2 n2 hB n3 hm2
  go_wp2_with fail
  refine (HX.out _ (M0.out.src R0.out)).mono ?_
  rintro e w1 ⟨rfl, hb1⟩
  have M1 := Lib.hid (M0.out.below hb1)
  clear hb1
  go_wp2_with fail
  go_loopg [6] n (fun gk s6 wr => ∃ k : Nat, k + gk = n ∧ s6 = .int .i64 k ∧ Mst W wr [] [])
  case atStart => exact ⟨0, by omega, rfl, M1.out⟩
  case round =>
    obtain ⟨k, hk, rfl, hm⟩ := hrel
    have M2 := Lib.hid hm
    clear hm
    by_cases hlt : k < n
    · obtain ⟨b, hb⟩ : ∃ b, l'[k]? = some b := ⟨_, List.getElem?_eq_getElem (by have := HL.out; omega)⟩
      have hgd : l'.getD k 0 = b := by rw [List.getD_eq_getElem?_getD, hb]; rfl
      obtain ⟨gb, o, rfl, hgl, hcell⟩ := (show RB wr wr.heap.size A l' from M2.out.src R0.out).at_ (by have := HL.out; omega)
      have c0 := hcell k b hb
      obtain ⟨g1, g2⟩ := hexL_get l' k (by have := HL.out; omega)
      rw [hgd] at g1 g2
      have hx0 := fun w => str_ix HHL.out (k := 2 * k) (by rw [hexL_len, HL.out]; omega) (i := 2 * (k : Int)) (by omega) w
      have hx1 := fun w => str_ix HHL.out (k := 2 * k + 1) (by rw [hexL_len, HL.out]; omega) (i := 2 * (k : Int) + 1) (by omega) w
      rw [g1] at hx0
      rw [g2] at hx1
      have hbl := b.toNat_lt
      have HS1 := fun w => sign_any (b.toNat / 16) (by omega) w
      have HS2 := fun w => sign_any (b.toNat % 16) (by omega) w
      rw [show (((b.toNat / 16 : Nat)) : Int) = (b.toNat : Int) / 16 by omega] at HS1
      rw [show (((b.toNat % 16 : Nat)) : Int) = (b.toNat : Int) % 16 by omega] at HS2
      have i1 : (k : Int) < n := by omega
      have i2 : (0 : Int) ≤ k := by omega
      clear hb hgd hcell g1 g2 HX
      go_wp2_with fail
      go_quiet ((go_at_call 44; (first | (with_reducible exact Calls.quiet_of_same (HS1 _)) | (with_reducible exact Calls.quiet_of_same (HS2 _)) | (trace_state; fail))))
      go_wp2_with fail
      go_roundg (n - (k + 1))
      case measure => exact meas hk hlt
      case rel => exact ⟨k + 1, meas2 hlt, by go_num, M2.out.drewN _⟩
    · obtain rfl : k = n := by omega
      have HU := Lib.hid (show unL (hexL l') k = l' by rw [unL_hexL l' k (by rw [HL.out]; omega), List.take_of_length_le (by rw [HL.out]; omega)])
      have HD := Lib.hid (dbytes_any wr H (hexL l') HHL.out (by rw [hexL_len, HL.out]; omega))
      clear hlt hk
      go_wp2_with fail
      refine HD.out.mono ?_
      rintro e w3 ⟨v, hy, -⟩
      obtain ⟨rfl, hf⟩ := hy (hexL_ok l')
      have hx2 : (hexL l').length / 2 = l'.length := by rw [hexL_len]; omega
      rw [hx2, HL.out, HU.out] at hf
      have hm3 := M2.out.addr hf
      obtain ⟨Ab, cb, rfl, -⟩ := own_form hf.own
      have S3 := Lib.hid (show Src W [] [⟨5, 1, .slice Ab k cb, k, by8 l'⟩] 1 Ab l'.length (by8 l') by rw [HL.out]; exact hm3.rowSrc (List.mem_cons_self ..))
      have M3 := Lib.hid hm3
      clear hf hm3 hy HD hx2
      have HD := Lib.hid (dbytes_any w3 B' s HS.out (by have := HSL.out; omega))
      go_wp2_with fail
      refine HD.out.mono ?_
      clear HD
      rintro e w4 ⟨v, hy, hz⟩
      obtain ⟨v9, f10, ow, rfl, hm4, hs3, hcase⟩ : ∃ v9 f10 ow, e = .returned (.tuple #[v9, .int .i64 f10]) ∧ Mst W w4 [] ow ∧ Src W [] ow 1 Ab l'.length (by8 l') ∧
          ((okS s ∧ f10 = 0 ∧ ∃ q Ac cc, m = 2 * q ∧ v9 = .slice Ac q cc ∧ Src W [] ow 1 Ac (unL s q).length (by8 (unL s q))) ∨ (¬ okS s ∧ f10 = 3 ∧ v9 = .slice none 0 0)) := by
        by_cases hok : okS s
        · obtain ⟨rfl, hf⟩ := hy hok
          obtain ⟨q, hq⟩ : ∃ q, m = 2 * q := ⟨m / 2, by have := hok.1; have := HSL.out; omega⟩
          rw [HSL.out, show m / 2 = q by omega] at hf
          have hm4 := M3.out.addr hf
          obtain ⟨Ac, cc, rfl, -⟩ := own_form hf.own
          exact ⟨_, _, _, rfl, hm4, S3.out.sub (by simp) (fun y hy => List.mem_cons_of_mem _ hy), .inl ⟨hok, rfl, q, Ac, cc, hq, rfl, by rw [unL_len]; exact hm4.rowSrc (List.mem_cons_self ..)⟩⟩
        · obtain ⟨rfl, hb⟩ := hz hok
          exact ⟨_, _, _, rfl, M3.out.below hb, S3.out, .inr ⟨hok, rfl, rfl⟩⟩
      have M4 := Lib.hid hm4
      have S4 := Lib.hid hs3
      have HSM := Lib.hid (show ∀ w', RB w' w'.heap.size Ab l' → RB w' w'.heap.size A l' → Calls Try.prog 25 #[.slice Ab k cb, .slice A k c] w' fun e w2 => e = .returned (.bool true) ∧ Below w'.heap.size w' w2 from fun w' h1 h2 => by
        have := same_yes Ab A cb c l' w' h1 h2 (by rw [HL.out]; unfold maxLen; omega)
        rw [HL.out] at this
        exact this)
      have HC := Lib.hid hcase
      have p0 : ((m : Int) % 2 == 0) = okB s 0 := by
        unfold okB
        rw [HSL.out, Bool.eq_iff_iff]
        simp
        omega
      clear hy hz hm4 hs3 hcase
      go_wp2_with fail
      go_loopg [12, 11] m (fun gk s12 s11 wr => ∃ k : Nat, k + gk = m ∧ s12 = .int .i64 k ∧ s11 = .bool (okB s k) ∧ Mst W wr [] ow)
      case atStart => exact ⟨0, by omega, rfl, rfl, M4.out⟩
      case round =>
        obtain ⟨j, hj, rfl, rfl, hm⟩ := hrel
        have M5 := Lib.hid hm
        clear hm p0
        by_cases hlt : j < m
        · have i1 : (j : Int) < m := by omega
          have i2 : (0 : Int) ≤ j := by omega
          have hx0 := fun w => str_ix HS.out (k := j) (by rw [HSL.out]; exact hlt) (i := (j : Int)) rfl w
          have HOS := Lib.hid (okB_succ s j (by rw [HSL.out]; exact hlt))
          obtain ⟨b, hb⟩ : ∃ b, s.getD j 0 = b := ⟨_, rfl⟩
          rw [hb] at hx0 HOS
          clear hb
          cases hB : okB s j with
          | true =>
            rw [hB] at HOS
            clear hB
            go_wp2_with fail
            refine (value_any b _).mono ?_
            rintro e w6 ⟨rfl, rfl⟩
            go_wp2
            go_roundg (m - (j + 1))
            case measure => exact meas hj hlt
            case rel => exact ⟨j + 1, meas2 hlt, by go_num, by rw [HOS.out, Bool.true_and], M5.out⟩
          | false =>
            rw [hB] at HOS
            clear hB
            go_wp2_with fail
            go_roundg (m - (j + 1))
            case measure => exact meas hj hlt
            case rel => exact ⟨j + 1, meas2 hlt, by go_num, by rw [HOS.out, Bool.false_and], M5.out⟩
        · obtain rfl : j = m := by omega
          have i1 : ¬ ((j : Int) < j) := by omega
          have HOA := Lib.hid (okB_all s)
          rw [HSL.out] at HOA
          rcases HC.out with ⟨hok, rfl, q, Ac, cc, rfl, rfl, hsc⟩ | ⟨hok, rfl, rfl⟩
          · have hT : okB s (2 * q) = true := HOA.out.2 hok
            rw [hT]
            have hul := unL_len s q
            have HHU := Lib.hid (show hexL (unL s q) = s by rw [hexL_unL s hok q (by rw [HSL.out]; omega), List.take_of_length_le (by rw [HSL.out]; omega)])
            obtain ⟨u, hu⟩ : ∃ u, unL s q = u := ⟨_, rfl⟩
            rw [hu] at hul hsc HHU
            subst hul
            obtain ⟨H2, hH2⟩ : ∃ H : ByteArray, (⟨(hexL u).toArray⟩ : ByteArray) = H := ⟨_, rfl⟩
            have hEQ : (H2.toList == B'.toList) = true := by
              have e1 : H2.toList = B'.toList := by
                rw [ByteArray.toList_eq, ByteArray.toList_eq, HS.out, ← hH2]
                exact HHU.out
              rw [e1, beq_self_eq_true]
            have HX2 := Lib.hid (show ∀ w', RB w' w'.heap.size Ac u → Calls Try.prog 43 #[.slice Ac u.length cc] w' fun e w2 => e = .returned (.string H2) ∧ Below w'.heap.size w' w2 from fun w' h => by
              have := hex_any w' Ac cc u h (by have := m1; omega)
              rw [hH2] at this
              exact this)
            have HSC := Lib.hid hsc
            clear hT hH2 hsc hok hu HX
            go_wp2_with fail
            refine (known01 _).mono ?_
            rintro e w7 ⟨rfl, hb7⟩
            have M7 := Lib.hid (M5.out.below hb7)
            clear hb7
            go_wp2_with fail
            refine (HSM.out _ (M7.out.src S4.out) (M7.out.src (R0.out.sub (by simp) (by simp)))).mono ?_
            rintro e w8 ⟨rfl, hb8⟩
            have M8 := Lib.hid (M7.out.below hb8)
            clear hb8
            go_wp2_with fail
            refine (HX2.out _ (M8.out.src HSC.out)).mono ?_
            rintro e w9 ⟨rfl, hb9⟩
            have HZ := Lib.hid (M8.out.below hb9).bel
            clear hb9
            go_wp2_with fail
            go_ret
            exact ⟨rfl, HZ.out⟩
          · have hT : okB s j = false := by
              cases h : okB s j with
              | false => rfl
              | true => exact absurd (HOA.out.1 h) hok
            rw [hT]
            clear hT
            go_wp2_with fail
            refine (known01 _).mono ?_
            rintro e w7 ⟨rfl, hb7⟩
            have M7 := Lib.hid (M5.out.below hb7)
            clear hb7
            go_wp2_with fail
            refine (HSM.out _ (M7.out.src S4.out) (M7.out.src (R0.out.sub (by simp) (by simp)))).mono ?_
            rintro e w8 ⟨rfl, hb8⟩
            have HZ := Lib.hid (M7.out.below hb8).bel
            clear hb8
            go_wp2_with fail
            go_ret
            exact ⟨rfl, HZ.out⟩

theorem contract_digestSigns (W : World) (v0 v1 : Value) (a0 : ∃ r : Rw, v0 = r.v ∧ r.ok .u8 W) (a1 : ∃ s : ByteArray, v1 = .string s ∧ s.size ≤ maxLen) :
    Calls Try.prog 7 #[v0, v1] W fun e W' => e = .returned (.bool true) ∧ Below W.heap.size W W' := by
  obtain ⟨r, rfl, hr⟩ := a0
  obtain ⟨s, rfl, hs⟩ := a1
  obtain ⟨l, e, h1, h2, h3⟩ := rw_pt hr
  rw [e]
  exact digestSigns_main W r.A r.c l s h1 ⟨h2, h3⟩ hs
end Go.Proofs.Ythnaobolmgcclaa
