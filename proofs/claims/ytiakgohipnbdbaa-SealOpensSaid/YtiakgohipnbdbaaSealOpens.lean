/-
  vigillaw03.SealOpens returns true, whatever it is called with. Conditions: none but that the slices can be read.
-/
import Derived.Test.YtiakgohipnbdbaaSe7
namespace Go.Proofs.Ytiakgohipnbdbaa
set_option linter.unusedVariables false
set_option linter.unusedSimpArgs false
open Go.RowKit

set_option maxRecDepth 100000 in
set_option maxHeartbeats 3200000 in
theorem sealOpens_main (W : World) (A1 A2 A3 A4 : Option Addr) (c1 c2 c3 c4 : Nat) (l1 l2 l3 l4 : List UInt8) (h1 : RB W W.heap.size A1 l1) (d1 : l1.length ≤ c1 ∧ c1 ≤ 9223372036854775807) (h2 : RB W W.heap.size A2 l2) (d2 : l2.length ≤ c2 ∧ c2 ≤ 9223372036854775807)
    (h3 : RB W W.heap.size A3 l3) (d3 : l3.length ≤ c3 ∧ c3 ≤ 9223372036854775807) (h4 : RB W W.heap.size A4 l4) (d4 : l4.length ≤ c4 ∧ c4 ≤ 9223372036854775807) :
    Calls Try.prog 8 #[.slice A1 l1.length c1, .slice A2 l2.length c2, .slice A3 l3.length c3, .slice A4 l4.length c4] W fun e W' => e = .returned (.bool true) ∧ Below W.heap.size W W' := by
  obtain ⟨k, k1, r1, k3, HC1⟩ := cut_ex 70 h1 d1 (by decide)
  obtain ⟨nc, n1, r2, n3, HC2⟩ := cut_ex 40 h2 d2 (by decide)
  obtain ⟨bd, b1, r3, b3, HC3⟩ := cut_ex 60 h3 d3 (by decide)
  obtain ⟨s, s1, r4, s3, HC4⟩ := cut_ex 200 h4 d4 (by decide)
  have L0 := Lib.hid (((((Lv.start W).add r1).add r2).add r3).add r4)
  obtain ⟨KT, hKT⟩ := rsum_ex
  have HMK := Lib.hid hKT.make
  have HNW := Lib.hid (fun w h => new_any w A1 c1 k h (by omega))
  have HOP := Lib.hid (fun w gk h1 h2 h3 h4 => open_all w gk k h1 (by omega) A2 c2 nc h2 A3 c3 bd h3 (by omega) A4 c4 s h4 (by omega) s3 d4.2)
  have HRO := Lib.hid (fun w h1 h2 h3 h4 => refopen_all KT hKT w A1 c1 k h1 (by omega) A2 c2 nc h2 A3 c3 bd h3 (by omega) A4 c4 s h4 (by omega) s3 d4.2)
  have HON := Lib.hid (fun w => open_nil w A2 nc.length c2 (.slice A3 bd.length c3) A4 s.length c4)
  obtain ⟨R, hR⟩ : ∃ r, opE k nc bd s = r := ⟨_, rfl⟩
  obtain ⟨N1, e1⟩ : ∃ n, l1.length = n := ⟨_, rfl⟩
  obtain ⟨N2, e2⟩ : ∃ n, l2.length = n := ⟨_, rfl⟩
  obtain ⟨N3, e3⟩ : ∃ n, l3.length = n := ⟨_, rfl⟩
  obtain ⟨N4, e4⟩ : ∃ n, l4.length = n := ⟨_, rfl⟩
  obtain ⟨M1, f1⟩ : ∃ n, k.length = n := ⟨_, rfl⟩
  obtain ⟨M2, f2⟩ : ∃ n, nc.length = n := ⟨_, rfl⟩
  obtain ⟨M3, f3⟩ : ∃ n, bd.length = n := ⟨_, rfl⟩
  obtain ⟨M4, f4⟩ : ∃ n, s.length = n := ⟨_, rfl⟩
  simp only [e1, e2, e3, e4, f1, f2, f3, f4, hR] at HC1 HC2 HC3 HC4 HNW HOP HRO HON ⊢
  have HC1 := Lib.hid HC1
  have HC2 := Lib.hid HC2
  have HC3 := Lib.hid HC3
  have HC4 := Lib.hid HC4
  obtain ⟨RB_, RE⟩ := R
  have hre : RE < 20 := by
    have : (opE k nc bd s).2 < 20 := by
      unfold opE
      split
      · simp
      · split
        · simp
        · split <;> simp
    rw [hR] at this
    exact this
  have hrl : RB_.length ≤ 1000 := by
    have : (opE k nc bd s).1.length ≤ 1000 := by
      unfold opE
      split
      · simp
      · split
        · simp
        · split
          · rw [opL_len]; omega
          · simp
    rw [hR] at this
    exact this
  have HSM := Lib.hid (fun w A c A' c' h1 h2 => same_any A A' c c' RB_ RB_ w h1 h2 (by unfold maxLen; omega))
  obtain ⟨RN, hRN⟩ : ∃ n, RB_.length = n := ⟨_, rfl⟩
  simp only [hRN, decide_eq_true rfl] at HSM
  have HRN := Lib.hid hRN
  clear h1 h2 h3 h4 d1 d2 d3 d4 k1 k3 n1 n3 b1 b3 s1 s3 r1 r2 r3 r4 hKT e1 e2 e3 e4 f1 f2 f3 f4 hR hRN
  go_enter Try.func8, Try.ntmps8
  go_wp2_with fail
  refine (HC1.out _).mono ?_
  rintro e w1 ⟨rfl, rfl⟩
  go_wp2_with fail
  refine (HC2.out _).mono ?_
  rintro e w1 ⟨rfl, rfl⟩
  go_wp2_with fail
  refine (HC3.out _).mono ?_
  rintro e w1 ⟨rfl, rfl⟩
  go_wp2_with fail
  refine (HC4.out _).mono ?_
  rintro e w1 ⟨rfl, rfl⟩
  clear HC1 HC2 HC3 HC4
  go_wp2_with fail
  refine (HNW.out _ (L0.out.r (by simp))).mono ?_
  rintro e w1 ⟨gk, rfl, hk, hb⟩
  have L := Lib.hid ((L0.out.keep hb).addk hk)
  clear hk hb
  go_wp2_with fail
  refine (HOP.out _ _ (L.out.k (by simp)) (L.out.r (by simp)) (L.out.r (by simp)) (L.out.r (by simp))).mono ?_
  rintro e w2 ⟨A5, c5, rfl, hb, hnb⟩
  have L := Lib.hid ((L.out.keep hb).add hnb.rb)
  clear hb hnb
  simp only [HRN.out]
  go_wp2_with fail
  refine (HMK.out _).mono ?_
  rintro e w3 ⟨rfl, hb⟩
  have L := Lib.hid (L.out.keep hb)
  clear hb
  go_wp2_with fail
  refine (HRO.out _ (L.out.r (by simp)) (L.out.r (by simp)) (L.out.r (by simp)) (L.out.r (by simp))).mono ?_
  rintro e w4 ⟨A6, c6, rfl, hb, hnb⟩
  have L := Lib.hid ((L.out.keep hb).add hnb.rb)
  clear hb hnb
  simp only [HRN.out]
  go_wp2_with fail
  refine (HON.out _).mono ?_
  rintro e w5 ⟨rfl, rfl⟩
  go_wp2_with fail
  refine (known03 _).mono ?_
  rintro e w6 ⟨rfl, hb⟩
  have L := Lib.hid (L.out.keep hb)
  clear hb
  go_wp2_with fail
  refine (HSM.out _ _ _ _ _ (L.out.r (by simp)) (L.out.r (by simp))).mono ?_
  rintro e w7 ⟨rfl, hb⟩
  have L := Lib.hid (L.out.keep hb)
  clear hb
  go_wp2_with fail
  go_ret
  exact ⟨rfl, L.out.bel⟩
theorem contract_sealOpens (W : World) (v0 v1 v2 v3 : Value) (a0 : ∃ r : Rw, v0 = r.v ∧ r.ok .u8 W) (a1 : ∃ r : Rw, v1 = r.v ∧ r.ok .u8 W) (a2 : ∃ r : Rw, v2 = r.v ∧ r.ok .u8 W) (a3 : ∃ r : Rw, v3 = r.v ∧ r.ok .u8 W) :
    Calls Try.prog 8 #[v0, v1, v2, v3] W fun e W' => e = .returned (.bool true) ∧ Below W.heap.size W W' := by
  obtain ⟨p, rfl, hp⟩ := a0
  obtain ⟨q, rfl, hq⟩ := a1
  obtain ⟨r, rfl, hr⟩ := a2
  obtain ⟨s, rfl, hs⟩ := a3
  obtain ⟨l1, e1, g1, k1⟩ := rw_pt hp
  obtain ⟨l2, e2, g2, k2⟩ := rw_pt hq
  obtain ⟨l3, e3, g3, k3⟩ := rw_pt hr
  obtain ⟨l4, e4, g4, k4⟩ := rw_pt hs
  rw [e1, e2, e3, e4]
  exact sealOpens_main W p.A q.A r.A s.A p.c q.c r.c s.c l1 l2 l3 l4 g1 k1 g2 k2 g3 k3 g4 k4
end Go.Proofs.Ytiakgohipnbdbaa
