/-
  vigillaw03.SealBytes returns true, whatever it is called with. Conditions: none but that the slices can be read.
-/
import Derived.Test.YtiakgohipnbdbaaSe7
namespace Go.Proofs.Ytiakgohipnbdbaa
set_option linter.unusedVariables false
set_option linter.unusedSimpArgs false
open Go.RowKit

set_option maxRecDepth 100000 in
set_option maxHeartbeats 3200000 in
theorem sealBytes_main (W : World) (A1 A2 A3 A4 : Option Addr) (c1 c2 c3 c4 : Nat) (l1 l2 l3 l4 : List UInt8) (h1 : RB W W.heap.size A1 l1) (d1 : l1.length ≤ c1 ∧ c1 ≤ 9223372036854775807) (h2 : RB W W.heap.size A2 l2) (d2 : l2.length ≤ c2 ∧ c2 ≤ 9223372036854775807)
    (h3 : RB W W.heap.size A3 l3) (d3 : l3.length ≤ c3 ∧ c3 ≤ 9223372036854775807) (h4 : RB W W.heap.size A4 l4) (d4 : l4.length ≤ c4 ∧ c4 ≤ 9223372036854775807) :
    Calls Try.prog 10 #[.slice A1 l1.length c1, .slice A2 l2.length c2, .slice A3 l3.length c3, .slice A4 l4.length c4] W fun e W' => e = .returned (.bool true) ∧ Below W.heap.size W W' := by
  obtain ⟨k, k1, r1, k3, HC1⟩ := cut_ex 70 h1 d1 (by decide)
  obtain ⟨nc, n1, r2, n3, HC2⟩ := cut_ex 40 h2 d2 (by decide)
  obtain ⟨bd, b1, r3, b3, HC3⟩ := cut_ex 60 h3 d3 (by decide)
  obtain ⟨b, s1, r4, s3, HC4⟩ := cut_ex 200 h4 d4 (by decide)
  have L0 := Lib.hid (((((Lv.start W).add r1).add r2).add r3).add r4)
  obtain ⟨KT, hKT⟩ := rsum_ex
  have HMK := Lib.hid hKT.make
  have HNW := Lib.hid (fun w h => new_any w A1 c1 k h (by omega))
  have HSL0 := Lib.hid (fun (hn : 32 < nc.length) w gk => seal_no w (.pointer (some ⟨gk, 0, none⟩)) A2 nc.length c2 (.slice A3 bd.length c3) A4 b.length c4 1 (fun w => stream_arg w gk A2 nc.length c2 _ hn) (by decide))
  have HST0 := Lib.hid (fun (hn : 32 < nc.length) w gk => stream_arg w gk A2 nc.length c2 (b.length : Int) hn)
  have HSL := Lib.hid (fun (hn : nc.length ≤ 32) w gk h1 h2 h3 h4 => seal_any w gk k h1 (by omega) A2 c2 nc h2 hn A3 c3 bd h3 (by omega) A4 c4 b h4 (by omega))
  have HST := Lib.hid (fun (hn : nc.length ≤ 32) w gk h1 h2 => stream_any w gk k h1 (by omega) A2 c2 nc h2 hn b.length (by omega))
  have HRS := Lib.hid (fun (hn : nc.length ≤ 32) w h1 h2 h3 h4 => refseal_any KT hKT w A1 c1 k h1 (by omega) A2 c2 nc h2 hn A3 c3 bd h3 (by omega) A4 c4 b h4 (by omega))
  have HRT := Lib.hid (fun (hn : nc.length ≤ 32) w h1 h2 => refstream_any KT hKT w A1 c1 k h1 (by omega) A2 c2 nc h2 hn b.length (by omega))
  have hsel := sealB_len k nc bd b
  have hstl := strB_len (hideK k) nc b.length
  have hop := fun hn => opE_seal k nc bd b hn
  obtain ⟨SE, hSE⟩ : ∃ l, sealB k nc bd b = l := ⟨_, rfl⟩
  obtain ⟨ST, hST⟩ : ∃ l, strB (hideK k) nc b.length = l := ⟨_, rfl⟩
  simp only [hSE, hST] at HSL HST HRS HRT hsel hstl hop
  have HOP := Lib.hid (fun (hn : nc.length ≤ 32) w gk A c h1 h2 h3 h4 (hc1 : b.length + 32 ≤ c) hc2 => by
    have := open_all w gk k h1 (by omega) A2 c2 nc h2 A3 c3 bd h3 (by omega) A c SE h4 (by omega) (by omega) hc2
    rw [hop hn, hsel] at this
    exact this)
  have HS1 := Lib.hid (fun w A A' c c' h1 h2 => same_any A A' c c' SE SE w h1 h2 (by unfold maxLen; omega))
  have HS2 := Lib.hid (fun w A A' c c' h1 h2 => same_any A A' c c' ST ST w h1 h2 (by unfold maxLen; omega))
  have HS3 := Lib.hid (fun w A A' c c' h1 h2 => same_any A A' c c' b b w h1 h2 (by unfold maxLen; omega))
  simp only [hsel, hstl, decide_eq_true rfl] at HS1 HS2 HS3
  have HSZ := Lib.hid (fun w => size03 b.length (by omega) w)
  have HMS := Lib.hid (fun w A c => masked03 A b.length c (by omega) w)
  obtain ⟨N1, e1⟩ : ∃ n, l1.length = n := ⟨_, rfl⟩
  obtain ⟨N2, e2⟩ : ∃ n, l2.length = n := ⟨_, rfl⟩
  obtain ⟨N3, e3⟩ : ∃ n, l3.length = n := ⟨_, rfl⟩
  obtain ⟨N4, e4⟩ : ∃ n, l4.length = n := ⟨_, rfl⟩
  obtain ⟨M1, f1⟩ : ∃ n, k.length = n := ⟨_, rfl⟩
  obtain ⟨M2, f2⟩ : ∃ n, nc.length = n := ⟨_, rfl⟩
  obtain ⟨M3, f3⟩ : ∃ n, bd.length = n := ⟨_, rfl⟩
  obtain ⟨n, f4⟩ : ∃ n, b.length = n := ⟨_, rfl⟩
  simp only [e1, e2, e3, e4, f1, f2, f3, f4] at HC1 HC2 HC3 HC4 HNW HSL0 HST0 HSL HST HRS HRT HOP HS1 HS2 HS3 HSZ HMS n1 s1 ⊢
  have HC1 := Lib.hid HC1
  have HC2 := Lib.hid HC2
  have HC3 := Lib.hid HC3
  have HC4 := Lib.hid HC4
  have hu : ∃ d, Try.prog.underlying 61 = some d ∧ d.isRow = true := ⟨_, Try.underlying61, rfl⟩
  obtain ⟨d, hu, hd⟩ := hu
  have hki2 := hKT.inf
  have hz := Lib.hid hKT.z72
  have ho := Lib.hid hKT.one
  have HN4 := Lib.hid f4
  clear h1 h2 h3 h4 d1 d2 d3 d4 k1 k3 n3 b1 b3 s3 r1 r2 r3 r4 hKT e1 e2 e3 e4 f1 f2 f3 f4 hsel hstl hop hSE hST
  go_enter Try.func10, Try.ntmps10
  go_wp2_with fail
  refine (HC1.out _).mono ?_
  rintro e w1 ⟨rfl, rfl⟩
  go_wp2_with fail
  refine (HC2.out _).mono ?_
  rintro e w1 ⟨rfl, rfl⟩
  go_wp2_with fail
  refine (HC3.out _).mono ?_
  rintro e w1 ⟨rfl, rfl⟩
  go_wp2_with fail
  refine (HC4.out _).mono ?_
  rintro e w1 ⟨rfl, rfl⟩
  clear HC1 HC2 HC3 HC4
  go_wp2_with fail
  refine (HMK.out _).mono ?_
  rintro e w2 ⟨rfl, hb⟩
  have L := Lib.hid (L0.out.keep hb)
  have M2_ := Lib.hid (Mst.setRow (bl := []) [] ((Mst.start w2).new 61 Z72) KT)
  clear hb L0
  go_wp2_with (first | refine wpList_store_row rfl _ _ _ rfl w2.heap.size KT rfl rfl 61 _ (Bk.mk_ _ _ _) hki2 hz.out ho.out ?_)
  obtain ⟨g, hg⟩ : ∃ g, w2.heap.size = g := ⟨_, rfl⟩
  rw [hg] at M2_ ⊢
  generalize hw3 : World.setRow _ _ _ = w3
  have M2_ := Lib.hid (M2_.out.toV hw3 rfl)
  clear hg hw3
  have L := Lib.hid (L.out.keep M2_.out.bel)
  have HB3 := Lib.hid L.out.bel
  have HBK := Lib.hid (M2_.out.blk [])
  have L := Lib.hid L.out.again
  have HTR := Lib.hid (show ∀ w', Below w3.heap.size w3 w' → w'.rangeAt g 0 KT.toList from fun w' hb => (HBK.out.below hb HBK.out.lt).rangeL)
  clear M2_ HBK
  refine (HNW.out _ (L.out.r (by simp))).mono ?_
  rintro e w4 ⟨gk, rfl, hk, hb⟩
  have L := Lib.hid ((L.out.keep hb).addk hk)
  clear hk hb
  by_cases hn : 32 < M2
  · have HSL1 := Lib.hid (HSL0.out hn)
    have HST1 := Lib.hid (HST0.out hn)
    have i1 : (32 : Int) < M2 := by omega
    clear HSL0 HST0 HSL HST HRS HRT HOP hn
    go_wp2_with fail
    refine (HSL1.out _ _).mono ?_
    rintro e w5 ⟨rfl, rfl⟩
    go_wp2_with fail
    refine (HST1.out _ _).mono ?_
    rintro e w5 ⟨rfl, rfl⟩
    go_wp2_with fail
    refine (known03 _).mono ?_
    rintro e w6 ⟨rfl, hb⟩
    have L := Lib.hid (L.out.keep hb)
    clear hb
    go_wp2_with fail
    go_ret
    exact ⟨rfl, Bsz HB3.out L.out.bel⟩
  have hn : M2 ≤ 32 := by omega
  have i1 : ¬ (32 : Int) < M2 := by omega
  have i2 : decide (32 < M2) = false := by simp; omega
  have HSL1 := Lib.hid (HSL.out hn)
  have HST1 := Lib.hid (HST.out hn)
  have HRS1 := Lib.hid (HRS.out hn)
  have HRT1 := Lib.hid (HRT.out hn)
  have HOP1 := Lib.hid (HOP.out hn)
  clear HSL0 HST0 HSL HST HRS HRT HOP
  go_wp2_with fail
  refine (HSL1.out _ _ (L.out.k (by simp)) (L.out.r (by simp)) (L.out.r (by simp)) (L.out.r (by simp))).mono ?_
  rintro e w5 ⟨A5, c5, rfl, hc5, hc6, hb, hnb⟩
  have L := Lib.hid ((L.out.keep hb).add hnb.rb)
  clear hb hnb
  go_wp2_with fail
  refine (HST1.out _ _ (L.out.k (by simp)) (L.out.r (by simp))).mono ?_
  rintro e w6 ⟨A6, rfl, hb, hnb⟩
  have L := Lib.hid ((L.out.keep hb).add hnb.rb)
  clear hb hnb
  go_wp2_with fail
  refine (HOP1.out _ _ _ _ (L.out.k (by simp)) (L.out.r (by simp)) (L.out.r (by simp)) (L.out.r (by simp)) hc5 hc6).mono ?_
  rintro e w7 ⟨A7, c7, rfl, hb, hnb⟩
  have L := Lib.hid ((L.out.keep hb).add hnb.rb)
  clear hb hnb
  simp only [HN4.out]
  go_wp2_with fail
  refine (known03 _).mono ?_
  rintro e w8 ⟨rfl, hb⟩
  have L := Lib.hid (L.out.keep hb)
  have HR8 := Lib.hid (HTR.out _ L.out.bel)
  clear hb
  go_wp2_with (first | refine wpList_loadG rfl _ _ rfl g 0 rfl KT _ HR8.out hu hd hki2 ?_)
  refine (HRS1.out _ (L.out.r (by simp)) (L.out.r (by simp)) (L.out.r (by simp)) (L.out.r (by simp))).mono ?_
  rintro e w9 ⟨A9, c9, rfl, hc9, hc9', hb, hnb⟩
  have L := Lib.hid ((L.out.keep hb).add hnb.rb)
  clear hb hnb HR8
  go_wp2_with fail
  refine (HS1.out _ _ _ _ _ (L.out.r (by simp)) (L.out.r (by simp))).mono ?_
  rintro e w10 ⟨rfl, hb⟩
  have L := Lib.hid (L.out.keep hb)
  have HR8 := Lib.hid (HTR.out _ L.out.bel)
  clear hb
  go_wp2_with (first | refine wpList_loadG rfl _ _ rfl g 0 rfl KT _ HR8.out hu hd hki2 ?_)
  refine (HRT1.out _ (L.out.r (by simp)) (L.out.r (by simp))).mono ?_
  rintro e w11 ⟨A11, c11, rfl, hc11, hc11', hb, hnb⟩
  have L := Lib.hid ((L.out.keep hb).add hnb.rb)
  clear hb hnb HR8
  go_wp2_with fail
  refine (HS2.out _ _ _ _ _ (L.out.r (by simp)) (L.out.r (by simp))).mono ?_
  rintro e w12 ⟨rfl, hb⟩
  have L := Lib.hid (L.out.keep hb)
  clear hb
  go_wp2_with fail
  refine (HS3.out _ _ _ _ _ (L.out.r (by simp)) (L.out.r (by simp))).mono ?_
  rintro e w13 ⟨rfl, hb⟩
  have L := Lib.hid (L.out.keep hb)
  clear hb
  go_wp2_with fail
  refine (HSZ.out _).mono ?_
  rintro e w14 ⟨rfl, rfl⟩
  go_wp2_with fail
  refine (HMS.out _ _ _).mono ?_
  rintro e w14 ⟨rfl, rfl⟩
  go_wp2_with fail
  go_ret
  exact ⟨rfl, Bsz HB3.out L.out.bel⟩
theorem contract_sealBytes (W : World) (v0 v1 v2 v3 : Value) (a0 : ∃ r : Rw, v0 = r.v ∧ r.ok .u8 W) (a1 : ∃ r : Rw, v1 = r.v ∧ r.ok .u8 W) (a2 : ∃ r : Rw, v2 = r.v ∧ r.ok .u8 W) (a3 : ∃ r : Rw, v3 = r.v ∧ r.ok .u8 W) :
    Calls Try.prog 10 #[v0, v1, v2, v3] W fun e W' => e = .returned (.bool true) ∧ Below W.heap.size W W' := by
  obtain ⟨p, rfl, hp⟩ := a0
  obtain ⟨q, rfl, hq⟩ := a1
  obtain ⟨r, rfl, hr⟩ := a2
  obtain ⟨s, rfl, hs⟩ := a3
  obtain ⟨l1, e1, g1, k1⟩ := rw_pt hp
  obtain ⟨l2, e2, g2, k2⟩ := rw_pt hq
  obtain ⟨l3, e3, g3, k3⟩ := rw_pt hr
  obtain ⟨l4, e4, g4, k4⟩ := rw_pt hs
  rw [e1, e2, e3, e4]
  exact sealBytes_main W p.A q.A r.A s.A p.c q.c r.c s.c l1 l2 l3 l4 g1 k1 g2 k2 g3 k3 g4 k4
end Go.Proofs.Ytiakgohipnbdbaa
