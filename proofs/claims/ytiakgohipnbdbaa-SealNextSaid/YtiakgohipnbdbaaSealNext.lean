/-
  vigillaw03.SealNext returns true, whatever it is called with. Conditions: none but that the slices can be read.
-/
import Derived.Test.YtiakgohipnbdbaaSe8
namespace Go.Proofs.Ytiakgohipnbdbaa
set_option linter.unusedVariables false
set_option linter.unusedSimpArgs false
open Go.RowKit

structure SnR (W wr : World) (gS gk k : Nat) : Prop where
  m : Mst W wr [(gS, 136, skc (.pointer (some ⟨gk, 0, none⟩)) k)] []
theorem nonce_row (k : Nat) (h : k < 6) : #[Value.int .u8 0, .int .u8 0, .int .u8 0, .int .u8 0, .int .u8 0, .int .u8 0, .int .u8 0, .int .u8 (k : Int)] = b8a (nonceL k) := by
  have : k = 0 ∨ k = 1 ∨ k = 2 ∨ k = 3 ∨ k = 4 ∨ k = 5 := by omega
  rcases this with rfl | rfl | rfl | rfl | rfl | rfl <;> rfl

set_option maxRecDepth 100000 in
set_option maxHeartbeats 3200000 in
theorem sealNext_main (W : World) (A1 A3 C : Option Addr) (c1 c3 f : Nat) (l1 l3 : List UInt8) (ps : List Pt) (h1 : RB W W.heap.size A1 l1) (d1 : l1.length ≤ c1 ∧ c1 ≤ 9223372036854775807) (h3 : RB W W.heap.size A3 l3) (d3 : l3.length ≤ c3 ∧ c3 ≤ 9223372036854775807)
    (hp : Rd W W.heap.size 1 C ps.length (ps.map Pt.v)) (hpc : ∀ p ∈ ps, RB W W.heap.size p.A p.l ∧ p.l.length ≤ p.c ∧ p.c ≤ 9223372036854775807) (hpn : ps.length ≤ f ∧ f ≤ 9223372036854775807) :
    Calls Try.prog 12 #[.slice A1 l1.length c1, .slice C ps.length f, .slice A3 l3.length c3] W fun e W' => e = .returned (.bool true) ∧ Below W.heap.size W W' := by
  obtain ⟨kb, k1, r1, k3, HC1⟩ := cut_ex 60 h1 d1 (by decide)
  obtain ⟨bd, b1, r3, b3, HC3⟩ := cut_ex 60 h3 d3 (by decide)
  have L0 := Lib.hid (((Lv.start W).add r1).add r3)
  have HNW := Lib.hid (fun w h => new_any w A1 c1 kb h (by omega))
  obtain ⟨N1, e1⟩ : ∃ n, l1.length = n := ⟨_, rfl⟩
  obtain ⟨N3, e3⟩ : ∃ n, l3.length = n := ⟨_, rfl⟩
  obtain ⟨M1, f1⟩ : ∃ n, kb.length = n := ⟨_, rfl⟩
  obtain ⟨M3, f3⟩ : ∃ n, bd.length = n := ⟨_, rfl⟩
  simp only [e1, e3, f1, f3] at HC1 HC3 HNW k1 b1 ⊢
  have F1 := Lib.hid f1
  have F3 := Lib.hid f3
  have HC1 := Lib.hid HC1
  have HC3 := Lib.hid HC3
  obtain ⟨n, hn⟩ : ∃ n, ps.length = n := ⟨_, rfl⟩
  have HP := Lib.hid hp
  have HPC := Lib.hid hpc
  have HN := Lib.hid hn
  rw [hn] at hpn ⊢
  obtain ⟨m, hm, m2, m1⟩ := cut_n n 6
  have hm0 := Lib.hid (show m = n ∨ m = 6 from by omega)
  clear h1 h3 d1 d3 k3 b3 r1 r3 e1 e3 f1 f3 hp hpc hn hm
  go_enter Try.func12, Try.ntmps12
  go_wp2_with fail
  refine (HC1.out _).mono ?_
  rintro e w1 ⟨rfl, rfl⟩
  go_wp2_with fail
  refine (HC3.out _).mono ?_
  rintro e w1 ⟨rfl, rfl⟩
  clear HC1 HC3
  go_wp2_with fail
  refine (HNW.out _ (L0.out.r (by simp))).mono ?_
  rintro e w1 ⟨gq, rfl, hk, hb⟩
  have L := Lib.hid ((L0.out.keep hb).addk hk)
  clear hk hb
  go_wp2_with fail
  refine (snew_any _ _).mono ?_
  rintro e w2 ⟨rfl, rfl⟩
  have M2 := Lib.hid (show SnR w1 _ w1.heap.size gq 0 from ⟨(Mst.start w1).new 136 (skc (.pointer (some ⟨gq, 0, none⟩)) 0)⟩)
  have HK1 := Lib.hid (L.out.k (g := gq) (l := kb) (by simp))
  have HB1 := Lib.hid (L.out.r (A := A3) (l := bd) (by simp))
  obtain ⟨gS, hgS⟩ : ∃ g, w1.heap.size = g := ⟨_, rfl⟩
  rw [hgS] at M2 ⊢
  generalize World.alloc _ _ = w2 at M2 ⊢
  have HL1 := Lib.hid L.out.bel
  clear hgS L0
  go_wp2_with fail
  go_loopg [9] m (fun gg s9 wr => ∃ k : Nat, k + gg = m ∧ s9 = .int .i64 k ∧ SnR w1 wr gS gq k)
  case atStart => exact ⟨0, by omega, rfl, M2.out⟩
  case round =>
    obtain ⟨k, hk, rfl, hR⟩ := hrel
    by_cases hlt : k < m
    · have M0 := Lib.hid hR.m
      obtain ⟨p, hpk⟩ : ∃ p, ps[k]? = some p := ⟨_, List.getElem?_eq_getElem (by have := HN.out; omega)⟩
      obtain ⟨b, o, hC, hbw, hcell⟩ := HP.out.2 (by have := HN.out; omega)
      subst hC
      have hpm := List.mem_of_getElem? hpk
      obtain ⟨q1, q2, q3⟩ := HPC.out p hpm
      have c0 : wr.cell? ⟨b, o + k, none⟩ = some p.v := (hR.m.bel.cell (p := ⟨b, o + k, none⟩) (Nat.lt_of_lt_of_le hbw HL1.out.size)).trans ((HL1.out.cell (p := ⟨b, o + k, none⟩) hbw).trans (hcell k p.v (by simp [hpk])))
      obtain ⟨pA, pc, pl⟩ := p
      simp only [Pt.v] at c0 q1 q2 q3
      obtain ⟨x, x1, x2, x3, HCX⟩ := cut_ex 100 q1 ⟨q2, q3⟩ (by decide)
      have HBX := Lib.hid (show RB w1 w1.heap.size pA x from x2.keep HL1.out)
      have HSM := Lib.hid (sealer_M w1 wr gS gq k hR.m (by omega) kb HK1.out (by rw [F1.out]; omega) A3 c3 bd HB1.out (by rw [F3.out]; omega) pA pc x HBX.out (by omega))
      have hsel := sealB_len kb (nonceL k) bd x
      have HOP := Lib.hid (fun w' An cn A' c' h1 h2 h3 h4 (h5 : x.length + 32 ≤ c') h6 => open_all w' gq kb h1 (by rw [F1.out]; omega) An cn (nonceL k) h2 A3 c3 bd h3 (by rw [F3.out]; omega) A' c' (sealB kb (nonceL k) bd x) h4 (by omega) (by omega) h6)
      simp only [opE_seal kb (nonceL k) bd x (by rw [nonceL_len]; decide), hsel, nonceL_len] at HOP
      have HS1 := Lib.hid (fun w A A' c c' h1 h2 => same_any A A' c c' x x w h1 h2 (by unfold maxLen; omega))
      have HS2 := Lib.hid (fun w A A' c c' h1 h2 => same_any A A' c c' (nonceL k) (nonceL k) w h1 h2 (by rw [nonceL_len]; decide))
      simp only [decide_eq_true rfl, nonceL_len] at HS1 HS2
      have HNR := Lib.hid (nonce_row k (by omega))
      obtain ⟨N, hN⟩ : ∃ n, pl.length = n := ⟨_, rfl⟩
      obtain ⟨X, hX⟩ : ∃ n, x.length = n := ⟨_, rfl⟩
      simp only [hN, hX, F3.out] at HCX HSM HOP HS1 c0
      have HCX := Lib.hid HCX
      have HX := Lib.hid hX
      have i1 : (k : Int) < 6 := by omega
      have i2 : (0 : Int) ≤ k := by omega
      have i3 : k < n := by omega
      clear hcell hpm hpk q1 q2 q3 x1 x2 x3 hsel hN hX hR
      go_wp2_with fail
      refine (HCX.out _).mono ?_
      rintro e w3 ⟨rfl, rfl⟩
      clear c0
      go_wp2_with fail
      refine HSM.out.mono ?_
      rintro e w4 ⟨An, cn, A', c', rfl, hc1, hc2, m4, rn, rx⟩
      have M4 := Lib.hid m4
      have Lq := Lib.hid (((((Lv.start w4).add rn).add rx).add (HB1.out.keep m4.bel)).add (HBX.out.keep m4.bel) |>.addk (HK1.out.keep m4.bel))
      clear m4 rn rx HSM
      go_wp2_with fail
      refine (HOP.out _ _ _ _ _ (Lq.out.k (by simp)) (Lq.out.r (by simp)) (Lq.out.r (by simp)) (Lq.out.r (by simp)) hc1 hc2).mono ?_
      rintro e w5 ⟨A5, c5, rfl, hb, hnb⟩
      have Lq := Lib.hid ((Lq.out.keep hb).add hnb.rb)
      clear hb hnb
      simp only [HX.out]
      go_wp2_with fail
      refine (HS1.out _ _ _ _ _ (Lq.out.r (by simp)) (Lq.out.r (by simp))).mono ?_
      rintro e w6 ⟨rfl, hb⟩
      have Lq := Lib.hid (Lq.out.keep hb)
      clear hb
      go_wp2_with fail
      rw [HNR.out]
      have hb6 : Below w6.heap.size w6 (w6.alloc (.cells (b8a (nonceL k)) 5)) := (Below.refl _ _).alloc (Nat.le_refl _) _
      have Lq := Lib.hid ((Lq.out.keep hb6).add (RB.of_cells (heap_alloc_new w6 _)))
      clear hb6
      refine (HS2.out _ _ _ _ _ (Lq.out.r (by simp)) (Lq.out.r (by simp))).mono ?_
      rintro e w7 ⟨rfl, hb⟩
      have Lq := Lib.hid (Lq.out.keep hb)
      clear hb
      have M7 := Lib.hid (M4.out.below Lq.out.bel)
      have HCT := scount_any w7 gS (.pointer (some ⟨gq, 0, none⟩)) (k + 1) (by omega) (M7.out.blk [])
      rw [show ((k + 1 : Nat) : Int) = (k : Int) + 1 by omega] at HCT
      have HCT := Lib.hid HCT
      go_wp2_with fail
      refine HCT.out.mono ?_
      rintro e w8 ⟨rfl, rfl⟩
      go_wp2_with fail
      go_roundg (m - (k + 1))
      case measure => exact meas hk hlt
      case rel => exact ⟨k + 1, meas2 hlt, by go_num, ⟨M7.out⟩⟩
    · have hend : ¬ (k < n ∧ k < 6) := by
        have := hm0.out
        omega
      have HBW := Lib.hid (Bsz HL1.out hR.m.bel)
      clear hR
      by_cases hkn : k < n
      all_goals
        have hk12 : k < n → ¬ k < 6 := fun h => by omega
        first | (have hk12 := hk12 hkn) | clear hk12
        clear hend
        go_wp2_with fail
        refine (sealer_nil _ _ _).mono ?_
        rintro e w3 ⟨rfl, rfl⟩
        go_wp2_with fail
        refine (snew_any _ _).mono ?_
        rintro e w4 ⟨rfl, rfl⟩
        have HSN := Lib.hid (sealer_nilkey wr _ wr.heap.size 0 ((Mst.start wr).new 136 (skc (.pointer none) 0)) (by decide) (.slice A3 M3 c3) none 0 0)
        go_wp2_with fail
        refine HSN.out.mono ?_
        rintro e w5 ⟨rfl, hb⟩
        have HB5 := Lib.hid (Bsz HBW.out hb)
        clear hb
        go_wp2_with fail
        refine (known03 _).mono ?_
        rintro e w6 ⟨rfl, hb⟩
        have HB6 := Lib.hid (Bsz HB5.out hb)
        clear hb
        go_wp2_with fail
        refine (scount_nil _).mono ?_
        rintro e w7 ⟨rfl, rfl⟩
        go_wp2_with fail
        go_ret
        exact ⟨rfl, HB6.out⟩
theorem contract_sealNext (W : World) (v0 v1 v2 : Value) (a0 : ∃ r : Rw, v0 = r.v ∧ r.ok .u8 W) (a1 : ∃ A c, ∃ rows : List Rw, v1 = .slice A rows.length c ∧ rows.length ≤ c ∧ c ≤ maxLen ∧ Rd W W.heap.size 1 A rows.length (rows.map Rw.v) ∧ ∀ x ∈ rows, x.ok .u8 W) (a2 : ∃ r : Rw, v2 = r.v ∧ r.ok .u8 W) :
    Calls Try.prog 12 #[v0, v1, v2] W fun e W' => e = .returned (.bool true) ∧ Below W.heap.size W W' := by
  obtain ⟨p, rfl, hp⟩ := a0
  obtain ⟨A, c, rows, rfl, h1, h2, h3, h4⟩ := a1
  obtain ⟨r, rfl, hr⟩ := a2
  obtain ⟨ps, e1, e2, e3⟩ := rows_pt rows h4
  rw [← e1, ← e2] at h3
  rw [← e2] at h1 ⊢
  obtain ⟨l1, e1, g1, k1⟩ := rw_pt hp
  obtain ⟨l3, e3', g3, k3⟩ := rw_pt hr
  rw [e1, e3']
  exact sealNext_main W p.A r.A A p.c r.c c l1 l3 ps g1 k1 g3 k3 h3 e3 ⟨h1, by unfold maxLen at h2; omega⟩
end Go.Proofs.Ytiakgohipnbdbaa
