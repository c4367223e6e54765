/- Contracts of the document's digest: root, Make. -/
import Derived.Test.YthnaobolmgcclaaRefC
import Derived.Test.YthnaobolmgcclaaRefT
namespace Go.Proofs.Ythnaobolmgcclaa
set_option linter.unusedVariables false
open Go.RowKit

theorem rootK_lt (p n k : Nat) (h : k ≤ 36) : rootK p n k < 2 ^ 36 := by
  have h1 := rootK_le p n k h
  have h2 : 0 < 2 ^ (36 - k) := Nat.pow_pos (by decide)
  omega
theorem root_step (p n k : Nat) (h : k < 36) : rootK p n k + 2 ^ (35 - k) < 2 ^ 36 := by
  have h1 := rootK_le p n k (by omega)
  have e : 2 ^ (36 - k) = 2 ^ (35 - k) + 2 ^ (35 - k) := by rw [show 36 - k = (35 - k) + 1 by omega, Nat.pow_succ]; omega
  have h2 : 0 < 2 ^ (35 - k) := Nat.pow_pos (by decide)
  omega
set_option maxRecDepth 100000 in
set_option maxHeartbeats 200000 in
theorem root_any (p n : Nat) (hn : n = 2 ∨ n = 3) (hp : p < 65536) (w : World) :
    Calls Try.prog 81 #[.int .u64 (p : Int), .int .u64 (n : Int)] w fun e w' => e = .returned (W (rootW p n)) ∧ Below w.heap.size w w' := by
  have HN := Lib.hid hn
  have HP := Lib.hid hp
  clear hn hp
  go_enter Try.func81, Try.ntmps81
  go_wp2
  go_loopg [6, 5] 36 (fun gk s6 s5 wr => ∃ k : Nat, k + gk = 36 ∧ s6 = .int .i64 (35 - (k : Int)) ∧ s5 = .int .u64 (rootK p n k : Nat) ∧ Below w.heap.size w wr)
  case atStart => exact ⟨0, by omega, rfl, rfl, Below.refl _ _⟩
  case round =>
    obtain ⟨k, hk, rfl, rfl, hb⟩ := hrel
    by_cases hlt : k < 36
    · have hst := root_step p n k hlt
      have hS : IntKind.u64.wrap (2 ^ (35 - k)) = ((2 ^ (35 - k) : Nat) : Int) := by
        have h3 : 2 ^ (35 - k) ≤ 2 ^ 35 := Nat.pow_le_pow_right (by decide) (by omega)
        have this : ((2 : Int) ^ (35 - k)) = ((2 ^ (35 - k) : Nat) : Int) := by simp
        rw [this]
        generalize 2 ^ (35 - k) = D at h3 ⊢
        have h4 : D ≤ 34359738368 := h3
        exact IntWalk.u64_in _ (by omega)
      have hE := Lib.hid (show rootK p n (k + 1) = if smallB (rootK p n k + 2 ^ (35 - k)) n p then rootK p n k + 2 ^ (35 - k) else rootK p n k from rfl)
      obtain ⟨X, hX⟩ : ∃ X, rootK p n k = X := ⟨_, rfl⟩
      obtain ⟨D, hD⟩ : ∃ D, 2 ^ (35 - k) = D := ⟨_, rfl⟩
      rw [hX, hD] at hst hE
      rw [hD] at hS
      rw [hX]
      have hs : ∀ w, Calls Try.prog 95 #[.int .u64 ((X : Int) + (D : Int)), .int .u64 (n : Int), .int .u64 (p : Int)] w fun e w' => e = .returned (.bool (smallB (X + D) n p)) ∧ Below w.heap.size w w' := by
        intro w
        have := small_any (X + D) n p hst HN.out HP.out w
        rw [Int.natCast_add] at this
        exact this
      have HS := Lib.hid hs
      clear hs
      have h0 : (0 : Int) ≤ X := by omega
      have h1 : (0 : Int) ≤ D := by omega
      have h2 : (X : Int) + D ≤ 68719476735 := by omega
      have HB := Lib.hid hb
      cases hB : smallB (X + D) n p with
      | true =>
        rw [hB] at HS hE
        clear hb hX hD hst hB
        go_wp2_with fail
        refine (HS.out _).mono ?_
        rintro e w1 ⟨rfl, hb1⟩
        have HB1 := Lib.hid (Bsz HB.out hb1)
        clear hb1
        go_wp2
        go_roundg (36 - (k + 1))
        case measure => exact meas hk hlt
        case rel => exact ⟨k + 1, meas2 hlt, by go_num, by rw [hE.out]; go_num, HB1.out⟩
      | false =>
        rw [hB] at HS hE
        clear hb hX hD hst hB
        go_wp2_with fail
        refine (HS.out _).mono ?_
        rintro e w1 ⟨rfl, hb1⟩
        have HB1 := Lib.hid (Bsz HB.out hb1)
        clear hb1
        go_wp2
        go_roundg (36 - (k + 1))
        case measure => exact meas hk hlt
        case rel => exact ⟨k + 1, meas2 hlt, by go_num, by rw [hE.out]; rfl, HB1.out⟩
    · obtain rfl : k = 36 := by omega
      have HB := Lib.hid hb
      have HR := Lib.hid (show rootW p n = BitVec.ofNat 32 (rootK p n 36) from rfl)
      have hlt2 := rootK_lt p n 36 (Nat.le_refl _)
      obtain ⟨X, hX⟩ : ∃ X, rootK p n 36 = X := ⟨_, rfl⟩
      rw [hX] at HR hlt2 ⊢
      have h0 : (0 : Int) ≤ X := by omega
      have h1 : (X : Int) ≤ 68719476735 := by omega
      clear hb hX hlt2 hlt hk
      go_wp2
      go_ret
      refine ⟨?_, HB.out⟩
      rw [HR.out]
      have e : (X : Int) % 4294967296 = ((BitVec.ofNat 32 X).toNat : Int) := by
        rw [BitVec.toNat_ofNat]
        omega
      show Ending.returned (.int .u32 ((X : Int) % 4294967296)) = _
      rw [e]
      rfl

abbrev Z72 : Array Value := #[.int .u32 0, .int .u32 0, .int .u32 0, .int .u32 0, .int .u32 0, .int .u32 0, .int .u32 0, .int .u32 0, .int .u32 0, .int .u32 0, .int .u32 0, .int .u32 0, .int .u32 0, .int .u32 0, .int .u32 0, .int .u32 0, .int .u32 0, .int .u32 0, .int .u32 0, .int .u32 0, .int .u32 0, .int .u32 0, .int .u32 0, .int .u32 0, .int .u32 0, .int .u32 0, .int .u32 0, .int .u32 0, .int .u32 0, .int .u32 0, .int .u32 0, .int .u32 0, .int .u32 0, .int .u32 0, .int .u32 0, .int .u32 0, .int .u32 0, .int .u32 0, .int .u32 0, .int .u32 0, .int .u32 0, .int .u32 0, .int .u32 0, .int .u32 0, .int .u32 0, .int .u32 0, .int .u32 0, .int .u32 0, .int .u32 0, .int .u32 0, .int .u32 0, .int .u32 0, .int .u32 0, .int .u32 0, .int .u32 0, .int .u32 0, .int .u32 0, .int .u32 0, .int .u32 0, .int .u32 0, .int .u32 0, .int .u32 0, .int .u32 0, .int .u32 0, .int .u32 0, .int .u32 0, .int .u32 0, .int .u32 0, .int .u32 0, .int .u32 0, .int .u32 0, .int .u32 0]
theorem tab_0 : Ws (ktL 0 ++ htL 0) = Z72 := rfl
theorem info_tab : (Try.prog.info? 60).map (·.size) = some Z72.size := by kernel_rfl
theorem Z72_one : Z72.all (·.oneCell') = true := by kernel_rfl
structure MkR (w wr : World) (n : Nat) : Prop where
  m : Mst w wr [(w.heap.size + 1, 60, Ws (ktL n ++ htL n)), (w.heap.size, 60, Z72)] []
set_option maxRecDepth 100000 in
set_option maxHeartbeats 1000000 in
theorem make_any (w : World) : Calls Try.prog 33 #[] w fun e w' => e = .returned (.agg (Ws (kTab ++ h0.l))) ∧ Below w.heap.size w w' := by
  have m0 := ((Mst.start w).new 60 Z72).new 60 Z72
  rw [show (w.alloc (.cells Z72 60)).heap.size = w.heap.size + 1 by simp] at m0
  have B0 := Lib.hid (m0.blk [])
  have m1 := Mst.setRow (bl := []) [] m0 Z72
  have T0 := Lib.hid (show MkR w (((w.alloc (.cells Z72 60)).alloc (.cells Z72 60)).setRow (w.heap.size + 1) Z72) 0 from ⟨by rw [tab_0]; exact m1⟩)
  have I0 := Lib.hid info_tab
  have O0 := Lib.hid Z72_one
  clear m0 m1
  go_enter Try.func33, Try.ntmps33
  go_wp2_with (first | refine wpList_store_row rfl _ _ _ rfl (w.heap.size + 1) Z72 rfl rfl 60 _ B0.out I0.out rfl O0.out ?_)
  go_loopg [2, 3] 310 (fun gk s2 s3 wr => ∃ p : Nat, p + gk = 312 ∧ 2 ≤ p ∧ s2 = .int .i64 (cntP p : Nat) ∧ s3 = .int .u64 p ∧ MkR w wr (cntP p))
  case atStart => exact ⟨2, by omega, by omega, rfl, rfl, T0.out⟩
  case round =>
    obtain ⟨p, hp, hp2, rfl, rfl, hm⟩ := hrel
    by_cases hlt : p < 312
    · have hc := cnt_lt hlt
      obtain ⟨n, hn⟩ : ∃ n, cntP p = n := ⟨_, rfl⟩
      rw [hn] at hc hm ⊢
      have hc1 : (n : Int) < 64 := by omega
      have T1 := Lib.hid hm
      have HNn := Lib.hid hn
      have p0 : (0 : Int) ≤ p := by omega
      have p1 : (p : Int) ≤ 311 := by omega
      clear hm hn
      go_wp2_with fail
      go_loopg [4, 5] 20 (fun gk s4 s5 wr => ∃ q : Nat, q + gk = 22 ∧ 2 ≤ q ∧ q ≤ 18 ∧ s4 = .bool (prK p q) ∧ s5 = .int .u64 q ∧ MkR w wr n ∧ (q = 2 ∨ (q - 1) * (q - 1) ≤ p))
      case atStart => exact ⟨2, by omega, by omega, by omega, rfl, rfl, T1.out, .inl rfl⟩
      case round =>
        obtain ⟨q, hq, hq2, hq3, rfl, rfl, hm, hqq⟩ := hrel
        have q0 : (0 : Int) ≤ q := by omega
        have q1 : (q : Int) ≤ 18 := by omega
        have hsq : q * q ≤ 18 * 18 := Nat.mul_le_mul hq3 hq3
        obtain ⟨S, hS⟩ : ∃ S, q * q = S := ⟨_, rfl⟩
        rw [hS] at hsq
        have hS' : IntKind.u64.wrap (S : Int) = (S : Int) := IntWalk.u64_in _ (by omega)
        have hS2 : ((q : Int) * (q : Int)) = (S : Int) := by rw [← Int.natCast_mul, hS]
        have HM := Lib.hid hm
        have HSS := Lib.hid hS
        by_cases hle : S ≤ p
        · have hSp : decide (S ≤ p) = true := by simpa using hle
          have hq17 : q ≤ 17 := by
            rcases Nat.lt_or_ge 17 q with h | h
            · have : 18 * 18 ≤ q * q := Nat.mul_le_mul h h
              omega
            · exact h
          have HK := Lib.hid (prK_succ p q hq2)
          have HL := Lib.hid (show (q + 1 - 1) * (q + 1 - 1) ≤ p by rw [Nat.add_sub_cancel, hS]; exact hle)
          obtain ⟨B, hB⟩ : ∃ B, prK p q = B := ⟨_, rfl⟩
          obtain ⟨C, hC⟩ : ∃ C, (p % q != 0) = C := ⟨_, rfl⟩
          rw [hB, hC] at HK
          rw [hB]
          have hC' : (((p : Int) % (q : Int)) != 0) = C := by
            rw [← hC, ← Int.natCast_emod]
            rw [Bool.eq_iff_iff]
            simp
            omega
          have q2 : (0 : Int) < q := by omega
          have q3 : ¬ ((q : Int) = 0) := by omega
          clear hm hS hC hB hle hsq
          cases B
          all_goals
            go_wp2
            go_roundg (22 - (q + 1))
            case measure => omega
            case rel => exact ⟨q + 1, by omega, by omega, by omega, by rw [HK.out]; rfl, by go_num, HM.out, .inr HL.out⟩
        · have hSp : decide (S ≤ p) = false := by simpa using hle
          have hpr := prime_is hlt hp2 hq2 hq3 (by omega) hqq
          obtain ⟨B, hB⟩ : ∃ B, prB p = B := ⟨_, rfl⟩
          rw [hpr, hB]
          cases B with
          | false =>
            have HC := Lib.hid (cnt_no hlt hB)
            have HMn := Lib.hid (show MkR w wr (cntP p) from HNn.out ▸ HM.out)
            clear hm hS hle hsq hpr hB hqq
            go_wp2
            go_roundg (312 - (p + 1))
            case measure => omega
            case rel => exact ⟨p + 1, by omega, by omega, by rw [HC.out, HNn.out], by go_num, by rw [HC.out]; exact HMn.out⟩
          | true =>
            obtain ⟨h1, h2⟩ := cnt_yes hlt hB
            have hp16 : p < 65536 := by omega
            have r3 := Lib.hid (fun w => root_any p 3 (.inr rfl) hp16 w)
            have r2 := Lib.hid (fun w => root_any p 2 (.inl rfl) hp16 w)
            rw [HNn.out] at h1 h2
            have H1 := Lib.hid h1
            have H2 := Lib.hid h2
            have ST := W_store (P := Try.prog)
            have SC := fun x => (Value.cells.eq_def (W x)).symm.trans (W_cells x)
            clear hm hS hle hsq hpr hB hqq h1 h2 hp16
            go_wp2_with fail
            refine (r3.out _).mono ?_
            rintro e w1 ⟨rfl, hb1⟩
            have m1 := HM.out.m.below hb1
            have kl := ktL_len n (by omega)
            have c1 : w1.cell? ⟨w.heap.size + 1, n, none⟩ = some (W ((ktL n ++ htL n).getD n 0)) := ((m1.blk []).cell n).trans (Ws_getD (by rw [List.length_append, kl, htL_len]; omega))
            have f1 := (m1.blk []).fr n
            have m2 := m1.put [] n (W (rootW p 3))
            rw [Ws_set, List.set_append_left _ _ (by rw [kl]; omega), ktL_set H1.out] at m2
            have M2 := Lib.hid m2
            clear m1 m2 hb1 kl
            by_cases h8 : n < 8
            · have h8' : (n : Int) < 8 := by omega
              go_wp2_with fail
              refine (r2.out _).mono ?_
              rintro e w2 ⟨rfl, hb2⟩
              have m3 := M2.out.below hb2
              have kl := ktL_len (n + 1) (by omega)
              have c2 : w2.cell? ⟨w.heap.size + 1, 64 + n, none⟩ = some (W ((ktL (n + 1) ++ htL n).getD (64 + n) 0)) := ((m3.blk []).cell (64 + n)).trans (Ws_getD (by rw [List.length_append, kl, htL_len]; omega))
              have f2 := (m3.blk []).fr (64 + n)
              have m4 := m3.put [] (64 + n) (W (rootW p 2))
              rw [Ws_set, List.set_append_right _ _ (by rw [kl]; omega), kl, Nat.add_sub_cancel_left, htL_set H1.out h8] at m4
              have M4 := Lib.hid m4
              clear m3 m4 hb2 kl
              go_wp2
              go_roundg (312 - (p + 1))
              case measure => omega
              case rel => exact ⟨p + 1, by omega, by omega, by rw [H2.out]; go_num, by go_num, by rw [H2.out]; exact ⟨M4.out⟩⟩
            · have h8' : ¬ (n : Int) < 8 := by omega
              have HB := Lib.hid (htL_big (n := n) (by omega))
              go_wp2
              go_roundg (312 - (p + 1))
              case measure => omega
              case rel => exact ⟨p + 1, by omega, by omega, by rw [H2.out]; go_num, by go_num, by rw [H2.out]; exact ⟨by rw [HB.out]; exact M2.out⟩⟩
    · obtain rfl : p = 312 := by omega
      rw [cnt_end] at hm ⊢
      have hm2 := hm.m
      rw [tab_64] at hm2
      obtain ⟨K, hK⟩ : ∃ K, Ws (kTab ++ h0.l) = K := ⟨_, rfl⟩
      rw [hK] at hm2
      have HK := Lib.hid hK
      have hKs : K.size = 72 := by rw [← hK]; rfl
      have L1 := Lib.hid (show wr.rangeAt (w.heap.size + 1) 0 K.toList from (hm2.blk []).rangeL)
      have I1 := Lib.hid (show (Try.prog.info? 60).map (·.size) = some K.toList.length by rw [Array.length_toList, hKs]; exact info_tab)
      have I2 := Lib.hid (show (Try.prog.info? 60).map (·.size) = some K.size by rw [hKs]; exact info_tab)
      have S2 := Lib.hid (show Z72.size = K.size by rw [hKs]; rfl)
      have O2 := Lib.hid (show K.all (·.oneCell') = true by rw [← hK]; exact Ws_one _)
      have B2 := Lib.hid (hm2.blk [_])
      have M2 := Lib.hid hm2
      clear hm hm2 hK hKs hlt hp hp2
      go_wp2_with (first | refine wpList_load_mid rfl _ _ rfl (w.heap.size + 1) 0 rfl K.toList _ L1.out Try.underlying60 rfl I1.out ?_ | refine wpList_store_row rfl _ _ _ rfl w.heap.size K rfl rfl 60 _ B2.out I2.out S2.out O2.out ?_)
      refine bodyPost_ret (results_cell_row rfl _ _ w.heap.size 60 _ (0, 0) _ rfl (setRow_heap _ _ _ _ _ _ B2.out) Try.underlying60 rfl I2.out) rfl ⟨by rw [HK.out], ?_⟩
      exact (Mst.setRow (bl := []) [_] M2.out _).bel
end Go.Proofs.Ythnaobolmgcclaa
