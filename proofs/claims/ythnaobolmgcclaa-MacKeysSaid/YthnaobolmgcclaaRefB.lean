/- Contracts of the document's digest: parts, times. -/
import Derived.Test.YthnaobolmgcclaaRefA
import Derived.Test.YthnaobolmgcclaaSha1
import Derived.Test.YthnaobolmgcclaaApp2
import Derived.IntWalk
import Derived.Outline
import Derived.Deep.RegionHeld3
namespace Go.Proofs.Ythnaobolmgcclaa
set_option linter.unusedVariables false
open Go.RowKit

def Us (l : List Nat) : Array Value := (l.map fun x : Nat => Value.int .u64 (x : Int)).toArray
theorem Us_get {l : List Nat} {j x : Nat} (h : l[j]? = some x) : (Us l)[j]? = some (.int .u64 (x : Int)) := by simp [Us, h]
theorem Us_set (l : List Nat) (j x : Nat) : (Us l).setIfInBounds j (.int .u64 (x : Int)) = Us (l.set j x) := by simp [Us, List.map_set]
theorem Us_one (l : List Nat) : (Us l).all (·.oneCell') = true := by
  rw [Array.all_eq_true_iff_forall_mem]
  intro v hv
  simp only [Us, List.mem_toArray, List.mem_map] at hv
  obtain ⟨x, _, rfl⟩ := hv
  rfl
theorem Us_size (l : List Nat) : (Us l).size = l.length := by simp [Us]
abbrev Z12 : Array Value := #[.int .u64 0, .int .u64 0, .int .u64 0, .int .u64 0, .int .u64 0, .int .u64 0, .int .u64 0, .int .u64 0, .int .u64 0, .int .u64 0, .int .u64 0, .int .u64 0]
theorem Z12_eq : Us zero12 = Z12 := rfl
theorem info12 : (Try.prog.info? 156).map (·.size) = some 12 := by kernel_rfl

def zP (y k : Nat) : List Nat := (partsL y).take k ++ List.replicate (12 - k) 0
def yD (y : Nat) : Nat → Nat
  | 0 => y
  | k + 1 => yD y k / 65536
theorem zP_set (y k : Nat) (h : k < 4) : (zP y k).set k (yD y k % 65536) = zP y (k + 1) := by
  have h4 : k = 0 ∨ k = 1 ∨ k = 2 ∨ k = 3 := by omega
  rcases h4 with rfl | rfl | rfl | rfl <;> rfl
theorem zP_4 (y : Nat) : zP y 4 = partsL y := rfl
theorem zP_get (y k : Nat) (h : k < 4) : (zP y k)[k]? = some 0 := by
  have h4 : k = 0 ∨ k = 1 ∨ k = 2 ∨ k = 3 := by omega
  rcases h4 with rfl | rfl | rfl | rfl <;> rfl
theorem yD_le (y k : Nat) : yD y k ≤ y := by
  induction k with
  | zero => exact Nat.le_refl _
  | succ k ih =>
    show yD y k / 65536 ≤ y
    have := Nat.div_le_self (yD y k) 65536
    omega
structure PaR (w wr : World) (z : List Nat) : Prop where
  m : Mst w wr [(w.heap.size + 1, 156, Us z), (w.heap.size, 156, Z12)] []
set_option maxRecDepth 100000 in
set_option maxHeartbeats 400000 in
theorem parts_any (y : Nat) (hy : y < 2 ^ 64) (w : World) :
    Calls Try.prog 102 #[.int .u64 (y : Int)] w fun e w' => e = .returned (.agg (Us (partsL y))) ∧ Below w.heap.size w w' := by
  have m0 := ((Mst.start w).new 156 Z12).new 156 Z12
  rw [show (w.alloc (.cells Z12 156)).heap.size = w.heap.size + 1 by simp] at m0
  have T0 := Lib.hid (show PaR w ((w.alloc (.cells Z12 156)).alloc (.cells Z12 156)) (zP y 0) from ⟨m0⟩)
  have HY := Lib.hid hy
  clear m0 hy
  go_enter Try.func102, Try.ntmps102
  go_wp2_with fail
  go_loopg [4, 0] 4 (fun gk s4 s0 wr => ∃ k : Nat, k + gk = 4 ∧ s4 = .int .i64 k ∧ s0 = .int .u64 (yD y k : Nat) ∧ PaR w wr (zP y k))
  case atStart => exact ⟨0, by omega, rfl, rfl, T0.out⟩
  case round =>
    obtain ⟨k, hk, rfl, rfl, ⟨hm⟩⟩ := hrel
    by_cases hlt : k < 4
    · have hyb : (yD y k : Int) ≤ 18446744073709551615 := by have := yD_le y k; have := HY.out; omega
      have hy0 : (0 : Int) ≤ (yD y k : Int) := by omega
      have c3 := ((hm.blk []).cell k).trans (Us_get (zP_get y k hlt))
      have f3 := (hm.blk []).fr k
      have HZ := Lib.hid (zP_set y k hlt)
      have HS := Lib.hid (show yD y (k + 1) = yD y k / 65536 from rfl)
      obtain ⟨Y, hY⟩ : ∃ Y, yD y k = Y := ⟨_, rfl⟩
      rw [hY] at HZ HS hyb hy0 ⊢
      have HM := Lib.hid hm
      clear hm hY
      go_wp2
      go_roundg (4 - (k + 1))
      case measure => exact meas hk hlt
      case rel => exact ⟨k + 1, meas2 hlt, by go_num, by rw [HS.out]; go_num, ⟨by
        have a := HM.out.put [] k (.int .u64 ((Y % 65536 : Nat) : Int))
        rw [Us_set, HZ.out] at a
        exact a⟩⟩
    · obtain rfl : k = 4 := by omega
      rw [zP_4] at hm
      obtain ⟨K, hK⟩ : ∃ K, partsL y = K := ⟨_, rfl⟩
      have hKl : K.length = 12 := by rw [← hK]; rfl
      rw [hK] at hm
      have HK := Lib.hid hK
      have hb3 := hm.blk []
      have L1 := Lib.hid (show wr.rangeAt (w.heap.size + 1) 0 (Us K).toList from hb3.range fun j v hv => by
        rw [Nat.zero_add]
        simpa using hv)
      have I1 := Lib.hid (show (Try.prog.info? 156).map (·.size) = some (Us K).toList.length by rw [Array.length_toList, Us_size, hKl]; exact info12)
      have I2 := Lib.hid (show (Try.prog.info? 156).map (·.size) = some (Us K).size by rw [Us_size, hKl]; exact info12)
      have S2 := Lib.hid (show Z12.size = (Us K).size by rw [Us_size, hKl]; rfl)
      have O2 := Lib.hid (Us_one K)
      have B2 := Lib.hid (hm.blk [_])
      have HM := Lib.hid hm
      clear hm hb3 hlt hk hK hKl
      go_wp2_with (first | refine wpList_load_mid rfl _ _ rfl (w.heap.size + 1) 0 rfl (Us K).toList _ L1.out Try.underlying156 rfl I1.out ?_ | refine wpList_store_row rfl _ _ _ rfl w.heap.size (Us K) rfl rfl 156 _ B2.out I2.out S2.out O2.out ?_)
      refine bodyPost_ret (results_cell_row rfl _ _ w.heap.size 156 _ (0, 0) _ rfl (setRow_heap _ _ _ _ _ _ B2.out) Try.underlying156 rfl I2.out) rfl ⟨by rw [HK.out], ?_⟩
      exact (Mst.setRow (bl := []) [_] HM.out _).bel

structure TiR (w wr : World) (a b z : List Nat) : Prop where
  m : Mst w wr [(w.heap.size + 1 + 1 + 1, 156, Us z), (w.heap.size + 1 + 1, 156, Z12), (w.heap.size + 1, 156, Us b), (w.heap.size, 156, Us a)] []
set_option maxRecDepth 100000 in
set_option maxHeartbeats 1000000 in
theorem times_any (a b : List Nat) (ha : Lim a) (hb : Lim b) (w : World) :
    Calls Try.prog 103 #[.agg (Us a), .agg (Us b)] w fun e w' => ∃ z, e = .returned (.agg (Us z)) ∧ Out a b 12 z ∧ Below w.heap.size w w' := by
  obtain ⟨Ka, hKa⟩ : ∃ K, Us a = K := ⟨_, rfl⟩
  obtain ⟨Kb, hKb⟩ : ∃ K, Us b = K := ⟨_, rfl⟩
  have m0 := ((((Mst.start w).new 156 Ka).new 156 Kb).new 156 Z12).new 156 Z12
  rw [show (w.alloc (.cells Ka 156)).heap.size = w.heap.size + 1 by simp, show ((w.alloc (.cells Ka 156)).alloc (.cells Kb 156)).heap.size = w.heap.size + 1 + 1 by simp, show (((w.alloc (.cells Ka 156)).alloc (.cells Kb 156)).alloc (.cells Z12 156)).heap.size = w.heap.size + 1 + 1 + 1 by simp] at m0
  rw [hKa, hKb]
  have T0 := Lib.hid (show TiR w _ a b zero12 from ⟨by rw [hKa, hKb]; exact m0⟩)
  have SA := Lib.hid (show Ka.size = 12 by rw [← hKa, Us_size, ha.len])
  have SB := Lib.hid (show Kb.size = 12 by rw [← hKb, Us_size, hb.len])
  have HA := Lib.hid ha
  have HB := Lib.hid hb
  have HKa := Lib.hid hKa
  have HKb := Lib.hid hKb
  clear m0 hKa hKb ha hb
  go_enter Try.func103, Try.ntmps103
  go_wp2_with fail
  go_loopg [6] 12 (fun gk s6 wr => ∃ i : Nat, ∃ z : List Nat, i + gk = 12 ∧ s6 = .int .i64 i ∧ TiR w wr a b z ∧ Out a b i z)
  case atStart => exact ⟨0, zero12, by omega, rfl, T0.out, Out.start a b⟩
  case round =>
    obtain ⟨i, z, hi, rfl, hm, hout⟩ := hrel
    by_cases hlt : i < 12
    · obtain ⟨ai, hai, hai2⟩ := HA.out.at_ hlt
      have T1 := Lib.hid hm
      have HO := Lib.hid hout
      have HAI := Lib.hid hai
      obtain ⟨wo, hwo⟩ : ∃ wo : World, wo = wr := ⟨_, rfl⟩
      have i0 : (0 : Int) ≤ i := by omega
      clear hm hout hai hwo wo
      go_wp2_with fail
      go_loopg [8, 7] (12 - i) (fun gk s8 s7 wr => ∃ k over : Nat, ∃ z' : List Nat, k + gk = 12 - i ∧ s8 = .int .i64 k ∧ s7 = .int .u64 over ∧ TiR w wr a b z' ∧ Inn z b i ai k z' over)
      case atStart => exact ⟨0, 0, z, by omega, rfl, rfl, T1.out, Inn.start HO.out.lim⟩
      case round =>
        obtain ⟨k, over, z', hk, rfl, rfl, ⟨hm⟩, hin⟩ := hrel
        by_cases hlk : k < 12 - i
        · obtain ⟨bk, hbk, hbk2⟩ := HB.out.at_ (show k < 12 by omega)
          obtain ⟨x, hx, hx2⟩ := hin.lim.at_ (show i + k < 12 by omega)
          have c5 := ((hm.blk []).cell (i + k)).trans (Us_get hx)
          have f5 := (hm.blk []).fr (i + k)
          have c3 := ((hm.blk [_, _]).cell k).trans (Us_get hbk)
          have c2 := ((hm.blk [_, _, _]).cell i).trans (Us_get HAI.out)
          have hov := hin.ov
          have hml := mul_lt hai2 hbk2
          have HI := Lib.hid (hin.step hai2 hx hbk hbk2 hx2)
          obtain ⟨P, hP⟩ : ∃ P, ai * bk = P := ⟨_, rfl⟩
          rw [hP] at hml HI
          have e1 : IntKind.u64.wrap ((ai : Int) * (bk : Int)) = (P : Int) := by
            rw [← Int.natCast_mul, hP]
            simp [IntKind.wrap, IntKind.signed, IntKind.bits]
            omega
          have HM := Lib.hid hm
          clear hm hin hx hbk hP
          have k0 : (0 : Int) ≤ k := by omega
          have v1 : IntKind.i64.wrap ((i : Int) + k) = (i : Int) + k := IntWalk.i64_in _ (by omega)
          have v2 : (0 : Int) ≤ (i : Int) + k := by omega
          have v3 : ((i : Int) + k).toNat = i + k := by omega
          have v4 : (i : Int) + k < 12 := by omega
          have v5 : IntKind.u64.wrap ((over : Int) + x) = (over : Int) + x := IntWalk.u64_in _ (by omega)
          have v6 : IntKind.u64.wrap ((over : Int) + x + P) = (over : Int) + x + P := IntWalk.u64_in _ (by omega)
          have v7 : (0 : Int) ≤ (over : Int) + x + P := by omega
          have v8 : (over : Int) + x + P ≤ 4294967295 := by omega
          go_wp2
          go_quiet (fail)
          clear v5 v6 e1
          go_wp2
          clear v1 v2 v3 v4
          go_roundg (12 - i - (k + 1))
          case measure => omega
          case rel => exact ⟨k + 1, (over + x + P) / 65536, z'.set (i + k) ((over + x + P) % 65536), by omega, by go_num, by go_num, ⟨by
            have a1 := (HM.out.drewN nq).put [] (i + k) (.int .u64 (((over + x + P) % 65536 : Nat) : Int))
            rw [Us_set] at a1
            exact a1⟩, HI.out⟩
        · obtain rfl : k = 12 - i := by omega
          have HM := Lib.hid hm
          have HO2 := Lib.hid (HO.out.step hlt HAI.out HB.out.len hin)
          clear hm hin
          have k0 : (12 : Int) ≤ (i : Int) + ((12 - i : Nat) : Int) := by omega
          clear hlk
          go_wp2
          go_roundg (12 - (i + 1))
          case measure => exact meas hi hlt
          case rel => exact ⟨i + 1, z', meas2 hlt, by go_num, ⟨HM.out⟩, HO2.out⟩
    · obtain rfl : i = 12 := by omega
      have hzl : (Us z).size = 12 := by rw [Us_size, hout.lim.len]
      have hb3 := hm.m.blk []
      have L1 := Lib.hid (show wr.rangeAt (w.heap.size + 1 + 1 + 1) 0 (Us z).toList from hb3.range fun j v hv => by
        rw [Nat.zero_add]
        simpa using hv)
      have I1 := Lib.hid (show (Try.prog.info? 156).map (·.size) = some (Us z).toList.length by rw [Array.length_toList, hzl]; exact info12)
      have I2 := Lib.hid (show (Try.prog.info? 156).map (·.size) = some (Us z).size by rw [hzl]; exact info12)
      have S2 := Lib.hid (show Z12.size = (Us z).size by rw [hzl]; rfl)
      have O2 := Lib.hid (Us_one z)
      have B2 := Lib.hid (hm.m.blk [_])
      have HM := Lib.hid hm.m
      have HO := Lib.hid hout
      clear hm hb3 hlt hi hzl hout
      go_wp2_with (first | refine wpList_load_mid rfl _ _ rfl (w.heap.size + 1 + 1 + 1) 0 rfl (Us z).toList _ L1.out Try.underlying156 rfl I1.out ?_ | refine wpList_store_row rfl _ _ _ rfl (w.heap.size + 1 + 1) (Us z) rfl rfl 156 _ B2.out I2.out S2.out O2.out ?_)
      refine bodyPost_ret (results_cell_row rfl _ _ (w.heap.size + 1 + 1) 156 _ (0, 0) _ rfl (setRow_heap _ _ _ _ _ _ B2.out) Try.underlying156 rfl I2.out) rfl ⟨z, rfl, HO.out, ?_⟩
      exact (Mst.setRow (bl := []) [_] HM.out _).bel
end Go.Proofs.Ythnaobolmgcclaa
