/- Contracts of package digest: spread. -/
import Derived.Test.YthnaobolmgcclaaSha1
import Derived.Test.YthnaobolmgcclaaSame
import Derived.StillTailTactics
import Derived.Outline
import Derived.IntWalk
namespace Go.Proofs.Ythnaobolmgcclaa
set_option linter.unusedVariables false
open Go.RowKit

def Ws (l : List Wd) : Array Value := (l.map W).toArray
theorem Ws_get {l : List Wd} {j : Nat} {x : Wd} (h : l[j]? = some x) : (Ws l)[j]? = some (W x) := by simp [Ws, h]
theorem Ws_getD {l : List Wd} {j : Nat} (h : j < l.length) : (Ws l)[j]? = some (W (l.getD j 0)) := by
  rw [Ws_get (List.getElem?_eq_getElem h), List.getD_eq_getElem?_getD, List.getElem?_eq_getElem h]; rfl
theorem Ws_set (l : List Wd) (j : Nat) (x : Wd) : (Ws l).setIfInBounds j (W x) = Ws (l.set j x) := by simp [Ws, List.map_set]
theorem Ws_one (l : List Wd) : (Ws l).all (·.oneCell') = true := by
  rw [Array.all_eq_true_iff_forall_mem]
  intro v hv
  simp only [Ws, List.mem_toArray, List.mem_map] at hv
  obtain ⟨x, _, rfl⟩ := hv
  rfl
theorem Ws_size (l : List Wd) : (Ws l).size = l.length := by simp [Ws]
/-- The words so far, in their array. -/
def spL (l : List UInt8) (k : Nat) : List Wd := spreadK l k ++ List.replicate (64 - k) 0
theorem spL_len (l : List UInt8) {k : Nat} (h : k ≤ 64) : (spL l k).length = 64 := by simp [spL, spreadK_len]; omega
theorem spL_get (l : List UInt8) {j k : Nat} (h : j < k) : (spL l k)[j]? = some ((spreadK l k).getD j 0) := by
  unfold spL
  rw [List.getElem?_append_left (by rw [spreadK_len]; exact h), List.getElem?_eq_getElem (by rw [spreadK_len]; exact h), List.getD_eq_getElem?_getD, List.getElem?_eq_getElem (by rw [spreadK_len]; exact h)]
  rfl
def spN (l : List UInt8) (k : Nat) : Wd := if k < 16 then wordB l (4 * k) else (spreadK l k).getD (k - 16) 0 + lsig0 ((spreadK l k).getD (k - 15) 0) + (spreadK l k).getD (k - 7) 0 + lsig1 ((spreadK l k).getD (k - 2) 0)
theorem spL_set (l : List UInt8) {k : Nat} (h : k < 64) : (spL l k).set k (spN l k) = spL l (k + 1) := by
  unfold spL
  rw [List.set_append_right _ _ (by rw [spreadK_len]; omega), spreadK_len, Nat.sub_self, show 64 - k = (64 - (k + 1)) + 1 by omega, List.replicate_succ, List.set_cons_zero]
  show _ = (spreadK l k ++ [spN l k]) ++ _
  rw [List.append_assoc]
  rfl
theorem spL_0 (l : List UInt8) : spL l 0 = List.replicate 64 0 := rfl
theorem spL_64 (l : List UInt8) : spL l 64 = spreadK l 64 := by simp [spL]

theorem by8_getD {l : List UInt8} {k : Nat} (h : k < l.length) : (by8 l)[k]? = some (.int .u8 ((l.getD k 0).toNat : Int)) := by
  rw [by8_get (List.getElem?_eq_getElem h), List.getD_eq_getElem?_getD, List.getElem?_eq_getElem h]; rfl
theorem zero64 : Ws (List.replicate 64 0) = #[Value.int IntKind.u32 0, Value.int IntKind.u32 0, Value.int IntKind.u32 0, Value.int IntKind.u32 0, Value.int IntKind.u32 0, Value.int IntKind.u32 0, Value.int IntKind.u32 0, Value.int IntKind.u32 0, Value.int IntKind.u32 0, Value.int IntKind.u32 0, Value.int IntKind.u32 0, Value.int IntKind.u32 0, Value.int IntKind.u32 0, Value.int IntKind.u32 0, Value.int IntKind.u32 0, Value.int IntKind.u32 0, Value.int IntKind.u32 0, Value.int IntKind.u32 0, Value.int IntKind.u32 0, Value.int IntKind.u32 0, Value.int IntKind.u32 0, Value.int IntKind.u32 0, Value.int IntKind.u32 0, Value.int IntKind.u32 0, Value.int IntKind.u32 0, Value.int IntKind.u32 0, Value.int IntKind.u32 0, Value.int IntKind.u32 0, Value.int IntKind.u32 0, Value.int IntKind.u32 0, Value.int IntKind.u32 0, Value.int IntKind.u32 0, Value.int IntKind.u32 0, Value.int IntKind.u32 0, Value.int IntKind.u32 0, Value.int IntKind.u32 0, Value.int IntKind.u32 0, Value.int IntKind.u32 0, Value.int IntKind.u32 0, Value.int IntKind.u32 0, Value.int IntKind.u32 0, Value.int IntKind.u32 0, Value.int IntKind.u32 0, Value.int IntKind.u32 0, Value.int IntKind.u32 0, Value.int IntKind.u32 0, Value.int IntKind.u32 0, Value.int IntKind.u32 0, Value.int IntKind.u32 0, Value.int IntKind.u32 0, Value.int IntKind.u32 0, Value.int IntKind.u32 0, Value.int IntKind.u32 0, Value.int IntKind.u32 0, Value.int IntKind.u32 0, Value.int IntKind.u32 0, Value.int IntKind.u32 0, Value.int IntKind.u32 0, Value.int IntKind.u32 0, Value.int IntKind.u32 0, Value.int IntKind.u32 0, Value.int IntKind.u32 0, Value.int IntKind.u32 0, Value.int IntKind.u32 0] := rfl
structure SpR (w wr : World) (l : List UInt8) (k : Nat) : Prop where
  m : Mst w wr [(w.heap.size + 1, 57, Ws (spL l k)), (w.heap.size, 57, Ws (spL [] 0))] []

set_option maxRecDepth 100000 in
set_option maxHeartbeats 1000000 in
theorem spread_any (w : World) (A : Option Addr) (c : Nat) (l : List UInt8) (hl : l.length = 64) (hr : RB w w.heap.size A l) (hc : 64 ≤ c) (hcm : c ≤ 9223372036854775807) :
    Calls Try.prog 104 #[.slice A 64 c] w fun e w' => e = .returned (.agg (Ws (spreadK l 64))) ∧ Below w.heap.size w w' := by
  obtain ⟨gb, ob, rfl, hgb, hcell⟩ := hr.2 (by omega)
  have HC := Lib.hid hcell
  have HL := Lib.hid hl
  have m0 := ((Mst.start w).new 57 (Ws (spL [] 0))).new 57 (Ws (spL l 0))
  rw [show (w.alloc (.cells (Ws (spL [] 0)) 57)).heap.size = w.heap.size + 1 by simp] at m0
  have m1 : ∀ Z, Ws (List.replicate 64 0) = Z → Mst w ((w.alloc (.cells Z 57)).alloc (.cells Z 57)) [(w.heap.size + 1, 57, Ws (spL l 0)), (w.heap.size, 57, Ws (spL [] 0))] [] := by
    rintro _ rfl
    exact m0
  have M0 := Lib.hid (m1 _ zero64)
  clear m0 m1 hr hcell hl
  go_enter Try.func104, Try.ntmps104
  go_wp2
  go_loopg [9] 64 (fun g s9 wr => ∃ k : Nat, k + g = 64 ∧ s9 = .int .i64 k ∧ SpR w wr l k)
  case atStart => exact ⟨0, by omega, rfl, ⟨M0.out⟩⟩
  case round =>
    obtain ⟨k, hk, rfl, ⟨hm⟩⟩ := hrel
    by_cases hlt : k < 64
    · by_cases h16 : k < 16
      · have hcl := HC.out
        have hlen := HL.out
        have f3 := (hm.blk []).fr k
        have hx : (Ws (spL l k))[k]? = some (W ((spL l k).getD k 0)) := Ws_getD (by rw [spL_len l (by omega)]; exact hlt)
        have c3 := ((hm.blk []).cell k).trans hx
        have gq : ∀ j, j < 4 → wr.cell? ⟨gb, ob + 4 * k + j, none⟩ = some (.int .u8 ((l.getD (4 * k + j) 0).toNat : Int)) := fun j hj => by
          rw [Nat.add_assoc]
          exact hm.old hgb (hcl _ _ (by8_getD (by omega)))
        have hw := word_any gb (ob + 4 * k) (64 - 4 * k) (c - 4 * k) _ _ _ _ wr (by omega) (gq 0 (by omega)) (gq 1 (by omega)) (gq 2 (by omega)) (gq 3 (by omega))
        obtain ⟨X, hX, hXs⟩ : ∃ X, wordOf (l.getD (4 * k + 0) 0) (l.getD (4 * k + 1) 0) (l.getD (4 * k + 2) 0) (l.getD (4 * k + 3) 0) = X ∧ (spL l k).set k X = spL l (k + 1) := by
          refine ⟨_, rfl, ?_⟩
          have := spL_set l hlt
          unfold spN at this
          rw [if_pos h16] at this
          exact this
        rw [hX] at hw
        have HW := Lib.hid hw
        have HX := Lib.hid hXs
        have HM := Lib.hid hm
        have ST := W_store (P := Try.prog)
        have SC := fun x => (Value.cells.eq_def (W x)).symm.trans (W_cells x)
        clear gq hw hX hXs
        clear hm hx hcl hlen
        go_wp2_with (refine HW.out.mono ?_; rintro e w' ⟨rfl, kk, rfl⟩)
        go_roundg (64 - (k + 1))
        case measure => exact meas hk hlt
        case rel => exact ⟨k + 1, meas2 hlt, by go_num, ⟨by
          have := (HM.out.drewN kk).put [] k (W X)
          rw [Ws_set, HX.out] at this
          exact this⟩⟩
      · have f3 := (hm.blk []).fr k
        have hx : (Ws (spL l k))[k]? = some (W ((spL l k).getD k 0)) := Ws_getD (by rw [spL_len l (by omega)]; exact hlt)
        have c3 := ((hm.blk []).cell k).trans hx
        have gx : ∀ d, 0 < d → d ≤ k → wr.cell? ⟨w.heap.size + 1, k - d, none⟩ = some (W ((spreadK l k).getD (k - d) 0)) := fun d h0 h1 => ((hm.blk []).cell (k - d)).trans (Ws_get (spL_get l (by omega)))
        have g15 := gx 15 (by omega) (by omega)
        have g2 := gx 2 (by omega) (by omega)
        have g16 := gx 16 (by omega) (by omega)
        have g7 := gx 7 (by omega) (by omega)
        have hXs := spL_set l hlt
        unfold spN at hXs
        rw [if_neg h16] at hXs
        obtain ⟨x15, e15⟩ : ∃ x, (spreadK l k).getD (k - 15) 0 = x := ⟨_, rfl⟩
        obtain ⟨x2, e2⟩ : ∃ x, (spreadK l k).getD (k - 2) 0 = x := ⟨_, rfl⟩
        obtain ⟨x16, e16⟩ : ∃ x, (spreadK l k).getD (k - 16) 0 = x := ⟨_, rfl⟩
        obtain ⟨x7, e7⟩ : ∃ x, (spreadK l k).getD (k - 7) 0 = x := ⟨_, rfl⟩
        rw [e15] at g15 hXs
        rw [e2] at g2 hXs
        rw [e16] at g16 hXs
        rw [e7] at g7 hXs
        have n15 : ((k : Int) - 15).toNat = k - 15 := by omega
        have n2 : ((k : Int) - 2).toNat = k - 2 := by omega
        have n16 : ((k : Int) - 16).toNat = k - 16 := by omega
        have n7 : ((k : Int) - 7).toNat = k - 7 := by omega
        have p15 : 0 ≤ (k : Int) - 15 := by omega
        have p2 : 0 ≤ (k : Int) - 2 := by omega
        have p16 : 0 ≤ (k : Int) - 16 := by omega
        have p7 : 0 ≤ (k : Int) - 7 := by omega
        have l15 : (k : Int) - 15 < 64 := by omega
        have l2 : (k : Int) - 2 < 64 := by omega
        have l16 : (k : Int) - 16 < 64 := by omega
        have l7 : (k : Int) - 7 < 64 := by omega
        have v15 : IntKind.i64.wrap ((k : Int) - 15) = (k : Int) - 15 := IntWalk.i64_in _ (by omega)
        have v2 : IntKind.i64.wrap ((k : Int) - 2) = (k : Int) - 2 := IntWalk.i64_in _ (by omega)
        have v16 : IntKind.i64.wrap ((k : Int) - 16) = (k : Int) - 16 := IntWalk.i64_in _ (by omega)
        have v7 : IntKind.i64.wrap ((k : Int) - 7) = (k : Int) - 7 := IntWalk.i64_in _ (by omega)
        have HX := Lib.hid hXs
        have HM := Lib.hid hm
        have ST := W_store (P := Try.prog)
        have SC := fun x => (Value.cells.eq_def (W x)).symm.trans (W_cells x)
        have AX := fun (a b : Wd) (w : World) => W_xor (P := Try.prog) 56 a b w
        have AA := fun (a b : Wd) (w : World) => W_add (P := Try.prog) 56 a b w
        have s3 : ∀ (x : Wd) (w : World), (binOp .shr 56 (W x) (.int .u64 3)).run Try.prog w = .ok (W (x >>> 3)) w := fun x w => W_shr 56 x w .u64 3 (by decide)
        have s10 : ∀ (x : Wd) (w : World), (binOp .shr 56 (W x) (.int .u64 10)).run Try.prog w = .ok (W (x >>> 10)) w := fun x w => W_shr 56 x w .u64 10 (by decide)
        have r7 : ∀ (x : Wd) (w : World), Calls Try.prog 107 #[W x, .int .i64 (-7)] w fun e w' => e = .returned (W (rr x 7)) ∧ w = w' := fun x w => rotl x 7 25 (by decide) (by decide) (by decide) w
        have r18 : ∀ (x : Wd) (w : World), Calls Try.prog 107 #[W x, .int .i64 (-18)] w fun e w' => e = .returned (W (rr x 18)) ∧ w = w' := fun x w => rotl x 18 14 (by decide) (by decide) (by decide) w
        have r17 : ∀ (x : Wd) (w : World), Calls Try.prog 107 #[W x, .int .i64 (-17)] w fun e w' => e = .returned (W (rr x 17)) ∧ w = w' := fun x w => rotl x 17 15 (by decide) (by decide) (by decide) w
        have r19 : ∀ (x : Wd) (w : World), Calls Try.prog 107 #[W x, .int .i64 (-19)] w fun e w' => e = .returned (W (rr x 19)) ∧ w = w' := fun x w => rotl x 19 13 (by decide) (by decide) (by decide) w
        clear hXs e15 e2 e16 e7 hx hm gx
        go_wp2
        go_quiet (fail)
        go_wp2_with (first | ((with_reducible refine (r7 _ _).mono ?_); rintro e w' ⟨rfl, rfl⟩) | ((with_reducible refine (r18 _ _).mono ?_); rintro e w' ⟨rfl, rfl⟩) | ((with_reducible refine (r17 _ _).mono ?_); rintro e w' ⟨rfl, rfl⟩) | ((with_reducible refine (r19 _ _).mono ?_); rintro e w' ⟨rfl, rfl⟩))
        clear r7 r18 r17 r19 g15 g2
        generalize hq : wr.drewN nq = wq
        replace g16 : wq.cell? ⟨w.heap.size + 1, k - 16, none⟩ = some (W x16) := by rw [← hq]; exact g16
        replace g7 : wq.cell? ⟨w.heap.size + 1, k - 7, none⟩ = some (W x7) := by rw [← hq]; exact g7
        replace c3 : wq.cell? ⟨w.heap.size + 1, k, none⟩ = some (W ((spL l k).getD k 0)) := by rw [← hq]; exact c3
        replace f3 : wq.frozen? ⟨w.heap.size + 1, k, none⟩ = false := by rw [← hq]; exact f3
        have HQ := Lib.hid hq
        clear hq
        go_region
        clear n15 n2 n16 n7 p15 p2 p16 p7 l15 l2 l16 l7 v15 v2 v16 v7 g16 g7
        go_wp2
        go_roundg (64 - (k + 1))
        case measure => exact meas hk hlt
        case rel => exact ⟨k + 1, meas2 hlt, by go_num, ⟨by
          have h1 := HM.out.drewN nq
          rw [HQ.out] at h1
          have h2 := h1.put [] k (W (x16 + lsig0 x15 + x7 + lsig1 x2))
          rw [Ws_set, HX.out] at h2
          exact h2.drew⟩⟩
    · obtain rfl : k = 64 := by omega
      rw [spL_64] at hm
      have hb3 := hm.blk []
      have hb2 := hm.blk [_]
      have L1 := Lib.hid (show wr.rangeAt (w.heap.size + 1) 0 ((spreadK l 64).map W) from hb3.range fun j v hv => by
        rw [Nat.zero_add]
        simpa [Ws] using hv)
      have I1 := Lib.hid (show (Try.prog.info? 57).map (·.size) = some ((spreadK l 64).map W).length by rw [List.length_map, spreadK_len]; exact info_arr64)
      have I2 := Lib.hid (show (Try.prog.info? 57).map (·.size) = some (Ws (spreadK l 64)).size by rw [Ws_size, spreadK_len]; exact info_arr64)
      have H1 := Lib.hid (Ws_one (spreadK l 64))
      have HB := Lib.hid hb2
      have HM := Lib.hid hm
      clear hm hb2 hb3 hlt hk
      go_wp2_with (first | refine wpList_load_mid rfl _ _ rfl (w.heap.size + 1) 0 rfl ((spreadK l 64).map W) _ L1.out Try.underlying57 rfl I1.out ?_ | refine wpList_store_row rfl _ _ _ rfl w.heap.size (Ws (spreadK l 64)) rfl rfl 57 _ HB.out I2.out (by rw [Ws_size, Ws_size, spreadK_len]; rfl) H1.out ?_)
      refine bodyPost_ret (results_cell_row rfl _ _ w.heap.size 57 _ (0, 0) _ rfl (setRow_heap _ _ _ _ _ _ HB.out) Try.underlying57 rfl I2.out) rfl ⟨rfl, ?_⟩
      exact (Mst.setRow (bl := []) [_] HM.out _).bel
end Go.Proofs.Ythnaobolmgcclaa
