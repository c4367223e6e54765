/- The chapter's example of digests. -/
import Derived.Test.YthnaobolmgcclaaHex2
import Derived.Lib.SlBytesConst
import Derived.Deep.DeepCutAuto
namespace Go.Proofs.Ythnaobolmgcclaa
set_option linter.unusedVariables false
open Go.RowKit

theorem rbm (w1 : World) (l : List UInt8) (lo hi : Nat) : RB (w1.alloc (.cells (b8a l) 5 (lo, hi))) (w1.alloc (.cells (b8a l) 5 (lo, hi))).heap.size (some ⟨w1.heap.size, 0, none⟩) l := by
  refine ⟨by rw [by8_length]; omega, fun _ => ⟨w1.heap.size, 0, rfl, by simp, fun j u hu => ?_⟩⟩
  have hh : (w1.alloc (.cells (b8a l) 5 (lo, hi))).heap[w1.heap.size]? = some (.cells (b8a l) 5 (lo, hi)) := by
    show (w1.heap.push _)[w1.heap.size]? = _
    simp
  refine (cell_of_row _ w1.heap.size (0 + j) _ _ (lo, hi) hh).trans ?_
  rw [Nat.zero_add]
  simpa [b8a] using hu
abbrev hexAbc : ByteArray := ⟨#[98, 97, 55, 56, 49, 54, 98, 102, 56, 102, 48, 49, 99, 102, 101, 97, 52, 49, 52, 49, 52, 48, 100, 101, 53, 100, 97, 101, 50, 50, 50, 51, 98, 48, 48, 51, 54, 49, 97, 51, 57, 54, 49, 55, 55, 97, 57, 99, 98, 52, 49, 48, 102, 102, 54, 49, 102, 50, 48, 48, 49, 53, 97, 100]⟩
theorem sha_abc2 : (hexL (sha [97, 98, 99])).toArray = hexAbc.data := by kernel_rfl
theorem eq_abc (w : World) : (binOp .eql 9 (.string hexAbc) (.string hexAbc)).run Try.prog w = .ok (.bool true) w := by
  simp [binOp, Op.stringOp]
set_option maxRecDepth 100000 in
set_option maxHeartbeats 1000000 in
theorem known01 (w : World) : Calls Try.prog 34 #[] w fun e w' => e = .returned (.bool true) ∧ Below w.heap.size w w' := by
  have hcv := Lib.run_convert_bytes_const (P := Try.prog) w 26 5 (b8a [97, 98, 99]) 3 3 Try.underlying26 Try.underlying5
  have hz : b8a [97, 98, 99] = #[.int .u8 97, .int .u8 98, .int .u8 99] := rfl
  have hR := rbm w [97, 98, 99] 3 4
  have m1 := ((Mst.start w).alloc (.cells (b8a [97, 98, 99]) 5 (3, 4))).newrow 26 1 1 1 #[.slice (some ⟨w.heap.size, 0, none⟩) 3 3] (Nat.le_refl _) (by decide) rfl
  have hP : Pts ((w.alloc (.cells (b8a [97, 98, 99]) 5 (3, 4))).alloc (.cells #[.slice (some ⟨w.heap.size, 0, none⟩) 3 3] 26)) (some ⟨(w.alloc (.cells (b8a [97, 98, 99]) 5 (3, 4))).heap.size, 0, none⟩) [⟨some ⟨w.heap.size, 0, none⟩, 3, [97, 98, 99]⟩] := by
    refine ⟨m1.src (m1.rowSrc (List.mem_cons_self ..)), fun p hp => ?_⟩
    obtain rfl : p = ⟨some ⟨w.heap.size, 0, none⟩, 3, [97, 98, 99]⟩ := by simpa using hp
    exact (hR.below ((Below.refl _ _).alloc (Nat.le_refl _) _)).more (by simp)
  have hD := dsum_any _ _ 1 _ hP (by simp) (by simp [catP])
  rw [show catP [⟨some ⟨w.heap.size, 0, none⟩, 3, [97, 98, 99]⟩] = [97, 98, 99] from rfl] at hD
  rw [show (w.alloc (.cells (b8a [97, 98, 99]) 5 (3, 4))).heap.size = w.heap.size + 1 by simp] at hD
  obtain ⟨K, hK⟩ : ∃ K, sha [97, 98, 99] = K := ⟨_, rfl⟩
  rw [hK] at hD
  rw [hz] at hD hcv
  have HD := Lib.hid hD
  have M1 := Lib.hid (show Mst w ((w.alloc (.cells #[.int .u8 97, .int .u8 98, .int .u8 99] 5 (3, 4))).alloc (.cells #[.slice (some ⟨w.heap.size, 0, none⟩) 3 3] 26)) [] [] from m1.dropr)
  have hKl : K.length = 32 := by rw [← hK]; rfl
  have HKl := Lib.hid hKl
  have HKx := Lib.hid (show (hexL K).toArray = hexAbc.data by rw [← hK]; exact sha_abc2)
  clear hR m1 hP hD hK hz hKl
  go_enter Try.func34, Try.ntmps34
  go_wp2_with fail
  refine HD.out.mono ?_
  rintro e w3 ⟨rfl, hb3⟩
  have m3 := (M1.out.below hb3).new 54 Y32
  have B3 := Lib.hid (m3.blk [])
  have m4 := Mst.setRow (bl := []) [] m3 (b8a K)
  have B4 := m4.blk []
  have R4 := Lib.hid (show RB ((w3.alloc (.cells Y32 54)).setRow w3.heap.size (b8a K)) ((w3.alloc (.cells Y32 54)).setRow w3.heap.size (b8a K)).heap.size (some ⟨w3.heap.size, 0, none⟩) K from
    ⟨by rw [by8_length]; omega, fun _ => ⟨w3.heap.size, 0, rfl, B4.lt, fun j u hu => by rw [Nat.zero_add, B4.cell j]; simpa [b8a] using hu⟩⟩)
  have M4 := Lib.hid m4
  have I4 := Lib.hid (show (Try.prog.info? 54).map (·.size) = some (b8a K).size by rw [b8a_size, HKl.out]; exact info_arr32)
  have S4 := Lib.hid (show Y32.size = (b8a K).size by rw [b8a_size, HKl.out]; rfl)
  have O4 := Lib.hid (b8a_one K)
  have HX := hex_any _ (some ⟨w3.heap.size, 0, none⟩) 32 K R4.out (by rw [HKl.out]; decide)
  rw [HKl.out, show (⟨(hexL K).toArray⟩ : ByteArray) = hexAbc by rw [HKx.out]] at HX
  have HXX := Lib.hid HX
  have EQ := eq_abc
  clear hb3 m3 m4 B4 HX hcv
  go_wp2_with (first | refine wpList_store_row rfl _ _ _ rfl w3.heap.size (b8a K) rfl rfl 54 _ B3.out I4.out S4.out O4.out ?_)
  refine HXX.out.mono ?_
  rintro e w5 ⟨rfl, hb5⟩
  have HB5 := Lib.hid (M4.out.below hb5).bel
  clear hb5
  go_wp2
  go_ret
  exact ⟨rfl, HB5.out⟩
end Go.Proofs.Ythnaobolmgcclaa
