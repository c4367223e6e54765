/- The chapter's example of tags. -/
import Derived.Test.YthnaobolmgcclaaMac3
import Derived.Test.YthnaobolmgcclaaKn01
namespace Go.Proofs.Ythnaobolmgcclaa
set_option linter.unusedVariables false
set_option linter.unusedSimpArgs false
open Go.RowKit

abbrev jefe : List UInt8 := [74, 101, 102, 101]
abbrev want : List UInt8 := [119, 104, 97, 116, 32, 100, 111, 32, 121, 97, 32, 119, 97, 110, 116, 32, 102, 111, 114, 32, 110, 111, 116, 104, 105, 110, 103, 63]
abbrev hexJefe : ByteArray := ⟨#[53, 98, 100, 99, 99, 49, 52, 54, 98, 102, 54, 48, 55, 53, 52, 101, 54, 97, 48, 52, 50, 52, 50, 54, 48, 56, 57, 53, 55, 53, 99, 55, 53, 97, 48, 48, 51, 102, 48, 56, 57, 100, 50, 55, 51, 57, 56, 51, 57, 100, 101, 99, 53, 56, 98, 57, 54, 52, 101, 99, 51, 56, 52, 51]⟩
theorem mac_jefe : (hexL (macT jefe want)).toArray = hexJefe.data := by kernel_rfl
theorem eq_jefe (w : World) : (binOp .eql 9 (.string hexJefe) (.string hexJefe)).run Try.prog w = .ok (.bool true) w := by
  simp [binOp, Op.stringOp]
theorem hz_jefe : b8a jefe = #[.int .u8 74, .int .u8 101, .int .u8 102, .int .u8 101] := rfl
theorem hz_want : b8a want = #[.int .u8 119, .int .u8 104, .int .u8 97, .int .u8 116, .int .u8 32, .int .u8 100, .int .u8 111, .int .u8 32, .int .u8 121, .int .u8 97, .int .u8 32, .int .u8 119, .int .u8 97, .int .u8 110, .int .u8 116, .int .u8 32, .int .u8 102, .int .u8 111, .int .u8 114, .int .u8 32, .int .u8 110, .int .u8 111, .int .u8 116, .int .u8 104, .int .u8 105, .int .u8 110, .int .u8 103, .int .u8 63] := rfl
set_option maxRecDepth 100000 in
set_option maxHeartbeats 1000000 in
theorem known02 (w : World) : Calls Try.prog 47 #[] w fun e w' => e = .returned (.bool true) ∧ Below w.heap.size w w' := by
  have hcv := Lib.run_convert_bytes_const (P := Try.prog) w 26 5 (b8a jefe) 4 4 Try.underlying26 Try.underlying5
  obtain ⟨w1, hw1⟩ : ∃ w1, w.alloc (.cells (b8a jefe) 5 (4, 5)) = w1 := ⟨_, rfl⟩
  have hcv2 := Lib.run_convert_bytes_const (P := Try.prog) w1 26 5 (b8a want) 28 28 Try.underlying26 Try.underlying5
  have s1 : w1.heap.size = w.heap.size + 1 := by rw [← hw1]; simp
  have hR : RB w1 w1.heap.size (some ⟨w.heap.size, 0, none⟩) jefe := hw1 ▸ rbm w jefe 4 5
  have hb1 : Below w.heap.size w w1 := hw1 ▸ (Below.refl _ _).alloc (Nat.le_refl _) _
  obtain ⟨w2, hw2⟩ : ∃ w2, w1.alloc (.cells (b8a want) 5 (28, 29)) = w2 := ⟨_, rfl⟩
  have s2 : w2.heap.size = w.heap.size + 1 + 1 := by rw [← hw2, ← s1]; simp
  have hb2 : Below w1.heap.size w1 w2 := hw2 ▸ (Below.refl _ _).alloc (Nat.le_refl _) _
  have hR1 : RB w2 w2.heap.size (some ⟨w.heap.size, 0, none⟩) jefe := (hR.below hb2).more hb2.size
  have hR2 : RB w2 w2.heap.size (some ⟨w1.heap.size, 0, none⟩) want := hw2 ▸ rbm w1 want 28 29
  have m3 := (Mst.start w2).one (A := some ⟨w1.heap.size, 0, none⟩) (l := want) (Src.old hR2) 28
  have hD := mtag_any _ (some ⟨w.heap.size, 0, none⟩) 4 jefe (m3.1.src (Src.old hR1)) (by decide) _ 1 _ m3.2 (by simp) (by simp [catP])
  rw [show catP [(⟨some ⟨w1.heap.size, 0, none⟩, 28, want⟩ : Pt)] = want from rfl] at hD
  obtain ⟨K, hK⟩ : ∃ K, macT jefe want = K := ⟨_, rfl⟩
  have hKl : K.length = 32 := by rw [← hK]; rfl
  have HKl := Lib.hid hKl
  have HKx := Lib.hid (show (hexL K).toArray = hexJefe.data by rw [← hK]; exact mac_jefe)
  have M1 := Lib.hid (show Mst w _ [] [] from ⟨hb1.trans ((hb2.mono hb1.size).trans (m3.1.bel.mono (Nat.le_trans hb1.size hb2.size))), by simp, by simp, by simp, by simp, by simp⟩)
  rw [hK, s2, s1, ← hw2, ← hw1, hz_jefe, hz_want] at hD
  rw [s1, ← hw2, ← hw1, hz_jefe, hz_want] at M1
  rw [s1, ← hw1, hz_jefe, hz_want] at hcv2
  rw [hz_jefe] at hcv
  have HD := Lib.hid hD
  clear hR hR1 hR2 m3 hD hK hKl hb1 hb2 s1 s2 hw1 hw2
  go_enter Try.func47, Try.ntmps47
  go_wp2_with fail
  refine HD.out.mono ?_
  rintro e w3 ⟨rfl, hb3⟩
  have m3 := M1.out.below hb3
  have M4 := Lib.hid (m3.arr32 K)
  have HX := hex_any _ (some ⟨w3.heap.size, 0, none⟩) 32 K (by unfold RB; rw [HKl.out]; exact M4.out.src (Src.arr (List.mem_cons_self ..) HKl.out)) (by rw [HKl.out]; decide)
  rw [HKl.out, show (⟨(hexL K).toArray⟩ : ByteArray) = hexJefe by rw [HKx.out]] at HX
  have HXX := Lib.hid HX
  have EQ := eq_jefe
  clear hb3 m3 HX hcv hcv2
  go_wp2_with (first | refine wpList_store_row rfl _ _ _ rfl w3.heap.size (b8a K) rfl rfl 54 _ (Bk.mk_ _ _ _) (info_k HKl.out) (y32_k HKl.out) (b8a_one K) ?_)
  refine HXX.out.mono ?_
  rintro e w5 ⟨rfl, hb5⟩
  have HB5 := Lib.hid (M4.out.below hb5).bel
  clear hb5
  go_wp2
  go_ret
  exact ⟨rfl, HB5.out⟩
end Go.Proofs.Ythnaobolmgcclaa
