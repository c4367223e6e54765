/- The chapter's example of fields; wire.Same. -/
import Derived.Test.YthnaobolmgcclaaPut1
import Derived.Test.YthnaobolmgcclaaSame
import Derived.Lib.SlBytesConst
namespace Go.Proofs.Ythnaobolmgcclaa
set_option linter.unusedVariables false
open Go.RowKit

theorem rb_marked (w1 : World) (x : UInt8) (lo hi : Nat) : RB (w1.alloc (.cells #[.int .u8 (x.toNat : Int)] 5 (lo, hi))) (w1.alloc (.cells #[.int .u8 (x.toNat : Int)] 5 (lo, hi))).heap.size (some ⟨w1.heap.size, 0, none⟩) [x] := by
  refine ⟨rfl, fun _ => ⟨w1.heap.size, 0, rfl, by simp, fun j u hu => ?_⟩⟩
  have hh : (w1.alloc (.cells #[.int .u8 (x.toNat : Int)] 5 (lo, hi))).heap[w1.heap.size]? = some (.cells #[.int .u8 (x.toNat : Int)] 5 (lo, hi)) := by
    show (w1.heap.push _)[w1.heap.size]? = _
    simp
  have hj : j = 0 := by
    have := (List.getElem?_eq_some_iff.1 hu).1
    simpa [by8] using this
  subst hj
  simp [by8] at hu
  subst hu
  exact (cell_of_row _ w1.heap.size (0 + 0) _ _ (lo, hi) hh).trans rfl
theorem kn04 (A : Option Addr) (c : Nat) : putsB (putB ([], 0) (nf 1 258)) [bf A c [97]] = ([1, 2, 0, 1, 97], 0) := by
  have : putB (putB ([], 0) (nf 1 258)) (bf none 0 [97]) = ([1, 2, 0, 1, 97], 0) := by decide
  exact this
set_option maxRecDepth 100000 in
set_option maxHeartbeats 1600000 in
theorem known04 (w : World) : Calls Try.prog 26 #[] w fun e w' => e = .returned (.bool true) ∧ Below w.heap.size w w' := by
  have hcv : ∀ (w : World) (x : Value), (convert 26 26 (.slice (some ⟨w.heap.size, 0, none⟩) 1 1)).run Try.prog (w.alloc (.cells #[x] 5)) = .ok (.slice (some ⟨w.heap.size, 0, none⟩) 1 1) (w.alloc (.cells #[x] 5 (1, 2))) := fun w x => Lib.run_convert_bytes_const w _ _ #[x] 1 1 Try.underlying26 Try.underlying5
  have P0 := Lib.hid (WrAt.start (Mst.start w))
  have P1 := Lib.hid (P0.out.newb 3 #[.int .i64 258])
  have hcv1 := Lib.hid hcv
  clear hcv
  go_enter Try.func26, Try.ntmps26
  go_wp2_with fail
  refine (num_blk (b := w.heap.size + 1) (s := 1) (n := 258) P1.out (by simp) (by omega) (by decide)).mono ?_
  rintro e w1 ⟨rfl, h1⟩
  have hlt := h1.lt
  have hcv := hcv1.out w1 (.int .u8 97)
  have P2 := Lib.hid ((h1.alloc (.cells #[.int .u8 97] 5 (1, 2))).newb 26 #[.slice (some ⟨w1.heap.size, 0, none⟩) 1 1])
  have RX := Lib.hid (rb_marked w1 97 1 2)
  clear h1
  go_wp2_with fail
  refine (wbytes_first w _ _ _ _ _ P2.out [bf (some ⟨w1.heap.size, 0, none⟩) 1 [97]] (some ⟨w1.heap.size + 1, 0, none⟩) _ (Src.blk (g := w1.heap.size + 1) (t := 26) (cs := #[.slice (some ⟨w1.heap.size, 0, none⟩) 1 1]) (by simp) rfl) ?_ (by simp) (by decide) (by simp [maxLen])).mono ?_
  · intro f hf
    simp only [List.mem_singleton] at hf
    subst hf
    refine ⟨rfl, rfl, by simp [bf], RX.out.alloc _, fun b o h => ?_⟩
    simp only [bf, Option.some.injEq, Addr.mk.injEq] at h
    omega
  rintro e w2 ⟨rfl, h2⟩
  rw [kn04] at h2
  have P3 := Lib.hid h2
  clear h2
  go_wp2_with fail
  refine (wout_any w _ _ _ _ _ P3.out (by decide)).mono ?_
  rintro e w3 ⟨v, v2, rfl, h3⟩
  have h4 := h3.row []
  obtain ⟨A, c, rfl, hr, _⟩ := own_form h4
  have HB := Lib.hid h3.bel
  have hsz := h3.bel.size
  have HR := Lib.hid (show RB w3 w3.heap.size A [1, 2, 0, 1, 97] from (show Rd .. from hr).more (by simp))
  clear h3 h4 hr
  go_wp2_with fail
  refine ((same_yes A (some ⟨w3.heap.size, 0, none⟩) c 5 [1, 2, 0, 1, 97] _ ?_ ?_ (by simp [maxLen]))).mono ?_
  · exact (HR.out.below ((Below.refl w3.heap.size w3).alloc (Nat.le_refl _) _)).more (by simp)
  · exact Rd.new1 (size := 1) (n := 5) w3 _ _ rfl
  rintro e w4 ⟨rfl, hb2⟩
  have HB2 := Lib.hid ((HB.out.alloc hsz _).trans (hb2.mono (by simp; omega)))
  clear hb2
  go_wp2_with fail
  go_ret
  exact ⟨rfl, HB2.out⟩

end Go.Proofs.Ythnaobolmgcclaa
