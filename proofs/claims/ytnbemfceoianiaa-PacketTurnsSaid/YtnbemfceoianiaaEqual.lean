/- The contract of bytes.Equal. -/
import Derived.Test.YtnbemfceoianiaaBaseB
import Derived.Laws.BytesArg
namespace Go.Proofs.Ytnbemfceoianiaa
set_option maxRecDepth 100000
set_option linter.unusedVariables false
open Go.RowKit

/-- Bytes as a string. -/
def strB (l : List UInt8) : ByteArray := ⟨l.toArray⟩
theorem strNums (l : List UInt8) : strOfNums (l.map fun b => (b.toNat : Int)) = strB l := by
  unfold strOfNums strB
  congr 1
  simp [List.map_map, Function.comp_def]
theorem conv_rb {w : World} {A : Option Addr} {l : List UInt8} (h : RB w w.heap.size A l) (c : Nat) : (convert 26 9 (.slice A l.length c)).run Try.prog w = .ok (.string (strB l)) w := by
  rcases A with _ | a
  · have h0 : l = [] := by
      rcases Nat.eq_zero_or_pos l.length with h1 | h1
      · exact List.eq_nil_of_length_eq_zero h1
      · obtain ⟨b, o, e, _⟩ := h.2 h1
        cases e
    subst h0
    exact run_convert_bytes_nil w 26 5 Try.underlying26 Try.underlying5 _ _ _ Try.underlying9
  · rcases Nat.eq_zero_or_pos l.length with h1 | h1
    · obtain rfl : l = [] := List.eq_nil_of_length_eq_zero h1
      rw [List.length_nil, run_convert_bytes_string w _ _ 5 _ _ c Try.underlying26 Try.underlying5 Try.underlying9, run_bytesToString w a 0 c [] (by simp [loadCells, loadCellsFrom])]
      rfl
    · obtain ⟨b, o, e, _, hc⟩ := h.2 h1
      obtain rfl := Option.some.inj e
      have := run_convert_bytes_arg (P := Try.prog) w 26 5 Try.underlying26 Try.underlying5 b o l.length c (l.map fun b => (b.toNat : Int)) (by simp) (fun i hi => by
        rw [hc i (.int .u8 (l[i].toNat : Int)) (by simp [by8, hi])]
        simp [List.getD, hi]) 9 Try.underlying9
      rw [this, strNums]
theorem strB_toList (l : List UInt8) : (strB l).toList = l := ByteArray.toList_eq _

set_option maxHeartbeats 400000 in
theorem equal_is (A A' : Option Addr) (c c' : Nat) (l l' : List UInt8) (v : Bool) (hv : decide (l = l') = v) (w : World) (hl : RB w w.heap.size A l) (hl' : RB w w.heap.size A' l') :
    Calls Try.prog 42 #[.slice A l.length c, .slice A' l'.length c'] w fun e w' => e = .returned (.bool v) ∧ w = w' := by
  have h1 := conv_rb hl c
  have h2 := conv_rb hl' c'
  have h3 : ((strB l).toList == (strB l').toList) = v := by rw [strB_toList, strB_toList, ← hv, Bool.eq_iff_iff]; simp
  obtain ⟨n, hn⟩ : ∃ n, l.length = n := ⟨_, rfl⟩
  obtain ⟨n', hn'⟩ : ∃ n, l'.length = n := ⟨_, rfl⟩
  obtain ⟨s, hs⟩ : ∃ s, strB l = s := ⟨_, rfl⟩
  obtain ⟨s', hs'⟩ : ∃ s, strB l' = s := ⟨_, rfl⟩
  rw [hn, hs] at h1
  rw [hn', hs'] at h2
  rw [hs, hs'] at h3
  rw [hn, hn']
  clear hl hl' hv hn hn' hs hs'
  go_enter Try.func42, Try.ntmps42
  go_wp2
  go_ret
  exact ⟨by first | rfl | (rw [← h3]; rfl), rfl⟩
end Go.Proofs.Ytnbemfceoianiaa
