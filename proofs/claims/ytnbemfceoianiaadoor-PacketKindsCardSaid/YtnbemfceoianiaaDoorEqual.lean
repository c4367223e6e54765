/- The contract of bytes.Equal. -/
import Derived.Test.YtnbemfceoianiaaDoorBaseB
import Derived.Laws.BytesArg
namespace Go.Proofs.YtnbemfceoianiaaDoor
set_option maxRecDepth 100000
set_option linter.unusedVariables false
open Go.RowKit

/-- Bytes as a string. -/
def strB (l : List UInt8) : ByteArray := ⟨l.toArray⟩
theorem strNums (l : List UInt8) : strOfNums (l.map fun b => (b.toNat : Int)) = strB l := by
  unfold strOfNums strB
  congr 1
  simp [List.map_map, Function.comp_def]
theorem conv_rb {w : World} {A : Option Addr} {l : List UInt8} (h : RB w w.heap.size A l) (c : Nat) : (convert 30 9 (.slice A l.length c)).run Tryd.prog w = .ok (.string (strB l)) w := by
  rcases A with _ | a
  · have h0 : l = [] := by
      rcases Nat.eq_zero_or_pos l.length with h1 | h1
      · exact List.eq_nil_of_length_eq_zero h1
      · obtain ⟨b, o, e, _⟩ := h.2 h1
        cases e
    subst h0
    exact run_convert_bytes_nil w 30 5 Tryd.underlying30 Tryd.underlying5 _ _ _ Tryd.underlying9
  · rcases Nat.eq_zero_or_pos l.length with h1 | h1
    · obtain rfl : l = [] := List.eq_nil_of_length_eq_zero h1
      rw [List.length_nil, run_convert_bytes_string w _ _ 5 _ _ c Tryd.underlying30 Tryd.underlying5 Tryd.underlying9, run_bytesToString w a 0 c [] (by simp [loadCells, loadCellsFrom])]
      rfl
    · obtain ⟨b, o, e, _, hc⟩ := h.2 h1
      obtain rfl := Option.some.inj e
      have := run_convert_bytes_arg (P := Tryd.prog) w 30 5 Tryd.underlying30 Tryd.underlying5 b o l.length c (l.map fun b => (b.toNat : Int)) (by simp) (fun i hi => by
        rw [hc i (.int .u8 (l[i].toNat : Int)) (by simp [by8, hi])]
        simp [List.getD, hi]) 9 Tryd.underlying9
      rw [this, strNums]
theorem strB_toList (l : List UInt8) : (strB l).toList = l := ByteArray.toList_eq _

end Go.Proofs.YtnbemfceoianiaaDoor
