/- Contracts of package wire: the reader's parts: fail, take, number. -/
import Derived.Test.YtnbemfceoianiaaDoorRdP
import Derived.Test.YtnbemfceoianiaaDoorBaseA
import Derived.Test.YtnbemfceoianiaaDoorWireC
import Derived.Laws.BitsAll
namespace Go.Proofs.YtnbemfceoianiaaDoor
set_option linter.unusedVariables false
open Go.RowKit

theorem Src.take1 {W : World} {bl : Bl} {ow : List Ro} {A : Option Addr} {L : Nat} {xs : List Value} (h : Src W bl ow 1 A L xs) {n : Nat} (hn : n ≤ L) : Src W bl ow 1 A n (xs.take n) := by
  refine ⟨by have := h.1; simp only [List.length_take]; omega, fun h0 => ?_⟩
  obtain ⟨b, o, e, _⟩ := h.2 (by omega)
  have := h.part e 0 n (by omega)
  simp only [List.drop_zero, Nat.mul_one, Nat.add_zero] at this
  obtain ⟨b', o', e', hc⟩ := this.2 h0
  exact ⟨b', o', e.trans e', hc⟩
theorem Src.drop1 {W : World} {bl : Bl} {ow : List Ro} {A : Option Addr} {L : Nat} {xs : List Value} (h : Src W bl ow 1 A L xs) (n : Nat) : Src W bl ow 1 (A.map (fun x => x.add n)) (L - n) (xs.drop n) := by
  have hl := h.1
  refine ⟨by simp only [List.length_drop]; omega, fun h0 => ?_⟩
  obtain ⟨b, o, e, _⟩ := h.2 (by omega)
  have := h.part e n (L - n) (by omega)
  simp only [Nat.mul_one] at this
  rw [List.take_of_length_le (by simp only [List.length_drop]; omega)] at this
  obtain ⟨b', o', e', hc⟩ := this.2 h0
  refine ⟨b', o', ?_, hc⟩
  rw [e]
  simp only [Option.map_some]
  rw [← e', WideShapes.add_plain]
theorem by8_drop (l : List UInt8) (n : Nat) : by8 (l.drop n) = (by8 l).drop n := by simp [by8, List.map_drop]
theorem by8_take (l : List UInt8) (n : Nat) : by8 (l.take n) = (by8 l).take n := by simp [by8, List.map_take]

end Go.Proofs.YtnbemfceoianiaaDoor
