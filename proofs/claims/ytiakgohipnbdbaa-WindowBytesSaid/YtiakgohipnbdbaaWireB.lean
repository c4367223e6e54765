/- Contracts of package wire: Writer.Bytes; what a nil writer and a nil reader do. -/
import Derived.Test.YtiakgohipnbdbaaWireX
import Derived.Test.YtiakgohipnbdbaaRdP
namespace Go.Proofs.Ytiakgohipnbdbaa
set_option linter.unusedVariables false
open Go.RowKit

/-- Bytes as a field. -/
def bf (A : Option Addr) (c : Nat) (l : List UInt8) : Fd := ⟨4, 0, A, c, l⟩
def bcs (fs : List Fd) : List Value := fs.map fun f => .slice f.A f.l.length f.c
theorem bcs_at {W w : World} {bl : Bl} {ow : List Ro} {A : Option Addr} {fs : List Fd} (h : Mst W w bl ow) (hs : Src W bl ow 1 A fs.length (bcs fs)) {k : Nat} {f : Fd} (hk : fs[k]? = some f) :
    ∃ b o, A = some ⟨b, o, none⟩ ∧ b < w.heap.size ∧ w.cell? ⟨b, o + k, none⟩ = some (.slice f.A f.l.length f.c) := by
  have hlt := (List.getElem?_eq_some_iff.1 hk).1
  obtain ⟨b, o, e, hb, hc⟩ := (h.src hs).2 (by omega)
  exact ⟨b, o, e, hb, hc _ _ (by simp [bcs, hk])⟩

set_option maxHeartbeats 400000 in
theorem put_nil (v : Value) (A : Option Addr) (n c : Nat) (hv : v = .slice A n c) (w : World) : Calls Try.prog 79 #[.pointer none, v] w fun e w' => e = .returned (.pointer none) ∧ w = w' := by
  subst hv
  go_enter Try.func79, Try.ntmps79
  go_wp2_with fail
  go_step3
  go_wp2
  try rw [Exit.noGoto_ret]
  go_ret
  exact ⟨rfl, rfl⟩
set_option maxHeartbeats 400000 in
theorem out_nil (w : World) : Calls Try.prog 54 #[.pointer none] w fun e w' => e = .returned (.tuple #[.slice none 0 0, .int .i64 11]) ∧ w = w' := by
  go_enter Try.func54, Try.ntmps54
  go_wp2
  go_ret2
  exact ⟨rfl, rfl⟩

end Go.Proofs.Ytiakgohipnbdbaa
