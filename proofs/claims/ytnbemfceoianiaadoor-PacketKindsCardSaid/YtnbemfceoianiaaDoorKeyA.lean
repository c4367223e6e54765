/- Key1. Key2. -/
import Derived.Test.YtnbemfceoianiaaDoorMacA
/- Contracts of package mac's keys. -/
namespace Go.Proofs.YtnbemfceoianiaaDoor
set_option linter.unusedVariables false
set_option linter.unusedSimpArgs false
open Go.RowKit

/-- A key in memory: its bytes. -/
def KeyW (w : World) (gk : Nat) (kb : List UInt8) : Prop := ∃ A c, w.cell? ⟨gk, 0, none⟩ = some (.slice A kb.length c) ∧ RB w w.heap.size A kb
theorem KeyW.lt {w : World} {gk : Nat} {kb : List UInt8} (h : KeyW w gk kb) : gk < w.heap.size := by
  obtain ⟨A, c, h1, _⟩ := h
  exact block_lt_of_cell h1
theorem KeyW.keep {w w' : World} {gk : Nat} {kb : List UInt8} (h : KeyW w gk kb) (hb : Below w.heap.size w w') : KeyW w' gk kb := by
  have hl := h.lt
  obtain ⟨A, c, h1, h2⟩ := h
  exact ⟨A, c, (hb.cell (p := ⟨gk, 0, none⟩) hl).trans h1, (h2.below hb).more hb.size⟩
theorem Mst.key {W w : World} {bl : Bl} {ow : List Ro} {gk c n : Nat} {A : Option Addr} {kb : List UInt8} {t : TypeId} (h : Mst W w bl ow) (hb : (gk, t, #[Value.slice A n c]) ∈ bl) (hn : kb.length = n) (hr : Src W bl ow 1 A n (by8 kb)) : KeyW w gk kb := by
  subst hn
  exact ⟨A, c, (h.bk _ hb).1.cell 0, h.src hr⟩

end Go.Proofs.YtnbemfceoianiaaDoor
/- Contracts of package mac's keys: Derive, Print, Zero. -/
namespace Go.Proofs.YtnbemfceoianiaaDoor
set_option linter.unusedVariables false
set_option linter.unusedSimpArgs false
open Go.RowKit

theorem Pts.stay {w w' : World} {A : Option Addr} {ps : List Pt} (h : Pts w A ps) (hb : Below w.heap.size w w') : Pts w' A ps :=
  ⟨(h.1.below hb).more hb.size, fun p hp => ((h.2 p hp).below hb).more hb.size⟩
theorem Pts.allocE {w w2 : World} {A : Option Addr} {ps : List Pt} {ob : Obj} (h : Pts w A ps) (hw : w.alloc ob = w2) : Pts w2 A ps := by
  subst hw
  exact h.stay ((Below.refl _ _).alloc (Nat.le_refl _) _)
end Go.Proofs.YtnbemfceoianiaaDoor
