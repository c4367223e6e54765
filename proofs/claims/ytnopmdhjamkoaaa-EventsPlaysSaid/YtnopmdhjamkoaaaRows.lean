/-
  No cell of these rows narrows 'for every input' (looked for: loops, veiled, ifaces, maps, wideKeys, modest, calm, conditions, laid).
  DERIVED. THE GIVEN ROWS OF THIS SEAT. 3 by the template 'for every input the law returns true; each argument reads behind the call as it read before'; 0 by the template 'total and deterministic' (their statements: YtnopmdhjamkoaaaTotals.lean).
  GIVEN WITH THE SEED: the statements are not yours to turn. If you find one false, say at which input.
  Laid BY PROGRAM, IN A SANDBOX (cutbox-rows.mjs): the forced cells as the released guide's own fill.sh prints them over the translation 968068de70076ff8… (all of the seat's roots in one cut). By AI agents, Wed Nov 11 2026. No macro, syntax, notation, axiom, sorry.
-/
import Derived.Test.YtnopmdhjamkoaaaChecked
import GoSem.Claim
import GoSem.ClaimJoined
import GoSem.ClaimMapViews
import Derived.JoinedTies
import Derived.KernelRfl
namespace Go.Proofs.Ytnopmdhjamkoaaa
/- THE CELL 'sum', in the pinned program and in every row, IS THE sha256 OF THE DUMP (.gsa) THAT YtnopmdhjamkoaaaProg.lean LOADS. Nothing in Lean hashes anything: it is a label: what it is worth is what the hold of that sum in a sandbox is worth. -/
noncomputable def Try.pinned : Pinned := { name := "ytnopmdhjamkoaaa", sum := "968068de70076ff89ac487f1e105b6a7a12aa8c32adf049cf72d867d0e50c2c3", checked := Try.checked }
namespace Rows
def none {H : Type} : Left H := { results := [], args := [] }

/-- 'vigillaw27.EventsHides': WHATEVER THE INPUT: true; the input reads as it did. -/
def eventsHidesSpec : ChangeSpec := { name := "eventsHides", fn := fun _ => fun
  | [d1, d2, d3] => { results := [.lit (.bool true)], args := [d1, d2, d3] }
  | _ => none }
def eventsHidesRow : OpenClaim := { program := "ytnopmdhjamkoaaa", sum := "968068de70076ff89ac487f1e105b6a7a12aa8c32adf049cf72d867d0e50c2c3", func := "vigil/vigillaw27.EventsHides", spec := "eventsHides", unfollowed := true, recurses := true, apart := false }
def EventsHidesSaid : Prop := eventsHidesRow.holds Try.pinned (OpenSpec.ofChange eventsHidesSpec)

/-- ITS FALSE NEIGHBOUR: 'it returns false'. Refute it at one input. -/
def eventsHidesWrong : ChangeSpec := { name := "eventsHides", fn := fun _ => fun
  | [d1, d2, d3] => { results := [.lit (.bool false)], args := [d1, d2, d3] }
  | _ => none }
def EventsHidesWrongFalsely : Prop := eventsHidesRow.holds Try.pinned (OpenSpec.ofChange eventsHidesWrong)

/-- 'vigillaw27.EventsRoom': WHATEVER THE INPUT: true; the input reads as it did. -/
def eventsRoomSpec : ChangeSpec := { name := "eventsRoom", fn := fun _ => fun
  | [d1, d2] => { results := [.lit (.bool true)], args := [d1, d2] }
  | _ => none }
def eventsRoomRow : OpenClaim := { program := "ytnopmdhjamkoaaa", sum := "968068de70076ff89ac487f1e105b6a7a12aa8c32adf049cf72d867d0e50c2c3", func := "vigil/vigillaw27.EventsRoom", spec := "eventsRoom", unfollowed := true, recurses := true, apart := false }
def EventsRoomSaid : Prop := eventsRoomRow.holds Try.pinned (OpenSpec.ofChange eventsRoomSpec)

/-- ITS FALSE NEIGHBOUR: 'it returns false'. Refute it at one input. -/
def eventsRoomWrong : ChangeSpec := { name := "eventsRoom", fn := fun _ => fun
  | [d1, d2] => { results := [.lit (.bool false)], args := [d1, d2] }
  | _ => none }
def EventsRoomWrongFalsely : Prop := eventsRoomRow.holds Try.pinned (OpenSpec.ofChange eventsRoomWrong)

/-- 'vigillaw27.EventsPlays': WHATEVER THE INPUT: true; the input reads as it did. -/
def eventsPlaysSpec : ChangeSpec := { name := "eventsPlays", fn := fun _ => fun
  | [d1, d2, d3, d4, d5] => { results := [.lit (.bool true)], args := [d1, d2, d3, d4, d5] }
  | _ => none }
def eventsPlaysRow : OpenClaim := { program := "ytnopmdhjamkoaaa", sum := "968068de70076ff89ac487f1e105b6a7a12aa8c32adf049cf72d867d0e50c2c3", func := "vigil/vigillaw27.EventsPlays", spec := "eventsPlays", unfollowed := true, recurses := true, apart := false }
def EventsPlaysSaid : Prop := eventsPlaysRow.holds Try.pinned (OpenSpec.ofChange eventsPlaysSpec)

/-- ITS FALSE NEIGHBOUR: 'it returns false'. Refute it at one input. -/
def eventsPlaysWrong : ChangeSpec := { name := "eventsPlays", fn := fun _ => fun
  | [d1, d2, d3, d4, d5] => { results := [.lit (.bool false)], args := [d1, d2, d3, d4, d5] }
  | _ => none }
def EventsPlaysWrongFalsely : Prop := eventsPlaysRow.holds Try.pinned (OpenSpec.ofChange eventsPlaysWrong)

/- THE SECOND FORM. 'bulk': how many values and letters a reading holds, each counted each time it is reached (what is shared counts as often as it is met; a slice's spare places count too). A statement '..UptoSaid' is the law's where the arguments, and the package variables that the reading takes, are together of bulk at most 1048576: NARROWER than '..Said'. Prove '..Said' where nothing that the law and all that it calls make is longer than what came in: it says more and counts as full. Else prove '..UptoSaid'. A law counts once. -/
mutual
def uptoBulk {H : Type} : DataW H → Nat
  | .lit (.string bytes) => bytes.length + 1
  | .lit _ => 1
  | .nil => 1
  | .ptr d => uptoBulk d + 1
  | .slice elems spare => uptoBulkAll elems + uptoBulkAll spare + 1
  | .agg parts => uptoBulkAll parts + 1
  | .iface _ d => uptoBulk d + 1
  | .map entries => uptoBulkEntries entries + 1
  | .held _ => 1
def uptoBulkAll {H : Type} : List (DataW H) → Nat
  | [] => 0
  | d :: r => uptoBulk d + uptoBulkAll r
def uptoBulkEntries {H : Type} : List (Lit × DataW H) → Nat
  | [] => 0
  | x :: r => uptoBulkEntry x + uptoBulkEntries r
def uptoBulkEntry {H : Type} : Lit × DataW H → Nat
  | (.string bytes, d) => bytes.length + uptoBulk d + 1
  | (_, d) => uptoBulk d + 1
 end
def uptoSmall : (H : Type) → List (DataW H) → Bool := fun _ ds => decide (uptoBulkAll ds ≤ 1048576)
def OpenSpec.upto (s : _root_.Go.ChangeSpec) : _root_.Go.OpenSpec := { _root_.Go.OpenSpec.ofChange s with cond := some uptoSmall }

/-- 'vigillaw27.EventsHides', WHERE WHAT IT READS IS OF BULK AT MOST 1048576: true; the input reads as it did. -/
def eventsHidesUptoRow : OpenClaim := { program := "ytnopmdhjamkoaaa", sum := "968068de70076ff89ac487f1e105b6a7a12aa8c32adf049cf72d867d0e50c2c3", func := "vigil/vigillaw27.EventsHides", spec := "eventsHides", unfollowed := true, recurses := true, apart := false, narrowed := true }
def EventsHidesUptoSaid : Prop := eventsHidesUptoRow.holds Try.pinned (OpenSpec.upto eventsHidesSpec)

/-- 'vigillaw27.EventsRoom', WHERE WHAT IT READS IS OF BULK AT MOST 1048576: true; the input reads as it did. -/
def eventsRoomUptoRow : OpenClaim := { program := "ytnopmdhjamkoaaa", sum := "968068de70076ff89ac487f1e105b6a7a12aa8c32adf049cf72d867d0e50c2c3", func := "vigil/vigillaw27.EventsRoom", spec := "eventsRoom", unfollowed := true, recurses := true, apart := false, narrowed := true }
def EventsRoomUptoSaid : Prop := eventsRoomUptoRow.holds Try.pinned (OpenSpec.upto eventsRoomSpec)

/-- 'vigillaw27.EventsPlays', WHERE WHAT IT READS IS OF BULK AT MOST 1048576: true; the input reads as it did. -/
def eventsPlaysUptoRow : OpenClaim := { program := "ytnopmdhjamkoaaa", sum := "968068de70076ff89ac487f1e105b6a7a12aa8c32adf049cf72d867d0e50c2c3", func := "vigil/vigillaw27.EventsPlays", spec := "eventsPlays", unfollowed := true, recurses := true, apart := false, narrowed := true }
def EventsPlaysUptoSaid : Prop := eventsPlaysUptoRow.holds Try.pinned (OpenSpec.upto eventsPlaysSpec)

end Rows
end Go.Proofs.Ytnopmdhjamkoaaa
