/-
  No cell of these rows narrows 'for every input' (looked for: loops, veiled, ifaces, maps, wideKeys, modest, calm, conditions, laid).
  DERIVED. THE GIVEN ROWS OF THIS SEAT. 12 by the template 'for every input the law returns true; each argument reads behind the call as it read before'; 0 by the template 'total and deterministic' (their statements: YtidphalfafaniaaTotals.lean).
  GIVEN WITH THE SEED: the statements are not yours to turn. If you find one false, say at which input.
  Laid BY PROGRAM, IN A SANDBOX (cutbox-rows.mjs): the forced cells as the released guide's own fill.sh prints them over the translation 22d0b44936242c00… (all of the seat's roots in one cut). By AI agents, Wed Nov 11 2026. No macro, syntax, notation, axiom, sorry.
-/
import Derived.Test.YtidphalfafaniaaChecked
import GoSem.Claim
import GoSem.ClaimJoined
import GoSem.ClaimMapViews
import Derived.JoinedTies
import Derived.KernelRfl
namespace Go.Proofs.Ytidphalfafaniaa
/- THE CELL 'sum', in the pinned program and in every row, IS THE sha256 OF THE DUMP (.gsa) THAT YtidphalfafaniaaProg.lean LOADS. Nothing in Lean hashes anything: it is a label: what it is worth is what the hold of that sum in a sandbox is worth. -/
noncomputable def Try.pinned : Pinned := { name := "ytidphalfafaniaa", sum := "22d0b44936242c007a242dff805c96443872b06e825ba0bc74651dab26158e9c", checked := Try.checked }
namespace Rows
def none {H : Type} : Left H := { results := [], args := [] }

/-- 'vigillaw12.WindowOnce': WHATEVER THE INPUT: true; the input reads as it did. -/
def windowOnceSpec : ChangeSpec := { name := "windowOnce", fn := fun _ => fun
  | [d] => { results := [.lit (.bool true)], args := [d] }
  | _ => none }
def windowOnceRow : OpenClaim := { program := "ytidphalfafaniaa", sum := "22d0b44936242c007a242dff805c96443872b06e825ba0bc74651dab26158e9c", func := "vigil/vigillaw12.WindowOnce", spec := "windowOnce", apart := false }
def WindowOnceSaid : Prop := windowOnceRow.holds Try.pinned (OpenSpec.ofChange windowOnceSpec)

/-- ITS FALSE NEIGHBOUR: 'it returns false'. Refute it at one input. -/
def windowOnceWrong : ChangeSpec := { name := "windowOnce", fn := fun _ => fun
  | [d] => { results := [.lit (.bool false)], args := [d] }
  | _ => none }
def WindowOnceWrongFalsely : Prop := windowOnceRow.holds Try.pinned (OpenSpec.ofChange windowOnceWrong)

/-- 'vigillaw12.WindowShuffles': WHATEVER THE INPUT: true; the input reads as it did. -/
def windowShufflesSpec : ChangeSpec := { name := "windowShuffles", fn := fun _ => fun
  | [d1, d2, d3] => { results := [.lit (.bool true)], args := [d1, d2, d3] }
  | _ => none }
def windowShufflesRow : OpenClaim := { program := "ytidphalfafaniaa", sum := "22d0b44936242c007a242dff805c96443872b06e825ba0bc74651dab26158e9c", func := "vigil/vigillaw12.WindowShuffles", spec := "windowShuffles", apart := false }
def WindowShufflesSaid : Prop := windowShufflesRow.holds Try.pinned (OpenSpec.ofChange windowShufflesSpec)

/-- ITS FALSE NEIGHBOUR: 'it returns false'. Refute it at one input. -/
def windowShufflesWrong : ChangeSpec := { name := "windowShuffles", fn := fun _ => fun
  | [d1, d2, d3] => { results := [.lit (.bool false)], args := [d1, d2, d3] }
  | _ => none }
def WindowShufflesWrongFalsely : Prop := windowShufflesRow.holds Try.pinned (OpenSpec.ofChange windowShufflesWrong)

/-- 'vigillaw13.DropsCount': WHATEVER THE INPUT: true; the input reads as it did. -/
def dropsCountSpec : ChangeSpec := { name := "dropsCount", fn := fun _ => fun
  | [d1, d2] => { results := [.lit (.bool true)], args := [d1, d2] }
  | _ => none }
def dropsCountRow : OpenClaim := { program := "ytidphalfafaniaa", sum := "22d0b44936242c007a242dff805c96443872b06e825ba0bc74651dab26158e9c", func := "vigil/vigillaw13.DropsCount", spec := "dropsCount", apart := false }
def DropsCountSaid : Prop := dropsCountRow.holds Try.pinned (OpenSpec.ofChange dropsCountSpec)

/-- ITS FALSE NEIGHBOUR: 'it returns false'. Refute it at one input. -/
def dropsCountWrong : ChangeSpec := { name := "dropsCount", fn := fun _ => fun
  | [d1, d2] => { results := [.lit (.bool false)], args := [d1, d2] }
  | _ => none }
def DropsCountWrongFalsely : Prop := dropsCountRow.holds Try.pinned (OpenSpec.ofChange dropsCountWrong)

/-- 'vigillaw12.WindowPlays': WHATEVER THE INPUT: true; the input reads as it did. -/
def windowPlaysSpec : ChangeSpec := { name := "windowPlays", fn := fun _ => fun
  | [d1, d2] => { results := [.lit (.bool true)], args := [d1, d2] }
  | _ => none }
def windowPlaysRow : OpenClaim := { program := "ytidphalfafaniaa", sum := "22d0b44936242c007a242dff805c96443872b06e825ba0bc74651dab26158e9c", func := "vigil/vigillaw12.WindowPlays", spec := "windowPlays", apart := false }
def WindowPlaysSaid : Prop := windowPlaysRow.holds Try.pinned (OpenSpec.ofChange windowPlaysSpec)

/-- ITS FALSE NEIGHBOUR: 'it returns false'. Refute it at one input. -/
def windowPlaysWrong : ChangeSpec := { name := "windowPlays", fn := fun _ => fun
  | [d1, d2] => { results := [.lit (.bool false)], args := [d1, d2] }
  | _ => none }
def WindowPlaysWrongFalsely : Prop := windowPlaysRow.holds Try.pinned (OpenSpec.ofChange windowPlaysWrong)

/-- 'vigillaw12.WindowCounts': WHATEVER THE INPUT: true; the input reads as it did. -/
def windowCountsSpec : ChangeSpec := { name := "windowCounts", fn := fun _ => fun
  | [d1, d2, d3] => { results := [.lit (.bool true)], args := [d1, d2, d3] }
  | _ => none }
def windowCountsRow : OpenClaim := { program := "ytidphalfafaniaa", sum := "22d0b44936242c007a242dff805c96443872b06e825ba0bc74651dab26158e9c", func := "vigil/vigillaw12.WindowCounts", spec := "windowCounts", apart := false }
def WindowCountsSaid : Prop := windowCountsRow.holds Try.pinned (OpenSpec.ofChange windowCountsSpec)

/-- ITS FALSE NEIGHBOUR: 'it returns false'. Refute it at one input. -/
def windowCountsWrong : ChangeSpec := { name := "windowCounts", fn := fun _ => fun
  | [d1, d2, d3] => { results := [.lit (.bool false)], args := [d1, d2, d3] }
  | _ => none }
def WindowCountsWrongFalsely : Prop := windowCountsRow.holds Try.pinned (OpenSpec.ofChange windowCountsWrong)

/-- 'vigillaw12.WindowNil': WHATEVER THE INPUT: true; the input reads as it did. -/
def windowNilSpec : ChangeSpec := { name := "windowNil", fn := fun _ => fun
  | [d] => { results := [.lit (.bool true)], args := [d] }
  | _ => none }
def windowNilRow : OpenClaim := { program := "ytidphalfafaniaa", sum := "22d0b44936242c007a242dff805c96443872b06e825ba0bc74651dab26158e9c", func := "vigil/vigillaw12.WindowNil", spec := "windowNil", apart := false }
def WindowNilSaid : Prop := windowNilRow.holds Try.pinned (OpenSpec.ofChange windowNilSpec)

/-- ITS FALSE NEIGHBOUR: 'it returns false'. Refute it at one input. -/
def windowNilWrong : ChangeSpec := { name := "windowNil", fn := fun _ => fun
  | [d] => { results := [.lit (.bool false)], args := [d] }
  | _ => none }
def WindowNilWrongFalsely : Prop := windowNilRow.holds Try.pinned (OpenSpec.ofChange windowNilWrong)

/-- 'vigillaw13.DropsJoin': WHATEVER THE INPUT: true; the input reads as it did. -/
def dropsJoinSpec : ChangeSpec := { name := "dropsJoin", fn := fun _ => fun
  | [d1, d2, d3, d4] => { results := [.lit (.bool true)], args := [d1, d2, d3, d4] }
  | _ => none }
def dropsJoinRow : OpenClaim := { program := "ytidphalfafaniaa", sum := "22d0b44936242c007a242dff805c96443872b06e825ba0bc74651dab26158e9c", func := "vigil/vigillaw13.DropsJoin", spec := "dropsJoin", unfollowed := true, recurses := true, apart := false }
def DropsJoinSaid : Prop := dropsJoinRow.holds Try.pinned (OpenSpec.ofChange dropsJoinSpec)

/-- ITS FALSE NEIGHBOUR: 'it returns false'. Refute it at one input. -/
def dropsJoinWrong : ChangeSpec := { name := "dropsJoin", fn := fun _ => fun
  | [d1, d2, d3, d4] => { results := [.lit (.bool false)], args := [d1, d2, d3, d4] }
  | _ => none }
def DropsJoinWrongFalsely : Prop := dropsJoinRow.holds Try.pinned (OpenSpec.ofChange dropsJoinWrong)

/-- 'vigillaw27.EventsHides': WHATEVER THE INPUT: true; the input reads as it did. -/
def eventsHidesSpec : ChangeSpec := { name := "eventsHides", fn := fun _ => fun
  | [d1, d2, d3] => { results := [.lit (.bool true)], args := [d1, d2, d3] }
  | _ => none }
def eventsHidesRow : OpenClaim := { program := "ytidphalfafaniaa", sum := "22d0b44936242c007a242dff805c96443872b06e825ba0bc74651dab26158e9c", func := "vigil/vigillaw27.EventsHides", spec := "eventsHides", unfollowed := true, recurses := true, apart := false }
def EventsHidesSaid : Prop := eventsHidesRow.holds Try.pinned (OpenSpec.ofChange eventsHidesSpec)

/-- ITS FALSE NEIGHBOUR: 'it returns false'. Refute it at one input. -/
def eventsHidesWrong : ChangeSpec := { name := "eventsHides", fn := fun _ => fun
  | [d1, d2, d3] => { results := [.lit (.bool false)], args := [d1, d2, d3] }
  | _ => none }
def EventsHidesWrongFalsely : Prop := eventsHidesRow.holds Try.pinned (OpenSpec.ofChange eventsHidesWrong)

/-- 'vigillaw27.EventsRoom': WHATEVER THE INPUT: true; the input reads as it did. -/
def eventsRoomSpec : ChangeSpec := { name := "eventsRoom", fn := fun _ => fun
  | [d1, d2] => { results := [.lit (.bool true)], args := [d1, d2] }
  | _ => none }
def eventsRoomRow : OpenClaim := { program := "ytidphalfafaniaa", sum := "22d0b44936242c007a242dff805c96443872b06e825ba0bc74651dab26158e9c", func := "vigil/vigillaw27.EventsRoom", spec := "eventsRoom", unfollowed := true, recurses := true, apart := false }
def EventsRoomSaid : Prop := eventsRoomRow.holds Try.pinned (OpenSpec.ofChange eventsRoomSpec)

/-- ITS FALSE NEIGHBOUR: 'it returns false'. Refute it at one input. -/
def eventsRoomWrong : ChangeSpec := { name := "eventsRoom", fn := fun _ => fun
  | [d1, d2] => { results := [.lit (.bool false)], args := [d1, d2] }
  | _ => none }
def EventsRoomWrongFalsely : Prop := eventsRoomRow.holds Try.pinned (OpenSpec.ofChange eventsRoomWrong)

/-- 'vigillaw27.EventsPlays': WHATEVER THE INPUT: true; the input reads as it did. -/
def eventsPlaysSpec : ChangeSpec := { name := "eventsPlays", fn := fun _ => fun
  | [d1, d2, d3, d4, d5] => { results := [.lit (.bool true)], args := [d1, d2, d3, d4, d5] }
  | _ => none }
def eventsPlaysRow : OpenClaim := { program := "ytidphalfafaniaa", sum := "22d0b44936242c007a242dff805c96443872b06e825ba0bc74651dab26158e9c", func := "vigil/vigillaw27.EventsPlays", spec := "eventsPlays", unfollowed := true, recurses := true, apart := false }
def EventsPlaysSaid : Prop := eventsPlaysRow.holds Try.pinned (OpenSpec.ofChange eventsPlaysSpec)

/-- ITS FALSE NEIGHBOUR: 'it returns false'. Refute it at one input. -/
def eventsPlaysWrong : ChangeSpec := { name := "eventsPlays", fn := fun _ => fun
  | [d1, d2, d3, d4, d5] => { results := [.lit (.bool false)], args := [d1, d2, d3, d4, d5] }
  | _ => none }
def EventsPlaysWrongFalsely : Prop := eventsPlaysRow.holds Try.pinned (OpenSpec.ofChange eventsPlaysWrong)

/-- 'vigillaw05.ClaimsCovers': WHATEVER THE INPUT: true; the input reads as it did. -/
def claimsCoversSpec : ChangeSpec := { name := "claimsCovers", fn := fun _ => fun
  | [d1, d2, d3] => { results := [.lit (.bool true)], args := [d1, d2, d3] }
  | _ => none }
def claimsCoversRow : OpenClaim := { program := "ytidphalfafaniaa", sum := "22d0b44936242c007a242dff805c96443872b06e825ba0bc74651dab26158e9c", func := "vigil/vigillaw05.ClaimsCovers", spec := "claimsCovers", apart := false }
def ClaimsCoversSaid : Prop := claimsCoversRow.holds Try.pinned (OpenSpec.ofChange claimsCoversSpec)

/-- ITS FALSE NEIGHBOUR: 'it returns false'. Refute it at one input. -/
def claimsCoversWrong : ChangeSpec := { name := "claimsCovers", fn := fun _ => fun
  | [d1, d2, d3] => { results := [.lit (.bool false)], args := [d1, d2, d3] }
  | _ => none }
def ClaimsCoversWrongFalsely : Prop := claimsCoversRow.holds Try.pinned (OpenSpec.ofChange claimsCoversWrong)

/-- 'vigillaw05.ClaimsRoles': WHATEVER THE INPUT: true; the input reads as it did. -/
def claimsRolesSpec : ChangeSpec := { name := "claimsRoles", fn := fun _ => fun
  | [d1, d2, d3] => { results := [.lit (.bool true)], args := [d1, d2, d3] }
  | _ => none }
def claimsRolesRow : OpenClaim := { program := "ytidphalfafaniaa", sum := "22d0b44936242c007a242dff805c96443872b06e825ba0bc74651dab26158e9c", func := "vigil/vigillaw05.ClaimsRoles", spec := "claimsRoles", apart := false }
def ClaimsRolesSaid : Prop := claimsRolesRow.holds Try.pinned (OpenSpec.ofChange claimsRolesSpec)

/-- ITS FALSE NEIGHBOUR: 'it returns false'. Refute it at one input. -/
def claimsRolesWrong : ChangeSpec := { name := "claimsRoles", fn := fun _ => fun
  | [d1, d2, d3] => { results := [.lit (.bool false)], args := [d1, d2, d3] }
  | _ => none }
def ClaimsRolesWrongFalsely : Prop := claimsRolesRow.holds Try.pinned (OpenSpec.ofChange claimsRolesWrong)

/- THE SECOND FORM. 'bulk': how many values and letters a reading holds, each counted each time it is reached (what is shared counts as often as it is met; a slice's spare places count too). A statement '..UptoSaid' is the law's where the arguments, and the package variables that the reading takes, are together of bulk at most 1048576: NARROWER than '..Said'. Prove '..Said' where nothing that the law and all that it calls make is longer than what came in: it says more and counts as full. Else prove '..UptoSaid'. A law counts once. -/
mutual
def uptoBulk {H : Type} : DataW H → Nat
  | .lit (.string bytes) => bytes.length + 1
  | .lit _ => 1
  | .nil => 1
  | .ptr d => uptoBulk d + 1
  | .slice elems spare => uptoBulkAll elems + uptoBulkAll spare + 1
  | .agg parts => uptoBulkAll parts + 1
  | .iface _ d => uptoBulk d + 1
  | .map entries => uptoBulkEntries entries + 1
  | .held _ => 1
def uptoBulkAll {H : Type} : List (DataW H) → Nat
  | [] => 0
  | d :: r => uptoBulk d + uptoBulkAll r
def uptoBulkEntries {H : Type} : List (Lit × DataW H) → Nat
  | [] => 0
  | x :: r => uptoBulkEntry x + uptoBulkEntries r
def uptoBulkEntry {H : Type} : Lit × DataW H → Nat
  | (.string bytes, d) => bytes.length + uptoBulk d + 1
  | (_, d) => uptoBulk d + 1
 end
def uptoSmall : (H : Type) → List (DataW H) → Bool := fun _ ds => decide (uptoBulkAll ds ≤ 1048576)
def OpenSpec.upto (s : _root_.Go.ChangeSpec) : _root_.Go.OpenSpec := { _root_.Go.OpenSpec.ofChange s with cond := some uptoSmall }

/-- 'vigillaw12.WindowOnce', WHERE WHAT IT READS IS OF BULK AT MOST 1048576: true; the input reads as it did. -/
def windowOnceUptoRow : OpenClaim := { program := "ytidphalfafaniaa", sum := "22d0b44936242c007a242dff805c96443872b06e825ba0bc74651dab26158e9c", func := "vigil/vigillaw12.WindowOnce", spec := "windowOnce", apart := false, narrowed := true }
def WindowOnceUptoSaid : Prop := windowOnceUptoRow.holds Try.pinned (OpenSpec.upto windowOnceSpec)

/-- 'vigillaw12.WindowShuffles', WHERE WHAT IT READS IS OF BULK AT MOST 1048576: true; the input reads as it did. -/
def windowShufflesUptoRow : OpenClaim := { program := "ytidphalfafaniaa", sum := "22d0b44936242c007a242dff805c96443872b06e825ba0bc74651dab26158e9c", func := "vigil/vigillaw12.WindowShuffles", spec := "windowShuffles", apart := false, narrowed := true }
def WindowShufflesUptoSaid : Prop := windowShufflesUptoRow.holds Try.pinned (OpenSpec.upto windowShufflesSpec)

/-- 'vigillaw13.DropsCount', WHERE WHAT IT READS IS OF BULK AT MOST 1048576: true; the input reads as it did. -/
def dropsCountUptoRow : OpenClaim := { program := "ytidphalfafaniaa", sum := "22d0b44936242c007a242dff805c96443872b06e825ba0bc74651dab26158e9c", func := "vigil/vigillaw13.DropsCount", spec := "dropsCount", apart := false, narrowed := true }
def DropsCountUptoSaid : Prop := dropsCountUptoRow.holds Try.pinned (OpenSpec.upto dropsCountSpec)

/-- 'vigillaw12.WindowPlays', WHERE WHAT IT READS IS OF BULK AT MOST 1048576: true; the input reads as it did. -/
def windowPlaysUptoRow : OpenClaim := { program := "ytidphalfafaniaa", sum := "22d0b44936242c007a242dff805c96443872b06e825ba0bc74651dab26158e9c", func := "vigil/vigillaw12.WindowPlays", spec := "windowPlays", apart := false, narrowed := true }
def WindowPlaysUptoSaid : Prop := windowPlaysUptoRow.holds Try.pinned (OpenSpec.upto windowPlaysSpec)

/-- 'vigillaw12.WindowCounts', WHERE WHAT IT READS IS OF BULK AT MOST 1048576: true; the input reads as it did. -/
def windowCountsUptoRow : OpenClaim := { program := "ytidphalfafaniaa", sum := "22d0b44936242c007a242dff805c96443872b06e825ba0bc74651dab26158e9c", func := "vigil/vigillaw12.WindowCounts", spec := "windowCounts", apart := false, narrowed := true }
def WindowCountsUptoSaid : Prop := windowCountsUptoRow.holds Try.pinned (OpenSpec.upto windowCountsSpec)

/-- 'vigillaw12.WindowNil', WHERE WHAT IT READS IS OF BULK AT MOST 1048576: true; the input reads as it did. -/
def windowNilUptoRow : OpenClaim := { program := "ytidphalfafaniaa", sum := "22d0b44936242c007a242dff805c96443872b06e825ba0bc74651dab26158e9c", func := "vigil/vigillaw12.WindowNil", spec := "windowNil", apart := false, narrowed := true }
def WindowNilUptoSaid : Prop := windowNilUptoRow.holds Try.pinned (OpenSpec.upto windowNilSpec)

/-- 'vigillaw13.DropsJoin', WHERE WHAT IT READS IS OF BULK AT MOST 1048576: true; the input reads as it did. -/
def dropsJoinUptoRow : OpenClaim := { program := "ytidphalfafaniaa", sum := "22d0b44936242c007a242dff805c96443872b06e825ba0bc74651dab26158e9c", func := "vigil/vigillaw13.DropsJoin", spec := "dropsJoin", unfollowed := true, recurses := true, apart := false, narrowed := true }
def DropsJoinUptoSaid : Prop := dropsJoinUptoRow.holds Try.pinned (OpenSpec.upto dropsJoinSpec)

/-- 'vigillaw27.EventsHides', WHERE WHAT IT READS IS OF BULK AT MOST 1048576: true; the input reads as it did. -/
def eventsHidesUptoRow : OpenClaim := { program := "ytidphalfafaniaa", sum := "22d0b44936242c007a242dff805c96443872b06e825ba0bc74651dab26158e9c", func := "vigil/vigillaw27.EventsHides", spec := "eventsHides", unfollowed := true, recurses := true, apart := false, narrowed := true }
def EventsHidesUptoSaid : Prop := eventsHidesUptoRow.holds Try.pinned (OpenSpec.upto eventsHidesSpec)

/-- 'vigillaw27.EventsRoom', WHERE WHAT IT READS IS OF BULK AT MOST 1048576: true; the input reads as it did. -/
def eventsRoomUptoRow : OpenClaim := { program := "ytidphalfafaniaa", sum := "22d0b44936242c007a242dff805c96443872b06e825ba0bc74651dab26158e9c", func := "vigil/vigillaw27.EventsRoom", spec := "eventsRoom", unfollowed := true, recurses := true, apart := false, narrowed := true }
def EventsRoomUptoSaid : Prop := eventsRoomUptoRow.holds Try.pinned (OpenSpec.upto eventsRoomSpec)

/-- 'vigillaw27.EventsPlays', WHERE WHAT IT READS IS OF BULK AT MOST 1048576: true; the input reads as it did. -/
def eventsPlaysUptoRow : OpenClaim := { program := "ytidphalfafaniaa", sum := "22d0b44936242c007a242dff805c96443872b06e825ba0bc74651dab26158e9c", func := "vigil/vigillaw27.EventsPlays", spec := "eventsPlays", unfollowed := true, recurses := true, apart := false, narrowed := true }
def EventsPlaysUptoSaid : Prop := eventsPlaysUptoRow.holds Try.pinned (OpenSpec.upto eventsPlaysSpec)

/-- 'vigillaw05.ClaimsCovers', WHERE WHAT IT READS IS OF BULK AT MOST 1048576: true; the input reads as it did. -/
def claimsCoversUptoRow : OpenClaim := { program := "ytidphalfafaniaa", sum := "22d0b44936242c007a242dff805c96443872b06e825ba0bc74651dab26158e9c", func := "vigil/vigillaw05.ClaimsCovers", spec := "claimsCovers", apart := false, narrowed := true }
def ClaimsCoversUptoSaid : Prop := claimsCoversUptoRow.holds Try.pinned (OpenSpec.upto claimsCoversSpec)

/-- 'vigillaw05.ClaimsRoles', WHERE WHAT IT READS IS OF BULK AT MOST 1048576: true; the input reads as it did. -/
def claimsRolesUptoRow : OpenClaim := { program := "ytidphalfafaniaa", sum := "22d0b44936242c007a242dff805c96443872b06e825ba0bc74651dab26158e9c", func := "vigil/vigillaw05.ClaimsRoles", spec := "claimsRoles", apart := false, narrowed := true }
def ClaimsRolesUptoSaid : Prop := claimsRolesUptoRow.holds Try.pinned (OpenSpec.upto claimsRolesSpec)

end Rows
end Go.Proofs.Ytidphalfafaniaa
