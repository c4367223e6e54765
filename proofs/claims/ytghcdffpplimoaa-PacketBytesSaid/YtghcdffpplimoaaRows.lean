/-
  No cell of these rows narrows 'for every input' (looked for: loops, veiled, ifaces, maps, wideKeys, modest, calm, conditions, laid).
  DERIVED. THE GIVEN ROWS OF THIS SEAT. 8 by the template 'for every input the law returns true; each argument reads behind the call as it read before'; 0 by the template 'total and deterministic' (their statements: YtghcdffpplimoaaTotals.lean).
  GIVEN WITH THE SEED: the statements are not yours to turn. If you find one false, say at which input.
  Laid BY PROGRAM, IN A SANDBOX (cutbox-rows.mjs): the forced cells as the released guide's own fill.sh prints them over the translation 6104b588b9a1c8e2… (all of the seat's roots in one cut). By AI agents, Wed Nov 11 2026. No macro, syntax, notation, axiom, sorry.
-/
import Derived.Test.YtghcdffpplimoaaChecked
import GoSem.Claim
import GoSem.ClaimJoined
import GoSem.ClaimMapViews
import Derived.JoinedTies
import Derived.KernelRfl
namespace Go.Proofs.Ytghcdffpplimoaa
/- THE CELL 'sum', in the pinned program and in every row, IS THE sha256 OF THE DUMP (.gsa) THAT YtghcdffpplimoaaProg.lean LOADS. Nothing in Lean hashes anything: it is a label: what it is worth is what the hold of that sum in a sandbox is worth. -/
noncomputable def Try.pinned : Pinned := { name := "ytghcdffpplimoaa", sum := "6104b588b9a1c8e24a3ac05107d35231fa97d73ade7e4e7c867d109c0dd86e79", checked := Try.checked }
namespace Rows
def none {H : Type} : Left H := { results := [], args := [] }

/-- 'vigillaw14.PacketBytes': WHATEVER THE INPUT: true; the input reads as it did. -/
def packetBytesSpec : ChangeSpec := { name := "packetBytes", fn := fun _ => fun
  | [d1, d2] => { results := [.lit (.bool true)], args := [d1, d2] }
  | _ => none }
def packetBytesRow : OpenClaim := { program := "ytghcdffpplimoaa", sum := "6104b588b9a1c8e24a3ac05107d35231fa97d73ade7e4e7c867d109c0dd86e79", func := "vigil/vigillaw14.PacketBytes", spec := "packetBytes", inPlace := ["internal/bytealg.MakeNoZero"], apart := false }
def PacketBytesSaid : Prop := packetBytesRow.holds Try.pinned (OpenSpec.ofChange packetBytesSpec)

/-- ITS FALSE NEIGHBOUR: 'it returns false'. Refute it at one input. -/
def packetBytesWrong : ChangeSpec := { name := "packetBytes", fn := fun _ => fun
  | [d1, d2] => { results := [.lit (.bool false)], args := [d1, d2] }
  | _ => none }
def PacketBytesWrongFalsely : Prop := packetBytesRow.holds Try.pinned (OpenSpec.ofChange packetBytesWrong)

/-- 'vigillaw06.TokenProves': WHATEVER THE INPUT: true; the input reads as it did. -/
def tokenProvesSpec : ChangeSpec := { name := "tokenProves", fn := fun _ => fun
  | [d1, d2, d3, d4] => { results := [.lit (.bool true)], args := [d1, d2, d3, d4] }
  | _ => none }
def tokenProvesRow : OpenClaim := { program := "ytghcdffpplimoaa", sum := "6104b588b9a1c8e24a3ac05107d35231fa97d73ade7e4e7c867d109c0dd86e79", func := "vigil/vigillaw06.TokenProves", spec := "tokenProves", unfollowed := true, recurses := true, apart := false }
def TokenProvesSaid : Prop := tokenProvesRow.holds Try.pinned (OpenSpec.ofChange tokenProvesSpec)

/-- ITS FALSE NEIGHBOUR: 'it returns false'. Refute it at one input. -/
def tokenProvesWrong : ChangeSpec := { name := "tokenProves", fn := fun _ => fun
  | [d1, d2, d3, d4] => { results := [.lit (.bool false)], args := [d1, d2, d3, d4] }
  | _ => none }
def TokenProvesWrongFalsely : Prop := tokenProvesRow.holds Try.pinned (OpenSpec.ofChange tokenProvesWrong)

/-- 'vigillaw06.TokenIssues': WHATEVER THE INPUT: true; the input reads as it did. -/
def tokenIssuesSpec : ChangeSpec := { name := "tokenIssues", fn := fun _ => fun
  | [d1, d2, d3] => { results := [.lit (.bool true)], args := [d1, d2, d3] }
  | _ => none }
def tokenIssuesRow : OpenClaim := { program := "ytghcdffpplimoaa", sum := "6104b588b9a1c8e24a3ac05107d35231fa97d73ade7e4e7c867d109c0dd86e79", func := "vigil/vigillaw06.TokenIssues", spec := "tokenIssues", unfollowed := true, recurses := true, apart := false }
def TokenIssuesSaid : Prop := tokenIssuesRow.holds Try.pinned (OpenSpec.ofChange tokenIssuesSpec)

/-- ITS FALSE NEIGHBOUR: 'it returns false'. Refute it at one input. -/
def tokenIssuesWrong : ChangeSpec := { name := "tokenIssues", fn := fun _ => fun
  | [d1, d2, d3] => { results := [.lit (.bool false)], args := [d1, d2, d3] }
  | _ => none }
def TokenIssuesWrongFalsely : Prop := tokenIssuesRow.holds Try.pinned (OpenSpec.ofChange tokenIssuesWrong)

/-- 'vigillaw06.TokenFull': WHATEVER THE INPUT: true; the input reads as it did. -/
def tokenFullSpec : ChangeSpec := { name := "tokenFull", fn := fun _ => fun
  | [d1, d2] => { results := [.lit (.bool true)], args := [d1, d2] }
  | _ => none }
def tokenFullRow : OpenClaim := { program := "ytghcdffpplimoaa", sum := "6104b588b9a1c8e24a3ac05107d35231fa97d73ade7e4e7c867d109c0dd86e79", func := "vigil/vigillaw06.TokenFull", spec := "tokenFull", unfollowed := true, recurses := true, apart := false }
def TokenFullSaid : Prop := tokenFullRow.holds Try.pinned (OpenSpec.ofChange tokenFullSpec)

/-- ITS FALSE NEIGHBOUR: 'it returns false'. Refute it at one input. -/
def tokenFullWrong : ChangeSpec := { name := "tokenFull", fn := fun _ => fun
  | [d1, d2] => { results := [.lit (.bool false)], args := [d1, d2] }
  | _ => none }
def TokenFullWrongFalsely : Prop := tokenFullRow.holds Try.pinned (OpenSpec.ofChange tokenFullWrong)

/-- 'vigillaw14.PacketTags': WHATEVER THE INPUT: true; the input reads as it did. -/
def packetTagsSpec : ChangeSpec := { name := "packetTags", fn := fun _ => fun
  | [d1, d2] => { results := [.lit (.bool true)], args := [d1, d2] }
  | _ => none }
def packetTagsRow : OpenClaim := { program := "ytghcdffpplimoaa", sum := "6104b588b9a1c8e24a3ac05107d35231fa97d73ade7e4e7c867d109c0dd86e79", func := "vigil/vigillaw14.PacketTags", spec := "packetTags", inPlace := ["internal/bytealg.MakeNoZero"], unfollowed := true, recurses := true, apart := false }
def PacketTagsSaid : Prop := packetTagsRow.holds Try.pinned (OpenSpec.ofChange packetTagsSpec)

/-- ITS FALSE NEIGHBOUR: 'it returns false'. Refute it at one input. -/
def packetTagsWrong : ChangeSpec := { name := "packetTags", fn := fun _ => fun
  | [d1, d2] => { results := [.lit (.bool false)], args := [d1, d2] }
  | _ => none }
def PacketTagsWrongFalsely : Prop := packetTagsRow.holds Try.pinned (OpenSpec.ofChange packetTagsWrong)

/-- 'vigillaw06.TokenReads': WHATEVER THE INPUT: true; the input reads as it did. -/
def tokenReadsSpec : ChangeSpec := { name := "tokenReads", fn := fun _ => fun
  | [d1, d2] => { results := [.lit (.bool true)], args := [d1, d2] }
  | _ => none }
def tokenReadsRow : OpenClaim := { program := "ytghcdffpplimoaa", sum := "6104b588b9a1c8e24a3ac05107d35231fa97d73ade7e4e7c867d109c0dd86e79", func := "vigil/vigillaw06.TokenReads", spec := "tokenReads", unfollowed := true, recurses := true, apart := false }
def TokenReadsSaid : Prop := tokenReadsRow.holds Try.pinned (OpenSpec.ofChange tokenReadsSpec)

/-- ITS FALSE NEIGHBOUR: 'it returns false'. Refute it at one input. -/
def tokenReadsWrong : ChangeSpec := { name := "tokenReads", fn := fun _ => fun
  | [d1, d2] => { results := [.lit (.bool false)], args := [d1, d2] }
  | _ => none }
def TokenReadsWrongFalsely : Prop := tokenReadsRow.holds Try.pinned (OpenSpec.ofChange tokenReadsWrong)

/-- 'vigillaw06.TokenMakes': WHATEVER THE INPUT: true; the input reads as it did. -/
def tokenMakesSpec : ChangeSpec := { name := "tokenMakes", fn := fun _ => fun
  | [d1, d2, d3] => { results := [.lit (.bool true)], args := [d1, d2, d3] }
  | _ => none }
def tokenMakesRow : OpenClaim := { program := "ytghcdffpplimoaa", sum := "6104b588b9a1c8e24a3ac05107d35231fa97d73ade7e4e7c867d109c0dd86e79", func := "vigil/vigillaw06.TokenMakes", spec := "tokenMakes", unfollowed := true, recurses := true, apart := false }
def TokenMakesSaid : Prop := tokenMakesRow.holds Try.pinned (OpenSpec.ofChange tokenMakesSpec)

/-- ITS FALSE NEIGHBOUR: 'it returns false'. Refute it at one input. -/
def tokenMakesWrong : ChangeSpec := { name := "tokenMakes", fn := fun _ => fun
  | [d1, d2, d3] => { results := [.lit (.bool false)], args := [d1, d2, d3] }
  | _ => none }
def TokenMakesWrongFalsely : Prop := tokenMakesRow.holds Try.pinned (OpenSpec.ofChange tokenMakesWrong)

/-- 'vigillaw14.PacketTurns': WHATEVER THE INPUT: true; the input reads as it did. -/
def packetTurnsSpec : ChangeSpec := { name := "packetTurns", fn := fun _ => fun
  | [d1, d2, d3, d4] => { results := [.lit (.bool true)], args := [d1, d2, d3, d4] }
  | _ => none }
def packetTurnsRow : OpenClaim := { program := "ytghcdffpplimoaa", sum := "6104b588b9a1c8e24a3ac05107d35231fa97d73ade7e4e7c867d109c0dd86e79", func := "vigil/vigillaw14.PacketTurns", spec := "packetTurns", inPlace := ["internal/bytealg.MakeNoZero"], unfollowed := true, recurses := true, apart := false }
def PacketTurnsSaid : Prop := packetTurnsRow.holds Try.pinned (OpenSpec.ofChange packetTurnsSpec)

/-- ITS FALSE NEIGHBOUR: 'it returns false'. Refute it at one input. -/
def packetTurnsWrong : ChangeSpec := { name := "packetTurns", fn := fun _ => fun
  | [d1, d2, d3, d4] => { results := [.lit (.bool false)], args := [d1, d2, d3, d4] }
  | _ => none }
def PacketTurnsWrongFalsely : Prop := packetTurnsRow.holds Try.pinned (OpenSpec.ofChange packetTurnsWrong)

/- THE SECOND FORM. 'bulk': how many values and letters a reading holds, each counted each time it is reached (what is shared counts as often as it is met; a slice's spare places count too). A statement '..UptoSaid' is the law's where the arguments, and the package variables that the reading takes, are together of bulk at most 1048576: NARROWER than '..Said'. Prove '..Said' where nothing that the law and all that it calls make is longer than what came in: it says more and counts as full. Else prove '..UptoSaid'. A law counts once. -/
mutual
def uptoBulk {H : Type} : DataW H → Nat
  | .lit (.string bytes) => bytes.length + 1
  | .lit _ => 1
  | .nil => 1
  | .ptr d => uptoBulk d + 1
  | .slice elems spare => uptoBulkAll elems + uptoBulkAll spare + 1
  | .agg parts => uptoBulkAll parts + 1
  | .iface _ d => uptoBulk d + 1
  | .map entries => uptoBulkEntries entries + 1
  | .held _ => 1
def uptoBulkAll {H : Type} : List (DataW H) → Nat
  | [] => 0
  | d :: r => uptoBulk d + uptoBulkAll r
def uptoBulkEntries {H : Type} : List (Lit × DataW H) → Nat
  | [] => 0
  | x :: r => uptoBulkEntry x + uptoBulkEntries r
def uptoBulkEntry {H : Type} : Lit × DataW H → Nat
  | (.string bytes, d) => bytes.length + uptoBulk d + 1
  | (_, d) => uptoBulk d + 1
 end
def uptoSmall : (H : Type) → List (DataW H) → Bool := fun _ ds => decide (uptoBulkAll ds ≤ 1048576)
def OpenSpec.upto (s : _root_.Go.ChangeSpec) : _root_.Go.OpenSpec := { _root_.Go.OpenSpec.ofChange s with cond := some uptoSmall }

/-- 'vigillaw14.PacketBytes', WHERE WHAT IT READS IS OF BULK AT MOST 1048576: true; the input reads as it did. -/
def packetBytesUptoRow : OpenClaim := { program := "ytghcdffpplimoaa", sum := "6104b588b9a1c8e24a3ac05107d35231fa97d73ade7e4e7c867d109c0dd86e79", func := "vigil/vigillaw14.PacketBytes", spec := "packetBytes", inPlace := ["internal/bytealg.MakeNoZero"], apart := false, narrowed := true }
def PacketBytesUptoSaid : Prop := packetBytesUptoRow.holds Try.pinned (OpenSpec.upto packetBytesSpec)

/-- 'vigillaw06.TokenProves', WHERE WHAT IT READS IS OF BULK AT MOST 1048576: true; the input reads as it did. -/
def tokenProvesUptoRow : OpenClaim := { program := "ytghcdffpplimoaa", sum := "6104b588b9a1c8e24a3ac05107d35231fa97d73ade7e4e7c867d109c0dd86e79", func := "vigil/vigillaw06.TokenProves", spec := "tokenProves", unfollowed := true, recurses := true, apart := false, narrowed := true }
def TokenProvesUptoSaid : Prop := tokenProvesUptoRow.holds Try.pinned (OpenSpec.upto tokenProvesSpec)

/-- 'vigillaw06.TokenIssues', WHERE WHAT IT READS IS OF BULK AT MOST 1048576: true; the input reads as it did. -/
def tokenIssuesUptoRow : OpenClaim := { program := "ytghcdffpplimoaa", sum := "6104b588b9a1c8e24a3ac05107d35231fa97d73ade7e4e7c867d109c0dd86e79", func := "vigil/vigillaw06.TokenIssues", spec := "tokenIssues", unfollowed := true, recurses := true, apart := false, narrowed := true }
def TokenIssuesUptoSaid : Prop := tokenIssuesUptoRow.holds Try.pinned (OpenSpec.upto tokenIssuesSpec)

/-- 'vigillaw06.TokenFull', WHERE WHAT IT READS IS OF BULK AT MOST 1048576: true; the input reads as it did. -/
def tokenFullUptoRow : OpenClaim := { program := "ytghcdffpplimoaa", sum := "6104b588b9a1c8e24a3ac05107d35231fa97d73ade7e4e7c867d109c0dd86e79", func := "vigil/vigillaw06.TokenFull", spec := "tokenFull", unfollowed := true, recurses := true, apart := false, narrowed := true }
def TokenFullUptoSaid : Prop := tokenFullUptoRow.holds Try.pinned (OpenSpec.upto tokenFullSpec)

/-- 'vigillaw14.PacketTags', WHERE WHAT IT READS IS OF BULK AT MOST 1048576: true; the input reads as it did. -/
def packetTagsUptoRow : OpenClaim := { program := "ytghcdffpplimoaa", sum := "6104b588b9a1c8e24a3ac05107d35231fa97d73ade7e4e7c867d109c0dd86e79", func := "vigil/vigillaw14.PacketTags", spec := "packetTags", inPlace := ["internal/bytealg.MakeNoZero"], unfollowed := true, recurses := true, apart := false, narrowed := true }
def PacketTagsUptoSaid : Prop := packetTagsUptoRow.holds Try.pinned (OpenSpec.upto packetTagsSpec)

/-- 'vigillaw06.TokenReads', WHERE WHAT IT READS IS OF BULK AT MOST 1048576: true; the input reads as it did. -/
def tokenReadsUptoRow : OpenClaim := { program := "ytghcdffpplimoaa", sum := "6104b588b9a1c8e24a3ac05107d35231fa97d73ade7e4e7c867d109c0dd86e79", func := "vigil/vigillaw06.TokenReads", spec := "tokenReads", unfollowed := true, recurses := true, apart := false, narrowed := true }
def TokenReadsUptoSaid : Prop := tokenReadsUptoRow.holds Try.pinned (OpenSpec.upto tokenReadsSpec)

/-- 'vigillaw06.TokenMakes', WHERE WHAT IT READS IS OF BULK AT MOST 1048576: true; the input reads as it did. -/
def tokenMakesUptoRow : OpenClaim := { program := "ytghcdffpplimoaa", sum := "6104b588b9a1c8e24a3ac05107d35231fa97d73ade7e4e7c867d109c0dd86e79", func := "vigil/vigillaw06.TokenMakes", spec := "tokenMakes", unfollowed := true, recurses := true, apart := false, narrowed := true }
def TokenMakesUptoSaid : Prop := tokenMakesUptoRow.holds Try.pinned (OpenSpec.upto tokenMakesSpec)

/-- 'vigillaw14.PacketTurns', WHERE WHAT IT READS IS OF BULK AT MOST 1048576: true; the input reads as it did. -/
def packetTurnsUptoRow : OpenClaim := { program := "ytghcdffpplimoaa", sum := "6104b588b9a1c8e24a3ac05107d35231fa97d73ade7e4e7c867d109c0dd86e79", func := "vigil/vigillaw14.PacketTurns", spec := "packetTurns", inPlace := ["internal/bytealg.MakeNoZero"], unfollowed := true, recurses := true, apart := false, narrowed := true }
def PacketTurnsUptoSaid : Prop := packetTurnsUptoRow.holds Try.pinned (OpenSpec.upto packetTurnsSpec)

end Rows
end Go.Proofs.Ytghcdffpplimoaa
