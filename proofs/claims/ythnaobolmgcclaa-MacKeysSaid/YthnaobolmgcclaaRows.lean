/-
  No cell of these rows narrows 'for every input' (looked for: loops, veiled, ifaces, maps, wideKeys, modest, calm, conditions, laid).
  DERIVED. THE GIVEN ROWS OF THIS SEAT. 12 by the template 'for every input the law returns true; each argument reads behind the call as it read before'; 0 by the template 'total and deterministic' (their statements: YthnaobolmgcclaaTotals.lean).
  GIVEN WITH THE SEED: the statements are not yours to turn. If you find one false, say at which input.
  Laid BY PROGRAM, IN A SANDBOX (cutbox-rows.mjs): the forced cells as the released guide's own fill.sh prints them over the translation 30674c8862b6e962… (all of the seat's roots in one cut). By AI agents, Wed Nov 11 2026. No macro, syntax, notation, axiom, sorry.
-/
import Derived.Test.YthnaobolmgcclaaChecked
import GoSem.Claim
import GoSem.ClaimJoined
import GoSem.ClaimMapViews
import Derived.JoinedTies
import Derived.KernelRfl
namespace Go.Proofs.Ythnaobolmgcclaa
/- THE CELL 'sum', in the pinned program and in every row, IS THE sha256 OF THE DUMP (.gsa) THAT YthnaobolmgcclaaProg.lean LOADS. Nothing in Lean hashes anything: it is a label: what it is worth is what the hold of that sum in a sandbox is worth. -/
noncomputable def Try.pinned : Pinned := { name := "ythnaobolmgcclaa", sum := "30674c8862b6e9621875a09c7a83bd8fa9ce648b6e0d1cb05b953d54aa8ae210", checked := Try.checked }
namespace Rows
def none {H : Type} : Left H := { results := [], args := [] }

/-- 'vigillaw04.WirePuts': WHATEVER THE INPUT: true; the input reads as it did. -/
def wirePutsSpec : ChangeSpec := { name := "wirePuts", fn := fun _ => fun
  | [d] => { results := [.lit (.bool true)], args := [d] }
  | _ => none }
def wirePutsRow : OpenClaim := { program := "ythnaobolmgcclaa", sum := "30674c8862b6e9621875a09c7a83bd8fa9ce648b6e0d1cb05b953d54aa8ae210", func := "vigil/vigillaw04.WirePuts", spec := "wirePuts", apart := false }
def WirePutsSaid : Prop := wirePutsRow.holds Try.pinned (OpenSpec.ofChange wirePutsSpec)

/-- ITS FALSE NEIGHBOUR: 'it returns false'. Refute it at one input. -/
def wirePutsWrong : ChangeSpec := { name := "wirePuts", fn := fun _ => fun
  | [d] => { results := [.lit (.bool false)], args := [d] }
  | _ => none }
def WirePutsWrongFalsely : Prop := wirePutsRow.holds Try.pinned (OpenSpec.ofChange wirePutsWrong)

/-- 'vigillaw01.DigestSums': WHATEVER THE INPUT: true; the input reads as it did. -/
def digestSumsSpec : ChangeSpec := { name := "digestSums", fn := fun _ => fun
  | [d] => { results := [.lit (.bool true)], args := [d] }
  | _ => none }
def digestSumsRow : OpenClaim := { program := "ythnaobolmgcclaa", sum := "30674c8862b6e9621875a09c7a83bd8fa9ce648b6e0d1cb05b953d54aa8ae210", func := "vigil/vigillaw01.DigestSums", spec := "digestSums", inPlace := ["internal/abi.NoEscape"], unfollowed := true, recurses := true, apart := false }
def DigestSumsSaid : Prop := digestSumsRow.holds Try.pinned (OpenSpec.ofChange digestSumsSpec)

/-- ITS FALSE NEIGHBOUR: 'it returns false'. Refute it at one input. -/
def digestSumsWrong : ChangeSpec := { name := "digestSums", fn := fun _ => fun
  | [d] => { results := [.lit (.bool false)], args := [d] }
  | _ => none }
def DigestSumsWrongFalsely : Prop := digestSumsRow.holds Try.pinned (OpenSpec.ofChange digestSumsWrong)

/-- 'vigillaw01.DigestRunning': WHATEVER THE INPUT: true; the input reads as it did. -/
def digestRunningSpec : ChangeSpec := { name := "digestRunning", fn := fun _ => fun
  | [d1, d2] => { results := [.lit (.bool true)], args := [d1, d2] }
  | _ => none }
def digestRunningRow : OpenClaim := { program := "ythnaobolmgcclaa", sum := "30674c8862b6e9621875a09c7a83bd8fa9ce648b6e0d1cb05b953d54aa8ae210", func := "vigil/vigillaw01.DigestRunning", spec := "digestRunning", inPlace := ["internal/abi.NoEscape"], unfollowed := true, recurses := true, apart := false }
def DigestRunningSaid : Prop := digestRunningRow.holds Try.pinned (OpenSpec.ofChange digestRunningSpec)

/-- ITS FALSE NEIGHBOUR: 'it returns false'. Refute it at one input. -/
def digestRunningWrong : ChangeSpec := { name := "digestRunning", fn := fun _ => fun
  | [d1, d2] => { results := [.lit (.bool false)], args := [d1, d2] }
  | _ => none }
def DigestRunningWrongFalsely : Prop := digestRunningRow.holds Try.pinned (OpenSpec.ofChange digestRunningWrong)

/-- 'vigillaw04.WireNil': WHATEVER THE INPUT: true; the input reads as it did. -/
def wireNilSpec : ChangeSpec := { name := "wireNil", fn := fun _ => fun
  | [d] => { results := [.lit (.bool true)], args := [d] }
  | _ => none }
def wireNilRow : OpenClaim := { program := "ythnaobolmgcclaa", sum := "30674c8862b6e9621875a09c7a83bd8fa9ce648b6e0d1cb05b953d54aa8ae210", func := "vigil/vigillaw04.WireNil", spec := "wireNil", apart := false }
def WireNilSaid : Prop := wireNilRow.holds Try.pinned (OpenSpec.ofChange wireNilSpec)

/-- ITS FALSE NEIGHBOUR: 'it returns false'. Refute it at one input. -/
def wireNilWrong : ChangeSpec := { name := "wireNil", fn := fun _ => fun
  | [d] => { results := [.lit (.bool false)], args := [d] }
  | _ => none }
def WireNilWrongFalsely : Prop := wireNilRow.holds Try.pinned (OpenSpec.ofChange wireNilWrong)

/-- 'vigillaw01.DigestSigns': WHATEVER THE INPUT: true; the input reads as it did. -/
def digestSignsSpec : ChangeSpec := { name := "digestSigns", fn := fun _ => fun
  | [d1, d2] => { results := [.lit (.bool true)], args := [d1, d2] }
  | _ => none }
def digestSignsRow : OpenClaim := { program := "ythnaobolmgcclaa", sum := "30674c8862b6e9621875a09c7a83bd8fa9ce648b6e0d1cb05b953d54aa8ae210", func := "vigil/vigillaw01.DigestSigns", spec := "digestSigns", inPlace := ["internal/abi.NoEscape", "internal/bytealg.IndexByteString"], unfollowed := true, recurses := true, apart := false }
def DigestSignsSaid : Prop := digestSignsRow.holds Try.pinned (OpenSpec.ofChange digestSignsSpec)

/-- ITS FALSE NEIGHBOUR: 'it returns false'. Refute it at one input. -/
def digestSignsWrong : ChangeSpec := { name := "digestSigns", fn := fun _ => fun
  | [d1, d2] => { results := [.lit (.bool false)], args := [d1, d2] }
  | _ => none }
def DigestSignsWrongFalsely : Prop := digestSignsRow.holds Try.pinned (OpenSpec.ofChange digestSignsWrong)

/-- 'vigillaw02.MacEquals': WHATEVER THE INPUT: true; the input reads as it did. -/
def macEqualsSpec : ChangeSpec := { name := "macEquals", fn := fun _ => fun
  | [d1, d2] => { results := [.lit (.bool true)], args := [d1, d2] }
  | _ => none }
def macEqualsRow : OpenClaim := { program := "ythnaobolmgcclaa", sum := "30674c8862b6e9621875a09c7a83bd8fa9ce648b6e0d1cb05b953d54aa8ae210", func := "vigil/vigillaw02.MacEquals", spec := "macEquals", inPlace := ["internal/abi.NoEscape"], unfollowed := true, recurses := true, apart := false }
def MacEqualsSaid : Prop := macEqualsRow.holds Try.pinned (OpenSpec.ofChange macEqualsSpec)

/-- ITS FALSE NEIGHBOUR: 'it returns false'. Refute it at one input. -/
def macEqualsWrong : ChangeSpec := { name := "macEquals", fn := fun _ => fun
  | [d1, d2] => { results := [.lit (.bool false)], args := [d1, d2] }
  | _ => none }
def MacEqualsWrongFalsely : Prop := macEqualsRow.holds Try.pinned (OpenSpec.ofChange macEqualsWrong)

/-- 'vigillaw02.MacTags': WHATEVER THE INPUT: true; the input reads as it did. -/
def macTagsSpec : ChangeSpec := { name := "macTags", fn := fun _ => fun
  | [d1, d2, d3] => { results := [.lit (.bool true)], args := [d1, d2, d3] }
  | _ => none }
def macTagsRow : OpenClaim := { program := "ythnaobolmgcclaa", sum := "30674c8862b6e9621875a09c7a83bd8fa9ce648b6e0d1cb05b953d54aa8ae210", func := "vigil/vigillaw02.MacTags", spec := "macTags", inPlace := ["internal/abi.NoEscape"], unfollowed := true, recurses := true, apart := false }
def MacTagsSaid : Prop := macTagsRow.holds Try.pinned (OpenSpec.ofChange macTagsSpec)

/-- ITS FALSE NEIGHBOUR: 'it returns false'. Refute it at one input. -/
def macTagsWrong : ChangeSpec := { name := "macTags", fn := fun _ => fun
  | [d1, d2, d3] => { results := [.lit (.bool false)], args := [d1, d2, d3] }
  | _ => none }
def MacTagsWrongFalsely : Prop := macTagsRow.holds Try.pinned (OpenSpec.ofChange macTagsWrong)

/-- 'vigillaw02.MacDerives': WHATEVER THE INPUT: true; the input reads as it did. -/
def macDerivesSpec : ChangeSpec := { name := "macDerives", fn := fun _ => fun
  | [d1, d2, d3] => { results := [.lit (.bool true)], args := [d1, d2, d3] }
  | _ => none }
def macDerivesRow : OpenClaim := { program := "ythnaobolmgcclaa", sum := "30674c8862b6e9621875a09c7a83bd8fa9ce648b6e0d1cb05b953d54aa8ae210", func := "vigil/vigillaw02.MacDerives", spec := "macDerives", inPlace := ["internal/abi.NoEscape"], unfollowed := true, recurses := true, apart := false }
def MacDerivesSaid : Prop := macDerivesRow.holds Try.pinned (OpenSpec.ofChange macDerivesSpec)

/-- ITS FALSE NEIGHBOUR: 'it returns false'. Refute it at one input. -/
def macDerivesWrong : ChangeSpec := { name := "macDerives", fn := fun _ => fun
  | [d1, d2, d3] => { results := [.lit (.bool false)], args := [d1, d2, d3] }
  | _ => none }
def MacDerivesWrongFalsely : Prop := macDerivesRow.holds Try.pinned (OpenSpec.ofChange macDerivesWrong)

/-- 'vigillaw02.MacFrames': WHATEVER THE INPUT: true; the input reads as it did. -/
def macFramesSpec : ChangeSpec := { name := "macFrames", fn := fun _ => fun
  | [d1, d2, d3, d4, d5] => { results := [.lit (.bool true)], args := [d1, d2, d3, d4, d5] }
  | _ => none }
def macFramesRow : OpenClaim := { program := "ythnaobolmgcclaa", sum := "30674c8862b6e9621875a09c7a83bd8fa9ce648b6e0d1cb05b953d54aa8ae210", func := "vigil/vigillaw02.MacFrames", spec := "macFrames", inPlace := ["internal/abi.NoEscape"], unfollowed := true, recurses := true, apart := false }
def MacFramesSaid : Prop := macFramesRow.holds Try.pinned (OpenSpec.ofChange macFramesSpec)

/-- ITS FALSE NEIGHBOUR: 'it returns false'. Refute it at one input. -/
def macFramesWrong : ChangeSpec := { name := "macFrames", fn := fun _ => fun
  | [d1, d2, d3, d4, d5] => { results := [.lit (.bool false)], args := [d1, d2, d3, d4, d5] }
  | _ => none }
def MacFramesWrongFalsely : Prop := macFramesRow.holds Try.pinned (OpenSpec.ofChange macFramesWrong)

/-- 'vigillaw05.ClaimsBytes': WHATEVER THE INPUT: true; the input reads as it did. -/
def claimsBytesSpec : ChangeSpec := { name := "claimsBytes", fn := fun _ => fun
  | [d1, d2] => { results := [.lit (.bool true)], args := [d1, d2] }
  | _ => none }
def claimsBytesRow : OpenClaim := { program := "ythnaobolmgcclaa", sum := "30674c8862b6e9621875a09c7a83bd8fa9ce648b6e0d1cb05b953d54aa8ae210", func := "vigil/vigillaw05.ClaimsBytes", spec := "claimsBytes", apart := false }
def ClaimsBytesSaid : Prop := claimsBytesRow.holds Try.pinned (OpenSpec.ofChange claimsBytesSpec)

/-- ITS FALSE NEIGHBOUR: 'it returns false'. Refute it at one input. -/
def claimsBytesWrong : ChangeSpec := { name := "claimsBytes", fn := fun _ => fun
  | [d1, d2] => { results := [.lit (.bool false)], args := [d1, d2] }
  | _ => none }
def ClaimsBytesWrongFalsely : Prop := claimsBytesRow.holds Try.pinned (OpenSpec.ofChange claimsBytesWrong)

/-- 'vigillaw05.ClaimsReads': WHATEVER THE INPUT: true; the input reads as it did. -/
def claimsReadsSpec : ChangeSpec := { name := "claimsReads", fn := fun _ => fun
  | [d] => { results := [.lit (.bool true)], args := [d] }
  | _ => none }
def claimsReadsRow : OpenClaim := { program := "ythnaobolmgcclaa", sum := "30674c8862b6e9621875a09c7a83bd8fa9ce648b6e0d1cb05b953d54aa8ae210", func := "vigil/vigillaw05.ClaimsReads", spec := "claimsReads", apart := false }
def ClaimsReadsSaid : Prop := claimsReadsRow.holds Try.pinned (OpenSpec.ofChange claimsReadsSpec)

/-- ITS FALSE NEIGHBOUR: 'it returns false'. Refute it at one input. -/
def claimsReadsWrong : ChangeSpec := { name := "claimsReads", fn := fun _ => fun
  | [d] => { results := [.lit (.bool false)], args := [d] }
  | _ => none }
def ClaimsReadsWrongFalsely : Prop := claimsReadsRow.holds Try.pinned (OpenSpec.ofChange claimsReadsWrong)

/-- 'vigillaw02.MacKeys': WHATEVER THE INPUT: true; the input reads as it did. -/
def macKeysSpec : ChangeSpec := { name := "macKeys", fn := fun _ => fun
  | [d1, d2, d3] => { results := [.lit (.bool true)], args := [d1, d2, d3] }
  | _ => none }
def macKeysRow : OpenClaim := { program := "ythnaobolmgcclaa", sum := "30674c8862b6e9621875a09c7a83bd8fa9ce648b6e0d1cb05b953d54aa8ae210", func := "vigil/vigillaw02.MacKeys", spec := "macKeys", inPlace := ["internal/abi.NoEscape"], unfollowed := true, recurses := true, apart := false }
def MacKeysSaid : Prop := macKeysRow.holds Try.pinned (OpenSpec.ofChange macKeysSpec)

/-- ITS FALSE NEIGHBOUR: 'it returns false'. Refute it at one input. -/
def macKeysWrong : ChangeSpec := { name := "macKeys", fn := fun _ => fun
  | [d1, d2, d3] => { results := [.lit (.bool false)], args := [d1, d2, d3] }
  | _ => none }
def MacKeysWrongFalsely : Prop := macKeysRow.holds Try.pinned (OpenSpec.ofChange macKeysWrong)

/- THE SECOND FORM. 'bulk': how many values and letters a reading holds, each counted each time it is reached (what is shared counts as often as it is met; a slice's spare places count too). A statement '..UptoSaid' is the law's where the arguments, and the package variables that the reading takes, are together of bulk at most 1048576: NARROWER than '..Said'. Prove '..Said' where nothing that the law and all that it calls make is longer than what came in: it says more and counts as full. Else prove '..UptoSaid'. A law counts once. -/
mutual
def uptoBulk {H : Type} : DataW H → Nat
  | .lit (.string bytes) => bytes.length + 1
  | .lit _ => 1
  | .nil => 1
  | .ptr d => uptoBulk d + 1
  | .slice elems spare => uptoBulkAll elems + uptoBulkAll spare + 1
  | .agg parts => uptoBulkAll parts + 1
  | .iface _ d => uptoBulk d + 1
  | .map entries => uptoBulkEntries entries + 1
  | .held _ => 1
def uptoBulkAll {H : Type} : List (DataW H) → Nat
  | [] => 0
  | d :: r => uptoBulk d + uptoBulkAll r
def uptoBulkEntries {H : Type} : List (Lit × DataW H) → Nat
  | [] => 0
  | x :: r => uptoBulkEntry x + uptoBulkEntries r
def uptoBulkEntry {H : Type} : Lit × DataW H → Nat
  | (.string bytes, d) => bytes.length + uptoBulk d + 1
  | (_, d) => uptoBulk d + 1
 end
def uptoSmall : (H : Type) → List (DataW H) → Bool := fun _ ds => decide (uptoBulkAll ds ≤ 1048576)
def OpenSpec.upto (s : _root_.Go.ChangeSpec) : _root_.Go.OpenSpec := { _root_.Go.OpenSpec.ofChange s with cond := some uptoSmall }

/-- 'vigillaw04.WirePuts', WHERE WHAT IT READS IS OF BULK AT MOST 1048576: true; the input reads as it did. -/
def wirePutsUptoRow : OpenClaim := { program := "ythnaobolmgcclaa", sum := "30674c8862b6e9621875a09c7a83bd8fa9ce648b6e0d1cb05b953d54aa8ae210", func := "vigil/vigillaw04.WirePuts", spec := "wirePuts", apart := false, narrowed := true }
def WirePutsUptoSaid : Prop := wirePutsUptoRow.holds Try.pinned (OpenSpec.upto wirePutsSpec)

/-- 'vigillaw01.DigestSums', WHERE WHAT IT READS IS OF BULK AT MOST 1048576: true; the input reads as it did. -/
def digestSumsUptoRow : OpenClaim := { program := "ythnaobolmgcclaa", sum := "30674c8862b6e9621875a09c7a83bd8fa9ce648b6e0d1cb05b953d54aa8ae210", func := "vigil/vigillaw01.DigestSums", spec := "digestSums", inPlace := ["internal/abi.NoEscape"], unfollowed := true, recurses := true, apart := false, narrowed := true }
def DigestSumsUptoSaid : Prop := digestSumsUptoRow.holds Try.pinned (OpenSpec.upto digestSumsSpec)

/-- 'vigillaw01.DigestRunning', WHERE WHAT IT READS IS OF BULK AT MOST 1048576: true; the input reads as it did. -/
def digestRunningUptoRow : OpenClaim := { program := "ythnaobolmgcclaa", sum := "30674c8862b6e9621875a09c7a83bd8fa9ce648b6e0d1cb05b953d54aa8ae210", func := "vigil/vigillaw01.DigestRunning", spec := "digestRunning", inPlace := ["internal/abi.NoEscape"], unfollowed := true, recurses := true, apart := false, narrowed := true }
def DigestRunningUptoSaid : Prop := digestRunningUptoRow.holds Try.pinned (OpenSpec.upto digestRunningSpec)

/-- 'vigillaw04.WireNil', WHERE WHAT IT READS IS OF BULK AT MOST 1048576: true; the input reads as it did. -/
def wireNilUptoRow : OpenClaim := { program := "ythnaobolmgcclaa", sum := "30674c8862b6e9621875a09c7a83bd8fa9ce648b6e0d1cb05b953d54aa8ae210", func := "vigil/vigillaw04.WireNil", spec := "wireNil", apart := false, narrowed := true }
def WireNilUptoSaid : Prop := wireNilUptoRow.holds Try.pinned (OpenSpec.upto wireNilSpec)

/-- 'vigillaw01.DigestSigns', WHERE WHAT IT READS IS OF BULK AT MOST 1048576: true; the input reads as it did. -/
def digestSignsUptoRow : OpenClaim := { program := "ythnaobolmgcclaa", sum := "30674c8862b6e9621875a09c7a83bd8fa9ce648b6e0d1cb05b953d54aa8ae210", func := "vigil/vigillaw01.DigestSigns", spec := "digestSigns", inPlace := ["internal/abi.NoEscape", "internal/bytealg.IndexByteString"], unfollowed := true, recurses := true, apart := false, narrowed := true }
def DigestSignsUptoSaid : Prop := digestSignsUptoRow.holds Try.pinned (OpenSpec.upto digestSignsSpec)

/-- 'vigillaw02.MacEquals', WHERE WHAT IT READS IS OF BULK AT MOST 1048576: true; the input reads as it did. -/
def macEqualsUptoRow : OpenClaim := { program := "ythnaobolmgcclaa", sum := "30674c8862b6e9621875a09c7a83bd8fa9ce648b6e0d1cb05b953d54aa8ae210", func := "vigil/vigillaw02.MacEquals", spec := "macEquals", inPlace := ["internal/abi.NoEscape"], unfollowed := true, recurses := true, apart := false, narrowed := true }
def MacEqualsUptoSaid : Prop := macEqualsUptoRow.holds Try.pinned (OpenSpec.upto macEqualsSpec)

/-- 'vigillaw02.MacTags', WHERE WHAT IT READS IS OF BULK AT MOST 1048576: true; the input reads as it did. -/
def macTagsUptoRow : OpenClaim := { program := "ythnaobolmgcclaa", sum := "30674c8862b6e9621875a09c7a83bd8fa9ce648b6e0d1cb05b953d54aa8ae210", func := "vigil/vigillaw02.MacTags", spec := "macTags", inPlace := ["internal/abi.NoEscape"], unfollowed := true, recurses := true, apart := false, narrowed := true }
def MacTagsUptoSaid : Prop := macTagsUptoRow.holds Try.pinned (OpenSpec.upto macTagsSpec)

/-- 'vigillaw02.MacDerives', WHERE WHAT IT READS IS OF BULK AT MOST 1048576: true; the input reads as it did. -/
def macDerivesUptoRow : OpenClaim := { program := "ythnaobolmgcclaa", sum := "30674c8862b6e9621875a09c7a83bd8fa9ce648b6e0d1cb05b953d54aa8ae210", func := "vigil/vigillaw02.MacDerives", spec := "macDerives", inPlace := ["internal/abi.NoEscape"], unfollowed := true, recurses := true, apart := false, narrowed := true }
def MacDerivesUptoSaid : Prop := macDerivesUptoRow.holds Try.pinned (OpenSpec.upto macDerivesSpec)

/-- 'vigillaw02.MacFrames', WHERE WHAT IT READS IS OF BULK AT MOST 1048576: true; the input reads as it did. -/
def macFramesUptoRow : OpenClaim := { program := "ythnaobolmgcclaa", sum := "30674c8862b6e9621875a09c7a83bd8fa9ce648b6e0d1cb05b953d54aa8ae210", func := "vigil/vigillaw02.MacFrames", spec := "macFrames", inPlace := ["internal/abi.NoEscape"], unfollowed := true, recurses := true, apart := false, narrowed := true }
def MacFramesUptoSaid : Prop := macFramesUptoRow.holds Try.pinned (OpenSpec.upto macFramesSpec)

/-- 'vigillaw05.ClaimsBytes', WHERE WHAT IT READS IS OF BULK AT MOST 1048576: true; the input reads as it did. -/
def claimsBytesUptoRow : OpenClaim := { program := "ythnaobolmgcclaa", sum := "30674c8862b6e9621875a09c7a83bd8fa9ce648b6e0d1cb05b953d54aa8ae210", func := "vigil/vigillaw05.ClaimsBytes", spec := "claimsBytes", apart := false, narrowed := true }
def ClaimsBytesUptoSaid : Prop := claimsBytesUptoRow.holds Try.pinned (OpenSpec.upto claimsBytesSpec)

/-- 'vigillaw05.ClaimsReads', WHERE WHAT IT READS IS OF BULK AT MOST 1048576: true; the input reads as it did. -/
def claimsReadsUptoRow : OpenClaim := { program := "ythnaobolmgcclaa", sum := "30674c8862b6e9621875a09c7a83bd8fa9ce648b6e0d1cb05b953d54aa8ae210", func := "vigil/vigillaw05.ClaimsReads", spec := "claimsReads", apart := false, narrowed := true }
def ClaimsReadsUptoSaid : Prop := claimsReadsUptoRow.holds Try.pinned (OpenSpec.upto claimsReadsSpec)

/-- 'vigillaw02.MacKeys', WHERE WHAT IT READS IS OF BULK AT MOST 1048576: true; the input reads as it did. -/
def macKeysUptoRow : OpenClaim := { program := "ythnaobolmgcclaa", sum := "30674c8862b6e9621875a09c7a83bd8fa9ce648b6e0d1cb05b953d54aa8ae210", func := "vigil/vigillaw02.MacKeys", spec := "macKeys", inPlace := ["internal/abi.NoEscape"], unfollowed := true, recurses := true, apart := false, narrowed := true }
def MacKeysUptoSaid : Prop := macKeysUptoRow.holds Try.pinned (OpenSpec.upto macKeysSpec)

end Rows
end Go.Proofs.Ythnaobolmgcclaa
