/-
  No cell of these rows narrows 'for every input' (looked for: loops, veiled, ifaces, maps, wideKeys, modest, calm, conditions, laid).
  DERIVED. THE GIVEN ROWS OF THIS SEAT. 10 by the template 'for every input the law returns true; each argument reads behind the call as it read before'; 0 by the template 'total and deterministic' (their statements: YtiakgohipnbdbaaTotals.lean).
  GIVEN WITH THE SEED: the statements are not yours to turn. If you find one false, say at which input.
  Laid BY PROGRAM, IN A SANDBOX (cutbox-rows.mjs): the forced cells as the released guide's own fill.sh prints them over the translation d420da5d53b98ee2… (all of the seat's roots in one cut). By AI agents, Wed Nov 11 2026. No macro, syntax, notation, axiom, sorry.
-/
import Derived.Test.YtiakgohipnbdbaaChecked
import GoSem.Claim
import GoSem.ClaimJoined
import GoSem.ClaimMapViews
import Derived.JoinedTies
import Derived.KernelRfl
namespace Go.Proofs.Ytiakgohipnbdbaa
/- THE CELL 'sum', in the pinned program and in every row, IS THE sha256 OF THE DUMP (.gsa) THAT YtiakgohipnbdbaaProg.lean LOADS. Nothing in Lean hashes anything: it is a label: what it is worth is what the hold of that sum in a sandbox is worth. -/
noncomputable def Try.pinned : Pinned := { name := "ytiakgohipnbdbaa", sum := "d420da5d53b98ee2ba5b889fe89447a517d299f0ed76b40f9e854843e68339f6", checked := Try.checked }
namespace Rows
def none {H : Type} : Left H := { results := [], args := [] }

/-- 'vigillaw12.WindowBytes': WHATEVER THE INPUT: true; the input reads as it did. -/
def windowBytesSpec : ChangeSpec := { name := "windowBytes", fn := fun _ => fun
  | [d1, d2, d3] => { results := [.lit (.bool true)], args := [d1, d2, d3] }
  | _ => none }
def windowBytesRow : OpenClaim := { program := "ytiakgohipnbdbaa", sum := "d420da5d53b98ee2ba5b889fe89447a517d299f0ed76b40f9e854843e68339f6", func := "vigil/vigillaw12.WindowBytes", spec := "windowBytes", apart := false }
def WindowBytesSaid : Prop := windowBytesRow.holds Try.pinned (OpenSpec.ofChange windowBytesSpec)

/-- ITS FALSE NEIGHBOUR: 'it returns false'. Refute it at one input. -/
def windowBytesWrong : ChangeSpec := { name := "windowBytes", fn := fun _ => fun
  | [d1, d2, d3] => { results := [.lit (.bool false)], args := [d1, d2, d3] }
  | _ => none }
def WindowBytesWrongFalsely : Prop := windowBytesRow.holds Try.pinned (OpenSpec.ofChange windowBytesWrong)

/-- 'vigillaw10.CookieBakes': WHATEVER THE INPUT: true; the input reads as it did. -/
def cookieBakesSpec : ChangeSpec := { name := "cookieBakes", fn := fun _ => fun
  | [d1, d2, d3, d4, d5] => { results := [.lit (.bool true)], args := [d1, d2, d3, d4, d5] }
  | _ => none }
def cookieBakesRow : OpenClaim := { program := "ytiakgohipnbdbaa", sum := "d420da5d53b98ee2ba5b889fe89447a517d299f0ed76b40f9e854843e68339f6", func := "vigil/vigillaw10.CookieBakes", spec := "cookieBakes", inPlace := ["sync/atomic.LoadInt64", "sync/atomic.AddInt64"], unfollowed := true, recurses := true, apart := false }
def CookieBakesSaid : Prop := cookieBakesRow.holds Try.pinned (OpenSpec.ofChange cookieBakesSpec)

/-- ITS FALSE NEIGHBOUR: 'it returns false'. Refute it at one input. -/
def cookieBakesWrong : ChangeSpec := { name := "cookieBakes", fn := fun _ => fun
  | [d1, d2, d3, d4, d5] => { results := [.lit (.bool false)], args := [d1, d2, d3, d4, d5] }
  | _ => none }
def CookieBakesWrongFalsely : Prop := cookieBakesRow.holds Try.pinned (OpenSpec.ofChange cookieBakesWrong)

/-- 'vigillaw10.CookieChecks': WHATEVER THE INPUT: true; the input reads as it did. -/
def cookieChecksSpec : ChangeSpec := { name := "cookieChecks", fn := fun _ => fun
  | [d1, d2, d3, d4, d5] => { results := [.lit (.bool true)], args := [d1, d2, d3, d4, d5] }
  | _ => none }
def cookieChecksRow : OpenClaim := { program := "ytiakgohipnbdbaa", sum := "d420da5d53b98ee2ba5b889fe89447a517d299f0ed76b40f9e854843e68339f6", func := "vigil/vigillaw10.CookieChecks", spec := "cookieChecks", inPlace := ["sync/atomic.LoadInt64", "sync/atomic.AddInt64"], unfollowed := true, recurses := true, apart := false }
def CookieChecksSaid : Prop := cookieChecksRow.holds Try.pinned (OpenSpec.ofChange cookieChecksSpec)

/-- ITS FALSE NEIGHBOUR: 'it returns false'. Refute it at one input. -/
def cookieChecksWrong : ChangeSpec := { name := "cookieChecks", fn := fun _ => fun
  | [d1, d2, d3, d4, d5] => { results := [.lit (.bool false)], args := [d1, d2, d3, d4, d5] }
  | _ => none }
def CookieChecksWrongFalsely : Prop := cookieChecksRow.holds Try.pinned (OpenSpec.ofChange cookieChecksWrong)

/-- 'vigillaw10.CookieCounts': WHATEVER THE INPUT: true; the input reads as it did. -/
def cookieCountsSpec : ChangeSpec := { name := "cookieCounts", fn := fun _ => fun
  | [d1, d2] => { results := [.lit (.bool true)], args := [d1, d2] }
  | _ => none }
def cookieCountsRow : OpenClaim := { program := "ytiakgohipnbdbaa", sum := "d420da5d53b98ee2ba5b889fe89447a517d299f0ed76b40f9e854843e68339f6", func := "vigil/vigillaw10.CookieCounts", spec := "cookieCounts", inPlace := ["sync/atomic.LoadInt64", "sync/atomic.AddInt64"], unfollowed := true, recurses := true, apart := false }
def CookieCountsSaid : Prop := cookieCountsRow.holds Try.pinned (OpenSpec.ofChange cookieCountsSpec)

/-- ITS FALSE NEIGHBOUR: 'it returns false'. Refute it at one input. -/
def cookieCountsWrong : ChangeSpec := { name := "cookieCounts", fn := fun _ => fun
  | [d1, d2] => { results := [.lit (.bool false)], args := [d1, d2] }
  | _ => none }
def CookieCountsWrongFalsely : Prop := cookieCountsRow.holds Try.pinned (OpenSpec.ofChange cookieCountsWrong)

/-- 'vigillaw10.CookieNil': WHATEVER THE INPUT: true; the input reads as it did. -/
def cookieNilSpec : ChangeSpec := { name := "cookieNil", fn := fun _ => fun
  | [d1, d2, d3] => { results := [.lit (.bool true)], args := [d1, d2, d3] }
  | _ => none }
def cookieNilRow : OpenClaim := { program := "ytiakgohipnbdbaa", sum := "d420da5d53b98ee2ba5b889fe89447a517d299f0ed76b40f9e854843e68339f6", func := "vigil/vigillaw10.CookieNil", spec := "cookieNil", inPlace := ["sync/atomic.LoadInt64", "sync/atomic.AddInt64"], unfollowed := true, recurses := true, apart := false }
def CookieNilSaid : Prop := cookieNilRow.holds Try.pinned (OpenSpec.ofChange cookieNilSpec)

/-- ITS FALSE NEIGHBOUR: 'it returns false'. Refute it at one input. -/
def cookieNilWrong : ChangeSpec := { name := "cookieNil", fn := fun _ => fun
  | [d1, d2, d3] => { results := [.lit (.bool false)], args := [d1, d2, d3] }
  | _ => none }
def CookieNilWrongFalsely : Prop := cookieNilRow.holds Try.pinned (OpenSpec.ofChange cookieNilWrong)

/-- 'vigillaw03.SealOpens': WHATEVER THE INPUT: true; the input reads as it did. -/
def sealOpensSpec : ChangeSpec := { name := "sealOpens", fn := fun _ => fun
  | [d1, d2, d3, d4] => { results := [.lit (.bool true)], args := [d1, d2, d3, d4] }
  | _ => none }
def sealOpensRow : OpenClaim := { program := "ytiakgohipnbdbaa", sum := "d420da5d53b98ee2ba5b889fe89447a517d299f0ed76b40f9e854843e68339f6", func := "vigil/vigillaw03.SealOpens", spec := "sealOpens", unfollowed := true, recurses := true, apart := false }
def SealOpensSaid : Prop := sealOpensRow.holds Try.pinned (OpenSpec.ofChange sealOpensSpec)

/-- ITS FALSE NEIGHBOUR: 'it returns false'. Refute it at one input. -/
def sealOpensWrong : ChangeSpec := { name := "sealOpens", fn := fun _ => fun
  | [d1, d2, d3, d4] => { results := [.lit (.bool false)], args := [d1, d2, d3, d4] }
  | _ => none }
def SealOpensWrongFalsely : Prop := sealOpensRow.holds Try.pinned (OpenSpec.ofChange sealOpensWrong)

/-- 'vigillaw03.SealTurns': WHATEVER THE INPUT: true; the input reads as it did. -/
def sealTurnsSpec : ChangeSpec := { name := "sealTurns", fn := fun _ => fun
  | [d1, d2, d3, d4, d5, d6, d7] => { results := [.lit (.bool true)], args := [d1, d2, d3, d4, d5, d6, d7] }
  | _ => none }
def sealTurnsRow : OpenClaim := { program := "ytiakgohipnbdbaa", sum := "d420da5d53b98ee2ba5b889fe89447a517d299f0ed76b40f9e854843e68339f6", func := "vigil/vigillaw03.SealTurns", spec := "sealTurns", unfollowed := true, recurses := true, apart := false }
def SealTurnsSaid : Prop := sealTurnsRow.holds Try.pinned (OpenSpec.ofChange sealTurnsSpec)

/-- ITS FALSE NEIGHBOUR: 'it returns false'. Refute it at one input. -/
def sealTurnsWrong : ChangeSpec := { name := "sealTurns", fn := fun _ => fun
  | [d1, d2, d3, d4, d5, d6, d7] => { results := [.lit (.bool false)], args := [d1, d2, d3, d4, d5, d6, d7] }
  | _ => none }
def SealTurnsWrongFalsely : Prop := sealTurnsRow.holds Try.pinned (OpenSpec.ofChange sealTurnsWrong)

/-- 'vigillaw03.SealBytes': WHATEVER THE INPUT: true; the input reads as it did. -/
def sealBytesSpec : ChangeSpec := { name := "sealBytes", fn := fun _ => fun
  | [d1, d2, d3, d4] => { results := [.lit (.bool true)], args := [d1, d2, d3, d4] }
  | _ => none }
def sealBytesRow : OpenClaim := { program := "ytiakgohipnbdbaa", sum := "d420da5d53b98ee2ba5b889fe89447a517d299f0ed76b40f9e854843e68339f6", func := "vigil/vigillaw03.SealBytes", spec := "sealBytes", unfollowed := true, recurses := true, apart := false }
def SealBytesSaid : Prop := sealBytesRow.holds Try.pinned (OpenSpec.ofChange sealBytesSpec)

/-- ITS FALSE NEIGHBOUR: 'it returns false'. Refute it at one input. -/
def sealBytesWrong : ChangeSpec := { name := "sealBytes", fn := fun _ => fun
  | [d1, d2, d3, d4] => { results := [.lit (.bool false)], args := [d1, d2, d3, d4] }
  | _ => none }
def SealBytesWrongFalsely : Prop := sealBytesRow.holds Try.pinned (OpenSpec.ofChange sealBytesWrong)

/-- 'vigillaw03.SealLong': WHATEVER THE INPUT: true; the input reads as it did. -/
def sealLongSpec : ChangeSpec := { name := "sealLong", fn := fun _ => fun
  | [d] => { results := [.lit (.bool true)], args := [d] }
  | _ => none }
def sealLongRow : OpenClaim := { program := "ytiakgohipnbdbaa", sum := "d420da5d53b98ee2ba5b889fe89447a517d299f0ed76b40f9e854843e68339f6", func := "vigil/vigillaw03.SealLong", spec := "sealLong", unfollowed := true, recurses := true, apart := false }
def SealLongSaid : Prop := sealLongRow.holds Try.pinned (OpenSpec.ofChange sealLongSpec)

/-- ITS FALSE NEIGHBOUR: 'it returns false'. Refute it at one input. -/
def sealLongWrong : ChangeSpec := { name := "sealLong", fn := fun _ => fun
  | [d] => { results := [.lit (.bool false)], args := [d] }
  | _ => none }
def SealLongWrongFalsely : Prop := sealLongRow.holds Try.pinned (OpenSpec.ofChange sealLongWrong)

/-- 'vigillaw03.SealNext': WHATEVER THE INPUT: true; the input reads as it did. -/
def sealNextSpec : ChangeSpec := { name := "sealNext", fn := fun _ => fun
  | [d1, d2, d3] => { results := [.lit (.bool true)], args := [d1, d2, d3] }
  | _ => none }
def sealNextRow : OpenClaim := { program := "ytiakgohipnbdbaa", sum := "d420da5d53b98ee2ba5b889fe89447a517d299f0ed76b40f9e854843e68339f6", func := "vigil/vigillaw03.SealNext", spec := "sealNext", unfollowed := true, recurses := true, apart := false }
def SealNextSaid : Prop := sealNextRow.holds Try.pinned (OpenSpec.ofChange sealNextSpec)

/-- ITS FALSE NEIGHBOUR: 'it returns false'. Refute it at one input. -/
def sealNextWrong : ChangeSpec := { name := "sealNext", fn := fun _ => fun
  | [d1, d2, d3] => { results := [.lit (.bool false)], args := [d1, d2, d3] }
  | _ => none }
def SealNextWrongFalsely : Prop := sealNextRow.holds Try.pinned (OpenSpec.ofChange sealNextWrong)

/- THE SECOND FORM. 'bulk': how many values and letters a reading holds, each counted each time it is reached (what is shared counts as often as it is met; a slice's spare places count too). A statement '..UptoSaid' is the law's where the arguments, and the package variables that the reading takes, are together of bulk at most 1048576: NARROWER than '..Said'. Prove '..Said' where nothing that the law and all that it calls make is longer than what came in: it says more and counts as full. Else prove '..UptoSaid'. A law counts once. -/
mutual
def uptoBulk {H : Type} : DataW H → Nat
  | .lit (.string bytes) => bytes.length + 1
  | .lit _ => 1
  | .nil => 1
  | .ptr d => uptoBulk d + 1
  | .slice elems spare => uptoBulkAll elems + uptoBulkAll spare + 1
  | .agg parts => uptoBulkAll parts + 1
  | .iface _ d => uptoBulk d + 1
  | .map entries => uptoBulkEntries entries + 1
  | .held _ => 1
def uptoBulkAll {H : Type} : List (DataW H) → Nat
  | [] => 0
  | d :: r => uptoBulk d + uptoBulkAll r
def uptoBulkEntries {H : Type} : List (Lit × DataW H) → Nat
  | [] => 0
  | x :: r => uptoBulkEntry x + uptoBulkEntries r
def uptoBulkEntry {H : Type} : Lit × DataW H → Nat
  | (.string bytes, d) => bytes.length + uptoBulk d + 1
  | (_, d) => uptoBulk d + 1
 end
def uptoSmall : (H : Type) → List (DataW H) → Bool := fun _ ds => decide (uptoBulkAll ds ≤ 1048576)
def OpenSpec.upto (s : _root_.Go.ChangeSpec) : _root_.Go.OpenSpec := { _root_.Go.OpenSpec.ofChange s with cond := some uptoSmall }

/-- 'vigillaw12.WindowBytes', WHERE WHAT IT READS IS OF BULK AT MOST 1048576: true; the input reads as it did. -/
def windowBytesUptoRow : OpenClaim := { program := "ytiakgohipnbdbaa", sum := "d420da5d53b98ee2ba5b889fe89447a517d299f0ed76b40f9e854843e68339f6", func := "vigil/vigillaw12.WindowBytes", spec := "windowBytes", apart := false, narrowed := true }
def WindowBytesUptoSaid : Prop := windowBytesUptoRow.holds Try.pinned (OpenSpec.upto windowBytesSpec)

/-- 'vigillaw10.CookieBakes', WHERE WHAT IT READS IS OF BULK AT MOST 1048576: true; the input reads as it did. -/
def cookieBakesUptoRow : OpenClaim := { program := "ytiakgohipnbdbaa", sum := "d420da5d53b98ee2ba5b889fe89447a517d299f0ed76b40f9e854843e68339f6", func := "vigil/vigillaw10.CookieBakes", spec := "cookieBakes", inPlace := ["sync/atomic.LoadInt64", "sync/atomic.AddInt64"], unfollowed := true, recurses := true, apart := false, narrowed := true }
def CookieBakesUptoSaid : Prop := cookieBakesUptoRow.holds Try.pinned (OpenSpec.upto cookieBakesSpec)

/-- 'vigillaw10.CookieChecks', WHERE WHAT IT READS IS OF BULK AT MOST 1048576: true; the input reads as it did. -/
def cookieChecksUptoRow : OpenClaim := { program := "ytiakgohipnbdbaa", sum := "d420da5d53b98ee2ba5b889fe89447a517d299f0ed76b40f9e854843e68339f6", func := "vigil/vigillaw10.CookieChecks", spec := "cookieChecks", inPlace := ["sync/atomic.LoadInt64", "sync/atomic.AddInt64"], unfollowed := true, recurses := true, apart := false, narrowed := true }
def CookieChecksUptoSaid : Prop := cookieChecksUptoRow.holds Try.pinned (OpenSpec.upto cookieChecksSpec)

/-- 'vigillaw10.CookieCounts', WHERE WHAT IT READS IS OF BULK AT MOST 1048576: true; the input reads as it did. -/
def cookieCountsUptoRow : OpenClaim := { program := "ytiakgohipnbdbaa", sum := "d420da5d53b98ee2ba5b889fe89447a517d299f0ed76b40f9e854843e68339f6", func := "vigil/vigillaw10.CookieCounts", spec := "cookieCounts", inPlace := ["sync/atomic.LoadInt64", "sync/atomic.AddInt64"], unfollowed := true, recurses := true, apart := false, narrowed := true }
def CookieCountsUptoSaid : Prop := cookieCountsUptoRow.holds Try.pinned (OpenSpec.upto cookieCountsSpec)

/-- 'vigillaw10.CookieNil', WHERE WHAT IT READS IS OF BULK AT MOST 1048576: true; the input reads as it did. -/
def cookieNilUptoRow : OpenClaim := { program := "ytiakgohipnbdbaa", sum := "d420da5d53b98ee2ba5b889fe89447a517d299f0ed76b40f9e854843e68339f6", func := "vigil/vigillaw10.CookieNil", spec := "cookieNil", inPlace := ["sync/atomic.LoadInt64", "sync/atomic.AddInt64"], unfollowed := true, recurses := true, apart := false, narrowed := true }
def CookieNilUptoSaid : Prop := cookieNilUptoRow.holds Try.pinned (OpenSpec.upto cookieNilSpec)

/-- 'vigillaw03.SealOpens', WHERE WHAT IT READS IS OF BULK AT MOST 1048576: true; the input reads as it did. -/
def sealOpensUptoRow : OpenClaim := { program := "ytiakgohipnbdbaa", sum := "d420da5d53b98ee2ba5b889fe89447a517d299f0ed76b40f9e854843e68339f6", func := "vigil/vigillaw03.SealOpens", spec := "sealOpens", unfollowed := true, recurses := true, apart := false, narrowed := true }
def SealOpensUptoSaid : Prop := sealOpensUptoRow.holds Try.pinned (OpenSpec.upto sealOpensSpec)

/-- 'vigillaw03.SealTurns', WHERE WHAT IT READS IS OF BULK AT MOST 1048576: true; the input reads as it did. -/
def sealTurnsUptoRow : OpenClaim := { program := "ytiakgohipnbdbaa", sum := "d420da5d53b98ee2ba5b889fe89447a517d299f0ed76b40f9e854843e68339f6", func := "vigil/vigillaw03.SealTurns", spec := "sealTurns", unfollowed := true, recurses := true, apart := false, narrowed := true }
def SealTurnsUptoSaid : Prop := sealTurnsUptoRow.holds Try.pinned (OpenSpec.upto sealTurnsSpec)

/-- 'vigillaw03.SealBytes', WHERE WHAT IT READS IS OF BULK AT MOST 1048576: true; the input reads as it did. -/
def sealBytesUptoRow : OpenClaim := { program := "ytiakgohipnbdbaa", sum := "d420da5d53b98ee2ba5b889fe89447a517d299f0ed76b40f9e854843e68339f6", func := "vigil/vigillaw03.SealBytes", spec := "sealBytes", unfollowed := true, recurses := true, apart := false, narrowed := true }
def SealBytesUptoSaid : Prop := sealBytesUptoRow.holds Try.pinned (OpenSpec.upto sealBytesSpec)

/-- 'vigillaw03.SealLong', WHERE WHAT IT READS IS OF BULK AT MOST 1048576: true; the input reads as it did. -/
def sealLongUptoRow : OpenClaim := { program := "ytiakgohipnbdbaa", sum := "d420da5d53b98ee2ba5b889fe89447a517d299f0ed76b40f9e854843e68339f6", func := "vigil/vigillaw03.SealLong", spec := "sealLong", unfollowed := true, recurses := true, apart := false, narrowed := true }
def SealLongUptoSaid : Prop := sealLongUptoRow.holds Try.pinned (OpenSpec.upto sealLongSpec)

/-- 'vigillaw03.SealNext', WHERE WHAT IT READS IS OF BULK AT MOST 1048576: true; the input reads as it did. -/
def sealNextUptoRow : OpenClaim := { program := "ytiakgohipnbdbaa", sum := "d420da5d53b98ee2ba5b889fe89447a517d299f0ed76b40f9e854843e68339f6", func := "vigil/vigillaw03.SealNext", spec := "sealNext", unfollowed := true, recurses := true, apart := false, narrowed := true }
def SealNextUptoSaid : Prop := sealNextUptoRow.holds Try.pinned (OpenSpec.upto sealNextSpec)

end Rows
end Go.Proofs.Ytiakgohipnbdbaa
