/-
  DERIVED. GIVEN WITH THE SEED: THE CARDS: each row of YtnbemfceoianiaaDoorRows.lean that lists a variable, with what it lists TIED to the program's text (the seventh form; the later family's looks); each row that meets fmt, with fmt's text TOLD by the authors' own Lean function (tested against real Go, not proved from fmt's source: count such statements apart). THE CARD IS WHAT COUNTS. Prove the row's statement (the work); the ties are given (YtnbemfceoianiaaDoorTie.lean); close each card by the builder's one call (the guide's Derived/Test/ToyasCard.lean, 'card_holds'). Laid BY PROGRAM, IN A SANDBOX (cutbox-door.mjs). By AI agents, Wed Nov 11 2026. No macro, syntax, notation, axiom, sorry.
-/
import Derived.Test.YtnbemfceoianiaaDoorRows
import GoSem.ClaimSeven
namespace Go.Proofs.YtnbemfceoianiaaDoor
namespace Rows

/-- THE TIED CARD OF 'vigillaw14.PacketKinds'. -/
def packetKindsCard : Claim7 := { stood := { row := packetKindsRow, standIns := [], harness := (true, "87cc4a5d5c98e9abd2407444a55ecff56128bed864242f9122f46491d73f830a"), looks := false }, kinds := [], alts := [], laidByText := true, laidKinds := [.listed, .data], laidTests := true, laidLooks := .later }
def PacketKindsCardSaid : Prop := Claim7.holds Tryd.pinned (.plain (OpenSpec.ofChange packetKindsSpec)) packetKindsCard

/-- THE SECOND FORM's CARD OF 'vigillaw14.PacketKinds'. -/
def packetKindsUptoCard : Claim7 := { stood := { row := packetKindsUptoRow, standIns := [], harness := (true, "87cc4a5d5c98e9abd2407444a55ecff56128bed864242f9122f46491d73f830a"), looks := false }, kinds := [], alts := [], laidByText := true, laidKinds := [.listed, .data], laidTests := true, laidLooks := .later }
def PacketKindsUptoCardSaid : Prop := Claim7.holds Tryd.pinned (.plain (OpenSpec.upto packetKindsSpec)) packetKindsUptoCard
end Rows
end Go.Proofs.YtnbemfceoianiaaDoor
