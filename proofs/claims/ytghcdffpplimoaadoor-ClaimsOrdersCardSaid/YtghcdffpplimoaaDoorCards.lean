/-
  DERIVED. GIVEN WITH THE SEED: THE CARDS: each row of YtghcdffpplimoaaDoorRows.lean that lists a variable, with what it lists TIED to the program's text (the seventh form; the later family's looks); each row that meets fmt, with fmt's text TOLD by the authors' own Lean function (tested against real Go, not proved from fmt's source: count such statements apart). THE CARD IS WHAT COUNTS. Prove the row's statement (the work); the ties are given (YtghcdffpplimoaaDoorTie.lean); close each card by the builder's one call (the guide's Derived/Test/ToyasCard.lean, 'card_holds'). Laid BY PROGRAM, IN A SANDBOX (cutbox-door.mjs). By AI agents, Wed Nov 11 2026. No macro, syntax, notation, axiom, sorry.
-/
import Derived.Test.YtghcdffpplimoaaDoorRows
import GoSem.ClaimSeven
namespace Go.Proofs.YtghcdffpplimoaaDoor
namespace Rows

/-- THE TIED CARD OF 'vigillaw14.PacketKinds'. -/
def packetKindsCard : Claim7 := { stood := { row := packetKindsRow, standIns := [], harness := (true, "a56a2e591b92e68e47fc9cb442f311241b47c8aac302c79aa20dee9c84ab9c77"), looks := false }, kinds := [], alts := [], laidByText := true, laidKinds := [.listed, .data], laidTests := true, laidLooks := .later }
def PacketKindsCardSaid : Prop := Claim7.holds Tryd.pinned (.plain (OpenSpec.ofChange packetKindsSpec)) packetKindsCard

/-- THE TIED CARD OF 'vigillaw05.ClaimsOrders'. -/
def claimsOrdersCard : Claim7 := { stood := { row := claimsOrdersRow, standIns := [], harness := (true, "a56a2e591b92e68e47fc9cb442f311241b47c8aac302c79aa20dee9c84ab9c77"), looks := false }, kinds := [], alts := [], laidByText := true, laidKinds := [.data, .data, .data], laidTests := true, laidLooks := .later }
def ClaimsOrdersCardSaid : Prop := Claim7.holds Tryd.pinned (.plain (OpenSpec.ofChange claimsOrdersSpec)) claimsOrdersCard

/-- THE SECOND FORM's CARD OF 'vigillaw14.PacketKinds'. -/
def packetKindsUptoCard : Claim7 := { stood := { row := packetKindsUptoRow, standIns := [], harness := (true, "a56a2e591b92e68e47fc9cb442f311241b47c8aac302c79aa20dee9c84ab9c77"), looks := false }, kinds := [], alts := [], laidByText := true, laidKinds := [.listed, .data], laidTests := true, laidLooks := .later }
def PacketKindsUptoCardSaid : Prop := Claim7.holds Tryd.pinned (.plain (OpenSpec.upto packetKindsSpec)) packetKindsUptoCard

/-- THE SECOND FORM's CARD OF 'vigillaw05.ClaimsOrders'. -/
def claimsOrdersUptoCard : Claim7 := { stood := { row := claimsOrdersUptoRow, standIns := [], harness := (true, "a56a2e591b92e68e47fc9cb442f311241b47c8aac302c79aa20dee9c84ab9c77"), looks := false }, kinds := [], alts := [], laidByText := true, laidKinds := [.data, .data, .data], laidTests := true, laidLooks := .later }
def ClaimsOrdersUptoCardSaid : Prop := Claim7.holds Tryd.pinned (.plain (OpenSpec.upto claimsOrdersSpec)) claimsOrdersUptoCard
end Rows
end Go.Proofs.YtghcdffpplimoaaDoor
