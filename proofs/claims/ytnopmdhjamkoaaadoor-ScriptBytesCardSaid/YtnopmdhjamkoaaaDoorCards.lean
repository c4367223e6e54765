/-
  DERIVED. GIVEN WITH THE SEED: THE CARDS: each row of YtnopmdhjamkoaaaDoorRows.lean that lists a variable, with what it lists TIED to the program's text (the seventh form; the later family's looks); each row that meets fmt, with fmt's text TOLD by the authors' own Lean function (tested against real Go, not proved from fmt's source: count such statements apart). THE CARD IS WHAT COUNTS. Prove the row's statement (the work); the ties are given (YtnopmdhjamkoaaaDoorTie.lean); close each card by the builder's one call (the guide's Derived/Test/ToyasCard.lean, 'card_holds'). Laid BY PROGRAM, IN A SANDBOX (cutbox-door.mjs). By AI agents, Wed Nov 11 2026. No macro, syntax, notation, axiom, sorry.
-/
import Derived.Test.YtnopmdhjamkoaaaDoorRows
import GoSem.ClaimSeven
namespace Go.Proofs.YtnopmdhjamkoaaaDoor
namespace Rows

/-- THE TIED CARD OF 'vigillaw27.EventsTexts'. -/
def eventsTextsCard : Claim7 := { stood := { row := eventsTextsRow, standIns := [], harness := (true, "ca7157b35236b165d3723c33f76d19abd37a7bdfbb454a9d0fff909f395dc387"), looks := false }, kinds := [], alts := [], laidByText := true, laidKinds := [.data, .data, .data], laidTests := true, laidLooks := .later }
def EventsTextsCardSaid : Prop := Claim7.holds Tryd.pinned (.plain (OpenSpec.ofChange eventsTextsSpec)) eventsTextsCard

/-- THE TIED CARD OF 'vigillaw13.DropsWords'. -/
def dropsWordsCard : Claim7 := { stood := { row := dropsWordsRow, standIns := [], harness := (true, "ca7157b35236b165d3723c33f76d19abd37a7bdfbb454a9d0fff909f395dc387"), looks := false }, kinds := [], alts := [], laidByText := true, laidKinds := [.listed, .data], laidTests := true, laidLooks := .later }
def DropsWordsCardSaid : Prop := Claim7.holds Tryd.pinned (.plain (OpenSpec.ofChange dropsWordsSpec)) dropsWordsCard

/-- THE TIED CARD OF 'vigillaw31.ScriptCuts'. -/
def scriptCutsCard : Claim7 := { stood := { row := scriptCutsRow, standIns := [], harness := (true, "ca7157b35236b165d3723c33f76d19abd37a7bdfbb454a9d0fff909f395dc387"), looks := false }, kinds := [], alts := [], laidByText := true, laidKinds := [.data, .data, .data, .listed, .data], laidTests := true, laidLooks := .later }
def ScriptCutsCardSaid : Prop := Claim7.holds Tryd.pinned (.plain (OpenSpec.ofChange scriptCutsSpec)) scriptCutsCard

/-- THE TIED CARD OF 'vigillaw31.ScriptTells'. -/
def scriptTellsCard : Claim7 := { stood := { row := scriptTellsRow, standIns := [], harness := (true, "ca7157b35236b165d3723c33f76d19abd37a7bdfbb454a9d0fff909f395dc387"), looks := false }, kinds := [], alts := [], laidByText := true, laidKinds := [.data, .data, .data, .listed, .data], laidTests := true, laidLooks := .later }
def ScriptTellsCardSaid : Prop := Claim7.holds Tryd.pinned (.plain (OpenSpec.ofChange scriptTellsSpec)) scriptTellsCard

/-- THE TIED CARD OF 'vigillaw31.ScriptBytes'. -/
def scriptBytesCard : Claim7 := { stood := { row := scriptBytesRow, standIns := [], harness := (true, "ca7157b35236b165d3723c33f76d19abd37a7bdfbb454a9d0fff909f395dc387"), looks := false }, kinds := [], alts := [], laidByText := true, laidKinds := [.data, .data, .data, .listed, .data], laidTests := true, laidLooks := .later }
def ScriptBytesCardSaid : Prop := Claim7.holds Tryd.pinned (.plain (OpenSpec.ofChange scriptBytesSpec)) scriptBytesCard

/-- THE SECOND FORM's CARD OF 'vigillaw27.EventsTexts'. -/
def eventsTextsUptoCard : Claim7 := { stood := { row := eventsTextsUptoRow, standIns := [], harness := (true, "ca7157b35236b165d3723c33f76d19abd37a7bdfbb454a9d0fff909f395dc387"), looks := false }, kinds := [], alts := [], laidByText := true, laidKinds := [.data, .data, .data], laidTests := true, laidLooks := .later }
def EventsTextsUptoCardSaid : Prop := Claim7.holds Tryd.pinned (.plain (OpenSpec.upto eventsTextsSpec)) eventsTextsUptoCard

/-- THE SECOND FORM's CARD OF 'vigillaw13.DropsWords'. -/
def dropsWordsUptoCard : Claim7 := { stood := { row := dropsWordsUptoRow, standIns := [], harness := (true, "ca7157b35236b165d3723c33f76d19abd37a7bdfbb454a9d0fff909f395dc387"), looks := false }, kinds := [], alts := [], laidByText := true, laidKinds := [.listed, .data], laidTests := true, laidLooks := .later }
def DropsWordsUptoCardSaid : Prop := Claim7.holds Tryd.pinned (.plain (OpenSpec.upto dropsWordsSpec)) dropsWordsUptoCard

/-- THE SECOND FORM's CARD OF 'vigillaw31.ScriptCuts'. -/
def scriptCutsUptoCard : Claim7 := { stood := { row := scriptCutsUptoRow, standIns := [], harness := (true, "ca7157b35236b165d3723c33f76d19abd37a7bdfbb454a9d0fff909f395dc387"), looks := false }, kinds := [], alts := [], laidByText := true, laidKinds := [.data, .data, .data, .listed, .data], laidTests := true, laidLooks := .later }
def ScriptCutsUptoCardSaid : Prop := Claim7.holds Tryd.pinned (.plain (OpenSpec.upto scriptCutsSpec)) scriptCutsUptoCard

/-- THE SECOND FORM's CARD OF 'vigillaw31.ScriptTells'. -/
def scriptTellsUptoCard : Claim7 := { stood := { row := scriptTellsUptoRow, standIns := [], harness := (true, "ca7157b35236b165d3723c33f76d19abd37a7bdfbb454a9d0fff909f395dc387"), looks := false }, kinds := [], alts := [], laidByText := true, laidKinds := [.data, .data, .data, .listed, .data], laidTests := true, laidLooks := .later }
def ScriptTellsUptoCardSaid : Prop := Claim7.holds Tryd.pinned (.plain (OpenSpec.upto scriptTellsSpec)) scriptTellsUptoCard

/-- THE SECOND FORM's CARD OF 'vigillaw31.ScriptBytes'. -/
def scriptBytesUptoCard : Claim7 := { stood := { row := scriptBytesUptoRow, standIns := [], harness := (true, "ca7157b35236b165d3723c33f76d19abd37a7bdfbb454a9d0fff909f395dc387"), looks := false }, kinds := [], alts := [], laidByText := true, laidKinds := [.data, .data, .data, .listed, .data], laidTests := true, laidLooks := .later }
def ScriptBytesUptoCardSaid : Prop := Claim7.holds Tryd.pinned (.plain (OpenSpec.upto scriptBytesSpec)) scriptBytesUptoCard
end Rows
end Go.Proofs.YtnopmdhjamkoaaaDoor
