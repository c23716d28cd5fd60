/-
  DERIVED. GIVEN WITH THE SEED: THE CARDS: each row of YtdpmjlkmjmookaaGreatDoorRows.lean that lists a variable, with what it lists TIED to the program's text (the seventh form; the later family's looks); each row that meets fmt, with fmt's text TOLD by the authors' own Lean function (tested against real Go, not proved from fmt's source: count such statements apart). THE CARD IS WHAT COUNTS. Prove the row's statement (the work); the ties are given (YtdpmjlkmjmookaaGreatDoorTie.lean); close each card by the builder's one call (the guide's Derived/Test/ToyasCard.lean, 'card_holds'). Laid BY PROGRAM, IN A SANDBOX (cutbox-door.mjs). By AI agents, Wed Nov 11 2026. No macro, syntax, notation, axiom, sorry.
-/
import Derived.Test.YtdpmjlkmjmookaaGreatDoorRows
import GoSem.ClaimSeven
namespace Go.Proofs.YtdpmjlkmjmookaaGreatDoor
namespace Rows

/-- THE TIED CARD OF 'blotterlaw04.SpellBack'. -/
def spellBackCard : Claim7 := { stood := { row := spellBackRow, standIns := [], harness := (true, "5ad23b19569f8dc4aefaa1165b8cba8b203ae0f41764d3f8f9fd60dd5e81adb0"), looks := true }, kinds := [], alts := [], laidByText := true, laidKinds := [.data, .data, .data, .data, .sentinel, .sentinel, .pinned], laidTests := true, laidLooks := .later }
def SpellBackCardSaid : Prop := Claim7.holds Tryz.pinned (.plain (OpenSpec.ofChange spellBackSpec)) spellBackCard

/-- THE TIED CARD OF 'blotterlaw04.SpellForm'. -/
def spellFormCard : Claim7 := { stood := { row := spellFormRow, standIns := [], harness := (true, "5ad23b19569f8dc4aefaa1165b8cba8b203ae0f41764d3f8f9fd60dd5e81adb0"), looks := true }, kinds := [], alts := [], laidByText := true, laidKinds := [.data, .data, .data, .data, .sentinel, .sentinel, .pinned], laidTests := true, laidLooks := .later }
def SpellFormCardSaid : Prop := Claim7.holds Tryz.pinned (.plain (OpenSpec.ofChange spellFormSpec)) spellFormCard

/-- THE TIED CARD OF 'blotterlaw04.SpellUnlike'. -/
def spellUnlikeCard : Claim7 := { stood := { row := spellUnlikeRow, standIns := [], harness := (true, "5ad23b19569f8dc4aefaa1165b8cba8b203ae0f41764d3f8f9fd60dd5e81adb0"), looks := true }, kinds := [], alts := [], laidByText := true, laidKinds := [.data, .data, .data, .data, .sentinel, .sentinel, .pinned], laidTests := true, laidLooks := .later }
def SpellUnlikeCardSaid : Prop := Claim7.holds Tryz.pinned (.plain (OpenSpec.ofChange spellUnlikeSpec)) spellUnlikeCard

/-- THE TIED CARD OF 'blotterlaw04.SpellPrints'. -/
def spellPrintsCard : Claim7 := { stood := { row := spellPrintsRow, standIns := [], harness := (true, "5ad23b19569f8dc4aefaa1165b8cba8b203ae0f41764d3f8f9fd60dd5e81adb0"), looks := true }, kinds := [], alts := [], laidByText := true, laidKinds := [.data, .data, .data, .data, .sentinel, .sentinel, .pinned], laidTests := true, laidLooks := .later }
def SpellPrintsCardSaid : Prop := Claim7.holds Tryz.pinned (.plain (OpenSpec.ofChange spellPrintsSpec)) spellPrintsCard

/-- THE TIED CARD OF 'blotterlaw04.SpellParses'. -/
def spellParsesCard : Claim7 := { stood := { row := spellParsesRow, standIns := [], harness := (true, "5ad23b19569f8dc4aefaa1165b8cba8b203ae0f41764d3f8f9fd60dd5e81adb0"), looks := true }, kinds := [], alts := [], laidByText := true, laidKinds := [.data, .data, .data, .data, .sentinel, .sentinel, .pinned], laidTests := true, laidLooks := .later }
def SpellParsesCardSaid : Prop := Claim7.holds Tryz.pinned (.plain (OpenSpec.ofChange spellParsesSpec)) spellParsesCard

/-- THE TIED CARD OF 'blotterlaw04.SpellPlain'. -/
def spellPlainCard : Claim7 := { stood := { row := spellPlainRow, standIns := [], harness := (true, "5ad23b19569f8dc4aefaa1165b8cba8b203ae0f41764d3f8f9fd60dd5e81adb0"), looks := true }, kinds := [], alts := [], laidByText := true, laidKinds := [.data, .data, .data, .data, .sentinel, .sentinel, .pinned], laidTests := true, laidLooks := .later }
def SpellPlainCardSaid : Prop := Claim7.holds Tryz.pinned (.plain (OpenSpec.ofChange spellPlainSpec)) spellPlainCard

/-- THE TIED CARD OF 'blotterlaw22.MessageParses'. -/
def messageParsesCard : Claim7 := { stood := { row := messageParsesRow, standIns := [], harness := (true, "5ad23b19569f8dc4aefaa1165b8cba8b203ae0f41764d3f8f9fd60dd5e81adb0"), looks := true }, kinds := [], alts := [], laidByText := true, laidKinds := [.data, .data, .data, .data, .sentinel, .sentinel, .pinned], laidTests := true, laidLooks := .later }
def MessageParsesCardSaid : Prop := Claim7.holds Tryz.pinned (.plain (OpenSpec.ofChange messageParsesSpec)) messageParsesCard

/-- THE TIED CARD OF 'blotterlaw22.MessageNums'. -/
def messageNumsCard : Claim7 := { stood := { row := messageNumsRow, standIns := [], harness := (true, "5ad23b19569f8dc4aefaa1165b8cba8b203ae0f41764d3f8f9fd60dd5e81adb0"), looks := true }, kinds := [], alts := [], laidByText := true, laidKinds := [.data, .data, .data, .data, .sentinel, .sentinel, .pinned], laidTests := true, laidLooks := .later }
def MessageNumsCardSaid : Prop := Claim7.holds Tryz.pinned (.plain (OpenSpec.ofChange messageNumsSpec)) messageNumsCard

/-- THE TIED CARD OF 'blotterlaw22.MessageWorks'. -/
def messageWorksCard : Claim7 := { stood := { row := messageWorksRow, standIns := [], harness := (true, "5ad23b19569f8dc4aefaa1165b8cba8b203ae0f41764d3f8f9fd60dd5e81adb0"), looks := true }, kinds := [], alts := [], laidByText := true, laidKinds := [.data, .data, .data, .data, .sentinel, .sentinel, .pinned], laidTests := true, laidLooks := .later }
def MessageWorksCardSaid : Prop := Claim7.holds Tryz.pinned (.plain (OpenSpec.ofChange messageWorksSpec)) messageWorksCard

/-- THE TIED CARD OF 'blotterlaw22.MessageRows'. -/
def messageRowsCard : Claim7 := { stood := { row := messageRowsRow, standIns := [], harness := (true, "5ad23b19569f8dc4aefaa1165b8cba8b203ae0f41764d3f8f9fd60dd5e81adb0"), looks := true }, kinds := [], alts := [], laidByText := true, laidKinds := [.data, .data, .data, .data, .sentinel, .sentinel, .pinned], laidTests := true, laidLooks := .later }
def MessageRowsCardSaid : Prop := Claim7.holds Tryz.pinned (.plain (OpenSpec.ofChange messageRowsSpec)) messageRowsCard

/-- THE TIED CARD OF 'blotterlaw22.MessageDocs'. -/
def messageDocsCard : Claim7 := { stood := { row := messageDocsRow, standIns := [], harness := (true, "5ad23b19569f8dc4aefaa1165b8cba8b203ae0f41764d3f8f9fd60dd5e81adb0"), looks := true }, kinds := [], alts := [], laidByText := true, laidKinds := [.data, .data, .data, .data, .sentinel, .sentinel, .pinned], laidTests := true, laidLooks := .later }
def MessageDocsCardSaid : Prop := Claim7.holds Tryz.pinned (.plain (OpenSpec.ofChange messageDocsSpec)) messageDocsCard

/-- THE TIED CARD OF 'blotterlaw22.MessageBack'. -/
def messageBackCard : Claim7 := { stood := { row := messageBackRow, standIns := [], harness := (true, "5ad23b19569f8dc4aefaa1165b8cba8b203ae0f41764d3f8f9fd60dd5e81adb0"), looks := true }, kinds := [], alts := [], laidByText := true, laidKinds := [.data, .data, .data, .data, .sentinel, .sentinel, .pinned], laidTests := true, laidLooks := .later }
def MessageBackCardSaid : Prop := Claim7.holds Tryz.pinned (.plain (OpenSpec.ofChange messageBackSpec)) messageBackCard

/-- THE SECOND FORM's CARD OF 'blotterlaw04.SpellBack'. -/
def spellBackUptoCard : Claim7 := { stood := { row := spellBackUptoRow, standIns := [], harness := (true, "5ad23b19569f8dc4aefaa1165b8cba8b203ae0f41764d3f8f9fd60dd5e81adb0"), looks := true }, kinds := [], alts := [], laidByText := true, laidKinds := [.data, .data, .data, .data, .sentinel, .sentinel, .pinned], laidTests := true, laidLooks := .later }
def SpellBackUptoCardSaid : Prop := Claim7.holds Tryz.pinned (.plain (OpenSpec.upto spellBackSpec)) spellBackUptoCard

/-- THE SECOND FORM's CARD OF 'blotterlaw04.SpellForm'. -/
def spellFormUptoCard : Claim7 := { stood := { row := spellFormUptoRow, standIns := [], harness := (true, "5ad23b19569f8dc4aefaa1165b8cba8b203ae0f41764d3f8f9fd60dd5e81adb0"), looks := true }, kinds := [], alts := [], laidByText := true, laidKinds := [.data, .data, .data, .data, .sentinel, .sentinel, .pinned], laidTests := true, laidLooks := .later }
def SpellFormUptoCardSaid : Prop := Claim7.holds Tryz.pinned (.plain (OpenSpec.upto spellFormSpec)) spellFormUptoCard

/-- THE SECOND FORM's CARD OF 'blotterlaw04.SpellUnlike'. -/
def spellUnlikeUptoCard : Claim7 := { stood := { row := spellUnlikeUptoRow, standIns := [], harness := (true, "5ad23b19569f8dc4aefaa1165b8cba8b203ae0f41764d3f8f9fd60dd5e81adb0"), looks := true }, kinds := [], alts := [], laidByText := true, laidKinds := [.data, .data, .data, .data, .sentinel, .sentinel, .pinned], laidTests := true, laidLooks := .later }
def SpellUnlikeUptoCardSaid : Prop := Claim7.holds Tryz.pinned (.plain (OpenSpec.upto spellUnlikeSpec)) spellUnlikeUptoCard

/-- THE SECOND FORM's CARD OF 'blotterlaw04.SpellPrints'. -/
def spellPrintsUptoCard : Claim7 := { stood := { row := spellPrintsUptoRow, standIns := [], harness := (true, "5ad23b19569f8dc4aefaa1165b8cba8b203ae0f41764d3f8f9fd60dd5e81adb0"), looks := true }, kinds := [], alts := [], laidByText := true, laidKinds := [.data, .data, .data, .data, .sentinel, .sentinel, .pinned], laidTests := true, laidLooks := .later }
def SpellPrintsUptoCardSaid : Prop := Claim7.holds Tryz.pinned (.plain (OpenSpec.upto spellPrintsSpec)) spellPrintsUptoCard

/-- THE SECOND FORM's CARD OF 'blotterlaw04.SpellParses'. -/
def spellParsesUptoCard : Claim7 := { stood := { row := spellParsesUptoRow, standIns := [], harness := (true, "5ad23b19569f8dc4aefaa1165b8cba8b203ae0f41764d3f8f9fd60dd5e81adb0"), looks := true }, kinds := [], alts := [], laidByText := true, laidKinds := [.data, .data, .data, .data, .sentinel, .sentinel, .pinned], laidTests := true, laidLooks := .later }
def SpellParsesUptoCardSaid : Prop := Claim7.holds Tryz.pinned (.plain (OpenSpec.upto spellParsesSpec)) spellParsesUptoCard

/-- THE SECOND FORM's CARD OF 'blotterlaw04.SpellPlain'. -/
def spellPlainUptoCard : Claim7 := { stood := { row := spellPlainUptoRow, standIns := [], harness := (true, "5ad23b19569f8dc4aefaa1165b8cba8b203ae0f41764d3f8f9fd60dd5e81adb0"), looks := true }, kinds := [], alts := [], laidByText := true, laidKinds := [.data, .data, .data, .data, .sentinel, .sentinel, .pinned], laidTests := true, laidLooks := .later }
def SpellPlainUptoCardSaid : Prop := Claim7.holds Tryz.pinned (.plain (OpenSpec.upto spellPlainSpec)) spellPlainUptoCard

/-- THE SECOND FORM's CARD OF 'blotterlaw22.MessageParses'. -/
def messageParsesUptoCard : Claim7 := { stood := { row := messageParsesUptoRow, standIns := [], harness := (true, "5ad23b19569f8dc4aefaa1165b8cba8b203ae0f41764d3f8f9fd60dd5e81adb0"), looks := true }, kinds := [], alts := [], laidByText := true, laidKinds := [.data, .data, .data, .data, .sentinel, .sentinel, .pinned], laidTests := true, laidLooks := .later }
def MessageParsesUptoCardSaid : Prop := Claim7.holds Tryz.pinned (.plain (OpenSpec.upto messageParsesSpec)) messageParsesUptoCard

/-- THE SECOND FORM's CARD OF 'blotterlaw22.MessageNums'. -/
def messageNumsUptoCard : Claim7 := { stood := { row := messageNumsUptoRow, standIns := [], harness := (true, "5ad23b19569f8dc4aefaa1165b8cba8b203ae0f41764d3f8f9fd60dd5e81adb0"), looks := true }, kinds := [], alts := [], laidByText := true, laidKinds := [.data, .data, .data, .data, .sentinel, .sentinel, .pinned], laidTests := true, laidLooks := .later }
def MessageNumsUptoCardSaid : Prop := Claim7.holds Tryz.pinned (.plain (OpenSpec.upto messageNumsSpec)) messageNumsUptoCard

/-- THE SECOND FORM's CARD OF 'blotterlaw22.MessageWorks'. -/
def messageWorksUptoCard : Claim7 := { stood := { row := messageWorksUptoRow, standIns := [], harness := (true, "5ad23b19569f8dc4aefaa1165b8cba8b203ae0f41764d3f8f9fd60dd5e81adb0"), looks := true }, kinds := [], alts := [], laidByText := true, laidKinds := [.data, .data, .data, .data, .sentinel, .sentinel, .pinned], laidTests := true, laidLooks := .later }
def MessageWorksUptoCardSaid : Prop := Claim7.holds Tryz.pinned (.plain (OpenSpec.upto messageWorksSpec)) messageWorksUptoCard

/-- THE SECOND FORM's CARD OF 'blotterlaw22.MessageRows'. -/
def messageRowsUptoCard : Claim7 := { stood := { row := messageRowsUptoRow, standIns := [], harness := (true, "5ad23b19569f8dc4aefaa1165b8cba8b203ae0f41764d3f8f9fd60dd5e81adb0"), looks := true }, kinds := [], alts := [], laidByText := true, laidKinds := [.data, .data, .data, .data, .sentinel, .sentinel, .pinned], laidTests := true, laidLooks := .later }
def MessageRowsUptoCardSaid : Prop := Claim7.holds Tryz.pinned (.plain (OpenSpec.upto messageRowsSpec)) messageRowsUptoCard

/-- THE SECOND FORM's CARD OF 'blotterlaw22.MessageDocs'. -/
def messageDocsUptoCard : Claim7 := { stood := { row := messageDocsUptoRow, standIns := [], harness := (true, "5ad23b19569f8dc4aefaa1165b8cba8b203ae0f41764d3f8f9fd60dd5e81adb0"), looks := true }, kinds := [], alts := [], laidByText := true, laidKinds := [.data, .data, .data, .data, .sentinel, .sentinel, .pinned], laidTests := true, laidLooks := .later }
def MessageDocsUptoCardSaid : Prop := Claim7.holds Tryz.pinned (.plain (OpenSpec.upto messageDocsSpec)) messageDocsUptoCard

/-- THE SECOND FORM's CARD OF 'blotterlaw22.MessageBack'. -/
def messageBackUptoCard : Claim7 := { stood := { row := messageBackUptoRow, standIns := [], harness := (true, "5ad23b19569f8dc4aefaa1165b8cba8b203ae0f41764d3f8f9fd60dd5e81adb0"), looks := true }, kinds := [], alts := [], laidByText := true, laidKinds := [.data, .data, .data, .data, .sentinel, .sentinel, .pinned], laidTests := true, laidLooks := .later }
def MessageBackUptoCardSaid : Prop := Claim7.holds Tryz.pinned (.plain (OpenSpec.upto messageBackSpec)) messageBackUptoCard
end Rows
end Go.Proofs.YtdpmjlkmjmookaaGreatDoor
