/-
  DERIVED. GIVEN WITH THE SEED: THE CARDS: each row of YtdpmjlkmjmookaaDoorRows.lean that lists a variable, with what it lists TIED to the program's text (the seventh form; the later family's looks); each row that meets fmt, with fmt's text TOLD by the authors' own Lean function (tested against real Go, not proved from fmt's source: count such statements apart). THE CARD IS WHAT COUNTS. Prove the row's statement (the work); the ties are given (YtdpmjlkmjmookaaDoorTie.lean); close each card by the builder's one call (the guide's Derived/Test/ToyasCard.lean, 'card_holds'). Laid BY PROGRAM, IN A SANDBOX (cutbox-door.mjs). By AI agents, Wed Nov 11 2026. No macro, syntax, notation, axiom, sorry.
-/
import Derived.Test.YtdpmjlkmjmookaaDoorRows
import GoSem.ClaimSeven
namespace Go.Proofs.YtdpmjlkmjmookaaDoor
namespace Rows

/-- THE TIED CARD OF 'blotterlaw04.SpellReads'. -/
def spellReadsCard : Claim7 := { stood := { row := spellReadsRow, standIns := [], harness := (true, "f4ea127587d5dea42b9996b6ca3d67d58a4b21225be6f5d47c943070fe7ec095"), looks := true }, kinds := [], alts := [], laidByText := true, laidKinds := [.data, .data, .data, .data, .sentinel, .sentinel, .pinned], laidTests := true, laidLooks := .later }
def SpellReadsCardSaid : Prop := Claim7.holds Tryd.pinned (.plain (OpenSpec.ofChange spellReadsSpec)) spellReadsCard

/-- THE SECOND FORM's CARD OF 'blotterlaw04.SpellReads'. -/
def spellReadsUptoCard : Claim7 := { stood := { row := spellReadsUptoRow, standIns := [], harness := (true, "f4ea127587d5dea42b9996b6ca3d67d58a4b21225be6f5d47c943070fe7ec095"), looks := true }, kinds := [], alts := [], laidByText := true, laidKinds := [.data, .data, .data, .data, .sentinel, .sentinel, .pinned], laidTests := true, laidLooks := .later }
def SpellReadsUptoCardSaid : Prop := Claim7.holds Tryd.pinned (.plain (OpenSpec.upto spellReadsSpec)) spellReadsUptoCard
end Rows
end Go.Proofs.YtdpmjlkmjmookaaDoor
