/-
  DERIVED. GIVEN WITH THE SEED: THE CARDS: each row of YtbegahbagnflnaaDoorRows.lean that lists a variable, with what it lists TIED to the program's text (the seventh form; the later family's looks); each row that meets fmt, with fmt's text TOLD by the authors' own Lean function (tested against real Go, not proved from fmt's source: count such statements apart). THE CARD IS WHAT COUNTS. Prove the row's statement (the work); the ties are given (YtbegahbagnflnaaDoorTie.lean); close each card by the builder's one call (the guide's Derived/Test/ToyasCard.lean, 'card_holds'). Laid BY PROGRAM, IN A SANDBOX (cutbox-door.mjs). By AI agents, Wed Nov 11 2026. No macro, syntax, notation, axiom, sorry.
-/
import Derived.Test.YtbegahbagnflnaaDoorRows
import GoSem.ClaimSeven
namespace Go.Proofs.YtbegahbagnflnaaDoor
namespace Rows

/-- THE TIED CARD OF 'inglenooklaw18.CodeLines'. -/
def codeLinesCard : Claim7 := { stood := { row := codeLinesRow, standIns := [], harness := (true, "7d3efe626f69f8d871bde87f686caf2f1736ad505270619b4c3152bccbfdac12"), looks := true }, kinds := [], alts := [], laidByText := true, laidKinds := [.sentinel, .sentinel, .sentinel, .sentinel, .sentinel], laidTests := true, laidLooks := .later }
def CodeLinesCardSaid : Prop := Claim7.holds Tryd.pinned (.plain (OpenSpec.ofChange codeLinesSpec)) codeLinesCard

/-- THE TIED CARD OF 'inglenooklaw18.CodeAny'. -/
def codeAnyCard : Claim7 := { stood := { row := codeAnyRow, standIns := [], harness := (true, "7d3efe626f69f8d871bde87f686caf2f1736ad505270619b4c3152bccbfdac12"), looks := true }, kinds := [], alts := [], laidByText := true, laidKinds := [.sentinel, .sentinel, .sentinel, .sentinel, .sentinel, .sentinel, .sentinel, .sentinel, .sentinel, .sentinel, .sentinel, .sentinel, .sentinel, .sentinel, .sentinel, .sentinel, .sentinel], laidTests := true, laidLooks := .later }
def CodeAnyCardSaid : Prop := Claim7.holds Tryd.pinned (.plain (OpenSpec.ofChange codeAnySpec)) codeAnyCard

/-- THE SECOND FORM's CARD OF 'inglenooklaw18.CodeLines'. -/
def codeLinesUptoCard : Claim7 := { stood := { row := codeLinesUptoRow, standIns := [], harness := (true, "7d3efe626f69f8d871bde87f686caf2f1736ad505270619b4c3152bccbfdac12"), looks := true }, kinds := [], alts := [], laidByText := true, laidKinds := [.sentinel, .sentinel, .sentinel, .sentinel, .sentinel], laidTests := true, laidLooks := .later }
def CodeLinesUptoCardSaid : Prop := Claim7.holds Tryd.pinned (.plain (OpenSpec.upto codeLinesSpec)) codeLinesUptoCard

/-- THE SECOND FORM's CARD OF 'inglenooklaw18.CodeAny'. -/
def codeAnyUptoCard : Claim7 := { stood := { row := codeAnyUptoRow, standIns := [], harness := (true, "7d3efe626f69f8d871bde87f686caf2f1736ad505270619b4c3152bccbfdac12"), looks := true }, kinds := [], alts := [], laidByText := true, laidKinds := [.sentinel, .sentinel, .sentinel, .sentinel, .sentinel, .sentinel, .sentinel, .sentinel, .sentinel, .sentinel, .sentinel, .sentinel, .sentinel, .sentinel, .sentinel, .sentinel, .sentinel], laidTests := true, laidLooks := .later }
def CodeAnyUptoCardSaid : Prop := Claim7.holds Tryd.pinned (.plain (OpenSpec.upto codeAnySpec)) codeAnyUptoCard
end Rows
end Go.Proofs.YtbegahbagnflnaaDoor
