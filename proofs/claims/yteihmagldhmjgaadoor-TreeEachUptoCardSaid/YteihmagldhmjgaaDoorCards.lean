/-
  DERIVED. GIVEN WITH THE SEED: THE CARDS: each row of YteihmagldhmjgaaDoorRows.lean that lists a variable, with what it lists TIED to the program's text (the seventh form; the later family's looks); each row that meets fmt, with fmt's text TOLD by the authors' own Lean function (tested against real Go, not proved from fmt's source: count such statements apart). THE CARD IS WHAT COUNTS. Prove the row's statement (the work); the ties are given (YteihmagldhmjgaaDoorTie.lean); close each card by the builder's one call (the guide's Derived/Test/ToyasCard.lean, 'card_holds'). Laid BY PROGRAM, IN A SANDBOX (cutbox-door.mjs). By AI agents, Wed Nov 11 2026. No macro, syntax, notation, axiom, sorry.
-/
import Derived.Test.YteihmagldhmjgaaDoorRows
import GoSem.ClaimSeven
namespace Go.Proofs.YteihmagldhmjgaaDoor
namespace Rows

/-- THE TIED CARD OF 'inglenooklaw7.TreeLoops'. -/
def treeLoopsCard : Claim7 := { stood := { row := treeLoopsRow, standIns := [], harness := (true, "0302dd13a4e18b5e5e1ccc67fa2ab5808e787cffe35062766e327b5a51a7721f"), looks := true }, kinds := [], alts := [], laidByText := true, laidKinds := [.sentinel, .sentinel, .sentinel, .sentinel, .sentinel, .sentinel, .sentinel, .sentinel, .sentinel, .sentinel, .sentinel, .sentinel, .sentinel, .sentinel, .sentinel, .sentinel, .sentinel], laidTests := true, laidLooks := .later }
def TreeLoopsCardSaid : Prop := Claim7.holds Tryd.pinned (.plain (OpenSpec.ofChange treeLoopsSpec)) treeLoopsCard

/-- THE TIED CARD OF 'inglenooklaw7.TreeValid'. -/
def treeValidCard : Claim7 := { stood := { row := treeValidRow, standIns := [], harness := (true, "0302dd13a4e18b5e5e1ccc67fa2ab5808e787cffe35062766e327b5a51a7721f"), looks := true }, kinds := [], alts := [], laidByText := true, laidKinds := [.sentinel, .sentinel, .sentinel, .sentinel, .sentinel, .sentinel, .sentinel, .sentinel, .sentinel, .sentinel, .sentinel, .sentinel, .sentinel, .sentinel, .sentinel, .sentinel, .sentinel], laidTests := true, laidLooks := .later }
def TreeValidCardSaid : Prop := Claim7.holds Tryd.pinned (.plain (OpenSpec.ofChange treeValidSpec)) treeValidCard

/-- THE TIED CARD OF 'inglenooklaw7.TreeBounds'. -/
def treeBoundsCard : Claim7 := { stood := { row := treeBoundsRow, standIns := [], harness := (true, "0302dd13a4e18b5e5e1ccc67fa2ab5808e787cffe35062766e327b5a51a7721f"), looks := true }, kinds := [], alts := [], laidByText := true, laidKinds := [.sentinel, .sentinel, .sentinel, .sentinel, .sentinel, .sentinel, .sentinel, .sentinel, .sentinel, .sentinel, .sentinel, .sentinel, .sentinel, .sentinel, .sentinel, .sentinel, .sentinel], laidTests := true, laidLooks := .later }
def TreeBoundsCardSaid : Prop := Claim7.holds Tryd.pinned (.plain (OpenSpec.ofChange treeBoundsSpec)) treeBoundsCard

/-- THE TIED CARD OF 'inglenooklaw7.TreeEach'. -/
def treeEachCard : Claim7 := { stood := { row := treeEachRow, standIns := [], harness := (true, "0302dd13a4e18b5e5e1ccc67fa2ab5808e787cffe35062766e327b5a51a7721f"), looks := true }, kinds := [], alts := [], laidByText := true, laidKinds := [.sentinel, .sentinel, .sentinel, .sentinel, .sentinel], laidTests := true, laidLooks := .later }
def TreeEachCardSaid : Prop := Claim7.holds Tryd.pinned (.plain (OpenSpec.ofChange treeEachSpec)) treeEachCard

/-- THE TIED CARD OF 'inglenooklaw7.TreeTurned'. -/
def treeTurnedCard : Claim7 := { stood := { row := treeTurnedRow, standIns := [], harness := (true, "0302dd13a4e18b5e5e1ccc67fa2ab5808e787cffe35062766e327b5a51a7721f"), looks := true }, kinds := [], alts := [], laidByText := true, laidKinds := [.sentinel, .sentinel, .sentinel, .sentinel, .sentinel], laidTests := true, laidLooks := .later }
def TreeTurnedCardSaid : Prop := Claim7.holds Tryd.pinned (.plain (OpenSpec.ofChange treeTurnedSpec)) treeTurnedCard

/-- THE TIED CARD OF 'inglenooklaw7.TreeSays'. -/
def treeSaysCard : Claim7 := { stood := { row := treeSaysRow, standIns := [], harness := (true, "0302dd13a4e18b5e5e1ccc67fa2ab5808e787cffe35062766e327b5a51a7721f"), looks := true }, kinds := [], alts := [], laidByText := true, laidKinds := [.sentinel, .sentinel, .sentinel, .sentinel, .sentinel], laidTests := true, laidLooks := .later }
def TreeSaysCardSaid : Prop := Claim7.holds Tryd.pinned (.plain (OpenSpec.ofChange treeSaysSpec)) treeSaysCard

/-- THE SECOND FORM's CARD OF 'inglenooklaw7.TreeLoops'. -/
def treeLoopsUptoCard : Claim7 := { stood := { row := treeLoopsUptoRow, standIns := [], harness := (true, "0302dd13a4e18b5e5e1ccc67fa2ab5808e787cffe35062766e327b5a51a7721f"), looks := true }, kinds := [], alts := [], laidByText := true, laidKinds := [.sentinel, .sentinel, .sentinel, .sentinel, .sentinel, .sentinel, .sentinel, .sentinel, .sentinel, .sentinel, .sentinel, .sentinel, .sentinel, .sentinel, .sentinel, .sentinel, .sentinel], laidTests := true, laidLooks := .later }
def TreeLoopsUptoCardSaid : Prop := Claim7.holds Tryd.pinned (.plain (OpenSpec.upto treeLoopsSpec)) treeLoopsUptoCard

/-- THE SECOND FORM's CARD OF 'inglenooklaw7.TreeValid'. -/
def treeValidUptoCard : Claim7 := { stood := { row := treeValidUptoRow, standIns := [], harness := (true, "0302dd13a4e18b5e5e1ccc67fa2ab5808e787cffe35062766e327b5a51a7721f"), looks := true }, kinds := [], alts := [], laidByText := true, laidKinds := [.sentinel, .sentinel, .sentinel, .sentinel, .sentinel, .sentinel, .sentinel, .sentinel, .sentinel, .sentinel, .sentinel, .sentinel, .sentinel, .sentinel, .sentinel, .sentinel, .sentinel], laidTests := true, laidLooks := .later }
def TreeValidUptoCardSaid : Prop := Claim7.holds Tryd.pinned (.plain (OpenSpec.upto treeValidSpec)) treeValidUptoCard

/-- THE SECOND FORM's CARD OF 'inglenooklaw7.TreeBounds'. -/
def treeBoundsUptoCard : Claim7 := { stood := { row := treeBoundsUptoRow, standIns := [], harness := (true, "0302dd13a4e18b5e5e1ccc67fa2ab5808e787cffe35062766e327b5a51a7721f"), looks := true }, kinds := [], alts := [], laidByText := true, laidKinds := [.sentinel, .sentinel, .sentinel, .sentinel, .sentinel, .sentinel, .sentinel, .sentinel, .sentinel, .sentinel, .sentinel, .sentinel, .sentinel, .sentinel, .sentinel, .sentinel, .sentinel], laidTests := true, laidLooks := .later }
def TreeBoundsUptoCardSaid : Prop := Claim7.holds Tryd.pinned (.plain (OpenSpec.upto treeBoundsSpec)) treeBoundsUptoCard

/-- THE SECOND FORM's CARD OF 'inglenooklaw7.TreeEach'. -/
def treeEachUptoCard : Claim7 := { stood := { row := treeEachUptoRow, standIns := [], harness := (true, "0302dd13a4e18b5e5e1ccc67fa2ab5808e787cffe35062766e327b5a51a7721f"), looks := true }, kinds := [], alts := [], laidByText := true, laidKinds := [.sentinel, .sentinel, .sentinel, .sentinel, .sentinel], laidTests := true, laidLooks := .later }
def TreeEachUptoCardSaid : Prop := Claim7.holds Tryd.pinned (.plain (OpenSpec.upto treeEachSpec)) treeEachUptoCard

/-- THE SECOND FORM's CARD OF 'inglenooklaw7.TreeTurned'. -/
def treeTurnedUptoCard : Claim7 := { stood := { row := treeTurnedUptoRow, standIns := [], harness := (true, "0302dd13a4e18b5e5e1ccc67fa2ab5808e787cffe35062766e327b5a51a7721f"), looks := true }, kinds := [], alts := [], laidByText := true, laidKinds := [.sentinel, .sentinel, .sentinel, .sentinel, .sentinel], laidTests := true, laidLooks := .later }
def TreeTurnedUptoCardSaid : Prop := Claim7.holds Tryd.pinned (.plain (OpenSpec.upto treeTurnedSpec)) treeTurnedUptoCard

/-- THE SECOND FORM's CARD OF 'inglenooklaw7.TreeSays'. -/
def treeSaysUptoCard : Claim7 := { stood := { row := treeSaysUptoRow, standIns := [], harness := (true, "0302dd13a4e18b5e5e1ccc67fa2ab5808e787cffe35062766e327b5a51a7721f"), looks := true }, kinds := [], alts := [], laidByText := true, laidKinds := [.sentinel, .sentinel, .sentinel, .sentinel, .sentinel], laidTests := true, laidLooks := .later }
def TreeSaysUptoCardSaid : Prop := Claim7.holds Tryd.pinned (.plain (OpenSpec.upto treeSaysSpec)) treeSaysUptoCard
end Rows
end Go.Proofs.YteihmagldhmjgaaDoor
