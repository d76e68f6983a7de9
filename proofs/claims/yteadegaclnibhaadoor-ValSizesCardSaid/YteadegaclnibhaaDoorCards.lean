/-
  DERIVED. GIVEN WITH THE SEED: THE CARDS: each row of YteadegaclnibhaaDoorRows.lean that lists a variable, with what it lists TIED to the program's text (the seventh form; the later family's looks); each row that meets fmt, with fmt's text TOLD by the authors' own Lean function (tested against real Go, not proved from fmt's source: count such statements apart). THE CARD IS WHAT COUNTS. Prove the row's statement (the work); the ties are given (YteadegaclnibhaaDoorTie.lean); close each card by the builder's one call (the guide's Derived/Test/ToyasCard.lean, 'card_holds'). Laid BY PROGRAM, IN A SANDBOX (cutbox-door.mjs). By AI agents, Wed Nov 11 2026. No macro, syntax, notation, axiom, sorry.
-/
import Derived.Test.YteadegaclnibhaaDoorRows
import GoSem.ClaimSeven
namespace Go.Proofs.YteadegaclnibhaaDoor
namespace Rows

/-- THE TIED CARD OF 'inglenooklaw1.ValValid'. -/
def valValidCard : Claim7 := { stood := { row := valValidRow, standIns := [], harness := (true, "dd9cb0f1b95b50633f9084acd9434f9b2ccc410d0127316aa6379b1ceb41a585"), looks := true }, kinds := [], alts := [], laidByText := true, laidKinds := [.sentinel, .sentinel, .sentinel, .sentinel, .sentinel, .sentinel, .sentinel, .sentinel, .sentinel, .sentinel, .sentinel, .sentinel, .sentinel, .sentinel, .sentinel, .sentinel, .sentinel], laidTests := true, laidLooks := .later }
def ValValidCardSaid : Prop := Claim7.holds Tryd.pinned (.plain (OpenSpec.ofChange valValidSpec)) valValidCard

/-- THE TIED CARD OF 'inglenooklaw1.ValSizes'. -/
def valSizesCard : Claim7 := { stood := { row := valSizesRow, standIns := [], harness := (true, "dd9cb0f1b95b50633f9084acd9434f9b2ccc410d0127316aa6379b1ceb41a585"), looks := true }, kinds := [], alts := [], laidByText := true, laidKinds := [.sentinel, .sentinel, .sentinel, .sentinel, .sentinel, .sentinel, .sentinel, .sentinel, .sentinel, .sentinel, .sentinel, .sentinel, .sentinel, .sentinel, .sentinel, .sentinel, .sentinel], laidTests := true, laidLooks := .later }
def ValSizesCardSaid : Prop := Claim7.holds Tryd.pinned (.plain (OpenSpec.ofChange valSizesSpec)) valSizesCard

/-- THE TIED CARD OF 'inglenooklaw1.ValMakes'. -/
def valMakesCard : Claim7 := { stood := { row := valMakesRow, standIns := [], harness := (true, "dd9cb0f1b95b50633f9084acd9434f9b2ccc410d0127316aa6379b1ceb41a585"), looks := true }, kinds := [], alts := [], laidByText := true, laidKinds := [.sentinel, .sentinel, .sentinel, .sentinel], laidTests := true, laidLooks := .later }
def ValMakesCardSaid : Prop := Claim7.holds Tryd.pinned (.plain (OpenSpec.ofChange valMakesSpec)) valMakesCard

/-- THE SECOND FORM's CARD OF 'inglenooklaw1.ValValid'. -/
def valValidUptoCard : Claim7 := { stood := { row := valValidUptoRow, standIns := [], harness := (true, "dd9cb0f1b95b50633f9084acd9434f9b2ccc410d0127316aa6379b1ceb41a585"), looks := true }, kinds := [], alts := [], laidByText := true, laidKinds := [.sentinel, .sentinel, .sentinel, .sentinel, .sentinel, .sentinel, .sentinel, .sentinel, .sentinel, .sentinel, .sentinel, .sentinel, .sentinel, .sentinel, .sentinel, .sentinel, .sentinel], laidTests := true, laidLooks := .later }
def ValValidUptoCardSaid : Prop := Claim7.holds Tryd.pinned (.plain (OpenSpec.upto valValidSpec)) valValidUptoCard

/-- THE SECOND FORM's CARD OF 'inglenooklaw1.ValSizes'. -/
def valSizesUptoCard : Claim7 := { stood := { row := valSizesUptoRow, standIns := [], harness := (true, "dd9cb0f1b95b50633f9084acd9434f9b2ccc410d0127316aa6379b1ceb41a585"), looks := true }, kinds := [], alts := [], laidByText := true, laidKinds := [.sentinel, .sentinel, .sentinel, .sentinel, .sentinel, .sentinel, .sentinel, .sentinel, .sentinel, .sentinel, .sentinel, .sentinel, .sentinel, .sentinel, .sentinel, .sentinel, .sentinel], laidTests := true, laidLooks := .later }
def ValSizesUptoCardSaid : Prop := Claim7.holds Tryd.pinned (.plain (OpenSpec.upto valSizesSpec)) valSizesUptoCard

/-- THE SECOND FORM's CARD OF 'inglenooklaw1.ValMakes'. -/
def valMakesUptoCard : Claim7 := { stood := { row := valMakesUptoRow, standIns := [], harness := (true, "dd9cb0f1b95b50633f9084acd9434f9b2ccc410d0127316aa6379b1ceb41a585"), looks := true }, kinds := [], alts := [], laidByText := true, laidKinds := [.sentinel, .sentinel, .sentinel, .sentinel], laidTests := true, laidLooks := .later }
def ValMakesUptoCardSaid : Prop := Claim7.holds Tryd.pinned (.plain (OpenSpec.upto valMakesSpec)) valMakesUptoCard
end Rows
end Go.Proofs.YteadegaclnibhaaDoor
