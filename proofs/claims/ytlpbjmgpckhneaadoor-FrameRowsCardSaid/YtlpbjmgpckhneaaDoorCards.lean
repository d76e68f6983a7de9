/-
  DERIVED. GIVEN WITH THE SEED: THE CARDS: each row of YtlpbjmgpckhneaaDoorRows.lean that lists a variable, with what it lists TIED to the program's text (the seventh form; the later family's looks); each row that meets fmt, with fmt's text TOLD by the authors' own Lean function (tested against real Go, not proved from fmt's source: count such statements apart). THE CARD IS WHAT COUNTS. Prove the row's statement (the work); the ties are given (YtlpbjmgpckhneaaDoorTie.lean); close each card by the builder's one call (the guide's Derived/Test/ToyasCard.lean, 'card_holds'). Laid BY PROGRAM, IN A SANDBOX (cutbox-door.mjs). By AI agents, Wed Nov 11 2026. No macro, syntax, notation, axiom, sorry.
-/
import Derived.Test.YtlpbjmgpckhneaaDoorRows
import GoSem.ClaimSeven
namespace Go.Proofs.YtlpbjmgpckhneaaDoor
namespace Rows

/-- THE TIED CARD OF 'inglenooklaw21.FrameFinds'. -/
def frameFindsCard : Claim7 := { stood := { row := frameFindsRow, standIns := [], harness := (true, "b2e2d3a66ca6b6ca9c76a8ff59f988c248ae65c7b3bd8d6a4538dc438be2beb6"), looks := true }, kinds := [], alts := [], laidByText := true, laidKinds := [.sentinel, .sentinel, .sentinel, .sentinel, .sentinel, .sentinel, .sentinel, .sentinel, .sentinel, .sentinel, .sentinel, .sentinel, .sentinel, .sentinel, .sentinel, .sentinel, .sentinel], laidTests := true, laidLooks := .later }
def FrameFindsCardSaid : Prop := Claim7.holds Tryd.pinned (.plain (OpenSpec.ofChange frameFindsSpec)) frameFindsCard

/-- THE TIED CARD OF 'inglenooklaw21.FrameSays'. -/
def frameSaysCard : Claim7 := { stood := { row := frameSaysRow, standIns := [], harness := (true, "b2e2d3a66ca6b6ca9c76a8ff59f988c248ae65c7b3bd8d6a4538dc438be2beb6"), looks := true }, kinds := [], alts := [], laidByText := true, laidKinds := [.sentinel, .sentinel, .sentinel, .sentinel, .sentinel, .sentinel, .sentinel, .sentinel, .sentinel, .sentinel, .sentinel, .sentinel, .sentinel, .sentinel, .sentinel, .sentinel, .sentinel], laidTests := true, laidLooks := .later }
def FrameSaysCardSaid : Prop := Claim7.holds Tryd.pinned (.plain (OpenSpec.ofChange frameSaysSpec)) frameSaysCard

/-- THE TIED CARD OF 'inglenooklaw21.FrameParts'. -/
def framePartsCard : Claim7 := { stood := { row := framePartsRow, standIns := [], harness := (true, "b2e2d3a66ca6b6ca9c76a8ff59f988c248ae65c7b3bd8d6a4538dc438be2beb6"), looks := true }, kinds := [], alts := [], laidByText := true, laidKinds := [.sentinel, .sentinel, .sentinel, .sentinel, .sentinel, .sentinel, .sentinel, .sentinel, .sentinel, .sentinel, .sentinel, .sentinel, .sentinel, .sentinel, .sentinel, .sentinel, .sentinel], laidTests := true, laidLooks := .later }
def FramePartsCardSaid : Prop := Claim7.holds Tryd.pinned (.plain (OpenSpec.ofChange framePartsSpec)) framePartsCard

/-- THE TIED CARD OF 'inglenooklaw21.FrameRows'. -/
def frameRowsCard : Claim7 := { stood := { row := frameRowsRow, standIns := [], harness := (true, "b2e2d3a66ca6b6ca9c76a8ff59f988c248ae65c7b3bd8d6a4538dc438be2beb6"), looks := true }, kinds := [], alts := [], laidByText := true, laidKinds := [.sentinel, .sentinel, .sentinel, .sentinel, .sentinel, .sentinel, .sentinel, .sentinel, .sentinel, .sentinel, .sentinel, .sentinel, .sentinel, .sentinel, .sentinel, .sentinel, .sentinel], laidTests := true, laidLooks := .later }
def FrameRowsCardSaid : Prop := Claim7.holds Tryd.pinned (.plain (OpenSpec.ofChange frameRowsSpec)) frameRowsCard

/-- THE SECOND FORM's CARD OF 'inglenooklaw21.FrameFinds'. -/
def frameFindsUptoCard : Claim7 := { stood := { row := frameFindsUptoRow, standIns := [], harness := (true, "b2e2d3a66ca6b6ca9c76a8ff59f988c248ae65c7b3bd8d6a4538dc438be2beb6"), looks := true }, kinds := [], alts := [], laidByText := true, laidKinds := [.sentinel, .sentinel, .sentinel, .sentinel, .sentinel, .sentinel, .sentinel, .sentinel, .sentinel, .sentinel, .sentinel, .sentinel, .sentinel, .sentinel, .sentinel, .sentinel, .sentinel], laidTests := true, laidLooks := .later }
def FrameFindsUptoCardSaid : Prop := Claim7.holds Tryd.pinned (.plain (OpenSpec.upto frameFindsSpec)) frameFindsUptoCard

/-- THE SECOND FORM's CARD OF 'inglenooklaw21.FrameSays'. -/
def frameSaysUptoCard : Claim7 := { stood := { row := frameSaysUptoRow, standIns := [], harness := (true, "b2e2d3a66ca6b6ca9c76a8ff59f988c248ae65c7b3bd8d6a4538dc438be2beb6"), looks := true }, kinds := [], alts := [], laidByText := true, laidKinds := [.sentinel, .sentinel, .sentinel, .sentinel, .sentinel, .sentinel, .sentinel, .sentinel, .sentinel, .sentinel, .sentinel, .sentinel, .sentinel, .sentinel, .sentinel, .sentinel, .sentinel], laidTests := true, laidLooks := .later }
def FrameSaysUptoCardSaid : Prop := Claim7.holds Tryd.pinned (.plain (OpenSpec.upto frameSaysSpec)) frameSaysUptoCard

/-- THE SECOND FORM's CARD OF 'inglenooklaw21.FrameParts'. -/
def framePartsUptoCard : Claim7 := { stood := { row := framePartsUptoRow, standIns := [], harness := (true, "b2e2d3a66ca6b6ca9c76a8ff59f988c248ae65c7b3bd8d6a4538dc438be2beb6"), looks := true }, kinds := [], alts := [], laidByText := true, laidKinds := [.sentinel, .sentinel, .sentinel, .sentinel, .sentinel, .sentinel, .sentinel, .sentinel, .sentinel, .sentinel, .sentinel, .sentinel, .sentinel, .sentinel, .sentinel, .sentinel, .sentinel], laidTests := true, laidLooks := .later }
def FramePartsUptoCardSaid : Prop := Claim7.holds Tryd.pinned (.plain (OpenSpec.upto framePartsSpec)) framePartsUptoCard

/-- THE SECOND FORM's CARD OF 'inglenooklaw21.FrameRows'. -/
def frameRowsUptoCard : Claim7 := { stood := { row := frameRowsUptoRow, standIns := [], harness := (true, "b2e2d3a66ca6b6ca9c76a8ff59f988c248ae65c7b3bd8d6a4538dc438be2beb6"), looks := true }, kinds := [], alts := [], laidByText := true, laidKinds := [.sentinel, .sentinel, .sentinel, .sentinel, .sentinel, .sentinel, .sentinel, .sentinel, .sentinel, .sentinel, .sentinel, .sentinel, .sentinel, .sentinel, .sentinel, .sentinel, .sentinel], laidTests := true, laidLooks := .later }
def FrameRowsUptoCardSaid : Prop := Claim7.holds Tryd.pinned (.plain (OpenSpec.upto frameRowsSpec)) frameRowsUptoCard
end Rows
end Go.Proofs.YtlpbjmgpckhneaaDoor
