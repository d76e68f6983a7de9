/-
  DERIVED. GIVEN WITH THE SEED: THE CARDS: each row of YtpceckmjoicdlaaDoorRows.lean that lists a variable, with what it lists TIED to the program's text (the seventh form; the later family's looks); each row that meets fmt, with fmt's text TOLD by the authors' own Lean function (tested against real Go, not proved from fmt's source: count such statements apart). THE CARD IS WHAT COUNTS. Prove the row's statement (the work); the ties are given (YtpceckmjoicdlaaDoorTie.lean); close each card by the builder's one call (the guide's Derived/Test/ToyasCard.lean, 'card_holds'). Laid BY PROGRAM, IN A SANDBOX (cutbox-door.mjs). By AI agents, Wed Nov 11 2026. No macro, syntax, notation, axiom, sorry.
-/
import Derived.Test.YtpceckmjoicdlaaDoorRows
import GoSem.ClaimSeven
namespace Go.Proofs.YtpceckmjoicdlaaDoor
namespace Rows

/-- THE TIED CARD OF 'inglenooklaw23.KeepBytes'. -/
def keepBytesCard : Claim7 := { stood := { row := keepBytesRow, standIns := [], harness := (true, "243792b5b75a4867c8e6f3d1433578b01f8eb096e04c900147e62f2140281dbc"), looks := true }, kinds := [], alts := [], laidByText := true, laidKinds := [.sentinel, .sentinel, .sentinel, .sentinel, .sentinel, .sentinel, .sentinel, .sentinel, .sentinel, .sentinel, .sentinel, .sentinel, .sentinel, .sentinel, .sentinel, .sentinel, .sentinel], laidTests := true, laidLooks := .later }
def KeepBytesCardSaid : Prop := Claim7.holds Tryd.pinned (.plain (OpenSpec.ofChange keepBytesSpec)) keepBytesCard

/-- THE TIED CARD OF 'inglenooklaw23.KeepHolds'. -/
def keepHoldsCard : Claim7 := { stood := { row := keepHoldsRow, standIns := [], harness := (true, "243792b5b75a4867c8e6f3d1433578b01f8eb096e04c900147e62f2140281dbc"), looks := true }, kinds := [], alts := [], laidByText := true, laidKinds := [.sentinel, .sentinel, .sentinel, .sentinel, .sentinel, .sentinel, .sentinel, .sentinel, .sentinel, .sentinel, .sentinel, .sentinel, .sentinel, .sentinel, .sentinel, .sentinel, .sentinel], laidTests := true, laidLooks := .later }
def KeepHoldsCardSaid : Prop := Claim7.holds Tryd.pinned (.plain (OpenSpec.ofChange keepHoldsSpec)) keepHoldsCard

/-- THE TIED CARD OF 'inglenooklaw23.KeepTurns'. -/
def keepTurnsCard : Claim7 := { stood := { row := keepTurnsRow, standIns := [], harness := (true, "243792b5b75a4867c8e6f3d1433578b01f8eb096e04c900147e62f2140281dbc"), looks := true }, kinds := [], alts := [], laidByText := true, laidKinds := [.sentinel, .sentinel, .sentinel, .sentinel, .sentinel, .sentinel, .sentinel, .sentinel, .sentinel, .sentinel, .sentinel, .sentinel, .sentinel, .sentinel, .sentinel, .sentinel, .sentinel], laidTests := true, laidLooks := .later }
def KeepTurnsCardSaid : Prop := Claim7.holds Tryd.pinned (.plain (OpenSpec.ofChange keepTurnsSpec)) keepTurnsCard

/-- THE SECOND FORM's CARD OF 'inglenooklaw23.KeepBytes'. -/
def keepBytesUptoCard : Claim7 := { stood := { row := keepBytesUptoRow, standIns := [], harness := (true, "243792b5b75a4867c8e6f3d1433578b01f8eb096e04c900147e62f2140281dbc"), looks := true }, kinds := [], alts := [], laidByText := true, laidKinds := [.sentinel, .sentinel, .sentinel, .sentinel, .sentinel, .sentinel, .sentinel, .sentinel, .sentinel, .sentinel, .sentinel, .sentinel, .sentinel, .sentinel, .sentinel, .sentinel, .sentinel], laidTests := true, laidLooks := .later }
def KeepBytesUptoCardSaid : Prop := Claim7.holds Tryd.pinned (.plain (OpenSpec.upto keepBytesSpec)) keepBytesUptoCard

/-- THE SECOND FORM's CARD OF 'inglenooklaw23.KeepHolds'. -/
def keepHoldsUptoCard : Claim7 := { stood := { row := keepHoldsUptoRow, standIns := [], harness := (true, "243792b5b75a4867c8e6f3d1433578b01f8eb096e04c900147e62f2140281dbc"), looks := true }, kinds := [], alts := [], laidByText := true, laidKinds := [.sentinel, .sentinel, .sentinel, .sentinel, .sentinel, .sentinel, .sentinel, .sentinel, .sentinel, .sentinel, .sentinel, .sentinel, .sentinel, .sentinel, .sentinel, .sentinel, .sentinel], laidTests := true, laidLooks := .later }
def KeepHoldsUptoCardSaid : Prop := Claim7.holds Tryd.pinned (.plain (OpenSpec.upto keepHoldsSpec)) keepHoldsUptoCard

/-- THE SECOND FORM's CARD OF 'inglenooklaw23.KeepTurns'. -/
def keepTurnsUptoCard : Claim7 := { stood := { row := keepTurnsUptoRow, standIns := [], harness := (true, "243792b5b75a4867c8e6f3d1433578b01f8eb096e04c900147e62f2140281dbc"), looks := true }, kinds := [], alts := [], laidByText := true, laidKinds := [.sentinel, .sentinel, .sentinel, .sentinel, .sentinel, .sentinel, .sentinel, .sentinel, .sentinel, .sentinel, .sentinel, .sentinel, .sentinel, .sentinel, .sentinel, .sentinel, .sentinel], laidTests := true, laidLooks := .later }
def KeepTurnsUptoCardSaid : Prop := Claim7.holds Tryd.pinned (.plain (OpenSpec.upto keepTurnsSpec)) keepTurnsUptoCard
end Rows
end Go.Proofs.YtpceckmjoicdlaaDoor
