/-
  DERIVED. GIVEN WITH THE SEED: THE CARDS: each row of YtlhbgobjhddhlaaDoorRows.lean that lists a variable, with what it lists TIED to the program's text (the seventh form; the later family's looks); each row that meets fmt, with fmt's text TOLD by the authors' own Lean function (tested against real Go, not proved from fmt's source: count such statements apart). THE CARD IS WHAT COUNTS. Prove the row's statement (the work); the ties are given (YtlhbgobjhddhlaaDoorTie.lean); close each card by the builder's one call (the guide's Derived/Test/ToyasCard.lean, 'card_holds'). Laid BY PROGRAM, IN A SANDBOX (cutbox-door.mjs). By AI agents, Wed Nov 11 2026. No macro, syntax, notation, axiom, sorry.
-/
import Derived.Test.YtlhbgobjhddhlaaDoorRows
import GoSem.ClaimSeven
namespace Go.Proofs.YtlhbgobjhddhlaaDoor
namespace Rows

/-- THE TIED CARD OF 'inglenooklaw20.DiskRooms'. -/
def diskRoomsCard : Claim7 := { stood := { row := diskRoomsRow, standIns := [], harness := (true, "f2e699219cecc6091048939811f0e371d8d49700c043494dcc517784d4df4235"), looks := true }, kinds := [], alts := [], laidByText := true, laidKinds := [.sentinel, .sentinel, .sentinel, .sentinel, .sentinel, .sentinel, .sentinel, .sentinel, .sentinel, .sentinel, .sentinel, .sentinel, .sentinel, .sentinel, .sentinel, .sentinel, .sentinel], laidTests := true, laidLooks := .later }
def DiskRoomsCardSaid : Prop := Claim7.holds Tryd.pinned (.plain (OpenSpec.ofChange diskRoomsSpec)) diskRoomsCard

/-- THE TIED CARD OF 'inglenooklaw20.DiskArms'. -/
def diskArmsCard : Claim7 := { stood := { row := diskArmsRow, standIns := [], harness := (true, "f2e699219cecc6091048939811f0e371d8d49700c043494dcc517784d4df4235"), looks := true }, kinds := [], alts := [], laidByText := true, laidKinds := [.sentinel, .sentinel, .sentinel, .sentinel, .sentinel, .sentinel, .sentinel, .sentinel, .sentinel, .sentinel, .sentinel, .sentinel, .sentinel, .sentinel, .sentinel, .sentinel, .sentinel], laidTests := true, laidLooks := .later }
def DiskArmsCardSaid : Prop := Claim7.holds Tryd.pinned (.plain (OpenSpec.ofChange diskArmsSpec)) diskArmsCard

/-- THE TIED CARD OF 'inglenooklaw20.DiskKeeps'. -/
def diskKeepsCard : Claim7 := { stood := { row := diskKeepsRow, standIns := [], harness := (true, "f2e699219cecc6091048939811f0e371d8d49700c043494dcc517784d4df4235"), looks := true }, kinds := [], alts := [], laidByText := true, laidKinds := [.sentinel, .sentinel, .sentinel, .sentinel, .sentinel, .sentinel, .sentinel, .sentinel, .sentinel, .sentinel, .sentinel, .sentinel, .sentinel, .sentinel, .sentinel, .sentinel, .sentinel], laidTests := true, laidLooks := .later }
def DiskKeepsCardSaid : Prop := Claim7.holds Tryd.pinned (.plain (OpenSpec.ofChange diskKeepsSpec)) diskKeepsCard

/-- THE TIED CARD OF 'inglenooklaw20.DiskCuts'. -/
def diskCutsCard : Claim7 := { stood := { row := diskCutsRow, standIns := [], harness := (true, "f2e699219cecc6091048939811f0e371d8d49700c043494dcc517784d4df4235"), looks := true }, kinds := [], alts := [], laidByText := true, laidKinds := [.sentinel, .sentinel, .sentinel, .sentinel, .sentinel, .sentinel, .sentinel, .sentinel, .sentinel, .sentinel, .sentinel, .sentinel, .sentinel, .sentinel, .sentinel, .sentinel, .sentinel], laidTests := true, laidLooks := .later }
def DiskCutsCardSaid : Prop := Claim7.holds Tryd.pinned (.plain (OpenSpec.ofChange diskCutsSpec)) diskCutsCard

/-- THE TIED CARD OF 'inglenooklaw20.DiskDown'. -/
def diskDownCard : Claim7 := { stood := { row := diskDownRow, standIns := [], harness := (true, "f2e699219cecc6091048939811f0e371d8d49700c043494dcc517784d4df4235"), looks := true }, kinds := [], alts := [], laidByText := true, laidKinds := [.sentinel, .sentinel, .sentinel, .sentinel, .sentinel, .sentinel, .sentinel, .sentinel, .sentinel, .sentinel, .sentinel, .sentinel, .sentinel, .sentinel, .sentinel, .sentinel, .sentinel], laidTests := true, laidLooks := .later }
def DiskDownCardSaid : Prop := Claim7.holds Tryd.pinned (.plain (OpenSpec.ofChange diskDownSpec)) diskDownCard

/-- THE TIED CARD OF 'inglenooklaw20.DiskNames'. -/
def diskNamesCard : Claim7 := { stood := { row := diskNamesRow, standIns := [], harness := (true, "f2e699219cecc6091048939811f0e371d8d49700c043494dcc517784d4df4235"), looks := true }, kinds := [], alts := [], laidByText := true, laidKinds := [.sentinel, .sentinel, .sentinel, .sentinel, .sentinel, .sentinel], laidTests := true, laidLooks := .later }
def DiskNamesCardSaid : Prop := Claim7.holds Tryd.pinned (.plain (OpenSpec.ofChange diskNamesSpec)) diskNamesCard

/-- THE TIED CARD OF 'inglenooklaw20.DiskMoves'. -/
def diskMovesCard : Claim7 := { stood := { row := diskMovesRow, standIns := [], harness := (true, "f2e699219cecc6091048939811f0e371d8d49700c043494dcc517784d4df4235"), looks := true }, kinds := [], alts := [], laidByText := true, laidKinds := [.sentinel, .sentinel, .sentinel, .sentinel, .sentinel, .sentinel], laidTests := true, laidLooks := .later }
def DiskMovesCardSaid : Prop := Claim7.holds Tryd.pinned (.plain (OpenSpec.ofChange diskMovesSpec)) diskMovesCard

/-- THE TIED CARD OF 'inglenooklaw20.DiskTwins'. -/
def diskTwinsCard : Claim7 := { stood := { row := diskTwinsRow, standIns := [], harness := (true, "f2e699219cecc6091048939811f0e371d8d49700c043494dcc517784d4df4235"), looks := true }, kinds := [], alts := [], laidByText := true, laidKinds := [.sentinel, .sentinel, .sentinel, .sentinel, .sentinel, .sentinel], laidTests := true, laidLooks := .later }
def DiskTwinsCardSaid : Prop := Claim7.holds Tryd.pinned (.plain (OpenSpec.ofChange diskTwinsSpec)) diskTwinsCard

/-- THE SECOND FORM's CARD OF 'inglenooklaw20.DiskRooms'. -/
def diskRoomsUptoCard : Claim7 := { stood := { row := diskRoomsUptoRow, standIns := [], harness := (true, "f2e699219cecc6091048939811f0e371d8d49700c043494dcc517784d4df4235"), looks := true }, kinds := [], alts := [], laidByText := true, laidKinds := [.sentinel, .sentinel, .sentinel, .sentinel, .sentinel, .sentinel, .sentinel, .sentinel, .sentinel, .sentinel, .sentinel, .sentinel, .sentinel, .sentinel, .sentinel, .sentinel, .sentinel], laidTests := true, laidLooks := .later }
def DiskRoomsUptoCardSaid : Prop := Claim7.holds Tryd.pinned (.plain (OpenSpec.upto diskRoomsSpec)) diskRoomsUptoCard

/-- THE SECOND FORM's CARD OF 'inglenooklaw20.DiskArms'. -/
def diskArmsUptoCard : Claim7 := { stood := { row := diskArmsUptoRow, standIns := [], harness := (true, "f2e699219cecc6091048939811f0e371d8d49700c043494dcc517784d4df4235"), looks := true }, kinds := [], alts := [], laidByText := true, laidKinds := [.sentinel, .sentinel, .sentinel, .sentinel, .sentinel, .sentinel, .sentinel, .sentinel, .sentinel, .sentinel, .sentinel, .sentinel, .sentinel, .sentinel, .sentinel, .sentinel, .sentinel], laidTests := true, laidLooks := .later }
def DiskArmsUptoCardSaid : Prop := Claim7.holds Tryd.pinned (.plain (OpenSpec.upto diskArmsSpec)) diskArmsUptoCard

/-- THE SECOND FORM's CARD OF 'inglenooklaw20.DiskKeeps'. -/
def diskKeepsUptoCard : Claim7 := { stood := { row := diskKeepsUptoRow, standIns := [], harness := (true, "f2e699219cecc6091048939811f0e371d8d49700c043494dcc517784d4df4235"), looks := true }, kinds := [], alts := [], laidByText := true, laidKinds := [.sentinel, .sentinel, .sentinel, .sentinel, .sentinel, .sentinel, .sentinel, .sentinel, .sentinel, .sentinel, .sentinel, .sentinel, .sentinel, .sentinel, .sentinel, .sentinel, .sentinel], laidTests := true, laidLooks := .later }
def DiskKeepsUptoCardSaid : Prop := Claim7.holds Tryd.pinned (.plain (OpenSpec.upto diskKeepsSpec)) diskKeepsUptoCard

/-- THE SECOND FORM's CARD OF 'inglenooklaw20.DiskCuts'. -/
def diskCutsUptoCard : Claim7 := { stood := { row := diskCutsUptoRow, standIns := [], harness := (true, "f2e699219cecc6091048939811f0e371d8d49700c043494dcc517784d4df4235"), looks := true }, kinds := [], alts := [], laidByText := true, laidKinds := [.sentinel, .sentinel, .sentinel, .sentinel, .sentinel, .sentinel, .sentinel, .sentinel, .sentinel, .sentinel, .sentinel, .sentinel, .sentinel, .sentinel, .sentinel, .sentinel, .sentinel], laidTests := true, laidLooks := .later }
def DiskCutsUptoCardSaid : Prop := Claim7.holds Tryd.pinned (.plain (OpenSpec.upto diskCutsSpec)) diskCutsUptoCard

/-- THE SECOND FORM's CARD OF 'inglenooklaw20.DiskDown'. -/
def diskDownUptoCard : Claim7 := { stood := { row := diskDownUptoRow, standIns := [], harness := (true, "f2e699219cecc6091048939811f0e371d8d49700c043494dcc517784d4df4235"), looks := true }, kinds := [], alts := [], laidByText := true, laidKinds := [.sentinel, .sentinel, .sentinel, .sentinel, .sentinel, .sentinel, .sentinel, .sentinel, .sentinel, .sentinel, .sentinel, .sentinel, .sentinel, .sentinel, .sentinel, .sentinel, .sentinel], laidTests := true, laidLooks := .later }
def DiskDownUptoCardSaid : Prop := Claim7.holds Tryd.pinned (.plain (OpenSpec.upto diskDownSpec)) diskDownUptoCard

/-- THE SECOND FORM's CARD OF 'inglenooklaw20.DiskNames'. -/
def diskNamesUptoCard : Claim7 := { stood := { row := diskNamesUptoRow, standIns := [], harness := (true, "f2e699219cecc6091048939811f0e371d8d49700c043494dcc517784d4df4235"), looks := true }, kinds := [], alts := [], laidByText := true, laidKinds := [.sentinel, .sentinel, .sentinel, .sentinel, .sentinel, .sentinel], laidTests := true, laidLooks := .later }
def DiskNamesUptoCardSaid : Prop := Claim7.holds Tryd.pinned (.plain (OpenSpec.upto diskNamesSpec)) diskNamesUptoCard

/-- THE SECOND FORM's CARD OF 'inglenooklaw20.DiskMoves'. -/
def diskMovesUptoCard : Claim7 := { stood := { row := diskMovesUptoRow, standIns := [], harness := (true, "f2e699219cecc6091048939811f0e371d8d49700c043494dcc517784d4df4235"), looks := true }, kinds := [], alts := [], laidByText := true, laidKinds := [.sentinel, .sentinel, .sentinel, .sentinel, .sentinel, .sentinel], laidTests := true, laidLooks := .later }
def DiskMovesUptoCardSaid : Prop := Claim7.holds Tryd.pinned (.plain (OpenSpec.upto diskMovesSpec)) diskMovesUptoCard

/-- THE SECOND FORM's CARD OF 'inglenooklaw20.DiskTwins'. -/
def diskTwinsUptoCard : Claim7 := { stood := { row := diskTwinsUptoRow, standIns := [], harness := (true, "f2e699219cecc6091048939811f0e371d8d49700c043494dcc517784d4df4235"), looks := true }, kinds := [], alts := [], laidByText := true, laidKinds := [.sentinel, .sentinel, .sentinel, .sentinel, .sentinel, .sentinel], laidTests := true, laidLooks := .later }
def DiskTwinsUptoCardSaid : Prop := Claim7.holds Tryd.pinned (.plain (OpenSpec.upto diskTwinsSpec)) diskTwinsUptoCard
end Rows
end Go.Proofs.YtlhbgobjhddhlaaDoor
