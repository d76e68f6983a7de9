/-
  DERIVED. GIVEN WITH THE SEED: THE CARDS: each row of YtlfiljebfnejbaaDoorRows.lean that lists a variable, with what it lists TIED to the program's text (the seventh form; the later family's looks); each row that meets fmt, with fmt's text TOLD by the authors' own Lean function (tested against real Go, not proved from fmt's source: count such statements apart). THE CARD IS WHAT COUNTS. Prove the row's statement (the work); the ties are given (YtlfiljebfnejbaaDoorTie.lean); close each card by the builder's one call (the guide's Derived/Test/ToyasCard.lean, 'card_holds'). Laid BY PROGRAM, IN A SANDBOX (cutbox-door.mjs). By AI agents, Wed Nov 11 2026. No macro, syntax, notation, axiom, sorry.
-/
import Derived.Test.YtlfiljebfnejbaaDoorRows
import GoSem.ClaimSeven
namespace Go.Proofs.YtlfiljebfnejbaaDoor
namespace Rows

/-- THE TIED CARD OF 'inglenooklaw25.LineCut'. -/
def lineCutCard : Claim7 := { stood := { row := lineCutRow, standIns := [], harness := (true, "e0da8c497921e1df6b12260cf0b106e71a3e5bbf40c08878e344d39b17d8df7d"), looks := false }, kinds := [], alts := [], laidByText := true, laidKinds := [.data, .data, .data], laidTests := true, laidLooks := .later }
def LineCutCardSaid : Prop := Claim7.holds Tryd.pinned (.plain (OpenSpec.ofChange lineCutSpec)) lineCutCard

/-- THE TIED CARD OF 'inglenooklaw25.LineOut'. -/
def lineOutCard : Claim7 := { stood := { row := lineOutRow, standIns := [], harness := (true, "e0da8c497921e1df6b12260cf0b106e71a3e5bbf40c08878e344d39b17d8df7d"), looks := false }, kinds := [], alts := [], laidByText := true, laidKinds := [.data, .data, .data], laidTests := true, laidLooks := .later }
def LineOutCardSaid : Prop := Claim7.holds Tryd.pinned (.plain (OpenSpec.ofChange lineOutSpec)) lineOutCard

/-- THE TIED CARD OF 'inglenooklaw25.LineLost'. -/
def lineLostCard : Claim7 := { stood := { row := lineLostRow, standIns := [], harness := (true, "e0da8c497921e1df6b12260cf0b106e71a3e5bbf40c08878e344d39b17d8df7d"), looks := false }, kinds := [], alts := [], laidByText := true, laidKinds := [.data, .data, .data], laidTests := true, laidLooks := .later }
def LineLostCardSaid : Prop := Claim7.holds Tryd.pinned (.plain (OpenSpec.ofChange lineLostSpec)) lineLostCard

/-- THE SECOND FORM's CARD OF 'inglenooklaw25.LineCut'. -/
def lineCutUptoCard : Claim7 := { stood := { row := lineCutUptoRow, standIns := [], harness := (true, "e0da8c497921e1df6b12260cf0b106e71a3e5bbf40c08878e344d39b17d8df7d"), looks := false }, kinds := [], alts := [], laidByText := true, laidKinds := [.data, .data, .data], laidTests := true, laidLooks := .later }
def LineCutUptoCardSaid : Prop := Claim7.holds Tryd.pinned (.plain (OpenSpec.upto lineCutSpec)) lineCutUptoCard

/-- THE SECOND FORM's CARD OF 'inglenooklaw25.LineOut'. -/
def lineOutUptoCard : Claim7 := { stood := { row := lineOutUptoRow, standIns := [], harness := (true, "e0da8c497921e1df6b12260cf0b106e71a3e5bbf40c08878e344d39b17d8df7d"), looks := false }, kinds := [], alts := [], laidByText := true, laidKinds := [.data, .data, .data], laidTests := true, laidLooks := .later }
def LineOutUptoCardSaid : Prop := Claim7.holds Tryd.pinned (.plain (OpenSpec.upto lineOutSpec)) lineOutUptoCard

/-- THE SECOND FORM's CARD OF 'inglenooklaw25.LineLost'. -/
def lineLostUptoCard : Claim7 := { stood := { row := lineLostUptoRow, standIns := [], harness := (true, "e0da8c497921e1df6b12260cf0b106e71a3e5bbf40c08878e344d39b17d8df7d"), looks := false }, kinds := [], alts := [], laidByText := true, laidKinds := [.data, .data, .data], laidTests := true, laidLooks := .later }
def LineLostUptoCardSaid : Prop := Claim7.holds Tryd.pinned (.plain (OpenSpec.upto lineLostSpec)) lineLostUptoCard
end Rows
end Go.Proofs.YtlfiljebfnejbaaDoor
