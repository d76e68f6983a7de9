/-
  DERIVED. GIVEN WITH THE SEED: THE CARDS: each row of YtdcfidefkoamnaaDoorRows.lean that lists a variable, with what it lists TIED to the program's text (the seventh form; the later family's looks); each row that meets fmt, with fmt's text TOLD by the authors' own Lean function (tested against real Go, not proved from fmt's source: count such statements apart). THE CARD IS WHAT COUNTS. Prove the row's statement (the work); the ties are given (YtdcfidefkoamnaaDoorTie.lean); close each card by the builder's one call (the guide's Derived/Test/ToyasCard.lean, 'card_holds'). Laid BY PROGRAM, IN A SANDBOX (cutbox-door.mjs). By AI agents, Wed Nov 11 2026. No macro, syntax, notation, axiom, sorry.
-/
import Derived.Test.YtdcfidefkoamnaaDoorRows
import GoSem.ClaimSeven
namespace Go.Proofs.YtdcfidefkoamnaaDoor
namespace Rows

/-- THE TIED CARD OF 'inglenooklaw24.TaskTurns'. -/
def taskTurnsCard : Claim7 := { stood := { row := taskTurnsRow, standIns := [], harness := (true, "dc8bfb02985e95fb3734cae1821aec360a1b65aecaf240606eee2066b583a821"), looks := true }, kinds := [], alts := [], laidByText := true, laidKinds := [.sentinel, .sentinel, .sentinel], laidTests := true, laidLooks := .later }
def TaskTurnsCardSaid : Prop := Claim7.holds Tryd.pinned (.plain (OpenSpec.ofChange taskTurnsSpec)) taskTurnsCard

/-- THE TIED CARD OF 'inglenooklaw24.TaskQuota'. -/
def taskQuotaCard : Claim7 := { stood := { row := taskQuotaRow, standIns := [], harness := (true, "dc8bfb02985e95fb3734cae1821aec360a1b65aecaf240606eee2066b583a821"), looks := true }, kinds := [], alts := [], laidByText := true, laidKinds := [.sentinel, .sentinel, .sentinel, .sentinel, .sentinel, .sentinel, .sentinel, .sentinel, .sentinel, .sentinel, .sentinel, .sentinel, .sentinel, .sentinel, .sentinel, .sentinel, .sentinel], laidTests := true, laidLooks := .later }
def TaskQuotaCardSaid : Prop := Claim7.holds Tryd.pinned (.plain (OpenSpec.ofChange taskQuotaSpec)) taskQuotaCard

/-- THE TIED CARD OF 'inglenooklaw24.TaskWakes'. -/
def taskWakesCard : Claim7 := { stood := { row := taskWakesRow, standIns := [], harness := (true, "dc8bfb02985e95fb3734cae1821aec360a1b65aecaf240606eee2066b583a821"), looks := true }, kinds := [], alts := [], laidByText := true, laidKinds := [.sentinel, .sentinel, .sentinel], laidTests := true, laidLooks := .later }
def TaskWakesCardSaid : Prop := Claim7.holds Tryd.pinned (.plain (OpenSpec.ofChange taskWakesSpec)) taskWakesCard

/-- THE TIED CARD OF 'inglenooklaw24.TaskNumbers'. -/
def taskNumbersCard : Claim7 := { stood := { row := taskNumbersRow, standIns := [], harness := (true, "dc8bfb02985e95fb3734cae1821aec360a1b65aecaf240606eee2066b583a821"), looks := true }, kinds := [], alts := [], laidByText := true, laidKinds := [.sentinel, .sentinel, .sentinel, .sentinel, .sentinel, .sentinel, .sentinel, .sentinel, .sentinel, .sentinel, .sentinel, .sentinel, .sentinel, .sentinel, .sentinel, .sentinel, .sentinel], laidTests := true, laidLooks := .later }
def TaskNumbersCardSaid : Prop := Claim7.holds Tryd.pinned (.plain (OpenSpec.ofChange taskNumbersSpec)) taskNumbersCard

/-- THE TIED CARD OF 'inglenooklaw24.TaskPlays'. -/
def taskPlaysCard : Claim7 := { stood := { row := taskPlaysRow, standIns := [], harness := (true, "dc8bfb02985e95fb3734cae1821aec360a1b65aecaf240606eee2066b583a821"), looks := true }, kinds := [], alts := [], laidByText := true, laidKinds := [.sentinel, .sentinel, .sentinel, .sentinel, .sentinel, .sentinel, .sentinel, .sentinel, .sentinel, .sentinel, .sentinel, .sentinel, .sentinel, .sentinel, .sentinel, .sentinel, .sentinel], laidTests := true, laidLooks := .later }
def TaskPlaysCardSaid : Prop := Claim7.holds Tryd.pinned (.plain (OpenSpec.ofChange taskPlaysSpec)) taskPlaysCard

/-- THE SECOND FORM's CARD OF 'inglenooklaw24.TaskTurns'. -/
def taskTurnsUptoCard : Claim7 := { stood := { row := taskTurnsUptoRow, standIns := [], harness := (true, "dc8bfb02985e95fb3734cae1821aec360a1b65aecaf240606eee2066b583a821"), looks := true }, kinds := [], alts := [], laidByText := true, laidKinds := [.sentinel, .sentinel, .sentinel], laidTests := true, laidLooks := .later }
def TaskTurnsUptoCardSaid : Prop := Claim7.holds Tryd.pinned (.plain (OpenSpec.upto taskTurnsSpec)) taskTurnsUptoCard

/-- THE SECOND FORM's CARD OF 'inglenooklaw24.TaskQuota'. -/
def taskQuotaUptoCard : Claim7 := { stood := { row := taskQuotaUptoRow, standIns := [], harness := (true, "dc8bfb02985e95fb3734cae1821aec360a1b65aecaf240606eee2066b583a821"), looks := true }, kinds := [], alts := [], laidByText := true, laidKinds := [.sentinel, .sentinel, .sentinel, .sentinel, .sentinel, .sentinel, .sentinel, .sentinel, .sentinel, .sentinel, .sentinel, .sentinel, .sentinel, .sentinel, .sentinel, .sentinel, .sentinel], laidTests := true, laidLooks := .later }
def TaskQuotaUptoCardSaid : Prop := Claim7.holds Tryd.pinned (.plain (OpenSpec.upto taskQuotaSpec)) taskQuotaUptoCard

/-- THE SECOND FORM's CARD OF 'inglenooklaw24.TaskWakes'. -/
def taskWakesUptoCard : Claim7 := { stood := { row := taskWakesUptoRow, standIns := [], harness := (true, "dc8bfb02985e95fb3734cae1821aec360a1b65aecaf240606eee2066b583a821"), looks := true }, kinds := [], alts := [], laidByText := true, laidKinds := [.sentinel, .sentinel, .sentinel], laidTests := true, laidLooks := .later }
def TaskWakesUptoCardSaid : Prop := Claim7.holds Tryd.pinned (.plain (OpenSpec.upto taskWakesSpec)) taskWakesUptoCard

/-- THE SECOND FORM's CARD OF 'inglenooklaw24.TaskNumbers'. -/
def taskNumbersUptoCard : Claim7 := { stood := { row := taskNumbersUptoRow, standIns := [], harness := (true, "dc8bfb02985e95fb3734cae1821aec360a1b65aecaf240606eee2066b583a821"), looks := true }, kinds := [], alts := [], laidByText := true, laidKinds := [.sentinel, .sentinel, .sentinel, .sentinel, .sentinel, .sentinel, .sentinel, .sentinel, .sentinel, .sentinel, .sentinel, .sentinel, .sentinel, .sentinel, .sentinel, .sentinel, .sentinel], laidTests := true, laidLooks := .later }
def TaskNumbersUptoCardSaid : Prop := Claim7.holds Tryd.pinned (.plain (OpenSpec.upto taskNumbersSpec)) taskNumbersUptoCard

/-- THE SECOND FORM's CARD OF 'inglenooklaw24.TaskPlays'. -/
def taskPlaysUptoCard : Claim7 := { stood := { row := taskPlaysUptoRow, standIns := [], harness := (true, "dc8bfb02985e95fb3734cae1821aec360a1b65aecaf240606eee2066b583a821"), looks := true }, kinds := [], alts := [], laidByText := true, laidKinds := [.sentinel, .sentinel, .sentinel, .sentinel, .sentinel, .sentinel, .sentinel, .sentinel, .sentinel, .sentinel, .sentinel, .sentinel, .sentinel, .sentinel, .sentinel, .sentinel, .sentinel], laidTests := true, laidLooks := .later }
def TaskPlaysUptoCardSaid : Prop := Claim7.holds Tryd.pinned (.plain (OpenSpec.upto taskPlaysSpec)) taskPlaysUptoCard
end Rows
end Go.Proofs.YtdcfidefkoamnaaDoor
