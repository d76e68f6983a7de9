/-
  DERIVED. GIVEN WITH THE SEED: THE PROGRAM's TIES (one call each: nine closed facts by the kernel) AND EACH ROW's TIE, after the 31st guide's Derived/Test/Toyas{Tie, Card}.lean. No idea stands in it: it is a product of the set-up. Laid BY PROGRAM, IN A SANDBOX (cutbox-door.mjs). By AI agents, Wed Nov 11 2026. No macro, syntax, notation, axiom, sorry.
-/
import Derived.Test.YteihmagldhmjgaaDoorRows
import Derived.LaidByTextLater
import Derived.SevenTiedAt
import Derived.LaidSub
import Derived.LaidOnce
namespace Go.Proofs.YteihmagldhmjgaaDoor
open Go
set_option maxRecDepth 100000
theorem seatTie1 : Tryd.prog.laidByTextLater [("inglenook/api.ErrEnd", Rows.laid_inglenook_api_ErrEnd), ("inglenook/api.ErrSum", Rows.laid_inglenook_api_ErrSum), ("inglenook/api.ErrShape", Rows.laid_inglenook_api_ErrShape), ("inglenook/api.ErrMany", Rows.laid_inglenook_api_ErrMany), ("inglenook/api.ErrRange", Rows.laid_inglenook_api_ErrRange), ("inglenook/api.ErrName", Rows.laid_inglenook_api_ErrName), ("inglenook/api.ErrNone", Rows.laid_inglenook_api_ErrNone), ("inglenook/api.ErrThere", Rows.laid_inglenook_api_ErrThere), ("inglenook/api.ErrFull", Rows.laid_inglenook_api_ErrFull), ("inglenook/api.ErrCrash", Rows.laid_inglenook_api_ErrCrash), ("inglenook/api.ErrSyntax", Rows.laid_inglenook_api_ErrSyntax), ("inglenook/api.ErrDeep", Rows.laid_inglenook_api_ErrDeep), ("inglenook/api.ErrTicks", Rows.laid_inglenook_api_ErrTicks), ("inglenook/api.ErrWaits", Rows.laid_inglenook_api_ErrWaits), ("inglenook/api.ErrClosed", Rows.laid_inglenook_api_ErrClosed), ("inglenook/api.ErrWord", Rows.laid_inglenook_api_ErrWord), ("inglenook/api.ErrNumber", Rows.laid_inglenook_api_ErrNumber)] [.sentinel, .sentinel, .sentinel, .sentinel, .sentinel, .sentinel, .sentinel, .sentinel, .sentinel, .sentinel, .sentinel, .sentinel, .sentinel, .sentinel, .sentinel, .sentinel, .sentinel] true :=
  Program.laidByTextLater_by_one 332 8 2 (by kernel_rfl) (by kernel_rfl) (by kernel_rfl) (by kernel_rfl) (by kernel_rfl) (by kernel_rfl) (fun _ _ => by kernel_rfl)
theorem noOwnUnsafe : Tryd.pinned.checked.prog.headLifts.contains "ownunsafe" = false := by kernel_rfl
theorem tie : Tryd.prog.laidByTextLater [("inglenook/api.ErrEnd", Rows.laid_inglenook_api_ErrEnd), ("inglenook/api.ErrSum", Rows.laid_inglenook_api_ErrSum), ("inglenook/api.ErrShape", Rows.laid_inglenook_api_ErrShape), ("inglenook/api.ErrMany", Rows.laid_inglenook_api_ErrMany), ("inglenook/api.ErrRange", Rows.laid_inglenook_api_ErrRange), ("inglenook/api.ErrName", Rows.laid_inglenook_api_ErrName), ("inglenook/api.ErrNone", Rows.laid_inglenook_api_ErrNone), ("inglenook/api.ErrThere", Rows.laid_inglenook_api_ErrThere), ("inglenook/api.ErrFull", Rows.laid_inglenook_api_ErrFull), ("inglenook/api.ErrCrash", Rows.laid_inglenook_api_ErrCrash), ("inglenook/api.ErrSyntax", Rows.laid_inglenook_api_ErrSyntax), ("inglenook/api.ErrDeep", Rows.laid_inglenook_api_ErrDeep), ("inglenook/api.ErrTicks", Rows.laid_inglenook_api_ErrTicks), ("inglenook/api.ErrWaits", Rows.laid_inglenook_api_ErrWaits), ("inglenook/api.ErrClosed", Rows.laid_inglenook_api_ErrClosed), ("inglenook/api.ErrWord", Rows.laid_inglenook_api_ErrWord), ("inglenook/api.ErrNumber", Rows.laid_inglenook_api_ErrNumber)] [.sentinel, .sentinel, .sentinel, .sentinel, .sentinel, .sentinel, .sentinel, .sentinel, .sentinel, .sentinel, .sentinel, .sentinel, .sentinel, .sentinel, .sentinel, .sentinel, .sentinel] true :=
  Program.laidByTextLater.sub seatTie1 ["inglenook/api.ErrEnd", "inglenook/api.ErrSum", "inglenook/api.ErrShape", "inglenook/api.ErrMany", "inglenook/api.ErrRange", "inglenook/api.ErrName", "inglenook/api.ErrNone", "inglenook/api.ErrThere", "inglenook/api.ErrFull", "inglenook/api.ErrCrash", "inglenook/api.ErrSyntax", "inglenook/api.ErrDeep", "inglenook/api.ErrTicks", "inglenook/api.ErrWaits", "inglenook/api.ErrClosed", "inglenook/api.ErrWord", "inglenook/api.ErrNumber"] (by kernel_rfl) (by kernel_rfl)
theorem treeLoops_row_tie : Rows.treeLoopsRow.laidByTextAt .later Tryd.pinned [.sentinel, .sentinel, .sentinel, .sentinel, .sentinel, .sentinel, .sentinel, .sentinel, .sentinel, .sentinel, .sentinel, .sentinel, .sentinel, .sentinel, .sentinel, .sentinel, .sentinel] true :=
  OpenClaim.laidByTextAt_later rfl rfl tie noOwnUnsafe
theorem treeValid_row_tie : Rows.treeValidRow.laidByTextAt .later Tryd.pinned [.sentinel, .sentinel, .sentinel, .sentinel, .sentinel, .sentinel, .sentinel, .sentinel, .sentinel, .sentinel, .sentinel, .sentinel, .sentinel, .sentinel, .sentinel, .sentinel, .sentinel] true :=
  OpenClaim.laidByTextAt_later rfl rfl tie noOwnUnsafe
theorem treeBounds_row_tie : Rows.treeBoundsRow.laidByTextAt .later Tryd.pinned [.sentinel, .sentinel, .sentinel, .sentinel, .sentinel, .sentinel, .sentinel, .sentinel, .sentinel, .sentinel, .sentinel, .sentinel, .sentinel, .sentinel, .sentinel, .sentinel, .sentinel] true :=
  OpenClaim.laidByTextAt_later rfl rfl tie noOwnUnsafe
theorem tie2 : Tryd.prog.laidByTextLater [("inglenook/api.ErrShape", Rows.laid_inglenook_api_ErrShape), ("inglenook/api.ErrMany", Rows.laid_inglenook_api_ErrMany), ("inglenook/api.ErrRange", Rows.laid_inglenook_api_ErrRange), ("inglenook/api.ErrName", Rows.laid_inglenook_api_ErrName), ("inglenook/api.ErrDeep", Rows.laid_inglenook_api_ErrDeep)] [.sentinel, .sentinel, .sentinel, .sentinel, .sentinel] true :=
  Program.laidByTextLater.sub seatTie1 ["inglenook/api.ErrShape", "inglenook/api.ErrMany", "inglenook/api.ErrRange", "inglenook/api.ErrName", "inglenook/api.ErrDeep"] (by kernel_rfl) (by kernel_rfl)
theorem treeEach_row_tie : Rows.treeEachRow.laidByTextAt .later Tryd.pinned [.sentinel, .sentinel, .sentinel, .sentinel, .sentinel] true :=
  OpenClaim.laidByTextAt_later rfl rfl tie2 noOwnUnsafe
theorem treeTurned_row_tie : Rows.treeTurnedRow.laidByTextAt .later Tryd.pinned [.sentinel, .sentinel, .sentinel, .sentinel, .sentinel] true :=
  OpenClaim.laidByTextAt_later rfl rfl tie2 noOwnUnsafe
theorem treeSays_row_tie : Rows.treeSaysRow.laidByTextAt .later Tryd.pinned [.sentinel, .sentinel, .sentinel, .sentinel, .sentinel] true :=
  OpenClaim.laidByTextAt_later rfl rfl tie2 noOwnUnsafe
theorem treeLoopsUpto_row_tie : Rows.treeLoopsUptoRow.laidByTextAt .later Tryd.pinned [.sentinel, .sentinel, .sentinel, .sentinel, .sentinel, .sentinel, .sentinel, .sentinel, .sentinel, .sentinel, .sentinel, .sentinel, .sentinel, .sentinel, .sentinel, .sentinel, .sentinel] true :=
  OpenClaim.laidByTextAt_later rfl rfl tie noOwnUnsafe
theorem treeValidUpto_row_tie : Rows.treeValidUptoRow.laidByTextAt .later Tryd.pinned [.sentinel, .sentinel, .sentinel, .sentinel, .sentinel, .sentinel, .sentinel, .sentinel, .sentinel, .sentinel, .sentinel, .sentinel, .sentinel, .sentinel, .sentinel, .sentinel, .sentinel] true :=
  OpenClaim.laidByTextAt_later rfl rfl tie noOwnUnsafe
theorem treeBoundsUpto_row_tie : Rows.treeBoundsUptoRow.laidByTextAt .later Tryd.pinned [.sentinel, .sentinel, .sentinel, .sentinel, .sentinel, .sentinel, .sentinel, .sentinel, .sentinel, .sentinel, .sentinel, .sentinel, .sentinel, .sentinel, .sentinel, .sentinel, .sentinel] true :=
  OpenClaim.laidByTextAt_later rfl rfl tie noOwnUnsafe
theorem treeEachUpto_row_tie : Rows.treeEachUptoRow.laidByTextAt .later Tryd.pinned [.sentinel, .sentinel, .sentinel, .sentinel, .sentinel] true :=
  OpenClaim.laidByTextAt_later rfl rfl tie2 noOwnUnsafe
theorem treeTurnedUpto_row_tie : Rows.treeTurnedUptoRow.laidByTextAt .later Tryd.pinned [.sentinel, .sentinel, .sentinel, .sentinel, .sentinel] true :=
  OpenClaim.laidByTextAt_later rfl rfl tie2 noOwnUnsafe
theorem treeSaysUpto_row_tie : Rows.treeSaysUptoRow.laidByTextAt .later Tryd.pinned [.sentinel, .sentinel, .sentinel, .sentinel, .sentinel] true :=
  OpenClaim.laidByTextAt_later rfl rfl tie2 noOwnUnsafe
end Go.Proofs.YteihmagldhmjgaaDoor
