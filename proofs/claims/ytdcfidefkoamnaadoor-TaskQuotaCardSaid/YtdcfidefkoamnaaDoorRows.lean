/-
  NARROWER THAN 'FOR EVERY INPUT', by the rows' own cells (each row's printed sentence says how): TaskTurns: laid · TaskQuota: laid · TaskWakes: laid · TaskNumbers: laid · TaskPlays: laid.
  DERIVED. THE GIVEN ROWS OF THIS SEAT. 5 by the template 'for every input the law returns true; each argument reads behind the call as it read before'; 0 by the template 'total and deterministic' (their statements: YtdcfidefkoamnaaDoorTotals.lean).
  GIVEN WITH THE SEED: the statements are not yours to turn. If you find one false, say at which input.
  Laid BY PROGRAM, IN A SANDBOX (cutbox-rows.mjs): the forced cells as the released guide's own fill.sh prints them over the translation 0b5d1af063ec87bf… (all of the seat's roots in one cut). By AI agents, Wed Nov 11 2026. No macro, syntax, notation, axiom, sorry.
-/
import Derived.Test.YtdcfidefkoamnaaDoorChecked
import GoSem.Claim
import GoSem.ClaimJoined
import GoSem.ClaimMapViews
import Derived.JoinedTies
import Derived.KernelRfl
namespace Go.Proofs.YtdcfidefkoamnaaDoor
/- THE CELL 'sum', in the pinned program and in every row, IS THE sha256 OF THE DUMP (.gsa) THAT YtdcfidefkoamnaaDoorProg.lean LOADS. Nothing in Lean hashes anything: it is a label: what it is worth is what the hold of that sum in a sandbox is worth. -/
noncomputable def Tryd.pinned : Pinned := { name := "ytdcfidefkoamnaadoor", sum := "0b5d1af063ec87bf4218f6bfa16c82e979fb46b12964a4b9756155195238b80b", checked := Tryd.checked }
namespace Rows
def none {H : Type} : Left H := { results := [], args := [] }

/- WHAT THE LISTED PACKAGE-LEVEL VARIABLES READ AS WHEN THE CALL BEGINS. Each datum BY PROGRAM (the guide's laid-datum.mjs) off the statement by which the dump's own 'gosem.cut.vars' lays the variable. In a bare row this is a premise. The card (YtdcfidefkoamnaaDoorCards.lean) ties it to the program's text. -/
def laid_inglenook_api_ErrMany {H : Type} : DataW H := .iface "*errors.errorString" (.ptr (.agg [.lit (.string [116, 111, 111, 32, 109, 97, 110, 121])]))
def laid_inglenook_api_ErrRange {H : Type} : DataW H := .iface "*errors.errorString" (.ptr (.agg [.lit (.string [97, 32, 110, 117, 109, 98, 101, 114, 32, 111, 117, 116, 32, 111, 102, 32, 105, 116, 115, 32, 114, 97, 110, 103, 101])]))
def laid_inglenook_api_ErrFull {H : Type} : DataW H := .iface "*errors.errorString" (.ptr (.agg [.lit (.string [116, 104, 101, 114, 101, 32, 105, 115, 32, 110, 111, 32, 114, 111, 111, 109])]))
def laid_inglenook_api_ErrEnd {H : Type} : DataW H := .iface "*errors.errorString" (.ptr (.agg [.lit (.string [105, 116, 32, 101, 110, 100, 115, 32, 116, 111, 111, 32, 101, 97, 114, 108, 121])]))
def laid_inglenook_api_ErrSum {H : Type} : DataW H := .iface "*errors.errorString" (.ptr (.agg [.lit (.string [116, 104, 101, 32, 115, 117, 109, 32, 105, 115, 32, 97, 110, 111, 116, 104, 101, 114, 32, 111, 110, 101])]))
def laid_inglenook_api_ErrShape {H : Type} : DataW H := .iface "*errors.errorString" (.ptr (.agg [.lit (.string [110, 111, 116, 32, 97, 115, 32, 105, 116, 32, 104, 97, 115, 32, 116, 111, 32, 98, 101])]))
def laid_inglenook_api_ErrName {H : Type} : DataW H := .iface "*errors.errorString" (.ptr (.agg [.lit (.string [110, 111, 32, 110, 97, 109, 101, 32, 116, 104, 97, 116, 32, 109, 97, 121, 32, 98, 101])]))
def laid_inglenook_api_ErrNone {H : Type} : DataW H := .iface "*errors.errorString" (.ptr (.agg [.lit (.string [116, 104, 101, 114, 101, 32, 105, 115, 32, 110, 111, 110, 101])]))
def laid_inglenook_api_ErrThere {H : Type} : DataW H := .iface "*errors.errorString" (.ptr (.agg [.lit (.string [116, 104, 101, 114, 101, 32, 105, 115, 32, 111, 110, 101])]))
def laid_inglenook_api_ErrCrash {H : Type} : DataW H := .iface "*errors.errorString" (.ptr (.agg [.lit (.string [116, 104, 101, 32, 112, 111, 119, 101, 114, 32, 105, 115, 32, 103, 111, 110, 101])]))
def laid_inglenook_api_ErrSyntax {H : Type} : DataW H := .iface "*errors.errorString" (.ptr (.agg [.lit (.string [110, 111, 32, 112, 114, 111, 103, 114, 97, 109])]))
def laid_inglenook_api_ErrDeep {H : Type} : DataW H := .iface "*errors.errorString" (.ptr (.agg [.lit (.string [116, 111, 111, 32, 100, 101, 101, 112])]))
def laid_inglenook_api_ErrTicks {H : Type} : DataW H := .iface "*errors.errorString" (.ptr (.agg [.lit (.string [116, 111, 111, 32, 109, 97, 110, 121, 32, 116, 105, 99, 107, 115])]))
def laid_inglenook_api_ErrWaits {H : Type} : DataW H := .iface "*errors.errorString" (.ptr (.agg [.lit (.string [105, 116, 32, 119, 97, 105, 116, 115])]))
def laid_inglenook_api_ErrClosed {H : Type} : DataW H := .iface "*errors.errorString" (.ptr (.agg [.lit (.string [105, 116, 32, 105, 115, 32, 99, 108, 111, 115, 101, 100])]))
def laid_inglenook_api_ErrWord {H : Type} : DataW H := .iface "*errors.errorString" (.ptr (.agg [.lit (.string [110, 111, 32, 115, 117, 99, 104, 32, 119, 111, 114, 100])]))
def laid_inglenook_api_ErrNumber {H : Type} : DataW H := .iface "*errors.errorString" (.ptr (.agg [.lit (.string [110, 111, 32, 115, 117, 99, 104, 32, 110, 117, 109, 98, 101, 114])]))

/-- 'inglenooklaw24.TaskTurns': WHATEVER THE INPUT: true; the input reads as it did. -/
def taskTurnsSpec : ChangeSpec := { name := "taskTurns", fn := fun _ => fun
  | [d] => { results := [.lit (.bool true)], args := [d] }
  | _ => none }
def taskTurnsRow : OpenClaim := { program := "ytdcfidefkoamnaadoor", sum := "0b5d1af063ec87bf4218f6bfa16c82e979fb46b12964a4b9756155195238b80b", func := "inglenook/inglenooklaw24.TaskTurns", spec := "taskTurns", unfollowed := true, recurses := true, named := ["inglenook/api.ErrRange", "inglenook/api.ErrMany", "inglenook/api.ErrFull"], apart := false, laid := [("inglenook/api.ErrMany", laid_inglenook_api_ErrMany), ("inglenook/api.ErrRange", laid_inglenook_api_ErrRange), ("inglenook/api.ErrFull", laid_inglenook_api_ErrFull)] }
def TaskTurnsSaid : Prop := taskTurnsRow.holds Tryd.pinned (OpenSpec.ofChange taskTurnsSpec)

/-- ITS FALSE NEIGHBOUR: 'it returns false'. Refute it at one input. -/
def taskTurnsWrong : ChangeSpec := { name := "taskTurns", fn := fun _ => fun
  | [d] => { results := [.lit (.bool false)], args := [d] }
  | _ => none }
def TaskTurnsWrongFalsely : Prop := taskTurnsRow.holds Tryd.pinned (OpenSpec.ofChange taskTurnsWrong)

/-- 'inglenooklaw24.TaskQuota': WHATEVER THE INPUT: true; the input reads as it did. -/
def taskQuotaSpec : ChangeSpec := { name := "taskQuota", fn := fun _ => fun
  | [d1, d2] => { results := [.lit (.bool true)], args := [d1, d2] }
  | _ => none }
def taskQuotaRow : OpenClaim := { program := "ytdcfidefkoamnaadoor", sum := "0b5d1af063ec87bf4218f6bfa16c82e979fb46b12964a4b9756155195238b80b", func := "inglenook/inglenooklaw24.TaskQuota", spec := "taskQuota", unfollowed := true, recurses := true, named := ["inglenook/api.ErrRange", "inglenook/api.ErrMany", "inglenook/api.ErrFull", "inglenook/api.ErrEnd", "inglenook/api.ErrSum", "inglenook/api.ErrShape", "inglenook/api.ErrName", "inglenook/api.ErrNone", "inglenook/api.ErrThere", "inglenook/api.ErrCrash", "inglenook/api.ErrSyntax", "inglenook/api.ErrDeep", "inglenook/api.ErrTicks", "inglenook/api.ErrWaits", "inglenook/api.ErrClosed", "inglenook/api.ErrWord", "inglenook/api.ErrNumber"], apart := false, laid := [("inglenook/api.ErrEnd", laid_inglenook_api_ErrEnd), ("inglenook/api.ErrSum", laid_inglenook_api_ErrSum), ("inglenook/api.ErrShape", laid_inglenook_api_ErrShape), ("inglenook/api.ErrMany", laid_inglenook_api_ErrMany), ("inglenook/api.ErrRange", laid_inglenook_api_ErrRange), ("inglenook/api.ErrName", laid_inglenook_api_ErrName), ("inglenook/api.ErrNone", laid_inglenook_api_ErrNone), ("inglenook/api.ErrThere", laid_inglenook_api_ErrThere), ("inglenook/api.ErrFull", laid_inglenook_api_ErrFull), ("inglenook/api.ErrCrash", laid_inglenook_api_ErrCrash), ("inglenook/api.ErrSyntax", laid_inglenook_api_ErrSyntax), ("inglenook/api.ErrDeep", laid_inglenook_api_ErrDeep), ("inglenook/api.ErrTicks", laid_inglenook_api_ErrTicks), ("inglenook/api.ErrWaits", laid_inglenook_api_ErrWaits), ("inglenook/api.ErrClosed", laid_inglenook_api_ErrClosed), ("inglenook/api.ErrWord", laid_inglenook_api_ErrWord), ("inglenook/api.ErrNumber", laid_inglenook_api_ErrNumber)] }
def TaskQuotaSaid : Prop := taskQuotaRow.holds Tryd.pinned (OpenSpec.ofChange taskQuotaSpec)

/-- ITS FALSE NEIGHBOUR: 'it returns false'. Refute it at one input. -/
def taskQuotaWrong : ChangeSpec := { name := "taskQuota", fn := fun _ => fun
  | [d1, d2] => { results := [.lit (.bool false)], args := [d1, d2] }
  | _ => none }
def TaskQuotaWrongFalsely : Prop := taskQuotaRow.holds Tryd.pinned (OpenSpec.ofChange taskQuotaWrong)

/-- 'inglenooklaw24.TaskWakes': WHATEVER THE INPUT: true; the input reads as it did. -/
def taskWakesSpec : ChangeSpec := { name := "taskWakes", fn := fun _ => fun
  | [d1, d2, d3] => { results := [.lit (.bool true)], args := [d1, d2, d3] }
  | _ => none }
def taskWakesRow : OpenClaim := { program := "ytdcfidefkoamnaadoor", sum := "0b5d1af063ec87bf4218f6bfa16c82e979fb46b12964a4b9756155195238b80b", func := "inglenook/inglenooklaw24.TaskWakes", spec := "taskWakes", unfollowed := true, recurses := true, named := ["inglenook/api.ErrRange", "inglenook/api.ErrMany", "inglenook/api.ErrFull"], apart := false, laid := [("inglenook/api.ErrMany", laid_inglenook_api_ErrMany), ("inglenook/api.ErrRange", laid_inglenook_api_ErrRange), ("inglenook/api.ErrFull", laid_inglenook_api_ErrFull)] }
def TaskWakesSaid : Prop := taskWakesRow.holds Tryd.pinned (OpenSpec.ofChange taskWakesSpec)

/-- ITS FALSE NEIGHBOUR: 'it returns false'. Refute it at one input. -/
def taskWakesWrong : ChangeSpec := { name := "taskWakes", fn := fun _ => fun
  | [d1, d2, d3] => { results := [.lit (.bool false)], args := [d1, d2, d3] }
  | _ => none }
def TaskWakesWrongFalsely : Prop := taskWakesRow.holds Tryd.pinned (OpenSpec.ofChange taskWakesWrong)

/-- 'inglenooklaw24.TaskNumbers': WHATEVER THE INPUT: true; the input reads as it did. -/
def taskNumbersSpec : ChangeSpec := { name := "taskNumbers", fn := fun _ => fun
  | [d] => { results := [.lit (.bool true)], args := [d] }
  | _ => none }
def taskNumbersRow : OpenClaim := { program := "ytdcfidefkoamnaadoor", sum := "0b5d1af063ec87bf4218f6bfa16c82e979fb46b12964a4b9756155195238b80b", func := "inglenook/inglenooklaw24.TaskNumbers", spec := "taskNumbers", unfollowed := true, recurses := true, named := ["inglenook/api.ErrRange", "inglenook/api.ErrMany", "inglenook/api.ErrFull", "inglenook/api.ErrThere", "inglenook/api.ErrEnd", "inglenook/api.ErrSum", "inglenook/api.ErrShape", "inglenook/api.ErrName", "inglenook/api.ErrNone", "inglenook/api.ErrCrash", "inglenook/api.ErrSyntax", "inglenook/api.ErrDeep", "inglenook/api.ErrTicks", "inglenook/api.ErrWaits", "inglenook/api.ErrClosed", "inglenook/api.ErrWord", "inglenook/api.ErrNumber"], apart := false, laid := [("inglenook/api.ErrEnd", laid_inglenook_api_ErrEnd), ("inglenook/api.ErrSum", laid_inglenook_api_ErrSum), ("inglenook/api.ErrShape", laid_inglenook_api_ErrShape), ("inglenook/api.ErrMany", laid_inglenook_api_ErrMany), ("inglenook/api.ErrRange", laid_inglenook_api_ErrRange), ("inglenook/api.ErrName", laid_inglenook_api_ErrName), ("inglenook/api.ErrNone", laid_inglenook_api_ErrNone), ("inglenook/api.ErrThere", laid_inglenook_api_ErrThere), ("inglenook/api.ErrFull", laid_inglenook_api_ErrFull), ("inglenook/api.ErrCrash", laid_inglenook_api_ErrCrash), ("inglenook/api.ErrSyntax", laid_inglenook_api_ErrSyntax), ("inglenook/api.ErrDeep", laid_inglenook_api_ErrDeep), ("inglenook/api.ErrTicks", laid_inglenook_api_ErrTicks), ("inglenook/api.ErrWaits", laid_inglenook_api_ErrWaits), ("inglenook/api.ErrClosed", laid_inglenook_api_ErrClosed), ("inglenook/api.ErrWord", laid_inglenook_api_ErrWord), ("inglenook/api.ErrNumber", laid_inglenook_api_ErrNumber)] }
def TaskNumbersSaid : Prop := taskNumbersRow.holds Tryd.pinned (OpenSpec.ofChange taskNumbersSpec)

/-- ITS FALSE NEIGHBOUR: 'it returns false'. Refute it at one input. -/
def taskNumbersWrong : ChangeSpec := { name := "taskNumbers", fn := fun _ => fun
  | [d] => { results := [.lit (.bool false)], args := [d] }
  | _ => none }
def TaskNumbersWrongFalsely : Prop := taskNumbersRow.holds Tryd.pinned (OpenSpec.ofChange taskNumbersWrong)

/-- 'inglenooklaw24.TaskPlays': WHATEVER THE INPUT: true; the input reads as it did. -/
def taskPlaysSpec : ChangeSpec := { name := "taskPlays", fn := fun _ => fun
  | [d] => { results := [.lit (.bool true)], args := [d] }
  | _ => none }
def taskPlaysRow : OpenClaim := { program := "ytdcfidefkoamnaadoor", sum := "0b5d1af063ec87bf4218f6bfa16c82e979fb46b12964a4b9756155195238b80b", func := "inglenook/inglenooklaw24.TaskPlays", spec := "taskPlays", unfollowed := true, recurses := true, named := ["inglenook/api.ErrRange", "inglenook/api.ErrMany", "inglenook/api.ErrFull", "inglenook/api.ErrEnd", "inglenook/api.ErrSum", "inglenook/api.ErrShape", "inglenook/api.ErrName", "inglenook/api.ErrNone", "inglenook/api.ErrThere", "inglenook/api.ErrCrash", "inglenook/api.ErrSyntax", "inglenook/api.ErrDeep", "inglenook/api.ErrTicks", "inglenook/api.ErrWaits", "inglenook/api.ErrClosed", "inglenook/api.ErrWord", "inglenook/api.ErrNumber"], apart := false, laid := [("inglenook/api.ErrEnd", laid_inglenook_api_ErrEnd), ("inglenook/api.ErrSum", laid_inglenook_api_ErrSum), ("inglenook/api.ErrShape", laid_inglenook_api_ErrShape), ("inglenook/api.ErrMany", laid_inglenook_api_ErrMany), ("inglenook/api.ErrRange", laid_inglenook_api_ErrRange), ("inglenook/api.ErrName", laid_inglenook_api_ErrName), ("inglenook/api.ErrNone", laid_inglenook_api_ErrNone), ("inglenook/api.ErrThere", laid_inglenook_api_ErrThere), ("inglenook/api.ErrFull", laid_inglenook_api_ErrFull), ("inglenook/api.ErrCrash", laid_inglenook_api_ErrCrash), ("inglenook/api.ErrSyntax", laid_inglenook_api_ErrSyntax), ("inglenook/api.ErrDeep", laid_inglenook_api_ErrDeep), ("inglenook/api.ErrTicks", laid_inglenook_api_ErrTicks), ("inglenook/api.ErrWaits", laid_inglenook_api_ErrWaits), ("inglenook/api.ErrClosed", laid_inglenook_api_ErrClosed), ("inglenook/api.ErrWord", laid_inglenook_api_ErrWord), ("inglenook/api.ErrNumber", laid_inglenook_api_ErrNumber)] }
def TaskPlaysSaid : Prop := taskPlaysRow.holds Tryd.pinned (OpenSpec.ofChange taskPlaysSpec)

/-- ITS FALSE NEIGHBOUR: 'it returns false'. Refute it at one input. -/
def taskPlaysWrong : ChangeSpec := { name := "taskPlays", fn := fun _ => fun
  | [d] => { results := [.lit (.bool false)], args := [d] }
  | _ => none }
def TaskPlaysWrongFalsely : Prop := taskPlaysRow.holds Tryd.pinned (OpenSpec.ofChange taskPlaysWrong)

/- THE SECOND FORM. 'bulk': how many values and letters a reading holds, each counted each time it is reached (what is shared counts as often as it is met; a slice's spare places count too). A statement '..UptoSaid' is the law's where the arguments, and the package variables that the reading takes, are together of bulk at most 1048576: NARROWER than '..Said'. Prove '..Said' where nothing that the law and all that it calls make is longer than what came in: it says more and counts as full. Else prove '..UptoSaid'. A law counts once. -/
mutual
def uptoBulk {H : Type} : DataW H → Nat
  | .lit (.string bytes) => bytes.length + 1
  | .lit _ => 1
  | .nil => 1
  | .ptr d => uptoBulk d + 1
  | .slice elems spare => uptoBulkAll elems + uptoBulkAll spare + 1
  | .agg parts => uptoBulkAll parts + 1
  | .iface _ d => uptoBulk d + 1
  | .map entries => uptoBulkEntries entries + 1
  | .held _ => 1
def uptoBulkAll {H : Type} : List (DataW H) → Nat
  | [] => 0
  | d :: r => uptoBulk d + uptoBulkAll r
def uptoBulkEntries {H : Type} : List (Lit × DataW H) → Nat
  | [] => 0
  | x :: r => uptoBulkEntry x + uptoBulkEntries r
def uptoBulkEntry {H : Type} : Lit × DataW H → Nat
  | (.string bytes, d) => bytes.length + uptoBulk d + 1
  | (_, d) => uptoBulk d + 1
 end
def uptoSmall : (H : Type) → List (DataW H) → Bool := fun _ ds => decide (uptoBulkAll ds ≤ 1048576)
def OpenSpec.upto (s : _root_.Go.ChangeSpec) : _root_.Go.OpenSpec := { _root_.Go.OpenSpec.ofChange s with cond := some uptoSmall }

/-- 'inglenooklaw24.TaskTurns', WHERE WHAT IT READS IS OF BULK AT MOST 1048576: true; the input reads as it did. -/
def taskTurnsUptoRow : OpenClaim := { program := "ytdcfidefkoamnaadoor", sum := "0b5d1af063ec87bf4218f6bfa16c82e979fb46b12964a4b9756155195238b80b", func := "inglenook/inglenooklaw24.TaskTurns", spec := "taskTurns", unfollowed := true, recurses := true, named := ["inglenook/api.ErrRange", "inglenook/api.ErrMany", "inglenook/api.ErrFull"], apart := false, laid := [("inglenook/api.ErrMany", laid_inglenook_api_ErrMany), ("inglenook/api.ErrRange", laid_inglenook_api_ErrRange), ("inglenook/api.ErrFull", laid_inglenook_api_ErrFull)], narrowed := true }
def TaskTurnsUptoSaid : Prop := taskTurnsUptoRow.holds Tryd.pinned (OpenSpec.upto taskTurnsSpec)

/-- 'inglenooklaw24.TaskQuota', WHERE WHAT IT READS IS OF BULK AT MOST 1048576: true; the input reads as it did. -/
def taskQuotaUptoRow : OpenClaim := { program := "ytdcfidefkoamnaadoor", sum := "0b5d1af063ec87bf4218f6bfa16c82e979fb46b12964a4b9756155195238b80b", func := "inglenook/inglenooklaw24.TaskQuota", spec := "taskQuota", unfollowed := true, recurses := true, named := ["inglenook/api.ErrRange", "inglenook/api.ErrMany", "inglenook/api.ErrFull", "inglenook/api.ErrEnd", "inglenook/api.ErrSum", "inglenook/api.ErrShape", "inglenook/api.ErrName", "inglenook/api.ErrNone", "inglenook/api.ErrThere", "inglenook/api.ErrCrash", "inglenook/api.ErrSyntax", "inglenook/api.ErrDeep", "inglenook/api.ErrTicks", "inglenook/api.ErrWaits", "inglenook/api.ErrClosed", "inglenook/api.ErrWord", "inglenook/api.ErrNumber"], apart := false, laid := [("inglenook/api.ErrEnd", laid_inglenook_api_ErrEnd), ("inglenook/api.ErrSum", laid_inglenook_api_ErrSum), ("inglenook/api.ErrShape", laid_inglenook_api_ErrShape), ("inglenook/api.ErrMany", laid_inglenook_api_ErrMany), ("inglenook/api.ErrRange", laid_inglenook_api_ErrRange), ("inglenook/api.ErrName", laid_inglenook_api_ErrName), ("inglenook/api.ErrNone", laid_inglenook_api_ErrNone), ("inglenook/api.ErrThere", laid_inglenook_api_ErrThere), ("inglenook/api.ErrFull", laid_inglenook_api_ErrFull), ("inglenook/api.ErrCrash", laid_inglenook_api_ErrCrash), ("inglenook/api.ErrSyntax", laid_inglenook_api_ErrSyntax), ("inglenook/api.ErrDeep", laid_inglenook_api_ErrDeep), ("inglenook/api.ErrTicks", laid_inglenook_api_ErrTicks), ("inglenook/api.ErrWaits", laid_inglenook_api_ErrWaits), ("inglenook/api.ErrClosed", laid_inglenook_api_ErrClosed), ("inglenook/api.ErrWord", laid_inglenook_api_ErrWord), ("inglenook/api.ErrNumber", laid_inglenook_api_ErrNumber)], narrowed := true }
def TaskQuotaUptoSaid : Prop := taskQuotaUptoRow.holds Tryd.pinned (OpenSpec.upto taskQuotaSpec)

/-- 'inglenooklaw24.TaskWakes', WHERE WHAT IT READS IS OF BULK AT MOST 1048576: true; the input reads as it did. -/
def taskWakesUptoRow : OpenClaim := { program := "ytdcfidefkoamnaadoor", sum := "0b5d1af063ec87bf4218f6bfa16c82e979fb46b12964a4b9756155195238b80b", func := "inglenook/inglenooklaw24.TaskWakes", spec := "taskWakes", unfollowed := true, recurses := true, named := ["inglenook/api.ErrRange", "inglenook/api.ErrMany", "inglenook/api.ErrFull"], apart := false, laid := [("inglenook/api.ErrMany", laid_inglenook_api_ErrMany), ("inglenook/api.ErrRange", laid_inglenook_api_ErrRange), ("inglenook/api.ErrFull", laid_inglenook_api_ErrFull)], narrowed := true }
def TaskWakesUptoSaid : Prop := taskWakesUptoRow.holds Tryd.pinned (OpenSpec.upto taskWakesSpec)

/-- 'inglenooklaw24.TaskNumbers', WHERE WHAT IT READS IS OF BULK AT MOST 1048576: true; the input reads as it did. -/
def taskNumbersUptoRow : OpenClaim := { program := "ytdcfidefkoamnaadoor", sum := "0b5d1af063ec87bf4218f6bfa16c82e979fb46b12964a4b9756155195238b80b", func := "inglenook/inglenooklaw24.TaskNumbers", spec := "taskNumbers", unfollowed := true, recurses := true, named := ["inglenook/api.ErrRange", "inglenook/api.ErrMany", "inglenook/api.ErrFull", "inglenook/api.ErrThere", "inglenook/api.ErrEnd", "inglenook/api.ErrSum", "inglenook/api.ErrShape", "inglenook/api.ErrName", "inglenook/api.ErrNone", "inglenook/api.ErrCrash", "inglenook/api.ErrSyntax", "inglenook/api.ErrDeep", "inglenook/api.ErrTicks", "inglenook/api.ErrWaits", "inglenook/api.ErrClosed", "inglenook/api.ErrWord", "inglenook/api.ErrNumber"], apart := false, laid := [("inglenook/api.ErrEnd", laid_inglenook_api_ErrEnd), ("inglenook/api.ErrSum", laid_inglenook_api_ErrSum), ("inglenook/api.ErrShape", laid_inglenook_api_ErrShape), ("inglenook/api.ErrMany", laid_inglenook_api_ErrMany), ("inglenook/api.ErrRange", laid_inglenook_api_ErrRange), ("inglenook/api.ErrName", laid_inglenook_api_ErrName), ("inglenook/api.ErrNone", laid_inglenook_api_ErrNone), ("inglenook/api.ErrThere", laid_inglenook_api_ErrThere), ("inglenook/api.ErrFull", laid_inglenook_api_ErrFull), ("inglenook/api.ErrCrash", laid_inglenook_api_ErrCrash), ("inglenook/api.ErrSyntax", laid_inglenook_api_ErrSyntax), ("inglenook/api.ErrDeep", laid_inglenook_api_ErrDeep), ("inglenook/api.ErrTicks", laid_inglenook_api_ErrTicks), ("inglenook/api.ErrWaits", laid_inglenook_api_ErrWaits), ("inglenook/api.ErrClosed", laid_inglenook_api_ErrClosed), ("inglenook/api.ErrWord", laid_inglenook_api_ErrWord), ("inglenook/api.ErrNumber", laid_inglenook_api_ErrNumber)], narrowed := true }
def TaskNumbersUptoSaid : Prop := taskNumbersUptoRow.holds Tryd.pinned (OpenSpec.upto taskNumbersSpec)

/-- 'inglenooklaw24.TaskPlays', WHERE WHAT IT READS IS OF BULK AT MOST 1048576: true; the input reads as it did. -/
def taskPlaysUptoRow : OpenClaim := { program := "ytdcfidefkoamnaadoor", sum := "0b5d1af063ec87bf4218f6bfa16c82e979fb46b12964a4b9756155195238b80b", func := "inglenook/inglenooklaw24.TaskPlays", spec := "taskPlays", unfollowed := true, recurses := true, named := ["inglenook/api.ErrRange", "inglenook/api.ErrMany", "inglenook/api.ErrFull", "inglenook/api.ErrEnd", "inglenook/api.ErrSum", "inglenook/api.ErrShape", "inglenook/api.ErrName", "inglenook/api.ErrNone", "inglenook/api.ErrThere", "inglenook/api.ErrCrash", "inglenook/api.ErrSyntax", "inglenook/api.ErrDeep", "inglenook/api.ErrTicks", "inglenook/api.ErrWaits", "inglenook/api.ErrClosed", "inglenook/api.ErrWord", "inglenook/api.ErrNumber"], apart := false, laid := [("inglenook/api.ErrEnd", laid_inglenook_api_ErrEnd), ("inglenook/api.ErrSum", laid_inglenook_api_ErrSum), ("inglenook/api.ErrShape", laid_inglenook_api_ErrShape), ("inglenook/api.ErrMany", laid_inglenook_api_ErrMany), ("inglenook/api.ErrRange", laid_inglenook_api_ErrRange), ("inglenook/api.ErrName", laid_inglenook_api_ErrName), ("inglenook/api.ErrNone", laid_inglenook_api_ErrNone), ("inglenook/api.ErrThere", laid_inglenook_api_ErrThere), ("inglenook/api.ErrFull", laid_inglenook_api_ErrFull), ("inglenook/api.ErrCrash", laid_inglenook_api_ErrCrash), ("inglenook/api.ErrSyntax", laid_inglenook_api_ErrSyntax), ("inglenook/api.ErrDeep", laid_inglenook_api_ErrDeep), ("inglenook/api.ErrTicks", laid_inglenook_api_ErrTicks), ("inglenook/api.ErrWaits", laid_inglenook_api_ErrWaits), ("inglenook/api.ErrClosed", laid_inglenook_api_ErrClosed), ("inglenook/api.ErrWord", laid_inglenook_api_ErrWord), ("inglenook/api.ErrNumber", laid_inglenook_api_ErrNumber)], narrowed := true }
def TaskPlaysUptoSaid : Prop := taskPlaysUptoRow.holds Tryd.pinned (OpenSpec.upto taskPlaysSpec)

end Rows
end Go.Proofs.YtdcfidefkoamnaaDoor
