/-
  NARROWER THAN 'FOR EVERY INPUT', by the rows' own cells (each row's printed sentence says how): SeqEach: loops · SeqPieces: loops · SeqSays: loops · SeqSets: loops.
  DERIVED. THE GIVEN ROWS OF THIS SEAT. 5 by the template 'for every input the law returns true; each argument reads behind the call as it read before'; 0 by the template 'total and deterministic' (their statements: YtebanmigaikhhaaTotals.lean).
  GIVEN WITH THE SEED: the statements are not yours to turn. If you find one false, say at which input.
  Laid BY PROGRAM, IN A SANDBOX (cutbox-rows.mjs): the forced cells as the released guide's own fill.sh prints them over the translation 3848bc1a65ad4b2d… (all of the seat's roots in one cut). By AI agents, Wed Nov 11 2026. No macro, syntax, notation, axiom, sorry.
-/
import Derived.Test.YtebanmigaikhhaaChecked
import GoSem.Claim
import GoSem.ClaimJoined
import GoSem.ClaimMapViews
import Derived.JoinedTies
import Derived.KernelRfl
namespace Go.Proofs.Ytebanmigaikhhaa
/- THE CELL 'sum', in the pinned program and in every row, IS THE sha256 OF THE DUMP (.gsa) THAT YtebanmigaikhhaaProg.lean LOADS. Nothing in Lean hashes anything: it is a label: what it is worth is what the hold of that sum in a sandbox is worth. -/
noncomputable def Try.pinned : Pinned := { name := "ytebanmigaikhhaa", sum := "3848bc1a65ad4b2dc2bd0e939813672361e74ad66ae12784536727f77ffb1a46", checked := Try.checked }
namespace Rows
def none {H : Type} : Left H := { results := [], args := [] }

/-- 'inglenooklaw4.SeqEach': WHATEVER THE INPUT: true; the input reads as it did. -/
def seqEachSpec : ChangeSpec := { name := "seqEach", fn := fun _ => fun
  | [d1, d2] => { results := [.lit (.bool true)], args := [d1, d2] }
  | _ => none }
def seqEachRow : OpenClaim := { program := "ytebanmigaikhhaa", sum := "3848bc1a65ad4b2dc2bd0e939813672361e74ad66ae12784536727f77ffb1a46", func := "inglenook/inglenooklaw4.SeqEach", spec := "seqEach", unfollowed := true, recurses := true, loops := true, apart := false }
def SeqEachSaid : Prop := seqEachRow.holds Try.pinned (OpenSpec.ofChange seqEachSpec)

/-- ITS FALSE NEIGHBOUR: 'it returns false'. Refute it at one input. -/
def seqEachWrong : ChangeSpec := { name := "seqEach", fn := fun _ => fun
  | [d1, d2] => { results := [.lit (.bool false)], args := [d1, d2] }
  | _ => none }
def SeqEachWrongFalsely : Prop := seqEachRow.holds Try.pinned (OpenSpec.ofChange seqEachWrong)

/-- 'inglenooklaw4.SeqPieces': WHATEVER THE INPUT: true; the input reads as it did. -/
def seqPiecesSpec : ChangeSpec := { name := "seqPieces", fn := fun _ => fun
  | [d1, d2, d3] => { results := [.lit (.bool true)], args := [d1, d2, d3] }
  | _ => none }
def seqPiecesRow : OpenClaim := { program := "ytebanmigaikhhaa", sum := "3848bc1a65ad4b2dc2bd0e939813672361e74ad66ae12784536727f77ffb1a46", func := "inglenook/inglenooklaw4.SeqPieces", spec := "seqPieces", recurses := true, loops := true, apart := false }
def SeqPiecesSaid : Prop := seqPiecesRow.holds Try.pinned (OpenSpec.ofChange seqPiecesSpec)

/-- ITS FALSE NEIGHBOUR: 'it returns false'. Refute it at one input. -/
def seqPiecesWrong : ChangeSpec := { name := "seqPieces", fn := fun _ => fun
  | [d1, d2, d3] => { results := [.lit (.bool false)], args := [d1, d2, d3] }
  | _ => none }
def SeqPiecesWrongFalsely : Prop := seqPiecesRow.holds Try.pinned (OpenSpec.ofChange seqPiecesWrong)

/-- 'inglenooklaw4.SeqSays': WHATEVER THE INPUT: true; the input reads as it did. -/
def seqSaysSpec : ChangeSpec := { name := "seqSays", fn := fun _ => fun
  | [d1, d2, d3, d4, d5] => { results := [.lit (.bool true)], args := [d1, d2, d3, d4, d5] }
  | _ => none }
def seqSaysRow : OpenClaim := { program := "ytebanmigaikhhaa", sum := "3848bc1a65ad4b2dc2bd0e939813672361e74ad66ae12784536727f77ffb1a46", func := "inglenook/inglenooklaw4.SeqSays", spec := "seqSays", recurses := true, loops := true, apart := false }
def SeqSaysSaid : Prop := seqSaysRow.holds Try.pinned (OpenSpec.ofChange seqSaysSpec)

/-- ITS FALSE NEIGHBOUR: 'it returns false'. Refute it at one input. -/
def seqSaysWrong : ChangeSpec := { name := "seqSays", fn := fun _ => fun
  | [d1, d2, d3, d4, d5] => { results := [.lit (.bool false)], args := [d1, d2, d3, d4, d5] }
  | _ => none }
def SeqSaysWrongFalsely : Prop := seqSaysRow.holds Try.pinned (OpenSpec.ofChange seqSaysWrong)

/-- 'inglenooklaw4.SeqQuota': WHATEVER THE INPUT: true; the input reads as it did. -/
def seqQuotaSpec : ChangeSpec := { name := "seqQuota", fn := fun _ => fun
  | [d1, d2] => { results := [.lit (.bool true)], args := [d1, d2] }
  | _ => none }
def seqQuotaRow : OpenClaim := { program := "ytebanmigaikhhaa", sum := "3848bc1a65ad4b2dc2bd0e939813672361e74ad66ae12784536727f77ffb1a46", func := "inglenook/inglenooklaw4.SeqQuota", spec := "seqQuota", unfollowed := true, recurses := true, apart := false }
def SeqQuotaSaid : Prop := seqQuotaRow.holds Try.pinned (OpenSpec.ofChange seqQuotaSpec)

/-- ITS FALSE NEIGHBOUR: 'it returns false'. Refute it at one input. -/
def seqQuotaWrong : ChangeSpec := { name := "seqQuota", fn := fun _ => fun
  | [d1, d2] => { results := [.lit (.bool false)], args := [d1, d2] }
  | _ => none }
def SeqQuotaWrongFalsely : Prop := seqQuotaRow.holds Try.pinned (OpenSpec.ofChange seqQuotaWrong)

/-- 'inglenooklaw4.SeqSets': WHATEVER THE INPUT: true; the input reads as it did. -/
def seqSetsSpec : ChangeSpec := { name := "seqSets", fn := fun _ => fun
  | [d1, d2] => { results := [.lit (.bool true)], args := [d1, d2] }
  | _ => none }
def seqSetsRow : OpenClaim := { program := "ytebanmigaikhhaa", sum := "3848bc1a65ad4b2dc2bd0e939813672361e74ad66ae12784536727f77ffb1a46", func := "inglenook/inglenooklaw4.SeqSets", spec := "seqSets", inPlace := ["internal/bytealg.abigen_runtime_cmpstring"], unfollowed := true, recurses := true, loops := true, apart := false }
def SeqSetsSaid : Prop := seqSetsRow.holds Try.pinned (OpenSpec.ofChange seqSetsSpec)

/-- ITS FALSE NEIGHBOUR: 'it returns false'. Refute it at one input. -/
def seqSetsWrong : ChangeSpec := { name := "seqSets", fn := fun _ => fun
  | [d1, d2] => { results := [.lit (.bool false)], args := [d1, d2] }
  | _ => none }
def SeqSetsWrongFalsely : Prop := seqSetsRow.holds Try.pinned (OpenSpec.ofChange seqSetsWrong)

/- THE SECOND FORM. 'bulk': how many values and letters a reading holds, each counted each time it is reached (what is shared counts as often as it is met; a slice's spare places count too). A statement '..UptoSaid' is the law's where the arguments, and the package variables that the reading takes, are together of bulk at most 1048576: NARROWER than '..Said'. Prove '..Said' where nothing that the law and all that it calls make is longer than what came in: it says more and counts as full. Else prove '..UptoSaid'. A law counts once. -/
mutual
def uptoBulk {H : Type} : DataW H → Nat
  | .lit (.string bytes) => bytes.length + 1
  | .lit _ => 1
  | .nil => 1
  | .ptr d => uptoBulk d + 1
  | .slice elems spare => uptoBulkAll elems + uptoBulkAll spare + 1
  | .agg parts => uptoBulkAll parts + 1
  | .iface _ d => uptoBulk d + 1
  | .map entries => uptoBulkEntries entries + 1
  | .held _ => 1
def uptoBulkAll {H : Type} : List (DataW H) → Nat
  | [] => 0
  | d :: r => uptoBulk d + uptoBulkAll r
def uptoBulkEntries {H : Type} : List (Lit × DataW H) → Nat
  | [] => 0
  | x :: r => uptoBulkEntry x + uptoBulkEntries r
def uptoBulkEntry {H : Type} : Lit × DataW H → Nat
  | (.string bytes, d) => bytes.length + uptoBulk d + 1
  | (_, d) => uptoBulk d + 1
 end
def uptoSmall : (H : Type) → List (DataW H) → Bool := fun _ ds => decide (uptoBulkAll ds ≤ 1048576)
def OpenSpec.upto (s : _root_.Go.ChangeSpec) : _root_.Go.OpenSpec := { _root_.Go.OpenSpec.ofChange s with cond := some uptoSmall }

/-- 'inglenooklaw4.SeqEach', WHERE WHAT IT READS IS OF BULK AT MOST 1048576: true; the input reads as it did. -/
def seqEachUptoRow : OpenClaim := { program := "ytebanmigaikhhaa", sum := "3848bc1a65ad4b2dc2bd0e939813672361e74ad66ae12784536727f77ffb1a46", func := "inglenook/inglenooklaw4.SeqEach", spec := "seqEach", unfollowed := true, recurses := true, loops := true, apart := false, narrowed := true }
def SeqEachUptoSaid : Prop := seqEachUptoRow.holds Try.pinned (OpenSpec.upto seqEachSpec)

/-- 'inglenooklaw4.SeqPieces', WHERE WHAT IT READS IS OF BULK AT MOST 1048576: true; the input reads as it did. -/
def seqPiecesUptoRow : OpenClaim := { program := "ytebanmigaikhhaa", sum := "3848bc1a65ad4b2dc2bd0e939813672361e74ad66ae12784536727f77ffb1a46", func := "inglenook/inglenooklaw4.SeqPieces", spec := "seqPieces", recurses := true, loops := true, apart := false, narrowed := true }
def SeqPiecesUptoSaid : Prop := seqPiecesUptoRow.holds Try.pinned (OpenSpec.upto seqPiecesSpec)

/-- 'inglenooklaw4.SeqSays', WHERE WHAT IT READS IS OF BULK AT MOST 1048576: true; the input reads as it did. -/
def seqSaysUptoRow : OpenClaim := { program := "ytebanmigaikhhaa", sum := "3848bc1a65ad4b2dc2bd0e939813672361e74ad66ae12784536727f77ffb1a46", func := "inglenook/inglenooklaw4.SeqSays", spec := "seqSays", recurses := true, loops := true, apart := false, narrowed := true }
def SeqSaysUptoSaid : Prop := seqSaysUptoRow.holds Try.pinned (OpenSpec.upto seqSaysSpec)

/-- 'inglenooklaw4.SeqQuota', WHERE WHAT IT READS IS OF BULK AT MOST 1048576: true; the input reads as it did. -/
def seqQuotaUptoRow : OpenClaim := { program := "ytebanmigaikhhaa", sum := "3848bc1a65ad4b2dc2bd0e939813672361e74ad66ae12784536727f77ffb1a46", func := "inglenook/inglenooklaw4.SeqQuota", spec := "seqQuota", unfollowed := true, recurses := true, apart := false, narrowed := true }
def SeqQuotaUptoSaid : Prop := seqQuotaUptoRow.holds Try.pinned (OpenSpec.upto seqQuotaSpec)

/-- 'inglenooklaw4.SeqSets', WHERE WHAT IT READS IS OF BULK AT MOST 1048576: true; the input reads as it did. -/
def seqSetsUptoRow : OpenClaim := { program := "ytebanmigaikhhaa", sum := "3848bc1a65ad4b2dc2bd0e939813672361e74ad66ae12784536727f77ffb1a46", func := "inglenook/inglenooklaw4.SeqSets", spec := "seqSets", inPlace := ["internal/bytealg.abigen_runtime_cmpstring"], unfollowed := true, recurses := true, loops := true, apart := false, narrowed := true }
def SeqSetsUptoSaid : Prop := seqSetsUptoRow.holds Try.pinned (OpenSpec.upto seqSetsSpec)

end Rows
end Go.Proofs.Ytebanmigaikhhaa
