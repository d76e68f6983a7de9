/-
  No cell of these rows narrows 'for every input' (looked for: loops, veiled, ifaces, maps, wideKeys, modest, calm, conditions, laid).
  DERIVED. THE GIVEN ROWS OF THIS SEAT. 2 by the template 'for every input the law returns true; each argument reads behind the call as it read before'; 0 by the template 'total and deterministic' (their statements: YtlfiljebfnejbaaTotals.lean).
  GIVEN WITH THE SEED: the statements are not yours to turn. If you find one false, say at which input.
  Laid BY PROGRAM, IN A SANDBOX (cutbox-rows.mjs): the forced cells as the released guide's own fill.sh prints them over the translation 07efc222ab2f74de… (all of the seat's roots in one cut). By AI agents, Wed Nov 11 2026. No macro, syntax, notation, axiom, sorry.
-/
import Derived.Test.YtlfiljebfnejbaaChecked
import GoSem.Claim
import GoSem.ClaimJoined
import GoSem.ClaimMapViews
import Derived.JoinedTies
import Derived.KernelRfl
namespace Go.Proofs.Ytlfiljebfnejbaa
/- THE CELL 'sum', in the pinned program and in every row, IS THE sha256 OF THE DUMP (.gsa) THAT YtlfiljebfnejbaaProg.lean LOADS. Nothing in Lean hashes anything: it is a label: what it is worth is what the hold of that sum in a sandbox is worth. -/
noncomputable def Try.pinned : Pinned := { name := "ytlfiljebfnejbaa", sum := "07efc222ab2f74deff1d5141bf3dd01a0bc7844011f59b2d3a63599b2c6cd8dc", checked := Try.checked }
namespace Rows
def none {H : Type} : Left H := { results := [], args := [] }

/-- 'inglenooklaw25.LineIn': WHATEVER THE INPUT: true; the input reads as it did. -/
def lineInSpec : ChangeSpec := { name := "lineIn", fn := fun _ => fun
  | [d1, d2] => { results := [.lit (.bool true)], args := [d1, d2] }
  | _ => none }
def lineInRow : OpenClaim := { program := "ytlfiljebfnejbaa", sum := "07efc222ab2f74deff1d5141bf3dd01a0bc7844011f59b2d3a63599b2c6cd8dc", func := "inglenook/inglenooklaw25.LineIn", spec := "lineIn", apart := false }
def LineInSaid : Prop := lineInRow.holds Try.pinned (OpenSpec.ofChange lineInSpec)

/-- ITS FALSE NEIGHBOUR: 'it returns false'. Refute it at one input. -/
def lineInWrong : ChangeSpec := { name := "lineIn", fn := fun _ => fun
  | [d1, d2] => { results := [.lit (.bool false)], args := [d1, d2] }
  | _ => none }
def LineInWrongFalsely : Prop := lineInRow.holds Try.pinned (OpenSpec.ofChange lineInWrong)

/-- 'inglenooklaw25.LinePieces': WHATEVER THE INPUT: true; the input reads as it did. -/
def linePiecesSpec : ChangeSpec := { name := "linePieces", fn := fun _ => fun
  | [d1, d2, d3] => { results := [.lit (.bool true)], args := [d1, d2, d3] }
  | _ => none }
def linePiecesRow : OpenClaim := { program := "ytlfiljebfnejbaa", sum := "07efc222ab2f74deff1d5141bf3dd01a0bc7844011f59b2d3a63599b2c6cd8dc", func := "inglenook/inglenooklaw25.LinePieces", spec := "linePieces", apart := false }
def LinePiecesSaid : Prop := linePiecesRow.holds Try.pinned (OpenSpec.ofChange linePiecesSpec)

/-- ITS FALSE NEIGHBOUR: 'it returns false'. Refute it at one input. -/
def linePiecesWrong : ChangeSpec := { name := "linePieces", fn := fun _ => fun
  | [d1, d2, d3] => { results := [.lit (.bool false)], args := [d1, d2, d3] }
  | _ => none }
def LinePiecesWrongFalsely : Prop := linePiecesRow.holds Try.pinned (OpenSpec.ofChange linePiecesWrong)

/- THE SECOND FORM. 'bulk': how many values and letters a reading holds, each counted each time it is reached (what is shared counts as often as it is met; a slice's spare places count too). A statement '..UptoSaid' is the law's where the arguments, and the package variables that the reading takes, are together of bulk at most 1048576: NARROWER than '..Said'. Prove '..Said' where nothing that the law and all that it calls make is longer than what came in: it says more and counts as full. Else prove '..UptoSaid'. A law counts once. -/
mutual
def uptoBulk {H : Type} : DataW H → Nat
  | .lit (.string bytes) => bytes.length + 1
  | .lit _ => 1
  | .nil => 1
  | .ptr d => uptoBulk d + 1
  | .slice elems spare => uptoBulkAll elems + uptoBulkAll spare + 1
  | .agg parts => uptoBulkAll parts + 1
  | .iface _ d => uptoBulk d + 1
  | .map entries => uptoBulkEntries entries + 1
  | .held _ => 1
def uptoBulkAll {H : Type} : List (DataW H) → Nat
  | [] => 0
  | d :: r => uptoBulk d + uptoBulkAll r
def uptoBulkEntries {H : Type} : List (Lit × DataW H) → Nat
  | [] => 0
  | x :: r => uptoBulkEntry x + uptoBulkEntries r
def uptoBulkEntry {H : Type} : Lit × DataW H → Nat
  | (.string bytes, d) => bytes.length + uptoBulk d + 1
  | (_, d) => uptoBulk d + 1
 end
def uptoSmall : (H : Type) → List (DataW H) → Bool := fun _ ds => decide (uptoBulkAll ds ≤ 1048576)
def OpenSpec.upto (s : _root_.Go.ChangeSpec) : _root_.Go.OpenSpec := { _root_.Go.OpenSpec.ofChange s with cond := some uptoSmall }

/-- 'inglenooklaw25.LineIn', WHERE WHAT IT READS IS OF BULK AT MOST 1048576: true; the input reads as it did. -/
def lineInUptoRow : OpenClaim := { program := "ytlfiljebfnejbaa", sum := "07efc222ab2f74deff1d5141bf3dd01a0bc7844011f59b2d3a63599b2c6cd8dc", func := "inglenook/inglenooklaw25.LineIn", spec := "lineIn", apart := false, narrowed := true }
def LineInUptoSaid : Prop := lineInUptoRow.holds Try.pinned (OpenSpec.upto lineInSpec)

/-- 'inglenooklaw25.LinePieces', WHERE WHAT IT READS IS OF BULK AT MOST 1048576: true; the input reads as it did. -/
def linePiecesUptoRow : OpenClaim := { program := "ytlfiljebfnejbaa", sum := "07efc222ab2f74deff1d5141bf3dd01a0bc7844011f59b2d3a63599b2c6cd8dc", func := "inglenook/inglenooklaw25.LinePieces", spec := "linePieces", apart := false, narrowed := true }
def LinePiecesUptoSaid : Prop := linePiecesUptoRow.holds Try.pinned (OpenSpec.upto linePiecesSpec)

end Rows
end Go.Proofs.Ytlfiljebfnejbaa
