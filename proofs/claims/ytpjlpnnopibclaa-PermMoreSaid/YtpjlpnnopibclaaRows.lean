/-
  NARROWER THAN 'FOR EVERY INPUT', by the rows' own cells (each row's printed sentence says how): PermSays: loops · PermMore: loops.
  DERIVED. THE GIVEN ROWS OF THIS SEAT. 5 by the template 'for every input the law returns true; each argument reads behind the call as it read before'; 0 by the template 'total and deterministic' (their statements: YtpjlpnnopibclaaTotals.lean).
  GIVEN WITH THE SEED: the statements are not yours to turn. If you find one false, say at which input.
  Laid BY PROGRAM, IN A SANDBOX (cutbox-rows.mjs): the forced cells as the released guide's own fill.sh prints them over the translation 78e20d4667afc628… (all of the seat's roots in one cut). By AI agents, Wed Nov 11 2026. No macro, syntax, notation, axiom, sorry.
-/
import Derived.Test.YtpjlpnnopibclaaChecked
import GoSem.Claim
import GoSem.ClaimJoined
import GoSem.ClaimMapViews
import Derived.JoinedTies
import Derived.KernelRfl
namespace Go.Proofs.Ytpjlpnnopibclaa
/- THE CELL 'sum', in the pinned program and in every row, IS THE sha256 OF THE DUMP (.gsa) THAT YtpjlpnnopibclaaProg.lean LOADS. Nothing in Lean hashes anything: it is a label: what it is worth is what the hold of that sum in a sandbox is worth. -/
noncomputable def Try.pinned : Pinned := { name := "ytpjlpnnopibclaa", sum := "78e20d4667afc62809c5d13c99aa3cb04c0a711860901ba255f142e534fd07bd", checked := Try.checked }
namespace Rows
def none {H : Type} : Left H := { results := [], args := [] }

/-- 'inglenooklaw11.PermBits': WHATEVER THE INPUT: true; the input reads as it did. -/
def permBitsSpec : ChangeSpec := { name := "permBits", fn := fun _ => fun
  | [d1, d2, d3] => { results := [.lit (.bool true)], args := [d1, d2, d3] }
  | _ => none }
def permBitsRow : OpenClaim := { program := "ytpjlpnnopibclaa", sum := "78e20d4667afc62809c5d13c99aa3cb04c0a711860901ba255f142e534fd07bd", func := "inglenook/inglenooklaw11.PermBits", spec := "permBits", apart := false }
def PermBitsSaid : Prop := permBitsRow.holds Try.pinned (OpenSpec.ofChange permBitsSpec)

/-- ITS FALSE NEIGHBOUR: 'it returns false'. Refute it at one input. -/
def permBitsWrong : ChangeSpec := { name := "permBits", fn := fun _ => fun
  | [d1, d2, d3] => { results := [.lit (.bool false)], args := [d1, d2, d3] }
  | _ => none }
def PermBitsWrongFalsely : Prop := permBitsRow.holds Try.pinned (OpenSpec.ofChange permBitsWrong)

/-- 'inglenooklaw11.PermSays': WHATEVER THE INPUT: true; the input reads as it did. -/
def permSaysSpec : ChangeSpec := { name := "permSays", fn := fun _ => fun
  | [d1, d2, d3, d4, d5, d6] => { results := [.lit (.bool true)], args := [d1, d2, d3, d4, d5, d6] }
  | _ => none }
def permSaysRow : OpenClaim := { program := "ytpjlpnnopibclaa", sum := "78e20d4667afc62809c5d13c99aa3cb04c0a711860901ba255f142e534fd07bd", func := "inglenook/inglenooklaw11.PermSays", spec := "permSays", loops := true, apart := false }
def PermSaysSaid : Prop := permSaysRow.holds Try.pinned (OpenSpec.ofChange permSaysSpec)

/-- ITS FALSE NEIGHBOUR: 'it returns false'. Refute it at one input. -/
def permSaysWrong : ChangeSpec := { name := "permSays", fn := fun _ => fun
  | [d1, d2, d3, d4, d5, d6] => { results := [.lit (.bool false)], args := [d1, d2, d3, d4, d5, d6] }
  | _ => none }
def PermSaysWrongFalsely : Prop := permSaysRow.holds Try.pinned (OpenSpec.ofChange permSaysWrong)

/-- 'inglenooklaw11.PermMore': WHATEVER THE INPUT: true; the input reads as it did. -/
def permMoreSpec : ChangeSpec := { name := "permMore", fn := fun _ => fun
  | [d1, d2, d3, d4, d5, d6, d7] => { results := [.lit (.bool true)], args := [d1, d2, d3, d4, d5, d6, d7] }
  | _ => none }
def permMoreRow : OpenClaim := { program := "ytpjlpnnopibclaa", sum := "78e20d4667afc62809c5d13c99aa3cb04c0a711860901ba255f142e534fd07bd", func := "inglenook/inglenooklaw11.PermMore", spec := "permMore", loops := true, apart := false }
def PermMoreSaid : Prop := permMoreRow.holds Try.pinned (OpenSpec.ofChange permMoreSpec)

/-- ITS FALSE NEIGHBOUR: 'it returns false'. Refute it at one input. -/
def permMoreWrong : ChangeSpec := { name := "permMore", fn := fun _ => fun
  | [d1, d2, d3, d4, d5, d6, d7] => { results := [.lit (.bool false)], args := [d1, d2, d3, d4, d5, d6, d7] }
  | _ => none }
def PermMoreWrongFalsely : Prop := permMoreRow.holds Try.pinned (OpenSpec.ofChange permMoreWrong)

/-- 'inglenooklaw11.PermNone': WHATEVER THE INPUT: true; the input reads as it did. -/
def permNoneSpec : ChangeSpec := { name := "permNone", fn := fun _ => fun
  | [d1, d2, d3, d4] => { results := [.lit (.bool true)], args := [d1, d2, d3, d4] }
  | _ => none }
def permNoneRow : OpenClaim := { program := "ytpjlpnnopibclaa", sum := "78e20d4667afc62809c5d13c99aa3cb04c0a711860901ba255f142e534fd07bd", func := "inglenook/inglenooklaw11.PermNone", spec := "permNone", apart := false }
def PermNoneSaid : Prop := permNoneRow.holds Try.pinned (OpenSpec.ofChange permNoneSpec)

/-- ITS FALSE NEIGHBOUR: 'it returns false'. Refute it at one input. -/
def permNoneWrong : ChangeSpec := { name := "permNone", fn := fun _ => fun
  | [d1, d2, d3, d4] => { results := [.lit (.bool false)], args := [d1, d2, d3, d4] }
  | _ => none }
def PermNoneWrongFalsely : Prop := permNoneRow.holds Try.pinned (OpenSpec.ofChange permNoneWrong)

/-- 'inglenooklaw11.PermOwns': WHATEVER THE INPUT: true; the input reads as it did. -/
def permOwnsSpec : ChangeSpec := { name := "permOwns", fn := fun _ => fun
  | [d1, d2, d3] => { results := [.lit (.bool true)], args := [d1, d2, d3] }
  | _ => none }
def permOwnsRow : OpenClaim := { program := "ytpjlpnnopibclaa", sum := "78e20d4667afc62809c5d13c99aa3cb04c0a711860901ba255f142e534fd07bd", func := "inglenook/inglenooklaw11.PermOwns", spec := "permOwns", apart := false }
def PermOwnsSaid : Prop := permOwnsRow.holds Try.pinned (OpenSpec.ofChange permOwnsSpec)

/-- ITS FALSE NEIGHBOUR: 'it returns false'. Refute it at one input. -/
def permOwnsWrong : ChangeSpec := { name := "permOwns", fn := fun _ => fun
  | [d1, d2, d3] => { results := [.lit (.bool false)], args := [d1, d2, d3] }
  | _ => none }
def PermOwnsWrongFalsely : Prop := permOwnsRow.holds Try.pinned (OpenSpec.ofChange permOwnsWrong)

/- THE SECOND FORM. 'bulk': how many values and letters a reading holds, each counted each time it is reached (what is shared counts as often as it is met; a slice's spare places count too). A statement '..UptoSaid' is the law's where the arguments, and the package variables that the reading takes, are together of bulk at most 1048576: NARROWER than '..Said'. Prove '..Said' where nothing that the law and all that it calls make is longer than what came in: it says more and counts as full. Else prove '..UptoSaid'. A law counts once. -/
mutual
def uptoBulk {H : Type} : DataW H → Nat
  | .lit (.string bytes) => bytes.length + 1
  | .lit _ => 1
  | .nil => 1
  | .ptr d => uptoBulk d + 1
  | .slice elems spare => uptoBulkAll elems + uptoBulkAll spare + 1
  | .agg parts => uptoBulkAll parts + 1
  | .iface _ d => uptoBulk d + 1
  | .map entries => uptoBulkEntries entries + 1
  | .held _ => 1
def uptoBulkAll {H : Type} : List (DataW H) → Nat
  | [] => 0
  | d :: r => uptoBulk d + uptoBulkAll r
def uptoBulkEntries {H : Type} : List (Lit × DataW H) → Nat
  | [] => 0
  | x :: r => uptoBulkEntry x + uptoBulkEntries r
def uptoBulkEntry {H : Type} : Lit × DataW H → Nat
  | (.string bytes, d) => bytes.length + uptoBulk d + 1
  | (_, d) => uptoBulk d + 1
 end
def uptoSmall : (H : Type) → List (DataW H) → Bool := fun _ ds => decide (uptoBulkAll ds ≤ 1048576)
def OpenSpec.upto (s : _root_.Go.ChangeSpec) : _root_.Go.OpenSpec := { _root_.Go.OpenSpec.ofChange s with cond := some uptoSmall }

/-- 'inglenooklaw11.PermBits', WHERE WHAT IT READS IS OF BULK AT MOST 1048576: true; the input reads as it did. -/
def permBitsUptoRow : OpenClaim := { program := "ytpjlpnnopibclaa", sum := "78e20d4667afc62809c5d13c99aa3cb04c0a711860901ba255f142e534fd07bd", func := "inglenook/inglenooklaw11.PermBits", spec := "permBits", apart := false, narrowed := true }
def PermBitsUptoSaid : Prop := permBitsUptoRow.holds Try.pinned (OpenSpec.upto permBitsSpec)

/-- 'inglenooklaw11.PermSays', WHERE WHAT IT READS IS OF BULK AT MOST 1048576: true; the input reads as it did. -/
def permSaysUptoRow : OpenClaim := { program := "ytpjlpnnopibclaa", sum := "78e20d4667afc62809c5d13c99aa3cb04c0a711860901ba255f142e534fd07bd", func := "inglenook/inglenooklaw11.PermSays", spec := "permSays", loops := true, apart := false, narrowed := true }
def PermSaysUptoSaid : Prop := permSaysUptoRow.holds Try.pinned (OpenSpec.upto permSaysSpec)

/-- 'inglenooklaw11.PermMore', WHERE WHAT IT READS IS OF BULK AT MOST 1048576: true; the input reads as it did. -/
def permMoreUptoRow : OpenClaim := { program := "ytpjlpnnopibclaa", sum := "78e20d4667afc62809c5d13c99aa3cb04c0a711860901ba255f142e534fd07bd", func := "inglenook/inglenooklaw11.PermMore", spec := "permMore", loops := true, apart := false, narrowed := true }
def PermMoreUptoSaid : Prop := permMoreUptoRow.holds Try.pinned (OpenSpec.upto permMoreSpec)

/-- 'inglenooklaw11.PermNone', WHERE WHAT IT READS IS OF BULK AT MOST 1048576: true; the input reads as it did. -/
def permNoneUptoRow : OpenClaim := { program := "ytpjlpnnopibclaa", sum := "78e20d4667afc62809c5d13c99aa3cb04c0a711860901ba255f142e534fd07bd", func := "inglenook/inglenooklaw11.PermNone", spec := "permNone", apart := false, narrowed := true }
def PermNoneUptoSaid : Prop := permNoneUptoRow.holds Try.pinned (OpenSpec.upto permNoneSpec)

/-- 'inglenooklaw11.PermOwns', WHERE WHAT IT READS IS OF BULK AT MOST 1048576: true; the input reads as it did. -/
def permOwnsUptoRow : OpenClaim := { program := "ytpjlpnnopibclaa", sum := "78e20d4667afc62809c5d13c99aa3cb04c0a711860901ba255f142e534fd07bd", func := "inglenook/inglenooklaw11.PermOwns", spec := "permOwns", apart := false, narrowed := true }
def PermOwnsUptoSaid : Prop := permOwnsUptoRow.holds Try.pinned (OpenSpec.upto permOwnsSpec)

end Rows
end Go.Proofs.Ytpjlpnnopibclaa
