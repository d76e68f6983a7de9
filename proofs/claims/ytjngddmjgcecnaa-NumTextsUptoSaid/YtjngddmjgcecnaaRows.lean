/-
  NARROWER THAN 'FOR EVERY INPUT', by the rows' own cells (each row's printed sentence says how): NumOrders: loops · NumIns: loops · NumPuts: loops · NumPlaces: loops.
  DERIVED. THE GIVEN ROWS OF THIS SEAT. 5 by the template 'for every input the law returns true; each argument reads behind the call as it read before'; 0 by the template 'total and deterministic' (their statements: YtjngddmjgcecnaaTotals.lean).
  GIVEN WITH THE SEED: the statements are not yours to turn. If you find one false, say at which input.
  Laid BY PROGRAM, IN A SANDBOX (cutbox-rows.mjs): the forced cells as the released guide's own fill.sh prints them over the translation 3bff2cd0b02a58b9… (all of the seat's roots in one cut). By AI agents, Wed Nov 11 2026. No macro, syntax, notation, axiom, sorry.
-/
import Derived.Test.YtjngddmjgcecnaaChecked
import GoSem.Claim
import GoSem.ClaimJoined
import GoSem.ClaimMapViews
import Derived.JoinedTies
import Derived.KernelRfl
namespace Go.Proofs.Ytjngddmjgcecnaa
/- THE CELL 'sum', in the pinned program and in every row, IS THE sha256 OF THE DUMP (.gsa) THAT YtjngddmjgcecnaaProg.lean LOADS. Nothing in Lean hashes anything: it is a label: what it is worth is what the hold of that sum in a sandbox is worth. -/
noncomputable def Try.pinned : Pinned := { name := "ytjngddmjgcecnaa", sum := "3bff2cd0b02a58b9f9acfd01eab40f65e41d3719ca6ab1f380d4b047961f9223", checked := Try.checked }
namespace Rows
def none {H : Type} : Left H := { results := [], args := [] }

/-- 'inglenooklaw5.NumOrders': WHATEVER THE INPUT: true; the input reads as it did. -/
def numOrdersSpec : ChangeSpec := { name := "numOrders", fn := fun _ => fun
  | [d1, d2] => { results := [.lit (.bool true)], args := [d1, d2] }
  | _ => none }
def numOrdersRow : OpenClaim := { program := "ytjngddmjgcecnaa", sum := "3bff2cd0b02a58b9f9acfd01eab40f65e41d3719ca6ab1f380d4b047961f9223", func := "inglenook/inglenooklaw5.NumOrders", spec := "numOrders", inPlace := ["internal/bytealg.abigen_runtime_cmpstring"], unfollowed := true, recurses := true, loops := true, apart := false }
def NumOrdersSaid : Prop := numOrdersRow.holds Try.pinned (OpenSpec.ofChange numOrdersSpec)

/-- ITS FALSE NEIGHBOUR: 'it returns false'. Refute it at one input. -/
def numOrdersWrong : ChangeSpec := { name := "numOrders", fn := fun _ => fun
  | [d1, d2] => { results := [.lit (.bool false)], args := [d1, d2] }
  | _ => none }
def NumOrdersWrongFalsely : Prop := numOrdersRow.holds Try.pinned (OpenSpec.ofChange numOrdersWrong)

/-- 'inglenooklaw5.NumIns': WHATEVER THE INPUT: true; the input reads as it did. -/
def numInsSpec : ChangeSpec := { name := "numIns", fn := fun _ => fun
  | [d1, d2] => { results := [.lit (.bool true)], args := [d1, d2] }
  | _ => none }
def numInsRow : OpenClaim := { program := "ytjngddmjgcecnaa", sum := "3bff2cd0b02a58b9f9acfd01eab40f65e41d3719ca6ab1f380d4b047961f9223", func := "inglenook/inglenooklaw5.NumIns", spec := "numIns", inPlace := ["internal/bytealg.abigen_runtime_cmpstring"], unfollowed := true, recurses := true, loops := true, apart := false }
def NumInsSaid : Prop := numInsRow.holds Try.pinned (OpenSpec.ofChange numInsSpec)

/-- ITS FALSE NEIGHBOUR: 'it returns false'. Refute it at one input. -/
def numInsWrong : ChangeSpec := { name := "numIns", fn := fun _ => fun
  | [d1, d2] => { results := [.lit (.bool false)], args := [d1, d2] }
  | _ => none }
def NumInsWrongFalsely : Prop := numInsRow.holds Try.pinned (OpenSpec.ofChange numInsWrong)

/-- 'inglenooklaw5.NumPuts': WHATEVER THE INPUT: true; the input reads as it did. -/
def numPutsSpec : ChangeSpec := { name := "numPuts", fn := fun _ => fun
  | [d1, d2, d3, d4] => { results := [.lit (.bool true)], args := [d1, d2, d3, d4] }
  | _ => none }
def numPutsRow : OpenClaim := { program := "ytjngddmjgcecnaa", sum := "3bff2cd0b02a58b9f9acfd01eab40f65e41d3719ca6ab1f380d4b047961f9223", func := "inglenook/inglenooklaw5.NumPuts", spec := "numPuts", inPlace := ["internal/bytealg.abigen_runtime_cmpstring"], unfollowed := true, recurses := true, loops := true, apart := false }
def NumPutsSaid : Prop := numPutsRow.holds Try.pinned (OpenSpec.ofChange numPutsSpec)

/-- ITS FALSE NEIGHBOUR: 'it returns false'. Refute it at one input. -/
def numPutsWrong : ChangeSpec := { name := "numPuts", fn := fun _ => fun
  | [d1, d2, d3, d4] => { results := [.lit (.bool false)], args := [d1, d2, d3, d4] }
  | _ => none }
def NumPutsWrongFalsely : Prop := numPutsRow.holds Try.pinned (OpenSpec.ofChange numPutsWrong)

/-- 'inglenooklaw5.NumPlaces': WHATEVER THE INPUT: true; the input reads as it did. -/
def numPlacesSpec : ChangeSpec := { name := "numPlaces", fn := fun _ => fun
  | [d1, d2, d3, d4] => { results := [.lit (.bool true)], args := [d1, d2, d3, d4] }
  | _ => none }
def numPlacesRow : OpenClaim := { program := "ytjngddmjgcecnaa", sum := "3bff2cd0b02a58b9f9acfd01eab40f65e41d3719ca6ab1f380d4b047961f9223", func := "inglenook/inglenooklaw5.NumPlaces", spec := "numPlaces", inPlace := ["internal/bytealg.abigen_runtime_cmpstring"], unfollowed := true, recurses := true, loops := true, apart := false }
def NumPlacesSaid : Prop := numPlacesRow.holds Try.pinned (OpenSpec.ofChange numPlacesSpec)

/-- ITS FALSE NEIGHBOUR: 'it returns false'. Refute it at one input. -/
def numPlacesWrong : ChangeSpec := { name := "numPlaces", fn := fun _ => fun
  | [d1, d2, d3, d4] => { results := [.lit (.bool false)], args := [d1, d2, d3, d4] }
  | _ => none }
def NumPlacesWrongFalsely : Prop := numPlacesRow.holds Try.pinned (OpenSpec.ofChange numPlacesWrong)

/-- 'inglenooklaw5.NumTexts': WHATEVER THE INPUT: true; the input reads as it did. -/
def numTextsSpec : ChangeSpec := { name := "numTexts", fn := fun _ => fun
  | [d1, d2, d3] => { results := [.lit (.bool true)], args := [d1, d2, d3] }
  | _ => none }
def numTextsRow : OpenClaim := { program := "ytjngddmjgcecnaa", sum := "3bff2cd0b02a58b9f9acfd01eab40f65e41d3719ca6ab1f380d4b047961f9223", func := "inglenook/inglenooklaw5.NumTexts", spec := "numTexts", inPlace := ["internal/bytealg.abigen_runtime_cmpstring"], unfollowed := true, recurses := true, apart := false }
def NumTextsSaid : Prop := numTextsRow.holds Try.pinned (OpenSpec.ofChange numTextsSpec)

/-- ITS FALSE NEIGHBOUR: 'it returns false'. Refute it at one input. -/
def numTextsWrong : ChangeSpec := { name := "numTexts", fn := fun _ => fun
  | [d1, d2, d3] => { results := [.lit (.bool false)], args := [d1, d2, d3] }
  | _ => none }
def NumTextsWrongFalsely : Prop := numTextsRow.holds Try.pinned (OpenSpec.ofChange numTextsWrong)

/- THE SECOND FORM. 'bulk': how many values and letters a reading holds, each counted each time it is reached (what is shared counts as often as it is met; a slice's spare places count too). A statement '..UptoSaid' is the law's where the arguments, and the package variables that the reading takes, are together of bulk at most 1048576: NARROWER than '..Said'. Prove '..Said' where nothing that the law and all that it calls make is longer than what came in: it says more and counts as full. Else prove '..UptoSaid'. A law counts once. -/
mutual
def uptoBulk {H : Type} : DataW H → Nat
  | .lit (.string bytes) => bytes.length + 1
  | .lit _ => 1
  | .nil => 1
  | .ptr d => uptoBulk d + 1
  | .slice elems spare => uptoBulkAll elems + uptoBulkAll spare + 1
  | .agg parts => uptoBulkAll parts + 1
  | .iface _ d => uptoBulk d + 1
  | .map entries => uptoBulkEntries entries + 1
  | .held _ => 1
def uptoBulkAll {H : Type} : List (DataW H) → Nat
  | [] => 0
  | d :: r => uptoBulk d + uptoBulkAll r
def uptoBulkEntries {H : Type} : List (Lit × DataW H) → Nat
  | [] => 0
  | x :: r => uptoBulkEntry x + uptoBulkEntries r
def uptoBulkEntry {H : Type} : Lit × DataW H → Nat
  | (.string bytes, d) => bytes.length + uptoBulk d + 1
  | (_, d) => uptoBulk d + 1
 end
def uptoSmall : (H : Type) → List (DataW H) → Bool := fun _ ds => decide (uptoBulkAll ds ≤ 1048576)
def OpenSpec.upto (s : _root_.Go.ChangeSpec) : _root_.Go.OpenSpec := { _root_.Go.OpenSpec.ofChange s with cond := some uptoSmall }

/-- 'inglenooklaw5.NumOrders', WHERE WHAT IT READS IS OF BULK AT MOST 1048576: true; the input reads as it did. -/
def numOrdersUptoRow : OpenClaim := { program := "ytjngddmjgcecnaa", sum := "3bff2cd0b02a58b9f9acfd01eab40f65e41d3719ca6ab1f380d4b047961f9223", func := "inglenook/inglenooklaw5.NumOrders", spec := "numOrders", inPlace := ["internal/bytealg.abigen_runtime_cmpstring"], unfollowed := true, recurses := true, loops := true, apart := false, narrowed := true }
def NumOrdersUptoSaid : Prop := numOrdersUptoRow.holds Try.pinned (OpenSpec.upto numOrdersSpec)

/-- 'inglenooklaw5.NumIns', WHERE WHAT IT READS IS OF BULK AT MOST 1048576: true; the input reads as it did. -/
def numInsUptoRow : OpenClaim := { program := "ytjngddmjgcecnaa", sum := "3bff2cd0b02a58b9f9acfd01eab40f65e41d3719ca6ab1f380d4b047961f9223", func := "inglenook/inglenooklaw5.NumIns", spec := "numIns", inPlace := ["internal/bytealg.abigen_runtime_cmpstring"], unfollowed := true, recurses := true, loops := true, apart := false, narrowed := true }
def NumInsUptoSaid : Prop := numInsUptoRow.holds Try.pinned (OpenSpec.upto numInsSpec)

/-- 'inglenooklaw5.NumPuts', WHERE WHAT IT READS IS OF BULK AT MOST 1048576: true; the input reads as it did. -/
def numPutsUptoRow : OpenClaim := { program := "ytjngddmjgcecnaa", sum := "3bff2cd0b02a58b9f9acfd01eab40f65e41d3719ca6ab1f380d4b047961f9223", func := "inglenook/inglenooklaw5.NumPuts", spec := "numPuts", inPlace := ["internal/bytealg.abigen_runtime_cmpstring"], unfollowed := true, recurses := true, loops := true, apart := false, narrowed := true }
def NumPutsUptoSaid : Prop := numPutsUptoRow.holds Try.pinned (OpenSpec.upto numPutsSpec)

/-- 'inglenooklaw5.NumPlaces', WHERE WHAT IT READS IS OF BULK AT MOST 1048576: true; the input reads as it did. -/
def numPlacesUptoRow : OpenClaim := { program := "ytjngddmjgcecnaa", sum := "3bff2cd0b02a58b9f9acfd01eab40f65e41d3719ca6ab1f380d4b047961f9223", func := "inglenook/inglenooklaw5.NumPlaces", spec := "numPlaces", inPlace := ["internal/bytealg.abigen_runtime_cmpstring"], unfollowed := true, recurses := true, loops := true, apart := false, narrowed := true }
def NumPlacesUptoSaid : Prop := numPlacesUptoRow.holds Try.pinned (OpenSpec.upto numPlacesSpec)

/-- 'inglenooklaw5.NumTexts', WHERE WHAT IT READS IS OF BULK AT MOST 1048576: true; the input reads as it did. -/
def numTextsUptoRow : OpenClaim := { program := "ytjngddmjgcecnaa", sum := "3bff2cd0b02a58b9f9acfd01eab40f65e41d3719ca6ab1f380d4b047961f9223", func := "inglenook/inglenooklaw5.NumTexts", spec := "numTexts", inPlace := ["internal/bytealg.abigen_runtime_cmpstring"], unfollowed := true, recurses := true, apart := false, narrowed := true }
def NumTextsUptoSaid : Prop := numTextsUptoRow.holds Try.pinned (OpenSpec.upto numTextsSpec)

end Rows
end Go.Proofs.Ytjngddmjgcecnaa
