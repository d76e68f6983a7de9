/- A slice of what a queue of lines is told, that came in. -/
import Derived.Test.YtlfiljebfnejbaaDoorStructs
import Derived.Test.YtlfiljebfnejbaaDoorLineOut
namespace Go.Proofs.YtlfiljebfnejbaaDoor
open Go.ChangeShapes Go.WideShapes Go.ChangeAt Go.RowKit
theorem open_dos {H : Type} {enc : TypeId × Value → H} {W : World} {fuel : Nat} {cs : List Value} {y : DataW H × List MemPlace} (h : DataW.trod enc Tryd.prog W 0 (fun _ => true) true fuel 36 cs = some y) :
    ∃ (l : List DoE) (v : Value), cs = [v] ∧ Rk 3 doV (fun _ => True) W v l ∧ ∀ x ∈ l, -9223372036854775808 ≤ x.2.1 ∧ x.2.1 ≤ 9223372036854775807 :=
  open_structs doV (fun x => -9223372036854775808 ≤ x.2.1 ∧ x.2.1 ≤ 9223372036854775807) Tryd.underlying36 (by kernel_rfl) (by decide) (fun n us e htr hl => by
    obtain ⟨xs, m, rfl, rfl, hl2, hlen, hf⟩ := DataW.trod_struct Tryd.underlying41 htr
    match xs, hlen, us, hl with
    | [y0, y1, y2], _, [v0, v1, v2], _ =>
      have g0 : DataW.trod enc Tryd.prog W 0 (fun _ => true) true m 3 [v0] = some y0 := hf 0 _ rfl
      have g1 : DataW.trod enc Tryd.prog W 0 (fun _ => true) true m 3 [v1] = some y1 := hf 1 _ rfl
      have g2 : DataW.trod enc Tryd.prog W 0 (fun _ => true) true m 9 [v2] = some y2 := hf 2 _ rfl
      obtain ⟨k, e0, rfl, w0⟩ := DataW.trod_int Tryd.underlying3 g0
      obtain ⟨n, e1, rfl, w1⟩ := DataW.trod_int Tryd.underlying3 g1
      obtain ⟨s, e2, rfl, -⟩ := DataW.trod_string Tryd.underlying9 g2
      obtain rfl : v0 = Value.int .i64 k := (List.cons.inj (show [v0] = [Value.int .i64 k] from e0)).1
      obtain rfl : v1 = Value.int .i64 n := (List.cons.inj (show [v1] = [Value.int .i64 n] from e1)).1
      obtain rfl : v2 = Value.string s := (List.cons.inj (show [v2] = [Value.string s] from e2)).1
      exact ⟨(k, n, s), rfl, i64_of_wf w1⟩) h
end Go.Proofs.YtlfiljebfnejbaaDoor
