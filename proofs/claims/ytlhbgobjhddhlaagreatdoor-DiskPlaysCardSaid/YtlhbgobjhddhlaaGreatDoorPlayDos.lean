/- A slice of what a disk is told, that came in. -/
import Derived.Test.YtlhbgobjhddhlaaGreatDoorStructs
import Derived.Test.YtlhbgobjhddhlaaGreatDoorPlayC
namespace Go.Proofs.YtlhbgobjhddhlaaGreatDoor
open Go.ChangeShapes Go.WideShapes Go.ChangeAt Go.RowKit
theorem Is.below3 {w : World} {v : Value} {l : List Int} (h : Is (fun _ => True) w v l) : Is (fun k => k < w.heap.size) w v l := by
  obtain ⟨a, c, rfl, h1, h2, h3⟩ := h
  refine ⟨a, c, rfl, h1, h2, fun k hk => ?_⟩
  obtain ⟨b, o, u, e, -, hc, hu⟩ := h3 k hk
  exact ⟨b, o, u, e, World.block_lt_of_cell? _ _ hc, hc, hu⟩
theorem slice_cell {H : Type} {enc : TypeId × Value → H} {P : Program} {W : World} {fuel : Nat} {t q : TypeId} {v : Value} {y : DataW H × List MemPlace} (ht : P.underlying t = some (.slice q)) (h : DataW.trod enc P W 0 (fun _ => true) true fuel t [v] = some y) : ∃ a n c, v = .slice a n c := by
  rcases DataW.trod_slice ht h with ⟨e, -⟩ | ⟨a, n, c, -, -, -, -, e, -⟩
  · exact ⟨none, 0, 0, (List.cons.inj e).1⟩
  · exact ⟨some a, n, c, (List.cons.inj e).1⟩
set_option maxRecDepth 100000 in
theorem open_dos {H : Type} {enc : TypeId × Value → H} {W : World} {fuel : Nat} {cs : List Value} {y : DataW H × List MemPlace} (h : DataW.trod enc Tryz.prog W 0 (fun _ => true) true fuel 22 cs = some y) :
    ∃ (l : List DoT) (v : Value), cs = [v] ∧ Rk 7 doV (fun _ => True) W v l ∧ ∀ x ∈ l, DoOk W x :=
  open_structs doV (DoOk W) Tryz.underlying22 (by kernel_rfl) (by decide) (fun n us e htr hl => by
    obtain ⟨xs, m, rfl, rfl, hl2, hlen, hf⟩ := DataW.trod_struct Tryz.underlying35 htr
    match xs, hlen, us, hl with
    | [y0, y1, y2, y3, y4, (d5, p5), (d6, p6)], _, [v0, v1, v2, v3, v4, v5, v6], _ =>
      have g0 : DataW.trod enc Tryz.prog W 0 (fun _ => true) true m 3 [v0] = some y0 := hf 0 _ rfl
      have g1 : DataW.trod enc Tryz.prog W 0 (fun _ => true) true m 3 [v1] = some y1 := hf 1 _ rfl
      have g2 : DataW.trod enc Tryz.prog W 0 (fun _ => true) true m 3 [v2] = some y2 := hf 2 _ rfl
      have g3 : DataW.trod enc Tryz.prog W 0 (fun _ => true) true m 9 [v3] = some y3 := hf 3 _ rfl
      have g4 : DataW.trod enc Tryz.prog W 0 (fun _ => true) true m 9 [v4] = some y4 := hf 4 _ rfl
      have g5 : DataW.trod enc Tryz.prog W 0 (fun _ => true) true m 32 [v5] = some (d5, p5) := hf 5 _ rfl
      have g6 : DataW.trod enc Tryz.prog W 0 (fun _ => true) true m 33 [v6] = some (d6, p6) := hf 6 _ rfl
      obtain ⟨k0, e0, rfl, w0⟩ := DataW.trod_int Tryz.underlying3 g0
      obtain ⟨k1, e1, rfl, w1⟩ := DataW.trod_int Tryz.underlying3 g1
      obtain ⟨k2, e2, rfl, w2⟩ := DataW.trod_int Tryz.underlying3 g2
      obtain ⟨s3, e3, rfl, -⟩ := DataW.trod_string Tryz.underlying9 g3
      obtain ⟨s4, e4, rfl, -⟩ := DataW.trod_string Tryz.underlying9 g4
      obtain rfl : v0 = Value.int .i64 k0 := (List.cons.inj (show [v0] = [Value.int .i64 k0] from e0)).1
      obtain rfl : v1 = Value.int .i64 k1 := (List.cons.inj (show [v1] = [Value.int .i64 k1] from e1)).1
      obtain rfl : v2 = Value.int .i64 k2 := (List.cons.inj (show [v2] = [Value.int .i64 k2] from e2)).1
      obtain rfl : v3 = Value.string s3 := (List.cons.inj (show [v3] = [Value.string s3] from e3)).1
      obtain rfl : v4 = Value.string s4 := (List.cons.inj (show [v4] = [Value.string s4] from e4)).1
      obtain ⟨a5, n5, c5, rfl⟩ := slice_cell Tryz.underlying32 g5
      obtain ⟨a6, n6, c6, rfl⟩ := slice_cell Tryz.underlying33 g6
      obtain ⟨bs, hbs⟩ := open_bs Tryz.underlying32 Tryz.underlying5 (by kernel_rfl) (show DataW.Trod enc Tryz.prog W 0 (fun _ => true) true 32 (.slice a5 n5 c5) d5 p5 from ⟨m, by simpa [Value.cells] using g5⟩)
      obtain ⟨ps, hps⟩ := open_isl Tryz.underlying33 Tryz.underlying3 (by kernel_rfl) (show DataW.Trod enc Tryz.prog W 0 (fun _ => true) true 33 (.slice a6 n6 c6) d6 p6 from ⟨m, by simpa [Value.cells] using g6⟩)
      refine ⟨⟨k0, k1, k2, s3, s4, .slice a5 n5 c5, .slice a6 n6 c6⟩, rfl, i64_of_wf w1, i64_of_wf w2, ⟨bs, hbs.mono fun _ h _ => h⟩, ps, ?_, fun k => ?_⟩
      · obtain ⟨a, c, e, h1, h2, h3⟩ := hps
        exact Is.below3 ⟨a, c, e, h1, h2, fun k hk => by
          obtain ⟨b, o, u, e1, hD, hc, hu⟩ := h3 k hk
          exact ⟨b, o, u, e1, hD, hc, hu.1⟩⟩
      · obtain ⟨a, c, e, h1, h2, h3⟩ := hps
        by_cases hk : k < ps.length
        · obtain ⟨b, o, u, e1, hD, hc, hu⟩ := h3 k hk
          exact hu.2
        · rw [List.getD_eq_getElem?_getD, List.getElem?_eq_none (by omega)]
          decide) h
end Go.Proofs.YtlhbgobjhddhlaaGreatDoor
