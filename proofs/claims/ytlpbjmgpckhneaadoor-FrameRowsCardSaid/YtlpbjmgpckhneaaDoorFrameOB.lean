/- Owned bytes: a cell, a store, where they lie. -/
import Derived.Test.YtlpbjmgpckhneaaDoorFrameParts
namespace Go.Proofs.YtlpbjmgpckhneaaDoor
open Go.RowKit

theorem OB.set {base : Nat} {w : World} {g cap : Nat} {l : List UInt8} (h : OB base w (.slice (some ⟨g, 0, none⟩) l.length cap) l) (i : Nat) (hi : i < l.length) (x : UInt8) :
    OB base (w.setCell ⟨g, i, none⟩ (.int .u8 x.toNat)) (.slice (some ⟨g, 0, none⟩) l.length cap) (l.set i x) := by
  rcases h.2 with ⟨h1, _⟩ | ⟨g', cap', cur, e, hb, hg, h1, h2, h3, ht⟩
  · simp at h1
  · simp only [Value.slice.injEq, Option.some.injEq, Addr.mk.injEq] at e
    obtain ⟨⟨rfl, _, _⟩, _, rfl⟩ := e
    refine ⟨by simp, .inr ⟨g, cap, cur.setIfInBounds i (.int .u8 x.toNat), by simp, hb, setCell_row i _ hg, by simpa using h1, h2, by simpa using h3, ?_⟩⟩
    simp only [List.length_set, Nat.mul_one] at ht ⊢
    rw [Array.toList_setIfInBounds, List.take_set, ht]
    simp [bV, List.map_set]
theorem OB.cell {base : Nat} {w : World} {g cap n : Nat} {l : List UInt8} (h : OB base w (.slice (some ⟨g, 0, none⟩) n cap) l) (i : Nat) (hi : i < l.length) : w.cell? ⟨g, i, none⟩ = some (.int .u8 (l.getD i 0).toNat) ∧ w.frozen? ⟨g, i, none⟩ = false := by
  rcases h.2 with ⟨h1, _⟩ | ⟨g', cap', cur, e, hb, hg, h1, h2, h3, ht⟩
  · simp at h1
  · simp only [Value.slice.injEq, Option.some.injEq, Addr.mk.injEq] at e
    obtain ⟨⟨rfl, _, _⟩, _, rfl⟩ := e
    refine ⟨?_, frozen_of_row _ _ _ _ _ hg⟩
    rw [cell_of_row _ _ _ _ _ _ hg]
    have : (cur.toList.take (l.length * 1))[i]? = (bV l)[i]? := by rw [ht]
    rw [List.getElem?_take, if_pos (by omega)] at this
    simp only [Array.getElem?_toList] at this
    rw [this]
    simp [bV, List.getD, hi]
/-- Not empty: it lies in a block. -/
theorem OB.addr {base : Nat} {w : World} {v : Value} {l : List UInt8} (h : OB base w v l) (hl : 0 < l.length) : ∃ g cap, v = .slice (some ⟨g, 0, none⟩) l.length cap ∧ base ≤ g ∧ g < w.heap.size := by
  rcases own_heap h with ⟨_, h0, _⟩ | ⟨g, cap, e, hb, hg, _⟩
  · omega
  · exact ⟨g, cap, e, hb, hg⟩

end Go.Proofs.YtlpbjmgpckhneaaDoor
