/- Bytes appended to bytes of one's own; the document's copy of bytes. -/
import Derived.Test.YtlhbgobjhddhlaaGreatDoorDiskR
import Derived.Test.YtlhbgobjhddhlaaGreatDoorSameBytes
namespace Go.Proofs.YtlhbgobjhddhlaaGreatDoor
open Go.RowKit
variable {w0 w w' : World} {pa : Nat → Addr} {nm : ByteArray} {X : Nat}

/-- append(v, v2...), v a row of one's own. -/
theorem run_appendB {base : Nat} {E : Nat → Prop} {v v2 : Value} {l m : List UInt8} (h : OB base w v l) (h2 : Bs E w v2 m) (hn : l.length + m.length ≤ 1099511627776) (hb : base ≤ w.heap.size) (ty : TypeId) :
    ∃ v' w', (Builtin.append_ #[32, 32] ty #[v, v2]).run Tryz.prog w = .ok v' w' ∧ OB base w' v' (l ++ m) ∧ Fr (fun k => some k = v.ownBlock) w w' := by
  obtain ⟨i, hi, hz, hsz, hbt⟩ := info_parts Tryz.info_byte
  obtain ⟨a1, c1, rfl, -⟩ := own_len h
  obtain ⟨a2, c2, rfl, hmc, hmm, hk2⟩ := h2
  by_cases hm0 : m = []
  · subst hm0
    have hrun : (Builtin.append_ #[32, 32] ty #[.slice a1 l.length c1, .slice a2 0 c2]).run Tryz.prog w = .ok (.slice a1 l.length c1) w := by
      rcases h.2 with ⟨e, h0⟩ | ⟨g, cap, cur, e, hb', hg, hnc, hcm, hcs, htk⟩
      · simp only [Value.slice.injEq] at e
        obtain ⟨rfl, -, rfl⟩ := e
        rw [h0]
        cases a2 <;> simp [Builtin.append_, run_underlying Tryz.underlying32, sizeOf, typeInfo, hi, Builtin.lenOf, Builtin.firstCells, loadCells, loadCellsFrom, storeCells]
      · simp only [Value.slice.injEq] at e
        obtain ⟨rfl, -, rfl⟩ := e
        cases a2 <;> simp [Builtin.append_, run_underlying Tryz.underlying32, sizeOf, typeInfo, hi, Builtin.lenOf, Builtin.firstCells, loadCells, loadCellsFrom, storeCells, hnc]
    exact ⟨_, _, hrun, by rw [List.append_nil]; exact h, Fr.refl _ _⟩
  have hml : 0 < m.length := by cases m <;> simp at hm0 ⊢
  obtain ⟨b2, o2, rfl, -, -⟩ := hk2 0 hml
  have hnews : ∀ j v, (bV m)[j]? = some v → w.cell? ((⟨b2, o2, none⟩ : Addr).add j) = some v := fun j v hj => by
    have hjl : j < m.length := by
      have := (List.getElem?_eq_some_iff.1 hj).1
      simpa using this
    obtain ⟨b, o, e, -, hc⟩ := hk2 j hjl
    simp only [Option.some.injEq, Addr.mk.injEq] at e
    obtain ⟨rfl, rfl, -⟩ := e
    have e3 : (⟨b2, o2, none⟩ : Addr).add j = ⟨b2, o2 + j, none⟩ := by unfold Addr.add; split <;> simp_all
    rw [e3, hc, ← hj]
    simp [bV, List.getD, hjl]
  obtain ⟨v', w', hr, ho', hg, -⟩ := run_append_own (P := Tryz.prog) w base 32 ty 5 i (.int .u8 0) 1 1 Tryz.underlying32 hi hz hsz hbt rfl (by decide) _ l.length (bV l) h ⟨b2, o2, none⟩ m.length c2 (bV m) (by simp) hnews (bV_one m) (by unfold maxLen; omega) (by omega) hb
  refine ⟨v', w', hr, ?_, Fr.of_grownBy hg⟩
  simpa [OB, bV] using ho'
theorem OB.bs2 {base : Nat} {v : Value} {l : List UInt8} (h : OB base w v l) : Bs (BB w) w v l := (Bs.own h).mono fun k _ hk => by
  rcases h.2 with ⟨e, -⟩ | ⟨g, cap, cur, e, -, hg, -⟩
  · rw [e] at hk; cases hk
  · rw [e] at hk
    simp only [Value.ownBlock, Option.some.injEq] at hk
    subst hk
    exact ⟨_, _, hg⟩
/-- Bytes stay as they are under a call on a disk. -/
theorem Bs.keep {v : Value} {l : List UInt8} (h : Bs (BB w) w v l) (hf : Fr (Tk w) w w') : Bs (BB w') w' v l := (h.frame hf fun k hk => Tk.bytes hk).mono fun k _ hk => hk.frame hf (Tk.bytes hk)
theorem Bs.keep0 {v : Value} {l : List UInt8} (h : Bs (BB w) w v l) (hf : Fr (fun _ => False) w w') : Bs (BB w') w' v l := h.keep (fr_tk hf)
theorem Bs.upto {D : Nat → Prop} {a : Option Addr} {c : Nat} {l : List UInt8} (h : Bs D w (.slice a l.length c) l) (i : Nat) (hi : i ≤ l.length) : Bs D w (.slice a i c) (l.take i) := by
  obtain ⟨a0, c0, e, h1, h2, hk⟩ := h
  simp only [Value.slice.injEq] at e
  obtain ⟨rfl, -, rfl⟩ := e
  have hl : (l.take i).length = i := by rw [List.length_take]; omega
  refine ⟨a, c, by rw [hl], by rw [hl]; omega, h2, fun k hk' => ?_⟩
  rw [hl] at hk'
  obtain ⟨b, o, e, hd, hc⟩ := hk k (by omega)
  refine ⟨b, o, e, hd, ?_⟩
  rw [hc]
  simp [List.getD, List.getElem?_take, hk']
end Go.Proofs.YtlhbgobjhddhlaaGreatDoor
