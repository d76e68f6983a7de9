/- slices.Clone of bytes; an append to a slice that is full. -/
import Derived.Test.YtlhbgobjhddhlaaGreatDoorLib
namespace Go.Proofs.YtlhbgobjhddhlaaGreatDoor
open Go.RowKit

/-- Value v owns these bytes, in blocks from base on. -/
abbrev OB (base : Nat) (w : World) (v : Value) (l : List UInt8) : Prop := w.ownsRow base 5 1 v l.length (bV l)
theorem Tryz.info_byte : (Tryz.prog.info? 5).map (fun i => (i.zero, i.size, i.bytes)) = some (some (.int .u8 0), 1, 1) := by kernel_rfl
theorem OB.bs {base : Nat} {w : World} {v : Value} {l : List UInt8} (h : OB base w v l) : Bs (fun k => base ≤ k) w v l :=
  (Bs.own h).mono fun k _ hk => (h.lt k hk).1
theorem OB.fr {S : Nat → Prop} {a w w' : World} {v : Value} {l : List UInt8} (hf : Fr S a w) (h : OB a.heap.size w v l) (hg : Fr (fun k => some k = v.ownBlock) w w') : Fr S a w' :=
  hf.trans hg (fun _ _ h => h) fun k hk e => absurd (h.lt k e.symm).1 (by omega)

theorem clone_any (D : Nat → Prop) (v : Value) (l : List UInt8) (w : World) (hB : Bs D w v l) (hl : l.length ≤ 1073741824) :
    Calls Tryz.prog 36 #[v] w fun e w' => ∃ v', e = .returned v' ∧ OB w.heap.size w' v' l ∧ Fr (fun _ => False) w w' := by
  obtain ⟨a, c, rfl, hlc, hcm, hk⟩ := hB
  cases a with
  | none =>
    have h0 : l = [] := by
      cases l with
      | nil => rfl
      | cons x r => obtain ⟨_, _, e, _⟩ := hk 0 (by simp); cases e
    subst h0
    clear hk
    have hq : (binOp .eql 32 (.slice none 0 c) (.slice none 0 0)).run Tryz.prog w = .ok (.bool true) w := Lib.run_eql_slice_nil _ _ _ _ _ _ _ _ Tryz.underlying32
    go_enter Tryz.func36, Tryz.ntmps36
    go_wp2
    go_ret
    exact ⟨_, rfl, World.ownsRow_nil _ _ _ _, Fr.refl _ _⟩
  | some ad =>
    have hc : ∀ j, j < l.length → ∃ b o, (some ad : Option Addr) = some ⟨b, o, none⟩ ∧ (w.alloc (.cells #[] 5)).cell? ⟨b, o + j, none⟩ = (bV l)[j]? := fun j hj => by
      obtain ⟨b, o, e, _, hc⟩ := hk j hj
      refine ⟨b, o, e, ?_⟩
      rw [alloc_cell _ hc]
      simp [bV, List.getD, hj]
    have ho : (w.alloc (.cells #[] 5)).ownsRow w.heap.size 5 1 (.slice (some ⟨w.heap.size, 0, none⟩) 0 0) 0 [] :=
      ⟨rfl, .inr ⟨w.heap.size, 0, #[], rfl, Nat.le_refl _, heap_alloc_new w _, by simp, by simp, by simp, by simp⟩⟩
    have hF := (Fr.refl (fun _ => False) w).alloc (.cells #[] 5)
    have h1 : ∀ u ∈ bV l, u.oneCell' = true := by
      intro u hu
      simp only [bV, List.mem_map] at hu
      obtain ⟨_, _, rfl⟩ := hu
      rfl
    have HC := hid hc
    have HO := hid ho
    have HF := hid hF
    have H1 := hid h1
    clear hk hc ho hF h1
    have hq : (binOp .eql 32 (.slice (some ad) l.length c) (.slice none 0 0)).run Tryz.prog w = .ok (.bool false) w := Lib.run_eql_slice_nil _ _ _ _ _ _ _ _ Tryz.underlying32
    go_enter Tryz.func36, Tryz.ntmps36
    go_wp2_with (at_builtin; go_must (refine wpList_appendN rfl (.tmp 5) (.tmp 6) 32 rfl 5 (.int .u8 0) 1 Tryz.underlying32 Tryz.info_byte rfl (.slice (some ⟨w.heap.size, 0, none⟩) 0 0) rfl w.heap.size 0 [] HO.out (some ad) l.length c (bV l) rfl (by simp) (fun h => by cases h) HC.out H1.out (by omega) (by decide) (by simp) ?_))
    intro v' w' ho' hf' _
    have HR := hid (OB.fr (l := []) HF.out HO.out hf')
    have HO' := hid ho'
    clear ho' hf'
    go_wp2
    go_ret
    refine ⟨v', rfl, ?_, HR.out⟩
    have := HO'.out
    simpa [OB, bV] using this

theorem bV_one (l : List UInt8) : ∀ u ∈ bV l, u.oneCell' = true := by
  intro u hu
  simp only [bV, List.mem_map] at hu
  obtain ⟨_, _, rfl⟩ := hu
  rfl
/-- What is appended to a slice that is full. -/
theorem run_append_full (w : World) (D E : Nat → Prop) (a : Option Addr) (v2 : Value) (l m : List UInt8) (h : Bs D w (.slice a l.length l.length) l) (hv : a = none ∨ ∃ ad, a = some ad) (h2 : Bs E w v2 m) (hn : l.length + m.length ≤ 1099511627776) (ty : TypeId) :
    ∃ v' w', (Builtin.append_ #[32, 32] ty #[.slice a l.length l.length, v2]).run Tryz.prog w = .ok v' w' ∧ Fr (fun _ => False) w w' ∧ ((m = [] ∧ v' = .slice a l.length l.length ∧ w' = w) ∨ ∃ g n c cs, v' = .slice (some ⟨g, 0, none⟩) n c ∧ w'.heap[g]? = some (.cells cs 5 (0, 0)) ∧ Bs (fun k => k = g) w' v' (l ++ m)) := by
  obtain ⟨i, hi, hz, hsz, hbt⟩ := info_parts Tryz.info_byte
  obtain ⟨a0, c0, e0, hlc, hcm, hk⟩ := h
  simp only [Value.slice.injEq] at e0
  obtain ⟨rfl, -, rfl⟩ := e0
  obtain ⟨a2, c2, rfl, hmc, hmm, hk2⟩ := h2
  by_cases hm0 : m = []
  · subst hm0
    have hrun : (Builtin.append_ #[32, 32] ty #[.slice a l.length l.length, .slice a2 0 c2]).run Tryz.prog w = .ok (.slice a l.length l.length) w := by
      cases a <;> cases a2 <;> simp [Builtin.append_, run_underlying Tryz.underlying32, sizeOf, typeInfo, hi, Builtin.lenOf, Builtin.firstCells, loadCells, loadCellsFrom, storeCells]
    exact ⟨_, _, hrun, Fr.refl _ _, .inl ⟨rfl, rfl, rfl⟩⟩
  have hml : 0 < m.length := by cases m <;> simp at hm0 ⊢
  obtain ⟨b2, o2, rfl, -, -⟩ := hk2 0 hml
  have hnews : ∀ j v, (bV m)[j]? = some v → w.cell? ((⟨b2, o2, none⟩ : Addr).add j) = some v := fun j v hj => by
    have hjl : j < m.length := by
      have := (List.getElem?_eq_some_iff.1 hj).1
      simpa using this
    obtain ⟨b, o, e, -, hc⟩ := hk2 j hjl
    simp only [Option.some.injEq, Addr.mk.injEq] at e
    obtain ⟨rfl, rfl, -⟩ := e
    have e3 : (⟨b2, o2, none⟩ : Addr).add j = ⟨b2, o2 + j, none⟩ := by unfold Addr.add; split <;> simp_all
    rw [e3, hc, ← hj]
    simp [bV, List.getD, hjl]
  have hl2 : (bV m).length = m.length * i.size := by rw [hsz, bV_length, Nat.mul_one]
  have fin : ∀ (W : World) (n c : Nat) (zs : Array Value), W.heap.size = w.heap.size → n = (l ++ m).length → n ≤ c → c ≤ maxLen → Bs (fun k => k = w.heap.size) (W.alloc (.cells ((bV (l ++ m)).toArray ++ zs) 5)) (.slice (some ⟨w.heap.size, 0, none⟩) n c) (l ++ m) := fun W n c zs hW hn hc hcm => by
    subst hn
    refine ⟨_, _, rfl, hc, hcm, fun k hk => ⟨w.heap.size, 0, rfl, rfl, ?_⟩⟩
    have hh := heap_alloc_new W (.cells ((bV (l ++ m)).toArray ++ zs) 5)
    rw [hW] at hh
    rw [Nat.zero_add, cell_of_row _ _ k _ _ _ hh, Array.getElem?_append_left (by simpa using hk)]
    simp only [List.getElem?_toArray]
    rw [bV, List.getElem?_map]
    simp [List.getD, List.getElem?_eq_getElem hk]
  have hF : ∀ cs, Fr (fun _ => False) w (w.drew.alloc (.cells cs 5)) := fun cs => (Fr.refl _ _).drew.alloc _
  rcases hv with rfl | ⟨ad, rfl⟩
  · have hl0 : l = [] := by
      cases l with
      | nil => rfl
      | cons x r => obtain ⟨_, _, e, -⟩ := hk 0 (by simp); cases e
    subst hl0
    have hrun := run_append_nil (P := Tryz.prog) w 32 ty 5 i (.int .u8 0) Tryz.underlying32 hi hz ⟨b2, o2, none⟩ m.length c2 (bV m) hl2 hnews hml (by omega) (by rw [hbt]; simp only [List.length_nil] at hn; omega)
    refine ⟨_, _, hrun, hF _, .inr ⟨w.heap.size, m.length, _, _, rfl, heap_alloc_new w.drew _, ?_⟩⟩
    have := fin w.drew m.length (grownCap w m.length 0 5) (Builtin.zeroCells (Value.int .u8 0).cells (grownCap w m.length 0 5 - m.length)) rfl (by simp) (grownCap_ge _ _ _ _) (grownCap_le_maxLen _ _ _ _ (by unfold maxLen; simp only [List.length_nil] at hn; omega))
    simpa using this
  · have holds : ∀ j v, (bV l)[j]? = some v → w.cell? (ad.add j) = some v := fun j v hj => by
      have hjl : j < l.length := by
        have := (List.getElem?_eq_some_iff.1 hj).1
        simpa using this
      obtain ⟨b, o, e, -, hc⟩ := hk j hjl
      simp only [Option.some.injEq] at e
      subst e
      have e3 : (⟨b, o, none⟩ : Addr).add j = ⟨b, o + j, none⟩ := by unfold Addr.add; split <;> simp_all
      rw [e3, hc, ← hj]
      simp [bV, List.getD, hjl]
    have hrun := run_append_grow (P := Tryz.prog) w 32 ty 5 i (.int .u8 0) Tryz.underlying32 hi hz ad l.length l.length (bV l) (by rw [hsz, bV_length, Nat.mul_one]) holds ⟨b2, o2, none⟩ m.length c2 (bV m) hl2 hnews (by omega) (by omega) (growslice_fits (by omega) (by rw [hbt]; omega))
    refine ⟨_, _, hrun, hF _, .inr ⟨w.heap.size, l.length + m.length, _, _, rfl, heap_alloc_new w.drew _, ?_⟩⟩
    have := fin w.drew (l.length + m.length) (grownCap w (l.length + m.length) l.length 5) (Builtin.zeroCells (Value.int .u8 0).cells (grownCap w (l.length + m.length) l.length 5 - (l.length + m.length))) rfl (by simp) (grownCap_ge _ _ _ _) (grownCap_le_maxLen _ _ _ _ (by unfold maxLen; omega))
    have hbv : (bV (l ++ m)).toArray = (bV l).toArray ++ (bV m).toArray := by simp [bV]
    rw [hbv] at this
    exact this
end Go.Proofs.YtlhbgobjhddhlaaGreatDoor
