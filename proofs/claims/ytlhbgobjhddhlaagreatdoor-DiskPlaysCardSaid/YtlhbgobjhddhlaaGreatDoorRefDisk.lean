/- DiskPlays: the document's disk, call by call (sixteen texts in one: a claim has at most 60 files). -/
import Derived.Test.YtlhbgobjhddhlaaGreatDoorMapF
import Derived.Test.YtlhbgobjhddhlaaGreatDoorRow
import Derived.Test.YtlhbgobjhddhlaaGreatDoorRegion
import Derived.Lib.AppendZeros
import Derived.Test.YtlhbgobjhddhlaaGreatDoorRefs
import Derived.Test.YtlhbgobjhddhlaaGreatDoorDiskC
import Derived.Deep.CutRange
import Derived.Test.YtlhbgobjhddhlaaGreatDoorDiskY
namespace Go.Proofs.YtlhbgobjhddhlaaGreatDoor
section
open Go.RowKit
variable {w w' w2 : World} {base : Nat}

def nmV (l : Nm) : List Value := l.flatMap fun x => [.string x.1, .int .i64 (x.2 : Int)]
theorem nmV_length (l : Nm) : (nmV l).length = l.length * 2 := by
  unfold nmV
  induction l with
  | nil => rfl
  | cons c r ih => rw [List.flatMap_cons, List.length_append, ih]; simp; omega
theorem nmV_append (l m : Nm) : nmV (l ++ m) = nmV l ++ nmV m := by unfold nmV; rw [List.flatMap_append]
theorem nmV_one (l : Nm) : ∀ v ∈ nmV l, v.oneCell' = true := by
  intro v hv
  obtain ⟨x, -, hx⟩ := List.mem_flatMap.1 hv
  simp only [List.mem_cons, List.not_mem_nil, or_false] at hx
  rcases hx with rfl | rfl <;> rfl
abbrev nd : ByteArray × Nat := (⟨#[]⟩, 0)
theorem nmV_get (l : Nm) (i : Nat) (h : i < l.length) : (nmV l)[i * 2]? = some (.string (l.getD i nd).1) ∧ (nmV l)[i * 2 + 1]? = some (.int .i64 ((l.getD i nd).2 : Int)) := by
  induction l generalizing i with
  | nil => simp at h
  | cons x r ih =>
    have e : nmV (x :: r) = .string x.1 :: .int .i64 (x.2 : Int) :: nmV r := by simp [nmV]
    cases i with
    | zero => rw [e]; simp
    | succ i =>
      have h' := ih i (by simp at h; omega)
      rw [e]
      constructor
      · rw [show (i + 1) * 2 = i * 2 + 1 + 1 by omega]
        simpa using h'.1
      · rw [show (i + 1) * 2 + 1 = (i * 2 + 1) + 1 + 1 by omega]
        simpa using h'.2
/-- A block of names. -/
def NB (w : World) (k : Nat) : Prop := ∃ cs fz, w.heap[k]? = some (.cells cs 90 fz)
theorem NB.frame {S : Nat → Prop} {k : Nat} (h : NB w k) (hf : Fr S w w') (hS : ¬ S k) : NB w' k := by
  obtain ⟨cs, fz, h⟩ := h
  exact ⟨cs, fz, hf.heap h hS⟩
/-- A slice of names. -/
def Ns (w : World) (v : Value) (l : Nm) : Prop :=
  ∃ a c, v = .slice a l.length c ∧ l.length ≤ c ∧ c ≤ maxLen ∧ ∀ k, k < l.length → ∃ b o, a = some ⟨b, o, none⟩ ∧ NB w b ∧ w.cell? ⟨b, o + k * 2, none⟩ = some (.string (l.getD k nd).1) ∧ w.cell? ⟨b, o + k * 2 + 1, none⟩ = some (.int .i64 ((l.getD k nd).2 : Int))
abbrev ON (base : Nat) (w : World) (v : Value) (l : Nm) : Prop := w.ownsRow base 90 2 v l.length (nmV l)
theorem Ns.frame {S : Nat → Prop} {v : Value} {l : Nm} (h : Ns w v l) (hf : Fr S w w') (hS : ∀ k, NB w k → ¬ S k) : Ns w' v l := by
  obtain ⟨a, c, e, h1, h2, h3⟩ := h
  refine ⟨a, c, e, h1, h2, fun k hk => ?_⟩
  obtain ⟨b, o, e, hb, c1, c2⟩ := h3 k hk
  exact ⟨b, o, e, hb.frame hf (hS b hb), hf.cell c1 (hS b hb), hf.cell c2 (hS b hb)⟩
theorem Ns.fr {v : Value} {l : Nm} (h : Ns w v l) (hf : Fr (fun _ => False) w w') : Ns w' v l := h.frame hf fun _ _ => id
theorem Ns.nil (w : World) : Ns w (.slice none 0 0) [] := ⟨none, 0, rfl, Nat.le_refl _, Nat.zero_le _, fun k hk => by simp at hk⟩
theorem ON.ns {v : Value} {l : Nm} (h : ON base w v l) : Ns w v l := by
  rcases h.2 with ⟨rfl, h0⟩ | ⟨g, cap, cur, rfl, hb, hg, hnc, hcm, hcs, htk⟩
  · obtain rfl : l = [] := List.eq_nil_of_length_eq_zero h0
    exact Ns.nil w
  · refine ⟨_, cap, rfl, hnc, hcm, fun k hk => ⟨g, 0, rfl, ⟨_, _, hg⟩, ?_, ?_⟩⟩
    · obtain ⟨h1, -⟩ := nmV_get l k hk
      rw [cell_of_row _ _ _ _ _ _ hg, Nat.zero_add]
      rw [← htk, List.getElem?_take, if_pos (by omega)] at h1
      simpa using h1
    · obtain ⟨-, h1⟩ := nmV_get l k hk
      rw [cell_of_row _ _ _ _ _ _ hg, Nat.zero_add]
      rw [← htk, List.getElem?_take, if_pos (by omega)] at h1
      simpa using h1
theorem getD_take {α : Type} (l : List α) (i k : Nat) (d : α) (h : k < i) : (l.take i).getD k d = l.getD k d := by simp [List.getD, List.getElem?_take, h]
theorem getD_drop {α : Type} (l : List α) (i k : Nat) (d : α) : (l.drop i).getD k d = l.getD (i + k) d := by simp [List.getD, List.getElem?_drop]
theorem Ns.upto {a : Option Addr} {c : Nat} {l : Nm} (h : Ns w (.slice a l.length c) l) (i : Nat) (hi : i ≤ l.length) : Ns w (.slice a i c) (l.take i) := by
  obtain ⟨a0, c0, e, h1, h2, hk⟩ := h
  simp only [Value.slice.injEq] at e
  obtain ⟨rfl, -, rfl⟩ := e
  have hl : (l.take i).length = i := by rw [List.length_take]; omega
  refine ⟨a, c, by rw [hl], by rw [hl]; omega, h2, fun k hk' => ?_⟩
  rw [hl] at hk'
  obtain ⟨b, o, e, hd, h3, h4⟩ := hk k (by omega)
  exact ⟨b, o, e, hd, by rw [h3, getD_take _ _ _ _ hk'], by rw [h4, getD_take _ _ _ _ hk']⟩
theorem Ns.rest {b o c : Nat} {l : Nm} (h : Ns w (.slice (some ⟨b, o, none⟩) l.length c) l) (i : Nat) (hi : i ≤ l.length) : Ns w (.slice (some ⟨b, o + i * 2, none⟩) (l.length - i) (c - i)) (l.drop i) := by
  obtain ⟨a0, c0, e, h1, h2, hk⟩ := h
  simp only [Value.slice.injEq] at e
  obtain ⟨rfl, -, rfl⟩ := e
  have hl : (l.drop i).length = l.length - i := by rw [List.length_drop]
  refine ⟨_, c - i, by rw [hl], by rw [hl]; omega, by omega, fun k hk' => ?_⟩
  rw [hl] at hk'
  obtain ⟨b', o', e, hd, h3, h4⟩ := hk (i + k) (by omega)
  simp only [Option.some.injEq, Addr.mk.injEq, and_true] at e
  obtain ⟨rfl, rfl⟩ := e
  exact ⟨b, o + i * 2, rfl, hd, by rw [show o + i * 2 + k * 2 = o + (i + k) * 2 by omega, h3, getD_drop], by rw [show o + i * 2 + k * 2 + 1 = o + (i + k) * 2 + 1 by omega, h4, getD_drop]⟩
theorem Ns.nil' (a : Option Addr) (c : Nat) (hc : c ≤ maxLen) (w : World) : Ns w (.slice a 0 c) [] := ⟨a, c, rfl, Nat.zero_le _, hc, fun k hk => by simp at hk⟩
theorem size_name (w : World) : (sizeOf 90).run Tryz.prog w = .ok 2 w := by
  have h : (Tryz.prog.info? 90).map (fun i => i.size) = some 2 := by kernel_rfl
  cases hh : Tryz.prog.info? 90 with
  | none => rw [hh] at h; cases h
  | some i =>
    rw [hh] at h
    simp only [Option.map_some, Option.some.injEq] at h
    simp [sizeOf, typeInfo, hh, h]
/-- l[k:]. -/
theorem run_restN {a : Option Addr} {c : Nat} {l : Nm} (h : Ns w (.slice a l.length c) l) (k : Nat) (hk : k ≤ l.length) :
    ∃ a', (Instr.slice 64 (.slice a l.length c) (some (.int .i64 (k : Int))) none none).run Tryz.prog w = .ok (.slice a' (l.length - k) (c - k)) w ∧ Ns w (.slice a' (l.length - k) (c - k)) (l.drop k) := by
  have hcl : l.length ≤ c ∧ c ≤ maxLen := by
    obtain ⟨a0, c0, e, h1, h2, -⟩ := h
    simp only [Value.slice.injEq] at e
    obtain ⟨-, -, rfl⟩ := e
    exact ⟨h1, h2⟩
  have hrun : (Instr.slice 64 (.slice a l.length c) (some (.int .i64 (k : Int))) none none).run Tryz.prog w = .ok (.slice (if c = k then a else a.map (·.add (k * 2))) (l.length - k) (c - k)) w := by
    have hk2 : (0 : Int) ≤ k ∧ (k : Int) ≤ l.length := by omega
    simp [Instr.slice, Instr.sliceBounds, Instr.sliceBound, asIntOf, run_underlying Tryz.underlying64, size_name, Result.andThen, hk]
  refine ⟨_, hrun, ?_⟩
  by_cases e : c = k
  · rw [if_pos e]
    have hd : l.drop k = [] := List.drop_eq_nil_of_le (by omega)
    rw [hd, show l.length - k = 0 by omega]
    exact Ns.nil' _ _ (by omega) w
  · rw [if_neg e]
    cases a with
    | none =>
      have hl0 : l.length = 0 := by
        obtain ⟨a0, c0, e', -, -, hc⟩ := h
        simp only [Value.slice.injEq] at e'
        obtain ⟨rfl, -, -⟩ := e'
        rcases Nat.eq_zero_or_pos l.length with h0 | h0
        · exact h0
        · obtain ⟨b, o, e2, -⟩ := hc 0 h0
          cases e2
      have hd : l.drop k = [] := List.drop_eq_nil_of_le (by omega)
      rw [hd, show l.length - k = 0 by omega]
      exact Ns.nil' _ _ (by omega) w
    | some ad =>
      by_cases h0 : l.length = 0
      · have hd : l.drop k = [] := List.drop_eq_nil_of_le (by omega)
        rw [hd, show l.length - k = 0 by omega]
        exact Ns.nil' _ _ (by omega) w
      obtain ⟨b, o, rfl⟩ : ∃ b o, ad = ⟨b, o, none⟩ := by
        obtain ⟨a0, c0, e', -, -, hc⟩ := h
        simp only [Value.slice.injEq] at e'
        obtain ⟨rfl, -, -⟩ := e'
        obtain ⟨b, o, e2, -⟩ := hc 0 (by omega)
        exact ⟨b, o, Option.some.inj e2⟩
      have e3 : (⟨b, o, none⟩ : Addr).add (k * 2) = ⟨b, o + k * 2, none⟩ := by unfold Addr.add; split <;> simp_all
      rw [Option.map_some, e3]
      exact h.rest k hk
theorem Tryz.info_name : (Tryz.prog.info? 90).map (fun i => (i.zero, i.size, i.bytes)) = some (some (.agg #[.string ⟨#[]⟩, .int .i64 0]), 2, 24) := by kernel_rfl
/-- append(v, v2...), v a row of one's own. -/
theorem run_appendN {v v2 : Value} {l m : Nm} (h : ON base w v l) (h2 : Ns w v2 m) (hn : l.length + m.length ≤ 1099511627776) (hb : base ≤ w.heap.size) (ty : TypeId) :
    ∃ v' w', (Builtin.append_ #[64, 64] ty #[v, v2]).run Tryz.prog w = .ok v' w' ∧ ON base w' v' (l ++ m) ∧ Fr (fun k => some k = v.ownBlock) w w' := by
  obtain ⟨i, hi, hz, hsz, hbt⟩ := info_parts Tryz.info_name
  obtain ⟨a1, c1, rfl, -⟩ := own_len h
  obtain ⟨a2, c2, rfl, hmc, hmm, hk2⟩ := h2
  by_cases hm0 : m = []
  · subst hm0
    have hrun : (Builtin.append_ #[64, 64] ty #[.slice a1 l.length c1, .slice a2 0 c2]).run Tryz.prog w = .ok (.slice a1 l.length c1) w := by
      rcases h.2 with ⟨e, h0⟩ | ⟨g, cap, cur, e, hb', hg, hnc, hcm, hcs, htk⟩
      · simp only [Value.slice.injEq] at e
        obtain ⟨rfl, -, rfl⟩ := e
        rw [h0]
        cases a2 <;> simp [Builtin.append_, run_underlying Tryz.underlying64, sizeOf, typeInfo, hi, Builtin.lenOf, Builtin.firstCells, loadCells, loadCellsFrom, storeCells]
      · simp only [Value.slice.injEq] at e
        obtain ⟨rfl, -, rfl⟩ := e
        cases a2 <;> simp [Builtin.append_, run_underlying Tryz.underlying64, sizeOf, typeInfo, hi, Builtin.lenOf, Builtin.firstCells, loadCells, loadCellsFrom, storeCells, hnc]
    exact ⟨_, _, hrun, by rw [List.append_nil]; exact h, Fr.refl _ _⟩
  have hml : 0 < m.length := by cases m <;> simp at hm0 ⊢
  obtain ⟨b2, o2, rfl, -, -⟩ := hk2 0 hml
  have hnews : ∀ j v, (nmV m)[j]? = some v → w.cell? ((⟨b2, o2, none⟩ : Addr).add j) = some v := fun j v hj => by
    have hjl : j < m.length * 2 := by
      have := (List.getElem?_eq_some_iff.1 hj).1
      rwa [nmV_length] at this
    obtain ⟨b, o, e, -, hc1, hc2⟩ := hk2 (j / 2) (by omega)
    simp only [Option.some.injEq, Addr.mk.injEq] at e
    obtain ⟨rfl, rfl, -⟩ := e
    have e3 : (⟨b2, o2, none⟩ : Addr).add j = ⟨b2, o2 + j, none⟩ := by unfold Addr.add; split <;> simp_all
    obtain ⟨g1, g2⟩ := nmV_get m (j / 2) (by omega)
    rcases Nat.mod_two_eq_zero_or_one j with h0 | h0
    · have ej : j / 2 * 2 = j := by omega
      rw [ej] at hc1 g1
      rw [e3, hc1, ← hj, g1]
    · have ej : j / 2 * 2 + 1 = j := by omega
      rw [Nat.add_assoc, ej] at hc2
      rw [ej] at g2
      rw [e3, hc2, ← hj, g2]
  obtain ⟨v', w', hr, ho', hg, -⟩ := run_append_own (P := Tryz.prog) w base 64 ty 90 i _ 2 24 Tryz.underlying64 hi hz hsz hbt rfl (by decide) _ l.length (nmV l) h ⟨b2, o2, none⟩ m.length c2 (nmV m) (nmV_length m) hnews (nmV_one m) (by unfold maxLen; omega) (by omega) hb
  refine ⟨v', w', hr, ?_, Fr.of_grownBy hg⟩
  unfold ON
  rw [List.length_append, nmV_append]
  exact ho'
/-- make([]Name, 0, n). -/
theorem make_names (n : Nat) (hn : n ≤ 1000000) (w : World) : ∃ w', (Instr.makeSlice 64 (.int .i64 0) (.int .i64 (n : Int))).run Tryz.prog w = .ok (.slice (some ⟨w.heap.size, 0, none⟩) 0 n) w' ∧ Fr (fun _ => False) w w' ∧ ON w.heap.size w' (.slice (some ⟨w.heap.size, 0, none⟩) 0 n) [] ∧ w'.heap.size = w.heap.size + 1 := by
  obtain ⟨i0, hi, hz0, hz1, hz2⟩ := info_parts Tryz.info_name
  have h := run_make (P := Tryz.prog) w 64 90 i0 _ Tryz.underlying64 hi hz0 .i64 .i64 0 n (Int.le_refl _) (by omega) (by rw [hz2]; omega) (by omega)
  rw [Int.toNat_natCast, hz1] at h
  refine ⟨_, h, (Fr.refl _ _).alloc _, ⟨rfl, .inr ⟨w.heap.size, n, _, rfl, Nat.le_refl _, heap_alloc_new w _, Nat.zero_le _, by unfold maxLen; omega, ?_, rfl⟩⟩, by simp⟩
  simp [madeCells, Value.cells]
end
section
open Go.RowKit
variable {w w' w2 : World} {base : Nat}

set_option maxRecDepth 100000 in
set_option maxHeartbeats 1600000 in
theorem rnames_any (v : Value) (l : Nm) (w : World) (h : Ns w v l) (hl : l.length ≤ 100000) :
    Calls Tryz.prog 51 #[v] w fun e w' => ∃ v', e = .returned v' ∧ ON w.heap.size w' v' l ∧ Fr (fun _ => False) w w' := by
  obtain ⟨a, c, rfl, h1, h2, -⟩ := id h
  obtain ⟨n, hn⟩ : ∃ n, l.length + 1 = n := ⟨_, rfl⟩
  have hw : IntKind.i64.wrap ((l.length : Int) + 1) = (n : Int) := by rw [← hn]; exact IntWalk.i64_in _ (by omega)
  obtain ⟨w1, hmk, hf1, ho1, hs1⟩ := make_names n (by omega) w
  obtain ⟨v', w2, hap, ho2, hf2⟩ := run_appendN (l := []) ho1 (h.fr hf1) (by simp; omega) (by omega) 64
  rw [List.nil_append] at ho2
  have HF := hid (hf1.trans (U := fun _ => False) hf2 (fun _ _ h => h) fun k hk e => by simp [Value.ownBlock] at e; omega)
  have HO := hid ho2
  obtain ⟨a', c', rfl, -⟩ := own_len ho2
  clear h h1 h2 hl hf1 ho1 hs1 ho2 hf2 hn
  go_enter Tryz.func51, Tryz.ntmps51
  go_wp2_with (at_builtin; go_must (refine Lib.wpList_append_run _ rfl (.tmp 6) (.tmp 7) 64 64 rfl _ _ rfl rfl _ _ hap ?_))
  go_wp2_with fail
  go_ret
  exact ⟨_, rfl, HO.out, HF.out⟩
theorem dl_take (l : Nm) (nm : ByteArray) (k : Nat) (hk : k < l.length) : dl (l.take (k + 1)) nm = dl (l.take k) nm ++ (if (l.getD k nd).1 = nm then [] else [l.getD k nd]) := by
  have e : l[k]? = some (l.getD k nd) := by simp [List.getD, List.getElem?_eq_getElem hk]
  unfold dl
  rw [List.take_add_one, List.filter_append, e]
  congr 1
  by_cases h : (l.getD k nd).1 = nm
  · simp only [Option.toList_some, List.filter_cons, List.filter_nil, h, decide_true, Bool.not_true, Bool.false_eq_true, if_false, if_true]
  · simp only [Option.toList_some, List.filter_cons, List.filter_nil, h, decide_false, Bool.not_false, if_true, if_false]
set_option maxRecDepth 100000 in
set_option maxHeartbeats 1600000 in
theorem rwithout_any (v : Value) (l : Nm) (nm : ByteArray) (w : World) (h : Ns w v l) (hl : l.length ≤ 100000) :
    Calls Tryz.prog 49 #[v, .string nm] w fun e w' => ∃ v', e = .returned v' ∧ ON w.heap.size w' v' (dl l nm) ∧ Fr (fun _ => False) w w' := by
  obtain ⟨a, c, rfl, h1, h2, hk⟩ := id h
  obtain ⟨n, hn⟩ : ∃ n, l.length + 1 = n := ⟨_, rfl⟩
  have hw : IntKind.i64.wrap ((l.length : Int) + 1) = (n : Int) := by rw [← hn]; exact IntWalk.i64_in _ (by omega)
  obtain ⟨w1, hmk, hf1, ho1, hs1⟩ := make_names n (by omega) w
  have HK := hid hk; have HF1 := hid hf1; have HO1 := hid ho1; have HL := hid hl
  obtain ⟨wn, hwn⟩ : ∃ wn, w.heap.size = wn := ⟨_, rfl⟩
  have HWN := hid hwn
  rw [hwn] at hmk HO1
  clear h h1 h2 hl hf1 ho1 hs1 hn hk hwn
  go_enter Tryz.func49, Tryz.ntmps49
  go_wp2_with fail
  go_loopw [5, 6] (fun ov iv wr => ∃ (k : Nat) (a' : Option Addr) (c' : Nat) (m : Nm), k ≤ l.length ∧ iv = .int .i64 k ∧ Hid (dl (l.take k) nm = m) ∧ ov = .slice a' m.length c' ∧ Hid (ON wn wr (.slice a' m.length c') m) ∧ Hid (Fr (fun _ => False) w wr)) (fun _ iv _ => l.length - (intOf iv).toNat)
  case atStart => exact ⟨0, _, _, [], Nat.zero_le _, rfl, hid rfl, rfl, HO1, HF1⟩
  case round =>
    clear HO1 HF1 hmk hw
    obtain ⟨k, a', c', m, hkl, rfl, HM, rfl, HO, HF⟩ := hrel
    by_cases hlt : k < l.length
    · have hltI : (k : Int) < l.length := by omega
      obtain ⟨b, o, rfl, -, d1, d2⟩ := HK.out k hlt
      have e1 := HF.out.cell d1 not_false
      have e2 := HF.out.cell d2 not_false
      have HDT := hid (dl_take l nm k hlt)
      have hw1 : IntKind.i64.wrap ((k : Int) + 1) = (k : Int) + 1 := IntWalk.i64_in _ (by have := HL.out; omega)
      have HLT := hid hlt
      clear d1 d2 hlt hkl
      obtain ⟨x, hx⟩ : ∃ x, l.getD k nd = x := ⟨_, rfl⟩
      obtain ⟨s, f⟩ := x
      rw [hx] at e1 e2 HDT
      dsimp only at e1 e2 HDT
      clear hx
      by_cases es : s = nm
      · subst es
        rw [if_pos rfl] at HDT
        go_wp2_with fail
        go_roundw
        case rel => exact ⟨k + 1, a', c', m, by have := HLT.out; omega, by go_num, hid (by rw [HDT.out, List.append_nil]; exact HM.out), rfl, HO, HF⟩
        case measure => simp [intOf]; have := HLT.out; omega
      · rw [if_neg es] at HDT
        have hbe : (s.toList == nm.toList) = false := by rw [beq_eq_false_iff_ne]; exact fun e => es (ba_toList_inj' e)
        have hfa := (Fr.refl (fun _ => False) wr).alloc (.cells #[.string s, .int .i64 (f : Int)] 90)
        have hrow := heap_alloc_new wr (.cells #[.string s, .int .i64 (f : Int)] 90)
        have hns : Ns (wr.alloc (.cells #[.string s, .int .i64 (f : Int)] 90)) (.slice (some ⟨wr.heap.size, 0, none⟩) 1 1) [(s, f)] := by
          refine ⟨_, 1, rfl, Nat.le_refl _, by unfold maxLen; omega, fun j hj => ⟨wr.heap.size, 0, rfl, ⟨_, _, hrow⟩, ?_, ?_⟩⟩
          all_goals
            obtain rfl : j = 0 := by simp at hj; omega
            rw [cell_of_row _ _ _ _ _ _ hrow]; rfl
        have hml : m.length ≤ l.length := by
          rw [← HM.out]
          refine Nat.le_trans (dl_len _ _) ?_
          rw [List.length_take]; omega
        obtain ⟨v', w2, hap, ho2, hf2⟩ := run_appendN (hfa.own HO.out fun _ _ => not_false) hns (by have := HL.out; simp; omega) (by have := HWN.out; have := HF.out.size; have := hfa.size; omega) 64
        obtain ⟨a2, c2, rfl, -⟩ := own_len ho2
        have HF2 := hid (((HF.out.trans' hfa)).trans (U := fun _ => False) hf2 (fun _ _ h => h) fun q hq e => by
          have h1 := (HO.out.lt q e.symm).1
          have h2 := HWN.out
          omega)
        have HO2 := hid ho2
        have hmn : (m ++ [(s, f)]).length = m.length + 1 := by simp
        clear hfa hrow hns hml ho2 hf2
        go_wp2_with (at_builtin; refine Lib.wpList_append_run _ rfl (.tmp 24) (.tmp 29) 64 64 rfl _ _ rfl rfl _ _ hap ?_)
        go_roundw
        case rel => exact ⟨k + 1, a2, c2, m ++ [(s, f)], by have := HLT.out; omega, by go_num, hid (by rw [HDT.out, HM.out]), by simp, HO2, HF2⟩
        case measure => simp [intOf]; have := HLT.out; omega
    · have hltI : ¬ (k : Int) < l.length := by omega
      obtain rfl : k = l.length := by omega
      rw [List.take_length] at HM
      clear hlt hkl
      go_wp2_with fail
      go_ret
      exact ⟨_, rfl, by rw [HM.out, HWN.out]; exact HO.out, HF.out⟩
end
section
open Go.RowKit

/-- Is a text before another one? -/
def bf : List UInt8 → List UInt8 → Bool
  | [], b => !b.isEmpty
  | _ :: _, [] => false
  | x :: r, y :: t => if x = y then bf r t else decide (x.toNat < y.toNat)
theorem bytes_drop (a : ByteArray) (k : Nat) (h : k < a.size) : a.data.toList.drop k = a[k] :: a.data.toList.drop (k + 1) := by
  have h' : k < a.data.toList.length := by simpa using h
  rw [List.drop_eq_getElem_cons h']
  rfl
set_option maxHeartbeats 1600000 in
theorem before_any (a b : ByteArray) (ha : a.size ≤ 1099511627776) (hb : b.size ≤ 1099511627776) (w : World) : Calls Tryz.prog 68 #[.string a, .string b] w fun e w' => e = .returned (.bool (bf a.data.toList b.data.toList)) ∧ Fr (fun _ => False) w w' := by
  have haI : (a.size : Int) ≤ 1099511627776 := by omega
  have hbI : (b.size : Int) ≤ 1099511627776 := by omega
  obtain ⟨r, hr⟩ : ∃ r, bf a.data.toList b.data.toList = r := ⟨_, rfl⟩
  rw [hr]
  have HR := hid hr
  clear hr ha hb
  go_enter Tryz.func68, Tryz.ntmps68
  go_wp2_with fail
  go_loopw [5] (fun i wr => ∃ k : Nat, k ≤ a.size ∧ k ≤ b.size ∧ i = .int .i64 k ∧ Hid (bf (a.data.toList.drop k) (b.data.toList.drop k) = r) ∧ Fr (fun _ => False) w wr) (fun i _ => a.size - (intOf i).toNat)
  case atStart => exact ⟨0, Nat.zero_le _, Nat.zero_le _, rfl, HR, Fr.refl _ _⟩
  case round =>
    obtain ⟨k, hka, hkb, rfl, HB, hf⟩ := hrel
    by_cases h1 : k < a.size
    · by_cases h2 : k < b.size
      · have h1I : (k : Int) < a.size := by omega
        have h2I : (k : Int) < b.size := by omega
        have HF := hid hf
        have hst : bf (a.data.toList.drop k) (b.data.toList.drop k) = if a[k] = b[k] then bf (a.data.toList.drop (k + 1)) (b.data.toList.drop (k + 1)) else decide (a[k].toNat < b[k].toNat) := by
          rw [bytes_drop a k h1, bytes_drop b k h2, bf]
        have HST := hid hst
        clear hst hf
        by_cases he : a[k] = b[k]
        · have HB2 := hid (show bf (a.data.toList.drop (k + 1)) (b.data.toList.drop (k + 1)) = r by rw [← HB.out, HST.out, if_pos he])
          have hq : ((a[k].toNat : Int) != (b[k].toNat : Int)) = false := by rw [he]; simp
          clear he
          go_upto_region 4 with fail
          refine wp_region_cls (fun w' => Fr (fun _ => False) wr w') (by kernel_rfl) (by kernel_rfl) (Fr.refl _ _).drew ?_
          iterate 7 (refine q_take ?_ (by kernel_rfl) ?_ ?_; rotate_left; (· intro w' hS; go_simp; try with_reducible rfl); (try simp only [Act.put, List.setIfInBounds_toArray, List.set_cons_zero, List.set_cons_succ]))
          refine q_end (fun w' hw => ?_)
          have HF2 := hid (HF.out.trans' hw)
          clear hw
          go_wp2_with fail
          go_roundw
          case rel => exact ⟨k + 1, by omega, by omega, by go_num, HB2, HF2.out⟩
          case measure => simp [intOf]; omega
        · have HR2 := hid (show decide (a[k].toNat < b[k].toNat) = r by rw [← HB.out, HST.out, if_neg he])
          have hne : a[k].toNat ≠ b[k].toNat := fun h => he (UInt8.toNat_inj.1 h)
          have hq : ((a[k].toNat : Int) != (b[k].toNat : Int)) = true := by simp; omega
          clear he hne
          go_upto_region 4 with fail
          refine wp_region_cls (fun w' => Fr (fun _ => False) wr w') (by kernel_rfl) (by kernel_rfl) (Fr.refl _ _).drew ?_
          iterate 7 (refine q_take ?_ (by kernel_rfl) ?_ ?_; rotate_left; (· intro w' hS; go_simp; try with_reducible rfl); (try simp only [Act.put, List.setIfInBounds_toArray, List.set_cons_zero, List.set_cons_succ]))
          refine q_end (fun w' hw => ?_)
          have HF2 := hid (HF.out.trans' hw)
          clear hw
          go_upto_region 5 with fail
          refine wp_region_cls (fun w2 => Fr (fun _ => False) w' w2) (by kernel_rfl) (by kernel_rfl) (Fr.refl _ _).drew ?_
          iterate 8 (refine q_take ?_ (by kernel_rfl) ?_ ?_; rotate_left; (· intro w' hS; go_simp; try with_reducible rfl); (try simp only [Act.put, List.setIfInBounds_toArray, List.set_cons_zero, List.set_cons_succ]))
          refine q_end (fun w2 hw => ?_)
          have HF3 := hid (HF2.out.trans' hw)
          clear hw
          go_wp2_with fail
          go_ret
          exact ⟨ret_bool HR2.out, HF3.out⟩
      · have h1I : (k : Int) < a.size := by omega
        have h2I : ¬ (k : Int) < b.size := by omega
        have hbk : k = b.size := by omega
        have HR2 := hid (show false = r by
          rw [← HB.out, bytes_drop a k h1, List.drop_of_length_le (show b.data.toList.length ≤ k by simp; omega)]
          rfl)
        have hlt : ¬ (a.size : Int) < b.size := by omega
        have HF := hid hf
        go_wp2_with fail
        go_ret
        exact ⟨ret_bool HR2.out, HF.out⟩
    · obtain rfl : k = a.size := by omega
      have HF := hid hf
      have HR2 := hid (show decide (a.size < b.size) = r by
        rw [← HB.out, List.drop_of_length_le (show a.data.toList.length ≤ a.size by simp)]
        rw [bf]
        by_cases h : a.size < b.size
        · rw [decide_eq_true (by omega), bytes_drop b _ h]; rfl
        · rw [decide_eq_false (by omega), List.drop_of_length_le (show b.data.toList.length ≤ a.size by simp; omega)]; rfl)
      clear hf
      go_wp2_with fail
      go_ret
      exact ⟨ret_bool HR2.out, HF.out⟩
theorem ba_ext {a b : ByteArray} (h : a.data.toList = b.data.toList) : a = b := by
  cases a; cases b; simp at h; rw [h]
theorem bf_trans : ∀ {a b c : List UInt8}, bf a b = true → bf b c = true → bf a c = true
  | [], _, [], _, h => by rename_i b _; cases b <;> simp [bf] at h
  | [], _, _ :: _, _, _ => rfl
  | _ :: _, [], _, h, _ => by simp [bf] at h
  | _ :: _, _ :: _, [], _, h => by simp [bf] at h
  | x :: r, y :: t, z :: u, h, h' => by
    rw [bf] at h h' ⊢
    by_cases e1 : x = y
    · subst e1
      rw [if_pos rfl] at h
      by_cases e2 : x = z
      · rw [if_pos e2] at h' ⊢; exact bf_trans h h'
      · rw [if_neg e2] at h' ⊢; exact h'
    · rw [if_neg e1] at h
      by_cases e2 : y = z
      · subst e2; rw [if_neg e1]; exact h
      · rw [if_neg e2] at h'
        have h1 := of_decide_eq_true h
        have h2 := of_decide_eq_true h'
        rw [if_neg (fun e => by subst e; omega)]
        exact decide_eq_true (by omega)
theorem bf_tri : ∀ {a b : List UInt8}, bf a b = false → a ≠ b → bf b a = true
  | [], [], _, h => absurd rfl h
  | [], _ :: _, h, _ => by simp [bf] at h
  | _ :: _, [], _, _ => rfl
  | x :: r, y :: t, h, hn => by
    rw [bf] at h ⊢
    by_cases e : x = y
    · subst e
      rw [if_pos rfl] at h ⊢
      exact bf_tri h fun e => hn (by rw [e])
    · rw [if_neg e] at h
      rw [if_neg (fun e' => e e'.symm)]
      have h1 := of_decide_eq_false h
      have h2 : x.toNat ≠ y.toNat := fun h => e (UInt8.toNat_inj.1 h)
      exact decide_eq_true (by omega)
theorem bf_irr : ∀ (a : List UInt8), bf a a = false
  | [] => rfl
  | x :: r => by rw [bf, if_pos rfl, bf_irr r]
end
section
open Go.RowKit
variable {w w' w2 : World} {base : Nat}

def bfN (nm : ByteArray) (x : ByteArray × Nat) : Bool := bf x.1.data.toList nm.data.toList
/-- Names with one more, in its place. -/
def withN (l : Nm) (nm : ByteArray) (f : Nat) : Nm := (dl l nm).takeWhile (bfN nm) ++ [(nm, f)] ++ (dl l nm).dropWhile (bfN nm)
theorem tw_cut {p : ByteArray × Nat → Bool} : ∀ {m : Nm} {k : Nat}, k ≤ m.length → (∀ j, j < k → p (m.getD j nd) = true) → (k < m.length → p (m.getD k nd) = false) → m.takeWhile p = m.take k ∧ m.dropWhile p = m.drop k := by
  intro m
  induction m with
  | nil => intro k hk _ _; obtain rfl : k = 0 := (by simpa using hk); exact ⟨rfl, rfl⟩
  | cons x r ih =>
    intro k hk h1 h2
    cases k with
    | zero =>
      have h3 : p x = false := by simpa using h2 (by simp)
      rw [List.takeWhile_cons, List.dropWhile_cons, h3]
      exact ⟨rfl, rfl⟩
    | succ k =>
      have h3 : p x = true := by simpa using h1 0 (Nat.succ_pos _)
      rw [List.takeWhile_cons, List.dropWhile_cons, h3]
      obtain ⟨e1, e2⟩ := ih (k := k) (by simpa using hk) (fun j hj => by simpa using h1 (j + 1) (by omega)) (fun hk' => by simpa using h2 (by simpa using hk'))
      simp only [if_true, List.take_succ_cons, List.drop_succ_cons]
      exact ⟨by rw [e1], e2⟩
theorem own_lower' {base base' e sz n : Nat} {v : Value} {xs : List Value} (h : w.ownsRow base e sz v n xs) (hb : base' ≤ base) : w.ownsRow base' e sz v n xs :=
  ⟨h.1, h.2.imp id fun ⟨g, cap, cur, h1, h2, r⟩ => ⟨g, cap, cur, h1, Nat.le_trans hb h2, r⟩⟩
theorem getD_mem' {l : Nm} {k : Nat} (hk : k < l.length) : l.getD k nd ∈ l := by
  rw [List.getD_eq_getElem?_getD, List.getElem?_eq_getElem hk]
  exact List.getElem_mem hk
set_option maxRecDepth 100000 in
set_option maxHeartbeats 3200000 in
theorem rwith_any (v : Value) (l : Nm) (nm : ByteArray) (f : Nat) (w : World) (h : Ns w v l) (hl : l.length ≤ 100000) (hs : ∀ x ∈ l, x.1.size ≤ 1048576) (hn : nm.size ≤ 1048576) :
    Calls Tryz.prog 44 #[v, .agg #[.string nm, .int .i64 (f : Int)]] w fun e w' => ∃ v', e = .returned v' ∧ ON w.heap.size w' v' (withN l nm f) ∧ Fr (fun _ => False) w w' := by
  obtain ⟨a, c, rfl, h1, h2, -⟩ := id h
  have hfa := (Fr.refl (fun _ => False) w).alloc (.cells #[.string nm, .int .i64 (f : Int)] 90)
  have hrow := heap_alloc_new w (.cells #[.string nm, .int .i64 (f : Int)] 90)
  have hwo := rwithout_any _ l nm _ (h.fr hfa) hl
  obtain ⟨P, hP⟩ : ∃ P, w.heap.size = P := ⟨_, rfl⟩
  rw [hP] at hrow
  have HWO := hid hwo; have HFA := hid hfa; have HROW := hid hrow; have HP := hid hP; have HL := hid hl; have HS := hid hs; have HNS := hid hn
  have k0 : (w.alloc (.cells #[.string nm, .int .i64 (f : Int)] 90)).cell? ⟨P, 0, none⟩ = some (.string nm) := by rw [cell_of_row _ _ _ _ _ _ hrow]; rfl
  clear h h1 h2 hfa hwo hrow hl hs hn
  go_enter Tryz.func44, Tryz.ntmps44
  go_upto_region 1 with fail
  clear hP
  generalize w.alloc (.cells #[.string nm, .int .i64 (f : Int)] 90) = W at *
  go_wp2_with fail
  refine HWO.out.mono ?_
  rintro e w1 ⟨v1, rfl, ho1, hf1⟩
  obtain ⟨m, hm⟩ : ∃ m, dl l nm = m := ⟨_, rfl⟩
  rw [hm] at ho1
  have HM := hid hm
  have hml : m.length ≤ l.length := by rw [← hm]; exact dl_len _ _
  have hms : ∀ x ∈ m, x.1.size ≤ 1048576 := fun x hx => HS.out x (by rw [← hm] at hx; exact (mem_dl.1 hx).1)
  have HML := hid hml; have HMS := hid hms
  obtain ⟨a1, c1, rfl, -⟩ := own_len ho1
  have HO1 := hid ho1.ns; have HF1 := hid (HFA.out.trans' hf1); have HROW1 := hid (hf1.heap HROW.out not_false)
  clear hm ho1 hf1 hml hms HWO k0
  go_wp2_with fail
  go_loopw [6] (fun iv wr => ∃ k : Nat, k ≤ m.length ∧ iv = .int .i64 k ∧ Hid (∀ j, j < k → bfN nm (m.getD j nd) = true) ∧ Hid (Fr (fun _ => False) w1 wr)) (fun iv _ => m.length - (intOf iv).toNat)
  case atStart => exact ⟨0, Nat.zero_le _, rfl, hid (fun j hj => by omega), hid (Fr.refl _ _)⟩
  case round =>
    obtain ⟨k, hk, rfl, HJ, HF⟩ := hrel
    have HO := hid (HO1.out.fr HF.out)
    have HRW := hid (HF.out.heap HROW1.out not_false)
    have HFW := hid (HF1.out.trans' HF.out)
    obtain ⟨a0, c0, e0, hc1, hc2, hcells⟩ := HO.out
    simp only [Value.slice.injEq] at e0
    obtain ⟨rfl, -, rfl⟩ := e0
    have HCC := hid hc1; have HCM := hid hc2
    by_cases hlt : k < m.length
    · have hltI : (k : Int) < m.length := by omega
      obtain ⟨b, o, rfl, -, d1, -⟩ := hcells k hlt
      have k0 : wr.cell? ⟨P, 0, none⟩ = some (.string nm) := by rw [cell_of_row _ _ _ _ _ _ HRW.out]; rfl
      have HD1 := hid d1; have HK0 := hid k0
      obtain ⟨x, hx⟩ : ∃ x, m.getD k nd = x := ⟨_, rfl⟩
      have hxs : x.1.size ≤ 1048576 := HMS.out x (by rw [← hx]; exact getD_mem' hlt)
      rw [hx] at HD1
      have HX := hid hx
      obtain ⟨r, hr⟩ : ∃ r, bfN nm x = r := ⟨_, rfl⟩
      have hbe := fun (W2 : World) => before_any x.1 nm (by omega) (by have := HNS.out; omega) W2
      rw [show bf x.1.data.toList nm.data.toList = r from hr] at hbe
      have HBE := hid hbe; have HR := hid hr; have HLT := hid hlt
      clear hcells d1 k0 hx hxs hr hbe hlt hk hc1 hc2
      go_upto_region 3 with fail
      refine wp_region_cls (fun w' => Fr (fun _ => False) wr w') (by kernel_rfl) (by kernel_rfl) (Fr.refl _ _).drew ?_
      iterate 9 (refine q_take ?_ (by kernel_rfl) ?_ ?_; rotate_left; (· intro w' hS; go_simp; try with_reducible rfl); (try simp only [Act.put, List.setIfInBounds_toArray, List.set_cons_zero, List.set_cons_succ]))
      (refine q_take ?_ (by kernel_rfl) ?_ ?_; rotate_left; (· intro w' hS; have d1 := hS.cell HD1.out not_false; go_simp; try with_reducible rfl); try simp only [Act.put, List.setIfInBounds_toArray, List.set_cons_zero, List.set_cons_succ])
      (refine q_take ?_ (by kernel_rfl) ?_ ?_; rotate_left; (· intro w' hS; go_simp; try with_reducible rfl); (try simp only [Act.put, List.setIfInBounds_toArray, List.set_cons_zero, List.set_cons_succ]))
      (refine q_take ?_ (by kernel_rfl) ?_ ?_; rotate_left; (· intro w' hS; have d1 := hS.cell HK0.out not_false; go_simp; try with_reducible rfl); try simp only [Act.put, List.setIfInBounds_toArray, List.set_cons_zero, List.set_cons_succ])
      (refine q_call ?_ ?_ (by kernel_rfl) ?_ ?_; rotate_left 2; (· intro w' hS; go_simp; first | with_reducible rfl | (constructor <;> with_reducible rfl)); (refine ⟨_, fun w' hw => (HBE.out w').mono fun _ _ h => ⟨h.1, hw.trans' h.2⟩, ?_⟩); (try simp only [Act.put, List.setIfInBounds_toArray, List.set_cons_zero, List.set_cons_succ]))
      (refine q_take ?_ (by kernel_rfl) ?_ ?_; rotate_left; (· intro w' hS; go_simp; try with_reducible rfl); (try simp only [Act.put, List.setIfInBounds_toArray, List.set_cons_zero, List.set_cons_succ]))
      refine q_end (fun wy hw => ?_)
      have HFY := hid hw
      clear hw
      cases r with
      | true =>
        have hw1 : IntKind.i64.wrap ((k : Int) + 1) = (k : Int) + 1 := IntWalk.i64_in _ (by have := HLT.out; have := HML.out; have := HL.out; omega)
        go_wp2_with fail
        go_roundw
        case rel =>
          refine ⟨k + 1, by have := HLT.out; omega, by go_num, hid (fun j hj => ?_), hid (HF.out.trans' HFY.out)⟩
          by_cases e : j = k
          · rw [e, HX.out]; exact HR.out
          · exact HJ.out j (by omega)
        case measure => simp [intOf]; have := HLT.out; omega
      | false =>
        have HTW := hid (tw_cut (p := bfN nm) (Nat.le_of_lt HLT.out) HJ.out fun _ => by rw [HX.out]; exact HR.out)
        have HKM := hid (show k ≤ m.length from Nat.le_of_lt HLT.out)
        have HO2 := hid (HO.out.fr HFY.out); have HRW2 := hid (HFY.out.heap HRW.out not_false); have HFW2 := hid (HFW.out.trans' HFY.out)
        clear HO HRW HFW HF HFY HD1 HK0 hltI
        go_upto_region 5 with fail
        obtain ⟨n, hn⟩ : ∃ n, m.length + 1 = n := ⟨_, rfl⟩
        have hwn : IntKind.i64.wrap ((m.length : Int) + 1) = (n : Int) := by rw [← hn]; exact IntWalk.i64_in _ (by have := HML.out; have := HL.out; omega)
        have hkc : (0 : Int) ≤ k ∧ (k : Int) ≤ c1 := by have := HKM.out; have := HCC.out; omega
        refine wp_region_ord [(0, 0), (1, 0), (2, 0), (4, 0), (5, 0), (6, 0), (3, 1), (7, 1), (8, 0)] (fun w' => Fr (fun _ => False) wy w') (by kernel_rfl) (by kernel_rfl) (by kernel_rfl) rfl (fun _ _ d _ _ h => by cases d <;> exact h) (Fr.refl _ _).drew ?_
        iterate 6 (refine wpO_take ?_ rfl (by kernel_rfl) ?_ ?_; rotate_left; (· intro w' hS; go_simp; try with_reducible rfl); try simp only [Act.put, List.setIfInBounds_toArray, List.set_cons_zero, List.set_cons_succ])
        obtain ⟨t, ht⟩ : ∃ t, m.take k = t := ⟨_, rfl⟩
        obtain ⟨u, hu⟩ : ∃ u, m.drop k = u := ⟨_, rfl⟩
        have htl : t.length = k := by have := HKM.out; rw [← ht, List.length_take]; omega
        have hul : u.length ≤ m.length := by rw [← hu, List.length_drop]; omega
        have hfd := (Fr.refl (fun _ => False) wy).drew
        have hns1 := (HO2.out.upto k HKM.out).fr hfd
        rw [ht] at hns1
        have HFD := hid hfd
        obtain ⟨w3, hmk, hf3, ho3, hs3⟩ := make_names n (by have := HML.out; have := HL.out; omega) wy.drew
        obtain ⟨v5, w5, hap, ho5, hf5⟩ := run_appendN (l := []) ho3 (hns1.fr hf3) (by have := HML.out; have := HL.out; have := HKM.out; simp; omega) (by omega) 64
        rw [List.nil_append] at ho5
        obtain ⟨a5, c5, rfl, -⟩ := own_len ho5
        rw [htl] at ho5 hap
        have hsz : wy.drew.heap.size = wy.heap.size := rfl
        have HF3 := hid (hfd.trans' hf3)
        have HF5 := hid ((hfd.trans' hf3).trans (U := fun _ => False) hf5 (fun _ _ h => h) fun q hq e => by simp [Value.ownBlock] at e; omega)
        have HO5 := hid ho5; have HTL := hid htl; have HUL := hid hul; have HT := hid ht; have HU := hid hu; have HN := hid hn
        have HSZ := hid hsz
        have HWD := hid (show w.heap.size ≤ wy.drew.heap.size from by have := HFW2.out.size; omega)
        clear hns1 hfd hf3 ho3 hs3 hf5 ho5 htl hul ht hu hsz hn hwn hkc
        generalize wy.drew = Wd at *
        refine wpO_run rfl (by kernel_rfl) (fun K hK => ?_)
        go_simp
        refine hK _ _ (fun _ => HF3.out) ?_
        clear hK K hmk
        try simp only [Act.put, List.setIfInBounds_toArray, List.set_cons_zero, List.set_cons_succ]
        refine wpO_run rfl (by kernel_rfl) (fun K hK => ?_)
        refine Lib.wp_append_run _ (.tmp 31) (.tmp 34) 64 64 rfl _ _ rfl rfl _ _ hap ?_
        refine hK _ _ (fun _ => HF5.out) ?_
        clear hK K hap
        try simp only [Act.put, List.setIfInBounds_toArray, List.set_cons_zero, List.set_cons_succ]
        (refine wpO_take ?_ rfl (by kernel_rfl) ?_ ?_; rotate_left; (· intro w' hS; go_simp; try with_reducible rfl); try simp only [Act.put, List.setIfInBounds_toArray, List.set_cons_zero, List.set_cons_succ])
        refine wpO_end ?_
        have hrow5 := HF5.out.heap HRW2.out not_false
        have k0 : w5.cell? ⟨P, 0, none⟩ = some (.string nm) := by rw [cell_of_row _ _ _ _ _ _ hrow5]; rfl
        have k1 : w5.cell? ⟨P, 1, none⟩ = some (.int .i64 (f : Int)) := by rw [cell_of_row _ _ _ _ _ _ hrow5]; rfl
        have hfa := (Fr.refl (fun _ => False) w5).alloc (.cells #[.string nm, .int .i64 (f : Int)] 90)
        have hrow := heap_alloc_new w5 (.cells #[.string nm, .int .i64 (f : Int)] 90)
        have hns : Ns (w5.alloc (.cells #[.string nm, .int .i64 (f : Int)] 90)) (.slice (some ⟨w5.heap.size, 0, none⟩) 1 1) [(nm, f)] := by
          refine ⟨_, 1, rfl, Nat.le_refl _, by unfold maxLen; omega, fun j hj => ⟨w5.heap.size, 0, rfl, ⟨_, _, hrow⟩, ?_, ?_⟩⟩
          all_goals
            obtain rfl : j = 0 := by simp at hj; omega
            rw [cell_of_row _ _ _ _ _ _ hrow]; rfl
        have hob := hfa.own HO5.out fun _ _ => not_false
        rw [← HTL.out] at hob
        obtain ⟨v6, w6, hap2, ho6, hf6⟩ := run_appendN hob hns (by have := HML.out; have := HL.out; have := HKM.out; have := HTL.out; simp; omega) (by have := HF5.out.size; have := hfa.size; have := HSZ.out; omega) 64
        obtain ⟨a6, c6, rfl, -⟩ := own_len ho6
        have hl6 : (t ++ [(nm, f)]).length = k + 1 := by rw [List.length_append, HTL.out]; rfl
        rw [HTL.out] at hap2
        rw [hl6] at ho6 hap2
        have HF6 := hid ((HF5.out.trans' hfa).trans (U := fun _ => False) hf6 (fun _ _ h => h) fun q hq e => by
          have h1 := (HO5.out.lt q (show (Value.slice a5 k c5).ownBlock = some q by rw [← HTL.out]; exact e.symm)).1
          have h2 := HSZ.out
          omega)
        have hns6 := HO2.out.fr HF6.out
        obtain ⟨a7, hrest, hns7⟩ := run_restN hns6 k HKM.out
        rw [HU.out] at hns7
        have ho6' : ON Wd.heap.size w6 (.slice a6 (k + 1) c6) (t ++ [(nm, f)]) := ho6
        obtain ⟨v8, w8, hap3, ho8, hf8⟩ := run_appendN ho6' hns7 (by rw [hl6]; have := HML.out; have := HL.out; have := HKM.out; have := HUL.out; omega) (by have := HF6.out.size; have := HSZ.out; omega) 64
        obtain ⟨a8, c8, rfl, -⟩ := own_len ho8
        have HF8 := hid ((HFW2.out.trans' HF6.out).trans (U := fun _ => False) hf8 (fun _ _ h => h) fun q hq e => by
          have h1 := (ho6'.lt q e.symm).1
          have h2 := HWD.out
          omega)
        have hres : t ++ [(nm, f)] ++ u = withN l nm f := by
          unfold withN
          rw [HM.out, HTW.out.1, HTW.out.2, HT.out, HU.out]
        obtain ⟨n8, hn8⟩ : ∃ n8, (t ++ [(nm, f)] ++ u).length = n8 := ⟨_, rfl⟩
        unfold ON at ho8
        rw [hn8] at ho8 hap3
        have HN8 := hid hn8; have HRES := hid hres
        have HO8 := hid ho8
        clear hrow5 hfa hrow hns hob ho6 hf6 hl6 hns6 hns7 ho6' ho8 hf8 hres hn8
        go_wp2_with (at_builtin; first | refine Lib.wpList_append_run _ rfl (.tmp 36) (.tmp 38) 64 64 rfl _ _ rfl rfl _ _ hap2 ?_ | refine Lib.wpList_append_run _ rfl (.tmp 40) (.tmp 43) 64 64 rfl _ _ rfl rfl _ _ hap3 ?_)
        go_ret
        exact ⟨_, rfl, by unfold ON; rw [← HRES.out, HN8.out]; exact own_lower' HO8.out HWD.out, HF8.out⟩
    · have hltI : ¬ (k : Int) < m.length := by omega
      have HTW := hid (tw_cut (p := bfN nm) hk HJ.out fun h => absurd h hlt)
      have HKM := hid hk
      have HO2 := HO; have HRW2 := HRW; have HFW2 := HFW
      clear hcells hlt hk HO HRW HFW HF hc1 hc2
      go_upto_region 3 with fail
      go_quiet (fail)
      have hdw := (Fr.refl (fun _ => False) wr).drewN nq
      have HO3 := hid (HO2.out.fr hdw); have HRW3 := hid (hdw.heap HRW2.out not_false); have HFW3 := hid (HFW2.out.trans' hdw)
      clear hdw HO2 HRW2 HFW2 hltI
      have HO2 := HO3; have HRW2 := HRW3; have HFW2 := HFW3
      clear HO3 HRW3 HFW3
      generalize wr.drewN nq = wy at *
      go_upto_region 5 with fail
      obtain ⟨n, hn⟩ : ∃ n, m.length + 1 = n := ⟨_, rfl⟩
      have hwn : IntKind.i64.wrap ((m.length : Int) + 1) = (n : Int) := by rw [← hn]; exact IntWalk.i64_in _ (by have := HML.out; have := HL.out; omega)
      have hkc : (0 : Int) ≤ k ∧ (k : Int) ≤ c1 := by have := HKM.out; have := HCC.out; omega
      refine wp_region_ord [(0, 0), (1, 0), (2, 0), (4, 0), (5, 0), (6, 0), (3, 1), (7, 1), (8, 0)] (fun w' => Fr (fun _ => False) wy w') (by kernel_rfl) (by kernel_rfl) (by kernel_rfl) rfl (fun _ _ d _ _ h => by cases d <;> exact h) (Fr.refl _ _).drew ?_
      iterate 6 (refine wpO_take ?_ rfl (by kernel_rfl) ?_ ?_; rotate_left; (· intro w' hS; go_simp; try with_reducible rfl); try simp only [Act.put, List.setIfInBounds_toArray, List.set_cons_zero, List.set_cons_succ])
      obtain ⟨t, ht⟩ : ∃ t, m.take k = t := ⟨_, rfl⟩
      obtain ⟨u, hu⟩ : ∃ u, m.drop k = u := ⟨_, rfl⟩
      have htl : t.length = k := by have := HKM.out; rw [← ht, List.length_take]; omega
      have hul : u.length ≤ m.length := by rw [← hu, List.length_drop]; omega
      have hfd := (Fr.refl (fun _ => False) wy).drew
      have hns1 := (HO2.out.upto k HKM.out).fr hfd
      rw [ht] at hns1
      have HFD := hid hfd
      obtain ⟨w3, hmk, hf3, ho3, hs3⟩ := make_names n (by have := HML.out; have := HL.out; omega) wy.drew
      obtain ⟨v5, w5, hap, ho5, hf5⟩ := run_appendN (l := []) ho3 (hns1.fr hf3) (by have := HML.out; have := HL.out; have := HKM.out; simp; omega) (by omega) 64
      rw [List.nil_append] at ho5
      obtain ⟨a5, c5, rfl, -⟩ := own_len ho5
      rw [htl] at ho5 hap
      have hsz : wy.drew.heap.size = wy.heap.size := rfl
      have HF3 := hid (hfd.trans' hf3)
      have HF5 := hid ((hfd.trans' hf3).trans (U := fun _ => False) hf5 (fun _ _ h => h) fun q hq e => by simp [Value.ownBlock] at e; omega)
      have HO5 := hid ho5; have HTL := hid htl; have HUL := hid hul; have HT := hid ht; have HU := hid hu; have HN := hid hn
      have HSZ := hid hsz
      have HWD := hid (show w.heap.size ≤ wy.drew.heap.size from by have := HFW2.out.size; omega)
      clear hns1 hfd hf3 ho3 hs3 hf5 ho5 htl hul ht hu hsz hn hwn hkc
      generalize wy.drew = Wd at *
      refine wpO_run rfl (by kernel_rfl) (fun K hK => ?_)
      go_simp
      refine hK _ _ (fun _ => HF3.out) ?_
      clear hK K hmk
      try simp only [Act.put, List.setIfInBounds_toArray, List.set_cons_zero, List.set_cons_succ]
      refine wpO_run rfl (by kernel_rfl) (fun K hK => ?_)
      refine Lib.wp_append_run _ (.tmp 31) (.tmp 34) 64 64 rfl _ _ rfl rfl _ _ hap ?_
      refine hK _ _ (fun _ => HF5.out) ?_
      clear hK K hap
      try simp only [Act.put, List.setIfInBounds_toArray, List.set_cons_zero, List.set_cons_succ]
      (refine wpO_take ?_ rfl (by kernel_rfl) ?_ ?_; rotate_left; (· intro w' hS; go_simp; try with_reducible rfl); try simp only [Act.put, List.setIfInBounds_toArray, List.set_cons_zero, List.set_cons_succ])
      refine wpO_end ?_
      have hrow5 := HF5.out.heap HRW2.out not_false
      have k0 : w5.cell? ⟨P, 0, none⟩ = some (.string nm) := by rw [cell_of_row _ _ _ _ _ _ hrow5]; rfl
      have k1 : w5.cell? ⟨P, 1, none⟩ = some (.int .i64 (f : Int)) := by rw [cell_of_row _ _ _ _ _ _ hrow5]; rfl
      have hfa := (Fr.refl (fun _ => False) w5).alloc (.cells #[.string nm, .int .i64 (f : Int)] 90)
      have hrow := heap_alloc_new w5 (.cells #[.string nm, .int .i64 (f : Int)] 90)
      have hns : Ns (w5.alloc (.cells #[.string nm, .int .i64 (f : Int)] 90)) (.slice (some ⟨w5.heap.size, 0, none⟩) 1 1) [(nm, f)] := by
        refine ⟨_, 1, rfl, Nat.le_refl _, by unfold maxLen; omega, fun j hj => ⟨w5.heap.size, 0, rfl, ⟨_, _, hrow⟩, ?_, ?_⟩⟩
        all_goals
          obtain rfl : j = 0 := by simp at hj; omega
          rw [cell_of_row _ _ _ _ _ _ hrow]; rfl
      have hob := hfa.own HO5.out fun _ _ => not_false
      rw [← HTL.out] at hob
      obtain ⟨v6, w6, hap2, ho6, hf6⟩ := run_appendN hob hns (by have := HML.out; have := HL.out; have := HKM.out; have := HTL.out; simp; omega) (by have := HF5.out.size; have := hfa.size; have := HSZ.out; omega) 64
      obtain ⟨a6, c6, rfl, -⟩ := own_len ho6
      have hl6 : (t ++ [(nm, f)]).length = k + 1 := by rw [List.length_append, HTL.out]; rfl
      rw [HTL.out] at hap2
      rw [hl6] at ho6 hap2
      have HF6 := hid ((HF5.out.trans' hfa).trans (U := fun _ => False) hf6 (fun _ _ h => h) fun q hq e => by
        have h1 := (HO5.out.lt q (show (Value.slice a5 k c5).ownBlock = some q by rw [← HTL.out]; exact e.symm)).1
        have h2 := HSZ.out
        omega)
      have hns6 := HO2.out.fr HF6.out
      obtain ⟨a7, hrest, hns7⟩ := run_restN hns6 k HKM.out
      rw [HU.out] at hns7
      have ho6' : ON Wd.heap.size w6 (.slice a6 (k + 1) c6) (t ++ [(nm, f)]) := ho6
      obtain ⟨v8, w8, hap3, ho8, hf8⟩ := run_appendN ho6' hns7 (by rw [hl6]; have := HML.out; have := HL.out; have := HKM.out; have := HUL.out; omega) (by have := HF6.out.size; have := HSZ.out; omega) 64
      obtain ⟨a8, c8, rfl, -⟩ := own_len ho8
      have HF8 := hid ((HFW2.out.trans' HF6.out).trans (U := fun _ => False) hf8 (fun _ _ h => h) fun q hq e => by
        have h1 := (ho6'.lt q e.symm).1
        have h2 := HWD.out
        omega)
      have hres : t ++ [(nm, f)] ++ u = withN l nm f := by
        unfold withN
        rw [HM.out, HTW.out.1, HTW.out.2, HT.out, HU.out]
      obtain ⟨n8, hn8⟩ : ∃ n8, (t ++ [(nm, f)] ++ u).length = n8 := ⟨_, rfl⟩
      unfold ON at ho8
      rw [hn8] at ho8 hap3
      have HN8 := hid hn8; have HRES := hid hres
      have HO8 := hid ho8
      clear hrow5 hfa hrow hns hob ho6 hf6 hl6 hns6 hns7 ho6' ho8 hf8 hres hn8
      go_wp2_with (at_builtin; first | refine Lib.wpList_append_run _ rfl (.tmp 36) (.tmp 38) 64 64 rfl _ _ rfl rfl _ _ hap2 ?_ | refine Lib.wpList_append_run _ rfl (.tmp 40) (.tmp 43) 64 64 rfl _ _ rfl rfl _ _ hap3 ?_)
      go_ret
      exact ⟨_, rfl, by unfold ON; rw [← HRES.out, HN8.out]; exact own_lower' HO8.out HWD.out, HF8.out⟩
end
section
open Go.RowKit
variable {w w' w2 : World} {base x : Nat}

/-- The document's disk. -/
structure RS where
  room : Int
  files : List (List UInt8 × Nat)
  names : Nm
  kept : Nm
  log : List Nm
  fuse : Nat
  off : Bool
  calls : Nat
abbrev FM := List (Value × List UInt8 × Nat)
def fiV (L : FM) : List Value := L.flatMap fun y => [y.1, .int .i64 (y.2.2 : Int), .int .i64 0]
theorem fiV_length (L : FM) : (fiV L).length = L.length * 3 := by
  unfold fiV
  induction L with
  | nil => rfl
  | cons c r ih => rw [List.flatMap_cons, List.length_append, ih]; simp; omega
theorem fiV_append (l m : FM) : fiV (l ++ m) = fiV l ++ fiV m := by unfold fiV; rw [List.flatMap_append]
theorem fiV_get (L : FM) (i : Nat) (y : Value × List UInt8 × Nat) (h : L[i]? = some y) : (fiV L)[i * 3]? = some y.1 ∧ (fiV L)[i * 3 + 1]? = some (.int .i64 (y.2.2 : Int)) ∧ (fiV L)[i * 3 + 2]? = some (.int .i64 0) := by
  induction L generalizing i with
  | nil => simp at h
  | cons d r ih =>
    have e : fiV (d :: r) = [d.1, .int .i64 (d.2.2 : Int), .int .i64 0] ++ fiV r := by simp [fiV]
    cases i with
    | zero =>
      simp only [List.getElem?_cons_zero, Option.some.injEq] at h
      subst h
      rw [e]; simp
    | succ i =>
      have h' := ih i (by simpa using h)
      rw [e]
      refine ⟨?_, ?_, ?_⟩
      · rw [show (i + 1) * 3 = i * 3 + 3 by omega, List.getElem?_append_right (by simp)]
        simpa using h'.1
      · rw [show (i + 1) * 3 + 1 = (i * 3 + 1) + 3 by omega, List.getElem?_append_right (by simp)]
        simpa using h'.2.1
      · rw [show (i + 1) * 3 + 2 = (i * 3 + 2) + 3 by omega, List.getElem?_append_right (by simp)]
        simpa using h'.2.2
/-- A file's bytes, as a slice. -/
def FB (w : World) (y : Value × List UInt8 × Nat) : Prop := Bs (BB w) w y.1 y.2.1
/-- The words of the document's disk at x. -/
structure RM (base : Nat) (w : World) (x : Nat) (R : RS) (fv nv kv lv : Value) (L : FM) (G : List Value) : Prop where
  heap : w.heap[x]? = some (.cells #[.int .i64 R.room, fv, nv, kv, lv, .int .i64 (R.fuse : Int), .bool R.off, .int .i64 (R.calls : Int)] 67 (0, 0))
  fm : L.map (·.2) = R.files
  files : w.ownsRow base 86 3 fv L.length (fiV L)
  bytes : ∀ y ∈ L, FB w y
  names : Ns w nv R.names
  kept : Ns w kv R.kept
  gl : G.length = R.log.length
  log : w.ownsRow base 64 1 lv G.length G
  each : ∀ i v, G[i]? = some v → Ns w v (R.log.getD i []) ∧ v.oneCell' = true
  lo : base ≤ x
def RAt (base : Nat) (w : World) (x : Nat) (R : RS) : Prop := ∃ fv nv kv lv L G, RM base w x R fv nv kv lv L G
/-- The blocks that its calls may write. -/
def RK (base : Nat) (w : World) (k : Nat) : Prop := base ≤ k ∧ ∃ cs t fz, w.heap[k]? = some (.cells cs t fz) ∧ (t = 67 ∨ t = 86 ∨ t = 64)
theorem RK.trans {w3 : World} (h : Fr (RK base w) w w2) (k : Fr (RK base w2) w2 w3) : Fr (RK base w) w w3 :=
  Fr.trans (U := RK base w) h k (fun _ _ h => h) fun q hq hk => by
    by_cases hn : RK base w q
    · exact hn
    · refine ⟨hk.1, ?_⟩
      obtain ⟨cs, t, fz, hc, ht⟩ := hk.2
      exact ⟨cs, t, fz, by rw [← h.block q hq hn]; exact hc, ht⟩
theorem RK.of (h : Fr (fun _ => False) w w2) : Fr (RK base w) w w2 := h.mono fun _ _ h => h.elim
def Rty (t : TypeId) : Prop := t = 67 ∨ t = 86 ∨ t = 64 ∨ t = 90 ∨ t = 5
theorem own_block {e sz n : Nat} {v : Value} {xs : List Value} (h : w.ownsRow base e sz v n xs) {k : Nat} (hk : v.ownBlock = some k) : ∃ cs, w.heap[k]? = some (.cells cs e (0, 0)) := by
  rcases h.2 with ⟨hv, -⟩ | ⟨g, cap, cur, hv, -, hg, -⟩
  · rw [hv] at hk; cases hk
  · rw [hv] at hk
    simp only [Value.ownBlock, Option.some.injEq] at hk
    subst hk
    exact ⟨_, hg⟩
theorem RM.frame {S : Nat → Prop} {R : RS} {fv nv kv lv : Value} {L : FM} {G : List Value} (h : RM base w x R fv nv kv lv L G) (hf : Fr S w w') (hS : ∀ k cs t fz, w.heap[k]? = some (.cells cs t fz) → Rty t → ¬ S k) : RM base w' x R fv nv kv lv L G := by
  have hB : ∀ k, BB w k → ¬ S k := fun k ⟨cs, fz, hc⟩ => hS k _ _ _ hc (.inr (.inr (.inr (.inr rfl))))
  have hN : ∀ k, NB w k → ¬ S k := fun k ⟨cs, fz, hc⟩ => hS k _ _ _ hc (.inr (.inr (.inr (.inl rfl))))
  refine ⟨hf.heap h.heap (hS _ _ _ _ h.heap (.inl rfl)), h.fm, hf.own h.files fun k hk => ?_, fun y hy => ((h.bytes y hy).frame hf hB).mono fun k _ hk => hk.frame hf (hB k hk), h.names.frame hf hN, h.kept.frame hf hN, h.gl, hf.own h.log fun k hk => ?_, fun i v hv => ⟨(h.each i v hv).1.frame hf hN, (h.each i v hv).2⟩, h.lo⟩
  · obtain ⟨cs, hc⟩ := own_block h.files hk
    exact hS _ _ _ _ hc (.inr (.inl rfl))
  · obtain ⟨cs, hc⟩ := own_block h.log hk
    exact hS _ _ _ _ hc (.inr (.inr (.inl rfl)))
theorem RAt.frame {S : Nat → Prop} {R : RS} (h : RAt base w x R) (hf : Fr S w w') (hS : ∀ k cs t fz, w.heap[k]? = some (.cells cs t fz) → Rty t → ¬ S k) : RAt base w' x R := by
  obtain ⟨fv, nv, kv, lv, L, G, h⟩ := h
  exact ⟨fv, nv, kv, lv, L, G, h.frame hf hS⟩
theorem RAt.fr {R : RS} (h : RAt base w x R) (hf : Fr (fun _ => False) w w') : RAt base w' x R := h.frame hf fun _ _ _ _ _ _ => id
/-- A program's disk beside it stands. -/
theorem TW.ref {w0 : World} {X : Nat} {q : PS} {D : Nat → Prop} (h : TW w0 w X q D) (hb : w0.heap.size ≤ base) (hf : Fr (RK base w) w w') : TW w0 w' X q D := by
  refine h.frame hf (fun k hk hr => ?_) (fun k hk hr => ?_) fun k hk hr => by have := hr.1; omega
  · obtain ⟨-, cs, t, fz, hc, ht⟩ := hr
    refine h.cells hc ?_ ?_ ?_ hk
    all_goals (rcases ht with rfl | rfl | rfl <;> decide)
  · obtain ⟨-, cs, t, fz, hc, ht⟩ := hr
    obtain ⟨cs', fz', hc'⟩ := hk
    rw [hc'] at hc
    simp only [Option.some.injEq, Obj.cells.injEq] at hc
    rw [← hc.2.1] at ht
    revert ht
    decide
/-- It stands under a call on a program's disk. -/
theorem RAt.tw {w0 : World} {X : Nat} {q : PS} {D : Nat → Prop} {R : RS} (h : RAt base w x R) (ht : TW w0 w X q D) (hf : Fr D w w') : RAt base w' x R :=
  h.frame hf fun k cs t fz hc hr => by
    refine ht.cells hc ?_ ?_ ?_
    all_goals (rcases hr with rfl | rfl | rfl | rfl | rfl <;> decide)
/-- What stands in its own cells alone is another. -/
theorem RM.cell {R : RS} {fv nv kv lv : Value} {L : FM} {G : List Value} (h : RM base w x R fv nv kv lv L G) : w.cell? ⟨x, 0, none⟩ = some (.int .i64 R.room) ∧ w.cell? ⟨x, 1, none⟩ = some fv ∧ w.cell? ⟨x, 2, none⟩ = some nv ∧ w.cell? ⟨x, 3, none⟩ = some kv ∧ w.cell? ⟨x, 4, none⟩ = some lv ∧ w.cell? ⟨x, 5, none⟩ = some (.int .i64 (R.fuse : Int)) ∧ w.cell? ⟨x, 6, none⟩ = some (.bool R.off) ∧ w.cell? ⟨x, 7, none⟩ = some (.int .i64 (R.calls : Int)) ∧ ∀ i, w.frozen? ⟨x, i, none⟩ = false := by
  refine ⟨?_, ?_, ?_, ?_, ?_, ?_, ?_, ?_, fun i => frozen_of_row _ _ i _ _ h.heap⟩
  all_goals (rw [cell_of_row _ _ _ _ _ _ h.heap]; rfl)
theorem RM.turn {R R' : RS} {fv nv kv lv nv' kv' : Value} {L : FM} {G : List Value} (h : RM base w x R fv nv kv lv L G) (hf : Fr (fun k => k = x) w w') (hfi : R'.files = R.files) (hlo : R'.log = R.log)
    (hh : w'.heap[x]? = some (.cells #[.int .i64 R'.room, fv, nv', kv', lv, .int .i64 (R'.fuse : Int), .bool R'.off, .int .i64 (R'.calls : Int)] 67 (0, 0))) (hn : Ns w nv' R'.names) (hk : Ns w kv' R'.kept) : RM base w' x R' fv nv' kv' lv L G := by
  have hne : ∀ {k : Nat} {cs : Array Value} {t : TypeId} {fz : Nat × Nat}, w.heap[k]? = some (.cells cs t fz) → t ≠ 67 → ¬ k = x := fun hc ht e => by
    rw [e, h.heap] at hc
    simp only [Option.some.injEq, Obj.cells.injEq] at hc
    exact ht hc.2.1.symm
  have hB : ∀ k, BB w k → ¬ k = x := fun k ⟨cs, fz, hc⟩ => hne hc (by decide)
  have hN : ∀ k, NB w k → ¬ k = x := fun k ⟨cs, fz, hc⟩ => hne hc (by decide)
  refine ⟨hh, by rw [hfi]; exact h.fm, hf.own h.files fun k hk => ?_, fun y hy => ((h.bytes y hy).frame hf hB).mono fun k _ hk => hk.frame hf (hB k hk), hn.frame hf hN, hk.frame hf hN, by rw [hlo]; exact h.gl, hf.own h.log fun k hk => ?_, fun i v hv => by rw [hlo]; exact ⟨(h.each i v hv).1.frame hf hN, (h.each i v hv).2⟩, h.lo⟩
  · obtain ⟨cs, hc⟩ := own_block h.files hk
    exact hne hc (by decide)
  · obtain ⟨cs, hc⟩ := own_block h.log hk
    exact hne hc (by decide)
theorem RM.rk {R : RS} {fv nv kv lv : Value} {L : FM} {G : List Value} (h : RM base w x R fv nv kv lv L G) : RK base w x := ⟨h.lo, _, _, _, h.heap, .inl rfl⟩
theorem Fr.rk {R : RS} {fv nv kv lv : Value} {L : FM} {G : List Value} (hf : Fr (fun k => k = x) w w') (h : RM base w x R fv nv kv lv L G) : Fr (RK base w) w w' := hf.mono fun k _ e => by rw [e]; exact h.rk
/-- gate. -/
def RS.gateS (R : RS) : RS := if R.off then R else if 0 < R.fuse then { R with fuse := R.fuse - 1, off := decide (R.fuse = 1) } else R
def RS.gateB (R : RS) : Bool := if R.off then false else if R.fuse = 1 then false else true
set_option maxRecDepth 100000 in
set_option maxHeartbeats 1600000 in
theorem gate_any {R : RS} (h : RAt base w x R) (hb : R.fuse ≤ 9223372036854775807) :
    Calls Tryz.prog 40 #[.pointer (some ⟨x, 0, none⟩)] w fun e w' => e = .returned (.bool R.gateB) ∧ RAt base w' x R.gateS ∧ Fr (RK base w) w w' := by
  obtain ⟨fv, nv, kv, lv, L, G, h⟩ := h
  obtain ⟨-, -, -, -, -, c5, c6, -, fz⟩ := h.cell
  have H := hid h
  clear h
  by_cases hd : R.off = true
  · have e1 : R.gateB = false := by unfold RS.gateB; rw [if_pos hd]
    have e2 : R.gateS = R := by unfold RS.gateS; rw [if_pos hd]
    rw [e1, e2]
    rw [hd] at c6
    clear hd e1 e2
    go_enter Tryz.func40, Tryz.ntmps40
    go_wp2_with fail
    go_ret
    exact ⟨rfl, ⟨_, _, _, _, _, _, H.out⟩, Fr.refl _ _⟩
  have hd0 : R.off = false := by simpa using hd
  rw [hd0] at c6
  by_cases ha : R.fuse = 0
  · have e1 : R.gateB = true := by unfold RS.gateB; rw [if_neg hd, if_neg (by omega)]
    have e2 : R.gateS = R := by unfold RS.gateS; rw [if_neg hd, if_neg (by omega)]
    rw [e1, e2]
    rw [ha] at c5
    clear hd hd0 ha e1 e2
    go_enter Tryz.func40, Tryz.ntmps40
    go_wp2_with fail
    go_ret
    exact ⟨rfl, ⟨_, _, _, _, _, _, H.out⟩, Fr.refl _ _⟩
  obtain ⟨q, hq⟩ : ∃ q, R.fuse = q + 1 := ⟨R.fuse - 1, by omega⟩
  rw [hq] at c5
  have hp : (0 : Int) < ((q + 1 : Nat) : Int) := by omega
  have e5 : ((q + 1 : Nat) : Int) - 1 = (q : Int) := by omega
  have w5 : IntKind.i64.wrap (q : Int) = (q : Int) := IntWalk.i64_in _ (by omega)
  generalize ((q + 1 : Nat) : Int) = qq at *
  have hx5 := setCell_row 5 (.int .i64 (q : Int)) H.out.heap
  simp only [List.setIfInBounds_toArray, List.set_cons_zero, List.set_cons_succ] at hx5
  by_cases hq0 : q = 0
  · subst hq0
    have e1 : R.gateB = false := by unfold RS.gateB; rw [if_neg hd, if_pos hq]
    have HE := hid (show R.gateS = { R with fuse := 0, off := true } by unfold RS.gateS; rw [if_neg hd, if_pos (by omega), hq]; rfl)
    have hx6 := setCell_row 6 (.bool true) hx5
    simp only [List.setIfInBounds_toArray, List.set_cons_zero, List.set_cons_succ] at hx6
    rw [e1]
    have HX6 := hid hx6
    clear hd hd0 ha e1 hq hx5 hx6
    go_enter Tryz.func40, Tryz.ntmps40
    go_wp2_with fail
    go_ret
    have hfr := ((Fr.refl (fun k => k = x) w).setCell (p := ⟨x, 5, none⟩) (.inl rfl) (.int .i64 ((0 : Nat) : Int))).setCell (p := ⟨x, 6, none⟩) (.inl rfl) (.bool true)
    refine ⟨rfl, ?_, hfr.rk H.out⟩
    rw [HE.out]
    exact ⟨_, _, _, _, _, _, H.out.turn (R' := { R with fuse := 0, off := true }) hfr rfl rfl HX6.out H.out.names H.out.kept⟩
  · have e1 : R.gateB = true := by unfold RS.gateB; rw [if_neg hd, if_neg (by omega)]
    have hqb : ((q : Int) == 0) = false := by rw [beq_eq_false_iff_ne]; omega
    have HE := hid (show R.gateS = { R with fuse := q, off := false } by unfold RS.gateS; rw [if_neg hd, if_pos (by omega), hq, show decide (q + 1 = 1) = false by simpa using hq0]; rfl)
    have HX5 := hid hx5; have HD0 := hid hd0
    rw [e1]
    clear hd hd0 ha e1 hq hx5
    go_enter Tryz.func40, Tryz.ntmps40
    go_wp2_with fail
    go_ret
    have hfr := (Fr.refl (fun k => k = x) w).setCell (p := ⟨x, 5, none⟩) (.inl rfl) (.int .i64 (q : Int))
    refine ⟨rfl, ?_, hfr.rk H.out⟩
    rw [HE.out]
    have h5 := HX5.out
    rw [HD0.out] at h5
    exact ⟨_, _, _, _, _, _, H.out.turn (R' := { R with fuse := q, off := false }) hfr rfl rfl h5 H.out.names H.out.kept⟩
end
section
open Go.RowKit
variable {w w' w2 : World} {base x : Nat} {nm : ByteArray}

set_option maxRecDepth 100000 in
set_option maxHeartbeats 1600000 in
theorem rvalid_name (s : ByteArray) (hs : s.size ≤ 1099511627776) (w : World) : Calls Tryz.prog 41 #[.string s] w fun e w' => e = .returned (.bool (okN s)) ∧ w = w' := by
  by_cases h1 : s.size < 1
  · have HO := hid (show okN s = false by unfold okN; rw [decide_eq_false (by omega)]; rfl)
    have h1' : (s.size : Int) < 1 := by omega
    go_enter Tryz.func41, Tryz.ntmps41
    go_wp2_with fail
    go_ret
    exact ⟨by rw [HO.out]; rfl, rfl⟩
  by_cases h2 : 64 < s.size
  · have HO := hid (show okN s = false by unfold okN; rw [decide_eq_false (by omega)]; rfl)
    have h1' : ¬ (s.size : Int) < 1 := by omega
    have h2' : (64 : Int) < s.size := by omega
    go_enter Tryz.func41, Tryz.ntmps41
    go_wp2_with fail
    go_ret
    exact ⟨by rw [HO.out]; rfl, rfl⟩
  have h1' : ¬ (s.size : Int) < 1 := by omega
  have h2' : ¬ (64 : Int) < s.size := by omega
  have hbd : okN s = s.data.toList.all okB := by unfold okN; rw [decide_eq_true (by omega)]; rfl
  rw [hbd]
  clear hbd
  obtain ⟨ans, hans⟩ : ∃ b, s.data.toList.all okB = b := ⟨_, rfl⟩
  rw [hans]
  have HANS := hid hans
  clear hans
  go_enter Tryz.func41, Tryz.ntmps41
  go_wp2_with fail
  go_loopw [3, 4] (fun i _ wr => ∃ k : Nat, k ≤ s.size ∧ i = .int .i64 k ∧ w = wr ∧ ∀ j, j < k → okB (s.data.toList.getD j 0) = true) (fun i _ _ => s.size - (intOf i).toNat)
  case atStart => exact ⟨0, Nat.zero_le _, rfl, rfl, fun j hj => by omega⟩
  case round =>
    obtain ⟨k, hk, rfl, rfl, hall⟩ := hrel
    have hlen : s.data.toList.length = s.size := by simp
    by_cases hlt : k < s.size
    · have hkI : (k : Int) < s.size := by omega
      have hbk : (s.data.toList.getD k 0).toNat = s[k].toNat := by
        have : k < s.data.toList.length := by simpa using hlt
        simp [List.getD, hlt]; rfl
      have HALL := hid hall
      have hok : okB (s.data.toList.getD k 0) = decide ((97 ≤ s[k].toNat ∧ s[k].toNat ≤ 122) ∨ (48 ≤ s[k].toNat ∧ s[k].toNat ≤ 57) ∨ s[k].toNat = 46 ∨ s[k].toNat = 45 ∨ s[k].toNat = 95) := by unfold okB; rw [hbk]
      have HYES := hid (show ((97 ≤ s[k].toNat ∧ s[k].toNat ≤ 122) ∨ (48 ≤ s[k].toNat ∧ s[k].toNat ≤ 57) ∨ s[k].toNat = 46 ∨ s[k].toNat = 45 ∨ s[k].toNat = 95) → okB (s.data.toList.getD k 0) = true from fun hb => hok.trans (decide_eq_true hb))
      have HNO := hid (show ¬ ((97 ≤ s[k].toNat ∧ s[k].toNat ≤ 122) ∨ (48 ≤ s[k].toNat ∧ s[k].toNat ≤ 57) ∨ s[k].toNat = 46 ∨ s[k].toNat = 45 ∨ s[k].toNat = 95) → ans = false from fun hb => by
        rw [← HANS.out, List.all_eq_false]
        have hkl : k < s.data.toList.length := by omega
        refine ⟨_, List.getElem_mem hkl, ?_⟩
        have := hok.trans (decide_eq_false hb)
        simp only [List.getD, List.getElem?_eq_getElem hkl, Option.getD_some] at this
        rw [this]; simp)
      clear hok hall hlen hbk
      go_wp2_with fail
      all_goals (try simp only [bne_iff_ne, ne_eq, bne_eq_false_iff_eq] at *)
      all_goals first
        | (go_ret; exact ⟨by rw [HNO.out (by omega)]; rfl, rfl⟩)
        | exact ⟨⟨k + 1, by omega, by go_num, trivial, all_step HALL.out (HYES.out (by omega))⟩, by simp [intOf]; omega⟩
        | (go_roundw <;> first | exact ⟨k + 1, by omega, by go_num, rfl, all_step HALL.out (HYES.out (by omega))⟩ | (simp [intOf]; omega))
    · have hkI : ¬ (k : Int) < s.size := by omega
      have HO := hid (show ans = true from by
        rw [← HANS.out, List.all_eq_true]
        intro c hc
        obtain ⟨j, hj, rfl⟩ := List.getElem_of_mem hc
        have := hall j (by omega)
        simp only [List.getD, List.getElem?_eq_getElem hj, Option.getD_some] at this
        exact this)
      clear hall hlen
      go_wp2_with fail
      go_ret
      exact ⟨by rw [HO.out]; rfl, rfl⟩
/-- What is always so of it. -/
structure RS.Ok (R : RS) : Prop where
  nm : R.names.length ≤ 10000 ∧ ∀ y ∈ R.names, y.1.size ≤ 64 ∧ y.2 < R.files.length
  kp : R.kept.length ≤ 10000 ∧ ∀ y ∈ R.kept, y.1.size ≤ 64 ∧ y.2 < R.files.length
  lg : R.log.length ≤ 10000 ∧ ∀ l ∈ R.log, l.length ≤ 10000 ∧ ∀ y ∈ l, y.1.size ≤ 64 ∧ y.2 < R.files.length
  fb : R.files.length ≤ 10000 ∧ ∀ y ∈ R.files, y.1.length ≤ 4194304 ∧ y.2 ≤ y.1.length
  rm : 1 ≤ R.room ∧ R.room ≤ 4194304
  cl : R.calls ≤ 10000 ∧ R.fuse ≤ 9223372036854775807
theorem lk_at {l : Nm} {nm : ByteArray} : ∀ {k : Nat}, k < l.length → (∀ j, j < k → (l.getD j nd).1 ≠ nm) → (l.getD k nd).1 = nm → lk l nm = some (l.getD k nd).2 := by
  induction l with
  | nil => intro k hk; simp at hk
  | cons y r ih =>
    intro k hk h1 h2
    cases k with
    | zero =>
      have h3 : y.1 = nm := by simpa using h2
      unfold lk
      rw [List.find?_cons, decide_eq_true h3]
      simp
    | succ k =>
      have h3 : y.1 ≠ nm := by simpa using h1 0 (Nat.succ_pos _)
      have := ih (k := k) (by simpa using hk) (fun j hj => by simpa using h1 (j + 1) (by omega)) (by simpa using h2)
      unfold lk at this ⊢
      rw [List.find?_cons, decide_eq_false h3]
      simpa using this
theorem lk_no {l : Nm} {nm : ByteArray} (h : ∀ j, j < l.length → (l.getD j nd).1 ≠ nm) : lk l nm = none := lk_none.2 fun p hp e => by
  obtain ⟨j, hj, rfl⟩ := List.getElem_of_mem hp
  exact h j hj (by rw [List.getD_eq_getElem?_getD, List.getElem?_eq_getElem hj]; exact e)
def fnd (o : Option Nat) : Int := match o with
  | some f => (f : Int)
  | none => -1
theorem Ns.len {v : Value} {l : Nm} (h : Ns w v l) : ∃ a c, v = .slice a l.length c ∧ l.length ≤ c ∧ c ≤ maxLen := by
  obtain ⟨a, c, e, h1, h2, -⟩ := h
  exact ⟨a, c, e, h1, h2⟩
set_option maxRecDepth 100000 in
set_option maxHeartbeats 1600000 in
theorem rfind_any {R : RS} (h : RAt base w x R) (hb : R.names.length ≤ 1000000) :
    Calls Tryz.prog 42 #[.pointer (some ⟨x, 0, none⟩), .string nm] w fun e w' => e = .returned (.int .i64 (fnd (lk R.names nm))) ∧ w = w' := by
  obtain ⟨fv, nv, kv, lv, L, G, h⟩ := h
  obtain ⟨-, -, c2, -⟩ := h.cell
  have hn := h.names
  obtain ⟨a, c, rfl, h1, h2, hk⟩ := hn
  have HK := hid hk; have HB := hid hb
  obtain ⟨l, hl⟩ : ∃ l, R.names = l := ⟨_, rfl⟩
  rw [hl] at HK HB c2 ⊢
  obtain ⟨r, hr⟩ : ∃ r, fnd (lk l nm) = r := ⟨_, rfl⟩
  rw [hr]
  have HR := hid hr
  have hml : l.length ≤ 9223372036854775807 := by rw [← hl]; exact Nat.le_trans h1 h2
  clear h hk hb hl h1 h2 hr
  go_enter Tryz.func42, Tryz.ntmps42
  go_wp2_with fail
  go_loopw [5] (fun iv wr => ∃ k : Nat, k ≤ l.length ∧ iv = .int .i64 k ∧ w = wr ∧ Hid (∀ j, j < k → (l.getD j nd).1 ≠ nm)) (fun iv _ => l.length - (intOf iv).toNat)
  case atStart => exact ⟨0, Nat.zero_le _, rfl, rfl, hid (fun j hj => by omega)⟩
  case round =>
    obtain ⟨k, hk, rfl, rfl, HN⟩ := hrel
    by_cases hlt : k < l.length
    · have hltI : (k : Int) < l.length := by omega
      obtain ⟨b, o, rfl, -, d1, d2⟩ := HK.out k hlt
      have HLA := hid (lk_at (nm := nm) hlt HN.out)
      have HLT := hid hlt
      have hw1 : IntKind.i64.wrap ((k : Int) + 1) = (k : Int) + 1 := IntWalk.i64_in _ (by have := HB.out; omega)
      obtain ⟨y, hy⟩ : ∃ y, l.getD k nd = y := ⟨_, rfl⟩
      obtain ⟨s, f⟩ := y
      have HY := hid hy
      rw [hy] at d1 d2 HLA
      dsimp only at d1 d2 HLA
      clear hlt hk hy
      by_cases es : s = nm
      · subst es
        have hf : (f : Int) = r := by rw [← HR.out, HLA.out rfl]; rfl
        have HF := hid hf
        clear hf
        go_wp2_with fail
        go_ret
        exact ⟨by rw [HF.out]; rfl, rfl⟩
      · have hbe : (s.toList == nm.toList) = false := by rw [beq_eq_false_iff_ne]; exact fun e => es (ba_toList_inj' e)
        have HES := hid es
        clear es
        go_wp2_with fail
        exact ⟨⟨k + 1, by have := HLT.out; omega, by go_num, trivial, hid (fun j hj => by
          by_cases e : j = k
          · rw [e, HY.out]; exact HES.out
          · exact HN.out j (by omega))⟩, by simp [intOf]; have := HLT.out; omega⟩
    · have hltI : ¬ (k : Int) < l.length := by omega
      obtain rfl : k = l.length := by omega
      have hrr : r = -1 := by rw [← HR.out, lk_no HN.out]; rfl
      subst hrr
      clear hlt hk
      go_wp2_with fail
      go_ret
      exact ⟨rfl, rfl⟩
/-- How many bytes. -/
def usedR (F : List (List UInt8 × Nat)) : Nm → Nat
  | [] => 0
  | y :: r => (F.getD y.2 ([], 0)).1.length + usedR F r
theorem usedR_take (F : List (List UInt8 × Nat)) : ∀ (l : Nm) (k : Nat), k < l.length → usedR F (l.take (k + 1)) = usedR F (l.take k) + (F.getD (l.getD k nd).2 ([], 0)).1.length := by
  intro l
  induction l with
  | nil => intro k hk; simp at hk
  | cons y r ih =>
    intro k hk
    cases k with
    | zero => simp [usedR]
    | succ k =>
      have := ih k (by simpa using hk)
      rw [List.take_succ_cons, List.take_succ_cons]
      unfold usedR
      rw [this]
      simp
      omega
theorem usedR_le (F : List (List UInt8 × Nat)) (hF : ∀ y ∈ F, y.1.length ≤ 4194304) : ∀ l : Nm, usedR F l ≤ 4194304 * l.length := by
  intro l
  induction l with
  | nil => exact Nat.le_refl _
  | cons y r ih =>
    unfold usedR
    have h1 : (F.getD y.2 ([], 0)).1.length ≤ 4194304 := by
      by_cases h : y.2 < F.length
      · rw [List.getD_eq_getElem?_getD, List.getElem?_eq_getElem h]
        exact hF _ (List.getElem_mem h)
      · rw [List.getD_eq_getElem?_getD, List.getElem?_eq_none (by omega)]
        exact Nat.zero_le _
    simp only [List.length_cons]
    omega
/-- A file's cells. -/
theorem RM.file {R : RS} {fv nv kv lv : Value} {L : FM} {G : List Value} (h : RM base w x R fv nv kv lv L G) {i : Nat} (hi : i < R.files.length) :
    ∃ g cap v, fv = .slice (some ⟨g, 0, none⟩) L.length cap ∧ L.length = R.files.length ∧ L[i]? = some (v, R.files.getD i ([], 0)) ∧ FB w (v, R.files.getD i ([], 0)) ∧ w.cell? ⟨g, i * 3, none⟩ = some v ∧ w.cell? ⟨g, i * 3 + 1, none⟩ = some (.int .i64 ((R.files.getD i ([], 0)).2 : Int)) ∧ (∀ j, w.frozen? ⟨g, j, none⟩ = false) := by
  have hl : L.length = R.files.length := by rw [← h.fm, List.length_map]
  have hi' : i < L.length := by omega
  obtain ⟨y, hy⟩ : ∃ y, L[i]? = some y := ⟨_, List.getElem?_eq_getElem hi'⟩
  have hy2 : y.2 = R.files.getD i ([], 0) := by
    rw [← h.fm, List.getD_eq_getElem?_getD, List.getElem?_map, hy]
    rfl
  obtain ⟨v, z⟩ := y
  dsimp only at hy2
  subst hy2
  rcases h.files.2 with ⟨hv, h0⟩ | ⟨g, cap, cur, hv, -, hg, hnc, hcm, hcs, htk⟩
  · omega
  · have hc := h.files.cells (g := g) (by rw [hv]; rfl)
    obtain ⟨g1, g2, -⟩ := fiV_get _ _ _ hy
    have hadd : ∀ j, (⟨g, 0, none⟩ : Addr).add j = ⟨g, j, none⟩ := fun j => by unfold Addr.add; split <;> simp_all
    exact ⟨g, cap, v, hv, hl, hy, h.bytes _ (List.mem_of_getElem? hy), (hadd _) ▸ hc _ _ g1, (hadd _) ▸ hc _ _ g2, fun j => frozen_of_row _ _ _ _ _ hg⟩
theorem RM.cap {R : RS} {fv nv kv lv : Value} {L : FM} {G : List Value} (h : RM base w x R fv nv kv lv L G) : L.length ≤ 9223372036854775807 := (own_len h.files).elim fun _ h => h.elim fun _ h => h.2
set_option maxRecDepth 100000 in
set_option maxHeartbeats 1600000 in
theorem rused_any {R : RS} (h : RAt base w x R) (hb : R.Ok) :
    Calls Tryz.prog 47 #[.pointer (some ⟨x, 0, none⟩)] w fun e w' => e = .returned (.int .i64 (usedR R.files R.names : Int)) ∧ Fr (fun _ => False) w w' := by
  obtain ⟨fv, nv, kv, lv, L, G, h⟩ := h
  have H := hid h; have HB := hid hb
  obtain ⟨-, c1, c2, -⟩ := h.cell
  have C1 := hid c1
  obtain ⟨a, c, hnv, h1, h2⟩ := h.names.len
  have hml : R.names.length ≤ 9223372036854775807 := Nat.le_trans h1 h2
  subst hnv
  have C2 := hid c2
  clear h hb c1 c2 h1 h2
  go_enter Tryz.func47, Tryz.ntmps47
  go_wp2_with fail
  go_loopw [3, 4] (fun nv iv wr => ∃ (k n : Nat), k ≤ R.names.length ∧ iv = .int .i64 k ∧ nv = .int .i64 n ∧ Hid (n = usedR R.files (R.names.take k)) ∧ Hid (Fr (fun _ => False) w wr)) (fun _ iv _ => R.names.length - (intOf iv).toNat)
  case atStart => exact ⟨0, 0, Nat.zero_le _, rfl, rfl, hid rfl, hid (Fr.refl _ _)⟩
  case round =>
    obtain ⟨k, n, hk, rfl, rfl, HN, HF⟩ := hrel
    have c2 := HF.out.cell C2.out not_false
    by_cases hlt : k < R.names.length
    · have hltI : (k : Int) < R.names.length := by omega
      have hns := H.out.names.fr HF.out
      obtain ⟨a0, cc0, e0, -, -, hcc⟩ := hns
      simp only [Value.slice.injEq] at e0
      obtain ⟨rfl, -, rfl⟩ := e0
      obtain ⟨b, o, rfl, -, -, d2⟩ := hcc k hlt
      have hmem := (HB.out.nm.2 _ (getD_mem' hlt)).2
      have HT := hid (usedR_take R.files R.names k hlt)
      obtain ⟨y, hy⟩ : ∃ y, R.names.getD k nd = y := ⟨_, rfl⟩
      rw [hy] at d2 hmem HT
      obtain ⟨g, cap, v, hfv, hll, hLi, hfb, e1, -, -⟩ := (H.out.frame HF.out fun _ _ _ _ _ _ => id).file hmem
      obtain ⟨va, vc, hv, -⟩ := id hfb
      dsimp only at hv
      subst hv
      subst hfv
      have c1 := HF.out.cell C1.out not_false
      have hmI : (0 : Int) ≤ y.2 ∧ (y.2 : Int) < L.length := by omega
      have hmc := H.out.cap
      have hub := usedR_le R.files (fun y hy => (HB.out.fb.2 y hy).1) (R.names.take (k + 1))
      have hnl := HB.out.nm.1
      have htl : (R.names.take (k + 1)).length ≤ 10000 := by rw [List.length_take]; omega
      obtain ⟨q, hq⟩ : ∃ q, (R.files.getD y.2 ([], 0)).1.length = q := ⟨_, rfl⟩
      rw [hq] at e1 HT
      have hsum : n + q ≤ 41943040000 := by have h1 := HT.out; have h2 := HN.out; omega
      have hw0 : IntKind.i64.wrap ((n : Int) + q) = (n : Int) + q := IntWalk.i64_in _ (by omega)
      have hw1 : IntKind.i64.wrap ((k : Int) + 1) = (k : Int) + 1 := IntWalk.i64_in _ (by omega)
      have HLT := hid hlt
      clear hcc hy hfb hub htl hq hsum hnl hlt hLi hll hk hmem
      go_wp2_with (go_quiet (fail))
      have hdw := HF.out
      exact ⟨⟨k + 1, n + q, by have := HLT.out; omega, by go_num, by go_num, hid (by have h1 := HT.out; have h2 := HN.out; omega), hid (HF.out.trans' ((Fr.refl (fun _ => False) wr).drewN _))⟩, by simp [intOf]; have := HLT.out; omega⟩
    · have hltI : ¬ (k : Int) < R.names.length := by omega
      obtain rfl : k = R.names.length := by omega
      rw [List.take_length] at HN
      clear hlt hk
      go_wp2_with fail
      go_ret
      exact ⟨by rw [← HN.out]; rfl, HF.out⟩
end
section
open Go.RowKit
variable {w w' w2 : World} {base x : Nat} {nm : ByteArray}

theorem OB.snoc {base : Nat} {w : World} {v : Value} {l m : List UInt8} (h : w.ownsRow base 5 1 v (l.length + m.length) (bV l ++ bV m)) : OB base w v (l ++ m) := by
  simpa [OB, bV] using h
theorem rbytes_copy (D : Nat → Prop) (v : Value) (l : List UInt8) (w : World) (hB : Bs D w v l) (hl : l.length ≤ 1073741824) :
    Calls Tryz.prog 48 #[v] w fun e w' => ∃ v', e = .returned v' ∧ OB w.heap.size w' v' l ∧ Fr (fun _ => False) w w' := by
  obtain ⟨a, c, rfl, hlc, hcm, hk⟩ := hB
  have hm' : l.length ≤ 1073741824 := hl
  have HK := hid hk
  clear hk
  obtain ⟨ii, i1, i2, i3, i4⟩ := info_parts Tryz.info_byte
  go_enter Tryz.func48, Tryz.ntmps48
  go_wp2_with (at_make; refine wpList_make_own _ rfl _ _ 32 rfl w.heap.size 5 ii (.int .u8 0) 1 Tryz.underlying32 i1 i2 i3 .i64 .i64 _ l.length rfl rfl rfl (by rw [i4]; omega) (by unfold maxLen; omega) (Nat.le_refl _) ?_; intro W hown0 hgrow0)
  have hF0 : Fr (fun _ => False) w W := (Fr.of_grownBy hgrow0).mono (fun _ _ e => by cases e)
  have HF0 := hid hF0; have HO0 := hid hown0
  clear hF0 hown0 hgrow0 i1 i2 i3 i4
  go_loopw [3, 4] (fun v i wr => ∃ k : Nat, k ≤ l.length ∧ i = .int .i64 k ∧ OB w.heap.size wr v (l.take k) ∧ Fr (fun _ => False) w wr) (fun _ i _ => l.length - (intOf i).toNat)
  case atStart => exact ⟨0, Nat.zero_le _, rfl, by rw [List.take_zero]; exact HO0.out, HF0.out⟩
  case round =>
    clear HO0 HF0
    obtain ⟨k, hk, rfl, hO, hf⟩ := hrel
    by_cases hlt : k < l.length
    · obtain ⟨b, o, rfl, hDb, hcw⟩ := HK.out k hlt
      have hcr := hf.cell hcw not_false
      have ht := take_snoc l k 0 hlt
      have htl : (l.take k).length = k := by simp; omega
      have hn1 : (l.take k).length + 1 ≤ 1099511627776 := by omega
      generalize l.getD k 0 = ch at *
      have hbs : w.heap.size ≤ (wr.alloc (.cells #[.int .u8 ch.toNat] 5)).heap.size := by have := hf.size; simp; omega
      have hown := World.ownsRow.alloc hO (.cells #[.int .u8 ch.toNat] 5)
      have hc1 := cell_new1 wr (.int .u8 ch.toNat) 5 (0, 0)
      have HT := hid ht; have HTL := hid htl; have HO := hid hO; have HF := hid hf; have HOW := hid hown; have HC1 := hid hc1; have HBS := hid hbs; have HN1 := hid hn1
      clear ht htl hO hf hcw hown hc1 hbs hn1
      go_wp2_with (at_builtin; go_must (refine wpList_append1 rfl (.tmp 14) (.tmp 19) 32 rfl 5 (.int .u8 0) 1 Tryz.underlying32 Tryz.info_byte rfl _ rfl w.heap.size (l.take k).length (bV (l.take k)) HOW.out wr.heap.size 1 (.int .u8 ch.toNat) rfl HC1.out rfl HN1.out (by decide) HBS.out ?_))
      intro g cap w1 ho hf1 _
      have hF1 := OB.fr (HF.out.alloc (.cells #[.int .u8 ch.toNat] 5)) HOW.out hf1
      have hO1 : OB w.heap.size w1 (.slice (some ⟨g, 0, none⟩) (k + 1) cap) (l.take k ++ [ch]) := OB.snoc (by rw [HTL.out]; exact ho)
      rw [← HT.out] at hO1
      have HF1 := hid hF1; have HO1 := hid hO1
      clear ho hf1 hF1 hO1
      go_wp2
      go_roundw
      case rel => exact ⟨k + 1, by omega, by go_num, HO1.out, HF1.out⟩
      case measure => simp [intOf]; omega
    · obtain rfl : k = l.length := by omega
      rw [List.take_length] at hO
      have HO := hid hO; have HF := hid hf
      clear hO hf
      go_wp2
      go_ret
      exact ⟨_, rfl, HO.out, HF.out⟩
theorem Tryz.info_txt : (Tryz.prog.info? 9).map (fun i => (i.zero, i.size, i.bytes)) = some (some (.string ByteArray.empty), 1, 16) := by kernel_rfl
def RS.new (room : Int) : RS := ⟨room, [], [], [], [], 0, false, 0⟩
set_option maxRecDepth 100000 in
theorem rnew_no (room : Int) (hok : newOk room = false) (hr : -9223372036854775808 ≤ room ∧ room ≤ 9223372036854775807) :
    Calls Tryz.prog 6 #[.int .i64 room] w fun e w' => e = .returned (.pointer none) ∧ w = w' := by
  by_cases h1 : room < 1
  · clear hok
    go_enter Tryz.func6, Tryz.ntmps6
    go_wp2_with fail
    go_ret
    exact ⟨rfl, rfl⟩
  have h2 : 4194304 < room := by
    unfold newOk at hok
    by_cases h2 : 4194304 < room
    · exact h2
    · rw [decide_eq_true (by omega), decide_eq_true (by omega)] at hok
      cases hok
  clear hok
  go_enter Tryz.func6, Tryz.ntmps6
  go_wp2_with fail
  go_ret
  exact ⟨rfl, rfl⟩
set_option maxRecDepth 100000 in
theorem rnew_ok (room : Int) (hb : base ≤ w.heap.size) (hok : newOk room = true) :
    Calls Tryz.prog 6 #[.int .i64 room] w fun e w' => e = .returned (.pointer (some ⟨w.heap.size, 0, none⟩)) ∧ RAt base w' w.heap.size (RS.new room) ∧ Fr (fun _ => False) w w' := by
  unfold newOk at hok
  simp only [Bool.and_eq_true, decide_eq_true_eq] at hok
  have h1 : ¬ room < 1 := by omega
  have h2 : ¬ 4194304 < room := by omega
  have hrow := heap_alloc_new w (.cells #[.int .i64 room, .slice none 0 0, .slice none 0 0, .slice none 0 0, .slice none 0 0, .int .i64 0, .bool false, .int .i64 0] 67)
  have hfa := (Fr.refl (fun _ => False) w).alloc (.cells #[.int .i64 room, .slice none 0 0, .slice none 0 0, .slice none 0 0, .slice none 0 0, .int .i64 0, .bool false, .int .i64 0] 67)
  have hra : RAt base (w.alloc (.cells #[.int .i64 room, .slice none 0 0, .slice none 0 0, .slice none 0 0, .slice none 0 0, .int .i64 0, .bool false, .int .i64 0] 67)) w.heap.size (RS.new room) :=
    ⟨_, _, _, _, [], [], hrow, rfl, World.ownsRow_nil _ _ _ _, (fun y hy => by cases hy), Ns.nil _, Ns.nil _, rfl, World.ownsRow_nil _ _ _ _, (fun i v hv => by simp at hv), hb⟩
  have HFA := hid hfa; have HRA := hid hra
  clear hok hrow hfa hra hb
  go_enter Tryz.func6, Tryz.ntmps6
  go_wp2_with fail
  go_ret
  exact ⟨rfl, HRA.out, HFA.out⟩
def RS.arm (R : RS) (n : Int) : RS := { R with fuse := n.toNat }
set_option maxRecDepth 100000 in
theorem rarm_any {R : RS} (h : RAt base w x R) (n : Int) (hn : n ≤ 9223372036854775807) :
    Calls Tryz.prog 25 #[.pointer (some ⟨x, 0, none⟩), .int .i64 n] w fun e w' => e = .returned (.tuple #[]) ∧ RAt base w' x (R.arm n) ∧ Fr (RK base w) w w' := by
  obtain ⟨fv, nv, kv, lv, L, G, h⟩ := h
  obtain ⟨-, -, -, -, -, c5, -, -, fz⟩ := h.cell
  have f5 := fz 5
  have hm : max n 0 = (n.toNat : Int) := by omega
  have hx5 := setCell_row 5 (.int .i64 (n.toNat : Int)) h.heap
  simp only [List.setIfInBounds_toArray, List.set_cons_zero, List.set_cons_succ] at hx5
  have hfr := (Fr.refl (fun k => k = x) w).setCell (p := ⟨x, 5, none⟩) (.inl rfl) (.int .i64 (n.toNat : Int))
  have HR := hid (h.turn (R' := R.arm n) hfr rfl rfl hx5 h.names h.kept); have HF := hid (hfr.rk h)
  generalize (n.toNat : Int) = q at *
  clear h fz hx5 hfr
  go_enter Tryz.func25, Tryz.ntmps25
  go_wp2_with fail
  go_end0
  exact ⟨rfl, ⟨_, _, _, _, _, _, HR.out⟩, HF.out⟩
/-- Len: how many bytes, how many are synced, the code. -/
def RS.lenC (R : RS) (nm : ByteArray) : Nat := if R.off then 110 else if lk R.names nm = none then 107 else 0
def RS.fl (R : RS) (nm : ByteArray) : List UInt8 × Nat := match lk R.names nm with
  | some f => R.files.getD f ([], 0)
  | none => ([], 0)
def RS.lenV (R : RS) (nm : ByteArray) : List UInt8 × Nat := if R.off then ([], 0) else R.fl nm
theorem lk_in {l : Nm} {nm : ByteArray} {f : Nat} (h : lk l nm = some f) : ∃ s, (s, f) ∈ l := by
  unfold lk at h
  cases hf : l.find? (fun p => decide (p.1 = nm)) with
  | none => rw [hf] at h; cases h
  | some p =>
    rw [hf] at h
    simp only [Option.map_some, Option.some.injEq] at h
    exact ⟨p.1, by rw [← h]; exact List.mem_of_find?_eq_some hf⟩
set_option maxRecDepth 100000 in
set_option maxHeartbeats 1600000 in
theorem rlen_any {R : RS} (h : RAt base w x R) (hb : R.Ok) :
    Calls Tryz.prog 60 #[.pointer (some ⟨x, 0, none⟩), .string nm] w fun e w' => e = .returned (.tuple #[.int .i64 ((R.lenV nm).1.length : Int), .int .i64 ((R.lenV nm).2 : Int), .int .i64 (R.lenC nm : Int)]) ∧ Fr (fun _ => False) w w' := by
  have hfi := rfind_any (nm := nm) h (by have := hb.nm.1; omega)
  obtain ⟨fv, nv, kv, lv, L, G, h⟩ := h
  obtain ⟨-, c1, -, -, -, -, c6, -⟩ := h.cell
  by_cases hd : R.off = true
  · have e1 : R.lenC nm = 110 := by unfold RS.lenC; rw [if_pos hd]
    have e2 : R.lenV nm = ([], 0) := by unfold RS.lenV; rw [if_pos hd]
    rw [e1, e2]
    rw [hd] at c6
    clear hfi h hb e1 e2 hd
    go_enter Tryz.func60, Tryz.ntmps60
    go_wp2_with fail
    go_ret3
    exact ⟨rfl, Fr.refl _ _⟩
  have hd0 : R.off = false := by simpa using hd
  rw [hd0] at c6
  cases hl : lk R.names nm with
  | none =>
    have e1 : R.lenC nm = 107 := by unfold RS.lenC; rw [if_neg hd, if_pos hl]
    have e2 : R.lenV nm = ([], 0) := by unfold RS.lenV RS.fl; rw [if_neg hd, hl]
    rw [e1, e2]
    rw [hl] at hfi
    have HFI := hid hfi
    clear hfi h hb e1 e2 hd hd0 hl
    unfold fnd at HFI
    go_enter Tryz.func60, Tryz.ntmps60
    go_wp2_with fail
    refine HFI.out.mono ?_
    rintro e w1 ⟨rfl, rfl⟩
    go_wp2_with fail
    go_ret3
    exact ⟨rfl, Fr.refl _ _⟩
  | some f =>
    have e1 : R.lenC nm = 0 := by unfold RS.lenC; rw [if_neg hd, if_neg (by rw [hl]; simp)]
    have e2 : R.lenV nm = R.files.getD f ([], 0) := by unfold RS.lenV RS.fl; rw [if_neg hd, hl]
    rw [e1, e2]
    rw [hl] at hfi
    unfold fnd at hfi
    obtain ⟨s, hs⟩ := lk_in hl
    have hfl := (hb.nm.2 _ hs).2
    dsimp only at hfl
    obtain ⟨g, cap, v, hfv, hll, hLi, hfb, d1, d2, -⟩ := h.file hfl
    obtain ⟨va, vc, hv, -⟩ := id hfb
    dsimp only at hv
    subst hv
    subst hfv
    have hmc := h.cap
    have hmI : (0 : Int) ≤ f ∧ (f : Int) < L.length := by omega
    have hf0 : ¬ (f : Int) < 0 := by omega
    generalize R.files.getD f ([], 0) = y at *
    have HFI := hid hfi
    clear hfi h hb e1 e2 hd hd0 hl hs hfl hll hLi hfb
    go_enter Tryz.func60, Tryz.ntmps60
    go_wp2_with fail
    refine HFI.out.mono ?_
    rintro e w1 ⟨rfl, rfl⟩
    go_wp2_with (go_quiet (fail))
    go_ret3
    exact ⟨rfl, (Fr.refl _ _).drewN _⟩
end
section
open Go.RowKit
variable {w w' w2 : World} {base x : Nat} {nm : ByteArray}

set_option maxRecDepth 100000 in
set_option maxHeartbeats 1600000 in
theorem rlist_any {R : RS} (h : RAt base w x R) (hb : R.names.length ≤ 100000) :
    Calls Tryz.prog 63 #[.pointer (some ⟨x, 0, none⟩)] w fun e w' => ∃ v, e = .returned v ∧ w'.ownsRow w.heap.size 9 1 v (R.names.map (·.1)).length (sV (R.names.map (·.1))) ∧ Fr (fun _ => False) w w' := by
  obtain ⟨fv, nv, kv, lv, L, G, h⟩ := h
  obtain ⟨-, -, c2, -⟩ := h.cell
  obtain ⟨a, c, rfl, h1, h2, hk⟩ := id h.names
  have hml : R.names.length ≤ 9223372036854775807 := Nat.le_trans h1 h2
  have HK := hid h.names; have C2 := hid c2; have HB := hid hb
  obtain ⟨l, hl⟩ : ∃ l, R.names = l := ⟨_, rfl⟩
  rw [hl] at HK HB C2 c2 hml ⊢
  obtain ⟨wn, hwn⟩ : ∃ wn, w.heap.size = wn := ⟨_, rfl⟩
  have HWN := hid hwn
  clear h hk hb h1 h2 hl hwn c2
  go_enter Tryz.func63, Tryz.ntmps63
  go_wp2_with fail
  go_loopw [3, 4] (fun ov iv wr => ∃ (k : Nat) (a' : Option Addr) (c' : Nat), k ≤ l.length ∧ iv = .int .i64 k ∧ ov = .slice a' k c' ∧ Hid (wr.ownsRow wn 9 1 (.slice a' k c') k (sV ((l.take k).map (·.1)))) ∧ Hid (Fr (fun _ => False) w wr)) (fun _ iv _ => l.length - (intOf iv).toNat)
  case atStart => exact ⟨0, none, 0, Nat.zero_le _, rfl, rfl, hid (World.ownsRow_nil _ _ _ _), hid (Fr.refl _ _)⟩
  case round =>
    obtain ⟨k, a', c', hkl, rfl, rfl, HO, HF⟩ := hrel
    have c2 := HF.out.cell C2.out not_false
    by_cases hlt : k < l.length
    · have hltI : (k : Int) < l.length := by omega
      obtain ⟨a0, c0, e0, -, -, hcc⟩ := HK.out.fr HF.out
      simp only [Value.slice.injEq] at e0
      obtain ⟨rfl, -, rfl⟩ := e0
      obtain ⟨b, o, rfl, -, d1, -⟩ := hcc k hlt
      have hw1 : IntKind.i64.wrap ((k : Int) + 1) = (k : Int) + 1 := IntWalk.i64_in _ (by have := HB.out; omega)
      have htk : sV ((l.take (k + 1)).map (·.1)) = sV ((l.take k).map (·.1)) ++ [.string (l.getD k nd).1] := by
        rw [List.take_add_one, List.map_append, show l[k]? = some (l.getD k nd) by simp [List.getD, List.getElem?_eq_getElem hlt]]
        simp [sV]
      have HTK := hid htk; have HLT := hid hlt
      obtain ⟨s, hs⟩ : ∃ s, (l.getD k nd).1 = s := ⟨_, rfl⟩
      rw [hs] at d1 HTK
      have hfa := (Fr.refl (fun _ => False) wr).alloc (.cells #[.string s] 9)
      have HOA := hid (hfa.own HO.out fun _ _ => not_false)
      have HC1 := hid (cell_new1 wr (.string s) 9 (0, 0))
      have HBS := hid (show wn ≤ (wr.alloc (.cells #[.string s] 9)).heap.size from by have := HWN.out; have := HF.out.size; have := hfa.size; omega)
      have HFA := hid hfa
      have HN1 := hid (show k + 1 ≤ 1099511627776 by have := HB.out; omega)
      clear hcc htk hlt hkl hs hfa
      go_wp2_with (at_builtin; go_must (refine wpList_append1 rfl (.tmp 14) (.tmp 23) 106 rfl 9 (.string ByteArray.empty) 16 Tryz.underlying106 Tryz.info_txt rfl (.slice a' k c') rfl wn k (sV ((l.take k).map (·.1))) HOA.out wr.heap.size 1 (.string s) rfl HC1.out rfl HN1.out (by decide) HBS.out ?_))
      intro g cap w3 ho3 hf3 _
      have HO3 := hid (show w3.ownsRow wn 9 1 (.slice (some ⟨g, 0, none⟩) (k + 1) cap) (k + 1) (sV ((l.take (k + 1)).map (·.1))) by rw [HTK.out, List.map_take]; exact ho3)
      have HF3 := hid ((HF.out.trans' HFA.out).trans (U := fun _ => False) hf3 (fun _ _ h => h) fun q hq e => by
        have h1 := (HOA.out.lt q e.symm).1
        have h2 := HWN.out
        omega)
      clear ho3 hf3
      go_wp2_with fail
      exact ⟨⟨k + 1, _, _, by have := HLT.out; omega, by go_num, rfl, HO3, HF3⟩, by simp [intOf]; have := HLT.out; omega⟩
    · have hltI : ¬ (k : Int) < l.length := by omega
      obtain rfl : k = l.length := by omega
      rw [List.take_length] at HO
      clear hlt hkl
      go_wp2_with fail
      go_ret
      exact ⟨_, rfl, by rw [HWN.out]; exact HO.out, HF.out⟩
/-- Read. -/
def RS.readC (R : RS) (nm : ByteArray) (o n : Int) : Nat := if R.lenC nm ≠ 0 then R.lenC nm else if o < 0 ∨ n < 0 ∨ ((R.fl nm).1.length : Int) < o ∨ ((R.fl nm).1.length : Int) - o < n then 105 else 0
set_option maxRecDepth 100000 in
set_option maxHeartbeats 3200000 in
theorem rread_any {R : RS} (h : RAt base w x R) (hb : R.Ok) (o n : Int) (ho : -9223372036854775808 ≤ o ∧ o ≤ 9223372036854775807) (hn : -9223372036854775808 ≤ n ∧ n ≤ 9223372036854775807) :
    Calls Tryz.prog 29 #[.pointer (some ⟨x, 0, none⟩), .string nm, .int .i64 o, .int .i64 n] w fun e w' => Fr (fun _ => False) w w' ∧ ∃ v, e = .returned (.tuple #[v, .int .i64 (R.readC nm o n : Int)]) ∧ OB w.heap.size w' v (if R.readC nm o n = 0 then ((R.fl nm).1.take (o + n).toNat).drop o.toNat else []) := by
  have hfi := rfind_any (nm := nm) h (by have := hb.nm.1; omega)
  obtain ⟨fv, nv, kv, lv, L, G, h⟩ := h
  obtain ⟨-, c1, -, -, -, -, c6, -⟩ := h.cell
  by_cases hd : R.off = true
  · have e1 : R.readC nm o n = 110 := by unfold RS.readC RS.lenC; rw [if_pos hd]; rfl
    rw [e1, if_neg (by decide)]
    rw [hd] at c6
    clear hfi h hb e1 hd ho hn
    go_enter Tryz.func29, Tryz.ntmps29
    go_wp2_with fail
    go_ret2
    exact ⟨Fr.refl _ _, _, rfl, World.ownsRow_nil _ _ _ _⟩
  have hd0 : R.off = false := by simpa using hd
  rw [hd0] at c6
  cases hl : lk R.names nm with
  | none =>
    have e1 : R.readC nm o n = 107 := by unfold RS.readC RS.lenC; rw [if_neg hd, if_pos hl]; rfl
    rw [e1, if_neg (by decide)]
    rw [hl] at hfi
    have HFI := hid hfi
    clear hfi h hb e1 hd hd0 hl ho hn
    unfold fnd at HFI
    go_enter Tryz.func29, Tryz.ntmps29
    go_wp2_with fail
    refine HFI.out.mono ?_
    rintro e w1 ⟨rfl, rfl⟩
    go_wp2_with fail
    go_ret2
    exact ⟨Fr.refl _ _, _, rfl, World.ownsRow_nil _ _ _ _⟩
  | some f =>
    have e0 : R.lenC nm = 0 := by unfold RS.lenC; rw [if_neg hd, if_neg (by rw [hl]; simp)]
    have e2 : R.fl nm = R.files.getD f ([], 0) := by unfold RS.fl; rw [hl]
    have e1 : R.readC nm o n = if o < 0 ∨ n < 0 ∨ ((R.fl nm).1.length : Int) < o ∨ ((R.fl nm).1.length : Int) - o < n then 105 else 0 := by unfold RS.readC; rw [if_neg (by rw [e0]; simp)]
    rw [e1, e2]
    rw [hl] at hfi
    unfold fnd at hfi
    obtain ⟨s, hs⟩ := lk_in hl
    have hfl := (hb.nm.2 _ hs).2
    dsimp only at hfl
    obtain ⟨g, cap, v, hfv, hll, hLi, hfb, d1, d2, -⟩ := h.file hfl
    obtain ⟨va, vc, hv, hvl, hvm, -⟩ := id hfb
    dsimp only at hv hvl
    subst hv
    subst hfv
    have hmc := h.cap
    have hlb := (hb.fb.2 (R.files.getD f ([], 0)) (by rw [List.getD_eq_getElem?_getD, List.getElem?_eq_getElem hfl]; exact List.getElem_mem hfl)).1
    have hmI : (0 : Int) ≤ f ∧ (f : Int) < L.length := by omega
    have hf0 : ¬ (f : Int) < 0 := by omega
    generalize R.files.getD f ([], 0) = y at *
    obtain ⟨l, sy⟩ := y
    dsimp only at *
    have HFI := hid hfi; have HFB := hid hfb; have HLB := hid hlb
    clear hfi h hb e0 e1 e2 hd hd0 hl hs hfl hll hLi hfb d2 hlb
    by_cases o1 : o < 0
    · rw [if_pos (.inl o1), if_neg (by decide)]
      go_enter Tryz.func29, Tryz.ntmps29
      go_wp2_with fail
      refine HFI.out.mono ?_
      rintro e w1 ⟨rfl, rfl⟩
      go_wp2_with fail
      go_ret2
      exact ⟨Fr.refl _ _, _, rfl, World.ownsRow_nil _ _ _ _⟩
    by_cases n1 : n < 0
    · rw [if_pos (.inr (.inl n1)), if_neg (by decide)]
      go_enter Tryz.func29, Tryz.ntmps29
      go_wp2_with fail
      refine HFI.out.mono ?_
      rintro e w1 ⟨rfl, rfl⟩
      go_wp2_with fail
      go_ret2
      exact ⟨Fr.refl _ _, _, rfl, World.ownsRow_nil _ _ _ _⟩
    by_cases o2 : (l.length : Int) < o
    · rw [if_pos (.inr (.inr (.inl o2))), if_neg (by decide)]
      go_enter Tryz.func29, Tryz.ntmps29
      go_wp2_with fail
      refine HFI.out.mono ?_
      rintro e w1 ⟨rfl, rfl⟩
      go_wp2_with fail
      go_ret2
      exact ⟨Fr.refl _ _, _, rfl, World.ownsRow_nil _ _ _ _⟩
    have wsub : IntKind.i64.wrap ((l.length : Int) - o) = (l.length : Int) - o := IntWalk.i64_in _ (by have := HLB.out; omega)
    by_cases n2 : (l.length : Int) - o < n
    · rw [if_pos (.inr (.inr (.inr n2))), if_neg (by decide)]
      go_enter Tryz.func29, Tryz.ntmps29
      go_wp2_with fail
      refine HFI.out.mono ?_
      rintro e w1 ⟨rfl, rfl⟩
      go_wp2_with fail
      go_ret2
      exact ⟨Fr.refl _ _, _, rfl, World.ownsRow_nil _ _ _ _⟩
    rw [if_neg (by omega), if_pos rfl]
    obtain ⟨oo, rfl⟩ : ∃ k : Nat, o = (k : Int) := ⟨o.toNat, by omega⟩
    obtain ⟨nn, rfl⟩ : ∃ k : Nat, n = (k : Int) := ⟨n.toNat, by omega⟩
    have k5 : oo + nn ≤ l.length := by omega
    have w2 : IntKind.i64.wrap ((oo : Int) + nn) = (oo : Int) + nn := IntWalk.i64_in _ (by have := HLB.out; omega)
    have hte : ((oo : Int) + nn).toNat = oo + nn := by omega
    rw [hte, Int.toNat_natCast]
    clear hte
    go_enter Tryz.func29, Tryz.ntmps29
    go_wp2_with fail
    refine HFI.out.mono ?_
    rintro e w1 ⟨rfl, rfl⟩
    go_wp2_with fail
    all_goals
      refine (rbytes_copy _ _ ((l.take (oo + nn)).drop oo) w (HFB.out.sub oo (oo + nn) (by omega) k5 (by omega) (by omega) (by split <;> first | rfl | (exfalso; omega))) (by have := HLB.out; simp; omega)).mono ?_
      rintro e w3 ⟨v3, rfl, ho3, hf3⟩
      have HO3 := hid ho3; have HF3 := hid hf3
      clear hf3 ho3
      go_wp2_with fail
      go_ret2
      exact ⟨HF3.out, _, rfl, HO3.out⟩
/-- note: the names, and one more in the log. -/
def RS.note (R : RS) (l : Nm) : RS := { R with names := l, log := R.log ++ [l], calls := R.calls + 1 }
theorem Tryz.info_nms : (Tryz.prog.info? 64).map (fun i => (i.zero, i.size, i.bytes)) = some (some (.slice none 0 0), 1, 24) := by kernel_rfl
end
section
open Go.RowKit
variable {w w' w2 : World} {base x : Nat} {nm : ByteArray}

set_option maxRecDepth 100000 in
set_option maxHeartbeats 3200000 in
theorem note_any {R : RS} (h : RAt base w x R) (hc : R.calls ≤ 1000000) (hg : R.log.length ≤ 1000000) (v : Value) (l : Nm) (hv : Ns w v l) (hl : l.length ≤ 100000) (hbw : base ≤ w.heap.size) :
    Calls Tryz.prog 43 #[.pointer (some ⟨x, 0, none⟩), v] w fun e w' => e = .returned (.tuple #[]) ∧ RAt base w' x (R.note l) ∧ Fr (RK base w) w w' := by
  obtain ⟨fv, nv, kv, lv, L, G, h⟩ := h
  obtain ⟨av, cv, rfl, -, -⟩ := hv.len
  obtain ⟨-, -, c2, -, -, -, -, -, fz⟩ := h.cell
  have f2 := fz 2
  have hx2 := setCell_row 2 (.slice av l.length cv) h.heap
  simp only [List.setIfInBounds_toArray, List.set_cons_zero, List.set_cons_succ] at hx2
  have hfr := (Fr.refl (fun k => k = x) w).setCell (p := ⟨x, 2, none⟩) (.inl rfl) (.slice av l.length cv)
  have h1 := h.turn (R' := { R with names := l }) hfr rfl rfl hx2 hv h.kept
  have HRK := hid h.rk; have HLG := hid h.log
  have H1 := hid h1; have HF1 := hid (hfr.rk h); have HBW := hid (show base ≤ (w.setCell ⟨x, 2, none⟩ (.slice av l.length cv)).heap.size from Nat.le_trans hbw hfr.size)
  have hv1 := hv.frame hfr fun k ⟨cs, fz, hc⟩ e => by
    rw [(show k = x from e), h.heap] at hc
    simp only [Option.some.injEq, Obj.cells.injEq] at hc
    exact absurd hc.2.1 (by decide)
  have HV1 := hid hv1; have HC := hid hc; have HG := hid hg; have HL := hid hl
  clear h hv hc hg hl hx2 h1 hfr hv1 hbw fz
  go_enter Tryz.func43, Tryz.ntmps43
  go_upto_region 1 with fail
  clear c2 f2
  generalize w.setCell ⟨x, 2, none⟩ (.slice av l.length cv) = W at *
  obtain ⟨-, -, -, -, c4, -, -, -, -⟩ := H1.out.cell
  obtain ⟨al, cl, hlv, -⟩ := own_len H1.out.log
  have HGL := hid (show G.length = R.log.length from H1.out.gl)
  subst hlv
  have C4 := hid c4
  clear c4
  have hnm := rnames_any _ l W.drew (HV1.out.fr (Fr.refl (fun _ => False) W).drew) HL.out
  have HNM := hid hnm
  clear hnm
  have hXl : ¬ some x = (Value.slice al G.length cl).ownBlock := fun e => own_ne_cells H1.out.log H1.out.heap (by decide) x e.symm rfl
  have HXL := hid hXl
  have HWd := hid (Fr.refl (fun _ => False) W).drew
  refine wp_region_ord [(0, 0), (1, 0), (2, 0), (3, 0), (4, 0), (5, 0), (6, 1), (7, 1), (8, 1), (9, 1), (10, 1), (11, 1)] (fun w' => Fr (fun k => some k = (Value.slice al G.length cl).ownBlock) W w') (by kernel_rfl) (by kernel_rfl) (by kernel_rfl) rfl (fun _ _ d _ _ h => by cases d <;> exact h) (Fr.refl _ _).drew ?_
  iterate 4 (refine wpO_take ?_ rfl (by kernel_rfl) ?_ ?_; rotate_left; (· intro w' hS; go_simp; try with_reducible rfl); try simp only [Act.put, List.setIfInBounds_toArray, List.set_cons_zero, List.set_cons_succ])
  (refine wpO_take ?_ rfl (by kernel_rfl) ?_ ?_; rotate_left; (· intro w' hS; have d1 := hS.cell C4.out HXL.out; go_simp; try with_reducible rfl); try simp only [Act.put, List.setIfInBounds_toArray, List.set_cons_zero, List.set_cons_succ])
  (refine wpO_take ?_ rfl (by kernel_rfl) ?_ ?_; rotate_left; (· intro w' hS; go_simp; try with_reducible rfl); try simp only [Act.put, List.setIfInBounds_toArray, List.set_cons_zero, List.set_cons_succ])
  have HSZ := hid (show W.drew.heap.size = W.heap.size from rfl)
  clear hXl
  generalize W.drew = Wd at *
  refine wpO_run rfl (by kernel_rfl) (fun K hK => ?_); go_simp
  refine HNM.out.mono ?_
  rintro e w2 ⟨v2, rfl, ho2, hf2⟩
  have hf2w := HWd.out.trans' hf2
  refine hK _ _ (fun _ => hf2w.mono fun _ _ h => h.elim) ?_
  clear hK K
  try simp only [Act.put, List.setIfInBounds_toArray, List.set_cons_zero, List.set_cons_succ]
  obtain ⟨a2, c2, rfl, -⟩ := own_len ho2
  have hns2 := ho2.ns
  have hfa := (Fr.refl (fun _ => False) w2).alloc (.cells #[.slice a2 l.length c2] 64)
  have hf3w := hf2w.trans' hfa
  have hlog3 := hf3w.own H1.out.log fun _ _ => not_false
  have hcn2 := cells_newR w2 #[.slice a2 l.length c2] 64 (0, 0)
  have hone : ∀ y ∈ [Value.slice a2 l.length c2], y.oneCell' = true := by
    intro y hy
    simp only [List.mem_cons, List.not_mem_nil, or_false] at hy
    rw [hy]; rfl
  have hba : base ≤ (w2.alloc (.cells #[.slice a2 l.length c2] 64)).heap.size := Nat.le_trans (Nat.le_trans HBW.out (Nat.le_of_eq rfl)) hf3w.size
  have HF3 := hid hf3w; have HL3 := hid hlog3; have HCN2 := hid hcn2; have HONE := hid hone; have HBA := hid hba; have HNS3 := hid (hns2.fr hfa); have HFA := hid hfa
  clear ho2 hf2 hf2w hns2 hfa hf3w hlog3 hcn2 hone hba
  refine wpO_run rfl (by kernel_rfl) (fun K hK => ?_)
  go_simp
  refine hK _ _ (fun _ => HF3.out.mono fun _ _ h => h.elim) ?_
  clear hK K
  try simp only [Act.put, List.setIfInBounds_toArray, List.set_cons_zero, List.set_cons_succ]
  refine wpO_run rfl (by kernel_rfl) (fun K hK => ?_)
  refine wp_appendR (.tmp 12) (.tmp 15) 65 rfl 64 (.slice none 0 0) 1 24 Tryz.underlying65 Tryz.info_nms rfl (by decide) (.slice al G.length cl) rfl base G.length G HL3.out w2.heap.size 1 [.slice a2 l.length c2] rfl rfl HCN2.out HONE.out (by have := HG.out; have := HGL.out; omega) (by decide) HBA.out ?_
  intro g cap w4 ho4 hf4 hg4
  have hx4 := hf4.heap (HF3.out.heap H1.out.heap not_false) HXL.out
  have f4 : w4.frozen? ⟨x, 4, none⟩ = false := frozen_of_row _ _ _ _ _ hx4
  have c4' : w4.cell? ⟨x, 4, none⟩ = some (.slice al G.length cl) := by rw [cell_of_row _ _ _ _ _ _ hx4]; rfl
  have hf4w : Fr (fun k => some k = (Value.slice al G.length cl).ownBlock) W w4 := (HF3.out.mono fun _ _ h => h.elim).trans' hf4
  refine hK _ _ (fun _ => hf4w) ?_
  clear hK K
  try simp only [Act.put, List.setIfInBounds_toArray, List.set_cons_zero, List.set_cons_succ]
  have HX4 := hid hx4; have HO4 := hid ho4; have HF4 := hid hf4w; have HFO := hid hf4
  clear ho4 hf4 hg4 hx4 hf4w
  iterate 2
    refine wpO_run rfl (by kernel_rfl) (fun K hK => ?_)
    go_simp
    refine hK _ _ (last_skip (by kernel_rfl)) ?_
    clear hK K
    try simp only [Act.put, List.setIfInBounds_toArray, List.set_cons_zero, List.set_cons_succ]
  refine wpO_run rfl (by kernel_rfl) (fun K hK => ?_)
  go_simp
  refine hK _ _ (last_skip (by kernel_rfl)) ?_
  clear hK K
  try simp only [Act.put, List.setIfInBounds_toArray, List.set_cons_zero, List.set_cons_succ]
  refine wpO_end ?_
  obtain ⟨lv', hlv⟩ : ∃ v, v = Value.slice (some ⟨g, 0, none⟩) (G.length + 1) cap := ⟨_, rfl⟩
  have hx5 := setCell_row 4 lv' HX4.out
  simp only [List.setIfInBounds_toArray, List.set_cons_zero, List.set_cons_succ] at hx5
  have ho4 := HO4.out
  rw [← hlv] at ho4
  have hne5 := own_ne_cells ho4 HX4.out (by decide)
  rw [← hlv]
  have hf45 := (Fr.refl (fun k => k = x) w4).setCell (p := ⟨x, 4, none⟩) (.inl rfl) lv'
  have ho5 := hf45.own ho4 hne5
  have c7 : (w4.setCell ⟨x, 4, none⟩ lv').cell? ⟨x, 7, none⟩ = some (.int .i64 (R.calls : Int)) := by rw [cell_of_row _ _ _ _ _ _ hx5]; rfl
  have f7 : (w4.setCell ⟨x, 4, none⟩ lv').frozen? ⟨x, 7, none⟩ = false := frozen_of_row _ _ _ _ _ hx5
  have hx6 := setCell_row 7 (.int .i64 ((R.calls : Int) + 1)) hx5
  simp only [List.setIfInBounds_toArray, List.set_cons_zero, List.set_cons_succ] at hx6
  have HX6 := hid hx6; have HO5 := hid ho5; have HF45 := hid hf45
  have hw7 : IntKind.i64.wrap ((R.calls : Int) + 1) = (R.calls : Int) + 1 := IntWalk.i64_in _ (by have := HC.out; omega)
  have HO4' := hid ho4; have HNE := hid hne5
  clear hlv hx5 ho4 hne5 hf45 ho5 hx6 f4 c4'
  generalize w4.setCell ⟨x, 4, none⟩ lv' = w5 at *
  go_wp2_with fail
  go_end0
  have hf56 := (Fr.refl (fun k => k = x) w5).setCell (p := ⟨x, 7, none⟩) (.inl rfl) (.int .i64 ((R.calls : Int) + 1))
  have hf46 := HF45.out.trans' hf56
  have hfin := HF4.out.trans (U := fun k => k = x ∨ some k = (Value.slice al G.length cl).ownBlock) hf46 (fun _ _ h => .inr h) (fun _ _ h => .inl h)
  have hty : ∀ k cs t fz, W.heap[k]? = some (.cells cs t fz) → t ≠ 67 → t ≠ 64 → ¬ (k = x ∨ some k = (Value.slice al G.length cl).ownBlock) := fun k cs t fz hc h1 h2 e => by
    rcases e with e | e
    · rw [e, H1.out.heap] at hc
      simp only [Option.some.injEq, Obj.cells.injEq] at hc
      exact h1 hc.2.1.symm
    · exact own_ne_cells H1.out.log hc (fun e' => h2 e'.symm) k e.symm rfl
  have hB : ∀ k, BB W k → ¬ (k = x ∨ some k = (Value.slice al G.length cl).ownBlock) := fun k ⟨cs, fz, hc⟩ => hty k cs _ fz hc (by decide) (by decide)
  have hN : ∀ k, NB W k → ¬ (k = x ∨ some k = (Value.slice al G.length cl).ownBlock) := fun k ⟨cs, fz, hc⟩ => hty k cs _ fz hc (by decide) (by decide)
  have hN4 : ∀ k, NB w4 k → ¬ k = x := fun k ⟨cs, fz, hc⟩ e => by
    rw [e, HX4.out] at hc
    simp only [Option.some.injEq, Obj.cells.injEq] at hc
    exact absurd hc.2.1 (by decide)
  have hN3 : ∀ k, NB (w2.alloc (.cells #[.slice a2 l.length c2] 64)) k → ¬ some k = (Value.slice al G.length cl).ownBlock := fun k ⟨cs, fz, hc⟩ e => own_ne_cells HL3.out hc (by decide) k e.symm rfl
  refine ⟨rfl, ⟨_, _, _, lv', L, G ++ [.slice a2 l.length c2], ⟨?_, H1.out.fm, hfin.own H1.out.files fun k hk => ?_, fun y hy => ((H1.out.bytes y hy).frame hfin hB).mono fun k _ hk => hk.frame hfin (hB k hk), HV1.out.frame hfin hN, H1.out.kept.frame hfin hN, by show (G ++ _).length = (R.log ++ [l]).length; simp; exact HGL.out, ?_, fun i v hv => ?_, H1.out.lo⟩⟩, HF1.out.trans (U := RK base w) (T := fun k => k = x ∨ some k = (Value.slice al G.length cl).ownBlock) hfin (fun _ _ h => h) fun k hk e => ?_⟩
  · exact HX6.out
  · obtain ⟨cs, hc⟩ := own_block H1.out.files hk
    exact hty _ _ _ _ hc (by decide) (by decide)
  · have ho6 := hf56.own HO5.out HNE.out
    rw [List.length_append]
    exact ho6
  · by_cases hi : i < G.length
    · rw [List.getElem?_append_left hi] at hv
      obtain ⟨e1, e2⟩ := H1.out.each i v hv
      have e3 : (R.log ++ [l]).getD i [] = R.log.getD i [] := by
        have : i < R.log.length := by have := HGL.out; omega
        simp [List.getD, List.getElem?_append_left this]
      refine ⟨?_, e2⟩
      show Ns _ v ((R.log ++ [l]).getD i [])
      rw [e3]
      exact e1.frame hfin hN
    · have hi' : i = G.length := by
        have := (List.getElem?_eq_some_iff.1 hv).1
        rw [List.length_append] at this
        simp only [List.length_cons, List.length_nil] at this
        omega
      subst hi'
      rw [List.getElem?_append_right (Nat.le_refl _), Nat.sub_self] at hv
      simp only [List.getElem?_cons_zero, Option.some.injEq] at hv
      subst hv
      have e3 : (R.log ++ [l]).getD G.length [] = l := by
        rw [HGL.out]
        simp [List.getD]
      refine ⟨?_, rfl⟩
      show Ns _ _ ((R.log ++ [l]).getD G.length [])
      rw [e3]
      exact (HNS3.out.frame HFO.out hN3).frame hf46 hN4
  · rcases e with e | e
    · rw [e]; exact HRK.out
    · obtain ⟨cs, hc⟩ := own_block HLG.out e.symm
      exact ⟨(HLG.out.lt k e.symm).1, cs, _, _, hc, .inr (.inr rfl)⟩
end
section
section
variable {P : Program} {ops : Array Oper} {Q : Exit → Act → World → Prop} {tk : List Nat}

/-- It waits for all that are taken (tk). -/
def directE (ops : Array Oper) (i j : Nat) : Bool := ((ops[j]?).map fun o => o.after.any fun e => Region.binds .any e && e.on == i).getD false
def reachT (ops : Array Oper) : Nat → Nat → Nat → Bool
  | 0, _, _ => false
  | n + 1, i, j => directE ops i j || ((ops[j]?).map fun o => o.after.any fun e => Region.binds .any e && reachT ops n i e.on).getD false
def lastT (tk : List Nat) (ops : Array Oper) (j : Nat) : Bool := tk.all fun i => reachT ops ops.size i j
def Closed (ops : Array Oper) (listed : Array Bool) : Prop := ∀ k o, ops[k]? = some o → listed.getD k true = true → ∀ e ∈ o.after, Region.binds .any e = true → listed.getD e.on true = true
theorem reach_listed {ops : Array Oper} {listed : Array Bool} (hc : Closed ops listed) {i : Nat} : ∀ n k, (∀ o, ops[k]? = some o → ∀ e ∈ o.after, Region.binds .any e = true → listed.getD e.on true = true) → reachT ops n i k = true → listed.getD i true = true := by
  intro n
  induction n with
  | zero => intro k _ h; cases h
  | succ n ih =>
    intro k hk h
    unfold reachT at h
    rw [Bool.or_eq_true] at h
    rcases h with h | h
    · unfold directE at h
      cases ho : ops[k]? with
      | none => rw [ho] at h; cases h
      | some o =>
        rw [ho] at h
        simp only [Option.map_some, Option.getD_some, Array.any_eq_true', Bool.and_eq_true, beq_iff_eq] at h
        obtain ⟨e, he, hb, hon⟩ := h
        rw [← hon]
        exact hk o ho e he hb
    · cases ho : ops[k]? with
      | none => rw [ho] at h; cases h
      | some o =>
        rw [ho] at h
        simp only [Option.map_some, Option.getD_some, Array.any_eq_true', Bool.and_eq_true] at h
        obtain ⟨e, he, hb, hr⟩ := h
        exact ih e.on (fun o' ho' e' he' hb' => hc e.on o' ho' (hk o ho e he hb) e' he' hb') hr
theorem ready_listed {ops : Array Oper} {listed : Array Bool} {j : Nat} (hj : j ∈ Region.ready .any ops listed) : ∀ o, ops[j]? = some o → ∀ e ∈ o.after, Region.binds .any e = true → listed.getD e.on true = true := by
  intro o ho e he hb
  obtain ⟨-, oj, hoj, hall⟩ := mem_ready.1 hj
  obtain rfl : oj = o := Option.some.inj (hoj.symm.trans ho)
  have h1 := hall e he hb
  rcases Nat.lt_or_ge e.on listed.size with h' | h'
  · simp [h'] at h1 ⊢
    exact h1
  · simp [Array.getElem?_eq_none h'] at h1
theorem set_keeps {listed : Array Bool} {j k : Nat} (h : listed.getD k true = true) : (listed.setIfInBounds j true).getD k true = true := by
  by_cases e : j = k
  · subst e
    rcases Nat.lt_or_ge j listed.size with h' | h'
    · simp [h']
    · simp [Array.getElem?_eq_none h']
  · rw [getD_set_ne true e]; exact h
theorem closed_set {ops : Array Oper} {listed : Array Bool} {j : Nat} (hc : Closed ops listed) (hj : j ∈ Region.ready .any ops listed) : Closed ops (listed.setIfInBounds j true) := by
  intro k o ho hk e he hb
  by_cases hkj : j = k
  · subst hkj
    exact set_keeps (ready_listed hj o ho e he hb)
  · rw [getD_set_ne true hkj] at hk
    exact set_keeps (hc k o ho hk e he hb)
theorem closed_none (ops : Array Oper) : Closed ops (Array.replicate ops.size false) := by
  intro k o ho hk
  have hlt : k < ops.size := (Array.getElem?_eq_some_iff.1 ho).1
  simp [hlt] at hk

def wpAnyT (P : Program) (tk : List Nat) (ops : Array Oper) (Q : Exit → Act → World → Prop) (S : World → Prop) : Nat → Array Bool → Act → World → Prop
  | 0, listed, a, w => Region.ready .any ops listed = [] ∧ Q .normal a w
  | fuel + 1, listed, a, w =>
    (Region.ready .any ops listed = [] → Q .normal a w) ∧
    ∀ i ∈ Region.ready .any ops listed, wpOp P ops Q i (fun a' w' => (lastT tk ops i = false → S w') ∧ wpAnyT P tk ops Q S fuel (listed.setIfInBounds i true) a' w') a w

theorem wpAny_of_T {S : World → Prop} : ∀ (fuel : Nat) (listed : Array Bool) (a : Act) (w : World), wpAnyT P tk ops Q S fuel listed a w → wpAny P .any ops Q fuel listed a w
  | 0, _, _, _, h => h
  | fuel + 1, _, _, _, h => ⟨h.1, fun i hi => wpOp_mono (fun a' w' h' => wpAny_of_T fuel _ a' w' h'.2) (h.2 i hi)⟩
theorem wpAnyT_sub {S T : World → Prop} (hT : ∀ w, T w → S w) : ∀ (fuel : Nat) (listed : Array Bool) (a : Act) (w : World), wpAnyT P tk ops Q T fuel listed a w → wpAnyT P tk ops Q S fuel listed a w
  | 0, _, _, _, h => h
  | fuel + 1, _, _, _, h => ⟨h.1, fun i hi => wpOp_mono (fun a' w' h' => ⟨fun hl => hT _ (h'.1 hl), wpAnyT_sub hT fuel _ a' w' h'.2⟩) (h.2 i hi)⟩

theorem wpAnyT_first {S : World → Prop} {i : Nat} {oi : Oper} {v : Value} (hi : ops[i]? = some oi) (htk : i ∈ tk) (hsel : ∀ (j : Nat) (o : Oper) cs b, ops[j]? = some o → o.op ≠ .select cs b)
    (hQ : ∀ c a w, Q (.panic c) (a.put oi.dst v) w → Q (.panic c) a w) :
    ∀ (fuel : Nat) (listed : Array Bool) (a : Act) (w : World), Closed ops listed →
      (∀ j oj, ops[j]? = some oj → j ≠ i → listed.getD j true = false → (∀ e ∈ oj.after, Region.binds .any e = true → e.on ≠ i) → oi.apart ops oj = true) →
      i ∈ Region.ready .any ops listed → YieldsIf P ops S oi v a → S w →
      wpAnyT P tk ops Q S fuel (listed.setIfInBounds i true) (a.put oi.dst v) w → wpAnyT P tk ops Q S (fuel + 1) listed a w := by
  have wait : ∀ (listed : Array Bool), Closed ops listed → i ∈ Region.ready .any ops listed → ∀ j ∈ Region.ready .any ops listed, j ≠ i →
      ∃ oj, ops[j]? = some oj ∧ listed.getD j true = false ∧ (∀ e ∈ oj.after, Region.binds .any e = true → e.on ≠ i) ∧ lastT tk ops j = false := by
    intro listed hcl hr j hj hji
    obtain ⟨hjun, oj, hoj, hall⟩ := mem_ready.1 hj
    have hnot : ∀ e ∈ oj.after, Region.binds .any e = true → e.on ≠ i := fun e he hb heq => by
      have h1 := hall e he hb
      have h0 := (mem_ready.1 hr).1
      rw [heq] at h1
      rcases Nat.lt_or_ge i listed.size with h' | h'
      · simp [h'] at h0 h1; rw [h0] at h1; cases h1
      · simp [Array.getElem?_eq_none h'] at h1
    refine ⟨oj, hoj, hjun, hnot, ?_⟩
    unfold lastT
    rw [Bool.eq_false_iff]
    intro hl
    have h1 := (List.all_eq_true.1 hl) i htk
    have h2 := reach_listed hcl _ _ (ready_listed hj) h1
    rw [(mem_ready.1 hr).1] at h2
    cases h2
  intro fuel
  induction fuel with
  | zero =>
    intro listed a w _ _ hr hy hS H
    refine ⟨fun h => (by rw [h] at hr; cases hr), fun j hj => ?_⟩
    by_cases hji : j = i
    · subst hji; exact hy.wpOp hi hS ⟨fun _ => hS, H⟩
    · have h2 := ready_mono hj hji
      rw [H.1] at h2
      cases h2
  | succ fuel ih =>
    intro listed a w hcl hfree hr hy hS H
    refine ⟨fun h => (by rw [h] at hr; cases hr), fun j hj => ?_⟩
    by_cases hji : j = i
    · subst hji; exact hy.wpOp hi hS ⟨fun _ => hS, H⟩
    · obtain ⟨oj, hoj, hjun, hnot, hlast⟩ := wait listed hcl hr j hj hji
      have h1 := H.2 j (ready_mono hj hji)
      have h2 := wpOp_putIf hoj (hfree j oj hoj hji hjun hnot) (fun cs b => hsel i oi cs b hi) (fun cs b => hsel j oj cs b hoj) hQ hy h1
      have hfree' : ∀ k ok, ops[k]? = some ok → k ≠ i → (listed.setIfInBounds j true).getD k true = false →
          (∀ e ∈ ok.after, Region.binds .any e = true → e.on ≠ i) → oi.apart ops ok = true := fun k ok hk hki hun hno => by
        refine hfree k ok hk hki ?_ hno
        by_cases hjk : j = k
        · subst hjk; exact hjun
        · rw [getD_set_ne true hjk] at hun; exact hun
      refine wpOp_mono (fun a' w' h3 => ⟨fun hl => h3.2.1 hl, ih (listed.setIfInBounds j true) a' w' (closed_set hcl hj) hfree' (ready_mono hr (Ne.symm hji)) h3.1 (h3.2.1 hlast) ?_⟩) h2
      rw [Array.setIfInBounds_comm _ _ hji]
      exact h3.2.2

/-- What is done: take i (0), run i (1), a stronger condition (2). -/
def wpT (P : Program) (tk : List Nat) (ops : Array Oper) (Q : Exit → Act → World → Prop) : List (Nat × Nat) → (World → Prop) → Act → World → Prop
  | [], _, a, w => Q .normal a w
  | (i, 0) :: r, S, a, w => ∃ o v, ops[i]? = some o ∧ YieldsIf P ops S o v a ∧ wpT P tk ops Q r S (a.put o.dst v) w
  | (i, 1) :: r, S, a, w => wpOp P ops Q i (fun a' w' => (lastT tk ops i = false → S w') ∧ wpT P tk ops Q r S a' w') a w
  | (_, _) :: r, S, a, w => ∃ T : World → Prop, (∀ w', T w' → S w') ∧ T w ∧ wpT P tk ops Q r T a w
/-- The order may be. -/
def okT (tk : List Nat) (ops : Array Oper) : List (Nat × Nat) → Array Bool → Bool
  | [], listed => (Region.ready .any ops listed).isEmpty
  | (i, 0) :: r, listed => tk.contains i && Region.free .any ops listed i && (Region.ready .any ops listed).contains i && okT tk ops r (listed.setIfInBounds i true)
  | (i, 1) :: r, listed => Region.ready .any ops listed == [i] && (!lastT tk ops i || r.all fun p => p.2 == 1) && okT tk ops r (listed.setIfInBounds i true)
  | (_, _) :: r, listed => okT tk ops r listed
def lenT : List (Nat × Nat) → Nat
  | [] => 0
  | (_, 0) :: r => lenT r + 1
  | (_, 1) :: r => lenT r + 1
  | (_, _) :: r => lenT r

theorem wpT_sound (hs : Region.noSelect ops = true) (hQ : ∀ c a d v w, Q (.panic c) (Act.put a d v) w → Q (.panic c) a w) : ∀ (ord : List (Nat × Nat)) (S : World → Prop) (listed : Array Bool) (a : Act) (w : World),
    okT tk ops ord listed = true → Closed ops listed → S w ∨ (∀ p ∈ ord, p.2 = 1) → wpT P tk ops Q ord S a w → wpAnyT P tk ops Q S (lenT ord) listed a w := by
  intro ord
  induction ord with
  | nil =>
    intro S listed a w hc _ _ h
    exact ⟨by simpa [okT] using hc, h⟩
  | cons p r ih =>
    obtain ⟨i, k⟩ := p
    intro S listed a w hc hcl hS h
    match k with
    | 0 =>
      rcases hS with hS | hS
      · simp only [okT, Bool.and_eq_true] at hc
        obtain ⟨⟨⟨ht, hf⟩, hr⟩, hc'⟩ := hc
        obtain ⟨o, v, hi, hy, h'⟩ := h
        exact wpAnyT_first hi (by simpa using ht) (Region.noSelect_spec hs) (fun c a w => hQ c a _ _ w) (lenT r) listed a w hcl (Region.free_spec hi hf) (by simpa using hr) hy hS (ih S _ _ w hc' (closed_set hcl (by simpa using hr)) (.inl hS) h')
      · have := hS (i, 0) (List.mem_cons_self ..)
        simp at this
    | 1 =>
      simp only [okT, Bool.and_eq_true, beq_iff_eq] at hc
      obtain ⟨⟨hr, hz⟩, hc'⟩ := hc
      refine ⟨fun h0 => (by rw [hr] at h0; cases h0), fun j hj => ?_⟩
      rw [hr] at hj
      simp only [List.mem_singleton] at hj
      subst hj
      refine wpOp_mono (fun a' w' h' => ⟨h'.1, ih S _ a' w' hc' (closed_set hcl (by rw [hr]; exact List.mem_singleton.2 rfl)) ?_ h'.2⟩) h
      by_cases hl : lastT tk ops j = true
      · right
        intro p hp
        simp only [hl, Bool.not_true, Bool.false_or, List.all_eq_true, beq_iff_eq] at hz
        exact hz p hp
      · exact .inl (h'.1 (by simpa using hl))
    | k + 2 =>
      obtain ⟨T, h1, h2, h3⟩ := h
      exact wpAnyT_sub h1 _ _ _ _ (ih T listed a w (by simpa [okT] using hc) hcl (.inl h2) h3)

/-- THE REGION, in the order that is told. -/
theorem wp_region_ordT {id : Nat} {a : Act} {w : World} {l : List Oper} (ord : List (Nat × Nat)) (S : World → Prop) (hm : P.follows .mixedOrders = true) (hs : Region.noSelect l.toArray = true)
    (hc : okT ((ord.filter fun p => p.2 == 0).map Prod.fst) l.toArray ord (Array.replicate l.length false) = true) (hn : lenT ord = l.length) (hQ : ∀ c a d v w, Q (.panic c) (Act.put a d v) w → Q (.panic c) a w)
    (hS : S w.drew) (h : wpT P ((ord.filter fun p => p.2 == 0).map Prod.fst) l.toArray Q ord S a w.drew) : (Code.region id l.toArray true).wp P Q a w := by
  refine wp_region_any hm (wpAny_of_T (tk := (ord.filter fun p => p.2 == 0).map Prod.fst) (S := S) _ _ _ _ ?_)
  have := wpT_sound hs hQ ord S (Array.replicate l.length false) a w.drew hc (by have := closed_none l.toArray; rwa [List.size_toArray] at this) (.inl hS) h
  rw [hn] at this
  simpa using this

variable {l : List Oper}
theorem wpT_take {S : World → Prop} {i : Nat} {r : List (Nat × Nat)} {a : Act} {w : World} {o : Oper} (v : Value) (hi : nth l i = some o) (hg : Region.wanted o (yielded l.toArray a.tmps) = true)
    (hy : ∀ w', S w' → (execOp a.eval o).run P w' = .ok (.value v) w') (h : wpT P tk l.toArray Q r S (a.put o.dst v) w) : wpT P tk l.toArray Q ((i, 0) :: r) S a w :=
  ⟨o, v, (nth_spec l i).trans hi, .inl ⟨hg, hy⟩, h⟩
theorem wpT_pass {S : World → Prop} {i : Nat} {r : List (Nat × Nat)} {a : Act} {w : World} {o : Oper} (hi : nth l i = some o) (hg : Region.wanted o (yielded l.toArray a.tmps) = false)
    (h : wpT P tk l.toArray Q r S (a.put o.dst undef) w) : wpT P tk l.toArray Q ((i, 0) :: r) S a w :=
  ⟨o, undef, (nth_spec l i).trans hi, .inr ⟨hg, rfl⟩, h⟩
theorem wpT_run {S : World → Prop} {i : Nat} {r : List (Nat × Nat)} {a : Act} {w : World} {o : Oper} (hi : nth l i = some o) (hg : Region.wanted o (yielded l.toArray a.tmps) = true)
    (h : ∀ K : Act → World → Prop, (∀ a' w', (lastT tk l.toArray i = false → S w') → wpT P tk l.toArray Q r S a' w' → K a' w') → o.wp P a w K Q) : wpT P tk l.toArray Q ((i, 1) :: r) S a w := by
  unfold wpT wpOp
  simp only [(nth_spec l i).trans hi, hg, if_true]
  exact .inl (h _ fun a' w' h1 h2 => ⟨h1, h2⟩)
theorem wpT_sub {S : World → Prop} (T : World → Prop) {r : List (Nat × Nat)} {a : Act} {w : World} (h1 : ∀ w', T w' → S w') (h2 : T w) (h : wpT P tk ops Q r T a w) : wpT P tk ops Q ((0, 2) :: r) S a w := ⟨T, h1, h2, h⟩
theorem wpT_end {S : World → Prop} {a : Act} {w : World} (h : Q .normal a w) : wpT P tk ops Q [] S a w := h

end
end
section
open Go.RowKit
variable {w w' w2 : World} {base x : Nat} {nm nt : ByteArray}

theorem RS.gate_same (R : RS) : R.gateS.room = R.room ∧ R.gateS.files = R.files ∧ R.gateS.names = R.names ∧ R.gateS.kept = R.kept ∧ R.gateS.log = R.log ∧ R.gateS.calls = R.calls ∧ R.gateS.fuse ≤ R.fuse := by
  unfold RS.gateS
  split
  · exact ⟨rfl, rfl, rfl, rfl, rfl, rfl, Nat.le_refl _⟩
  · split
    · exact ⟨rfl, rfl, rfl, rfl, rfl, rfl, by show R.fuse - 1 ≤ _; omega⟩
    · exact ⟨rfl, rfl, rfl, rfl, rfl, rfl, Nat.le_refl _⟩
theorem RS.Ok.gate {R : RS} (h : R.Ok) : R.gateS.Ok := by
  obtain ⟨e1, e2, e3, e4, e5, e6, e7⟩ := R.gate_same
  exact ⟨by rw [e3, e2]; exact h.nm, by rw [e4, e2]; exact h.kp, by rw [e5, e2]; exact h.lg, by rw [e2]; exact h.fb, by rw [e1]; exact h.rm, by rw [e6]; exact ⟨h.cl.1, by have := h.cl.2; omega⟩⟩
theorem Tryz.info_filer : (Tryz.prog.info? 86).map (fun i => (i.zero, i.size, i.bytes)) = some (some (.agg #[.slice none 0 0, .int .i64 0, .int .i64 0]), 3, 40) := by kernel_rfl
def RS.createC (R : RS) (nm : ByteArray) : Nat := if R.gateB = false then 110 else if okN nm = false then 106 else if lk R.names nm ≠ none then 108 else 0
def RS.addFile (R : RS) : RS := { R with files := R.files ++ [([], 0)] }
def RS.createS (R : RS) (nm : ByteArray) : RS := if R.createC nm = 0 then R.gateS.addFile.note (withN R.names nm R.files.length) else R.gateS
theorem fnd_neg (o : Option Nat) : (0 ≤ fnd o) ↔ o ≠ none := by
  cases o with
  | none => simp [fnd]
  | some f => simp [fnd]
theorem withN_len (l : Nm) (nm : ByteArray) (f : Nat) : (withN l nm f).length ≤ l.length + 1 := by
  unfold withN
  have h1 := List.takeWhile_append_dropWhile (p := bfN nm) (l := dl l nm)
  have h2 : (dl l nm).length ≤ l.length := dl_len _ _
  have h3 := congrArg List.length h1
  simp only [List.length_append, List.length_cons, List.length_nil] at h3 ⊢
  omega
theorem withN_mem {l : Nm} {nm : ByteArray} {f : Nat} {y : ByteArray × Nat} : y ∈ withN l nm f ↔ y = (nm, f) ∨ y ∈ dl l nm := by
  unfold withN
  have h1 := List.takeWhile_append_dropWhile (p := bfN nm) (l := dl l nm)
  constructor
  · intro h
    rcases List.mem_append.1 h with h | h
    · rcases List.mem_append.1 h with h | h
      · exact .inr (by rw [← h1]; exact List.mem_append_left _ h)
      · exact .inl (by simpa using h)
    · exact .inr (by rw [← h1]; exact List.mem_append_right _ h)
  · rintro (h | h)
    · rw [h]; simp
    · rw [← h1] at h
      rcases List.mem_append.1 h with h | h
      · exact List.mem_append_left _ (List.mem_append_left _ h)
      · exact List.mem_append_right _ h
abbrev fnew : Value × List UInt8 × Nat := (.slice none 0 0, [], 0)
/-- The files' row is one longer. -/
theorem RM.push {R : RS} {fv nv kv lv fv' : Value} {L : FM} {G : List Value} (h : RM base w x R fv nv kv lv L G) (hf : Fr (fun k => some k = fv.ownBlock) w w2) (ho : w2.ownsRow base 86 3 fv' (L ++ [fnew]).length (fiV (L ++ [fnew])))
    (hs : w' = w2.setCell ⟨x, 1, none⟩ fv') : RM base w' x R.addFile fv' nv kv lv (L ++ [fnew]) G ∧ Fr (RK base w) w w' := by
  have hno : ∀ k cs t fz, w.heap[k]? = some (.cells cs t fz) → t ≠ 86 → ¬ some k = fv.ownBlock := fun k cs t fz hk ht e => own_ne_cells h.files hk (fun e' => ht e'.symm) k e.symm rfl
  have hx2 := hf.heap h.heap (hno _ _ _ _ h.heap (by decide))
  have hx3 := setCell_row 1 fv' hx2
  simp only [List.setIfInBounds_toArray, List.set_cons_zero, List.set_cons_succ] at hx3
  have hf3 : Fr (fun k => k = x) w2 w' := by rw [hs]; exact (Fr.refl (fun k => k = x) w2).setCell (p := ⟨x, 1, none⟩) (.inl rfl) fv'
  have hfin := hf.trans (U := fun k => k = x ∨ some k = fv.ownBlock) hf3 (fun _ _ h => .inr h) (fun _ _ h => .inl h)
  have hty : ∀ k cs t fz, w.heap[k]? = some (.cells cs t fz) → t ≠ 67 → t ≠ 86 → ¬ (k = x ∨ some k = fv.ownBlock) := fun k cs t fz hc h1 h2 e => by
    rcases e with e | e
    · rw [e, h.heap] at hc
      simp only [Option.some.injEq, Obj.cells.injEq] at hc
      exact h1 hc.2.1.symm
    · exact hno _ _ _ _ hc h2 e
  have hB : ∀ k, BB w k → ¬ (k = x ∨ some k = fv.ownBlock) := fun k ⟨cs, fz, hc⟩ => hty k cs _ fz hc (by decide) (by decide)
  have hN : ∀ k, NB w k → ¬ (k = x ∨ some k = fv.ownBlock) := fun k ⟨cs, fz, hc⟩ => hty k cs _ fz hc (by decide) (by decide)
  refine ⟨⟨by rw [hs]; exact hx3, by rw [List.map_append, h.fm]; rfl, hf3.own ho (own_ne_cells ho hx2 (by decide)), fun y hy => ?_, h.names.frame hfin hN, h.kept.frame hfin hN, h.gl, hfin.own h.log fun k hk => ?_, fun i v hv => ⟨(h.each i v hv).1.frame hfin hN, (h.each i v hv).2⟩, h.lo⟩, hfin.mono fun k _ e => ?_⟩
  · rcases List.mem_append.1 hy with h1 | h1
    · exact ((h.bytes y h1).frame hfin hB).mono fun k _ hk => hk.frame hfin (hB k hk)
    · simp only [List.mem_cons, List.not_mem_nil, or_false] at h1
      rw [h1]
      exact Bs.nil' _ _
  · obtain ⟨cs, hc⟩ := own_block h.log hk
    exact hty _ _ _ _ hc (by decide) (by decide)
  · rcases e with e | e
    · rw [e]; exact h.rk
    · obtain ⟨cs, hc⟩ := own_block h.files e.symm
      exact ⟨(h.files.lt k e.symm).1, cs, _, _, hc, .inr (.inl rfl)⟩
set_option maxRecDepth 100000 in
set_option maxHeartbeats 3200000 in
theorem rcreate_any {R : RS} (h : RAt base w x R) (hb : R.Ok) (hn : nm.size ≤ 1048576) (hbw : base ≤ w.heap.size) :
    Calls Tryz.prog 11 #[.pointer (some ⟨x, 0, none⟩), .string nm] w fun e w' => e = .returned (.int .i64 (R.createC nm : Int)) ∧ RAt base w' x (R.createS nm) ∧ Fr (RK base w) w w' := by
  have hga := gate_any h hb.cl.2
  obtain ⟨g1, g2, g3, g4, g5, g6, g7⟩ := R.gate_same
  have hbg := hb.gate
  have HGA := hid hga; have HB := hid hb; have HBG := hid hbg; have HBW := hid hbw; have HNS := hid hn
  by_cases hgb : R.gateB = false
  · have e1 : R.createC nm = 110 := by unfold RS.createC; rw [if_pos hgb]
    have e2 : R.createS nm = R.gateS := by unfold RS.createS; rw [if_neg (by rw [e1]; decide)]
    rw [e1, e2]
    rw [hgb] at HGA
    clear h hb hn hbw hga g1 g2 g3 g4 g5 g6 g7 hbg hgb e1 e2
    go_enter Tryz.func11, Tryz.ntmps11
    go_wp2_with fail
    refine HGA.out.mono ?_
    rintro e w1 ⟨rfl, h1, hf1⟩
    have H1 := hid h1; have HF1 := hid hf1
    clear h1 hf1
    go_wp2_with fail
    go_ret
    exact ⟨rfl, H1.out, HF1.out⟩
  have hgb1 : R.gateB = true := by simpa using hgb
  rw [hgb1] at HGA
  have HV := hid (fun w2 => rvalid_name nm (by omega) w2)
  by_cases hok : okN nm = false
  · have e1 : R.createC nm = 106 := by unfold RS.createC; rw [if_neg hgb, if_pos hok]
    have e2 : R.createS nm = R.gateS := by unfold RS.createS; rw [if_neg (by rw [e1]; decide)]
    rw [e1, e2]
    rw [hok] at HV
    clear h hb hn hbw hga g1 g2 g3 g4 g5 g6 g7 hbg hgb hgb1 hok e1 e2
    go_enter Tryz.func11, Tryz.ntmps11
    go_wp2_with fail
    refine HGA.out.mono ?_
    rintro e w1 ⟨rfl, h1, hf1⟩
    have H1 := hid h1; have HF1 := hid hf1
    clear h1 hf1
    go_wp2_with fail
    refine (HV.out _).mono ?_
    rintro e w2 ⟨rfl, rfl⟩
    go_wp2_with fail
    go_ret
    exact ⟨rfl, H1.out, HF1.out⟩
  have hok1 : okN nm = true := by simpa using hok
  rw [hok1] at HV
  have hfn : ∀ w2, RAt base w2 x R.gateS → Calls Tryz.prog 42 #[.pointer (some ⟨x, 0, none⟩), .string nm] w2 fun e w' => e = .returned (.int .i64 (fnd (lk R.names nm))) ∧ w2 = w' := fun w2 h2 => by
    have := rfind_any (nm := nm) h2 (by rw [g3]; have := hb.nm.1; omega)
    rw [g3] at this
    exact this
  have HFN := hid hfn
  by_cases hl : lk R.names nm = none
  rotate_left
  · have e1 : R.createC nm = 108 := by unfold RS.createC; rw [if_neg hgb, if_neg hok, if_pos hl]
    have e2 : R.createS nm = R.gateS := by unfold RS.createS; rw [if_neg (by rw [e1]; decide)]
    have hge := (fnd_neg (lk R.names nm)).2 hl
    rw [e1, e2]
    obtain ⟨t, ht⟩ : ∃ t, fnd (lk R.names nm) = t := ⟨_, rfl⟩
    rw [ht] at HFN hge
    clear h hb hn hbw hga g1 g2 g3 g4 g5 g6 g7 hbg hgb hgb1 hok hok1 e1 e2 hfn hl ht
    go_enter Tryz.func11, Tryz.ntmps11
    go_wp2_with fail
    refine HGA.out.mono ?_
    rintro e w1 ⟨rfl, h1, hf1⟩
    have H1 := hid h1; have HF1 := hid hf1
    clear h1 hf1
    go_wp2_with fail
    refine (HV.out _).mono ?_
    rintro e w2 ⟨rfl, rfl⟩
    go_wp2_with fail
    refine (HFN.out _ H1.out).mono ?_
    rintro e w2 ⟨rfl, rfl⟩
    go_wp2_with fail
    go_ret
    exact ⟨rfl, H1.out, HF1.out⟩
  have e1 : R.createC nm = 0 := by unfold RS.createC; rw [if_neg hgb, if_neg hok, if_neg (by rw [hl]; simp)]
  have e2 : R.createS nm = R.gateS.addFile.note (withN R.names nm R.files.length) := by unfold RS.createS; rw [if_pos e1]
  rw [e1, e2]
  obtain ⟨q, hq⟩ : ∃ q, R.files.length = q := ⟨_, rfl⟩
  rw [hq]
  have HQ := hid hq
  clear hq
  rw [hl] at HFN
  unfold fnd at HFN
  have HG := hid (show R.gateS.files = R.files ∧ R.gateS.names = R.names ∧ R.gateS.log = R.log ∧ R.gateS.calls = R.calls from ⟨g2, g3, g5, g6⟩)
  clear h hb hn hbw hga g1 g2 g3 g4 g5 g6 g7 hbg hgb hgb1 hok hok1 e1 e2 hfn hl
  go_enter Tryz.func11, Tryz.ntmps11
  go_wp2_with fail
  refine HGA.out.mono ?_
  rintro e w1 ⟨rfl, h1, hf1⟩
  have H1 := hid h1; have HF1 := hid hf1
  clear h1 hf1
  go_wp2_with fail
  refine (HV.out _).mono ?_
  rintro e w2 ⟨rfl, rfl⟩
  go_wp2_with fail
  refine (HFN.out _ H1.out).mono ?_
  rintro e w2 ⟨rfl, rfl⟩
  obtain ⟨fv, nv, kv, lv, L, G, hm⟩ := H1.out
  obtain ⟨af, cf, hfv, -⟩ := own_len hm.files
  subst hfv
  obtain ⟨an, cn, hnv, -⟩ := hm.names.len
  rw [HG.out.2.1] at hnv
  subst hnv
  have HM := hid hm
  obtain ⟨-, c1, -⟩ := hm.cell
  have hll : L.length = R.files.length := by rw [← HG.out.1, ← hm.fm, List.length_map]
  have HLL := hid hll
  have hfa := (Fr.refl (fun _ => False) w1).alloc (.cells #[.slice none 0 0, .int .i64 0, .int .i64 0] 86)
  have HMA := hid (hm.frame hfa fun _ _ _ _ _ _ => id)
  have HCN2 := hid (cells_newR w1 #[.slice none 0 0, .int .i64 0, .int .i64 0] 86 (0, 0))
  have hone : ∀ y ∈ [Value.slice none 0 0, .int .i64 0, .int .i64 0], y.oneCell' = true := by
    intro y hy
    simp only [List.mem_cons, List.not_mem_nil, or_false] at hy
    rcases hy with rfl | rfl | rfl <;> rfl
  have HONE := hid hone
  have HBA := hid (show base ≤ (w1.alloc (.cells #[.slice none 0 0, .int .i64 0, .int .i64 0] 86)).heap.size from Nat.le_trans HBW.out (Nat.le_trans HF1.out.size hfa.size))
  have HFA := hid hfa
  clear hm hll hfa hone
  go_wp2_with (at_builtin; go_must (refine wpList_appendR rfl (.tmp 19) (.tmp 21) 63 rfl 86 (.agg #[.slice none 0 0, .int .i64 0, .int .i64 0]) 3 40 Tryz.underlying63 Tryz.info_filer rfl (by decide) (.slice af L.length cf) rfl base L.length (fiV L) HMA.out.files w1.heap.size 1 [.slice none 0 0, .int .i64 0, .int .i64 0] rfl rfl HCN2.out HONE.out (by have := HLL.out; have := HB.out.fb.1; omega) (by decide) HBA.out ?_))
  intro g cap w4 ho4 hf4 hg4
  have hx4 := hf4.heap HMA.out.heap (fun e => own_ne_cells HMA.out.files HMA.out.heap (by decide) _ e.symm rfl)
  have f3 : w4.frozen? ⟨x, 1, none⟩ = false := frozen_of_row _ _ _ _ _ hx4
  have c3 : w4.cell? ⟨x, 1, none⟩ = some (.slice af L.length cf) := by rw [cell_of_row _ _ _ _ _ _ hx4]; rfl
  have ho5 : w4.ownsRow base 86 3 (.slice (some ⟨g, 0, none⟩) (L.length + 1) cap) (L ++ [fnew]).length (fiV (L ++ [fnew])) := by
    rw [fiV_append, List.length_append]
    exact ho4
  obtain ⟨hm5, hf5⟩ := HMA.out.push hf4 ho5 rfl
  have HM5 := hid hm5
  have HF5 := hid (RK.trans HF1.out (RK.trans (RK.of HFA.out) hf5))
  clear hx4 ho4 ho5 hf4 hg4 hm5 hf5 c1 HMA HFA HM
  have hlq : L.length = q := HLL.out.trans HQ.out
  have wsub : IntKind.i64.wrap (q : Int) = (q : Int) := IntWalk.i64_in _ (by have := HB.out.fb.1; have := HQ.out; omega)
  rw [hlq] at HM5 HF5 c3 ⊢
  go_upto_region 8 with fail
  clear f3 c3
  generalize w4.setCell ⟨x, 1, none⟩ (.slice (some ⟨g, 0, none⟩) (q + 1) cap) = W5 at *
  obtain ⟨-, c1, c2, -⟩ := HM5.out.cell
  have C1 := hid c1; have C2 := hid c2
  have hwt := fun (W : World) (hF : Fr (fun _ => False) W5 W) => rwith_any _ R.names nm q W (by have := HM5.out.names.fr hF; rw [show R.gateS.addFile.names = R.names from HG.out.2.1] at this; exact this) (by have := HB.out.nm.1; omega) (fun y hy => by have := (HB.out.nm.2 y hy).1; omega) HNS.out
  have HWT := hid hwt
  clear c1 c2 hwt hlq
  refine wp_region_ordT [(0, 0), (1, 0), (2, 0), (3, 0), (4, 0), (5, 0), (6, 0), (7, 0), (8, 0), (9, 0), (10, 0), (11, 0), (12, 0), (13, 1), (14, 1)] (fun w' => Fr (fun _ => False) W5 w') (by kernel_rfl) (by kernel_rfl) (by kernel_rfl) rfl (fun _ _ d _ _ h => by cases d <;> exact h) (Fr.refl _ _).drew ?_
  iterate 4 (refine wpT_take ?_ rfl (by kernel_rfl) ?_ ?_; rotate_left; (· intro w' hS; go_simp; try with_reducible rfl); try simp only [Act.put, List.setIfInBounds_toArray, List.set_cons_zero, List.set_cons_succ])
  (refine wpT_take ?_ rfl (by kernel_rfl) ?_ ?_; rotate_left; (· intro w' hS; have d1 := hS.cell C2.out not_false; go_simp; try with_reducible rfl); try simp only [Act.put, List.setIfInBounds_toArray, List.set_cons_zero, List.set_cons_succ])
  iterate 4 (refine wpT_take ?_ rfl (by kernel_rfl) ?_ ?_; rotate_left; (· intro w' hS; go_simp; try with_reducible rfl); try simp only [Act.put, List.setIfInBounds_toArray, List.set_cons_zero, List.set_cons_succ])
  (refine wpT_take ?_ rfl (by kernel_rfl) ?_ ?_; rotate_left; (· intro w' hS; have d1 := hS.cell C1.out not_false; go_simp; try with_reducible rfl); try simp only [Act.put, List.setIfInBounds_toArray, List.set_cons_zero, List.set_cons_succ])
  iterate 3 (refine wpT_take ?_ rfl (by kernel_rfl) ?_ ?_; rotate_left; (· intro w' hS; go_simp; try with_reducible rfl); try simp only [Act.put, List.setIfInBounds_toArray, List.set_cons_zero, List.set_cons_succ])
  have HWd := hid (Fr.refl (fun _ => False) W5).drew
  generalize W5.drew = Wd at *
  refine wpT_run rfl (by kernel_rfl) (fun K hK => ?_); go_simp
  refine (HWT.out Wd HWd.out).mono ?_
  rintro e w6 ⟨v6, rfl, ho6, hf6⟩
  have hf6w := HWd.out.trans' hf6
  refine hK _ _ (fun _ => hf6w) ?_
  clear hK K
  try simp only [Act.put, List.setIfInBounds_toArray, List.set_cons_zero, List.set_cons_succ]
  obtain ⟨a6, c6, rfl, -⟩ := own_len ho6
  have hm6 := HM5.out.frame hf6w fun _ _ _ _ _ _ => id
  have hwl := withN_len R.names nm q
  have hnt := note_any ⟨_, _, _, _, _, _, hm6⟩ (by show R.gateS.calls ≤ _; rw [HG.out.2.2.2]; have := HB.out.cl.1; omega) (by show R.gateS.log.length ≤ _; rw [HG.out.2.2.1]; have := HB.out.lg.1; omega) _ (withN R.names nm q) ho6.ns (by have := HB.out.nm.1; omega) (by have h1 := HBW.out; have h2 := HF5.out.size; have h3 := hf6w.size; omega)
  have HNT := hid hnt; have HF6 := hid hf6w
  clear ho6 hf6 hf6w hm6 hwl hnt
  refine wpT_run rfl (by kernel_rfl) (fun K hK => ?_); go_simp
  refine HNT.out.mono ?_
  rintro e w7 ⟨rfl, h7, hf7⟩
  refine hK _ _ (last_skip (by kernel_rfl)) ?_
  clear hK K
  try simp only [Act.put, List.setIfInBounds_toArray, List.set_cons_zero, List.set_cons_succ]
  refine wpT_end ?_
  have H7 := hid h7; have HF7 := hid (RK.trans HF5.out (RK.trans (RK.of HF6.out) hf7))
  clear h7 hf7 HNT
  go_wp2_with fail
  go_ret
  exact ⟨rfl, H7.out, HF7.out⟩
end
section
open Go.RowKit
variable {w w' w2 : World} {base x : Nat} {nm nt : ByteArray}

def RS.findC (R : RS) (nm : ByteArray) : Nat := if R.gateB = false then 110 else if lk R.names nm = none then 107 else 0
def RS.remS (R : RS) (nm : ByteArray) : RS := if R.findC nm = 0 then R.gateS.note (dl R.names nm) else R.gateS
def RS.renC (R : RS) (nm nt : ByteArray) : Nat := if R.findC nm ≠ 0 then R.findC nm else if okN nt = false then 106 else 0
def RS.renS (R : RS) (nm nt : ByteArray) : RS := if R.renC nm nt = 0 then (match lk R.names nm with
  | some f => R.gateS.note (withN (dl R.names nm) nt f)
  | none => R.gateS) else R.gateS
set_option maxRecDepth 100000 in
set_option maxHeartbeats 3200000 in
theorem rremove_any {R : RS} (h : RAt base w x R) (hb : R.Ok) (hn : nm.size ≤ 1048576) (hbw : base ≤ w.heap.size) :
    Calls Tryz.prog 21 #[.pointer (some ⟨x, 0, none⟩), .string nm] w fun e w' => e = .returned (.int .i64 (R.findC nm : Int)) ∧ RAt base w' x (R.remS nm) ∧ Fr (RK base w) w w' := by
  have hga := gate_any h hb.cl.2
  obtain ⟨g1, g2, g3, g4, g5, g6, g7⟩ := R.gate_same
  have hbg := hb.gate
  have HGA := hid hga; have HB := hid hb; have HBG := hid hbg; have HBW := hid hbw; have HNS := hid hn
  by_cases hgb : R.gateB = false
  · have e1 : R.findC nm = 110 := by unfold RS.findC; first | rw [if_pos hgb] | (unfold RS.findC; rw [if_pos hgb]; rfl)
    have e2 : R.remS nm = R.gateS := by unfold RS.remS; rw [if_neg (by rw [e1]; decide)]
    rw [e1, e2]
    rw [hgb] at HGA
    clear h hb hn hbw hga g1 g2 g3 g4 g5 g6 g7 hbg hgb e1 e2
    go_enter Tryz.func21, Tryz.ntmps21
    go_wp2_with fail
    refine HGA.out.mono ?_
    rintro e w1 ⟨rfl, h1, hf1⟩
    have H1 := hid h1; have HF1 := hid hf1
    clear h1 hf1
    go_wp2_with fail
    go_ret
    exact ⟨rfl, H1.out, HF1.out⟩
  have hgb1 : R.gateB = true := by simpa using hgb
  rw [hgb1] at HGA
  have hfn : ∀ w2, RAt base w2 x R.gateS → Calls Tryz.prog 42 #[.pointer (some ⟨x, 0, none⟩), .string nm] w2 fun e w' => e = .returned (.int .i64 (fnd (lk R.names nm))) ∧ w2 = w' := fun w2 h2 => by
    have := rfind_any (nm := nm) h2 (by rw [g3]; have := hb.nm.1; omega)
    rw [g3] at this
    exact this
  have HFN := hid hfn
  cases hl : lk R.names nm with
  | none =>
    have e1 : R.findC nm = 107 := by unfold RS.findC; first | rw [if_neg hgb, if_pos hl] | (unfold RS.findC; rw [if_neg hgb, if_pos hl]; rfl)
    have e2 : R.remS nm = R.gateS := by unfold RS.remS; rw [if_neg (by rw [e1]; decide)]
    rw [e1, e2]
    rw [hl] at HFN
    unfold fnd at HFN
    clear h hb hn hbw hga g1 g2 g3 g4 g5 g6 g7 hbg hgb hgb1 e1 e2 hfn hl
    go_enter Tryz.func21, Tryz.ntmps21
    go_wp2_with fail
    refine HGA.out.mono ?_
    rintro e w1 ⟨rfl, h1, hf1⟩
    have H1 := hid h1; have HF1 := hid hf1
    clear h1 hf1
    go_wp2_with fail
    refine (HFN.out _ H1.out).mono ?_
    rintro e w2 ⟨rfl, rfl⟩
    go_wp2_with fail
    go_ret
    exact ⟨rfl, H1.out, HF1.out⟩
  | some f =>
    have hf0 : R.findC nm = 0 := by unfold RS.findC; rw [if_neg hgb, if_neg (by rw [hl]; simp)]
    rw [hl] at HFN
    unfold fnd at HFN
    have hfn0 : ¬ (f : Int) < 0 := by omega
    have e1 : R.findC nm = 0 := hf0
    have e2 : R.remS nm = R.gateS.note (dl R.names nm) := by unfold RS.remS; rw [if_pos e1]
    rw [e1, e2]
    have HG := hid (show R.gateS.files = R.files ∧ R.gateS.names = R.names ∧ R.gateS.log = R.log ∧ R.gateS.calls = R.calls from ⟨g2, g3, g5, g6⟩)
    have HLK := hid hl
    skip
    clear h hb hn hbw hga g1 g2 g3 g4 g5 g6 g7 hbg hgb hgb1 e1 e2 hfn hl hf0
    go_enter Tryz.func21, Tryz.ntmps21
    go_wp2_with fail
    refine HGA.out.mono ?_
    rintro e w1 ⟨rfl, h1, hf1⟩
    have H1 := hid h1; have HF1 := hid hf1
    clear h1 hf1
    go_wp2_with fail
    refine (HFN.out _ H1.out).mono ?_
    rintro e w2 ⟨rfl, rfl⟩
    obtain ⟨fv, nv, kv, lv, L, G, hm⟩ := H1.out
    have hns : Ns w1 nv R.names := by have := hm.names; rw [HG.out.2.1] at this; exact this
    obtain ⟨an, cn, hnv, -⟩ := hns.len
    subst hnv
    obtain ⟨-, -, c2, -⟩ := hm.cell
    have hwo := rwithout_any _ R.names nm w1 hns (by have := HB.out.nm.1; omega)
    have HWO := hid hwo; have HM := hid hm
    clear hm hns hwo
    go_wp2_with fail
    refine HWO.out.mono ?_
    rintro e w3 ⟨v3, rfl, ho3, hf3⟩
    have HM3 := hid (HM.out.frame hf3 fun _ _ _ _ _ _ => id); have HW3 := hid hf3
    clear hf3 HWO
    obtain ⟨a3, c3, rfl, -⟩ := own_len ho3
    have hnt3 := note_any ⟨_, _, _, _, _, _, HM3.out⟩ (by rw [HG.out.2.2.2]; have := HB.out.cl.1; omega) (by rw [HG.out.2.2.1]; have := HB.out.lg.1; omega) _ (dl R.names nm) ho3.ns (by have := dl_len R.names nm; have := HB.out.nm.1; omega) (by have h1 := HBW.out; have h2 := HF1.out.size; have h3 := HW3.out.size; omega)
    have HNTE := hid hnt3
    clear ho3 hnt3
    go_wp2_with fail
    refine HNTE.out.mono ?_
    rintro e w7 ⟨rfl, h7, hf7⟩
    have H7 := hid h7; have HF7 := hid (RK.trans HF1.out (RK.trans (RK.of HW3.out) hf7))
    clear h7 hf7 HNTE
    go_wp2_with fail
    go_ret
    exact ⟨rfl, H7.out, HF7.out⟩
set_option maxRecDepth 100000 in
set_option maxHeartbeats 3200000 in
theorem rrename_any {R : RS} (h : RAt base w x R) (hb : R.Ok) (hn : nm.size ≤ 1048576) (hnt : nt.size ≤ 1048576) (hbw : base ≤ w.heap.size) :
    Calls Tryz.prog 19 #[.pointer (some ⟨x, 0, none⟩), .string nm, .string nt] w fun e w' => e = .returned (.int .i64 (R.renC nm nt : Int)) ∧ RAt base w' x (R.renS nm nt) ∧ Fr (RK base w) w w' := by
  have hga := gate_any h hb.cl.2
  obtain ⟨g1, g2, g3, g4, g5, g6, g7⟩ := R.gate_same
  have hbg := hb.gate
  have HGA := hid hga; have HB := hid hb; have HBG := hid hbg; have HBW := hid hbw; have HNS := hid hn
  by_cases hgb : R.gateB = false
  · have e1 : R.renC nm nt = 110 := by unfold RS.renC; first | rw [if_pos hgb] | (unfold RS.findC; rw [if_pos hgb]; rfl)
    have e2 : R.renS nm nt = R.gateS := by unfold RS.renS; rw [if_neg (by rw [e1]; decide)]
    rw [e1, e2]
    rw [hgb] at HGA
    clear h hb hn hbw hga g1 g2 g3 g4 g5 g6 g7 hbg hgb e1 e2
    go_enter Tryz.func19, Tryz.ntmps19
    go_wp2_with fail
    refine HGA.out.mono ?_
    rintro e w1 ⟨rfl, h1, hf1⟩
    have H1 := hid h1; have HF1 := hid hf1
    clear h1 hf1
    go_wp2_with fail
    go_ret
    exact ⟨rfl, H1.out, HF1.out⟩
  have hgb1 : R.gateB = true := by simpa using hgb
  rw [hgb1] at HGA
  have hfn : ∀ w2, RAt base w2 x R.gateS → Calls Tryz.prog 42 #[.pointer (some ⟨x, 0, none⟩), .string nm] w2 fun e w' => e = .returned (.int .i64 (fnd (lk R.names nm))) ∧ w2 = w' := fun w2 h2 => by
    have := rfind_any (nm := nm) h2 (by rw [g3]; have := hb.nm.1; omega)
    rw [g3] at this
    exact this
  have HFN := hid hfn
  cases hl : lk R.names nm with
  | none =>
    have e1 : R.renC nm nt = 107 := by unfold RS.renC; first | rw [if_neg hgb, if_pos hl] | (unfold RS.findC; rw [if_neg hgb, if_pos hl]; rfl)
    have e2 : R.renS nm nt = R.gateS := by unfold RS.renS; rw [if_neg (by rw [e1]; decide)]
    rw [e1, e2]
    rw [hl] at HFN
    unfold fnd at HFN
    clear h hb hn hbw hga g1 g2 g3 g4 g5 g6 g7 hbg hgb hgb1 e1 e2 hfn hl
    go_enter Tryz.func19, Tryz.ntmps19
    go_wp2_with fail
    refine HGA.out.mono ?_
    rintro e w1 ⟨rfl, h1, hf1⟩
    have H1 := hid h1; have HF1 := hid hf1
    clear h1 hf1
    go_wp2_with fail
    refine (HFN.out _ H1.out).mono ?_
    rintro e w2 ⟨rfl, rfl⟩
    go_wp2_with fail
    go_ret
    exact ⟨rfl, H1.out, HF1.out⟩
  | some f =>
    have hf0 : R.findC nm = 0 := by unfold RS.findC; rw [if_neg hgb, if_neg (by rw [hl]; simp)]
    rw [hl] at HFN
    unfold fnd at HFN
    have hfn0 : ¬ (f : Int) < 0 := by omega
    have HV := hid (fun w2 => rvalid_name nt (by omega) w2)
    by_cases hok : okN nt = false
    · have e1 : R.renC nm nt = 106 := by unfold RS.renC; rw [if_neg (by rw [hf0]; simp), if_pos hok]
      have e2 : R.renS nm nt = R.gateS := by unfold RS.renS; rw [if_neg (by rw [e1]; decide)]
      rw [e1, e2]
      rw [hok] at HV
      clear h hb hn hbw hga g1 g2 g3 g4 g5 g6 g7 hbg hgb hgb1 e1 e2 hfn hl hok hf0 hnt
      go_enter Tryz.func19, Tryz.ntmps19
      go_wp2_with fail
      refine HGA.out.mono ?_
      rintro e w1 ⟨rfl, h1, hf1⟩
      have H1 := hid h1; have HF1 := hid hf1
      clear h1 hf1
      go_wp2_with fail
      refine (HFN.out _ H1.out).mono ?_
      rintro e w2 ⟨rfl, rfl⟩
      go_wp2_with fail
      refine (HV.out _).mono ?_
      rintro e w2 ⟨rfl, rfl⟩
      go_wp2_with fail
      go_ret
      exact ⟨rfl, H1.out, HF1.out⟩
    have hok1 : okN nt = true := by simpa using hok
    rw [hok1] at HV
    have e1 : R.renC nm nt = 0 := by unfold RS.renC; rw [if_neg (by rw [hf0]; simp), if_neg hok]
    have e2 : R.renS nm nt = R.gateS.note (withN (dl R.names nm) nt f) := by unfold RS.renS; rw [if_pos e1, hl]
    rw [e1, e2]
    have HG := hid (show R.gateS.files = R.files ∧ R.gateS.names = R.names ∧ R.gateS.log = R.log ∧ R.gateS.calls = R.calls from ⟨g2, g3, g5, g6⟩)
    have HLK := hid hl
    have HNT := hid hnt
    clear h hb hn hbw hga g1 g2 g3 g4 g5 g6 g7 hbg hgb hgb1 e1 e2 hfn hl hf0 hok hok1 hnt
    go_enter Tryz.func19, Tryz.ntmps19
    go_wp2_with fail
    refine HGA.out.mono ?_
    rintro e w1 ⟨rfl, h1, hf1⟩
    have H1 := hid h1; have HF1 := hid hf1
    clear h1 hf1
    go_wp2_with fail
    refine (HFN.out _ H1.out).mono ?_
    rintro e w2 ⟨rfl, rfl⟩
    go_wp2_with fail
    refine (HV.out _).mono ?_
    rintro e w2 ⟨rfl, rfl⟩
    obtain ⟨fv, nv, kv, lv, L, G, hm⟩ := H1.out
    have hns : Ns w1 nv R.names := by have := hm.names; rw [HG.out.2.1] at this; exact this
    obtain ⟨an, cn, hnv, -⟩ := hns.len
    subst hnv
    obtain ⟨-, -, c2, -⟩ := hm.cell
    have hwo := rwithout_any _ R.names nm w1 hns (by have := HB.out.nm.1; omega)
    have HWO := hid hwo; have HM := hid hm
    clear hm hns hwo
    go_wp2_with fail
    refine HWO.out.mono ?_
    rintro e w3 ⟨v3, rfl, ho3, hf3⟩
    obtain ⟨a3, c3, rfl, -⟩ := own_len ho3
    have hwt := rwith_any _ (dl R.names nm) nt f w3 ho3.ns (by have := dl_len R.names nm; have := HB.out.nm.1; omega) (fun y hy => by have := (HB.out.nm.2 y (mem_dl.1 hy).1).1; omega) HNT.out
    have HWT := hid hwt
    have HW2 := hid hf3
    clear ho3 hf3 HWO hwt
    go_wp2_with fail
    refine HWT.out.mono ?_
    rintro e w4 ⟨v4, rfl, ho4, hf4⟩
    have HM4 := hid (HM.out.frame (HW2.out.trans' hf4) fun _ _ _ _ _ _ => id); have HW4 := hid (HW2.out.trans' hf4)
    clear hf4 HWT HW2
    obtain ⟨a4, c4, rfl, -⟩ := own_len ho4
    have hnt4 := note_any ⟨_, _, _, _, _, _, HM4.out⟩ (by rw [HG.out.2.2.2]; have := HB.out.cl.1; omega) (by rw [HG.out.2.2.1]; have := HB.out.lg.1; omega) _ (withN (dl R.names nm) nt f) ho4.ns (by have := dl_len R.names nm; have := withN_len (dl R.names nm) nt f; have := HB.out.nm.1; omega) (by have h1 := HBW.out; have h2 := HF1.out.size; have h3 := HW4.out.size; omega)
    have HNTE := hid hnt4
    clear ho4 hnt4
    go_wp2_with fail
    refine HNTE.out.mono ?_
    rintro e w7 ⟨rfl, h7, hf7⟩
    have H7 := hid h7; have HF7 := hid (RK.trans HF1.out (RK.trans (RK.of HW4.out) hf7))
    clear h7 hf7 HNTE
    go_wp2_with fail
    go_ret
    exact ⟨rfl, H7.out, HF7.out⟩
end
section
open Go.RowKit
variable {w w' w2 : World} {base x : Nat} {nm nt : ByteArray}

theorem rown_setCell {w : World} {base e sz n g cap : Nat} {xs : List Value} (h : w.ownsRow base e sz (.slice (some ⟨g, 0, none⟩) n cap) n xs) (j : Nat) (u : Value) (hj : j < n * sz) : (w.setCell ⟨g, j, none⟩ u).ownsRow base e sz (.slice (some ⟨g, 0, none⟩) n cap) n (xs.set j u) := by
  refine ⟨by simpa using h.1, .inr ?_⟩
  rcases h.2 with ⟨e, _⟩ | ⟨g', cap', cur, e, hb, hg, h1, h2, h3, h4⟩
  · cases e
  · simp only [Value.slice.injEq, Option.some.injEq, Addr.mk.injEq] at e
    obtain ⟨⟨rfl, _⟩, _, rfl⟩ := e
    refine ⟨g, cap, cur.setIfInBounds j u, rfl, hb, setCell_row j u hg, h1, h2, by simpa using h3, ?_⟩
    rw [← h4, Array.toList_setIfInBounds, List.take_set]
theorem fiV_cons (y : Value × List UInt8 × Nat) (r : FM) : fiV (y :: r) = y.1 :: .int .i64 (y.2.2 : Int) :: .int .i64 0 :: fiV r := by simp [fiV]
theorem fiV_set0 (L : FM) (i : Nat) (v v' : Value) (b b' : List UInt8) (sy : Nat) (h : L[i]? = some (v, b, sy)) : (fiV L).set (i * 3) v' = fiV (L.set i (v', b', sy)) := by
  induction L generalizing i with
  | nil => simp at h
  | cons y r ih =>
    cases i with
    | zero =>
      simp only [List.getElem?_cons_zero, Option.some.injEq] at h
      subst h
      simp [fiV_cons]
    | succ i =>
      have := ih i (by simpa using h)
      rw [List.set_cons_succ, fiV_cons, fiV_cons, show (i + 1) * 3 = i * 3 + 1 + 1 + 1 by omega, List.set_cons_succ, List.set_cons_succ, List.set_cons_succ, this]
theorem fiV_set1 (L : FM) (i : Nat) (v : Value) (b : List UInt8) (sy sy' : Nat) (h : L[i]? = some (v, b, sy)) : (fiV L).set (i * 3 + 1) (.int .i64 (sy' : Int)) = fiV (L.set i (v, b, sy')) := by
  induction L generalizing i with
  | nil => simp at h
  | cons y r ih =>
    cases i with
    | zero =>
      simp only [List.getElem?_cons_zero, Option.some.injEq] at h
      subst h
      simp [fiV_cons]
    | succ i =>
      have := ih i (by simpa using h)
      rw [List.set_cons_succ, fiV_cons, fiV_cons, show (i + 1) * 3 + 1 = (i * 3 + 1) + 1 + 1 + 1 by omega, List.set_cons_succ, List.set_cons_succ, List.set_cons_succ, this]
/-- A file is another. -/
theorem RM.setF {R : RS} {nv kv lv : Value} {L : FM} {G : List Value} {g cap i : Nat} (h : RM base w x R (.slice (some ⟨g, 0, none⟩) L.length cap) nv kv lv L G) (y : Value × List UInt8 × Nat) (hf : Fr (fun k => k = g) w w')
    (ho : w'.ownsRow base 86 3 (.slice (some ⟨g, 0, none⟩) L.length cap) L.length (fiV (L.set i y))) (hb : FB w' y) : RM base w' x { R with files := R.files.set i y.2 } (.slice (some ⟨g, 0, none⟩) (L.set i y).length cap) nv kv lv (L.set i y) G ∧ Fr (RK base w) w w' := by
  obtain ⟨cs, hg⟩ := own_block h.files (k := g) rfl
  have hty : ∀ k cs' t fz, w.heap[k]? = some (.cells cs' t fz) → t ≠ 86 → ¬ k = g := fun k cs' t fz hc ht e => by
    rw [e, hg] at hc
    simp only [Option.some.injEq, Obj.cells.injEq] at hc
    exact ht hc.2.1.symm
  have hB : ∀ k, BB w k → ¬ k = g := fun k ⟨cs, fz, hc⟩ => hty k cs _ fz hc (by decide)
  have hN : ∀ k, NB w k → ¬ k = g := fun k ⟨cs, fz, hc⟩ => hty k cs _ fz hc (by decide)
  refine ⟨⟨hf.heap h.heap (hty _ _ _ _ h.heap (by decide)) |> fun e => by rw [List.length_set]; exact e, ?_, by rw [List.length_set]; exact ho, fun z hz => ?_, h.names.frame hf hN, h.kept.frame hf hN, h.gl, hf.own h.log fun k hk => ?_, fun i v hv => ⟨(h.each i v hv).1.frame hf hN, (h.each i v hv).2⟩, h.lo⟩, hf.mono fun k _ e => ?_⟩
  · show (L.set i y).map (·.2) = R.files.set i y.2
    rw [List.map_set, h.fm]
  · rcases List.mem_or_eq_of_mem_set hz with h1 | h1
    · exact ((h.bytes z h1).frame hf hB).mono fun k _ hk => hk.frame hf (hB k hk)
    · rw [h1]; exact hb
  · obtain ⟨cs, hc⟩ := own_block h.log hk
    exact hty _ _ _ _ hc (by decide)
  · rw [e]
    exact ⟨(h.files.lt g rfl).1, cs, _, _, hg, .inr (.inl rfl)⟩
theorem RM.turnL {R R' : RS} {fv nv kv lv nv' kv' : Value} {L : FM} {G : List Value} (h : RM base w x R fv nv kv lv L G) (hf : Fr (fun k => k = x) w w') (hfi : R'.files = R.files) (hlo : R'.log = [])
    (hh : w'.heap[x]? = some (.cells #[.int .i64 R'.room, fv, nv', kv', .slice none 0 0, .int .i64 (R'.fuse : Int), .bool R'.off, .int .i64 (R'.calls : Int)] 67 (0, 0))) (hn : Ns w nv' R'.names) (hk : Ns w kv' R'.kept) : RM base w' x R' fv nv' kv' (.slice none 0 0) L [] := by
  have hne : ∀ {k : Nat} {cs : Array Value} {t : TypeId} {fz : Nat × Nat}, w.heap[k]? = some (.cells cs t fz) → t ≠ 67 → ¬ k = x := fun hc ht e => by
    rw [e, h.heap] at hc
    simp only [Option.some.injEq, Obj.cells.injEq] at hc
    exact ht hc.2.1.symm
  have hB : ∀ k, BB w k → ¬ k = x := fun k ⟨cs, fz, hc⟩ => hne hc (by decide)
  have hN : ∀ k, NB w k → ¬ k = x := fun k ⟨cs, fz, hc⟩ => hne hc (by decide)
  refine ⟨hh, by rw [hfi]; exact h.fm, hf.own h.files fun k hk => ?_, fun y hy => ((h.bytes y hy).frame hf hB).mono fun k _ hk => hk.frame hf (hB k hk), hn.frame hf hN, hk.frame hf hN, by rw [hlo]; rfl, World.ownsRow_nil _ _ _ _, fun i v hv => by simp at hv, h.lo⟩
  obtain ⟨cs, hc⟩ := own_block h.files hk
  exact hne hc (by decide)
def RS.dirC (R : RS) : Nat := if R.gateB = false then 110 else 0
def RS.dirS (R : RS) : RS := if R.gateB = false then R.gateS else { R.gateS with kept := R.names, log := [], calls := R.calls + 1 }
set_option maxRecDepth 100000 in
set_option maxHeartbeats 3200000 in
theorem rsyncdir_any {R : RS} (h : RAt base w x R) (hb : R.Ok) :
    Calls Tryz.prog 23 #[.pointer (some ⟨x, 0, none⟩)] w fun e w' => e = .returned (.int .i64 (R.dirC : Int)) ∧ RAt base w' x R.dirS ∧ Fr (RK base w) w w' := by
  have hga := gate_any h hb.cl.2
  obtain ⟨g1, g2, g3, g4, g5, g6, g7⟩ := R.gate_same
  have HGA := hid hga; have HB := hid hb
  by_cases hgb : R.gateB = false
  · have e1 : R.dirC = 110 := by unfold RS.dirC; rw [if_pos hgb]
    have e2 : R.dirS = R.gateS := by unfold RS.dirS; rw [if_pos hgb]
    rw [e1, e2]
    rw [hgb] at HGA
    clear h hb hga g1 g2 g3 g4 g5 g6 g7 hgb e1 e2
    go_enter Tryz.func23, Tryz.ntmps23
    go_wp2_with fail
    refine HGA.out.mono ?_
    rintro e w1 ⟨rfl, h1, hf1⟩
    have H1 := hid h1; have HF1 := hid hf1
    clear h1 hf1
    go_wp2_with fail
    go_ret
    exact ⟨rfl, H1.out, HF1.out⟩
  have hgb1 : R.gateB = true := by simpa using hgb
  rw [hgb1] at HGA
  have e1 : R.dirC = 0 := by unfold RS.dirC; rw [if_neg hgb]
  have e2 : R.dirS = { R.gateS with kept := R.names, log := [], calls := R.calls + 1 } := by unfold RS.dirS; rw [if_neg hgb]
  rw [e1, e2]
  have HG := hid (show R.gateS.names = R.names ∧ R.gateS.calls = R.calls from ⟨g3, g6⟩)
  clear h hb hga g1 g2 g3 g4 g5 g6 g7 hgb hgb1 e1 e2
  go_enter Tryz.func23, Tryz.ntmps23
  go_wp2_with fail
  refine HGA.out.mono ?_
  rintro e w1 ⟨rfl, h1, hf1⟩
  obtain ⟨fv, nv, kv, lv, L, G, hm⟩ := h1
  have hns : Ns w1 nv R.names := by have := hm.names; rw [HG.out.1] at this; exact this
  obtain ⟨an, cn, hnv, -⟩ := hns.len
  subst hnv
  obtain ⟨-, -, c2, -⟩ := hm.cell
  have HNA := hid (rnames_any _ R.names w1 hns (by have := HB.out.nm.1; omega))
  have HM := hid hm; have HF1 := hid hf1; have HNS := hid hns
  clear hm hns hf1
  go_wp2_with fail
  refine HNA.out.mono ?_
  rintro e w3 ⟨v3, rfl, ho3, hf3⟩
  obtain ⟨a3, c3, rfl, -⟩ := own_len ho3
  have hm3 := HM.out.frame hf3 fun _ _ _ _ _ _ => id
  have hx1 := setCell_row 3 (.slice a3 R.names.length c3) hm3.heap
  simp only [List.setIfInBounds_toArray, List.set_cons_zero, List.set_cons_succ] at hx1
  have hx2 := setCell_row 4 (.slice none 0 0) hx1
  simp only [List.setIfInBounds_toArray, List.set_cons_zero, List.set_cons_succ] at hx2
  have hx3 := setCell_row 7 (.int .i64 ((R.calls : Int) + 1)) hx2
  simp only [List.setIfInBounds_toArray, List.set_cons_zero, List.set_cons_succ] at hx3
  have hfr := (((Fr.refl (fun k => k = x) w3).setCell (p := ⟨x, 3, none⟩) (.inl rfl) (.slice a3 R.names.length c3)).setCell (p := ⟨x, 4, none⟩) (.inl rfl) (.slice none 0 0)).setCell (p := ⟨x, 7, none⟩) (.inl rfl) (.int .i64 ((R.calls : Int) + 1))
  have hfin := hm3.turnL (R' := { R.gateS with kept := R.names, log := [], calls := R.calls + 1 }) hfr rfl rfl hx3 hm3.names ho3.ns
  obtain ⟨-, -, -, d3, d4, -, -, d7, fz⟩ := hm3.cell
  rw [HG.out.2] at d7
  have f3 := fz 3
  have f4 : (w3.setCell ⟨x, 3, none⟩ (.slice a3 R.names.length c3)).frozen? ⟨x, 4, none⟩ = false := frozen_of_row _ _ _ _ _ hx1
  have d4' : (w3.setCell ⟨x, 3, none⟩ (.slice a3 R.names.length c3)).cell? ⟨x, 4, none⟩ = some lv := by rw [cell_of_row _ _ _ _ _ _ hx1]; rfl
  have f7 : ((w3.setCell ⟨x, 3, none⟩ (.slice a3 R.names.length c3)).setCell ⟨x, 4, none⟩ (.slice none 0 0)).frozen? ⟨x, 7, none⟩ = false := frozen_of_row _ _ _ _ _ hx2
  have d7' : ((w3.setCell ⟨x, 3, none⟩ (.slice a3 R.names.length c3)).setCell ⟨x, 4, none⟩ (.slice none 0 0)).cell? ⟨x, 7, none⟩ = some (.int .i64 (R.calls : Int)) := by rw [cell_of_row _ _ _ _ _ _ hx2]; simp [HG.out.2]
  have hw7 : IntKind.i64.wrap ((R.calls : Int) + 1) = (R.calls : Int) + 1 := IntWalk.i64_in _ (by have := HB.out.cl.1; omega)
  have HFIN := hid hfin; have HFF := hid (RK.trans HF1.out (RK.trans (RK.of hf3) (hfr.rk hm3)))
  clear hm3 hx1 hx2 hx3 hfr hfin fz ho3 hf3 HNA HNS HM
  go_wp2_with fail
  go_ret
  exact ⟨rfl, ⟨_, _, _, _, _, _, HFIN.out⟩, HFF.out⟩
end
section
open Go.RowKit
variable {w w' w2 : World} {base x : Nat} {nm nt : ByteArray}

def RS.upd (R : RS) (nm : ByteArray) (g : List UInt8 × Nat → List UInt8 × Nat) : RS := match lk R.names nm with
  | some f => { R.gateS with files := R.files.set f (g (R.files.getD f ([], 0))), calls := R.calls + 1 }
  | none => R.gateS
def RS.syncS (R : RS) (nm : ByteArray) : RS := if R.findC nm = 0 then R.upd nm fun y => (y.1, y.1.length) else R.gateS
def RS.cutC (R : RS) (nm : ByteArray) (n : Int) : Nat := if R.findC nm ≠ 0 then R.findC nm else if n < 0 ∨ ((R.fl nm).1.length : Int) < n then 105 else 0
def RS.cutS (R : RS) (nm : ByteArray) (n : Int) : RS := if R.cutC nm n = 0 then R.upd nm fun y => (y.1.take n.toNat, n.toNat) else R.gateS
def RS.appC (R : RS) (nm : ByteArray) (m : List UInt8) : Nat := if R.findC nm ≠ 0 then R.findC nm else if R.room - (usedR R.files R.names : Int) < m.length then 109 else 0
def RS.appS (R : RS) (nm : ByteArray) (m : List UInt8) : RS := if R.appC nm m = 0 then R.upd nm fun y => (y.1 ++ m, y.2) else R.gateS
set_option maxRecDepth 100000 in
set_option maxHeartbeats 6400000 in
theorem rsync_any {R : RS} (h : RAt base w x R) (hb : R.Ok) (hn : nm.size ≤ 1048576) (hbw : base ≤ w.heap.size) :
    Calls Tryz.prog 17 #[.pointer (some ⟨x, 0, none⟩), .string nm] w fun e w' => e = .returned (.int .i64 (R.findC nm : Int)) ∧ RAt base w' x (R.syncS nm) ∧ Fr (RK base w) w w' := by
  have hga := gate_any h hb.cl.2
  obtain ⟨g1, g2, g3, g4, g5, g6, g7⟩ := R.gate_same
  have hbg := hb.gate
  have HGA := hid hga; have HB := hid hb; have HBG := hid hbg; have HBW := hid hbw; have HNS := hid hn
  by_cases hgb : R.gateB = false
  · have e1 : R.findC nm = 110 := by first | (unfold RS.findC; rw [if_pos hgb]; done) | (unfold RS.findC; unfold RS.findC; rw [if_pos hgb]; rfl)
    have e2 : R.syncS nm = R.gateS := by unfold RS.syncS; rw [if_neg (by rw [e1]; decide)]
    rw [e1, e2]
    rw [hgb] at HGA
    clear h hb hn hbw hga g1 g2 g3 g4 g5 g6 g7 hbg hgb e1 e2
    go_enter Tryz.func17, Tryz.ntmps17
    go_wp2_with fail
    refine HGA.out.mono ?_
    rintro e w1 ⟨rfl, h1, hf1⟩
    have H1 := hid h1; have HF1 := hid hf1
    clear h1 hf1
    go_wp2_with fail
    go_ret
    exact ⟨rfl, H1.out, HF1.out⟩
  have hgb1 : R.gateB = true := by simpa using hgb
  rw [hgb1] at HGA
  have hfn : ∀ w2, RAt base w2 x R.gateS → Calls Tryz.prog 42 #[.pointer (some ⟨x, 0, none⟩), .string nm] w2 fun e w' => e = .returned (.int .i64 (fnd (lk R.names nm))) ∧ w2 = w' := fun w2 h2 => by
    have := rfind_any (nm := nm) h2 (by rw [g3]; have := hb.nm.1; omega)
    rw [g3] at this
    exact this
  have HFN := hid hfn
  cases hl : lk R.names nm with
  | none =>
    have e1 : R.findC nm = 107 := by first | (unfold RS.findC; rw [if_neg hgb, if_pos hl]; done) | (unfold RS.findC; unfold RS.findC; rw [if_neg hgb, if_pos hl]; rfl)
    have e2 : R.syncS nm = R.gateS := by unfold RS.syncS; rw [if_neg (by rw [e1]; decide)]
    rw [e1, e2]
    rw [hl] at HFN
    unfold fnd at HFN
    clear h hb hn hbw hga g1 g2 g3 g4 g5 g6 g7 hbg hgb hgb1 e1 e2 hfn hl
    go_enter Tryz.func17, Tryz.ntmps17
    go_wp2_with fail
    refine HGA.out.mono ?_
    rintro e w1 ⟨rfl, h1, hf1⟩
    have H1 := hid h1; have HF1 := hid hf1
    clear h1 hf1
    go_wp2_with fail
    refine (HFN.out _ H1.out).mono ?_
    rintro e w2 ⟨rfl, rfl⟩
    go_wp2_with fail
    go_ret
    exact ⟨rfl, H1.out, HF1.out⟩
  | some f =>
    have hf0 : R.findC nm = 0 := by unfold RS.findC; rw [if_neg hgb, if_neg (by rw [hl]; simp)]
    rw [hl] at HFN
    unfold fnd at HFN
    have hfn0 : ¬ (f : Int) < 0 := by omega
    obtain ⟨s, hs⟩ := lk_in hl
    have hfl := (hb.nm.2 _ hs).2
    dsimp only at hfl
    have HFL := hid hfl
    clear hs hfl
    have HG := hid (show R.gateS.files = R.files ∧ R.gateS.calls = R.calls from ⟨g2, g6⟩)
    have HGR := hid (show R.gateS.names = R.names ∧ R.gateS.room = R.room from ⟨g3, g1⟩)
    have e1 : R.findC nm = 0 := hf0
    have e2 : R.syncS nm = { R.gateS with files := R.files.set f (((R.files.getD f ([], 0)).1, (R.files.getD f ([], 0)).1.length)), calls := R.calls + 1 } := by unfold RS.syncS; rw [if_pos e1]; unfold RS.upd; rw [hl]
    rw [e1, e2]
    clear h hb hn hbw hga g1 g2 g3 g4 g5 g6 g7 hbg hgb hgb1 e1 e2 hfn hl hf0
    go_enter Tryz.func17, Tryz.ntmps17
    go_wp2_with fail
    refine HGA.out.mono ?_
    rintro e w1 ⟨rfl, h1, hf1⟩
    have H1 := hid h1; have HF1 := hid hf1
    clear h1 hf1
    go_wp2_with fail
    refine (HFN.out _ H1.out).mono ?_
    rintro e w2 ⟨rfl, rfl⟩
    obtain ⟨fv, nv, kv, lv, L, G, hm⟩ := H1.out
    have hfl' : f < R.gateS.files.length := by rw [HG.out.1]; exact HFL.out
    obtain ⟨g, cap, v, hfv, hll, hLi, hfb, d1, d2, dz⟩ := hm.file hfl'
    rw [HG.out.1] at hLi hfb d2 hll
    obtain ⟨va, vc, hv, hvl, hvm, -⟩ := id hfb
    dsimp only at hv hvl
    subst hv
    subst hfv
    obtain ⟨-, c1, -⟩ := hm.cell
    have hlb := HB.out.fb.2 (R.files.getD f ([], 0)) (by rw [List.getD_eq_getElem?_getD, List.getElem?_eq_getElem HFL.out]; exact List.getElem_mem HFL.out)
    obtain ⟨y, hy⟩ : ∃ y, R.files.getD f ([], 0) = y := ⟨_, rfl⟩
    rw [hy] at hLi hfb d1 d2 hlb hvl
    have HY := hid hy
    obtain ⟨l, sy⟩ := y
    dsimp only at hLi hfb d1 d2 hlb hvl
    have hmc := hm.cap
    have hmI : (0 : Int) ≤ f ∧ (f : Int) < L.length := by have := HFL.out; omega
    have HM := hid hm; have HLI := hid hLi; have HFB := hid hfb; have HLB := hid hlb; have HLL := hid (show f < L.length by have := HFL.out; omega)
    have HD1 := hid d1; have HC1 := hid c1; have HD2 := hid d2
    clear hm dz hll hLi hfb hlb hvl hvm hfl' hy
    have hxg : ¬ x = g := fun e => by
      obtain ⟨cs, hg⟩ := own_block HM.out.files (k := g) rfl
      have := HM.out.heap
      rw [e, hg] at this
      simp only [Option.some.injEq, Obj.cells.injEq] at this
      exact absurd this.2.1 (by decide)
    have hbg : ∀ k, BB w1 k → ¬ k = g := fun k ⟨cs, fz, hc⟩ e => by
      obtain ⟨cs', hg⟩ := own_block HM.out.files (k := g) rfl
      rw [e, hg] at hc
      simp only [Option.some.injEq, Obj.cells.injEq] at hc
      exact absurd hc.2.1 (by decide)
    have HXG := hid hxg; have HBGG := hid hbg
    clear hxg hbg
    go_upto_region 6 with fail
    clear d1 d2 c1
    refine wp_region_ordT [(0, 0), (1, 0), (2, 0), (3, 0), (4, 0), (5, 0), (6, 0), (7, 0), (8, 0), (9, 0), (10, 0), (11, 0), (12, 0), (13, 0), (14, 1), (15, 1), (16, 1)] (fun w' => Fr (fun _ => False) w1 w') (by kernel_rfl) (by kernel_rfl) (by kernel_rfl) rfl (fun _ _ d _ _ h => by cases d <;> exact h) (Fr.refl _ _).drew ?_
    iterate 3 (refine wpT_take ?_ rfl (by kernel_rfl) ?_ ?_; rotate_left; (· intro w' hS; go_simp; try with_reducible rfl); try simp only [Act.put, List.setIfInBounds_toArray, List.set_cons_zero, List.set_cons_succ])
    (refine wpT_take ?_ rfl (by kernel_rfl) ?_ ?_; rotate_left; (· intro w' hS; have d1 := hS.cell HC1.out not_false; go_simp; try with_reducible rfl); try simp only [Act.put, List.setIfInBounds_toArray, List.set_cons_zero, List.set_cons_succ])
    iterate 4 (refine wpT_take ?_ rfl (by kernel_rfl) ?_ ?_; rotate_left; (· intro w' hS; go_simp; try with_reducible rfl); try simp only [Act.put, List.setIfInBounds_toArray, List.set_cons_zero, List.set_cons_succ])
    (refine wpT_take ?_ rfl (by kernel_rfl) ?_ ?_; rotate_left; (· intro w' hS; have d1 := hS.cell HC1.out not_false; go_simp; try with_reducible rfl); try simp only [Act.put, List.setIfInBounds_toArray, List.set_cons_zero, List.set_cons_succ])
    iterate 3 (refine wpT_take ?_ rfl (by kernel_rfl) ?_ ?_; rotate_left; (· intro w' hS; go_simp; try with_reducible rfl); try simp only [Act.put, List.setIfInBounds_toArray, List.set_cons_zero, List.set_cons_succ])
    (refine wpT_take ?_ rfl (by kernel_rfl) ?_ ?_; rotate_left; (· intro w' hS; have d1 := hS.cell HD1.out not_false; go_simp; try with_reducible rfl); try simp only [Act.put, List.setIfInBounds_toArray, List.set_cons_zero, List.set_cons_succ])
    (refine wpT_take ?_ rfl (by kernel_rfl) ?_ ?_; rotate_left; (· intro w' hS; go_simp; try with_reducible rfl); try simp only [Act.put, List.setIfInBounds_toArray, List.set_cons_zero, List.set_cons_succ])
    have hwd := (Fr.refl (fun _ => False) w1).drew
    have hmd := HM.out.frame hwd fun _ _ _ _ _ _ => id
    have hset := rown_setCell hmd.files (f * 3 + 1) (.int .i64 (l.length : Int)) (by have := HLL.out; omega)
    rw [fiV_set1 _ _ _ _ _ _ HLI.out] at hset
    have hfg := (Fr.refl (fun k => k = g) w1.drew).setCell (p := ⟨g, f * 3 + 1, none⟩) (.inl rfl) (.int .i64 (l.length : Int))
    obtain ⟨cs, hg⟩ := own_block hmd.files (k := g) rfl
    have f1 : w1.drew.frozen? ⟨g, f * 3 + 1, none⟩ = false := frozen_of_row _ _ _ _ _ hg
    have d2 : w1.drew.cell? ⟨g, f * 3 + 1, none⟩ = some (.int .i64 (sy : Int)) := hwd.cell HD2.out not_false
    obtain ⟨hm5, hf5⟩ := hmd.setF (_, l, l.length) hfg hset (((HFB.out.frame hwd fun _ _ => id).frame hfg fun k hk => HBGG.out k hk).mono fun k _ hk => (hk.frame hwd not_false).frame hfg (HBGG.out k hk))
    have HWD := hid hwd; have HM5' := hid hm5; have HF5' := hid (RK.trans (RK.of hwd) hf5)
    clear hwd hmd hset hfg hg hm5 hf5
    generalize w1.drew = Wd at *
    iterate 2
      refine wpT_run rfl (by kernel_rfl) (fun K hK => ?_)
      go_simp
      refine hK _ _ (fun _ => HWD.out) ?_
      clear hK K
      try simp only [Act.put, List.setIfInBounds_toArray, List.set_cons_zero, List.set_cons_succ]
    refine wpT_run rfl (by kernel_rfl) (fun K hK => ?_)
    go_simp
    refine hK _ _ (last_skip (by kernel_rfl)) ?_
    clear hK K
    try simp only [Act.put, List.setIfInBounds_toArray, List.set_cons_zero, List.set_cons_succ]
    refine wpT_end ?_
    clear f1 d2
    generalize Wd.setCell ⟨g, f * 3 + 1, none⟩ (.int .i64 (l.length : Int)) = W5 at *
    have hm5 := HM5'.out; have hf5 := HF5'.out
    clear HM5' HF5'
    have hyy : (l, l.length) = ((R.files.getD f ([], 0)).1, (R.files.getD f ([], 0)).1.length) := by rw [HY.out]
    dsimp only at hm5
    rw [hyy] at hm5
    have hx6 := setCell_row 7 (.int .i64 ((R.calls : Int) + 1)) hm5.heap
    simp only [List.setIfInBounds_toArray, List.set_cons_zero, List.set_cons_succ] at hx6
    obtain ⟨-, -, -, -, -, -, -, c7, fz7⟩ := hm5.cell
    have f7 := fz7 7
    rw [show ({ R.gateS with files := R.gateS.files.set f (((R.files.getD f ([], 0)).1, (R.files.getD f ([], 0)).1.length)) } : RS).calls = R.calls from HG.out.2] at c7
    have hw7 : IntKind.i64.wrap ((R.calls : Int) + 1) = (R.calls : Int) + 1 := IntWalk.i64_in _ (by have := HB.out.cl.1; omega)
    have HM5 := hid hm5; have HF5 := hid (RK.trans HF1.out hf5); have HX6 := hid hx6
    clear hm5 hf5 hx6 fz7
    go_wp2_with fail
    go_ret
    have hfr := (Fr.refl (fun k => k = x) W5).setCell (p := ⟨x, 7, none⟩) (.inl rfl) (.int .i64 ((R.calls : Int) + 1))
    refine ⟨rfl, ⟨_, _, _, _, _, _, HM5.out.turn (R' := { R.gateS with files := R.files.set f (((R.files.getD f ([], 0)).1, (R.files.getD f ([], 0)).1.length)), calls := R.calls + 1 }) hfr (by show R.files.set f _ = R.gateS.files.set f _; rw [HG.out.1]) rfl HX6.out HM5.out.names HM5.out.kept⟩, RK.trans HF5.out (hfr.rk HM5.out)⟩
set_option maxRecDepth 100000 in
set_option maxHeartbeats 6400000 in
theorem rappend_any {R : RS} (h : RAt base w x R) (hb : R.Ok) (hn : nm.size ≤ 1048576) (vb : Value) (m : List UInt8) (hvb : Bs (fun k => k < base) w vb m) (hml : m.length ≤ 1048576) (hbw : base ≤ w.heap.size) :
    Calls Tryz.prog 13 #[.pointer (some ⟨x, 0, none⟩), .string nm, vb] w fun e w' => e = .returned (.int .i64 (R.appC nm m : Int)) ∧ RAt base w' x (R.appS nm m) ∧ Fr (RK base w) w w' := by
  have hga := gate_any h hb.cl.2
  obtain ⟨g1, g2, g3, g4, g5, g6, g7⟩ := R.gate_same
  have hbg := hb.gate
  have HGA := hid hga; have HB := hid hb; have HBG := hid hbg; have HBW := hid hbw; have HNS := hid hn
  by_cases hgb : R.gateB = false
  · have e1 : R.appC nm m = 110 := by first | (unfold RS.findC; rw [if_pos hgb]; done) | (unfold RS.appC; unfold RS.findC; rw [if_pos hgb]; rfl)
    have e2 : R.appS nm m = R.gateS := by unfold RS.appS; rw [if_neg (by rw [e1]; decide)]
    rw [e1, e2]
    rw [hgb] at HGA
    clear h hb hn hbw hga g1 g2 g3 g4 g5 g6 g7 hbg hgb e1 e2
    go_enter Tryz.func13, Tryz.ntmps13
    go_wp2_with fail
    refine HGA.out.mono ?_
    rintro e w1 ⟨rfl, h1, hf1⟩
    have H1 := hid h1; have HF1 := hid hf1
    clear h1 hf1
    go_wp2_with fail
    go_ret
    exact ⟨rfl, H1.out, HF1.out⟩
  have hgb1 : R.gateB = true := by simpa using hgb
  rw [hgb1] at HGA
  have hfn : ∀ w2, RAt base w2 x R.gateS → Calls Tryz.prog 42 #[.pointer (some ⟨x, 0, none⟩), .string nm] w2 fun e w' => e = .returned (.int .i64 (fnd (lk R.names nm))) ∧ w2 = w' := fun w2 h2 => by
    have := rfind_any (nm := nm) h2 (by rw [g3]; have := hb.nm.1; omega)
    rw [g3] at this
    exact this
  have HFN := hid hfn
  cases hl : lk R.names nm with
  | none =>
    have e1 : R.appC nm m = 107 := by first | (unfold RS.findC; rw [if_neg hgb, if_pos hl]; done) | (unfold RS.appC; unfold RS.findC; rw [if_neg hgb, if_pos hl]; rfl)
    have e2 : R.appS nm m = R.gateS := by unfold RS.appS; rw [if_neg (by rw [e1]; decide)]
    rw [e1, e2]
    rw [hl] at HFN
    unfold fnd at HFN
    clear h hb hn hbw hga g1 g2 g3 g4 g5 g6 g7 hbg hgb hgb1 e1 e2 hfn hl
    go_enter Tryz.func13, Tryz.ntmps13
    go_wp2_with fail
    refine HGA.out.mono ?_
    rintro e w1 ⟨rfl, h1, hf1⟩
    have H1 := hid h1; have HF1 := hid hf1
    clear h1 hf1
    go_wp2_with fail
    refine (HFN.out _ H1.out).mono ?_
    rintro e w2 ⟨rfl, rfl⟩
    go_wp2_with fail
    go_ret
    exact ⟨rfl, H1.out, HF1.out⟩
  | some f =>
    have hf0 : R.findC nm = 0 := by unfold RS.findC; rw [if_neg hgb, if_neg (by rw [hl]; simp)]
    rw [hl] at HFN
    unfold fnd at HFN
    have hfn0 : ¬ (f : Int) < 0 := by omega
    obtain ⟨s, hs⟩ := lk_in hl
    have hfl := (hb.nm.2 _ hs).2
    dsimp only at hfl
    have HFL := hid hfl
    clear hs hfl
    have HG := hid (show R.gateS.files = R.files ∧ R.gateS.calls = R.calls from ⟨g2, g6⟩)
    have HGR := hid (show R.gateS.names = R.names ∧ R.gateS.room = R.room from ⟨g3, g1⟩)
    obtain ⟨ab, cb, hvbe, hvbl, hvbm, -⟩ := id hvb
    subst hvbe
    have hmm : m.length ≤ 9223372036854775807 := Nat.le_trans hvbl hvbm
    have HVB := hid hvb; have HML := hid hml
    have hub := usedR_le R.files (fun y hy => (hb.fb.2 y hy).1) R.names
    have hnl := hb.nm.1
    have hrm := hb.rm
    have wsub : IntKind.i64.wrap (R.room - (usedR R.files R.names : Int)) = R.room - (usedR R.files R.names : Int) := IntWalk.i64_in _ (by omega)
    clear hvb hvbl hvbm hml hub hnl hrm
    by_cases hfull : R.room - (usedR R.files R.names : Int) < m.length
    · have e1 : R.appC nm m = 109 := by unfold RS.appC; rw [if_neg (by rw [hf0]; simp), if_pos hfull]
      have e2 : R.appS nm m = R.gateS := by unfold RS.appS; rw [if_neg (by rw [e1]; decide)]
      rw [e1, e2]
      clear h hb hn hbw hga g1 g2 g3 g4 g5 g6 g7 hbg hgb hgb1 e1 e2 hfn hl hf0
      go_enter Tryz.func13, Tryz.ntmps13
      go_wp2_with fail
      refine HGA.out.mono ?_
      rintro e w1 ⟨rfl, h1, hf1⟩
      have H1 := hid h1; have HF1 := hid hf1
      clear h1 hf1
      go_wp2_with fail
      refine (HFN.out _ H1.out).mono ?_
      rintro e w2 ⟨rfl, rfl⟩
      obtain ⟨fv, nv, kv, lv, L, G, hm⟩ := H1.out
      have hfl' : f < R.gateS.files.length := by rw [HG.out.1]; exact HFL.out
      obtain ⟨g, cap, v, hfv, hll, hLi, hfb, d1, d2, dz⟩ := hm.file hfl'
      rw [HG.out.1] at hLi hfb d2 hll
      obtain ⟨va, vc, hv, hvl, hvm, -⟩ := id hfb
      dsimp only at hv hvl
      subst hv
      subst hfv
      obtain ⟨-, c1, -⟩ := hm.cell
      have hlb := HB.out.fb.2 (R.files.getD f ([], 0)) (by rw [List.getD_eq_getElem?_getD, List.getElem?_eq_getElem HFL.out]; exact List.getElem_mem HFL.out)
      obtain ⟨y, hy⟩ : ∃ y, R.files.getD f ([], 0) = y := ⟨_, rfl⟩
      rw [hy] at hLi hfb d1 d2 hlb hvl
      have HY := hid hy
      obtain ⟨l, sy⟩ := y
      dsimp only at hLi hfb d1 d2 hlb hvl
      have hmc := hm.cap
      have hmI : (0 : Int) ≤ f ∧ (f : Int) < L.length := by have := HFL.out; omega
      have HM := hid hm; have HLI := hid hLi; have HFB := hid hfb; have HLB := hid hlb; have HLL := hid (show f < L.length by have := HFL.out; omega)
      have HD1 := hid d1; have HC1 := hid c1
      have HM0 := hid (hm.cell.1)
      clear hm dz hll hLi hfb hlb hvl hvm hfl' hy d2
      have hxg : ¬ x = g := fun e => by
        obtain ⟨cs, hg⟩ := own_block HM.out.files (k := g) rfl
        have := HM.out.heap
        rw [e, hg] at this
        simp only [Option.some.injEq, Obj.cells.injEq] at this
        exact absurd this.2.1 (by decide)
      have hbg : ∀ k, BB w1 k → ¬ k = g := fun k ⟨cs, fz, hc⟩ e => by
        obtain ⟨cs', hg⟩ := own_block HM.out.files (k := g) rfl
        rw [e, hg] at hc
        simp only [Option.some.injEq, Obj.cells.injEq] at hc
        exact absurd hc.2.1 (by decide)
      have HXG := hid hxg; have HBGG := hid hbg
      clear hxg hbg
      go_upto_region 6 with fail
      clear d1 c1
      have hus := fun (W : World) (hF : Fr (fun _ => False) w1 W) => rused_any (R := R.gateS) ⟨_, _, _, _, _, _, HM.out.frame hF fun _ _ _ _ _ _ => id⟩ HBG.out
      rw [HG.out.1, HGR.out.1] at hus
      have HUS := hid hus
      clear hus
      have hroom := HM0.out
      rw [HGR.out.2] at hroom
      have HROOM := hid hroom
      clear hroom
      refine wp_region_cls (fun w' => Fr (fun _ => False) w1 w') (by kernel_rfl) (by kernel_rfl) (Fr.refl _ _).drew ?_
      iterate 5 (refine q_take ?_ (by kernel_rfl) ?_ ?_; rotate_left; (· intro w' hS; go_simp; try with_reducible rfl); (try simp only [Act.put, List.setIfInBounds_toArray, List.set_cons_zero, List.set_cons_succ]))
      (refine q_take ?_ (by kernel_rfl) ?_ ?_; rotate_left; (· intro w' hS; have d1 := hS.cell HROOM.out not_false; go_simp; try with_reducible rfl); try simp only [Act.put, List.setIfInBounds_toArray, List.set_cons_zero, List.set_cons_succ])
      (refine q_take ?_ (by kernel_rfl) ?_ ?_; rotate_left; (· intro w' hS; go_simp; try with_reducible rfl); (try simp only [Act.put, List.setIfInBounds_toArray, List.set_cons_zero, List.set_cons_succ]))
      (refine q_call ?_ ?_ (by kernel_rfl) ?_ ?_; rotate_left 2; (· intro w' hS; go_simp; first | with_reducible rfl | (constructor <;> with_reducible rfl)); (refine ⟨_, fun w' hw => (HUS.out w' hw).mono fun _ _ h => ⟨h.1, hw.trans' h.2⟩, ?_⟩); (try simp only [Act.put, List.setIfInBounds_toArray, List.set_cons_zero, List.set_cons_succ]))
      iterate 2 (refine q_take ?_ (by kernel_rfl) ?_ ?_; rotate_left; (· intro w' hS; go_simp; try with_reducible rfl); (try simp only [Act.put, List.setIfInBounds_toArray, List.set_cons_zero, List.set_cons_succ]))
      refine q_end (fun wy hw => ?_)
      have HFY := hid hw
      clear hw
      go_wp2_with fail
      go_ret
      exact ⟨rfl, ⟨_, _, _, _, _, _, HM.out.frame HFY.out fun _ _ _ _ _ _ => id⟩, RK.trans HF1.out (RK.of HFY.out)⟩
    have e1 : R.appC nm m = 0 := by unfold RS.appC; rw [if_neg (by rw [hf0]; simp), if_neg hfull]
    have e2 : R.appS nm m = { R.gateS with files := R.files.set f (((R.files.getD f ([], 0)).1 ++ m, (R.files.getD f ([], 0)).2)), calls := R.calls + 1 } := by unfold RS.appS; rw [if_pos e1]; unfold RS.upd; rw [hl]
    rw [e1, e2]
    clear h hb hn hbw hga g1 g2 g3 g4 g5 g6 g7 hbg hgb hgb1 e1 e2 hfn hl hf0
    go_enter Tryz.func13, Tryz.ntmps13
    go_wp2_with fail
    refine HGA.out.mono ?_
    rintro e w1 ⟨rfl, h1, hf1⟩
    have H1 := hid h1; have HF1 := hid hf1
    clear h1 hf1
    go_wp2_with fail
    refine (HFN.out _ H1.out).mono ?_
    rintro e w2 ⟨rfl, rfl⟩
    obtain ⟨fv, nv, kv, lv, L, G, hm⟩ := H1.out
    have hfl' : f < R.gateS.files.length := by rw [HG.out.1]; exact HFL.out
    obtain ⟨g, cap, v, hfv, hll, hLi, hfb, d1, d2, dz⟩ := hm.file hfl'
    rw [HG.out.1] at hLi hfb d2 hll
    obtain ⟨va, vc, hv, hvl, hvm, -⟩ := id hfb
    dsimp only at hv hvl
    subst hv
    subst hfv
    obtain ⟨-, c1, -⟩ := hm.cell
    have hlb := HB.out.fb.2 (R.files.getD f ([], 0)) (by rw [List.getD_eq_getElem?_getD, List.getElem?_eq_getElem HFL.out]; exact List.getElem_mem HFL.out)
    obtain ⟨y, hy⟩ : ∃ y, R.files.getD f ([], 0) = y := ⟨_, rfl⟩
    rw [hy] at hLi hfb d1 d2 hlb hvl
    have HY := hid hy
    obtain ⟨l, sy⟩ := y
    dsimp only at hLi hfb d1 d2 hlb hvl
    have hmc := hm.cap
    have hmI : (0 : Int) ≤ f ∧ (f : Int) < L.length := by have := HFL.out; omega
    have HM := hid hm; have HLI := hid hLi; have HFB := hid hfb; have HLB := hid hlb; have HLL := hid (show f < L.length by have := HFL.out; omega)
    have HD1 := hid d1; have HC1 := hid c1
    have HM0 := hid (hm.cell.1)
    clear hm dz hll hLi hfb hlb hvl hvm hfl' hy d2
    have hxg : ¬ x = g := fun e => by
      obtain ⟨cs, hg⟩ := own_block HM.out.files (k := g) rfl
      have := HM.out.heap
      rw [e, hg] at this
      simp only [Option.some.injEq, Obj.cells.injEq] at this
      exact absurd this.2.1 (by decide)
    have hbg : ∀ k, BB w1 k → ¬ k = g := fun k ⟨cs, fz, hc⟩ e => by
      obtain ⟨cs', hg⟩ := own_block HM.out.files (k := g) rfl
      rw [e, hg] at hc
      simp only [Option.some.injEq, Obj.cells.injEq] at hc
      exact absurd hc.2.1 (by decide)
    have HXG := hid hxg; have HBGG := hid hbg
    clear hxg hbg
    go_upto_region 6 with fail
    clear d1 c1
    have hus := fun (W : World) (hF : Fr (fun _ => False) w1 W) => rused_any (R := R.gateS) ⟨_, _, _, _, _, _, HM.out.frame hF fun _ _ _ _ _ _ => id⟩ HBG.out
    rw [HG.out.1, HGR.out.1] at hus
    have HUS := hid hus
    clear hus
    have hroom := HM0.out
    rw [HGR.out.2] at hroom
    have HROOM := hid hroom
    clear hroom
    refine wp_region_cls (fun w' => Fr (fun _ => False) w1 w') (by kernel_rfl) (by kernel_rfl) (Fr.refl _ _).drew ?_
    iterate 5 (refine q_take ?_ (by kernel_rfl) ?_ ?_; rotate_left; (· intro w' hS; go_simp; try with_reducible rfl); (try simp only [Act.put, List.setIfInBounds_toArray, List.set_cons_zero, List.set_cons_succ]))
    (refine q_take ?_ (by kernel_rfl) ?_ ?_; rotate_left; (· intro w' hS; have d1 := hS.cell HROOM.out not_false; go_simp; try with_reducible rfl); try simp only [Act.put, List.setIfInBounds_toArray, List.set_cons_zero, List.set_cons_succ])
    (refine q_take ?_ (by kernel_rfl) ?_ ?_; rotate_left; (· intro w' hS; go_simp; try with_reducible rfl); (try simp only [Act.put, List.setIfInBounds_toArray, List.set_cons_zero, List.set_cons_succ]))
    (refine q_call ?_ ?_ (by kernel_rfl) ?_ ?_; rotate_left 2; (· intro w' hS; go_simp; first | with_reducible rfl | (constructor <;> with_reducible rfl)); (refine ⟨_, fun w' hw => (HUS.out w' hw).mono fun _ _ h => ⟨h.1, hw.trans' h.2⟩, ?_⟩); (try simp only [Act.put, List.setIfInBounds_toArray, List.set_cons_zero, List.set_cons_succ]))
    iterate 2 (refine q_take ?_ (by kernel_rfl) ?_ ?_; rotate_left; (· intro w' hS; go_simp; try with_reducible rfl); (try simp only [Act.put, List.setIfInBounds_toArray, List.set_cons_zero, List.set_cons_succ]))
    refine q_end (fun wy hw => ?_)
    have HFY := hid hw
    clear hw
    go_upto_region 8 with fail
    have hmy := HM.out.frame HFY.out fun _ _ _ _ _ _ => id
    have HMY := hid hmy
    have HC1y := hid (HFY.out.cell HC1.out not_false); have HD1y := hid (HFY.out.cell HD1.out not_false); have HFBy := hid (show FB wy (Value.slice va l.length vc, l, sy) from ((HFB.out.frame HFY.out fun _ _ => id).mono fun k _ hk => hk.frame HFY.out not_false)); have HF1y := hid (RK.trans HF1.out (RK.of HFY.out))
    clear HM HC1 HD1 HFB HF1 hmy HBGG
    have HM := HMY; have HC1 := HC1y; have HD1 := HD1y; have HFB := HFBy; have HF1 := HF1y
    clear HMY HC1y HD1y HFBy HF1y HFY
    refine wp_region_ordT [(0, 0), (1, 0), (2, 0), (3, 0), (4, 0), (5, 0), (6, 0), (7, 0), (8, 0), (9, 0), (10, 0), (11, 0), (12, 0), (14, 0), (13, 1), (15, 1), (16, 1), (17, 1), (18, 1)] (fun w' => Fr (fun _ => False) wy w') (by kernel_rfl) (by kernel_rfl) (by kernel_rfl) rfl (fun _ _ d _ _ h => by cases d <;> exact h) (Fr.refl _ _).drew ?_
    iterate 3 (refine wpT_take ?_ rfl (by kernel_rfl) ?_ ?_; rotate_left; (· intro w' hS; go_simp; try with_reducible rfl); try simp only [Act.put, List.setIfInBounds_toArray, List.set_cons_zero, List.set_cons_succ])
    (refine wpT_take ?_ rfl (by kernel_rfl) ?_ ?_; rotate_left; (· intro w' hS; have d1 := hS.cell HC1.out not_false; go_simp; try with_reducible rfl); try simp only [Act.put, List.setIfInBounds_toArray, List.set_cons_zero, List.set_cons_succ])
    iterate 4 (refine wpT_take ?_ rfl (by kernel_rfl) ?_ ?_; rotate_left; (· intro w' hS; go_simp; try with_reducible rfl); try simp only [Act.put, List.setIfInBounds_toArray, List.set_cons_zero, List.set_cons_succ])
    (refine wpT_take ?_ rfl (by kernel_rfl) ?_ ?_; rotate_left; (· intro w' hS; have d1 := hS.cell HC1.out not_false; go_simp; try with_reducible rfl); try simp only [Act.put, List.setIfInBounds_toArray, List.set_cons_zero, List.set_cons_succ])
    iterate 3 (refine wpT_take ?_ rfl (by kernel_rfl) ?_ ?_; rotate_left; (· intro w' hS; go_simp; try with_reducible rfl); try simp only [Act.put, List.setIfInBounds_toArray, List.set_cons_zero, List.set_cons_succ])
    (refine wpT_take ?_ rfl (by kernel_rfl) ?_ ?_; rotate_left; (· intro w' hS; have d1 := hS.cell HD1.out not_false; go_simp; try with_reducible rfl); try simp only [Act.put, List.setIfInBounds_toArray, List.set_cons_zero, List.set_cons_succ])
    (refine wpT_take ?_ rfl (by kernel_rfl) ?_ ?_; rotate_left; (· intro w' hS; go_simp; try with_reducible rfl); try simp only [Act.put, List.setIfInBounds_toArray, List.set_cons_zero, List.set_cons_succ])
    have hwd := (Fr.refl (fun _ => False) wy).drew
    have HWD := hid hwd
    have hby := rbytes_copy _ _ l wy.drew (HFB.out.frame hwd fun _ _ => id) (by have := HLB.out; omega)
    have HBY := hid hby
    clear hby hwd
    generalize wy.drew = Wd at *
    refine wpT_run rfl (by kernel_rfl) (fun K hK => ?_); go_simp
    refine HBY.out.mono ?_
    rintro e w5 ⟨v5, rfl, ho5, hf5⟩
    have hf5w := HWD.out.trans' hf5
    refine hK _ _ (fun _ => hf5w) ?_
    clear hK K
    try simp only [Act.put, List.setIfInBounds_toArray, List.set_cons_zero, List.set_cons_succ]
    obtain ⟨a5, c5, rfl, -⟩ := own_len ho5
    have hvb := (HVB.out.frame HF1.out fun k hk hr => by have := hr.1; have hk' : k < base := hk; omega).frame hf5w fun _ _ => id
    obtain ⟨v6, w6, hap, ho6, hf6⟩ := run_appendB ho5 hvb (by have := HLB.out; have := HML.out; omega) (by have := hf5.size; omega) 32
    obtain ⟨a6, c6, rfl, -⟩ := own_len ho6
    obtain ⟨q, hq⟩ : ∃ q, (l ++ m).length = q := ⟨_, rfl⟩
    have hb6 := ho6.bs2
    rw [hq] at hap hb6
    have HB6 := hid hb6
    have HF6 := hid (hf5w.trans (U := fun _ => False) hf6 (fun _ _ h => h) fun k hk e => by
      have h1 := (ho5.lt k e.symm).1
      have h2 := HWD.out.size
      omega)
    clear ho5 hf5 hf5w hvb ho6 hf6 hq hb6
    refine wpT_run rfl (by kernel_rfl) (fun K hK => ?_)
    refine Lib.wp_append_run _ (.tmp 39) (.tmp 40) 32 32 rfl _ _ rfl rfl _ _ hap ?_
    refine hK _ _ (fun _ => HF6.out) ?_
    clear hK K hap
    try simp only [Act.put, List.setIfInBounds_toArray, List.set_cons_zero, List.set_cons_succ]
    have hmd := HM.out.frame HF6.out fun _ _ _ _ _ _ => id
    have hset := rown_setCell hmd.files (f * 3) (.slice a6 q c6) (by have := HLL.out; omega)
    rw [fiV_set0 _ _ _ (.slice a6 q c6) _ (l ++ m) _ HLI.out] at hset
    have hfg := (Fr.refl (fun k => k = g) w6).setCell (p := ⟨g, f * 3, none⟩) (.inl rfl) (.slice a6 q c6)
    obtain ⟨cs, hg⟩ := own_block hmd.files (k := g) rfl
    have f1 : w6.frozen? ⟨g, f * 3, none⟩ = false := frozen_of_row _ _ _ _ _ hg
    have d2 : w6.cell? ⟨g, f * 3, none⟩ = some (.slice va l.length vc) := HF6.out.cell HD1.out not_false
    have hbg6 : ∀ k, BB w6 k → ¬ k = g := fun k ⟨cs', fz, hc⟩ e => by
      rw [e, hg] at hc
      simp only [Option.some.injEq, Obj.cells.injEq] at hc
      exact absurd hc.2.1 (by decide)
    have hfb5 : FB (w6.setCell ⟨g, f * 3, none⟩ (.slice a6 q c6)) (Value.slice a6 q c6, l ++ m, sy) := (HB6.out.frame hfg hbg6).mono fun k _ hk => hk.frame hfg (hbg6 k hk)
    obtain ⟨hm5, hf5⟩ := hmd.setF (_, l ++ m, sy) hfg hset hfb5
    have HM5' := hid hm5; have HF5' := hid (RK.trans (RK.of HF6.out) hf5); have HFB5 := hid hfb5
    have HLI5 := hid (show (L.set f (Value.slice a6 q c6, l ++ m, sy))[f]? = some (Value.slice a6 q c6, l ++ m, sy) by rw [List.getElem?_set_self HLL.out])
    clear hmd hset hfg hg hm5 hf5 hbg6 hfb5
    iterate 2
      refine wpT_run rfl (by kernel_rfl) (fun K hK => ?_)
      go_simp
      refine hK _ _ (fun _ => HF6.out) ?_
      clear hK K
      try simp only [Act.put, List.setIfInBounds_toArray, List.set_cons_zero, List.set_cons_succ]
    refine wpT_run rfl (by kernel_rfl) (fun K hK => ?_)
    go_simp
    refine hK _ _ (last_skip (by kernel_rfl)) ?_
    clear hK K
    try simp only [Act.put, List.setIfInBounds_toArray, List.set_cons_zero, List.set_cons_succ]
    refine wpT_end ?_
    clear f1 d2
    generalize w6.setCell ⟨g, f * 3, none⟩ (.slice a6 q c6) = W5 at *
    have hm5 := HM5'.out; have hf5 := HF5'.out
    clear HM5' HF5'
    have hyy : (l ++ m, sy) = ((R.files.getD f ([], 0)).1 ++ m, (R.files.getD f ([], 0)).2) := by rw [HY.out]
    dsimp only at hm5
    rw [hyy] at hm5
    have hx6 := setCell_row 7 (.int .i64 ((R.calls : Int) + 1)) hm5.heap
    simp only [List.setIfInBounds_toArray, List.set_cons_zero, List.set_cons_succ] at hx6
    obtain ⟨-, -, -, -, -, -, -, c7, fz7⟩ := hm5.cell
    have f7 := fz7 7
    rw [show ({ R.gateS with files := R.gateS.files.set f (((R.files.getD f ([], 0)).1 ++ m, (R.files.getD f ([], 0)).2)) } : RS).calls = R.calls from HG.out.2] at c7
    have hw7 : IntKind.i64.wrap ((R.calls : Int) + 1) = (R.calls : Int) + 1 := IntWalk.i64_in _ (by have := HB.out.cl.1; omega)
    have HM5 := hid hm5; have HF5 := hid (RK.trans HF1.out hf5); have HX6 := hid hx6
    clear hm5 hf5 hx6 fz7
    go_wp2_with fail
    go_ret
    have hfr := (Fr.refl (fun k => k = x) W5).setCell (p := ⟨x, 7, none⟩) (.inl rfl) (.int .i64 ((R.calls : Int) + 1))
    refine ⟨rfl, ⟨_, _, _, _, _, _, HM5.out.turn (R' := { R.gateS with files := R.files.set f (((R.files.getD f ([], 0)).1 ++ m, (R.files.getD f ([], 0)).2)), calls := R.calls + 1 }) hfr (by show R.files.set f _ = R.gateS.files.set f _; rw [HG.out.1]) rfl HX6.out HM5.out.names HM5.out.kept⟩, RK.trans HF5.out (hfr.rk HM5.out)⟩
set_option maxRecDepth 100000 in
set_option maxHeartbeats 6400000 in
theorem rcut_any {R : RS} (h : RAt base w x R) (hb : R.Ok) (hn : nm.size ≤ 1048576) (n : Int) (hnn : -9223372036854775808 ≤ n ∧ n ≤ 9223372036854775807) (hbw : base ≤ w.heap.size) :
    Calls Tryz.prog 15 #[.pointer (some ⟨x, 0, none⟩), .string nm, .int .i64 n] w fun e w' => e = .returned (.int .i64 (R.cutC nm n : Int)) ∧ RAt base w' x (R.cutS nm n) ∧ Fr (RK base w) w w' := by
  have hga := gate_any h hb.cl.2
  obtain ⟨g1, g2, g3, g4, g5, g6, g7⟩ := R.gate_same
  have hbg := hb.gate
  have HGA := hid hga; have HB := hid hb; have HBG := hid hbg; have HBW := hid hbw; have HNS := hid hn
  by_cases hgb : R.gateB = false
  · have e1 : R.cutC nm n = 110 := by first | (unfold RS.findC; rw [if_pos hgb]; done) | (unfold RS.cutC; unfold RS.findC; rw [if_pos hgb]; rfl)
    have e2 : R.cutS nm n = R.gateS := by unfold RS.cutS; rw [if_neg (by rw [e1]; decide)]
    rw [e1, e2]
    rw [hgb] at HGA
    clear h hb hn hbw hga g1 g2 g3 g4 g5 g6 g7 hbg hgb e1 e2
    go_enter Tryz.func15, Tryz.ntmps15
    go_wp2_with fail
    refine HGA.out.mono ?_
    rintro e w1 ⟨rfl, h1, hf1⟩
    have H1 := hid h1; have HF1 := hid hf1
    clear h1 hf1
    go_wp2_with fail
    go_ret
    exact ⟨rfl, H1.out, HF1.out⟩
  have hgb1 : R.gateB = true := by simpa using hgb
  rw [hgb1] at HGA
  have hfn : ∀ w2, RAt base w2 x R.gateS → Calls Tryz.prog 42 #[.pointer (some ⟨x, 0, none⟩), .string nm] w2 fun e w' => e = .returned (.int .i64 (fnd (lk R.names nm))) ∧ w2 = w' := fun w2 h2 => by
    have := rfind_any (nm := nm) h2 (by rw [g3]; have := hb.nm.1; omega)
    rw [g3] at this
    exact this
  have HFN := hid hfn
  cases hl : lk R.names nm with
  | none =>
    have e1 : R.cutC nm n = 107 := by first | (unfold RS.findC; rw [if_neg hgb, if_pos hl]; done) | (unfold RS.cutC; unfold RS.findC; rw [if_neg hgb, if_pos hl]; rfl)
    have e2 : R.cutS nm n = R.gateS := by unfold RS.cutS; rw [if_neg (by rw [e1]; decide)]
    rw [e1, e2]
    rw [hl] at HFN
    unfold fnd at HFN
    clear h hb hn hbw hga g1 g2 g3 g4 g5 g6 g7 hbg hgb hgb1 e1 e2 hfn hl
    go_enter Tryz.func15, Tryz.ntmps15
    go_wp2_with fail
    refine HGA.out.mono ?_
    rintro e w1 ⟨rfl, h1, hf1⟩
    have H1 := hid h1; have HF1 := hid hf1
    clear h1 hf1
    go_wp2_with fail
    refine (HFN.out _ H1.out).mono ?_
    rintro e w2 ⟨rfl, rfl⟩
    go_wp2_with fail
    go_ret
    exact ⟨rfl, H1.out, HF1.out⟩
  | some f =>
    have hf0 : R.findC nm = 0 := by unfold RS.findC; rw [if_neg hgb, if_neg (by rw [hl]; simp)]
    rw [hl] at HFN
    unfold fnd at HFN
    have hfn0 : ¬ (f : Int) < 0 := by omega
    obtain ⟨s, hs⟩ := lk_in hl
    have hfl := (hb.nm.2 _ hs).2
    dsimp only at hfl
    have HFL := hid hfl
    clear hs hfl
    have HG := hid (show R.gateS.files = R.files ∧ R.gateS.calls = R.calls from ⟨g2, g6⟩)
    have HGR := hid (show R.gateS.names = R.names ∧ R.gateS.room = R.room from ⟨g3, g1⟩)
    have hfe : (R.fl nm).1.length = (R.files.getD f ([], 0)).1.length := by unfold RS.fl; rw [hl]
    by_cases n1 : n < 0
    · have e1 : R.cutC nm n = 105 := by unfold RS.cutC; rw [if_neg (by rw [hf0]; simp), if_pos (.inl n1)]
      have e2 : R.cutS nm n = R.gateS := by unfold RS.cutS; rw [if_neg (by rw [e1]; decide)]
      rw [e1, e2]
      clear h hb hn hbw hga g1 g2 g3 g4 g5 g6 g7 hbg hgb hgb1 e1 e2 hfn hl hf0 hfe
      go_enter Tryz.func15, Tryz.ntmps15
      go_wp2_with fail
      refine HGA.out.mono ?_
      rintro e w1 ⟨rfl, h1, hf1⟩
      have H1 := hid h1; have HF1 := hid hf1
      clear h1 hf1
      go_wp2_with fail
      refine (HFN.out _ H1.out).mono ?_
      rintro e w2 ⟨rfl, rfl⟩
      go_wp2_with fail
      go_ret
      exact ⟨rfl, H1.out, HF1.out⟩
    by_cases hcl : ((R.files.getD f ([], 0)).1.length : Int) < n
    · have e1 : R.cutC nm n = 105 := by unfold RS.cutC; rw [if_neg (by rw [hf0]; simp), if_pos (.inr (by rw [hfe]; exact hcl))]
      have e2 : R.cutS nm n = R.gateS := by unfold RS.cutS; rw [if_neg (by rw [e1]; decide)]
      rw [e1, e2]
      clear h hb hn hbw hga g1 g2 g3 g4 g5 g6 g7 hbg hgb hgb1 e1 e2 hfn hl hf0 hfe
      go_enter Tryz.func15, Tryz.ntmps15
      go_wp2_with fail
      refine HGA.out.mono ?_
      rintro e w1 ⟨rfl, h1, hf1⟩
      have H1 := hid h1; have HF1 := hid hf1
      clear h1 hf1
      go_wp2_with fail
      refine (HFN.out _ H1.out).mono ?_
      rintro e w2 ⟨rfl, rfl⟩
      obtain ⟨fv, nv, kv, lv, L, G, hm⟩ := H1.out
      have hfl' : f < R.gateS.files.length := by rw [HG.out.1]; exact HFL.out
      obtain ⟨g, cap, v, hfv, hll, hLi, hfb, d1, d2, dz⟩ := hm.file hfl'
      rw [HG.out.1] at hLi hfb d2 hll
      obtain ⟨va, vc, hv, hvl, hvm, -⟩ := id hfb
      dsimp only at hv hvl
      subst hv
      subst hfv
      obtain ⟨-, c1, -⟩ := hm.cell
      have hlb := HB.out.fb.2 (R.files.getD f ([], 0)) (by rw [List.getD_eq_getElem?_getD, List.getElem?_eq_getElem HFL.out]; exact List.getElem_mem HFL.out)
      obtain ⟨y, hy⟩ : ∃ y, R.files.getD f ([], 0) = y := ⟨_, rfl⟩
      rw [hy] at hLi hfb d1 d2 hlb hvl
      have HY := hid hy
      obtain ⟨l, sy⟩ := y
      dsimp only at hLi hfb d1 d2 hlb hvl
      have hmc := hm.cap
      have hmI : (0 : Int) ≤ f ∧ (f : Int) < L.length := by have := HFL.out; omega
      have HM := hid hm; have HLI := hid hLi; have HFB := hid hfb; have HLB := hid hlb; have HLL := hid (show f < L.length by have := HFL.out; omega)
      rw [HY.out] at hcl
      dsimp only at hcl
      clear hm dz hll hLi hfb hlb hvl hvm hfl' hy d2
      go_wp2_with fail
      go_ret
      exact ⟨rfl, ⟨_, _, _, _, _, _, HM.out⟩, HF1.out⟩
    have e1 : R.cutC nm n = 0 := by unfold RS.cutC; rw [if_neg (by rw [hf0]; simp), if_neg (by rw [hfe]; omega)]
    obtain ⟨nn, rfl⟩ : ∃ k : Nat, n = (k : Int) := ⟨n.toNat, by omega⟩
    clear hfe
    have e2 : R.cutS nm (nn : Int) = { R.gateS with files := R.files.set f (((R.files.getD f ([], 0)).1.take ((nn : Int)).toNat, ((nn : Int)).toNat)), calls := R.calls + 1 } := by unfold RS.cutS; rw [if_pos e1]; unfold RS.upd; rw [hl]
    rw [e1, e2]
    clear h hb hn hbw hga g1 g2 g3 g4 g5 g6 g7 hbg hgb hgb1 e1 e2 hfn hl hf0
    go_enter Tryz.func15, Tryz.ntmps15
    go_wp2_with fail
    refine HGA.out.mono ?_
    rintro e w1 ⟨rfl, h1, hf1⟩
    have H1 := hid h1; have HF1 := hid hf1
    clear h1 hf1
    go_wp2_with fail
    refine (HFN.out _ H1.out).mono ?_
    rintro e w2 ⟨rfl, rfl⟩
    obtain ⟨fv, nv, kv, lv, L, G, hm⟩ := H1.out
    have hfl' : f < R.gateS.files.length := by rw [HG.out.1]; exact HFL.out
    obtain ⟨g, cap, v, hfv, hll, hLi, hfb, d1, d2, dz⟩ := hm.file hfl'
    rw [HG.out.1] at hLi hfb d2 hll
    obtain ⟨va, vc, hv, hvl, hvm, -⟩ := id hfb
    dsimp only at hv hvl
    subst hv
    subst hfv
    obtain ⟨-, c1, -⟩ := hm.cell
    have hlb := HB.out.fb.2 (R.files.getD f ([], 0)) (by rw [List.getD_eq_getElem?_getD, List.getElem?_eq_getElem HFL.out]; exact List.getElem_mem HFL.out)
    obtain ⟨y, hy⟩ : ∃ y, R.files.getD f ([], 0) = y := ⟨_, rfl⟩
    rw [hy] at hLi hfb d1 d2 hlb hvl
    have HY := hid hy
    obtain ⟨l, sy⟩ := y
    dsimp only at hLi hfb d1 d2 hlb hvl
    have hmc := hm.cap
    have hmI : (0 : Int) ≤ f ∧ (f : Int) < L.length := by have := HFL.out; omega
    have HM := hid hm; have HLI := hid hLi; have HFB := hid hfb; have HLB := hid hlb; have HLL := hid (show f < L.length by have := HFL.out; omega)
    rw [HY.out] at hcl
    dsimp only at hcl
    have HD1 := hid d1; have HC1 := hid c1; have HD2 := hid d2
    have hnv : (0 : Int) ≤ nn ∧ (nn : Int) ≤ vc := by omega
    have hnl : nn ≤ l.length := by omega
    have HNL := hid hnl
    clear hm dz hll hLi hfb hlb hvl hvm hfl' hy d2
    have hxg : ¬ x = g := fun e => by
      obtain ⟨cs, hg⟩ := own_block HM.out.files (k := g) rfl
      have := HM.out.heap
      rw [e, hg] at this
      simp only [Option.some.injEq, Obj.cells.injEq] at this
      exact absurd this.2.1 (by decide)
    have hbg : ∀ k, BB w1 k → ¬ k = g := fun k ⟨cs, fz, hc⟩ e => by
      obtain ⟨cs', hg⟩ := own_block HM.out.files (k := g) rfl
      rw [e, hg] at hc
      simp only [Option.some.injEq, Obj.cells.injEq] at hc
      exact absurd hc.2.1 (by decide)
    have HXG := hid hxg; have HBGG := hid hbg
    clear hxg hbg
    go_upto_region 8 with fail
    clear d1 c1
    refine wp_region_ordT [(0, 0), (1, 0), (2, 0), (3, 0), (4, 0), (5, 0), (6, 0), (7, 0), (8, 0), (9, 0), (10, 0), (11, 0), (12, 0), (13, 0), (14, 0), (15, 1), (16, 1), (17, 1), (18, 1)] (fun w' => Fr (fun _ => False) w1 w') (by kernel_rfl) (by kernel_rfl) (by kernel_rfl) rfl (fun _ _ d _ _ h => by cases d <;> exact h) (Fr.refl _ _).drew ?_
    iterate 3 (refine wpT_take ?_ rfl (by kernel_rfl) ?_ ?_; rotate_left; (· intro w' hS; go_simp; try with_reducible rfl); try simp only [Act.put, List.setIfInBounds_toArray, List.set_cons_zero, List.set_cons_succ])
    (refine wpT_take ?_ rfl (by kernel_rfl) ?_ ?_; rotate_left; (· intro w' hS; have d1 := hS.cell HC1.out not_false; go_simp; try with_reducible rfl); try simp only [Act.put, List.setIfInBounds_toArray, List.set_cons_zero, List.set_cons_succ])
    iterate 4 (refine wpT_take ?_ rfl (by kernel_rfl) ?_ ?_; rotate_left; (· intro w' hS; go_simp; try with_reducible rfl); try simp only [Act.put, List.setIfInBounds_toArray, List.set_cons_zero, List.set_cons_succ])
    (refine wpT_take ?_ rfl (by kernel_rfl) ?_ ?_; rotate_left; (· intro w' hS; have d1 := hS.cell HC1.out not_false; go_simp; try with_reducible rfl); try simp only [Act.put, List.setIfInBounds_toArray, List.set_cons_zero, List.set_cons_succ])
    iterate 3 (refine wpT_take ?_ rfl (by kernel_rfl) ?_ ?_; rotate_left; (· intro w' hS; go_simp; try with_reducible rfl); try simp only [Act.put, List.setIfInBounds_toArray, List.set_cons_zero, List.set_cons_succ])
    (refine wpT_take ?_ rfl (by kernel_rfl) ?_ ?_; rotate_left; (· intro w' hS; have d1 := hS.cell HD1.out not_false; go_simp; try with_reducible rfl); try simp only [Act.put, List.setIfInBounds_toArray, List.set_cons_zero, List.set_cons_succ])
    iterate 2 (refine wpT_take ?_ rfl (by kernel_rfl) ?_ ?_; rotate_left; (· intro w' hS; go_simp; try with_reducible rfl); try simp only [Act.put, List.setIfInBounds_toArray, List.set_cons_zero, List.set_cons_succ])
    have hwd := (Fr.refl (fun _ => False) w1).drew
    have HWD := hid hwd
    have hlt2 : (l.take nn).length = nn := by rw [List.length_take]; omega
    have hby := rbytes_copy _ _ (l.take nn) w1.drew ((show Bs (BB w1) w1 (.slice va nn vc) (l.take nn) from Bs.upto HFB.out nn hnl).frame hwd fun _ _ => id) (by rw [hlt2]; have := HLB.out; omega)
    have HBY := hid hby; have HLT2 := hid hlt2
    clear hby hwd hlt2
    generalize w1.drew = Wd at *
    refine wpT_run rfl (by kernel_rfl) (fun K hK => ?_); go_simp
    refine HBY.out.mono ?_
    rintro e w6 ⟨v6, rfl, ho6, hf6⟩
    have hf6w := HWD.out.trans' hf6
    refine hK _ _ (fun _ => hf6w) ?_
    clear hK K
    try simp only [Act.put, List.setIfInBounds_toArray, List.set_cons_zero, List.set_cons_succ]
    obtain ⟨a6, c6, rfl, -⟩ := own_len ho6
    have hb6 := ho6.bs2
    rw [HLT2.out] at hb6 ⊢
    have HB6 := hid hb6; have HF6 := hid hf6w
    clear ho6 hf6 hf6w hb6 hnv hnl
    have hmd := HM.out.frame HF6.out fun _ _ _ _ _ _ => id
    have hset := rown_setCell hmd.files (f * 3) (.slice a6 nn c6) (by have := HLL.out; omega)
    rw [fiV_set0 _ _ _ (.slice a6 nn c6) _ (l.take nn) _ HLI.out] at hset
    have hfg := (Fr.refl (fun k => k = g) w6).setCell (p := ⟨g, f * 3, none⟩) (.inl rfl) (.slice a6 nn c6)
    obtain ⟨cs, hg⟩ := own_block hmd.files (k := g) rfl
    have f1 : w6.frozen? ⟨g, f * 3, none⟩ = false := frozen_of_row _ _ _ _ _ hg
    have d2 : w6.cell? ⟨g, f * 3, none⟩ = some (.slice va l.length vc) := HF6.out.cell HD1.out not_false
    have hbg6 : ∀ k, BB w6 k → ¬ k = g := fun k ⟨cs', fz, hc⟩ e => by
      rw [e, hg] at hc
      simp only [Option.some.injEq, Obj.cells.injEq] at hc
      exact absurd hc.2.1 (by decide)
    have hfb5 : FB (w6.setCell ⟨g, f * 3, none⟩ (.slice a6 nn c6)) (Value.slice a6 nn c6, l.take nn, sy) := (HB6.out.frame hfg hbg6).mono fun k _ hk => hk.frame hfg (hbg6 k hk)
    obtain ⟨hm5, hf5⟩ := hmd.setF (_, l.take nn, sy) hfg hset hfb5
    have HM5' := hid hm5; have HF5' := hid (RK.trans (RK.of HF6.out) hf5); have HFB5 := hid hfb5
    have HLI5 := hid (show (L.set f (Value.slice a6 nn c6, l.take nn, sy))[f]? = some (Value.slice a6 nn c6, l.take nn, sy) by rw [List.getElem?_set_self HLL.out])
    clear hmd hset hfg hg hm5 hf5 hbg6 hfb5
    iterate 2
      refine wpT_run rfl (by kernel_rfl) (fun K hK => ?_)
      go_simp
      refine hK _ _ (fun _ => HF6.out) ?_
      clear hK K
      try simp only [Act.put, List.setIfInBounds_toArray, List.set_cons_zero, List.set_cons_succ]
    refine wpT_run rfl (by kernel_rfl) (fun K hK => ?_)
    go_simp
    refine hK _ _ (last_skip (by kernel_rfl)) ?_
    clear hK K
    try simp only [Act.put, List.setIfInBounds_toArray, List.set_cons_zero, List.set_cons_succ]
    refine wpT_end ?_
    clear f1 d2
    generalize w6.setCell ⟨g, f * 3, none⟩ (.slice a6 nn c6) = W4 at *
    obtain ⟨g', cap', v', hfv', hll', hLi', hfb', e1', e2', ez'⟩ := HM5'.out.file (i := f) (by show f < (R.gateS.files.set f _).length; rw [List.length_set, HG.out.1]; exact HFL.out)
    simp only [Value.slice.injEq, Option.some.injEq, Addr.mk.injEq, and_true, true_and] at hfv'
    obtain ⟨rfl, rfl⟩ := hfv'
    obtain ⟨-, c1, -⟩ := HM5'.out.cell
    have hge : ({ R.gateS with files := R.gateS.files.set f (l.take nn, sy) } : RS).files.getD f ([], 0) = (l.take nn, sy) := by
      show (R.gateS.files.set f (l.take nn, sy)).getD f ([], 0) = _
      rw [List.getD_eq_getElem?_getD, List.getElem?_set_self (by rw [HG.out.1]; exact HFL.out)]
      rfl
    rw [hge] at e2'
    dsimp only at e2'
    rw [List.length_set] at c1
    have hset := rown_setCell HM5'.out.files (f * 3 + 1) (.int .i64 (nn : Int)) (by rw [List.length_set]; have := HLL.out; omega)
    rw [fiV_set1 _ _ _ _ _ _ HLI5.out] at hset
    have hfg := (Fr.refl (fun k => k = g) W4).setCell (p := ⟨g, f * 3 + 1, none⟩) (.inl rfl) (.int .i64 (nn : Int))
    have hbg4 : ∀ k, BB W4 k → ¬ k = g := fun k ⟨cs', fz, hc⟩ e => by
      obtain ⟨cs, hg⟩ := own_block HM5'.out.files (k := g) rfl
      rw [e, hg] at hc
      simp only [Option.some.injEq, Obj.cells.injEq] at hc
      exact absurd hc.2.1 (by decide)
    obtain ⟨hm5, hf5⟩ := HM5'.out.setF (i := f) (Value.slice a6 nn c6, l.take nn, nn) hfg hset ((HFB5.out.frame hfg hbg4).mono fun k _ hk => hk.frame hfg (hbg4 k hk))
    rw [List.set_set] at hm5
    have f1 := ez' (f * 3 + 1)
    have HM6 := hid hm5; have HF6' := hid (RK.trans HF5'.out hf5); have HE2 := hid e2'
    clear hll' hLi' hfb' e1' ez' hset hfg hbg4 hm5 hf5 hge HM5' HF5'
    have hmI2 : (f : Int) < L.length := by have := HLL.out; omega
    go_upto_region 10 with fail
    generalize W4.setCell ⟨g, f * 3 + 1, none⟩ (.int .i64 (nn : Int)) = W5 at *
    have hm5 := HM6.out; have hf5 := HF6'.out
    clear HM6 HF6' f1 e2' c1 HE2
    dsimp only at hm5
    rw [List.set_set] at hm5
    have hyy : (l.take nn, nn) = ((R.files.getD f ([], 0)).1.take ((nn : Int)).toNat, ((nn : Int)).toNat) := by rw [HY.out, Int.toNat_natCast]
    rw [hyy] at hm5
    have hx6 := setCell_row 7 (.int .i64 ((R.calls : Int) + 1)) hm5.heap
    simp only [List.setIfInBounds_toArray, List.set_cons_zero, List.set_cons_succ] at hx6
    obtain ⟨-, -, -, -, -, -, -, c7, fz7⟩ := hm5.cell
    have f7 := fz7 7
    rw [show ({ R.gateS with files := R.gateS.files.set f (((R.files.getD f ([], 0)).1.take ((nn : Int)).toNat, ((nn : Int)).toNat)) } : RS).calls = R.calls from HG.out.2] at c7
    have hw7 : IntKind.i64.wrap ((R.calls : Int) + 1) = (R.calls : Int) + 1 := IntWalk.i64_in _ (by have := HB.out.cl.1; omega)
    have HM5 := hid hm5; have HF5 := hid (RK.trans HF1.out hf5); have HX6 := hid hx6
    clear hm5 hf5 hx6 fz7
    go_wp2_with fail
    go_ret
    have hfr := (Fr.refl (fun k => k = x) W5).setCell (p := ⟨x, 7, none⟩) (.inl rfl) (.int .i64 ((R.calls : Int) + 1))
    refine ⟨rfl, ⟨_, _, _, _, _, _, HM5.out.turn (R' := { R.gateS with files := R.files.set f (((R.files.getD f ([], 0)).1.take ((nn : Int)).toNat, ((nn : Int)).toNat)), calls := R.calls + 1 }) hfr (by show R.files.set f _ = R.gateS.files.set f _; rw [HG.out.1]) rfl HX6.out HM5.out.names HM5.out.kept⟩, RK.trans HF5.out (hfr.rk HM5.out)⟩
end
section
open Go.RowKit
variable {w w' w2 : World} {base x : Nat} {nm nt : ByteArray}

set_option maxRecDepth 100000 in
set_option maxHeartbeats 1600000 in
theorem rpick_any (D : Nat → Prop) (v : Value) (l : List Int) (h : Is D w v l) (hr : ∀ k, -9223372036854775808 ≤ l.getD k 0 ∧ l.getD k 0 ≤ 9223372036854775807) (k n m : Nat) (hm : n + 1 = m) (hk : k ≤ 1099511627776) (hn : n ≤ 1099511627776) (hl : l.length ≤ 1099511627776) :
    Calls Tryz.prog 57 #[v, .int .i64 (k : Int), .int .i64 (m : Int)] w fun e w' => e = .returned (.int .i64 (pick l k n : Int)) ∧ w = w' := by
  obtain ⟨a, c, rfl, h1, h2, hc⟩ := h
  by_cases hlt : l.length ≤ k
  · have hp : pick l k n = 0 := by unfold pick; rw [if_pos hlt]
    rw [hp]
    have hltI : (l.length : Int) ≤ k := by omega
    clear hp hc hm
    go_enter Tryz.func57, Tryz.ntmps57
    go_wp2_with fail
    go_ret
    exact ⟨rfl, rfl⟩
  · obtain ⟨b, o, u, rfl, -, hcell, rfl⟩ := hc k (by omega)
    have hltI : ¬ (l.length : Int) ≤ k := by omega
    have hkI : (k : Int) < l.length := by omega
    have hmm : ((n : Int) + 1) = (m : Int) := by omega
    obtain ⟨p, hp⟩ : ∃ p, l.getD k 0 = p := ⟨_, rfl⟩
    have hpr := hr k
    have hq := tmod_pick (l.getD k 0) n
    have hpe : (pick l k n : Int) = (l.getD k 0) % ((n : Int) + 1) := by
      unfold pick
      rw [if_neg hlt]
      exact Int.toNat_of_nonneg (Int.emod_nonneg _ (by omega))
    rw [hpe]
    rw [hp] at hcell hpr hq ⊢
    rw [show p.tmod ((n : Int) + 1) + n + 1 = p.tmod ((n : Int) + 1) + ((n : Int) + 1) by omega, hmm] at hq
    rw [hmm]
    clear hpe hc hr hp
    obtain ⟨hq1, hq2, hq3⟩ := hq
    rw [← hq1]
    clear hq1
    have hz : ((m : Int) == 0) = false := by rw [beq_eq_false_iff_ne]; omega
    have hz' : ¬ ((m : Int) = 0) := by omega
    have w2 : IntKind.i64.wrap (p.tmod (m : Int)) = p.tmod (m : Int) := IntWalk.i64_in _ (by omega)
    have w4 : IntKind.i64.wrap (p.tmod (m : Int) + m) = p.tmod (m : Int) + m := IntWalk.i64_in _ (by omega)
    have hb5 : (p.tmod (m : Int) + m).tmod (m : Int) < (m : Int) ∧ 0 ≤ (p.tmod (m : Int) + m).tmod (m : Int) := ⟨Int.tmod_lt_of_pos _ (by omega), Int.tmod_nonneg (m : Int) (show 0 ≤ p.tmod (m : Int) + m by omega)⟩
    have w5 : IntKind.i64.wrap ((p.tmod (m : Int) + m).tmod (m : Int)) = (p.tmod (m : Int) + m).tmod (m : Int) := IntWalk.i64_in _ (by omega)
    clear hb5
    go_enter Tryz.func57, Tryz.ntmps57
    go_wp2_with fail
    go_ret
    have hte : (p.tmod (m : Int) + m).tmod (m : Int) = (p.tmod (m : Int) + m) % (m : Int) := Int.tmod_eq_emod_of_nonneg (show 0 ≤ p.tmod (m : Int) + m by omega)
    exact ⟨by first | rfl | exact ret_int hte | exact ret_int hte.symm | exact ret_int (by rw [hte, Int.add_emod_right]), rfl⟩
/-- The names as they come back. -/
def RS.nowR (R : RS) (picks : List Int) : Nm := if pick picks 0 R.log.length = 0 then R.kept else R.log.getD (pick picks 0 R.log.length - 1) []
def named (now : Nm) (i : Nat) : Bool := now.any fun y => y.2 == i
/-- The files, up to i, and the next pick. -/
def crL (now : Nm) (picks : List Int) (F : List (List UInt8 × Nat)) : Nat → List (List UInt8 × Nat) × Nat
  | 0 => (F, 1)
  | i + 1 => if named now i = true then
      ((crL now picks F i).1.set i (((F.getD i ([], 0)).1.take ((F.getD i ([], 0)).2 + pick picks (crL now picks F i).2 ((F.getD i ([], 0)).1.length - (F.getD i ([], 0)).2))), (F.getD i ([], 0)).2 + pick picks (crL now picks F i).2 ((F.getD i ([], 0)).1.length - (F.getD i ([], 0)).2)), (crL now picks F i).2 + 1)
    else crL now picks F i
def RS.crashS (R : RS) (picks : List Int) : RS := { R with files := (crL (R.nowR picks) picks R.files R.files.length).1, names := R.nowR picks, kept := R.nowR picks, log := [], fuse := 0, off := false }
theorem crL_len (now : Nm) (picks : List Int) (F : List (List UInt8 × Nat)) : ∀ i, (crL now picks F i).1.length = F.length ∧ (crL now picks F i).2 ≤ i + 1 ∧ ∀ j, i ≤ j → (crL now picks F i).1.getD j ([], 0) = F.getD j ([], 0) := by
  intro i
  induction i with
  | zero => exact ⟨rfl, Nat.le_refl _, fun _ _ => rfl⟩
  | succ i ih =>
    unfold crL
    split
    · refine ⟨by rw [List.length_set]; exact ih.1, by have := ih.2.1; dsimp only; omega, fun j hj => ?_⟩
      have h1 : (crL now picks F i).1.getD j ([], 0) = F.getD j ([], 0) := ih.2.2 j (by omega)
      rw [← h1]
      simp only [List.getD]
      rw [List.getElem?_set_ne (by omega)]
    · exact ⟨ih.1, by have := ih.2.1; omega, fun j hj => ih.2.2 j (by omega)⟩
theorem named_take (now : Nm) (i k : Nat) (hk : k < now.length) : named (now.take (k + 1)) i = (named (now.take k) i || ((now.getD k nd).2 == i)) := by
  unfold named
  rw [List.take_add_one, List.any_append, show now[k]? = some (now.getD k nd) by simp [List.getD, List.getElem?_eq_getElem hk]]
  simp
theorem Ns.log {R : RS} {fv nv kv lv : Value} {L : FM} {G : List Value} (h : RM base w x R fv nv kv lv L G) (picks : List Int) (hp : pick picks 0 R.log.length ≠ 0) : ∃ v g cap, lv = .slice (some ⟨g, 0, none⟩) G.length cap ∧ G[pick picks 0 R.log.length - 1]? = some v ∧ Ns w v (R.nowR picks) ∧ w.cell? ⟨g, pick picks 0 R.log.length - 1, none⟩ = some v := by
  have hle := pick_le picks 0 R.log.length
  have hgl := h.gl
  obtain ⟨v, hv⟩ : ∃ v, G[pick picks 0 R.log.length - 1]? = some v := ⟨_, List.getElem?_eq_getElem (by omega)⟩
  obtain ⟨hn, -⟩ := h.each _ v hv
  rcases h.log.2 with ⟨hv', h0⟩ | ⟨g, cap, cur, hv', -, hg, hnc, hcm, hcs, htk⟩
  · omega
  · have hc := h.log.cells (g := g) (by rw [hv']; rfl)
    have hadd : ∀ j, (⟨g, 0, none⟩ : Addr).add j = ⟨g, j, none⟩ := fun j => by unfold Addr.add; split <;> simp_all
    refine ⟨v, g, cap, hv', hv, ?_, (hadd _) ▸ hc _ _ hv⟩
    unfold RS.nowR
    rw [if_neg hp]
    exact hn
end
section
open Go.RowKit
variable {w w' w2 : World} {base x : Nat} {nm nt : ByteArray}

set_option maxRecDepth 100000 in
set_option maxHeartbeats 12800000 in
theorem rcrash_any {R : RS} (h : RAt base w x R) (hb : R.Ok) (hbw : base ≤ w.heap.size) (vp : Value) (picks : List Int) (hp : Is (fun k => k < base) w vp picks) (hr : ∀ k, -9223372036854775808 ≤ picks.getD k 0 ∧ picks.getD k 0 ≤ 9223372036854775807) (hl : picks.length ≤ 1000000) :
    Calls Tryz.prog 27 #[.pointer (some ⟨x, 0, none⟩), vp] w fun e w' => e = .returned (.tuple #[]) ∧ RAt base w' x (R.crashS picks) ∧ Fr (RK base w) w w' := by
  obtain ⟨fv, nv, kv, lv, L, G, hm⟩ := h
  obtain ⟨ap, cp, hvp, -⟩ := id hp
  subst hvp
  have hgl : G.length = R.log.length := hm.gl
  obtain ⟨al, cl, hlv, -⟩ := own_len hm.log
  subst hlv
  obtain ⟨c0, -, -, c3, c4, -⟩ := hm.cell
  have hll : L.length = R.files.length := by rw [← hm.fm, List.length_map]
  obtain ⟨af, cf, hfv, -⟩ := own_len hm.files
  subst hfv
  obtain ⟨now, hnow⟩ : ∃ now, R.nowR picks = now := ⟨_, rfl⟩
  obtain ⟨gl, hgl2⟩ : ∃ gl, G.length = gl := ⟨_, rfl⟩
  have hgm : gl ≤ 10000 := by have := hb.lg.1; omega
  obtain ⟨gm, hgm2⟩ : ∃ gm, gl + 1 = gm := ⟨_, rfl⟩
  have wgl : IntKind.i64.wrap ((gl : Int) + 1) = (gm : Int) := by rw [← hgm2]; exact IntWalk.i64_in _ (by omega)
  have hpk := rpick_any (fun k => k < base) _ picks hp hr 0 gl gm hgm2 (by omega) (by omega) (by omega)
  obtain ⟨kp, hkp⟩ : ∃ kp, pick picks 0 gl = kp := ⟨_, rfl⟩
  have hkle : kp ≤ gl := by rw [← hkp]; exact pick_le _ _ _
  rw [hkp] at hpk
  have HNB := hid (show now.length ≤ 10000 ∧ ∀ y ∈ now, y.2 < R.files.length from by
    rw [← hnow]
    unfold RS.nowR
    split
    · exact ⟨hb.kp.1, fun y hy => (hb.kp.2 y hy).2⟩
    · by_cases hlt : pick picks 0 R.log.length - 1 < R.log.length
      · have hmem : R.log.getD (pick picks 0 R.log.length - 1) [] ∈ R.log := by rw [List.getD_eq_getElem?_getD, List.getElem?_eq_getElem hlt]; exact List.getElem_mem hlt
        exact ⟨(hb.lg.2 _ hmem).1, fun y hy => ((hb.lg.2 _ hmem).2 y hy).2⟩
      · have h1 := pick_le picks 0 R.log.length
        omega)
  have HM := hid hm; have HB := hid hb; have HBW := hid hbw; have HP := hid hp; have HR := hid hr; have HL := hid hl; have HLL := hid hll; have HNOWE := hid hnow; have HGL := hid (show gl = R.log.length by omega); have HKP := hid hkp; have HPK := hid hpk
  have C3 := hid c3
  rw [hgl2] at c4
  have hgl3 := hgl2
  have HG2 := hid hgl2
  by_cases hk0 : kp = 0
  · have hns : Ns w kv now := by
      rw [← hnow]
      unfold RS.nowR
      rw [show R.log.length = gl by omega, hkp, if_pos hk0]
      exact hm.kept
    obtain ⟨an, cn, hkv, -⟩ := hns.len
    subst hkv
    have HNS := hid hns
    have hk0I : ¬ (0 : Int) < (kp : Int) := by omega
    clear hm hb hbw hp hr hl hll hgl hnow hgl2 hgm hgm2 hkp hkle hpk hns hgl3 hk0
    go_enter Tryz.func27, Tryz.ntmps27
    go_wp2_with fail
    refine HPK.out.mono ?_
    rintro e w1 ⟨rfl, rfl⟩
    go_wp2_with fail
    clear hk0I wgl c0 c3 c4
    obtain ⟨n0, hn0⟩ : ∃ n0, R.files.length = n0 := ⟨_, rfl⟩
    have HN0 := hid hn0
    have hln : L.length = n0 := HLL.out.trans hn0
    have HLN := hid hln
    have hmL := HM.out
    rw [hln] at hmL
    have HM0 := hid hmL
    have hn0m : n0 ≤ 10000 := by have := HB.out.fb.1; omega
    have HN0M := hid hn0m
    have hn0c : n0 ≤ 9223372036854775807 := by omega
    clear hn0 hln hmL hn0m
    rename ¬ 0 < kp => hzz
    clear hzz
    go_loopw [6, 7] (fun av iv wr => ∃ (i ak : Nat) (F : List (List UInt8 × Nat)) (M : FM), i ≤ n0 ∧ iv = .int .i64 i ∧ av = .int .i64 ak ∧ Hid (crL now picks R.files i = (F, ak)) ∧ Hid (M.length = n0) ∧ Hid (RM base wr x { R with files := F } (.slice af n0 cf) nv (.slice an now.length cn) (.slice al G.length cl) M G) ∧ Hid (Fr (RK base w) w wr)) (fun _ iv _ => n0 - (intOf iv).toNat)
    case atStart => exact ⟨0, 1, R.files, L, Nat.zero_le _, rfl, rfl, hid rfl, HLN, HM0, hid (Fr.refl _ _)⟩
    case round =>
      clear HM0
      obtain ⟨i, ak, F, M, hi, rfl, rfl, HCR, HML, HRM, HFR⟩ := hrel
      obtain ⟨-, c1, -⟩ := HRM.out.cell
      have hns := HNS.out.frame HFR.out fun k ⟨cs, fz, hc⟩ hk => by
        obtain ⟨-, cs', t, fz', hc', ht⟩ := hk
        rw [hc] at hc'
        simp only [Option.some.injEq, Obj.cells.injEq] at hc'
        rw [← hc'.2.1] at ht
        revert ht
        decide
      have HNSr := hid hns
      by_cases hlt : i < n0
      · have hltI : (i : Int) < n0 := by omega
        have HLT := hid hlt
        have HC1 := hid c1
        have wi : IntKind.i64.wrap ((i : Int) + 1) = (i : Int) + 1 := IntWalk.i64_in _ (by omega)
        have HWI := hid wi
        obtain ⟨a0, cc0, e0, hnl1, hnl2, hcc⟩ := hns
        simp only [Value.slice.injEq] at e0
        obtain ⟨rfl, -, rfl⟩ := e0
        have hnm : now.length ≤ 9223372036854775807 := Nat.le_trans hnl1 hnl2
        have HCC := hid hcc
        clear hcc hnl1 hnl2 hlt hi wi
        go_wp2_with fail
        go_loopw [8, 9] (fun nv' kv' wq => ∃ k : Nat, k ≤ now.length ∧ kv' = .int .i64 k ∧ nv' = .bool (named (now.take k) i) ∧ wr = wq) (fun _ kv' _ => now.length - (intOf kv').toNat)
        case atStart => exact ⟨0, Nat.zero_le _, rfl, rfl, rfl⟩
        case round =>
          obtain ⟨k, hk, rfl, rfl, rfl⟩ := hrel
          by_cases hkl : k < now.length
          · have hklI : (k : Int) < now.length := by omega
            obtain ⟨b, o, rfl, -, -, d2⟩ := HCC.out k hkl
            have hnt := named_take now i k hkl
            have wk : IntKind.i64.wrap ((k : Int) + 1) = (k : Int) + 1 := IntWalk.i64_in _ (by have := HNB.out.1; omega)
            obtain ⟨y, hy⟩ : ∃ y, now.getD k nd = y := ⟨_, rfl⟩
            obtain ⟨s, f⟩ := y
            rw [hy] at d2 hnt
            dsimp only at d2 hnt
            have HNT := hid hnt; have HKL := hid hkl
            clear hnt hy hk hkl
            cases hnb : named (now.take k) i with
            | true =>
              rw [hnb] at HNT
              clear hnb d2
              go_wp2_with fail
              exact ⟨⟨k + 1, by have := HKL.out; omega, by go_num, by rw [HNT.out]; rfl, trivial⟩, by simp [intOf]; have := HKL.out; omega⟩
            | false =>
              rw [hnb] at HNT
              clear hnb
              have hfe : ((f : Int) == (i : Int)) = (f == i) := by
                by_cases e : f = i
                · subst e; simp
                · rw [beq_eq_false_iff_ne.2 e, beq_eq_false_iff_ne]; omega
              go_wp2_with fail
              exact ⟨⟨k + 1, by have := HKL.out; omega, by go_num, by rw [HNT.out]; first | rfl | simp, trivial⟩, by simp [intOf]; have := HKL.out; omega⟩
          · have hklI : ¬ (k : Int) < now.length := by omega
            obtain rfl : k = now.length := by omega
            rw [List.take_length]
            clear hkl hk
            cases hnb : named now i with
            | false =>
              have wi := HWI.out
              have HNB2 := hid hnb
              clear hnb
              go_wp2_with fail
              exact ⟨⟨i + 1, ak, F, M, by have := HLT.out; omega, by go_num, rfl, hid (by unfold crL; rw [if_neg (by rw [HNB2.out]; simp)]; exact HCR.out), HML, HRM, HFR⟩, by simp [intOf]; have := HLT.out; omega⟩
            | true =>
              have HNB2 := hid hnb
              clear hnb
              have hcl := crL_len now picks R.files i
              rw [HCR.out] at hcl
              dsimp only at hcl
              have hFl : F.length = n0 := hcl.1.trans HN0.out
              have hak := hcl.2.1
              have hFi := hcl.2.2 i (Nat.le_refl _)
              obtain ⟨g, cap, v, hfv, hMl, hMi, hfb, e1, e2, ez⟩ := HRM.out.file (i := i) (show i < F.length by have := HLT.out; omega)
              rw [hFi] at hMi hfb e2
              rw [HML.out] at hfv
              simp only [Value.slice.injEq, true_and] at hfv
              obtain ⟨rfl, rfl⟩ := hfv
              obtain ⟨va, vc, hv, hvl, hvm, -⟩ := id hfb
              dsimp only at hv hvl
              subst hv
              have hlb := HB.out.fb.2 (R.files.getD i ([], 0)) (by rw [List.getD_eq_getElem?_getD, List.getElem?_eq_getElem (show i < R.files.length by have := HLT.out; have := HN0.out; omega)]; exact List.getElem_mem _)
              obtain ⟨y, hy⟩ : ∃ y, R.files.getD i ([], 0) = y := ⟨_, rfl⟩
              rw [hy] at hMi hfb e1 e2 hlb hvl
              have HY := hid hy
              obtain ⟨l, sy⟩ := y
              dsimp only at hMi hfb e1 e2 hlb hvl
              obtain ⟨t, ht⟩ : ∃ t, l.length - sy = t := ⟨_, rfl⟩
              obtain ⟨tm, htm⟩ : ∃ tm, t + 1 = tm := ⟨_, rfl⟩
              obtain ⟨p1, hp1⟩ : ∃ p1, pick picks ak t = p1 := ⟨_, rfl⟩
              have hpl : p1 ≤ t := by rw [← hp1]; exact pick_le _ _ _
              obtain ⟨q, hq⟩ : ∃ q, sy + p1 = q := ⟨_, rfl⟩
              have hql : q ≤ l.length := by omega
              have wt : IntKind.i64.wrap ((l.length : Int) - sy) = (t : Int) := by rw [show (l.length : Int) - sy = (t : Int) by omega]; exact IntWalk.i64_in _ (by omega)
              have wtm : IntKind.i64.wrap ((t : Int) + 1) = (tm : Int) := by rw [show (t : Int) + 1 = (tm : Int) by omega]; exact IntWalk.i64_in _ (by omega)
              have wq : IntKind.i64.wrap ((sy : Int) + p1) = (q : Int) := by rw [show (sy : Int) + p1 = (q : Int) by omega]; exact IntWalk.i64_in _ (by omega)
              have wak : IntKind.i64.wrap ((ak : Int) + 1) = (ak : Int) + 1 := IntWalk.i64_in _ (by have := HLT.out; have := HN0M.out; omega)
              have hpp : Is (fun k => k < base) wr (.slice ap picks.length cp) picks := HP.out.frame HFR.out fun k hk hr => by have h1 := hr.1; have h2 : k < base := hk; omega
              have hpk2 := fun (W : World) (hF : Fr (fun _ => False) wr W) => rpick_any (fun k => k < base) _ picks (hpp.frame hF fun _ _ => id) HR.out ak t tm htm (by have := HLT.out; have := HN0M.out; omega) (by omega) (by have := HL.out; omega)
              rw [hp1] at hpk2
              have HPK2 := hid hpk2; have HE1 := hid e1; have HE2 := hid e2; have HMI := hid hMi; have HFB := hid hfb; have HLB := hid hlb; have HQL := hid hql; have HQ := hid hq; have HP1 := hid hp1; have HT := hid ht; have WTM := hid wtm; have WQ := hid wq; have WAK := hid wak
              have hiI : (0 : Int) ≤ i ∧ (i : Int) < n0 := by have := HLT.out; omega
              have hqv : (0 : Int) ≤ q ∧ (q : Int) ≤ vc := by omega
              have HQV := hid hqv
              clear hcl hFl hak hFi hMl hMi hfb ez hlb hvl hvm hy ht htm hp1 hpl hq hql hpp hpk2 wtm wq wak hqv e2
              have c1 := HC1.out
              go_upto_region 15 with fail
              clear e1 c1 hiI
              refine wp_region_cls (fun w' => Fr (fun _ => False) wr w') (by kernel_rfl) (by kernel_rfl) (Fr.refl _ _).drew ?_
              iterate 3 (refine q_take ?_ (by kernel_rfl) ?_ ?_; rotate_left; (· intro w' hS; go_simp; try with_reducible rfl); (try simp only [Act.put, List.setIfInBounds_toArray, List.set_cons_zero, List.set_cons_succ]))
              (refine q_take ?_ (by kernel_rfl) ?_ ?_; rotate_left; (· intro w' hS; have d1 := hS.cell HE1.out not_false; go_simp; try with_reducible rfl); try simp only [Act.put, List.setIfInBounds_toArray, List.set_cons_zero, List.set_cons_succ])
              iterate 4 (refine q_take ?_ (by kernel_rfl) ?_ ?_; rotate_left; (· intro w' hS; go_simp; try with_reducible rfl); (try simp only [Act.put, List.setIfInBounds_toArray, List.set_cons_zero, List.set_cons_succ]))
              (refine q_take ?_ (by kernel_rfl) ?_ ?_; rotate_left; (· intro w' hS; have d1 := hS.cell HE2.out not_false; go_simp; try with_reducible rfl); try simp only [Act.put, List.setIfInBounds_toArray, List.set_cons_zero, List.set_cons_succ])
              iterate 2 (refine q_take ?_ (by kernel_rfl) ?_ ?_; rotate_left; (· intro w' hS; go_simp; try with_reducible rfl); (try simp only [Act.put, List.setIfInBounds_toArray, List.set_cons_zero, List.set_cons_succ]))
              refine q_end (fun wy hwy => ?_)
              have HWY := hid hwy
              have wtm := WTM.out; have wq := WQ.out
              clear hwy wt
              go_upto_region 16 with fail
              refine wp_region_cls (fun w' => Fr (fun _ => False) wr w') (by kernel_rfl) (by kernel_rfl) HWY.out.drew ?_
              iterate 3 (refine q_take ?_ (by kernel_rfl) ?_ ?_; rotate_left; (· intro w' hS; go_simp; try with_reducible rfl); (try simp only [Act.put, List.setIfInBounds_toArray, List.set_cons_zero, List.set_cons_succ]))
              (refine q_take ?_ (by kernel_rfl) ?_ ?_; rotate_left; (· intro w' hS; have d1 := hS.cell HE2.out not_false; go_simp; try with_reducible rfl); try simp only [Act.put, List.setIfInBounds_toArray, List.set_cons_zero, List.set_cons_succ])
              iterate 4 (refine q_take ?_ (by kernel_rfl) ?_ ?_; rotate_left; (· intro w' hS; go_simp; try with_reducible rfl); (try simp only [Act.put, List.setIfInBounds_toArray, List.set_cons_zero, List.set_cons_succ]))
              (refine q_call ?_ ?_ (by kernel_rfl) ?_ ?_; rotate_left 2; (· intro w' hS; go_simp; first | with_reducible rfl | (constructor <;> with_reducible rfl)); (refine ⟨_, fun w' hw => (HPK2.out w' hw).mono fun _ _ h => ⟨h.1, h.2 ▸ hw⟩, ?_⟩); (try simp only [Act.put, List.setIfInBounds_toArray, List.set_cons_zero, List.set_cons_succ]))
              iterate 2 (refine q_take ?_ (by kernel_rfl) ?_ ?_; rotate_left; (· intro w' hS; go_simp; try with_reducible rfl); (try simp only [Act.put, List.setIfInBounds_toArray, List.set_cons_zero, List.set_cons_succ]))
              refine q_end (fun wz hwz => ?_)
              have HWZ := hid hwz
              have e1 := hwz.cell HE1.out not_false
              have wak := WAK.out; have hqv := HQV.out
              have hlt2 : (l.take q).length = q := by rw [List.length_take]; have := HQL.out; omega
              have hby := rbytes_copy _ _ (l.take q) wz ((show Bs (BB wr) wr (.slice va q vc) (l.take q) from Bs.upto HFB.out q HQL.out).frame hwz fun _ _ => id) (by rw [hlt2]; have := HQL.out; have := HLB.out; omega)
              have HBY := hid hby; have HLT2 := hid hlt2
              clear hwz hby hlt2 wtm wq HWY
              go_wp2_with fail
              refine HBY.out.mono ?_
              rintro e w6 ⟨v6, rfl, ho6, hf6⟩
              obtain ⟨a6, c6, rfl, -⟩ := own_len ho6
              have hb6 := ho6.bs2
              rw [HLT2.out] at hb6 ⊢
              have hf6w := HWZ.out.trans' hf6
              have hmd := HRM.out.frame hf6w fun _ _ _ _ _ _ => id
              rw [← HML.out] at hmd
              have hset := rown_setCell (rown_setCell hmd.files (i * 3) (.slice a6 q c6) (by have := HML.out; have := HLT.out; omega)) (i * 3 + 1) (.int .i64 (q : Int)) (by have := HML.out; have := HLT.out; omega)
              have hMi2 : (M.set i (Value.slice a6 q c6, l.take q, sy))[i]? = some (Value.slice a6 q c6, l.take q, sy) := by rw [List.getElem?_set_self (by have := HML.out; have := HLT.out; omega)]
              rw [fiV_set0 _ _ _ (.slice a6 q c6) _ (l.take q) _ HMI.out, fiV_set1 _ _ _ _ _ q hMi2, List.set_set] at hset
              have hfg := ((Fr.refl (fun k => k = g) w6).setCell (p := ⟨g, i * 3, none⟩) (.inl rfl) (.slice a6 q c6)).setCell (p := ⟨g, i * 3 + 1, none⟩) (.inl rfl) (.int .i64 (q : Int))
              obtain ⟨cs, hg⟩ := own_block hmd.files (k := g) rfl
              have hg2 := setCell_row (i * 3) (.slice a6 q c6) hg
              have f1 : w6.frozen? ⟨g, i * 3, none⟩ = false := frozen_of_row _ _ _ _ _ hg
              have d1 : w6.cell? ⟨g, i * 3, none⟩ = some (.slice va l.length vc) := hf6w.cell HE1.out not_false
              have f2 : (w6.setCell ⟨g, i * 3, none⟩ (.slice a6 q c6)).frozen? ⟨g, i * 3 + 1, none⟩ = false := frozen_of_row _ _ _ _ _ hg2
              have d2 : (w6.setCell ⟨g, i * 3, none⟩ (.slice a6 q c6)).cell? ⟨g, i * 3 + 1, none⟩ = some (.int .i64 (sy : Int)) := by
                have h1 := hf6w.cell HE2.out not_false
                rw [cell_of_row _ _ _ _ _ _ hg] at h1
                rw [cell_of_row _ _ _ _ _ _ hg2, Array.getElem?_setIfInBounds_ne (by omega)]
                exact h1
              have hbg6 : ∀ k, BB w6 k → ¬ k = g := fun k ⟨cs', fz, hc⟩ e => by
                rw [e, hg] at hc
                simp only [Option.some.injEq, Obj.cells.injEq] at hc
                exact absurd hc.2.1 (by decide)
              obtain ⟨hm5, hf5⟩ := hmd.setF (i := i) (Value.slice a6 q c6, l.take q, q) hfg hset ((hb6.frame hfg hbg6).mono fun k _ hk => hk.frame hfg (hbg6 k hk))
              rw [List.length_set, HML.out] at hm5
              have HM5 := hid hm5; have HF5 := hid (RK.trans HFR.out (RK.trans (RK.of hf6w) hf5))
              have hcr : crL now picks R.files (i + 1) = (F.set i (l.take q, q), ak + 1) := by
                unfold crL
                rw [if_pos HNB2.out, HCR.out, HY.out]
                dsimp only
                rw [HT.out, HP1.out, HQ.out]
              have HCR2 := hid hcr
              clear ho6 hf6 hf6w hb6 hmd hset hfg hg hg2 hbg6 hm5 hf5 hMi2 hcr e1
              have wi := HWI.out
              go_wp2_with fail
              go_roundw
              case rel => exact ⟨i + 1, ak + 1, F.set i (l.take q, q), M.set i (Value.slice a6 q c6, l.take q, q), by have := HLT.out; omega, by go_num, by go_num, HCR2, hid (by rw [List.length_set]; exact HML.out), HM5, HF5⟩
              case measure => simp [intOf]; have := HLT.out; omega
      · have hltI : ¬ (i : Int) < n0 := by omega
        obtain rfl : i = n0 := by omega
        clear hlt hi
        have hna1 := rnames_any _ now wr HNSr.out (by have := HNB.out.1; omega)
        have HNA1 := hid hna1
        clear hna1 hns
        go_wp2_with fail
        refine HNA1.out.mono ?_
        rintro e w3 ⟨v3, rfl, ho3, hf3⟩
        obtain ⟨a3, c3, rfl, -⟩ := own_len ho3
        have hm3 := HRM.out.frame hf3 fun _ _ _ _ _ _ => id
        have hx1 := setCell_row 2 (.slice a3 now.length c3) hm3.heap
        simp only [List.setIfInBounds_toArray, List.set_cons_zero, List.set_cons_succ] at hx1
        have hfr1 := (Fr.refl (fun k => k = x) w3).setCell (p := ⟨x, 2, none⟩) (.inl rfl) (.slice a3 now.length c3)
        have hm4 := hm3.turn (R' := { R with files := F, names := now }) hfr1 rfl rfl hx1 ho3.ns hm3.kept
        obtain ⟨-, -, d2, -, -, -, -, -, fz2⟩ := hm3.cell
        have f2 := fz2 2
        have hNx : ∀ k, NB w3 k → ¬ k = x := fun k ⟨cs, fz, hc⟩ e => by
          rw [e, hm3.heap] at hc
          simp only [Option.some.injEq, Obj.cells.injEq] at hc
          exact absurd hc.2.1 (by decide)
        have hns4 := (HNSr.out.fr hf3).frame hfr1 hNx
        have HM4 := hid hm4; have HNS4 := hid hns4; have HFR4 := hid (RK.trans HFR.out (RK.trans (RK.of hf3) (hfr1.rk hm3)))
        clear ho3 hf3 hm3 hx1 hfr1 hm4 fz2 hNx hns4 HNA1
        go_upto_region 21 with fail
        clear d2 f2
        generalize w3.setCell ⟨x, 2, none⟩ (.slice a3 now.length c3) = W4 at *
        have hna2 := rnames_any _ now W4 HNS4.out (by have := HNB.out.1; omega)
        have HNA2 := hid hna2
        clear hna2
        go_wp2_with fail
        refine HNA2.out.mono ?_
        rintro e w5 ⟨v5, rfl, ho5, hf5⟩
        obtain ⟨a5, c5, rfl, -⟩ := own_len ho5
        have hm5 := HM4.out.frame hf5 fun _ _ _ _ _ _ => id
        have hx1 := setCell_row 3 (.slice a5 now.length c5) hm5.heap
        simp only [List.setIfInBounds_toArray, List.set_cons_zero, List.set_cons_succ] at hx1
        have hx2 := setCell_row 4 (.slice none 0 0) hx1
        simp only [List.setIfInBounds_toArray, List.set_cons_zero, List.set_cons_succ] at hx2
        have hx3 := setCell_row 5 (.int .i64 0) hx2
        simp only [List.setIfInBounds_toArray, List.set_cons_zero, List.set_cons_succ] at hx3
        have hx4 := setCell_row 6 (.bool false) hx3
        simp only [List.setIfInBounds_toArray, List.set_cons_zero, List.set_cons_succ] at hx4
        have hfr := ((((Fr.refl (fun k => k = x) w5).setCell (p := ⟨x, 3, none⟩) (.inl rfl) (.slice a5 now.length c5)).setCell (p := ⟨x, 4, none⟩) (.inl rfl) (.slice none 0 0)).setCell (p := ⟨x, 5, none⟩) (.inl rfl) (.int .i64 0)).setCell (p := ⟨x, 6, none⟩) (.inl rfl) (.bool false)
        have hfin := hm5.turnL (R' := { R with files := F, names := now, kept := now, log := [], fuse := 0, off := false }) hfr rfl rfl hx4 hm5.names ho5.ns
        obtain ⟨-, -, -, d3, d4, d5, d6, -, fz⟩ := hm5.cell
        have f3 := fz 3
        have f4 : (w5.setCell ⟨x, 3, none⟩ (.slice a5 now.length c5)).frozen? ⟨x, 4, none⟩ = false := frozen_of_row _ _ _ _ _ hx1
        have d4' : (w5.setCell ⟨x, 3, none⟩ (.slice a5 now.length c5)).cell? ⟨x, 4, none⟩ = some (.slice al G.length cl) := by rw [cell_of_row _ _ _ _ _ _ hx1]; rfl
        have f5 : ((w5.setCell ⟨x, 3, none⟩ (.slice a5 now.length c5)).setCell ⟨x, 4, none⟩ (.slice none 0 0)).frozen? ⟨x, 5, none⟩ = false := frozen_of_row _ _ _ _ _ hx2
        have d5' : ((w5.setCell ⟨x, 3, none⟩ (.slice a5 now.length c5)).setCell ⟨x, 4, none⟩ (.slice none 0 0)).cell? ⟨x, 5, none⟩ = some (.int .i64 (R.fuse : Int)) := by rw [cell_of_row _ _ _ _ _ _ hx2]; rfl
        have f6 : (((w5.setCell ⟨x, 3, none⟩ (.slice a5 now.length c5)).setCell ⟨x, 4, none⟩ (.slice none 0 0)).setCell ⟨x, 5, none⟩ (.int .i64 0)).frozen? ⟨x, 6, none⟩ = false := frozen_of_row _ _ _ _ _ hx3
        have d6' : (((w5.setCell ⟨x, 3, none⟩ (.slice a5 now.length c5)).setCell ⟨x, 4, none⟩ (.slice none 0 0)).setCell ⟨x, 5, none⟩ (.int .i64 0)).cell? ⟨x, 6, none⟩ = some (.bool R.off) := by rw [cell_of_row _ _ _ _ _ _ hx3]; rfl
        have hcs : R.crashS picks = { R with files := F, names := now, kept := now, log := [], fuse := 0, off := false } := by
          unfold RS.crashS
          rw [HNOWE.out, HN0.out, HCR.out]
        have HFIN := hid hfin; have HCS := hid hcs; have HFF := hid (RK.trans HFR4.out (RK.trans (RK.of hf5) (hfr.rk hm5)))
        clear hm5 hx1 hx2 hx3 hx4 hfr hfin fz ho5 hf5 hcs d4 d5 d6 HNA2
        go_wp2_with fail
        go_end0
        exact ⟨rfl, by rw [HCS.out]; exact ⟨_, _, _, _, _, _, HFIN.out⟩, HFF.out⟩
  · have hkp2 : pick picks 0 R.log.length ≠ 0 := by rw [show R.log.length = gl by omega, hkp]; exact hk0
    obtain ⟨vn, g4, cap4, hlv4, hG4, hns, d4⟩ := Ns.log hm picks hkp2
    simp only [Value.slice.injEq, true_and] at hlv4
    obtain ⟨hal, -⟩ := hlv4
    subst hal
    rw [hnow] at hns
    rw [show pick picks 0 R.log.length = kp by rw [show R.log.length = gl by omega, hkp]] at d4
    obtain ⟨an, cn, hvn, -⟩ := hns.len
    subst hvn
    have HNS := hid hns
    obtain ⟨k1, hk1⟩ : ∃ k1, kp - 1 = k1 := ⟨_, rfl⟩
    rw [hk1] at d4
    have hk0I : (0 : Int) < (kp : Int) := by omega
    have wk1 : IntKind.i64.wrap ((kp : Int) - 1) = (k1 : Int) := by rw [show (kp : Int) - 1 = (k1 : Int) by omega]; exact IntWalk.i64_in _ (by omega)
    have hk1I : (0 : Int) ≤ k1 ∧ (k1 : Int) < gl := by omega
    have hglm : gl ≤ 9223372036854775807 := by omega
    clear hm hb hbw hp hr hl hll hgl hnow hgl2 hgm hgm2 hkp hkle hpk hns hgl3 hk0 hkp2 hG4 hk1
    go_enter Tryz.func27, Tryz.ntmps27
    go_wp2_with fail
    refine HPK.out.mono ?_
    rintro e w1 ⟨rfl, rfl⟩
    go_wp2_with fail
    clear hk0I wgl c0 c3 c4 wk1 hk1I hglm d4
    obtain ⟨n0, hn0⟩ : ∃ n0, R.files.length = n0 := ⟨_, rfl⟩
    have HN0 := hid hn0
    have hln : L.length = n0 := HLL.out.trans hn0
    have HLN := hid hln
    have hmL := HM.out
    rw [hln] at hmL
    have HM0 := hid hmL
    have hn0m : n0 ≤ 10000 := by have := HB.out.fb.1; omega
    have HN0M := hid hn0m
    have hn0c : n0 ≤ 9223372036854775807 := by omega
    clear hn0 hln hmL hn0m
    rename 0 < kp => hzz
    clear hzz
    go_loopw [6, 7] (fun av iv wr => ∃ (i ak : Nat) (F : List (List UInt8 × Nat)) (M : FM), i ≤ n0 ∧ iv = .int .i64 i ∧ av = .int .i64 ak ∧ Hid (crL now picks R.files i = (F, ak)) ∧ Hid (M.length = n0) ∧ Hid (RM base wr x { R with files := F } (.slice af n0 cf) nv kv (.slice (some ⟨g4, 0, none⟩) G.length cl) M G) ∧ Hid (Fr (RK base w) w wr)) (fun _ iv _ => n0 - (intOf iv).toNat)
    case atStart => exact ⟨0, 1, R.files, L, Nat.zero_le _, rfl, rfl, hid rfl, HLN, HM0, hid (Fr.refl _ _)⟩
    case round =>
      clear HM0
      obtain ⟨i, ak, F, M, hi, rfl, rfl, HCR, HML, HRM, HFR⟩ := hrel
      obtain ⟨-, c1, -⟩ := HRM.out.cell
      have hns := HNS.out.frame HFR.out fun k ⟨cs, fz, hc⟩ hk => by
        obtain ⟨-, cs', t, fz', hc', ht⟩ := hk
        rw [hc] at hc'
        simp only [Option.some.injEq, Obj.cells.injEq] at hc'
        rw [← hc'.2.1] at ht
        revert ht
        decide
      have HNSr := hid hns
      by_cases hlt : i < n0
      · have hltI : (i : Int) < n0 := by omega
        have HLT := hid hlt
        have HC1 := hid c1
        have wi : IntKind.i64.wrap ((i : Int) + 1) = (i : Int) + 1 := IntWalk.i64_in _ (by omega)
        have HWI := hid wi
        obtain ⟨a0, cc0, e0, hnl1, hnl2, hcc⟩ := hns
        simp only [Value.slice.injEq] at e0
        obtain ⟨rfl, -, rfl⟩ := e0
        have hnm : now.length ≤ 9223372036854775807 := Nat.le_trans hnl1 hnl2
        have HCC := hid hcc
        clear hcc hnl1 hnl2 hlt hi wi
        go_wp2_with fail
        go_loopw [8, 9] (fun nv' kv' wq => ∃ k : Nat, k ≤ now.length ∧ kv' = .int .i64 k ∧ nv' = .bool (named (now.take k) i) ∧ wr = wq) (fun _ kv' _ => now.length - (intOf kv').toNat)
        case atStart => exact ⟨0, Nat.zero_le _, rfl, rfl, rfl⟩
        case round =>
          obtain ⟨k, hk, rfl, rfl, rfl⟩ := hrel
          by_cases hkl : k < now.length
          · have hklI : (k : Int) < now.length := by omega
            obtain ⟨b, o, rfl, -, -, d2⟩ := HCC.out k hkl
            have hnt := named_take now i k hkl
            have wk : IntKind.i64.wrap ((k : Int) + 1) = (k : Int) + 1 := IntWalk.i64_in _ (by have := HNB.out.1; omega)
            obtain ⟨y, hy⟩ : ∃ y, now.getD k nd = y := ⟨_, rfl⟩
            obtain ⟨s, f⟩ := y
            rw [hy] at d2 hnt
            dsimp only at d2 hnt
            have HNT := hid hnt; have HKL := hid hkl
            clear hnt hy hk hkl
            cases hnb : named (now.take k) i with
            | true =>
              rw [hnb] at HNT
              clear hnb d2
              go_wp2_with fail
              exact ⟨⟨k + 1, by have := HKL.out; omega, by go_num, by rw [HNT.out]; rfl, trivial⟩, by simp [intOf]; have := HKL.out; omega⟩
            | false =>
              rw [hnb] at HNT
              clear hnb
              have hfe : ((f : Int) == (i : Int)) = (f == i) := by
                by_cases e : f = i
                · subst e; simp
                · rw [beq_eq_false_iff_ne.2 e, beq_eq_false_iff_ne]; omega
              go_wp2_with fail
              exact ⟨⟨k + 1, by have := HKL.out; omega, by go_num, by rw [HNT.out]; first | rfl | simp, trivial⟩, by simp [intOf]; have := HKL.out; omega⟩
          · have hklI : ¬ (k : Int) < now.length := by omega
            obtain rfl : k = now.length := by omega
            rw [List.take_length]
            clear hkl hk
            cases hnb : named now i with
            | false =>
              have wi := HWI.out
              have HNB2 := hid hnb
              clear hnb
              go_wp2_with fail
              exact ⟨⟨i + 1, ak, F, M, by have := HLT.out; omega, by go_num, rfl, hid (by unfold crL; rw [if_neg (by rw [HNB2.out]; simp)]; exact HCR.out), HML, HRM, HFR⟩, by simp [intOf]; have := HLT.out; omega⟩
            | true =>
              have HNB2 := hid hnb
              clear hnb
              have hcl := crL_len now picks R.files i
              rw [HCR.out] at hcl
              dsimp only at hcl
              have hFl : F.length = n0 := hcl.1.trans HN0.out
              have hak := hcl.2.1
              have hFi := hcl.2.2 i (Nat.le_refl _)
              obtain ⟨g, cap, v, hfv, hMl, hMi, hfb, e1, e2, ez⟩ := HRM.out.file (i := i) (show i < F.length by have := HLT.out; omega)
              rw [hFi] at hMi hfb e2
              rw [HML.out] at hfv
              simp only [Value.slice.injEq, true_and] at hfv
              obtain ⟨rfl, rfl⟩ := hfv
              obtain ⟨va, vc, hv, hvl, hvm, -⟩ := id hfb
              dsimp only at hv hvl
              subst hv
              have hlb := HB.out.fb.2 (R.files.getD i ([], 0)) (by rw [List.getD_eq_getElem?_getD, List.getElem?_eq_getElem (show i < R.files.length by have := HLT.out; have := HN0.out; omega)]; exact List.getElem_mem _)
              obtain ⟨y, hy⟩ : ∃ y, R.files.getD i ([], 0) = y := ⟨_, rfl⟩
              rw [hy] at hMi hfb e1 e2 hlb hvl
              have HY := hid hy
              obtain ⟨l, sy⟩ := y
              dsimp only at hMi hfb e1 e2 hlb hvl
              obtain ⟨t, ht⟩ : ∃ t, l.length - sy = t := ⟨_, rfl⟩
              obtain ⟨tm, htm⟩ : ∃ tm, t + 1 = tm := ⟨_, rfl⟩
              obtain ⟨p1, hp1⟩ : ∃ p1, pick picks ak t = p1 := ⟨_, rfl⟩
              have hpl : p1 ≤ t := by rw [← hp1]; exact pick_le _ _ _
              obtain ⟨q, hq⟩ : ∃ q, sy + p1 = q := ⟨_, rfl⟩
              have hql : q ≤ l.length := by omega
              have wt : IntKind.i64.wrap ((l.length : Int) - sy) = (t : Int) := by rw [show (l.length : Int) - sy = (t : Int) by omega]; exact IntWalk.i64_in _ (by omega)
              have wtm : IntKind.i64.wrap ((t : Int) + 1) = (tm : Int) := by rw [show (t : Int) + 1 = (tm : Int) by omega]; exact IntWalk.i64_in _ (by omega)
              have wq : IntKind.i64.wrap ((sy : Int) + p1) = (q : Int) := by rw [show (sy : Int) + p1 = (q : Int) by omega]; exact IntWalk.i64_in _ (by omega)
              have wak : IntKind.i64.wrap ((ak : Int) + 1) = (ak : Int) + 1 := IntWalk.i64_in _ (by have := HLT.out; have := HN0M.out; omega)
              have hpp : Is (fun k => k < base) wr (.slice ap picks.length cp) picks := HP.out.frame HFR.out fun k hk hr => by have h1 := hr.1; have h2 : k < base := hk; omega
              have hpk2 := fun (W : World) (hF : Fr (fun _ => False) wr W) => rpick_any (fun k => k < base) _ picks (hpp.frame hF fun _ _ => id) HR.out ak t tm htm (by have := HLT.out; have := HN0M.out; omega) (by omega) (by have := HL.out; omega)
              rw [hp1] at hpk2
              have HPK2 := hid hpk2; have HE1 := hid e1; have HE2 := hid e2; have HMI := hid hMi; have HFB := hid hfb; have HLB := hid hlb; have HQL := hid hql; have HQ := hid hq; have HP1 := hid hp1; have HT := hid ht; have WTM := hid wtm; have WQ := hid wq; have WAK := hid wak
              have hiI : (0 : Int) ≤ i ∧ (i : Int) < n0 := by have := HLT.out; omega
              have hqv : (0 : Int) ≤ q ∧ (q : Int) ≤ vc := by omega
              have HQV := hid hqv
              clear hcl hFl hak hFi hMl hMi hfb ez hlb hvl hvm hy ht htm hp1 hpl hq hql hpp hpk2 wtm wq wak hqv e2
              have c1 := HC1.out
              go_upto_region 15 with fail
              clear e1 c1 hiI
              refine wp_region_cls (fun w' => Fr (fun _ => False) wr w') (by kernel_rfl) (by kernel_rfl) (Fr.refl _ _).drew ?_
              iterate 3 (refine q_take ?_ (by kernel_rfl) ?_ ?_; rotate_left; (· intro w' hS; go_simp; try with_reducible rfl); (try simp only [Act.put, List.setIfInBounds_toArray, List.set_cons_zero, List.set_cons_succ]))
              (refine q_take ?_ (by kernel_rfl) ?_ ?_; rotate_left; (· intro w' hS; have d1 := hS.cell HE1.out not_false; go_simp; try with_reducible rfl); try simp only [Act.put, List.setIfInBounds_toArray, List.set_cons_zero, List.set_cons_succ])
              iterate 4 (refine q_take ?_ (by kernel_rfl) ?_ ?_; rotate_left; (· intro w' hS; go_simp; try with_reducible rfl); (try simp only [Act.put, List.setIfInBounds_toArray, List.set_cons_zero, List.set_cons_succ]))
              (refine q_take ?_ (by kernel_rfl) ?_ ?_; rotate_left; (· intro w' hS; have d1 := hS.cell HE2.out not_false; go_simp; try with_reducible rfl); try simp only [Act.put, List.setIfInBounds_toArray, List.set_cons_zero, List.set_cons_succ])
              iterate 2 (refine q_take ?_ (by kernel_rfl) ?_ ?_; rotate_left; (· intro w' hS; go_simp; try with_reducible rfl); (try simp only [Act.put, List.setIfInBounds_toArray, List.set_cons_zero, List.set_cons_succ]))
              refine q_end (fun wy hwy => ?_)
              have HWY := hid hwy
              have wtm := WTM.out; have wq := WQ.out
              clear hwy wt
              go_upto_region 16 with fail
              refine wp_region_cls (fun w' => Fr (fun _ => False) wr w') (by kernel_rfl) (by kernel_rfl) HWY.out.drew ?_
              iterate 3 (refine q_take ?_ (by kernel_rfl) ?_ ?_; rotate_left; (· intro w' hS; go_simp; try with_reducible rfl); (try simp only [Act.put, List.setIfInBounds_toArray, List.set_cons_zero, List.set_cons_succ]))
              (refine q_take ?_ (by kernel_rfl) ?_ ?_; rotate_left; (· intro w' hS; have d1 := hS.cell HE2.out not_false; go_simp; try with_reducible rfl); try simp only [Act.put, List.setIfInBounds_toArray, List.set_cons_zero, List.set_cons_succ])
              iterate 4 (refine q_take ?_ (by kernel_rfl) ?_ ?_; rotate_left; (· intro w' hS; go_simp; try with_reducible rfl); (try simp only [Act.put, List.setIfInBounds_toArray, List.set_cons_zero, List.set_cons_succ]))
              (refine q_call ?_ ?_ (by kernel_rfl) ?_ ?_; rotate_left 2; (· intro w' hS; go_simp; first | with_reducible rfl | (constructor <;> with_reducible rfl)); (refine ⟨_, fun w' hw => (HPK2.out w' hw).mono fun _ _ h => ⟨h.1, h.2 ▸ hw⟩, ?_⟩); (try simp only [Act.put, List.setIfInBounds_toArray, List.set_cons_zero, List.set_cons_succ]))
              iterate 2 (refine q_take ?_ (by kernel_rfl) ?_ ?_; rotate_left; (· intro w' hS; go_simp; try with_reducible rfl); (try simp only [Act.put, List.setIfInBounds_toArray, List.set_cons_zero, List.set_cons_succ]))
              refine q_end (fun wz hwz => ?_)
              have HWZ := hid hwz
              have e1 := hwz.cell HE1.out not_false
              have wak := WAK.out; have hqv := HQV.out
              have hlt2 : (l.take q).length = q := by rw [List.length_take]; have := HQL.out; omega
              have hby := rbytes_copy _ _ (l.take q) wz ((show Bs (BB wr) wr (.slice va q vc) (l.take q) from Bs.upto HFB.out q HQL.out).frame hwz fun _ _ => id) (by rw [hlt2]; have := HQL.out; have := HLB.out; omega)
              have HBY := hid hby; have HLT2 := hid hlt2
              clear hwz hby hlt2 wtm wq HWY
              go_wp2_with fail
              refine HBY.out.mono ?_
              rintro e w6 ⟨v6, rfl, ho6, hf6⟩
              obtain ⟨a6, c6, rfl, -⟩ := own_len ho6
              have hb6 := ho6.bs2
              rw [HLT2.out] at hb6 ⊢
              have hf6w := HWZ.out.trans' hf6
              have hmd := HRM.out.frame hf6w fun _ _ _ _ _ _ => id
              rw [← HML.out] at hmd
              have hset := rown_setCell (rown_setCell hmd.files (i * 3) (.slice a6 q c6) (by have := HML.out; have := HLT.out; omega)) (i * 3 + 1) (.int .i64 (q : Int)) (by have := HML.out; have := HLT.out; omega)
              have hMi2 : (M.set i (Value.slice a6 q c6, l.take q, sy))[i]? = some (Value.slice a6 q c6, l.take q, sy) := by rw [List.getElem?_set_self (by have := HML.out; have := HLT.out; omega)]
              rw [fiV_set0 _ _ _ (.slice a6 q c6) _ (l.take q) _ HMI.out, fiV_set1 _ _ _ _ _ q hMi2, List.set_set] at hset
              have hfg := ((Fr.refl (fun k => k = g) w6).setCell (p := ⟨g, i * 3, none⟩) (.inl rfl) (.slice a6 q c6)).setCell (p := ⟨g, i * 3 + 1, none⟩) (.inl rfl) (.int .i64 (q : Int))
              obtain ⟨cs, hg⟩ := own_block hmd.files (k := g) rfl
              have hg2 := setCell_row (i * 3) (.slice a6 q c6) hg
              have f1 : w6.frozen? ⟨g, i * 3, none⟩ = false := frozen_of_row _ _ _ _ _ hg
              have d1 : w6.cell? ⟨g, i * 3, none⟩ = some (.slice va l.length vc) := hf6w.cell HE1.out not_false
              have f2 : (w6.setCell ⟨g, i * 3, none⟩ (.slice a6 q c6)).frozen? ⟨g, i * 3 + 1, none⟩ = false := frozen_of_row _ _ _ _ _ hg2
              have d2 : (w6.setCell ⟨g, i * 3, none⟩ (.slice a6 q c6)).cell? ⟨g, i * 3 + 1, none⟩ = some (.int .i64 (sy : Int)) := by
                have h1 := hf6w.cell HE2.out not_false
                rw [cell_of_row _ _ _ _ _ _ hg] at h1
                rw [cell_of_row _ _ _ _ _ _ hg2, Array.getElem?_setIfInBounds_ne (by omega)]
                exact h1
              have hbg6 : ∀ k, BB w6 k → ¬ k = g := fun k ⟨cs', fz, hc⟩ e => by
                rw [e, hg] at hc
                simp only [Option.some.injEq, Obj.cells.injEq] at hc
                exact absurd hc.2.1 (by decide)
              obtain ⟨hm5, hf5⟩ := hmd.setF (i := i) (Value.slice a6 q c6, l.take q, q) hfg hset ((hb6.frame hfg hbg6).mono fun k _ hk => hk.frame hfg (hbg6 k hk))
              rw [List.length_set, HML.out] at hm5
              have HM5 := hid hm5; have HF5 := hid (RK.trans HFR.out (RK.trans (RK.of hf6w) hf5))
              have hcr : crL now picks R.files (i + 1) = (F.set i (l.take q, q), ak + 1) := by
                unfold crL
                rw [if_pos HNB2.out, HCR.out, HY.out]
                dsimp only
                rw [HT.out, HP1.out, HQ.out]
              have HCR2 := hid hcr
              clear ho6 hf6 hf6w hb6 hmd hset hfg hg hg2 hbg6 hm5 hf5 hMi2 hcr e1
              have wi := HWI.out
              go_wp2_with fail
              go_roundw
              case rel => exact ⟨i + 1, ak + 1, F.set i (l.take q, q), M.set i (Value.slice a6 q c6, l.take q, q), by have := HLT.out; omega, by go_num, by go_num, HCR2, hid (by rw [List.length_set]; exact HML.out), HM5, HF5⟩
              case measure => simp [intOf]; have := HLT.out; omega
      · have hltI : ¬ (i : Int) < n0 := by omega
        obtain rfl : i = n0 := by omega
        clear hlt hi
        have hna1 := rnames_any _ now wr HNSr.out (by have := HNB.out.1; omega)
        have HNA1 := hid hna1
        clear hna1 hns
        go_wp2_with fail
        refine HNA1.out.mono ?_
        rintro e w3 ⟨v3, rfl, ho3, hf3⟩
        obtain ⟨a3, c3, rfl, -⟩ := own_len ho3
        have hm3 := HRM.out.frame hf3 fun _ _ _ _ _ _ => id
        have hx1 := setCell_row 2 (.slice a3 now.length c3) hm3.heap
        simp only [List.setIfInBounds_toArray, List.set_cons_zero, List.set_cons_succ] at hx1
        have hfr1 := (Fr.refl (fun k => k = x) w3).setCell (p := ⟨x, 2, none⟩) (.inl rfl) (.slice a3 now.length c3)
        have hm4 := hm3.turn (R' := { R with files := F, names := now }) hfr1 rfl rfl hx1 ho3.ns hm3.kept
        obtain ⟨-, -, d2, -, -, -, -, -, fz2⟩ := hm3.cell
        have f2 := fz2 2
        have hNx : ∀ k, NB w3 k → ¬ k = x := fun k ⟨cs, fz, hc⟩ e => by
          rw [e, hm3.heap] at hc
          simp only [Option.some.injEq, Obj.cells.injEq] at hc
          exact absurd hc.2.1 (by decide)
        have hns4 := (HNSr.out.fr hf3).frame hfr1 hNx
        have HM4 := hid hm4; have HNS4 := hid hns4; have HFR4 := hid (RK.trans HFR.out (RK.trans (RK.of hf3) (hfr1.rk hm3)))
        clear ho3 hf3 hm3 hx1 hfr1 hm4 fz2 hNx hns4 HNA1
        go_upto_region 21 with fail
        clear d2 f2
        generalize w3.setCell ⟨x, 2, none⟩ (.slice a3 now.length c3) = W4 at *
        have hna2 := rnames_any _ now W4 HNS4.out (by have := HNB.out.1; omega)
        have HNA2 := hid hna2
        clear hna2
        go_wp2_with fail
        refine HNA2.out.mono ?_
        rintro e w5 ⟨v5, rfl, ho5, hf5⟩
        obtain ⟨a5, c5, rfl, -⟩ := own_len ho5
        have hm5 := HM4.out.frame hf5 fun _ _ _ _ _ _ => id
        have hx1 := setCell_row 3 (.slice a5 now.length c5) hm5.heap
        simp only [List.setIfInBounds_toArray, List.set_cons_zero, List.set_cons_succ] at hx1
        have hx2 := setCell_row 4 (.slice none 0 0) hx1
        simp only [List.setIfInBounds_toArray, List.set_cons_zero, List.set_cons_succ] at hx2
        have hx3 := setCell_row 5 (.int .i64 0) hx2
        simp only [List.setIfInBounds_toArray, List.set_cons_zero, List.set_cons_succ] at hx3
        have hx4 := setCell_row 6 (.bool false) hx3
        simp only [List.setIfInBounds_toArray, List.set_cons_zero, List.set_cons_succ] at hx4
        have hfr := ((((Fr.refl (fun k => k = x) w5).setCell (p := ⟨x, 3, none⟩) (.inl rfl) (.slice a5 now.length c5)).setCell (p := ⟨x, 4, none⟩) (.inl rfl) (.slice none 0 0)).setCell (p := ⟨x, 5, none⟩) (.inl rfl) (.int .i64 0)).setCell (p := ⟨x, 6, none⟩) (.inl rfl) (.bool false)
        have hfin := hm5.turnL (R' := { R with files := F, names := now, kept := now, log := [], fuse := 0, off := false }) hfr rfl rfl hx4 hm5.names ho5.ns
        obtain ⟨-, -, -, d3, d4, d5, d6, -, fz⟩ := hm5.cell
        have f3 := fz 3
        have f4 : (w5.setCell ⟨x, 3, none⟩ (.slice a5 now.length c5)).frozen? ⟨x, 4, none⟩ = false := frozen_of_row _ _ _ _ _ hx1
        have d4' : (w5.setCell ⟨x, 3, none⟩ (.slice a5 now.length c5)).cell? ⟨x, 4, none⟩ = some (.slice (some ⟨g4, 0, none⟩) G.length cl) := by rw [cell_of_row _ _ _ _ _ _ hx1]; rfl
        have f5 : ((w5.setCell ⟨x, 3, none⟩ (.slice a5 now.length c5)).setCell ⟨x, 4, none⟩ (.slice none 0 0)).frozen? ⟨x, 5, none⟩ = false := frozen_of_row _ _ _ _ _ hx2
        have d5' : ((w5.setCell ⟨x, 3, none⟩ (.slice a5 now.length c5)).setCell ⟨x, 4, none⟩ (.slice none 0 0)).cell? ⟨x, 5, none⟩ = some (.int .i64 (R.fuse : Int)) := by rw [cell_of_row _ _ _ _ _ _ hx2]; rfl
        have f6 : (((w5.setCell ⟨x, 3, none⟩ (.slice a5 now.length c5)).setCell ⟨x, 4, none⟩ (.slice none 0 0)).setCell ⟨x, 5, none⟩ (.int .i64 0)).frozen? ⟨x, 6, none⟩ = false := frozen_of_row _ _ _ _ _ hx3
        have d6' : (((w5.setCell ⟨x, 3, none⟩ (.slice a5 now.length c5)).setCell ⟨x, 4, none⟩ (.slice none 0 0)).setCell ⟨x, 5, none⟩ (.int .i64 0)).cell? ⟨x, 6, none⟩ = some (.bool R.off) := by rw [cell_of_row _ _ _ _ _ _ hx3]; rfl
        have hcs : R.crashS picks = { R with files := F, names := now, kept := now, log := [], fuse := 0, off := false } := by
          unfold RS.crashS
          rw [HNOWE.out, HN0.out, HCR.out]
        have HFIN := hid hfin; have HCS := hid hcs; have HFF := hid (RK.trans HFR4.out (RK.trans (RK.of hf5) (hfr.rk hm5)))
        clear hm5 hx1 hx2 hx3 hx4 hfr hfin fz ho5 hf5 hcs d4 d5 d6 HNA2
        go_wp2_with fail
        go_end0
        exact ⟨rfl, by rw [HCS.out]; exact ⟨_, _, _, _, _, _, HFIN.out⟩, HFF.out⟩
end
end Go.Proofs.YtlhbgobjhddhlaaGreatDoor
