/- From a walk that returns true and turns nothing old to the given row: what all laws share. -/
import Derived.Test.YtbegahbagnflnaaDoorLib
import Derived.Test.YtbegahbagnflnaaDoorRegion
import Derived.ProofKit
import Derived.Deep.Matrix
namespace Go.Proofs.YtbegahbagnflnaaDoor
open Go.ChangeShapes Go.WideShapes Go.ChangeAt Go.RowKit
theorem Tryd.own : ownKnob Tryd.prog.godebug = none := by kernel_rfl
theorem Tryd.laidOut : laidOutB Tryd.prog = true := by kernel_rfl
section
variable {H : Type} {enc : TypeId × Value → H} {P : Program}

theorem trodAll_stays (hl : laidOutB P = true) {W W' : World} (hb : Below W.heap.size W W') : ∀ (ts : List TypeId) (vs : List Value) (ds : List (DataW H)) (ps : List MemPlace),
    (ts.all fun t => P.readableRec t && decide (t < P.types.size)) = true → (∀ x ∈ ps, x.block < W.heap.size) →
    DataW.TrodAll enc P W 0 (fun _ => true) true ts vs ds ps → DataW.TrodAll enc P W' 0 (fun b => decide (b < W.heap.size)) true ts vs ds ps := by
  intro ts
  induction ts with
  | nil =>
    intro vs ds ps _ _ h
    obtain ⟨rfl, rfl, rfl⟩ := trodAll_nil h
    exact trodAll_mk0
  | cons t ts ih =>
    intro vs ds ps hr hlt h
    obtain ⟨v, vs', d, ds', p, q, rfl, rfl, rfl, h1, h2⟩ := trodAll_cons h
    simp only [List.all_cons, Bool.and_eq_true, decide_eq_true_eq] at hr
    exact ⟨p, q, Below.trod hl hr.1.1 hr.1.2 h1 hb (fun x hx => hlt x (List.mem_append_left _ hx)), ih vs' ds' q (by simpa using hr.2) (fun x hx => hlt x (List.mem_append_right _ hx)) h2, rfl⟩

theorem law_post {f : Func} {s : ChangeSpec} {W W' : World} {args : Array Value} {ds : List (DataW H)} {before : List MemPlace} {t : TypeId}
    (hW : DataW.Whole enc P f.params.toList s.vars false W args.toList ds [] before) (hf : Fr (fun _ => False) W W') (hl : laidOutB P = true)
    (hr : (f.params.toList.all fun t => P.readableRec t && decide (t < P.types.size)) = true) (hv : s.vars = []) (ht : f.resultTypes = #[t]) (hb : P.underlying t = some .bool)
    (e1 : (s.fn H (ds ++ [])).results = [.lit (.bool true)]) (e2 : (s.fn H (ds ++ [])).args = ds) (e3 : (s.fn H (ds ++ [])).vars = []) :
    s.post enc P f false true false false W args (.bool true) W' := by
  have hbel : Below W.heap.size W W' := hf.below (Nat.le_refl _) (fun _ _ => id)
  have hlt : ∀ x ∈ before, x.block < W.heap.size := fun x hx => by simpa using hW.lt x hx
  have hW2 := hW
  obtain ⟨p, q, hA, hV, rfl, _, _⟩ := hW
  rw [hv] at hV
  obtain ⟨_, rfl⟩ := trodVars_none hV
  refine ⟨ds, [], _, [], p, [], hW2, ?_, ?_, ?_, hbel.frame _, fun h => by cases h⟩
  · rw [e1, ht]
    exact trodAll_mk1 (shut_bool hb _)
  · rw [e2]
    exact trodAll_stays hl hbel _ _ _ _ hr (fun x hx => hlt x (by simpa using hx)) hA
  · rw [e3, hv]
    rfl

theorem i64_of_wf {n : Int} (h : (Lit.int .i64 n).wf = true) : -9223372036854775808 ≤ n ∧ n ≤ 9223372036854775807 := by
  simp [Lit.wf, IntKind.min, IntKind.max, IntKind.signed, IntKind.bits] at h
  omega
theorem byte_of_wf {n : Int} (h : (Lit.int .u8 n).wf = true) : ((UInt8.ofNat n.toNat).toNat : Int) = n := by
  simp [Lit.wf, IntKind.min, IntKind.max, IntKind.signed, IntKind.bits] at h
  simp
  omega

theorem addr_add (b o j : Nat) : (⟨b, o, none⟩ : Addr).add j = ⟨b, o + j, none⟩ := by
  unfold Addr.add
  split <;> simp_all

theorem bs_of_cells {w : World} {a : Option Addr} {len cap : Nat} {zs : List Int} (hl : len ≤ cap) (hm : cap ≤ maxLen) (hz : len ≤ zs.length) (hn : a = none → len = 0)
    (hc : ∀ a', a = some a' → ∀ j, j < len → w.cell? (a'.add j) = some (.int .u8 (zs.getD j 0))) (hw : ∀ n ∈ zs, (Lit.int .u8 n).wf = true) :
    Bs (fun _ => True) w (.slice a len cap) ((zs.take len).map fun n => UInt8.ofNat n.toNat) := by
  have e : ((zs.take len).map fun n => UInt8.ofNat n.toNat).length = len := by simp; omega
  refine ⟨a, cap, by rw [e], by omega, hm, fun k hk => ?_⟩
  rw [e] at hk
  cases a with
  | none => have := hn rfl; omega
  | some a' =>
    obtain ⟨b, o, sp⟩ := a'
    have hsp : sp = none := by
      have := hc _ rfl 0 (by omega)
      simpa [Addr.add] using World.cell?_spot this
    subst hsp
    refine ⟨b, o, rfl, trivial, ?_⟩
    have h1 := hc _ rfl k hk
    rw [addr_add] at h1
    have h2 : ((zs.take len).map fun n => UInt8.ofNat n.toNat).getD k 0 = UInt8.ofNat (zs.getD k 0).toNat := by
      simp [List.getD, List.getElem?_take, hk]
      rw [List.getElem?_eq_getElem (by omega)]
      simp
    rw [h1, h2, byte_of_wf]
    apply hw
    rw [List.getD_eq_getElem?_getD, List.getElem?_eq_getElem (by omega)]
    exact List.getElem_mem _

/-- A []byte that came in. -/
theorem open_bs {t q : TypeId} {w : World} {a : Option Addr} {len cap : Nat} {d : DataW H} {ps : List MemPlace} (ht : P.underlying t = some (.slice q)) (hq : P.underlying q = some (.int .u8)) (cq : P.cellsOf q = 1)
    (h : DataW.Trod enc P w 0 (fun _ => true) true t (.slice a len cap) d ps) : ∃ l : List UInt8, Bs (fun _ => True) w (.slice a len cap) l := by
  obtain ⟨fuel, hf⟩ := h
  rcases open_ints ht hq cq hf with ⟨hcs, _⟩ | ⟨a', len', cap', zs, hcs, _, hl, hm, hz, _, hcell, hwz⟩
  · simp [Value.cells] at hcs
    obtain ⟨rfl, rfl, rfl⟩ := hcs
    exact ⟨[], none, 0, rfl, Nat.le_refl _, Nat.zero_le _, fun k hk => by simp at hk⟩
  · simp [Value.cells] at hcs
    obtain ⟨rfl, rfl, rfl⟩ := hcs
    simp only [if_true] at hz
    exact ⟨_, bs_of_cells hl hm (by omega) (fun h => by cases h) (fun a'' e j hj => by cases e; exact hcell j (by omega)) hwz⟩

/-- A []int that came in. -/
theorem open_isl {t q : TypeId} {w : World} {a : Option Addr} {len cap : Nat} {d : DataW H} {ps : List MemPlace} (ht : P.underlying t = some (.slice q)) (hq : P.underlying q = some (.int .i64)) (cq : P.cellsOf q = 1)
    (h : DataW.Trod enc P w 0 (fun _ => true) true t (.slice a len cap) d ps) :
    ∃ ns : List Int, Sl (fun _ => True) w (.slice a len cap) ns.length (fun k u => u = .int .i64 (ns.getD k 0) ∧ -9223372036854775808 ≤ ns.getD k 0 ∧ ns.getD k 0 ≤ 9223372036854775807) := by
  obtain ⟨fuel, hf⟩ := h
  rcases open_ints ht hq cq hf with ⟨hcs, _⟩ | ⟨a', len', cap', zs, hcs, _, hl, hm, hz, _, hcell, hwz⟩
  · simp [Value.cells] at hcs
    obtain ⟨rfl, rfl, rfl⟩ := hcs
    exact ⟨[], none, 0, rfl, Nat.le_refl _, Nat.zero_le _, fun k hk => by simp at hk⟩
  · simp [Value.cells] at hcs
    obtain ⟨rfl, rfl, rfl⟩ := hcs
    simp only [if_true] at hz
    have hL : (zs.take len).length = len := by simp; omega
    refine ⟨zs.take len, some a', cap, by rw [hL], by omega, hm, fun k hk => ?_⟩
    rw [hL] at hk
    obtain ⟨b, o, sp⟩ := a'
    have hsp : sp = none := by
      have := hcell 0 (by omega)
      simpa [Addr.add] using World.cell?_spot this
    subst hsp
    have h1 := hcell k (by omega)
    rw [addr_add] at h1
    have h2 : (zs.take len).getD k 0 = zs.getD k 0 := by
      simp only [List.getD, List.getElem?_take]
      rw [if_pos hk]
    have h3 : (Lit.int .i64 (zs.getD k 0)).wf = true := hwz _ (by
      rw [List.getD_eq_getElem?_getD, List.getElem?_eq_getElem (by omega)]
      exact List.getElem_mem _)
    refine ⟨b, o, _, rfl, trivial, h1, ?_⟩
    show _ = _ ∧ _
    rw [h2]
    exact ⟨rfl, i64_of_wf h3⟩

theorem trodAll_len {w : World} {b : Nat} {sp : Nat → Bool} {hd : Bool} : ∀ (ts : List TypeId) (vs : List Value) (ds : List (DataW H)) (ps : List MemPlace), DataW.TrodAll enc P w b sp hd ts vs ds ps → vs.length = ts.length ∧ ds.length = ts.length
  | [], vs, ds, ps, h => by
    obtain ⟨rfl, rfl, rfl⟩ := trodAll_nil h
    exact ⟨rfl, rfl⟩
  | t :: ts, vs, ds, ps, h => by
    obtain ⟨v, vs', d, ds', p, q, rfl, rfl, rfl, _, h2⟩ := trodAll_cons h
    have := trodAll_len ts vs' ds' q h2
    simp [this.1, this.2]
theorem lenThree {α : Type} {l : List α} (h : l.length = 3) : ∃ a b c, l = [a, b, c] := by
  match l, h with
  | [a, b, c], _ => exact ⟨a, b, c, rfl⟩
theorem len4 {α : Type} {l : List α} (h : l.length = 4) : ∃ a b c d, l = [a, b, c, d] := by
  match l, h with
  | [a, b, c, d], _ => exact ⟨a, b, c, d, rfl⟩
theorem len5 {α : Type} {l : List α} (h : l.length = 5) : ∃ a b c d e, l = [a, b, c, d, e] := by
  match l, h with
  | [a, b, c, d, e], _ => exact ⟨a, b, c, d, e, rfl⟩
theorem len6 {α : Type} {l : List α} (h : l.length = 6) : ∃ a b c d e f, l = [a, b, c, d, e, f] := by
  match l, h with
  | [a, b, c, d, e, f], _ => exact ⟨a, b, c, d, e, f, rfl⟩
theorem len7 {α : Type} {l : List α} (h : l.length = 7) : ∃ a b c d e f g, l = [a, b, c, d, e, f, g] := by
  match l, h with
  | [a, b, c, d, e, f, g], _ => exact ⟨a, b, c, d, e, f, g, rfl⟩
theorem len8 {α : Type} {l : List α} (h : l.length = 8) : ∃ a b c d e f g i, l = [a, b, c, d, e, f, g, i] := by
  match l, h with
  | [a, b, c, d, e, f, g, i], _ => exact ⟨a, b, c, d, e, f, g, i, rfl⟩
theorem len10 {α : Type} {l : List α} (h : l.length = 10) : ∃ a b c d e f g i j k, l = [a, b, c, d, e, f, g, i, j, k] := by
  match l, h with
  | [a, b, c, d, e, f, g, i, j, k], _ => exact ⟨a, b, c, d, e, f, g, i, j, k, rfl⟩
/-- A struct handed over by value: its cells, each of its type. -/
theorem open_row {w : World} {base : Nat} {t : TypeId} {v : Value} {ts : List TypeId} (hu : (P.underlying t).any rowDesc = true) (hts : P.cellTypes P.depth t = some ts) (hn : P.cellsOf t = ts.length)
    (h : Value.okWide P w .any base t v) : ∃ cs : List Value, v = .agg cs.toArray ∧ cs.length = ts.length ∧ ∀ (i : Nat) (u : TypeId) (c : Value), ts[i]? = some u → cs[i]? = some c → Cell.okWide P w .any base u c := by
  have key : ∃ cs : Array Value, v = .agg cs ∧ cs.size = P.cellsOf t ∧ Row.okWide P w .any base t cs := by
    unfold Value.okWide at h
    cases hd : P.underlying t with
    | none => rw [hd] at hu; simp at hu
    | some d =>
      rw [hd] at hu h
      cases d with
      | struct fs => exact h
      | array n e => exact h
      | _ => simp [rowDesc] at hu
  obtain ⟨cs, rfl, hs, ts', ht', _, hc⟩ := key
  rw [hts] at ht'
  obtain rfl := Option.some.inj ht'
  refine ⟨cs.toList, by simp, by simpa [hn] using hs, fun i u c hi hci => ?_⟩
  obtain ⟨u', hu', hcc⟩ := hc i c (by simpa using hci)
  have hlt : i < ts.length := (List.getElem?_eq_some_iff.1 hi).1
  rw [Nat.mod_eq_of_lt hlt, hi] at hu'
  obtain rfl := Option.some.inj hu'
  exact hcc
theorem cell_i64 {w : World} {base : Nat} {u : TypeId} {c : Value} (hu : P.underlying u = some (.int .i64)) (h : Cell.okWide P w .any base u c) : ∃ n : Int, c = .int .i64 n ∧ -9223372036854775808 ≤ n ∧ n ≤ 9223372036854775807 := by
  unfold Cell.okWide at h
  rw [hu] at h
  cases c <;> simp [Cell.ok, hu] at h
  obtain ⟨rfl, h1⟩ := h
  simp [IntKind.has, IntKind.min, IntKind.max, IntKind.signed, IntKind.bits] at h1
  exact ⟨_, rfl, by omega, by omega⟩
theorem cell_u32 {w : World} {base : Nat} {u : TypeId} {c : Value} (hu : P.underlying u = some (.int .u32)) (h : Cell.okWide P w .any base u c) : ∃ n : Nat, c = .int .u32 n ∧ n < 4294967296 := by
  unfold Cell.okWide at h
  rw [hu] at h
  cases c <;> simp [Cell.ok, hu] at h
  obtain ⟨rfl, h1⟩ := h
  simp [IntKind.has, IntKind.min, IntKind.max, IntKind.signed, IntKind.bits] at h1
  rename_i n
  exact ⟨n.toNat, by congr 1; omega, by omega⟩
theorem cell_u8 {w : World} {base : Nat} {u : TypeId} {c : Value} (hu : P.underlying u = some (.int .u8)) (h : Cell.okWide P w .any base u c) : ∃ n : Nat, c = .int .u8 n ∧ n < 256 := by
  unfold Cell.okWide at h
  rw [hu] at h
  cases c <;> simp [Cell.ok, hu] at h
  obtain ⟨rfl, h1⟩ := h
  simp [IntKind.has, IntKind.min, IntKind.max, IntKind.signed, IntKind.bits] at h1
  rename_i n
  exact ⟨n.toNat, by congr 1; omega, by omega⟩
theorem cell_bool {w : World} {base : Nat} {u : TypeId} {c : Value} (hu : P.underlying u = some .bool) (h : Cell.okWide P w .any base u c) : ∃ b : Bool, c = .bool b := by
  unfold Cell.okWide at h
  rw [hu] at h
  cases c <;> simp [Cell.ok, hu] at h
  exact ⟨_, rfl⟩

/-- A [][]byte that came in. -/
theorem open_bss {t e q : TypeId} {w : World} {a : Option Addr} {len cap : Nat} {d : DataW H} {ps : List MemPlace} (ht : P.underlying t = some (.slice e)) (he : P.underlying e = some (.slice q)) (hq : P.underlying q = some (.int .u8)) (ce : P.cellsOf e = 1) (cq : P.cellsOf q = 1)
    (h : DataW.Trod enc P w 0 (fun _ => true) true t (.slice a len cap) d ps) : ∃ ls : List (List UInt8), Sl (fun _ => True) w (.slice a len cap) ls.length (fun k u => Bs (fun _ => True) w u (ls.getD k [])) := by
  obtain ⟨fuel, hf⟩ := h
  rcases Deep.open_int_rows ht he hq ce cq hf with ⟨hcs, _⟩ | ⟨a', len', cap', A, L, C, Z, hcs, _, hl, hm, _, hr⟩
  · simp [Value.cells] at hcs
    obtain ⟨rfl, rfl, rfl⟩ := hcs
    exact ⟨[], none, 0, rfl, Nat.le_refl _, Nat.zero_le _, fun k hk => by simp at hk⟩
  · simp [Value.cells] at hcs
    obtain ⟨rfl, rfl, rfl⟩ := hcs
    refine ⟨(List.range len).map fun r => ((Z r).take (L r)).map fun n => UInt8.ofNat n.toNat, some a', cap, by simp, by simpa using hl, hm, fun k hk => ?_⟩
    simp only [List.length_map, List.length_range] at hk
    obtain ⟨h1, h2, h3, h4, h5, h6, h7⟩ := hr k (by omega)
    obtain ⟨b, o, sp⟩ := a'
    have hsp : sp = none := by
      have := (hr 0 (by omega)).1
      simpa [Addr.add] using World.cell?_spot this
    subst hsp
    rw [addr_add] at h1
    refine ⟨b, o, _, rfl, trivial, h1, ?_⟩
    have e1 : ((List.range len).map fun r => ((Z r).take (L r)).map fun n => UInt8.ofNat n.toNat).getD k [] = ((Z k).take (L k)).map fun n => UInt8.ofNat n.toNat := by
      simp [List.getD, hk]
    show Bs _ w _ _
    rw [e1]
    exact bs_of_cells h2 h3 (by omega) (fun h => by have := h6 h; omega) (fun a'' e j hj => (h7 a'' e).2 j (by omega)) h5
end
end Go.Proofs.YtbegahbagnflnaaDoor
