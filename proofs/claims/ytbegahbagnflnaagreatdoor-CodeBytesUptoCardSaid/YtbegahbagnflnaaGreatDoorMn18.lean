import Derived.Test.YtbegahbagnflnaaGreatDoorMn07
import Derived.Test.YtbegahbagnflnaaGreatDoorMn09
import Derived.Test.YtbegahbagnflnaaGreatDoorMn01
import Derived.ProofKit
import Derived.Deep.Matrix
import Derived.Test.YtbegahbagnflnaaGreatDoorRows
import Derived.Test.YtbegahbagnflnaaGreatDoorMn06
import Derived.MakeChecks
import Derived.ChangeArms
import Derived.LaidLaws
import Derived.Test.YtbegahbagnflnaaGreatDoorMn16
import Derived.Test.YtbegahbagnflnaaGreatDoorMn26
set_option linter.unusedSimpArgs false
set_option linter.unusedVariables false
set_option linter.unnecessarySimpa false
namespace Go.Proofs.YtbegahbagnflnaaGreatDoor
section
open Go.RowKit
end
section
open Go.ChangeShapes Go.WideShapes Go.ChangeAt Go.RowKit
theorem Tryz.own : ownKnob Tryz.prog.godebug = none := by kernel_rfl
theorem Tryz.laidOut : laidOutB Tryz.prog = true := by kernel_rfl
section
variable {H : Type} {enc : TypeId × Value → H} {P : Program}
theorem trodAll_stays (hl : laidOutB P = true) {W W' : World} (hb : Below W.heap.size W W') : ∀ (ts : List TypeId) (vs : List Value) (ds : List (DataW H)) (ps : List MemPlace),
  (ts.all fun t => P.readableRec t && decide (t < P.types.size)) = true → (∀ x ∈ ps, x.block < W.heap.size) →
  DataW.TrodAll enc P W 0 (fun _ => true) true ts vs ds ps → DataW.TrodAll enc P W' 0 (fun b => decide (b < W.heap.size)) true ts vs ds ps := by
 intro ts
 induction ts with
 | nil =>
  intro vs ds ps _ _ h
  obtain ⟨rfl, rfl, rfl⟩ := trodAll_nil h
  exact trodAll_mk0
 | cons t ts ih =>
  intro vs ds ps hr hlt h
  obtain ⟨v, vs', d, ds', p, q, rfl, rfl, rfl, h1, h2⟩ := trodAll_cons h
  simp only [List.all_cons, Bool.and_eq_true, decide_eq_true_eq] at hr
  exact ⟨p, q, Below.trod hl hr.1.1 hr.1.2 h1 hb (fun x hx => hlt x (List.mem_append_left _ hx)), ih vs' ds' q (by simpa using hr.2) (fun x hx => hlt x (List.mem_append_right _ hx)) h2, rfl⟩
theorem law_post {f : Func} {s : ChangeSpec} {W W' : World} {args : Array Value} {ds : List (DataW H)} {before : List MemPlace} {t : TypeId}
  (hW : DataW.Whole enc P f.params.toList s.vars false W args.toList ds [] before) (hf : Fr (fun _ => False) W W') (hl : laidOutB P = true)
  (hr : (f.params.toList.all fun t => P.readableRec t && decide (t < P.types.size)) = true) (hv : s.vars = []) (ht : f.resultTypes = #[t]) (hb : P.underlying t = some .bool)
  (e1 : (s.fn H (ds ++ [])).results = [.lit (.bool true)]) (e2 : (s.fn H (ds ++ [])).args = ds) (e3 : (s.fn H (ds ++ [])).vars = []) :
  s.post enc P f false true false false W args (.bool true) W' := by
 have hbel : Below W.heap.size W W' := hf.below (Nat.le_refl _) (fun _ _ => id)
 have hlt : ∀ x ∈ before, x.block < W.heap.size := fun x hx => by simpa using hW.lt x hx
 have hW2 := hW
 obtain ⟨p, q, hA, hV, rfl, _, _⟩ := hW
 rw [hv] at hV
 obtain ⟨_, rfl⟩ := trodVars_none hV
 refine ⟨ds, [], _, [], p, [], hW2, ?_, ?_, ?_, hbel.frame _, fun h => by cases h⟩
 ·rw [e1, ht]
  exact trodAll_mk1 (shut_bool hb _)
 ·rw [e2]
  exact trodAll_stays hl hbel _ _ _ _ hr (fun x hx => hlt x (by simpa using hx)) hA
 ·rw [e3, hv]
  rfl
theorem i64_of_wf {n : Int} (h : (Lit.int .i64 n).wf = true) : -9223372036854775808 ≤ n ∧ n ≤ 9223372036854775807 := by
 simp [Lit.wf, IntKind.min, IntKind.max, IntKind.signed, IntKind.bits] at h
 omega
theorem addr_add (b o j : Nat) : (⟨b, o, none⟩ : Addr).add j = ⟨b, o + j, none⟩ := by
 unfold Addr.add
 split <;> simp_all
theorem cell_i64 {w : World} {base : Nat} {u : TypeId} {c : Value} (hu : P.underlying u = some (.int .i64)) (h : Cell.okWide P w .any base u c) : ∃ n : Int, c = .int .i64 n ∧ -9223372036854775808 ≤ n ∧ n ≤ 9223372036854775807 := by
 unfold Cell.okWide at h
 rw [hu] at h
 cases c <;> simp [Cell.ok, hu] at h
 obtain ⟨rfl, h1⟩ := h
 simp [IntKind.has, IntKind.min, IntKind.max, IntKind.signed, IntKind.bits] at h1
 exact ⟨_, rfl, by omega, by omega⟩
theorem cell_u8 {w : World} {base : Nat} {u : TypeId} {c : Value} (hu : P.underlying u = some (.int .u8)) (h : Cell.okWide P w .any base u c) : ∃ n : Nat, c = .int .u8 n ∧ n < 256 := by
 unfold Cell.okWide at h
 rw [hu] at h
 cases c <;> simp [Cell.ok, hu] at h
 obtain ⟨rfl, h1⟩ := h
 simp [IntKind.has, IntKind.min, IntKind.max, IntKind.signed, IntKind.bits] at h1
 rename_i n
 exact ⟨n.toNat, by congr 1; omega, by omega⟩
end
end
section
open Go.ChangeShapes Go.WideShapes Go.ChangeAt Go.RowKit
def PartOf (P : Program) (W : World) (x : String × DataW Unit) (part : List MemPlace) : Prop :=
 ∃ g t cs fuel p, P.globalNamed x.1 = some g ∧ (P.globals[g]?).map (·.type) = some t ∧ W.var? P x.1 = some cs ∧ DataW.trod (fun _ => ()) P W 0 (fun _ => true) false fuel t cs.toList = some (x.2, p) ∧ part = MemPlace.row ⟨g, 0, none⟩ cs.size ++ p
theorem laid_parts {P : Program} {W : World} : ∀ (l : List (String × DataW Unit)) (ps : List MemPlace), DataW.LaidVars P W l ps → ∃ parts : List (List MemPlace), ps = parts.flatten ∧ parts.length = l.length ∧ ∀ (i : Nat) x, l[i]? = some x → ∃ part, parts[i]? = some part ∧ PartOf P W x part
 | [], ps, h => by
  have h : ps = [] := h
  exact ⟨[], by simp [h], rfl, fun i x hx => by simp at hx⟩
 | (n, d) :: r, ps, h => by
  obtain ⟨g, t, cs, fuel, p, q, h1, h2, h3, h4, h5, rfl⟩ := h
  obtain ⟨parts, rfl, hlen, hp⟩ := laid_parts r q h5
  refine ⟨(MemPlace.row ⟨g, 0, none⟩ cs.size ++ p) :: parts, by simp, by simp [hlen], fun i x hx => ?_⟩
  cases i with
  | zero =>
   simp at hx
   subst hx
   exact ⟨_, rfl, g, t, cs, fuel, p, h1, h2, h3, h4, rfl⟩
  | succ i => simpa using hp i x (by simpa using hx)
theorem trod_iface2 {P : Program} {W : World} {fuel : Nat} {t : TypeId} {cs : List Value} {nm : String} {d : DataW Unit} {p : List MemPlace} {ms : Array (String × TypeId)} (ht : P.underlying t = some (.interface ms))
  (h : DataW.trod (fun _ => ()) P W 0 (fun _ => true) false fuel t cs = some (.iface nm d, p)) : ∃ u v m, cs = [.iface u v] ∧ P.typeName? 3 u = some nm ∧ DataW.trod (fun _ => ()) P W 0 (fun _ => true) false m u v.cells.toList = some (d, p) := by
 cases fuel with
 | zero => simp [DataW.trod] at h
 | succ n =>
  unfold DataW.trod at h
  rw [ht] at h
  split at h <;> simp_all
  split at h <;> simp_all
  exact ⟨_, _, ⟨rfl, rfl⟩, by assumption, n, h.1⟩
theorem Tryz.star : "*" ++ "errors.errorString" = "*errors.errorString" := by decide
theorem Tryz.rowErr (u : TypeId) (h : Tryz.prog.typeName? 3 u = some "*errors.errorString") : u = 200 :=
 typeName_ptr_named (nm := "errors.errorString") (by rw [Tryz.star]; kernel_rfl) (by kernel_rfl) (by decide) u (by rw [Tryz.star]; exact h)
def LaidTab (L : List (String × DataW Unit)) (kx : List Nat) : Prop := ∀ i, i < 17 → ∃ nm d, L[kx.getD i 0]? = some (nm, .iface "*errors.errorString" (.ptr d)) ∧ Tryz.prog.globalNamed nm = some (sentG.getD i 0) ∧ (Tryz.prog.globals[sentG.getD i 0]?).map (·.type) = some 27
set_option maxRecDepth 100000 in
theorem of_laidx {W : World} (L : List (String × DataW Unit)) (kx : List Nat) (hpl : (L.all fun x => x.2.handleName?.isNone) = true) (hkx : ∀ i, i < 17 → ∀ j, j < 17 → i ≠ j → kx.getD i 0 ≠ kx.getD j 0) (tab : LaidTab L kx) (h : laidMetH Tryz.prog L W) : ∃ pa, Sent17 W pa := by
 rw [MakeChecks.laidMetH_plain _ _ _ hpl] at h
 obtain ⟨ps, hL, hnd, hrows⟩ := h
 obtain ⟨parts, rfl, hlen, hp⟩ := laid_parts _ _ hL
 have key : ∀ i, i < 17 → ∃ a : Addr, W.cell? ⟨sentG.getD i 0, 0, none⟩ = some (.iface 200 (.pointer (some a))) ∧ Rowed W a ∧ a.spot = none ∧ ∃ part, parts[kx.getD i 0]? = some part ∧ MemPlace.cell a.block a.off ∈ part := by
  intro i hi
  obtain ⟨nm, d, hx, hgn, hty⟩ := tab i hi
  obtain ⟨part, hpart, g, t, cs, fuel, p, hg, ht, hv, hd, rfl⟩ := hp _ _ hx
  obtain rfl := Option.some.inj (hgn.symm.trans hg)
  obtain rfl := Option.some.inj (hty.symm.trans ht)
  obtain ⟨u, v, m, hcs, hnm, htr⟩ := trod_iface2 Tryz.underlying27 hd
  obtain rfl := Tryz.rowErr u hnm
  have hcs' : cs = #[.iface 200 v] := by cases cs; simp_all
  have hcell : W.cell? ⟨sentG.getD i 0, 0, none⟩ = some (.iface 200 v) := by
   rw [World.var?_cell hg hv 0, hcs']
   rfl
  have hmem : ∀ q, q ∈ MemPlace.row ⟨sentG.getD i 0, 0, none⟩ cs.size ++ p → q ∈ parts.flatten := fun q hq => List.mem_flatten.2 ⟨_, List.mem_of_getElem? hpart, hq⟩
  have hg0 : MemPlace.cell (sentG.getD i 0) 0 ∈ parts.flatten := hmem _ (List.mem_append_left _ (MemPlace.mem_row.2 ⟨0, by rw [hcs']; exact Nat.zero_lt_one, rfl⟩))
  have hok := (hrows _ _ hg0).2 _ _ hcell
  rcases open_ptr Tryz.underlying200 (by rw [show Tryz.prog.cellsOf 214 = 1 by kernel_rfl]; decide) hok ⟨m, htr⟩ with ⟨_, hd0, _⟩ | ⟨ab, ao, cs2, y, fuel2, rfl, hd2, rfl, hlen2, hcell2, hy⟩
  ·cases hd0
  ·have hpl : MemPlace.cell ab ao ∈ MemPlace.row ⟨sentG.getD i 0, 0, none⟩ cs.size ++ (MemPlace.row ⟨ab, ao, none⟩ (Tryz.prog.cellsOf 214) ++ y.2) :=
    List.mem_append_right _ (List.mem_append_left _ (MemPlace.mem_row.2 ⟨0, by rw [show Tryz.prog.cellsOf 214 = 1 by kernel_rfl]; decide, rfl⟩))
   exact ⟨⟨ab, ao, none⟩, hcell, (hrows ab ao (hmem _ hpl)).1, rfl, _, hpart, hpl⟩
 classical
 have key2 : ∀ i (hi : i < 17), ∃ a : Addr, (if h : i < 17 then (key i h).choose else ⟨0, 0, none⟩) = a ∧ W.cell? ⟨sentG.getD i 0, 0, none⟩ = some (.iface 200 (.pointer (some a))) ∧ Rowed W a ∧ a.spot = none ∧ ∃ part, parts[kx.getD i 0]? = some part ∧ MemPlace.cell a.block a.off ∈ part := fun i hi =>
  ⟨_, by rw [dif_pos hi], (key i hi).choose_spec⟩
 refine ⟨fun i => if h : i < 17 then (key i h).choose else ⟨0, 0, none⟩, fun i hi => ?_, fun i hi => ?_, fun i j hi hj hij e => ?_⟩
 ·obtain ⟨a, ha, h1, _⟩ := key2 i hi
  simp only [ha]
  exact h1
 ·obtain ⟨a, ha, _, h2, _⟩ := key2 i hi
  simp only [ha]
  exact h2
 ·obtain ⟨a, ha, _, _, _, pi, hpi, hmi⟩ := key2 i hi
  obtain ⟨b, hb, _, _, _, pj, hpj, hmj⟩ := key2 j hj
  simp only [ha, hb] at e
  subst e
  have hdis := (List.pairwise_flatten.1 hnd).2
  rw [List.pairwise_iff_getElem] at hdis
  obtain ⟨li, rfl⟩ := List.getElem?_eq_some_iff.1 hpi
  obtain ⟨lj, rfl⟩ := List.getElem?_eq_some_iff.1 hpj
  rcases Nat.lt_or_gt_of_ne (hkx i hi j hj hij) with h' | h'
  ·exact hdis _ _ li lj h' _ hmi _ hmj rfl
  ·exact hdis _ _ lj li h' _ hmj _ hmi rfl
end
section
section
open Go.RowKit
structure Sent5 (w : World) (pa : Nat → Addr) : Prop where
 s : ∀ i, [2, 3, 4, 5, 11].contains i = true → w.cell? ⟨sentG.getD i 0, 0, none⟩ = some (.iface 200 (.pointer (some (pa i))))
theorem Sent5.frame {w w' : World} {pa : Nat → Addr} (h : Sent5 w pa) (hf : Fr (fun _ => False) w w') : Sent5 w' pa := ⟨fun i hi => hf.cell (h.s i hi) not_false⟩
theorem Sent5.errs {w : World} {pa : Nat → Addr} (h : Sent5 w pa) : Errs w (errV pa 112) (errV pa 104) (errV pa 105) (errV pa 103) :=
 ⟨h.s 11 (by decide), h.s 3 (by decide), h.s 4 (by decide), h.s 2 (by decide)⟩
set_option maxRecDepth 100000 in
set_option maxHeartbeats 6400000 in
theorem own5_any (pa : Nat → Addr) (x : Nd) (role : Int) (hr0 : 0 ≤ role) (hr8 : role ≤ 8) (loop : Bool) (D : Nat → Prop) (w : World) (u : Array Value) (h : NIn D w x u) (hl : x.l.length ≤ 1048576) (hv : x.v.size ≤ 1099511627776) (hs : x.s.size ≤ 1099511627776) (hE : Sent5 w pa) (hg : 7 ≤ w.heap.size) :
  Calls Tryz.prog 110 #[.agg u, .int .i64 role, .bool loop] w fun e w' => e = .returned (errV pa (pOwn x role loop)) ∧ Fr (fun _ => False) w w' := by
 obtain ⟨va', la', rfl, ⟨va, vc, us1, rfl, hvr⟩, ⟨la, lc, us2, rfl, hlc, hlm, -⟩⟩ := h.open
 have hvl : VL D w x.v.l (.slice va x.v.l.length vc) := ⟨va, vc, us1, rfl, hvr⟩
 have hvx := hvl.close x.v.k x.v.n x.v.s
 have hvlen : x.v.l.length ≤ 9223372036854775807 := Nat.le_trans hvr.1 hvr.2.1
 have hSX := fun w => stands_any x role hr0 hr8 (.slice va x.v.l.length vc) (.slice la x.l.length lc) w
 obtain ⟨op, ln, s, v, l⟩ := x
 simp only [Nd.op, Nd.ln, Nd.s, Nd.v, Nd.l] at *
 have hvx' : VIn D w v #[.int .i64 v.k, .int .i64 v.n, .string v.s, .slice va v.l.length vc] := by
  obtain ⟨k, n, s, l⟩ := v
  exact hvx
 have hf0 := (Fr.refl (fun _ => False) w).alloc (.cells #[.int .i64 op, .int .i64 ln, .string s, .int .i64 v.k, .int .i64 v.n, .string v.s, .slice va v.l.length vc, .slice la l.length lc] 75)
 have hg0 := heap_alloc_new w (.cells #[.int .i64 op, .int .i64 ln, .string s, .int .i64 v.k, .int .i64 v.n, .string v.s, .slice va v.l.length vc, .slice la l.length lc] 75)
 have hE0 := hE.frame hf0
 have hVV : ∀ w2, Fr (fun _ => False) (w.alloc (.cells #[.int .i64 op, .int .i64 ln, .string s, .int .i64 v.k, .int .i64 v.n, .string v.s, .slice va v.l.length vc, .slice la l.length lc] 75)) w2 → Calls Tryz.prog 131 #[.agg #[.int .i64 v.k, .int .i64 v.n, .string v.s, .slice va v.l.length vc]] w2 fun e w' => e = .returned (ev (errV pa 112) (errV pa 104) (errV pa 105) (errV pa 103) v.valid) ∧ Fr (fun _ => False) w2 w' := fun w2 hf =>
  vvalid_any _ _ _ _ ⟨_, _, rfl⟩ ⟨_, _, rfl⟩ ⟨_, _, rfl⟩ ⟨_, _, rfl⟩ v hv D w2 _ ((hvx'.frame hf0 fun _ _ => not_false).frame hf fun _ _ => not_false) (hE0.frame hf).errs (by have := hf0.size; have := hf.size; omega)
 have HSX := hid hSX; have HF0 := hid hf0; have HG0 := hid hg0; have HE0 := hid hE0; have HVV := hid hVV
 have HRO := hid (roles_any op ln v.k v.n s v.s (.slice va v.l.length vc) la l.length lc hl)
 have HNM := hid (fun w => name_any s hs w)
 have HL := hid hl; have HS := hid hs
 have hp : pOwn (.mk op ln s v l) role loop = if ownBad (fair1 (pStands op role) loop op && fairV op v) (pCounts op l.length) (pNamed op).1 s.toList.isEmpty then 103 else if ownBad2 (pNamed op).1 (pName s) (pNamed op).2 s.toList.isEmpty then 106 else 0 := rfl
 have HP := hid hp
 have HLIT := hid (show litOk v = (v.k != 4 && decide (v.valid = 0) && (v.k != 0 || v.n != -9223372036854775808)) from rfl)
 have HNOV := hid (show noV v = (v.k == 0 && v.n == 0 && v.s.toList.isEmpty && decide (v.l.length = 0)) from rfl)
 have HFV := hid (show fairV op v = if op = 1 then litOk v else noV v from rfl)
 have hvs : v.s.size ≤ 9223372036854775807 := by have := V.size_eq v; omega
 generalize fairV op v = fv at *
 generalize litOk v = lo at *
 generalize noV v = nv at *
 generalize v.valid = vv at *
 generalize v.k = vk at *
 generalize v.n = vn at *
 generalize v.s = vs at *
 generalize v.l.length = vlen at *
 generalize pOwn (.mk op ln s v l) role loop = r0 at *
 clear h hvl hvx hvx' hf0 hg0 hE0 hVV hSX hE hvr us1 us2 hv hlc hlm hp
 generalize l.length = n at *
 generalize pStands op role = st at *
 generalize pCounts op n = full at *
 generalize hnm : pNamed op = nm at *
 obtain ⟨is, em⟩ := nm
 have HNMD := hid (named_any op)
 rw [hnm] at HNMD
 simp only at HNMD ⊢
 clear hnm
 generalize pName s = pn at *
 generalize hse : s.toList.isEmpty = se at *
 have HSE := hid hse
 go_enter Tryz.func110, Tryz.ntmps110
 go_upto_region 1 with fail
 generalize w.alloc (.cells #[.int .i64 op, .int .i64 ln, .string s, .int .i64 vk, .int .i64 vn, .string vs, .slice va vlen vc, .slice la n lc] 75) = W0 at *
 go_cut [7] from 12 to 27 (fun c wx => c = .bool (fair1 st loop op) ∧ Hid (Fr (fun _ => False) W0 wx))
 case first =>
  have d0 : W0.cell? ⟨w.heap.size, 0, none⟩ = some (.int .i64 op) := by rw [cell_of_row _ _ 0 _ _ _ HG0.out]; rfl
  have d1 : W0.cell? ⟨w.heap.size, 1, none⟩ = some (.int .i64 ln) := by rw [cell_of_row _ _ 1 _ _ _ HG0.out]; rfl
  have d2 : W0.cell? ⟨w.heap.size, 2, none⟩ = some (.string s) := by rw [cell_of_row _ _ 2 _ _ _ HG0.out]; rfl
  have d3 : W0.cell? ⟨w.heap.size, 3, none⟩ = some (.int .i64 vk) := by rw [cell_of_row _ _ 3 _ _ _ HG0.out]; rfl
  have d4 : W0.cell? ⟨w.heap.size, 4, none⟩ = some (.int .i64 vn) := by rw [cell_of_row _ _ 4 _ _ _ HG0.out]; rfl
  have d5 : W0.cell? ⟨w.heap.size, 5, none⟩ = some (.string vs) := by rw [cell_of_row _ _ 5 _ _ _ HG0.out]; rfl
  have d6 : W0.cell? ⟨w.heap.size, 6, none⟩ = some (.slice va vlen vc) := by rw [cell_of_row _ _ 6 _ _ _ HG0.out]; rfl
  have d7 : W0.cell? ⟨w.heap.size, 7, none⟩ = some (.slice la n lc) := by rw [cell_of_row _ _ 7 _ _ _ HG0.out]; rfl
  go_wp2_with fail
  refine (HSX.out _).mono ?_
  rintro e w2 ⟨rfl, hf2⟩
  replace d0 := hf2.cell d0 not_false
  have HFA := hid hf2
  clear hf2 d1 d2 d3 d4 d5 d6 d7
  have HFR := hid (show fair1 st loop op = (st && (loop || (op != 45 && op != 46))) from rfl)
  generalize fair1 st loop op = fr at *
  cases st
  ·go_wp2_with fail
   go_meet
   exact ⟨by rw [HFR.out]; rfl, HFA⟩
  ·cases loop
   ·by_cases h1 : op = 45
    ·subst h1
     go_wp2_with fail
     go_meet
     exact ⟨by rw [HFR.out]; rfl, HFA⟩
    ·have q1 : (op != 45) = true := by simpa using h1
     by_cases h2 : op = 46
     ·subst h2
      go_wp2_with fail
      go_meet
      exact ⟨by rw [HFR.out]; rfl, HFA⟩
     ·have q2 : (op != 46) = true := by simpa using h2
      have HQ := hid (show fr = true by rw [HFR.out, q1, q2]; rfl)
      clear h1 h2
      go_wp2_with fail
      go_meet
      exact ⟨by rw [HQ.out], HFA⟩
   ·go_wp2_with fail
    go_meet
    exact ⟨by rw [HFR.out]; rfl, HFA⟩
 case rest =>
 obtain ⟨rfl, HF1⟩ := hcut
 generalize fair1 st loop op = f1 at *
 obtain ⟨W1, hW1⟩ : ∃ W, W = wc := ⟨wc, rfl⟩
 rw [← hW1] at HF1 ⊢
 clear hW1 wc
 have hg1 := HF1.out.heap HG0.out not_false
 have d0 : W1.cell? ⟨w.heap.size, 0, none⟩ = some (.int .i64 op) := by rw [cell_of_row _ _ 0 _ _ _ hg1]; rfl
 have d3 : W1.cell? ⟨w.heap.size, 3, none⟩ = some (.int .i64 vk) := by rw [cell_of_row _ _ 3 _ _ _ hg1]; rfl
 have d4 : W1.cell? ⟨w.heap.size, 4, none⟩ = some (.int .i64 vn) := by rw [cell_of_row _ _ 4 _ _ _ hg1]; rfl
 have d5 : W1.cell? ⟨w.heap.size, 5, none⟩ = some (.string vs) := by rw [cell_of_row _ _ 5 _ _ _ hg1]; rfl
 have d6 : W1.cell? ⟨w.heap.size, 6, none⟩ = some (.slice va vlen vc) := by rw [cell_of_row _ _ 6 _ _ _ hg1]; rfl
 have HG1 := hid hg1
 clear hg1
 obtain ⟨o1, ho1⟩ : ∃ b, (op == 1) = b := ⟨_, rfl⟩
 go_upto_if 30 with fail
 go_cut [7] from 31 to 81 (fun c wx => c = .bool (f1 && fv) ∧ Hid (Fr (fun _ => False) W1 wx))
 case first =>
  have HR1 := hid (Fr.refl (fun _ => False) W1)
  cases o1
  case true =>
   obtain rfl : op = 1 := by simpa using ho1
   clear ho1
   have HFV2 := hid (show fv = lo by rw [HFV.out, if_pos rfl])
   cases f1
   ·go_wp2_with fail
    go_meet
    exact ⟨rfl, HR1⟩
   by_cases h4 : vk = 4
   ·subst h4
    have HX := hid (show fv = false by rw [HFV2.out, HLIT.out]; rfl)
    go_wp2_with fail
    go_meet
    exact ⟨by rw [HX.out]; rfl, HR1⟩
   have q4 : (vk != 4) = true := by simpa using h4
   have hcell : ∀ j, j < 4 → W1.cell? ⟨w.heap.size, 3 + j, none⟩ = #[.int .i64 vk, .int .i64 vn, .string vs, .slice va vlen vc][j]? := by
    intro j hj
    rcases j with _ | _ | _ | _ | j
    ·exact d3
    ·exact d4
    ·exact d5
    ·exact d6
    ·omega
   go_wp2_with fail
   refine (HVV.out _ HF1.out).mono ?_
   rintro e w2 ⟨rfl, hf2⟩
   replace d0 := hf2.cell d0 not_false
   replace d3 := hf2.cell d3 not_false
   replace d4 := hf2.cell d4 not_false
   have HFA := hid hf2
   clear hf2 hcell d5 d6
   by_cases h5 : vv = 0
   ·have hev := hid (ev_nil (pa := pa).1 h5)
    rw [hev.out]
    by_cases h6 : vk = 0
    ·subst h6
     by_cases h7 : vn = -9223372036854775808
     ·subst h7
      have HX := hid (show fv = false by rw [HFV2.out, HLIT.out, h5]; rfl)
      go_wp2_with fail
      go_meet
      exact ⟨by rw [HX.out]; rfl, HFA⟩
     ·have q7 : (vn != -9223372036854775808) = true := by simpa using h7
      have HX := hid (show fv = true by rw [HFV2.out, HLIT.out, h5, q7]; rfl)
      go_wp2_with fail
      go_meet
      exact ⟨by rw [HX.out]; rfl, HFA⟩
    ·have q6 : (vk != 0) = true := by simpa using h6
     have HX := hid (show fv = true by rw [HFV2.out, HLIT.out, h5, q4, q6]; rfl)
     go_wp2_with fail
     go_meet
     exact ⟨by rw [HX.out]; rfl, HFA⟩
   ·obtain ⟨a, ha⟩ := (ev_nil (pa := pa)).2 h5
    rw [ha]
    have HX := hid (show fv = false by rw [HFV2.out, HLIT.out, decide_eq_false h5, Bool.and_false, Bool.false_and])
    go_wp2_with fail
    go_meet
    exact ⟨by rw [HX.out]; rfl, HFA⟩
  case false =>
   have ho : op ≠ 1 := by simpa using ho1
   have HFV2 := hid (show fv = nv by rw [HFV.out, if_neg ho])
   clear ho
   cases f1
   ·go_wp2_with fail
    go_meet
    exact ⟨rfl, HR1⟩
   by_cases h1 : vk = 0
   ·by_cases h2 : vn = 0
    ·subst h1 h2
     have HX := hid (show fv = (vs.toList.isEmpty && decide (vlen = 0)) by rw [HFV2.out, HNOV.out]; simp)
     have hvl0 : ((vlen : Int) == 0) = decide (vlen = 0) := by
      by_cases h : vlen = 0
      ·subst h; rfl
      ·rw [decide_eq_false h, beq_eq_false_iff_ne]; omega
     cases he9 : vs.toList.isEmpty
     ·have HX2 := hid (show fv = false by rw [HX.out, he9]; rfl)
      go_wp2_with fail
      go_meet
      exact ⟨by rw [HX2.out]; rfl, HR1⟩
     ·have HX2 := hid (show fv = decide (vlen = 0) by rw [HX.out, he9]; rfl)
      generalize decide (vlen = 0) = l9 at *
      go_wp2_with fail
      go_meet
      exact ⟨by rw [HX2.out]; rfl, HR1⟩
    ·have q2 : (vn == 0) = false := by simpa using h2
     have HX := hid (show fv = false by rw [HFV2.out, HNOV.out, q2]; simp)
     subst h1
     clear h2
     go_wp2_with fail
     go_meet
     exact ⟨by rw [HX.out]; rfl, HR1⟩
   ·have q2 : (vk == 0) = false := by simpa using h1
    have HX := hid (show fv = false by rw [HFV2.out, HNOV.out, q2]; simp)
    clear h1
    go_wp2_with fail
    go_meet
    exact ⟨by rw [HX.out]; rfl, HR1⟩
 case rest =>
 obtain ⟨rfl, HF2⟩ := hcut
 generalize (f1 && fv) = f2 at *
 obtain ⟨W2, hW2⟩ : ∃ W, W = wc := ⟨wc, rfl⟩
 rw [← hW2] at HF2 ⊢
 clear hW2 wc
 have HF02 := hid (HF1.out.trans' HF2.out)
 have hg2 := HF02.out.heap HG0.out not_false
 clear d0 d3 d4 d5 d6 HVV HSX HLIT HNOV HFV
 have d0 : W2.cell? ⟨w.heap.size, 0, none⟩ = some (.int .i64 op) := by rw [cell_of_row _ _ 0 _ _ _ hg2]; rfl
 have d1 : W2.cell? ⟨w.heap.size, 1, none⟩ = some (.int .i64 ln) := by rw [cell_of_row _ _ 1 _ _ _ hg2]; rfl
 have d2 : W2.cell? ⟨w.heap.size, 2, none⟩ = some (.string s) := by rw [cell_of_row _ _ 2 _ _ _ hg2]; rfl
 have d3 : W2.cell? ⟨w.heap.size, 3, none⟩ = some (.int .i64 vk) := by rw [cell_of_row _ _ 3 _ _ _ hg2]; rfl
 have d4 : W2.cell? ⟨w.heap.size, 4, none⟩ = some (.int .i64 vn) := by rw [cell_of_row _ _ 4 _ _ _ hg2]; rfl
 have d5 : W2.cell? ⟨w.heap.size, 5, none⟩ = some (.string vs) := by rw [cell_of_row _ _ 5 _ _ _ hg2]; rfl
 have d6 : W2.cell? ⟨w.heap.size, 6, none⟩ = some (.slice va vlen vc) := by rw [cell_of_row _ _ 6 _ _ _ hg2]; rfl
 have d7 : W2.cell? ⟨w.heap.size, 7, none⟩ = some (.slice la n lc) := by rw [cell_of_row _ _ 7 _ _ _ hg2]; rfl
 go_wp2_with fail
 refine (HRO.out _).mono ?_
 rintro e w3 ⟨v3, rfl, hf3, -⟩
 replace d0 := hf3.cell d0 not_false
 replace d2 := hf3.cell d2 not_false
 have HF03 := hid (HF02.out.trans' hf3)
 clear hf3 d1 d3 d4 d5 d6 d7 hg2
 go_wp2_with fail
 refine (HNMD.out _).mono ?_
 rintro e w4 ⟨rfl, rfl⟩
 go_upto_region 7 with fail
 go_cut [107] from 93 to 107 (fun c wx => c = .bool (ownBad f2 full is se) ∧ w3 = wx)
 case first =>
  have HB := hid (show ownBad f2 full is se = (!f2 || !full || (!is && !se)) from rfl)
  generalize ownBad f2 full is se = bad at *
  cases f2
  ·go_wp2_with fail
   go_meet
   exact ⟨by rw [HB.out]; rfl, rfl⟩
  cases full
  ·go_wp2_with fail
   go_meet
   exact ⟨by rw [HB.out]; rfl, rfl⟩
  cases is
  ·go_wp2_with fail
   go_meet
   exact ⟨by rw [HB.out]; simp, rfl⟩
  ·go_wp2_with fail
   go_meet
   exact ⟨by rw [HB.out]; rfl, rfl⟩
 case rest =>
 obtain ⟨rfl, rfl⟩ := hcut
 generalize ownBad f2 full is se = bad at *
 have HB2 := hid (show ownBad2 is pn em se = (is && !pn && !(em && se)) from rfl)
 generalize ownBad2 is pn em se = bad2 at *
 have s2 : w3.cell? ⟨0, 0, none⟩ = some (errV pa 103) := HF03.out.cell (HE0.out.s 2 (by decide)) not_false
 have s5 : w3.cell? ⟨5, 0, none⟩ = some (errV pa 106) := HF03.out.cell (HE0.out.s 5 (by decide)) not_false
 have HFW := hid (HF0.out.trans' HF03.out)
 have HN0 := hid (show errV pa 0 = .nilIface from rfl)
 have HE3 := hid (show ∀ n, n = 103 ∨ n = 106 → ∃ a, errV pa n = .iface 200 (.pointer (some a)) from fun n h => by rcases h with rfl | rfl <;> exact ⟨_, rfl⟩)
 cases bad
 ·cases is
  ·have HX := hid (show bad2 = false by rw [HB2.out]; rfl)
   clear s2 s5
   go_wp2_with fail
   go_ret
   exact ⟨by rw [HP.out, HX.out]; rfl, HFW.out⟩
  ·have HS5 := hid s5
   clear s2 s5
   go_wp2_with fail
   refine (HNM.out _).mono ?_
   rintro e w5 ⟨rfl, hf5⟩
   have HFW5 := hid (HFW.out.trans' hf5)
   have s5 := hf5.cell HS5.out not_false
   replace d2 := hf5.cell d2 not_false
   clear hf5
   cases pn
   ·cases em
    ·have HX := hid (show bad2 = true by rw [HB2.out]; rfl)
     go_wp2_with fail
     go_ret
     exact ⟨by rw [HP.out, HX.out]; rfl, HFW5.out⟩
    ·have HX := hid (show bad2 = !se by rw [HB2.out]; simp)
     cases se
     ·go_wp2_with fail
      go_ret
      exact ⟨by rw [HP.out, HX.out]; rfl, HFW5.out⟩
     ·go_wp2_with fail
      go_ret
      exact ⟨by rw [HP.out, HX.out]; rfl, HFW5.out⟩
   ·have HX := hid (show bad2 = false by rw [HB2.out]; simp)
    go_wp2_with fail
    go_ret
    exact ⟨by rw [HP.out, HX.out]; rfl, HFW5.out⟩
 ·clear s5
  go_wp2_with fail
  go_ret
  exact ⟨by rw [HP.out]; rfl, HFW.out⟩
set_option maxRecDepth 100000 in
set_option maxHeartbeats 6400000 in
theorem walk5_any (pa : Nat → Addr) : ∀ (N : Nat) (x : Nd), x.cnt < N → x.cnt ≤ 1048576 → x.sz ≤ 1099511627776 → ∀ (role : Int), 0 ≤ role → role ≤ 8 → ∀ (loop : Bool) (D : Nat → Prop) (w : World) (u : Array Value), NIn D w x u → Sent5 w pa → 7 ≤ w.heap.size →
  Calls Tryz.prog 81 #[.agg u, .int .i64 role, .bool loop] w fun e w' => ∃ v, e = .returned v ∧ Fr (fun _ => False) w w' ∧ AtV pa w' (pWalk x role loop) v := by
 intro N
 induction N with
 | zero =>
  intro x hN
  omega
 | succ N ih =>
  intro x hN hM hZ role hr0 hr8 loop D w u h hE hg
  obtain ⟨va', la', rfl, ⟨va, vc, us1, rfl, hvr⟩, ⟨la, lc, us, rfl, hlc, hlm, hln, hb, hi⟩⟩ := h.open
  have hc1 := Nd.cnt_eq x
  have hl1 := len_le_cnt x.l
  have hz1 := Nd.sz_eq x
  have hl : x.l.length ≤ 1048576 := by omega
  have hf0 := (Fr.refl (fun _ => False) w).alloc (.cells #[.int .i64 x.op, .int .i64 x.ln, .string x.s, .int .i64 x.v.k, .int .i64 x.v.n, .string x.v.s, .slice va x.v.l.length vc, .slice la x.l.length lc] 75)
  have hg0 := heap_alloc_new w (.cells #[.int .i64 x.op, .int .i64 x.ln, .string x.s, .int .i64 x.v.k, .int .i64 x.v.n, .string x.v.s, .slice va x.v.l.length vc, .slice la x.l.length lc] 75)
  have HO := hid (own5_any pa x role hr0 hr8 loop D (w.alloc (.cells #[.int .i64 x.op, .int .i64 x.ln, .string x.s, .int .i64 x.v.k, .int .i64 x.v.n, .string x.v.s, .slice va x.v.l.length vc, .slice la x.l.length lc] 75)) _ (h.frame hf0 fun _ _ => not_false) hl (by omega) (by omega) (hE.frame hf0) (by simp; omega))
  have HR := hid (fun w => roles_any x.op x.ln x.v.k x.v.n x.s x.v.s (.slice va x.v.l.length vc) la x.l.length lc hl w)
  have hq := pWalk_eq x role loop
  have hRl := pRoles_len x.op x.l.length
  have HRR := hid (pRoles_range x.op x.l.length)
  have hIH : ∀ (k : Nat) (y : Nd), x.l[k]? = some y → ∀ r, 0 ≤ r → r ≤ 8 → ∀ (lp : Bool) (w2 : World) (u : Array Value), Fr (fun _ => False) w w2 → NIn D w2 y u → Calls Tryz.prog 81 #[.agg u, .int .i64 r, .bool lp] w2 fun e w' => ∃ v, e = .returned v ∧ Fr (fun _ => False) w2 w' ∧ AtV pa w' (pWalk y r lp) v := fun k y hy r h0 h8 lp w2 u hf hn => by
   have h1 := cntL_mem hy
   have h2 := szL_mem hy
   exact ih y (by omega) (by omega) (by omega) r h0 h8 lp D w2 u hn (hE.frame hf) (by have := hf.size; omega)
  have HIH := hid hIH; have HB := hid hb; have HI := hid hi; have HF0 := hid hf0; have HG0 := hid hg0; have HL := hid hl
  have hlI : (x.l.length : Int) ≤ 1048576 := by omega
  have hpo := pOwn_cases x role loop
  clear ih h hE hg hIH hb hi hf0 hg0 hl hvr hln hlc hlm hc1 hl1 hz1 hN hM hZ us1
  generalize pOwn x role loop = po at *
  by_cases hz : po = 0
  case neg =>
   have HQ := hid (show pWalk x role loop = (po, x.ln) by rw [hq, if_neg hz])
   have HZ := hid hz
   obtain ⟨a9, ha9⟩ : ∃ a9, errV pa po = .iface 200 (.pointer (some a9)) := by
    rcases hpo with ⟨h, -⟩ | rfl | rfl
    ·exact absurd h hz
    ·exact ⟨_, rfl⟩
    ·exact ⟨_, rfl⟩
   have HA9 := hid ha9
   rw [ha9] at HO
   clear hq hpo hz ha9 hRl
   generalize pWalk x role loop = q at *
   go_enter Tryz.func81, Tryz.ntmps81
   go_upto_region 1 with fail
   generalize hW0 : w.alloc (.cells #[.int .i64 x.op, .int .i64 x.ln, .string x.s, .int .i64 x.v.k, .int .i64 x.v.n, .string x.v.s, .slice va x.v.l.length vc, .slice la x.l.length lc] 75) = W0 at *
   clear hW0
   have d0 : W0.cell? ⟨w.heap.size, 0, none⟩ = some (.int .i64 x.op) := by rw [cell_of_row _ _ 0 _ _ _ HG0.out]; rfl
   have d1 : W0.cell? ⟨w.heap.size, 1, none⟩ = some (.int .i64 x.ln) := by rw [cell_of_row _ _ 1 _ _ _ HG0.out]; rfl
   have d2 : W0.cell? ⟨w.heap.size, 2, none⟩ = some (.string x.s) := by rw [cell_of_row _ _ 2 _ _ _ HG0.out]; rfl
   have d3 : W0.cell? ⟨w.heap.size, 3, none⟩ = some (.int .i64 x.v.k) := by rw [cell_of_row _ _ 3 _ _ _ HG0.out]; rfl
   have d4 : W0.cell? ⟨w.heap.size, 4, none⟩ = some (.int .i64 x.v.n) := by rw [cell_of_row _ _ 4 _ _ _ HG0.out]; rfl
   have d5 : W0.cell? ⟨w.heap.size, 5, none⟩ = some (.string x.v.s) := by rw [cell_of_row _ _ 5 _ _ _ HG0.out]; rfl
   have d6 : W0.cell? ⟨w.heap.size, 6, none⟩ = some (.slice va x.v.l.length vc) := by rw [cell_of_row _ _ 6 _ _ _ HG0.out]; rfl
   have d7 : W0.cell? ⟨w.heap.size, 7, none⟩ = some (.slice la x.l.length lc) := by rw [cell_of_row _ _ 7 _ _ _ HG0.out]; rfl
   go_wp2_with fail
   refine HO.out.mono ?_
   rintro e w2 ⟨rfl, hf2⟩
   replace d0 := hf2.cell d0 not_false
   replace d1 := hf2.cell d1 not_false
   replace d2 := hf2.cell d2 not_false
   replace d3 := hf2.cell d3 not_false
   replace d4 := hf2.cell d4 not_false
   replace d5 := hf2.cell d5 not_false
   replace d6 := hf2.cell d6 not_false
   replace d7 := hf2.cell d7 not_false
   have HF2 := hid (HF0.out.trans' hf2)
   clear hf2
   have hat : ∀ w3, w3 = w2.alloc (.cells #[.int .i64 x.ln, .iface 200 (.pointer (some a9))] 126) → AtV pa w3 q (.iface 123 (.pointer (some ⟨w2.heap.size, 0, none⟩))) := fun w3 h3 => .inr ⟨by rw [HQ.out]; exact HZ.out, w2.heap.size, rfl, by rw [h3, HQ.out, HA9.out]; exact heap_alloc_new _ _⟩
   have HAT := hid hat
   clear hat
   go_wp2_with fail
   go_ret
   exact ⟨_, rfl, HF2.out.alloc _, HAT.out _ rfl⟩
  case pos =>
  subst hz
  obtain ⟨-, hfull⟩ : (0 : Nat) = 0 ∧ pCounts x.op x.l.length = true := by
   rcases hpo with h | h | h
   ·exact h
   ·cases h
   ·cases h
  have hRL := hRl hfull
  rw [if_pos rfl] at hq
  have HFU := hid hfull; have HQ := hid hq
  clear hpo hRl hfull hq
  generalize pCounts x.op x.l.length = full at *
  generalize pRoles x.op x.l.length = R at *
  generalize pWalk x role loop = q0 at *
  go_enter Tryz.func81, Tryz.ntmps81
  go_upto_region 1 with fail
  generalize hW0 : w.alloc (.cells #[.int .i64 x.op, .int .i64 x.ln, .string x.s, .int .i64 x.v.k, .int .i64 x.v.n, .string x.v.s, .slice va x.v.l.length vc, .slice la x.l.length lc] 75) = W0 at *
  clear hW0
  have d0 : W0.cell? ⟨w.heap.size, 0, none⟩ = some (.int .i64 x.op) := by rw [cell_of_row _ _ 0 _ _ _ HG0.out]; rfl
  have d1 : W0.cell? ⟨w.heap.size, 1, none⟩ = some (.int .i64 x.ln) := by rw [cell_of_row _ _ 1 _ _ _ HG0.out]; rfl
  have d2 : W0.cell? ⟨w.heap.size, 2, none⟩ = some (.string x.s) := by rw [cell_of_row _ _ 2 _ _ _ HG0.out]; rfl
  have d3 : W0.cell? ⟨w.heap.size, 3, none⟩ = some (.int .i64 x.v.k) := by rw [cell_of_row _ _ 3 _ _ _ HG0.out]; rfl
  have d4 : W0.cell? ⟨w.heap.size, 4, none⟩ = some (.int .i64 x.v.n) := by rw [cell_of_row _ _ 4 _ _ _ HG0.out]; rfl
  have d5 : W0.cell? ⟨w.heap.size, 5, none⟩ = some (.string x.v.s) := by rw [cell_of_row _ _ 5 _ _ _ HG0.out]; rfl
  have d6 : W0.cell? ⟨w.heap.size, 6, none⟩ = some (.slice va x.v.l.length vc) := by rw [cell_of_row _ _ 6 _ _ _ HG0.out]; rfl
  have d7 : W0.cell? ⟨w.heap.size, 7, none⟩ = some (.slice la x.l.length lc) := by rw [cell_of_row _ _ 7 _ _ _ HG0.out]; rfl
  have HO2 := hid (show Calls Tryz.prog 110 _ _ (fun e w' => e = .returned .nilIface ∧ _) from HO.out)
  clear HO
  go_wp2_with fail
  refine HO2.out.mono ?_
  rintro e w2 ⟨rfl, hf2⟩
  replace d0 := hf2.cell d0 not_false
  replace d1 := hf2.cell d1 not_false
  replace d2 := hf2.cell d2 not_false
  replace d3 := hf2.cell d3 not_false
  replace d4 := hf2.cell d4 not_false
  replace d5 := hf2.cell d5 not_false
  replace d6 := hf2.cell d6 not_false
  replace d7 := hf2.cell d7 not_false
  have HF2 := hid (HF0.out.trans' hf2)
  have hg2 := hf2.heap HG0.out not_false
  clear hf2 HO2
  go_wp2_with fail
  refine (HR.out _).mono ?_
  rintro e w3 ⟨v3, rfl, hf3, hR3⟩
  have hR3 := hR3 HFU.out
  have HF3 := hid (HF2.out.trans' hf3)
  have hg3 := hf3.heap hg2 not_false
  obtain ⟨ra, rc, rfl, -, -, hrc⟩ := hR3
  replace d7 := hf3.cell d7 not_false
  have d0 : w3.cell? ⟨w.heap.size, 0, none⟩ = some (.int .i64 x.op) := by rw [cell_of_row _ _ 0 _ _ _ hg3]; rfl
  have HRC := hid hrc; have HRL := hid hRL
  clear d1 d2 d3 d4 d5 d6 hf3 hg2 hg3 hrc
  rw [hRL]
  clear hRL
  go_wp2_with fail
  go_loopw [35] (fun i wr => ∃ k : Nat, k ≤ x.l.length ∧ i = .int .i64 k ∧ Hid (q0 = pWalkL x.op role loop R k (x.l.drop k)) ∧ Fr (fun _ => False) w3 wr) (fun i _ => x.l.length - (intOf i).toNat)
  case atStart => exact ⟨0, Nat.zero_le _, rfl, hid (by rw [HQ.out]; rfl), Fr.refl _ _⟩
  case round =>
   obtain ⟨k, hk, rfl, HS, hf⟩ := hrel
   by_cases hlt : k < x.l.length
   ·have hlt' : (k : Int) < x.l.length := by omega
    obtain ⟨b, o, y, yva, c1, a', c', rfl, -, hy, hv, e0, e1, e2, e3, e4, e5, e6, e7⟩ := NL.elem HB.out HI.out k hlt
    have hfw := HF3.out.trans' hf
    replace e0 := hfw.cell e0 not_false
    replace e1 := hfw.cell e1 not_false
    replace e2 := hfw.cell e2 not_false
    replace e3 := hfw.cell e3 not_false
    replace e4 := hfw.cell e4 not_false
    replace e5 := hfw.cell e5 not_false
    replace e6 := hfw.cell e6 not_false
    replace e7 := hfw.cell e7 not_false
    obtain ⟨b2, o2, rfl, hrk⟩ := HRC.out k (R.getD k 0) (by have := HRL.out; simp [List.getD, this, hlt])
    have hrr := HRR.out (R.getD k 0) (by have := HRL.out; simp [List.getD, this, hlt])
    have hwr := rW_range (role := role) (op := x.op) (i := k) hrr.1 hrr.2
    replace hrk := hf.cell hrk not_false
    have HW := hid hwr; have HY := hid hy; have HV := hid (hv.frame hfw fun _ _ => not_false); have HFW := hid hfw; have HFR := hid hf
    have HST := hid (pWalkL_step (op := x.op) (role := role) (loop := loop) (R := R) hy)
    replace d0 := hf.cell d0 not_false
    clear hv hy hwr hrr hf hfw d7
    generalize hrk' : R.getD k 0 = rk at *
    clear hrk'
    have hfY := (Fr.refl (fun _ => False) wr).alloc (.cells #[.int .i64 y.op, .int .i64 y.ln, .string y.s, .int .i64 y.v.k, .int .i64 y.v.n, .string y.v.s, .slice yva y.v.l.length c1, .slice a' y.l.length c'] 75)
    have hgY := heap_alloc_new wr (.cells #[.int .i64 y.op, .int .i64 y.ln, .string y.s, .int .i64 y.v.k, .int .i64 y.v.n, .string y.v.s, .slice yva y.v.l.length c1, .slice a' y.l.length c'] 75)
    replace hrk := hfY.cell hrk not_false
    replace d0 := hfY.cell d0 not_false
    have HFW2 := hid (HFW.out.trans' hfY); have HFR2 := hid (HFR.out.trans' hfY); have HGY := hid hgY
    have HV2 := hid (HV.out.frame hfY fun _ _ => not_false)
    clear hfY hgY HV HFW HFR
    go_upto_region 8 with fail
    generalize hW2 : wr.alloc (.cells #[.int .i64 y.op, .int .i64 y.ln, .string y.s, .int .i64 y.v.k, .int .i64 y.v.n, .string y.v.s, .slice yva y.v.l.length c1, .slice a' y.l.length c'] 75) = W2 at *
    clear hW2 e0 e1 e2 e3 e4 e5 e6 e7
    obtain ⟨B2, hB2⟩ : ∃ B2, wr.heap.size = B2 := ⟨_, rfl⟩
    rw [hB2] at HGY ⊢
    clear hB2
    obtain ⟨r9, hr9⟩ : ∃ r9, rW role x.op k rk = r9 := ⟨_, rfl⟩
    obtain ⟨b5, hb5⟩ : ∃ b5, (role == 5) = b5 := ⟨_, rfl⟩
    go_upto_block 2 with fail
    go_cut [12] from 44 to 66 (fun c wx => c = .int .i64 r9 ∧ W2 = wx)
    case first =>
     have HR9 := hid hr9
     clear hr9
     cases b5
     case true =>
      obtain rfl : role = 5 := by simpa using hb5
      have HX := hid (show r9 = 0 by rw [← HR9.out]; rfl)
      go_wp2_with fail
      go_meet
      exact ⟨by rw [HX.out], rfl⟩
     have h1 : role ≠ 5 := by simpa using hb5
     by_cases h2 : role = 2
     ·subst h2
      by_cases h3 : x.op = 20
      ·by_cases h4 : k = 0
       ·have HX := hid (show r9 = 2 by rw [← HR9.out, h3, h4]; rfl)
        subst h4
        rw [h3] at d0
        go_wp2_with fail
        go_meet
        exact ⟨by rw [HX.out], rfl⟩
       ·have HX := hid (show r9 = rk by rw [← HR9.out, rW, if_neg (by decide), if_neg (fun h => h4 h.2.2), if_neg (fun h => absurd h.1 (by decide))])
        have q4 : ((k : Int) == 0) = false := by rw [beq_eq_false_iff_ne]; omega
        rw [h3] at d0
        go_wp2_with fail
        go_meet
        exact ⟨by rw [HX.out], rfl⟩
      ·have HX := hid (show r9 = rk by rw [← HR9.out, rW, if_neg (by decide), if_neg (fun h => h3 h.2.1), if_neg (fun h => absurd h.1 (by decide))])
       have q3 : (x.op == 20) = false := by simpa using h3
       go_wp2_with fail
       go_meet
       exact ⟨by rw [HX.out], rfl⟩
     have q2 : (role == 2) = false := by simpa using h2
     by_cases h5 : role = 4
     ·subst h5
      by_cases h6 : x.op = 26
      ·have HX := hid (show r9 = 3 by rw [← HR9.out, rW, if_neg (by decide), if_neg (fun h => absurd h.1 (by decide)), if_pos ⟨rfl, h6⟩])
       rw [h6] at d0
       go_wp2_with fail
       go_meet
       exact ⟨by rw [HX.out], rfl⟩
      ·have HX := hid (show r9 = rk by rw [← HR9.out, rW, if_neg (by decide), if_neg (fun h => absurd h.1 (by decide)), if_neg (fun h => h6 h.2)])
       have q3 : (x.op == 26) = false := by simpa using h6
       go_wp2_with fail
       go_meet
       exact ⟨by rw [HX.out], rfl⟩
     ·have HX := hid (show r9 = rk by rw [← HR9.out, rW, if_neg h1, if_neg (fun h => h2 h.1), if_neg (fun h => h5 h.1)])
      have q3 : (role == 4) = false := by simpa using h5
      go_wp2_with fail
      go_meet
      exact ⟨by rw [HX.out], rfl⟩
    case rest =>
    obtain ⟨rfl, rfl⟩ := hcut
    rw [hr9] at HW HST
    clear hr9 hrk
    obtain ⟨i9, hi9⟩ : ∃ i9, inW x.op loop r9 = i9 := ⟨_, rfl⟩
    rw [hi9] at HST
    go_upto_region 15 with fail
    go_cut [13] from 67 to 81 (fun c wx => c = .bool i9 ∧ W2 = wx)
    case first =>
     have HI9 := hid hi9
     clear hi9
     have HLO := hid (loops_any x.op W2)
     have HP : inW x.op loop r9 = ((loop && x.op != 48) || (pLoops x.op && r9 == 6)) := rfl
     rw [HP] at HI9
     clear HP
     generalize pLoops x.op = lo at *
     cases loop
     ·go_wp2_with fail
      refine HLO.out.mono ?_
      rintro e w8 ⟨rfl, rfl⟩
      have HX := hid (show i9 = (lo && r9 == 6) by rw [← HI9.out]; rfl)
      cases lo
      ·go_wp2_with fail
       go_meet
       exact ⟨by rw [HX.out]; rfl, rfl⟩
      ·go_wp2_with fail
       go_meet
       exact ⟨by rw [HX.out]; rfl, rfl⟩
     ·obtain ⟨b8, hb8⟩ : ∃ b8, (x.op != 48) = b8 := ⟨_, rfl⟩
      cases b8
      ·have HX := hid (show i9 = (lo && r9 == 6) by rw [← HI9.out, hb8]; rfl)
       go_wp2_with fail
       refine HLO.out.mono ?_
       rintro e w8 ⟨rfl, rfl⟩
       cases lo
       ·go_wp2_with fail
        go_meet
        exact ⟨by rw [HX.out]; rfl, rfl⟩
       ·go_wp2_with fail
        go_meet
        exact ⟨by rw [HX.out]; rfl, rfl⟩
      ·have HX := hid (show i9 = true by rw [← HI9.out, hb8]; rfl)
       go_wp2_with fail
       go_meet
       exact ⟨by rw [HX.out], rfl⟩
    case rest =>
    obtain ⟨rfl, rfl⟩ := hcut
    clear hi9 d0
    have y0 : W2.cell? ⟨B2, 0, none⟩ = some (.int .i64 y.op) := by rw [cell_of_row _ _ 0 _ _ _ HGY.out]; rfl
    have y1 : W2.cell? ⟨B2, 1, none⟩ = some (.int .i64 y.ln) := by rw [cell_of_row _ _ 1 _ _ _ HGY.out]; rfl
    have y2 : W2.cell? ⟨B2, 2, none⟩ = some (.string y.s) := by rw [cell_of_row _ _ 2 _ _ _ HGY.out]; rfl
    have y3 : W2.cell? ⟨B2, 3, none⟩ = some (.int .i64 y.v.k) := by rw [cell_of_row _ _ 3 _ _ _ HGY.out]; rfl
    have y4 : W2.cell? ⟨B2, 4, none⟩ = some (.int .i64 y.v.n) := by rw [cell_of_row _ _ 4 _ _ _ HGY.out]; rfl
    have y5 : W2.cell? ⟨B2, 5, none⟩ = some (.string y.v.s) := by rw [cell_of_row _ _ 5 _ _ _ HGY.out]; rfl
    have y6 : W2.cell? ⟨B2, 6, none⟩ = some (.slice yva y.v.l.length c1) := by rw [cell_of_row _ _ 6 _ _ _ HGY.out]; rfl
    have y7 : W2.cell? ⟨B2, 7, none⟩ = some (.slice a' y.l.length c') := by rw [cell_of_row _ _ 7 _ _ _ HGY.out]; rfl
    have HC := hid (HIH.out k y HY.out r9 HW.out.1 HW.out.2 i9 W2 _ HFW2.out HV2.out)
    obtain ⟨q9, hq9⟩ : ∃ q9, pWalk y r9 i9 = q9 := ⟨_, rfl⟩
    rw [hq9] at HC HST
    have HST := hid HST.out
    clear hq9
    go_wp2_with fail
    refine HC.out.mono ?_
    rintro e w9 ⟨v9, rfl, hf9, ha9⟩
    have HF9 := hid (HFR2.out.trans' hf9)
    have HFF := hid (HF3.out.trans' (HFR2.out.trans' hf9))
    clear hf9 y0 y1 y2 y3 y4 y5 y6 y7
    rcases ha9 with ⟨hz9, rfl⟩ | ⟨hz9, b9, rfl, hb9⟩
    ·have HS2 := hid (show q0 = pWalkL x.op role loop R (k + 1) (x.l.drop (k + 1)) by rw [HS.out, HST.out, if_pos hz9])
     clear hz9
     go_wp2_with fail
     go_roundw
     case rel => exact ⟨k + 1, by omega, by go_num, HS2, HF9.out⟩
     case measure => simp [intOf]; omega
    ·have HAT := hid (show AtV pa w9 q0 (.iface 123 (.pointer (some ⟨b9, 0, none⟩))) by rw [HS.out, HST.out, if_neg hz9]; exact .inr ⟨hz9, b9, rfl, hb9⟩)
     clear hz9 hb9
     go_wp2_with fail
     go_ret
     exact ⟨_, rfl, HFF.out, HAT.out⟩
   ·obtain rfl : k = x.l.length := by omega
    have HQ0 := hid (show q0 = (0, 0) by rw [HS.out, List.drop_length, pWalkL_nil])
    have HFF := hid (HF3.out.trans' hf)
    go_wp2_with fail
    go_ret
    exact ⟨_, rfl, HFF.out, .inl ⟨by rw [HQ0.out], rfl⟩⟩
set_option maxRecDepth 100000 in
set_option maxHeartbeats 6400000 in
theorem valid5_any (pa : Nat → Addr) (l : List Nd) (role : Int) (hr0 : 0 ≤ role) (hr8 : role ≤ 8) (hz : szL l ≤ 1099511627776) (D : Nat → Prop) (w : World) (v : Value) (h : NL D w l v) (hE : Sent5 w pa) (hg : 7 ≤ w.heap.size) :
  Calls Tryz.prog 49 #[v, .int .i64 role] w fun e w' => ∃ v, e = .returned v ∧ Fr (fun _ => False) w w' ∧ ErrIs pa w' (pValid l role) v := by
 have hcs := cntL_szL l
 have HCN := hid (cnt_any (cntL l + 1) l (by omega) (by omega) 0 (by omega) D w v h)
 have HDP := hid (fun w2 (hf : Fr (fun _ => False) w w2) => tdeep_any (cntL l + 1) l (by omega) (by omega) D w2 v (h.frame hf fun _ _ => not_false))
 have hdc := depL_le' l
 have hs3 : ∀ w2, Fr (fun _ => False) w w2 → w2.cell? ⟨2, 0, none⟩ = some (errV pa 104) := fun w2 hf => (hE.frame hf).s 3 (by decide)
 have hs11 : ∀ w2, Fr (fun _ => False) w w2 → w2.cell? ⟨3, 0, none⟩ = some (errV pa 112) := fun w2 hf => (hE.frame hf).s 11 (by decide)
 have HS3 := hid hs3; have HS11 := hid hs11
 obtain ⟨a, cap, us, rfl, hc, hm, hn, hb, hi⟩ := h
 have HPV := hid (show pValid l role = if 4096 < cntL l then ⟨104, false, 0⟩ else if 40 < depL l then ⟨112, false, 0⟩ else fltAt (pVals role l) from rfl)
 have hW : ∀ (k : Nat) (y : Nd), l[k]? = some y → ¬ 4096 < cntL l → ∀ (w2 : World) (u : Array Value), Fr (fun _ => False) w w2 → NIn D w2 y u → Calls Tryz.prog 81 #[.agg u, .int .i64 role, .bool false] w2 fun e w' => ∃ v, e = .returned v ∧ Fr (fun _ => False) w2 w' ∧ AtV pa w' (pWalk y role false) v := fun k y hy hl w2 u hf hn => by
  have h1 := cntL_mem hy
  have h2 := szL_mem hy
  exact walk5_any pa (y.cnt + 1) y (by omega) (by omega) (by omega) role hr0 hr8 false D w2 u hn (hE.frame hf) (by have := hf.size; omega)
 have hll : (l.length : Int) ≤ 1099511627776 := by have := len_le_cnt l; omega
 have HW := hid hW; have HB := hid hb; have HI := hid hi; have HZ := hid hz; have HCS := hid hcs; have HDC := hid hdc
 clear hW hb hi hz hcs hdc hs3 hs11 hE hg hc hm hn hr0 hr8
 go_enter Tryz.func49, Tryz.ntmps49
 go_wp2_with fail
 refine HCN.out.mono ?_
 rintro e w1 ⟨rfl, hf1⟩
 have HF1 := hid hf1
 clear hf1
 by_cases hbig : 4096 < cntL l
 ·have HX := hid (show pValid l role = ⟨104, false, 0⟩ by rw [HPV.out, if_pos hbig])
  rw [show (min (0 + cntL l) 4097 : Nat) = 4097 by omega]
  have s3 := HS3.out w1 HF1.out
  clear hbig
  go_wp2_with fail
  go_ret
  exact ⟨_, rfl, HF1.out, by rw [HX.out]; exact ⟨.inr (by decide), .inl ⟨rfl, rfl, rfl⟩⟩⟩
 have hsm : ¬ (4096 : Int) < ((min (0 + cntL l) 4097 : Nat) : Int) := by omega
 obtain ⟨c9, hc9⟩ : ∃ c9, (min (0 + cntL l) 4097 : Nat) = c9 := ⟨_, rfl⟩
 rw [hc9] at hsm ⊢
 have HBIG := hid hbig
 clear hbig hc9
 go_wp2_with fail
 refine (HDP.out w1 HF1.out).mono ?_
 rintro e w2 ⟨rfl, hf2⟩
 have HF2 := hid (HF1.out.trans' hf2)
 clear hf2
 by_cases hdeep : 40 < depL l
 ·have HX := hid (show pValid l role = ⟨112, false, 0⟩ by rw [HPV.out, if_neg HBIG.out, if_pos hdeep])
  have s11 := HS11.out w2 HF2.out
  have hd1 : (40 : Int) < depL l := by omega
  have hd2 : (depL l : Int) ≤ 1099511627776 := by have := HDC.out; have := HCS.out; have := HZ.out; omega
  clear hdeep
  go_wp2_with fail
  go_ret
  exact ⟨_, rfl, HF2.out, by rw [HX.out]; exact ⟨.inr (by decide), .inl ⟨rfl, rfl, rfl⟩⟩⟩
 have hd1 : ¬ (40 : Int) < depL l := by omega
 have HX := hid (show pValid l role = fltAt (pVals role l) by rw [HPV.out, if_neg HBIG.out, if_neg hdeep])
 clear hdeep hsm
 go_wp2_with fail
 go_loopw [18] (fun i wr => ∃ k : Nat, k ≤ l.length ∧ i = .int .i64 k ∧ Hid (pVals role l = pVals role (l.drop k)) ∧ Fr (fun _ => False) w2 wr) (fun i _ => l.length - (intOf i).toNat)
 case atStart => exact ⟨0, Nat.zero_le _, rfl, hid rfl, Fr.refl _ _⟩
 case round =>
  obtain ⟨k, hk, rfl, HS, hf⟩ := hrel
  by_cases hlt : k < l.length
  ·have hlt' : (k : Int) < l.length := by omega
   obtain ⟨b, o, y, yva, c1, a', c', rfl, -, hy, hv, e0, e1, e2, e3, e4, e5, e6, e7⟩ := NL.elem HB.out HI.out k hlt
   have hfw := HF2.out.trans' hf
   replace e0 := hfw.cell e0 not_false
   replace e1 := hfw.cell e1 not_false
   replace e2 := hfw.cell e2 not_false
   replace e3 := hfw.cell e3 not_false
   replace e4 := hfw.cell e4 not_false
   replace e5 := hfw.cell e5 not_false
   replace e6 := hfw.cell e6 not_false
   replace e7 := hfw.cell e7 not_false
   have HST := hid (pVals_step (role := role) hy)
   have hfY := (Fr.refl (fun _ => False) wr).alloc (.cells #[.int .i64 y.op, .int .i64 y.ln, .string y.s, .int .i64 y.v.k, .int .i64 y.v.n, .string y.v.s, .slice yva y.v.l.length c1, .slice a' y.l.length c'] 75)
   have hgY := heap_alloc_new wr (.cells #[.int .i64 y.op, .int .i64 y.ln, .string y.s, .int .i64 y.v.k, .int .i64 y.v.n, .string y.v.s, .slice yva y.v.l.length c1, .slice a' y.l.length c'] 75)
   have HFW2 := hid (hfw.trans' hfY); have HFR2 := hid (hf.trans' hfY); have HGY := hid hgY
   have HV2 := hid (hv.frame (hfw.trans' hfY) fun _ _ => not_false); have HY := hid hy
   clear hfY hgY hv hy hf hfw
   go_upto_region 8 with fail
   generalize hW2 : wr.alloc (.cells #[.int .i64 y.op, .int .i64 y.ln, .string y.s, .int .i64 y.v.k, .int .i64 y.v.n, .string y.v.s, .slice yva y.v.l.length c1, .slice a' y.l.length c'] 75) = W2 at *
   clear hW2 e0 e1 e2 e3 e4 e5 e6 e7
   obtain ⟨B2, hB2⟩ : ∃ B2, wr.heap.size = B2 := ⟨_, rfl⟩
   rw [hB2] at HGY ⊢
   clear hB2
   have y0 : W2.cell? ⟨B2, 0, none⟩ = some (.int .i64 y.op) := by rw [cell_of_row _ _ 0 _ _ _ HGY.out]; rfl
   have y1 : W2.cell? ⟨B2, 1, none⟩ = some (.int .i64 y.ln) := by rw [cell_of_row _ _ 1 _ _ _ HGY.out]; rfl
   have y2 : W2.cell? ⟨B2, 2, none⟩ = some (.string y.s) := by rw [cell_of_row _ _ 2 _ _ _ HGY.out]; rfl
   have y3 : W2.cell? ⟨B2, 3, none⟩ = some (.int .i64 y.v.k) := by rw [cell_of_row _ _ 3 _ _ _ HGY.out]; rfl
   have y4 : W2.cell? ⟨B2, 4, none⟩ = some (.int .i64 y.v.n) := by rw [cell_of_row _ _ 4 _ _ _ HGY.out]; rfl
   have y5 : W2.cell? ⟨B2, 5, none⟩ = some (.string y.v.s) := by rw [cell_of_row _ _ 5 _ _ _ HGY.out]; rfl
   have y6 : W2.cell? ⟨B2, 6, none⟩ = some (.slice yva y.v.l.length c1) := by rw [cell_of_row _ _ 6 _ _ _ HGY.out]; rfl
   have y7 : W2.cell? ⟨B2, 7, none⟩ = some (.slice a' y.l.length c') := by rw [cell_of_row _ _ 7 _ _ _ HGY.out]; rfl
   have HC := hid (HW.out k y HY.out HBIG.out W2 _ HFW2.out HV2.out)
   have HCO := hid (pWalk_code y role false)
   obtain ⟨q9, hq9⟩ : ∃ q9, pWalk y role false = q9 := ⟨_, rfl⟩
   rw [hq9] at HC HST HCO
   have HST := hid HST.out
   clear hq9
   go_wp2_with fail
   refine HC.out.mono ?_
   rintro e w9 ⟨v9, rfl, hf9, ha9⟩
   have HF9 := hid (HFR2.out.trans' hf9)
   have HFF := hid (HF2.out.trans' (HFR2.out.trans' hf9))
   clear hf9 y0 y1 y2 y3 y4 y5 y6 y7
   rcases ha9 with ⟨hz9, rfl⟩ | ⟨hz9, b9, rfl, hb9⟩
   ·have HS2 := hid (show pVals role l = pVals role (l.drop (k + 1)) by rw [HS.out, HST.out, if_pos hz9])
    clear hz9
    go_wp2_with fail
    go_roundw
    case rel => exact ⟨k + 1, by omega, by go_num, HS2, HF9.out⟩
    case measure => simp [intOf]; omega
   ·have HAT := hid (show ErrIs pa w9 (pValid l role) (.iface 123 (.pointer (some ⟨b9, 0, none⟩))) by rw [HX.out, HS.out, HST.out, if_neg hz9]; exact AtV.err (.inr ⟨hz9, b9, rfl, hb9⟩) HCO.out)
    clear hz9 hb9
    go_wp2_with fail
    go_ret
    exact ⟨_, rfl, HFF.out, HAT.out⟩
  ·obtain rfl : k = l.length := by omega
   have HAT := hid (show ErrIs pa wr (pValid l role) .nilIface by rw [HX.out, HS.out, List.drop_length]; exact ⟨.inl rfl, .inl ⟨rfl, rfl, rfl⟩⟩)
   have HFF := hid (HF2.out.trans' hf)
   go_wp2_with fail
   go_ret
   exact ⟨_, rfl, HFF.out, HAT.out⟩
theorem tvalid5_any (pa : Nat → Addr) (l : List Nd) (hz : szL l ≤ 1099511627776) (D : Nat → Prop) (w : World) (v : Value) (h : NL D w l v) (hE : Sent5 w pa) (hg : 7 ≤ w.heap.size) :
  Calls Tryz.prog 27 #[v] w fun e w' => ∃ v, e = .returned v ∧ Fr (fun _ => False) w w' ∧ ErrIs pa w' (pValid l 7) v := by
 have HC := hid (valid5_any pa l 7 (by decide) (by decide) hz D w v h hE hg)
 obtain ⟨a, cap, us, rfl, -⟩ := h
 clear hE hg hz
 go_enter Tryz.func27, Tryz.ntmps27
 go_wp2_with fail
 refine HC.out.mono ?_
 rintro e w2 ⟨v2, rfl, hf2, hv2⟩
 go_wp2_with fail
 go_ret
 exact ⟨_, rfl, hf2, hv2⟩
end
section
open Go.ChangeShapes Go.WideShapes Go.ChangeAt Go.RowKit
end
end
section
open Go.RowKit
theorem cst_le (role op : Int) (n : Nat) : cst role op n ≤ 6 + n := by
 have h7 : (if op = 40 then 1 else if op = 41 then 2 * (n / 2) else if op = 42 ∨ op = 43 then 4 else if op = 44 then 5 else if op = 45 ∨ op = 46 then 1 else if op = 47 then (if n = 0 then 2 else 1) else if op = 48 then 1 else if op = 49 ∨ op = 51 then 4 else 0) ≤ 5 + n := by
  repeat (first | omega | refine ite_pr (p := fun x : Nat => x ≤ 5 + n) (fun _ => by first | omega | (split <;> omega)) (fun _ => ?_))
 have h0 : (if op = 26 then 0 else if op = 19 then 2 else if op = 23 then 4 else if op = 24 then 3 else if op = 25 then 2 else if op = 29 then (if n = 3 then 4 else 5) else 1) ≤ 5 := by
  repeat (first | omega | refine ite_pr (p := fun x : Nat => x ≤ 5) (fun _ => by first | omega | (split <;> omega)) (fun _ => ?_))
 have h1 : (if role = 1 then 1 else 0) ≤ 1 := by split <;> omega
 unfold cst
 refine ite_pr (p := fun x : Nat => x ≤ 6 + n) (fun _ => by split <;> omega) (fun _ => ?_)
 refine ite_pr (p := fun x : Nat => x ≤ 6 + n) (fun _ => by split <;> omega) (fun _ => ?_)
 refine ite_pr (p := fun x : Nat => x ≤ 6 + n) (fun _ => by omega) (fun _ => ?_)
 refine ite_pr (p := fun x : Nat => x ≤ 6 + n) (fun _ => by omega) (fun _ => ?_)
 refine ite_pr (p := fun x : Nat => x ≤ 6 + n) (fun _ => by omega) (fun _ => by omega)
mutual
theorem lenR_le : ∀ (x : Nd) (role : Int), lenR x role + 1 ≤ 7 * x.cnt
 | .mk op ln s v l, role => by
  have h1 := lenRL_le l op role (pRoles op l.length) 0
  have h2 := cst_le role op l.length
  rw [lenR, Nd.cnt]
  omega
theorem lenRL_le : ∀ (l : List Nd) (op role : Int) (R : List Int) (i : Nat), lenRL op role R i l + l.length ≤ 7 * cntL l
 | [], op, role, R, i => by rw [lenRL]; simp
 | y :: r, op, role, R, i => by
  have h1 := lenR_le y (cRole role op i (R.getD i 0))
  have h2 := lenRL_le r op role R (i + 1)
  rw [lenRL, cntL, List.length_cons]
  split <;> omega
end
theorem sumR_le : ∀ (l : List Nd), sumR 7 l ≤ 7 * cntL l
 | [] => by simp [sumR]
 | y :: r => by
  have h1 := lenR_le y 7
  have h2 := sumR_le r
  rw [sumR, cntL]
  omega
theorem pVals_rt : ∀ (l : List Nd), (pVals 7 l).1 = 0 → ∀ y ∈ l, Rt 7 y
 | [], _, y, hy => by cases hy
 | x :: r, h, y, hy => by
  rw [pVals] at h
  by_cases hx : (pWalk x 7 false).1 = 0
  ·rw [if_pos hx] at h
   rcases List.mem_cons.1 hy with rfl | hy
   ·exact ⟨false, hx⟩
   ·exact pVals_rt r h y hy
  ·rw [if_neg hx] at h
   exact absurd h hx
theorem pValid_ok {l : List Nd} (h : (pValid l 7).c = 0) : (∀ y ∈ l, Rt 7 y) ∧ cntL l ≤ 4096 ∧ depL l ≤ 40 := by
 unfold pValid at h
 by_cases h1 : 4096 < cntL l
 ·rw [if_pos h1] at h; cases h
 ·rw [if_neg h1] at h
  by_cases h2 : 40 < depL l
  ·rw [if_pos h2] at h; cases h
  ·rw [if_neg h2] at h
   refine ⟨pVals_rt l ?_, by omega, by omega⟩
   unfold fltAt at h
   by_cases h3 : (pVals 7 l).1 = 0
   ·exact h3
   ·rw [if_neg h3] at h; exact absurd h h3
theorem ErrIs.cases {pa : Nat → Addr} {w : World} {f : Flt} {v : Value} (h : ErrIs pa w f v) : (f.c = 0 ∧ v = .nilIface) ∨ (f.c ≠ 0 ∧ ∃ t x, v = .iface t x) := by
 obtain ⟨-, ⟨-, -, rfl⟩ | ⟨-, hc, b, rfl, -⟩⟩ := h
 ·by_cases hc : f.c = 0
  ·exact .inl ⟨hc, by rw [hc]; rfl⟩
  ·exact .inr ⟨hc, _, _, if_neg hc⟩
 ·exact .inr ⟨hc, _, _, rfl⟩
def CodeBox (base : Nat) (w : World) (l : List Nd) (K : Nat) : Prop := ∃ C, w.heap[K]? = some (.cells #[.pointer (some ⟨C, 0, none⟩)] 61 (0, 0)) ∧ MadeCode base w l C
theorem MadeCode.fr {base : Nat} {w w' : World} {l : List Nd} {C : Nat} (h : MadeCode base w l C) (hf : Fr (fun _ => False) w w') : MadeCode base w' l C := by
 obtain ⟨sv, L, nb, T, h1, h2, h3, h4, h5, h6⟩ := h
 exact ⟨sv, L, nb, T, h1.fr hf, h2, h3, h4, h5, h6.frame hf fun _ _ => not_false⟩
theorem CodeBox.fr {base : Nat} {w w' : World} {l : List Nd} {K : Nat} (h : CodeBox base w l K) (hf : Fr (fun _ => False) w w') : CodeBox base w' l K := by
 obtain ⟨C, h1, h2⟩ := h
 exact ⟨C, hf.heap h1 not_false, h2.fr hf⟩
set_option maxRecDepth 100000 in
theorem compile_any (pa : Nat → Addr) (l : List Nd) (hM : szL l ≤ 1048576) (D : Nat → Prop) (w : World) (v : Value) (hv : NL D w l v) (hE : Sent5 w pa) (hg : 7 ≤ w.heap.size) :
  Calls Tryz.prog 7 #[v] w fun e w' => ∃ r ev, e = .returned (.tuple #[r, ev]) ∧ Fr (fun _ => False) w w' ∧ ErrIs pa w' (pValid l 7) ev ∧
   (((pValid l 7).c = 0 ∧ ev = .nilIface ∧ ∃ K, r = .pointer (some ⟨K, 0, none⟩) ∧ CodeBox w.heap.size w' l K) ∨ ((pValid l 7).c ≠ 0 ∧ r = .pointer none ∧ ∃ t x, ev = .iface t x)) := by
 have HV := hid (tvalid5_any pa l (by omega) D w v hv hE hg)
 have HM := hid (fun (w2 : World) (hf : Fr (fun _ => False) w w2) (hc : (pValid l 7).c = 0) => make_any l hM (pValid_ok hc).1 (by have := sumR_le l; have := (pValid_ok hc).2.1; omega) D w2 v (hv.frame hf fun _ _ => not_false))
 obtain ⟨a, cap, us, rfl, -⟩ := id hv
 clear hM hv hE hg
 go_enter Tryz.func7, Tryz.ntmps7
 go_wp2_with fail
 refine HV.out.mono ?_
 rintro e w2 ⟨v2, rfl, hf2, hv2⟩
 rcases hv2.cases with ⟨hc, rfl⟩ | ⟨hc, t, x, rfl⟩
 ·have HMK := hid (HM.out w2 hf2 hc)
  have HC := hid hc; have HE := hid hv2; have HF := hid hf2
  clear hc hv2 hf2 HV HM
  go_wp2_with fail
  refine HMK.out.mono ?_
  rintro e w3 ⟨C, rfl, hC, hf3, hm⟩
  have HM3 := hid hm; have HF3 := hid hf3
  clear hC hm hf3 HMK
  go_wp2_with fail
  go_ret2
  have hfa := (Fr.refl (fun _ => False) w3).alloc (.cells #[.pointer (some ⟨C, 0, none⟩)] 61)
  refine ⟨_, _, rfl, (HF.out.trans' HF3.out).trans' hfa, (HE.out.frame HF3.out).frame hfa, .inl ⟨HC.out, rfl, _, rfl, C, heap_alloc_new w3 _, ?_⟩⟩
  obtain ⟨sv, L, nb, T, h1, h2, h3, h4, h5, h6⟩ := HM3.out.fr hfa
  exact ⟨sv, L, nb, T, h1.down HF.out.size, h2, h3, h4, h5, h6⟩
 ·have HC := hid hc; have HE := hid hv2; have HF := hid hf2
  clear hc hv2 hf2 HV HM
  go_wp2_with fail
  go_ret2
  exact ⟨_, _, rfl, HF.out, HE.out, .inr ⟨HC.out, rfl, _, _, rfl⟩⟩
end
end Go.Proofs.YtbegahbagnflnaaGreatDoor
