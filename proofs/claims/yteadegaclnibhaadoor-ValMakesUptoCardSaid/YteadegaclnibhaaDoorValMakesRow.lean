/- ValMakes: for every input of bulk at most 1,048,576 the law returns true, where api's errors read as the program lays them. The walk is ValMakes'; here it is carried to the given row and its card. -/
import Derived.Test.YteadegaclnibhaaDoorCards
import Derived.Test.YteadegaclnibhaaDoorTie
import Derived.Test.YteadegaclnibhaaDoorValMakes
import Derived.Test.YteadegaclnibhaaDoorValRow
import Derived.JoinedCond
import Derived.LaidMore
import Derived.Deep.DeepHandedRow
import Derived.Deep.DeepWitnessRowRef
import Derived.SevenTiedAt
namespace Go.Proofs.YteadegaclnibhaaDoor
open Go.ChangeShapes Go.WideShapes Go.ChangeAt Go.RowKit

theorem trod_iface {P : Program} {W : World} {sp : Nat → Bool} {fuel : Nat} {t : TypeId} {cs : List Value} {nm : String} {d : DataW Unit} {p : List MemPlace} {ms : Array (String × TypeId)} (ht : P.underlying t = some (.interface ms))
    (h : DataW.trod (fun _ => ()) P W 0 sp false fuel t cs = some (.iface nm d, p)) : ∃ u v, cs = [.iface u v] := by
  cases fuel with
  | zero => simp [DataW.trod] at h
  | succ n =>
    unfold DataW.trod at h
    rw [ht] at h
    split at h <;> simp_all
theorem err_cell {P : Program} {W : World} {n : String} {g fuel : Nat} {t : TypeId} {cs : Array Value} {nm : String} {d : DataW Unit} {p : List MemPlace} {ms : Array (String × TypeId)} (hg : P.globalNamed n = some g) (hv : W.var? P n = some cs) (ht : P.underlying t = some (.interface ms))
    (h : DataW.trod (fun _ => ()) P W 0 (fun _ => true) false fuel t cs.toList = some (.iface nm d, p)) : ∃ u v, W.cell? ⟨g, 0, none⟩ = some (.iface u v) := by
  obtain ⟨u, v, e⟩ := trod_iface ht h
  refine ⟨u, v, ?_⟩
  have := World.var?_cell hg hv 0
  rw [this]
  have : cs = #[.iface u v] := by cases cs; simp_all
  rw [this]
  rfl

theorem of_laid4 {W : World} (h : laidMetH Tryd.prog Rows.valMakesUptoRow.laid W) : ∃ tD vD tM vM tR vR tS vS, Errs W (.iface tD vD) (.iface tM vM) (.iface tR vR) (.iface tS vS) := by
  rw [MakeChecks.laidMetH_plain _ _ _ (by kernel_rfl)] at h
  obtain ⟨ps, ⟨g0, t0, cs0, f0, p0, q0, hg0, ht0, hv0, hd0, ⟨g1, t1, cs1, f1, p1, q1, hg1, ht1, hv1, hd1, ⟨g2, t2, cs2, f2, p2, q2, hg2, ht2, hv2, hd2, ⟨g3, t3, cs3, f3, p3, q3, hg3, ht3, hv3, hd3, _, _⟩, _⟩, _⟩, _⟩, _, _⟩ := h
  obtain rfl := Option.some.inj ((show Tryd.prog.globalNamed "inglenook/api.ErrShape" = some 3 by kernel_rfl).symm.trans hg0)
  obtain rfl := Option.some.inj ((show Tryd.prog.globalNamed "inglenook/api.ErrMany" = some 1 by kernel_rfl).symm.trans hg1)
  obtain rfl := Option.some.inj ((show Tryd.prog.globalNamed "inglenook/api.ErrRange" = some 2 by kernel_rfl).symm.trans hg2)
  obtain rfl := Option.some.inj ((show Tryd.prog.globalNamed "inglenook/api.ErrDeep" = some 0 by kernel_rfl).symm.trans hg3)
  obtain rfl := Option.some.inj ((show (Tryd.prog.globals[3]?).map (·.type) = some 28 by kernel_rfl).symm.trans ht0)
  obtain rfl := Option.some.inj ((show (Tryd.prog.globals[1]?).map (·.type) = some 28 by kernel_rfl).symm.trans ht1)
  obtain rfl := Option.some.inj ((show (Tryd.prog.globals[2]?).map (·.type) = some 28 by kernel_rfl).symm.trans ht2)
  obtain rfl := Option.some.inj ((show (Tryd.prog.globals[0]?).map (·.type) = some 28 by kernel_rfl).symm.trans ht3)
  obtain ⟨tS, vS, cS⟩ := err_cell hg0 hv0 Tryd.underlying28 hd0
  obtain ⟨tM, vM, cM⟩ := err_cell hg1 hv1 Tryd.underlying28 hd1
  obtain ⟨tR, vR, cR⟩ := err_cell hg2 hv2 Tryd.underlying28 hd2
  obtain ⟨tD, vD, cD⟩ := err_cell hg3 hv3 Tryd.underlying28 hd3
  exact ⟨tD, vD, tM, vM, tR, vR, tS, vS, cD, cM, cR, cS⟩

noncomputable def valMakesArgs : Array Value := #[.int .i64 0, .int .i64 0, .string .empty, .int .i64 0, .slice none 0 0]
theorem valMakes_laid (os : Os) : laidMet Tryd.prog Rows.valMakesUptoRow.laid (((World.doorLaid Tryd.prog 332 os)).forCall (fun _ _ => 0) ⟨#[], valMakesArgs, []⟩).memory :=
  laidMet_of_run' 8 (by kernel_rfl) (by kernel_rfl)
theorem valMakes_reads (os : Os) {H : Type} (enc : TypeId × Value → H) : ∃ places, DataW.whole enc Tryd.prog ((World.doorLaid Tryd.prog 332 os).forCall (fun _ _ => 0) ⟨#[], valMakesArgs, []⟩).memory Tryd.f5.params.toList Rows.valMakesSpec.vars false valMakesArgs.toList 8 = some ([.lit (.int .i64 0), .lit (.int .i64 0), .lit (.string []), .lit (.int .i64 0), .nil], [], places) :=
  ⟨[], by kernel_rfl⟩

set_option maxRecDepth 100000 in
theorem valMakes_lifted (os : Os) (started : os.Started) (H : Type) (enc : TypeId × Value → H) (F : Stop.Interp) :
    ReturnsInHanded {} Tryd.checked os 5 .any ((Rows.OpenSpec.upto Rows.valMakesSpec).preRow enc Tryd.prog Tryd.f5 Rows.valMakesUptoRow.domain false Rows.valMakesUptoRow.laid) (((Rows.OpenSpec.upto Rows.valMakesSpec).at F).post enc Tryd.prog Tryd.f5 false true false false) := by
  obtain ⟨places, hx⟩ := valMakes_reads os enc
  refine returnsInHanded_of_row (C := Tryd.checked) (s := Rows.OpenSpec.upto Rows.valMakesSpec) Tryd.own started (by kernel_rfl) Tryd.func5
    (witness_row_atRef (enc := enc) (C := Tryd.checked) false (World.doorLaid Tryd.prog 332 os) valMakesArgs rfl (by kernel_rfl) (by kernel_rfl) (by kernel_rfl)
      (OpenSpec.preRow_of_cond 8 hx (by kernel_rfl) (fun k hk => by cases hk; kernel_rfl) (by kernel_rfl) (valMakes_laid os))) ?_
  intro W base args ds gs before hval0 hW _ hk _ hL _ _
  have hval : ∀ (j : Nat) t v, Tryd.f5.params[j]? = some t → args[j]? = some v → Value.okWide Tryd.prog W .any base t v := hval0
  have hW' := hW
  obtain ⟨p, q, hA0, hV, rfl, hfz, hnd⟩ := hW
  have hA : DataW.TrodAll enc Tryd.prog W 0 (fun _ => true) true Tryd.f5.params.toList args.toList ds p := hA0
  rw [Tryd.params5] at hA hval
  obtain ⟨v0, vs0, d0, ds0, p0, q0, hargs, rfl, rfl, h0, r0⟩ := trodAll_cons hA
  obtain ⟨v1, vs1, d1, ds1, p1, q1, rfl, rfl, rfl, h1, r1⟩ := trodAll_cons r0
  obtain ⟨v2, vs2, d2, ds2, p2, q2, rfl, rfl, rfl, h2, r2⟩ := trodAll_cons r1
  obtain ⟨v3, vs3, d3, ds3, p3, q3, rfl, rfl, rfl, h3, r3⟩ := trodAll_cons r2
  obtain ⟨v4, vs4, d4, ds4, p4, q4, rfl, rfl, rfl, h4, r4⟩ := trodAll_cons r3
  obtain ⟨rfl, rfl, rfl⟩ := trodAll_nil r4
  obtain rfl : args = #[v0, v1, v2, v3, v4] := by cases args; simp_all
  obtain ⟨rfl, rfl⟩ := trodVars_none hV
  obtain ⟨n, rfl, -, -⟩ := cell_i64 Tryd.underlying2 (hval 0 2 v0 rfl rfl)
  obtain ⟨o, rfl, o1, o2⟩ := cell_i64 Tryd.underlying3 (hval 1 3 v1 rfl rfl)
  obtain ⟨s, rfl, hds, -, -⟩ := ChangeMaps.open_string Tryd.underlying9 (hval 2 9 v2 rfl rfl) h2
  obtain ⟨code, rfl, c1, c2⟩ := cell_i64 Tryd.underlying3 (hval 3 3 v3 rfl rfl)
  obtain ⟨fuel, hf4⟩ := h4
  obtain ⟨l, v, hcs, hl, hs, hw⟩ := open_slice (fun m _ => open_value W m) hf4
  obtain ⟨a0, l0, c0', rfl⟩ := okWide_slice Tryd.underlying22 (hval 4 22 v4 rfl rfl)
  obtain rfl : v = .slice a0 l0 c0' := by simpa [Value.cells] using hcs.symm
  have hs : sizeL l ≤ Rows.uptoBulk d4 := hs
  clear hA0 hval0
  have hb : Rows.uptoBulkAll [d0, d1, d2, d3, d4] ≤ 1048576 := of_decide_eq_true (hk _ rfl)
  have hss : s.size ≤ Rows.uptoBulk d2 := by
    subst hds
    simp only [Rows.uptoBulk]
    have : s.data.toList.length = s.size := by rw [Array.length_toList]; rfl
    omega
  simp only [Rows.uptoBulkAll] at hb
  obtain ⟨tD, vD, tM, vM, tR, vR, tS, vS, hE⟩ := of_laid4 hL
  have h4s : 4 ≤ W.heap.size := World.block_lt_of_cell? W ⟨3, 0, none⟩ hE.s
  refine (valMakes_any n o s code l (by omega) (by omega) o1 o2 c1 c2 _ W _ hl _ _ _ _ tR tS vR vS ⟨_, _, rfl⟩ ⟨_, _, rfl⟩ rfl rfl hE h4s).mono fun e W' ⟨he, hf⟩ => ?_
  subst he
  exact ⟨_, rfl, law_post hW' hf Tryd.laidOut (by kernel_rfl) rfl rfl Tryd.underlying4 rfl rfl rfl⟩

theorem valMakes_holds : Rows.ValMakesUptoSaid :=
  OpenClaim.holds_of_cond 5 Tryd.f5 rfl rfl rfl rfl rfl rfl rfl ⟨rfl, rfl, rfl, rfl, rfl⟩ rfl rfl rfl rfl rfl (by kernel_rfl) Tryd.func5 (by kernel_rfl)
    (of_decide_eq_true (by kernel_rfl)) (by unfold Func.isWrapper; first | (rw [if_pos (by decide +kernel)]; kernel_rfl) | (rw [if_neg (by decide +kernel)]; exact ⟨rfl, rfl⟩))
    (fun os started H enc _ F => by rw [OpenClaim.pre_eq_preRow]; exact valMakes_lifted os started H enc F)

/-- No parameter wants a stand-in. -/
theorem valMakes_plain (f : FuncId) (fn : Func) (hf : Tryd.pinned.checked.prog.funcNamed "inglenook/inglenooklaw1.ValMakes" = some f) (hfn : Tryd.pinned.checked.prog.funcs[f]? = some fn) :
    true = Tryd.pinned.checked.prog.looks [] ∧ ∀ (j : Nat) t, fn.params[j]? = some t → Tryd.pinned.checked.prog.wantsStandIn t = false := by
  obtain rfl : f = 5 := Option.some.inj ((show Tryd.prog.funcNamed "inglenook/inglenooklaw1.ValMakes" = some 5 by kernel_rfl).symm.trans hf) |>.symm
  obtain rfl : fn = Tryd.f5 := (Option.some.inj (Tryd.func5.symm.trans hfn)).symm
  refine ⟨by kernel_rfl, fun j t ht => ?_⟩
  rw [Tryd.params5] at ht
  have hm : t ∈ [2, 3, 9, 3, 22] := by simpa using Array.mem_of_getElem? ht
  have hall : ([2, 3, 9, 3, 22].all fun u => !Tryd.prog.wantsStandIn u) = true := by kernel_rfl
  exact (show Tryd.prog.wantsStandIn t = false by simpa using List.all_eq_true.1 hall t hm)

theorem valMakes_card : Rows.ValMakesUptoCardSaid :=
  Claim7.holds_tied_plain_at .later [] _ _ _ _ valMakes_holds (fun _ h => by cases h) (by kernel_rfl) (fun _ h => by cases h) valMakesUpto_row_tie rfl ⟨rfl, rfl⟩ (by kernel_rfl) rfl valMakes_plain (by kernel_rfl)
#print axioms valMakes_card
end Go.Proofs.YteadegaclnibhaaDoor
