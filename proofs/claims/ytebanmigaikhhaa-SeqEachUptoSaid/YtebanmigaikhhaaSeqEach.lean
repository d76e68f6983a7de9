/- SeqEach: the walk of the law. -/
import Derived.Test.YtebanmigaikhhaaSeqIter
import Derived.Test.YtebanmigaikhhaaSeqFirst
import Derived.Test.YtebanmigaikhhaaRefSame
import Derived.Test.YtebanmigaikhhaaRefValue
import Derived.Test.YtebanmigaikhhaaRefRight
import Derived.Test.YtebanmigaikhhaaNumber
namespace Go.Proofs.Ytebanmigaikhhaa
open Go.RowKit
attribute [local go_sem] Oper.semAt_some

/-- A box. -/
def Bx (W : World) (B : Nat) (t : TypeId) (v : Value) : Prop := W.heap[B]? = some (.cells #[v] t (0, 0))
theorem Bx.cell {W : World} {B : Nat} {t : TypeId} {v : Value} (h : Bx W B t v) : W.cell? ⟨B, 0, none⟩ = some v := by rw [cell_of_row _ _ 0 _ _ _ h]; rfl
theorem Bx.frozen {W : World} {B : Nat} {t : TypeId} {v : Value} (h : Bx W B t v) : W.frozen? ⟨B, 0, none⟩ = false := by
  unfold Bx at h
  simp [World.frozen?, h]
theorem Bx.set {W : World} {B : Nat} {t : TypeId} {v : Value} (h : Bx W B t v) (u : Value) : Bx (W.setCell ⟨B, 0, none⟩ u) B t u := by
  unfold Bx at *
  simp only [World.setCell, Array.getElem?_modify, if_pos, h, Option.map_some]
  rfl
theorem Bx.other {W : World} {B C : Nat} {t : TypeId} {v : Value} (h : Bx W B t v) (u : Value) (hne : B ≠ C) : Bx (W.setCell ⟨C, 0, none⟩ u) B t v :=
  ((Fr.refl (fun k => k = C) W).setCell (.inl rfl) u).heap h hne
theorem Bx.fr {W W' : World} {B : Nat} {t : TypeId} {v : Value} {S : Nat → Prop} (h : Bx W B t v) (hf : Fr S W W') (hS : ¬ S B) : Bx W' B t v := hf.heap h hS
theorem Bx.new (W : World) (t : TypeId) (v : Value) : Bx (W.alloc (.cells #[v] t)) W.heap.size t v := heap_alloc_new W _
theorem Bx.lt {W : World} {B : Nat} {t : TypeId} {v : Value} (h : Bx W B t v) : B < W.heap.size := heap_lt h
theorem results_cell1 {fn : Func} {t : Nat} (h : fn.results = #[.cell t 4]) {tmps : Array Value} {B : Nat} {w : World} {b : Bool} {tb : TypeId} (ht : tmps.getD t undef = .pointer (some ⟨B, 0, none⟩)) (hc : Bx w B tb (.bool b)) : (results fn tmps).run Try.prog w = .ok (.bool b) w := by
  have h1 := hc.cell
  have e : (results fn tmps) = (do let v ← (do loadVar 4 (← asAddr (tmps.getD t undef))); pure v) := by simp [results, h]
  rw [e, ht]
  simp [go_sem, h1, Try.isAgg4]
theorem leave0 {P : Program} {fn : Func} {tmps : Array Value} {R : Ending → World → Prop} {w : World} {v : Value} (hr : (results fn tmps).run P w = .ok v w) (h : R (.returned v) w) : LeavesInM Fence.wide 0 P fn tmps R [] .returning w := ⟨v, hr, h⟩
theorem leave_mark {P : Program} {fn : Func} {tmps : Array Value} {R : Ending → World → Prop} {W : World} {D : Nat} {ds : List Deferred} (hD : W.heap[D]? = some (.deferred (some []))) (h : LeavesInM Fence.wide 0 P fn tmps R ds .returning (W.putObj D (.deferred none))) : LeavesInM Fence.wide 0 P fn tmps R ({ target := .collected D, args := #[] } :: ds) .returning W :=
  ⟨by simp, .inl ⟨_, _, rfl, run_takeDeferred hD, h⟩⟩
set_option maxRecDepth 100000 in
set_option maxHeartbeats 3200000 in
theorem seqEach_any (v : Value) (m : List V) (at_ : Int) (w : World) (h : VL (fun _ => True) w m v) (hM : sizeL m ≤ 1048576) (b1 : -9223372036854775808 ≤ at_) (c1 : at_ ≤ 9223372036854775807) :
    Calls Try.prog 3 #[v, .int .i64 at_] w fun e w' => e = .returned (.bool true) ∧ Fr (fun _ => False) w w' := by
  have hll := len_le_sizeL m
  have hmI : (m.length : Int) ≤ 1048576 := by omega
  have HFI := hid (fun w2 => first_any w2)
  have HRI := hid (fun (w2 : World) (hf : Fr (fun _ => False) w w2) => rights_any 50 m (by omega) _ w2 _ (h.frame hf fun _ _ => id))
  have HRV := hid (fun (w2 : World) (hf : Fr (fun _ => False) w w2) => rvalues_of (sizeL m) (rvalue_any (sizeL m)) m (Nat.le_refl _) (by omega) _ w2 _ (h.frame hf fun _ _ => id))
  have HEA := hid (fun (w2 : World) (S : Nat → Prop) (hf : Fr S w w2) (hS : ∀ q, ¬ S q) => each_any m (by omega) _ w2 _ (h.frame hf fun q _ => hS q))
  have HIT := hid (fun (B0 B : Nat) (w0 : World) (v : Value) => each1_iter m (by omega) B0 B w0 v)
  obtain ⟨a, cap, us, rfl, -⟩ := id h
  have HVL := hid h
  have HB1 := hid b1; have HC1 := hid c1; have HM := hid hM
  clear h b1 c1 hll hM
  refine (callsIn_wide (n := 0)).1 (callsIn_of_wp_marks Try.func3 rfl trivial (wpIn_wide.2 ?_))
  simp only [Try.ntmps3, List.size_toArray, List.length_cons, List.length_nil, Nat.reduceAdd, Nat.reduceSub, Array.replicate_succ, Array.replicate_zero, List.push_toArray, List.append_toArray, List.nil_append, List.cons_append]
  go_wp2_with fail
  refine (HFI.out _).mono ?_
  rintro e w1 ⟨rfl, hf1⟩
  have F1 := hid (((Fr.refl (fun _ => False) w).alloc (.cells #[.bool false] 4)).trans' hf1)
  have X4 := hid (show Bx w1 w.heap.size 4 (.bool false) from hf1.heap (heap_alloc_new w _) not_false)
  clear hf1
  go_wp2_with fail
  refine (HRI.out w1 F1.out).mono ?_
  rintro e w2 ⟨rfl, hf2⟩
  have F2 := hid (F1.out.trans' hf2)
  have X4b := hid (show Bx w2 w.heap.size 4 (.bool false) from hf2.heap X4.out not_false)
  clear hf2 X4
  obtain ⟨rb, hrb⟩ : ∃ rb, (decide (m.length ≤ 50) && m.all V.right) = rb := ⟨_, rfl⟩
  rw [hrb]
  have HRB := hid hrb
  clear hrb
  cases rb
  · have d4 := X4b.out.cell
    have z4 := X4b.out.frozen
    have X9 := hid (X4b.out.set (.bool true))
    have F9 := hid (F2.out.setCell (p := ⟨w.heap.size, 0, none⟩) (.inr (Nat.le_refl _)) (.bool true))
    go_wp2_with fail
    exact leave0 (results_cell1 rfl rfl X9.out) ⟨rfl, F9.out⟩
  go_wp2_with fail
  refine (HRV.out w2 F2.out).mono ?_
  rintro e w3 ⟨v3, rfl, hf3, hvl3⟩
  obtain ⟨a3, c3, u3, rfl, -⟩ := id hvl3
  have F4 := hid (((F2.out.trans' hf3).alloc (.cells #[.slice a3 m.length c3] 22)).alloc (.cells #[.int .i64 0] 3))
  have X4c := hid (show Bx ((w3.alloc (.cells #[.slice a3 m.length c3] 22)).alloc (.cells #[.int .i64 0] 3)) w.heap.size 4 (.bool false) from X4b.out.fr (((hf3.trans' (Fr.refl _ _)).alloc _).alloc _) not_false)
  have X6 := hid (show Bx ((w3.alloc (.cells #[.slice a3 m.length c3] 22)).alloc (.cells #[.int .i64 0] 3)) w3.heap.size 22 (.slice a3 m.length c3) from (Bx.new w3 _ _).fr ((Fr.refl (fun _ => False) _).alloc _) not_false)
  have X7 := hid (show Bx ((w3.alloc (.cells #[.slice a3 m.length c3] 22)).alloc (.cells #[.int .i64 0] 3)) (w3.heap.size + 1) 3 (.int .i64 0) from by
    have := Bx.new (w3.alloc (.cells #[.slice a3 m.length c3] 22)) 3 (.int .i64 0)
    rwa [World.size_alloc] at this)
  have V3 := hid ((hvl3.mono (E := fun k => k < w3.heap.size) fun k hk _ => hk).frame (((Fr.refl (fun _ => False) w3).alloc (.cells #[.slice a3 m.length c3] 22)).alloc (.cells #[.int .i64 0] 3)) fun _ _ => id)
  have H34 := hid (show w.heap.size < w3.heap.size from Nat.lt_of_lt_of_le X4b.out.lt hf3.size)
  have HL4 := hid (F1.out.size)
  clear hf3 hvl3 X4b
  go_upto_region 8 with fail
  generalize hw4 : (w3.alloc (.cells #[.slice a3 m.length c3] 22)).alloc (.cells #[.int .i64 0] 3) = w4 at *
  clear hw4
  generalize w3.heap.size = B6 at *
  have HN := H34
  go_wp2_with fail
  refine (HEA.out w4 _ F4.out fun _ => id).mono ?_
  rintro e w5 ⟨B, v2, rfl, hf5, hB, hB1, hcb, hvl2⟩
  have HIT2 := hid (HIT.out _ _ _ _ hB hB1 hcb hvl2)
  have F5 := hid (F4.out.trans' hf5)
  have Y4 := hid (X4c.out.fr hf5 not_false)
  have Y6 := hid (X6.out.fr hf5 not_false)
  have Y7 := hid (X7.out.fr hf5 not_false)
  have V5 := hid (V3.out.frame hf5 fun _ _ => id)
  have HS45 := hid hf5.size
  have L4 := hid X4c.out.lt; have L6 := hid X6.out.lt; have L7 := hid X7.out.lt
  clear hf5 hB hB1 hcb hvl2 X4c X6 X7 V3
  go_wp2_with fail
  refine range_law (gf := 42) (lb := #[.pointer (some ⟨B, 0, none⟩)]) (encs := encE) (B0 := w4.heap.size) rfl (enters_of Try.func42 (by kernel_rfl) rfl) HS45.out (fun _ => rfl) HIT2.out
    (fun pre W => Fr (fun q => q = B6 + 1) w5 W ∧ Bx W (B6 + 1) 3 (.int .i64 pre.length)) (fun _ _ _ => False)
    (fun pre X Y _ h hf => ⟨h.1.trans hf (fun _ _ h => h) (fun k hk e => by omega), h.2.fr hf (by have := L7.out; have := HS45.out; omega)⟩) (fun _ _ _ _ h _ => h.elim) ⟨Fr.refl _ _, Y7.out⟩ ?round ?done ?stop
  case stop => exact fun _ _ _ _ h => h.elim
  case round =>
    rintro l pre ⟨i, y, u⟩ W ⟨hfI, hx7⟩ ⟨hi, hmy, hvy, xs, hoy⟩ hsz
    obtain rfl : i = pre.length := hi
    replace hmy : m[pre.length]? = some y := hmy
    replace hvy : VIn (fun b => w5.heap.size + 2 ≤ b ∧ Soft W b) W y u := hvy
    have hym := (List.getElem?_eq_some_iff.1 hmy).1
    have hlt : (pre.length : Int) < m.length := by omega
    obtain ⟨vl, rfl, hvl⟩ := hvy.open
    obtain ⟨a9, c9, u9, rfl, -⟩ := id hvl
    have VW := V5.out.frame hfI (fun q hq e => by omega)
    obtain ⟨au, cu, uu, eu, -, -, -, hbu, hiu⟩ := VW
    simp only [Value.slice.injEq] at eu
    obtain ⟨rfl, -, rfl⟩ := eu
    obtain ⟨b, o, y2, va, cc, rfl, hbB, hy2, hv2, e0, e1, e2, e3⟩ := VL.elem hbu hiu pre.length (by omega)
    obtain rfl : y2 = y := by rw [hmy] at hy2; exact (Option.some.inj hy2).symm
    have F1w := hid ((Fr.refl (fun _ => False) W).alloc (.cells #[.int .i64 y2.k, .int .i64 y2.n, .string y2.s, .slice a9 y2.l.length c9] 30))
    have G1 := hid (heap_alloc_new W (.cells #[.int .i64 y2.k, .int .i64 y2.n, .string y2.s, .slice a9 y2.l.length c9] 30))
    have HSI := hid (fun (w9 : World) (hf9 : Fr (fun k => k = w5.heap.size + 1) W w9) => rsame_refl y2.size y2 (Nat.le_refl _) _ _ w9 _ _ (hvy.frame hf9 fun q hq e => by omega) (hv2.frame hf9 fun q hq e => by have := L6.out; have := HS45.out; omega))
    have hoy' : W.ownsRow (w5.heap.size + 2) 30 4 (.slice a9 y2.l.length c9) y2.l.length xs := hoy
    have HOY := hid hoy'
    have HFI := hid hfI; have HX7 := hid hx7; have HSZ := hid hsz
    have E0 := hid e0; have E1 := hid e1; have E2 := hid e2; have E3 := hid e3; have HBB := hid hbB
    clear hbu hiu hy2 hv2 hvl hmy hoy hoy' hfI hx7 hsz e0 e1 e2 e3 hbB hvy hym
    dsimp only [encE]
    gi_wp2_with fail
    refine ⟨F1w.out, fun w6 hf6 hs6 => ?_⟩
    have F16 := hid ((F1w.out.mono (T := fun k => k = w5.heap.size + 1) fun _ _ h => h.elim).trans' hf6)
    have G6 := hid (hf6.heap G1.out (by have := HSZ.out; omega))
    have Z7 := hid (HX7.out.fr F16.out (by have := L7.out; have := HS45.out; omega))
    have Z6 := hid ((Y6.out.fr HFI.out (by omega)).fr F16.out (by have := L6.out; have := HS45.out; omega))
    have HOZ := hid (F16.out.own HOY.out (fun q hq => by have := (HOY.out.lt q hq).1; omega))
    have HWB := hid (show w5.heap.size + 2 ≤ W.heap.size from HSZ.out)
    have J0 := hid (F16.out.cell E0.out (by have := HBB.out; have := L6.out; have := HS45.out; simp only; omega))
    have J1 := hid (F16.out.cell E1.out (by have := HBB.out; have := L6.out; have := HS45.out; simp only; omega))
    have J2 := hid (F16.out.cell E2.out (by have := HBB.out; have := L6.out; have := HS45.out; simp only; omega))
    have J3 := hid (F16.out.cell E3.out (by have := HBB.out; have := L6.out; have := HS45.out; simp only; omega))
    clear hf6 hs6
    generalize W.heap.size = BV at *
    have d7 := Z7.out.cell
    gi_wp2_with fail
    clear d7
    have D0 := hid (show w6.cell? ⟨BV, 0, none⟩ = some (.int .i64 y2.k) by rw [cell_of_row _ _ 0 _ _ _ G6.out]; rfl)
    have D1 := hid (show w6.cell? ⟨BV, 1, none⟩ = some (.int .i64 y2.n) by rw [cell_of_row _ _ 1 _ _ _ G6.out]; rfl)
    have D2 := hid (show w6.cell? ⟨BV, 2, none⟩ = some (.string y2.s) by rw [cell_of_row _ _ 2 _ _ _ G6.out]; rfl)
    have D3 := hid (show w6.cell? ⟨BV, 3, none⟩ = some (.slice a9 y2.l.length c9) by rw [cell_of_row _ _ 3 _ _ _ G6.out]; rfl)
    have hwr : IntKind.i64.wrap ((pre.length : Int) + 1) = (pre.length : Int) + 1 := IntWalk.i64_in _ (by omega)
    have hqn : (((pre.length : Int) + 1) != ((pre.length : Int) + 1)) = false := by simp
    have hdl : decide (m.length ≤ pre.length) = false := decide_eq_false (by omega)
    refine rd_region_cls (fun w' => Fr (fun _ => False) w6 w') (by kernel_rfl) (by kernel_rfl) (Fr.refl _ _).drew (fun _ _ h => h) (by kernel_rfl) ?_
    (refine q_take ?_ (by kernel_rfl) ?_ ?_; rotate_left; (· intro w' hS; go_simp; try with_reducible rfl); (try simp only [Act.put, List.setIfInBounds_toArray, List.set_cons_zero, List.set_cons_succ]))
    (refine q_take ?_ (by kernel_rfl) ?_ ?_; rotate_left; (· intro w' hS; have d7 := (Z7.out.fr hS not_false).cell; go_simp; try with_reducible rfl); try simp only [Act.put, List.setIfInBounds_toArray, List.set_cons_zero, List.set_cons_succ])
    iterate 3 (refine q_take ?_ (by kernel_rfl) ?_ ?_; rotate_left; (· intro w' hS; go_simp; try with_reducible rfl); (try simp only [Act.put, List.setIfInBounds_toArray, List.set_cons_zero, List.set_cons_succ]))
    (refine q_take ?_ (by kernel_rfl) ?_ ?_; rotate_left; (· intro w' hS; have d7 := (Z7.out.fr hS not_false).cell; go_simp; try with_reducible rfl); try simp only [Act.put, List.setIfInBounds_toArray, List.set_cons_zero, List.set_cons_succ])
    (refine q_take ?_ (by kernel_rfl) ?_ ?_; rotate_left; (· intro w' hS; have d6 := (Z6.out.fr hS not_false).cell; go_simp; try with_reducible rfl); try simp only [Act.put, List.setIfInBounds_toArray, List.set_cons_zero, List.set_cons_succ])
    iterate 4 (refine q_take ?_ (by kernel_rfl) ?_ ?_; rotate_left; (· intro w' hS; go_simp; try with_reducible rfl); (try simp only [Act.put, List.setIfInBounds_toArray, List.set_cons_zero, List.set_cons_succ]))
    (refine q_take ?_ (by kernel_rfl) ?_ ?_; rotate_left; (· intro w' hS; have g0 := hS.cell D0.out not_false; have g1 := hS.cell D1.out not_false; have g2 := hS.cell D2.out not_false; have g3 := hS.cell D3.out not_false; go_simp; try with_reducible rfl); try simp only [Act.put, List.setIfInBounds_toArray, List.set_cons_zero, List.set_cons_succ])
    (refine q_take ?_ (by kernel_rfl) ?_ ?_; rotate_left; (· intro w' hS; have d6 := (Z6.out.fr hS not_false).cell; go_simp; try with_reducible rfl); try simp only [Act.put, List.setIfInBounds_toArray, List.set_cons_zero, List.set_cons_succ])
    (refine q_take ?_ (by kernel_rfl) ?_ ?_; rotate_left; (· intro w' hS; have d7 := (Z7.out.fr hS not_false).cell; go_simp; try with_reducible rfl); try simp only [Act.put, List.setIfInBounds_toArray, List.set_cons_zero, List.set_cons_succ])
    (refine q_take ?_ (by kernel_rfl) ?_ ?_; rotate_left; (· intro w' hS; go_simp; try with_reducible rfl); (try simp only [Act.put, List.setIfInBounds_toArray, List.set_cons_zero, List.set_cons_succ]))
    (refine q_take ?_ (by kernel_rfl) ?_ ?_; rotate_left; (· intro w' hS; have g0 := hS.cell J0.out not_false; have g1 := hS.cell J1.out not_false; have g2 := hS.cell J2.out not_false; have g3 := hS.cell J3.out not_false; go_simp; try with_reducible rfl); try simp only [Act.put, List.setIfInBounds_toArray, List.set_cons_zero, List.set_cons_succ])
    (refine q_call ?_ ?_ (by kernel_rfl) ?_ ?_; rotate_left 2; (· intro w' hS; go_simp; first | with_reducible rfl | (constructor <;> with_reducible rfl)); (refine ⟨_, fun w' hw => (HSI.out w' (F16.out.trans' (hw.mono fun _ _ h => h.elim))).mono fun _ _ h => ⟨h.1, hw.trans' h.2⟩, ?_⟩); (try simp only [Act.put, List.setIfInBounds_toArray, List.set_cons_zero, List.set_cons_succ]))
    iterate 2 (refine q_take ?_ (by kernel_rfl) ?_ ?_; rotate_left; (· intro w' hS; go_simp; try with_reducible rfl); (try simp only [Act.put, List.setIfInBounds_toArray, List.set_cons_zero, List.set_cons_succ]))
    refine q_end (fun w8 hw => ?_)
    have F68 := hid hw
    have d3 := hw.cell D3.out not_false
    clear hw
    have hend : ∀ w9 : World, Fr (fun q => q < w4.heap.size ∨ w5.heap.size + 2 ≤ q) w6 w9 → Bx w9 (B6 + 1) 3 (.int .i64 pre.length) → Fr (fun q => q = B6 + 1) w5 w9 → ∀ a' : Act,
        bodyQ w4.heap.size w5.heap.size (fun pre W => Fr (fun q => q = B6 + 1) w5 W ∧ Bx W (B6 + 1) 3 (.int .i64 pre.length)) (fun _ _ _ => False) (pre ++ [(pre.length, y2, #[.int .i64 y2.k, .int .i64 y2.n, .string y2.s, .slice a9 y2.l.length c9])]) w6 .normal a' (w9.setCell ⟨B6 + 1, 0, none⟩ (.int .i64 ((pre.length : Int) + 1))) := fun w9 h1 h2 h3 a' => by
      refine ⟨h1.setCell (p := ⟨B6 + 1, 0, none⟩) (.inl (.inl L7.out)) _, h3.setCell (p := ⟨B6 + 1, 0, none⟩) (.inl rfl) _, ?_⟩
      have := h2.set (.int .i64 ((pre.length : Int) + 1))
      simpa using this
    have HEND := hid hend
    have F58 := hid ((HFI.out.trans F16.out (U := fun q => q = B6 + 1) (fun _ _ h => h) (fun q hq e => by omega)).trans' (F68.out.mono fun _ _ h => h.elim))
    clear hend
    by_cases hl0 : 0 < y2.l.length
    rotate_left
    · have hl1 : y2.l.length = 0 := by omega
      have q5 : decide (0 < y2.l.length) = false := decide_eq_false hl0
      have d7 := (Z7.out.fr F68.out not_false).cell
      have z7 := (Z7.out.fr F68.out not_false).frozen
      have HE := hid (HEND.out w8 (F68.out.mono fun _ _ h => h.elim) (Z7.out.fr F68.out not_false) F58.out)
      gi_wp2_with fail
      exact HE.out _
    · have q5 : decide (0 < y2.l.length) = true := decide_eq_true hl0
      have HOW := hid (F68.out.own HOZ.out (fun _ _ => id))
      obtain ⟨g, gc, ea, hgb, -⟩ : ∃ g cap, a9 = some ⟨g, 0, none⟩ ∧ w5.heap.size + 2 ≤ g ∧ True := by
        rcases own_heap HOW.out with ⟨e, h0, -⟩ | ⟨g, cap, e, hb, -⟩
        · omega
        · simp only [Value.slice.injEq] at e; exact ⟨g, cap, e.1, hb, trivial⟩
      subst ea
      have HGB := hid hgb
      clear hgb
      have hl0I : (0 : Int) < y2.l.length := by omega
      gi_wp2_with fail
      clear d3
      refine rd_region_ord [(0, 0), (1, 0), (2, 1), (3, 1), (4, 1)] (fun w' => Fr (fun _ => False) w8 w') (by kernel_rfl) (by kernel_rfl) (by kernel_rfl) rfl (fun _ _ d _ _ h => by cases d <;> exact h) (Fr.refl _ _).drew (fun _ _ h => h) (by kernel_rfl) ?_
      (refine wpO_take ?_ rfl (by kernel_rfl) ?_ ?_; rotate_left; (· intro w' hS; go_simp; try with_reducible rfl); try simp only [Act.put, List.setIfInBounds_toArray, List.set_cons_zero, List.set_cons_succ])
      (refine wpO_take ?_ rfl (by kernel_rfl) ?_ ?_; rotate_left; (· intro w' hS; have d3 := (F68.out.trans' hS).cell D3.out not_false; go_simp; try with_reducible rfl); try simp only [Act.put, List.setIfInBounds_toArray, List.set_cons_zero, List.set_cons_succ])
      refine wpO_run rfl (by kernel_rfl) (fun K hK => ?_); go_simp
      refine (vS_any _ _).mono ?_
      rintro e w9 ⟨rfl, hf9⟩
      have F89 := hid ((Fr.refl (fun _ => False) w8).drew.trans' hf9)
      have HO9 := hid (F89.out.own HOW.out (fun _ _ => id))
      obtain ⟨⟨z0, hz0⟩, ⟨z1, hz1⟩, ⟨z2, hz2⟩, ⟨z3, hz3⟩, hzf, -, -, hf10⟩ := own_cell4 HO9.out 0 hl0 (.int .i64 2) (.int .i64 0) (.string ⟨#[111, 116, 104, 101, 114]⟩) (.slice none 0 0)
      simp only [Nat.zero_mul, Nat.zero_add] at hz0 hz1 hz2 hz3 hf10
      have HF10 := hid hf10
      clear hf9 hf10
      refine hK _ _ (fun _ => F89.out) ?_
      clear hK K
      try simp only [Act.put, List.setIfInBounds_toArray, List.set_cons_zero, List.set_cons_succ]
      (refine wpO_run rfl (by kernel_rfl) (fun K hK => ?_); go_simp; refine hK _ _ (fun _ => F89.out) ?_; clear hK K; try simp only [Act.put, List.setIfInBounds_toArray, List.set_cons_zero, List.set_cons_succ])
      (refine wpO_run rfl (by kernel_rfl) (fun K hK => ?_); go_simp; refine hK _ _ (last_skip (by kernel_rfl)) ?_; clear hK K; try simp only [Act.put, List.setIfInBounds_toArray, List.set_cons_zero, List.set_cons_succ])
      refine wpO_end ?_
      generalize (((w9.setCell ⟨g, 0, none⟩ (.int .i64 2)).setCell ⟨g, 1, none⟩ (.int .i64 0)).setCell ⟨g, 2, none⟩ (.string ⟨#[111, 116, 104, 101, 114]⟩)).setCell ⟨g, 3, none⟩ (.slice none 0 0) = w10 at *
      clear hz0 hz1 hz2 hz3 hzf
      have hgL : B6 + 1 ≠ g := by have := HGB.out; have := L7.out; have := HS45.out; omega
      have Z10 := hid ((Z7.out.fr (F68.out.trans' F89.out) not_false).fr HF10.out hgL)
      have F610 := hid ((F68.out.trans' F89.out).trans HF10.out (U := fun q => q < w4.heap.size ∨ w5.heap.size + 2 ≤ q) (fun _ _ h => h.elim) (fun q _ e => .inr (by have := HGB.out; omega)))
      have F510 := hid ((F58.out.trans' (F89.out.mono fun _ _ h => h.elim)).trans HF10.out (U := fun q => q = B6 + 1) (fun _ _ h => h) (fun q hq e => by have := HGB.out; omega))
      have HE := hid (HEND.out w10 F610.out Z10.out F510.out)
      have d7 := Z10.out.cell
      have z7 := Z10.out.frozen
      gi_wp2_with fail
      exact HE.out _
  case done =>
    rintro xs W hxs ⟨hfI, hx7⟩ hsz hD
    replace hxs : xs.length = m.length := hxs
    rw [hxs] at hx7
    have d7 := hx7.cell
    have q0 : ((m.length : Int) != (m.length : Int)) = false := by simp
    have Z4 := hid (Y4.out.fr hfI (by have := HN.out; omega))
    have FW := hid (F5.out.trans hfI (U := fun _ => False) (fun _ _ h => h) (fun q hq e => by have := HN.out; omega))
    have hBD : w.heap.size < w5.heap.size := Nat.lt_of_lt_of_le L4.out HS45.out
    by_cases hm0 : m.length = 0
    · have q1 : ((m.length : Int) == 0) = true := by rw [hm0]; rfl
      have d4 := Z4.out.cell
      have z4 := Z4.out.frozen
      have X9 := hid (Z4.out.set (.bool true))
      have F9 := hid (FW.out.setCell (p := ⟨w.heap.size, 0, none⟩) (.inr (Nat.le_refl _)) (.bool true))
      have hD9 : (W.setCell ⟨w.heap.size, 0, none⟩ (.bool true)).heap[w5.heap.size]? = some (.deferred (some [])) := ((Fr.refl (fun k => k = w.heap.size) W).setCell (p := ⟨w.heap.size, 0, none⟩) (.inl rfl) _).heap hD (by omega)
      go_wp2_with fail
      exact leave_mark hD9 (leave0 (results_cell1 rfl rfl (X9.out.fr (put1 _ _ _) (by omega))) ⟨rfl, F9.out.putObj (.inr (by omega)) _⟩)
    have q1 : ((m.length : Int) == 0) = false := by rw [beq_eq_false_iff_ne]; omega
    have HSM := hid (fun (w9 : World) (S : Nat → Prop) (hf9 : Fr S w5 w9) (hS : ∀ q, S q → q = B6 + 1 ∨ w5.heap.size ≤ q) (hS0 : ∀ q, S q → w.heap.size < q) (hf0 : Fr (fun _ => False) w w9) => rsames_of (sizeL m) (rsame_refl (sizeL m)) m (Nat.le_refl _) _ _ w9 _ _ (HVL.out.frame hf0 fun _ _ => id) (V5.out.frame hf9 fun q hq h => by have := hS q h; have := L6.out; have := HS45.out; omega))
    have Z6 := hid (Y6.out.fr hfI (by omega))
    have HFI := hid hfI; have HD := hid hD; have HBD := hid hBD; have HSZ := hid hsz
    clear hfI hx7 hD hBD hsz q0
    go_wp2_with fail
    refine (number_any at_ m.length W (by omega) (by omega) HB1.out HC1.out).mono ?_
    rintro e W' ⟨rfl, rfl⟩
    obtain ⟨k, hk⟩ : ∃ k : Nat, at_ % (m.length : Int) = k := ⟨(at_ % (m.length : Int)).toNat, by have := Int.emod_nonneg at_ (show (m.length : Int) ≠ 0 by omega); omega⟩
    have hkl : k < m.length := by have := Int.emod_lt_of_pos at_ (show (0 : Int) < m.length by omega); omega
    rw [hk]
    clear hk d7
    have FA := hid (((Fr.refl (fun _ => False) W).alloc (.cells #[.int .i64 k] 3)).alloc (.cells #[.int .i64 0] 3))
    have XK := hid (show Bx ((W.alloc (.cells #[.int .i64 k] 3)).alloc (.cells #[.int .i64 0] 3)) W.heap.size 3 (.int .i64 k) from (Bx.new W _ _).fr ((Fr.refl (fun _ => False) _).alloc _) not_false)
    have XJ := hid (show Bx ((W.alloc (.cells #[.int .i64 k] 3)).alloc (.cells #[.int .i64 0] 3)) (W.heap.size + 1) 3 (.int .i64 0) from by
      have := Bx.new (W.alloc (.cells #[.int .i64 k] 3)) 3 (.int .i64 0)
      rwa [World.size_alloc] at this)
    go_upto_region 22 with fail
    generalize hw7 : (W.alloc (.cells #[.int .i64 k] 3)).alloc (.cells #[.int .i64 0] 3) = w7 at *
    clear hw7
    have FW7 := hid (FW.out.trans' FA.out)
    go_wp2_with fail
    refine (HEA.out w7 _ FW7.out fun _ => id).mono ?_
    rintro e w8 ⟨B', v2', rfl, hf8, hB', hB1', hcb', hvl2'⟩
    have HIT3 := hid (HIT.out _ _ _ _ hB' hB1' hcb' hvl2')
    have F78 := hid hf8
    have YK := hid (XK.out.fr hf8 not_false); have YJ := hid (XJ.out.fr hf8 not_false)
    have LK := hid XK.out.lt; have LJ := hid XJ.out.lt
    clear hf8 hB' hB1' hcb' hvl2'
    go_wp2_with fail
    refine range_law (gf := 42) (lb := #[.pointer (some ⟨B', 0, none⟩)]) (encs := encE) (B0 := w7.heap.size) rfl (enters_of Try.func42 (by kernel_rfl) rfl) F78.out.size (fun _ => rfl) HIT3.out
      (fun pre W9 => Fr (fun q => q = W.heap.size + 1) w8 W9 ∧ Bx W9 (W.heap.size + 1) 3 (.int .i64 pre.length) ∧ pre.length ≤ k) (fun c pre W9 => c = .exit 2 ∧ Fr (fun q => q = W.heap.size + 1) w8 W9 ∧ Bx W9 (W.heap.size + 1) 3 (.int .i64 k))
      (fun pre X Y _ h hf => ⟨h.1.trans hf (fun _ _ h => h) (fun k hk e => by omega), h.2.1.fr hf (by have := LJ.out; have := F78.out.size; omega), h.2.2⟩)
      (fun c pre X Y h hf => ⟨h.1, h.2.1.trans hf (fun _ _ h => h) (fun k hk e => by omega), h.2.2.fr hf (by have := LJ.out; have := F78.out.size; omega)⟩) ⟨Fr.refl _ _, YJ.out, Nat.zero_le _⟩ ?round ?done ?stop
    case done =>
      rintro xs W9 hxs ⟨-, -, hle⟩ - -
      have hxs' : xs.length = m.length := hxs
      omega
    case round =>
      rintro l pre ⟨i, y, u⟩ W9 ⟨hf9, hj9, hle⟩ - hsz9
      dsimp only [encE]
      gi_wp2_with fail
      refine ⟨Fr.refl _ _, fun w10 hf10 hs10 => ?_⟩
      have J10 := hid (hj9.fr hf10 (by have := LJ.out; have := F78.out.size; omega))
      have K10 := hid ((YK.out.fr hf9 (by omega)).fr hf10 (by have := LK.out; have := F78.out.size; omega))
      have F10 := hid (hf9.trans hf10 (U := fun q => q = W.heap.size + 1) (fun _ _ h => h) (fun q hq e => by omega))
      clear hf9 hj9 hf10 hs10
      have dj := J10.out.cell
      have zj := J10.out.frozen
      have dk := K10.out.cell
      by_cases hek : pre.length = k
      · have q5 : ((pre.length : Int) == (k : Int)) = true := by rw [hek]; exact beq_self_eq_true _
        gi_wp2_with fail
        refine ⟨Fr.refl _ _, rfl, F10.out, ?_⟩
        rw [← hek]
        exact J10.out
      · have q5 : ((pre.length : Int) == (k : Int)) = false := by rw [beq_eq_false_iff_ne]; omega
        have hwr : IntKind.i64.wrap ((pre.length : Int) + 1) = (pre.length : Int) + 1 := IntWalk.i64_in _ (by omega)
        gi_wp2_with fail
        refine ⟨(Fr.refl _ _).setCell (p := ⟨W.heap.size + 1, 0, none⟩) (.inl (.inl LJ.out)) _, F10.out.setCell (p := ⟨W.heap.size + 1, 0, none⟩) (.inl rfl) _, ?_, by simp; omega⟩
        have := J10.out.set (.int .i64 ((pre.length : Int) + 1))
        simpa using this
    case stop =>
      rintro c pre W9 - ⟨rfl, hf9, hj9⟩ hsz9 hD9
      have K9 := hid (YK.out.fr hf9 (by omega))
      have F59 := hid (((HFI.out.trans' (FA.out.mono fun _ _ h => h.elim)).trans' (F78.out.mono fun _ _ h => h.elim)).trans hf9 (U := fun q => q = B6 + 1 ∨ q = W.heap.size + 1) (fun _ _ h => .inl h) (fun _ _ h => .inr h))
      have F09 := hid ((FW7.out.trans' F78.out).trans hf9 (U := fun _ => False) (fun _ _ h => h) (fun q hq e => by have := HBD.out; have := HSZ.out; omega))
      have F79 := hid (((FA.out.trans' F78.out).mono (T := fun q => q = W.heap.size + 1) fun _ _ h => h.elim).trans' hf9)
      have M4 := hid (Z4.out.fr F79.out (by have := HBD.out; have := HSZ.out; omega))
      have M6 := hid (Z6.out.fr F79.out (by have := L6.out; have := HS45.out; have := HSZ.out; omega))
      have HSS := hid (HSM.out W9 _ F59.out (fun q h => by rcases h with h | h; exact .inl h; exact .inr (by have := HSZ.out; omega)) (fun q h => by have := HN.out; have := HBD.out; have := HSZ.out; omega) F09.out)
      have HD1 := hid (F79.out.heap HD.out (by have := HSZ.out; omega))
      have HD2 := hid hD9
      have dj := hj9.cell
      have dk := K9.out.cell
      have d6 := M6.out.cell
      have q5 : ((k : Int) == (k : Int)) = true := beq_self_eq_true _
      clear hf9 hsz9 hD9
      go_wp2_with fail
      refine HSS.out.mono ?_
      rintro e wa ⟨rfl, hfa⟩
      have HFa := hid hfa
      have d4 := (M4.out.fr hfa not_false).cell
      have z4 := (M4.out.fr hfa not_false).frozen
      have X9 := hid ((M4.out.fr hfa not_false).set (.bool true))
      have F9 := hid ((F09.out.trans' hfa).setCell (p := ⟨w.heap.size, 0, none⟩) (.inr (Nat.le_refl _)) (.bool true))
      have hS9 : Fr (fun q => q = w.heap.size) W9 (wa.setCell ⟨w.heap.size, 0, none⟩ (.bool true)) := (hfa.mono (T := fun q => q = w.heap.size) fun _ _ h => h.elim).setCell (p := ⟨w.heap.size, 0, none⟩) (.inl rfl) _
      have hl1 : w.heap.size < w5.heap.size := HBD.out
      have hl2 : w5.heap.size < w8.heap.size := by have := HSZ.out; have := LK.out; have := F78.out.size; omega
      have hDa := hid (hS9.heap HD2.out (by omega))
      have hDb := hid (hS9.heap HD1.out (by omega))
      clear hfa hS9
      go_wp2_with fail
      exact leave_mark hDa.out (leave_mark ((put1 _ _ _).heap hDb.out (by omega)) (leave0 (results_cell1 rfl rfl ((X9.out.fr (put1 _ _ _) (by omega)).fr (put1 _ _ _) (by omega))) ⟨rfl, (F9.out.putObj (.inr (by omega)) _).putObj (.inr (by omega)) _⟩))
end Go.Proofs.Ytebanmigaikhhaa
