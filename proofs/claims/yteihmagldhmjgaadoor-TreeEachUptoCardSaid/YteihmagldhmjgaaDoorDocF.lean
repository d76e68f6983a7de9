/- inglenookref6.odd: what is first amiss with a node, as the document walks it, is what the program's walk tells. -/
import Derived.Test.YteihmagldhmjgaaDoorDocE
import Derived.Test.YteihmagldhmjgaaDoorDocC
import Derived.Test.YteihmagldhmjgaaDoorSeeAt
import Derived.Deep.CutBlock
import Derived.Test.YteihmagldhmjgaaDoorSteps
namespace Go.Proofs.YteihmagldhmjgaaDoor
open Go.RowKit

theorem set7 {w : World} {g : Nat} (hg : w.heap[g]? = some (.cells #[.int .i64 0, .bool false, .int .i64 0, .int .i64 0, .int .i64 0, .string ⟨#[]⟩, .slice none 0 0] 36)) (fc : Int) (fp : Bool) (fl : Int) : (((((((w.setCell ⟨g, 0, none⟩ (.int .i64 fc)).setCell ⟨g, 1, none⟩ (.bool fp)).setCell ⟨g, 2, none⟩ (.int .i64 fl)).setCell ⟨g, 3, none⟩ (.int .i64 0)).setCell ⟨g, 4, none⟩ (.int .i64 0)).setCell ⟨g, 5, none⟩ (.string ⟨#[]⟩)).setCell ⟨g, 6, none⟩ (.slice none 0 0)).heap[g]? = some (.cells #[.int .i64 fc, .bool fp, .int .i64 fl, .int .i64 0, .int .i64 0, .string ⟨#[]⟩, .slice none 0 0] 36) ∧ Fr (fun q => q = g) w (((((((w.setCell ⟨g, 0, none⟩ (.int .i64 fc)).setCell ⟨g, 1, none⟩ (.bool fp)).setCell ⟨g, 2, none⟩ (.int .i64 fl)).setCell ⟨g, 3, none⟩ (.int .i64 0)).setCell ⟨g, 4, none⟩ (.int .i64 0)).setCell ⟨g, 5, none⟩ (.string ⟨#[]⟩)).setCell ⟨g, 6, none⟩ (.slice none 0 0)) ∧ w.cell? ⟨g, 0, none⟩ = some (.int .i64 0) ∧ w.cell? ⟨g, 1, none⟩ = some (.bool false) ∧ w.cell? ⟨g, 2, none⟩ = some (.int .i64 0) ∧ w.cell? ⟨g, 3, none⟩ = some (.int .i64 0) ∧ w.cell? ⟨g, 4, none⟩ = some (.int .i64 0) ∧ w.cell? ⟨g, 5, none⟩ = some (.string ⟨#[]⟩) ∧ w.cell? ⟨g, 6, none⟩ = some (.slice none 0 0) ∧ ∀ i, w.frozen? ⟨g, i, none⟩ = false := by
  have hR := (setCell_row 6 (.slice none 0 0) (setCell_row 5 (.string ⟨#[]⟩) (setCell_row 4 (.int .i64 0) (setCell_row 3 (.int .i64 0) (setCell_row 2 (.int .i64 fl) (setCell_row 1 (.bool fp) (setCell_row 0 (.int .i64 fc) hg)))))))
  simp only [List.setIfInBounds_toArray, List.set_cons_zero, List.set_cons_succ] at hR
  refine ⟨hR, ((((((((Fr.refl (fun q => q = g) w).setCell (p := ⟨g, 0, none⟩) (.inl rfl) (.int .i64 fc)).setCell (p := ⟨g, 1, none⟩) (.inl rfl) (.bool fp)).setCell (p := ⟨g, 2, none⟩) (.inl rfl) (.int .i64 fl)).setCell (p := ⟨g, 3, none⟩) (.inl rfl) (.int .i64 0)).setCell (p := ⟨g, 4, none⟩) (.inl rfl) (.int .i64 0)).setCell (p := ⟨g, 5, none⟩) (.inl rfl) (.string ⟨#[]⟩)).setCell (p := ⟨g, 6, none⟩) (.inl rfl) (.slice none 0 0)), ?_, ?_, ?_, ?_, ?_, ?_, ?_, fun i => frozen_of_row _ _ i _ _ hg⟩
  all_goals
    rw [cell_of_row _ _ _ _ _ _ hg]
    rfl
def faultQ (q : Nat × Int) : Value := if q.1 = 0 then faultV 0 false 0 else faultV q.1 true q.2
theorem stands_of_own {x : Nd} {role : Int} {loop : Bool} (h : pOwn x role loop = 0) : pStands x.op role = true ∧ pCounts x.op x.l.length = true := by
  constructor
  · cases hs : pStands x.op role
    · exfalso
      have hp : pOwn x role loop = if ownBad (fair1 (pStands x.op role) loop x.op && fairV x.op x.v) (pCounts x.op x.l.length) (pNamed x.op).1 x.s.toList.isEmpty then 103 else if ownBad2 (pNamed x.op).1 (pName x.s) (pNamed x.op).2 x.s.toList.isEmpty then 106 else 0 := rfl
      rw [hp, hs] at h
      simp [fair1, ownBad] at h
    · rfl
  · rcases pOwn_cases x role loop with ⟨-, h'⟩ | h' | h'
    · exact h'
    · omega
    · omega
theorem flag_eq (op role : Int) (n i : Nat) (loop : Bool) (y : Nd) : pWalk y (rW role op i ((pRoles op n).getD i 0)) (dLoop op loop) = pWalk y (rW role op i ((pRoles op n).getD i 0)) (inW op loop (rW role op i ((pRoles op n).getD i 0))) := by
  by_cases h1 : op = 42 ∨ op = 43 ∨ op = 44
  · have hr : (pRoles op n).getD i 0 = 0 ∨ (pRoles op n).getD i 0 = 6 := by
      rcases h1 with rfl | rfl | rfl
      · rcases i with _ | _ | j
        · exact .inl rfl
        · exact .inr rfl
        · exact .inl rfl
      · rcases i with _ | _ | _ | j
        · exact .inl rfl
        · exact .inl rfl
        · exact .inr rfl
        · exact .inl rfl
      · rcases i with _ | _ | j
        · exact .inl rfl
        · exact .inr rfl
        · exact .inl rfl
    have hd : dLoop op loop = true := if_pos h1
    have hlp : pLoops op = true := by rcases h1 with rfl | rfl | rfl <;> rfl
    rw [hd]
    have hrw : rW role op i ((pRoles op n).getD i 0) = 0 ∨ rW role op i ((pRoles op n).getD i 0) = 6 := by
      unfold rW
      split
      · exact .inl rfl
      rw [if_neg (by omega), if_neg (by omega)]
      exact hr
    rcases hrw with e | e
    · rw [e]
      exact (walk_flag y 0 (inW op loop 0) (by decide) (by decide)).symm
    · rw [e]
      unfold inW
      rw [hlp]
      simp
  · have hlp : pLoops op = false := by
      unfold pLoops
      have a : (op == 42) = false := by rw [beq_eq_false_iff_ne]; omega
      have b : (op == 43) = false := by rw [beq_eq_false_iff_ne]; omega
      have c : (op == 44) = false := by rw [beq_eq_false_iff_ne]; omega
      rw [a, b, c]; rfl
    unfold dLoop inW
    rw [if_neg h1, hlp]
    by_cases h2 : op = 48
    · rw [if_pos h2, h2]
      cases loop <;> rfl
    · rw [if_neg h2]
      have e : (op != 48) = true := by simpa using h2
      rw [e]
      cases loop <;> rfl
set_option maxRecDepth 100000 in
set_option maxHeartbeats 1000000 in
theorem dodd_any : ∀ (N : Nat) (x : Nd), x.cnt < N → x.cnt ≤ 1048576 → x.sz ≤ 1099511627776 → ∀ (role : Int), 0 ≤ role → role ≤ 8 → ∀ (loop : Bool) (D : Nat → Prop) (w : World) (u : Array Value), NIn D w x u →
    Calls Tryd.prog 43 #[.agg u, .int .i64 (plc role), .bool loop] w fun e w' => e = .returned (faultQ (pWalk x role loop)) ∧ Fr (fun _ => False) w w' := by
  intro N
  induction N with
  | zero =>
    intro x hN
    omega
  | succ N ih =>
    intro x hN hM hZ role hr0 hr8 loop D w u h
    obtain ⟨va', la', rfl, ⟨va, vc, us1, rfl, hvr⟩, ⟨la, lc, us, rfl, hlc, hlm, hln, hb, hi⟩⟩ := h.open
    have hvl : VL D w x.v.l (.slice va x.v.l.length vc) := ⟨va, vc, us1, rfl, hvr⟩
    have hvlen : x.v.l.length ≤ 9223372036854775807 := Nat.le_trans hvr.1 hvr.2.1
    have hc1 := Nd.cnt_eq x
    have hl1 := len_le_cnt x.l
    have hz1 := Nd.sz_eq x
    have hl : x.l.length ≤ 1048576 := by omega
    have hvx : VIn D w x.v #[.int .i64 x.v.k, .int .i64 x.v.n, .string x.v.s, .slice va x.v.l.length vc] := by
      have := hvl.close x.v.k x.v.n x.v.s
      have e : x.v = .mk x.v.k x.v.n x.v.s x.v.l := by cases x.v; rfl
      rw [← e] at this; exact this
    have HSV := hid (fun w => sv_none x.v.k x.v.n x.v.s va x.v.l.length vc hvlen w)
    have HNV := hid (noV_eq x.v)
    rw [← noV_eq x.v] at HSV
    have HRI := hid (fun w2 (hf : Fr (fun _ => False) w w2) => dright_any x.v (by omega) D w2 _ (hvx.frame hf fun _ _ => not_false))
    have HNA := hid (fun w => dnamed_any x.op x.ln x.v.k x.v.n x.s x.v.s (.slice va x.v.l.length vc) (.slice la x.l.length lc) (by omega) w)
    have HST := hid (fun w => dstands_any x.op role hr0 hr8 w)
    have HCN := hid (fun w => dcounts_any x.op x.l.length (by omega) w)
    have HP1 := hid (fun w => placed_any 103 x.ln (by decide) w)
    have HP2 := hid (fun w => placed_any 106 x.ln (by decide) w)
    have HPO := hid (pOwn_doc x role hr0 hr8 loop)
    have HQ := hid (pWalk_eq x role loop)
    have HPL := hid (show pOwn x role loop = 0 → ∀ i, i < x.l.length → ∀ w, Calls Tryd.prog 64 #[.agg #[.int .i64 x.op, .int .i64 x.ln, .string x.s, .int .i64 x.v.k, .int .i64 x.v.n, .string x.v.s, .slice va x.v.l.length vc, .slice la x.l.length lc], .int .i64 (plc role), .int .i64 i] w fun e w' => e = .returned (.int .i64 (plc (rW role x.op i ((pRoles x.op x.l.length).getD i 0)))) ∧ Fr (fun _ => False) w w' from fun hz i hi w => by
      obtain ⟨h1, h2⟩ := stands_of_own hz
      rw [← dPlace_eq x.op role x.l.length i hr0 hr8 h1 h2 hi]
      exact dplace_any x.op x.ln x.v.k x.v.n x.s x.v.s (.slice va x.v.l.length vc) la x.l.length lc hl (plc role) i hi w)
    have HRR := hid (pRoles_range x.op x.l.length)
    have HRL := hid (show pOwn x role loop = 0 → (pRoles x.op x.l.length).length = x.l.length from fun hz => pRoles_len _ _ (stands_of_own hz).2)
    have hIH : ∀ (k : Nat) (y : Nd), x.l[k]? = some y → ∀ r, 0 ≤ r → r ≤ 8 → ∀ (lp : Bool) (w2 : World) (u : Array Value), NIn D w2 y u → Calls Tryd.prog 43 #[.agg u, .int .i64 (plc r), .bool lp] w2 fun e w' => e = .returned (faultQ (pWalk y r lp)) ∧ Fr (fun _ => False) w2 w' := fun k y hy r h0 h8 lp w2 u hn => by
      have h1 := cntL_mem hy
      have h2 := szL_mem hy
      exact ih y (by omega) (by omega) (by omega) r h0 h8 lp D w2 u hn
    have HIH := hid hIH; have HB := hid hb; have HI := hid hi
    have hlI : (x.l.length : Int) ≤ 1048576 := by omega
    have HFE := hid (fun i y => flag_eq x.op role x.l.length i loop y)
    have HFV := hid (show fairV x.op x.v = if x.op = 1 then litOk x.v else noV x.v from rfl)
    have HLO := hid (show litOk x.v = (x.v.k != 4 && decide (x.v.valid = 0) && (x.v.k != 0 || x.v.n != -9223372036854775808)) from rfl)
    clear ih h hIH hb hi hl hvr hln hlc hlm hc1 hl1 hz1 hN hM hZ us1 hvl hvx hr0 hr8
    generalize hpo : pOwn x role loop = po at *
    generalize pWalk x role loop = q0 at *
    generalize pStands x.op role = st at *
    generalize dCounts x.op x.l.length = cn at *
    generalize fairV x.op x.v = fv at *
    generalize litOk x.v = lo at *
    generalize noV x.v = nv at *
    generalize dNamed x.op x.s = nm at *
    generalize hplc : plc role = own at *
    clear hpo hplc
    have hf0 := ((Fr.refl (fun _ => False) w).alloc (.cells #[.int .i64 x.op, .int .i64 x.ln, .string x.s, .int .i64 x.v.k, .int .i64 x.v.n, .string x.v.s, .slice va x.v.l.length vc, .slice la x.l.length lc] 29)).alloc (.cells #[.int .i64 0, .bool false, .int .i64 0, .int .i64 0, .int .i64 0, .string ⟨#[]⟩, .slice none 0 0] 36)
    have hx0 := ((Fr.refl (fun _ => False) (w.alloc (.cells #[.int .i64 x.op, .int .i64 x.ln, .string x.s, .int .i64 x.v.k, .int .i64 x.v.n, .string x.v.s, .slice va x.v.l.length vc, .slice la x.l.length lc] 29))).alloc (.cells #[.int .i64 0, .bool false, .int .i64 0, .int .i64 0, .int .i64 0, .string ⟨#[]⟩, .slice none 0 0] 36)).heap (heap_alloc_new w (.cells #[.int .i64 x.op, .int .i64 x.ln, .string x.s, .int .i64 x.v.k, .int .i64 x.v.n, .string x.v.s, .slice va x.v.l.length vc, .slice la x.l.length lc] 29)) not_false
    have hz0 := heap_alloc_new (w.alloc (.cells #[.int .i64 x.op, .int .i64 x.ln, .string x.s, .int .i64 x.v.k, .int .i64 x.v.n, .string x.v.s, .slice va x.v.l.length vc, .slice la x.l.length lc] 29)) (.cells #[.int .i64 0, .bool false, .int .i64 0, .int .i64 0, .int .i64 0, .string ⟨#[]⟩, .slice none 0 0] 36)
    rw [show (w.alloc (.cells #[.int .i64 x.op, .int .i64 x.ln, .string x.s, .int .i64 x.v.k, .int .i64 x.v.n, .string x.v.s, .slice va x.v.l.length vc, .slice la x.l.length lc] 29)).heap.size = w.heap.size + 1 by simp] at hz0
    go_enter Tryd.func43, Tryd.ntmps43
    go_upto_region 1 with fail
    generalize hW : (w.alloc (.cells #[.int .i64 x.op, .int .i64 x.ln, .string x.s, .int .i64 x.v.k, .int .i64 x.v.n, .string x.v.s, .slice va x.v.l.length vc, .slice la x.l.length lc] 29)).alloc (.cells #[.int .i64 0, .bool false, .int .i64 0, .int .i64 0, .int .i64 0, .string ⟨#[]⟩, .slice none 0 0] 36) = W at *
    clear hW
    have HF0 := hid hf0; have HX0 := hid hx0; have HZ0 := hid hz0
    clear hf0 hx0 hz0
    have d0 : W.cell? ⟨w.heap.size, 0, none⟩ = some (.int .i64 x.op) := by rw [cell_of_row _ _ 0 _ _ _ HX0.out]; rfl
    have d1 : W.cell? ⟨w.heap.size, 1, none⟩ = some (.int .i64 x.ln) := by rw [cell_of_row _ _ 1 _ _ _ HX0.out]; rfl
    have d2 : W.cell? ⟨w.heap.size, 2, none⟩ = some (.string x.s) := by rw [cell_of_row _ _ 2 _ _ _ HX0.out]; rfl
    have d3 : W.cell? ⟨w.heap.size, 3, none⟩ = some (.int .i64 x.v.k) := by rw [cell_of_row _ _ 3 _ _ _ HX0.out]; rfl
    have d4 : W.cell? ⟨w.heap.size, 4, none⟩ = some (.int .i64 x.v.n) := by rw [cell_of_row _ _ 4 _ _ _ HX0.out]; rfl
    have d5 : W.cell? ⟨w.heap.size, 5, none⟩ = some (.string x.v.s) := by rw [cell_of_row _ _ 5 _ _ _ HX0.out]; rfl
    have d6 : W.cell? ⟨w.heap.size, 6, none⟩ = some (.slice va x.v.l.length vc) := by rw [cell_of_row _ _ 6 _ _ _ HX0.out]; rfl
    have d7 : W.cell? ⟨w.heap.size, 7, none⟩ = some (.slice la x.l.length lc) := by rw [cell_of_row _ _ 7 _ _ _ HX0.out]; rfl
    go_wp2_with fail
    refine (HSV.out W).mono ?_
    rintro e w2 ⟨rfl, hf2⟩
    replace d0 := hf2.cell d0 not_false
    replace d1 := hf2.cell d1 not_false
    replace d2 := hf2.cell d2 not_false
    replace d3 := hf2.cell d3 not_false
    replace d4 := hf2.cell d4 not_false
    replace d5 := hf2.cell d5 not_false
    replace d6 := hf2.cell d6 not_false
    replace d7 := hf2.cell d7 not_false
    have HF2 := hid (HF0.out.trans' hf2)
    have HX2 := hid (hf2.heap HX0.out not_false); have HZ2 := hid (hf2.heap HZ0.out not_false)
    clear hf2
    obtain ⟨o1, ho1⟩ : ∃ b, (x.op == 1) = b := ⟨_, rfl⟩
    go_upto_if 18 with fail
    go_cut [7] from 19 to 39 (fun c wx => c = .bool fv ∧ Hid (Fr (fun _ => False) w2 wx))
    case first =>
      have HR1 := hid (Fr.refl (fun _ => False) w2)
      cases o1
      case false =>
        have ho : x.op ≠ 1 := by simpa using ho1
        have HX := hid (show fv = nv by rw [HFV.out, if_neg ho])
        clear ho
        go_wp2_with fail
        go_meet
        exact ⟨by rw [HX.out], HR1⟩
      case true =>
        have ho : x.op = 1 := by simpa using ho1
        have HX := hid (show fv = lo by rw [HFV.out, if_pos ho])
        clear ho
        have hcell : ∀ j, j < 4 → w2.cell? ⟨w.heap.size, 3 + j, none⟩ = #[.int .i64 x.v.k, .int .i64 x.v.n, .string x.v.s, .slice va x.v.l.length vc][j]? := by
          intro j hj
          rcases j with _ | _ | _ | _ | j
          · exact d3
          · exact d4
          · exact d5
          · exact d6
          · omega
        generalize decide (x.v.valid = 0) = rg at *
        go_wp2_with fail
        refine (HRI.out _ HF2.out).mono ?_
        rintro e w3 ⟨rfl, hf3⟩
        replace d3 := hf3.cell d3 not_false
        replace d4 := hf3.cell d4 not_false
        have HF3 := hid hf3
        clear hf3 hcell d5 d6
        cases rg
        · have HY := hid (show fv = false by rw [HX.out, HLO.out]; simp)
          go_wp2_with fail
          go_meet
          exact ⟨by rw [HY.out], HF3⟩
        cases q4 : (x.v.k != 4)
        · have HY := hid (show fv = false by rw [HX.out, HLO.out, q4]; rfl)
          go_wp2_with fail
          go_meet
          exact ⟨by rw [HY.out], HF3⟩
        cases q0k : (x.v.k != 0)
        · have HY := hid (show fv = (x.v.n != -9223372036854775808) by rw [HX.out, HLO.out, q4, q0k]; rfl)
          go_wp2_with fail
          go_meet
          exact ⟨by rw [HY.out], HF3⟩
        · have HY := hid (show fv = true by rw [HX.out, HLO.out, q4, q0k]; rfl)
          go_wp2_with fail
          go_meet
          exact ⟨by rw [HY.out], HF3⟩
    case rest =>
    obtain ⟨rfl, HFC⟩ := hcut
    obtain ⟨w4, hw4⟩ : ∃ W, W = wc := ⟨wc, rfl⟩
    rw [← hw4] at HFC ⊢
    clear hw4
    replace d0 := HFC.out.cell d0 not_false
    replace d1 := HFC.out.cell d1 not_false
    replace d2 := HFC.out.cell d2 not_false
    replace d3 := HFC.out.cell d3 not_false
    replace d4 := HFC.out.cell d4 not_false
    replace d5 := HFC.out.cell d5 not_false
    replace d6 := HFC.out.cell d6 not_false
    replace d7 := HFC.out.cell d7 not_false
    have HF4 := hid (HF2.out.trans' HFC.out)
    have HX4 := hid (HFC.out.heap HX2.out not_false); have HZ4 := hid (HFC.out.heap HZ2.out not_false)
    go_wp2_with fail
    refine (HNA.out w4).mono ?_
    rintro e w5 ⟨rfl, hf5⟩
    replace d0 := hf5.cell d0 not_false
    replace d1 := hf5.cell d1 not_false
    replace d2 := hf5.cell d2 not_false
    replace d3 := hf5.cell d3 not_false
    replace d4 := hf5.cell d4 not_false
    replace d5 := hf5.cell d5 not_false
    replace d6 := hf5.cell d6 not_false
    replace d7 := hf5.cell d7 not_false
    have HF5 := hid (HF4.out.trans' hf5)
    have HX5 := hid (hf5.heap HX4.out not_false); have HZ5 := hid (hf5.heap HZ4.out not_false)
    clear hf5 HSV HRI HNA
    obtain ⟨aw, haw⟩ : ∃ b, awayB x.op loop = b := ⟨_, rfl⟩
    have HAW := hid haw
    clear haw
    go_upto_region 5 with fail
    go_cut [9] from 42 to 53 (fun c wx => c = .bool aw ∧ w5 = wx)
    case first =>
      have HA := hid (show ((x.op == 45 || x.op == 46) && !loop) = aw from HAW.out)
      cases e45 : (x.op == 45)
      · cases e46 : (x.op == 46)
        · have HY := hid (show aw = false by rw [← HA.out, e45, e46]; rfl)
          go_wp2_with fail
          go_meet
          exact ⟨by rw [HY.out], rfl⟩
        · have HY := hid (show aw = !loop by rw [← HA.out, e45, e46]; rfl)
          go_wp2_with fail
          go_meet
          exact ⟨by rw [HY.out], rfl⟩
      · have HY := hid (show aw = !loop by rw [← HA.out, e45]; rfl)
        go_wp2_with fail
        go_meet
        exact ⟨by rw [HY.out], rfl⟩
    case rest =>
    obtain ⟨rfl, rfl⟩ := hcut
    rw [HAW.out] at HPO
    clear HAW
    obtain ⟨ob, hob⟩ : ∃ b, oBad st cn fv nm aw = b := ⟨_, rfl⟩
    rw [hob] at HPO
    go_upto_region 6 with fail
    go_cut [78] from 54 to 78 (fun c wx => c = .bool ob ∧ w5 = wx)
    case first =>
      have HO := hid (show (!st || !cn || !fv || nm == 2 || aw) = ob from hob)
      clear hob
      go_wp2_with fail
      refine (HST.out w5).mono ?_
      rintro e w6 ⟨rfl, rfl⟩
      cases st
      · have HY := hid (show ob = true by rw [← HO.out]; rfl)
        go_wp2_with fail
        go_meet
        exact ⟨by rw [HY.out], rfl⟩
      go_wp2_with fail
      refine (HCN.out w5).mono ?_
      rintro e w6 ⟨rfl, rfl⟩
      cases cn
      · have HY := hid (show ob = true by rw [← HO.out]; rfl)
        go_wp2_with fail
        go_meet
        exact ⟨by rw [HY.out], rfl⟩
      cases fv
      · have HY := hid (show ob = true by rw [← HO.out]; rfl)
        go_wp2_with fail
        go_meet
        exact ⟨by rw [HY.out], rfl⟩
      cases e2 : (nm == 2)
      · have HY := hid (show ob = aw by rw [← HO.out, e2]; rfl)
        go_wp2_with fail
        go_meet
        exact ⟨by rw [HY.out], rfl⟩
      · have HY := hid (show ob = true by rw [← HO.out, e2]; rfl)
        go_wp2_with fail
        go_meet
        exact ⟨by rw [HY.out], rfl⟩
    case rest =>
    obtain ⟨rfl, rfl⟩ := hcut
    clear hob HST HCN HFV HLO
    cases ob
    case true =>
      have HPO2 := hid (show po = 103 by rw [HPO.out]; rfl)
      have HQQ := hid (show q0 = (103, x.ln) by rw [HQ.out, HPO2.out]; rfl)
      go_wp2_with fail
      refine (HP1.out w5).mono ?_
      rintro e w6 ⟨rfl, hf6⟩
      unfold faultV
      have hrow := hf6.heap HZ5.out not_false
      have HF6 := hid (HF5.out.trans' hf6)
      clear hf6 d0 d1 d2 d3 d4 d5 d6 d7
      have z0 : w6.cell? ⟨(w.heap.size + 1), 0, none⟩ = some (.int .i64 0) := by rw [cell_of_row _ _ 0 _ _ _ hrow]; rfl
      have z1 : w6.cell? ⟨(w.heap.size + 1), 1, none⟩ = some (.bool false) := by rw [cell_of_row _ _ 1 _ _ _ hrow]; rfl
      have z2 : w6.cell? ⟨(w.heap.size + 1), 2, none⟩ = some (.int .i64 0) := by rw [cell_of_row _ _ 2 _ _ _ hrow]; rfl
      have z3 : w6.cell? ⟨(w.heap.size + 1), 3, none⟩ = some (.int .i64 0) := by rw [cell_of_row _ _ 3 _ _ _ hrow]; rfl
      have z4 : w6.cell? ⟨(w.heap.size + 1), 4, none⟩ = some (.int .i64 0) := by rw [cell_of_row _ _ 4 _ _ _ hrow]; rfl
      have z5 : w6.cell? ⟨(w.heap.size + 1), 5, none⟩ = some (.string ⟨#[]⟩) := by rw [cell_of_row _ _ 5 _ _ _ hrow]; rfl
      have z6 : w6.cell? ⟨(w.heap.size + 1), 6, none⟩ = some (.slice none 0 0) := by rw [cell_of_row _ _ 6 _ _ _ hrow]; rfl
      have fz : ∀ i, w6.frozen? ⟨w.heap.size + 1, i, none⟩ = false := fun i => frozen_of_row _ _ i _ _ hrow
      go_wp2_with fail
      have hR2 := (setCell_row 6 (.slice none 0 0) (setCell_row 5 (.string ⟨#[]⟩) (setCell_row 4 (.int .i64 0) (setCell_row 3 (.int .i64 0) (setCell_row 2 (.int .i64 x.ln) (setCell_row 1 (.bool true) (setCell_row 0 (.int .i64 103) hrow)))))))
      simp only [List.setIfInBounds_toArray, List.set_cons_zero, List.set_cons_succ] at hR2
      have hf8 : Fr (fun q => q = w.heap.size + 1) w6 (((((((w6.setCell ⟨w.heap.size + 1, 0, none⟩ (.int .i64 103)).setCell ⟨w.heap.size + 1, 1, none⟩ (.bool true)).setCell ⟨w.heap.size + 1, 2, none⟩ (.int .i64 x.ln)).setCell ⟨w.heap.size + 1, 3, none⟩ (.int .i64 0)).setCell ⟨w.heap.size + 1, 4, none⟩ (.int .i64 0)).setCell ⟨w.heap.size + 1, 5, none⟩ (.string ⟨#[]⟩)).setCell ⟨w.heap.size + 1, 6, none⟩ (.slice none 0 0)) := ((((((((Fr.refl (fun q => q = w.heap.size + 1) w6).setCell (p := ⟨w.heap.size + 1, 0, none⟩) (.inl rfl) (.int .i64 103)).setCell (p := ⟨w.heap.size + 1, 1, none⟩) (.inl rfl) (.bool true)).setCell (p := ⟨w.heap.size + 1, 2, none⟩) (.inl rfl) (.int .i64 x.ln)).setCell (p := ⟨w.heap.size + 1, 3, none⟩) (.inl rfl) (.int .i64 0)).setCell (p := ⟨w.heap.size + 1, 4, none⟩) (.inl rfl) (.int .i64 0)).setCell (p := ⟨w.heap.size + 1, 5, none⟩) (.inl rfl) (.string ⟨#[]⟩)).setCell (p := ⟨w.heap.size + 1, 6, none⟩) (.inl rfl) (.slice none 0 0))
      refine bodyPost_ret (results_cell_row rfl _ _ (w.heap.size + 1) _ _ _ _ rfl hR2 Tryd.underlying36 rfl (by kernel_rfl)) rfl ?_
      exact ⟨by rw [HQQ.out]; rfl, (HF6.out).trans hf8 (fun _ _ => id) (fun q hq e => by omega)⟩
    case false =>
    cases e1 : (nm == 1)
    case true =>
      have HPO2 := hid (show po = 106 by rw [HPO.out, if_neg (by decide), if_pos (by simpa using e1)])
      have HQQ := hid (show q0 = (106, x.ln) by rw [HQ.out, HPO2.out]; rfl)
      go_wp2_with fail
      refine (HP2.out w5).mono ?_
      rintro e w6 ⟨rfl, hf6⟩
      unfold faultV
      have hrow := hf6.heap HZ5.out not_false
      have HF6 := hid (HF5.out.trans' hf6)
      clear hf6 d0 d1 d2 d3 d4 d5 d6 d7
      have z0 : w6.cell? ⟨(w.heap.size + 1), 0, none⟩ = some (.int .i64 0) := by rw [cell_of_row _ _ 0 _ _ _ hrow]; rfl
      have z1 : w6.cell? ⟨(w.heap.size + 1), 1, none⟩ = some (.bool false) := by rw [cell_of_row _ _ 1 _ _ _ hrow]; rfl
      have z2 : w6.cell? ⟨(w.heap.size + 1), 2, none⟩ = some (.int .i64 0) := by rw [cell_of_row _ _ 2 _ _ _ hrow]; rfl
      have z3 : w6.cell? ⟨(w.heap.size + 1), 3, none⟩ = some (.int .i64 0) := by rw [cell_of_row _ _ 3 _ _ _ hrow]; rfl
      have z4 : w6.cell? ⟨(w.heap.size + 1), 4, none⟩ = some (.int .i64 0) := by rw [cell_of_row _ _ 4 _ _ _ hrow]; rfl
      have z5 : w6.cell? ⟨(w.heap.size + 1), 5, none⟩ = some (.string ⟨#[]⟩) := by rw [cell_of_row _ _ 5 _ _ _ hrow]; rfl
      have z6 : w6.cell? ⟨(w.heap.size + 1), 6, none⟩ = some (.slice none 0 0) := by rw [cell_of_row _ _ 6 _ _ _ hrow]; rfl
      have fz : ∀ i, w6.frozen? ⟨w.heap.size + 1, i, none⟩ = false := fun i => frozen_of_row _ _ i _ _ hrow
      go_wp2_with fail
      have hR2 := (setCell_row 6 (.slice none 0 0) (setCell_row 5 (.string ⟨#[]⟩) (setCell_row 4 (.int .i64 0) (setCell_row 3 (.int .i64 0) (setCell_row 2 (.int .i64 x.ln) (setCell_row 1 (.bool true) (setCell_row 0 (.int .i64 106) hrow)))))))
      simp only [List.setIfInBounds_toArray, List.set_cons_zero, List.set_cons_succ] at hR2
      have hf8 : Fr (fun q => q = w.heap.size + 1) w6 (((((((w6.setCell ⟨w.heap.size + 1, 0, none⟩ (.int .i64 106)).setCell ⟨w.heap.size + 1, 1, none⟩ (.bool true)).setCell ⟨w.heap.size + 1, 2, none⟩ (.int .i64 x.ln)).setCell ⟨w.heap.size + 1, 3, none⟩ (.int .i64 0)).setCell ⟨w.heap.size + 1, 4, none⟩ (.int .i64 0)).setCell ⟨w.heap.size + 1, 5, none⟩ (.string ⟨#[]⟩)).setCell ⟨w.heap.size + 1, 6, none⟩ (.slice none 0 0)) := ((((((((Fr.refl (fun q => q = w.heap.size + 1) w6).setCell (p := ⟨w.heap.size + 1, 0, none⟩) (.inl rfl) (.int .i64 106)).setCell (p := ⟨w.heap.size + 1, 1, none⟩) (.inl rfl) (.bool true)).setCell (p := ⟨w.heap.size + 1, 2, none⟩) (.inl rfl) (.int .i64 x.ln)).setCell (p := ⟨w.heap.size + 1, 3, none⟩) (.inl rfl) (.int .i64 0)).setCell (p := ⟨w.heap.size + 1, 4, none⟩) (.inl rfl) (.int .i64 0)).setCell (p := ⟨w.heap.size + 1, 5, none⟩) (.inl rfl) (.string ⟨#[]⟩)).setCell (p := ⟨w.heap.size + 1, 6, none⟩) (.inl rfl) (.slice none 0 0))
      refine bodyPost_ret (results_cell_row rfl _ _ (w.heap.size + 1) _ _ _ _ rfl hR2 Tryd.underlying36 rfl (by kernel_rfl)) rfl ?_
      exact ⟨by rw [HQQ.out]; rfl, (HF6.out).trans hf8 (fun _ _ => id) (fun q hq e => by omega)⟩
    case false =>
    have hpo0 : po = 0 := by rw [HPO.out, if_neg (by decide), if_neg (by simpa using e1)]
    have HQQ := hid (show q0 = pWalkL x.op role loop (pRoles x.op x.l.length) 0 x.l by rw [HQ.out, hpo0]; rfl)
    have HPL2 := hid (HPL.out hpo0); have HRL2 := hid (HRL.out hpo0)
    clear HPL HRL HPO HQ hpo0
    generalize pRoles x.op x.l.length = R at *
    obtain ⟨dl, hdl⟩ : ∃ b, dLoop x.op loop = b := ⟨_, rfl⟩
    rw [hdl] at HFE
    go_upto_block 0 with fail
    go_cut [2] from 89 to 94 (fun c wx => c = .bool dl ∧ w5 = wx)
    case first =>
      have HD := hid (show (if x.op = 42 ∨ x.op = 43 ∨ x.op = 44 then true else if x.op = 48 then false else loop) = dl from hdl)
      clear hdl
      cases e42 : (x.op == 42)
      · cases e43 : (x.op == 43)
        · cases e44 : (x.op == 44)
          · have hn : ¬ (x.op = 42 ∨ x.op = 43 ∨ x.op = 44) := by
              have a := beq_eq_false_iff_ne.1 e42
              have b := beq_eq_false_iff_ne.1 e43
              have c := beq_eq_false_iff_ne.1 e44
              omega
            cases e48 : (x.op == 48)
            · have HY := hid (show dl = loop by rw [← HD.out, if_neg hn, if_neg (beq_eq_false_iff_ne.1 e48)])
              clear hn
              go_wp2_with fail
              go_meet
              exact ⟨by rw [HY.out], rfl⟩
            · have HY := hid (show dl = false by rw [← HD.out, if_neg hn, if_pos (by simpa using e48)])
              clear hn
              go_wp2_with fail
              go_meet
              exact ⟨by rw [HY.out], rfl⟩
          · have HY := hid (show dl = true by rw [← HD.out, if_pos (Or.inr (Or.inr (by simpa using e44)))])
            go_wp2_with fail
            go_meet
            exact ⟨by rw [HY.out], rfl⟩
        · have HY := hid (show dl = true by rw [← HD.out, if_pos (Or.inr (Or.inl (by simpa using e43)))])
          go_wp2_with fail
          go_meet
          exact ⟨by rw [HY.out], rfl⟩
      · have HY := hid (show dl = true by rw [← HD.out, if_pos (Or.inl (by simpa using e42))])
        go_wp2_with fail
        go_meet
        exact ⟨by rw [HY.out], rfl⟩
    case rest =>
    obtain ⟨rfl, rfl⟩ := hcut
    clear hdl
    go_wp2_with fail
    go_loopw [10] (fun i wr => ∃ k : Nat, k ≤ x.l.length ∧ i = .int .i64 k ∧ Hid (q0 = pWalkL x.op role loop R k (x.l.drop k)) ∧ Fr (fun _ => False) w5 wr) (fun i _ => x.l.length - (intOf i).toNat)
    case atStart => exact ⟨0, Nat.zero_le _, rfl, hid (by rw [HQQ.out]; rfl), Fr.refl _ _⟩
    case round =>
      obtain ⟨k, hk, rfl, HS, hf⟩ := hrel
      replace d0 := hf.cell d0 not_false
      replace d1 := hf.cell d1 not_false
      replace d2 := hf.cell d2 not_false
      replace d3 := hf.cell d3 not_false
      replace d4 := hf.cell d4 not_false
      replace d5 := hf.cell d5 not_false
      replace d6 := hf.cell d6 not_false
      replace d7 := hf.cell d7 not_false
      have HXR := hid (hf.heap HX5.out not_false); have HZR := hid (hf.heap HZ5.out not_false)
      have HFW := hid (HF5.out.trans' hf); have HFR := hid hf
      clear hf
      by_cases hlt : k < x.l.length
      · obtain ⟨b, o, y, yva, c1, a', c', rfl, -, hy, hv, e0, e1, e2, e3, e4, e5, e6, e7⟩ := NL.elem HB.out HI.out k hlt
        have hlt' : (k : Int) < x.l.length := by omega
        replace e0 := HFW.out.cell e0 not_false
        replace e1 := HFW.out.cell e1 not_false
        replace e2 := HFW.out.cell e2 not_false
        replace e3 := HFW.out.cell e3 not_false
        replace e4 := HFW.out.cell e4 not_false
        replace e5 := HFW.out.cell e5 not_false
        replace e6 := HFW.out.cell e6 not_false
        replace e7 := HFW.out.cell e7 not_false
        have HST := hid (pWalkL_step (op := x.op) (role := role) (loop := loop) (R := R) hy)
        have hrr := HRR.out (R.getD k 0) (by have := HRL2.out; simp [List.getD, this, hlt])
        have hwr := rW_range (role := role) (op := x.op) (i := k) hrr.1 hrr.2
        rw [← HFE.out k y] at HST
        obtain ⟨r9, hr9⟩ : ∃ r9, rW role x.op k (R.getD k 0) = r9 := ⟨_, rfl⟩
        have HPC := hid (fun w => HPL2.out k hlt w)
        rw [hr9] at HST hwr HPC
        have HOD := hid (fun w2 (hf : Fr (fun _ => False) w w2) => HIH.out k y hy r9 hwr.1 hwr.2 dl w2 _ (hv.frame hf fun _ _ => not_false))
        obtain ⟨q9, hq9⟩ : ∃ q9, pWalk y r9 dl = q9 := ⟨_, rfl⟩
        rw [hq9] at HST HOD
        have HST := hid HST.out
        clear hv hy hrr hwr hr9 hq9
        obtain ⟨fc, fp, fl, hfq, hfc⟩ : ∃ (fc : Int) (fp : Bool) (fl : Int), faultQ q9 = faultV fc fp fl ∧ ((fc != 0) = false ↔ q9.1 = 0) := by
          by_cases hz : q9.1 = 0
          · exact ⟨0, false, 0, if_pos hz, by simp [hz]⟩
          · exact ⟨q9.1, true, q9.2, if_neg hz, by simp [hz]⟩
        rw [hfq] at HOD
        have HFQ := hid hfq; have HFC := hid hfc
        clear hfq hfc
        unfold faultV at HOD
        go_upto_region 20 with fail
        go_cut [11] from 102 to 112 (fun p wx => ∃ g, p = .pointer (some ⟨g, 0, none⟩) ∧ Hid (Fr (fun _ => False) wr wx) ∧ Hid (wx.heap[g]? = some (.cells #[.int .i64 fc, .bool fp, .int .i64 fl, .int .i64 0, .int .i64 0, .string ⟨#[]⟩, .slice none 0 0] 36)))
        case first =>
          rename_i J K1 hJ hK1
          have hdrew := (Fr.refl (fun _ => False) wr).drew
          refine wpF_begin [0, 1, 2, 3, 4, 5, 6, 7, 9] (fun w' => Fr (fun _ => False) wr w') (by kernel_rfl) ?_
          (refine wpF_take (i := 0) ?_ (by kernel_rfl) (fun _ _ d _ _ h => by cases d <;> exact h) (by kernel_rfl) rfl (by kernel_rfl) (hdrew) ?_ ?_; rotate_left; (· intro w' hS; go_simp; try with_reducible rfl); (try simp only [Act.put, List.setIfInBounds_toArray, List.set_cons_zero, List.set_cons_succ]))
          (refine wpF_take (i := 1) ?_ (by kernel_rfl) (fun _ _ d _ _ h => by cases d <;> exact h) (by kernel_rfl) rfl (by kernel_rfl) (hdrew) ?_ ?_; rotate_left; (· intro w' hS; have z7 := Fr.cell hS d7 not_false; go_simp; try with_reducible rfl); (try simp only [Act.put, List.setIfInBounds_toArray, List.set_cons_zero, List.set_cons_succ]))
          (refine wpF_take (i := 2) ?_ (by kernel_rfl) (fun _ _ d _ _ h => by cases d <;> exact h) (by kernel_rfl) rfl (by kernel_rfl) (hdrew) ?_ ?_; rotate_left; (· intro w' hS; go_simp; try with_reducible rfl); (try simp only [Act.put, List.setIfInBounds_toArray, List.set_cons_zero, List.set_cons_succ]))
          (refine wpF_take (i := 3) ?_ (by kernel_rfl) (fun _ _ d _ _ h => by cases d <;> exact h) (by kernel_rfl) rfl (by kernel_rfl) (hdrew) ?_ ?_; rotate_left; (· intro w' hS; go_simp; try with_reducible rfl); (try simp only [Act.put, List.setIfInBounds_toArray, List.set_cons_zero, List.set_cons_succ]))
          (refine wpF_take (i := 4) ?_ (by kernel_rfl) (fun _ _ d _ _ h => by cases d <;> exact h) (by kernel_rfl) rfl (by kernel_rfl) (hdrew) ?_ ?_; rotate_left; (· intro w' hS; have y0 := Fr.cell hS e0 not_false; have y1 := Fr.cell hS e1 not_false; have y2 := Fr.cell hS e2 not_false; have y3 := Fr.cell hS e3 not_false; have y4 := Fr.cell hS e4 not_false; have y5 := Fr.cell hS e5 not_false; have y6 := Fr.cell hS e6 not_false; have y7 := Fr.cell hS e7 not_false; go_simp; try with_reducible rfl); (try simp only [Act.put, List.setIfInBounds_toArray, List.set_cons_zero, List.set_cons_succ]))
          (refine wpF_take (i := 5) ?_ (by kernel_rfl) (fun _ _ d _ _ h => by cases d <;> exact h) (by kernel_rfl) rfl (by kernel_rfl) (hdrew) ?_ ?_; rotate_left; (· intro w' hS; have x0 := Fr.cell hS d0 not_false; have x1 := Fr.cell hS d1 not_false; have x2 := Fr.cell hS d2 not_false; have x3 := Fr.cell hS d3 not_false; have x4 := Fr.cell hS d4 not_false; have x5 := Fr.cell hS d5 not_false; have x6 := Fr.cell hS d6 not_false; have x7 := Fr.cell hS d7 not_false; go_simp; try with_reducible rfl); (try simp only [Act.put, List.setIfInBounds_toArray, List.set_cons_zero, List.set_cons_succ]))
          (refine wpF_take (i := 6) ?_ (by kernel_rfl) (fun _ _ d _ _ h => by cases d <;> exact h) (by kernel_rfl) rfl (by kernel_rfl) (hdrew) ?_ ?_; rotate_left; (· intro w' hS; go_simp; try with_reducible rfl); (try simp only [Act.put, List.setIfInBounds_toArray, List.set_cons_zero, List.set_cons_succ]))
          (refine wpF_take (i := 7) ?_ (by kernel_rfl) (fun _ _ d _ _ h => by cases d <;> exact h) (by kernel_rfl) rfl (by kernel_rfl) (hdrew) ?_ ?_; rotate_left; (· intro w' hS; go_simp; try with_reducible rfl); (try simp only [Act.put, List.setIfInBounds_toArray, List.set_cons_zero, List.set_cons_succ]))
          (refine wpF_take (i := 9) ?_ (by kernel_rfl) (fun _ _ d _ _ h => by cases d <;> exact h) (by kernel_rfl) rfl (by kernel_rfl) (hdrew) ?_ ?_; rotate_left; (· intro w' hS; go_simp; try with_reducible rfl); (try simp only [Act.put, List.setIfInBounds_toArray, List.set_cons_zero, List.set_cons_succ]))
          clear d0 e0 d1 e1 d2 e2 d3 e3 d4 e4 d5 e5 d6 e6 d7 e7
          refine wpF_run2 (i := 8) (j := 11) (by kernel_rfl) rfl rfl (by kernel_rfl) (by kernel_rfl) (fun K hK => ?_) (fun K hK => ?_)
          · go_simp
            refine (HPC.out wr.drew).mono ?_
            rintro e w7 ⟨rfl, hf7⟩
            have hS7 := hdrew.trans' hf7
            refine hK _ _ hS7 ?_
            clear hK K
            try simp only [Act.put, List.setIfInBounds_toArray, List.set_cons_zero, List.set_cons_succ]
            refine wpF_run2 (i := 10) (j := 11) (by kernel_rfl) rfl rfl (by kernel_rfl) (by kernel_rfl) (fun K hK => ?_) (fun K hK => ?_)
            · go_simp
              refine (HOD.out w7 (HFW.out.trans' hS7)).mono ?_
              rintro e w8 ⟨rfl, hf8⟩
              have hS8 := hS7.trans' hf8
              refine hK _ _ hS8 ?_
              clear hK K
              try simp only [Act.put, List.setIfInBounds_toArray, List.set_cons_zero, List.set_cons_succ]
              (refine wpF_run (i := 11) (by kernel_rfl) rfl (by kernel_rfl) (fun K hK => ?_); go_simp; refine hK _ _ (hS8.alloc _) ?_; clear hK K; (try simp only [Act.put, List.setIfInBounds_toArray, List.set_cons_zero, List.set_cons_succ]))
              have hS9 := hS8.alloc (.cells #[.int .i64 fc, .bool fp, .int .i64 fl, .int .i64 0, .int .i64 0, .string ⟨#[]⟩, .slice none 0 0] 36)
              have hR := heap_alloc_new w8 (.cells #[.int .i64 fc, .bool fp, .int .i64 fl, .int .i64 0, .int .i64 0, .string ⟨#[]⟩, .slice none 0 0] 36)
              (refine wpF_run (i := 12) (by kernel_rfl) rfl (by kernel_rfl) (fun K hK => ?_); go_simp; refine hK _ _ (hS9) ?_; clear hK K; (try simp only [Act.put, List.setIfInBounds_toArray, List.set_cons_zero, List.set_cons_succ]))
              refine wpF_end (by kernel_rfl) ?_
              go_wp2_with fail
              go_meet
              exact ⟨_, rfl, hid hS9, hid hR⟩
            · go_simp
              have hSa := hS7.alloc (.cells #[.int .i64 0, .bool false, .int .i64 0, .int .i64 0, .int .i64 0, .string ⟨#[]⟩, .slice none 0 0] 36)
              have hga := heap_alloc_new w7 (.cells #[.int .i64 0, .bool false, .int .i64 0, .int .i64 0, .int .i64 0, .string ⟨#[]⟩, .slice none 0 0] 36)
              have hgl := hS7.size
              refine hK _ _ hSa ?_
              clear hK K
              try simp only [Act.put, List.setIfInBounds_toArray, List.set_cons_zero, List.set_cons_succ]
              refine wpF_run (i := 10) (by kernel_rfl) rfl (by kernel_rfl) (fun K hK => ?_); go_simp
              refine (HOD.out _ (HFW.out.trans' hSa)).mono ?_
              rintro e w8 ⟨rfl, hf8⟩
              have hSn := hSa.trans' hf8
              have hg := hf8.heap hga not_false
              refine hK _ _ hSn ?_
              clear hK K
              try simp only [Act.put, List.setIfInBounds_toArray, List.set_cons_zero, List.set_cons_succ]
              obtain ⟨hR, hf5, z0, z1, z2, z3, z4, z5, z6, zf⟩ := set7 hg fc fp fl
              have hS9 := hSn.trans hf5 (U := fun _ => False) (fun _ _ h => h) (fun q hq e => by have := hgl; omega)
              (refine wpF_run (i := 12) (by kernel_rfl) rfl (by kernel_rfl) (fun K hK => ?_); go_simp; refine hK _ _ (hS9) ?_; clear hK K; (try simp only [Act.put, List.setIfInBounds_toArray, List.set_cons_zero, List.set_cons_succ]))
              refine wpF_end (by kernel_rfl) ?_
              go_wp2_with fail
              go_meet
              exact ⟨_, rfl, hid hS9, hid hR⟩
          · go_simp
            have hSa := hdrew.alloc (.cells #[.int .i64 0, .bool false, .int .i64 0, .int .i64 0, .int .i64 0, .string ⟨#[]⟩, .slice none 0 0] 36)
            have hga := heap_alloc_new wr.drew (.cells #[.int .i64 0, .bool false, .int .i64 0, .int .i64 0, .int .i64 0, .string ⟨#[]⟩, .slice none 0 0] 36)
            have hgl : wr.heap.size ≤ wr.drew.heap.size := Nat.le_refl _
            refine hK _ _ hSa ?_
            clear hK K
            try simp only [Act.put, List.setIfInBounds_toArray, List.set_cons_zero, List.set_cons_succ]
            refine wpF_run (i := 8) (by kernel_rfl) rfl (by kernel_rfl) (fun K hK => ?_); go_simp
            refine (HPC.out _).mono ?_
            rintro e w7 ⟨rfl, hf7⟩
            have hS7 := hSa.trans' hf7
            refine hK _ _ hS7 ?_
            clear hK K
            try simp only [Act.put, List.setIfInBounds_toArray, List.set_cons_zero, List.set_cons_succ]
            refine wpF_run (i := 10) (by kernel_rfl) rfl (by kernel_rfl) (fun K hK => ?_); go_simp
            refine (HOD.out _ (HFW.out.trans' hS7)).mono ?_
            rintro e w8 ⟨rfl, hf8⟩
            have hSn := hS7.trans' hf8
            have hg : w8.heap[wr.heap.size]? = _ := hf8.heap (hf7.heap hga not_false) not_false
            refine hK _ _ hSn ?_
            clear hK K
            try simp only [Act.put, List.setIfInBounds_toArray, List.set_cons_zero, List.set_cons_succ]
            obtain ⟨hR, hf5, z0, z1, z2, z3, z4, z5, z6, zf⟩ := set7 hg fc fp fl
            have hS9 := hSn.trans hf5 (U := fun _ => False) (fun _ _ h => h) (fun q hq e => by have := hgl; omega)
            (refine wpF_run (i := 12) (by kernel_rfl) rfl (by kernel_rfl) (fun K hK => ?_); go_simp; refine hK _ _ (hS9) ?_; clear hK K; (try simp only [Act.put, List.setIfInBounds_toArray, List.set_cons_zero, List.set_cons_succ]))
            refine wpF_end (by kernel_rfl) ?_
            go_wp2_with fail
            go_meet
            exact ⟨_, rfl, hid hS9, hid hR⟩
        case rest =>
        obtain ⟨g, rfl, HFX, HGX⟩ := hcut
        obtain ⟨w9, hw9⟩ : ∃ W, W = wc := ⟨wc, rfl⟩
        rw [← hw9] at HFX HGX ⊢
        clear hw9
        have HF9 := hid (HFR.out.trans' HFX.out); have HFW9 := hid (HFW.out.trans' HFX.out)
        have HZ9 := hid (HFX.out.heap HZR.out not_false)
        clear d0 e0 d1 e1 d2 e2 d3 e3 d4 e4 d5 e5 d6 e6 d7 e7
        have y0 : w9.cell? ⟨g, 0, none⟩ = some (.int .i64 fc) := by rw [cell_of_row _ _ 0 _ _ _ HGX.out]; rfl
        have y1 : w9.cell? ⟨g, 1, none⟩ = some (.bool fp) := by rw [cell_of_row _ _ 1 _ _ _ HGX.out]; rfl
        have y2 : w9.cell? ⟨g, 2, none⟩ = some (.int .i64 fl) := by rw [cell_of_row _ _ 2 _ _ _ HGX.out]; rfl
        have y3 : w9.cell? ⟨g, 3, none⟩ = some (.int .i64 0) := by rw [cell_of_row _ _ 3 _ _ _ HGX.out]; rfl
        have y4 : w9.cell? ⟨g, 4, none⟩ = some (.int .i64 0) := by rw [cell_of_row _ _ 4 _ _ _ HGX.out]; rfl
        have y5 : w9.cell? ⟨g, 5, none⟩ = some (.string ⟨#[]⟩) := by rw [cell_of_row _ _ 5 _ _ _ HGX.out]; rfl
        have y6 : w9.cell? ⟨g, 6, none⟩ = some (.slice none 0 0) := by rw [cell_of_row _ _ 6 _ _ _ HGX.out]; rfl
        by_cases hz9 : q9.1 = 0
        · have hfc0 := HFC.out.2 hz9
          have HS2 := hid (show q0 = pWalkL x.op role loop R (k + 1) (x.l.drop (k + 1)) by rw [HS.out, HST.out, if_pos hz9])
          clear hz9
          go_wp2_with fail
          go_roundw
          case rel => exact ⟨k + 1, by omega, by go_num, HS2, HF9.out⟩
          case measure => simp [intOf]; omega
        · have hfc0 : (fc != 0) = true := by
            cases h : (fc != 0)
            · exact absurd (HFC.out.1 h) hz9
            · rfl
          have HS2 := hid (show faultQ q0 = faultV fc fp fl by rw [HS.out, HST.out, if_neg hz9, HFQ.out])
          clear hz9
          have hrow := HZ9.out
          have z0 : w9.cell? ⟨(w.heap.size + 1), 0, none⟩ = some (.int .i64 0) := by rw [cell_of_row _ _ 0 _ _ _ hrow]; rfl
          have z1 : w9.cell? ⟨(w.heap.size + 1), 1, none⟩ = some (.bool false) := by rw [cell_of_row _ _ 1 _ _ _ hrow]; rfl
          have z2 : w9.cell? ⟨(w.heap.size + 1), 2, none⟩ = some (.int .i64 0) := by rw [cell_of_row _ _ 2 _ _ _ hrow]; rfl
          have z3 : w9.cell? ⟨(w.heap.size + 1), 3, none⟩ = some (.int .i64 0) := by rw [cell_of_row _ _ 3 _ _ _ hrow]; rfl
          have z4 : w9.cell? ⟨(w.heap.size + 1), 4, none⟩ = some (.int .i64 0) := by rw [cell_of_row _ _ 4 _ _ _ hrow]; rfl
          have z5 : w9.cell? ⟨(w.heap.size + 1), 5, none⟩ = some (.string ⟨#[]⟩) := by rw [cell_of_row _ _ 5 _ _ _ hrow]; rfl
          have z6 : w9.cell? ⟨(w.heap.size + 1), 6, none⟩ = some (.slice none 0 0) := by rw [cell_of_row _ _ 6 _ _ _ hrow]; rfl
          have fz : ∀ i, w9.frozen? ⟨w.heap.size + 1, i, none⟩ = false := fun i => frozen_of_row _ _ i _ _ hrow
          go_wp2_with fail
          have hR2 := (setCell_row 6 (.slice none 0 0) (setCell_row 5 (.string ⟨#[]⟩) (setCell_row 4 (.int .i64 0) (setCell_row 3 (.int .i64 0) (setCell_row 2 (.int .i64 fl) (setCell_row 1 (.bool fp) (setCell_row 0 (.int .i64 fc) hrow)))))))
          simp only [List.setIfInBounds_toArray, List.set_cons_zero, List.set_cons_succ] at hR2
          have hf8 : Fr (fun q => q = w.heap.size + 1) w9 (((((((w9.setCell ⟨w.heap.size + 1, 0, none⟩ (.int .i64 fc)).setCell ⟨w.heap.size + 1, 1, none⟩ (.bool fp)).setCell ⟨w.heap.size + 1, 2, none⟩ (.int .i64 fl)).setCell ⟨w.heap.size + 1, 3, none⟩ (.int .i64 0)).setCell ⟨w.heap.size + 1, 4, none⟩ (.int .i64 0)).setCell ⟨w.heap.size + 1, 5, none⟩ (.string ⟨#[]⟩)).setCell ⟨w.heap.size + 1, 6, none⟩ (.slice none 0 0)) := ((((((((Fr.refl (fun q => q = w.heap.size + 1) w9).setCell (p := ⟨w.heap.size + 1, 0, none⟩) (.inl rfl) (.int .i64 fc)).setCell (p := ⟨w.heap.size + 1, 1, none⟩) (.inl rfl) (.bool fp)).setCell (p := ⟨w.heap.size + 1, 2, none⟩) (.inl rfl) (.int .i64 fl)).setCell (p := ⟨w.heap.size + 1, 3, none⟩) (.inl rfl) (.int .i64 0)).setCell (p := ⟨w.heap.size + 1, 4, none⟩) (.inl rfl) (.int .i64 0)).setCell (p := ⟨w.heap.size + 1, 5, none⟩) (.inl rfl) (.string ⟨#[]⟩)).setCell (p := ⟨w.heap.size + 1, 6, none⟩) (.inl rfl) (.slice none 0 0))
          refine bodyPost_ret (results_cell_row rfl _ _ (w.heap.size + 1) _ _ _ _ rfl hR2 Tryd.underlying36 rfl (by kernel_rfl)) rfl ?_
          exact ⟨by rw [HS2.out]; rfl, (HFW9.out).trans hf8 (fun _ _ => id) (fun q hq e => by omega)⟩
      · obtain rfl : k = x.l.length := by omega
        have HQ0 := hid (show q0 = (0, 0) by rw [HS.out, List.drop_length, pWalkL_nil])
        have HNN := hid (none_any wr)
        go_wp2_with fail
        refine HNN.out.mono ?_
        rintro e w9 ⟨rfl, hf9⟩
        unfold bareV
        have hrow := hf9.heap HZR.out not_false
        have HF9 := hid (HFW.out.trans' hf9)
        clear hf9
        have z0 : w9.cell? ⟨(w.heap.size + 1), 0, none⟩ = some (.int .i64 0) := by rw [cell_of_row _ _ 0 _ _ _ hrow]; rfl
        have z1 : w9.cell? ⟨(w.heap.size + 1), 1, none⟩ = some (.bool false) := by rw [cell_of_row _ _ 1 _ _ _ hrow]; rfl
        have z2 : w9.cell? ⟨(w.heap.size + 1), 2, none⟩ = some (.int .i64 0) := by rw [cell_of_row _ _ 2 _ _ _ hrow]; rfl
        have z3 : w9.cell? ⟨(w.heap.size + 1), 3, none⟩ = some (.int .i64 0) := by rw [cell_of_row _ _ 3 _ _ _ hrow]; rfl
        have z4 : w9.cell? ⟨(w.heap.size + 1), 4, none⟩ = some (.int .i64 0) := by rw [cell_of_row _ _ 4 _ _ _ hrow]; rfl
        have z5 : w9.cell? ⟨(w.heap.size + 1), 5, none⟩ = some (.string ⟨#[]⟩) := by rw [cell_of_row _ _ 5 _ _ _ hrow]; rfl
        have z6 : w9.cell? ⟨(w.heap.size + 1), 6, none⟩ = some (.slice none 0 0) := by rw [cell_of_row _ _ 6 _ _ _ hrow]; rfl
        have fz : ∀ i, w9.frozen? ⟨w.heap.size + 1, i, none⟩ = false := fun i => frozen_of_row _ _ i _ _ hrow
        go_wp2_with fail
        have hR2 := (setCell_row 6 (.slice none 0 0) (setCell_row 5 (.string ⟨#[]⟩) (setCell_row 4 (.int .i64 0) (setCell_row 3 (.int .i64 0) (setCell_row 2 (.int .i64 0) (setCell_row 1 (.bool false) (setCell_row 0 (.int .i64 0) hrow)))))))
        simp only [List.setIfInBounds_toArray, List.set_cons_zero, List.set_cons_succ] at hR2
        have hf8 : Fr (fun q => q = w.heap.size + 1) w9 (((((((w9.setCell ⟨w.heap.size + 1, 0, none⟩ (.int .i64 0)).setCell ⟨w.heap.size + 1, 1, none⟩ (.bool false)).setCell ⟨w.heap.size + 1, 2, none⟩ (.int .i64 0)).setCell ⟨w.heap.size + 1, 3, none⟩ (.int .i64 0)).setCell ⟨w.heap.size + 1, 4, none⟩ (.int .i64 0)).setCell ⟨w.heap.size + 1, 5, none⟩ (.string ⟨#[]⟩)).setCell ⟨w.heap.size + 1, 6, none⟩ (.slice none 0 0)) := ((((((((Fr.refl (fun q => q = w.heap.size + 1) w9).setCell (p := ⟨w.heap.size + 1, 0, none⟩) (.inl rfl) (.int .i64 0)).setCell (p := ⟨w.heap.size + 1, 1, none⟩) (.inl rfl) (.bool false)).setCell (p := ⟨w.heap.size + 1, 2, none⟩) (.inl rfl) (.int .i64 0)).setCell (p := ⟨w.heap.size + 1, 3, none⟩) (.inl rfl) (.int .i64 0)).setCell (p := ⟨w.heap.size + 1, 4, none⟩) (.inl rfl) (.int .i64 0)).setCell (p := ⟨w.heap.size + 1, 5, none⟩) (.inl rfl) (.string ⟨#[]⟩)).setCell (p := ⟨w.heap.size + 1, 6, none⟩) (.inl rfl) (.slice none 0 0))
        refine bodyPost_ret (results_cell_row rfl _ _ (w.heap.size + 1) _ _ _ _ rfl hR2 Tryd.underlying36 rfl (by kernel_rfl)) rfl ?_
        exact ⟨by rw [HQ0.out]; rfl, (HF9.out).trans hf8 (fun _ _ => id) (fun q hq e => by omega)⟩
end Go.Proofs.YteihmagldhmjgaaDoor
