import Derived.Test.YtbegahbagnflnaaGreatDoorMn09
import Derived.Deep.CutBlock
import Derived.Test.YtbegahbagnflnaaGreatDoorMn07
import Derived.Test.YtbegahbagnflnaaGreatDoorMn02
set_option linter.unusedSimpArgs false
set_option linter.unusedVariables false
set_option linter.unnecessarySimpa false
namespace Go.Proofs.YtbegahbagnflnaaGreatDoor
section
open Go.RowKit
theorem set7 {w : World} {g : Nat} (hg : w.heap[g]? = some (.cells #[.int .i64 0, .bool false, .int .i64 0, .int .i64 0, .int .i64 0, .string ⟨#[]⟩, .slice none 0 0] 46)) (fc : Int) (fp : Bool) (fl : Int) : (((((((w.setCell ⟨g, 0, none⟩ (.int .i64 fc)).setCell ⟨g, 1, none⟩ (.bool fp)).setCell ⟨g, 2, none⟩ (.int .i64 fl)).setCell ⟨g, 3, none⟩ (.int .i64 0)).setCell ⟨g, 4, none⟩ (.int .i64 0)).setCell ⟨g, 5, none⟩ (.string ⟨#[]⟩)).setCell ⟨g, 6, none⟩ (.slice none 0 0)).heap[g]? = some (.cells #[.int .i64 fc, .bool fp, .int .i64 fl, .int .i64 0, .int .i64 0, .string ⟨#[]⟩, .slice none 0 0] 46) ∧ Fr (fun q => q = g) w (((((((w.setCell ⟨g, 0, none⟩ (.int .i64 fc)).setCell ⟨g, 1, none⟩ (.bool fp)).setCell ⟨g, 2, none⟩ (.int .i64 fl)).setCell ⟨g, 3, none⟩ (.int .i64 0)).setCell ⟨g, 4, none⟩ (.int .i64 0)).setCell ⟨g, 5, none⟩ (.string ⟨#[]⟩)).setCell ⟨g, 6, none⟩ (.slice none 0 0)) ∧ w.cell? ⟨g, 0, none⟩ = some (.int .i64 0) ∧ w.cell? ⟨g, 1, none⟩ = some (.bool false) ∧ w.cell? ⟨g, 2, none⟩ = some (.int .i64 0) ∧ w.cell? ⟨g, 3, none⟩ = some (.int .i64 0) ∧ w.cell? ⟨g, 4, none⟩ = some (.int .i64 0) ∧ w.cell? ⟨g, 5, none⟩ = some (.string ⟨#[]⟩) ∧ w.cell? ⟨g, 6, none⟩ = some (.slice none 0 0) ∧ ∀ i, w.frozen? ⟨g, i, none⟩ = false := by
 have hR := (setCell_row 6 (.slice none 0 0) (setCell_row 5 (.string ⟨#[]⟩) (setCell_row 4 (.int .i64 0) (setCell_row 3 (.int .i64 0) (setCell_row 2 (.int .i64 fl) (setCell_row 1 (.bool fp) (setCell_row 0 (.int .i64 fc) hg)))))))
 simp only [List.setIfInBounds_toArray, List.set_cons_zero, List.set_cons_succ] at hR
 refine ⟨hR, ((((((((Fr.refl (fun q => q = g) w).setCell (p := ⟨g, 0, none⟩) (.inl rfl) (.int .i64 fc)).setCell (p := ⟨g, 1, none⟩) (.inl rfl) (.bool fp)).setCell (p := ⟨g, 2, none⟩) (.inl rfl) (.int .i64 fl)).setCell (p := ⟨g, 3, none⟩) (.inl rfl) (.int .i64 0)).setCell (p := ⟨g, 4, none⟩) (.inl rfl) (.int .i64 0)).setCell (p := ⟨g, 5, none⟩) (.inl rfl) (.string ⟨#[]⟩)).setCell (p := ⟨g, 6, none⟩) (.inl rfl) (.slice none 0 0)), ?_, ?_, ?_, ?_, ?_, ?_, ?_, fun i => frozen_of_row _ _ i _ _ hg⟩
 all_goals
  rw [cell_of_row _ _ _ _ _ _ hg]
  rfl
def faultQ (q : Nat × Int) : Value := if q.1 = 0 then faultV 0 false 0 else faultV q.1 true q.2
theorem stands_of_own {x : Nd} {role : Int} {loop : Bool} (h : pOwn x role loop = 0) : pStands x.op role = true ∧ pCounts x.op x.l.length = true := by
 constructor
 ·cases hs : pStands x.op role
  ·exfalso
   have hp : pOwn x role loop = if ownBad (fair1 (pStands x.op role) loop x.op && fairV x.op x.v) (pCounts x.op x.l.length) (pNamed x.op).1 x.s.toList.isEmpty then 103 else if ownBad2 (pNamed x.op).1 (pName x.s) (pNamed x.op).2 x.s.toList.isEmpty then 106 else 0 := rfl
   rw [hp, hs] at h
   simp [fair1, ownBad] at h
  ·rfl
 ·rcases pOwn_cases x role loop with ⟨-, h'⟩ | h' | h'
  ·exact h'
  ·omega
  ·omega
theorem flag_eq (op role : Int) (n i : Nat) (loop : Bool) (y : Nd) : pWalk y (rW role op i ((pRoles op n).getD i 0)) (dLoop op loop) = pWalk y (rW role op i ((pRoles op n).getD i 0)) (inW op loop (rW role op i ((pRoles op n).getD i 0))) := by
 by_cases h1 : op = 42 ∨ op = 43 ∨ op = 44
 ·have hr : (pRoles op n).getD i 0 = 0 ∨ (pRoles op n).getD i 0 = 6 := by
   rcases h1 with rfl | rfl | rfl
   ·rcases i with _ | _ | j
    ·exact .inl rfl
    ·exact .inr rfl
    ·exact .inl rfl
   ·rcases i with _ | _ | _ | j
    ·exact .inl rfl
    ·exact .inl rfl
    ·exact .inr rfl
    ·exact .inl rfl
   ·rcases i with _ | _ | j
    ·exact .inl rfl
    ·exact .inr rfl
    ·exact .inl rfl
  have hd : dLoop op loop = true := if_pos h1
  have hlp : pLoops op = true := by rcases h1 with rfl | rfl | rfl <;> rfl
  rw [hd]
  have hrw : rW role op i ((pRoles op n).getD i 0) = 0 ∨ rW role op i ((pRoles op n).getD i 0) = 6 := by
   unfold rW
   split
   ·exact .inl rfl
   rw [if_neg (by omega), if_neg (by omega)]
   exact hr
  rcases hrw with e | e
  ·rw [e]
   exact (walk_flag y 0 (inW op loop 0) (by decide) (by decide)).symm
  ·rw [e]
   unfold inW
   rw [hlp]
   simp
 ·have hlp : pLoops op = false := by
   unfold pLoops
   have a : (op == 42) = false := by rw [beq_eq_false_iff_ne]; omega
   have b : (op == 43) = false := by rw [beq_eq_false_iff_ne]; omega
   have c : (op == 44) = false := by rw [beq_eq_false_iff_ne]; omega
   rw [a, b, c]; rfl
  unfold dLoop inW
  rw [if_neg h1, hlp]
  by_cases h2 : op = 48
  ·rw [if_pos h2, h2]
   cases loop <;> rfl
  ·rw [if_neg h2]
   have e : (op != 48) = true := by simpa using h2
   rw [e]
   cases loop <;> rfl
set_option maxRecDepth 100000 in
set_option maxHeartbeats 1000000 in
theorem dodd_any : ∀ (N : Nat) (x : Nd), x.cnt < N → x.cnt ≤ 1048576 → x.sz ≤ 1099511627776 → ∀ (role : Int), 0 ≤ role → role ≤ 8 → ∀ (loop : Bool) (D : Nat → Prop) (w : World) (u : Array Value), NIn D w x u →
  Calls Tryz.prog 42 #[.agg u, .int .i64 (plc role), .bool loop] w fun e w' => e = .returned (faultQ (pWalk x role loop)) ∧ Fr (fun _ => False) w w' := by
 intro N
 induction N with
 | zero =>
  intro x hN
  omega
 | succ N ih =>
  intro x hN hM hZ role hr0 hr8 loop D w u h
  obtain ⟨va', la', rfl, ⟨va, vc, us1, rfl, hvr⟩, ⟨la, lc, us, rfl, hlc, hlm, hln, hb, hi⟩⟩ := h.open
  have hvl : VL D w x.v.l (.slice va x.v.l.length vc) := ⟨va, vc, us1, rfl, hvr⟩
  have hvlen : x.v.l.length ≤ 9223372036854775807 := Nat.le_trans hvr.1 hvr.2.1
  have hc1 := Nd.cnt_eq x
  have hl1 := len_le_cnt x.l
  have hz1 := Nd.sz_eq x
  have hl : x.l.length ≤ 1048576 := by omega
  have hvx : VIn D w x.v #[.int .i64 x.v.k, .int .i64 x.v.n, .string x.v.s, .slice va x.v.l.length vc] := by
   have := hvl.close x.v.k x.v.n x.v.s
   have e : x.v = .mk x.v.k x.v.n x.v.s x.v.l := by cases x.v; rfl
   rw [← e] at this; exact this
  have HSV := hid (fun w => sv_none x.v.k x.v.n x.v.s va x.v.l.length vc hvlen w)
  have HNV := hid (noV_eq x.v)
  rw [← noV_eq x.v] at HSV
  have HRI := hid (fun w2 (hf : Fr (fun _ => False) w w2) => dright_any x.v (by omega) D w2 _ (hvx.frame hf fun _ _ => not_false))
  have HNA := hid (fun w => dnamed_any x.op x.ln x.v.k x.v.n x.s x.v.s (.slice va x.v.l.length vc) (.slice la x.l.length lc) (by omega) w)
  have HST := hid (fun w => dstands_any x.op role hr0 hr8 w)
  have HCN := hid (fun w => dcounts_any x.op x.l.length (by omega) w)
  have HP1 := hid (fun w => placed_any 103 x.ln (by decide) w)
  have HP2 := hid (fun w => placed_any 106 x.ln (by decide) w)
  have HPO := hid (pOwn_doc x role hr0 hr8 loop)
  have HQ := hid (pWalk_eq x role loop)
  have HPL := hid (show pOwn x role loop = 0 → ∀ i, i < x.l.length → ∀ w, Calls Tryz.prog 75 #[.agg #[.int .i64 x.op, .int .i64 x.ln, .string x.s, .int .i64 x.v.k, .int .i64 x.v.n, .string x.v.s, .slice va x.v.l.length vc, .slice la x.l.length lc], .int .i64 (plc role), .int .i64 i] w fun e w' => e = .returned (.int .i64 (plc (rW role x.op i ((pRoles x.op x.l.length).getD i 0)))) ∧ Fr (fun _ => False) w w' from fun hz i hi w => by
   obtain ⟨h1, h2⟩ := stands_of_own hz
   rw [← dPlace_eq x.op role x.l.length i hr0 hr8 h1 h2 hi]
   exact dplace_any x.op x.ln x.v.k x.v.n x.s x.v.s (.slice va x.v.l.length vc) la x.l.length lc hl (plc role) i hi w)
  have HRR := hid (pRoles_range x.op x.l.length)
  have HRL := hid (show pOwn x role loop = 0 → (pRoles x.op x.l.length).length = x.l.length from fun hz => pRoles_len _ _ (stands_of_own hz).2)
  have hIH : ∀ (k : Nat) (y : Nd), x.l[k]? = some y → ∀ r, 0 ≤ r → r ≤ 8 → ∀ (lp : Bool) (w2 : World) (u : Array Value), NIn D w2 y u → Calls Tryz.prog 42 #[.agg u, .int .i64 (plc r), .bool lp] w2 fun e w' => e = .returned (faultQ (pWalk y r lp)) ∧ Fr (fun _ => False) w2 w' := fun k y hy r h0 h8 lp w2 u hn => by
   have h1 := cntL_mem hy
   have h2 := szL_mem hy
   exact ih y (by omega) (by omega) (by omega) r h0 h8 lp D w2 u hn
  have HIH := hid hIH; have HB := hid hb; have HI := hid hi
  have hlI : (x.l.length : Int) ≤ 1048576 := by omega
  have HFE := hid (fun i y => flag_eq x.op role x.l.length i loop y)
  have HFV := hid (show fairV x.op x.v = if x.op = 1 then litOk x.v else noV x.v from rfl)
  have HLO := hid (show litOk x.v = (x.v.k != 4 && decide (x.v.valid = 0) && (x.v.k != 0 || x.v.n != -9223372036854775808)) from rfl)
  clear ih h hIH hb hi hl hvr hln hlc hlm hc1 hl1 hz1 hN hM hZ us1 hvl hvx hr0 hr8
  generalize hpo : pOwn x role loop = po at *
  generalize pWalk x role loop = q0 at *
  generalize pStands x.op role = st at *
  generalize dCounts x.op x.l.length = cn at *
  generalize fairV x.op x.v = fv at *
  generalize litOk x.v = lo at *
  generalize noV x.v = nv at *
  generalize dNamed x.op x.s = nm at *
  generalize hplc : plc role = own at *
  clear hpo hplc
  have hf0 := ((Fr.refl (fun _ => False) w).alloc (.cells #[.int .i64 x.op, .int .i64 x.ln, .string x.s, .int .i64 x.v.k, .int .i64 x.v.n, .string x.v.s, .slice va x.v.l.length vc, .slice la x.l.length lc] 75)).alloc (.cells #[.int .i64 0, .bool false, .int .i64 0, .int .i64 0, .int .i64 0, .string ⟨#[]⟩, .slice none 0 0] 46)
  have hx0 := ((Fr.refl (fun _ => False) (w.alloc (.cells #[.int .i64 x.op, .int .i64 x.ln, .string x.s, .int .i64 x.v.k, .int .i64 x.v.n, .string x.v.s, .slice va x.v.l.length vc, .slice la x.l.length lc] 75))).alloc (.cells #[.int .i64 0, .bool false, .int .i64 0, .int .i64 0, .int .i64 0, .string ⟨#[]⟩, .slice none 0 0] 46)).heap (heap_alloc_new w (.cells #[.int .i64 x.op, .int .i64 x.ln, .string x.s, .int .i64 x.v.k, .int .i64 x.v.n, .string x.v.s, .slice va x.v.l.length vc, .slice la x.l.length lc] 75)) not_false
  have hz0 := heap_alloc_new (w.alloc (.cells #[.int .i64 x.op, .int .i64 x.ln, .string x.s, .int .i64 x.v.k, .int .i64 x.v.n, .string x.v.s, .slice va x.v.l.length vc, .slice la x.l.length lc] 75)) (.cells #[.int .i64 0, .bool false, .int .i64 0, .int .i64 0, .int .i64 0, .string ⟨#[]⟩, .slice none 0 0] 46)
  rw [show (w.alloc (.cells #[.int .i64 x.op, .int .i64 x.ln, .string x.s, .int .i64 x.v.k, .int .i64 x.v.n, .string x.v.s, .slice va x.v.l.length vc, .slice la x.l.length lc] 75)).heap.size = w.heap.size + 1 by simp] at hz0
  go_enter Tryz.func42, Tryz.ntmps42
  go_upto_region 1 with fail
  generalize hW : (w.alloc (.cells #[.int .i64 x.op, .int .i64 x.ln, .string x.s, .int .i64 x.v.k, .int .i64 x.v.n, .string x.v.s, .slice va x.v.l.length vc, .slice la x.l.length lc] 75)).alloc (.cells #[.int .i64 0, .bool false, .int .i64 0, .int .i64 0, .int .i64 0, .string ⟨#[]⟩, .slice none 0 0] 46) = W at *
  clear hW
  have HF0 := hid hf0; have HX0 := hid hx0; have HZ0 := hid hz0
  clear hf0 hx0 hz0
  have d0 : W.cell? ⟨w.heap.size, 0, none⟩ = some (.int .i64 x.op) := by rw [cell_of_row _ _ 0 _ _ _ HX0.out]; rfl
  have d1 : W.cell? ⟨w.heap.size, 1, none⟩ = some (.int .i64 x.ln) := by rw [cell_of_row _ _ 1 _ _ _ HX0.out]; rfl
  have d2 : W.cell? ⟨w.heap.size, 2, none⟩ = some (.string x.s) := by rw [cell_of_row _ _ 2 _ _ _ HX0.out]; rfl
  have d3 : W.cell? ⟨w.heap.size, 3, none⟩ = some (.int .i64 x.v.k) := by rw [cell_of_row _ _ 3 _ _ _ HX0.out]; rfl
  have d4 : W.cell? ⟨w.heap.size, 4, none⟩ = some (.int .i64 x.v.n) := by rw [cell_of_row _ _ 4 _ _ _ HX0.out]; rfl
  have d5 : W.cell? ⟨w.heap.size, 5, none⟩ = some (.string x.v.s) := by rw [cell_of_row _ _ 5 _ _ _ HX0.out]; rfl
  have d6 : W.cell? ⟨w.heap.size, 6, none⟩ = some (.slice va x.v.l.length vc) := by rw [cell_of_row _ _ 6 _ _ _ HX0.out]; rfl
  have d7 : W.cell? ⟨w.heap.size, 7, none⟩ = some (.slice la x.l.length lc) := by rw [cell_of_row _ _ 7 _ _ _ HX0.out]; rfl
  go_wp2_with fail
  refine (HSV.out W).mono ?_
  rintro e w2 ⟨rfl, hf2⟩
  replace d0 := hf2.cell d0 not_false
  replace d1 := hf2.cell d1 not_false
  replace d2 := hf2.cell d2 not_false
  replace d3 := hf2.cell d3 not_false
  replace d4 := hf2.cell d4 not_false
  replace d5 := hf2.cell d5 not_false
  replace d6 := hf2.cell d6 not_false
  replace d7 := hf2.cell d7 not_false
  have HF2 := hid (HF0.out.trans' hf2)
  have HX2 := hid (hf2.heap HX0.out not_false); have HZ2 := hid (hf2.heap HZ0.out not_false)
  clear hf2
  obtain ⟨o1, ho1⟩ : ∃ b, (x.op == 1) = b := ⟨_, rfl⟩
  go_upto_if 18 with fail
  go_cut [7] from 19 to 39 (fun c wx => c = .bool fv ∧ Hid (Fr (fun _ => False) w2 wx))
  case first =>
   have HR1 := hid (Fr.refl (fun _ => False) w2)
   cases o1
   case false =>
    have ho : x.op ≠ 1 := by simpa using ho1
    have HX := hid (show fv = nv by rw [HFV.out, if_neg ho])
    clear ho
    go_wp2_with fail
    go_meet
    exact ⟨by rw [HX.out], HR1⟩
   case true =>
    have ho : x.op = 1 := by simpa using ho1
    have HX := hid (show fv = lo by rw [HFV.out, if_pos ho])
    clear ho
    have hcell : ∀ j, j < 4 → w2.cell? ⟨w.heap.size, 3 + j, none⟩ = #[.int .i64 x.v.k, .int .i64 x.v.n, .string x.v.s, .slice va x.v.l.length vc][j]? := by
     intro j hj
     rcases j with _ | _ | _ | _ | j
     ·exact d3
     ·exact d4
     ·exact d5
     ·exact d6
     ·omega
    generalize decide (x.v.valid = 0) = rg at *
    go_wp2_with fail
    refine (HRI.out _ HF2.out).mono ?_
    rintro e w3 ⟨rfl, hf3⟩
    replace d3 := hf3.cell d3 not_false
    replace d4 := hf3.cell d4 not_false
    have HF3 := hid hf3
    clear hf3 hcell d5 d6
    cases rg
    ·have HY := hid (show fv = false by rw [HX.out, HLO.out]; simp)
     go_wp2_with fail
     go_meet
     exact ⟨by rw [HY.out], HF3⟩
    cases q4 : (x.v.k != 4)
    ·have HY := hid (show fv = false by rw [HX.out, HLO.out, q4]; rfl)
     go_wp2_with fail
     go_meet
     exact ⟨by rw [HY.out], HF3⟩
    cases q0k : (x.v.k != 0)
    ·have HY := hid (show fv = (x.v.n != -9223372036854775808) by rw [HX.out, HLO.out, q4, q0k]; rfl)
     go_wp2_with fail
     go_meet
     exact ⟨by rw [HY.out], HF3⟩
    ·have HY := hid (show fv = true by rw [HX.out, HLO.out, q4, q0k]; rfl)
     go_wp2_with fail
     go_meet
     exact ⟨by rw [HY.out], HF3⟩
  case rest =>
  obtain ⟨rfl, HFC⟩ := hcut
  obtain ⟨w4, hw4⟩ : ∃ W, W = wc := ⟨wc, rfl⟩
  rw [← hw4] at HFC ⊢
  clear hw4
  replace d0 := HFC.out.cell d0 not_false
  replace d1 := HFC.out.cell d1 not_false
  replace d2 := HFC.out.cell d2 not_false
  replace d3 := HFC.out.cell d3 not_false
  replace d4 := HFC.out.cell d4 not_false
  replace d5 := HFC.out.cell d5 not_false
  replace d6 := HFC.out.cell d6 not_false
  replace d7 := HFC.out.cell d7 not_false
  have HF4 := hid (HF2.out.trans' HFC.out)
  have HX4 := hid (HFC.out.heap HX2.out not_false); have HZ4 := hid (HFC.out.heap HZ2.out not_false)
  go_wp2_with fail
  refine (HNA.out w4).mono ?_
  rintro e w5 ⟨rfl, hf5⟩
  replace d0 := hf5.cell d0 not_false
  replace d1 := hf5.cell d1 not_false
  replace d2 := hf5.cell d2 not_false
  replace d3 := hf5.cell d3 not_false
  replace d4 := hf5.cell d4 not_false
  replace d5 := hf5.cell d5 not_false
  replace d6 := hf5.cell d6 not_false
  replace d7 := hf5.cell d7 not_false
  have HF5 := hid (HF4.out.trans' hf5)
  have HX5 := hid (hf5.heap HX4.out not_false); have HZ5 := hid (hf5.heap HZ4.out not_false)
  clear hf5 HSV HRI HNA
  obtain ⟨aw, haw⟩ : ∃ b, awayB x.op loop = b := ⟨_, rfl⟩
  have HAW := hid haw
  clear haw
  go_upto_region 5 with fail
  go_cut [9] from 42 to 53 (fun c wx => c = .bool aw ∧ w5 = wx)
  case first =>
   have HA := hid (show ((x.op == 45 || x.op == 46) && !loop) = aw from HAW.out)
   cases e45 : (x.op == 45)
   ·cases e46 : (x.op == 46)
    ·have HY := hid (show aw = false by rw [← HA.out, e45, e46]; rfl)
     go_wp2_with fail
     go_meet
     exact ⟨by rw [HY.out], rfl⟩
    ·have HY := hid (show aw = !loop by rw [← HA.out, e45, e46]; rfl)
     go_wp2_with fail
     go_meet
     exact ⟨by rw [HY.out], rfl⟩
   ·have HY := hid (show aw = !loop by rw [← HA.out, e45]; rfl)
    go_wp2_with fail
    go_meet
    exact ⟨by rw [HY.out], rfl⟩
  case rest =>
  obtain ⟨rfl, rfl⟩ := hcut
  rw [HAW.out] at HPO
  clear HAW
  obtain ⟨ob, hob⟩ : ∃ b, oBad st cn fv nm aw = b := ⟨_, rfl⟩
  rw [hob] at HPO
  go_upto_region 6 with fail
  go_cut [78] from 54 to 78 (fun c wx => c = .bool ob ∧ w5 = wx)
  case first =>
   have HO := hid (show (!st || !cn || !fv || nm == 2 || aw) = ob from hob)
   clear hob
   go_wp2_with fail
   refine (HST.out w5).mono ?_
   rintro e w6 ⟨rfl, rfl⟩
   cases st
   ·have HY := hid (show ob = true by rw [← HO.out]; rfl)
    go_wp2_with fail
    go_meet
    exact ⟨by rw [HY.out], rfl⟩
   go_wp2_with fail
   refine (HCN.out w5).mono ?_
   rintro e w6 ⟨rfl, rfl⟩
   cases cn
   ·have HY := hid (show ob = true by rw [← HO.out]; rfl)
    go_wp2_with fail
    go_meet
    exact ⟨by rw [HY.out], rfl⟩
   cases fv
   ·have HY := hid (show ob = true by rw [← HO.out]; rfl)
    go_wp2_with fail
    go_meet
    exact ⟨by rw [HY.out], rfl⟩
   cases e2 : (nm == 2)
   ·have HY := hid (show ob = aw by rw [← HO.out, e2]; rfl)
    go_wp2_with fail
    go_meet
    exact ⟨by rw [HY.out], rfl⟩
   ·have HY := hid (show ob = true by rw [← HO.out, e2]; rfl)
    go_wp2_with fail
    go_meet
    exact ⟨by rw [HY.out], rfl⟩
  case rest =>
  obtain ⟨rfl, rfl⟩ := hcut
  clear hob HST HCN HFV HLO
  cases ob
  case true =>
   have HPO2 := hid (show po = 103 by rw [HPO.out]; rfl)
   have HQQ := hid (show q0 = (103, x.ln) by rw [HQ.out, HPO2.out]; rfl)
   go_wp2_with fail
   refine (HP1.out w5).mono ?_
   rintro e w6 ⟨rfl, hf6⟩
   unfold faultV
   have hrow := hf6.heap HZ5.out not_false
   have HF6 := hid (HF5.out.trans' hf6)
   clear hf6 d0 d1 d2 d3 d4 d5 d6 d7
   have z0 : w6.cell? ⟨(w.heap.size + 1), 0, none⟩ = some (.int .i64 0) := by rw [cell_of_row _ _ 0 _ _ _ hrow]; rfl
   have z1 : w6.cell? ⟨(w.heap.size + 1), 1, none⟩ = some (.bool false) := by rw [cell_of_row _ _ 1 _ _ _ hrow]; rfl
   have z2 : w6.cell? ⟨(w.heap.size + 1), 2, none⟩ = some (.int .i64 0) := by rw [cell_of_row _ _ 2 _ _ _ hrow]; rfl
   have z3 : w6.cell? ⟨(w.heap.size + 1), 3, none⟩ = some (.int .i64 0) := by rw [cell_of_row _ _ 3 _ _ _ hrow]; rfl
   have z4 : w6.cell? ⟨(w.heap.size + 1), 4, none⟩ = some (.int .i64 0) := by rw [cell_of_row _ _ 4 _ _ _ hrow]; rfl
   have z5 : w6.cell? ⟨(w.heap.size + 1), 5, none⟩ = some (.string ⟨#[]⟩) := by rw [cell_of_row _ _ 5 _ _ _ hrow]; rfl
   have z6 : w6.cell? ⟨(w.heap.size + 1), 6, none⟩ = some (.slice none 0 0) := by rw [cell_of_row _ _ 6 _ _ _ hrow]; rfl
   have fz : ∀ i, w6.frozen? ⟨w.heap.size + 1, i, none⟩ = false := fun i => frozen_of_row _ _ i _ _ hrow
   go_wp2_with fail
   have hR2 := (setCell_row 6 (.slice none 0 0) (setCell_row 5 (.string ⟨#[]⟩) (setCell_row 4 (.int .i64 0) (setCell_row 3 (.int .i64 0) (setCell_row 2 (.int .i64 x.ln) (setCell_row 1 (.bool true) (setCell_row 0 (.int .i64 103) hrow)))))))
   simp only [List.setIfInBounds_toArray, List.set_cons_zero, List.set_cons_succ] at hR2
   have hf8 : Fr (fun q => q = w.heap.size + 1) w6 (((((((w6.setCell ⟨w.heap.size + 1, 0, none⟩ (.int .i64 103)).setCell ⟨w.heap.size + 1, 1, none⟩ (.bool true)).setCell ⟨w.heap.size + 1, 2, none⟩ (.int .i64 x.ln)).setCell ⟨w.heap.size + 1, 3, none⟩ (.int .i64 0)).setCell ⟨w.heap.size + 1, 4, none⟩ (.int .i64 0)).setCell ⟨w.heap.size + 1, 5, none⟩ (.string ⟨#[]⟩)).setCell ⟨w.heap.size + 1, 6, none⟩ (.slice none 0 0)) := ((((((((Fr.refl (fun q => q = w.heap.size + 1) w6).setCell (p := ⟨w.heap.size + 1, 0, none⟩) (.inl rfl) (.int .i64 103)).setCell (p := ⟨w.heap.size + 1, 1, none⟩) (.inl rfl) (.bool true)).setCell (p := ⟨w.heap.size + 1, 2, none⟩) (.inl rfl) (.int .i64 x.ln)).setCell (p := ⟨w.heap.size + 1, 3, none⟩) (.inl rfl) (.int .i64 0)).setCell (p := ⟨w.heap.size + 1, 4, none⟩) (.inl rfl) (.int .i64 0)).setCell (p := ⟨w.heap.size + 1, 5, none⟩) (.inl rfl) (.string ⟨#[]⟩)).setCell (p := ⟨w.heap.size + 1, 6, none⟩) (.inl rfl) (.slice none 0 0))
   refine bodyPost_ret (results_cell_row rfl _ _ (w.heap.size + 1) _ _ _ _ rfl hR2 Tryz.underlying46 rfl (by kernel_rfl)) rfl ?_
   exact ⟨by rw [HQQ.out]; rfl, (HF6.out).trans hf8 (fun _ _ => id) (fun q hq e => by omega)⟩
  case false =>
  cases e1 : (nm == 1)
  case true =>
   have HPO2 := hid (show po = 106 by rw [HPO.out, if_neg (by decide), if_pos (by simpa using e1)])
   have HQQ := hid (show q0 = (106, x.ln) by rw [HQ.out, HPO2.out]; rfl)
   go_wp2_with fail
   refine (HP2.out w5).mono ?_
   rintro e w6 ⟨rfl, hf6⟩
   unfold faultV
   have hrow := hf6.heap HZ5.out not_false
   have HF6 := hid (HF5.out.trans' hf6)
   clear hf6 d0 d1 d2 d3 d4 d5 d6 d7
   have z0 : w6.cell? ⟨(w.heap.size + 1), 0, none⟩ = some (.int .i64 0) := by rw [cell_of_row _ _ 0 _ _ _ hrow]; rfl
   have z1 : w6.cell? ⟨(w.heap.size + 1), 1, none⟩ = some (.bool false) := by rw [cell_of_row _ _ 1 _ _ _ hrow]; rfl
   have z2 : w6.cell? ⟨(w.heap.size + 1), 2, none⟩ = some (.int .i64 0) := by rw [cell_of_row _ _ 2 _ _ _ hrow]; rfl
   have z3 : w6.cell? ⟨(w.heap.size + 1), 3, none⟩ = some (.int .i64 0) := by rw [cell_of_row _ _ 3 _ _ _ hrow]; rfl
   have z4 : w6.cell? ⟨(w.heap.size + 1), 4, none⟩ = some (.int .i64 0) := by rw [cell_of_row _ _ 4 _ _ _ hrow]; rfl
   have z5 : w6.cell? ⟨(w.heap.size + 1), 5, none⟩ = some (.string ⟨#[]⟩) := by rw [cell_of_row _ _ 5 _ _ _ hrow]; rfl
   have z6 : w6.cell? ⟨(w.heap.size + 1), 6, none⟩ = some (.slice none 0 0) := by rw [cell_of_row _ _ 6 _ _ _ hrow]; rfl
   have fz : ∀ i, w6.frozen? ⟨w.heap.size + 1, i, none⟩ = false := fun i => frozen_of_row _ _ i _ _ hrow
   go_wp2_with fail
   have hR2 := (setCell_row 6 (.slice none 0 0) (setCell_row 5 (.string ⟨#[]⟩) (setCell_row 4 (.int .i64 0) (setCell_row 3 (.int .i64 0) (setCell_row 2 (.int .i64 x.ln) (setCell_row 1 (.bool true) (setCell_row 0 (.int .i64 106) hrow)))))))
   simp only [List.setIfInBounds_toArray, List.set_cons_zero, List.set_cons_succ] at hR2
   have hf8 : Fr (fun q => q = w.heap.size + 1) w6 (((((((w6.setCell ⟨w.heap.size + 1, 0, none⟩ (.int .i64 106)).setCell ⟨w.heap.size + 1, 1, none⟩ (.bool true)).setCell ⟨w.heap.size + 1, 2, none⟩ (.int .i64 x.ln)).setCell ⟨w.heap.size + 1, 3, none⟩ (.int .i64 0)).setCell ⟨w.heap.size + 1, 4, none⟩ (.int .i64 0)).setCell ⟨w.heap.size + 1, 5, none⟩ (.string ⟨#[]⟩)).setCell ⟨w.heap.size + 1, 6, none⟩ (.slice none 0 0)) := ((((((((Fr.refl (fun q => q = w.heap.size + 1) w6).setCell (p := ⟨w.heap.size + 1, 0, none⟩) (.inl rfl) (.int .i64 106)).setCell (p := ⟨w.heap.size + 1, 1, none⟩) (.inl rfl) (.bool true)).setCell (p := ⟨w.heap.size + 1, 2, none⟩) (.inl rfl) (.int .i64 x.ln)).setCell (p := ⟨w.heap.size + 1, 3, none⟩) (.inl rfl) (.int .i64 0)).setCell (p := ⟨w.heap.size + 1, 4, none⟩) (.inl rfl) (.int .i64 0)).setCell (p := ⟨w.heap.size + 1, 5, none⟩) (.inl rfl) (.string ⟨#[]⟩)).setCell (p := ⟨w.heap.size + 1, 6, none⟩) (.inl rfl) (.slice none 0 0))
   refine bodyPost_ret (results_cell_row rfl _ _ (w.heap.size + 1) _ _ _ _ rfl hR2 Tryz.underlying46 rfl (by kernel_rfl)) rfl ?_
   exact ⟨by rw [HQQ.out]; rfl, (HF6.out).trans hf8 (fun _ _ => id) (fun q hq e => by omega)⟩
  case false =>
  have hpo0 : po = 0 := by rw [HPO.out, if_neg (by decide), if_neg (by simpa using e1)]
  have HQQ := hid (show q0 = pWalkL x.op role loop (pRoles x.op x.l.length) 0 x.l by rw [HQ.out, hpo0]; rfl)
  have HPL2 := hid (HPL.out hpo0); have HRL2 := hid (HRL.out hpo0)
  clear HPL HRL HPO HQ hpo0
  generalize pRoles x.op x.l.length = R at *
  obtain ⟨dl, hdl⟩ : ∃ b, dLoop x.op loop = b := ⟨_, rfl⟩
  rw [hdl] at HFE
  go_upto_block 0 with fail
  go_cut [2] from 89 to 94 (fun c wx => c = .bool dl ∧ w5 = wx)
  case first =>
   have HD := hid (show (if x.op = 42 ∨ x.op = 43 ∨ x.op = 44 then true else if x.op = 48 then false else loop) = dl from hdl)
   clear hdl
   cases e42 : (x.op == 42)
   ·cases e43 : (x.op == 43)
    ·cases e44 : (x.op == 44)
     ·have hn : ¬ (x.op = 42 ∨ x.op = 43 ∨ x.op = 44) := by
       have a := beq_eq_false_iff_ne.1 e42
       have b := beq_eq_false_iff_ne.1 e43
       have c := beq_eq_false_iff_ne.1 e44
       omega
      cases e48 : (x.op == 48)
      ·have HY := hid (show dl = loop by rw [← HD.out, if_neg hn, if_neg (beq_eq_false_iff_ne.1 e48)])
       clear hn
       go_wp2_with fail
       go_meet
       exact ⟨by rw [HY.out], rfl⟩
      ·have HY := hid (show dl = false by rw [← HD.out, if_neg hn, if_pos (by simpa using e48)])
       clear hn
       go_wp2_with fail
       go_meet
       exact ⟨by rw [HY.out], rfl⟩
     ·have HY := hid (show dl = true by rw [← HD.out, if_pos (Or.inr (Or.inr (by simpa using e44)))])
      go_wp2_with fail
      go_meet
      exact ⟨by rw [HY.out], rfl⟩
    ·have HY := hid (show dl = true by rw [← HD.out, if_pos (Or.inr (Or.inl (by simpa using e43)))])
     go_wp2_with fail
     go_meet
     exact ⟨by rw [HY.out], rfl⟩
   ·have HY := hid (show dl = true by rw [← HD.out, if_pos (Or.inl (by simpa using e42))])
    go_wp2_with fail
    go_meet
    exact ⟨by rw [HY.out], rfl⟩
  case rest =>
  obtain ⟨rfl, rfl⟩ := hcut
  clear hdl
  go_wp2_with fail
  go_loopw [10] (fun i wr => ∃ k : Nat, k ≤ x.l.length ∧ i = .int .i64 k ∧ Hid (q0 = pWalkL x.op role loop R k (x.l.drop k)) ∧ Fr (fun _ => False) w5 wr) (fun i _ => x.l.length - (intOf i).toNat)
  case atStart => exact ⟨0, Nat.zero_le _, rfl, hid (by rw [HQQ.out]; rfl), Fr.refl _ _⟩
  case round =>
   obtain ⟨k, hk, rfl, HS, hf⟩ := hrel
   replace d0 := hf.cell d0 not_false
   replace d1 := hf.cell d1 not_false
   replace d2 := hf.cell d2 not_false
   replace d3 := hf.cell d3 not_false
   replace d4 := hf.cell d4 not_false
   replace d5 := hf.cell d5 not_false
   replace d6 := hf.cell d6 not_false
   replace d7 := hf.cell d7 not_false
   have HXR := hid (hf.heap HX5.out not_false); have HZR := hid (hf.heap HZ5.out not_false)
   have HFW := hid (HF5.out.trans' hf); have HFR := hid hf
   clear hf
   by_cases hlt : k < x.l.length
   ·obtain ⟨b, o, y, yva, c1, a', c', rfl, -, hy, hv, e0, e1, e2, e3, e4, e5, e6, e7⟩ := NL.elem HB.out HI.out k hlt
    have hlt' : (k : Int) < x.l.length := by omega
    replace e0 := HFW.out.cell e0 not_false
    replace e1 := HFW.out.cell e1 not_false
    replace e2 := HFW.out.cell e2 not_false
    replace e3 := HFW.out.cell e3 not_false
    replace e4 := HFW.out.cell e4 not_false
    replace e5 := HFW.out.cell e5 not_false
    replace e6 := HFW.out.cell e6 not_false
    replace e7 := HFW.out.cell e7 not_false
    have HST := hid (pWalkL_step (op := x.op) (role := role) (loop := loop) (R := R) hy)
    have hrr := HRR.out (R.getD k 0) (by have := HRL2.out; simp [List.getD, this, hlt])
    have hwr := rW_range (role := role) (op := x.op) (i := k) hrr.1 hrr.2
    rw [← HFE.out k y] at HST
    obtain ⟨r9, hr9⟩ : ∃ r9, rW role x.op k (R.getD k 0) = r9 := ⟨_, rfl⟩
    have HPC := hid (fun w => HPL2.out k hlt w)
    rw [hr9] at HST hwr HPC
    have HOD := hid (fun w2 (hf : Fr (fun _ => False) w w2) => HIH.out k y hy r9 hwr.1 hwr.2 dl w2 _ (hv.frame hf fun _ _ => not_false))
    obtain ⟨q9, hq9⟩ : ∃ q9, pWalk y r9 dl = q9 := ⟨_, rfl⟩
    rw [hq9] at HST HOD
    have HST := hid HST.out
    clear hv hy hrr hwr hr9 hq9
    obtain ⟨fc, fp, fl, hfq, hfc⟩ : ∃ (fc : Int) (fp : Bool) (fl : Int), faultQ q9 = faultV fc fp fl ∧ ((fc != 0) = false ↔ q9.1 = 0) := by
     by_cases hz : q9.1 = 0
     ·exact ⟨0, false, 0, if_pos hz, by simp [hz]⟩
     ·exact ⟨q9.1, true, q9.2, if_neg hz, by simp [hz]⟩
    rw [hfq] at HOD
    have HFQ := hid hfq; have HFC := hid hfc
    clear hfq hfc
    unfold faultV at HOD
    go_upto_region 20 with fail
    go_cut [11] from 102 to 112 (fun p wx => ∃ g, p = .pointer (some ⟨g, 0, none⟩) ∧ Hid (Fr (fun _ => False) wr wx) ∧ Hid (wx.heap[g]? = some (.cells #[.int .i64 fc, .bool fp, .int .i64 fl, .int .i64 0, .int .i64 0, .string ⟨#[]⟩, .slice none 0 0] 46)))
    case first =>
     rename_i J K1 hJ hK1
     have hdrew := (Fr.refl (fun _ => False) wr).drew
     refine wpF_begin [0, 1, 2, 3, 4, 5, 6, 7, 9] (fun w' => Fr (fun _ => False) wr w') (by kernel_rfl) ?_
     (refine wpF_take (i := 0) ?_ (by kernel_rfl) (fun _ _ d _ _ h => by cases d <;> exact h) (by kernel_rfl) rfl (by kernel_rfl) (hdrew) ?_ ?_; rotate_left; (· intro w' hS; go_simp; try with_reducible rfl); (try simp only [Act.put, List.setIfInBounds_toArray, List.set_cons_zero, List.set_cons_succ]))
     (refine wpF_take (i := 1) ?_ (by kernel_rfl) (fun _ _ d _ _ h => by cases d <;> exact h) (by kernel_rfl) rfl (by kernel_rfl) (hdrew) ?_ ?_; rotate_left; (· intro w' hS; have z7 := Fr.cell hS d7 not_false; go_simp; try with_reducible rfl); (try simp only [Act.put, List.setIfInBounds_toArray, List.set_cons_zero, List.set_cons_succ]))
     (refine wpF_take (i := 2) ?_ (by kernel_rfl) (fun _ _ d _ _ h => by cases d <;> exact h) (by kernel_rfl) rfl (by kernel_rfl) (hdrew) ?_ ?_; rotate_left; (· intro w' hS; go_simp; try with_reducible rfl); (try simp only [Act.put, List.setIfInBounds_toArray, List.set_cons_zero, List.set_cons_succ]))
     (refine wpF_take (i := 3) ?_ (by kernel_rfl) (fun _ _ d _ _ h => by cases d <;> exact h) (by kernel_rfl) rfl (by kernel_rfl) (hdrew) ?_ ?_; rotate_left; (· intro w' hS; go_simp; try with_reducible rfl); (try simp only [Act.put, List.setIfInBounds_toArray, List.set_cons_zero, List.set_cons_succ]))
     (refine wpF_take (i := 4) ?_ (by kernel_rfl) (fun _ _ d _ _ h => by cases d <;> exact h) (by kernel_rfl) rfl (by kernel_rfl) (hdrew) ?_ ?_; rotate_left; (· intro w' hS; have y0 := Fr.cell hS e0 not_false; have y1 := Fr.cell hS e1 not_false; have y2 := Fr.cell hS e2 not_false; have y3 := Fr.cell hS e3 not_false; have y4 := Fr.cell hS e4 not_false; have y5 := Fr.cell hS e5 not_false; have y6 := Fr.cell hS e6 not_false; have y7 := Fr.cell hS e7 not_false; go_simp; try with_reducible rfl); (try simp only [Act.put, List.setIfInBounds_toArray, List.set_cons_zero, List.set_cons_succ]))
     (refine wpF_take (i := 5) ?_ (by kernel_rfl) (fun _ _ d _ _ h => by cases d <;> exact h) (by kernel_rfl) rfl (by kernel_rfl) (hdrew) ?_ ?_; rotate_left; (· intro w' hS; have x0 := Fr.cell hS d0 not_false; have x1 := Fr.cell hS d1 not_false; have x2 := Fr.cell hS d2 not_false; have x3 := Fr.cell hS d3 not_false; have x4 := Fr.cell hS d4 not_false; have x5 := Fr.cell hS d5 not_false; have x6 := Fr.cell hS d6 not_false; have x7 := Fr.cell hS d7 not_false; go_simp; try with_reducible rfl); (try simp only [Act.put, List.setIfInBounds_toArray, List.set_cons_zero, List.set_cons_succ]))
     (refine wpF_take (i := 6) ?_ (by kernel_rfl) (fun _ _ d _ _ h => by cases d <;> exact h) (by kernel_rfl) rfl (by kernel_rfl) (hdrew) ?_ ?_; rotate_left; (· intro w' hS; go_simp; try with_reducible rfl); (try simp only [Act.put, List.setIfInBounds_toArray, List.set_cons_zero, List.set_cons_succ]))
     (refine wpF_take (i := 7) ?_ (by kernel_rfl) (fun _ _ d _ _ h => by cases d <;> exact h) (by kernel_rfl) rfl (by kernel_rfl) (hdrew) ?_ ?_; rotate_left; (· intro w' hS; go_simp; try with_reducible rfl); (try simp only [Act.put, List.setIfInBounds_toArray, List.set_cons_zero, List.set_cons_succ]))
     (refine wpF_take (i := 9) ?_ (by kernel_rfl) (fun _ _ d _ _ h => by cases d <;> exact h) (by kernel_rfl) rfl (by kernel_rfl) (hdrew) ?_ ?_; rotate_left; (· intro w' hS; go_simp; try with_reducible rfl); (try simp only [Act.put, List.setIfInBounds_toArray, List.set_cons_zero, List.set_cons_succ]))
     clear d0 e0 d1 e1 d2 e2 d3 e3 d4 e4 d5 e5 d6 e6 d7 e7
     refine wpF_run2 (i := 8) (j := 11) (by kernel_rfl) rfl rfl (by kernel_rfl) (by kernel_rfl) (fun K hK => ?_) (fun K hK => ?_)
     ·go_simp
      refine (HPC.out wr.drew).mono ?_
      rintro e w7 ⟨rfl, hf7⟩
      have hS7 := hdrew.trans' hf7
      refine hK _ _ hS7 ?_
      clear hK K
      try simp only [Act.put, List.setIfInBounds_toArray, List.set_cons_zero, List.set_cons_succ]
      refine wpF_run2 (i := 10) (j := 11) (by kernel_rfl) rfl rfl (by kernel_rfl) (by kernel_rfl) (fun K hK => ?_) (fun K hK => ?_)
      ·go_simp
       refine (HOD.out w7 (HFW.out.trans' hS7)).mono ?_
       rintro e w8 ⟨rfl, hf8⟩
       have hS8 := hS7.trans' hf8
       refine hK _ _ hS8 ?_
       clear hK K
       try simp only [Act.put, List.setIfInBounds_toArray, List.set_cons_zero, List.set_cons_succ]
       (refine wpF_run (i := 11) (by kernel_rfl) rfl (by kernel_rfl) (fun K hK => ?_); go_simp; refine hK _ _ (hS8.alloc _) ?_; clear hK K; (try simp only [Act.put, List.setIfInBounds_toArray, List.set_cons_zero, List.set_cons_succ]))
       have hS9 := hS8.alloc (.cells #[.int .i64 fc, .bool fp, .int .i64 fl, .int .i64 0, .int .i64 0, .string ⟨#[]⟩, .slice none 0 0] 46)
       have hR := heap_alloc_new w8 (.cells #[.int .i64 fc, .bool fp, .int .i64 fl, .int .i64 0, .int .i64 0, .string ⟨#[]⟩, .slice none 0 0] 46)
       (refine wpF_run (i := 12) (by kernel_rfl) rfl (by kernel_rfl) (fun K hK => ?_); go_simp; refine hK _ _ (hS9) ?_; clear hK K; (try simp only [Act.put, List.setIfInBounds_toArray, List.set_cons_zero, List.set_cons_succ]))
       refine wpF_end (by kernel_rfl) ?_
       go_wp2_with fail
       go_meet
       exact ⟨_, rfl, hid hS9, hid hR⟩
      ·go_simp
       have hSa := hS7.alloc (.cells #[.int .i64 0, .bool false, .int .i64 0, .int .i64 0, .int .i64 0, .string ⟨#[]⟩, .slice none 0 0] 46)
       have hga := heap_alloc_new w7 (.cells #[.int .i64 0, .bool false, .int .i64 0, .int .i64 0, .int .i64 0, .string ⟨#[]⟩, .slice none 0 0] 46)
       have hgl := hS7.size
       refine hK _ _ hSa ?_
       clear hK K
       try simp only [Act.put, List.setIfInBounds_toArray, List.set_cons_zero, List.set_cons_succ]
       refine wpF_run (i := 10) (by kernel_rfl) rfl (by kernel_rfl) (fun K hK => ?_); go_simp
       refine (HOD.out _ (HFW.out.trans' hSa)).mono ?_
       rintro e w8 ⟨rfl, hf8⟩
       have hSn := hSa.trans' hf8
       have hg := hf8.heap hga not_false
       refine hK _ _ hSn ?_
       clear hK K
       try simp only [Act.put, List.setIfInBounds_toArray, List.set_cons_zero, List.set_cons_succ]
       obtain ⟨hR, hf5, z0, z1, z2, z3, z4, z5, z6, zf⟩ := set7 hg fc fp fl
       have hS9 := hSn.trans hf5 (U := fun _ => False) (fun _ _ h => h) (fun q hq e => by have := hgl; omega)
       (refine wpF_run (i := 12) (by kernel_rfl) rfl (by kernel_rfl) (fun K hK => ?_); go_simp; refine hK _ _ (hS9) ?_; clear hK K; (try simp only [Act.put, List.setIfInBounds_toArray, List.set_cons_zero, List.set_cons_succ]))
       refine wpF_end (by kernel_rfl) ?_
       go_wp2_with fail
       go_meet
       exact ⟨_, rfl, hid hS9, hid hR⟩
     ·go_simp
      have hSa := hdrew.alloc (.cells #[.int .i64 0, .bool false, .int .i64 0, .int .i64 0, .int .i64 0, .string ⟨#[]⟩, .slice none 0 0] 46)
      have hga := heap_alloc_new wr.drew (.cells #[.int .i64 0, .bool false, .int .i64 0, .int .i64 0, .int .i64 0, .string ⟨#[]⟩, .slice none 0 0] 46)
      have hgl : wr.heap.size ≤ wr.drew.heap.size := Nat.le_refl _
      refine hK _ _ hSa ?_
      clear hK K
      try simp only [Act.put, List.setIfInBounds_toArray, List.set_cons_zero, List.set_cons_succ]
      refine wpF_run (i := 8) (by kernel_rfl) rfl (by kernel_rfl) (fun K hK => ?_); go_simp
      refine (HPC.out _).mono ?_
      rintro e w7 ⟨rfl, hf7⟩
      have hS7 := hSa.trans' hf7
      refine hK _ _ hS7 ?_
      clear hK K
      try simp only [Act.put, List.setIfInBounds_toArray, List.set_cons_zero, List.set_cons_succ]
      refine wpF_run (i := 10) (by kernel_rfl) rfl (by kernel_rfl) (fun K hK => ?_); go_simp
      refine (HOD.out _ (HFW.out.trans' hS7)).mono ?_
      rintro e w8 ⟨rfl, hf8⟩
      have hSn := hS7.trans' hf8
      have hg : w8.heap[wr.heap.size]? = _ := hf8.heap (hf7.heap hga not_false) not_false
      refine hK _ _ hSn ?_
      clear hK K
      try simp only [Act.put, List.setIfInBounds_toArray, List.set_cons_zero, List.set_cons_succ]
      obtain ⟨hR, hf5, z0, z1, z2, z3, z4, z5, z6, zf⟩ := set7 hg fc fp fl
      have hS9 := hSn.trans hf5 (U := fun _ => False) (fun _ _ h => h) (fun q hq e => by have := hgl; omega)
      (refine wpF_run (i := 12) (by kernel_rfl) rfl (by kernel_rfl) (fun K hK => ?_); go_simp; refine hK _ _ (hS9) ?_; clear hK K; (try simp only [Act.put, List.setIfInBounds_toArray, List.set_cons_zero, List.set_cons_succ]))
      refine wpF_end (by kernel_rfl) ?_
      go_wp2_with fail
      go_meet
      exact ⟨_, rfl, hid hS9, hid hR⟩
    case rest =>
    obtain ⟨g, rfl, HFX, HGX⟩ := hcut
    obtain ⟨w9, hw9⟩ : ∃ W, W = wc := ⟨wc, rfl⟩
    rw [← hw9] at HFX HGX ⊢
    clear hw9
    have HF9 := hid (HFR.out.trans' HFX.out); have HFW9 := hid (HFW.out.trans' HFX.out)
    have HZ9 := hid (HFX.out.heap HZR.out not_false)
    clear d0 e0 d1 e1 d2 e2 d3 e3 d4 e4 d5 e5 d6 e6 d7 e7
    have y0 : w9.cell? ⟨g, 0, none⟩ = some (.int .i64 fc) := by rw [cell_of_row _ _ 0 _ _ _ HGX.out]; rfl
    have y1 : w9.cell? ⟨g, 1, none⟩ = some (.bool fp) := by rw [cell_of_row _ _ 1 _ _ _ HGX.out]; rfl
    have y2 : w9.cell? ⟨g, 2, none⟩ = some (.int .i64 fl) := by rw [cell_of_row _ _ 2 _ _ _ HGX.out]; rfl
    have y3 : w9.cell? ⟨g, 3, none⟩ = some (.int .i64 0) := by rw [cell_of_row _ _ 3 _ _ _ HGX.out]; rfl
    have y4 : w9.cell? ⟨g, 4, none⟩ = some (.int .i64 0) := by rw [cell_of_row _ _ 4 _ _ _ HGX.out]; rfl
    have y5 : w9.cell? ⟨g, 5, none⟩ = some (.string ⟨#[]⟩) := by rw [cell_of_row _ _ 5 _ _ _ HGX.out]; rfl
    have y6 : w9.cell? ⟨g, 6, none⟩ = some (.slice none 0 0) := by rw [cell_of_row _ _ 6 _ _ _ HGX.out]; rfl
    by_cases hz9 : q9.1 = 0
    ·have hfc0 := HFC.out.2 hz9
     have HS2 := hid (show q0 = pWalkL x.op role loop R (k + 1) (x.l.drop (k + 1)) by rw [HS.out, HST.out, if_pos hz9])
     clear hz9
     go_wp2_with fail
     go_roundw
     case rel => exact ⟨k + 1, by omega, by go_num, HS2, HF9.out⟩
     case measure => simp [intOf]; omega
    ·have hfc0 : (fc != 0) = true := by
      cases h : (fc != 0)
      ·exact absurd (HFC.out.1 h) hz9
      ·rfl
     have HS2 := hid (show faultQ q0 = faultV fc fp fl by rw [HS.out, HST.out, if_neg hz9, HFQ.out])
     clear hz9
     have hrow := HZ9.out
     have z0 : w9.cell? ⟨(w.heap.size + 1), 0, none⟩ = some (.int .i64 0) := by rw [cell_of_row _ _ 0 _ _ _ hrow]; rfl
     have z1 : w9.cell? ⟨(w.heap.size + 1), 1, none⟩ = some (.bool false) := by rw [cell_of_row _ _ 1 _ _ _ hrow]; rfl
     have z2 : w9.cell? ⟨(w.heap.size + 1), 2, none⟩ = some (.int .i64 0) := by rw [cell_of_row _ _ 2 _ _ _ hrow]; rfl
     have z3 : w9.cell? ⟨(w.heap.size + 1), 3, none⟩ = some (.int .i64 0) := by rw [cell_of_row _ _ 3 _ _ _ hrow]; rfl
     have z4 : w9.cell? ⟨(w.heap.size + 1), 4, none⟩ = some (.int .i64 0) := by rw [cell_of_row _ _ 4 _ _ _ hrow]; rfl
     have z5 : w9.cell? ⟨(w.heap.size + 1), 5, none⟩ = some (.string ⟨#[]⟩) := by rw [cell_of_row _ _ 5 _ _ _ hrow]; rfl
     have z6 : w9.cell? ⟨(w.heap.size + 1), 6, none⟩ = some (.slice none 0 0) := by rw [cell_of_row _ _ 6 _ _ _ hrow]; rfl
     have fz : ∀ i, w9.frozen? ⟨w.heap.size + 1, i, none⟩ = false := fun i => frozen_of_row _ _ i _ _ hrow
     go_wp2_with fail
     have hR2 := (setCell_row 6 (.slice none 0 0) (setCell_row 5 (.string ⟨#[]⟩) (setCell_row 4 (.int .i64 0) (setCell_row 3 (.int .i64 0) (setCell_row 2 (.int .i64 fl) (setCell_row 1 (.bool fp) (setCell_row 0 (.int .i64 fc) hrow)))))))
     simp only [List.setIfInBounds_toArray, List.set_cons_zero, List.set_cons_succ] at hR2
     have hf8 : Fr (fun q => q = w.heap.size + 1) w9 (((((((w9.setCell ⟨w.heap.size + 1, 0, none⟩ (.int .i64 fc)).setCell ⟨w.heap.size + 1, 1, none⟩ (.bool fp)).setCell ⟨w.heap.size + 1, 2, none⟩ (.int .i64 fl)).setCell ⟨w.heap.size + 1, 3, none⟩ (.int .i64 0)).setCell ⟨w.heap.size + 1, 4, none⟩ (.int .i64 0)).setCell ⟨w.heap.size + 1, 5, none⟩ (.string ⟨#[]⟩)).setCell ⟨w.heap.size + 1, 6, none⟩ (.slice none 0 0)) := ((((((((Fr.refl (fun q => q = w.heap.size + 1) w9).setCell (p := ⟨w.heap.size + 1, 0, none⟩) (.inl rfl) (.int .i64 fc)).setCell (p := ⟨w.heap.size + 1, 1, none⟩) (.inl rfl) (.bool fp)).setCell (p := ⟨w.heap.size + 1, 2, none⟩) (.inl rfl) (.int .i64 fl)).setCell (p := ⟨w.heap.size + 1, 3, none⟩) (.inl rfl) (.int .i64 0)).setCell (p := ⟨w.heap.size + 1, 4, none⟩) (.inl rfl) (.int .i64 0)).setCell (p := ⟨w.heap.size + 1, 5, none⟩) (.inl rfl) (.string ⟨#[]⟩)).setCell (p := ⟨w.heap.size + 1, 6, none⟩) (.inl rfl) (.slice none 0 0))
     refine bodyPost_ret (results_cell_row rfl _ _ (w.heap.size + 1) _ _ _ _ rfl hR2 Tryz.underlying46 rfl (by kernel_rfl)) rfl ?_
     exact ⟨by rw [HS2.out]; rfl, (HFW9.out).trans hf8 (fun _ _ => id) (fun q hq e => by omega)⟩
   ·obtain rfl : k = x.l.length := by omega
    have HQ0 := hid (show q0 = (0, 0) by rw [HS.out, List.drop_length, pWalkL_nil])
    have HNN := hid (none_any wr)
    go_wp2_with fail
    refine HNN.out.mono ?_
    rintro e w9 ⟨rfl, hf9⟩
    unfold bareV
    have hrow := hf9.heap HZR.out not_false
    have HF9 := hid (HFW.out.trans' hf9)
    clear hf9
    have z0 : w9.cell? ⟨(w.heap.size + 1), 0, none⟩ = some (.int .i64 0) := by rw [cell_of_row _ _ 0 _ _ _ hrow]; rfl
    have z1 : w9.cell? ⟨(w.heap.size + 1), 1, none⟩ = some (.bool false) := by rw [cell_of_row _ _ 1 _ _ _ hrow]; rfl
    have z2 : w9.cell? ⟨(w.heap.size + 1), 2, none⟩ = some (.int .i64 0) := by rw [cell_of_row _ _ 2 _ _ _ hrow]; rfl
    have z3 : w9.cell? ⟨(w.heap.size + 1), 3, none⟩ = some (.int .i64 0) := by rw [cell_of_row _ _ 3 _ _ _ hrow]; rfl
    have z4 : w9.cell? ⟨(w.heap.size + 1), 4, none⟩ = some (.int .i64 0) := by rw [cell_of_row _ _ 4 _ _ _ hrow]; rfl
    have z5 : w9.cell? ⟨(w.heap.size + 1), 5, none⟩ = some (.string ⟨#[]⟩) := by rw [cell_of_row _ _ 5 _ _ _ hrow]; rfl
    have z6 : w9.cell? ⟨(w.heap.size + 1), 6, none⟩ = some (.slice none 0 0) := by rw [cell_of_row _ _ 6 _ _ _ hrow]; rfl
    have fz : ∀ i, w9.frozen? ⟨w.heap.size + 1, i, none⟩ = false := fun i => frozen_of_row _ _ i _ _ hrow
    go_wp2_with fail
    have hR2 := (setCell_row 6 (.slice none 0 0) (setCell_row 5 (.string ⟨#[]⟩) (setCell_row 4 (.int .i64 0) (setCell_row 3 (.int .i64 0) (setCell_row 2 (.int .i64 0) (setCell_row 1 (.bool false) (setCell_row 0 (.int .i64 0) hrow)))))))
    simp only [List.setIfInBounds_toArray, List.set_cons_zero, List.set_cons_succ] at hR2
    have hf8 : Fr (fun q => q = w.heap.size + 1) w9 (((((((w9.setCell ⟨w.heap.size + 1, 0, none⟩ (.int .i64 0)).setCell ⟨w.heap.size + 1, 1, none⟩ (.bool false)).setCell ⟨w.heap.size + 1, 2, none⟩ (.int .i64 0)).setCell ⟨w.heap.size + 1, 3, none⟩ (.int .i64 0)).setCell ⟨w.heap.size + 1, 4, none⟩ (.int .i64 0)).setCell ⟨w.heap.size + 1, 5, none⟩ (.string ⟨#[]⟩)).setCell ⟨w.heap.size + 1, 6, none⟩ (.slice none 0 0)) := ((((((((Fr.refl (fun q => q = w.heap.size + 1) w9).setCell (p := ⟨w.heap.size + 1, 0, none⟩) (.inl rfl) (.int .i64 0)).setCell (p := ⟨w.heap.size + 1, 1, none⟩) (.inl rfl) (.bool false)).setCell (p := ⟨w.heap.size + 1, 2, none⟩) (.inl rfl) (.int .i64 0)).setCell (p := ⟨w.heap.size + 1, 3, none⟩) (.inl rfl) (.int .i64 0)).setCell (p := ⟨w.heap.size + 1, 4, none⟩) (.inl rfl) (.int .i64 0)).setCell (p := ⟨w.heap.size + 1, 5, none⟩) (.inl rfl) (.string ⟨#[]⟩)).setCell (p := ⟨w.heap.size + 1, 6, none⟩) (.inl rfl) (.slice none 0 0))
    refine bodyPost_ret (results_cell_row rfl _ _ (w.heap.size + 1) _ _ _ _ rfl hR2 Tryz.underlying46 rfl (by kernel_rfl)) rfl ?_
    exact ⟨by rw [HQ0.out]; rfl, (HF9.out).trans hf8 (fun _ _ => id) (fun q hq e => by omega)⟩
end
section
def cRole (role op : Int) (i : Nat) (r : Int) : Int := if role = 9 then 0 else if op = 29 ∧ i = 1 then 9 else rW role op i r
def cst (role op : Int) (n : Nat) : Nat :=
 if role = 5 then (if n = 0 then 0 else 4 + n) else if role = 9 then (if n = 0 then 0 else 6 + n) else if role = 8 then 3
 else if role = 7 then 1 + (if op = 40 then 1 else if op = 41 then 2 * (n / 2) else if op = 42 ∨ op = 43 then 4 else if op = 44 then 5 else if op = 45 ∨ op = 46 then 1 else if op = 47 then (if n = 0 then 2 else 1) else if op = 48 then 1 else if op = 49 ∨ op = 51 then 4 else 0)
 else if role = 0 ∨ role = 1 then (if role = 1 then 1 else 0) + (if op = 26 then 0 else if op = 19 then 2 else if op = 23 then 4 else if op = 24 then 3 else if op = 25 then 2 else if op = 29 then (if n = 3 then 4 else 5) else 1)
 else 0
mutual
def lenR : Nd → Int → Nat
 | .mk op _ _ _ l, role => cst role op l.length + lenRL op role (pRoles op l.length) 0 l
def lenRL (op role : Int) (R : List Int) : Nat → List Nd → Nat
 | _, [] => 0
 | i, y :: r => (if op = 48 ∧ i = 1 then 0 else lenR y (cRole role op i (R.getD i 0))) + lenRL op role R (i + 1) r
end
theorem lenR_eq (x : Nd) (role : Int) : lenR x role = cst role x.op x.l.length + lenRL x.op role (pRoles x.op x.l.length) 0 x.l := by
 obtain ⟨op, ln, s, v, l⟩ := x
 rw [lenR]
 rfl
theorem lenRL_nil (op role : Int) (R : List Int) (i : Nat) : lenRL op role R i [] = 0 := by rw [lenRL]
theorem lenRL_cons (op role : Int) (R : List Int) (i : Nat) (y : Nd) (r : List Nd) : lenRL op role R i (y :: r) = (if op = 48 ∧ i = 1 then 0 else lenR y (cRole role op i (R.getD i 0))) + lenRL op role R (i + 1) r := by rw [lenRL]
def sumR (role : Int) : List Nd → Nat
 | [] => 0
 | y :: r => lenR y role + sumR role r
theorem sumR_append (role : Int) (a b : List Nd) : sumR role (a ++ b) = sumR role a + sumR role b := by
 induction a with
 | nil => simp [sumR]
 | cons x r ih => simp only [List.cons_append, sumR, ih]; omega
theorem lenRL_const {op role : Int} {R : List Int} {ρ : Int} (h48 : op ≠ 48) : ∀ (l : List Nd) (i : Nat), (∀ k, k < l.length → cRole role op (i + k) (R.getD (i + k) 0) = ρ) → lenRL op role R i l = sumR ρ l
 | [], i, _ => by rw [lenRL_nil]; rfl
 | y :: r, i, h => by
  rw [lenRL_cons, if_neg (fun e => h48 e.1), lenRL_const h48 r (i + 1) fun k hk => by
   have := h (k + 1) (by simp; omega)
   rwa [show i + (k + 1) = i + 1 + k by omega] at this]
  have h0 := h 0 (by simp)
  rw [Nat.add_zero] at h0
  rw [h0]
  rfl
def Rt (role : Int) (x : Nd) : Prop := ∃ lp, (pWalk x role lp).1 = 0
theorem pWalkL_all {op role : Int} {lp : Bool} {R : List Int} : ∀ (l : List Nd) (i : Nat), (pWalkL op role lp R i l).1 = 0 → ∀ k y, l[k]? = some y → Rt (rW role op (i + k) (R.getD (i + k) 0)) y
 | [], i, _, k, y, hk => by simp at hk
 | z :: r, i, h, k, y, hk => by
  rw [pWalkL_cons] at h
  by_cases h0 : (pWalk z (rW role op i (R.getD i 0)) (inW op lp (rW role op i (R.getD i 0)))).1 = 0
  ·rw [if_pos h0] at h
   cases k with
   | zero =>
    simp at hk
    subst hk
    exact ⟨_, h0⟩
   | succ k =>
    have := pWalkL_all r (i + 1) h k y (by simpa using hk)
    rwa [show i + 1 + k = i + (k + 1) by omega] at this
  ·rw [if_neg h0] at h
   exact absurd h h0
theorem Rt.own {role : Int} {x : Nd} (h : Rt role x) : pStands x.op role = true ∧ pCounts x.op x.l.length = true := by
 obtain ⟨lp, h⟩ := h
 rw [pWalk_eq] at h
 split at h
 ·rename_i h0
  exact stands_of_own h0
 ·rename_i h0
  exact absurd h h0
theorem Rt.kid {role : Int} {x : Nd} (h : Rt role x) {i : Nat} {y : Nd} (hi : x.l[i]? = some y) : Rt (rW role x.op i ((pRoles x.op x.l.length).getD i 0)) y := by
 obtain ⟨lp, h⟩ := h
 rw [pWalk_eq] at h
 split at h
 ·have := pWalkL_all x.l 0 h i y hi
  rwa [Nat.zero_add] at this
 ·rename_i h0
  exact absurd h h0
theorem len1 {l : List Nd} (h : l.length = 1) : ∃ a, l = [a] := by
 match l, h with
 | [a], _ => exact ⟨a, rfl⟩
theorem len2 {l : List Nd} (h : l.length = 2) : ∃ a b, l = [a, b] := by
 match l, h with
 | [a, b], _ => exact ⟨a, b, rfl⟩
theorem len3 {l : List Nd} (h : l.length = 3) : ∃ a b c, l = [a, b, c] := by
 match l, h with
 | [a, b, c], _ => exact ⟨a, b, c, rfl⟩
theorem Rt.one {x : Nd} {role : Int} (h : Rt role x) (hop : x.op = 3 ∨ x.op = 4) (hr : role = 0) : ∃ a, x.l = [a] ∧ Rt 0 a ∧ lenR x 0 = 1 + lenR a 0 := by
 subst hr
 have hc := h.own.2
 have hk := fun i y => h.kid (i := i) (y := y)
 rw [lenR_eq]
 obtain ⟨op, ln, s, v, l⟩ := x
 simp only [Nd.op, Nd.l] at *
 rcases hop with rfl | rfl
 all_goals
  obtain ⟨a, rfl⟩ := len1 (by simpa [pCounts] using hc)
  exact ⟨a, rfl, by simpa [pRoles, rW] using hk 0 a rfl, by simp [lenRL_cons, lenRL_nil, cst, cRole, rW, pRoles]⟩
theorem Rt.two {x : Nd} (h : Rt 0 x) (hop : (5 ≤ x.op ∧ x.op ≤ 18) ∨ x.op = 20 ∨ x.op = 22) : ∃ a b, x.l = [a, b] ∧ Rt 0 a ∧ Rt 0 b ∧ lenR x 0 = 1 + lenR a 0 + lenR b 0 := by
 have hc := h.own.2
 have hk := fun i y => h.kid (i := i) (y := y)
 rw [lenR_eq]
 obtain ⟨op, ln, s, v, l⟩ := x
 simp only [Nd.op, Nd.l] at *
 have hop2 : op = 5 ∨ op = 6 ∨ op = 7 ∨ op = 8 ∨ op = 9 ∨ op = 10 ∨ op = 11 ∨ op = 12 ∨ op = 13 ∨ op = 14 ∨ op = 15 ∨ op = 16 ∨ op = 17 ∨ op = 18 ∨ op = 20 ∨ op = 22 := by omega
 clear hop
 rcases hop2 with rfl | rfl | rfl | rfl | rfl | rfl | rfl | rfl | rfl | rfl | rfl | rfl | rfl | rfl | rfl | rfl
 all_goals
  obtain ⟨a, b, rfl⟩ := len2 (by simpa [pCounts] using hc)
  exact ⟨a, b, rfl, by simpa [pRoles, rW] using hk 0 a rfl, by simpa [pRoles, rW] using hk 1 b rfl, by simp [lenRL_cons, lenRL_nil, cst, cRole, rW, pRoles]; omega⟩
theorem Rt.three {x : Nd} (h : Rt 0 x) (hop : x.op = 19 ∨ x.op = 21) : ∃ a b c, x.l = [a, b, c] ∧ Rt 0 a ∧ Rt 0 b ∧ Rt 0 c ∧ lenR x 0 = (if x.op = 19 then 2 else 1) + lenR a 0 + lenR b 0 + lenR c 0 := by
 have hc := h.own.2
 have hk := fun i y => h.kid (i := i) (y := y)
 rw [lenR_eq]
 obtain ⟨op, ln, s, v, l⟩ := x
 simp only [Nd.op, Nd.l] at *
 rcases hop with rfl | rfl
 all_goals
  obtain ⟨a, b, c, rfl⟩ := len3 (by simpa [pCounts] using hc)
  exact ⟨a, b, c, rfl, by simpa [pRoles, rW] using hk 0 a rfl, by simpa [pRoles, rW] using hk 1 b rfl, by simpa [pRoles, rW] using hk 2 c rfl, by simp [lenRL_cons, lenRL_nil, cst, cRole, rW, pRoles]; omega⟩
theorem pWalkL_role {op r1 r2 : Int} {lp : Bool} {R : List Int} (h : ∀ i, rW r1 op i (R.getD i 0) = rW r2 op i (R.getD i 0)) : ∀ (l : List Nd) (i : Nat), pWalkL op r1 lp R i l = pWalkL op r2 lp R i l
 | [], i => by rw [pWalkL_nil, pWalkL_nil]
 | y :: r, i => by rw [pWalkL_cons, pWalkL_cons, h i, pWalkL_role h r (i + 1)]
theorem lenRL_role {op r1 r2 : Int} {R : List Int} (h : ∀ i, cRole r1 op i (R.getD i 0) = cRole r2 op i (R.getD i 0)) : ∀ (l : List Nd) (i : Nat), lenRL op r1 R i l = lenRL op r2 R i l
 | [], i => by rw [lenRL_nil, lenRL_nil]
 | y :: r, i => by rw [lenRL_cons, lenRL_cons, h i, lenRL_role h r (i + 1)]
theorem Rt.splice {y : Nd} (h : Rt 1 y) (hop : y.op = 26) : ∃ a, y.l = [a] ∧ Rt 0 a ∧ lenR y 1 = 1 + lenR a 0 := by
 have hc := h.own.2
 have hk := fun i z => h.kid (i := i) (y := z)
 rw [lenR_eq]
 obtain ⟨op, ln, s, v, l⟩ := y
 simp only [Nd.op, Nd.l] at *
 subst hop
 obtain ⟨a, rfl⟩ := len1 (by simpa [pCounts] using hc)
 exact ⟨a, rfl, by simpa [pRoles, rW] using hk 0 a rfl, by simp [lenRL_cons, lenRL_nil, cst, cRole, rW, pRoles]⟩
theorem Rt.item {y : Nd} (h : Rt 1 y) (hop : y.op ≠ 26) : Rt 0 y ∧ lenR y 1 = 1 + lenR y 0 := by
 constructor
 ·obtain ⟨lp, h⟩ := h
  refine ⟨lp, ?_⟩
  have h1 : pOwn y 0 lp = pOwn y 1 lp := by
   have : pStands y.op 0 = pStands y.op 1 := by
    have h26 : (y.op == 26) = false := by simpa using hop
    simp [pStands, h26]
   unfold pOwn
   rw [this]
  have h2 : ∀ (R : List Int) l i, pWalkL y.op 0 lp R i l = pWalkL y.op 1 lp R i l := fun R l i => pWalkL_role (fun i => by simp [rW]) l i
  rw [pWalk_eq] at h ⊢
  rw [h1, h2]
  exact h
 ·rw [lenR_eq, lenR_eq, lenRL_role (r1 := 1) (r2 := 0) fun i => by simp [cRole, rW]]
  simp only [cst]
  simp
  omega
theorem Rt.call {x : Nd} (h : Rt 0 x) (hop : x.op = 23) : ∃ a b r, x.l = a :: b :: r ∧ Rt 0 a ∧ Rt 0 b ∧ (∀ y ∈ r, Rt 1 y) ∧ lenR x 0 = lenR a 0 + lenR b 0 + 1 + (sumR 1 r + 2) + 1 := by
 have hc := h.own.2
 have hk := fun i y => h.kid (i := i) (y := y)
 rw [lenR_eq]
 obtain ⟨op, ln, s, v, l⟩ := x
 simp only [Nd.op, Nd.l] at *
 subst hop
 match l, hc, hk with
 | [], hc, _ => simp [pCounts] at hc
 | [_], hc, _ => simp [pCounts] at hc
 | a :: b :: r, hc, hk =>
  have hR : pRoles 23 (a :: b :: r).length = 0 :: 0 :: List.replicate r.length 1 := by simp [pRoles, List.replicate_succ]
  rw [hR] at hk ⊢
  refine ⟨a, b, r, rfl, by simpa [rW] using hk 0 a rfl, by simpa [rW] using hk 1 b rfl, fun y hy => ?_, ?_⟩
  ·obtain ⟨i, hi, e⟩ := List.getElem_of_mem hy
   have h2 := hk (i + 2) y (by simp [List.getElem?_eq_getElem hi, e])
   simpa [rW, List.getD_eq_getElem?_getD, List.getElem?_replicate, hi] using h2
  ·rw [lenRL_cons, lenRL_cons, lenRL_const (ρ := 1) (by decide) r (0 + 1 + 1) fun k hk => by simp [cRole, rW, List.getD_eq_getElem?_getD, List.getElem?_replicate, hk, show 0 + 1 + 1 + k = k + 2 by omega]]
   simp [cst, cRole, rW]
   omega
theorem Rt.makes {x : Nd} {ρ : Int} (h : Rt ρ x) (hρ : ρ = 0) (hop : x.op = 24 ∨ x.op = 25) : (∀ y ∈ x.l, Rt 1 y) ∧ lenR x 0 = sumR 1 x.l + 2 + (if x.op = 24 then 1 else 0) := by
 subst hρ
 have hk := fun i y => h.kid (i := i) (y := y)
 rw [lenR_eq]
 obtain ⟨op, ln, s, v, l⟩ := x
 simp only [Nd.op, Nd.l] at *
 have hR : pRoles op l.length = List.replicate l.length 1 := by rcases hop with rfl | rfl <;> simp [pRoles]
 rw [hR] at hk ⊢
 refine ⟨fun y hy => ?_, ?_⟩
 ·obtain ⟨i, hi, e⟩ := List.getElem_of_mem hy
  have h2 := hk i y (by simp [List.getElem?_eq_getElem hi, e])
  simpa [rW, List.getD_eq_getElem?_getD, List.getElem?_replicate, hi] using h2
 ·rw [lenRL_const (ρ := 1) (by rcases hop with rfl | rfl <;> decide) l 0 fun k hk => by
  have e : (List.replicate l.length (1 : Int)).getD (0 + k) 0 = 1 := by rw [List.getD_eq_getElem?_getD, List.getElem?_replicate, if_pos (by omega)]; rfl
  rw [e]
  rcases hop with rfl | rfl <;> simp [cRole, rW]]
  rcases hop with rfl | rfl <;> simp [cst] <;> omega
theorem Rt.codes {x : Nd} (h : Rt 5 x) : (∀ y ∈ x.l, Rt 1 y ∧ y.op ≠ 26) ∧ sumR 1 x.l = x.l.length + sumR 0 x.l ∧ lenR x 5 = (if x.l.length = 0 then 0 else sumR 1 x.l + 4) ∧ lenR x 9 = (if x.l.length = 0 then 0 else sumR 1 x.l + 6) := by
 have ho := h.own
 have hk := fun i y => h.kid (i := i) (y := y)
 have hall : ∀ y ∈ x.l, Rt 0 y := fun y hy => by
  obtain ⟨i, hi, e⟩ := List.getElem_of_mem hy
  have h2 := hk i y (by simp [List.getElem?_eq_getElem hi, e])
  simpa [rW] using h2
 have h26 : ∀ y ∈ x.l, y.op ≠ 26 := fun y hy e => by
  have := (hall y hy).own.1
  simp [pStands, isExpr, e] at this
 have h01 : ∀ y : Nd, Rt 0 y → y.op ≠ 26 → Rt 1 y ∧ lenR y 1 = 1 + lenR y 0 := fun y ⟨lp, hw⟩ hop => by
  have h1 : pOwn y 0 lp = pOwn y 1 lp := by
   have : pStands y.op 0 = pStands y.op 1 := by
    have h26 : (y.op == 26) = false := by simpa using hop
    simp [pStands, h26]
   unfold pOwn
   rw [this]
  have h2 : ∀ (R : List Int) l i, pWalkL y.op 0 lp R i l = pWalkL y.op 1 lp R i l := fun R l i => pWalkL_role (fun i => by simp [rW]) l i
  have h3 : Rt 1 y := ⟨lp, by rw [pWalk_eq] at hw ⊢; rw [← h1, ← h2]; exact hw⟩
  exact ⟨h3, (h3.item hop).2⟩
 have hop : x.op = 25 := by simpa [pStands] using ho.1
 have hs : ∀ l : List Nd, (∀ y ∈ l, Rt 0 y) → (∀ y ∈ l, y.op ≠ 26) → sumR 1 l = l.length + sumR 0 l := fun l => by
  induction l with
  | nil => exact fun _ _ => rfl
  | cons z r ih =>
   intro h1 h2
   have := ih (fun y hy => h1 y (List.mem_cons_of_mem _ hy)) (fun y hy => h2 y (List.mem_cons_of_mem _ hy))
   have h3 := (h01 z (h1 z (List.mem_cons_self ..)) (h2 z (List.mem_cons_self ..))).2
   simp only [sumR, List.length_cons]
   omega
 have hs1 := hs x.l hall h26
 refine ⟨fun y hy => ⟨(h01 y (hall y hy) (h26 y hy)).1, h26 y hy⟩, hs1, ?_, ?_⟩
 ·rw [lenR_eq, lenRL_const (ρ := 0) (by rw [hop]; decide) x.l 0 fun k hk => by simp [cRole, rW, hop]]
  simp only [cst]
  by_cases h0 : x.l.length = 0
  ·have : x.l = [] := List.eq_nil_of_length_eq_zero h0
   simp [this, sumR]
  ·simp [h0]
   omega
 ·rw [lenR_eq, lenRL_const (ρ := 0) (by rw [hop]; decide) x.l 0 fun k hk => by simp [cRole]]
  simp only [cst]
  by_cases h0 : x.l.length = 0
  ·have : x.l = [] := List.eq_nil_of_length_eq_zero h0
   simp [this, sumR]
  ·simp [h0]
   omega
end
section
open Go.RowKit
variable {W V w w' : World} {X C : Nat} {sv : Value} {m : MS}
def LayPost (W V : World) (X C : Nat) (sv : Value) (m : MS) (k : Nat) (d : Int) (e : Ending) (w' : World) : Prop :=
 e = .returned (.tuple #[]) ∧ ∃ c, FC (fun z => z = m.ln) m.nb m.L.length k c d ∧ MW W V w' X C sv ⟨m.L ++ c, m.nb, m.ln⟩
def ExprTo (N : Nat) : Prop := ∀ (x : Nd), x.cnt < N → x.sz ≤ 1048576 → Rt 0 x → ∀ (D : Nat → Prop) (W V w : World) (u : Array Value) (X C : Nat) (sv : Value) (m : MS), NIn D W x u → MW W V w X C sv m → m.L.length + lenR x 0 ≤ 1073741824 →
 Calls Tryz.prog 113 #[.pointer (some ⟨X, 0, none⟩), .agg u] w (LayPost W V X C sv m (lenR x 0) 1)
def NV (D : Nat → Prop) (W V : World) (l : List Nd) (v : Value) : Prop :=
 ∃ a cap, v = .slice a l.length cap ∧ l.length ≤ cap ∧ cap ≤ maxLen ∧ (a = none → cap = 0) ∧ ∀ (i : Nat) (x : Nd), l[i]? = some x → ∃ (b o : Nat) (u : Array Value), a = some (⟨b, o, none⟩ : Addr) ∧ u.size = 8 ∧ NIn D W x u ∧ ∀ w, Fr (fun _ => False) W w → NKept V w → ∀ j, j < 8 → w.cell? ⟨b, o + i * 8 + j, none⟩ = u[j]?
theorem NL.nv {D : Nat → Prop} {W V : World} {l : List Nd} {v : Value} (h : NL D W l v) : NV D W V l v := by
 obtain ⟨a, cap, us, rfl, h1, h2, h3, hb, hi⟩ := h
 refine ⟨a, cap, rfl, h1, h2, h3, fun i x hx => ?_⟩
 obtain ⟨b, o, e, -, h4, hc⟩ := hb i (List.getElem?_eq_some_iff.1 hx).1
 refine ⟨b, o, us i, e, h4, hi i x hx, fun w hf _ j hj => ?_⟩
 have h5 := hc j hj
 rw [Array.getElem?_eq_getElem (by omega)] at h5 ⊢
 exact hf.cell h5 not_false
theorem NV.at {D : Nat → Prop} {W V : World} {l : List Nd} {a : Option Addr} {n cap : Nat} (h : NV D W V l (.slice a n cap)) {k : Nat} {y : Nd} (hk : l[k]? = some y) : ∃ b o yva c1 a' c', a = some ⟨b, o, none⟩ ∧ n = l.length ∧ NIn D W y #[.int .i64 y.op, .int .i64 y.ln, .string y.s, .int .i64 y.v.k, .int .i64 y.v.n, .string y.v.s, .slice yva y.v.l.length c1, .slice a' y.l.length c'] ∧
  ∀ w, Fr (fun _ => False) W w → NKept V w → w.cell? ⟨b, o + k * 8, none⟩ = some (.int .i64 y.op) ∧ w.cell? ⟨b, o + k * 8 + 1, none⟩ = some (.int .i64 y.ln) ∧ w.cell? ⟨b, o + k * 8 + 2, none⟩ = some (.string y.s) ∧ w.cell? ⟨b, o + k * 8 + 3, none⟩ = some (.int .i64 y.v.k) ∧
  w.cell? ⟨b, o + k * 8 + 4, none⟩ = some (.int .i64 y.v.n) ∧ w.cell? ⟨b, o + k * 8 + 5, none⟩ = some (.string y.v.s) ∧ w.cell? ⟨b, o + k * 8 + 6, none⟩ = some (.slice yva y.v.l.length c1) ∧ w.cell? ⟨b, o + k * 8 + 7, none⟩ = some (.slice a' y.l.length c') := by
 obtain ⟨a2, cap2, e, -, -, -, hx⟩ := h
 simp only [Value.slice.injEq] at e
 obtain ⟨rfl, rfl, rfl⟩ := e
 obtain ⟨b, o, u, rfl, h8, hu, hc⟩ := hx k y hk
 obtain ⟨va, v, e, ⟨va', c1, us1, rfl, -⟩, ⟨a', c', us', rfl, -⟩⟩ := hu.open
 subst e
 exact ⟨b, o, va', c1, a', c', rfl, rfl, hu, fun w hf hk => ⟨hc w hf hk 0 (by omega), hc w hf hk 1 (by omega), hc w hf hk 2 (by omega), hc w hf hk 3 (by omega), hc w hf hk 4 (by omega), hc w hf hk 5 (by omega), hc w hf hk 6 (by omega), hc w hf hk 7 (by omega)⟩⟩
def AllTo (N : Nat) : Prop := ∀ (l : List Nd), cntL l < N → szL l ≤ 1048576 → (∀ y ∈ l, Rt 0 y) → ∀ (D : Nat → Prop) (W V w : World) (v : Value) (X C : Nat) (sv : Value) (m : MS), NV D W V l v → MW W V w X C sv m → m.L.length + sumR 0 l ≤ 1073741824 →
 Calls Tryz.prog 135 #[.pointer (some ⟨X, 0, none⟩), v] w (LayPost W V X C sv m (sumR 0 l) l.length)
def ItemsTo (N : Nat) : Prop := ∀ (l : List Nd), cntL l < N → szL l ≤ 1048576 → (∀ y ∈ l, Rt 1 y) → ∀ (D : Nat → Prop) (W V w : World) (v : Value) (X C : Nat) (sv : Value) (m : MS), NL D W l v → MW W V w X C sv m → m.L.length + sumR 1 l + 2 ≤ 1073741824 →
 Calls Tryz.prog 136 #[.pointer (some ⟨X, 0, none⟩), v] w (LayPost W V X C sv m (sumR 1 l + 2) 1)
theorem sumR_take {ρ : Int} {l : List Nd} {k : Nat} {y : Nd} (h : l[k]? = some y) : sumR ρ (l.take (k + 1)) = sumR ρ (l.take k) + lenR y ρ := by
 rw [take_snoc' h, sumR_append]
 simp [sumR]
theorem sumR_take_le {ρ : Int} (l : List Nd) (k : Nat) : sumR ρ (l.take k) ≤ sumR ρ l := by
 have h := sumR_append ρ (l.take k) (l.drop k)
 rw [List.take_append_drop] at h
 omega
theorem node_cells {w : World} {B : Nat} {x : Nd} {va la : Value} (h : w.heap[B]? = some (.cells #[.int .i64 x.op, .int .i64 x.ln, .string x.s, .int .i64 x.v.k, .int .i64 x.v.n, .string x.v.s, va, la] 75 (0, 0))) :
  w.cell? ⟨B, 0, none⟩ = some (.int .i64 x.op) ∧ w.cell? ⟨B, 1, none⟩ = some (.int .i64 x.ln) ∧ w.cell? ⟨B, 2, none⟩ = some (.string x.s) ∧ w.cell? ⟨B, 3, none⟩ = some (.int .i64 x.v.k) ∧ w.cell? ⟨B, 4, none⟩ = some (.int .i64 x.v.n) ∧ w.cell? ⟨B, 5, none⟩ = some (.string x.v.s) ∧ w.cell? ⟨B, 6, none⟩ = some va ∧ w.cell? ⟨B, 7, none⟩ = some la := by
 refine ⟨?_, ?_, ?_, ?_, ?_, ?_, ?_, ?_⟩
 all_goals (rw [cell_of_row _ _ _ _ _ _ h]; rfl)
set_option maxRecDepth 100000 in
set_option maxHeartbeats 3200000 in
theorem all_of (N : Nat) (ih : ExprTo N) : AllTo N := by
 intro l hl hM hrt D W V w v X C sv m hv hm hL
 have hcs := cntL_szL l
 have hll := len_le_cnt l
 obtain ⟨a, cap, rfl, hc, hcm, -⟩ := id hv
 have hlm : l.length ≤ 1048576 := by omega
 have HV := hid hv; have HM := hid hM; have HL := hid hl; have HIH := hid ih; have HR := hid hrt; have HW := hid hm; have HLL := hid hL
 clear hv hM hll hl ih hrt hm hL hcs
 go_enter Tryz.func135, Tryz.ntmps135
 go_wp2_with fail
 go_loopw [5, 8] (fun _ i wr => ∃ (k : Nat) (c : List J), k ≤ l.length ∧ i = .int .i64 k ∧ Hid (FC (fun z => z = m.ln) m.nb m.L.length (sumR 0 (l.take k)) c k) ∧ Hid (MW W V wr X C sv ⟨m.L ++ c, m.nb, m.ln⟩)) (fun _ i _ => l.length - (intOf i).toNat)
 case atStart => exact ⟨0, [], Nat.zero_le _, rfl, FC.nil, by rw [List.append_nil]; exact HW.out⟩
 case round =>
  obtain ⟨k, c, hk, rfl, HC, HK⟩ := hrel
  by_cases hlt : k < l.length
  ·obtain ⟨y, hy⟩ : ∃ y, l[k]? = some y := ⟨_, List.getElem?_eq_getElem hlt⟩
   obtain ⟨b, o, yva, c1, a', c', rfl, -, hv, hcc⟩ := HV.out.at hy
   obtain ⟨e0, e1, e2, e3, e4, e5, e6, e7⟩ := hcc wr HK.out.f HK.out.kp
   clear hcc
   have hlt' : (k : Int) < l.length := by omega
   have hfY := (Fr.refl (fun _ => False) wr).alloc (.cells #[.int .i64 y.op, .int .i64 y.ln, .string y.s, .int .i64 y.v.k, .int .i64 y.v.n, .string y.v.s, .slice yva y.v.l.length c1, .slice a' y.l.length c'] 75)
   have HGY := hid (heap_alloc_new wr (.cells #[.int .i64 y.op, .int .i64 y.ln, .string y.s, .int .i64 y.v.k, .int .i64 y.v.n, .string y.v.s, .slice yva y.v.l.length c1, .slice a' y.l.length c'] 75))
   have hcl : c.length = sumR 0 (l.take k) := HC.out.1
   have hst := sumR_take (ρ := 0) hy
   have hsl := sumR_take_le (ρ := 0) l (k + 1)
   have hcn := cntL_mem hy
   have hsz := szL_mem hy
   have HKY := hid (HK.out.fr hfY)
   have HST := hid hst; have HCL := hid hcl; have HLT := hid hlt
   have hbd : (m.L ++ c).length + lenR y 0 ≤ 1073741824 := by rw [List.length_append, hcl]; have := HLL.out; omega
   have HCALL := hid (HIH.out y (by have := HL.out; omega) (by have := HM.out; omega) (HR.out y (List.mem_of_getElem? hy)) D W V _ _ X C sv _ hv HKY.out hbd)
   clear hfY hst hsl hcn hsz hbd hv hy hcl hlt
   go_upto_region 3 with fail
   generalize wr.alloc (.cells #[.int .i64 y.op, .int .i64 y.ln, .string y.s, .int .i64 y.v.k, .int .i64 y.v.n, .string y.v.s, .slice yva y.v.l.length c1, .slice a' y.l.length c'] 75) = W2 at *
   generalize wr.heap.size = B2 at *
   obtain ⟨y0, y1, y2, y3, y4, y5, y6, y7⟩ := node_cells HGY.out
   clear e0 e1 e2 e3 e4 e5 e6 e7
   go_wp2_with fail
   refine HCALL.out.mono ?_
   rintro e w3 ⟨rfl, c2, hc2, hw3⟩
   have HC2 := hid hc2; have HW3 := hid hw3
   clear hc2 hw3 y0 y1 y2 y3 y4 y5 y6 y7
   go_wp2_with fail
   go_roundw
   case rel =>
    refine ⟨k + 1, c ++ c2, by have := HLT.out; omega, by go_num, ?_, ?_⟩
    ·have h2 := HC2.out
     rw [List.length_append, HCL.out] at h2
     have h3 := HC.out.cat h2
     show Hid (FC _ _ _ _ _ ((k + 1 : Nat) : Int))
     rw [HST.out]
     exact h3
    ·have h2 := HW3.out
     rw [List.append_assoc] at h2
     exact h2
   case measure => simp [intOf]; have := HLT.out; omega
  ·obtain rfl : k = l.length := by omega
   have hlt' : ¬ (l.length : Int) < l.length := by omega
   have h1 := HC.out; rw [List.take_length] at h1
   have HC1 := hid h1
   clear h1 hlt
   go_wp2_with fail
   go_end0
   exact ⟨rfl, c, HC1.out, HK.out⟩
end
section
open Go.RowKit
variable {W V w w' : World} {X C : Nat} {sv : Value} {m : MS}
theorem NL.at {D : Nat → Prop} {w : World} {l : List Nd} {a : Option Addr} {n cap : Nat} (h : NL D w l (.slice a n cap)) {k : Nat} {y : Nd} (hk : l[k]? = some y) : ∃ b o yva c1 a' c', a = some ⟨b, o, none⟩ ∧ n = l.length ∧ NIn D w y #[.int .i64 y.op, .int .i64 y.ln, .string y.s, .int .i64 y.v.k, .int .i64 y.v.n, .string y.v.s, .slice yva y.v.l.length c1, .slice a' y.l.length c'] ∧
  w.cell? ⟨b, o + k * 8, none⟩ = some (.int .i64 y.op) ∧ w.cell? ⟨b, o + k * 8 + 1, none⟩ = some (.int .i64 y.ln) ∧ w.cell? ⟨b, o + k * 8 + 2, none⟩ = some (.string y.s) ∧ w.cell? ⟨b, o + k * 8 + 3, none⟩ = some (.int .i64 y.v.k) ∧
  w.cell? ⟨b, o + k * 8 + 4, none⟩ = some (.int .i64 y.v.n) ∧ w.cell? ⟨b, o + k * 8 + 5, none⟩ = some (.string y.v.s) ∧ w.cell? ⟨b, o + k * 8 + 6, none⟩ = some (.slice yva y.v.l.length c1) ∧ w.cell? ⟨b, o + k * 8 + 7, none⟩ = some (.slice a' y.l.length c') := by
 obtain ⟨a2, cap2, us, e, -, -, -, hb, hi⟩ := h
 simp only [Value.slice.injEq] at e
 obtain ⟨rfl, rfl, rfl⟩ := e
 have hlt := (List.getElem?_eq_some_iff.1 hk).1
 obtain ⟨b, o, y2, yva, c1, a', c', h1, -, hy, h3, e0, e1, e2, e3, e4, e5, e6, e7⟩ := NL.elem hb hi k hlt
 rw [hk] at hy
 obtain rfl := Option.some.inj hy
 exact ⟨b, o, yva, c1, a', c', h1, rfl, h3, e0, e1, e2, e3, e4, e5, e6, e7⟩
set_option maxRecDepth 100000 in
set_option maxHeartbeats 6400000 in
theorem items_of (N : Nat) (ih : ExprTo N) : ItemsTo N := by
 intro l hl hM hrt D W V w v X C sv m hv hm hL
 have hcs := cntL_szL l
 have hll := len_le_cnt l
 obtain ⟨a, cap, us, rfl, hc, hcm, hn, hb, hi⟩ := hv
 have hlm : l.length ≤ 1048576 := by omega
 have HPUT := hid (put_any hm 13 0 0 ⟨#[]⟩ (.int .i64 0) (.int .i64 0) (.string ⟨#[]⟩) (.slice none 0 0) ⟨rfl, rfl, rfl, rfl⟩ (by omega))
 have HB := hid hb; have HI := hid hi; have HM := hid hM; have HL := hid hl; have HIH := hid ih; have HR := hid hrt; have HLL := hid hL
 clear hb hi hM hn hll hl ih hrt hm hL hcs
 go_enter Tryz.func136, Tryz.ntmps136
 go_wp2_with fail
 refine HPUT.out.mono ?_
 rintro e w1 ⟨rfl, hm1⟩
 have HW := hid hm1
 clear hm1 HPUT
 go_wp2_with fail
 go_loopw [5, 11] (fun _ i wr => ∃ (k : Nat) (c : List J), k ≤ l.length ∧ i = .int .i64 k ∧ Hid (FB (fun z => z = m.ln) m.nb (m.L.length + 1) (sumR 1 (l.take k)) c) ∧ Hid (MW W V wr X C sv ⟨m.L ++ [⟨13, 0, 0, ⟨#[]⟩, m.ln⟩] ++ c, m.nb, m.ln⟩)) (fun _ i _ => l.length - (intOf i).toNat)
 case atStart => exact ⟨0, [], Nat.zero_le _, rfl, FB.nil, by rw [List.append_nil]; exact HW.out⟩
 case round =>
  clear HW
  obtain ⟨k, c, hk, rfl, HC, HK⟩ := hrel
  by_cases hlt : k < l.length
  ·obtain ⟨b, o, y, yva, c1, a', c', rfl, -, hy, hv, e0, e1, e2, e3, e4, e5, e6, e7⟩ := NL.elem HB.out HI.out k hlt
   have hlt' : (k : Int) < l.length := by omega
   have hf := HK.out.f
   replace e0 := hf.cell e0 not_false
   replace e1 := hf.cell e1 not_false
   replace e2 := hf.cell e2 not_false
   replace e3 := hf.cell e3 not_false
   replace e4 := hf.cell e4 not_false
   replace e5 := hf.cell e5 not_false
   replace e6 := hf.cell e6 not_false
   replace e7 := hf.cell e7 not_false
   have hfY := (Fr.refl (fun _ => False) wr).alloc (.cells #[.int .i64 y.op, .int .i64 y.ln, .string y.s, .int .i64 y.v.k, .int .i64 y.v.n, .string y.v.s, .slice yva y.v.l.length c1, .slice a' y.l.length c'] 75)
   have HGY := hid (heap_alloc_new wr (.cells #[.int .i64 y.op, .int .i64 y.ln, .string y.s, .int .i64 y.v.k, .int .i64 y.v.n, .string y.v.s, .slice yva y.v.l.length c1, .slice a' y.l.length c'] 75))
   have hcl : c.length = sumR 1 (l.take k) := HC.out.1
   have hst := sumR_take (ρ := 1) hy
   have hsl := sumR_take_le (ρ := 1) l (k + 1)
   have hcn := cntL_mem hy
   have hsz := szL_mem hy
   have HKY := hid (HK.out.fr hfY)
   have HRY := hid (HR.out y (List.mem_of_getElem? hy))
   have HV := hid hv
   have HST := hid hst; have HCL := hid hcl; have HLT := hid hlt
   have hl3 : (m.L ++ [(⟨13, 0, 0, ⟨#[]⟩, m.ln⟩ : J)] ++ c).length = m.L.length + 1 + sumR 1 (l.take k) := by rw [List.length_append, List.length_append, hcl]; rfl
   have HL3 := hid hl3
   have HBD := hid (show (m.L ++ [(⟨13, 0, 0, ⟨#[]⟩, m.ln⟩ : J)] ++ c).length + lenR y 1 + 1 ≤ 1073741824 by rw [hl3]; have := HLL.out; omega)
   have HCN := hid (show y.cnt < N by have := HL.out; omega)
   have HSZ := hid (show y.sz ≤ 1048576 by have := HM.out; omega)
   clear hf hfY hst hsl hcn hsz hv hy hcl hlt hl3
   go_upto_region 4 with fail
   generalize wr.alloc (.cells #[.int .i64 y.op, .int .i64 y.ln, .string y.s, .int .i64 y.v.k, .int .i64 y.v.n, .string y.v.s, .slice yva y.v.l.length c1, .slice a' y.l.length c'] 75) = W2 at *
   generalize wr.heap.size = B2 at *
   obtain ⟨y0, y1, y2, y3, y4, y5, y6, y7⟩ := node_cells HGY.out
   clear e0 e1 e2 e3 e4 e5 e6 e7
   by_cases h26 : y.op = 26
   ·obtain ⟨z, hz, hrz, hlz⟩ := HRY.out.splice h26
    obtain ⟨va9, v9, e9, -, hnl⟩ := HV.out.open
    obtain rfl : v9 = .slice a' y.l.length c' := by simp at e9; exact e9.2.symm
    obtain ⟨b2, o2, zva, d1, za, d2, rfl, -, hvz, z0, z1, z2, z3, z4, z5, z6, z7⟩ := hnl.at (k := 0) (y := z) (by rw [hz]; rfl)
    have hf2 := HKY.out.f
    have hl1 : y.l.length = 1 := by rw [hz]; rfl
    have hcz : z.cnt < N ∧ z.sz ≤ 1048576 := by
     have h1 := Nd.cnt_eq y; have h2 := Nd.sz_eq y
     rw [hz] at h1 h2
     simp only [cntL, szL] at h1 h2
     have := HCN.out; have := HSZ.out
     omega
    have HCALL := hid (HIH.out z hcz.1 hcz.2 hrz D W V _ _ X C sv _ hvz HKY.out (by have := HBD.out; dsimp only; omega))
    replace z0 := hf2.cell z0 not_false
    replace z1 := hf2.cell z1 not_false
    replace z2 := hf2.cell z2 not_false
    replace z3 := hf2.cell z3 not_false
    replace z4 := hf2.cell z4 not_false
    replace z5 := hf2.cell z5 not_false
    replace z6 := hf2.cell z6 not_false
    replace z7 := hf2.cell z7 not_false
    rw [hl1] at y7
    simp only [Nat.zero_mul, Nat.add_zero] at z0 z1 z2 z3 z4 z5 z6 z7
    have y0' : W2.cell? ⟨B2, 0, none⟩ = some (.int .i64 26) := by rw [← h26]; exact y0
    have HLZ := hid hlz
    clear hf2 hvz hnl e9 hz hrz hlz hl1 hcz y0 h26
    go_wp2_with fail
    refine HCALL.out.mono ?_
    rintro e w3 ⟨rfl, c2, hc2, hw3⟩
    have HP2 := hid (put_any hw3 15 0 0 ⟨#[]⟩ (.int .i64 0) (.int .i64 0) (.string ⟨#[]⟩) (.slice none 0 0) ⟨rfl, rfl, rfl, rfl⟩ (by dsimp only; rw [List.length_append, hc2.1]; have := HBD.out; have := HLZ.out; omega))
    have HC2 := hid hc2
    clear hc2 hw3 z0 z1 z2 z3 z4 z5 z6 z7 y0' y1 y2 y3 y4 y5 y6 y7 HCALL
    go_wp2_with fail
    refine HP2.out.mono ?_
    rintro e w4 ⟨rfl, hw4⟩
    have HW4 := hid hw4
    clear hw4 HP2
    go_wp2_with fail
    go_roundw
    case rel =>
     refine ⟨k + 1, c ++ c2 ++ [⟨15, 0, 0, ⟨#[]⟩, m.ln⟩], by have := HLT.out; omega, by go_num, ?_, ?_⟩
     ·have h2 := HC2.out
      rw [HL3.out] at h2
      have h3 := HC.out.add (op := 15) (a := 0) (b' := 0) (z := ⟨#[]⟩) (ln := m.ln) h2 (.inr rfl) rfl
      show Hid (FB _ _ _ _ _)
      rw [HST.out, HLZ.out, show sumR 1 (List.take k l) + (1 + lenR z 0) = sumR 1 (List.take k l) + lenR z 0 + 1 by omega]
      exact h3
     ·have h2 := HW4.out
      simp only [List.append_assoc] at h2 ⊢
      exact h2
    case measure => simp [intOf]; have := HLT.out; omega
   ·obtain ⟨hry, hly⟩ := HRY.out.item h26
    have HLY := hid hly
    have HCALL := hid (HIH.out y HCN.out HSZ.out hry D W V _ _ X C sv _ HV.out HKY.out (by have := HBD.out; dsimp only; omega))
    clear hry hly
    go_wp2_with fail
    refine HCALL.out.mono ?_
    rintro e w3 ⟨rfl, c2, hc2, hw3⟩
    have HP2 := hid (put_any hw3 14 0 0 ⟨#[]⟩ (.int .i64 0) (.int .i64 0) (.string ⟨#[]⟩) (.slice none 0 0) ⟨rfl, rfl, rfl, rfl⟩ (by dsimp only; rw [List.length_append, hc2.1]; have := HBD.out; have := HLY.out; omega))
    have HC2 := hid hc2
    clear hc2 hw3 y0 y1 y2 y3 y4 y5 y6 y7 HCALL
    go_wp2_with fail
    refine HP2.out.mono ?_
    rintro e w4 ⟨rfl, hw4⟩
    have HW4 := hid hw4
    clear hw4 HP2
    go_wp2_with fail
    go_roundw
    case rel =>
     refine ⟨k + 1, c ++ c2 ++ [⟨14, 0, 0, ⟨#[]⟩, m.ln⟩], by have := HLT.out; omega, by go_num, ?_, ?_⟩
     ·have h2 := HC2.out
      rw [HL3.out] at h2
      have h3 := HC.out.add (op := 14) (a := 0) (b' := 0) (z := ⟨#[]⟩) (ln := m.ln) h2 (.inl rfl) rfl
      show Hid (FB _ _ _ _ _)
      rw [HST.out, HLY.out, show sumR 1 (List.take k l) + (1 + lenR y 0) = sumR 1 (List.take k l) + lenR y 0 + 1 by omega]
      exact h3
     ·have h2 := HW4.out
      simp only [List.append_assoc] at h2 ⊢
      exact h2
    case measure => simp [intOf]; have := HLT.out; omega
  ·obtain rfl : k = l.length := by omega
   have hlt' : ¬ (l.length : Int) < l.length := by omega
   have h1 := HC.out; rw [List.take_length] at h1
   have HC1 := hid h1
   have HPE := hid (put_any HK.out 16 0 0 ⟨#[]⟩ (.int .i64 0) (.int .i64 0) (.string ⟨#[]⟩) (.slice none 0 0) ⟨rfl, rfl, rfl, rfl⟩ (by rw [List.length_append, List.length_append, h1.1]; have := HLL.out; simp only [List.length_cons, List.length_nil]; omega))
   clear h1 hlt
   go_wp2_with fail
   refine HPE.out.mono ?_
   rintro e w4 ⟨rfl, hw4⟩
   have HW4 := hid hw4
   clear hw4 HPE
   go_wp2_with fail
   go_end0
   refine ⟨rfl, [⟨13, 0, 0, ⟨#[]⟩, m.ln⟩] ++ c ++ [⟨16, 0, 0, ⟨#[]⟩, m.ln⟩], HC1.out.items rfl rfl, ?_⟩
   have h2 := HW4.out
   simp only [List.append_assoc] at h2 ⊢
   exact h2
end
section
open Go.RowKit
variable {W V w w' : World} {X C : Nat} {sv : Value} {m : MS}
def CodesPost (W V : World) (X C : Nat) (sv : Value) (m : MS) (l : List Nd) (e : Ending) (w' : World) : Prop :=
 (l = [] → e = .returned (.int .i64 (-1)) ∧ MW W V w' X C sv m) ∧
 (l ≠ [] → ∃ c, FC (fun z => z = m.ln) m.nb m.L.length (sumR 1 l + 2) c 1 ∧ e = .returned (.int .i64 ((m.L.length + (sumR 1 l + 3) : Nat) : Int)) ∧ MW W V w' X C sv ⟨m.L ++ c ++ [⟨27, 0, 0, ⟨#[]⟩, m.ln⟩] ++ [⟨7, 0, 0, ⟨#[]⟩, m.ln⟩], m.nb, m.ln⟩)
def CodesTo (N : Nat) : Prop := ∀ (x : Nd), x.cnt < N → x.sz ≤ 1048576 → Rt 5 x → ∀ (D : Nat → Prop) (W V w : World) (u : Array Value) (X C : Nat) (sv : Value) (m : MS), NIn D W x u → MW W V w X C sv m → m.L.length + lenR x 5 ≤ 1073741824 →
 Calls Tryz.prog 141 #[.pointer (some ⟨X, 0, none⟩), .agg u] w (CodesPost W V X C sv m x.l)
set_option maxRecDepth 100000 in
set_option maxHeartbeats 6400000 in
theorem codes_of (N : Nat) (ih : ExprTo N) : CodesTo N := by
 intro x hx hsz hrt D W V w u X C sv m hv hm hL
 have hit := items_of N ih
 obtain ⟨hall, hsm, hl5, -⟩ := hrt.codes
 obtain ⟨va9, v9, rfl, -, hnl⟩ := hv.open
 obtain ⟨la, lc, us, rfl, -⟩ := id hnl
 have hF := (Fr.refl (fun _ => False) w).alloc (.cells #[.int .i64 x.op, .int .i64 x.ln, .string x.s, .int .i64 x.v.k, .int .i64 x.v.n, .string x.v.s, va9, .slice la x.l.length lc] 75)
 have HG := hid (heap_alloc_new w (.cells #[.int .i64 x.op, .int .i64 x.ln, .string x.s, .int .i64 x.v.k, .int .i64 x.v.n, .string x.v.s, va9, .slice la x.l.length lc] 75))
 have HM := hid (hm.fr hF)
 have hcs := Nd.cnt_eq x; have hss := Nd.sz_eq x
 have hlx := len_le_cnt x.l; have hcz := cntL_szL x.l
 have HNL := hid hnl; have HRT := hid hall; have HSM := hid hsm; have HB := hid (And.intro hx hsz); have HIT := hid hit; have HCS := hid (And.intro hcs hss)
 have hlm : x.l.length ≤ 1048576 := by omega
 have HLL := hid hL; have HL5 := hid hl5
 clear hv hm hF hrt hx hsz hnl hall hsm hit hcs hss hlx hcz hL hl5
 go_enter Tryz.func141, Tryz.ntmps141
 go_upto_region 1 with fail
 generalize w.alloc (.cells #[.int .i64 x.op, .int .i64 x.ln, .string x.s, .int .i64 x.v.k, .int .i64 x.v.n, .string x.v.s, va9, .slice la x.l.length lc] 75) = W2 at *
 generalize w.heap.size = B2 at *
 obtain ⟨y0, y1, y2, y3, y4, y5, y6, y7⟩ := node_cells HG.out
 clear y0 y1 y2 y3 y4 y5 y6
 by_cases h0 : x.l.length = 0
 ·have HE := hid (List.eq_nil_of_length_eq_zero h0)
  rw [h0] at y7
  rw [h0]
  clear h0 hlm
  go_wp2_with fail
  go_ret
  exact ⟨fun _ => ⟨rfl, HM.out⟩, fun h => absurd HE.out h⟩
 ·have h0I : ¬ (x.l.length : Int) = 0 := by omega
  have HNE := hid (show x.l ≠ [] from fun e => h0 (by rw [e]; rfl))
  have hbd : m.L.length + sumR 1 x.l + 2 ≤ 1073741824 - 2 := by have h1 := HLL.out; rw [HL5.out, if_neg h0] at h1; omega
  have HBD := hid hbd
  have HI := hid (HIT.out x.l (by have := HB.out; have := HCS.out; omega) (by have := HB.out; have := HCS.out; omega) (fun y hy => (HRT.out y hy).1) D W V _ _ X C sv m HNL.out HM.out (by omega))
  clear hbd
  go_wp2_with fail
  refine HI.out.mono ?_
  rintro e w3 ⟨rfl, c, hc, hw3⟩
  have HC := hid hc
  have HP1 := hid (put_any hw3 27 0 0 ⟨#[]⟩ (.int .i64 0) (.int .i64 0) (.string ⟨#[]⟩) (.slice none 0 0) ⟨rfl, rfl, rfl, rfl⟩ (by dsimp only; rw [List.length_append, hc.1]; have := HBD.out; omega))
  clear hc hw3 HI y7
  go_wp2_with fail
  refine HP1.out.mono ?_
  rintro e w4 ⟨rfl, hw4⟩
  have hlen : (m.L ++ c ++ [(⟨27, 0, 0, ⟨#[]⟩, m.ln⟩ : J)]).length = m.L.length + (sumR 1 x.l + 3) := by rw [List.length_append, List.length_append, HC.out.1]; simp only [List.length_cons, List.length_nil]; omega
  have HLN := hid hlen
  have HP2 := hid (put_any hw4 7 0 0 ⟨#[]⟩ (.int .i64 0) (.int .i64 0) (.string ⟨#[]⟩) (.slice none 0 0) ⟨rfl, rfl, rfl, rfl⟩ (by dsimp only; rw [hlen]; have := HBD.out; omega))
  clear hw4 hlen HP1
  go_wp2_with fail
  refine HP2.out.mono ?_
  rintro e w5 ⟨rfl, hw5⟩
  have HW5 := hid hw5
  clear hw5 HP2
  dsimp only
  rw [HLN.out]
  go_wp2_with fail
  go_ret
  exact ⟨fun h => absurd h HNE.out, fun _ => ⟨c, HC.out, rfl, HW5.out⟩⟩
end
end Go.Proofs.YtbegahbagnflnaaGreatDoor
