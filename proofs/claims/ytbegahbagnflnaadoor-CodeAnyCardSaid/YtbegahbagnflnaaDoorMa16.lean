/- CodeZ, CodeLo, CodeKs, CodeIf, CodeIg: several texts in one: a claim has at most 60 files -/
import Derived.Test.YtbegahbagnflnaaDoorMa15
import Derived.Test.YtbegahbagnflnaaDoorMa09
import Derived.Test.YtbegahbagnflnaaDoorMa10
set_option linter.unusedSimpArgs false
set_option linter.unusedVariables false
set_option linter.unnecessarySimpa false
namespace Go.Proofs.YtbegahbagnflnaaDoor
section
open Go.RowKit
variable {W V w w' : World} {X C : Nat} {sv : Value} {m : MS}

theorem expr_to : ∀ N, ExprTo N
  | 0 => fun x hx => absurd hx (Nat.not_lt_zero _)
  | N + 1 => expr_of N (expr_to N)
/-- A line of a node of a program. -/
def LnOf (l : List Nd) (z : Int) : Prop := ∃ y ∈ walkL l, y.ln = z
/-- What laying statements comes to. -/
def SPost (W V : World) (X C : Nat) (sv : Value) (m : MS) (PL : Int → Prop) (k : Nat) (e : Ending) (w' : World) : Prop :=
  e = .returned (.tuple #[]) ∧ ∃ c nb, (m.nb ≤ nb ∧ nb ≤ m.nb + k) ∧ FC PL nb m.L.length k c 0 ∧ MW W V w' X C sv ⟨m.L ++ c, nb, m.ln⟩
def BlockTo (N : Nat) : Prop := ∀ (l : List Nd), cntL l < N → szL l ≤ 1048576 → (∀ y ∈ l, Rt 7 y) → ∀ (D : Nat → Prop) (W V w : World) (v : Value) (X C : Nat) (sv : Value) (m : MS), NL D W l v → MW W V w X C sv m → m.L.length + sumR 7 l ≤ 1073741824 → m.nb + sumR 7 l ≤ 1073741824 →
  Calls Tryd.prog 37 #[.pointer (some ⟨X, 0, none⟩), v] w (SPost W V X C sv m (LnOf l) (sumR 7 l))
def StmtTo (N : Nat) : Prop := ∀ (x : Nd), x.cnt < N → x.sz ≤ 1048576 → Rt 7 x → ∀ (D : Nat → Prop) (W V w : World) (u : Array Value) (X C : Nat) (sv : Value) (m : MS), NIn D W x u → MW W V w X C sv m → m.L.length + (lenR x 7 - 1) ≤ 1073741824 → m.nb + (lenR x 7 - 1) ≤ 1073741824 →
  Calls Tryd.prog 68 #[.pointer (some ⟨X, 0, none⟩), .agg u] w (SPost W V X C sv m (fun z => z = m.ln ∨ LnOf x.l z) (lenR x 7 - 1))
theorem MW.setLn (h : MW W V w X C sv m) (t : Int) : MW W V (w.setCell ⟨X, 1, none⟩ (.int .i64 t)) X C sv ⟨m.L, m.nb, t⟩ ∧ w.frozen? ⟨X, 1, none⟩ = false := by
  obtain ⟨lv, nv, bv, xs, zs, hc, ho1, hins, ho2, ho3⟩ := h.hC
  have hs : Fr (fun q => q = X) w (w.setCell ⟨X, 1, none⟩ (.int .i64 t)) := Fr.setCell (S := fun q => q = X) (Fr.refl _ _) (p := ⟨X, 1, none⟩) (.inl rfl) _
  have hx := setCell_row 1 (.int .i64 t) h.hX
  simp only [List.setIfInBounds_toArray, List.set_cons_zero, List.set_cons_succ] at hx
  have hCX : ¬ C = X := fun e => by
    have h1 := h.hX
    rw [← e, hc] at h1
    simp only [Option.some.injEq, Obj.cells.injEq] at h1
    exact absurd h1.2.1 (by decide)
  have hlo := h.lo.1
  refine ⟨⟨h.f.trans (U := fun _ => False) hs (fun _ _ h => h) (fun k hk e => by omega), h.kp.step hs (node_ne_cells h.hX (by decide)), h.ik.step hs (fun k cs fz e _ => int_ne_cells h.hX (by decide) k cs fz e) (fun k hk hn => hn.same (by rw [hs.heap hc hCX, hc])), h.lo, hx, lv, nv, bv, xs, zs, hs.heap hc hCX, hs.own ho1 (own_ne_cells ho1 h.hX (by decide)), hins, hs.own ho2 (own_ne_cells ho2 h.hX (by decide)), hs.own ho3 (own_ne_cells ho3 h.hX (by decide))⟩, frozen_of_row _ _ _ _ _ h.hX⟩
theorem LnOf.mono {l l' : List Nd} (h : ∀ y ∈ walkL l, y ∈ walkL l') {z : Int} (hz : LnOf l z) : LnOf l' z := by
  obtain ⟨y, hy, e⟩ := hz
  exact ⟨y, h y hy, e⟩
theorem walkL_at {l : List Nd} {k : Nat} {y : Nd} (h : l[k]? = some y) : y ∈ walkL l ∧ ∀ z ∈ walkL y.l, z ∈ walkL l := by
  have h1 := walkL_take h
  have h2 : walkL l = walkL (l.take (k + 1)) ++ walkL (l.drop (k + 1)) := by rw [← walkL_append, List.take_append_drop]
  rw [h1] at h2
  constructor
  · rw [h2]; simp
  · intro z hz
    rw [h2]
    simp [hz]
theorem FC.one0 {PL : Int → Prop} {nb n : Nat} {j : J} (hg : ∀ k : Nat, goesJ j k = [(k : Int) + 1]) (h8 : j.op ≠ 8 ∧ j.op ≠ 9) (h45 : j.op ≠ 45) (ht : ndT j.op j.a (decide (j.s = ⟨#[]⟩)) = 0) (hG : ndG j.op = 0) (hB : ndTB j.op = 0 ∧ ndGB j.op = 0) (hl : PL j.ln) : FC PL nb n 1 [j] 0 :=
  (FC.nil (PL := PL) (nb := nb) (n := n)).put (j := j) 0 0 hg h8 (fun e => absurd e h45) ht hG hB (by omega) (by omega) hl (d' := 0) (by omega)
set_option maxRecDepth 100000 in
set_option maxHeartbeats 6400000 in
theorem block_of (N : Nat) (ih : StmtTo N) : BlockTo N := by
  intro l hl hM hrt D W V w v X C sv m hv hm hL hB
  have hcs := cntL_szL l
  have hll := len_le_cnt l
  obtain ⟨a, cap, us, rfl, hc, hcm, -⟩ := id hv
  have hlm : l.length ≤ 1048576 := by omega
  have HV := hid hv; have HM := hid hM; have HL := hid hl; have HIH := hid ih; have HR := hid hrt; have HW := hid hm; have HLL := hid (And.intro hL hB)
  clear hv hM hll hl ih hrt hm hL hcs hB
  go_enter Tryd.func37, Tryd.ntmps37
  go_wp2_with fail
  go_loopw [5, 6, 9] (fun _ _ i wr => ∃ (k : Nat) (c : List J) (nb : Nat), k ≤ l.length ∧ i = .int .i64 k ∧ Hid ((m.nb ≤ nb ∧ nb ≤ m.nb + sumR 7 (l.take k)) ∧ FC (LnOf l) nb m.L.length (sumR 7 (l.take k)) c 0) ∧ Hid (MW W V wr X C sv ⟨m.L ++ c, nb, m.ln⟩)) (fun _ _ i _ => l.length - (intOf i).toNat)
  case atStart => exact ⟨0, [], m.nb, Nat.zero_le _, rfl, ⟨⟨Nat.le_refl _, Nat.le_add_right _ _⟩, FC.nil⟩, by rw [List.append_nil]; exact HW.out⟩
  case round =>
    obtain ⟨k, c, nb, hk, rfl, HC, HK⟩ := hrel
    by_cases hlt : k < l.length
    · obtain ⟨y, hy⟩ : ∃ y, l[k]? = some y := ⟨_, List.getElem?_eq_getElem hlt⟩
      obtain ⟨b, o, yva, c1, a', c', rfl, -, hv, e0, e1, e2, e3, e4, e5, e6, e7⟩ := HV.out.at hy
      have hlt' : (k : Int) < l.length := by omega
      have hf := HK.out.f
      replace e0 := hf.cell e0 not_false
      replace e1 := hf.cell e1 not_false
      replace e2 := hf.cell e2 not_false
      replace e3 := hf.cell e3 not_false
      replace e4 := hf.cell e4 not_false
      replace e5 := hf.cell e5 not_false
      replace e6 := hf.cell e6 not_false
      replace e7 := hf.cell e7 not_false
      have hfY := (Fr.refl (fun _ => False) wr).alloc (.cells #[.int .i64 y.op, .int .i64 y.ln, .string y.s, .int .i64 y.v.k, .int .i64 y.v.n, .string y.v.s, .slice yva y.v.l.length c1, .slice a' y.l.length c'] 36)
      have HGY := hid (heap_alloc_new wr (.cells #[.int .i64 y.op, .int .i64 y.ln, .string y.s, .int .i64 y.v.k, .int .i64 y.v.n, .string y.v.s, .slice yva y.v.l.length c1, .slice a' y.l.length c'] 36))
      have hcl : c.length = sumR 7 (l.take k) := HC.out.2.1
      have hst := sumR_take (ρ := 7) hy
      have hsl := sumR_take_le (ρ := 7) l (k + 1)
      have hcn := cntL_mem hy
      have hsz := szL_mem hy
      have hl7 : 1 ≤ lenR y 7 := by rw [lenR_eq]; unfold cst; simp; omega
      have HKY := hid (HK.out.fr hfY).now; have HKO := hid (HK.out.fr hfY)
      have HST := hid hst; have HCL := hid hcl; have HLT := hid hlt; have HV7 := hid hv; have HY := hid hy
      have HBD := hid (show (m.L ++ c).length + lenR y 7 ≤ 1073741824 ∧ nb + lenR y 7 ≤ 1073741824 ∧ 1 ≤ lenR y 7 by rw [List.length_append, hcl]; have := HLL.out; have := HC.out.1; omega)
      have HCN := hid (show y.cnt < N ∧ y.sz ≤ 1048576 by have := HL.out; have := HM.out; omega)
      have x1 := HKY.out.cells.2
      have x0 := HKY.out.cells.1
      clear hf hfY hst hsl hcn hsz hv hy hcl hlt hl7
      go_upto_region 3 with fail
      generalize wr.alloc (.cells #[.int .i64 y.op, .int .i64 y.ln, .string y.s, .int .i64 y.v.k, .int .i64 y.v.n, .string y.v.s, .slice yva y.v.l.length c1, .slice a' y.l.length c'] 36) = W2 at *
      generalize wr.heap.size = B2 at *
      obtain ⟨y0, y1, y2, y3, y4, y5, y6, y7⟩ := node_cells HGY.out
      clear e0 e1 e2 e3 e4 e5 e6 e7
      obtain ⟨hset, f1⟩ := HKY.out.setLn y.ln
      go_upto_region 5 with fail
      generalize W2.setCell ⟨X, 1, none⟩ (.int .i64 y.ln) = W3 at *
      obtain ⟨z0, z1, z2, z3, z4, z5, z6, z7⟩ := node_cells (hset.kp _ _ _ HGY.out)
      have HP := hid (put0 hset 34 y.ln 0 ⟨#[]⟩ (by dsimp only; have := HBD.out; omega))
      clear y0 y1 y2 y3 y4 y5 y6 y7 x0 x1 f1 hset z0 z2 z3 z4 z5 z6 z7
      go_wp2_with fail
      refine HP.out.mono ?_
      rintro e W4 ⟨rfl, hw⟩
      have HM4 := hid hw
      clear hw HP z1
      have hl4 : (m.L ++ c ++ [(⟨34, y.ln, 0, ⟨#[]⟩, y.ln⟩ : J)]).length = m.L.length + sumR 7 (l.take k) + 1 := by rw [List.length_append, List.length_append, HCL.out]; rfl
      have HL4 := hid hl4
      have HSC := hid (HIH.out y HCN.out.1 HCN.out.2 (HR.out y (List.mem_of_getElem? HY.out)) D W W2 W4 _ X C sv _ HV7.out HM4.out (by (try dsimp only); rw [hl4]; have := HBD.out; rw [List.length_append, HCL.out] at this; omega) (by have := HBD.out; (try dsimp only); omega))
      obtain ⟨z0, z1, z2, z3, z4, z5, z6, z7⟩ := node_cells (HM4.out.kp _ _ _ HGY.out)
      clear hl4
      go_wp2_with fail
      refine HSC.out.mono ?_
      rintro e W5 ⟨rfl, c2, nb2, hnb, hc2, hw⟩
      dsimp only at hnb hc2 hw
      rw [HL4.out] at hc2
      have HC2 := hid (And.intro hnb hc2); have HM5 := hid hw
      obtain ⟨hset, f1⟩ := hw.setLn m.ln
      have x0 := hw.cells.1
      have x1 := hw.cells.2
      clear hnb hc2 hw z0 z1 z2 z3 z4 z5 z6 z7 HSC
      go_wp2_with fail
      generalize W5.setCell ⟨X, 1, none⟩ (.int .i64 m.ln) = W6 at *
      have HM6 := hid (HKO.out.since hset)
      clear hset x0 x1 f1
      go_roundw
      case rel =>
        refine ⟨k + 1, c ++ ([⟨34, y.ln, 0, ⟨#[]⟩, y.ln⟩] ++ c2), nb2, by have := HLT.out; omega, by go_num, ⟨?_, ?_⟩, ?_⟩
        · have h1 := HC.out.1; have h2 := HC2.out.1; have h3 := HST.out; have h4 := HBD.out.2.2
          omega
        · obtain ⟨hy1, hy2⟩ := walkL_at HY.out
          have h1 := HC.out.2.mono (QL := LnOf l) (fun _ h => h) HC2.out.1.1
          have h2 := HC2.out.2.mono (QL := LnOf l) (fun z hz => hz.elim (fun e => ⟨y, hy1, e.symm⟩) fun h => h.mono hy2) (Nat.le_refl _)
          have h3 : FC (LnOf l) nb2 (m.L.length + sumR 7 (l.take k)) 1 [⟨34, y.ln, 0, ⟨#[]⟩, y.ln⟩] 0 := FC.one0 (fun k => by simp [goesJ]) (by simp) (by simp) (by simp [ndT]) (by simp [ndG]) (by simp [ndTB, ndGB]) ⟨y, hy1, rfl⟩
          have h4 := h1.cat (h3.cat (show FC _ _ (m.L.length + sumR 7 (l.take k) + 1) _ _ _ from h2))
          rw [show sumR 7 (l.take (k + 1)) = sumR 7 (l.take k) + (1 + (lenR y 7 - 1)) by have h3 := HST.out; have h4 := HBD.out.2.2; omega]
          exact h4
        · have h2 := HM6.out
          simp only [List.append_assoc] at h2
          exact h2
      case measure => simp [intOf]; have := HLT.out; omega
    · obtain rfl : k = l.length := by omega
      have hlt' : ¬ (l.length : Int) < l.length := by omega
      have h1 := HC.out; rw [List.take_length] at h1
      have HC1 := hid h1
      clear h1 hlt
      go_wp2_with fail
      go_end0
      exact ⟨rfl, c, nb, HC1.out.1, HC1.out.2, HK.out⟩
end
section
open Go.RowKit
variable {W V w w' : World} {X C : Nat} {sv : Value} {m : MS}

theorem held_any {h o1 o2 : Int} (hh : (h = 1 ∧ o1 = 36 ∧ o2 = 37) ∨ (h = 2 ∧ o1 = 38 ∧ o2 = 39)) (w : World) : Calls Tryd.prog 109 #[.int .i64 o1] w fun e w' => e = .returned (.int .i64 (h + 1)) ∧ w = w' := by
  rcases hh with ⟨rfl, rfl, rfl⟩ | ⟨rfl, rfl, rfl⟩
  · go_enter Tryd.func109, Tryd.ntmps109
    go_wp2_with fail
    go_ret
    exact ⟨rfl, rfl⟩
  · go_enter Tryd.func109, Tryd.ntmps109
    go_wp2_with fail
    go_ret
    exact ⟨rfl, rfl⟩
/-- Where a loop goes on is set: its instruction lies behind A. -/
theorem MW.mid {L A B : List J} {j : J} {nb : Nat} {ln : Int} (h : MW W V w X C sv ⟨L, nb, ln⟩) (hL : L = A ++ j :: B) {k : Nat} (hk : k = A.length) : ∃ g cap, w.cell? ⟨C, 0, none⟩ = some (.slice (some ⟨g, 0, none⟩) L.length cap) ∧ w.frozen? ⟨g, k * 8 + 2, none⟩ = false ∧ w.cell? ⟨g, k * 8 + 2, none⟩ = some (.int .i64 j.b) ∧ ∀ t, MW W V (w.setCell ⟨g, k * 8 + 2, none⟩ (.int .i64 t)) X C sv ⟨A ++ ⟨j.op, j.a, t, j.s, j.ln⟩ :: B, nb, ln⟩ := by
  subst hk
  obtain ⟨g, cap, -, c0, -, hfz, -, -, cb, -, hB⟩ := h.row (k := A.length) (j := j) (by dsimp only; rw [hL, List.getElem?_append_right (Nat.le_refl _), Nat.sub_self]; rfl)
  refine ⟨g, cap, c0, hfz _, cb, fun t => (hB t).cast ?_⟩
  dsimp only
  conv => lhs; rw [hL]
  rw [List.set_append_right _ _ (Nat.le_refl _), Nat.sub_self]
  rfl
set_option maxRecDepth 100000 in
set_option maxHeartbeats 6400000 in
theorem loop_of (N : Nat) (ihb : BlockTo N) {h o1 o2 : Int} (hh : (h = 1 ∧ o1 = 36 ∧ o2 = 37) ∨ (h = 2 ∧ o1 = 38 ∧ o2 = 39)) (s : ByteArray) (l : List Nd) (hl : cntL l < N) (hM : szL l ≤ 1048576) (hrt : ∀ y ∈ l, Rt 7 y) (D : Nat → Prop) (v : Value) (hv : NL D W l v) (hm : MW W V w X C sv m) (hL : m.L.length + sumR 7 l + 4 ≤ 1073741824) (hB : m.nb + sumR 7 l ≤ 1073741824) :
    Calls Tryd.prog 90 #[.pointer (some ⟨X, 0, none⟩), .int .i64 o1, .int .i64 o2, .string s, v] w fun e w' => e = .returned (.tuple #[]) ∧ ∃ c nb, (m.nb ≤ nb ∧ nb ≤ m.nb + sumR 7 l) ∧ FC (LnOf l) nb (m.L.length + 2) (sumR 7 l) c 0 ∧
      MW W V w' X C sv ⟨m.L ++ (J.mk o1 ((m.L.length + (sumR 7 l + 3) : Nat) : Int) ((m.L.length + 1 : Nat) : Int) ⟨#[]⟩ m.ln :: J.mk o2 ((m.L.length + (sumR 7 l + 3) : Nat) : Int) 0 s m.ln :: (c ++ [J.mk 6 ((m.L.length + 1 : Nat) : Int) 0 ⟨#[]⟩ m.ln, J.mk 41 (h + 1) 0 ⟨#[]⟩ m.ln])), nb, m.ln⟩ := by
  have HP := hid (put0 (L := m.L) (nb := m.nb) (ln := m.ln) hm o1 0 0 ⟨#[]⟩ (by omega))
  have HBL := hid (ihb l hl hM hrt D W V)
  have HH := hid (held_any (o2 := o2) hh)
  obtain ⟨a, cap, us, rfl, -⟩ := id hv
  have HV := hid hv; have HL := hid (And.intro hL hB)
  clear hh hl hM hrt hv hm hL hB ihb
  go_enter Tryd.func90, Tryd.ntmps90
  go_wp2_with fail
  refine HP.out.mono ?_
  rintro e w1 ⟨rfl, hw⟩
  have hq : (m.L ++ [(J.mk o1 0 0 ⟨#[]⟩ m.ln)] : List J).length = m.L.length + 1 := by rw [List.length_append]; rfl
  have HQ1 := hid hq
  have HP2 := hid (put0 hw o2 0 0 s (by rw [hq]; have := HL.out; omega))
  clear hw HP hq
  go_wp2_with fail
  refine HP2.out.mono ?_
  rintro e w2 ⟨rfl, hw⟩
  rw [HQ1.out]
  have hq : (m.L ++ [(J.mk o1 0 0 ⟨#[]⟩ m.ln)] ++ [(J.mk o2 0 0 s m.ln)] : List J).length = m.L.length + 2 := by rw [List.length_append, HQ1.out]; rfl
  have HQ2 := hid hq
  have HB2 := hid (HBL.out w2 _ X C sv _ HV.out hw (by (try dsimp only); rw [hq]; have := HL.out; omega) (by have := HL.out; (try dsimp only); omega))
  clear hw HP2 hq HBL
  go_wp2_with fail
  refine HB2.out.mono ?_
  rintro e w3 ⟨rfl, c, nb, hnb, hc, hw⟩
  try dsimp only at hnb hc hw
  rw [HQ2.out] at hc
  have HC := hid (And.intro hnb hc)
  have hq : (m.L ++ [(J.mk o1 0 0 ⟨#[]⟩ m.ln)] ++ [(J.mk o2 0 0 s m.ln)] ++ c : List J).length = m.L.length + 2 + sumR 7 l := by rw [List.length_append, HQ2.out, hc.1]
  have HQ3 := hid hq
  have HP := hid (put0 hw 6 ((m.L.length + 1 : Nat) : Int) 0 ⟨#[]⟩ (by rw [hq]; have := HL.out; omega))
  clear hw hnb hc hq HB2
  go_wp2_with fail
  refine HP.out.mono ?_
  rintro e w4 ⟨rfl, hw⟩
  have hq : (m.L ++ [(J.mk o1 0 0 ⟨#[]⟩ m.ln)] ++ [(J.mk o2 0 0 s m.ln)] ++ c ++ [(J.mk 6 ((m.L.length + 1 : Nat) : Int) 0 ⟨#[]⟩ m.ln)] : List J).length = m.L.length + (sumR 7 l + 3) := by rw [List.length_append, HQ3.out]; simp only [List.length_cons, List.length_nil]; omega
  have HQ4 := hid hq
  have HHE := hid (here_mid hw (A := m.L ++ [(J.mk o1 0 0 ⟨#[]⟩ m.ln)]) (j := J.mk o2 0 0 s m.ln) (B := c ++ [(J.mk 6 ((m.L.length + 1 : Nat) : Int) 0 ⟨#[]⟩ m.ln)]) (by simp) (k := m.L.length + 1) (by rw [HQ1.out]) (by rw [hq]; have := HL.out; omega))
  clear hw HP hq
  go_wp2_with fail
  refine HHE.out.mono ?_
  rintro e w5 ⟨rfl, hw⟩
  rw [HQ4.out] at hw
  try dsimp only at hw
  have hq : (m.L ++ [(J.mk o1 0 0 ⟨#[]⟩ m.ln)] ++ (J.mk o2 ((m.L.length + (sumR 7 l + 3) : Nat) : Int) 0 s m.ln) :: (c ++ [(J.mk 6 ((m.L.length + 1 : Nat) : Int) 0 ⟨#[]⟩ m.ln)]) : List J).length = m.L.length + (sumR 7 l + 3) := by rw [← HQ4.out]; simp
  have HQ5 := hid hq
  have HHE2 := hid (here_mid hw (A := m.L) (j := J.mk o1 0 0 ⟨#[]⟩ m.ln) (B := (J.mk o2 ((m.L.length + (sumR 7 l + 3) : Nat) : Int) 0 s m.ln) :: (c ++ [(J.mk 6 ((m.L.length + 1 : Nat) : Int) 0 ⟨#[]⟩ m.ln)])) (by simp) (k := m.L.length) rfl (by rw [hq]; have := HL.out; omega))
  clear hw HHE hq
  go_wp2_with fail
  refine HHE2.out.mono ?_
  rintro e w6 ⟨rfl, hw⟩
  rw [HQ5.out] at hw
  try dsimp only at hw
  have hlen : (m.L ++ (J.mk o1 ((m.L.length + (sumR 7 l + 3) : Nat) : Int) 0 ⟨#[]⟩ m.ln) :: (J.mk o2 ((m.L.length + (sumR 7 l + 3) : Nat) : Int) 0 s m.ln) :: (c ++ [(J.mk 6 ((m.L.length + 1 : Nat) : Int) 0 ⟨#[]⟩ m.ln)]) : List J).length = m.L.length + (sumR 7 l + 3) := by rw [← HQ5.out]; simp
  have HLN := hid hlen
  have x0 := hw.cells.1
  obtain ⟨g, cp, c0, f2, cb, hset⟩ := hw.mid (A := m.L) rfl (k := m.L.length) rfl
  rw [hlen] at c0
  have hidx : ((m.L.length : Nat) : Int) < ((m.L.length + (sumR 7 l + 3) : Nat) : Int) := by omega
  have HS := hid (hset ((m.L.length : Int) + 1))
  clear hset hlen HHE2 hw
  go_wp2_with fail
  generalize w6.setCell ⟨g, m.L.length * 8 + 2, none⟩ (.int .i64 ((m.L.length : Int) + 1)) = w7 at *
  clear x0 c0 f2 cb hidx
  refine (HH.out w7).mono ?_
  rintro e w8 ⟨rfl, rfl⟩
  have hm7 := HS.out
  try dsimp only at hm7
  have hq : (m.L ++ (J.mk o1 ((m.L.length + (sumR 7 l + 3) : Nat) : Int) ((m.L.length : Int) + 1) ⟨#[]⟩ m.ln) :: (J.mk o2 ((m.L.length + (sumR 7 l + 3) : Nat) : Int) 0 s m.ln) :: (c ++ [(J.mk 6 ((m.L.length + 1 : Nat) : Int) 0 ⟨#[]⟩ m.ln)]) : List J).length = m.L.length + (sumR 7 l + 3) := by rw [← HLN.out]; simp
  have HP := hid (put0 hm7 41 (h + 1) 0 ⟨#[]⟩ (by rw [hq]; have := HL.out; omega))
  clear hm7 hq HS
  go_wp2_with fail
  refine HP.out.mono ?_
  rintro e w9 ⟨rfl, hw⟩
  have HW := hid hw
  clear hw HP
  go_wp2_with fail
  go_end0
  refine ⟨rfl, c, nb, HC.out.1, HC.out.2, HW.out.cast ?_⟩
  simp
theorem FC.at {PL : Int → Prop} {nb n n' k k' : Nat} {c : List J} {d : Int} (h : FC PL nb n k c d) (hn : n = n') (hk : k = k') : FC PL nb n' k' c d := by subst hn; subst hk; exact h
set_option maxRecDepth 100000 in
set_option maxHeartbeats 6400000 in
theorem while_of (N : Nat) (ihb : BlockTo N) (a : Nd) (l : List Nd) (hl : cntL l < N) (ha : a.sz ≤ 1048576) (hM : szL l ≤ 1048576) (hra : Rt 0 a) (hrt : ∀ y ∈ l, Rt 7 y) (D : Nat → Prop) (u : Array Value) (v : Value) (hu : NIn D W a u) (hv : NL D W l v) (hm : MW W V w X C sv m) (hL : m.L.length + lenR a 0 + sumR 7 l + 5 ≤ 1073741824) (hB : m.nb + sumR 7 l ≤ 1073741824) :
    Calls Tryd.prog 91 #[.pointer (some ⟨X, 0, none⟩), .agg u, v] w fun e w' => e = .returned (.tuple #[]) ∧ ∃ c0 c nb, (m.nb ≤ nb ∧ nb ≤ m.nb + sumR 7 l) ∧ FC (fun z => z = m.ln) m.nb (m.L.length + 1) (lenR a 0) c0 1 ∧ FC (LnOf l) nb (m.L.length + (lenR a 0 + 3)) (sumR 7 l) c 0 ∧
      MW W V w' X C sv ⟨m.L ++ (J.mk 40 ((m.L.length + (lenR a 0 + 3 + sumR 7 l + 1) : Nat) : Int) ((m.L.length + 1 : Nat) : Int) ⟨#[]⟩ m.ln :: (c0 ++ J.mk 7 ((m.L.length + (lenR a 0 + 3 + sumR 7 l + 1) : Nat) : Int) 0 ⟨#[]⟩ m.ln :: J.mk 35 0 0 ⟨#[]⟩ m.ln :: (c ++ [J.mk 6 ((m.L.length + 1 : Nat) : Int) 0 ⟨#[]⟩ m.ln, J.mk 41 0 0 ⟨#[]⟩ m.ln]))), nb, m.ln⟩ := by
  obtain ⟨va9, v9, rfl, hvl, hnl⟩ := hu.open
  obtain ⟨xa, xc, xu, rfl, -⟩ := id hvl
  obtain ⟨la, lc, us, rfl, -⟩ := id hnl
  have hF := (Fr.refl (fun _ => False) w).alloc (.cells #[.int .i64 a.op, .int .i64 a.ln, .string a.s, .int .i64 a.v.k, .int .i64 a.v.n, .string a.v.s, .slice xa a.v.l.length xc, .slice la a.l.length lc] 36)
  have HG := hid (heap_alloc_new w (.cells #[.int .i64 a.op, .int .i64 a.ln, .string a.s, .int .i64 a.v.k, .int .i64 a.v.n, .string a.v.s, .slice xa a.v.l.length xc, .slice la a.l.length lc] 36))
  have HM0 := hid (hm.fr hF)
  have HVA := hid hu; have HRA := hid (And.intro hra ha)
  have HBL := hid (ihb l hl hM hrt D W)
  obtain ⟨ia, cap, us2, rfl, -⟩ := id hv
  have HV := hid hv; have HL := hid (And.intro hL hB)
  clear hl hM hrt hv hm hL hB ihb hu hvl hnl hF hra ha
  go_enter Tryd.func91, Tryd.ntmps91
  go_upto_region 1 with fail
  generalize w.alloc (.cells #[.int .i64 a.op, .int .i64 a.ln, .string a.s, .int .i64 a.v.k, .int .i64 a.v.n, .string a.v.s, .slice xa a.v.l.length xc, .slice la a.l.length lc] 36) = w0 at *
  generalize w.heap.size = B4 at *
  have HP := hid (put0 (L := m.L) (nb := m.nb) (ln := m.ln) HM0.out.now 40 0 0 ⟨#[]⟩ (by have := HL.out; omega))
  go_wp2_with fail
  refine HP.out.mono ?_
  rintro e w1 ⟨rfl, hw⟩
  have hq : (m.L ++ [(J.mk 40 0 0 ⟨#[]⟩ m.ln)] : List J).length = m.L.length + 1 := by rw [List.length_append]; rfl
  have HQ1 := hid hq
  have x0 := hw.cells.1
  obtain ⟨g, cp, -, c0, -⟩ := hw.row (k := m.L.length) (j := J.mk 40 0 0 ⟨#[]⟩ m.ln) (by simp)
  rw [hq] at c0
  obtain ⟨y0, y1, y2, y3, y4, y5, y6, y7⟩ := node_cells (hw.kp _ _ _ HG.out)
  have HCE := hid (expr_to (a.cnt + 1) a (Nat.lt_succ_self _) HRA.out.2 HRA.out.1 D W w0 w1 _ X C sv _ HVA.out hw (by (try dsimp only); rw [hq]; have := HL.out; omega))
  have hw8 : IntKind.i64.wrap ((m.L.length + 1 : Nat) : Int) = ((m.L.length + 1 : Nat) : Int) := IntWalk.i64_in _ (by have := HL.out; omega)
  clear hw HP hq
  go_wp2_with fail
  refine HCE.out.mono ?_
  rintro e w2 ⟨rfl, c1, hc, hw⟩
  try dsimp only at hc hw
  rw [HQ1.out] at hc
  have HC0 := hid hc
  have hq : (m.L ++ [(J.mk 40 0 0 ⟨#[]⟩ m.ln)] ++ c1 : List J).length = m.L.length + 1 + lenR a 0 := by rw [List.length_append, HQ1.out, hc.1]
  have HQ2 := hid hq
  have HP := hid (put0 hw 7 0 0 ⟨#[]⟩ (by rw [hq]; have := HL.out; omega))
  clear hw hc hq HCE x0 c0 y0 y1 y2 y3 y4 y5 y6 y7 hw8
  go_wp2_with fail
  refine HP.out.mono ?_
  rintro e w3 ⟨rfl, hw⟩
  rw [HQ2.out]
  have hq : (m.L ++ [(J.mk 40 0 0 ⟨#[]⟩ m.ln)] ++ c1 ++ [(J.mk 7 0 0 ⟨#[]⟩ m.ln)] : List J).length = m.L.length + (lenR a 0 + 2) := by rw [List.length_append, HQ2.out]; simp only [List.length_cons, List.length_nil]; omega
  have HQ3 := hid hq
  have HP := hid (put0 hw 35 0 0 ⟨#[]⟩ (by rw [hq]; have := HL.out; omega))
  clear hw hq
  go_wp2_with fail
  refine HP.out.mono ?_
  rintro e w4 ⟨rfl, hw⟩
  have hq : (m.L ++ [(J.mk 40 0 0 ⟨#[]⟩ m.ln)] ++ c1 ++ [(J.mk 7 0 0 ⟨#[]⟩ m.ln)] ++ [(J.mk 35 0 0 ⟨#[]⟩ m.ln)] : List J).length = m.L.length + (lenR a 0 + 3) := by rw [List.length_append, HQ3.out]; simp only [List.length_cons, List.length_nil]; omega
  have HQ4 := hid hq
  have HB2 := hid (HBL.out w0 w4 _ X C sv _ HV.out hw (by (try dsimp only); rw [hq]; have := HL.out; omega) (by have := HL.out; (try dsimp only); omega))
  clear hw hq HBL HP
  go_wp2_with fail
  refine HB2.out.mono ?_
  rintro e w5 ⟨rfl, c, nb, hnb, hc, hw⟩
  try dsimp only at hnb hc hw
  rw [HQ4.out] at hc
  have HC := hid (And.intro hnb hc)
  have hq : (m.L ++ [(J.mk 40 0 0 ⟨#[]⟩ m.ln)] ++ c1 ++ [(J.mk 7 0 0 ⟨#[]⟩ m.ln)] ++ [(J.mk 35 0 0 ⟨#[]⟩ m.ln)] ++ c : List J).length = m.L.length + (lenR a 0 + 3) + sumR 7 l := by rw [List.length_append, HQ4.out, hc.1]
  have HQ5 := hid hq
  have HP := hid (put0 hw 6 ((m.L.length + 1 : Nat) : Int) 0 ⟨#[]⟩ (by rw [hq]; have := HL.out; omega))
  clear hw hnb hc hq HB2
  go_wp2_with fail
  refine HP.out.mono ?_
  rintro e w6 ⟨rfl, hw⟩
  have hq : (m.L ++ [(J.mk 40 0 0 ⟨#[]⟩ m.ln)] ++ c1 ++ [(J.mk 7 0 0 ⟨#[]⟩ m.ln)] ++ [(J.mk 35 0 0 ⟨#[]⟩ m.ln)] ++ c ++ [(J.mk 6 ((m.L.length + 1 : Nat) : Int) 0 ⟨#[]⟩ m.ln)] : List J).length = m.L.length + (lenR a 0 + 3 + sumR 7 l + 1) := by rw [List.length_append, HQ5.out]; simp only [List.length_cons, List.length_nil]; omega
  have HQ6 := hid hq
  have HHE := hid (here_mid hw (A := m.L ++ [(J.mk 40 0 0 ⟨#[]⟩ m.ln)] ++ c1) (j := J.mk 7 0 0 ⟨#[]⟩ m.ln) (B := J.mk 35 0 0 ⟨#[]⟩ m.ln :: (c ++ [(J.mk 6 ((m.L.length + 1 : Nat) : Int) 0 ⟨#[]⟩ m.ln)])) (by simp) (k := m.L.length + 1 + lenR a 0) (by rw [HQ2.out]) (by rw [hq]; have := HL.out; omega))
  clear hw HP hq
  go_wp2_with fail
  refine HHE.out.mono ?_
  rintro e w7 ⟨rfl, hw⟩
  rw [HQ6.out] at hw
  have hw2 := hw.cast (L' := m.L ++ (J.mk 40 0 0 ⟨#[]⟩ m.ln) :: (c1 ++ J.mk 7 ((m.L.length + (lenR a 0 + 3 + sumR 7 l + 1) : Nat) : Int) 0 ⟨#[]⟩ m.ln :: J.mk 35 0 0 ⟨#[]⟩ m.ln :: (c ++ [(J.mk 6 ((m.L.length + 1 : Nat) : Int) 0 ⟨#[]⟩ m.ln)]))) (by simp)
  have hq : (m.L ++ (J.mk 40 0 0 ⟨#[]⟩ m.ln) :: (c1 ++ J.mk 7 ((m.L.length + (lenR a 0 + 3 + sumR 7 l + 1) : Nat) : Int) 0 ⟨#[]⟩ m.ln :: J.mk 35 0 0 ⟨#[]⟩ m.ln :: (c ++ [(J.mk 6 ((m.L.length + 1 : Nat) : Int) 0 ⟨#[]⟩ m.ln)])) : List J).length = m.L.length + (lenR a 0 + 3 + sumR 7 l + 1) := by rw [← HQ6.out]; simp
  have HQ7 := hid hq
  have HHE2 := hid (here_mid hw2 (A := m.L) (j := J.mk 40 0 0 ⟨#[]⟩ m.ln) rfl (k := m.L.length) rfl (by rw [hq]; have := HL.out; omega))
  clear hw hw2 HHE hq
  go_wp2_with fail
  refine HHE2.out.mono ?_
  rintro e w8 ⟨rfl, hw⟩
  rw [HQ7.out] at hw
  try dsimp only at hw
  have hlen : (m.L ++ (J.mk 40 ((m.L.length + (lenR a 0 + 3 + sumR 7 l + 1) : Nat) : Int) 0 ⟨#[]⟩ m.ln) :: (c1 ++ J.mk 7 ((m.L.length + (lenR a 0 + 3 + sumR 7 l + 1) : Nat) : Int) 0 ⟨#[]⟩ m.ln :: J.mk 35 0 0 ⟨#[]⟩ m.ln :: (c ++ [(J.mk 6 ((m.L.length + 1 : Nat) : Int) 0 ⟨#[]⟩ m.ln)])) : List J).length = m.L.length + (lenR a 0 + 3 + sumR 7 l + 1) := by rw [← HQ7.out]; simp
  have HLN := hid hlen
  have x0 := hw.cells.1
  obtain ⟨g2, cp2, c2, f2, cb, hset⟩ := hw.mid (A := m.L) rfl (k := m.L.length) rfl
  rw [hlen] at c2
  have hidx : ((m.L.length : Nat) : Int) < ((m.L.length + (lenR a 0 + 3 + sumR 7 l + 1) : Nat) : Int) := by omega
  have HS := hid (hset ((m.L.length : Int) + 1))
  clear hset hlen HHE2 hw
  go_upto_region 11 with fail
  generalize w8.setCell ⟨g2, m.L.length * 8 + 2, none⟩ (.int .i64 ((m.L.length : Int) + 1)) = w9 at *
  clear x0 c2 f2 cb hidx
  have hm7 := HS.out
  try dsimp only at hm7
  have hq : (m.L ++ (J.mk 40 ((m.L.length + (lenR a 0 + 3 + sumR 7 l + 1) : Nat) : Int) ((m.L.length : Int) + 1) ⟨#[]⟩ m.ln) :: (c1 ++ J.mk 7 ((m.L.length + (lenR a 0 + 3 + sumR 7 l + 1) : Nat) : Int) 0 ⟨#[]⟩ m.ln :: J.mk 35 0 0 ⟨#[]⟩ m.ln :: (c ++ [(J.mk 6 ((m.L.length + 1 : Nat) : Int) 0 ⟨#[]⟩ m.ln)])) : List J).length = m.L.length + (lenR a 0 + 3 + sumR 7 l + 1) := by rw [← HLN.out]; simp
  have HP := hid (put0 hm7 41 0 0 ⟨#[]⟩ (by rw [hq]; have := HL.out; omega))
  clear hm7 hq HS
  go_wp2_with fail
  refine HP.out.mono ?_
  rintro e w10 ⟨rfl, hw⟩
  have HW := hid hw
  clear hw HP
  go_wp2_with fail
  go_end0
  refine ⟨rfl, c1, c, nb, HC.out.1, HC0.out, HC.out.2, (HM0.out.since HW.out).cast ?_⟩
  simp
end
section
theorem Rt.block6 {x : Nd} (h : Rt 6 x) : (∀ y ∈ x.l, Rt 7 y) ∧ lenR x 6 = sumR 7 x.l := by
  have hk := fun i z => h.kid (i := i) (y := z)
  have hop : x.op = 52 := by simpa [pStands] using h.own.1
  have hR : pRoles x.op x.l.length = List.replicate x.l.length 7 := by rw [hop]; simp [pRoles]
  have hg : ∀ k, k < x.l.length → (List.replicate x.l.length (7 : Int)).getD k 0 = 7 := fun k hk => by rw [List.getD_eq_getElem?_getD, List.getElem?_replicate, if_pos hk]; rfl
  rw [hR] at hk
  refine ⟨fun y hy => ?_, ?_⟩
  · obtain ⟨i, hi, e⟩ := List.getElem_of_mem hy
    have h2 := hk i y (by rw [List.getElem?_eq_getElem hi, e])
    rw [hg i hi] at h2
    simpa [rW] using h2
  · rw [lenR_eq, hR, lenRL_const (ρ := 7) (by rw [hop]; decide) x.l 0 fun k hk => by rw [Nat.zero_add, hg k hk]; simp [cRole, rW, hop]]
    simp [cst]
theorem Rt.do {x : Nd} (h : Rt 7 x) (hop : x.op = 40) : ∃ a, x.l = [a] ∧ Rt 0 a ∧ lenR x 7 = lenR a 0 + 2 := by
  have h2 := h.own.2
  have hk := fun i z => h.kid (i := i) (y := z)
  rw [hop] at h2
  obtain ⟨a, hl⟩ := len1 (by simpa [pCounts] using h2)
  rw [hop, hl] at hk
  rw [lenR_eq, hl, hop]
  exact ⟨a, rfl, by simpa [pRoles, rW] using hk 0 a rfl, by simp [lenRL_cons, lenRL_nil, cst, cRole, rW, pRoles]; omega⟩
theorem Rt.round {x : Nd} (h : Rt 7 x) (hop : x.op = 42 ∨ x.op = 44) : ∃ a b, x.l = [a, b] ∧ Rt 0 a ∧ Rt 6 b ∧ lenR x 7 = (if x.op = 42 then 5 else 6) + lenR a 0 + lenR b 6 := by
  have h2 := h.own.2
  have hk := fun i z => h.kid (i := i) (y := z)
  rcases hop with hop | hop
  all_goals
    rw [hop] at h2
    obtain ⟨a, b, hl⟩ := len2 (by simpa [pCounts] using h2)
    rw [hop, hl] at hk
    rw [lenR_eq, hl, hop]
    exact ⟨a, b, rfl, by simpa [pRoles, rW] using hk 0 a rfl, by simpa [pRoles, rW] using hk 1 b rfl, by simp [lenRL_cons, lenRL_nil, cst, cRole, rW, pRoles]; omega⟩
theorem Rt.forto {x : Nd} (h : Rt 7 x) (hop : x.op = 43) : ∃ a b c, x.l = [a, b, c] ∧ Rt 0 a ∧ Rt 0 b ∧ Rt 6 c ∧ lenR x 7 = 5 + lenR a 0 + lenR b 0 + lenR c 6 := by
  have h2 := h.own.2
  have hk := fun i z => h.kid (i := i) (y := z)
  rw [hop] at h2
  obtain ⟨a, b, c, hl⟩ := len3 (by simpa [pCounts] using h2)
  rw [hop, hl] at hk
  rw [lenR_eq, hl, hop]
  exact ⟨a, b, c, rfl, by simpa [pRoles, rW] using hk 0 a rfl, by simpa [pRoles, rW] using hk 1 b rfl, by simpa [pRoles, rW] using hk 2 c rfl, by simp [lenRL_cons, lenRL_nil, cst, cRole, rW, pRoles]; omega⟩
theorem Rt.away {x : Nd} (h : Rt 7 x) (hop : x.op = 45 ∨ x.op = 46) : lenR x 7 = 2 := by
  have h2 := h.own.2
  have hl : x.l = [] := by rcases hop with e | e <;> (rw [e] at h2; simpa [pCounts] using h2)
  rw [lenR_eq, hl, lenRL_nil]
  rcases hop with e | e <;> simp [e, cst]
theorem Rt.ret {x : Nd} (h : Rt 7 x) (hop : x.op = 47) : (x.l = [] ∧ lenR x 7 = 3) ∨ ∃ a, x.l = [a] ∧ Rt 0 a ∧ lenR x 7 = lenR a 0 + 2 := by
  have h2 := h.own.2
  have hk := fun i z => h.kid (i := i) (y := z)
  rw [hop] at h2
  have hlen : x.l.length ≤ 1 := by simpa [pCounts] using h2
  by_cases h0 : x.l.length = 0
  · have hl : x.l = [] := List.eq_nil_of_length_eq_zero h0
    refine .inl ⟨hl, ?_⟩
    rw [lenR_eq, hl, lenRL_nil, hop]
    simp [cst]
  · obtain ⟨a, hl⟩ := len1 (l := x.l) (by omega)
    rw [hop, hl] at hk
    refine .inr ⟨a, hl, by simpa [pRoles, rW] using hk 0 a rfl, ?_⟩
    rw [lenR_eq, hl, hop]
    simp [lenRL_cons, lenRL_nil, cst, cRole, rW, pRoles]
    omega
theorem Rt.fork {x : Nd} (h : Rt 7 x) (hop : x.op = 48) : ∃ a b, x.l = [a, b] ∧ Rt 0 a ∧ Rt 6 b ∧ lenR x 7 = 2 + lenR a 0 := by
  have h2 := h.own.2
  have hk := fun i z => h.kid (i := i) (y := z)
  rw [hop] at h2
  obtain ⟨a, b, hl⟩ := len2 (by simpa [pCounts] using h2)
  rw [hop, hl] at hk
  rw [lenR_eq, hl, hop]
  exact ⟨a, b, rfl, by simpa [pRoles, rW] using hk 0 a rfl, by simpa [pRoles, rW] using hk 1 b rfl, by simp [lenRL_cons, lenRL_nil, cst, cRole, rW, pRoles]⟩
theorem Rt.fin {x : Nd} (h : Rt 7 x) (hop : x.op = 51) : ∃ a b, x.l = [a, b] ∧ Rt 6 a ∧ Rt 6 b ∧ lenR x 7 = 5 + lenR a 6 + lenR b 6 := by
  have h2 := h.own.2
  have hk := fun i z => h.kid (i := i) (y := z)
  rw [hop] at h2
  obtain ⟨a, b, hl⟩ := len2 (by simpa [pCounts] using h2)
  rw [hop, hl] at hk
  rw [lenR_eq, hl, hop]
  exact ⟨a, b, rfl, by simpa [pRoles, rW] using hk 0 a rfl, by simpa [pRoles, rW] using hk 1 b rfl, by simp [lenRL_cons, lenRL_nil, cst, cRole, rW, pRoles]; omega⟩
theorem Rt.exc {x : Nd} (h : Rt 8 x) : ∃ c b, x.l = [c, b] ∧ Rt 5 c ∧ Rt 6 b ∧ lenR x 8 = 3 + lenR c 5 + lenR b 6 := by
  have h2 := h.own.2
  have hk := fun i z => h.kid (i := i) (y := z)
  have hop : x.op = 50 := by simpa [pStands] using h.own.1
  rw [hop] at h2
  obtain ⟨a, b, hl⟩ := len2 (by simpa [pCounts] using h2)
  rw [hop, hl] at hk
  rw [lenR_eq, hl, hop]
  exact ⟨a, b, rfl, by simpa [pRoles, rW] using hk 0 a rfl, by simpa [pRoles, rW] using hk 1 b rfl, by simp [lenRL_cons, lenRL_nil, cst, cRole, rW, pRoles]; omega⟩
theorem Rt.tryr {x : Nd} (h : Rt 7 x) (hop : x.op = 49) : ∃ b r, x.l = b :: r ∧ Rt 6 b ∧ (∀ y ∈ r, Rt 8 y) ∧ lenR x 7 = 5 + lenR b 6 + sumR 8 r := by
  have h2 := h.own.2
  have hk := fun i z => h.kid (i := i) (y := z)
  rw [hop] at h2
  have hlen : 2 ≤ x.l.length := by simpa [pCounts] using h2
  obtain ⟨b, r, hl⟩ : ∃ b r, x.l = b :: r := by
    cases hx : x.l with
    | nil => rw [hx] at hlen; simp at hlen
    | cons b r => exact ⟨b, r, rfl⟩
  have hR : pRoles 49 x.l.length = 6 :: List.replicate r.length 8 := by rw [hl]; simp [pRoles]
  have hg : ∀ k, k < r.length → (6 :: List.replicate r.length (8 : Int)).getD (k + 1) 0 = 8 := fun k hk => by
    rw [List.getD_eq_getElem?_getD, List.getElem?_cons_succ, List.getElem?_replicate, if_pos hk]; rfl
  rw [hop, hR] at hk
  refine ⟨b, r, hl, by have h3 := hk 0 b (by rw [hl]; rfl); simpa [rW] using h3, fun y hy => ?_, ?_⟩
  · obtain ⟨i, hi, e⟩ := List.getElem_of_mem hy
    have h3 := hk (i + 1) y (by rw [hl, List.getElem?_cons_succ, List.getElem?_eq_getElem hi, e])
    rw [hg i hi] at h3
    simpa [rW] using h3
  · rw [lenR_eq, hop, hR, hl, lenRL_cons, lenRL_const (ρ := 8) (by decide) r (0 + 1) fun k hk => by rw [show 0 + 1 + k = k + 1 by omega, hg k hk]; simp [cRole, rW]]
    simp [cst, cRole, rW]
    omega
end
section
/-- The conditions and Blocks of an If, and how many instructions they come to. -/
def IfR : List Nd → Prop
  | [] => True
  | [b] => Rt 6 b
  | c :: b :: r => Rt 0 c ∧ Rt 6 b ∧ IfR r
def lenIf : List Nd → Nat
  | [] => 0
  | [b] => lenR b 6
  | c :: b :: r => lenR c 0 + 1 + lenR b 6 + 1 + lenIf r
theorem ifL_get (n i : Nat) (hi : i < n) : (ifL n).getD i 0 = if i % 2 = 1 ∨ i + 1 = n then 6 else 0 := by
  unfold ifL
  by_cases h : n % 2 = 0
  · rw [if_pos h, ifK_getD n i hi]
    by_cases h1 : i % 2 = 0
    · rw [if_pos h1, if_neg (by omega)]
    · rw [if_neg h1, if_pos (by omega)]
  · rw [if_neg h, List.getD_eq_getElem?_getD, List.getElem?_set]
    by_cases h1 : n - 1 = i
    · rw [if_pos h1, if_pos (by rw [ifK_length]; omega), if_pos (by omega)]
      rfl
    · rw [if_neg h1, ← List.getD_eq_getElem?_getD, ifK_getD n i hi]
      by_cases h2 : i % 2 = 0
      · rw [if_pos h2, if_neg (by omega)]
      · rw [if_neg h2, if_pos (by omega)]
theorem ifR_of {R : List Int} {n : Nat} (hg : ∀ i, i < n → R.getD i 0 = if i % 2 = 1 ∨ i + 1 = n then 6 else 0) : ∀ (m : Nat) (l : List Nd) (i : Nat), l.length ≤ m → i + l.length = n → i % 2 = 0 → (∀ (k : Nat) (y : Nd), l[k]? = some y → Rt (R.getD (i + k) 0) y) → IfR l ∧ lenRL 41 7 R i l = lenIf l - 2 * (l.length / 2) ∧ 2 * (l.length / 2) ≤ lenIf l
  | m, [], i, _, _, _, _ => ⟨trivial, by rw [lenRL_nil]; rfl, Nat.zero_le _⟩
  | m, [b], i, _, hn, he, hk => by
    have h1 := hk 0 b rfl
    rw [Nat.add_zero, hg i (by simp at hn; omega), if_pos (.inr (by simpa using hn))] at h1
    refine ⟨h1, ?_, by simp⟩
    rw [lenRL_cons, lenRL_nil, if_neg (by omega), hg i (by simp at hn; omega), if_pos (.inr (by simpa using hn))]
    simp [cRole, rW, lenIf]
  | 0, c :: b :: r, i, hm, _, _, _ => by simp at hm
  | m + 1, c :: b :: r, i, hm, hn, he, hk => by
    simp only [List.length_cons] at hm hn
    have h0 := hk 0 c rfl
    have h1 := hk 1 b rfl
    rw [Nat.add_zero, hg i (by omega), if_neg (by omega)] at h0
    rw [hg (i + 1) (by omega), if_pos (by omega)] at h1
    obtain ⟨a1, a2, a3⟩ := ifR_of hg m r (i + 2) (by omega) (by omega) (by omega) fun k y hy => by
      have := hk (k + 2) y (by simpa using hy)
      rwa [show i + (k + 2) = i + 2 + k by omega] at this
    refine ⟨⟨h0, h1, a1⟩, ?_, ?_⟩
    · rw [lenRL_cons, lenRL_cons, if_neg (by omega), if_neg (by omega), hg i (by omega), if_neg (by omega), hg (i + 1) (by omega), if_pos (by omega), a2]
      simp only [lenIf, List.length_cons]
      simp [cRole, rW]
      omega
    · simp only [lenIf, List.length_cons]
      omega
theorem Rt.ifr {x : Nd} (h : Rt 7 x) (hop : x.op = 41) : IfR x.l ∧ lenR x 7 = 1 + lenIf x.l ∧ 2 ≤ x.l.length := by
  have h2 := h.own.2
  have hk := fun i z => h.kid (i := i) (y := z)
  rw [hop] at h2
  have hlen : 2 ≤ x.l.length := by simpa [pCounts] using h2
  have hR : pRoles x.op x.l.length = ifL x.l.length := by rw [hop]; simp [pRoles]
  rw [hR] at hk
  obtain ⟨a1, a2, a3⟩ := ifR_of (fun i hi => ifL_get x.l.length i hi) x.l.length x.l 0 (Nat.le_refl _) (Nat.zero_add _) rfl fun k y hy => by
    have := hk k y hy
    rw [Nat.zero_add]
    simpa [rW] using this
  refine ⟨a1, ?_, hlen⟩
  rw [lenR_eq, hR, hop, a2]
  simp [cst]
  omega
/-- An instruction's first number is set. -/
def patch (L : List J) (i : Nat) (t : Int) : List J := match L[i]? with
  | some j => L.set i ⟨j.op, t, j.b, j.s, j.ln⟩
  | none => L
def patchAll (L : List J) (es : List Nat) (t : Int) : List J := es.foldl (fun L i => patch L i t) L
theorem patch_len (L : List J) (i : Nat) (t : Int) : (patch L i t).length = L.length := by
  unfold patch
  split
  · rw [List.length_set]
  · rfl
theorem patch_mid (A B : List J) (j : J) (t : Int) : patch (A ++ j :: B) A.length t = A ++ ⟨j.op, t, j.b, j.s, j.ln⟩ :: B := by
  unfold patch
  rw [List.getElem?_append_right (Nat.le_refl _), Nat.sub_self]
  dsimp only [List.getElem?_cons_zero]
  rw [List.set_append_right _ _ (Nat.le_refl _), Nat.sub_self]
  rfl
theorem patchAll_snoc (L : List J) (es : List Nat) (i : Nat) (t : Int) : patchAll L (es ++ [i]) t = patch (patchAll L es t) i t := by
  unfold patchAll
  rw [List.foldl_append]
  rfl
theorem patchAll_len (L : List J) (es : List Nat) (t : Int) : (patchAll L es t).length = L.length := by
  induction es generalizing L with
  | nil => rfl
  | cons i r ih => unfold patchAll at ih ⊢; rw [List.foldl_cons, ih, patch_len]
end
section
open Go.RowKit
variable {W V w w' : World} {X C : Nat} {sv : Value} {m : MS}

theorem own_heap' {w w' : World} {base e s n : Nat} {v : Value} {xs : List Value} (h : w.ownsRow base e s v n xs) (hk : ∀ k, v.ownBlock = some k → w'.heap[k]? = w.heap[k]?) : w'.ownsRow base e s v n xs := by
  refine ⟨h.1, ?_⟩
  rcases h.2 with hh | ⟨g, cap, cur, rfl, hb, hg, r⟩
  · exact .inl hh
  · exact .inr ⟨g, cap, cur, rfl, hb, by rw [hk g rfl]; exact hg, r⟩
def eV (es : List Nat) : List Value := es.map fun (i : Nat) => .int .i64 (i : Int)
/-- A row of places of its own, that is not the code's. -/
def EndsAt (w : World) (C base : Nat) (ev : Value) (es : List Nat) : Prop := w.ownsRow base 3 1 ev es.length (eV es) ∧ ∀ k, ev.ownBlock = some k → ¬ NvB w C k
theorem EndsAt.kept {C base : Nat} {ev : Value} {es : List Nat} (h : EndsAt V C base ev es) (ik : IKept V w C) : EndsAt w C base ev es := by
  refine ⟨own_heap' h.1 fun k hk => ?_, fun k hk hn => h.2 k hk (ik.2.2 k (h.1.lt k hk).2 hn)⟩
  rcases h.1.2 with ⟨e, -⟩ | ⟨g, cap, cur, e, -, hg, -⟩
  · rw [e] at hk; cases hk
  · rw [e] at hk
    simp only [Value.ownBlock, Option.some.injEq] at hk
    subst hk
    rw [hg]
    exact ik.2.1 g _ _ hg (h.2 g (by rw [e]; rfl))
theorem EndsAt.nil (w : World) (C base : Nat) : EndsAt w C base (.slice none 0 0) [] := ⟨World.ownsRow_nil _ _ _ _, fun k hk => by cases hk⟩
/-- The places' row has grown. -/
theorem MW.ends {base : Nat} {ev : Value} {es : List Nat} (h : MW W V w X C sv m) (he : EndsAt w C base ev es) (hf : Fr (fun k => some k = ev.ownBlock) w w') (hV : V.heap.size ≤ base) (hW : W.heap.size ≤ base) : MW W V w' X C sv m := by
  obtain ⟨lv, nv, bv, xs, zs, hc, ho1, hins, ho2, ho3⟩ := h.hC
  have hbk : ∀ k, some k = ev.ownBlock → base ≤ k := fun k hk => (he.1.lt k hk.symm).1
  have hcC := hf.heap hc (fun e => own_ne_cells he.1 hc (by decide) C e.symm rfl)
  refine ⟨h.f.trans (U := fun _ => False) hf (fun _ _ h => h) (fun k hk e => by have := hbk k e; omega), h.kp.step hf (node_ne_own he.1 (by decide)), ⟨Nat.le_trans h.ik.1 hf.size, fun k cs fz e hn => hf.heap (h.ik.2.1 k cs fz e hn) fun e' => by
    have h1 := (Array.getElem?_eq_some_iff.1 e).1
    have h2 := hbk k e'
    omega, fun k hk hn => h.ik.2.2 k hk (hn.same (by rw [hcC, hc]))⟩, h.lo, hf.heap h.hX (fun e => own_ne_cells he.1 h.hX (by decide) X e.symm rfl), lv, nv, bv, xs, zs, hcC, hf.own ho1 (own_ne ho1 he.1 (by decide)), hins, hf.own ho2 (fun k hk e => he.2 k e.symm ((NvB.of hc).2 hk)), hf.own ho3 (own_ne ho3 he.1 (by decide))⟩
/-- One place more. -/
theorem EndsAt.snoc {base g cap p : Nat} {ev : Value} {es : List Nat} (h : MW W V w X C sv m) (he : EndsAt w C base ev es) (hf : Fr (fun k => some k = ev.ownBlock) w w') (ho : w'.ownsRow base 3 1 (.slice (some ⟨g, 0, none⟩) (es.length + 1) cap) (es.length + 1) (eV es ++ [.int .i64 (p : Int)])) (hg : ev.ownBlock = some g ∨ w.heap.size ≤ g) : EndsAt w' C base (.slice (some ⟨g, 0, none⟩) (es.length + 1) cap) (es ++ [p]) := by
  obtain ⟨lv, nv, bv, xs, zs, hc, ho1, hins, ho2, ho3⟩ := h.hC
  have hcC := hf.heap hc (fun e => own_ne_cells he.1 hc (by decide) C e.symm rfl)
  refine ⟨by rw [List.length_append]; simpa [eV] using ho, fun k hk hn => ?_⟩
  simp only [Value.ownBlock, Option.some.injEq] at hk
  subst hk
  have hn2 : NvB w C g := hn.same (by rw [hcC, hc])
  rcases hg with h1 | h1
  · exact he.2 g h1 hn2
  · have h2 := (ho2.lt g ((NvB.of hc).1 hn2)).2
    omega
/-- How far an If is laid: c: what is laid, by the place of its end; es: the places that wait for it. -/
def IfSt (W : World) (D : Nat → Prop) (m : MS) (l r : List Nd) (rv : Value) (c : Int → List J) (k nb : Nat) (es : List Nat) : Prop :=
  (NL D W r rv ∧ IfR r ∧ lenIf l = k + lenIf r) ∧ (cntL r ≤ cntL l ∧ szL r ≤ szL l ∧ ∀ y ∈ walkL r, y ∈ walkL l) ∧ (m.nb ≤ nb ∧ nb ≤ m.nb + k) ∧ (∀ t, FX (fun z => z = m.ln ∨ LnOf l z) nb m.L.length k (c t) t) ∧
  (∀ t rest, patchAll (m.L ++ c 0 ++ rest) es t = m.L ++ c t ++ rest) ∧ (∀ i ∈ es, i < m.L.length + k) ∧ es.length ≤ k
set_option maxRecDepth 100000 in
set_option maxHeartbeats 12800000 in
theorem ifs_of (N : Nat) (ihb : BlockTo N) (l : List Nd) (hl : cntL l < N) (hM : szL l ≤ 1048576) (hif : IfR l) (D : Nat → Prop) (v : Value) (hv : NL D W l v) (hm : MW W V w X C sv m) (hL : m.L.length + lenIf l ≤ 1073741824) (hB : m.nb + lenIf l ≤ 1073741824) :
    Calls Tryd.prog 89 #[.pointer (some ⟨X, 0, none⟩), v] w (SPost W V X C sv m (fun z => z = m.ln ∨ LnOf l z) (lenIf l)) := by
  obtain ⟨a0, cap, us, rfl, -⟩ := id hv
  have HM := hid hm; have HB := hid (And.intro hl hM); have HL := hid (And.intro hL hB); have HIB := hid ihb
  have HST := hid (show IfSt W D m l l (.slice a0 l.length cap) (fun _ => []) 0 m.nb [] from ⟨⟨hv, hif, by omega⟩, ⟨Nat.le_refl _, Nat.le_refl _, fun _ h => h⟩, ⟨Nat.le_refl _, Nat.le_refl _⟩, fun t => FX.nil, fun t rest => rfl, fun i hi => (by cases hi), Nat.le_refl _⟩)
  have HM0 := hid (And.intro hm.ik.1 hm.f.size)
  clear hv hm hl hM hif hL hB ihb
  go_enter Tryd.func89, Tryd.ntmps89
  go_wp2_with fail
  go_loopw [1, 4, 5] (fun rv ev _ wr => ∃ (r : List Nd) (c : Int → List J) (k nb : Nat) (es : List Nat) (ra : Option Addr) (rc : Nat) (ea : Option Addr) (ec : Nat), rv = .slice ra r.length rc ∧ ev = .slice ea es.length ec ∧ Hid (IfSt W D m l r (.slice ra r.length rc) c k nb es) ∧ Hid (EndsAt wr C w.heap.size (.slice ea es.length ec) es) ∧ Hid (MW W V wr X C sv ⟨m.L ++ c 0, nb, m.ln⟩) ∧ Hid (w.heap.size ≤ wr.heap.size)) (fun rv _ _ _ => sliceLen rv)
  case atStart => exact ⟨l, fun _ => [], 0, m.nb, [], a0, cap, none, 0, rfl, rfl, HST, EndsAt.nil _ _ _, by rw [List.append_nil]; exact HM.out, Nat.le_refl _⟩
  case round =>
    clear HST HM
    obtain ⟨r, c, k, nb, es, ra, rc, ea, ec, rfl, rfl, HS, HE, HK, HZ⟩ := hrel
    match r, HS with
    | [], HS =>
      obtain ⟨⟨hnl, hif, hlen⟩, ⟨hc1, hc2, hwk⟩, hnb, hfx, hpa, hes, hel⟩ := HS.out
      simp only [lenIf] at hlen
      have HLE := hid hlen; have HNN := hid hnb; have HFX := hid hfx; have HPA := hid hpa; have HES := hid hes; have HEL := hid hel; have HWK := hid hwk
      have hlk : (m.L ++ c 0).length = m.L.length + k := by rw [List.length_append, (hfx 0).1]
      have HLK := hid hlk
      clear hnl hif hlen hc1 hc2 hwk hnb hfx hpa hes hel hlk
      have hr1 : ¬ (1 : Int) < (([] : List Nd).length : Nat) := by simp
      simp only [List.length_nil] at *
      obtain ⟨LL, hLL⟩ : ∃ LL : List J, m.L ++ c 0 = LL := ⟨_, rfl⟩
      have HLL := hid hLL
      have HKL := hid (show MW W V wr X C sv ⟨LL, nb, m.ln⟩ by rw [← hLL]; exact HK.out)
      have HEL2 := hid (show LL.length = m.L.length + k by rw [← hLL]; exact HLK.out)
      have HEE := HE
      clear hLL
      obtain ⟨hown, -⟩ := HEE.out
      have hec : es.length ≤ 1073741824 := by have := HEL.out; have := HL.out; have := HLE.out; omega
      clear hown
      go_wp2_with fail
      go_loopw [7, 47] (fun _ i wr2 => ∃ q : Nat, q ≤ es.length ∧ i = .int .i64 q ∧ Hid (MW W V wr2 X C sv ⟨patchAll LL (es.take q) (LL.length : Int), nb, m.ln⟩) ∧ Hid (EndsAt wr2 C w.heap.size (.slice ea es.length ec) es)) (fun _ i _ => es.length - (intOf i).toNat)
      case atStart => exact ⟨0, Nat.zero_le _, rfl, HKL.out, HEE.out⟩
      case round =>
        clear HEE HKL
        obtain ⟨q, hq, rfl, HKQ, HEQ⟩ := hrel
        by_cases hlt : q < es.length
        · obtain ⟨i, hi⟩ : ∃ i, es[q]? = some i := ⟨_, List.getElem?_eq_getElem hlt⟩
          have hltI : (q : Int) < es.length := by omega
          have hil := HES.out i (List.mem_of_getElem? hi)
          have hpl : (patchAll LL (es.take q) (LL.length : Int)).length = LL.length := patchAll_len _ _ _
          obtain ⟨j, hj⟩ : ∃ j, (patchAll LL (es.take q) (LL.length : Int))[i]? = some j := ⟨_, List.getElem?_eq_getElem (by rw [hpl, HEL2.out]; omega)⟩
          have hhe := here_any HKQ.out.now i hj (by rw [hpl, HEL2.out]; have := HL.out; have := HLE.out; omega)
          dsimp only at hhe
          rw [hpl] at hhe
          have hpt : (patchAll LL (es.take q) (LL.length : Int)).set i ⟨j.op, (LL.length : Int), j.b, j.s, j.ln⟩ = patchAll LL (es.take (q + 1)) (LL.length : Int) := by
            rw [List.take_add_one, hi, Option.toList_some, patchAll_snoc]
            unfold patch
            rw [hj]
          rw [hpt] at hhe
          have HHE := hid hhe
          rcases HEQ.out.1.2 with ⟨-, h0⟩ | ⟨g, cap9, cur9, hge, -⟩
          · omega
          have hcl := HEQ.out.1.cells (g := g) (by rw [hge]; rfl) q (.int .i64 (i : Int)) (by unfold eV; rw [List.getElem?_map, hi]; rfl)
          simp only [Value.slice.injEq] at hge
          obtain ⟨rfl, -, rfl⟩ := hge
          rw [show (⟨g, 0, none⟩ : Addr).add q = ⟨g, q, none⟩ by unfold Addr.add; split <;> simp_all] at hcl
          have HQL := hid hlt
          clear hil hpl hj hhe hpt hi hlt
          go_wp2_with fail
          refine HHE.out.mono ?_
          rintro e w7 ⟨rfl, hw⟩
          have HK7 := hid (HKQ.out.since hw); have HE7 := hid (HEQ.out.kept hw.ik)
          clear hw HHE hcl
          go_wp2_with fail
          go_roundw
          case rel => exact ⟨q + 1, by have := HQL.out; omega, by go_num, HK7, HE7⟩
          case measure => simp [intOf]; have := HQL.out; omega
        · obtain rfl : q = es.length := by omega
          have hlt' : ¬ (es.length : Int) < es.length := by omega
          have hfin := HKQ.out
          rw [List.take_length] at hfin
          have HFN := hid hfin
          clear hfin hlt
          go_wp2_with fail
          go_end0
          refine ⟨rfl, c ((m.L.length + k : Nat) : Int), nb, by have := HNN.out; have := HLE.out; omega, ?_, HFN.out.cast ?_⟩
          · rw [show lenIf l = k by have := HLE.out; omega]
            exact (HFX.out _).close
          · have h := HPA.out ((m.L.length + k : Nat) : Int) []
            rw [List.append_nil, List.append_nil, HLL.out] at h
            rw [HEL2.out, h]
    | [b], HS =>
      obtain ⟨⟨hnl, hif, hlen⟩, ⟨hc1, hc2, hwk⟩, hnb, hfx, hpa, hes, hel⟩ := HS.out
      simp only [lenIf] at hlen
      have HLE := hid hlen; have HNN := hid hnb; have HFX := hid hfx; have HPA := hid hpa; have HES := hid hes; have HEL := hid hel; have HWK := hid hwk
      have hlk : (m.L ++ c 0).length = m.L.length + k := by rw [List.length_append, (hfx 0).1]
      have HLK := hid hlk
      simp only [cntL, szL] at hc1 hc2
      obtain ⟨b1, o1, bva, bvc, bl, blc, e1, -, hvb, z0, z1, z2, z3, z4, z5, z6, z7⟩ := hnl.at (k := 0) (y := b) rfl
      subst e1
      simp only [Nat.zero_mul, Nat.add_zero] at z7
      obtain ⟨bw, bv9, be, -, hnb2⟩ := hvb.open
      obtain rfl : bv9 = .slice bl b.l.length blc := by simp at be; exact be.2.symm
      have HNB := hid hnb2; have HRB := hid hif.block6
      have hcb := Nd.cnt_eq b; have hzb := Nd.sz_eq b
      have HC := hid (show cntL b.l < N ∧ szL b.l ≤ 1048576 by have := HB.out; omega)
      have z7' := HK.out.f.cell z7 not_false
      have HBE := hid (HIB.out b.l HC.out.1 HC.out.2 HRB.out.1 D W wr wr _ X C sv _ HNB.out HK.out.now (by (try dsimp only); rw [hlk]; have := HL.out; have := HRB.out.2; omega) (by (try dsimp only); have := HL.out; have := HRB.out.2; have := HNN.out; omega))
      clear hnl hif hlen hc1 hc2 hwk hnb hfx hpa hes hel hlk z0 z1 z2 z3 z4 z5 z6 z7 hvb be hnb2 hcb hzb
      have hr1 : ¬ (1 : Int) < (([b] : List Nd).length : Nat) := by simp
      have hb1 : ([b] : List Nd).length = 1 := rfl
      rw [hb1]
      clear hr1 hb1
      go_wp2_with fail
      refine HBE.out.mono ?_
      rintro e w4 ⟨rfl, cb, nb2, hnb2, hc, hw⟩
      try dsimp only at hnb2 hc hw
      rw [HLK.out] at hc
      have HCB := hid (And.intro hnb2 hc)
      have HK4 := hid (HK.out.since hw); have HE4 := hid (HE.out.kept hw.ik)
      have hq : (m.L ++ c 0 ++ cb : List J).length = m.L.length + k + sumR 7 b.l := by rw [List.length_append, HLK.out, hc.1]
      have HQ4 := hid hq
      clear hw hq hc hnb2 HBE z7'
      obtain ⟨LL, hLL⟩ : ∃ LL : List J, m.L ++ c 0 ++ cb = LL := ⟨_, rfl⟩
      have HLL := hid hLL
      have HKL := hid (show MW W V w4 X C sv ⟨LL, nb2, m.ln⟩ by rw [← hLL]; exact HK4.out)
      have HEL2 := hid (show LL.length = m.L.length + k + sumR 7 b.l by rw [← hLL]; exact HQ4.out)
      have HEE := HE4
      clear hLL
      obtain ⟨hown, -⟩ := HEE.out
      have hec : es.length ≤ 1073741824 := by have := HEL.out; have := HL.out; have := HLE.out; omega
      clear hown
      go_wp2_with fail
      go_loopw [7, 47] (fun _ i wr2 => ∃ q : Nat, q ≤ es.length ∧ i = .int .i64 q ∧ Hid (MW W V wr2 X C sv ⟨patchAll LL (es.take q) (LL.length : Int), nb2, m.ln⟩) ∧ Hid (EndsAt wr2 C w.heap.size (.slice ea es.length ec) es)) (fun _ i _ => es.length - (intOf i).toNat)
      case atStart => exact ⟨0, Nat.zero_le _, rfl, HKL.out, HEE.out⟩
      case round =>
        clear HEE HKL
        obtain ⟨q, hq, rfl, HKQ, HEQ⟩ := hrel
        by_cases hlt : q < es.length
        · obtain ⟨i, hi⟩ : ∃ i, es[q]? = some i := ⟨_, List.getElem?_eq_getElem hlt⟩
          have hltI : (q : Int) < es.length := by omega
          have hil := HES.out i (List.mem_of_getElem? hi)
          have hpl : (patchAll LL (es.take q) (LL.length : Int)).length = LL.length := patchAll_len _ _ _
          obtain ⟨j, hj⟩ : ∃ j, (patchAll LL (es.take q) (LL.length : Int))[i]? = some j := ⟨_, List.getElem?_eq_getElem (by rw [hpl, HEL2.out]; omega)⟩
          have hhe := here_any HKQ.out.now i hj (by rw [hpl, HEL2.out]; have := HL.out; have := HLE.out; have := HRB.out.2; omega)
          dsimp only at hhe
          rw [hpl] at hhe
          have hpt : (patchAll LL (es.take q) (LL.length : Int)).set i ⟨j.op, (LL.length : Int), j.b, j.s, j.ln⟩ = patchAll LL (es.take (q + 1)) (LL.length : Int) := by
            rw [List.take_add_one, hi, Option.toList_some, patchAll_snoc]
            unfold patch
            rw [hj]
          rw [hpt] at hhe
          have HHE := hid hhe
          rcases HEQ.out.1.2 with ⟨-, h0⟩ | ⟨g, cap9, cur9, hge, -⟩
          · omega
          have hcl := HEQ.out.1.cells (g := g) (by rw [hge]; rfl) q (.int .i64 (i : Int)) (by unfold eV; rw [List.getElem?_map, hi]; rfl)
          simp only [Value.slice.injEq] at hge
          obtain ⟨rfl, -, rfl⟩ := hge
          rw [show (⟨g, 0, none⟩ : Addr).add q = ⟨g, q, none⟩ by unfold Addr.add; split <;> simp_all] at hcl
          have HQL := hid hlt
          clear hil hpl hj hhe hpt hi hlt
          go_wp2_with fail
          refine HHE.out.mono ?_
          rintro e w7 ⟨rfl, hw⟩
          have HK7 := hid (HKQ.out.since hw); have HE7 := hid (HEQ.out.kept hw.ik)
          clear hw HHE hcl
          go_wp2_with fail
          go_roundw
          case rel => exact ⟨q + 1, by have := HQL.out; omega, by go_num, HK7, HE7⟩
          case measure => simp [intOf]; have := HQL.out; omega
        · obtain rfl : q = es.length := by omega
          have hlt' : ¬ (es.length : Int) < es.length := by omega
          have hfin := HKQ.out
          rw [List.take_length] at hfin
          have HFN := hid hfin
          clear hfin hlt
          go_wp2_with fail
          go_end0
          refine ⟨rfl, c ((m.L.length + (k + sumR 7 b.l) : Nat) : Int) ++ cb, nb2, by have := HNN.out; have := HLE.out; have := HCB.out.1; have := HRB.out.2; omega, ?_, HFN.out.cast ?_⟩
          · rw [show lenIf l = k + sumR 7 b.l by have := HLE.out; have := HRB.out.2; omega]
            have h1 := (HFX.out ((m.L.length + (k + sumR 7 b.l) : Nat) : Int)).mono (QL := fun z => z = m.ln ∨ LnOf l z) (fun _ h => h) HCB.out.1.1
            have h2 := HCB.out.2.mono (QL := fun z => z = m.ln ∨ LnOf l z) (fun z hz => .inr (hz.mono fun y hy => HWK.out y (by rw [walkL, Nd.walk_eq b]; simp [hy]))) (Nat.le_refl _)
            exact (h1.cat (h2.x)).close
          · have h := HPA.out ((m.L.length + (k + sumR 7 b.l) : Nat) : Int) cb
            rw [HLL.out] at h
            rw [HEL2.out, show m.L.length + k + sumR 7 b.l = m.L.length + (k + sumR 7 b.l) by omega, h, List.append_assoc]
    | a :: b :: r, HS =>
      obtain ⟨⟨hnl, ⟨hra, hrb, hrr⟩, hlen⟩, ⟨hc1, hc2, hwk⟩, hnb, hfx, hpa, hes, hel⟩ := HS.out
      simp only [lenIf] at hlen
      simp only [cntL, szL] at hc1 hc2
      have HLE := hid hlen
      obtain ⟨b0, o0, ava, avc, al, alc, e0, -, hva, a0, a1, a2, a3, a4, a5, a6, a7⟩ := hnl.at (k := 0) (y := a) rfl
      subst e0
      obtain ⟨b1, o1, bva, bvc, bl, blc, e1, -, hvb, z0, z1, z2, z3, z4, z5, z6, z7⟩ := hnl.at (k := 1) (y := b) rfl
      simp only [Option.some.injEq, Addr.mk.injEq] at e1
      obtain ⟨rfl, rfl, -⟩ := e1
      simp only [Nat.zero_mul, Nat.add_zero, Nat.one_mul] at a0 a1 a2 a3 a4 a5 a6 a7 z7
      obtain ⟨bw, bv9, be, -, hnb2⟩ := hvb.open
      obtain rfl : bv9 = .slice bl b.l.length blc := by simp at be; exact be.2.symm
      have HNB := hid hnb2; have HRB := hid hrb.block6
      have hcb := Nd.cnt_eq b; have hzb := Nd.sz_eq b
      have HC := hid (show a.sz ≤ 1048576 ∧ cntL b.l < N ∧ szL b.l ≤ 1048576 by have := HB.out; omega)
      have HZ7 := hid z7
      have hf := HK.out.f
      replace a0 := hf.cell a0 not_false
      replace a1 := hf.cell a1 not_false
      replace a2 := hf.cell a2 not_false
      replace a3 := hf.cell a3 not_false
      replace a4 := hf.cell a4 not_false
      replace a5 := hf.cell a5 not_false
      replace a6 := hf.cell a6 not_false
      replace a7 := hf.cell a7 not_false
      have hlk : (m.L ++ c 0).length = m.L.length + k := by rw [List.length_append, (hfx 0).1]
      have HLK := hid hlk
      have hr2 : (1 : Int) < ((a :: b :: r).length : Nat) := by simp only [List.length_cons]; omega
      have HCE := hid (expr_to (a.cnt + 1) a (Nat.lt_succ_self _) HC.out.1 hra D W wr wr _ X C sv _ hva HK.out.now (by (try dsimp only); rw [hlk]; have := HL.out; omega))
      have HNN := hid hnb; have HFX := hid hfx; have HPA := hid hpa; have HES := hid hes; have HEL := hid hel; have HWK := hid hwk; have HNL := hid hnl; have HRR := hid hrr; have HCZ := hid (And.intro hc1 hc2)
      generalize hrl : (a :: b :: r).length = rl at *
      have HRL := hid hrl
      clear hnl hra hrb hrr hlen hc1 hc2 hwk hnb hfx hpa hes hel z0 z1 z2 z3 z4 z5 z6 z7 hva hvb be hnb2 hcb hzb hf hlk hrl
      go_wp2_with fail
      refine HCE.out.mono ?_
      rintro e w2 ⟨rfl, c0, hc, hw⟩
      try dsimp only at hc hw
      rw [HLK.out] at hc
      have hq : (m.L ++ c 0 ++ c0 : List J).length = m.L.length + k + lenR a 0 := by rw [List.length_append, HLK.out, hc.1]
      have HQ2 := hid hq; have HC0 := hid hc
      have HP := hid (put0 hw 7 0 0 ⟨#[]⟩ (by rw [hq]; have := HL.out; have := HLE.out; omega))
      clear hc hw hq HCE a0 a1 a2 a3 a4 a5 a6 a7
      go_wp2_with fail
      refine HP.out.mono ?_
      rintro e w3 ⟨rfl, hw⟩
      rw [HQ2.out]
      have hq : (m.L ++ c 0 ++ c0 ++ [J.mk 7 0 0 ⟨#[]⟩ m.ln] : List J).length = m.L.length + k + lenR a 0 + 1 := by rw [List.length_append, HQ2.out]; rfl
      have HQ3 := hid hq
      have z7 := hw.f.cell HZ7.out not_false
      have HBE := hid (HIB.out b.l HC.out.2.1 HC.out.2.2 HRB.out.1 D W wr w3 _ X C sv _ HNB.out hw (by (try dsimp only); rw [hq]; have := HL.out; have := HLE.out; have := HRB.out.2; omega) (by (try dsimp only); have := HL.out; have := HLE.out; have := HRB.out.2; have := HNN.out; omega))
      have hidx2 : (1 : Int) < (rl : Nat) := hr2
      clear hw hq HP
      go_wp2_with fail
      refine HBE.out.mono ?_
      rintro e w4 ⟨rfl, cb, nb2, hnb2, hc, hw⟩
      try dsimp only at hnb2 hc hw
      rw [HQ3.out] at hc
      have hq : (m.L ++ c 0 ++ c0 ++ [J.mk 7 0 0 ⟨#[]⟩ m.ln] ++ cb : List J).length = m.L.length + k + lenR a 0 + 1 + sumR 7 b.l := by rw [List.length_append, HQ3.out, hc.1]
      have HQ4 := hid hq; have HCB := hid (And.intro hnb2 hc)
      have HP := hid (put0 hw 6 0 0 ⟨#[]⟩ (by rw [hq]; have := HL.out; have := HLE.out; have := HRB.out.2; omega))
      clear hw hq hc hnb2 HBE z7
      go_upto_region 5 with fail
      have hne : (m.L.length + k + lenR a 0 + 1 + sumR 7 b.l) = (m.L.length + k + lenR a 0 + 1 + sumR 7 b.l) := rfl
      clear hne
      go_wp2_with fail
      refine HP.out.mono ?_
      rintro e w5 ⟨rfl, hw⟩
      rw [HQ4.out]
      have HK5 := hid (HK.out.since hw)
      have HE5 := hid (HE.out.kept hw.ik)
      have HZ5 := hid (Nat.le_trans HZ.out hw.ik.1)
      have hq : (m.L ++ c 0 ++ c0 ++ [J.mk 7 0 0 ⟨#[]⟩ m.ln] ++ cb ++ [J.mk 6 0 0 ⟨#[]⟩ m.ln] : List J).length = m.L.length + k + lenR a 0 + 1 + sumR 7 b.l + 1 := by rw [List.length_append, HQ4.out]; rfl
      have HQ5 := hid hq
      clear hw hq HP
      obtain ⟨p, hp⟩ : ∃ p, m.L.length + k + lenR a 0 + 1 + sumR 7 b.l = p := ⟨_, rfl⟩
      have HPP := hid hp
      rw [hp]
      clear hp
      have HLB := hid (show es.length + 1 ≤ 1099511627776 by have := HEL.out; have := HL.out; have := HLE.out; omega)
      have HFA := hid ((Fr.refl (fun _ => False) w5).alloc (.cells #[.int .i64 (p : Int)] 3))
      have HEA := hid (show EndsAt (w5.alloc (.cells #[.int .i64 (p : Int)] 3)) C w.heap.size (.slice ea es.length ec) es from HE5.out.kept (HK5.out.now.fr HFA.out).ik)
      have HKA := hid (HK5.out.fr HFA.out)
      have HCE := hid (cell_new1 w5 (.int .i64 (p : Int)) 3 (0, 0))
      have HBS := hid (show w.heap.size ≤ (w5.alloc (.cells #[.int .i64 (p : Int)] 3)).heap.size from Nat.le_trans HZ5.out HFA.out.size)
      go_wp2_with (at_builtin; go_must (refine wpList_append1 rfl (.tmp 25) (.tmp 29) 31 rfl 3 (.int .i64 0) 8 Tryd.underlying31 Tryd.info_int rfl _ rfl w.heap.size es.length (eV es) HEA.out.1 w5.heap.size 1 (.int .i64 (p : Int)) rfl HCE.out rfl HLB.out (by decide) HBS.out ?_; intro g9 cap9 w9 ho9 hf9 hn9))
      have HK9 := hid (HKA.out.ends HEA.out hf9 HM0.out.1 HM0.out.2)
      have HE9 := hid (HEA.out.snoc (p := p) HKA.out hf9 ho9 hn9)
      have HZ9 := hid (Nat.le_trans HBS.out hf9.size)
      clear ho9 hf9 hn9 HFA HEA HKA HCE HBS
      have hhe := here_mid HK9.out.now (A := m.L ++ c 0 ++ c0) (j := J.mk 7 0 0 ⟨#[]⟩ m.ln) (B := cb ++ [J.mk 6 0 0 ⟨#[]⟩ m.ln]) (by simp) (k := m.L.length + k + lenR a 0) (by rw [HQ2.out]) (by rw [HQ5.out]; have := HL.out; have := HLE.out; have := HRB.out.2; omega)
      rw [show ((m.L.length + k + lenR a 0 : Nat) : Int) = (m.L.length : Int) + k + lenR a 0 by omega, HQ5.out] at hhe
      have HHE := hid hhe
      clear hhe
      refine HHE.out.mono ?_
      rintro e w10 ⟨rfl, hw⟩
      try dsimp only at hw
      have HK10 := hid (HK9.out.since hw)
      have HE10 := hid (HE9.out.kept hw.ik)
      have HZ10 := hid (Nat.le_trans HZ9.out hw.ik.1)
      clear hw HHE
      have hrl2 : 2 ≤ rl := by rw [← HRL.out]; simp
      have hrlI : (2 : Int) ≤ (rl : Nat) := by omega
      have HR2 := hid hrl2
      clear hrl2
      go_wp2_with fail
      have hrr : rl - 2 = r.length := by rw [← HRL.out]; simp
      have hlp : ∀ t, (m.L ++ c t ++ (c0 ++ [(J.mk 7 ((m.L.length + k + lenR a 0 + 1 + sumR 7 b.l + 1 : Nat) : Int) 0 ⟨#[]⟩ m.ln)] ++ cb)).length = p := fun t => by
        rw [← HPP.out]
        simp [(HFX.out t).1, HC0.out.1, HCB.out.2.1]
        omega
      have hnl' : NL D W r (.slice (if rc = 2 then some ⟨b0, o0, none⟩ else some ⟨b0, o0 + 16, none⟩) r.length (rc - 2)) := by
        have hn := HNL.out
        have hlc : rl ≤ rc := by
          obtain ⟨a9, c9, u9, e9, h9, -⟩ := hn
          simp only [Value.slice.injEq] at e9
          obtain ⟨-, e1, e2⟩ := e9
          omega
        by_cases h2 : rc = 2
        · rw [if_pos h2]
          have hr0 : r.length = 0 := by have := HR2.out; omega
          have hr1 : r = [] := List.eq_nil_of_length_eq_zero hr0
          rw [h2, hr1]
          exact ⟨_, 0, fun _ => #[], rfl, Nat.le_refl _, Nat.zero_le _, fun h => (by cases h), fun i hi => by simp at hi, fun i x h => by simp at h⟩
        · rw [if_neg h2]
          have hd := hn.drop 2 (by simp)
          rw [hrr] at hd
          exact hd
      have hwr : ∀ y, y ∈ walkL r ∨ y ∈ walkL b.l → y ∈ walkL l := fun y hy => HWK.out y (by
        rw [walkL, walkL, Nd.walk_eq b]
        rcases hy with h | h <;> simp [h])
      refine ⟨⟨r, fun t => c t ++ (c0 ++ [(J.mk 7 ((m.L.length + k + lenR a 0 + 1 + sumR 7 b.l + 1 : Nat) : Int) 0 ⟨#[]⟩ m.ln)] ++ cb ++ [J.mk 6 t 0 ⟨#[]⟩ m.ln]), k + (lenR a 0 + 1 + sumR 7 b.l + 1), nb2, es ++ [p], _, rc - 2, _, cap9, by rw [hrr], by rw [List.length_append]; rfl, ⟨⟨hnl', HRR.out, ?_⟩, ⟨?_, ?_, fun y hy => hwr y (.inl hy)⟩, ?_, fun t => ?_, fun t rest => ?_, fun i hi => ?_, ?_⟩, ?_, ?_, HZ10.out⟩, ?_⟩
      · have := HLE.out; have := HRB.out.2; omega
      · have := HCZ.out.1; omega
      · have := HCZ.out.2; omega
      · have := HNN.out; have := HCB.out.1; omega
      · have h1 := (HFX.out t).mono (QL := fun z => z = m.ln ∨ LnOf l z) (fun _ h => h) HCB.out.1.1
        have h2 := HC0.out.mono (QL := fun z => z = m.ln ∨ LnOf l z) (fun z hz => .inl hz) HCB.out.1.1
        have h3 := HCB.out.2.mono (QL := fun z => z = m.ln ∨ LnOf l z) (fun z hz => .inr (hz.mono fun y hy => hwr y (.inr hy))) (Nat.le_refl _)
        exact h1.cat (FX.arm h2 h3 (by omega) (.inl rfl) (.inl rfl))
      · have e1 : m.L ++ (c 0 ++ (c0 ++ [(J.mk 7 ((m.L.length + k + lenR a 0 + 1 + sumR 7 b.l + 1 : Nat) : Int) 0 ⟨#[]⟩ m.ln)] ++ cb ++ [J.mk 6 0 0 ⟨#[]⟩ m.ln])) ++ rest = m.L ++ c 0 ++ ((c0 ++ [(J.mk 7 ((m.L.length + k + lenR a 0 + 1 + sumR 7 b.l + 1 : Nat) : Int) 0 ⟨#[]⟩ m.ln)] ++ cb ++ [J.mk 6 0 0 ⟨#[]⟩ m.ln]) ++ rest) := by simp only [List.append_assoc]
        have e2 : m.L ++ c t ++ ((c0 ++ [(J.mk 7 ((m.L.length + k + lenR a 0 + 1 + sumR 7 b.l + 1 : Nat) : Int) 0 ⟨#[]⟩ m.ln)] ++ cb ++ [J.mk 6 0 0 ⟨#[]⟩ m.ln]) ++ rest) = (m.L ++ c t ++ (c0 ++ [(J.mk 7 ((m.L.length + k + lenR a 0 + 1 + sumR 7 b.l + 1 : Nat) : Int) 0 ⟨#[]⟩ m.ln)] ++ cb)) ++ J.mk 6 0 0 ⟨#[]⟩ m.ln :: rest := by simp
        rw [patchAll_snoc, e1, HPA.out, e2, ← hlp t, patch_mid]
        simp
      · rcases List.mem_append.1 hi with h | h
        · have := HES.out i h; omega
        · rw [List.mem_singleton.1 h, ← HPP.out]; omega
      · rw [List.length_append]; have := HEL.out; simp only [List.length_cons, List.length_nil]; omega
      · show Hid (EndsAt _ _ _ _ _)
        rw [List.length_append]
        exact HE10
      · exact HK10.out.cast (by simp)
      · simp only [sliceLen]
        have := HR2.out
        omega
end
end Go.Proofs.YtbegahbagnflnaaDoor
