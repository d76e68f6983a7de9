/- Package seq: there, Get, Cut, Put, Insert, Delete, Cat. -/
import Derived.Test.YtebanmigaikhhaaSeqC
namespace Go.Proofs.Ytebanmigaikhhaa
open Go.RowKit

def V0 : V := .mk 0 0 ⟨#[]⟩ []
def isThere (l : List V) (i : Int) : Bool := decide (1 ≤ i) && decide (i ≤ l.length)
def pGet (l : List V) (i : Int) : V × Int := if isThere l i then (l.getD (i - 1).toNat V0, 0) else (V0, 10)
/-- A list and its code. -/
def pMade (l : List V) : List V × Int := (mlist l, mcode l)
def pCut (l : List V) (i j : Int) : List V × Int := if j < i then ([], 0) else if i < 1 ∨ l.length < j then ([], 10) else pMade ((l.take j.toNat).drop (i - 1).toNat)
def pPut (l : List V) (i : Int) (x : V) : List V × Int := if isThere l i then pMade (l.set (i - 1).toNat x) else ([], 10)
def pAt (l : List V) (i : Int) : Nat := (max 1 (min i (l.length + 1)) - 1).toNat
def pIns (l : List V) (x : V) (i : Int) : List V × Int := pMade (l.take (pAt l i) ++ x :: l.drop (pAt l i))
def pDel (l : List V) (i : Int) : List V × Int := if isThere l i then pMade (l.take (i - 1).toNat ++ l.drop i.toNat) else ([], 10)
def pCat (l m : List V) : List V × Int := pMade (l ++ m)

def T : Nat → Prop := fun _ => True
theorem VL.t {D : Nat → Prop} {w : World} {l : List V} {v : Value} (h : VL D w l v) : VL T w l v := h.mono fun _ _ _ => trivial
theorem VL.lt {D : Nat → Prop} {w : World} {l : List V} {v : Value} (h : VL D w l v) : VL (fun k => k < w.heap.size) w l v := h.mono fun _ h _ => h
theorem VIn.t {D : Nat → Prop} {w : World} {x : V} {u : Array Value} (h : VIn D w x u) : VIn T w x u := h.mono fun _ _ _ => trivial
theorem VIn.lt {D : Nat → Prop} {w : World} {x : V} {u : Array Value} (h : VIn D w x u) : VIn (fun k => k < w.heap.size) w x u := h.mono fun _ h _ => h
theorem VL.fr {w w' : World} {l : List V} {v : Value} (h : VL T w l v) (hf : Fr (fun _ => False) w w') : VL T w' l v := h.frame hf fun _ _ => not_false
theorem VIn.fr {w w' : World} {x : V} {u : Array Value} (h : VIn T w x u) (hf : Fr (fun _ => False) w w') : VIn T w' x u := h.frame hf fun _ _ => not_false

set_option maxHeartbeats 800000 in
theorem there_any (l : List V) (v : Value) (i : Int) (w : World) (h : VL T w l v) (hl : l.length ≤ 1099511627776) : Calls Try.prog 49 #[v, .int .i64 i] w fun e w' => e = .returned (.bool (isThere l i)) ∧ w = w' := by
  obtain ⟨a, c, us, rfl, -⟩ := h
  have hI : (l.length : Int) ≤ 1099511627776 := by omega
  by_cases h1 : (1 : Int) ≤ i
  · have hb : isThere l i = decide (i ≤ l.length) := by unfold isThere; rw [decide_eq_true h1]; rfl
    have HB := hid hb
    clear hb
    go_enter Try.func49, Try.ntmps49
    go_wp2
    go_ret
    exact ⟨ret_bool HB.out.symm, rfl⟩
  · have hb : isThere l i = false := by unfold isThere; rw [decide_eq_false h1]; rfl
    have HB := hid hb
    clear hb
    go_enter Try.func49, Try.ntmps49
    go_wp2
    go_ret
    exact ⟨ret_bool HB.out.symm, rfl⟩

theorem results_ct {P : Program} {fn : Func} {p q : Tmp} {ty : TypeId} (h : fn.results = #[.cell p ty, .tmp q]) (tmps : Array Value) (w : World) (g : Nat) (t : TypeId) (cs : Array Value) (fr : Nat × Nat) (d : TypeDesc)
    (hp : tmps.getD p undef = .pointer (some ⟨g, 0, none⟩)) (hg : w.heap[g]? = some (.cells cs t fr))
    (hu : P.underlying ty = some d) (hd : (match d with | .struct _ | .array _ _ => true | _ => false) = true) (hi : (P.info? ty).map (·.size) = some cs.size) :
    (results fn tmps).run P w = .ok (.tuple #[.agg cs, tmps.getD q undef]) w := by
  have hp' : tmps[p]?.getD undef = .pointer (some ⟨g, 0, none⟩) := by simpa using hp
  simp [results, h, hp', asAddr, run_loadVar_row w g t ty cs fr d hg hu hd hi]

theorem set4 {w : World} {B : Nat} {c0 c1 c2 c3 : Value} {ty : TypeId} (hr : w.heap[B]? = some (.cells #[c0, c1, c2, c3] ty (0, 0))) (a0 a1 a2 a3 : Value) :
    ((((w.setCell ⟨B, 0, none⟩ a0).setCell ⟨B, 1, none⟩ a1).setCell ⟨B, 2, none⟩ a2).setCell ⟨B, 3, none⟩ a3).heap[B]? = some (.cells #[a0, a1, a2, a3] ty (0, 0)) ∧ Fr (fun q => q = B) w ((((w.setCell ⟨B, 0, none⟩ a0).setCell ⟨B, 1, none⟩ a1).setCell ⟨B, 2, none⟩ a2).setCell ⟨B, 3, none⟩ a3) ∧
    w.cell? ⟨B, 0, none⟩ = some c0 ∧ w.cell? ⟨B, 1, none⟩ = some c1 ∧ w.cell? ⟨B, 2, none⟩ = some c2 ∧ w.cell? ⟨B, 3, none⟩ = some c3 ∧ ∀ i, w.frozen? ⟨B, i, none⟩ = false := by
  have hR := setCell_row 3 a3 (setCell_row 2 a2 (setCell_row 1 a1 (setCell_row 0 a0 hr)))
  simp only [List.setIfInBounds_toArray, List.set_cons_zero, List.set_cons_succ] at hR
  refine ⟨hR, ((((Fr.refl (fun q => q = B) w).setCell (p := ⟨B, 0, none⟩) (.inl rfl) _).setCell (p := ⟨B, 1, none⟩) (.inl rfl) _).setCell (p := ⟨B, 2, none⟩) (.inl rfl) _).setCell (p := ⟨B, 3, none⟩) (.inl rfl) _, ?_, ?_, ?_, ?_, fun i => frozen_of_row _ _ i _ _ hr⟩
  · rw [cell_of_row _ _ 0 _ _ _ hr]; rfl
  · rw [cell_of_row _ _ 1 _ _ _ hr]; rfl
  · rw [cell_of_row _ _ 2 _ _ _ hr]; rfl
  · rw [cell_of_row _ _ 3 _ _ _ hr]; rfl
set_option maxRecDepth 100000 in
set_option maxHeartbeats 1600000 in
theorem get_any (l : List V) (v : Value) (i : Int) (w : World) (h : VL T w l v) (hl : sizeL l ≤ 1073741824) : Calls Try.prog 23 #[v, .int .i64 i] w fun e w' => ∃ u, e = .returned (.tuple #[.agg u, .int .i64 (pGet l i).2]) ∧ Fr (fun _ => False) w w' ∧ VIn T w' (pGet l i).1 u := by
  have hll := len_le_sizeL l
  have hF := (Fr.refl (fun _ => False) w).alloc (.cells #[.int .i64 0, .int .i64 0, .string ⟨#[]⟩, .slice none 0 0] 30)
  have hR := heap_alloc_new w (.cells #[.int .i64 0, .int .i64 0, .string ⟨#[]⟩, .slice none 0 0] 30)
  have HF := hid hF; have HR := hid hR
  have HT := hid (there_any l v i _ (h.fr hF) (by omega))
  obtain ⟨a, cap, us, rfl, hc, hm, hn, hb, hi⟩ := id h
  have HH := hid h; have HB := hid hb; have HI := hid hi; have HLL := hid hl
  have hlm : l.length ≤ 1073741824 := by omega
  clear hF hR h hb hi hn hl hll
  by_cases hth : isThere l i = true
  · obtain ⟨k, rfl⟩ : ∃ k : Nat, i = (k : Int) + 1 := ⟨(i - 1).toNat, by
      unfold isThere at hth
      simp at hth
      omega⟩
    have hkl : k < l.length := by
      unfold isThere at hth
      simp at hth
      omega
    obtain ⟨b, o, y, a', c', rfl, -, hy, hv, e0, e1, e2, e3⟩ := VL.elem HB.out HI.out k hkl
    replace e0 := HF.out.cell e0 not_false
    replace e1 := HF.out.cell e1 not_false
    replace e2 := HF.out.cell e2 not_false
    replace e3 := HF.out.cell e3 not_false
    have hp : pGet l ((k : Int) + 1) = (y, 0) := by
      unfold pGet
      rw [if_pos hth, show ((k : Int) + 1 - 1).toNat = k by omega, List.getD, hy]
      rfl
    have hys := sizeL_mem hy
    have hcl := vclone_any y.size y (Nat.le_refl _) (by have := HLL.out; omega) T _ _ (hv.fr HF.out)
    rw [hth] at HT
    have HP := hid hp; have HCL := hid hcl
    clear hy hv hp hys hcl hth
    go_enter Try.func23, Try.ntmps23
    go_wp2_with fail
    refine HT.out.mono ?_
    rintro e w2 ⟨rfl, rfl⟩
    go_wp2_with fail
    refine HCL.out.mono ?_
    rintro e w3 ⟨u', rfl, hf3, hv3, -⟩
    obtain ⟨v', rfl, a2, c2, us2, rfl, -⟩ := hv3.open
    obtain ⟨hR, hf5, z0, z1, z2, z3, zf⟩ := set4 (hf3.heap HR.out not_false) (.int .i64 y.k) (.int .i64 y.n) (.string y.s) (.slice a2 y.l.length c2)
    have hf4 := HF.out.trans' hf3
    have HRR := hid hR
    have HF5 := hid (hf4.trans hf5 (U := fun _ => False) (fun _ _ h => h) (fun q hq e => by omega))
    have HV5 := hid ((hv3.frame hf5 fun q hq e => by have := hq.1; have := HF.out.size; simp at this hq; omega).t)
    clear hR hf5 hf4 hf3 hv3
    go_wp2_with fail
    refine bodyPost_ret (results_ct rfl _ _ w.heap.size _ _ _ _ rfl HRR.out Try.underlying30 rfl (by kernel_rfl)) rfl ?_
    exact ⟨_, by rw [HP.out]; rfl, HF5.out, by rw [HP.out]; exact HV5.out⟩
  · have hp : pGet l i = (V0, 10) := by unfold pGet; rw [if_neg hth]
    rw [Bool.eq_false_iff.2 hth] at HT
    have HP := hid hp
    obtain ⟨hR, hf5, z0, z1, z2, z3, zf⟩ := set4 HR.out (.int .i64 0) (.int .i64 0) (.string ⟨#[]⟩) (.slice none 0 0)
    clear hp hR hf5 hth
    go_enter Try.func23, Try.ntmps23
    go_wp2_with fail
    refine HT.out.mono ?_
    rintro e w2 ⟨rfl, rfl⟩
    go_wp2_with fail
    refine bodyPost_ret (results_ct rfl _ _ w.heap.size _ _ _ _ rfl HR.out Try.underlying30 rfl (by kernel_rfl)) rfl ?_
    exact ⟨_, by rw [HP.out]; rfl, HF.out, by rw [HP.out]; exact (VL.nil T _).close 0 0 ⟨#[]⟩⟩
end Go.Proofs.Ytebanmigaikhhaa
