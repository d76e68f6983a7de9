/- Package num: rows, list, Index. -/
import Derived.Test.YtjngddmjgcecnaaNumA
import Derived.Test.YtjngddmjgcecnaaValS
import Derived.Test.YtjngddmjgcecnaaSeqNew
namespace Go.Proofs.Ytjngddmjgcecnaa
open Go.RowKit

def VS (s : ByteArray) : V := .mk 2 0 s []
theorem VS.inn (D : Nat → Prop) (w : World) (s : ByteArray) : VIn D w (VS s) #[.int .i64 2, .int .i64 0, .string s, .slice none 0 0] := (VL.nil D w).close 2 0 s
theorem V0.inn (D : Nat → Prop) (w : World) : VIn D w V0 #[.int .i64 0, .int .i64 0, .string ⟨#[]⟩, .slice none 0 0] := (VL.nil D w).close 0 0 ⟨#[]⟩
def isRows (x : V) : Bool := x.k == 2 || x.k == 4
theorem rows_any (x : V) (u : Array Value) (w : World) (h : VIn T w x u) : Calls Try.prog 36 #[.agg u] w fun e w' => e = .returned (.bool (isRows x)) ∧ Fr (fun _ => False) w w' := by
  obtain ⟨v1, rfl, a1, c1, us1, rfl, -⟩ := h.open
  have HF := hid ((Fr.refl (fun _ => False) w).alloc (.cells #[.int .i64 x.k, .int .i64 x.n, .string x.s, .slice a1 x.l.length c1] 24))
  unfold isRows
  clear h
  by_cases h2 : x.k = 2
  · have q1 : (x.k == 2) = true := by simpa using h2
    rw [q1]
    clear h2
    go_enter Try.func36, Try.ntmps36
    go_wp2
    go_ret
    exact ⟨rfl, HF.out⟩
  · have q1 : (x.k == 2) = false := by simpa using h2
    rw [q1]
    clear h2
    generalize hb : (x.k == 4) = b
    go_enter Try.func36, Try.ntmps36
    go_wp2
    go_ret
    exact ⟨rfl, HF.out⟩
def GD (D : Nat → Prop) (w : World) (x : V) (c : Int) (e : Ending) (w' : World) : Prop := ∃ u, e = .returned (.tuple #[.agg u, .int .i64 c]) ∧ Fr (fun _ => False) w w' ∧ VIn D w' x u
/-- A list and its code, as a value. -/
def pList (l : List V) (c : Int) : V × Int := if c = 0 then (.mk 4 0 ⟨#[]⟩ l, 0) else (V0, c)
theorem list_any (D : Nat → Prop) (l : List V) (v : Value) (c : Int) (w : World) (h : VL D w l v) : Calls Try.prog 37 #[v, .int .i64 c] w (GD D w (pList l c).1 (pList l c).2) := by
  obtain ⟨a1, c1, us1, rfl, -⟩ := id h
  have hF := (Fr.refl (fun _ => False) w).alloc (.cells #[.int .i64 0, .int .i64 0, .string ⟨#[]⟩, .slice none 0 0] 24)
  have hR := heap_alloc_new w (.cells #[.int .i64 0, .int .i64 0, .string ⟨#[]⟩, .slice none 0 0] 24)
  have HF0 := hid hF; have HZ0 := hid hR; have HL := hid h
  unfold GD
  clear hF hR h
  by_cases hc : c = 0
  · have hp : pList l c = (.mk 4 0 ⟨#[]⟩ l, 0) := by unfold pList; rw [if_pos hc]
    have HP := hid hp
    have q1 : (c != 0) = false := by simpa using hc
    clear hp hc
    have HF := hid ((Fr.refl (fun _ => False) w).alloc (.cells #[.int .i64 4, .int .i64 0, .string ⟨#[]⟩, .slice a1 l.length c1] 24))
    have HRR := hid (heap_alloc_new w (.cells #[.int .i64 4, .int .i64 0, .string ⟨#[]⟩, .slice a1 l.length c1] 24))
    have HV5 := hid ((HL.out.frame HF.out fun _ _ => not_false).close 4 0 ⟨#[]⟩)
    go_enter Try.func37, Try.ntmps37
    go_wp2_with fail
    refine bodyPost_ret (results_ct rfl _ _ w.heap.size _ _ _ _ rfl HRR.out Try.underlying24 rfl (by kernel_rfl)) rfl ?_
    exact ⟨_, by rw [HP.out]; rfl, HF.out, by rw [HP.out]; exact HV5.out⟩
  · have hp : pList l c = (V0, c) := by unfold pList; rw [if_neg hc]
    have HP := hid hp
    have q1 : (c != 0) = true := by simpa using hc
    clear hp hc
    go_enter Try.func37, Try.ntmps37
    go_wp2_with fail
    refine (raised_any c _).mono ?_
    rintro e w2 ⟨rfl, hf2⟩
    have HF := hid (HF0.out.trans' hf2); have HZ := hid (hf2.heap HZ0.out not_false)
    clear hf2
    obtain ⟨hR, hf5, z0, z1, z2, z3, zf⟩ := set4 HZ.out (.int .i64 0) (.int .i64 0) (.string ⟨#[]⟩) (.slice none 0 0)
    have HRR := hid hR
    have HF5 := hid (HF.out.trans hf5 (U := fun _ => False) (fun _ _ h => h) (fun q hq e => by omega))
    clear hR hf5
    go_wp2_with fail
    refine bodyPost_ret (results_ct rfl _ _ (w.heap.size) _ _ _ _ rfl HRR.out Try.underlying24 rfl (by kernel_rfl)) rfl ?_
    exact ⟨_, by rw [HP.out]; rfl, HF5.out, by rw [HP.out]; exact V0.inn _ _⟩

/-- One byte of a text. -/
def pIdx (a i : V) : V × Int := if i.k ≠ 0 ∨ isRows a = false then (V0, 1) else if a.k = 4 then pGet a.l i.n else if i.n < 1 ∨ (a.s.size : Int) < i.n then (V0, 10) else (VS (a.s.extract (i.n.toNat - 1) i.n.toNat), 0)
/-- Two boxes and an empty row. -/
theorem boxes2 (x y : V) (a1 a2 : Option Addr) (c1 c2 : Nat) (w : World) : Fr (fun _ => False) w (((w.alloc (.cells #[.int .i64 x.k, .int .i64 x.n, .string x.s, .slice a1 x.l.length c1] 24)).alloc (.cells #[.int .i64 y.k, .int .i64 y.n, .string y.s, .slice a2 y.l.length c2] 24)).alloc (.cells #[.int .i64 0, .int .i64 0, .string ⟨#[]⟩, .slice none 0 0] 24)) ∧ (((w.alloc (.cells #[.int .i64 x.k, .int .i64 x.n, .string x.s, .slice a1 x.l.length c1] 24)).alloc (.cells #[.int .i64 y.k, .int .i64 y.n, .string y.s, .slice a2 y.l.length c2] 24)).alloc (.cells #[.int .i64 0, .int .i64 0, .string ⟨#[]⟩, .slice none 0 0] 24)).heap[w.heap.size]? = some (.cells #[.int .i64 x.k, .int .i64 x.n, .string x.s, .slice a1 x.l.length c1] 24) ∧
    (((w.alloc (.cells #[.int .i64 x.k, .int .i64 x.n, .string x.s, .slice a1 x.l.length c1] 24)).alloc (.cells #[.int .i64 y.k, .int .i64 y.n, .string y.s, .slice a2 y.l.length c2] 24)).alloc (.cells #[.int .i64 0, .int .i64 0, .string ⟨#[]⟩, .slice none 0 0] 24)).heap[w.heap.size + 1]? = some (.cells #[.int .i64 y.k, .int .i64 y.n, .string y.s, .slice a2 y.l.length c2] 24) ∧ (((w.alloc (.cells #[.int .i64 x.k, .int .i64 x.n, .string x.s, .slice a1 x.l.length c1] 24)).alloc (.cells #[.int .i64 y.k, .int .i64 y.n, .string y.s, .slice a2 y.l.length c2] 24)).alloc (.cells #[.int .i64 0, .int .i64 0, .string ⟨#[]⟩, .slice none 0 0] 24)).heap[w.heap.size + 1 + 1]? = some (.cells #[.int .i64 0, .int .i64 0, .string ⟨#[]⟩, .slice none 0 0] 24) := by
  have f2 := (Fr.refl (fun _ => False) (w.alloc (.cells #[.int .i64 x.k, .int .i64 x.n, .string x.s, .slice a1 x.l.length c1] 24))).alloc (.cells #[.int .i64 y.k, .int .i64 y.n, .string y.s, .slice a2 y.l.length c2] 24)
  have f3 := (Fr.refl (fun _ => False) ((w.alloc (.cells #[.int .i64 x.k, .int .i64 x.n, .string x.s, .slice a1 x.l.length c1] 24)).alloc (.cells #[.int .i64 y.k, .int .i64 y.n, .string y.s, .slice a2 y.l.length c2] 24))).alloc (.cells #[.int .i64 0, .int .i64 0, .string ⟨#[]⟩, .slice none 0 0] 24)
  have h1 := heap_alloc_new w (.cells #[.int .i64 x.k, .int .i64 x.n, .string x.s, .slice a1 x.l.length c1] 24)
  have h2 := heap_alloc_new (w.alloc (.cells #[.int .i64 x.k, .int .i64 x.n, .string x.s, .slice a1 x.l.length c1] 24)) (.cells #[.int .i64 y.k, .int .i64 y.n, .string y.s, .slice a2 y.l.length c2] 24)
  have h3 := heap_alloc_new ((w.alloc (.cells #[.int .i64 x.k, .int .i64 x.n, .string x.s, .slice a1 x.l.length c1] 24)).alloc (.cells #[.int .i64 y.k, .int .i64 y.n, .string y.s, .slice a2 y.l.length c2] 24)) (.cells #[.int .i64 0, .int .i64 0, .string ⟨#[]⟩, .slice none 0 0] 24)
  have s1 : (w.alloc (.cells #[.int .i64 x.k, .int .i64 x.n, .string x.s, .slice a1 x.l.length c1] 24)).heap.size = w.heap.size + 1 := by simp
  have s2 : ((w.alloc (.cells #[.int .i64 x.k, .int .i64 x.n, .string x.s, .slice a1 x.l.length c1] 24)).alloc (.cells #[.int .i64 y.k, .int .i64 y.n, .string y.s, .slice a2 y.l.length c2] 24)).heap.size = w.heap.size + 1 + 1 := by simp
  rw [s1] at h2
  rw [s2] at h3
  exact ⟨(((Fr.refl _ _).alloc _).alloc _).alloc _, (f2.trans' f3).heap h1 not_false, f3.heap h2 not_false, h3⟩

set_option maxRecDepth 100000 in
set_option maxHeartbeats 3200000 in
theorem index_any (x y : V) (u u' : Array Value) (w : World) (h : VIn T w x u) (h' : VIn T w y u') (hxs : x.size ≤ 1073741824) : Calls Try.prog 20 #[.agg u, .agg u'] w (GD (fun b => w.heap.size ≤ b) w (pIdx x y).1 (pIdx x y).2) := by
  have hsz := V.size_eq x
  obtain ⟨v1, rfl, hl1⟩ := h.open
  obtain ⟨a1, c1, us1, rfl, -⟩ := id hl1
  obtain ⟨v2, rfl, a2, c2, us2, rfl, -⟩ := h'.open
  obtain ⟨hf, hb0, hb1, hz⟩ := boxes2 x y a1 a2 c1 c2 w
  have HX := hid h; have HL := hid hl1; have HXS := hid hxs
  have HF0 := hid hf; have HA0 := hid hb0; have HA1 := hid hb1; have HZ0 := hid hz
  unfold GD
  clear h h' hl1 hf hb0 hb1 hz
  by_cases hi : y.k = 0
  rotate_left
  · have HP := hid (show pIdx x y = (V0, 1) by unfold pIdx; rw [if_pos (.inl hi)])
    have q1 : (y.k != 0) = true := by simpa using hi
    clear hi
    go_enter Try.func20, Try.ntmps20
    go_wp2_with fail
    refine (raised_any 1 _).mono ?_
    rintro e w2 ⟨rfl, hf2⟩
    have HF := hid (HF0.out.trans' hf2); have HZ := hid (hf2.heap HZ0.out not_false)
    clear hf2
    obtain ⟨hR, hf5, z0, z1, z2, z3, zf⟩ := set4 HZ.out (.int .i64 0) (.int .i64 0) (.string ⟨#[]⟩) (.slice none 0 0)
    have HRR := hid hR
    have HF5 := hid (HF.out.trans hf5 (U := fun _ => False) (fun _ _ h => h) (fun q hq e => by omega))
    clear hR hf5
    go_wp2_with fail
    refine bodyPost_ret (results_ct rfl _ _ (w.heap.size + 1 + 1) _ _ _ _ rfl HRR.out Try.underlying24 rfl (by kernel_rfl)) rfl ?_
    exact ⟨_, by rw [HP.out]; rfl, HF5.out, by rw [HP.out]; exact V0.inn _ _⟩
  have q1 : (y.k != 0) = false := by simpa using hi
  have HC := hid (rows_any x _ _ (HX.out.fr HF0.out))
  by_cases hr : isRows x = false
  · have HP := hid (show pIdx x y = (V0, 1) by unfold pIdx; rw [if_pos (.inr hr)])
    rw [hr] at HC
    clear hr hi
    go_enter Try.func20, Try.ntmps20
    go_wp2_with fail
    refine HC.out.mono ?_
    rintro e w1 ⟨rfl, hf1⟩
    have HF1 := hid (HF0.out.trans' hf1); have HZ1 := hid (hf1.heap HZ0.out not_false)
    clear hf1
    go_wp2_with fail
    refine (raised_any 1 _).mono ?_
    rintro e w2 ⟨rfl, hf2⟩
    have HF := hid (HF1.out.trans' hf2); have HZ := hid (hf2.heap HZ1.out not_false)
    clear hf2
    obtain ⟨hR, hf5, z0, z1, z2, z3, zf⟩ := set4 HZ.out (.int .i64 0) (.int .i64 0) (.string ⟨#[]⟩) (.slice none 0 0)
    have HRR := hid hR
    have HF5 := hid (HF.out.trans hf5 (U := fun _ => False) (fun _ _ h => h) (fun q hq e => by omega))
    clear hR hf5
    go_wp2_with fail
    refine bodyPost_ret (results_ct rfl _ _ (w.heap.size + 1 + 1) _ _ _ _ rfl HRR.out Try.underlying24 rfl (by kernel_rfl)) rfl ?_
    exact ⟨_, by rw [HP.out]; rfl, HF5.out, by rw [HP.out]; exact V0.inn _ _⟩
  have hpi : pIdx x y = if x.k = 4 then pGet x.l y.n else if y.n < 1 ∨ (x.s.size : Int) < y.n then (V0, 10) else (VS (x.s.extract (y.n.toNat - 1) y.n.toNat), 0) := by
    unfold pIdx
    rw [if_neg (by intro e; rcases e with e | e; exact e hi; exact hr e)]
  rw [show isRows x = true by simpa using hr] at HC
  clear hi hr
  by_cases hk : x.k = 4
  · rw [if_pos hk] at hpi
    have q2 : (x.k == 4) = true := by simpa using hk
    obtain ⟨gx, gc, hg⟩ : ∃ a b, pGet x.l y.n = (a, b) := ⟨_, _, rfl⟩
    rw [hg] at hpi
    have HP := hid hpi
    have hget : ∀ w1, Fr (fun _ => False) w w1 → Calls Try.prog 39 #[.slice a1 x.l.length c1, .int .i64 y.n] w1 (fun e w' => ∃ u, e = .returned (.tuple #[.agg u, .int .i64 gc]) ∧ Fr (fun _ => False) w1 w' ∧ VIn (fun b => w1.heap.size ≤ b) w' gx u) := fun w1 hf => by
      have := get_new x.l _ y.n w1 (HL.out.fr hf) (by have := HXS.out; omega)
      rw [hg] at this
      exact this
    have HG := hid hget
    clear hk hpi hget hg
    go_enter Try.func20, Try.ntmps20
    go_wp2_with fail
    refine HC.out.mono ?_
    rintro e w1 ⟨rfl, hf1⟩
    have HF1 := hid (HF0.out.trans' hf1); have HZ1 := hid (hf1.heap HZ0.out not_false); have HB0 := hid (hf1.heap HA0.out not_false); have HB1 := hid (hf1.heap HA1.out not_false)
    clear hf1
    have aq0 : w1.cell? ⟨w.heap.size, 0, none⟩ = some (.int .i64 x.k) := by rw [cell_of_row _ _ 0 _ _ _ HB0.out]; rfl
    have aq1 : w1.cell? ⟨w.heap.size, 1, none⟩ = some (.int .i64 x.n) := by rw [cell_of_row _ _ 1 _ _ _ HB0.out]; rfl
    have aq2 : w1.cell? ⟨w.heap.size, 2, none⟩ = some (.string x.s) := by rw [cell_of_row _ _ 2 _ _ _ HB0.out]; rfl
    have aq3 : w1.cell? ⟨w.heap.size, 3, none⟩ = some (.slice a1 x.l.length c1) := by rw [cell_of_row _ _ 3 _ _ _ HB0.out]; rfl
    have bq0 : w1.cell? ⟨w.heap.size + 1, 0, none⟩ = some (.int .i64 y.k) := by rw [cell_of_row _ _ 0 _ _ _ HB1.out]; rfl
    have bq1 : w1.cell? ⟨w.heap.size + 1, 1, none⟩ = some (.int .i64 y.n) := by rw [cell_of_row _ _ 1 _ _ _ HB1.out]; rfl
    have bq2 : w1.cell? ⟨w.heap.size + 1, 2, none⟩ = some (.string y.s) := by rw [cell_of_row _ _ 2 _ _ _ HB1.out]; rfl
    have bq3 : w1.cell? ⟨w.heap.size + 1, 3, none⟩ = some (.slice a2 y.l.length c2) := by rw [cell_of_row _ _ 3 _ _ _ HB1.out]; rfl
    go_wp2_with fail
    refine (HG.out _ HF1.out).mono ?_
    rintro e w2 ⟨u2, rfl, hf2, hx2⟩
    obtain ⟨v3, rfl, a3, c3, us3, rfl, -⟩ := hx2.open
    have HF := hid (HF1.out.trans' hf2); have HZ := hid (hf2.heap HZ1.out not_false)
    have HX2 := hid hx2; have HW2 := hid (heap_lt HZ1.out)
    clear hf2 hx2
    clear aq0 aq1 aq2 aq3 bq0 bq1 bq2 bq3
    obtain ⟨hR, hf5, z0, z1, z2, z3, zf⟩ := set4 HZ.out (.int .i64 gx.k) (.int .i64 gx.n) (.string gx.s) (.slice a3 gx.l.length c3)
    have HRR := hid hR
    have HF5 := hid (HF.out.trans hf5 (U := fun _ => False) (fun _ _ h => h) (fun q hq e => by omega))
    have HV5 := hid ((HX2.out.frame hf5 fun q hq e => by have := HW2.out; omega).mono (E := fun b => w.heap.size ≤ b) fun q _ hq => Nat.le_trans HF1.out.size hq)
    clear hR hf5
    go_wp2_with fail
    refine bodyPost_ret (results_ct rfl _ _ (w.heap.size + 1 + 1) _ _ _ _ rfl HRR.out Try.underlying24 rfl (by kernel_rfl)) rfl ?_
    exact ⟨_, by rw [HP.out]; rfl, HF5.out, by rw [HP.out]; exact HV5.out⟩
  rw [if_neg hk] at hpi
  have q2 : (x.k == 4) = false := by simpa using hk
  have hss : (x.s.size : Int) ≤ 1073741824 := by omega
  by_cases hb : y.n < 1 ∨ (x.s.size : Int) < y.n
  · rw [if_pos hb] at hpi
    have HP := hid hpi
    have hb' : y.n < 1 ∨ (1 ≤ y.n ∧ (x.s.size : Int) < y.n) := by omega
    clear hpi hb hk
    go_enter Try.func20, Try.ntmps20
    go_wp2_with fail
    refine HC.out.mono ?_
    rintro e w1 ⟨rfl, hf1⟩
    have HF1 := hid (HF0.out.trans' hf1); have HZ1 := hid (hf1.heap HZ0.out not_false); have HB0 := hid (hf1.heap HA0.out not_false); have HB1 := hid (hf1.heap HA1.out not_false)
    clear hf1
    have aq0 : w1.cell? ⟨w.heap.size, 0, none⟩ = some (.int .i64 x.k) := by rw [cell_of_row _ _ 0 _ _ _ HB0.out]; rfl
    have aq1 : w1.cell? ⟨w.heap.size, 1, none⟩ = some (.int .i64 x.n) := by rw [cell_of_row _ _ 1 _ _ _ HB0.out]; rfl
    have aq2 : w1.cell? ⟨w.heap.size, 2, none⟩ = some (.string x.s) := by rw [cell_of_row _ _ 2 _ _ _ HB0.out]; rfl
    have aq3 : w1.cell? ⟨w.heap.size, 3, none⟩ = some (.slice a1 x.l.length c1) := by rw [cell_of_row _ _ 3 _ _ _ HB0.out]; rfl
    have bq0 : w1.cell? ⟨w.heap.size + 1, 0, none⟩ = some (.int .i64 y.k) := by rw [cell_of_row _ _ 0 _ _ _ HB1.out]; rfl
    have bq1 : w1.cell? ⟨w.heap.size + 1, 1, none⟩ = some (.int .i64 y.n) := by rw [cell_of_row _ _ 1 _ _ _ HB1.out]; rfl
    have bq2 : w1.cell? ⟨w.heap.size + 1, 2, none⟩ = some (.string y.s) := by rw [cell_of_row _ _ 2 _ _ _ HB1.out]; rfl
    have bq3 : w1.cell? ⟨w.heap.size + 1, 3, none⟩ = some (.slice a2 y.l.length c2) := by rw [cell_of_row _ _ 3 _ _ _ HB1.out]; rfl
    rcases hb' with hb' | ⟨hb1, hb2⟩
    all_goals
      go_wp2_with fail
      refine (raised_any 10 _).mono ?_
      rintro e w2 ⟨rfl, hf2⟩
      have HF := hid (HF1.out.trans' hf2); have HZ := hid (hf2.heap HZ1.out not_false)
      clear hf2
      clear aq0 aq1 aq2 aq3 bq0 bq1 bq2 bq3
      obtain ⟨hR, hf5, z0, z1, z2, z3, zf⟩ := set4 HZ.out (.int .i64 0) (.int .i64 0) (.string ⟨#[]⟩) (.slice none 0 0)
      have HRR := hid hR
      have HF5 := hid (HF.out.trans hf5 (U := fun _ => False) (fun _ _ h => h) (fun q hq e => by omega))
      clear hR hf5
      go_wp2_with fail
      refine bodyPost_ret (results_ct rfl _ _ (w.heap.size + 1 + 1) _ _ _ _ rfl HRR.out Try.underlying24 rfl (by kernel_rfl)) rfl ?_
      exact ⟨_, by rw [HP.out]; rfl, HF5.out, by rw [HP.out]; exact V0.inn _ _⟩
  · rw [if_neg hb] at hpi
    have HP := hid hpi
    have hb1 : ¬ y.n < 1 := by omega
    have hb2 : ¬ (x.s.size : Int) < y.n := by omega
    clear hpi hb hk
    go_enter Try.func20, Try.ntmps20
    go_wp2_with fail
    refine HC.out.mono ?_
    rintro e w1 ⟨rfl, hf1⟩
    have HF1 := hid (HF0.out.trans' hf1); have HZ1 := hid (hf1.heap HZ0.out not_false); have HB0 := hid (hf1.heap HA0.out not_false); have HB1 := hid (hf1.heap HA1.out not_false)
    clear hf1
    have aq0 : w1.cell? ⟨w.heap.size, 0, none⟩ = some (.int .i64 x.k) := by rw [cell_of_row _ _ 0 _ _ _ HB0.out]; rfl
    have aq1 : w1.cell? ⟨w.heap.size, 1, none⟩ = some (.int .i64 x.n) := by rw [cell_of_row _ _ 1 _ _ _ HB0.out]; rfl
    have aq2 : w1.cell? ⟨w.heap.size, 2, none⟩ = some (.string x.s) := by rw [cell_of_row _ _ 2 _ _ _ HB0.out]; rfl
    have aq3 : w1.cell? ⟨w.heap.size, 3, none⟩ = some (.slice a1 x.l.length c1) := by rw [cell_of_row _ _ 3 _ _ _ HB0.out]; rfl
    have bq0 : w1.cell? ⟨w.heap.size + 1, 0, none⟩ = some (.int .i64 y.k) := by rw [cell_of_row _ _ 0 _ _ _ HB1.out]; rfl
    have bq1 : w1.cell? ⟨w.heap.size + 1, 1, none⟩ = some (.int .i64 y.n) := by rw [cell_of_row _ _ 1 _ _ _ HB1.out]; rfl
    have bq2 : w1.cell? ⟨w.heap.size + 1, 2, none⟩ = some (.string y.s) := by rw [cell_of_row _ _ 2 _ _ _ HB1.out]; rfl
    have bq3 : w1.cell? ⟨w.heap.size + 1, 3, none⟩ = some (.slice a2 y.l.length c2) := by rw [cell_of_row _ _ 3 _ _ _ HB1.out]; rfl
    go_wp2_with fail
    refine (vS_any _ _).mono ?_
    rintro e w2 ⟨rfl, hf2⟩
    have HF := hid (HF1.out.trans' hf2); have HZ := hid (hf2.heap HZ1.out not_false)
    clear hf2
    clear aq0 aq1 aq2 aq3 bq0 bq1 bq2 bq3
    obtain ⟨hR, hf5, z0, z1, z2, z3, zf⟩ := set4 HZ.out (.int .i64 2) (.int .i64 0) (.string (x.s.extract (y.n.toNat - 1) y.n.toNat)) (.slice none 0 0)
    have HRR := hid hR
    have HF5 := hid (HF.out.trans hf5 (U := fun _ => False) (fun _ _ h => h) (fun q hq e => by omega))
    clear hR hf5
    go_wp2_with fail
    refine bodyPost_ret (results_ct rfl _ _ (w.heap.size + 1 + 1) _ _ _ _ rfl HRR.out Try.underlying24 rfl (by kernel_rfl)) rfl ?_
    exact ⟨_, by rw [HP.out]; rfl, HF5.out, by rw [HP.out]; exact VS.inn _ _ _⟩
end Go.Proofs.Ytjngddmjgcecnaa
