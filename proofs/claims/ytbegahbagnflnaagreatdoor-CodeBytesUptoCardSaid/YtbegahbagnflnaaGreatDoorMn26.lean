import Derived.Test.YtbegahbagnflnaaGreatDoorMn17
import Derived.Test.YtbegahbagnflnaaGreatDoorMn09
set_option linter.unusedSimpArgs false
set_option linter.unusedVariables false
set_option linter.unnecessarySimpa false
namespace Go.Proofs.YtbegahbagnflnaaGreatDoor
open Go.RowKit
theorem has_least (p : Nat → Prop) : ∀ (N m : Nat), m < N → p m → ∃ k, p k ∧ k ≤ m ∧ ∀ j, p j → k ≤ j := by
 intro N
 induction N with
 | zero => intro m h; omega
 | succ N ih =>
  intro m hm hp
  by_cases h : ∃ j, p j ∧ j < m
  ·obtain ⟨j, hj, hlt⟩ := h
   obtain ⟨k, h1, h2, h3⟩ := ih j (by omega) hj
   exact ⟨k, h1, by omega, h3⟩
  ·exact ⟨m, hp, Nat.le_refl _, fun j hj => Nat.le_of_not_lt fun hlt => h ⟨j, hj, hlt⟩⟩
open Classical in
noncomputable def leastM (p : Nat → Prop) : Nat := if h : ∃ k, p k ∧ ∀ j, p j → k ≤ j then Classical.choose h else 0
theorem leastM_spec {p : Nat → Prop} {m : Nat} (h : p m) : p (leastM p) ∧ leastM p ≤ m := by
 obtain ⟨k, h1, -, h3⟩ := has_least p (m + 1) m (by omega) h
 have hex : ∃ k, p k ∧ ∀ j, p j → k ≤ j := ⟨k, h1, h3⟩
 unfold leastM
 rw [dif_pos hex]
 have := Classical.choose_spec hex
 exact ⟨this.1, this.2 m h⟩
def CK.mu (c : CK) : Nat := unk c.ks + c.td.length
def CkSt (w0 : World) (LB TB n : Nat) (T : Nat → Int × Int) (wr : World) (c : CK) : Prop := CkAt w0.heap.size (fun _ => False) wr LB TB n T c ∧ c.Ok n ∧ Fr (fun _ => False) w0 wr
noncomputable def ckMu (w0 : World) (LB TB n : Nat) (T : Nat → Int × Int) (wr : World) : Nat := leastM fun m => ∃ c, CkSt w0 LB TB n T wr c ∧ c.mu = m
theorem ckMu_le {w0 wr : World} {LB TB n : Nat} {T : Nat → Int × Int} {c : CK} (h : CkSt w0 LB TB n T wr c) : ckMu w0 LB TB n T wr ≤ c.mu := (leastM_spec (p := fun m => ∃ c, CkSt w0 LB TB n T wr c ∧ c.mu = m) ⟨c, h, rfl⟩).2
theorem ckMu_has {w0 wr : World} {LB TB n : Nat} {T : Nat → Int × Int} (h : ∃ c, CkSt w0 LB TB n T wr c) : ∃ c, CkSt w0 LB TB n T wr c ∧ c.mu = ckMu w0 LB TB n T wr := by
 obtain ⟨c, h⟩ := h
 exact (leastM_spec (p := fun m => ∃ c, CkSt w0 LB TB n T wr c ∧ c.mu = m) ⟨c, h, rfl⟩).1
theorem plV_made (T : Nat → Int × Int) (n : Nat) : (madeCells (.agg #[.bool false, .int .i64 0, .int .i64 0] : Value).cells (n * 3)).toList = plV T 0 (List.replicate n false) := by
 refine List.ext_getElem? fun i => ?_
 have hz : (.agg #[.bool false, .int .i64 0, .int .i64 0] : Value).cells = #[.bool false, .int .i64 0, .int .i64 0] := by kernel_rfl
 rw [hz]
 by_cases hi : i < n * 3
 ·have hk : i / 3 < n := by omega
  obtain ⟨p0, p1, p2⟩ := plV_at T (List.replicate n false) 0 (i / 3) false (by rw [List.getElem?_replicate, if_pos hk])
  have hl : (madeCells #[Value.bool false, .int .i64 0, .int .i64 0] (n * 3)).toList[i]? = some (#[Value.bool false, .int .i64 0, .int .i64 0][i % 3]!) := by
   simp [madeCells, hi]
  rw [hl]
  have : i % 3 = 0 ∨ i % 3 = 1 ∨ i % 3 = 2 := by omega
  rcases this with h | h | h
  ·rw [show i / 3 * 3 = i by omega] at p0
   rw [p0, h]; rfl
  ·rw [show i / 3 * 3 + 1 = i by omega] at p1
   rw [p1, h]; rfl
  ·rw [show i / 3 * 3 + 2 = i by omega] at p2
   rw [p2, h]; rfl
 ·rw [List.getElem?_eq_none (by simp [madeCells]; omega), List.getElem?_eq_none (by rw [plV_len, List.length_replicate]; omega)]
theorem plV_set0 {T : Nat → Int × Int} (hT : T 0 = (0, 0)) : ∀ n, 0 < n → (plV T 0 (List.replicate n false)).set 0 (.bool true) = plV T 0 ((List.replicate n false).set 0 true)
 | 0, h => by omega
 | n + 1, _ => by simp [List.replicate_succ, plV, hT]
theorem ck_ok0 {n : Nat} (hn : 0 < n) : (⟨(List.replicate n false).set 0 true, [0]⟩ : CK).Ok n := by
 obtain ⟨m, rfl⟩ : ∃ m, n = m + 1 := ⟨n - 1, by omega⟩
 refine ⟨by simp, fun t ht => ?_, ?_⟩
 ·rw [List.mem_singleton.1 ht]; rfl
 ·simp only [List.replicate_succ, List.set_cons_zero, unk, unk_rep, List.length_singleton]
  simp
theorem ck_begin (T : Nat → Int × Int) {w W : World} {n : Nat} (hf : Fr (fun k => some k = none) w W) (ho : W.ownsRow w.heap.size 111 3 (.slice (some ⟨w.heap.size, 0, none⟩) n n) n (madeCells (.agg #[.bool false, .int .i64 0, .int .i64 0] : Value).cells (n * 3)).toList) (hn : 0 < n) (hT : T 0 = (0, 0)) :
  let w1 := ((W.alloc (.cells #[.slice (some ⟨w.heap.size, 0, none⟩) n n] 109)).alloc (.cells #[.int .i64 0] 3)).alloc (.cells #[.slice (some ⟨W.heap.size + 1, 0, none⟩) 1 1] 64)
  Fr (fun _ => False) w w1 ∧ w.heap.size ≤ W.heap.size ∧ W.heap.size + 2 < w1.heap.size ∧ w1.cell? ⟨W.heap.size, 0, none⟩ = some (.slice (some ⟨w.heap.size, 0, none⟩) n n) ∧ w1.cell? ⟨w.heap.size, 0, none⟩ = some (.bool false) ∧ w1.frozen? ⟨w.heap.size, 0, none⟩ = false ∧
   CkAt w.heap.size (fun _ => False) (w1.setCell ⟨w.heap.size, 0, none⟩ (.bool true)) W.heap.size (W.heap.size + 1 + 1) n T ⟨(List.replicate n false).set 0 true, [0]⟩ := by
 intro w1
 have hfW : Fr (fun _ => False) w W := hf.mono fun _ _ h => by cases h
 have hs := hfW.size
 have hF : Fr (fun _ => False) W w1 := (((Fr.refl _ _).alloc _).alloc _).alloc _
 have hLB : w1.heap[W.heap.size]? = some (.cells #[.slice (some ⟨w.heap.size, 0, none⟩) n n] 109 (0, 0)) :=
  (((Fr.refl (fun _ => False) _).alloc _).alloc _).heap (heap_alloc_new W _) not_false
 have hI : w1.heap[W.heap.size + 1]? = some (.cells #[.int .i64 0] 3 (0, 0)) := ((Fr.refl (fun _ => False) _).alloc _).heap (heap_new2 W _ _) not_false
 have hTB : w1.heap[W.heap.size + 2]? = some (.cells #[.slice (some ⟨W.heap.size + 1, 0, none⟩) 1 1] 64 (0, 0)) := by
  have h := heap_new2 (W.alloc (.cells #[.slice (some ⟨w.heap.size, 0, none⟩) n n] 109)) (.cells #[.int .i64 0] 3) (.cells #[.slice (some ⟨W.heap.size + 1, 0, none⟩) 1 1] 64)
  have e : (W.alloc (.cells #[.slice (some ⟨w.heap.size, 0, none⟩) n n] 109)).heap.size = W.heap.size + 1 := by simp
  rw [e] at h
  exact h
 rw [plV_made T n] at ho
 have ho1 := hF.own ho fun _ _ => id
 have hlt := own_size ho w.heap.size rfl
 obtain ⟨-, hfz, hcl, -⟩ := mcellsS ho1
 have hset := msetS ho1 0 (.bool true) (by omega)
 rw [plV_set0 hT n hn] at hset
 have hS : Fr (fun k => k = w.heap.size) w1 (w1.setCell ⟨w.heap.size, 0, none⟩ (.bool true)) := Fr.setCell (S := fun k => k = w.heap.size) (Fr.refl _ _) (p := ⟨w.heap.size, 0, none⟩) (.inl rfl) _
 refine ⟨hfW.trans' hF, hs, heap_lt hTB, ?_, ?_, hfz 0, _, _, hS.heap hLB (by omega), hset, hS.heap hTB (by omega), ?_, fun k h => h.elim⟩
 ·rw [cell_of_row _ _ _ _ _ _ hLB]; rfl
 ·rw [hcl 0 (by omega)]
  obtain ⟨m, rfl⟩ : ∃ m, n = m + 1 := ⟨n - 1, by omega⟩
  rfl
 ·refine ⟨rfl, .inr ⟨W.heap.size + 1, 1, #[.int .i64 0], rfl, by omega, hS.heap hI (by omega), Nat.le_refl _, by decide, rfl, rfl⟩⟩
theorem CodeAt.ins {base nb : Nat} {w : World} {C : Nat} {sv : Value} {L : List J} (h : CodeAt base w C sv L nb) (hL : L.length ≤ 1099511627776) {k : Nat} {j : J} (hj : L[k]? = some j) : InAt w C k j.op j.a j.b j.s := by
 obtain ⟨lv, nv, bv, xs, zs, hc, ho1, hins, ho2, ho3⟩ := h
 have hk := (List.getElem?_eq_some_iff.1 hj).1
 obtain ⟨g, cap, rfl⟩ := own_some ho1 (by omega)
 obtain ⟨-, -, hcl, -⟩ := mcellsS ho1
 obtain ⟨a0, a1, a2, a3, a4⟩ := hins k j hj
 obtain ⟨u4, b4, d4⟩ := a4 4 (by omega) (by omega)
 obtain ⟨u5, b5, d5⟩ := a4 5 (by omega) (by omega)
 obtain ⟨u6, b6, d6⟩ := a4 6 (by omega) (by omega)
 obtain ⟨u7, b7, d7⟩ := a4 7 (by omega) (by omega)
 refine ⟨nv, bv, sv, 0, (0, 0), g, L.length, cap, u4, u5, u6, u7, ?_, hk, hL, ?_, ?_, ?_, ?_, ?_, ?_, ?_, ?_, d4, d5, d6, d7⟩
 ·rw [cell_of_row _ _ _ _ _ _ hc]; rfl
 all_goals (rw [hcl _ (by omega)]; assumption)
theorem ite_pr {α : Type} {p : α → Prop} {c : Prop} [Decidable c] {a b : α} (ha : c → p a) (hb : ¬ c → p b) : p (if c then a else b) := by
 split
 ·exact ha ‹_›
 ·exact hb ‹_›
theorem okJ.bounds {nb n k : Nat} {j : J} {p : Int × Int} {T : Nat → Int × Int} (h : okJ nb (fun t r => ∃ m : Nat, t = (m : Int) ∧ m < n ∧ T m = r) k j p) (hT : ∀ i, i < n → (0 ≤ (T i).1 ∧ (T i).1 ≤ i) ∧ 0 ≤ (T i).2 ∧ (T i).2 ≤ i) (hp : 0 ≤ p.1 ∧ p.1 ≤ n) :
  (-(n : Int) - 3 ≤ ndT j.op j.a (decide (j.s = ⟨#[]⟩)) ∧ ndT j.op j.a (decide (j.s = ⟨#[]⟩)) ≤ p.1) ∧ (0 ≤ ndG j.op ∧ ndG j.op ≤ 3) ∧ (0 ≤ ndTB j.op ∧ ndTB j.op ≤ 1 ∧ ndTB j.op ≤ p.2) ∧ (0 ≤ ndGB j.op ∧ ndGB j.op ≤ 1) ∧ (j.op = 22 → -(n : Int) - 6 ≤ j.a ∧ j.a ≤ n) := by
 obtain ⟨h1, h2, h3, h4⟩ := h
 have hG : 0 ≤ ndG j.op ∧ ndG j.op ≤ 3 := by
  unfold ndG
  repeat (first | exact ⟨by decide, by decide⟩ | refine ite_pr (p := fun x : Int => 0 ≤ x ∧ x ≤ 3) (fun _ => ⟨by decide, by decide⟩) (fun _ => ?_))
 have hB : 0 ≤ ndTB j.op ∧ ndTB j.op ≤ 1 := by
  unfold ndTB
  split <;> omega
 have hC : 0 ≤ ndGB j.op ∧ ndGB j.op ≤ 1 := by
  unfold ndGB
  split <;> omega
 have hlow : -(n : Int) - 3 ≤ ndT j.op j.a (decide (j.s = ⟨#[]⟩)) := by
  by_cases e : j.op = 22 ∨ j.op = 41
  ·rw [if_neg (by omega)] at h4
   have hg : goesJ j k = [(k : Int) + 1] := by rcases e with e | e <;> simp [goesJ, e]
   obtain ⟨m, -, hm, hr⟩ := h4 ((k : Int) + 1) (by rw [hg]; simp)
   have ht := (hT m hm).1
   have e1 : (T m).1 = p.1 - ndT j.op j.a (decide (j.s = ⟨#[]⟩)) + ndG j.op := by rw [hr]
   omega
  ·unfold ndT
   repeat (first | omega | refine ite_pr (p := fun x : Int => -(n : Int) - 3 ≤ x) (fun _ => by first | omega | (exfalso; omega)) (fun _ => ?_))
 refine ⟨⟨hlow, h1⟩, hG, ⟨hB.1, hB.2, h2⟩, hC, fun e => ?_⟩
 have : ndT j.op j.a (decide (j.s = ⟨#[]⟩)) = if decide (j.s = ⟨#[]⟩) = true then j.a + 3 else j.a + 1 := by simp [ndT, e]
 rw [this] at hlow h1
 split at hlow <;> rename_i hs
 ·rw [if_pos hs] at h1; omega
 ·rw [if_neg hs] at h1; omega
theorem CkAt.open {base LB TB n : Nat} {P : Nat → Prop} {w : World} {T : Nat → Int × Int} {c : CK} (h : CkAt base P w LB TB n T c) {t : Nat} {s b : Int} (hk : c.ks[t]? = some true) (htn : t < n) (hT : T t = (s, b)) :
  ∃ g2 cap2, w.cell? ⟨LB, 0, none⟩ = some (.slice (some ⟨g2, 0, none⟩) n cap2) ∧ w.cell? ⟨g2, t * 3, none⟩ = some (.bool true) ∧ w.cell? ⟨g2, t * 3 + 1, none⟩ = some (.int .i64 s) ∧ w.cell? ⟨g2, t * 3 + 2, none⟩ = some (.int .i64 b) := by
 obtain ⟨lv, tv, hLB, ho1, hTB, ho2, -⟩ := h
 obtain ⟨g2, cap2, rfl⟩ := own_some ho1 (by omega)
 obtain ⟨p0, p1, p2⟩ := plV_at T c.ks 0 t true hk
 rw [Nat.zero_add, hT] at p1 p2
 obtain ⟨hbg2, -, hc2, -⟩ := mcellsS ho1
 refine ⟨g2, cap2, by rw [cell_of_row _ _ _ _ _ _ hLB]; rfl, ?_, ?_, ?_⟩
 ·rw [hc2 _ (by omega)]; exact p0
 ·rw [hc2 _ (by omega)]; exact p1
 ·rw [hc2 _ (by omega)]; exact p2
theorem CkAt.pop {base LB TB n : Nat} {w : World} {T : Nat → Int × Int} {ks : List Bool} {td0 : List Nat} {t : Nat} (h : CkAt base (fun _ => False) w LB TB n T ⟨ks, td0 ++ [t]⟩) :
  ∃ gt tc, td0.length + 1 ≤ tc ∧ w.cell? ⟨TB, 0, none⟩ = some (.slice (some ⟨gt, 0, none⟩) (td0.length + 1) tc) ∧ w.frozen? ⟨TB, 0, none⟩ = false ∧ w.cell? ⟨gt, td0.length, none⟩ = some (.int .i64 (t : Int)) ∧ CkAt base (fun _ => False) (w.setCell ⟨TB, 0, none⟩ (.slice (some ⟨gt, 0, none⟩) td0.length tc)) LB TB n T ⟨ks, td0⟩ := by
 obtain ⟨lv, tv, hLB, ho1, hTB, ho2, -⟩ := h
 dsimp only at ho1 ho2
 have htl : (td0 ++ [t]).length = td0.length + 1 := by simp
 have htV : tdV (td0 ++ [t]) = tdV td0 ++ [.int .i64 (t : Int)] := by simp [tdV]
 rw [htl, htV] at ho2
 obtain ⟨gt, tc, rfl⟩ := own_some ho2 (by omega)
 obtain ⟨hbt, -, hct, hcap, -⟩ := mcellsS ho2
 have hpop := ownsRow_pop (by simp [tdV]) ho2
 have hS : Fr (fun k => k = TB) w (w.setCell ⟨TB, 0, none⟩ (.slice (some ⟨gt, 0, none⟩) td0.length tc)) := Fr.setCell (S := fun k => k = TB) (Fr.refl _ _) (p := ⟨TB, 0, none⟩) (.inl rfl) _
 have hT4 := setCell_row 0 (.slice (some ⟨gt, 0, none⟩) td0.length tc) hTB
 refine ⟨gt, tc, hcap, by rw [cell_of_row _ _ _ _ _ _ hTB]; rfl, frozen_of_row _ _ _ _ _ hTB, ?_, lv, _, hS.heap hLB (fun e => ?_), hS.own ho1 (own_ne_cells ho1 hTB (by decide)), by simpa using hT4, hS.own hpop (own_ne_cells hpop hTB (by decide)), fun k h => h.elim⟩
 ·rw [hct _ (by omega), List.getElem?_append_right (by simp [tdV])]
  simp [tdV]
 ·rw [e, hTB] at hLB
  simp only [Option.some.injEq, Obj.cells.injEq] at hLB
  exact absurd hLB.2.1 (by decide)
theorem CkAt.prot {base LB TB n : Nat} {P P' : Nat → Prop} {w w' : World} {T : Nat → Int × Int} {c : CK} (h : CkAt base P w LB TB n T c) (hf : Fr (fun _ => False) w w') (hP : ∀ k, P' k → P k ∨ (w.heap.size ≤ k ∧ k < w'.heap.size)) : CkAt base P' w' LB TB n T c := by
 obtain ⟨lv, tv, hLB, ho1, hTB, ho2, hp⟩ := h
 refine ⟨lv, tv, hf.heap hLB not_false, hf.own ho1 fun _ _ => id, hf.heap hTB not_false, hf.own ho2 fun _ _ => id, fun k hk => ?_⟩
 rcases hP k hk with h1 | ⟨h1, h2⟩
 ·exact ⟨Nat.lt_of_lt_of_le (hp k h1).1 hf.size, (hp k h1).2⟩
 ·have t1 := heap_lt hTB
  exact ⟨h2, by omega, fun e => by have := own_size ho1 k e; omega, fun e => by have := own_size ho2 k e; omega⟩
theorem CkAt.weak {base LB TB n : Nat} {P : Nat → Prop} {w : World} {T : Nat → Int × Int} {c : CK} (h : CkAt base P w LB TB n T c) : CkAt base (fun _ => False) w LB TB n T c := by
 obtain ⟨lv, tv, hLB, ho1, hTB, ho2, hp⟩ := h
 exact ⟨lv, tv, hLB, ho1, hTB, ho2, fun k hk => hk.elim⟩
theorem InAt.fr {w w' : World} {C k : Nat} {op a b : Int} {s : ByteArray} (h : InAt w C k op a b s) (hf : Fr (fun _ => False) w w') : InAt w' C k op a b s := by
 obtain ⟨⟨nv, bv, sv, ct, fz, g, n, cap, u4, u5, u6, u7, hc, hk, hn, h0, h1, h2, h3, h4, h5, h6, h7, ho⟩⟩ := h
 exact ⟨⟨nv, bv, sv, ct, fz, g, n, cap, u4, u5, u6, u7, hf.cell hc not_false, hk, hn, hf.cell h0 not_false, hf.cell h1 not_false, hf.cell h2 not_false, hf.cell h3 not_false, hf.cell h4 not_false, hf.cell h5 not_false, hf.cell h6 not_false, hf.cell h7 not_false, ho⟩⟩
theorem goesJ_len (j : J) (k : Int) : (goesJ j k).length ≤ 3 := by
 unfold goesJ
 repeat (first | exact (by decide : _) | refine ite_pr (p := fun l : List Int => l.length ≤ 3) (fun _ => by simp) (fun _ => ?_))
 simp
theorem visit_at {base LB TB n : Nat} {P : Nat → Prop} {T : Nat → Int × Int} {c : CK} (w : World) (hck : CkAt base P w LB TB n T c) (hok : c.Ok n) (hbw : base ≤ w.heap.size) (hbl : base ≤ LB ∧ base ≤ TB) (hn : n ≤ 1099511627776) (mi : Int) (m : Nat) (hmi : mi = m) (hm : m < n) {s b : Int} (hT : T m = (s, b)) :
  Calls Tryz.prog 65 #[.int .i64 mi, .int .i64 s, .int .i64 b, .pointer (some ⟨LB, 0, none⟩), .pointer (some ⟨TB, 0, none⟩)] w fun e w' => e = .returned (.bool true) ∧ CkAt base P w' LB TB n T (c.visit m) ∧ Fr (fun k => base ≤ k ∧ ¬ P k) w w' := by
 subst hmi
 exact visit_any w hck hok hbw hbl hn m hm hT
def BoxAt (wa w : World) (b7 b8 : Nat) (us : Array Value) (s b : Int) : Prop := Fr (fun _ => False) wa w ∧ w.heap[b7]? = some (.cells us 93 (0, 0)) ∧ w.heap[b8]? = some (.cells #[.bool true, .int .i64 s, .int .i64 b] 111 (0, 0)) ∧ wa.heap.size ≤ b7 ∧ wa.heap.size ≤ b8
theorem BoxAt.ab {wa wd : World} {us : Array Value} {s b : Int} (h : Fr (fun _ => False) wa wd) (hz : wd.heap.size = wa.heap.size) : BoxAt wa ((wd.alloc (.cells us 93)).alloc (.cells #[.bool true, .int .i64 s, .int .i64 b] 111)) wa.heap.size (wa.heap.size + 1) us s b :=
 ⟨(h.alloc _).alloc _, by rw [← hz]; exact ((Fr.refl (fun _ => False) _).alloc _).heap (heap_alloc_new wd _) not_false, by rw [← hz]; exact heap_new2 wd _ _, Nat.le_refl _, Nat.le_succ _⟩
theorem BoxAt.ba {wa wd : World} {us : Array Value} {s b : Int} (h : Fr (fun _ => False) wa wd) (hz : wd.heap.size = wa.heap.size) : BoxAt wa ((wd.alloc (.cells #[.bool true, .int .i64 s, .int .i64 b] 111)).alloc (.cells us 93)) (wa.heap.size + 1) wa.heap.size us s b :=
 ⟨(h.alloc _).alloc _, by rw [← hz]; exact heap_new2 wd _ _, by rw [← hz]; exact ((Fr.refl (fun _ => False) _).alloc _).heap (heap_alloc_new wd _) not_false, Nat.le_succ _, Nat.le_refl _⟩
set_option maxRecDepth 100000 in
set_option maxHeartbeats 3200000 in
theorem mcheck_any {base nb : Nat} {C : Nat} {sv : Value} {L : List J} {T : Nat → Int × Int} (w : World) (hc : CodeAt base w C sv L nb) (ht : Typed nb L T) (hL : L.length ≤ 1073741900) (hnb : nb ≤ 1099511627776) :
  Calls Tryz.prog 37 #[.pointer (some ⟨C, 0, none⟩)] w fun e w' => e = .returned .nilIface ∧ Fr (fun _ => False) w w' := by
 have HC := hid hc
 obtain ⟨lv, nv, bv, xs, zs, hcc, ho1, hins, ho2, ho3⟩ := id hc
 obtain ⟨hn0, hT0, hTb, hok⟩ := ht
 obtain ⟨g, cap, rfl⟩ := own_some ho1 hn0
 obtain ⟨ba, bc, rfl, -⟩ := own_len ho3
 have c0 : w.cell? ⟨C, 0, none⟩ = some (.slice (some ⟨g, 0, none⟩) L.length cap) := by rw [cell_of_row _ _ _ _ _ _ hcc]; rfl
 have hnI : 0 < (L.length : Int) := by omega
 have hnM : (L.length : Int) ≤ 1073741900 := by omega
 obtain ⟨ii, i1, i2, i3, i4⟩ := info_parts Tryz.info_pl
 have HN := hid (And.intro hn0 hL); have HT := hid (And.intro hT0 (And.intro hTb hok)); have HNB := hid hnb; have H4 := hid i4
 clear hc hcc ho1 hins ho2 ho3 hn0 hT0 hTb hok hL hnb i4
 generalize hn : L.length = n at *
 have HLN := hid hn
 clear hn
 go_enter Tryz.func37, Tryz.ntmps37
 go_upto_region 3 with (at_make; refine wpList_make_full _ rfl _ _ 109 rfl w.heap.size 111 ii (.agg #[.bool false, .int .i64 0, .int .i64 0]) 3 Tryz.underlying109 i1 i2 i3 .i64 .i64 _ _ n rfl rfl rfl rfl (by rw [H4.out]; have := HN.out; omega) (by have := HN.out; unfold maxLen; omega) (Nat.le_refl _) ?_; intro W hown0 hgrow0)
 have HCK := hid (ck_begin T (Fr.of_grownBy hgrow0) hown0)
 clear hown0 hgrow0
 generalize ((W.alloc (.cells #[.slice (some ⟨w.heap.size, 0, none⟩) n n] 109)).alloc (.cells #[.int .i64 0] 3)).alloc (.cells #[.slice (some ⟨W.heap.size + 1, 0, none⟩) 1 1] 64) = w1 at *
 obtain ⟨hf1, hlb, htb, c1, hl1, hfz1, hset⟩ := HCK.out (by have := HN.out; omega) HT.out.1
 clear HCK
 generalize W.heap.size = LB at *
 have HF1 := hid hf1; have HLB := hid (And.intro hlb htb); have HSET := hid hset
 clear hf1 hlb htb hset
 go_upto_region 5 with fail
 have HST := hid (show CkSt w LB (LB + 1 + 1) n T (w1.setCell ⟨w.heap.size, 0, none⟩ (.bool true)) ⟨(List.replicate n false).set 0 true, [0]⟩ from
  ⟨HSET.out, ck_ok0 HN.out.1, HF1.out.setCell (.inr (Nat.le_refl _)) _⟩)
 clear HSET HF1
 generalize w1.setCell ⟨w.heap.size, 0, none⟩ (.bool true) = w2 at *
 clear c1 hl1 hfz1 c0
 rename 0 < n => h9
 rw [show decide (0 < n) = true from decide_eq_true h9]
 clear h9
 go_wp2_with fail
 go_loopw [6] (fun _ wr => ∃ c, CkSt w LB (LB + 1 + 1) n T wr c) (fun _ wr => ckMu w LB (LB + 1 + 1) n T wr)
 case atStart => exact ⟨_, HST.out⟩
 case round =>
  obtain ⟨c, hst, hmu⟩ := ckMu_has hrel
  have HMU := hid hmu
  clear hmu hrel
  obtain ⟨hck, hok, hfr⟩ := id hst
  obtain ⟨lv, tv, hLB, ho1, hTB, ho2, -⟩ := id hck
  obtain ⟨g2, cap2, rfl⟩ := own_some ho1 HN.out.1
  have l0 : wr.cell? ⟨LB, 0, none⟩ = some (.slice (some ⟨g2, 0, none⟩) n cap2) := by rw [cell_of_row _ _ _ _ _ _ hLB]; rfl
  rcases List.eq_nil_or_concat c.td with htd | ⟨td0, t, htd⟩
  ·obtain ⟨ta, tc, rfl, -⟩ := own_len ho2
   have t0 : wr.cell? ⟨LB + 1 + 1, 0, none⟩ = some (.slice ta 0 tc) := by rw [cell_of_row _ _ _ _ _ _ hTB, htd]; rfl
   have HF := hid hfr
   clear hck hok hfr hst hLB ho1 hTB ho2 htd
   go_wp2_with fail
   go_ret
   exact ⟨rfl, HF.out⟩
  ·rw [List.concat_eq_append] at htd
   obtain ⟨ks, td⟩ := c
   dsimp only at htd
   subst htd
   have hkt : ks[t]? = some true := hok.2.1 t (by dsimp only; simp)
   have htn : t < n := by have := (List.getElem?_eq_some_iff.1 hkt).1; have := hok.1; dsimp only at this; omega
   obtain ⟨gt, tc, hcap, t0, tf, tl, hck1⟩ := hck.pop
   have hcap' : td0.length ≤ tc := by omega
   have hfr1 : Fr (fun _ => False) w (wr.setCell ⟨LB + 1 + 1, 0, none⟩ (.slice (some ⟨gt, 0, none⟩) td0.length tc)) := hfr.setCell (.inr (by show _ ≤ LB + 1 + 1; have := HLB.out; omega)) _
   have hok1 : (⟨ks, td0⟩ : CK).Ok n := ⟨hok.1, fun x hx => hok.2.1 x (by dsimp only at hx ⊢; simp [hx]), by have := hok.2.2; simp at this ⊢; omega⟩
   have hmu1 : (⟨ks, td0⟩ : CK).mu + 1 = (⟨ks, td0 ++ [t]⟩ : CK).mu := by simp [CK.mu]; omega
   obtain ⟨j, hj⟩ : ∃ j, L[t]? = some j := ⟨_, List.getElem?_eq_getElem (by rw [HLN.out]; exact htn)⟩
   have hoj := HT.out.2.2 t j hj
   have hTt := HT.out.2.1 t htn
   obtain ⟨s, b, hsb⟩ : ∃ s b, T t = (s, b) := ⟨_, _, rfl⟩
   rw [hsb] at hoj hTt
   dsimp only at hTt
   have hbd := okJ.bounds hoj HT.out.2.1 (by dsimp only; omega)
   have hC := HC.out.fr hfr1
   have HIA := hid (hC.ins (by rw [HLN.out]; have := HN.out; omega) hj)
   have HBO := hid (show ∃ ba9 bc9, (wr.setCell ⟨LB + 1 + 1, 0, none⟩ (.slice (some ⟨gt, 0, none⟩) td0.length tc)).cell? ⟨C, 2, none⟩ = some (.slice ba9 nb bc9) by
    obtain ⟨lv9, nv9, bv9, xs9, zs9, hcc9, -, -, -, ho9⟩ := id hC
    obtain ⟨ba9, bc9, rfl, -⟩ := own_len ho9
    exact ⟨ba9, bc9, by rw [cell_of_row _ _ _ _ _ _ hcc9]; rfl⟩)
   have HOP := hid (hck1.open hkt htn hsb)
   have HCK1 := hid hck1; have HFR1 := hid hfr1; have HOK1 := hid (And.intro hok1 hmu1); have HOJ := hid hoj; have HBD := hid hbd; have HTT := hid hTt
   have htdI : (td0.length : Int) ≤ 1073741900 := by have := hok1.2.2; have h9 := HN.out; (try dsimp only at this); omega
   have HTN := hid htn
   clear hck hok hfr hst hLB ho1 hTB ho2 hkt htn hck1 hfr1 hok1 hmu1 hj hoj hTt hsb hbd hC
   clear hcap
   go_upto_region 9 with fail
   rename 0 < n => h9
   rw [show decide (0 < n) = true from decide_eq_true h9]
   clear h9
   generalize wr.setCell ⟨LB + 1 + 1, 0, none⟩ (.slice (some ⟨gt, 0, none⟩) td0.length tc) = wa at *
   clear t0 tf tl hcap' l0
   obtain ⟨ga, ca, l0, q0, q1, q2⟩ := HOP.out
   obtain ⟨nv', bv', sv', ct', fz', g', n', cap', u4, u5, u6, u7, hc0, hkn, hn', k0, k1, k2, k3, k4, k5, k6, k7, o4, o5, o6, o7⟩ := HIA.out.out
   have s4 := fun (W : World) (ad : Addr) (md : Mode) => run_store Tryz.prog W ad u4 md o4
   have s5 := fun (W : World) (ad : Addr) (md : Mode) => run_store Tryz.prog W ad u5 md o5
   have s6 := fun (W : World) (ad : Addr) (md : Mode) => run_store Tryz.prog W ad u6 md o6
   have s7 := fun (W : World) (ad : Addr) (md : Mode) => run_store Tryz.prog W ad u7 md o7
   have htn' : (t : Int) < n := by have := HTN.out; omega
   have hkn' : (t : Int) < n' := by omega
   have hnn' : (n' : Int) ≤ 1099511627776 := by omega
   clear o4 o5 o6 o7 hkn hn'
   go_cut [7, 8] from 50 to 60 (fun p q wx => ∃ b7 b8 : Nat, p = .pointer (some ⟨b7, 0, none⟩) ∧ q = .pointer (some ⟨b8, 0, none⟩) ∧ Hid (BoxAt wa wx b7 b8 #[.int .i64 j.op, .int .i64 j.a, .int .i64 j.b, .string j.s, u4, u5, u6, u7] s b))
   case first =>
    rename_i J1 K1 hJ1 hK1
    have hdrew := (Fr.refl (fun _ => False) wa).drew
    refine wpF_begin [0, 1, 2, 3, 4, 5, 6, 7, 8, 9, 10] (fun w' => Fr (fun _ => False) wa w') (by kernel_rfl) ?_
    (refine wpF_take (i := 0) ?_ (by kernel_rfl) (fun _ _ d _ _ h => by cases d <;> exact h) (by kernel_rfl) rfl (by kernel_rfl) (hdrew) ?_ ?_; rotate_left; (· intro w' hS; go_simp; try with_reducible rfl); (try simp only [Act.put, List.setIfInBounds_toArray, List.set_cons_zero, List.set_cons_succ]))
    (refine wpF_take (i := 1) ?_ (by kernel_rfl) (fun _ _ d _ _ h => by cases d <;> exact h) (by kernel_rfl) rfl (by kernel_rfl) (hdrew) ?_ ?_; rotate_left; (· intro w' hS; go_simp; try with_reducible rfl); (try simp only [Act.put, List.setIfInBounds_toArray, List.set_cons_zero, List.set_cons_succ]))
    (refine wpF_take (i := 2) ?_ (by kernel_rfl) (fun _ _ d _ _ h => by cases d <;> exact h) (by kernel_rfl) rfl (by kernel_rfl) (hdrew) ?_ ?_; rotate_left; (· intro w' hS; go_simp; try with_reducible rfl); (try simp only [Act.put, List.setIfInBounds_toArray, List.set_cons_zero, List.set_cons_succ]))
    (refine wpF_take (i := 3) ?_ (by kernel_rfl) (fun _ _ d _ _ h => by cases d <;> exact h) (by kernel_rfl) rfl (by kernel_rfl) (hdrew) ?_ ?_; rotate_left; (· intro w' hS; have z0 := Fr.cell hS hc0 not_false; go_simp; try with_reducible rfl); (try simp only [Act.put, List.setIfInBounds_toArray, List.set_cons_zero, List.set_cons_succ]))
    (refine wpF_take (i := 4) ?_ (by kernel_rfl) (fun _ _ d _ _ h => by cases d <;> exact h) (by kernel_rfl) rfl (by kernel_rfl) (hdrew) ?_ ?_; rotate_left; (· intro w' hS; go_simp; try with_reducible rfl); (try simp only [Act.put, List.setIfInBounds_toArray, List.set_cons_zero, List.set_cons_succ]))
    (refine wpF_take (i := 5) ?_ (by kernel_rfl) (fun _ _ d _ _ h => by cases d <;> exact h) (by kernel_rfl) rfl (by kernel_rfl) (hdrew) ?_ ?_; rotate_left; (· intro w' hS; go_simp; try with_reducible rfl); (try simp only [Act.put, List.setIfInBounds_toArray, List.set_cons_zero, List.set_cons_succ]))
    (refine wpF_take (i := 6) ?_ (by kernel_rfl) (fun _ _ d _ _ h => by cases d <;> exact h) (by kernel_rfl) rfl (by kernel_rfl) (hdrew) ?_ ?_; rotate_left; (· intro w' hS; have z0 := Fr.cell hS k0 not_false; have z1 := Fr.cell hS k1 not_false; have z2 := Fr.cell hS k2 not_false; have z3 := Fr.cell hS k3 not_false; have z4 := Fr.cell hS k4 not_false; have z5 := Fr.cell hS k5 not_false; have z6 := Fr.cell hS k6 not_false; have z7 := Fr.cell hS k7 not_false; go_simp; try with_reducible rfl); (try simp only [Act.put, List.setIfInBounds_toArray, List.set_cons_zero, List.set_cons_succ]))
    (refine wpF_take (i := 7) ?_ (by kernel_rfl) (fun _ _ d _ _ h => by cases d <;> exact h) (by kernel_rfl) rfl (by kernel_rfl) (hdrew) ?_ ?_; rotate_left; (· intro w' hS; have z0 := Fr.cell hS l0 not_false; go_simp; try with_reducible rfl); (try simp only [Act.put, List.setIfInBounds_toArray, List.set_cons_zero, List.set_cons_succ]))
    (refine wpF_take (i := 8) ?_ (by kernel_rfl) (fun _ _ d _ _ h => by cases d <;> exact h) (by kernel_rfl) rfl (by kernel_rfl) (hdrew) ?_ ?_; rotate_left; (· intro w' hS; go_simp; try with_reducible rfl); (try simp only [Act.put, List.setIfInBounds_toArray, List.set_cons_zero, List.set_cons_succ]))
    (refine wpF_take (i := 9) ?_ (by kernel_rfl) (fun _ _ d _ _ h => by cases d <;> exact h) (by kernel_rfl) rfl (by kernel_rfl) (hdrew) ?_ ?_; rotate_left; (· intro w' hS; go_simp; try with_reducible rfl); (try simp only [Act.put, List.setIfInBounds_toArray, List.set_cons_zero, List.set_cons_succ]))
    (refine wpF_take (i := 10) ?_ (by kernel_rfl) (fun _ _ d _ _ h => by cases d <;> exact h) (by kernel_rfl) rfl (by kernel_rfl) (hdrew) ?_ ?_; rotate_left; (· intro w' hS; have z0 := Fr.cell hS q0 not_false; have z1 := Fr.cell hS q1 not_false; have z2 := Fr.cell hS q2 not_false; go_simp; try with_reducible rfl); (try simp only [Act.put, List.setIfInBounds_toArray, List.set_cons_zero, List.set_cons_succ]))
    clear hc0 k0 k1 k2 k3 k4 k5 k6 k7 l0 q0 q1 q2
    have hdz : wa.drew.heap.size = wa.heap.size := rfl
    generalize wa.drew = wd at *
    refine wpF_run2 (i := 11) (j := 12) (by kernel_rfl) rfl rfl (by kernel_rfl) (by kernel_rfl) (fun K hK => ?_) (fun K hK => ?_)
    ·go_simp
     refine hK _ _ (hdrew.alloc _) ?_
     clear hK K
     try simp only [Act.put, List.setIfInBounds_toArray, List.set_cons_zero, List.set_cons_succ]
     (refine wpF_run (i := 12) (by kernel_rfl) rfl (by kernel_rfl) (fun K hK => ?_); go_simp; refine hK _ _ ((hdrew.alloc _).alloc _) ?_; clear hK K; (try simp only [Act.put, List.setIfInBounds_toArray, List.set_cons_zero, List.set_cons_succ]))
     (refine wpF_run (i := 13) (by kernel_rfl) rfl (by kernel_rfl) (fun K hK => ?_); go_simp; refine hK _ _ ((hdrew.alloc _).alloc _) ?_; clear hK K; (try simp only [Act.put, List.setIfInBounds_toArray, List.set_cons_zero, List.set_cons_succ]))
     (refine wpF_run (i := 14) (by kernel_rfl) rfl (by kernel_rfl) (fun K hK => ?_); go_simp; refine hK _ _ ((hdrew.alloc _).alloc _) ?_; clear hK K; (try simp only [Act.put, List.setIfInBounds_toArray, List.set_cons_zero, List.set_cons_succ]))
     refine wpF_end (by kernel_rfl) ?_
     refine hK1 _ _ (Met.intro (hJ1 _ _ ?_))
     repeat apply Exists.intro
     refine ⟨?_, rfl⟩
     exact ⟨_, _, rfl, rfl, hid (BoxAt.ab hdrew hdz)⟩
    ·go_simp
     refine hK _ _ (hdrew.alloc _) ?_
     clear hK K
     try simp only [Act.put, List.setIfInBounds_toArray, List.set_cons_zero, List.set_cons_succ]
     (refine wpF_run (i := 11) (by kernel_rfl) rfl (by kernel_rfl) (fun K hK => ?_); go_simp; refine hK _ _ ((hdrew.alloc _).alloc _) ?_; clear hK K; (try simp only [Act.put, List.setIfInBounds_toArray, List.set_cons_zero, List.set_cons_succ]))
     (refine wpF_run (i := 13) (by kernel_rfl) rfl (by kernel_rfl) (fun K hK => ?_); go_simp; refine hK _ _ ((hdrew.alloc _).alloc _) ?_; clear hK K; (try simp only [Act.put, List.setIfInBounds_toArray, List.set_cons_zero, List.set_cons_succ]))
     (refine wpF_run (i := 14) (by kernel_rfl) rfl (by kernel_rfl) (fun K hK => ?_); go_simp; refine hK _ _ ((hdrew.alloc _).alloc _) ?_; clear hK K; (try simp only [Act.put, List.setIfInBounds_toArray, List.set_cons_zero, List.set_cons_succ]))
     refine wpF_end (by kernel_rfl) ?_
     refine hK1 _ _ (Met.intro (hJ1 _ _ ?_))
     repeat apply Exists.intro
     refine ⟨?_, rfl⟩
     exact ⟨_, _, rfl, rfl, hid (BoxAt.ba hdrew hdz)⟩
   case rest =>
    obtain ⟨b7, b8, rfl, rfl, HBX⟩ := hcut
    obtain ⟨wb, rfl⟩ : ∃ W, W = wc := ⟨wc, rfl⟩
    clear s4 s5 s6 s7 hc0 k0 k1 k2 k3 k4 k5 k6 k7 l0 q0 q1 q2 hkn' hnn'
    have HND := hid (need_any j.op j.a j.b j.s u4 u5 u6 u7 (fun e => by have := HBD.out.2.2.2.2 e; have := HN.out; omega) wb)
    obtain ⟨hfb, hb7, hb8, hge7, hge8⟩ := id HBX.out
    have e0 : wb.cell? ⟨b7, 0, none⟩ = some (.int .i64 j.op) := by rw [cell_of_row _ _ _ _ _ _ hb7]; rfl
    have e1 : wb.cell? ⟨b7, 1, none⟩ = some (.int .i64 j.a) := by rw [cell_of_row _ _ _ _ _ _ hb7]; rfl
    have e2 : wb.cell? ⟨b7, 2, none⟩ = some (.int .i64 j.b) := by rw [cell_of_row _ _ _ _ _ _ hb7]; rfl
    have e3 : wb.cell? ⟨b7, 3, none⟩ = some (.string j.s) := by rw [cell_of_row _ _ _ _ _ _ hb7]; rfl
    have e4 : wb.cell? ⟨b7, 4, none⟩ = some u4 := by rw [cell_of_row _ _ _ _ _ _ hb7]; rfl
    have e5 : wb.cell? ⟨b7, 5, none⟩ = some u5 := by rw [cell_of_row _ _ _ _ _ _ hb7]; rfl
    have e6 : wb.cell? ⟨b7, 6, none⟩ = some u6 := by rw [cell_of_row _ _ _ _ _ _ hb7]; rfl
    have e7 : wb.cell? ⟨b7, 7, none⟩ = some u7 := by rw [cell_of_row _ _ _ _ _ _ hb7]; rfl
    have p1 : wb.cell? ⟨b8, 1, none⟩ = some (.int .i64 s) := by rw [cell_of_row _ _ _ _ _ _ hb8]; rfl
    have p2 : wb.cell? ⟨b8, 2, none⟩ = some (.int .i64 b) := by rw [cell_of_row _ _ _ _ _ _ hb8]; rfl
    clear hfb hb7 hb8 hge7 hge8
    go_wp2_with fail
    refine HND.out.mono ?_
    rintro e wn ⟨rfl, hfn⟩
    replace e0 := hfn.cell e0 not_false
    replace e1 := hfn.cell e1 not_false
    replace p1 := hfn.cell p1 not_false
    replace p2 := hfn.cell p2 not_false
    have HFN := hid hfn
    have HFA := hid (HBX.out.1.trans' hfn)
    clear e2 e3 e4 e5 e6 e7 hfn HND
    generalize ht1 : ndT j.op j.a (decide (j.s = ⟨#[]⟩)) = t1 at *
    generalize hg1 : ndG j.op = g1 at *
    generalize htb : ndTB j.op = tb at *
    generalize hgb : ndGB j.op = gb at *
    have HEQ := hid (And.intro ht1 (And.intro hg1 (And.intro htb hgb)))
    clear ht1 hg1 htb hgb
    obtain ⟨ba9, bc9, cb⟩ := HBO.out
    replace cb := HFA.out.cell cb not_false
    go_upto_region 11 with fail
    obtain ⟨⟨d1, d2⟩, ⟨d3, d4⟩, ⟨d5, d6, d7⟩, ⟨d8, d9⟩, -⟩ := HBD.out
    have dn1 : ¬ s < t1 := by omega
    have dn2 : ¬ b < tb := by (try dsimp only at d7); omega
    go_cut [97] from 68 to 97 (fun v wx => v = .bool false ∧ Hid (Fr (fun _ => False) wn wx))
    case first =>
     rename_i J1 K1 hJ1 hK1
     by_cases e45 : j.op = 45
     ·have h45 := HOJ.out.2.2.1 e45
      obtain ⟨h45a, h45b⟩ := h45
      have h45c : ¬ j.a < 0 := by omega
      have h45d : ¬ (nb : Int) ≤ j.a := by omega
      have e45' : (j.op == 45) = true := by simpa using e45
      clear e45 h45a h45b d1 d2 d3 d4 d5 d6 d7 d8 d9
      go_quiet (fail)
      refine hK1 _ _ (Met.intro (hJ1 _ _ ?_))
      repeat apply Exists.intro
      refine ⟨?_, rfl⟩
      exact ⟨rfl, hid ((Fr.refl _ _).drewN _)⟩
     ·have e45' : (j.op == 45) = false := by simpa using e45
      clear e45 d1 d2 d3 d4 d5 d6 d7 d8 d9
      go_quiet (fail)
      refine hK1 _ _ (Met.intro (hJ1 _ _ ?_))
      repeat apply Exists.intro
      refine ⟨?_, rfl⟩
      exact ⟨rfl, hid ((Fr.refl _ _).drewN _)⟩
    case rest =>
     obtain ⟨rfl, HF1⟩ := hcut
     obtain ⟨w1', rfl⟩ : ∃ W, W = wc := ⟨wc, rfl⟩
     replace e0 := HF1.out.cell e0 not_false
     replace e1 := HF1.out.cell e1 not_false
     replace p1 := HF1.out.cell p1 not_false
     replace p2 := HF1.out.cell p2 not_false
     clear cb dn1 dn2
     obtain ⟨⟨m1, m2⟩, m3, m4⟩ := HTT.out
     have hnB := HN.out.2
     have htB := HTN.out
     have b1 : s ≤ 1073741900 := by omega
     have b2 : -1073741904 ≤ t1 := by omega
     have b3 : b ≤ 1073741900 := by omega
     go_upto_region 13 with fail
     go_cut [13, 14] from 99 to 110 (fun p q wx => p = .int .i64 (s - t1 + g1) ∧ q = .int .i64 (b - tb + gb) ∧ Hid (Fr (fun _ => False) w1' wx))
     case first =>
      rename_i J1 K1 hJ1 hK1
      go_quiet (fail)
      refine hK1 _ _ (Met.intro (hJ1 _ _ ?_))
      repeat apply Exists.intro
      refine ⟨?_, rfl⟩
      exact ⟨rfl, rfl, hid ((Fr.refl _ _).drewN _)⟩
     case rest =>
      obtain ⟨rfl, rfl, HF3⟩ := hcut
      obtain ⟨w2', rfl⟩ : ∃ W, W = wc := ⟨wc, rfl⟩
      replace e0 := HF3.out.cell e0 not_false
      replace e1 := HF3.out.cell e1 not_false
      replace p1 := HF3.out.cell p1 not_false
      replace p2 := HF3.out.cell p2 not_false
      have HFX := hid (((HFA.out.trans' HF1.out).trans' HF3.out))
      have HCK2 := hid (HCK1.out.prot (P' := fun k => wa.heap.size ≤ k ∧ k < w2'.heap.size) HFX.out fun k hk => .inr hk)
      have HF2 := hid (HFR1.out.trans' HFX.out)
      have hbw : w.heap.size ≤ w2'.heap.size := HF2.out.size
      have hbl : w.heap.size ≤ LB ∧ w.heap.size ≤ LB + 1 + 1 := by have := HLB.out.1; omega
      have HBL := hid (And.intro hbw hbl)
      clear hbw hbl
      go_upto_region 14 with fail
      by_cases h89 : j.op = 8 ∨ j.op = 9
      ·have h1 := HOJ.out.2.2.2
       rw [if_pos h89] at h1
       obtain ⟨hs1, ⟨ma, ea, hma, hTa⟩, ⟨mb, eb, hmb, hTb⟩⟩ := h1
       have hs1' : ¬ s < 1 := by dsimp only at hs1; omega
       dsimp only at hTa hTb
       have HV1 := hid (visit_at w2' HCK2.out HOK1.out.1 HBL.out.1 HBL.out.2 (by have := HN.out; omega) j.a ma ea hma hTa)
       have HB := hid (And.intro eb (And.intro hmb hTb))
       have HMA := hid hma
       have htI : (t : Int) + 1 ≤ 1073741900 := by omega
       clear hs1 ea hma hTa eb hmb hTb
       have HB8 := hid (show b8 < w2'.heap.size from by have := heap_lt HBX.out.2.2.1; have := HFN.out.size; have := HF1.out.size; have := HF3.out.size; omega)
       rcases h89 with e8 | e9
       ·have e8' : (j.op == 8) = true := by simpa using e8
        clear e8
        go_wp2_with fail
        refine HV1.out.mono ?_
        rintro e w3 ⟨rfl, hck3, hf3⟩
        have hz8 : ¬ (w.heap.size ≤ b8 ∧ ¬ (wa.heap.size ≤ b8 ∧ b8 < w2'.heap.size)) := fun h => h.2 ⟨HBX.out.2.2.2.2, HB8.out⟩
        replace p1 := hf3.cell p1 hz8
        replace p2 := hf3.cell p2 hz8
        have HOK3 := hid (CK.visit_ok HOK1.out.1 HMA.out)
        have HF3 := hid (HF2.out.trans (U := fun _ => False) hf3 (fun _ _ h => h) (fun k hk h => by have := h.1; omega))
        have HV2 := hid (visit_at w3 hck3 HOK3.out.1 (Nat.le_trans HBL.out.1 hf3.size) HBL.out.2 (by have := HN.out; omega) ((t : Int) + 1) mb HB.out.1 HB.out.2.1 HB.out.2.2)
        clear hz8 hck3 hf3 HV1
        go_wp2_with fail
        refine HV2.out.mono ?_
        rintro e w4 ⟨rfl, hck4, hf4⟩
        have HOK4 := hid (CK.visit_ok HOK3.out.1 HB.out.2.1)
        have HF4 := hid (HF3.out.trans (U := fun _ => False) hf4 (fun _ _ h => h) (fun k hk h => by have := h.1; omega))
        have HC4 := hid hck4.weak
        clear hck4 hf4 HV2
        go_wp2_with fail
        go_roundw
        case rel => exact ⟨_, HC4.out, HOK4.out.1, HF4.out⟩
        case measure =>
         have hst4 : CkSt w LB (LB + 1 + 1) n T w4 _ := ⟨HC4.out, HOK4.out.1, HF4.out⟩
         have h1 := ckMu_le hst4
         have h2 := HMU.out
         have h3 := HOK4.out.2
         have h4 := HOK3.out.2
         have h5 := HOK1.out.2
         simp only [CK.mu] at h1 h2 h5
         omega
       ·have e8' : (j.op == 8) = false := by simp [e9]
        have e9' : (j.op == 9) = true := by simpa using e9
        clear e9
        go_wp2_with fail
        refine HV1.out.mono ?_
        rintro e w3 ⟨rfl, hck3, hf3⟩
        have hz8 : ¬ (w.heap.size ≤ b8 ∧ ¬ (wa.heap.size ≤ b8 ∧ b8 < w2'.heap.size)) := fun h => h.2 ⟨HBX.out.2.2.2.2, HB8.out⟩
        replace p1 := hf3.cell p1 hz8
        replace p2 := hf3.cell p2 hz8
        have HOK3 := hid (CK.visit_ok HOK1.out.1 HMA.out)
        have HF3 := hid (HF2.out.trans (U := fun _ => False) hf3 (fun _ _ h => h) (fun k hk h => by have := h.1; omega))
        have HV2 := hid (visit_at w3 hck3 HOK3.out.1 (Nat.le_trans HBL.out.1 hf3.size) HBL.out.2 (by have := HN.out; omega) ((t : Int) + 1) mb HB.out.1 HB.out.2.1 HB.out.2.2)
        clear hz8 hck3 hf3 HV1
        go_wp2_with fail
        refine HV2.out.mono ?_
        rintro e w4 ⟨rfl, hck4, hf4⟩
        have HOK4 := hid (CK.visit_ok HOK3.out.1 HB.out.2.1)
        have HF4 := hid (HF3.out.trans (U := fun _ => False) hf4 (fun _ _ h => h) (fun k hk h => by have := h.1; omega))
        have HC4 := hid hck4.weak
        clear hck4 hf4 HV2
        go_wp2_with fail
        go_roundw
        case rel => exact ⟨_, HC4.out, HOK4.out.1, HF4.out⟩
        case measure =>
         have hst4 : CkSt w LB (LB + 1 + 1) n T w4 _ := ⟨HC4.out, HOK4.out.1, HF4.out⟩
         have h1 := ckMu_le hst4
         have h2 := HMU.out
         have h3 := HOK4.out.2
         have h4 := HOK3.out.2
         have h5 := HOK1.out.2
         simp only [CK.mu] at h1 h2 h5
         omega
      ·have h1 := HOJ.out.2.2.2
       rw [if_neg h89] at h1
       have e8' : (j.op == 8) = false := by simp; omega
       have e9' : (j.op == 9) = false := by simp; omega
       have HG := hid (goes_any C t j w2' (HIA.out.fr HFX.out))
       dsimp only at h1
       simp only [HEQ.out.1, HEQ.out.2.1, HEQ.out.2.2.1, HEQ.out.2.2.2] at h1
       have HGO := hid h1
       have hRl := goesJ_len j t
       clear h1 h89
       obtain ⟨R, hR⟩ : ∃ R, goesJ j t = R := ⟨_, rfl⟩
       rw [hR] at HG HGO hRl
       clear hR
       replace hRl : (R.length : Int) ≤ 3 := by omega
       obtain ⟨s9, hs9⟩ : ∃ s9, s - t1 + g1 = s9 := ⟨_, rfl⟩
       obtain ⟨b9, hb9⟩ : ∃ b9, b - tb + gb = b9 := ⟨_, rfl⟩
       rw [hs9, hb9] at HGO
       rw [hs9, hb9]
       clear hs9 hb9
       go_wp2_with fail
       refine HG.out.mono ?_
       rintro e w3 ⟨ra, rc, rfl, hr, hf3, hnew⟩
       have HR3 := hid hr; have HF3 := hid hf3; have HNW := hid hnew
       have HCK3 := hid (HCK2.out.prot (P' := fun k => wa.heap.size ≤ k ∧ k < w3.heap.size) hf3 fun k hk => by
        by_cases h : k < w2'.heap.size
        ·exact .inl ⟨hk.1, h⟩
        ·exact .inr ⟨by omega, hk.2⟩)
       have HSZ := hid (show wa.heap.size ≤ w2'.heap.size from HFX.out.size)
       clear hr hf3 hnew e0 e1 p1 p2 e8' e9' HG HCK2
       go_wp2_with fail
       go_loopw [16, 150] (fun _ i wr3 => ∃ (q : Nat) (c3 : CK), q ≤ R.length ∧ i = .int .i64 q ∧ Hid (CkAt w.heap.size (fun k => wa.heap.size ≤ k ∧ k < w3.heap.size) wr3 LB (LB + 1 + 1) n T c3) ∧ Hid (c3.Ok n ∧ c3.mu = (⟨ks, td0⟩ : CK).mu) ∧ Hid (Fr (fun k => w.heap.size ≤ k ∧ ¬ (wa.heap.size ≤ k ∧ k < w3.heap.size)) w3 wr3)) (fun _ i _ => R.length - (intOf i).toNat)
       case atStart => exact ⟨0, _, Nat.zero_le _, rfl, HCK3, hid ⟨HOK1.out.1, rfl⟩, hid (Fr.refl _ _)⟩
       case round =>
        obtain ⟨q, c3, hq, rfl, HC3, HO3, HFR3⟩ := hrel
        by_cases hlt : q < R.length
        ·have hltI : (q : Int) < R.length := by omega
         obtain ⟨z, hto⟩ : ∃ z, R[q]? = some z := ⟨_, List.getElem?_eq_getElem hlt⟩
         obtain ⟨m, em, hm, hTm⟩ := HGO.out z (List.mem_of_getElem? hto)
         obtain ⟨a9, c9, e9, hlc, hcm, hcell⟩ := HR3.out
         obtain ⟨rfl, -, rfl⟩ : ra = a9 ∧ True ∧ rc = c9 := by simp at e9; exact ⟨e9.1, trivial, e9.2⟩
         obtain ⟨rb, ro, rfl, hce⟩ := hcell q z hto
         have hrb1 := HNW.out rb ro rfl
         have hrb2 := World.block_lt_of_cell? _ _ hce
         have hce' := HFR3.out.cell hce (fun h => h.2 ⟨by have := HSZ.out; dsimp only; omega, hrb2⟩)
         have HV := hid (visit_at wr HC3.out HO3.out.1 (by have := HBL.out.1; have := HF3.out.size; have := HFR3.out.size; omega) HBL.out.2 (by have := HN.out; omega) z m em hm hTm)
         have HM := hid hm
         clear hto em hm hTm e9 hlc hcm hcell hrb1 hrb2 hce
         go_wp2_with fail
         refine HV.out.mono ?_
         rintro e w5 ⟨rfl, hck5, hf5⟩
         have HC5 := hid hck5
         have HO5 := hid (CK.visit_ok HO3.out.1 HM.out)
         have HF5 := hid (HFR3.out.trans' hf5)
         clear hck5 hf5 HV hce'
         go_wp2_with fail
         go_roundw
         case rel => exact ⟨q + 1, _, by omega, by go_num, HC5, hid ⟨HO5.out.1, by have h := HO5.out.2; have h2 := HO3.out.2; simp only [CK.mu] at h2 ⊢; omega⟩, HF5⟩
         case measure => simp [intOf]; omega
        ·have hltI : ¬ (q : Int) < R.length := by omega
         have HC4 := hid HC3.out.weak
         have HF4 := hid ((HF2.out.trans' HF3.out).trans (U := fun _ => False) HFR3.out (fun _ _ h => h) (fun k hk h => by have := h.1; omega))
         go_wp2_with fail
         go_roundw
         case rel => exact ⟨_, HC4.out, HO3.out.1, HF4.out⟩
         case measure =>
          have hst4 : CkSt w LB (LB + 1 + 1) n T wr c3 := ⟨HC4.out, HO3.out.1, HF4.out⟩
          have h1 := ckMu_le hst4
          have h2 := HMU.out
          have h4 := HO3.out.2
          have h5 := HOK1.out.2
          omega
end Go.Proofs.YtbegahbagnflnaaGreatDoor
