import Derived.Test.YtbegahbagnflnaaGreatDoorMn12
import Derived.Test.YtbegahbagnflnaaGreatDoorMn04
import Derived.Deep.CutRange
import Derived.Test.YtbegahbagnflnaaGreatDoorMn11
set_option linter.unusedSimpArgs false
set_option linter.unusedVariables false
set_option linter.unnecessarySimpa false
namespace Go.Proofs.YtbegahbagnflnaaGreatDoor
section
open Go.RowKit
theorem wp_appendNR {P : Program} {o : Oper} {a : Act} {w : World} {K : Act → World → Prop} {Q : Exit → Act → World → Prop} (s x : Operand) (t : TypeId)
  (ho : o.op = .call { callee := .builtin .append, args := #[s, x], argTypes := #[t, t] })
  (e : TypeId) (z : Value) (sz bytes : Nat) (ht : P.underlying t = some (.slice e)) (hrow : (P.info? e).map (fun i => (i.zero, i.size, i.bytes)) = some (some z, sz, bytes)) (hzs : z.cells.size = sz) (hsz0 : 0 < sz)
  (v : Value) (hs : a.eval s = v) (base n : Nat) (xs : List Value) (hown : w.ownsRow base e sz v n xs)
  (ao : Option Addr) (m c : Nat) (news : List Value) (hx : a.eval x = .slice ao m c) (hl : news.length = m * sz) (hn : ao = none → m = 0 ∧ c = 0)
  (hc : ∀ j, j < m * sz → ∃ b o, ao = some ⟨b, o, none⟩ ∧ w.cell? ⟨b, o + j, none⟩ = news[j]?) (hao : ∀ ad, ao = some ad → ∃ b o, ad = ⟨b, o, none⟩) (h1 : ∀ u ∈ news, u.oneCell' = true)
  (h63 : n + m ≤ 1099511627776) (hby : bytes ≤ 128) (hbase : base ≤ w.heap.size)
  (h : ∀ v' w', w'.ownsRow base e sz v' (n + m) (xs ++ news) → Fr (fun k => some k = v.ownBlock) w w' → K (a.put o.dst v') w') : o.wp P a w K Q := by
 obtain ⟨i, hi, hz, hsz, hbt⟩ := info_parts hrow
 have hb2 : (n + m) * bytes ≤ 140737488355328 := by
  have := Nat.mul_le_mul h63 hby
  omega
 have key : ∃ v' w', (Builtin.append_ #[t, t] o.type #[v, .slice ao m c]).run P w = .ok v' w' ∧ w'.ownsRow base e sz v' (n + m) (xs ++ news) ∧ w.grownBy w' v.ownBlock := by
  cases ao with
  | none =>
   obtain ⟨rfl, rfl⟩ := hn rfl
   have hnews : news = [] := List.eq_nil_of_length_eq_zero (by simpa using hl)
   subst hnews
   exact ⟨v, w, run_append_owned_none (P := P) w base t o.type e i sz ht hi v n xs hown, by simpa using hown, ⟨rfl, rfl, rfl, Nat.le_refl _, fun _ _ _ => rfl⟩⟩
  | some ad =>
   obtain ⟨b, oo, rfl⟩ := hao _ rfl
   have hcells : ∀ j y, news[j]? = some y → w.cell? ((⟨b, oo, none⟩ : Addr).add j) = some y := by
    intro j y hy
    have hj : j < m * sz := by rw [← hl]; exact (List.getElem?_eq_some_iff.1 hy).1
    obtain ⟨b', o', e, hcc⟩ := hc j hj
    simp only [Option.some.injEq, Addr.mk.injEq] at e
    obtain ⟨rfl, rfl, -⟩ := e
    have : (⟨b, oo, none⟩ : Addr).add j = ⟨b, oo + j, none⟩ := by unfold Addr.add; split <;> simp_all
    rw [this, hcc, hy]
   have hmx : n + m ≤ maxLen := by unfold maxLen; omega
   obtain ⟨v', w', hr, ho', hg, -⟩ := run_append_own (P := P) w base t o.type e i z sz bytes ht hi hz hsz hbt hzs hsz0 v n xs hown ⟨b, oo, none⟩ m c news hl hcells h1 hmx hb2 hbase
   exact ⟨v', w', hr, ho', hg⟩
 obtain ⟨v', w', hr, ho', hg⟩ := key
 unfold Oper.wp execOp
 simp only [ho, resolve, invoke, builtin, Sem.run_bind, Sem.run_pure, Result.andThen_ok, List.map_toArray, List.map_cons, List.map_nil, hs, hx, hr]
 exact h v' w' ho' (Fr.of_grownBy hg)
theorem wpList_appendNR {P : Program} {ops : Array Oper} {rest : List Oper} {o : Oper} {a : Act} {w : World} {Q : Exit → Act → World → Prop} (hgd : o.guard = none) (s x : Operand) (t : TypeId)
  (ho : o.op = .call { callee := .builtin .append, args := #[s, x], argTypes := #[t, t] })
  (e : TypeId) (z : Value) (sz bytes : Nat) (ht : P.underlying t = some (.slice e)) (hrow : (P.info? e).map (fun i => (i.zero, i.size, i.bytes)) = some (some z, sz, bytes)) (hzs : z.cells.size = sz) (hsz0 : 0 < sz)
  (v : Value) (hs : a.eval s = v) (base n : Nat) (xs : List Value) (hown : w.ownsRow base e sz v n xs)
  (ao : Option Addr) (m c : Nat) (news : List Value) (hx : a.eval x = .slice ao m c) (hl : news.length = m * sz) (hn : ao = none → m = 0 ∧ c = 0)
  (hc : ∀ j, j < m * sz → ∃ b o, ao = some ⟨b, o, none⟩ ∧ w.cell? ⟨b, o + j, none⟩ = news[j]?) (hao : ∀ ad, ao = some ad → ∃ b o, ad = ⟨b, o, none⟩) (h1 : ∀ u ∈ news, u.oneCell' = true)
  (h63 : n + m ≤ 1099511627776) (hby : bytes ≤ 128) (hbase : base ≤ w.heap.size)
  (h : ∀ v' w', w'.ownsRow base e sz v' (n + m) (xs ++ news) → Fr (fun k => some k = v.ownBlock) w w' → wpList P ops Q rest (a.put o.dst v') w') : wpList P ops Q (o :: rest) a w :=
 wpList_plain hgd fun _ hK => wp_appendNR s x t ho e z sz bytes ht hrow hzs hsz0 v hs base n xs hown ao m c news hx hl hn hc hao h1 h63 hby hbase fun v' w' h1 h2 => hK _ _ (h v' w' h1 h2)
mutual
def Nd.walk : Nd → List Nd
 | .mk op ln s v l => .mk op ln s v l :: walkL l
def walkL : List Nd → List Nd
 | [] => []
 | x :: r => Nd.walk x ++ walkL r
end
theorem Nd.walk_eq (x : Nd) : x.walk = x :: walkL x.l := by cases x; rw [Nd.walk]; rfl
theorem walkL_append (a b : List Nd) : walkL (a ++ b) = walkL a ++ walkL b := by
 induction a with
 | nil => simp [walkL]
 | cons x r ih => rw [List.cons_append, walkL, walkL, ih, List.append_assoc]
theorem walkL_take {l : List Nd} {k : Nat} {y : Nd} (h : l[k]? = some y) : walkL (l.take (k + 1)) = walkL (l.take k) ++ (y :: walkL y.l) := by
 rw [List.take_add_one, h, walkL_append]
 simp [walkL, Nd.walk_eq]
end
section
open Go.RowKit
variable {W V w w' : World} {X C : Nat} {sv : Value} {m : MS}
theorem Rt.target {y : Nd} (h : Rt 2 y) : (y.op = 20 ∧ ∃ b i, y.l = [b, i] ∧ Rt 2 b ∧ Rt 0 i ∧ lenR y 2 = lenR b 2 + lenR i 0) ∨ (y.op = 22 ∧ ∃ a p, y.l = [a, p] ∧ Rt 0 a ∧ Rt 0 p ∧ lenR y 2 = lenR a 0 + lenR p 0) ∨ (y.op = 2 ∧ y.l = [] ∧ y.s ≠ ⟨#[]⟩ ∧ lenR y 2 = 0) := by
 have ho := h.own
 have hk := fun i z => h.kid (i := i) (y := z)
 have hop : y.op = 2 ∨ y.op = 22 ∨ y.op = 20 := by
  have := ho.1
  simpa [pStands, or_assoc] using this
 rcases hop with hop | hop | hop
 ·refine .inr (.inr ⟨hop, ?_, ?_, ?_⟩)
  ·have h2 := ho.2
   rw [hop] at h2
   simpa [pCounts] using h2
  ·obtain ⟨lp, hw⟩ := h
   rw [pWalk_eq] at hw
   split at hw
   ·rename_i h0
    intro e
    unfold pOwn at h0
    rw [hop, e] at h0
    have hp : pName ⟨#[]⟩ = false := by decide +kernel
    rw [hp] at h0
    simp [pNamed, ownBad2] at h0
    split at h0 <;> cases h0
   ·rename_i h0
    exact absurd hw h0
  ·have h2 := ho.2
   rw [hop] at h2
   have hl : y.l = [] := by simpa [pCounts] using h2
   rw [lenR_eq, hl, lenRL_nil]
   simp [cst]
 ·refine .inr (.inl ⟨hop, ?_⟩)
  have h2 := ho.2
  rw [hop] at h2
  obtain ⟨a, b, hl⟩ := len2 (by simpa [pCounts] using h2)
  rw [hop, hl] at hk
  rw [lenR_eq, hl, hop]
  exact ⟨a, b, rfl, by simpa [pRoles, rW] using hk 0 a rfl, by simpa [pRoles, rW] using hk 1 b rfl, by simp [lenRL_cons, lenRL_nil, cst, cRole, rW, pRoles]⟩
 ·refine .inl ⟨hop, ?_⟩
  have h2 := ho.2
  rw [hop] at h2
  obtain ⟨a, b, hl⟩ := len2 (by simpa [pCounts] using h2)
  rw [hop, hl] at hk
  rw [lenR_eq, hl, hop]
  exact ⟨a, b, rfl, by simpa [pRoles, rW] using hk 0 a rfl, by simpa [pRoles, rW] using hk 1 b rfl, by simp [lenRL_cons, lenRL_nil, cst, cRole, rW, pRoles]⟩
theorem oct_snoc {xs : List Value} {U : List Oct} {n : Nat} (hl : xs.length = n * 8) (hU : U.length = n) (hx : ∀ (i : Nat) (u : Oct), U[i]? = some u → ∀ j, j < 8 → xs[i * 8 + j]? = u.1[j]?) (u : Oct) : ∀ (i : Nat) (v : Oct), (U ++ [u])[i]? = some v → ∀ j, j < 8 → (xs ++ u.1.toList)[i * 8 + j]? = v.1[j]? := by
 intro i v hi j hj
 by_cases hlt : i < U.length
 ·rw [List.getElem?_append_left hlt] at hi
  rw [List.getElem?_append_left (by omega)]
  exact hx i v hi j hj
 ·have hil := (List.getElem?_eq_some_iff.1 hi).1
  rw [List.length_append, List.length_singleton] at hil
  obtain rfl : i = U.length := by omega
  rw [List.getElem?_append_right (Nat.le_refl _), Nat.sub_self] at hi
  simp at hi
  subst hi
  rw [List.getElem?_append_right (by omega), show U.length * 8 + j - xs.length = j by omega]
  simp
theorem cntL_snoc (l : List Nd) (z : Nd) : cntL (l ++ [z]) = cntL l + z.cnt ∧ szL (l ++ [z]) = szL l + z.sz := by
 induction l with
 | nil => simp [cntL, szL]
 | cons x r ih => simp only [List.cons_append, cntL, szL]; omega
theorem sumR_rev (ρ : Int) (l : List Nd) : sumR ρ l.reverse = sumR ρ l := by
 induction l with
 | nil => rfl
 | cons x r ih => rw [List.reverse_cons, sumR_append, ih]; simp only [sumR]; omega
theorem cntL_rev (l : List Nd) : cntL l.reverse = cntL l ∧ szL l.reverse = szL l := by
 induction l with
 | nil => exact ⟨rfl, rfl⟩
 | cons x r ih => rw [List.reverse_cons, (cntL_snoc _ _).1, (cntL_snoc _ _).2]; simp only [cntL, szL]; omega
theorem rev_own {W w : World} {D : Nat → Prop} {base : Nat} {v : Value} {xs : List Value} {idx : List Nd} {U : List Oct} (ho : w.ownsRow base 75 8 v idx.length xs) (hU : U.length = idx.length)
  (hx : ∀ (i : Nat) (u : Oct), U[i]? = some u → ∀ j, j < 8 → xs[i * 8 + j]? = u.1[j]?) (hN : ∀ (i : Nat) (z : Nd), idx[i]? = some z → ∃ u : Oct, U[i]? = some u ∧ NIn D W z u.1) (hnm : idx.length ≤ 9223372036854775807) :
  Calls Tryz.prog 147 #[v] w fun e w' => e = .returned (.tuple #[]) ∧ Fr (fun k => some k = v.ownBlock) w w' ∧ NV D W w' idx.reverse v := by
 rcases ho.2 with ⟨rfl, h0⟩ | ⟨g, cap, cur, rfl, -⟩
 ·have hn : idx = [] := List.eq_nil_of_length_eq_zero h0
  subst hn
  have hc := @AnyQ.slices_Reverse_empty _ _ Tryz.reverseN none 0 w
  refine Calls.mono hc ?_
  rintro e w' ⟨rfl, rfl⟩
  exact ⟨rfl, Fr.refl _ _, none, 0, rfl, Nat.le_refl _, Nat.zero_le _, fun _ => rfl, fun i x hx => by simp at hx⟩
 ·refine (reverse_any ho rfl hU hx hN hnm).mono ?_
  rintro e w' ⟨rfl, hf, hv⟩
  exact ⟨rfl, hf.mono fun k _ hk => by rw [hk]; rfl, hv⟩
def sliceLen : Value → Nat | .slice _ n _ => n | _ => 0
def SetTo (N : Nat) : Prop := ∀ (a b : Nd), a.cnt + b.cnt < N → a.sz + b.sz ≤ 1048576 → Rt 2 a → Rt 0 b → ∀ (D : Nat → Prop) (W V w : World) (u u' : Array Value) (X C : Nat) (sv : Value) (m : MS), NIn D W a u → NIn D W b u' → MW W V w X C sv m → m.L.length + lenR a 2 + lenR b 0 + 1 ≤ 1073741824 →
 Calls Tryz.prog 137 #[.pointer (some ⟨X, 0, none⟩), .agg u, .agg u'] w (LayPost W V X C sv m (lenR a 2 + lenR b 0 + 1) 1)
theorem Tryz.info_node : (Tryz.prog.info? 75).map (fun i => (i.zero, i.size, i.bytes)) = some (some (.agg #[.int .i64 0, .int .i64 0, .string ⟨#[]⟩, .int .i64 0, .int .i64 0, .string ⟨#[]⟩, .slice none 0 0, .slice none 0 0]), 8, 112) := by kernel_rfl
set_option maxRecDepth 100000 in
set_option maxHeartbeats 12800000 in
theorem set_of (N : Nat) (ih : ExprTo N) : SetTo N := by
 intro a b hcN hsN hra hrb D W V w u u' X C sv m hva hvb hm hL
 obtain ⟨va9, v9, rfl, hvla, hnl⟩ := hva.open
 obtain ⟨av, ac, au, rfl, -⟩ := id hvla
 obtain ⟨la, lc, us, rfl, -⟩ := id hnl
 obtain ⟨vb9, vb, rfl, hvlb, hnlb⟩ := hvb.open
 obtain ⟨bv, bc, bu, rfl, -⟩ := id hvlb
 obtain ⟨lb, lbc, usb, rfl, -⟩ := id hnlb
 have hca := Nd.cnt_eq a; have hsa := Nd.sz_eq a
 clear hnl hnlb hvla hvlb
 have HVA := hid hva; have HVB := hid hvb; have HM := hid hm; have HL := hid hL; have HN := hid (And.intro hcN hsN); have HRA := hid hra; have HRB := hid hrb; have HIH := hid ih
 have HALL := hid (all_of N ih)
 clear hva hvb hm hL hcN hsN hra hrb ih hca hsa
 have hF1 := (Fr.refl (fun _ => False) w).alloc (.cells #[.int .i64 a.op, .int .i64 a.ln, .string a.s, .int .i64 a.v.k, .int .i64 a.v.n, .string a.v.s, (.slice av a.v.l.length ac), .slice la a.l.length lc] 75)
 have HG4 := hid (heap_alloc_new w (.cells #[.int .i64 a.op, .int .i64 a.ln, .string a.s, .int .i64 a.v.k, .int .i64 a.v.n, .string a.v.s, (.slice av a.v.l.length ac), .slice la a.l.length lc] 75))
 obtain ⟨w1, hw1⟩ : ∃ w1, w.alloc (.cells #[.int .i64 a.op, .int .i64 a.ln, .string a.s, .int .i64 a.v.k, .int .i64 a.v.n, .string a.v.s, (.slice av a.v.l.length ac), .slice la a.l.length lc] 75) = w1 := ⟨_, rfl⟩
 rw [hw1] at hF1 HG4
 have hF2 := (Fr.refl (fun _ => False) w1).alloc (.cells #[.int .i64 b.op, .int .i64 b.ln, .string b.s, .int .i64 b.v.k, .int .i64 b.v.n, .string b.v.s, (.slice bv b.v.l.length bc), .slice lb b.l.length lbc] 75)
 have HG5 := hid (heap_alloc_new w1 (.cells #[.int .i64 b.op, .int .i64 b.ln, .string b.s, .int .i64 b.v.k, .int .i64 b.v.n, .string b.v.s, (.slice bv b.v.l.length bc), .slice lb b.l.length lbc] 75))
 obtain ⟨w2, hw2⟩ : ∃ w2, w1.alloc (.cells #[.int .i64 b.op, .int .i64 b.ln, .string b.s, .int .i64 b.v.k, .int .i64 b.v.n, .string b.v.s, (.slice bv b.v.l.length bc), .slice lb b.l.length lbc] 75) = w2 := ⟨_, rfl⟩
 rw [hw2] at hF2 HG5
 have HG4' := hid (hF2.heap HG4.out not_false)
 obtain ⟨B4, hB4⟩ : ∃ B, w.heap.size = B := ⟨_, rfl⟩
 have hsz1 : w1.heap.size = w.heap.size + 1 := by rw [← hw1]; simp
 obtain ⟨B5, hB5⟩ : ∃ B, w.heap.size + 1 = B := ⟨_, rfl⟩
 rw [hsz1, hB5] at HG5
 rw [hB4] at HG4' HG4
 have HE := hid (And.intro hB4 hB5); have HF2 := hid (hF1.trans' hF2)
 have HW12 := hid (And.intro hw1 hw2)
 clear hw1 hw2 hF1 hF2 hB4 hB5 hsz1
 go_enter Tryz.func137, Tryz.ntmps137
 go_upto_region 1 with fail
 rw [HW12.out.1, HW12.out.2, HE.out.2, HE.out.1]
 clear HW12 HG4
 obtain ⟨q0, q1, q2, q3, q4, q5, q6, q7⟩ := node_cells HG4'.out
 have hF3 := (Fr.refl (fun _ => False) w2).alloc (.cells #[.int .i64 a.op, .int .i64 a.ln, .string a.s, .int .i64 a.v.k, .int .i64 a.v.n, .string a.v.s, (.slice av a.v.l.length ac), .slice la a.l.length lc] 75)
 have HG7 := hid (heap_alloc_new w2 (.cells #[.int .i64 a.op, .int .i64 a.ln, .string a.s, .int .i64 a.v.k, .int .i64 a.v.n, .string a.v.s, (.slice av a.v.l.length ac), .slice la a.l.length lc] 75))
 go_upto_region 3 with fail
 have HL5 := hid (show B5 < w2.heap.size from (Array.getElem?_eq_some_iff.1 HG5.out).1)
 have hF4 := HF2.out.trans' hF3
 have HH4 := hid (hF3.heap HG4'.out not_false); have HH5 := hid (hF3.heap HG5.out not_false)
 have HB7 := hid (show w2.heap.size < (w2.alloc (.cells #[.int .i64 a.op, .int .i64 a.ln, .string a.s, .int .i64 a.v.k, .int .i64 a.v.n, .string a.v.s, (.slice av a.v.l.length ac), .slice la a.l.length lc] 75)).heap.size from by simp)
 have HLT := hid (show w.heap.size ≤ w2.heap.size from HF2.out.size)
 clear hF3 q0 q1 q2 q3 q4 q5 q6 q7 HG4' HG5
 generalize w2.alloc (.cells #[.int .i64 a.op, .int .i64 a.ln, .string a.s, .int .i64 a.v.k, .int .i64 a.v.n, .string a.v.s, (.slice av a.v.l.length ac), .slice la a.l.length lc] 75) = w3 at *
 generalize w2.heap.size = B7 at *
 have HF4 := hid hF4
 clear hF4 HF2
 go_loopw [6] (fun iv wr => ∃ (y : Nd) (yv : Option Addr) (yvc : Nat) (yl : Option Addr) (ylc : Nat) (idx : List Nd) (U : List Oct) (xs : List Value), Hid (Rt 2 y) ∧ Hid (NIn D W y #[.int .i64 y.op, .int .i64 y.ln, .string y.s, .int .i64 y.v.k, .int .i64 y.v.n, .string y.v.s, .slice yv y.v.l.length yvc, .slice yl y.l.length ylc]) ∧ Hid (wr.heap[B7]? = some (.cells #[.int .i64 y.op, .int .i64 y.ln, .string y.s, .int .i64 y.v.k, .int .i64 y.v.n, .string y.v.s, .slice yv y.v.l.length yvc, .slice yl y.l.length ylc] 75 (0, 0))) ∧
  Hid (Fr (fun q => q = B7) w3 wr) ∧ Hid (wr.ownsRow w3.heap.size 75 8 iv idx.length xs) ∧ Hid (U.length = idx.length ∧ ∀ (i : Nat) (u : Oct), U[i]? = some u → ∀ j, j < 8 → xs[i * 8 + j]? = u.1[j]?) ∧ Hid (∀ (i : Nat) (z : Nd), idx[i]? = some z → ∃ u : Oct, U[i]? = some u ∧ NIn D W z u.1) ∧
  Hid (∀ z ∈ idx, Rt 0 z) ∧ Hid (lenR a 2 = lenR y 2 + sumR 0 idx ∧ cntL idx + y.cnt ≤ a.cnt ∧ szL idx + y.sz ≤ a.sz)) (fun iv _ => a.cnt - sliceLen iv)
 case atStart => exact ⟨a, av, ac, la, lc, [], [], [], HRA, HVA, HG7, Fr.refl _ _, World.ownsRow_nil _ _ _ _, ⟨rfl, fun i u h => by simp at h⟩, fun i z h => by simp at h, fun z h => (by cases h), rfl, by simp [cntL], by simp [szL]⟩
 case round =>
  clear HG7
  obtain ⟨y, yv, yvc, yl, ylc, idx, U, xs, HRY, HVY, HGY, HFR, HOW, HU, HNI, HRI, HS⟩ := hrel
  obtain ⟨y0, y1, y2, y3, y4, y5, y6, y7⟩ := node_cells HGY.out
  have hfw : Fr (fun _ => False) W wr := (HM.out.f.trans' HF4.out).trans (U := fun _ => False) HFR.out (fun _ _ h => h) (fun k hk e => by have h1 := HM.out.f.size; have h2 := HLT.out; omega)
  have HFW := hid hfw
  clear hfw
  rcases HRY.out.target with ⟨hop, p, z, hyl, hrp, hrz, hlen⟩ | ⟨hop, p, z, hyl, hrp, hrz, hlen⟩ | ⟨hop, hyl, hys, hlen⟩
  ·obtain ⟨va8, v9, e9, -, hnl⟩ := HVY.out.open
   obtain rfl : v9 = .slice yl y.l.length ylc := by simp at e9; exact e9.2.symm
   have hl2 : y.l.length = 2 := by rw [hyl]; rfl
   obtain ⟨b2, o2, pv, pvc, pl, plc, rfl, -, hvp, p0, p1, p2, p3, p4, p5, p6, p7⟩ := hnl.at (k := 0) (y := p) (by rw [hyl]; rfl)
   obtain ⟨b3, o3, zv, zvc, zl, zlc, e3, -, hvz, z0, z1, z2, z3, z4, z5, z6, z7⟩ := hnl.at (k := 1) (y := z) (by rw [hyl]; rfl)
   simp only [Option.some.injEq, Addr.mk.injEq] at e3
   obtain ⟨rfl, rfl, -⟩ := e3
   simp only [Nat.zero_mul, Nat.add_zero, Nat.one_mul] at p0 p1 p2 p3 p4 p5 p6 p7 z0 z1 z2 z3 z4 z5 z6 z7
   have HP := hid (And.intro (And.intro p0 p1) (And.intro (And.intro p2 p3) (And.intro (And.intro p4 p5) (And.intro p6 p7))))
   rw [hl2] at y7
   have y0' : wr.cell? ⟨B7, 0, none⟩ = some (.int .i64 20) := by rw [← hop]; exact y0
   replace z0 := HFW.out.cell z0 not_false
   replace z1 := HFW.out.cell z1 not_false
   replace z2 := HFW.out.cell z2 not_false
   replace z3 := HFW.out.cell z3 not_false
   replace z4 := HFW.out.cell z4 not_false
   replace z5 := HFW.out.cell z5 not_false
   replace z6 := HFW.out.cell z6 not_false
   replace z7 := HFW.out.cell z7 not_false
   have HRP := hid hrp; have HRZ := hid hrz; have HLE := hid hlen; have HYL := hid hyl; have HVP := hid hvp; have HVZ := hid hvz; have HL2 := hid hl2
   have hFA := (Fr.refl (fun _ => False) wr).alloc (.cells #[.int .i64 z.op, .int .i64 z.ln, .string z.s, .int .i64 z.v.k, .int .i64 z.v.n, .string z.v.s, .slice zv z.v.l.length zvc, .slice zl z.l.length zlc] 75)
   have hcn := cells_newQ wr #[.int .i64 z.op, .int .i64 z.ln, .string z.s, .int .i64 z.v.k, .int .i64 z.v.n, .string z.v.s, .slice zv z.v.l.length zvc, .slice zl z.l.length zlc] 75 (0, 0)
   have HOA := hid (hFA.own HOW.out fun _ _ => id)
   have HFA := hid hFA; have HCN := hid hcn
   have HXL := hid HOW.out.1
   obtain ⟨ia, ic, rfl, -⟩ := own_len HOW.out
   have hsc : idx.length + 1 ≤ 1099511627776 := by have h1 := HS.out.2.1; have h2 := len_le_cnt idx; have h3 := HN.out.2; have h4 := Nd.cnt_sz a; omega
   have HSC := hid hsc
   have HBX := hid (show w3.heap.size ≤ (wr.alloc (.cells #[.int .i64 z.op, .int .i64 z.ln, .string z.s, .int .i64 z.v.k, .int .i64 z.v.n, .string z.v.s, .slice zv z.v.l.length zvc, .slice zl z.l.length zlc] 75)).heap.size by have h1 := HFR.out.size; have h2 := hFA.size; omega)
   clear hop hrp hrz hlen hyl hvp hvz hnl e9 hl2 p0 p1 p2 p3 p4 p5 p6 p7 y0 hFA hcn hsc
   have HONE := hid (show ∀ u ∈ (#[.int .i64 z.op, .int .i64 z.ln, .string z.s, .int .i64 z.v.k, .int .i64 z.v.n, .string z.v.s, .slice zv z.v.l.length zvc, .slice zl z.l.length zlc] : Array Value).toList, u.oneCell' = true from fun u hu => by
    simp only [List.mem_cons, List.not_mem_nil, or_false] at hu
    rcases hu with rfl | rfl | rfl | rfl | rfl | rfl | rfl | rfl <;> rfl)
   go_upto_region 5 with (at_builtin; go_must (refine wpList_appendNR rfl (.tmp 13) (.tmp 18) 22 rfl 75 (.agg #[.int .i64 0, .int .i64 0, .string ⟨#[]⟩, .int .i64 0, .int .i64 0, .string ⟨#[]⟩, .slice none 0 0, .slice none 0 0]) 8 112 Tryz.underlying22 Tryz.info_node rfl (by decide) _ rfl w3.heap.size idx.length xs HOA.out (some ⟨wr.heap.size, 0, none⟩) 1 1 (#[.int .i64 z.op, .int .i64 z.ln, .string z.s, .int .i64 z.v.k, .int .i64 z.v.n, .string z.v.s, .slice zv z.v.l.length zvc, .slice zl z.l.length zlc] : Array Value).toList rfl rfl (fun h => by cases h) (fun j hj => ⟨wr.heap.size, 0, rfl, by rw [Nat.zero_add]; have h1 := HCN.out j _ (List.getElem?_eq_getElem (by exact hj)); rw [h1]; exact (List.getElem?_eq_getElem (by exact hj)).symm⟩) (fun ad h => ⟨_, _, (Option.some.inj h).symm⟩) HONE.out HSC.out (by decide) HBX.out ?_; intro v9 w9 ho9 hf9))
   have hb7 : ¬ some B7 = Value.ownBlock (.slice ia idx.length ic) := fun e => by have h1 := (HOA.out.lt B7 e.symm).1; have := HB7.out; omega
   have hgy9 := hf9.heap (HFA.out.heap HGY.out not_false) hb7
   have hfr9 : Fr (fun q => q = B7) w3 w9 := (HFR.out.trans' (HFA.out.mono fun _ _ h => h.elim)).trans (U := fun q => q = B7) hf9 (fun _ _ h => h) (fun k hk e => by have h1 := (HOA.out.lt k e.symm).1; omega)
   have hfw9 : Fr (fun _ => False) W w9 := (HM.out.f.trans' HF4.out).trans (U := fun _ => False) hfr9 (fun _ _ h => h) (fun k hk e => by have h1 := HM.out.f.size; have h2 := HLT.out; omega)
   obtain ⟨⟨p0, p1⟩, ⟨p2, p3⟩, ⟨p4, p5⟩, p6, p7⟩ := HP.out
   replace p0 := hfw9.cell p0 not_false
   replace p1 := hfw9.cell p1 not_false
   replace p2 := hfw9.cell p2 not_false
   replace p3 := hfw9.cell p3 not_false
   replace p4 := hfw9.cell p4 not_false
   replace p5 := hfw9.cell p5 not_false
   replace p6 := hfw9.cell p6 not_false
   replace p7 := hfw9.cell p7 not_false
   clear y0' y1 y2 y3 y4 y5 y6 y7 z0 z1 z2 z3 z4 z5 z6 z7 hb7 hfw9
   obtain ⟨y0, y1, y2, y3, y4, y5, y6, y7⟩ := node_cells hgy9
   rw [HL2.out] at y7
   have fz : ∀ i, w9.frozen? ⟨B7, i, none⟩ = false := fun i => frozen_of_row _ _ _ _ _ hgy9
   have f0 := fz 0; have f1 := fz 1; have f2 := fz 2; have f3 := fz 3; have f4 := fz 4; have f5 := fz 5; have f6 := fz 6; have f7 := fz 7
   have HG9 := hid hgy9; have HF9 := hid hfr9; have HO9 := hid ho9
   obtain ⟨va, vc, rfl, -⟩ := own_len ho9
   clear fz hgy9 hfr9 ho9 hf9 HOW HFR HOA HFA HCN HBX HFW HGY
   go_wp2_with fail
   have h8 := set8 (u0 := .int .i64 p.op) (u1 := .int .i64 p.ln) (u2 := .string p.s) (u3 := .int .i64 p.v.k) (u4 := .int .i64 p.v.n) (u5 := .string p.v.s) (u6 := .slice pv p.v.l.length pvc) (u7 := .slice pl p.l.length plc) HG9.out
   generalize ((((((((w9.setCell ⟨B7, 0, none⟩ (.int .i64 p.op)).setCell ⟨B7, 1, none⟩ (.int .i64 p.ln)).setCell ⟨B7, 2, none⟩ (.string p.s)).setCell ⟨B7, 3, none⟩ (.int .i64 p.v.k)).setCell ⟨B7, 4, none⟩ (.int .i64 p.v.n)).setCell ⟨B7, 5, none⟩ (.string p.v.s)).setCell ⟨B7, 6, none⟩ (.slice pv p.v.l.length pvc)).setCell ⟨B7, 7, none⟩ (.slice pl p.l.length plc)) = w10 at *
   obtain ⟨hg10, hs10⟩ := h8
   have HO10 := hid (hs10.own HO9.out (fun k hk e => by have h1 := (HO9.out.lt k hk).1; have := HB7.out; omega))
   have HG10 := hid hg10
   have HF10 := hid (HF9.out.trans' hs10)
   clear hg10 hs10 p0 p1 p2 p3 p4 p5 p6 p7 y0 y1 y2 y3 y4 y5 y6 y7 f0 f1 f2 f3 f4 f5 f6 f7 HG9 HF9 HO9
   go_roundw
   case rel =>
    refine ⟨p, pv, pvc, pl, plc, idx ++ [z], U ++ [⟨#[.int .i64 z.op, .int .i64 z.ln, .string z.s, .int .i64 z.v.k, .int .i64 z.v.n, .string z.v.s, .slice zv z.v.l.length zvc, .slice zl z.l.length zlc], rfl, HONE.out⟩], xs ++ (#[.int .i64 z.op, .int .i64 z.ln, .string z.s, .int .i64 z.v.k, .int .i64 z.v.n, .string z.v.s, .slice zv z.v.l.length zvc, .slice zl z.l.length zlc] : Array Value).toList, HRP, HVP, HG10, HF10, ?_, ⟨?_, ?_⟩, ?_, ?_, ?_⟩
    ·show Hid _
     rw [List.length_append]
     exact HO10
    ·rw [List.length_append, List.length_append, HU.out.1]; rfl
    ·exact oct_snoc HXL.out HU.out.1 HU.out.2 ⟨#[.int .i64 z.op, .int .i64 z.ln, .string z.s, .int .i64 z.v.k, .int .i64 z.v.n, .string z.v.s, .slice zv z.v.l.length zvc, .slice zl z.l.length zlc], rfl, HONE.out⟩
    ·intro i x hx
     by_cases hi : i < idx.length
     ·rw [List.getElem?_append_left hi] at hx
      obtain ⟨u, hu, hn⟩ := HNI.out i x hx
      exact ⟨u, by rw [List.getElem?_append_left (by rw [HU.out.1]; exact hi)]; exact hu, hn⟩
     ·have hil := (List.getElem?_eq_some_iff.1 hx).1
      rw [List.length_append, List.length_singleton] at hil
      obtain rfl : i = idx.length := by omega
      rw [List.getElem?_append_right (Nat.le_refl _), Nat.sub_self] at hx
      simp at hx
      subst hx
      exact ⟨⟨#[.int .i64 z.op, .int .i64 z.ln, .string z.s, .int .i64 z.v.k, .int .i64 z.v.n, .string z.v.s, .slice zv z.v.l.length zvc, .slice zl z.l.length zlc], rfl, HONE.out⟩, by rw [← HU.out.1, List.getElem?_append_right (Nat.le_refl _), Nat.sub_self]; rfl, HVZ.out⟩
    ·exact fun x hx => (List.mem_append.1 hx).elim (HRI.out x) fun h => by rw [List.mem_singleton.1 h]; exact HRZ.out
    ·have h1 := HS.out; have h2 := HLE.out; have h3 := Nd.cnt_eq y; have h4 := Nd.sz_eq y
     rw [HYL.out] at h3 h4
     simp only [cntL, szL] at h3 h4
     refine ⟨by rw [sumR_append]; simp only [sumR]; omega, by rw [(cntL_snoc _ _).1]; omega, by rw [(cntL_snoc _ _).2]; omega⟩
   case measure =>
    have h1 := HS.out.2.1; have h2 := len_le_cnt idx; have h3 := Nd.cnt_eq y
    simp only [sliceLen]
    omega
  ·have hbd : idx.length ≤ 1048576 ∧ y.cnt ≤ a.cnt ∧ y.sz ≤ a.sz ∧ cntL idx ≤ a.cnt ∧ szL idx ≤ a.sz := by
    have h1 := HS.out.2; have h2 := len_le_cnt idx; have h3 := Nd.cnt_sz a; have h4 := HN.out.2; omega
   have HBD := hid hbd
   have HRV := hid (rev_own HOW.out HU.out.1 HU.out.2 HNI.out (by omega))
   have hlt := HOW.out.lt
   have HLW := hid hlt
   obtain ⟨ia, ic, rfl, -⟩ := own_len HOW.out
   have y0' : wr.cell? ⟨B7, 0, none⟩ = some (.int .i64 22) := by rw [← hop]; exact y0
   obtain ⟨va8, v9, e9, -, hnl⟩ := HVY.out.open
   obtain rfl : v9 = .slice yl y.l.length ylc := by simp at e9; exact e9.2.symm
   have HNL := hid hnl
   have HLN := hid hlen; have HYL := hid hyl
   have HOP := hid (show ∀ w5 : World, w5.cell? ⟨B7, 0, none⟩ = some (.int .i64 y.op) → w5.cell? ⟨B7, 0, none⟩ = some (.int .i64 22) from fun w5 h => by rw [← hop]; exact h)
   have HRP := hid hrp; have HRZ := hid hrz
   clear hrp hrz
   clear hbd hlt y0 hop hlen hyl e9 hnl 
   go_wp2_with fail
   refine HRV.out.mono ?_
   rintro e w4 ⟨rfl, hf4, hnv⟩
   have hb7 : ¬ some B7 = Value.ownBlock (.slice ia idx.length ic) := fun e => by have h1 := (HLW.out B7 e.symm).1; have := HB7.out; omega
   have hb5 : ¬ some B5 = Value.ownBlock (.slice ia idx.length ic) := fun e => by have h1 := (HLW.out B5 e.symm).1; have := HB7.out; have := HL5.out; omega
   have HG7 := hid (hf4.heap HGY.out hb7)
   have HG5 := hid (hf4.heap (HFR.out.heap HH5.out (fun e => by have := HL5.out; omega)) hb5)
   have hfw : Fr (fun _ => False) w w4 := (HF4.out.trans (U := fun _ => False) HFR.out (fun _ _ h => h) (fun k hk e => by have h2 := HLT.out; omega)).trans (U := fun _ => False) hf4 (fun _ _ h => h) (fun k hk e => by have h1 := (HLW.out k e.symm).1; have h2 := HB7.out; have h3 := HLT.out; omega)
   have HM4 := hid (HM.out.fr hfw); have HNV := hid hnv
   clear y0' y1 y2 y3 y4 y5 y6 y7 hf4 hnv hb7 hb5 hfw HRV
   obtain ⟨y0, y1, y2, y3, y4, y5, y6, y7⟩ := node_cells HG7.out
   have y0' : w4.cell? ⟨B7, 0, none⟩ = some (.int .i64 22) := HOP.out w4 y0
   clear y0
   have hsy : sumR 0 y.l = lenR y 2 := by rw [HYL.out, HLN.out]; simp only [sumR]; omega
   have hcy := Nd.cnt_eq y; have hzy := Nd.sz_eq y
   have HSY := hid hsy
   have HA1 := hid (HALL.out y.l (by have := HN.out; have := HBD.out; omega) (by have := HN.out; have := HBD.out; omega) (fun x hx => by
    rw [HYL.out] at hx
    simp only [List.mem_cons, List.not_mem_nil, or_false] at hx
    rcases hx with rfl | rfl
    ·exact HRP.out
    ·exact HRZ.out) D W w4 w4 _ X C sv m HNL.out.nv HM4.out.now (by rw [hsy]; have := HL.out; have := HS.out.1; omega))
   clear hsy hcy hzy
   go_wp2_with fail
   refine HA1.out.mono ?_
   rintro e w5 ⟨rfl, c0, hc0, hw⟩
   have hl0 : y.l.length = 2 := by rw [HYL.out]; rfl
   rw [hl0, HSY.out] at hc0
   have HC0 := hid hc0; have HM5 := hid hw
   clear hc0 hw hl0 HA1 y0' y1 y2 y3 y4 y5 y6 y7
   have hn5 : (m.L ++ c0).length = m.L.length + lenR y 2 := by rw [List.length_append, HC0.out.1]
   have HN5 := hid hn5
   clear hn5
   have HA2 := hid (HALL.out idx.reverse (by rw [(cntL_rev idx).1]; have := HN.out; have := HBD.out; omega) (by rw [(cntL_rev idx).2]; have := HN.out; have := HBD.out; omega) (fun x hx => HRI.out x (List.mem_reverse.1 hx)) D W w4 w5 _ X C sv _ HNV.out HM5.out (by (try dsimp only); rw [HN5.out, sumR_rev]; have := HL.out; have := HS.out.1; omega))
   go_wp2_with fail
   refine HA2.out.mono ?_
   rintro e w6 ⟨rfl, c1, hc1, hw⟩
   try dsimp only at hc1 hw
   rw [sumR_rev, List.length_reverse, HN5.out] at hc1
   have HC1 := hid hc1; have HM6 := hid hw
   have hn6 : (m.L ++ c0 ++ c1).length = m.L.length + lenR a 2 := by rw [List.length_append, HN5.out, hc1.1]; have := HS.out.1; omega
   have HN6 := hid hn6
   clear hc1 hw hn6 HA2 
   obtain ⟨q0, q1, q2, q3, q4, q5, q6, q7⟩ := node_cells (HM6.out.kp _ _ _ HG5.out)
   have HA3 := hid (HIH.out b (by have := HN.out; omega) (by have := HN.out; omega) HRB.out D W w4 w6 _ X C sv _ HVB.out HM6.out (by (try dsimp only); rw [HN6.out]; have := HL.out; omega))
   go_wp2_with fail
   refine HA3.out.mono ?_
   rintro e w7 ⟨rfl, c2, hc2, hw⟩
   try dsimp only at hc2 hw
   rw [HN6.out] at hc2
   have HC2 := hid hc2; have HM7 := hid hw
   have hn7 : (m.L ++ c0 ++ c1 ++ c2).length = m.L.length + lenR a 2 + lenR b 0 := by rw [List.length_append, HN6.out, hc2.1]
   have HN7 := hid hn7
   clear hc2 hw hn7 HA3 q0 q1 q2 q3 q4 q5 q6 q7
   by_cases h0 : idx.length = 0
   ·have HZ := hid h0
    rw [h0]
    clear h0
    have HP := hid (put0 HM7.out 21 0 0 ⟨#[]⟩ (by rw [HN7.out]; have := HL.out; omega))
    go_wp2_with fail
    refine HP.out.mono ?_
    rintro e w8 ⟨rfl, hw⟩
    have HM8 := hid hw
    clear hw HP
    go_wp2_with fail
    go_end0
    refine ⟨rfl, c0 ++ c1 ++ c2 ++ [⟨21, 0, 0, ⟨#[]⟩, m.ln⟩], ?_, (HM4.out.since HM8.out).cast (by simp only [List.append_assoc])⟩
    have h := ((HC0.out.cat HC1.out).cat (show FC _ _ (m.L.length + (lenR y 2 + sumR 0 idx)) _ _ _ by have h := HC2.out; rwa [show m.L.length + lenR a 2 = m.L.length + (lenR y 2 + sumR 0 idx) by have := HS.out.1; omega] at h)).put (j := ⟨21, 0, 0, ⟨#[]⟩, m.ln⟩) 3 1 (fun m => by simp [goesJ]) (by simp) (fun e => by simp at e) (by simp [ndT]) (by simp [ndG]) (by simp [ndTB, ndGB]) (by omega) (by have := HZ.out; omega) rfl (d' := 1) (by have := HZ.out; omega)
    rw [show lenR a 2 + lenR b 0 + 1 = (lenR y 2 + sumR 0 idx + lenR b 0) + 1 by have := HS.out.1; omega]
    exact h
   ·have h0I : (0 : Int) < (idx.length : Int) := by omega
    have HZ := hid h0
    clear h0
    have HP := hid (put0 HM7.out 22 (idx.length : Int) 0 ⟨#[]⟩ (by rw [HN7.out]; have := HL.out; omega))
    go_wp2_with fail
    refine HP.out.mono ?_
    rintro e w8 ⟨rfl, hw⟩
    have HM8 := hid hw
    clear hw HP
    go_wp2_with fail
    go_end0
    refine ⟨rfl, c0 ++ c1 ++ c2 ++ [⟨22, (idx.length : Int), 0, ⟨#[]⟩, m.ln⟩], ?_, (HM4.out.since HM8.out).cast (by simp only [List.append_assoc])⟩
    have h := ((HC0.out.cat HC1.out).cat (show FC _ _ (m.L.length + (lenR y 2 + sumR 0 idx)) _ _ _ by have h := HC2.out; rwa [show m.L.length + lenR a 2 = m.L.length + (lenR y 2 + sumR 0 idx) by have := HS.out.1; omega] at h)).put (j := ⟨22, (idx.length : Int), 0, ⟨#[]⟩, m.ln⟩) ((idx.length : Int) + 3) 1 (fun m => by simp [goesJ]) (by simp) (fun e => by simp at e) (by simp [ndT]) (by simp [ndG]) (by simp [ndTB, ndGB]) (by omega) (by have := HZ.out; omega) rfl (d' := 1) (by have := HZ.out; omega)
    rw [show lenR a 2 + lenR b 0 + 1 = (lenR y 2 + sumR 0 idx + lenR b 0) + 1 by have := HS.out.1; omega]
    exact h
  ·have hbd : idx.length ≤ 1048576 ∧ y.cnt ≤ a.cnt ∧ y.sz ≤ a.sz ∧ cntL idx ≤ a.cnt ∧ szL idx ≤ a.sz := by
    have h1 := HS.out.2; have h2 := len_le_cnt idx; have h3 := Nd.cnt_sz a; have h4 := HN.out.2; omega
   have HBD := hid hbd
   have HRV := hid (rev_own HOW.out HU.out.1 HU.out.2 HNI.out (by omega))
   have hlt := HOW.out.lt
   have HLW := hid hlt
   obtain ⟨ia, ic, rfl, -⟩ := own_len HOW.out
   have y0' : wr.cell? ⟨B7, 0, none⟩ = some (.int .i64 2) := by rw [← hop]; exact y0
   obtain ⟨va8, v9, e9, -, hnl⟩ := HVY.out.open
   obtain rfl : v9 = .slice yl y.l.length ylc := by simp at e9; exact e9.2.symm
   have HNL := hid hnl
   have HLN := hid hlen; have HYL := hid hyl
   have HOP := hid (show ∀ w5 : World, w5.cell? ⟨B7, 0, none⟩ = some (.int .i64 y.op) → w5.cell? ⟨B7, 0, none⟩ = some (.int .i64 2) from fun w5 h => by rw [← hop]; exact h)
   have HYS := hid hys
   clear hbd hlt y0 hop hlen hyl e9 hnl hys
   go_wp2_with fail
   refine HRV.out.mono ?_
   rintro e w4 ⟨rfl, hf4, hnv⟩
   have hb7 : ¬ some B7 = Value.ownBlock (.slice ia idx.length ic) := fun e => by have h1 := (HLW.out B7 e.symm).1; have := HB7.out; omega
   have hb5 : ¬ some B5 = Value.ownBlock (.slice ia idx.length ic) := fun e => by have h1 := (HLW.out B5 e.symm).1; have := HB7.out; have := HL5.out; omega
   have HG7 := hid (hf4.heap HGY.out hb7)
   have HG5 := hid (hf4.heap (HFR.out.heap HH5.out (fun e => by have := HL5.out; omega)) hb5)
   have hfw : Fr (fun _ => False) w w4 := (HF4.out.trans (U := fun _ => False) HFR.out (fun _ _ h => h) (fun k hk e => by have h2 := HLT.out; omega)).trans (U := fun _ => False) hf4 (fun _ _ h => h) (fun k hk e => by have h1 := (HLW.out k e.symm).1; have h2 := HB7.out; have h3 := HLT.out; omega)
   have HM4 := hid (HM.out.fr hfw); have HNV := hid hnv
   clear y0' y1 y2 y3 y4 y5 y6 y7 hf4 hnv hb7 hb5 hfw HRV
   obtain ⟨y0, y1, y2, y3, y4, y5, y6, y7⟩ := node_cells HG7.out
   have y0' : w4.cell? ⟨B7, 0, none⟩ = some (.int .i64 2) := HOP.out w4 y0
   clear y0
   have hye : y.s.toList.isEmpty = false := by
    cases hl : y.s.toList with
    | nil =>
     refine absurd ?_ HYS.out
     have h1 : y.s.data.toList = [] := by rw [← ByteArray.toList_eq]; exact hl
     have h2 : y.s.data = #[] := by simpa using congrArg List.toArray h1
     cases hs : y.s with
     | mk d => rw [hs] at h2; dsimp only at h2; rw [h2]
    | cons _ _ => rfl
   have HYE := hid hye
   clear hye
   have HM5 := hid HM4.out.now
   have HA2 := hid (HALL.out idx.reverse (by rw [(cntL_rev idx).1]; have := HN.out; have := HBD.out; omega) (by rw [(cntL_rev idx).2]; have := HN.out; have := HBD.out; omega) (fun x hx => HRI.out x (List.mem_reverse.1 hx)) D W w4 w4 _ X C sv _ HNV.out HM5.out (by (try dsimp only); rw [sumR_rev]; have := HLN.out; have := HL.out; have := HS.out.1; omega))
   go_wp2_with fail
   refine HA2.out.mono ?_
   rintro e w6 ⟨rfl, c1, hc1, hw⟩
   try dsimp only at hc1 hw
   rw [sumR_rev, List.length_reverse] at hc1
   have HC1 := hid hc1; have HM6 := hid hw
   have hn6 : (m.L ++ c1).length = m.L.length + lenR a 2 := by rw [List.length_append, hc1.1]; have := HS.out.1; have := HLN.out; omega
   have HN6 := hid hn6
   clear hc1 hw hn6 HA2 y0' y1 y2 y3 y4 y5 y6 y7
   obtain ⟨q0, q1, q2, q3, q4, q5, q6, q7⟩ := node_cells (HM6.out.kp _ _ _ HG5.out)
   have HA3 := hid (HIH.out b (by have := HN.out; omega) (by have := HN.out; omega) HRB.out D W w4 w6 _ X C sv _ HVB.out HM6.out (by (try dsimp only); rw [HN6.out]; have := HL.out; omega))
   go_wp2_with fail
   refine HA3.out.mono ?_
   rintro e w7 ⟨rfl, c2, hc2, hw⟩
   try dsimp only at hc2 hw
   rw [HN6.out] at hc2
   have HC2 := hid hc2; have HM7 := hid hw
   have hn7 : (m.L ++ c1 ++ c2).length = m.L.length + lenR a 2 + lenR b 0 := by rw [List.length_append, HN6.out, hc2.1]
   have HN7 := hid hn7
   clear hc2 hw hn7 HA3 q0 q1 q2 q3 q4 q5 q6 q7
   by_cases h0 : idx.length = 0
   ·have HZ := hid h0
    rw [h0]
    clear h0
    have HP := hid (put0 HM7.out 20 0 0 y.s (by rw [HN7.out]; have := HL.out; omega))
    have hye := HYE.out
    go_wp2_with fail
    refine HP.out.mono ?_
    rintro e w8 ⟨rfl, hw⟩
    have HM8 := hid hw
    clear hw HP
    go_wp2_with fail
    go_end0
    refine ⟨rfl, c1 ++ c2 ++ [⟨20, 0, 0, y.s, m.ln⟩], ?_, (HM4.out.since HM8.out).cast (by simp only [List.append_assoc])⟩
    have hq1 : FC (fun z => z = m.ln) m.nb m.L.length (sumR 0 idx) c1 idx.length := HC1.out
    have hq2 : FC (fun z => z = m.ln) m.nb (m.L.length + sumR 0 idx) (lenR b 0) c2 1 := by have h := HC2.out; rwa [show m.L.length + lenR a 2 = m.L.length + sumR 0 idx by have := HS.out.1; have := HLN.out; omega] at h
    have h := (hq1.cat hq2).put (j := ⟨20, 0, 0, y.s, m.ln⟩) 1 1 (fun m => by simp [goesJ]) (by simp) (fun e => by simp at e) (by simp [ndT, HYS.out]) (by simp [ndG]) (by simp [ndTB, ndGB]) (by omega) (by have := HZ.out; omega) rfl (d' := 1) (by have := HZ.out; omega)
    rw [show lenR a 2 + lenR b 0 + 1 = (sumR 0 idx + lenR b 0) + 1 by have := HS.out.1; have := HLN.out; omega]
    exact h
   ·have h0I : (0 : Int) < (idx.length : Int) := by omega
    have HZ := hid h0
    clear h0
    have HP := hid (put0 HM7.out 22 (idx.length : Int) 0 y.s (by rw [HN7.out]; have := HL.out; omega))
    go_wp2_with fail
    refine HP.out.mono ?_
    rintro e w8 ⟨rfl, hw⟩
    have HM8 := hid hw
    clear hw HP
    go_wp2_with fail
    go_end0
    refine ⟨rfl, c1 ++ c2 ++ [⟨22, (idx.length : Int), 0, y.s, m.ln⟩], ?_, (HM4.out.since HM8.out).cast (by simp only [List.append_assoc])⟩
    have hq1 : FC (fun z => z = m.ln) m.nb m.L.length (sumR 0 idx) c1 idx.length := HC1.out
    have hq2 : FC (fun z => z = m.ln) m.nb (m.L.length + sumR 0 idx) (lenR b 0) c2 1 := by have h := HC2.out; rwa [show m.L.length + lenR a 2 = m.L.length + sumR 0 idx by have := HS.out.1; have := HLN.out; omega] at h
    have h := (hq1.cat hq2).put (j := ⟨22, (idx.length : Int), 0, y.s, m.ln⟩) ((idx.length : Int) + 1) 1 (fun m => by simp [goesJ]) (by simp) (fun e => by simp at e) (by simp [ndT, HYS.out]) (by simp [ndG]) (by simp [ndTB, ndGB]) (by omega) (by have := HZ.out; omega) rfl (d' := 1) (by have := HZ.out; omega)
    rw [show lenR a 2 + lenR b 0 + 1 = (sumR 0 idx + lenR b 0) + 1 by have := HS.out.1; have := HLN.out; omega]
    exact h
end
section
theorem lenRL_append {op role : Int} {R : List Int} : ∀ (a b : List Nd) (i : Nat), lenRL op role R i (a ++ b) = lenRL op role R i a + lenRL op role R (i + a.length) b
 | [], b, i => by rw [lenRL_nil, List.nil_append, Nat.zero_add, List.length_nil, Nat.add_zero]
 | x :: a, b, i => by
  rw [List.cons_append, lenRL_cons, lenRL_cons, lenRL_append a b (i + 1), List.length_cons, show i + 1 + a.length = i + (a.length + 1) by omega]
  omega
theorem lenRL_zero {op role : Int} {R : List Int} : ∀ (l : List Nd) (i : Nat), (∀ (k : Nat) (y : Nd), l[k]? = some y → lenR y (cRole role op (i + k) (R.getD (i + k) 0)) = 0) → lenRL op role R i l = 0
 | [], i, _ => lenRL_nil ..
 | x :: a, i, h => by
  rw [lenRL_cons, lenRL_zero a (i + 1) fun k y hk => by
   have := h (k + 1) y (by simpa using hk)
   rwa [show i + (k + 1) = i + 1 + k by omega] at this]
  have h0 := h 0 x rfl
  rw [Nat.add_zero] at h0
  rw [h0]
  split <;> rfl
theorem Rt.leaf {x : Nd} (h : Rt 0 x) (hop : x.op = 1 ∨ x.op = 2) : lenR x 0 = 1 := by
 have hc := h.own.2
 have hl : x.l = [] := by rcases hop with e | e <;> (rw [e] at hc; simpa [pCounts] using hc)
 rw [lenR_eq, hl, lenRL_nil]
 rcases hop with e | e <;> simp [e, cst]
theorem Rt.setr {x : Nd} (h : Rt 0 x) (hop : x.op = 27) : ∃ a b, x.l = [a, b] ∧ Rt 2 a ∧ Rt 0 b ∧ lenR x 0 = lenR a 2 + lenR b 0 + 1 := by
 have h2 := h.own.2
 have hk := fun i z => h.kid (i := i) (y := z)
 rw [hop] at h2
 obtain ⟨a, b, hl⟩ := len2 (by simpa [pCounts] using h2)
 rw [hop, hl] at hk
 rw [lenR_eq, hl, hop]
 exact ⟨a, b, rfl, by simpa [pRoles, rW] using hk 0 a rfl, by simpa [pRoles, rW] using hk 1 b rfl, by simp [lenRL_cons, lenRL_nil, cst, cRole, rW, pRoles]; omega⟩
theorem Rt.var3 {y : Nd} (h : Rt 3 y) : y.op = 2 ∧ lenR y 3 = 0 := by
 have hop : y.op = 2 := by simpa [pStands] using h.own.1
 have hc := h.own.2
 rw [hop] at hc
 have hl : y.l = [] := by simpa [pCounts] using hc
 exact ⟨hop, by rw [lenR_eq, hl, lenRL_nil]; simp [cst]⟩
theorem Rt.last4 {y : Nd} (h : Rt 4 y) : (y.op = 26 → ∃ z, y.l = [z]) ∧ lenR y 4 = 0 := by
 have ho := h.own
 have hk := fun i z => h.kid (i := i) (y := z)
 have hop : y.op = 2 ∨ y.op = 26 := by simpa [pStands] using ho.1
 rcases hop with hop | hop
 ·have hc := ho.2
  rw [hop] at hc
  have hl : y.l = [] := by simpa [pCounts] using hc
  exact ⟨fun e => (by rw [hop] at e; cases e), by rw [lenR_eq, hl, lenRL_nil]; simp [cst]⟩
 ·have hc := ho.2
  rw [hop] at hc
  obtain ⟨z, hl⟩ := len1 (by simpa [pCounts] using hc)
  rw [hop, hl] at hk
  have hz : Rt 3 z := by simpa [pRoles, rW] using hk 0 z rfl
  refine ⟨fun _ => ⟨z, hl⟩, ?_⟩
  rw [lenR_eq, hl, hop]
  simp [lenRL_cons, lenRL_nil, cst, cRole, rW, pRoles, hz.var3.2]
theorem Rt.scatr {x : Nd} (h : Rt 0 x) (hop : x.op = 28) : ∃ q e, x.l = q ++ [e] ∧ 1 ≤ q.length ∧ Rt 0 e ∧ (∀ y ∈ q, y.op = 26 → ∃ z, y.l = [z]) ∧ lenR x 0 = lenR e 0 + 1 := by
 have h2 := h.own.2
 have hk := fun i z => h.kid (i := i) (y := z)
 rw [hop] at h2
 have hlen : 2 ≤ x.l.length := by simpa [pCounts] using h2
 obtain ⟨q, e, hl⟩ : ∃ q e, x.l = q ++ [e] := ⟨x.l.dropLast, x.l.getLast (fun e => by rw [e] at hlen; simp at hlen), (List.dropLast_concat_getLast _).symm⟩
 have hq : x.l.length = q.length + 1 := by rw [hl]; simp
 have hR : pRoles 28 x.l.length = (List.replicate q.length 3).set (q.length - 1) 4 ++ [0] := by rw [hq]; simp [pRoles]
 have hg : ∀ k, k < q.length → ((List.replicate q.length (3 : Int)).set (q.length - 1) 4 ++ [0]).getD k 0 = if k = q.length - 1 then 4 else 3 := fun k hk => by
  rw [List.getD_eq_getElem?_getD, List.getElem?_append_left (by simpa using hk), List.getElem?_set]
  by_cases e : k = q.length - 1
  ·rw [if_pos e.symm, if_pos (by simp; omega), if_pos e]; rfl
  ·rw [if_neg (fun h => e h.symm), if_neg e, List.getElem?_replicate, if_pos hk]; rfl
 have hge : ((List.replicate q.length (3 : Int)).set (q.length - 1) 4 ++ [0]).getD q.length 0 = 0 := by
  rw [List.getD_eq_getElem?_getD, List.getElem?_append_right (by simp)]
  simp
 rw [hop, hR] at hk
 have hqk : ∀ (k : Nat) (y : Nd), q[k]? = some y → (k = q.length - 1 → Rt 4 y) ∧ (k ≠ q.length - 1 → Rt 3 y) := fun k y hy => by
  have hkl := (List.getElem?_eq_some_iff.1 hy).1
  have h3 := hk k y (by rw [hl, List.getElem?_append_left hkl]; exact hy)
  rw [hg k hkl] at h3
  refine ⟨fun e => ?_, fun e => ?_⟩
  ·rw [if_pos e] at h3; simpa [rW] using h3
  ·rw [if_neg e] at h3; simpa [rW] using h3
 have hre : Rt 0 e := by
  have h3 := hk q.length e (by rw [hl]; simp)
  rw [hge] at h3
  simpa [rW] using h3
 refine ⟨q, e, hl, by omega, hre, fun y hy hy26 => ?_, ?_⟩
 ·obtain ⟨i, hi, he⟩ := List.getElem_of_mem hy
  have h3 := hqk i y (by rw [List.getElem?_eq_getElem hi, he])
  by_cases e1 : i = q.length - 1
  ·exact (h3.1 e1).last4.1 hy26
  ·have := (h3.2 e1).var3.1
   rw [this] at hy26
   cases hy26
 ·rw [lenR_eq, hop, hR, hl, lenRL_append, lenRL_zero q 0 fun k y hy => ?_]
  ·rw [Nat.zero_add, lenRL_cons, lenRL_nil]
   simp only [Nat.zero_add]
   rw [hge]
   simp [cst, cRole, rW]
   omega
  ·have hkl := (List.getElem?_eq_some_iff.1 hy).1
   rw [Nat.zero_add, hg k hkl]
   have h3 := hqk k y hy
   by_cases e1 : k = q.length - 1
   ·rw [if_pos e1]
    have := (h3.1 e1).last4.2
    simpa [cRole, rW] using this
   ·rw [if_neg e1]
    have := (h3.2 e1).var3.2
    simpa [cRole, rW] using this
theorem Rt.catchr {x : Nd} (h : Rt 0 x) (hop : x.op = 29) : ∃ a b r, x.l = a :: b :: r ∧ r.length ≤ 1 ∧ Rt 0 a ∧ Rt 5 b ∧ (∀ y ∈ r, Rt 0 y) ∧ lenR x 0 = catLen a b r := by
 have h2 := h.own.2
 have hk := fun i z => h.kid (i := i) (y := z)
 rw [hop] at h2
 have hlen : x.l.length = 2 ∨ x.l.length = 3 := by simpa [pCounts] using h2
 rcases hlen with hlen | hlen
 ·obtain ⟨a, b, hl⟩ := len2 hlen
  rw [hop, hl] at hk
  rw [lenR_eq, hl, hop]
  refine ⟨a, b, [], rfl, Nat.zero_le _, by simpa [pRoles, rW] using hk 0 a rfl, by simpa [pRoles, rW] using hk 1 b rfl, fun y hy => (by cases hy), ?_⟩
  simp [lenRL_cons, lenRL_nil, cst, cRole, rW, pRoles, catLen]
  omega
 ·obtain ⟨a, b, c, hl⟩ := len3 hlen
  rw [hop, hl] at hk
  rw [lenR_eq, hl, hop]
  refine ⟨a, b, [c], rfl, Nat.le_refl _, by simpa [pRoles, rW] using hk 0 a rfl, by simpa [pRoles, rW] using hk 1 b rfl, fun y hy => ?_, ?_⟩
  ·rw [List.mem_singleton.1 hy]
   simpa [pRoles, rW] using hk 2 c rfl
  ·simp [lenRL_cons, lenRL_nil, cst, cRole, rW, pRoles, catLen]
   omega
end
end Go.Proofs.YtbegahbagnflnaaGreatDoor
