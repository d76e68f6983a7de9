import Derived.Test.YtbegahbagnflnaaGreatDoorRows
import Derived.WalkKit
import Derived.WalkSpells
import Derived.WalkLawsBesides
import Derived.Deep.QuietTactic
import Derived.BigQuiet
import Derived.Laws.BytesArg
import Derived.Maps.AppendAt
import Derived.Deep.DeepCutAuto
import Derived.Deep.RegionHeld3
import Derived.Lib.SlBytesConst
import Derived.Laws.Tables
import Derived.OrdersHeld
import Derived.Deep.Quiet
set_option linter.unusedSimpArgs false
set_option linter.unusedVariables false
set_option linter.unnecessarySimpa false
namespace Go.Proofs.YtbegahbagnflnaaGreatDoor
section
open Go.RowKit
theorem ret_bool {a b : Bool} (h : a = b) : Ending.returned (.bool a) = .returned (.bool b) := by rw [h]
theorem ret_int {k : IntKind} {a b : Int} (h : a = b) : Ending.returned (.int k a) = .returned (.int k b) := by rw [h]
theorem int_eq {k : IntKind} {a b : Int} (h : a = b) : Value.int k a = .int k b := by rw [h]
theorem hid {p : Prop} (h : p) : Hid p := h
structure Fr (S : Nat → Prop) (w w' : World) : Prop where
 os : w'.os = w.os
 tape : w'.tape = w.tape
 output : w'.output = w.output
 size : w.heap.size ≤ w'.heap.size
 block : ∀ k, k < w.heap.size → ¬ S k → w'.heap[k]? = w.heap[k]?
theorem Fr.refl (S : Nat → Prop) (w : World) : Fr S w w := ⟨rfl, rfl, rfl, Nat.le_refl _, fun _ _ _ => rfl⟩
theorem Fr.trans {S T U : Nat → Prop} {a b c : World} (h : Fr S a b) (k : Fr T b c) (hS : ∀ k, k < a.heap.size → S k → U k) (hT : ∀ k, k < a.heap.size → T k → U k) : Fr U a c :=
 ⟨k.os.trans h.os, k.tape.trans h.tape, k.output.trans h.output, Nat.le_trans h.size k.size,
  fun i hi hu => (k.block i (Nat.lt_of_lt_of_le hi h.size) fun t => hu (hT i hi t)).trans (h.block i hi fun t => hu (hS i hi t))⟩
theorem Fr.trans' {S : Nat → Prop} {a b c : World} (h : Fr S a b) (k : Fr S b c) : Fr S a c := h.trans k (fun _ _ h => h) (fun _ _ h => h)
theorem Fr.drew {S : Nat → Prop} {a w : World} (h : Fr S a w) : Fr S a w.drew := ⟨h.os, h.tape, h.output, h.size, h.block⟩
theorem Fr.drewN {S : Nat → Prop} {a w : World} (h : Fr S a w) (n : Nat) : Fr S a (w.drewN n) := ⟨h.os, h.tape, h.output, h.size, h.block⟩
theorem cell_new1 (w : World) (u : Value) (t : TypeId) (fz : Nat × Nat) : (w.alloc (.cells #[u] t fz)).cell? ⟨w.heap.size, 0, none⟩ = some u := by
 have h : (w.alloc (.cells #[u] t fz)).heap[w.heap.size]? = some (.cells #[u] t fz) := heap_alloc_new w _
 rw [cell_of_row _ _ 0 _ _ _ h]
 rfl
theorem Fr.alloc {S : Nat → Prop} {a w : World} (h : Fr S a w) (o : Obj) : Fr S a (w.alloc o) :=
 ⟨h.os, h.tape, h.output, Nat.le_trans h.size (by simp), fun i hi hu => (Below.heap_alloc _ _ _ (Nat.lt_of_lt_of_le hi h.size)).trans (h.block i hi hu)⟩
theorem Fr.setCell {S : Nat → Prop} {a w : World} (h : Fr S a w) {p : Addr} (hp : S p.block ∨ a.heap.size ≤ p.block) (u : Value) : Fr S a (w.setCell p u) :=
 ⟨h.os, h.tape, h.output, by simpa [World.setCell] using h.size, fun i hi hu => (Below.heap_setCell _ _ _ _ (by rcases hp with hp | hp; exact fun e => hu (e ▸ hp); omega)).trans (h.block i hi hu)⟩
theorem Fr.mono {S T : Nat → Prop} {a b : World} (h : Fr S a b) (hS : ∀ k, k < a.heap.size → S k → T k) : Fr T a b :=
 ⟨h.os, h.tape, h.output, h.size, fun i hi hu => h.block i hi fun t => hu (hS i hi t)⟩
theorem Fr.cell {S : Nat → Prop} {a b : World} (h : Fr S a b) {p : Addr} {v : Value} (hc : a.cell? p = some v) (hS : ¬ S p.block) : b.cell? p = some v :=
 (World.cell?_of_block (h.block _ (World.block_lt_of_cell? a p hc) hS)).trans hc
theorem Fr.heap {S : Nat → Prop} {a b : World} (h : Fr S a b) {k : Nat} {o : Obj} (hk : a.heap[k]? = some o) (hS : ¬ S k) : b.heap[k]? = some o :=
 (h.block k (Array.getElem?_eq_some_iff.1 hk).1 hS).trans hk
theorem Fr.below {S : Nat → Prop} {a b : World} (h : Fr S a b) {B : Nat} (hB : B ≤ a.heap.size) (hS : ∀ k, k < B → ¬ S k) : Below B a b :=
 ⟨h.os, h.tape, h.output, h.size, fun k hk => h.block k (by omega) (hS k hk)⟩
theorem Fr.own {S : Nat → Prop} {a b : World} (h : Fr S a b) {base e size n : Nat} {v : Value} {xs : List Value} (ho : a.ownsRow base e size v n xs) (hS : ∀ k, v.ownBlock = some k → ¬ S k) : b.ownsRow base e size v n xs := by
 refine ⟨ho.1, ?_⟩
 rcases ho.2 with hn | ⟨g, cap, cur, rfl, hb, hg, r⟩
 ·exact .inl hn
 ·exact .inr ⟨g, cap, cur, rfl, hb, h.heap hg (hS g rfl), r⟩
theorem Fr.of_grownBy {w w' : World} {row : Option Nat} (h : w.grownBy w' row) : Fr (fun k => some k = row) w w' := ⟨h.os, h.tape, h.output, h.size, h.block⟩
theorem alloc_cell {w : World} {p : Addr} {v : Value} (o : Obj) (h : w.cell? p = some v) : (w.alloc o).cell? p = some v := ((Fr.refl (fun _ => False) w).alloc o).cell h id
theorem heap_lt {w : World} {k : Nat} {o : Obj} (h : w.heap[k]? = some o) : k < w.heap.size := (Array.getElem?_eq_some_iff.1 h).1
theorem own_ne {w : World} {b1 b2 e1 e2 s1 s2 n1 n2 : Nat} {v1 v2 : Value} {x1 x2 : List Value} (h1 : w.ownsRow b1 e1 s1 v1 n1 x1) (h2 : w.ownsRow b2 e2 s2 v2 n2 x2) (he : e1 ≠ e2) :
  ∀ k, v1.ownBlock = some k → ¬ some k = v2.ownBlock := by
 intro k h e
 rcases h1.2 with ⟨rfl, _⟩ | ⟨g, cap, cur, rfl, _, hg, _⟩
 ·simp [Value.ownBlock] at h
 ·rcases h2.2 with ⟨rfl, _⟩ | ⟨g', cap', cur', rfl, _, hg', _⟩
  ·simp [Value.ownBlock] at e
  ·simp only [Value.ownBlock, Option.some.injEq] at h e
   subst h; subst e
   rw [hg] at hg'
   simp only [Option.some.injEq, Obj.cells.injEq] at hg'
   exact he hg'.2.1
theorem own_ne_cells {w : World} {b1 e1 s1 n1 e2 B : Nat} {v1 : Value} {x1 : List Value} {c : Array Value} {fz : Nat × Nat} (h1 : w.ownsRow b1 e1 s1 v1 n1 x1) (h2 : w.heap[B]? = some (.cells c e2 fz)) (he : e1 ≠ e2) :
  ∀ k, v1.ownBlock = some k → k ≠ B := by
 intro k h e
 rcases h1.2 with ⟨rfl, _⟩ | ⟨g, cap, cur, rfl, _, hg, _⟩
 ·simp [Value.ownBlock] at h
 ·simp only [Value.ownBlock, Option.some.injEq] at h
  subst h; subst e
  rw [hg] at h2
  simp only [Option.some.injEq, Obj.cells.injEq] at h2
  exact he h2.2.1
theorem own_rebase {w : World} {b1 b2 e s n : Nat} {v : Value} {xs : List Value} (h : w.ownsRow b1 e s v n xs) (hb : ∀ k, v.ownBlock = some k → b2 ≤ k) : w.ownsRow b2 e s v n xs := by
 refine ⟨h.1, ?_⟩
 rcases h.2 with hn | ⟨g, cap, cur, rfl, _, r⟩
 ·exact .inl hn
 ·exact .inr ⟨g, cap, cur, rfl, hb g rfl, r⟩
theorem own_size {w : World} {base e size n : Nat} {v : Value} {xs : List Value} (h : w.ownsRow base e size v n xs) : ∀ k, v.ownBlock = some k → k < w.heap.size := fun k hk => (h.lt k hk).2
theorem own_len {w : World} {base e s n : Nat} {v : Value} {xs : List Value} (h : w.ownsRow base e s v n xs) : ∃ a c, v = .slice a n c ∧ n ≤ maxLen := by
 rcases h.2 with ⟨rfl, rfl⟩ | ⟨g, cap, cur, rfl, _, _, h1, h2, _⟩
 ·exact ⟨_, _, rfl, by simp⟩
 ·exact ⟨_, _, rfl, Nat.le_trans h1 h2⟩
theorem own_heap {w : World} {base e s n : Nat} {v : Value} {xs : List Value} (h : w.ownsRow base e s v n xs) :
  (v = .slice none 0 0 ∧ n = 0 ∧ xs = []) ∨ ∃ g cap, v = .slice (some ⟨g, 0, none⟩) n cap ∧ base ≤ g ∧ g < w.heap.size ∧ ∀ j, j < n * s → w.cell? ⟨g, j, none⟩ = xs[j]? := by
 rcases h.2 with ⟨rfl, rfl⟩ | ⟨g, cap, cur, rfl, hb, hg, h1, h2, h3, ht⟩
 ·exact .inl ⟨rfl, rfl, List.eq_nil_of_length_eq_zero (by simpa using h.1)⟩
 ·refine .inr ⟨g, cap, rfl, hb, heap_lt hg, fun j hj => ?_⟩
  rw [cell_of_row w g j cur e (0, 0) hg, ← ht, List.getElem?_take, if_pos hj]
  simp
theorem wp_append1 {P : Program} {o : Oper} {a : Act} {w : World} {K : Act → World → Prop} {Q : Exit → Act → World → Prop} (s x : Operand) (t : TypeId)
  (ho : o.op = .call { callee := .builtin .append, args := #[s, x], argTypes := #[t, t] })
  (e : TypeId) (z : Value) (bytes : Nat) (ht : P.underlying t = some (.slice e)) (hrow : (P.info? e).map (fun i => (i.zero, i.size, i.bytes)) = some (some z, 1, bytes)) (hzs : z.cells.size = 1)
  (v : Value) (hs : a.eval s = v) (base n : Nat) (xs : List Value) (hown : w.ownsRow base e 1 v n xs)
  (g0 c : Nat) (u : Value) (hx : a.eval x = .slice (some ⟨g0, 0, none⟩) 1 c) (hu : w.cell? ⟨g0, 0, none⟩ = some u) (h1 : u.oneCell' = true)
  (h63 : n + 1 ≤ 1099511627776) (hby : bytes ≤ 64) (hbase : base ≤ w.heap.size)
  (h : ∀ g cap w', w'.ownsRow base e 1 (.slice (some ⟨g, 0, none⟩) (n + 1) cap) (n + 1) (xs ++ [u]) → Fr (fun k => some k = v.ownBlock) w w' → (v.ownBlock = some g ∨ w.heap.size ≤ g) → K (a.put o.dst (.slice (some ⟨g, 0, none⟩) (n + 1) cap)) w') : o.wp P a w K Q := by
 obtain ⟨i, hi, hz, hsz, hbt⟩ := info_parts hrow
 have hb2 : (n + 1) * bytes ≤ 140737488355328 := by
  have := Nat.mul_le_mul h63 hby
  omega
 have key : ∃ g cap w', (Builtin.append_ #[t, t] o.type #[v, .slice (some ⟨g0, 0, none⟩) 1 c]).run P w = .ok (.slice (some ⟨g, 0, none⟩) (n + 1) cap) w' ∧ w'.ownsRow base e 1 (.slice (some ⟨g, 0, none⟩) (n + 1) cap) (n + 1) (xs ++ [u]) ∧ w.grownBy w' v.ownBlock ∧ (v.ownBlock = some g ∨ w.heap.size ≤ g) := by
  have hcells : ∀ j y, [u][j]? = some y → w.cell? ((⟨g0, 0, none⟩ : Addr).add j) = some y := by
   intro j y hy
   have : j = 0 := by
    have := (List.getElem?_eq_some_iff.1 hy).1
    simpa using this
   subst this
   simp at hy
   subst hy
   simpa [Addr.add] using hu
  have hone : ∀ y ∈ [u], y.oneCell' = true := by intro y hy; simp at hy; subst hy; exact h1
  have hmx : n + 1 ≤ maxLen := by unfold maxLen; omega
  obtain ⟨v', w', hr, ho', hg, hn⟩ := run_append_own (P := P) w base t o.type e i z 1 bytes ht hi hz hsz hbt hzs (by decide) v n xs hown ⟨g0, 0, none⟩ 1 c [u] rfl hcells hone hmx hb2 hbase
  rcases ho'.2 with ⟨_, h0⟩ | ⟨g, cap, cur, rfl, hbg, hgg, _⟩
  ·omega
  ·refine ⟨g, cap, w', hr, ho', hg, ?_⟩
   rcases hown.2 with ⟨rfl, rfl⟩ | ⟨g1, cap1, cur1, rfl, hb1, hg1, hnc, hcm, hcs, htk⟩
   ·refine .inr (Nat.le_of_not_lt fun hlt => ?_)
    have e1 := run_append_nil (P := P) w t o.type e i z ht hi hz ⟨g0, 0, none⟩ 1 c [u] (by simp [hsz]) hcells (by decide) (by decide) (by simp [hbt]; omega)
    rw [hr] at e1
    simp only [Result.ok.injEq, Value.slice.injEq, Option.some.injEq, Addr.mk.injEq] at e1
    omega
   ·by_cases hroom : n + 1 ≤ cap1
    ·have e1 := run_append_room (P := P) w t o.type e i ht hi g1 n cap1 cur1 hg1 ⟨g0, 0, none⟩ 1 c [u] (by simp [hsz]) hcells hone hroom (by rw [hsz]; simp; omega)
     rw [hr] at e1
     simp only [Result.ok.injEq, Value.slice.injEq, Option.some.injEq, Addr.mk.injEq] at e1
     left; simp [Value.ownBlock]; omega
    ·have holds : ∀ j u, xs[j]? = some u → w.cell? ((⟨g1, 0, none⟩ : Addr).add j) = some u := hown.cells (g := g1) rfl
     have e1 := run_append_grow (P := P) w t o.type e i z ht hi hz ⟨g1, 0, none⟩ n cap1 xs (by rw [hsz]; exact hown.1) holds ⟨g0, 0, none⟩ 1 c [u] (by simp [hsz]) hcells (by unfold maxLen at hmx; omega) (by omega) (growslice_fits (by omega) (by rw [hbt]; exact hb2))
     rw [hr] at e1
     simp only [Result.ok.injEq, Value.slice.injEq, Option.some.injEq, Addr.mk.injEq] at e1
     right; simp at e1; omega
 obtain ⟨g, cap, w', hr, ho', hg, hw⟩ := key
 unfold Oper.wp execOp
 simp only [ho, resolve, invoke, builtin, Sem.run_bind, Sem.run_pure, Result.andThen_ok, List.map_toArray, List.map_cons, List.map_nil, hs, hx, hr]
 exact h g cap w' ho' (Fr.of_grownBy hg) hw
theorem wpList_append1 {P : Program} {ops : Array Oper} {rest : List Oper} {o : Oper} {a : Act} {w : World} {Q : Exit → Act → World → Prop} (hgd : o.guard = none) (s x : Operand) (t : TypeId)
  (ho : o.op = .call { callee := .builtin .append, args := #[s, x], argTypes := #[t, t] })
  (e : TypeId) (z : Value) (bytes : Nat) (ht : P.underlying t = some (.slice e)) (hrow : (P.info? e).map (fun i => (i.zero, i.size, i.bytes)) = some (some z, 1, bytes)) (hzs : z.cells.size = 1)
  (v : Value) (hs : a.eval s = v) (base n : Nat) (xs : List Value) (hown : w.ownsRow base e 1 v n xs)
  (g0 c : Nat) (u : Value) (hx : a.eval x = .slice (some ⟨g0, 0, none⟩) 1 c) (hu : w.cell? ⟨g0, 0, none⟩ = some u) (h1 : u.oneCell' = true)
  (h63 : n + 1 ≤ 1099511627776) (hby : bytes ≤ 64) (hbase : base ≤ w.heap.size)
  (h : ∀ g cap w', w'.ownsRow base e 1 (.slice (some ⟨g, 0, none⟩) (n + 1) cap) (n + 1) (xs ++ [u]) → Fr (fun k => some k = v.ownBlock) w w' → (v.ownBlock = some g ∨ w.heap.size ≤ g) → wpList P ops Q rest (a.put o.dst (.slice (some ⟨g, 0, none⟩) (n + 1) cap)) w') : wpList P ops Q (o :: rest) a w :=
 wpList_plain hgd fun _ hK => wp_append1 s x t ho e z bytes ht hrow hzs v hs base n xs hown g0 c u hx hu h1 h63 hby hbase fun g cap w' h1 h2 h3 => hK _ _ (h g cap w' h1 h2 h3)
theorem wp_appendN {P : Program} {o : Oper} {a : Act} {w : World} {K : Act → World → Prop} {Q : Exit → Act → World → Prop} (s x : Operand) (t : TypeId)
  (ho : o.op = .call { callee := .builtin .append, args := #[s, x], argTypes := #[t, t] })
  (e : TypeId) (z : Value) (bytes : Nat) (ht : P.underlying t = some (.slice e)) (hrow : (P.info? e).map (fun i => (i.zero, i.size, i.bytes)) = some (some z, 1, bytes)) (hzs : z.cells.size = 1)
  (v : Value) (hs : a.eval s = v) (base n : Nat) (xs : List Value) (hown : w.ownsRow base e 1 v n xs)
  (ao : Option Addr) (m c : Nat) (news : List Value) (hx : a.eval x = .slice ao m c) (hl : news.length = m) (hn : ao = none → m = 0 ∧ c = 0)
  (hc : ∀ j, j < m → ∃ b o, ao = some ⟨b, o, none⟩ ∧ w.cell? ⟨b, o + j, none⟩ = news[j]?) (h1 : ∀ u ∈ news, u.oneCell' = true)
  (h63 : n + m ≤ 1099511627776) (hby : bytes ≤ 64) (hbase : base ≤ w.heap.size)
  (h : ∀ v' w', w'.ownsRow base e 1 v' (n + m) (xs ++ news) → Fr (fun k => some k = v.ownBlock) w w' → (∀ k, v'.ownBlock = some k → v.ownBlock = some k ∨ w.heap.size ≤ k) → K (a.put o.dst v') w') : o.wp P a w K Q := by
 obtain ⟨i, hi, hz, hsz, hbt⟩ := info_parts hrow
 have hb2 : (n + m) * bytes ≤ 140737488355328 := by
  have := Nat.mul_le_mul h63 hby
  omega
 have key : ∃ v' w', (Builtin.append_ #[t, t] o.type #[v, .slice ao m c]).run P w = .ok v' w' ∧ w'.ownsRow base e 1 v' (n + m) (xs ++ news) ∧ w.grownBy w' v.ownBlock ∧ (∀ k, v'.ownBlock = some k → v.ownBlock = some k ∨ w.heap.size ≤ k) := by
  cases ao with
  | none =>
   obtain ⟨rfl, rfl⟩ := hn rfl
   have hnews : news = [] := List.eq_nil_of_length_eq_zero hl
   subst hnews
   refine ⟨v, w, run_append_owned_none (P := P) w base t o.type e i 1 ht hi v n xs hown, by simpa using hown, ⟨rfl, rfl, rfl, Nat.le_refl _, fun _ _ _ => rfl⟩, fun k hk => .inl hk⟩
  | some ad =>
   have hcells : ∀ j y, news[j]? = some y → w.cell? (ad.add j) = some y := by
    intro j y hy
    have hj : j < m := by rw [← hl]; exact (List.getElem?_eq_some_iff.1 hy).1
    obtain ⟨b, o, e, hcc⟩ := hc j hj
    simp only [Option.some.injEq] at e
    subst e
    have : (⟨b, o, none⟩ : Addr).add j = ⟨b, o + j, none⟩ := by unfold Addr.add; split <;> simp_all
    rw [this, hcc, hy]
   have hmx : n + m ≤ maxLen := by unfold maxLen; omega
   obtain ⟨v', w', hr, ho', hg, hnil⟩ := run_append_own (P := P) w base t o.type e i z 1 bytes ht hi hz hsz hbt hzs (by decide) v n xs hown ad m c news (by omega) hcells h1 hmx hb2 hbase
   refine ⟨v', w', hr, ho', hg, fun k hk => ?_⟩
   rcases hown.2 with ⟨rfl, rfl⟩ | ⟨g1, cap1, cur1, rfl, hb1, hg1, hnc, hcm, hcs, htk⟩
   ·by_cases hm0 : m = 0
    ·rw [hnil.2 ⟨rfl, hm0⟩] at hk
     exact .inl hk
    ·have e1 := run_append_nil (P := P) w t o.type e i z ht hi hz ad m c news (by rw [hsz]; omega) hcells (by omega) (by unfold maxLen at hmx; omega) (by rw [hbt]; simp only [Nat.zero_add] at hb2; omega)
     rw [hr] at e1
     simp only [Result.ok.injEq] at e1
     rw [e1.1] at hk
     simp only [Value.ownBlock, Option.some.injEq] at hk
     exact .inr (by omega)
   ·by_cases hroom : n + m ≤ cap1
    ·have e1 := run_append_room (P := P) w t o.type e i ht hi g1 n cap1 cur1 hg1 ad m c news (by rw [hsz]; omega) hcells h1 hroom (by rw [hsz]; omega)
     rw [hr] at e1
     simp only [Result.ok.injEq] at e1
     rw [e1.1] at hk
     exact .inl hk
    ·have holds : ∀ j u, xs[j]? = some u → w.cell? ((⟨g1, 0, none⟩ : Addr).add j) = some u := hown.cells (g := g1) rfl
     have e1 := run_append_grow (P := P) w t o.type e i z ht hi hz ⟨g1, 0, none⟩ n cap1 xs (by rw [hsz]; exact hown.1) holds ad m c news (by rw [hsz]; omega) hcells (by unfold maxLen at hmx; omega) (by omega) (growslice_fits (by omega) (by rw [hbt]; exact hb2))
     rw [hr] at e1
     simp only [Result.ok.injEq] at e1
     rw [e1.1] at hk
     simp only [Value.ownBlock, Option.some.injEq] at hk
     exact .inr (by omega)
 obtain ⟨v', w', hr, ho', hg, hw⟩ := key
 unfold Oper.wp execOp
 simp only [ho, resolve, invoke, builtin, Sem.run_bind, Sem.run_pure, Result.andThen_ok, List.map_toArray, List.map_cons, List.map_nil, hs, hx, hr]
 exact h v' w' ho' (Fr.of_grownBy hg) hw
theorem wpList_appendN {P : Program} {ops : Array Oper} {rest : List Oper} {o : Oper} {a : Act} {w : World} {Q : Exit → Act → World → Prop} (hgd : o.guard = none) (s x : Operand) (t : TypeId)
  (ho : o.op = .call { callee := .builtin .append, args := #[s, x], argTypes := #[t, t] })
  (e : TypeId) (z : Value) (bytes : Nat) (ht : P.underlying t = some (.slice e)) (hrow : (P.info? e).map (fun i => (i.zero, i.size, i.bytes)) = some (some z, 1, bytes)) (hzs : z.cells.size = 1)
  (v : Value) (hs : a.eval s = v) (base n : Nat) (xs : List Value) (hown : w.ownsRow base e 1 v n xs)
  (ao : Option Addr) (m c : Nat) (news : List Value) (hx : a.eval x = .slice ao m c) (hl : news.length = m) (hn : ao = none → m = 0 ∧ c = 0)
  (hc : ∀ j, j < m → ∃ b o, ao = some ⟨b, o, none⟩ ∧ w.cell? ⟨b, o + j, none⟩ = news[j]?) (h1 : ∀ u ∈ news, u.oneCell' = true)
  (h63 : n + m ≤ 1099511627776) (hby : bytes ≤ 64) (hbase : base ≤ w.heap.size)
  (h : ∀ v' w', w'.ownsRow base e 1 v' (n + m) (xs ++ news) → Fr (fun k => some k = v.ownBlock) w w' → (∀ k, v'.ownBlock = some k → v.ownBlock = some k ∨ w.heap.size ≤ k) → wpList P ops Q rest (a.put o.dst v') w') : wpList P ops Q (o :: rest) a w :=
 wpList_plain hgd fun _ hK => wp_appendN s x t ho e z bytes ht hrow hzs v hs base n xs hown ao m c news hx hl hn hc h1 h63 hby hbase fun v' w' h1 h2 h3 => hK _ _ (h v' w' h1 h2 h3)
theorem own_src {w : World} {base e n : Nat} {v : Value} {xs : List Value} (h : w.ownsRow base e 1 v n xs) : ∃ ao c, v = .slice ao n c ∧ xs.length = n ∧ (ao = none → n = 0 ∧ c = 0) ∧ ∀ j, j < n → ∃ b o, ao = some ⟨b, o, none⟩ ∧ w.cell? ⟨b, o + j, none⟩ = xs[j]? := by
 rcases own_heap h with ⟨rfl, rfl, rfl⟩ | ⟨g, cap, rfl, _, _, hc⟩
 ·exact ⟨_, _, rfl, rfl, fun _ => ⟨rfl, rfl⟩, fun j hj => by omega⟩
 ·refine ⟨_, _, rfl, by simpa using h.1, (fun h => by cases h), fun j hj => ⟨g, 0, rfl, ?_⟩⟩
  rw [Nat.zero_add]
  exact hc j (by omega)
def Bs (D : Nat → Prop) (w : World) (v : Value) (l : List UInt8) : Prop :=
 ∃ a c, v = .slice a l.length c ∧ l.length ≤ c ∧ c ≤ maxLen ∧ ∀ k, k < l.length → ∃ b o, a = some ⟨b, o, none⟩ ∧ D b ∧ w.cell? ⟨b, o + k, none⟩ = some (.int .u8 (l.getD k 0).toNat)
theorem Bs.frame {D S : Nat → Prop} {w w' : World} {v : Value} {l : List UInt8} (h : Bs D w v l) (hf : Fr S w w') (hd : ∀ k, D k → ¬ S k) : Bs D w' v l := by
 obtain ⟨a, c, rfl, h1, h2, hk⟩ := h
 refine ⟨a, c, rfl, h1, h2, fun k hlt => ?_⟩
 obtain ⟨b, o, e, hD, hc⟩ := hk k hlt
 exact ⟨b, o, e, hD, hf.cell hc (hd _ hD)⟩
theorem Bs.sub {D : Nat → Prop} {w : World} {a a' : Option Addr} {c c' len' : Nat} {l : List UInt8} (h : Bs D w (.slice a l.length c) l) (i j : Nat) (hij : i ≤ j) (hj : j ≤ l.length) (hlen : len' = j - i) (hc : c' = c - i)
  (ha : a' = if c = i then a else a.map fun x => x.add i) : Bs D w (.slice a' len' c') ((l.take j).drop i) := by
 obtain ⟨a0, c0, e, h1, h2, hk⟩ := h
 simp only [Value.slice.injEq] at e
 obtain ⟨rfl, _, rfl⟩ := e
 have hL : ((l.take j).drop i).length = len' := by simp; omega
 refine ⟨a', c', by rw [hL], by omega, by omega, fun k hlt => ?_⟩
 rw [hL] at hlt
 obtain ⟨b, o, rfl, hD, hc1⟩ := hk (i + k) (by omega)
 rw [if_neg (by omega)] at ha
 have e2 : (⟨b, o, none⟩ : Addr).add i = ⟨b, o + i, none⟩ := by unfold Addr.add; split <;> simp_all
 simp only [Option.map_some, e2] at ha
 refine ⟨b, o + i, ha, hD, ?_⟩
 rw [Nat.add_assoc, hc1]
 have : ((l.take j).drop i).getD k 0 = l.getD (i + k) 0 := by
  simp only [List.getD, List.getElem?_drop, List.getElem?_take]
  rw [if_pos (by omega)]
 rw [this]
def Ss (D : Nat → Prop) (w : World) (v : Value) (l : List ByteArray) : Prop :=
 ∃ a c, v = .slice a l.length c ∧ l.length ≤ c ∧ c ≤ maxLen ∧ ∀ k, k < l.length → ∃ b o, a = some ⟨b, o, none⟩ ∧ D b ∧ w.cell? ⟨b, o + k, none⟩ = some (.string (l.getD k ByteArray.empty))
def bV (l : List UInt8) : List Value := l.map fun c => .int .u8 c.toNat
def sV (l : List ByteArray) : List Value := l.map fun s => .string s
@[simp] theorem bV_length (l : List UInt8) : (bV l).length = l.length := by simp [bV]
@[simp] theorem sV_length (l : List ByteArray) : (sV l).length = l.length := by simp [sV]
theorem Bs.own {w : World} {base e : Nat} {v : Value} {l : List UInt8} (h : w.ownsRow base e 1 v l.length (bV l)) : Bs (fun k => v.ownBlock = some k) w v l := by
 rcases h.2 with ⟨rfl, h0⟩ | ⟨g, cap, cur, rfl, _, hg, h1, h2, _, ht⟩
 ·have hl : l = [] := List.eq_nil_of_length_eq_zero h0
  subst hl
  exact ⟨none, 0, rfl, Nat.le_refl _, Nat.zero_le _, fun k hk => by simp at hk⟩
 ·refine ⟨_, _, rfl, h1, h2, fun k hk => ⟨g, 0, rfl, rfl, ?_⟩⟩
  rw [Nat.zero_add, cell_of_row w g k cur e (0, 0) hg]
  have : (cur.toList.take (l.length * 1))[k]? = (bV l)[k]? := by rw [ht]
  rw [List.getElem?_take, if_pos (by omega)] at this
  simp only [Array.getElem?_toList] at this
  rw [this]
  simp [bV, List.getD, hk]
theorem Ss.own {w : World} {base e : Nat} {v : Value} {l : List ByteArray} (h : w.ownsRow base e 1 v l.length (sV l)) : Ss (fun k => v.ownBlock = some k) w v l := by
 rcases h.2 with ⟨rfl, h0⟩ | ⟨g, cap, cur, rfl, _, hg, h1, h2, _, ht⟩
 ·have hl : l = [] := List.eq_nil_of_length_eq_zero h0
  subst hl
  exact ⟨none, 0, rfl, Nat.le_refl _, Nat.zero_le _, fun k hk => by simp at hk⟩
 ·refine ⟨_, _, rfl, h1, h2, fun k hk => ⟨g, 0, rfl, rfl, ?_⟩⟩
  rw [Nat.zero_add, cell_of_row w g k cur e (0, 0) hg]
  have : (cur.toList.take (l.length * 1))[k]? = (sV l)[k]? := by rw [ht]
  rw [List.getElem?_take, if_pos (by omega)] at this
  simp only [Array.getElem?_toList] at this
  rw [this]
  simp [sV, List.getD, hk]
theorem Bs.mono {D E : Nat → Prop} {w : World} {v : Value} {l : List UInt8} (h : Bs D w v l) (hd : ∀ k, k < w.heap.size → D k → E k) : Bs E w v l := by
 obtain ⟨a, c, rfl, h1, h2, hk⟩ := h
 refine ⟨a, c, rfl, h1, h2, fun k hlt => ?_⟩
 obtain ⟨b, o, e, hD, hc⟩ := hk k hlt
 exact ⟨b, o, e, hd _ (World.block_lt_of_cell? w _ hc) hD, hc⟩
theorem Ss.mono {D E : Nat → Prop} {w : World} {v : Value} {l : List ByteArray} (h : Ss D w v l) (hd : ∀ k, k < w.heap.size → D k → E k) : Ss E w v l := by
 obtain ⟨a, c, rfl, h1, h2, hk⟩ := h
 refine ⟨a, c, rfl, h1, h2, fun k hlt => ?_⟩
 obtain ⟨b, o, e, hD, hc⟩ := hk k hlt
 exact ⟨b, o, e, hd _ (World.block_lt_of_cell? w _ hc) hD, hc⟩
theorem take_snoc {α : Type} (l : List α) (k : Nat) (d : α) (h : k < l.length) : l.take (k + 1) = l.take k ++ [l.getD k d] := by
 rw [List.take_add_one, List.getElem?_eq_getElem h]
 simp [List.getD, h]
theorem conv_bytes {P : Program} {D : Nat → Prop} {w : World} {v : Value} {l : List UInt8} (h : Bs D w v l) (src e dst : TypeId) (hs : P.underlying src = some (.slice e)) (he : P.underlying e = some (.int .u8)) (hd : P.underlying dst = some .string) :
  (convert src dst v).run P w = .ok (.string ⟨l.toArray⟩) w := by
 obtain ⟨a, c, rfl, _, _, hk⟩ := h
 by_cases h0 : l = []
 ·subst h0
  cases a with
  | none => rw [run_convert_bytes_nil w src e hs he _ _ dst hd]; rfl
  | some a =>
   obtain ⟨b, o, sp⟩ := a
   simp [convert, run_underlying hs, run_underlying hd, run_underlying he, Conv.bytesToString, loadCells, loadCellsFrom]
   rfl
 ·obtain ⟨b, o, rfl, _, _⟩ := hk 0 (List.length_pos_iff.2 h0)
  have hc : ∀ i, i < l.length → w.cell? ⟨b, o + i, none⟩ = some (.int .u8 ((l.map fun c => (c.toNat : Int)).getD i 0)) := by
   intro i hi
   obtain ⟨b', o', e, _, hc⟩ := hk i hi
   simp only [Option.some.injEq, Addr.mk.injEq] at e
   obtain ⟨rfl, rfl, _⟩ := e
   rw [hc]
   simp [List.getD, hi]
  rw [run_convert_bytes_arg w src e hs he b o l.length c (l.map fun c => (c.toNat : Int)) (by simp) hc dst hd]
  have e : (l.map fun c => (c.toNat : Int)).map (fun n => UInt8.ofNat n.toNat) = l := by
   rw [List.map_map]
   exact List.map_id'' (fun c => by simp) l
  rw [strOfNums, e]
theorem setRow_block {w : World} {g : Nat} {cs old : Array Value} {t : TypeId} {fz : Nat × Nat} (h : w.heap[g]? = some (.cells old t fz)) : (w.setRow g cs).heap[g]? = some (.cells cs t fz) := by
 simp only [World.setRow, Array.getElem?_modify]
 simp [h]
theorem Fr.setRow {S : Nat → Prop} {a w : World} (h : Fr S a w) {g : Nat} (hp : S g ∨ a.heap.size ≤ g) (cs : Array Value) : Fr S a (w.setRow g cs) :=
 ⟨h.os, h.tape, h.output, by simpa using h.size, fun i hi hu => by
  have : i ≠ g := by rcases hp with hp | hp; exact fun e => hu (e ▸ hp); omega
  rw [← h.block i hi hu]
  simp only [World.setRow, Array.getElem?_modify]
  simp [Ne.symm this]⟩
theorem setCell_row {w : World} {B : Nat} {cs : Array Value} {t : TypeId} {fz : Nat × Nat} (i : Nat) (v : Value) (h : w.heap[B]? = some (.cells cs t fz)) : (w.setCell ⟨B, i, none⟩ v).heap[B]? = some (.cells (cs.setIfInBounds i v) t fz) := by
 simp only [World.setCell, Array.getElem?_modify]
 simp [h]
end
section
structure J where
 op : Int
 a : Int
 b : Int
 s : ByteArray
 ln : Int
def ndT (op a : Int) (e : Bool) : Int :=
 if op = 3 ∨ op = 7 ∨ op = 45 ∨ op = 44 then 1 else if op = 4 ∨ op = 20 ∨ op = 23 ∨ op = 19 then 1 else if op = 5 ∨ op = 10 ∨ op = 12 then 2 else if op = 11 ∨ op = 18 ∨ op = 21 then 3
 else if op = 14 ∨ op = 15 then 1 else if op = 17 then 2 else if op = 22 then (if e then a + 3 else a + 1) else if op = 27 then 1 else if op = 36 then 1 else if op = 37 then 2 else if op = 38 then 2 else if op = 39 then 3 else if op = 41 then a else 0
def ndG (op : Int) : Int :=
 if op = 1 ∨ op = 2 ∨ op = 28 then 1 else if op = 4 ∨ op = 20 ∨ op = 23 ∨ op = 19 then 1 else if op = 5 ∨ op = 10 ∨ op = 12 then 1 else if op = 11 ∨ op = 18 ∨ op = 21 then 1
 else if op = 16 then 1 else if op = 17 then 2 else if op = 22 then 1 else if op = 27 then 1 else if op = 36 then 2 else if op = 37 then 2 else if op = 38 then 3 else if op = 39 then 3 else 0
def ndTB (op : Int) : Int := if op = 14 ∨ op = 15 ∨ op = 16 then 1 else 0
def ndGB (op : Int) : Int := if op = 13 ∨ op = 14 ∨ op = 15 then 1 else 0
def goesJ (j : J) (k : Int) : List Int :=
 if j.op = 6 then [j.a] else if j.op = 7 ∨ j.op = 37 ∨ j.op = 39 ∨ j.op = 24 ∨ j.op = 25 then [k + 1, j.a] else if j.op = 36 ∨ j.op = 38 ∨ j.op = 40 then [k + 1, j.a, j.b]
 else if j.op = 31 ∨ j.op = 42 ∨ j.op = 43 ∨ j.op = 44 then [] else [k + 1]
def okJ (nb : Nat) (R : Int → Int × Int → Prop) (k : Nat) (j : J) (p : Int × Int) : Prop :=
 ndT j.op j.a (decide (j.s = ⟨#[]⟩)) ≤ p.1 ∧ ndTB j.op ≤ p.2 ∧ (j.op = 45 → 0 ≤ j.a ∧ j.a < nb) ∧
 if j.op = 8 ∨ j.op = 9 then 1 ≤ p.1 ∧ R j.a p ∧ R ((k : Int) + 1) (p.1 - 1, p.2)
 else ∀ t ∈ goesJ j k, R t (p.1 - ndT j.op j.a (decide (j.s = ⟨#[]⟩)) + ndG j.op, p.2 - ndTB j.op + ndGB j.op)
theorem okJ.mono {nb nb' : Nat} {R R' : Int → Int × Int → Prop} {k : Nat} {j : J} {p : Int × Int} (h : okJ nb R k j p) (hn : nb ≤ nb') (hR : ∀ t q, R t q → R' t q) : okJ nb' R' k j p := by
 obtain ⟨h1, h2, h3, h4⟩ := h
 refine ⟨h1, h2, fun e => ⟨(h3 e).1, by have := (h3 e).2; omega⟩, ?_⟩
 split
 ·rename_i e
  rw [if_pos e] at h4
  exact ⟨h4.1, hR _ _ h4.2.1, hR _ _ h4.2.2⟩
 ·rename_i e
  rw [if_neg e] at h4
  exact fun t ht => hR _ _ (h4 t ht)
def RTo (n len : Nat) (T : Nat → Int × Int) (E : List (Int × Int × Int)) (t : Int) (q : Int × Int) : Prop := (∃ k : Nat, t = ((n + k : Nat) : Int) ∧ k ≤ len ∧ T k = q) ∨ (t, q) ∈ E
def Ty (nb n : Nat) (c : List J) (p q : Int × Int) (E : List (Int × Int × Int)) : Prop :=
 ∃ T : Nat → Int × Int, T 0 = p ∧ T c.length = q ∧ (∀ k, k ≤ c.length → (0 ≤ (T k).1 ∧ (T k).1 ≤ p.1 + k) ∧ 0 ≤ (T k).2 ∧ (T k).2 ≤ p.2 + k) ∧ ∀ k j, c[k]? = some j → okJ nb (RTo n c.length T E) (n + k) j (T k)
variable {nb nb' n m : Nat} {c d : List J} {p q r : Int × Int} {E F : List (Int × Int × Int)}
theorem Ty.mono (h : Ty nb n c p q E) (hn : nb ≤ nb') (hE : ∀ e ∈ E, e ∈ F) : Ty nb' n c p q F := by
 obtain ⟨T, h1, h2, h3, h4⟩ := h
 exact ⟨T, h1, h2, h3, fun k j hj => (h4 k j hj).mono hn fun t q h => h.imp id (hE _)⟩
theorem Ty.up (h : Ty nb n c p q E) (hn : nb ≤ nb') : Ty nb' n c p q E := h.mono hn fun _ => id
theorem Ty.nil (hp : 0 ≤ p.1 ∧ 0 ≤ p.2) : Ty nb n [] p p E := ⟨fun _ => p, rfl, rfl, fun k _ => by dsimp only; omega, fun k j h => by simp at h⟩
theorem Ty.cat (h1 : Ty nb n c p q E) (h2 : Ty nb m d q r E) (hm : m = n + c.length) : Ty nb n (c ++ d) p r E := by
 obtain ⟨T, a1, a2, a3, a4⟩ := h1
 obtain ⟨U, b1, b2, b3, b4⟩ := h2
 subst hm
 have hT : ∀ k, k ≤ c.length → (if k ≤ c.length then T k else U (k - c.length)) = T k := fun k hk => if_pos hk
 have hU : ∀ k, (if k + c.length ≤ c.length then T (k + c.length) else U (k + c.length - c.length)) = U k := fun k => by
  split
  ·have : k = 0 := by omega
   subst this
   rw [Nat.zero_add, a2, b1]
  ·rw [Nat.add_sub_cancel]
 have hR1 : ∀ t q, RTo n c.length T E t q → RTo n (c ++ d).length (fun k => if k ≤ c.length then T k else U (k - c.length)) E t q := fun t q h => by
  rcases h with ⟨k, e, hk, ht⟩ | h
  ·exact .inl ⟨k, e, by rw [List.length_append]; omega, by dsimp only; rw [hT k hk]; exact ht⟩
  ·exact .inr h
 have hR2 : ∀ t q, RTo (n + c.length) d.length U E t q → RTo n (c ++ d).length (fun k => if k ≤ c.length then T k else U (k - c.length)) E t q := fun t q h => by
  rcases h with ⟨k, e, hk, ht⟩ | h
  ·exact .inl ⟨k + c.length, by rw [e]; congr 1; omega, by rw [List.length_append]; omega, by dsimp only; rw [hU k]; exact ht⟩
  ·exact .inr h
 refine ⟨fun k => if k ≤ c.length then T k else U (k - c.length), ?_, ?_, fun k hk => ?_, fun k j hj => ?_⟩
 ·dsimp only; rw [hT 0 (Nat.zero_le _)]; exact a1
 ·dsimp only; rw [List.length_append, Nat.add_comm, hU]; exact b2
 ·dsimp only
  rw [List.length_append] at hk
  by_cases h : k ≤ c.length
  ·rw [hT k h]; exact a3 k h
  ·obtain ⟨i, rfl⟩ : ∃ i, k = i + c.length := ⟨k - c.length, by omega⟩
   rw [hU]
   have h1 := b3 i (by omega)
   have h2 := a3 c.length (Nat.le_refl _)
   rw [a2] at h2
   omega
 ·dsimp only
  by_cases h : k < c.length
  ·rw [List.getElem?_append_left h] at hj
   rw [hT k (by omega)]
   exact (a4 k j hj).mono (Nat.le_refl _) hR1
  ·rw [List.getElem?_append_right (by omega)] at hj
   obtain ⟨i, rfl⟩ : ∃ i, k = i + c.length := ⟨k - c.length, by omega⟩
   rw [Nat.add_sub_cancel] at hj
   rw [hU, show n + (i + c.length) = n + c.length + i by omega]
   exact (b4 i j hj).mono (Nat.le_refl _) hR2
theorem Ty.endc (h : Ty nb n c p q ((((n + c.length : Nat) : Int), q) :: E)) : Ty nb n c p q E := by
 obtain ⟨T, h1, h2, h3, h4⟩ := h
 refine ⟨T, h1, h2, h3, fun k j hj => (h4 k j hj).mono (Nat.le_refl _) fun t r h => ?_⟩
 rcases h with h | h
 ·exact .inl h
 ·rcases List.mem_cons.1 h with e | h
  ·obtain ⟨rfl, rfl⟩ := Prod.mk.inj e
   exact .inl ⟨c.length, rfl, Nat.le_refl _, h2⟩
  ·exact .inr h
theorem Ty.begc (h : Ty nb n c p q (((n : Int), p) :: E)) : Ty nb n c p q E := by
 obtain ⟨T, h1, h2, h3, h4⟩ := h
 refine ⟨T, h1, h2, h3, fun k j hj => (h4 k j hj).mono (Nat.le_refl _) fun t r h => ?_⟩
 rcases h with h | h
 ·exact .inl h
 ·rcases List.mem_cons.1 h with e | h
  ·obtain ⟨rfl, rfl⟩ := Prod.mk.inj e
   exact .inl ⟨0, rfl, Nat.zero_le _, h1⟩
  ·exact .inr h
theorem Ty.one {j : J} (hp : (0 ≤ p.1 ∧ 0 ≤ p.2) ∧ (0 ≤ q.1 ∧ q.1 ≤ p.1 + 1) ∧ 0 ≤ q.2 ∧ q.2 ≤ p.2 + 1) (h : okJ nb (fun t r => (t = (n : Int) + 1 ∧ r = q) ∨ (t, r) ∈ E) n j p) : Ty nb n [j] p q E := by
 refine ⟨fun k => if k = 0 then p else q, rfl, rfl, fun k hk => ?_, fun k i hi => ?_⟩
 ·by_cases e : k = 0
  ·subst e; simp only [if_true]; omega
  ·have : k = 1 := by simp at hk; omega
   subst this; simp only [Nat.one_ne_zero, if_false]; omega
 ·have : k = 0 := by have := (List.getElem?_eq_some_iff.1 hi).1; simp at this; exact this
  subst this
  simp at hi
  subst hi
  refine h.mono (Nat.le_refl _) fun t r h => ?_
  rcases h with ⟨rfl, rfl⟩ | h
  ·exact .inl ⟨1, by omega, by simp, rfl⟩
  ·exact .inr h
end
section
open Go.RowKit
theorem wp_appendQ {P : Program} {o : Oper} {a : Act} {w : World} {K : Act → World → Prop} {Q : Exit → Act → World → Prop} (s x : Operand) (t : TypeId)
  (ho : o.op = .call { callee := .builtin .append, args := #[s, x], argTypes := #[t, t] })
  (e : TypeId) (z : Value) (sz bytes : Nat) (ht : P.underlying t = some (.slice e)) (hrow : (P.info? e).map (fun i => (i.zero, i.size, i.bytes)) = some (some z, sz, bytes)) (hzs : z.cells.size = sz) (hsz0 : 0 < sz)
  (v : Value) (hs : a.eval s = v) (base n : Nat) (xs : List Value) (hown : w.ownsRow base e sz v n xs)
  (g0 c : Nat) (us : List Value) (hus : us.length = sz) (hx : a.eval x = .slice (some ⟨g0, 0, none⟩) 1 c) (hu : ∀ j y, us[j]? = some y → w.cell? ⟨g0, j, none⟩ = some y) (h1 : ∀ y ∈ us, y.oneCell' = true)
  (h63 : n + 1 ≤ 1099511627776) (hby : bytes ≤ 128) (hbase : base ≤ w.heap.size)
  (h : ∀ g cap w', w'.ownsRow base e sz (.slice (some ⟨g, 0, none⟩) (n + 1) cap) (n + 1) (xs ++ us) → Fr (fun k => some k = v.ownBlock) w w' → (v.ownBlock = some g ∨ w.heap.size ≤ g) → K (a.put o.dst (.slice (some ⟨g, 0, none⟩) (n + 1) cap)) w') : o.wp P a w K Q := by
 obtain ⟨i, hi, hz, hsz, hbt⟩ := info_parts hrow
 have hb2 : (n + 1) * bytes ≤ 140737488355328 := by
  have := Nat.mul_le_mul h63 hby
  omega
 have key : ∃ g cap w', (Builtin.append_ #[t, t] o.type #[v, .slice (some ⟨g0, 0, none⟩) 1 c]).run P w = .ok (.slice (some ⟨g, 0, none⟩) (n + 1) cap) w' ∧ w'.ownsRow base e sz (.slice (some ⟨g, 0, none⟩) (n + 1) cap) (n + 1) (xs ++ us) ∧ w.grownBy w' v.ownBlock ∧ (v.ownBlock = some g ∨ w.heap.size ≤ g) := by
  have hcells : ∀ j y, us[j]? = some y → w.cell? ((⟨g0, 0, none⟩ : Addr).add j) = some y := by
   intro j y hy
   have : (⟨g0, 0, none⟩ : Addr).add j = ⟨g0, j, none⟩ := by unfold Addr.add; split <;> simp_all
   rw [this]
   exact hu j y hy
  have hmx : n + 1 ≤ maxLen := by unfold maxLen; omega
  obtain ⟨v', w', hr, ho', hg, hn⟩ := run_append_own (P := P) w base t o.type e i z sz bytes ht hi hz hsz hbt hzs hsz0 v n xs hown ⟨g0, 0, none⟩ 1 c us (by rw [hus, Nat.one_mul]) hcells h1 hmx hb2 hbase
  rcases ho'.2 with ⟨_, h0⟩ | ⟨g, cap, cur, rfl, hbg, hgg, _⟩
  ·omega
  ·refine ⟨g, cap, w', hr, ho', hg, ?_⟩
   rcases hown.2 with ⟨rfl, rfl⟩ | ⟨g1, cap1, cur1, rfl, hb1, hg1, hnc, hcm, hcs, htk⟩
   ·refine .inr (Nat.le_of_not_lt fun hlt => ?_)
    have e1 := run_append_nil (P := P) w t o.type e i z ht hi hz ⟨g0, 0, none⟩ 1 c us (by rw [hus, hsz, Nat.one_mul]) hcells (by decide) (by decide) (by rw [hbt]; simp; omega)
    rw [hr] at e1
    simp only [Result.ok.injEq, Value.slice.injEq, Option.some.injEq, Addr.mk.injEq] at e1
    omega
   ·by_cases hroom : n + 1 ≤ cap1
    ·have e1 := run_append_room (P := P) w t o.type e i ht hi g1 n cap1 cur1 hg1 ⟨g0, 0, none⟩ 1 c us (by rw [hus, hsz, Nat.one_mul]) hcells h1 hroom (by rw [hcs, hus, hsz]; have := Nat.mul_le_mul_right sz hroom; rw [Nat.add_mul, Nat.one_mul] at this; exact this)
     rw [hr] at e1
     simp only [Result.ok.injEq, Value.slice.injEq, Option.some.injEq, Addr.mk.injEq] at e1
     left; simp [Value.ownBlock]; omega
    ·have holds : ∀ j u, xs[j]? = some u → w.cell? ((⟨g1, 0, none⟩ : Addr).add j) = some u := hown.cells (g := g1) rfl
     have e1 := run_append_grow (P := P) w t o.type e i z ht hi hz ⟨g1, 0, none⟩ n cap1 xs (by rw [hsz]; exact hown.1) holds ⟨g0, 0, none⟩ 1 c us (by rw [hus, hsz, Nat.one_mul]) hcells (by unfold maxLen at hmx; omega) (by omega) (growslice_fits (by omega) (by rw [hbt]; exact hb2))
     rw [hr] at e1
     simp only [Result.ok.injEq, Value.slice.injEq, Option.some.injEq, Addr.mk.injEq] at e1
     right; simp at e1; omega
 obtain ⟨g, cap, w', hr, ho', hg, hw⟩ := key
 unfold Oper.wp execOp
 simp only [ho, resolve, invoke, builtin, Sem.run_bind, Sem.run_pure, Result.andThen_ok, List.map_toArray, List.map_cons, List.map_nil, hs, hx, hr]
 exact h g cap w' ho' (Fr.of_grownBy hg) hw
theorem cells_newQ (w : World) (cs : Array Value) (t : TypeId) (fz : Nat × Nat) : ∀ j y, cs.toList[j]? = some y → (w.alloc (.cells cs t fz)).cell? ⟨w.heap.size, j, none⟩ = some y := by
 intro j y h
 have h0 : (w.alloc (.cells cs t fz)).heap[w.heap.size]? = some (.cells cs t fz) := heap_alloc_new w _
 rw [cell_of_row _ _ j _ _ _ h0]
 simpa using h
end
section
theorem last_skip {b : Bool} {p : Prop} (hb : b = true) : b = false → p := fun h => by rw [hb] at h; cases h
section
variable {P : Program} {ops : Array Oper} {Q : Exit → Act → World → Prop} {tk : List Nat}
def lastOf (tk : List Nat) (ops : Array Oper) (j : Nat) : Bool := tk.all fun i => ((ops[j]?).map fun o => o.after.any fun e => Region.binds .any e && e.on == i).getD false
def wpAnyF (P : Program) (tk : List Nat) (ops : Array Oper) (Q : Exit → Act → World → Prop) (S : World → Prop) : Nat → Array Bool → Act → World → Prop
 | 0, listed, a, w => Region.ready .any ops listed = [] ∧ Q .normal a w
 | fuel + 1, listed, a, w =>
  (Region.ready .any ops listed = [] → Q .normal a w) ∧
  ∀ i ∈ Region.ready .any ops listed, wpOp P ops Q i (fun a' w' => (lastOf tk ops i = false → S w') ∧ wpAnyF P tk ops Q S fuel (listed.setIfInBounds i true) a' w') a w
theorem wpAny_of_F {S : World → Prop} : ∀ (fuel : Nat) (listed : Array Bool) (a : Act) (w : World), wpAnyF P tk ops Q S fuel listed a w → wpAny P .any ops Q fuel listed a w
 | 0, _, _, _, h => h
 | fuel + 1, _, _, _, h => ⟨h.1, fun i hi => wpOp_mono (fun a' w' h' => wpAny_of_F fuel _ a' w' h'.2) (h.2 i hi)⟩
theorem wpAnyF_sub {S T : World → Prop} (hT : ∀ w, T w → S w) : ∀ (fuel : Nat) (listed : Array Bool) (a : Act) (w : World), wpAnyF P tk ops Q T fuel listed a w → wpAnyF P tk ops Q S fuel listed a w
 | 0, _, _, _, h => h
 | fuel + 1, _, _, _, h => ⟨h.1, fun i hi => wpOp_mono (fun a' w' h' => ⟨fun hl => hT _ (h'.1 hl), wpAnyF_sub hT fuel _ a' w' h'.2⟩) (h.2 i hi)⟩
theorem wpAnyF_first {S : World → Prop} {i : Nat} {oi : Oper} {v : Value} (hi : ops[i]? = some oi) (htk : i ∈ tk) (hsel : ∀ (j : Nat) (o : Oper) cs b, ops[j]? = some o → o.op ≠ .select cs b)
  (hQ : ∀ c a w, Q (.panic c) (a.put oi.dst v) w → Q (.panic c) a w) :
  ∀ (fuel : Nat) (listed : Array Bool) (a : Act) (w : World),
   (∀ j oj, ops[j]? = some oj → j ≠ i → listed.getD j true = false → (∀ e ∈ oj.after, Region.binds .any e = true → e.on ≠ i) → oi.apart ops oj = true) →
   i ∈ Region.ready .any ops listed → YieldsIf P ops S oi v a → S w →
   wpAnyF P tk ops Q S fuel (listed.setIfInBounds i true) (a.put oi.dst v) w → wpAnyF P tk ops Q S (fuel + 1) listed a w := by
 have wait : ∀ (listed : Array Bool), i ∈ Region.ready .any ops listed → ∀ j ∈ Region.ready .any ops listed, j ≠ i →
   ∃ oj, ops[j]? = some oj ∧ listed.getD j true = false ∧ (∀ e ∈ oj.after, Region.binds .any e = true → e.on ≠ i) ∧ lastOf tk ops j = false := by
  intro listed hr j hj hji
  obtain ⟨hjun, oj, hoj, hall⟩ := mem_ready.1 hj
  have hnot : ∀ e ∈ oj.after, Region.binds .any e = true → e.on ≠ i := fun e he hb heq => by
   have h1 := hall e he hb
   have h0 := (mem_ready.1 hr).1
   rw [heq] at h1
   rcases Nat.lt_or_ge i listed.size with h' | h'
   ·simp [h'] at h0 h1; rw [h0] at h1; cases h1
   ·simp [Array.getElem?_eq_none h'] at h1
  refine ⟨oj, hoj, hjun, hnot, ?_⟩
  unfold lastOf
  rw [Bool.eq_false_iff]
  intro hl
  have h1 := (List.all_eq_true.1 hl) i htk
  simp only [hoj, Option.map_some, Option.getD_some, beq_iff_eq, Array.any_eq_true', Bool.and_eq_true] at h1
  obtain ⟨e, he, hb, hon⟩ := h1
  exact hnot e he hb hon
 intro fuel
 induction fuel with
 | zero =>
  intro listed a w _ hr hy hS H
  refine ⟨fun h => (by rw [h] at hr; cases hr), fun j hj => ?_⟩
  by_cases hji : j = i
  ·subst hji; exact hy.wpOp hi hS ⟨fun _ => hS, H⟩
  ·have h2 := ready_mono hj hji
   rw [H.1] at h2
   cases h2
 | succ fuel ih =>
  intro listed a w hfree hr hy hS H
  refine ⟨fun h => (by rw [h] at hr; cases hr), fun j hj => ?_⟩
  by_cases hji : j = i
  ·subst hji; exact hy.wpOp hi hS ⟨fun _ => hS, H⟩
  ·obtain ⟨oj, hoj, hjun, hnot, hlast⟩ := wait listed hr j hj hji
   have h1 := H.2 j (ready_mono hj hji)
   have h2 := wpOp_putIf hoj (hfree j oj hoj hji hjun hnot) (fun cs b => hsel i oi cs b hi) (fun cs b => hsel j oj cs b hoj) hQ hy h1
   have hfree' : ∀ k ok, ops[k]? = some ok → k ≠ i → (listed.setIfInBounds j true).getD k true = false →
     (∀ e ∈ ok.after, Region.binds .any e = true → e.on ≠ i) → oi.apart ops ok = true := fun k ok hk hki hun hno => by
    refine hfree k ok hk hki ?_ hno
    by_cases hjk : j = k
    ·subst hjk; exact hjun
    ·rw [getD_set_ne true hjk] at hun; exact hun
   refine wpOp_mono (fun a' w' h3 => ⟨fun hl => h3.2.1 hl, ih (listed.setIfInBounds j true) a' w' hfree' (ready_mono hr (Ne.symm hji)) h3.1 (h3.2.1 hlast) ?_⟩) h2
   rw [Array.setIfInBounds_comm _ _ hji]
   exact h3.2.2
def wpO (P : Program) (tk : List Nat) (ops : Array Oper) (Q : Exit → Act → World → Prop) : List (Nat × Nat) → (World → Prop) → Act → World → Prop
 | [], _, a, w => Q .normal a w
 | (i, 0) :: r, S, a, w => ∃ o v, ops[i]? = some o ∧ YieldsIf P ops S o v a ∧ wpO P tk ops Q r S (a.put o.dst v) w
 | (i, 1) :: r, S, a, w => wpOp P ops Q i (fun a' w' => (lastOf tk ops i = false → S w') ∧ wpO P tk ops Q r S a' w') a w
 | (_, _) :: r, S, a, w => ∃ T : World → Prop, (∀ w', T w' → S w') ∧ T w ∧ wpO P tk ops Q r T a w
def okO (tk : List Nat) (ops : Array Oper) : List (Nat × Nat) → Array Bool → Bool
 | [], listed => (Region.ready .any ops listed).isEmpty
 | (i, 0) :: r, listed => tk.contains i && Region.free .any ops listed i && (Region.ready .any ops listed).contains i && okO tk ops r (listed.setIfInBounds i true)
 | (i, 1) :: r, listed => Region.ready .any ops listed == [i] && (!lastOf tk ops i || r.all fun p => p.2 == 1) && okO tk ops r (listed.setIfInBounds i true)
 | (_, _) :: r, listed => okO tk ops r listed
def lenO : List (Nat × Nat) → Nat
 | [] => 0
 | (_, 0) :: r => lenO r + 1
 | (_, 1) :: r => lenO r + 1
 | (_, _) :: r => lenO r
theorem wpO_sound (hs : Region.noSelect ops = true) (hQ : ∀ c a d v w, Q (.panic c) (Act.put a d v) w → Q (.panic c) a w) : ∀ (ord : List (Nat × Nat)) (S : World → Prop) (listed : Array Bool) (a : Act) (w : World),
  okO tk ops ord listed = true → S w ∨ (∀ p ∈ ord, p.2 = 1) → wpO P tk ops Q ord S a w → wpAnyF P tk ops Q S (lenO ord) listed a w := by
 intro ord
 induction ord with
 | nil =>
  intro S listed a w hc _ h
  exact ⟨by simpa [okO] using hc, h⟩
 | cons p r ih =>
  obtain ⟨i, k⟩ := p
  intro S listed a w hc hS h
  match k with
  | 0 =>
   rcases hS with hS | hS
   ·simp only [okO, Bool.and_eq_true] at hc
    obtain ⟨⟨⟨ht, hf⟩, hr⟩, hc'⟩ := hc
    obtain ⟨o, v, hi, hy, h'⟩ := h
    exact wpAnyF_first hi (by simpa using ht) (Region.noSelect_spec hs) (fun c a w => hQ c a _ _ w) (lenO r) listed a w (Region.free_spec hi hf) (by simpa using hr) hy hS (ih S _ _ w hc' (.inl hS) h')
   ·have := hS (i, 0) (List.mem_cons_self ..)
    simp at this
  | 1 =>
   simp only [okO, Bool.and_eq_true, beq_iff_eq] at hc
   obtain ⟨⟨hr, hz⟩, hc'⟩ := hc
   refine ⟨fun h0 => (by rw [hr] at h0; cases h0), fun j hj => ?_⟩
   rw [hr] at hj
   simp only [List.mem_singleton] at hj
   subst hj
   refine wpOp_mono (fun a' w' h' => ⟨h'.1, ih S _ a' w' hc' ?_ h'.2⟩) h
   by_cases hl : lastOf tk ops j = true
   ·right
    intro p hp
    simp only [hl, Bool.not_true, Bool.false_or, List.all_eq_true, beq_iff_eq] at hz
    exact hz p hp
   ·exact .inl (h'.1 (by simpa using hl))
  | k + 2 =>
   obtain ⟨T, h1, h2, h3⟩ := h
   exact wpAnyF_sub h1 _ _ _ _ (ih T listed a w (by simpa [okO] using hc) (.inl h2) h3)
theorem wp_region_ord {id : Nat} {a : Act} {w : World} {l : List Oper} (ord : List (Nat × Nat)) (S : World → Prop) (hm : P.follows .mixedOrders = true) (hs : Region.noSelect l.toArray = true)
  (hc : okO ((ord.filter fun p => p.2 == 0).map Prod.fst) l.toArray ord (Array.replicate l.length false) = true) (hn : lenO ord = l.length) (hQ : ∀ c a d v w, Q (.panic c) (Act.put a d v) w → Q (.panic c) a w)
  (hS : S w.drew) (h : wpO P ((ord.filter fun p => p.2 == 0).map Prod.fst) l.toArray Q ord S a w.drew) : (Code.region id l.toArray true).wp P Q a w := by
 refine wp_region_any hm (wpAny_of_F (tk := (ord.filter fun p => p.2 == 0).map Prod.fst) (S := S) _ _ _ _ ?_)
 have := wpO_sound hs hQ ord S (Array.replicate l.length false) a w.drew hc (.inl hS) h
 rw [hn] at this
 simpa using this
def nth : List Oper → Nat → Option Oper
 | [], _ => none
 | o :: _, 0 => some o
 | _ :: l, i + 1 => nth l i
theorem nth_spec : ∀ (l : List Oper) (i : Nat), l.toArray[i]? = nth l i
 | [], _ => by simp [nth]
 | o :: l, 0 => by simp [nth]
 | o :: l, i + 1 => by
  have := nth_spec l i
  simp only [List.getElem?_toArray] at this
  simp [nth, this]
variable {l : List Oper}
theorem wpO_take {S : World → Prop} {i : Nat} {r : List (Nat × Nat)} {a : Act} {w : World} {o : Oper} (v : Value) (hi : nth l i = some o) (hg : Region.wanted o (yielded l.toArray a.tmps) = true)
  (hy : ∀ w', S w' → (execOp a.eval o).run P w' = .ok (.value v) w') (h : wpO P tk l.toArray Q r S (a.put o.dst v) w) : wpO P tk l.toArray Q ((i, 0) :: r) S a w :=
 ⟨o, v, (nth_spec l i).trans hi, .inl ⟨hg, hy⟩, h⟩
theorem wpO_pass {S : World → Prop} {i : Nat} {r : List (Nat × Nat)} {a : Act} {w : World} {o : Oper} (hi : nth l i = some o) (hg : Region.wanted o (yielded l.toArray a.tmps) = false)
  (h : wpO P tk l.toArray Q r S (a.put o.dst undef) w) : wpO P tk l.toArray Q ((i, 0) :: r) S a w :=
 ⟨o, undef, (nth_spec l i).trans hi, .inr ⟨hg, rfl⟩, h⟩
theorem wpO_run {S : World → Prop} {i : Nat} {r : List (Nat × Nat)} {a : Act} {w : World} {o : Oper} (hi : nth l i = some o) (hg : Region.wanted o (yielded l.toArray a.tmps) = true)
  (h : ∀ K : Act → World → Prop, (∀ a' w', (lastOf tk l.toArray i = false → S w') → wpO P tk l.toArray Q r S a' w' → K a' w') → o.wp P a w K Q) : wpO P tk l.toArray Q ((i, 1) :: r) S a w := by
 unfold wpO wpOp
 simp only [(nth_spec l i).trans hi, hg, if_true]
 exact .inl (h _ fun a' w' h1 h2 => ⟨h1, h2⟩)
theorem wpO_end {S : World → Prop} {a : Act} {w : World} (h : Q .normal a w) : wpO P tk ops Q [] S a w := h
theorem wpList_of_quiet {C : World → Prop} {Q1 : Act → Prop} (hQ : ∀ a w, C w → Q1 a → Q .normal a w) : ∀ (r : List Oper) (a : Act) (w : World), C w → wpQuiet P ops C Q1 r a → wpList P ops Q r a w
 | [], a, w, hw, h => hQ a w hw h
 | o :: r, a, w, hw, h => by
  unfold wpList
  unfold wpQuiet at h
  split
  ·rename_i hg
   rw [if_pos hg] at h
   exact .inl (Oper.wp_of_quiet hw (fun a' w' hw' h' => wpList_of_quiet hQ r a' w' hw' h') h)
  ·rename_i hg
   rw [if_neg hg] at h
   exact wpList_of_quiet hQ r _ w hw h
theorem wp_region_cls {id : Nat} {a : Act} {w : World} (C : World → Prop) (hm : P.follows .mixedOrders = true) (hB : Region.lexB .any l.toArray = true) (hC : C w.drew)
  (h : wpQuiet P l.toArray C (fun a' => ∀ w', C w' → Q .normal a' w') l a) : (Code.region id l.toArray true).wp P Q a w :=
 wp_region_quiet (C := C) hm hB hC (by simpa using h)
theorem wp_region_cls0 {id : Nat} {a : Act} {w : World} (C : World → Prop) (hC : C w)
  (h : wpQuiet P l.toArray C (fun a' => ∀ w', C w' → Q .normal a' w') l a) : (Code.region id l.toArray false).wp P Q a w :=
 wp_region_lit (wpList_of_quiet (fun _ w' hw' h' => h' w' hw') l a w hC h)
theorem q_take {C : World → Prop} {Q1 : Act → Prop} {a : Act} {o : Oper} {r : List Oper} (v : Value) (hg : Region.wanted o (yielded ops a.tmps) = true)
  (hy : ∀ w, C w → (execOp a.eval o).run P w = .ok (.value v) w) (h : wpQuiet P ops C Q1 r (a.put o.dst v)) : wpQuiet P ops C Q1 (o :: r) a := by
 unfold wpQuiet
 rw [if_pos hg]
 exact ⟨v, fun w hw => by unfold Oper.quietAt; rw [hy w hw]; exact ⟨rfl, rfl⟩, h⟩
theorem q_pass {C : World → Prop} {Q1 : Act → Prop} {a : Act} {o : Oper} {r : List Oper} (hg : Region.wanted o (yielded ops a.tmps) = false) (h : wpQuiet P ops C Q1 r (a.put o.dst undef)) : wpQuiet P ops C Q1 (o :: r) a := by
 unfold wpQuiet
 rw [if_neg (by rw [hg]; simp)]
 exact h
theorem q_call {C : World → Prop} {Q1 : Act → Prop} {a : Act} {o : Oper} {r : List Oper} (f : FuncId) (args : Array Value) (hg : Region.wanted o (yielded ops a.tmps) = true)
  (hr : ∀ w, C w → (execOp a.eval o).run P w = .ok (.enter f args) w) (h : ∃ v, (∀ w, C w → Calls P f args w fun e w' => e = .returned v ∧ C w') ∧ wpQuiet P ops C Q1 r (a.put o.dst v)) : wpQuiet P ops C Q1 (o :: r) a := by
 obtain ⟨v, hc, h⟩ := h
 unfold wpQuiet
 rw [if_pos hg]
 exact ⟨v, fun w hw => by unfold Oper.quietAt; rw [hr w hw]; exact ⟨rfl, hc w hw⟩, h⟩
def rowDesc (d : TypeDesc) : Bool := match d with | .struct _ | .array _ _ => true | _ => false
theorem q_load {C : World → Prop} {Q1 : Act → Prop} {a : Act} {o : Oper} {r : List Oper} {ty : TypeId} {x : Operand} {b t : Nat} {cs : Array Value} {fr : Nat × Nat} (hg : Region.wanted o (yielded ops a.tmps) = true) (ho : o.op = .load ty x)
  (hx : a.eval x = .pointer (some ⟨b, 0, none⟩)) (hb : ∀ w, C w → w.heap[b]? = some (.cells cs t fr)) (hd : (P.underlying ty).any rowDesc = true) (hi : (P.info? ty).map (·.size) = some cs.size)
  (h : wpQuiet P ops C Q1 r (a.put o.dst (.agg cs))) : wpQuiet P ops C Q1 (o :: r) a := by
 refine q_take (.agg cs) hg (fun w hw => ?_) h
 have h2 : (loadVar ty ⟨b, 0, none⟩).run P w = .ok (.agg cs) w := by
  cases hu : P.underlying ty with
  | none => rw [hu] at hd; simp at hd
  | some d =>
   rw [hu] at hd
   cases d with
   | struct fs => exact run_loadVar_row w b t ty cs fr (.struct fs) (hb w hw) hu rfl hi
   | array n e => exact run_loadVar_row w b t ty cs fr (.array n e) (hb w hw) hu rfl hi
   | _ => simp [rowDesc] at hd
 unfold execOp
 simp only [ho, hx, Instr.loadAt, Instr.sureAddr, Sem.run_bind, Sem.run_pure, Result.andThen_ok, h2]
theorem q_end {C : World → Prop} {Q1 : Act → Prop} {a : Act} (h : Q1 a) : wpQuiet P ops C Q1 [] a := h
end
end
section
open Go.RowKit
inductive V where
 | mk (k n : Int) (s : ByteArray) (l : List V)
namespace V
def k : V → Int | .mk k _ _ _ => k
def n : V → Int | .mk _ n _ _ => n
def s : V → ByteArray | .mk _ _ s _ => s
def l : V → List V | .mk _ _ _ l => l
end V
inductive VIn (D : Nat → Prop) (w : World) : V → Array Value → Prop where
 | mk (k n : Int) (s : ByteArray) (l : List V) (a : Option Addr) (cap : Nat) (us : Nat → Array Value) (hc : l.length ≤ cap) (hm : cap ≤ maxLen)
  (hn : a = none → cap = 0)
  (hb : ∀ i, i < l.length → ∃ b o, a = some ⟨b, o, none⟩ ∧ D b ∧ (us i).size = 4 ∧ ∀ j, j < 4 → w.cell? ⟨b, o + i * 4 + j, none⟩ = (us i)[j]?)
  (hi : ∀ i x, l[i]? = some x → VIn D w x (us i)) : VIn D w (.mk k n s l) #[.int .i64 k, .int .i64 n, .string s, .slice a l.length cap]
def VL (D : Nat → Prop) (w : World) (l : List V) (v : Value) : Prop :=
 ∃ a cap, ∃ us : Nat → Array Value, v = .slice a l.length cap ∧ l.length ≤ cap ∧ cap ≤ maxLen ∧ (a = none → cap = 0) ∧
  (∀ i, i < l.length → ∃ b o, a = some ⟨b, o, none⟩ ∧ D b ∧ (us i).size = 4 ∧ ∀ j, j < 4 → w.cell? ⟨b, o + i * 4 + j, none⟩ = (us i)[j]?) ∧ ∀ i x, l[i]? = some x → VIn D w x (us i)
theorem VIn.open {D : Nat → Prop} {w : World} {x : V} {u : Array Value} (h : VIn D w x u) : ∃ v, u = #[.int .i64 x.k, .int .i64 x.n, .string x.s, v] ∧ VL D w x.l v := by
 cases h with
 | mk k n s l a cap us hc hm hn hb hi => exact ⟨_, rfl, a, cap, us, rfl, hc, hm, hn, hb, hi⟩
theorem VL.close {D : Nat → Prop} {w : World} {l : List V} {v : Value} (h : VL D w l v) (k n : Int) (s : ByteArray) : VIn D w (.mk k n s l) #[.int .i64 k, .int .i64 n, .string s, v] := by
 obtain ⟨a, cap, us, rfl, hc, hm, hn, hb, hi⟩ := h
 exact .mk k n s l a cap us hc hm hn hb hi
theorem VIn.frame {D S : Nat → Prop} {w w' : World} {x : V} {u : Array Value} (h : VIn D w x u) (hf : Fr S w w') (hd : ∀ k, D k → ¬ S k) : VIn D w' x u := by
 induction h with
 | mk k n s l a cap us hc hm hn hb hi ih =>
  refine .mk k n s l a cap us hc hm hn (fun i hil => ?_) ih
  obtain ⟨b, o, e, hD, h4, hcell⟩ := hb i hil
  refine ⟨b, o, e, hD, h4, fun j hj => ?_⟩
  have h1 := hcell j hj
  rw [Array.getElem?_eq_getElem (by omega)] at h1 ⊢
  exact hf.cell h1 (hd _ hD)
theorem VIn.mono {D E : Nat → Prop} {w : World} {x : V} {u : Array Value} (h : VIn D w x u) (hd : ∀ k, k < w.heap.size → D k → E k) : VIn E w x u := by
 induction h with
 | mk k n s l a cap us hc hm hn hb hi ih =>
  refine .mk k n s l a cap us hc hm hn (fun i hil => ?_) ih
  obtain ⟨b, o, e, hD, h4, hcell⟩ := hb i hil
  have h1 := hcell 0 (by omega)
  rw [Array.getElem?_eq_getElem (by omega)] at h1
  exact ⟨b, o, e, hd _ (World.block_lt_of_cell? _ _ h1) hD, h4, hcell⟩
theorem VL.frame {D S : Nat → Prop} {w w' : World} {l : List V} {v : Value} (h : VL D w l v) (hf : Fr S w w') (hd : ∀ k, D k → ¬ S k) : VL D w' l v := by
 have := ((h.close 0 0 ⟨#[]⟩).frame hf hd).open
 obtain ⟨v', e, h'⟩ := this
 simp at e
 obtain ⟨-, -, -, rfl⟩ := e
 exact h'
theorem VL.mono {D E : Nat → Prop} {w : World} {l : List V} {v : Value} (h : VL D w l v) (hd : ∀ k, k < w.heap.size → D k → E k) : VL E w l v := by
 have := ((h.close 0 0 ⟨#[]⟩).mono hd).open
 obtain ⟨v', e, h'⟩ := this
 simp at e
 obtain ⟨-, -, -, rfl⟩ := e
 exact h'
theorem VL.nil (D : Nat → Prop) (w : World) : VL D w [] (.slice none 0 0) :=
 ⟨none, 0, fun _ => #[], rfl, Nat.le_refl _, Nat.zero_le _, fun _ => rfl, fun i hi => by simp at hi, fun i x h => by simp at h⟩
theorem VL.elem {D : Nat → Prop} {w : World} {l : List V} {a : Option Addr} {us : Nat → Array Value}
  (hb : ∀ i, i < l.length → ∃ b o, a = some ⟨b, o, none⟩ ∧ D b ∧ (us i).size = 4 ∧ ∀ j, j < 4 → w.cell? ⟨b, o + i * 4 + j, none⟩ = (us i)[j]?) (hi : ∀ i x, l[i]? = some x → VIn D w x (us i)) (k : Nat) (hk : k < l.length) :
  ∃ b o y a' c', a = some ⟨b, o, none⟩ ∧ D b ∧ l[k]? = some y ∧ VIn D w y #[.int .i64 y.k, .int .i64 y.n, .string y.s, .slice a' y.l.length c'] ∧ w.cell? ⟨b, o + k * 4, none⟩ = some (.int .i64 y.k) ∧
   w.cell? ⟨b, o + k * 4 + 1, none⟩ = some (.int .i64 y.n) ∧ w.cell? ⟨b, o + k * 4 + 2, none⟩ = some (.string y.s) ∧ w.cell? ⟨b, o + k * 4 + 3, none⟩ = some (.slice a' y.l.length c') := by
 obtain ⟨b, o, rfl, hD, h4, hcell⟩ := hb k hk
 have hv := hi k l[k] (List.getElem?_eq_getElem hk)
 obtain ⟨v, e, a', c', us', rfl, _⟩ := hv.open
 rw [e] at hv hcell
 exact ⟨b, o, l[k], a', c', rfl, hD, List.getElem?_eq_getElem hk, hv, hcell 0 (by omega), hcell 1 (by omega), hcell 2 (by omega), hcell 3 (by omega)⟩
end
section
open Go.RowKit
mutual
def V.size : V → Nat
 | .mk _ _ s l => 1 + s.size + sizeL l
def sizeL : List V → Nat
 | [] => 0
 | x :: r => V.size x + sizeL r
end
theorem V.size_eq (x : V) : x.size = 1 + x.s.size + sizeL x.l := by cases x; simp [V.size, V.s, V.l]
theorem sizeL_take : ∀ (l : List V) (k : Nat) (x : V), l[k]? = some x → sizeL (l.take (k + 1)) = sizeL (l.take k) + x.size
 | [], k, x, h => by simp at h
 | y :: r, 0, x, h => by
  simp at h
  subst h
  simp [sizeL]
 | y :: r, k + 1, x, h => by
  have := sizeL_take r k x (by simpa using h)
  simp only [List.take_succ_cons, sizeL, this]
  omega
theorem sizeL_take_le : ∀ (l : List V) (k : Nat), sizeL (l.take k) ≤ sizeL l
 | [], k => by simp
 | y :: r, 0 => by simp [sizeL]
 | y :: r, k + 1 => by
  have := sizeL_take_le r k
  simp only [List.take_succ_cons, sizeL]
  omega
theorem sizeL_mem {l : List V} {k : Nat} {x : V} (h : l[k]? = some x) : x.size ≤ sizeL l := by
 have h1 := sizeL_take l k x h
 have h2 := sizeL_take_le l (k + 1)
 omega
end
section
open Go.RowKit
inductive Nd where
 | mk (op ln : Int) (s : ByteArray) (v : V) (l : List Nd)
namespace Nd
def op : Nd → Int | .mk o _ _ _ _ => o
def ln : Nd → Int | .mk _ n _ _ _ => n
def s : Nd → ByteArray | .mk _ _ s _ _ => s
def v : Nd → V | .mk _ _ _ v _ => v
def l : Nd → List Nd | .mk _ _ _ _ l => l
end Nd
inductive NIn (D : Nat → Prop) (w : World) : Nd → Array Value → Prop where
 | mk (op ln : Int) (s : ByteArray) (v : V) (l : List Nd) (va : Value) (a : Option Addr) (cap : Nat) (us : Nat → Array Value) (hv : VL D w v.l va) (hc : l.length ≤ cap) (hm : cap ≤ maxLen)
  (hn : a = none → cap = 0)
  (hb : ∀ i, i < l.length → ∃ b o, a = some ⟨b, o, none⟩ ∧ D b ∧ (us i).size = 8 ∧ ∀ j, j < 8 → w.cell? ⟨b, o + i * 8 + j, none⟩ = (us i)[j]?)
  (hi : ∀ i x, l[i]? = some x → NIn D w x (us i)) : NIn D w (.mk op ln s v l) #[.int .i64 op, .int .i64 ln, .string s, .int .i64 v.k, .int .i64 v.n, .string v.s, va, .slice a l.length cap]
def NL (D : Nat → Prop) (w : World) (l : List Nd) (v : Value) : Prop :=
 ∃ a cap, ∃ us : Nat → Array Value, v = .slice a l.length cap ∧ l.length ≤ cap ∧ cap ≤ maxLen ∧ (a = none → cap = 0) ∧
  (∀ i, i < l.length → ∃ b o, a = some ⟨b, o, none⟩ ∧ D b ∧ (us i).size = 8 ∧ ∀ j, j < 8 → w.cell? ⟨b, o + i * 8 + j, none⟩ = (us i)[j]?) ∧ ∀ i x, l[i]? = some x → NIn D w x (us i)
theorem NIn.open {D : Nat → Prop} {w : World} {x : Nd} {u : Array Value} (h : NIn D w x u) : ∃ va v, u = #[.int .i64 x.op, .int .i64 x.ln, .string x.s, .int .i64 x.v.k, .int .i64 x.v.n, .string x.v.s, va, v] ∧ VL D w x.v.l va ∧ NL D w x.l v := by
 cases h with
 | mk op ln s v l va a cap us hv hc hm hn hb hi => exact ⟨_, _, rfl, hv, a, cap, us, rfl, hc, hm, hn, hb, hi⟩
theorem NL.close {D : Nat → Prop} {w : World} {l : List Nd} {v va : Value} (h : NL D w l v) (op ln : Int) (s : ByteArray) (x : V) (hx : VL D w x.l va) : NIn D w (.mk op ln s x l) #[.int .i64 op, .int .i64 ln, .string s, .int .i64 x.k, .int .i64 x.n, .string x.s, va, v] := by
 obtain ⟨a, cap, us, rfl, hc, hm, hn, hb, hi⟩ := h
 exact .mk op ln s x l va a cap us hx hc hm hn hb hi
theorem NIn.frame {D S : Nat → Prop} {w w' : World} {x : Nd} {u : Array Value} (h : NIn D w x u) (hf : Fr S w w') (hd : ∀ k, D k → ¬ S k) : NIn D w' x u := by
 induction h with
 | mk op ln s v l va a cap us hv hc hm hn hb hi ih =>
  refine .mk op ln s v l va a cap us (hv.frame hf hd) hc hm hn (fun i hil => ?_) ih
  obtain ⟨b, o, e, hD, h4, hcell⟩ := hb i hil
  refine ⟨b, o, e, hD, h4, fun j hj => ?_⟩
  have h1 := hcell j hj
  rw [Array.getElem?_eq_getElem (by omega)] at h1 ⊢
  exact hf.cell h1 (hd _ hD)
theorem NIn.mono {D E : Nat → Prop} {w : World} {x : Nd} {u : Array Value} (h : NIn D w x u) (hd : ∀ k, k < w.heap.size → D k → E k) : NIn E w x u := by
 induction h with
 | mk op ln s v l va a cap us hv hc hm hn hb hi ih =>
  refine .mk op ln s v l va a cap us (hv.mono hd) hc hm hn (fun i hil => ?_) ih
  obtain ⟨b, o, e, hD, h4, hcell⟩ := hb i hil
  have h1 := hcell 0 (by omega)
  rw [Array.getElem?_eq_getElem (by omega)] at h1
  exact ⟨b, o, e, hd _ (World.block_lt_of_cell? _ _ h1) hD, h4, hcell⟩
theorem NL.frame {D S : Nat → Prop} {w w' : World} {l : List Nd} {v : Value} (h : NL D w l v) (hf : Fr S w w') (hd : ∀ k, D k → ¬ S k) : NL D w' l v := by
 have := ((h.close 0 0 ⟨#[]⟩ (.mk 0 0 ⟨#[]⟩ []) (VL.nil D w)).frame hf hd).open
 obtain ⟨va, v', e, -, h'⟩ := this
 simp at e
 obtain ⟨-, -, -, -, -, -, -, rfl⟩ := e
 exact h'
theorem NL.mono {D E : Nat → Prop} {w : World} {l : List Nd} {v : Value} (h : NL D w l v) (hd : ∀ k, k < w.heap.size → D k → E k) : NL E w l v := by
 have := ((h.close 0 0 ⟨#[]⟩ (.mk 0 0 ⟨#[]⟩ []) (VL.nil D w)).mono hd).open
 obtain ⟨va, v', e, -, h'⟩ := this
 simp at e
 obtain ⟨-, -, -, -, -, -, -, rfl⟩ := e
 exact h'
theorem NL.nil (D : Nat → Prop) (w : World) : NL D w [] (.slice none 0 0) :=
 ⟨none, 0, fun _ => #[], rfl, Nat.le_refl _, Nat.zero_le _, fun _ => rfl, fun i hi => by simp at hi, fun i x h => by simp at h⟩
theorem NL.elem {D : Nat → Prop} {w : World} {l : List Nd} {a : Option Addr} {us : Nat → Array Value}
  (hb : ∀ i, i < l.length → ∃ b o, a = some ⟨b, o, none⟩ ∧ D b ∧ (us i).size = 8 ∧ ∀ j, j < 8 → w.cell? ⟨b, o + i * 8 + j, none⟩ = (us i)[j]?) (hi : ∀ i x, l[i]? = some x → NIn D w x (us i)) (k : Nat) (hk : k < l.length) :
  ∃ b o y va c1 a' c', a = some ⟨b, o, none⟩ ∧ D b ∧ l[k]? = some y ∧ NIn D w y #[.int .i64 y.op, .int .i64 y.ln, .string y.s, .int .i64 y.v.k, .int .i64 y.v.n, .string y.v.s, .slice va y.v.l.length c1, .slice a' y.l.length c'] ∧
   w.cell? ⟨b, o + k * 8, none⟩ = some (.int .i64 y.op) ∧ w.cell? ⟨b, o + k * 8 + 1, none⟩ = some (.int .i64 y.ln) ∧ w.cell? ⟨b, o + k * 8 + 2, none⟩ = some (.string y.s) ∧ w.cell? ⟨b, o + k * 8 + 3, none⟩ = some (.int .i64 y.v.k) ∧
   w.cell? ⟨b, o + k * 8 + 4, none⟩ = some (.int .i64 y.v.n) ∧ w.cell? ⟨b, o + k * 8 + 5, none⟩ = some (.string y.v.s) ∧ w.cell? ⟨b, o + k * 8 + 6, none⟩ = some (.slice va y.v.l.length c1) ∧ w.cell? ⟨b, o + k * 8 + 7, none⟩ = some (.slice a' y.l.length c') := by
 obtain ⟨b, o, rfl, hD, h4, hcell⟩ := hb k hk
 have hv := hi k l[k] (List.getElem?_eq_getElem hk)
 obtain ⟨va, v, e, ⟨va', c1, us1, rfl, -⟩, ⟨a', c', us', rfl, -⟩⟩ := hv.open
 rw [e] at hv hcell
 exact ⟨b, o, l[k], va', c1, a', c', rfl, hD, List.getElem?_eq_getElem hk, hv, hcell 0 (by omega), hcell 1 (by omega), hcell 2 (by omega), hcell 3 (by omega), hcell 4 (by omega), hcell 5 (by omega), hcell 6 (by omega), hcell 7 (by omega)⟩
mutual
def Nd.cnt : Nd → Nat
 | .mk _ _ _ _ l => 1 + cntL l
def cntL : List Nd → Nat
 | [] => 0
 | x :: r => Nd.cnt x + cntL r
end
mutual
def Nd.dep : Nd → Nat
 | .mk _ _ _ _ l => 1 + depL l
def depL : List Nd → Nat
 | [] => 0
 | x :: r => max (Nd.dep x) (depL r)
end
theorem Nd.cnt_eq (x : Nd) : x.cnt = 1 + cntL x.l := by cases x; simp [Nd.cnt, Nd.l]
theorem Nd.dep_eq (x : Nd) : x.dep = 1 + depL x.l := by cases x; simp [Nd.dep, Nd.l]
theorem cntL_take : ∀ (l : List Nd) (k : Nat) (x : Nd), l[k]? = some x → cntL (l.take (k + 1)) = cntL (l.take k) + x.cnt
 | [], k, x, h => by simp at h
 | y :: r, 0, x, h => by
  simp at h
  subst h
  simp [cntL]
 | y :: r, k + 1, x, h => by
  have := cntL_take r k x (by simpa using h)
  simp only [List.take_succ_cons, cntL, this]
  omega
theorem cntL_take_le : ∀ (l : List Nd) (k : Nat), cntL (l.take k) ≤ cntL l
 | [], k => by simp
 | y :: r, 0 => by simp [cntL]
 | y :: r, k + 1 => by
  have := cntL_take_le r k
  simp only [List.take_succ_cons, cntL]
  omega
theorem cntL_mem {l : List Nd} {k : Nat} {x : Nd} (h : l[k]? = some x) : x.cnt ≤ cntL l := by
 have h1 := cntL_take l k x h
 have h2 := cntL_take_le l (k + 1)
 omega
theorem len_le_cnt : ∀ (l : List Nd), l.length ≤ cntL l
 | [] => by simp
 | x :: r => by
  have := len_le_cnt r
  have h := Nd.cnt_eq x
  simp only [List.length_cons, cntL]
  omega
theorem depL_take : ∀ (l : List Nd) (k : Nat) (x : Nd), l[k]? = some x → depL (l.take (k + 1)) = max (depL (l.take k)) x.dep
 | [], k, x, h => by simp at h
 | y :: r, 0, x, h => by
  simp at h
  subst h
  simp [depL]
 | y :: r, k + 1, x, h => by
  have := depL_take r k x (by simpa using h)
  simp only [List.take_succ_cons, depL, this]
  omega
mutual
theorem Nd.dep_le : ∀ (x : Nd), x.dep ≤ x.cnt
 | .mk _ _ _ _ l => by
  have := depL_le' l
  simp only [Nd.dep, Nd.cnt]
  omega
theorem depL_le' : ∀ (l : List Nd), depL l ≤ cntL l
 | [] => by simp [depL]
 | x :: r => by
  have h1 := Nd.dep_le x
  have h2 := depL_le' r
  simp only [depL, cntL]
  omega
end
end
section
open Go.RowKit
structure MS where
 L : List J
 nb : Nat
 ln : Int
def InsOk (xs : List Value) (L : List J) : Prop := ∀ i j, L[i]? = some j → xs[i * 8]? = some (.int .i64 j.op) ∧ xs[i * 8 + 1]? = some (.int .i64 j.a) ∧ xs[i * 8 + 2]? = some (.int .i64 j.b) ∧ xs[i * 8 + 3]? = some (.string j.s) ∧ ∀ t, 4 ≤ t → t < 8 → ∃ u, xs[i * 8 + t]? = some u ∧ u.oneCell' = true
def lnV (L : List J) : List Value := L.map fun j => .int .i64 j.ln
def CodeAt (base : Nat) (w : World) (C : Nat) (sv : Value) (L : List J) (nb : Nat) : Prop :=
 ∃ lv nv bv xs zs, w.heap[C]? = some (.cells #[lv, nv, bv, sv] 67 (0, 0)) ∧ w.ownsRow base 93 8 lv L.length xs ∧ InsOk xs L ∧ w.ownsRow base 3 1 nv L.length (lnV L) ∧ w.ownsRow base 22 1 bv nb zs
def NKept (V w : World) : Prop := ∀ (k : Nat) (cs : Array Value) (fz : Nat × Nat), V.heap[k]? = some (.cells cs 75 fz) → w.heap[k]? = some (.cells cs 75 fz)
theorem NKept.refl (w : World) : NKept w w := fun _ _ _ h => h
theorem NKept.trans {a b c : World} (h : NKept a b) (k : NKept b c) : NKept a c := fun q cs fz e => k q cs fz (h q cs fz e)
theorem NKept.step {V w w' : World} {S : Nat → Prop} (h : NKept V w) (hf : Fr S w w') (hS : ∀ k cs fz, w.heap[k]? = some (.cells cs 75 fz) → ¬ S k) : NKept V w' := fun k cs fz e => hf.heap (h k cs fz e) (hS k cs fz (h k cs fz e))
theorem node_ne_own {w : World} {b e s n : Nat} {v : Value} {xs : List Value} (h : w.ownsRow b e s v n xs) (he : e ≠ 75) : ∀ k cs fz, w.heap[k]? = some (.cells cs 75 fz) → ¬ some k = v.ownBlock := fun k _ _ hk e' => own_ne_cells h hk he k e'.symm rfl
theorem node_ne_cells {w : World} {g t : Nat} {c : Array Value} {f : Nat × Nat} (h : w.heap[g]? = some (.cells c t f)) (ht : t ≠ 75) : ∀ k cs fz, w.heap[k]? = some (.cells cs 75 fz) → ¬ k = g := fun k cs fz hk e => by
 subst e
 rw [h] at hk
 simp only [Option.some.injEq, Obj.cells.injEq] at hk
 exact ht hk.2.1
def NvB (w : World) (C k : Nat) : Prop := ∃ (cs : Array Value) (t : TypeId) (fz : Nat × Nat) (v : Value), w.heap[C]? = some (.cells cs t fz) ∧ cs[1]? = some v ∧ v.ownBlock = some k
def IKept (V w : World) (C : Nat) : Prop := V.heap.size ≤ w.heap.size ∧ (∀ (k : Nat) (cs : Array Value) (fz : Nat × Nat), V.heap[k]? = some (.cells cs 3 fz) → ¬ NvB V C k → w.heap[k]? = some (.cells cs 3 fz)) ∧ ∀ k, k < V.heap.size → NvB w C k → NvB V C k
theorem IKept.refl (w : World) (C : Nat) : IKept w w C := ⟨Nat.le_refl _, fun _ _ _ h _ => h, fun _ _ h => h⟩
theorem IKept.step {V w w' : World} {C : Nat} {S : Nat → Prop} (h : IKept V w C) (hf : Fr S w w') (hS : ∀ (k : Nat) (cs : Array Value) (fz : Nat × Nat), w.heap[k]? = some (.cells cs 3 fz) → ¬ NvB w C k → ¬ S k) (hC : ∀ k, k < w.heap.size → NvB w' C k → NvB w C k) : IKept V w' C := by
 refine ⟨Nat.le_trans h.1 hf.size, fun k cs fz e hn => ?_, fun k hk hn => h.2.2 k hk (hC k (Nat.lt_of_lt_of_le hk h.1) hn)⟩
 have hk : k < V.heap.size := (Array.getElem?_eq_some_iff.1 e).1
 have h1 := h.2.1 k cs fz e hn
 exact hf.heap h1 (hS k cs fz h1 fun h2 => hn (h.2.2 k hk h2))
theorem IKept.trans {a b c : World} {C : Nat} (h : IKept a b C) (k : IKept b c C) : IKept a c C :=
 ⟨Nat.le_trans h.1 k.1, fun q cs fz e hn => k.2.1 q cs fz (h.2.1 q cs fz e hn) fun h2 => hn (h.2.2 q (Array.getElem?_eq_some_iff.1 e).1 h2), fun q hq hn => h.2.2 q hq (k.2.2 q (Nat.lt_of_lt_of_le hq h.1) hn)⟩
theorem NvB.same {w w' : World} {C : Nat} (h : w'.heap[C]? = w.heap[C]?) {k : Nat} (hn : NvB w' C k) : NvB w C k := by
 obtain ⟨cs, t, fz, v, h1, h2, h3⟩ := hn
 exact ⟨cs, t, fz, v, by rw [← h]; exact h1, h2, h3⟩
theorem NvB.of {w : World} {C k : Nat} {a b c d : Value} {t : TypeId} {fz : Nat × Nat} (h : w.heap[C]? = some (.cells #[a, b, c, d] t fz)) : NvB w C k ↔ b.ownBlock = some k := by
 constructor
 ·rintro ⟨cs, t', fz', v, h1, h2, h3⟩
  rw [h] at h1
  simp only [Option.some.injEq, Obj.cells.injEq] at h1
  obtain ⟨rfl, -, -⟩ := h1
  simp at h2
  rw [h2]
  exact h3
 ·exact fun h3 => ⟨_, _, _, b, h, rfl, h3⟩
theorem int_ne_cells {w : World} {g t : Nat} {c : Array Value} {f : Nat × Nat} (h : w.heap[g]? = some (.cells c t f)) (ht : t ≠ 3) : ∀ (k : Nat) (cs : Array Value) (fz : Nat × Nat), w.heap[k]? = some (.cells cs 3 fz) → ¬ k = g := fun k cs fz hk e => by
 subst e
 rw [h] at hk
 simp only [Option.some.injEq, Obj.cells.injEq] at hk
 exact ht hk.2.1
theorem int_ne_own {w : World} {b e s n : Nat} {v : Value} {xs : List Value} (h : w.ownsRow b e s v n xs) (he : e ≠ 3) : ∀ (k : Nat) (cs : Array Value) (fz : Nat × Nat), w.heap[k]? = some (.cells cs 3 fz) → ¬ some k = v.ownBlock := fun k _ _ hk e' => own_ne_cells h hk he k e'.symm rfl
structure MW (W V w : World) (X C : Nat) (sv : Value) (m : MS) : Prop where
 f : Fr (fun _ => False) W w
 kp : NKept V w
 ik : IKept V w C
 lo : W.heap.size ≤ X ∧ W.heap.size ≤ C
 hX : w.heap[X]? = some (.cells #[.pointer (some ⟨C, 0, none⟩), .int .i64 m.ln] 88 (0, 0))
 hC : CodeAt W.heap.size w C sv m.L m.nb
variable {W V w w' : World} {X C : Nat} {sv : Value} {m : MS}
theorem CodeAt.fr {base nb : Nat} {L : List J} (h : CodeAt base w C sv L nb) (hf : Fr (fun _ => False) w w') : CodeAt base w' C sv L nb := by
 obtain ⟨lv, nv, bv, xs, zs, h1, h2, h3, h4, h5⟩ := h
 exact ⟨lv, nv, bv, xs, zs, hf.heap h1 not_false, hf.own h2 (fun _ _ => id), h3, hf.own h4 (fun _ _ => id), hf.own h5 (fun _ _ => id)⟩
theorem MW.fr (h : MW W V w X C sv m) (hf : Fr (fun _ => False) w w') : MW W V w' X C sv m := ⟨h.f.trans' hf, h.kp.step hf (fun _ _ _ _ => id), h.ik.step hf (fun _ _ _ _ _ => id) (fun k hk hn => by obtain ⟨lv, nv, bv, xs, zs, hc, -⟩ := h.hC; exact hn.same (by rw [hf.heap hc not_false, hc])), h.lo, hf.heap h.hX not_false, h.hC.fr hf⟩
theorem InsOk.nil : InsOk [] [] := fun i j h => by simp at h
theorem InsOk.snoc {xs us : List Value} {L : List J} {j : J} (h : InsOk xs L) (hl : xs.length = L.length * 8) (h0 : us[0]? = some (.int .i64 j.op)) (h1 : us[1]? = some (.int .i64 j.a)) (h2 : us[2]? = some (.int .i64 j.b)) (h3 : us[3]? = some (.string j.s)) (h4 : ∀ t, 4 ≤ t → t < 8 → ∃ u, us[t]? = some u ∧ u.oneCell' = true) : InsOk (xs ++ us) (L ++ [j]) := by
 intro i k hi
 by_cases hlt : i < L.length
 ·rw [List.getElem?_append_left hlt] at hi
  obtain ⟨a0, a1, a2, a3, a4⟩ := h i k hi
  refine ⟨?_, ?_, ?_, ?_, fun t h4 h8 => ?_⟩
  rotate_right
  ·rw [List.getElem?_append_left (by omega)]; exact a4 t h4 h8
  all_goals (rw [List.getElem?_append_left (by omega)]; assumption)
 ·have hil := (List.getElem?_eq_some_iff.1 hi).1
  have : i = L.length := by simp at hil; omega
  subst this
  rw [List.getElem?_append_right (Nat.le_refl _)] at hi
  simp at hi
  subst hi
  have e : ∀ t, (xs ++ us)[L.length * 8 + t]? = us[t]? := fun t => by rw [List.getElem?_append_right (by omega)]; congr 1; omega
  exact ⟨(e 0).trans h0, (e 1).trans h1, (e 2).trans h2, (e 3).trans h3, fun t a b => by rw [e t]; exact h4 t a b⟩
theorem lnV_snoc (L : List J) (j : J) : lnV (L ++ [j]) = lnV L ++ [.int .i64 j.ln] := by simp [lnV]
theorem MW.now (h : MW W V w X C sv m) : MW W w w X C sv m := ⟨h.f, NKept.refl w, IKept.refl w C, h.lo, h.hX, h.hC⟩
theorem MW.since {m' : MS} (h : MW W V w X C sv m) (h' : MW W w w' X C sv m') : MW W V w' X C sv m' := ⟨h'.f, h.kp.trans h'.kp, h.ik.trans h'.ik, h'.lo, h'.hX, h'.hC⟩
theorem MW.cells (h : MW W V w X C sv m) : w.cell? ⟨X, 0, none⟩ = some (.pointer (some ⟨C, 0, none⟩)) ∧ w.cell? ⟨X, 1, none⟩ = some (.int .i64 m.ln) := by
 constructor
 ·rw [cell_of_row _ _ _ _ _ _ h.hX]; rfl
 ·rw [cell_of_row _ _ _ _ _ _ h.hX]; rfl
end
end Go.Proofs.YtbegahbagnflnaaGreatDoor
