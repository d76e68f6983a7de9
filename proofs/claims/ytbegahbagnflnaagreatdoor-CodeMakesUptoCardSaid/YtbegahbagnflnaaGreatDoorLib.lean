/- Plain words for all walks: frames, readings of bytes and of strings, one append. No function of the program stands here. -/
import Derived.Test.YtbegahbagnflnaaGreatDoorRows
import Derived.WalkKit
import Derived.WalkSpells
import Derived.WalkLawsBesides
import Derived.Deep.QuietTactic
import Derived.BigQuiet
import Derived.Laws.BytesArg
import Derived.Maps.AppendAt
import Derived.Deep.DeepCutAuto
import Derived.Deep.RegionHeld3
import Derived.Lib.SlBytesConst
import Derived.Laws.Tables
namespace Go.Proofs.YtbegahbagnflnaaGreatDoor
open Go.RowKit

theorem ret_bool {a b : Bool} (h : a = b) : Ending.returned (.bool a) = .returned (.bool b) := by rw [h]
theorem ret_int {k : IntKind} {a b : Int} (h : a = b) : Ending.returned (.int k a) = .returned (.int k b) := by rw [h]
/-- []byte of a constant. -/
theorem conv_const {P : Program} (t e : TypeId) (ht : P.underlying t = some (.slice e)) (he : P.underlying e = some (.int .u8)) : ∀ (w : World) (C : Array Value) (n c g : Nat), g = w.heap.size →
    (convert t t (.slice (some ⟨g, 0, none⟩) n c)).run P (w.alloc (.cells C e)) = .ok (.slice (some ⟨g, 0, none⟩) n c) (w.alloc (.cells C e (C.size, C.size + 1))) := by
  rintro w C n c g rfl
  exact Lib.run_convert_bytes_const w t e C n c ht he
theorem int_eq {k : IntKind} {a b : Int} (h : a = b) : Value.int k a = .int k b := by rw [h]
theorem hid {p : Prop} (h : p) : Hid p := h

/-- w' is w but for new blocks and for blocks in S. -/
structure Fr (S : Nat → Prop) (w w' : World) : Prop where
  os : w'.os = w.os
  tape : w'.tape = w.tape
  output : w'.output = w.output
  size : w.heap.size ≤ w'.heap.size
  block : ∀ k, k < w.heap.size → ¬ S k → w'.heap[k]? = w.heap[k]?

theorem Fr.refl (S : Nat → Prop) (w : World) : Fr S w w := ⟨rfl, rfl, rfl, Nat.le_refl _, fun _ _ _ => rfl⟩
theorem Fr.trans {S T U : Nat → Prop} {a b c : World} (h : Fr S a b) (k : Fr T b c) (hS : ∀ k, k < a.heap.size → S k → U k) (hT : ∀ k, k < a.heap.size → T k → U k) : Fr U a c :=
  ⟨k.os.trans h.os, k.tape.trans h.tape, k.output.trans h.output, Nat.le_trans h.size k.size,
    fun i hi hu => (k.block i (Nat.lt_of_lt_of_le hi h.size) fun t => hu (hT i hi t)).trans (h.block i hi fun t => hu (hS i hi t))⟩
theorem Fr.trans' {S : Nat → Prop} {a b c : World} (h : Fr S a b) (k : Fr S b c) : Fr S a c := h.trans k (fun _ _ h => h) (fun _ _ h => h)
theorem Fr.drew {S : Nat → Prop} {a w : World} (h : Fr S a w) : Fr S a w.drew := ⟨h.os, h.tape, h.output, h.size, h.block⟩
theorem Fr.drewN {S : Nat → Prop} {a w : World} (h : Fr S a w) (n : Nat) : Fr S a (w.drewN n) := ⟨h.os, h.tape, h.output, h.size, h.block⟩
theorem cell_new1 (w : World) (u : Value) (t : TypeId) (fz : Nat × Nat) : (w.alloc (.cells #[u] t fz)).cell? ⟨w.heap.size, 0, none⟩ = some u := by
  have h : (w.alloc (.cells #[u] t fz)).heap[w.heap.size]? = some (.cells #[u] t fz) := heap_alloc_new w _
  rw [cell_of_row _ _ 0 _ _ _ h]
  rfl
theorem Fr.alloc {S : Nat → Prop} {a w : World} (h : Fr S a w) (o : Obj) : Fr S a (w.alloc o) :=
  ⟨h.os, h.tape, h.output, Nat.le_trans h.size (by simp), fun i hi hu => (Below.heap_alloc _ _ _ (Nat.lt_of_lt_of_le hi h.size)).trans (h.block i hi hu)⟩
theorem Fr.setCell {S : Nat → Prop} {a w : World} (h : Fr S a w) {p : Addr} (hp : S p.block ∨ a.heap.size ≤ p.block) (u : Value) : Fr S a (w.setCell p u) :=
  ⟨h.os, h.tape, h.output, by simpa [World.setCell] using h.size, fun i hi hu => (Below.heap_setCell _ _ _ _ (by rcases hp with hp | hp; exact fun e => hu (e ▸ hp); omega)).trans (h.block i hi hu)⟩
theorem Fr.grown {S : Nat → Prop} {a w w' : World} {row : Option Nat} (h : Fr S a w) (hg : w.grownBy w' row) (hr : ∀ k, row = some k → S k ∨ a.heap.size ≤ k) : Fr S a w' :=
  ⟨hg.os.trans h.os, hg.tape.trans h.tape, hg.output.trans h.output, Nat.le_trans h.size hg.size,
    fun i hi hu => (hg.block i (Nat.lt_of_lt_of_le hi h.size) (fun e => by rcases hr i e.symm with h' | h'; exact hu h'; omega)).trans (h.block i hi hu)⟩
theorem Fr.mono {S T : Nat → Prop} {a b : World} (h : Fr S a b) (hS : ∀ k, k < a.heap.size → S k → T k) : Fr T a b :=
  ⟨h.os, h.tape, h.output, h.size, fun i hi hu => h.block i hi fun t => hu (hS i hi t)⟩
theorem Fr.cell {S : Nat → Prop} {a b : World} (h : Fr S a b) {p : Addr} {v : Value} (hc : a.cell? p = some v) (hS : ¬ S p.block) : b.cell? p = some v :=
  (World.cell?_of_block (h.block _ (World.block_lt_of_cell? a p hc) hS)).trans hc
theorem Fr.heap {S : Nat → Prop} {a b : World} (h : Fr S a b) {k : Nat} {o : Obj} (hk : a.heap[k]? = some o) (hS : ¬ S k) : b.heap[k]? = some o :=
  (h.block k (Array.getElem?_eq_some_iff.1 hk).1 hS).trans hk
theorem Fr.below {S : Nat → Prop} {a b : World} (h : Fr S a b) {B : Nat} (hB : B ≤ a.heap.size) (hS : ∀ k, k < B → ¬ S k) : Below B a b :=
  ⟨h.os, h.tape, h.output, h.size, fun k hk => h.block k (by omega) (hS k hk)⟩
theorem Fr.grownBy {S : Nat → Prop} {a b : World} (h : Fr S a b) {row : Option Nat} (hS : ∀ k, S k → some k = row) : a.grownBy b row :=
  ⟨h.os, h.tape, h.output, h.size, fun k hk hn => h.block k hk fun s => hn (hS k s)⟩
theorem Fr.own {S : Nat → Prop} {a b : World} (h : Fr S a b) {base e size n : Nat} {v : Value} {xs : List Value} (ho : a.ownsRow base e size v n xs) (hS : ∀ k, v.ownBlock = some k → ¬ S k) : b.ownsRow base e size v n xs := by
  refine ⟨ho.1, ?_⟩
  rcases ho.2 with hn | ⟨g, cap, cur, rfl, hb, hg, r⟩
  · exact .inl hn
  · exact .inr ⟨g, cap, cur, rfl, hb, h.heap hg (hS g rfl), r⟩
theorem Fr.of_grownBy {w w' : World} {row : Option Nat} (h : w.grownBy w' row) : Fr (fun k => some k = row) w w' := ⟨h.os, h.tape, h.output, h.size, h.block⟩

theorem alloc_cell {w : World} {p : Addr} {v : Value} (o : Obj) (h : w.cell? p = some v) : (w.alloc o).cell? p = some v := ((Fr.refl (fun _ => False) w).alloc o).cell h id
theorem heap_lt {w : World} {k : Nat} {o : Obj} (h : w.heap[k]? = some o) : k < w.heap.size := (Array.getElem?_eq_some_iff.1 h).1

/-- Two owned rows of unlike elements lie in two blocks. -/
theorem own_ne {w : World} {b1 b2 e1 e2 s1 s2 n1 n2 : Nat} {v1 v2 : Value} {x1 x2 : List Value} (h1 : w.ownsRow b1 e1 s1 v1 n1 x1) (h2 : w.ownsRow b2 e2 s2 v2 n2 x2) (he : e1 ≠ e2) :
    ∀ k, v1.ownBlock = some k → ¬ some k = v2.ownBlock := by
  intro k h e
  rcases h1.2 with ⟨rfl, _⟩ | ⟨g, cap, cur, rfl, _, hg, _⟩
  · simp [Value.ownBlock] at h
  · rcases h2.2 with ⟨rfl, _⟩ | ⟨g', cap', cur', rfl, _, hg', _⟩
    · simp [Value.ownBlock] at e
    · simp only [Value.ownBlock, Option.some.injEq] at h e
      subst h; subst e
      rw [hg] at hg'
      simp only [Option.some.injEq, Obj.cells.injEq] at hg'
      exact he hg'.2.1
/-- An owned row lies elsewhere than a block of cells of another make. -/
theorem own_ne_cells {w : World} {b1 e1 s1 n1 e2 B : Nat} {v1 : Value} {x1 : List Value} {c : Array Value} {fz : Nat × Nat} (h1 : w.ownsRow b1 e1 s1 v1 n1 x1) (h2 : w.heap[B]? = some (.cells c e2 fz)) (he : e1 ≠ e2) :
    ∀ k, v1.ownBlock = some k → k ≠ B := by
  intro k h e
  rcases h1.2 with ⟨rfl, _⟩ | ⟨g, cap, cur, rfl, _, hg, _⟩
  · simp [Value.ownBlock] at h
  · simp only [Value.ownBlock, Option.some.injEq] at h
    subst h; subst e
    rw [hg] at h2
    simp only [Option.some.injEq, Obj.cells.injEq] at h2
    exact he h2.2.1
theorem own_rebase {w : World} {b1 b2 e s n : Nat} {v : Value} {xs : List Value} (h : w.ownsRow b1 e s v n xs) (hb : ∀ k, v.ownBlock = some k → b2 ≤ k) : w.ownsRow b2 e s v n xs := by
  refine ⟨h.1, ?_⟩
  rcases h.2 with hn | ⟨g, cap, cur, rfl, _, r⟩
  · exact .inl hn
  · exact .inr ⟨g, cap, cur, rfl, hb g rfl, r⟩
theorem own_size {w : World} {base e size n : Nat} {v : Value} {xs : List Value} (h : w.ownsRow base e size v n xs) : ∀ k, v.ownBlock = some k → k < w.heap.size := fun k hk => (h.lt k hk).2
theorem own_len {w : World} {base e s n : Nat} {v : Value} {xs : List Value} (h : w.ownsRow base e s v n xs) : ∃ a c, v = .slice a n c ∧ n ≤ maxLen := by
  rcases h.2 with ⟨rfl, rfl⟩ | ⟨g, cap, cur, rfl, _, _, h1, h2, _⟩
  · exact ⟨_, _, rfl, by simp⟩
  · exact ⟨_, _, rfl, Nat.le_trans h1 h2⟩
theorem own_heap {w : World} {base e s n : Nat} {v : Value} {xs : List Value} (h : w.ownsRow base e s v n xs) :
    (v = .slice none 0 0 ∧ n = 0 ∧ xs = []) ∨ ∃ g cap, v = .slice (some ⟨g, 0, none⟩) n cap ∧ base ≤ g ∧ g < w.heap.size ∧ ∀ j, j < n * s → w.cell? ⟨g, j, none⟩ = xs[j]? := by
  rcases h.2 with ⟨rfl, rfl⟩ | ⟨g, cap, cur, rfl, hb, hg, h1, h2, h3, ht⟩
  · exact .inl ⟨rfl, rfl, List.eq_nil_of_length_eq_zero (by simpa using h.1)⟩
  · refine .inr ⟨g, cap, rfl, hb, heap_lt hg, fun j hj => ?_⟩
    rw [cell_of_row w g j cur e (0, 0) hg, ← ht, List.getElem?_take, if_pos hj]
    simp

/-- One element appended: it lies in a cell at 'ad'. -/
theorem wp_append1 {P : Program} {o : Oper} {a : Act} {w : World} {K : Act → World → Prop} {Q : Exit → Act → World → Prop} (s x : Operand) (t : TypeId)
    (ho : o.op = .call { callee := .builtin .append, args := #[s, x], argTypes := #[t, t] })
    (e : TypeId) (z : Value) (bytes : Nat) (ht : P.underlying t = some (.slice e)) (hrow : (P.info? e).map (fun i => (i.zero, i.size, i.bytes)) = some (some z, 1, bytes)) (hzs : z.cells.size = 1)
    (v : Value) (hs : a.eval s = v) (base n : Nat) (xs : List Value) (hown : w.ownsRow base e 1 v n xs)
    (g0 c : Nat) (u : Value) (hx : a.eval x = .slice (some ⟨g0, 0, none⟩) 1 c) (hu : w.cell? ⟨g0, 0, none⟩ = some u) (h1 : u.oneCell' = true)
    (h63 : n + 1 ≤ 1099511627776) (hby : bytes ≤ 64) (hbase : base ≤ w.heap.size)
    (h : ∀ g cap w', w'.ownsRow base e 1 (.slice (some ⟨g, 0, none⟩) (n + 1) cap) (n + 1) (xs ++ [u]) → Fr (fun k => some k = v.ownBlock) w w' → (v.ownBlock = some g ∨ w.heap.size ≤ g) → K (a.put o.dst (.slice (some ⟨g, 0, none⟩) (n + 1) cap)) w') : o.wp P a w K Q := by
  obtain ⟨i, hi, hz, hsz, hbt⟩ := info_parts hrow
  have hb2 : (n + 1) * bytes ≤ 140737488355328 := by
    have := Nat.mul_le_mul h63 hby
    omega
  have key : ∃ g cap w', (Builtin.append_ #[t, t] o.type #[v, .slice (some ⟨g0, 0, none⟩) 1 c]).run P w = .ok (.slice (some ⟨g, 0, none⟩) (n + 1) cap) w' ∧ w'.ownsRow base e 1 (.slice (some ⟨g, 0, none⟩) (n + 1) cap) (n + 1) (xs ++ [u]) ∧ w.grownBy w' v.ownBlock ∧ (v.ownBlock = some g ∨ w.heap.size ≤ g) := by
    have hcells : ∀ j y, [u][j]? = some y → w.cell? ((⟨g0, 0, none⟩ : Addr).add j) = some y := by
      intro j y hy
      have : j = 0 := by
        have := (List.getElem?_eq_some_iff.1 hy).1
        simpa using this
      subst this
      simp at hy
      subst hy
      simpa [Addr.add] using hu
    have hone : ∀ y ∈ [u], y.oneCell' = true := by intro y hy; simp at hy; subst hy; exact h1
    have hmx : n + 1 ≤ maxLen := by unfold maxLen; omega
    obtain ⟨v', w', hr, ho', hg, hn⟩ := run_append_own (P := P) w base t o.type e i z 1 bytes ht hi hz hsz hbt hzs (by decide) v n xs hown ⟨g0, 0, none⟩ 1 c [u] rfl hcells hone hmx hb2 hbase
    rcases ho'.2 with ⟨_, h0⟩ | ⟨g, cap, cur, rfl, hbg, hgg, _⟩
    · omega
    · refine ⟨g, cap, w', hr, ho', hg, ?_⟩
      rcases hown.2 with ⟨rfl, rfl⟩ | ⟨g1, cap1, cur1, rfl, hb1, hg1, hnc, hcm, hcs, htk⟩
      · refine .inr (Nat.le_of_not_lt fun hlt => ?_)
        have e1 := run_append_nil (P := P) w t o.type e i z ht hi hz ⟨g0, 0, none⟩ 1 c [u] (by simp [hsz]) hcells (by decide) (by decide) (by simp [hbt]; omega)
        rw [hr] at e1
        simp only [Result.ok.injEq, Value.slice.injEq, Option.some.injEq, Addr.mk.injEq] at e1
        omega
      · by_cases hroom : n + 1 ≤ cap1
        · have e1 := run_append_room (P := P) w t o.type e i ht hi g1 n cap1 cur1 hg1 ⟨g0, 0, none⟩ 1 c [u] (by simp [hsz]) hcells hone hroom (by rw [hsz]; simp; omega)
          rw [hr] at e1
          simp only [Result.ok.injEq, Value.slice.injEq, Option.some.injEq, Addr.mk.injEq] at e1
          left; simp [Value.ownBlock]; omega
        · have holds : ∀ j u, xs[j]? = some u → w.cell? ((⟨g1, 0, none⟩ : Addr).add j) = some u := hown.cells (g := g1) rfl
          have e1 := run_append_grow (P := P) w t o.type e i z ht hi hz ⟨g1, 0, none⟩ n cap1 xs (by rw [hsz]; exact hown.1) holds ⟨g0, 0, none⟩ 1 c [u] (by simp [hsz]) hcells (by unfold maxLen at hmx; omega) (by omega) (growslice_fits (by omega) (by rw [hbt]; exact hb2))
          rw [hr] at e1
          simp only [Result.ok.injEq, Value.slice.injEq, Option.some.injEq, Addr.mk.injEq] at e1
          right; simp at e1; omega
  obtain ⟨g, cap, w', hr, ho', hg, hw⟩ := key
  unfold Oper.wp execOp
  simp only [ho, resolve, invoke, builtin, Sem.run_bind, Sem.run_pure, Result.andThen_ok, List.map_toArray, List.map_cons, List.map_nil, hs, hx, hr]
  exact h g cap w' ho' (Fr.of_grownBy hg) hw
theorem wpList_append1 {P : Program} {ops : Array Oper} {rest : List Oper} {o : Oper} {a : Act} {w : World} {Q : Exit → Act → World → Prop} (hgd : o.guard = none) (s x : Operand) (t : TypeId)
    (ho : o.op = .call { callee := .builtin .append, args := #[s, x], argTypes := #[t, t] })
    (e : TypeId) (z : Value) (bytes : Nat) (ht : P.underlying t = some (.slice e)) (hrow : (P.info? e).map (fun i => (i.zero, i.size, i.bytes)) = some (some z, 1, bytes)) (hzs : z.cells.size = 1)
    (v : Value) (hs : a.eval s = v) (base n : Nat) (xs : List Value) (hown : w.ownsRow base e 1 v n xs)
    (g0 c : Nat) (u : Value) (hx : a.eval x = .slice (some ⟨g0, 0, none⟩) 1 c) (hu : w.cell? ⟨g0, 0, none⟩ = some u) (h1 : u.oneCell' = true)
    (h63 : n + 1 ≤ 1099511627776) (hby : bytes ≤ 64) (hbase : base ≤ w.heap.size)
    (h : ∀ g cap w', w'.ownsRow base e 1 (.slice (some ⟨g, 0, none⟩) (n + 1) cap) (n + 1) (xs ++ [u]) → Fr (fun k => some k = v.ownBlock) w w' → (v.ownBlock = some g ∨ w.heap.size ≤ g) → wpList P ops Q rest (a.put o.dst (.slice (some ⟨g, 0, none⟩) (n + 1) cap)) w') : wpList P ops Q (o :: rest) a w :=
  wpList_plain hgd fun _ hK => wp_append1 s x t ho e z bytes ht hrow hzs v hs base n xs hown g0 c u hx hu h1 h63 hby hbase fun g cap w' h1 h2 h3 => hK _ _ (h g cap w' h1 h2 h3)


/-- All elements of a slice appended; it may be nil, or empty. -/
theorem wp_appendN {P : Program} {o : Oper} {a : Act} {w : World} {K : Act → World → Prop} {Q : Exit → Act → World → Prop} (s x : Operand) (t : TypeId)
    (ho : o.op = .call { callee := .builtin .append, args := #[s, x], argTypes := #[t, t] })
    (e : TypeId) (z : Value) (bytes : Nat) (ht : P.underlying t = some (.slice e)) (hrow : (P.info? e).map (fun i => (i.zero, i.size, i.bytes)) = some (some z, 1, bytes)) (hzs : z.cells.size = 1)
    (v : Value) (hs : a.eval s = v) (base n : Nat) (xs : List Value) (hown : w.ownsRow base e 1 v n xs)
    (ao : Option Addr) (m c : Nat) (news : List Value) (hx : a.eval x = .slice ao m c) (hl : news.length = m) (hn : ao = none → m = 0 ∧ c = 0)
    (hc : ∀ j, j < m → ∃ b o, ao = some ⟨b, o, none⟩ ∧ w.cell? ⟨b, o + j, none⟩ = news[j]?) (h1 : ∀ u ∈ news, u.oneCell' = true)
    (h63 : n + m ≤ 1099511627776) (hby : bytes ≤ 64) (hbase : base ≤ w.heap.size)
    (h : ∀ v' w', w'.ownsRow base e 1 v' (n + m) (xs ++ news) → Fr (fun k => some k = v.ownBlock) w w' → (∀ k, v'.ownBlock = some k → v.ownBlock = some k ∨ w.heap.size ≤ k) → K (a.put o.dst v') w') : o.wp P a w K Q := by
  obtain ⟨i, hi, hz, hsz, hbt⟩ := info_parts hrow
  have hb2 : (n + m) * bytes ≤ 140737488355328 := by
    have := Nat.mul_le_mul h63 hby
    omega
  have key : ∃ v' w', (Builtin.append_ #[t, t] o.type #[v, .slice ao m c]).run P w = .ok v' w' ∧ w'.ownsRow base e 1 v' (n + m) (xs ++ news) ∧ w.grownBy w' v.ownBlock ∧ (∀ k, v'.ownBlock = some k → v.ownBlock = some k ∨ w.heap.size ≤ k) := by
    cases ao with
    | none =>
      obtain ⟨rfl, rfl⟩ := hn rfl
      have hnews : news = [] := List.eq_nil_of_length_eq_zero hl
      subst hnews
      refine ⟨v, w, run_append_owned_none (P := P) w base t o.type e i 1 ht hi v n xs hown, by simpa using hown, ⟨rfl, rfl, rfl, Nat.le_refl _, fun _ _ _ => rfl⟩, fun k hk => .inl hk⟩
    | some ad =>
      have hcells : ∀ j y, news[j]? = some y → w.cell? (ad.add j) = some y := by
        intro j y hy
        have hj : j < m := by rw [← hl]; exact (List.getElem?_eq_some_iff.1 hy).1
        obtain ⟨b, o, e, hcc⟩ := hc j hj
        simp only [Option.some.injEq] at e
        subst e
        have : (⟨b, o, none⟩ : Addr).add j = ⟨b, o + j, none⟩ := by unfold Addr.add; split <;> simp_all
        rw [this, hcc, hy]
      have hmx : n + m ≤ maxLen := by unfold maxLen; omega
      obtain ⟨v', w', hr, ho', hg, hnil⟩ := run_append_own (P := P) w base t o.type e i z 1 bytes ht hi hz hsz hbt hzs (by decide) v n xs hown ad m c news (by omega) hcells h1 hmx hb2 hbase
      refine ⟨v', w', hr, ho', hg, fun k hk => ?_⟩
      rcases hown.2 with ⟨rfl, rfl⟩ | ⟨g1, cap1, cur1, rfl, hb1, hg1, hnc, hcm, hcs, htk⟩
      · by_cases hm0 : m = 0
        · rw [hnil.2 ⟨rfl, hm0⟩] at hk
          exact .inl hk
        · have e1 := run_append_nil (P := P) w t o.type e i z ht hi hz ad m c news (by rw [hsz]; omega) hcells (by omega) (by unfold maxLen at hmx; omega) (by rw [hbt]; simp only [Nat.zero_add] at hb2; omega)
          rw [hr] at e1
          simp only [Result.ok.injEq] at e1
          rw [e1.1] at hk
          simp only [Value.ownBlock, Option.some.injEq] at hk
          exact .inr (by omega)
      · by_cases hroom : n + m ≤ cap1
        · have e1 := run_append_room (P := P) w t o.type e i ht hi g1 n cap1 cur1 hg1 ad m c news (by rw [hsz]; omega) hcells h1 hroom (by rw [hsz]; omega)
          rw [hr] at e1
          simp only [Result.ok.injEq] at e1
          rw [e1.1] at hk
          exact .inl hk
        · have holds : ∀ j u, xs[j]? = some u → w.cell? ((⟨g1, 0, none⟩ : Addr).add j) = some u := hown.cells (g := g1) rfl
          have e1 := run_append_grow (P := P) w t o.type e i z ht hi hz ⟨g1, 0, none⟩ n cap1 xs (by rw [hsz]; exact hown.1) holds ad m c news (by rw [hsz]; omega) hcells (by unfold maxLen at hmx; omega) (by omega) (growslice_fits (by omega) (by rw [hbt]; exact hb2))
          rw [hr] at e1
          simp only [Result.ok.injEq] at e1
          rw [e1.1] at hk
          simp only [Value.ownBlock, Option.some.injEq] at hk
          exact .inr (by omega)
  obtain ⟨v', w', hr, ho', hg, hw⟩ := key
  unfold Oper.wp execOp
  simp only [ho, resolve, invoke, builtin, Sem.run_bind, Sem.run_pure, Result.andThen_ok, List.map_toArray, List.map_cons, List.map_nil, hs, hx, hr]
  exact h v' w' ho' (Fr.of_grownBy hg) hw
theorem wpList_appendN {P : Program} {ops : Array Oper} {rest : List Oper} {o : Oper} {a : Act} {w : World} {Q : Exit → Act → World → Prop} (hgd : o.guard = none) (s x : Operand) (t : TypeId)
    (ho : o.op = .call { callee := .builtin .append, args := #[s, x], argTypes := #[t, t] })
    (e : TypeId) (z : Value) (bytes : Nat) (ht : P.underlying t = some (.slice e)) (hrow : (P.info? e).map (fun i => (i.zero, i.size, i.bytes)) = some (some z, 1, bytes)) (hzs : z.cells.size = 1)
    (v : Value) (hs : a.eval s = v) (base n : Nat) (xs : List Value) (hown : w.ownsRow base e 1 v n xs)
    (ao : Option Addr) (m c : Nat) (news : List Value) (hx : a.eval x = .slice ao m c) (hl : news.length = m) (hn : ao = none → m = 0 ∧ c = 0)
    (hc : ∀ j, j < m → ∃ b o, ao = some ⟨b, o, none⟩ ∧ w.cell? ⟨b, o + j, none⟩ = news[j]?) (h1 : ∀ u ∈ news, u.oneCell' = true)
    (h63 : n + m ≤ 1099511627776) (hby : bytes ≤ 64) (hbase : base ≤ w.heap.size)
    (h : ∀ v' w', w'.ownsRow base e 1 v' (n + m) (xs ++ news) → Fr (fun k => some k = v.ownBlock) w w' → (∀ k, v'.ownBlock = some k → v.ownBlock = some k ∨ w.heap.size ≤ k) → wpList P ops Q rest (a.put o.dst v') w') : wpList P ops Q (o :: rest) a w :=
  wpList_plain hgd fun _ hK => wp_appendN s x t ho e z bytes ht hrow hzs v hs base n xs hown ao m c news hx hl hn hc h1 h63 hby hbase fun v' w' h1 h2 h3 => hK _ _ (h v' w' h1 h2 h3)

/-- The source of an append is an owned row. -/
theorem own_src {w : World} {base e n : Nat} {v : Value} {xs : List Value} (h : w.ownsRow base e 1 v n xs) : ∃ ao c, v = .slice ao n c ∧ xs.length = n ∧ (ao = none → n = 0 ∧ c = 0) ∧ ∀ j, j < n → ∃ b o, ao = some ⟨b, o, none⟩ ∧ w.cell? ⟨b, o + j, none⟩ = xs[j]? := by
  rcases own_heap h with ⟨rfl, rfl, rfl⟩ | ⟨g, cap, rfl, _, _, hc⟩
  · exact ⟨_, _, rfl, rfl, fun _ => ⟨rfl, rfl⟩, fun j hj => by omega⟩
  · refine ⟨_, _, rfl, by simpa using h.1, (fun h => by cases h), fun j hj => ⟨g, 0, rfl, ?_⟩⟩
    rw [Nat.zero_add]
    exact hc j (by omega)

/-- Value v reads as these bytes in w; its cells lie where D says. -/
def Bs (D : Nat → Prop) (w : World) (v : Value) (l : List UInt8) : Prop :=
  ∃ a c, v = .slice a l.length c ∧ l.length ≤ c ∧ c ≤ maxLen ∧ ∀ k, k < l.length → ∃ b o, a = some ⟨b, o, none⟩ ∧ D b ∧ w.cell? ⟨b, o + k, none⟩ = some (.int .u8 (l.getD k 0).toNat)
theorem Bs.frame {D S : Nat → Prop} {w w' : World} {v : Value} {l : List UInt8} (h : Bs D w v l) (hf : Fr S w w') (hd : ∀ k, D k → ¬ S k) : Bs D w' v l := by
  obtain ⟨a, c, rfl, h1, h2, hk⟩ := h
  refine ⟨a, c, rfl, h1, h2, fun k hlt => ?_⟩
  obtain ⟨b, o, e, hD, hc⟩ := hk k hlt
  exact ⟨b, o, e, hD, hf.cell hc (hd _ hD)⟩

/-- b[i:j]. -/
theorem Bs.sub {D : Nat → Prop} {w : World} {a a' : Option Addr} {c c' len' : Nat} {l : List UInt8} (h : Bs D w (.slice a l.length c) l) (i j : Nat) (hij : i ≤ j) (hj : j ≤ l.length) (hlen : len' = j - i) (hc : c' = c - i)
    (ha : a' = if c = i then a else a.map fun x => x.add i) : Bs D w (.slice a' len' c') ((l.take j).drop i) := by
  obtain ⟨a0, c0, e, h1, h2, hk⟩ := h
  simp only [Value.slice.injEq] at e
  obtain ⟨rfl, _, rfl⟩ := e
  have hL : ((l.take j).drop i).length = len' := by simp; omega
  refine ⟨a', c', by rw [hL], by omega, by omega, fun k hlt => ?_⟩
  rw [hL] at hlt
  obtain ⟨b, o, rfl, hD, hc1⟩ := hk (i + k) (by omega)
  rw [if_neg (by omega)] at ha
  have e2 : (⟨b, o, none⟩ : Addr).add i = ⟨b, o + i, none⟩ := by unfold Addr.add; split <;> simp_all
  simp only [Option.map_some, e2] at ha
  refine ⟨b, o + i, ha, hD, ?_⟩
  rw [Nat.add_assoc, hc1]
  have : ((l.take j).drop i).getD k 0 = l.getD (i + k) 0 := by
    simp only [List.getD, List.getElem?_drop, List.getElem?_take]
    rw [if_pos (by omega)]
  rw [this]

/-- Value v reads as these texts in w. -/
def Ss (D : Nat → Prop) (w : World) (v : Value) (l : List ByteArray) : Prop :=
  ∃ a c, v = .slice a l.length c ∧ l.length ≤ c ∧ c ≤ maxLen ∧ ∀ k, k < l.length → ∃ b o, a = some ⟨b, o, none⟩ ∧ D b ∧ w.cell? ⟨b, o + k, none⟩ = some (.string (l.getD k ByteArray.empty))
theorem Ss.frame {D S : Nat → Prop} {w w' : World} {v : Value} {l : List ByteArray} (h : Ss D w v l) (hf : Fr S w w') (hd : ∀ k, D k → ¬ S k) : Ss D w' v l := by
  obtain ⟨a, c, rfl, h1, h2, hk⟩ := h
  refine ⟨a, c, rfl, h1, h2, fun k hlt => ?_⟩
  obtain ⟨b, o, e, hD, hc⟩ := hk k hlt
  exact ⟨b, o, e, hD, hf.cell hc (hd _ hD)⟩

/-- A slice of n elements of one cell, each of which is as R says. -/
def Sl (D : Nat → Prop) (w : World) (v : Value) (n : Nat) (R : Nat → Value → Prop) : Prop :=
  ∃ a c, v = .slice a n c ∧ n ≤ c ∧ c ≤ maxLen ∧ ∀ k, k < n → ∃ b o u, a = some ⟨b, o, none⟩ ∧ D b ∧ w.cell? ⟨b, o + k, none⟩ = some u ∧ R k u
theorem Sl.frame {D S : Nat → Prop} {w w' : World} {v : Value} {n : Nat} {R R' : Nat → Value → Prop} (h : Sl D w v n R) (hf : Fr S w w') (hd : ∀ k, D k → ¬ S k) (hR : ∀ k u, k < n → R k u → R' k u) : Sl D w' v n R' := by
  obtain ⟨a, c, rfl, h1, h2, hk⟩ := h
  refine ⟨a, c, rfl, h1, h2, fun k hlt => ?_⟩
  obtain ⟨b, o, u, e, hD, hc, hr⟩ := hk k hlt
  exact ⟨b, o, u, e, hD, hf.cell hc (hd _ hD), hR k u hlt hr⟩

def bV (l : List UInt8) : List Value := l.map fun c => .int .u8 c.toNat
def sV (l : List ByteArray) : List Value := l.map fun s => .string s
@[simp] theorem bV_length (l : List UInt8) : (bV l).length = l.length := by simp [bV]
@[simp] theorem sV_length (l : List ByteArray) : (sV l).length = l.length := by simp [sV]

theorem Bs.own {w : World} {base e : Nat} {v : Value} {l : List UInt8} (h : w.ownsRow base e 1 v l.length (bV l)) : Bs (fun k => v.ownBlock = some k) w v l := by
  rcases h.2 with ⟨rfl, h0⟩ | ⟨g, cap, cur, rfl, _, hg, h1, h2, _, ht⟩
  · have hl : l = [] := List.eq_nil_of_length_eq_zero h0
    subst hl
    exact ⟨none, 0, rfl, Nat.le_refl _, Nat.zero_le _, fun k hk => by simp at hk⟩
  · refine ⟨_, _, rfl, h1, h2, fun k hk => ⟨g, 0, rfl, rfl, ?_⟩⟩
    rw [Nat.zero_add, cell_of_row w g k cur e (0, 0) hg]
    have : (cur.toList.take (l.length * 1))[k]? = (bV l)[k]? := by rw [ht]
    rw [List.getElem?_take, if_pos (by omega)] at this
    simp only [Array.getElem?_toList] at this
    rw [this]
    simp [bV, List.getD, hk]
theorem Ss.own {w : World} {base e : Nat} {v : Value} {l : List ByteArray} (h : w.ownsRow base e 1 v l.length (sV l)) : Ss (fun k => v.ownBlock = some k) w v l := by
  rcases h.2 with ⟨rfl, h0⟩ | ⟨g, cap, cur, rfl, _, hg, h1, h2, _, ht⟩
  · have hl : l = [] := List.eq_nil_of_length_eq_zero h0
    subst hl
    exact ⟨none, 0, rfl, Nat.le_refl _, Nat.zero_le _, fun k hk => by simp at hk⟩
  · refine ⟨_, _, rfl, h1, h2, fun k hk => ⟨g, 0, rfl, rfl, ?_⟩⟩
    rw [Nat.zero_add, cell_of_row w g k cur e (0, 0) hg]
    have : (cur.toList.take (l.length * 1))[k]? = (sV l)[k]? := by rw [ht]
    rw [List.getElem?_take, if_pos (by omega)] at this
    simp only [Array.getElem?_toList] at this
    rw [this]
    simp [sV, List.getD, hk]
theorem Bs.mono {D E : Nat → Prop} {w : World} {v : Value} {l : List UInt8} (h : Bs D w v l) (hd : ∀ k, k < w.heap.size → D k → E k) : Bs E w v l := by
  obtain ⟨a, c, rfl, h1, h2, hk⟩ := h
  refine ⟨a, c, rfl, h1, h2, fun k hlt => ?_⟩
  obtain ⟨b, o, e, hD, hc⟩ := hk k hlt
  exact ⟨b, o, e, hd _ (World.block_lt_of_cell? w _ hc) hD, hc⟩
theorem Ss.mono {D E : Nat → Prop} {w : World} {v : Value} {l : List ByteArray} (h : Ss D w v l) (hd : ∀ k, k < w.heap.size → D k → E k) : Ss E w v l := by
  obtain ⟨a, c, rfl, h1, h2, hk⟩ := h
  refine ⟨a, c, rfl, h1, h2, fun k hlt => ?_⟩
  obtain ⟨b, o, e, hD, hc⟩ := hk k hlt
  exact ⟨b, o, e, hd _ (World.block_lt_of_cell? w _ hc) hD, hc⟩
theorem take_snoc {α : Type} (l : List α) (k : Nat) (d : α) (h : k < l.length) : l.take (k + 1) = l.take k ++ [l.getD k d] := by
  rw [List.take_add_one, List.getElem?_eq_getElem h]
  simp [List.getD, h]
/-- string(b). -/
theorem conv_bytes {P : Program} {D : Nat → Prop} {w : World} {v : Value} {l : List UInt8} (h : Bs D w v l) (src e dst : TypeId) (hs : P.underlying src = some (.slice e)) (he : P.underlying e = some (.int .u8)) (hd : P.underlying dst = some .string) :
    (convert src dst v).run P w = .ok (.string ⟨l.toArray⟩) w := by
  obtain ⟨a, c, rfl, _, _, hk⟩ := h
  by_cases h0 : l = []
  · subst h0
    cases a with
    | none => rw [run_convert_bytes_nil w src e hs he _ _ dst hd]; rfl
    | some a =>
      obtain ⟨b, o, sp⟩ := a
      simp [convert, run_underlying hs, run_underlying hd, run_underlying he, Conv.bytesToString, loadCells, loadCellsFrom]
      rfl
  · obtain ⟨b, o, rfl, _, _⟩ := hk 0 (List.length_pos_iff.2 h0)
    have hc : ∀ i, i < l.length → w.cell? ⟨b, o + i, none⟩ = some (.int .u8 ((l.map fun c => (c.toNat : Int)).getD i 0)) := by
      intro i hi
      obtain ⟨b', o', e, _, hc⟩ := hk i hi
      simp only [Option.some.injEq, Addr.mk.injEq] at e
      obtain ⟨rfl, rfl, _⟩ := e
      rw [hc]
      simp [List.getD, hi]
    rw [run_convert_bytes_arg w src e hs he b o l.length c (l.map fun c => (c.toNat : Int)) (by simp) hc dst hd]
    have e : (l.map fun c => (c.toNat : Int)).map (fun n => UInt8.ofNat n.toNat) = l := by
      rw [List.map_map]
      exact List.map_id'' (fun c => by simp) l
    rw [strOfNums, e]
theorem setRow_block {w : World} {g : Nat} {cs old : Array Value} {t : TypeId} {fz : Nat × Nat} (h : w.heap[g]? = some (.cells old t fz)) : (w.setRow g cs).heap[g]? = some (.cells cs t fz) := by
  simp only [World.setRow, Array.getElem?_modify]
  simp [h]
theorem Fr.setRow {S : Nat → Prop} {a w : World} (h : Fr S a w) {g : Nat} (hp : S g ∨ a.heap.size ≤ g) (cs : Array Value) : Fr S a (w.setRow g cs) :=
  ⟨h.os, h.tape, h.output, by simpa using h.size, fun i hi hu => by
    have : i ≠ g := by rcases hp with hp | hp; exact fun e => hu (e ▸ hp); omega
    rw [← h.block i hi hu]
    simp only [World.setRow, Array.getElem?_modify]
    simp [Ne.symm this]⟩
theorem setCell_row {w : World} {B : Nat} {cs : Array Value} {t : TypeId} {fz : Nat × Nat} (i : Nat) (v : Value) (h : w.heap[B]? = some (.cells cs t fz)) : (w.setCell ⟨B, i, none⟩ v).heap[B]? = some (.cells (cs.setIfInBounds i v) t fz) := by
  simp only [World.setCell, Array.getElem?_modify]
  simp [h]

end Go.Proofs.YtbegahbagnflnaaGreatDoor
