/- A map of files to files: a look-up, a store under a new key. -/
import Derived.Test.YtlhbgobjhddhlaaGreatDoorDiskJ
namespace Go.Proofs.YtlhbgobjhddhlaaGreatDoor
open Go.RowKit
variable {w w' : World}

abbrev fP (k : Nat) : Value := .pointer (some ⟨k, 0, none⟩)
def fkv (p : Nat × Nat) : Value × Value := (fP p.1, fP p.2)
def lkp (M : List (Nat × Nat)) (k : Nat) : Option Nat := (M.find? fun p => p.1 == k).map (·.2)
def PMapAt (w : World) (b : Nat) (M : List (Nat × Nat)) : Prop :=
  (∃ es clock, w.heap[b]? = some (.map es clock) ∧ es.toList.map (fun x => (x.key, x.val)) = M.map fkv) ∧ ∀ p ∈ M, FBk w p.1
theorem PMapAt.made (w : World) : PMapAt (w.alloc (.map #[] 0)) w.heap.size [] := ⟨⟨#[], 0, heap_alloc_new w _, rfl⟩, fun _ h => by cases h⟩
theorem FBk.frame {S : Nat → Prop} {k : Nat} (h : FBk w k) (hf : Fr S w w') (hS : ¬ S k) : FBk w' k := by
  obtain ⟨cs, h⟩ := h
  exact ⟨cs, hf.heap h hS⟩
theorem PMapAt.frame {S : Nat → Prop} {b : Nat} {M : List (Nat × Nat)} (h : PMapAt w b M) (hf : Fr S w w') (hb : ¬ S b) (hM : ∀ p ∈ M, ¬ S p.1) : PMapAt w' b M := by
  obtain ⟨⟨es, cl, h1, h2⟩, h3⟩ := h
  exact ⟨⟨es, cl, hf.heap h1 hb, h2⟩, fun p hp => (h3 p hp).frame hf (hM p hp)⟩
theorem PMapAt.lt {b : Nat} {M : List (Nat × Nat)} (h : PMapAt w b M) : b < w.heap.size := by
  obtain ⟨⟨es, cl, h1, -⟩, -⟩ := h
  exact heap_lt h1
theorem run_eq_file {a b : Nat} (ha : FBk w a) (hb : FBk w b) : (Op.equal 76 (fP a) (fP b)).run Tryz.prog w = .ok (decide (a = b)) w := by
  obtain ⟨j, hj, hsz⟩ := info_file
  have hp : Tryz.prog.underlying 76 = some (.pointer 78) := Tryz.underlying76
  unfold fP
  by_cases e : a = b
  · subst e
    rw [decide_eq_true rfl]
    have h : ∀ d : Nat, (Op.equalIn (d + 1) 76 (.pointer (some ⟨a, 0, none⟩)) (.pointer (some ⟨a, 0, none⟩))).run Tryz.prog w = .ok true w := fun d => by
      simp [Op.equalIn, run_underlying hp, sizeOf, typeInfo, hj, run_sameAddr_same]
    exact h 9999
  · rw [decide_eq_false e]
    obtain ⟨ca, ha⟩ := ha
    obtain ⟨cb, hb⟩ := hb
    have h : ∀ d : Nat, (Op.equalIn (d + 1) 76 (.pointer (some ⟨a, 0, none⟩)) (.pointer (some ⟨b, 0, none⟩))).run Tryz.prog w = .ok false w := fun d => by
      simp [Op.equalIn, run_underlying hp, sizeOf, typeInfo, hj, hsz, run_sameAddr_other w (fun h => e (Addr.mk.inj h).1) ha hb]
    exact h 9999
theorem run_asking {k : Nat} (hk : FBk w k) : ∀ (es : List MapEntry) (M : List (Nat × Nat)) (i : Nat), es.map (fun x => (x.key, x.val)) = M.map fkv → (∀ p ∈ M, FBk w p.1) →
    (lkp M k = none ∧ (Instr.findAsking 76 (fP k) es i).run Tryz.prog w = .ok none w) ∨ ∃ g j, lkp M k = some g ∧ (Instr.findAsking 76 (fP k) es i).run Tryz.prog w = .ok (some (j, fP g)) w := by
  intro es
  induction es with
  | nil =>
    intro M i h _
    cases M with
    | nil => exact .inl ⟨rfl, rfl⟩
    | cons p r => simp at h
  | cons e r ih =>
    intro M i h hM
    cases M with
    | nil => simp at h
    | cons p q =>
      simp only [List.map_cons, List.cons.injEq, fkv, Prod.mk.injEq] at h
      obtain ⟨⟨h1, h2⟩, h3⟩ := h
      have he := run_eq_file hk (hM p (List.mem_cons_self ..))
      have hr : ∀ c, (Op.equal 76 (fP k) e.key).run Tryz.prog w = .ok c w → (Instr.findAsking 76 (fP k) (e :: r) i).run Tryz.prog w = if c = true then .ok (some (i, e.val)) w else (Instr.findAsking 76 (fP k) r (i + 1)).run Tryz.prog w := fun c hc => by
        conv => lhs; unfold Instr.findAsking
        rw [Sem.run_bind, hc, Result.andThen_ok]
        cases c <;> rfl
      by_cases e' : k = p.1
      · rw [decide_eq_true e', ← h1] at he
        right
        refine ⟨p.2, i, ?_, ?_⟩
        · unfold lkp
          rw [List.find?_cons, e']
          simp
        · rw [hr true he, if_pos rfl, h2]
      · rw [decide_eq_false e', ← h1] at he
        rw [hr false he, if_neg (by decide)]
        have hl : lkp (p :: q) k = lkp q k := by
          unfold lkp
          rw [List.find?_cons, beq_eq_false_iff_ne.2 fun h => e' h.symm]
        rw [hl]
        exact ih q (i + 1) h3 fun x hx => hM x (List.mem_cons_of_mem _ hx)
theorem run_fkey {k : Nat} (hk : FBk w k) (es : List MapEntry) (M : List (Nat × Nat)) (h : es.map (fun x => (x.key, x.val)) = M.map fkv) (hM : ∀ p ∈ M, FBk w p.1) :
    (lkp M k = none ∧ (Instr.findKey 76 (fP k) es).run Tryz.prog w = .ok none w) ∨ ∃ g j, lkp M k = some g ∧ (Instr.findKey 76 (fP k) es).run Tryz.prog w = .ok (some (j, fP g)) w := by
  have hp : Tryz.prog.underlying 76 = some (.pointer 78) := Tryz.underlying76
  cases es with
  | nil =>
    cases M with
    | nil =>
      refine .inl ⟨rfl, ?_⟩
      simp [Instr.findKey, run_underlying hp, Result.andThen, Instr.findNow]
    | cons p r => simp at h
  | cons e r =>
    have hf : Instr.findNow (.pointer 78) (fP k) (e :: r) 0 = none := by
      unfold Instr.findNow Instr.sameNow
      rfl
    have hr : (Instr.findKey 76 (fP k) (e :: r)).run Tryz.prog w = (Instr.findAsking 76 (fP k) (e :: r) 0).run Tryz.prog w := by
      unfold Instr.findKey
      rw [Sem.run_bind, run_underlying hp, Result.andThen_ok, hf]
    rw [hr]
    exact run_asking hk _ _ _ h hM
theorem run_check {k : Nat} (e : Bool) : (Instr.checkKey e 10000 76 (fP k)).run Tryz.prog w = .ok () w := by
  have hp : Tryz.prog.underlying 76 = some (.pointer 78) := Tryz.underlying76
  have h : ∀ n, (Instr.checkKey e (n + 1) 76 (fP k)).run Tryz.prog w = .ok () w := fun n => by
    unfold Instr.checkKey
    rw [Sem.run_bind, run_underlying hp, Result.andThen_ok]
    rfl
  exact h 9999
/-- m[k]. -/
theorem PMapAt.look {b k : Nat} {M : List (Nat × Nat)} (h : PMapAt w b M) (hk : FBk w k) : (Instr.lookup 75 (.map (some b)) (fP k) false).run Tryz.prog w = .ok (pV (lkp M k)) w := by
  obtain ⟨⟨es, cl, h1, h2⟩, h3⟩ := h
  have hm : Tryz.prog.underlying 75 = some (.map 76 76) := Tryz.underlying75
  have hz : (zeroValue 76).run Tryz.prog w = .ok (.pointer none) w := Tryz.zeroValue76 w
  rcases run_fkey hk es.toList M h2 h3 with ⟨e1, e2⟩ | ⟨g, j, e1, e2⟩
  · rw [e1]
    simp [Instr.lookup, run_underlying hm, MapKept.run_getObj_map h1, run_check, e2, hz, Result.andThen, pV]
  · rw [e1]
    simp [Instr.lookup, run_underlying hm, MapKept.run_getObj_map h1, run_check, e2, Result.andThen, pV, fP]
/-- m[k] = g, of a new k. -/
theorem PMapAt.push {b k : Nat} {M : List (Nat × Nat)} (h : PMapAt w b M) (hk : FBk w k) (hn : lkp M k = none) (g : Nat) :
    ∃ w', (Instr.mapUpdate 75 (.map (some b)) (fP k) (fP g)).run Tryz.prog w = .ok () w' ∧ PMapAt w' b (M ++ [(k, g)]) ∧ Fr (fun j => j = b) w w' ∧ w'.heap.size = w.heap.size := by
  have h0 := h
  obtain ⟨⟨es, cl, h1, h2⟩, h3⟩ := h
  have hm : Tryz.prog.underlying 75 = some (.map 76 76) := Tryz.underlying75
  have hlt := heap_lt h1
  rcases run_fkey hk es.toList M h2 h3 with ⟨-, e2⟩ | ⟨g', j, e1, e2⟩
  · have hs := MapKept.heap_set (o' := .map (es.push ⟨fP k, fP g, cl⟩) (cl + 1)) h1
    have hF : Fr (fun j => j = b) w { w with heap := w.heap.setIfInBounds b (.map (es.push ⟨fP k, fP g, cl⟩) (cl + 1)) } := ⟨rfl, rfl, rfl, by simp, fun j _ hj => hs.2 j hj⟩
    refine ⟨_, ?_, ⟨⟨_, _, hs.1, ?_⟩, fun p hp => ?_⟩, hF, by simp⟩
    · simp [Instr.mapUpdate, run_underlying hm, MapKept.run_getObj_map h1, run_check, e2, MapKept.run_setObj_map _ h1, Result.andThen]
    · rw [Array.toList_push, List.map_append, h2, List.map_append]
      rfl
    · have hf : ∀ q, FBk w q → FBk { w with heap := w.heap.setIfInBounds b (.map (es.push ⟨fP k, fP g, cl⟩) (cl + 1)) } q := fun q hq => hq.frame hF fun e => by
        obtain ⟨cs, hq⟩ := hq
        rw [e, h1] at hq
        cases hq
      rcases List.mem_append.1 hp with h | h
      · exact hf _ (h3 p h)
      · simp only [List.mem_cons, List.not_mem_nil, or_false] at h
        rw [h]
        exact hf _ hk
  · rw [hn] at e1; cases e1
theorem lkp_snoc {M : List (Nat × Nat)} {k : Nat} (hn : lkp M k = none) (g j : Nat) : lkp (M ++ [(k, g)]) j = if j = k then some g else lkp M j := by
  unfold lkp at *
  rw [List.find?_append]
  by_cases e : j = k
  · rw [if_pos e, e]
    have h1 : M.find? (fun p => p.1 == k) = none := by
      cases h : M.find? (fun p => p.1 == k) with
      | none => rfl
      | some x => rw [h] at hn; cases hn
    rw [h1]
    simp
  · rw [if_neg e]
    have h1 : List.find? (fun p : Nat × Nat => p.1 == j) [(k, g)] = none := by
      rw [List.find?_cons, beq_eq_false_iff_ne.2 fun h => e h.symm]
      rfl
    rw [h1, Option.or_none]
theorem lkp_mem {M : List (Nat × Nat)} {k g : Nat} (h : lkp M k = some g) : (k, g) ∈ M := by
  unfold lkp at h
  cases hf : M.find? (fun p => p.1 == k) with
  | none => rw [hf] at h; cases h
  | some p =>
    rw [hf] at h
    have h1 := List.find?_some hf
    have h2 := List.mem_of_find?_eq_some hf
    simp only [Option.map_some, Option.some.injEq] at h
    rw [← h, ← (beq_iff_eq.1 h1)]
    exact h2
end Go.Proofs.YtlhbgobjhddhlaaGreatDoor
