/- A map of texts to pointers: what it holds, as a list of pairs; its operations. -/
import Derived.Test.YtlhbgobjhddhlaaGreatDoorLib
import Derived.Maps.OwnSet
import Derived.Maps.Range
import Derived.Maps.RangeWalk
import Derived.StringKeys
import Derived.MapViews
import Derived.Sort.MapsRangeIn
namespace Go.Proofs.YtlhbgobjhddhlaaGreatDoor
open Go.RowKit

abbrev Nm := List (ByteArray × Nat)
def pV : Option Nat → Value
  | none => .pointer none
  | some b => .pointer (some ⟨b, 0, none⟩)
def pI : Option Nat → Int
  | none => -1
  | some b => b
def fileR : Value → Option (DataW Unit × List MemPlace)
  | .pointer none => some (.lit (.int .i64 (-1)), [])
  | .pointer (some ⟨b, 0, none⟩) => some (.lit (.int .i64 b), [])
  | _ => none
theorem fileR_pV (o : Option Nat) : fileR (pV o) = some (.lit (.int .i64 (pI o)), []) := by cases o <;> rfl
theorem fileR_inv {v : Value} {y : DataW Unit × List MemPlace} (h : fileR v = some y) : ∃ o, v = pV o ∧ y = (.lit (.int .i64 (pI o)), []) := by
  unfold fileR at h
  split at h
  · simp only [Option.some.injEq] at h
    exact ⟨none, rfl, h.symm⟩
  · rename_i b
    simp only [Option.some.injEq] at h
    exact ⟨some b, rfl, h.symm⟩
  · cases h
theorem pI_inj {o o' : Option Nat} (h : pI o = pI o') : o = o' := by
  cases o <;> cases o' <;> simp [pI] at h ⊢ <;> omega
def encN (p : ByteArray × Nat) : Lit × DataW Unit := (.string p.1.data.toList, .lit (.int .i64 (p.2 : Int)))
/-- Who has the name. -/
def lk (M : Nm) (s : ByteArray) : Option Nat := (M.find? fun p => decide (p.1 = s)).map (·.2)
def dl (M : Nm) (s : ByteArray) : Nm := M.filter fun p => !decide (p.1 = s)
def pt (M : Nm) (s : ByteArray) (f : Nat) : Nm := (s, f) :: dl M s
def Ks (M : Nm) : Prop := (M.map (·.1)).Nodup
theorem ba_inj {s t : ByteArray} (h : s.data.toList = t.data.toList) : s = t := by
  cases s; cases t
  simp only [ByteArray.mk.injEq]
  exact Array.toList_inj.1 h
theorem same_str (s t : ByteArray) : Lit.sameKey (.string s.data.toList) (.string t.data.toList) = decide (s = t) := by
  unfold Lit.sameKey
  by_cases h : s = t
  · subst h; simp
  · rw [decide_eq_false h, beq_eq_false_iff_ne]
    exact fun e => h (ba_inj e)
theorem ks_dl {M : Nm} (h : Ks M) (s : ByteArray) : Ks (dl M s) := by
  unfold Ks dl at *
  exact (List.Pairwise.sublist (List.Sublist.map _ List.filter_sublist) h)
theorem mem_dl {M : Nm} {s : ByteArray} {p : ByteArray × Nat} : p ∈ dl M s ↔ p ∈ M ∧ p.1 ≠ s := by
  unfold dl
  simp
theorem ks_pt {M : Nm} (h : Ks M) (s : ByteArray) (f : Nat) : Ks (pt M s f) := by
  have h1 := ks_dl h s
  unfold Ks pt at *
  rw [List.map_cons, List.nodup_cons]
  refine ⟨fun hm => ?_, h1⟩
  obtain ⟨p, hp, e⟩ := List.mem_map.1 hm
  exact (mem_dl.1 hp).2 e
theorem lk_mem {M : Nm} (h : Ks M) {s : ByteArray} {f : Nat} : lk M s = some f ↔ (s, f) ∈ M := by
  induction M with
  | nil => simp [lk]
  | cons p r ih =>
    unfold Ks at h
    rw [List.map_cons, List.nodup_cons] at h
    have ih' := ih h.2
    unfold lk at ih' ⊢
    rw [List.find?_cons]
    by_cases e : p.1 = s
    · rw [decide_eq_true e]
      simp only [Option.map_some, Option.some.injEq, List.mem_cons]
      constructor
      · rintro rfl; exact .inl (by rw [← e])
      · rintro (rfl | hm)
        · rfl
        · exact absurd (List.mem_map.2 ⟨_, hm, rfl⟩) (by rw [← e] at hm ⊢; exact h.1)
    · rw [decide_eq_false e]
      simp only [List.mem_cons]
      rw [ih']
      constructor
      · exact .inr
      · rintro (rfl | hm)
        · exact absurd rfl e
        · exact hm
theorem lk_none {M : Nm} {s : ByteArray} : lk M s = none ↔ ∀ p ∈ M, p.1 ≠ s := by
  unfold lk
  simp
theorem lk_dl (M : Nm) (s t : ByteArray) : lk (dl M s) t = if t = s then none else lk M t := by
  unfold lk dl
  by_cases h : t = s
  · subst h
    rw [if_pos rfl, List.find?_filter]
    simp
  · rw [if_neg h, List.find?_filter]
    congr 2
    funext p
    by_cases e : p.1 = t
    · simp [e, h]
    · simp [e]
theorem lk_pt (M : Nm) (s : ByteArray) (f : Nat) (t : ByteArray) : lk (pt M s f) t = if t = s then some f else lk M t := by
  by_cases h : t = s
  · subst h
    simp [lk, pt]
  · rw [if_neg h]
    have := lk_dl M s t
    rw [if_neg h] at this
    rw [← this]
    unfold lk pt
    rw [List.find?_cons, decide_eq_false (fun e => h e.symm)]

/-- Block b holds the names M. -/
def MapAt (w : World) (b : Nat) (M : Nm) : Prop :=
  (∃ es : List (Lit × DataW Unit), w.ownsMap Tryz.prog 9 fileR b es.length (.map es) ∧ es.Perm (M.map encN)) ∧ Ks M
theorem own_exact {w : World} {b n : Nat} {es : List (Lit × DataW Unit)} (h : w.ownsMap Tryz.prog 9 fileR b n (.map es)) : w.ownsMap Tryz.prog 9 fileR b es.length (.map es) := by
  obtain ⟨a, clock, hb, F, hs, hD⟩ := h
  simp only [DataW.map.injEq] at hD
  refine ⟨a, clock, hb, F, ?_, by rw [← hD]⟩
  rw [hD, Go.length_sorted]
  simp
theorem MapAt.lt {w : World} {b : Nat} {M : Nm} (h : MapAt w b M) : b < w.heap.size := by
  obtain ⟨⟨es, ho, -⟩, -⟩ := h
  exact ho.lt
theorem MapAt.made (w : World) : MapAt (w.alloc (.map #[] 0)) w.heap.size [] :=
  ⟨⟨[], World.ownsMap_made w Tryz.prog 9 fileR, List.Perm.refl _⟩, List.Pairwise.nil⟩
theorem MapAt.frame {w w' : World} {S : Nat → Prop} {b : Nat} {M : Nm} (h : MapAt w b M) (hf : Fr S w w') (hS : ¬ S b) : MapAt w' b M := by
  obtain ⟨⟨es, ⟨a, clock, hb, r⟩, hp⟩, hk⟩ := h
  exact ⟨⟨es, ⟨a, clock, hf.heap hb hS, r⟩, hp⟩, hk⟩
/-- maps.Clone's block. -/
theorem MapAt.cells {w : World} {b : Nat} {M : Nm} (h : MapAt w b M) : ∃ es clock, w.heap[b]? = some (.map es clock) ∧ ∀ w' b', w'.heap[b']? = some (.map es clock) → MapAt w' b' M := by
  obtain ⟨⟨es, ⟨a, clock, hb, r⟩, hp⟩, hk⟩ := h
  exact ⟨a, clock, hb, fun w' b' hb' => ⟨⟨es, ⟨a, clock, hb', r⟩, hp⟩, hk⟩⟩
theorem keyStr {s : ByteArray} (hs : s.size ≤ maxLen) : keyOf Tryz.prog 9 (.string s) = some (.string s.data.toList) := Go.WideMaps.keyOf_string_mk Tryz.underlying9 hs
theorem atKey_lk {es : List (Lit × DataW Unit)} {M : Nm} (hp : es.Perm (M.map encN)) (hk : Ks M) (s : ByteArray) (z : DataW Unit) :
    (DataW.map es).atKey (.string s.data.toList) z = match lk M s with
      | some f => .lit (.int .i64 f)
      | none => z := by
  unfold DataW.atKey
  dsimp only
  cases hl : lk M s with
  | none =>
    have h1 := lk_none.1 hl
    have : es.find? (fun p => p.1.sameKey (.string s.data.toList)) = none := by
      rw [List.find?_eq_none]
      intro q hq
      obtain ⟨p, hpm, rfl⟩ := List.mem_map.1 (hp.mem_iff.1 hq)
      have := h1 p hpm
      simp only [encN]
      rw [same_str, decide_eq_false this]
      simp
    rw [this]
  | some f =>
    have hm := (lk_mem hk).1 hl
    have he : encN (s, f) ∈ es := hp.mem_iff.2 (List.mem_map.2 ⟨_, hm, rfl⟩)
    cases hf : es.find? (fun p => p.1.sameKey (.string s.data.toList)) with
    | none =>
      have := List.find?_eq_none.1 hf _ he
      simp only [encN] at this
      rw [same_str] at this
      simp at this
    | some q =>
      have hq1 := List.find?_some hf
      have hq2 := List.mem_of_find?_eq_some hf
      obtain ⟨p, hpm, rfl⟩ := List.mem_map.1 (hp.mem_iff.1 hq2)
      simp only [encN] at hq1
      rw [same_str, decide_eq_true_eq] at hq1
      have : lk M s = some p.2 := (lk_mem hk).2 (by rw [← hq1]; exact hpm)
      rw [hl] at this
      simp only [Option.some.injEq] at this
      dsimp only [encN]
      rw [this]
/-- m[s]. -/
theorem MapAt.look {w : World} {b : Nat} {M : Nm} (h : MapAt w b M) {s : ByteArray} (hs : s.size ≤ maxLen) : (Instr.lookup 59 (.map (some b)) (.string s) false).run Tryz.prog w = .ok (pV (lk M s)) w := by
  obtain ⟨⟨es, ho, hp⟩, hk⟩ := h
  obtain ⟨v, ps, hrun, hv⟩ := ho.lookup (Maps.string_keyed Tryz.underlying9) Tryz.underlying59 (Tryz.zeroValue76 w) (zd := .lit (.int .i64 (-1))) (zp := []) rfl (keyStr hs)
  rw [hrun]
  obtain ⟨o, rfl, e⟩ := fileR_inv hv
  rw [atKey_lk hp hk] at e
  cases hl : lk M s with
  | none =>
    rw [hl] at e
    simp only [Prod.mk.injEq, DataW.lit.injEq, Lit.int.injEq, true_and] at e
    rw [pI_inj (o := o) (o' := none) e.1.symm]
  | some f =>
    rw [hl] at e
    simp only [Prod.mk.injEq, DataW.lit.injEq, Lit.int.injEq, true_and] at e
    rw [pI_inj (o := o) (o' := some f) e.1.symm]
theorem notKey_dl (M : Nm) (s : ByteArray) : (M.map encN).filter (ChangeMaps.notKey (.string s.data.toList)) = (dl M s).map encN := by
  unfold dl
  rw [List.filter_map]
  congr 1
  apply List.filter_congr
  intro p _
  simp only [Function.comp, ChangeMaps.notKey, encN]
  rw [same_str]
/-- m[s] = f. -/
theorem MapAt.store {w : World} {b : Nat} {M : Nm} (h : MapAt w b M) {s : ByteArray} (hs : s.size ≤ maxLen) (f : Nat) (hM : M.length < maxLen) :
    ∃ w', (Instr.mapUpdate 59 (.map (some b)) (.string s) (.pointer (some ⟨f, 0, none⟩))).run Tryz.prog w = .ok () w' ∧ MapAt w' b (pt M s f) ∧ Fr (fun k => k = b) w w' ∧ w'.heap.size = w.heap.size := by
  obtain ⟨⟨es, ho, hp⟩, hk⟩ := h
  have hl : es.length = M.length := by rw [hp.length_eq, List.length_map]
  obtain ⟨w', hrun, ho', ht⟩ := ho.store (Maps.string_keyed Tryz.underlying9) Tryz.underlying59 (by omega) (keyStr hs) (fileR_pV (some f))
  refine ⟨w', hrun, ⟨⟨_, own_exact ho', ?_⟩, ks_pt hk s f⟩, (Fr.of_grownBy ht.grown).mono fun k _ e => by simpa using e, ?_⟩
  · refine (Go.WideShapes.insert_perm _ _).trans ?_
    unfold pt
    rw [List.map_cons, ← notKey_dl]
    exact (hp.filter _).cons _
  · obtain ⟨_, _, _, _, _, rfl⟩ := ht
    simp [ChangeMaps.setBlock]
/-- delete(m, s). -/
theorem MapAt.drop {w : World} {b : Nat} {M : Nm} (h : MapAt w b M) {s : ByteArray} (hs : s.size ≤ maxLen) (ty : TypeId) :
    ∃ w', (Builtin.delete_ #[59, 9] ty #[.map (some b), .string s]).run Tryz.prog w = .ok (.tuple #[]) w' ∧ MapAt w' b (dl M s) ∧ Fr (fun k => k = b) w w' ∧ w'.heap.size = w.heap.size := by
  obtain ⟨⟨es, ho, hp⟩, hk⟩ := h
  obtain ⟨w', hrun, ho', ht⟩ := ho.drop (Maps.string_keyed Tryz.underlying9) Tryz.underlying59 (keyStr hs) ty
  refine ⟨w', hrun, ⟨⟨_, own_exact ho', ?_⟩, ks_dl hk s⟩, (Fr.of_grownBy ht.grown).mono fun k _ e => by simpa using e, ?_⟩
  · rw [← notKey_dl]
    exact hp.filter _
  · obtain ⟨_, _, _, _, _, rfl⟩ := ht
    simp [ChangeMaps.setBlock]
/-- A range over the names under way: L are still to come. -/
def RangeAt (w : World) (b r : Nat) (M L : Nm) : Prop :=
  ∃ (es : List (Lit × DataW Unit)) (left : Lit → Bool) (cnt : Nat), w.ranges Tryz.prog 9 fileR b r es.length (.map es) left cnt ∧ es.Perm (M.map encN) ∧ Ks M ∧ L = M.filter fun p => left (.string p.1.data.toList)
theorem RangeAt.map {w : World} {b r : Nat} {M L : Nm} (h : RangeAt w b r M L) : MapAt w b M := by
  obtain ⟨es, left, cnt, hr, hp, hk, -⟩ := h
  exact ⟨⟨es, hr.owns, hp⟩, hk⟩
theorem RangeAt.frame {w w' : World} {S : Nat → Prop} {b r : Nat} {M L : Nm} (h : RangeAt w b r M L) (hf : Fr S w w') (hb : ¬ S b) (hr : ¬ S r) : RangeAt w' b r M L := by
  obtain ⟨es, left, cnt, ⟨a, clock, since, seen, c0, h1, h2, h3, h4, h5, rr⟩, hp⟩ := h
  exact ⟨es, left, cnt, ⟨a, clock, since, seen, c0, hf.heap h1 hb, h2, h3, h4, hf.heap h5 hr, rr⟩, hp⟩
theorem RangeAt.iter {w : World} {b r : Nat} {M L : Nm} (h : RangeAt w b r M L) : ∃ m since seen c, w.heap[r]? = some (.mapIter m since seen c) := by
  obtain ⟨es, left, cnt, ⟨a, clock, since, seen, c0, h1, h2, h3, h4, h5, rr⟩, hp⟩ := h
  exact ⟨_, _, _, _, h5⟩
theorem MapAt.range {w : World} {b : Nat} {M : Nm} (h : MapAt w b M) :
    ∃ w', (Instr.range 59 (.map (some b))).run Tryz.prog w = .ok (.pointer (some ⟨w.heap.size, 0, none⟩)) w' ∧ RangeAt w' b w.heap.size M M ∧ Fr (fun _ => False) w w' ∧ w'.heap.size = w.heap.size + 1 := by
  obtain ⟨⟨es, ho, hp⟩, hk⟩ := h
  obtain ⟨w', hrun, hr, hg, hs⟩ := ho.range (Maps.string_keyed Tryz.underlying9) Tryz.underlying59
  refine ⟨w', hrun, ⟨es, _, _, hr, hp, hk, ?_⟩, (Fr.of_grownBy hg).mono fun k _ e => by simp at e, hs⟩
  symm
  rw [List.filter_eq_self]
  intro p hpm
  rw [Maps.has_eq, List.any_eq_true]
  refine ⟨encN p, hp.mem_iff.2 (List.mem_map.2 ⟨_, hpm, rfl⟩), ?_⟩
  simp only [encN]
  rw [same_str]
  simp
theorem RangeAt.next {w : World} {b r : Nat} {M L : Nm} (h : RangeAt w b r M L) (ty : TypeId) :
    (L = [] ∧ (Instr.next (.pointer (some ⟨r, 0, none⟩)) false ty).run Tryz.prog w = .ok (.tuple #[.bool false]) w) ∨
    ∃ s f w', (s, f) ∈ L ∧ (s, f) ∈ M ∧ (Instr.next (.pointer (some ⟨r, 0, none⟩)) false ty).run Tryz.prog w = .ok (.tuple #[.bool true, .string s, .pointer (some ⟨f, 0, none⟩)]) w' ∧
      RangeAt w' b r M (dl L s) ∧ Fr (fun k => k = r) w w' ∧ w'.heap.size = w.heap.size ∧ (Instr.entry (.pointer (some ⟨r, 0, none⟩))).run Tryz.prog w' = .ok (.tuple #[.string s, .pointer (some ⟨f, 0, none⟩)]) w' ∧ w'.rangeLeft b r < w.rangeLeft b r := by
  obtain ⟨es, left, cnt, hr, hp, hk, rfl⟩ := h
  rcases hr.next (Maps.string_keyed Tryz.underlying9) ty with ⟨-, hl, hrun⟩ | ⟨key, v, kl, y, w', cnt', hkey, hlk, hv, hat, hrun, hrg, hlt, hgr, hsz, hen⟩
  · exact .inl ⟨by rw [List.filter_eq_nil_iff]; intro p _; simp [hl], hrun⟩
  · right
    obtain ⟨s, rfl⟩ := Maps.keyOf_string_inv Tryz.underlying9 hkey
    have hs : kl = .string s.data.toList := by
      unfold keyOf at hkey
      rw [show Tryz.prog.underlying 9 = some .string from Tryz.underlying9] at hkey
      simp only [mapKey] at hkey
      rw [show Tryz.prog.underlying 9 = some .string from Tryz.underlying9] at hkey
      simp at hkey
      exact hkey.2.symm
    subst hs
    obtain ⟨o, rfl, rfl⟩ := fileR_inv hv
    have h1 := hat (.lit (.int .i64 (-2)))
    rw [atKey_lk hp hk] at h1
    cases hl : lk M s with
    | none =>
      rw [hl] at h1
      simp only [DataW.lit.injEq, Lit.int.injEq, true_and] at h1
      cases o <;> simp [pI] at h1 <;> omega
    | some f =>
      rw [hl] at h1
      simp only [DataW.lit.injEq, Lit.int.injEq, true_and] at h1
      obtain rfl : o = some f := (pI_inj (o := some f) h1).symm
      have hm := (lk_mem hk).1 hl
      refine ⟨s, f, w', List.mem_filter.2 ⟨hm, hlk⟩, hm, hrun, ⟨es, _, _, hrg, hp, hk, ?_⟩, (Fr.of_grownBy hgr).mono fun k _ e => by simpa using e, hsz, hen, by rw [hrg.left_eq, hr.left_eq]; exact hlt⟩
      unfold dl
      rw [List.filter_filter]
      apply List.filter_congr
      intro p _
      rw [same_str, Bool.and_comm]
theorem dl_lt {L : Nm} {s : ByteArray} {f : Nat} (h : (s, f) ∈ L) : (dl L s).length < L.length := by
  unfold dl
  rw [List.length_filter_lt_length_iff_exists]
  exact ⟨(s, f), h, by simp⟩
end Go.Proofs.YtlhbgobjhddhlaaGreatDoor
