/- Package disk: the sort of Crash: files by their numbers. -/
import Derived.Test.YtlhbgobjhddhlaaGreatDoorDiskN
import Derived.Test.YtlhbgobjhddhlaaGreatDoorSortPLay
namespace Go.Proofs.YtlhbgobjhddhlaaGreatDoor
open Go.RowKit Go.Sort
variable {base : Nat} {w w' : World} {s : DS}

def fV (G : List Nat) : List Value := G.map fun k => .pointer (some ⟨k, 0, none⟩)
@[simp] theorem fV_length (G : List Nat) : (fV G).length = G.length := by simp [fV]
theorem Ps.own {b e : Nat} {v : Value} {G : List Nat} (h : w.ownsRow b e 1 v G.length (fV G)) : Ps (fun k => v.ownBlock = some k) w v G := by
  rcases h.2 with ⟨rfl, h0⟩ | ⟨g, cap, cur, rfl, _, hg, h1, h2, _, ht⟩
  · have hl : G = [] := List.eq_nil_of_length_eq_zero h0
    subst hl
    exact ⟨none, 0, rfl, Nat.le_refl _, Nat.zero_le _, fun k hk => by simp at hk⟩
  · refine ⟨_, _, rfl, h1, h2, fun k hk => ⟨g, 0, _, rfl, rfl, ?_, rfl⟩⟩
    rw [Nat.zero_add, cell_of_row w g k cur e (0, 0) hg]
    have : (cur.toList.take (G.length * 1))[k]? = (fV G)[k]? := by rw [ht]
    rw [List.getElem?_take, if_pos (by omega)] at this
    simp only [Array.getElem?_toList] at this
    rw [this]
    simp [fV, List.getD, hk]
theorem fr_sort1 {α : Type} [Inhabited α] (enc : α → Value) (w : World) (blk off m : Nat) (dk : Array α) (os : Array Obj) : Fr (fun q => q = blk) w (sortWorld enc w blk off m dk os) := by
  refine ⟨rfl, rfl, rfl, ?_, fun i hi hne => ?_⟩
  · show w.heap.size ≤ (grow (putRow enc (Sort.ahead w m) blk off dk) os).heap.size
    rw [size_grow, size_putRow]
    simp
  · show (grow (putRow enc (Sort.ahead w m) blk off dk) os).heap[i]? = w.heap[i]?
    have h1 : (putRow enc (Sort.ahead w m) blk off dk).heap.size = w.heap.size := by rw [size_putRow]; simp
    unfold grow
    rw [Array.getElem?_append_left (by rw [h1]; exact hi)]
    unfold putRow mapBlock
    simp only [heap_ahead, Array.getElem?_modify]
    rw [if_neg (fun e => hne e.symm)]
theorem cnt_swo {α : Type} (f : α → Nat) : SWO (ltOf fun x y : α => (f x : Int) - f y) := by
  refine ⟨fun x => ?_, fun x y z h1 h2 => ?_, fun x y z h1 h2 => ?_⟩
  · unfold ltOf; dsimp only; rw [decide_eq_false_iff_not]; omega
  · unfold ltOf at *; dsimp only at *; rw [decide_eq_true_eq] at *; omega
  · unfold ltOf at *; dsimp only at *; rw [decide_eq_false_iff_not] at *; omega
set_option maxHeartbeats 3200000 in
theorem fsort_any (idf : Nat → Nat) (G : List Nat) (b cg : Nat) (ag : Option Addr) (hown : w.ownsRow b 76 1 (.slice ag G.length cg) G.length (fV G)) (hl : G.length ≤ 1000000)
    (hf : ∀ k ∈ G, FBk w k ∧ w.cell? ⟨k, 0, none⟩ = some (.int .i64 (idf k)) ∧ idf k ≤ 4611686018427387904) :
    Calls Tryz.prog 55 #[.slice ag G.length cg, .func (.func 56) #[] #[]] w fun e w' => e = .returned (.tuple #[]) ∧ ∃ G', G'.Perm G ∧ (G'.Pairwise fun a b => idf a ≤ idf b) ∧
      Ps (fun k => (Value.slice ag G.length cg).ownBlock = some k) w' (.slice ag G.length cg) G' ∧ Fr (fun k => (Value.slice ag G.length cg).ownBlock = some k) w w' := by
  by_cases h0 : G = []
  · subst h0
    have hs := AnyF.slices_SortFunc_none { Tryz.sortP with } ag cg (.func (.func 56) #[] #[]) w
    change Calls Tryz.prog 55 _ _ _ at hs
    refine hs.mono ?_
    rintro e w2 ⟨rfl, rfl⟩
    exact ⟨rfl, [], List.Perm.refl _, List.Pairwise.nil, Ps.own hown, Fr.refl _ _⟩
  obtain ⟨x0, hx0⟩ := List.exists_mem_of_ne_nil G h0
  have hlpos : G.length ≠ 0 := fun e => h0 (List.eq_nil_of_length_eq_zero e)
  obtain ⟨g, cur, rfl, hb, hg, h1, h2, h3, h4⟩ : ∃ g cur, ag = some ⟨g, 0, none⟩ ∧ b ≤ g ∧ w.heap[g]? = some (.cells cur 76 (0, 0)) ∧ G.length ≤ cg ∧ cg ≤ maxLen ∧ cur.size = cg * 1 ∧ cur.toList.take (G.length * 1) = fV G := by
    rcases hown.2 with ⟨-, e⟩ | ⟨g, cap, cur, e, hb, hg, h1, h2, h3, h4⟩
    · exact absurd e hlpos
    · simp only [Value.slice.injEq] at e
      obtain ⟨rfl, -, rfl⟩ := e
      exact ⟨g, cur, rfl, hb, hg, h1, h2, h3, h4⟩
  letI : Inhabited {k // k ∈ G} := ⟨⟨x0, hx0⟩⟩
  have hcell : ∀ k, k < G.length → w.cell? ⟨g, k, none⟩ = some (.pointer (some ⟨G.getD k 0, 0, none⟩)) := fun k hk => by
    rw [cell_of_row w g k cur _ (0, 0) hg]
    have : (cur.toList.take (G.length * 1))[k]? = (fV G)[k]? := by rw [h4]
    rw [List.getElem?_take, if_pos (by omega)] at this
    simp only [Array.getElem?_toList] at this
    rw [this]
    simp [fV, List.getD, hk]
  obtain ⟨d, hd⟩ : ∃ d : Array {k // k ∈ G}, d = G.attach.toArray := ⟨_, rfl⟩
  have hds : d.size = G.length := by rw [hd]; simp
  have hdm : d.toList.map (·.1) = G := by rw [hd]; simp
  have hdj : ∀ j, j < G.length → (d[j]!).1 = G.getD j 0 := fun j hj => by
    rw [getElem!_pos d j (by omega)]
    have : (d.toList.map (·.1))[j]? = G[j]? := by rw [hdm]
    rw [List.getElem?_map, Array.getElem?_toList, Array.getElem?_eq_getElem (by omega), List.getElem?_eq_getElem hj] at this
    rw [List.getD_eq_getElem?_getD, List.getElem?_eq_getElem hj]
    simpa using this
  have hH : Holds (fun x : {k // k ∈ G} => Value.pointer (some ⟨x.1, 0, none⟩)) w g 0 d := fun j hj => by
    rw [Nat.zero_add]
    dsimp only
    rw [hdj j (by omega)]
    exact ⟨hcell j (by omega), frozen_of_row _ _ _ _ _ hg⟩
  have hgne : ∀ k ∈ G, k ≠ g := fun k hk e => by
    obtain ⟨⟨cs, hc⟩, -⟩ := hf k hk
    rw [e, hg] at hc
    simp only [Option.some.injEq, Obj.cells.injEq] at hc
    exact absurd hc.2.1 (by decide)
  have hcmp : CmpLays1 Tryz.prog 56 #[] (fun x : {k // k ∈ G} => Value.pointer (some ⟨x.1, 0, none⟩)) (fun x y => (idf x.1 : Int) - idf y.1) g 0 d.size w := fun m os dk _ x y => by
    have hF := fr_sort1 (fun x : {k // k ∈ G} => Value.pointer (some ⟨x.1, 0, none⟩)) w g 0 m dk os
    obtain ⟨-, cx, bx⟩ := hf x.1 x.2
    obtain ⟨-, cy, by'⟩ := hf y.1 y.2
    refine (crash1_any x.1 y.1 _ _ (hF.cell cx (hgne _ x.2)) (hF.cell cy (hgne _ y.2)) bx by').mono ?_
    rintro e w2 ⟨rfl, q, rfl⟩
    exact ⟨rfl, q, #[], by rw [grow_empty]⟩
  have eg : ∀ args w, (callFunc 56 args).run Tryz.prog w = .ok (.enter 56 args) w := enters_of Tryz.func56 (by kernel_rfl) rfl
  have hs := Any.slices_SortFunc Tryz.sortP (fun x : {k // k ∈ G} => Value.pointer (some ⟨x.1, 0, none⟩)) (fun _ => rfl) (fun x y => (idf x.1 : Int) - idf y.1) (cnt_swo fun x : {k // k ∈ G} => idf x.1) 56 #[] g 0 cg d w eg hcmp hH (heap_lt hg) (by omega)
  change Calls Tryz.prog 55 _ _ _ at hs
  rw [hds] at hs
  refine hs.mono ?_
  rintro e w3 ⟨rfl, d', n, os, hp, hss, rfl⟩
  have hds' : d'.size = G.length := by rw [hp.1, hds]
  have hH3 := holds_sortWorld (fun x : {k // k ∈ G} => Value.pointer (some ⟨x.1, 0, none⟩)) w g 0 n d d' os (heap_lt hg) hH (by rw [hds', hds])
  have hl' : (d'.toList.map (·.1)).length = G.length := by simp [hds']
  refine ⟨rfl, d'.toList.map (·.1), ?_, ?_, ?_, ?_⟩
  · have h5 := hp.2.2
    rw [← hds] at h5
    rw [Array.extract_eq_self_of_le (Nat.le_refl _), Array.extract_eq_self_of_le (by omega)] at h5
    have h6 := h5.map (·.1)
    rw [hdm] at h6
    exact h6
  · rw [List.pairwise_iff_getElem]
    intro i j hi hj hij
    have hi' : i < d'.size := by simpa using hi
    have hj' : j < d'.size := by simpa using hj
    have h5 := hss i j (Nat.zero_le _) hij (by omega)
    rw [getElem!_pos d' i hi', getElem!_pos d' j hj'] at h5
    unfold ltOf at h5
    dsimp only at h5
    rw [decide_eq_false_iff_not] at h5
    simp only [List.getElem_map, Array.getElem_toList]
    omega
  · refine ⟨some ⟨g, 0, none⟩, cg, by rw [hl'], by rw [hl']; exact h1, h2, fun k hk => ⟨g, 0, _, rfl, rfl, ?_, rfl⟩⟩
    have hk' : k < d'.size := by rw [hl'] at hk; omega
    rw [(hH3 k hk').1, getElem!_pos d' k hk']
    simp [List.getD, hk']
  · exact (fr_sort1 _ w g 0 n d' os).mono fun k _ e => by simp [Value.ownBlock, e]
end Go.Proofs.YtlhbgobjhddhlaaGreatDoor
