/- Package disk: List. -/
import Derived.Test.YtlhbgobjhddhlaaGreatDoorDiskT
import Derived.Test.YtlhbgobjhddhlaaGreatDoorKeysLay
namespace Go.Proofs.YtlhbgobjhddhlaaGreatDoor
open Go.RowKit Go.Maps Go.Sort
variable {base : Nat} {w0 w w' : World} {s : DS} {pa : Nat → Addr} {nm : ByteArray} {X : Nat}

def unB (ts : List (List UInt8)) : List ByteArray := ts.map fun b => ⟨b.toArray⟩
theorem unB_map (ts : List (List UInt8)) : (unB ts).map (·.data.toList) = ts := by
  unfold unB
  rw [List.map_map]
  exact List.map_id'' (fun b => by simp) ts
theorem unB_sV (ts : List (List UInt8)) : sV (unB ts) = ts.map encStr := by
  unfold sV unB
  rw [List.map_map]
  rfl
theorem unB_length (ts : List (List UInt8)) : (unB ts).length = ts.length := by simp [unB]
/-- The names, in their order. -/
def namesL (M : Nm) : List ByteArray := unB ((M.map fun q => q.1.data.toList).mergeSort fun x y => decide (x ≤ y))
theorem msort_eq {a b : List (List UInt8)} (h : a.Perm b) : (a.mergeSort fun x y => decide (x ≤ y)) = b.mergeSort fun x y => decide (x ≤ y) := by
  have hs : ∀ l : List (List UInt8), (l.mergeSort fun x y => decide (x ≤ y)).Pairwise fun x y => x ≤ y := fun l => by
    have := List.pairwise_mergeSort (le := fun x y : List UInt8 => decide (x ≤ y)) (fun a b c h1 h2 => by simp only [decide_eq_true_eq] at *; exact List.le_trans h1 h2) (fun a b => by simp only [Bool.or_eq_true, decide_eq_true_eq]; exact List.le_total a b) l
    exact this.imp fun h => of_decide_eq_true h
  exact List.Perm.eq_of_pairwise (fun _ _ _ _ h1 h2 => List.le_antisymm h1 h2) (hs a) (hs b) (((List.mergeSort_perm a _).trans h).trans (List.mergeSort_perm b _).symm)
theorem namesL_perm {M N : Nm} (h : (M.map (·.1)).Perm (N.map (·.1))) : namesL M = namesL N := by
  unfold namesL
  have := h.map fun s : ByteArray => s.data.toList
  rw [List.map_map, List.map_map] at this
  exact congrArg unB (msort_eq this)
theorem namesL_length (M : Nm) : (namesL M).length = M.length := by unfold namesL; rw [unB_length, List.length_mergeSort, List.length_map]
/-- slices.Sort's two contracts, at the fence that asks nothing. -/
theorem sortsP (m : Nat) : AnyZ.SortsIn Tryz.prog Tryz.sortedP_ren Fence.wide m :=
  ⟨fun blk off cap ss W hH hblk hsz => callsIn_wide.2 (AnyM.slices_Sort_string Tryz.sortS blk off cap ss W hH hblk hsz),
   fun p cap W => callsIn_wide.2 (AnyM.slices_Sort_string_none Tryz.sortS p cap W)⟩
set_option maxRecDepth 100000 in
set_option maxHeartbeats 3200000 in
theorem list_any (h : DAt base w s) (hc : s.calls ≤ 1000000) :
    Calls Tryz.prog 62 #[.pointer (some ⟨s.X, 0, none⟩)] w fun e w' => ∃ v, e = .returned v ∧ w'.ownsRow w.heap.size 9 1 v (namesL s.names).length (sV (namesL s.names)) ∧ Fr (fun _ => False) w w' := by
  obtain ⟨-, c1, -⟩ := h.cells
  have hcn := h.cn
  obtain ⟨⟨es, hown, hp⟩, hk⟩ := h.names
  have hel : es.length = s.names.length := by rw [hp.length_eq, List.length_map]
  have hmax : Maps.size (DataW.map es) ≤ maxLen := by rw [Maps.size_eq]; unfold maxLen; omega
  have hbytes : Maps.size (DataW.map es) * 16 ≤ 140737488355328 := by rw [Maps.size_eq]; omega
  have hkeys : (strKeys (DataW.map es)).Perm (s.names.map fun q => q.1.data.toList) := by
    have := hp.map fun p : Lit × DataW Unit => strOf p.1
    rw [List.map_map] at this
    exact this
  have hbl := hown.lt
  have hseq : SeqGives Fence.wide 2 Tryz.prog 90 #[.pointer (some ⟨w.heap.size, 0, none⟩)] encStr (fun ss => ss.Perm (strKeys (DataW.map es))) (Maps.size (DataW.map es)) (w.alloc (.cells #[.map (some s.bn)] 59)) :=
    AnyZ.keys_gives (ρ := Tryz.keysP_ren) { Tryz.keysP with } Fence.wide _ trivial rfl (by omega) w.heap.size s.bn es.length (DataW.map es) _ (by simp) (by simp) (by
      obtain ⟨es', clock, hb, Ft, hs, hD⟩ := hown
      exact ⟨es', clock, (Below.heap_alloc _ _ s.bn hbl).trans hb, Ft, hs, hD⟩)
  have cK : ∀ mb W, CallsIn Fence.wide 5 Tryz.prog 74 #[.map mb] W fun e w' => e = .returned (.func (.func 90) #[] #[.pointer (some ⟨W.heap.size, 0, none⟩)]) ∧ w' = W.alloc (.cells #[.map mb] 59) := fun mb W => AnyZ.keys_in Tryz.keysP Fence.wide 5 trivial rfl mb W
  have cS := AnyZ.sorted_in Tryz.sortedP Fence.wide 5 trivial trivial trivial trivial rfl (by omega) (sortsP _) (enters_of Tryz.func89 (by kernel_rfl) rfl) 90 #[.pointer (some ⟨w.heap.size, 0, none⟩)] trivial (enters_of Tryz.func90 (by kernel_rfl) rfl) _ _ hmax hbytes _ hseq
  change CallsIn _ _ Tryz.prog 73 _ _ _ at cS
  have hfK : Fence.wide.fn 74 := trivial
  have hfS : Fence.wide.fn 73 := trivial
  have HKEYS := hid hkeys
  have CS := hid cS
  clear h hcn hown hp hk hel hmax hbytes hkeys hbl hseq cS
  refine (callsIn_wide (n := 6)).1 ?_
  refine callsIn_of_wp Tryz.func62 rfl trivial ?_ rfl
  simp only [Tryz.ntmps62, List.size_toArray, List.length_cons, List.length_nil, Nat.reduceAdd, Nat.reduceSub, Array.replicate_succ, Array.replicate_zero, List.push_toArray, List.append_toArray, List.nil_append, List.cons_append]
  gi_wp2_with (first
    | (gi_at_call 74; refine (cK _ _).mono ?_; rintro e w' ⟨rfl, rfl⟩)
    | (gi_at_call 73; refine CS.out.mono ?_; rintro e w' ⟨v, ss, rfl, hS, hrow, hnil, hb⟩))
  go_ret
  have hss : ((ss.mergeSort fun x y => decide (x ≤ y)).map encStr) = sV (namesL s.names) := by
    unfold namesL
    rw [unB_sV, msort_eq (hS.trans HKEYS.out)]
  have hln : ss.length = (namesL s.names).length := by rw [namesL_length, (hS.trans HKEYS.out).length_eq, List.length_map]
  rw [hss, hln] at hrow
  refine ⟨v, rfl, own_rebase hrow fun k hk => ?_, ?_⟩
  · have := (hrow.lt k hk).1
    simp at this
    omega
  · have hfa := (Fr.refl (fun _ => False) w).alloc (.cells #[.map (some s.bn)] 59)
    exact hfa.trans' ⟨hb.os, hb.tape, hb.output, hb.size, fun k hk _ => hb.block k hk⟩
/-- A block of texts. -/
def TB (w : World) (k : Nat) : Prop := ∃ cs fz, w.heap[k]? = some (.cells cs 9 fz)
theorem TB.frame {S : Nat → Prop} {k : Nat} (h : TB w k) (hf : Fr S w w') (hS : ¬ S k) : TB w' k := by
  obtain ⟨cs, fz, h⟩ := h
  exact ⟨cs, fz, hf.heap h hS⟩
theorem Tk.texts {k : Nat} (h : TB w k) : ¬ Tk w k := by
  obtain ⟨cs, fz, hc⟩ := h
  exact Tk.no hc (by decide) (by decide) (by decide)
theorem Ss.keep {v : Value} {l : List ByteArray} (h : Ss (TB w) w v l) (hf : Fr (Tk w) w w') : Ss (TB w') w' v l := (h.frame hf fun k hk => Tk.texts hk).mono fun k _ hk => hk.frame hf (Tk.texts hk)
theorem Ss.keep0 {v : Value} {l : List ByteArray} (h : Ss (TB w) w v l) (hf : Fr (fun _ => False) w w') : Ss (TB w') w' v l := h.keep (fr_tk hf)
theorem ss_own {b : Nat} {v : Value} {l : List ByteArray} (h : w.ownsRow b 9 1 v l.length (sV l)) : Ss (TB w) w v l := (Ss.own h).mono fun k _ hk => by
  rcases h.2 with ⟨e, -⟩ | ⟨g, cap, cur, e, -, hg, -⟩
  · rw [e] at hk; cases hk
  · rw [e] at hk
    simp only [Value.ownBlock, Option.some.injEq] at hk
    subst hk
    exact ⟨_, _, hg⟩
theorem list_p {p : PS} (h : PW w0 w X p) (hc : p.calls ≤ 1000000) :
    Calls Tryz.prog 62 #[.pointer (some ⟨X, 0, none⟩)] w fun e w' => Fr (fun _ => False) w w' ∧ ∃ a c, e = .returned (.slice a (namesL p.names).length c) ∧ Ss (TB w') w' (.slice a (namesL p.names).length c) (namesL p.names) := by
  obtain ⟨s, h, rfl, rfl⟩ := h
  refine (list_any h.d hc).mono ?_
  rintro e w2 ⟨v, rfl, ho, hf⟩
  obtain ⟨a, c, rfl, -⟩ := own_len ho
  exact ⟨hf, a, c, rfl, ss_own ho⟩
/-- Which texts they are. -/
theorem namesL_of {M : Nm} {L : List ByteArray} (hp : (M.map (·.1)).Perm L) (hs : (L.map (·.data.toList)).Pairwise (· ≤ ·)) : namesL M = L := by
  have h1 := hp.map fun s : ByteArray => s.data.toList
  rw [List.map_map] at h1
  have h2 : ((M.map fun q => q.1.data.toList).mergeSort fun x y => decide (x ≤ y)) = L.map (·.data.toList) := by
    have := List.pairwise_mergeSort (le := fun x y : List UInt8 => decide (x ≤ y)) (fun a b c h1 h2 => by simp only [decide_eq_true_eq] at *; exact List.le_trans h1 h2) (fun a b => by simp only [Bool.or_eq_true, decide_eq_true_eq]; exact List.le_total a b) (M.map fun q => q.1.data.toList)
    exact List.Perm.eq_of_pairwise (fun _ _ _ _ h1 h2 => List.le_antisymm h1 h2) (this.imp fun h => of_decide_eq_true h) hs ((List.mergeSort_perm _ _).trans h1)
  unfold namesL
  rw [h2]
  unfold unB
  rw [List.map_map]
  exact List.map_id'' (fun b => by cases b; simp) L
/-- A row of texts made anew. -/
theorem Ss.row {w : World} {g : Nat} {l : List ByteArray} {fz : Nat × Nat} (h : w.heap[g]? = some (.cells (sV l).toArray 9 fz)) (hl : l.length ≤ maxLen) : Ss (TB w) w (.slice (some ⟨g, 0, none⟩) l.length l.length) l := by
  refine ⟨_, _, rfl, Nat.le_refl _, hl, fun k hk => ⟨g, 0, rfl, ⟨_, _, h⟩, ?_⟩⟩
  rw [Nat.zero_add, cell_of_row _ _ _ _ _ _ h]
  simp [sV, List.getD, hk]
end Go.Proofs.YtlhbgobjhddhlaaGreatDoor
