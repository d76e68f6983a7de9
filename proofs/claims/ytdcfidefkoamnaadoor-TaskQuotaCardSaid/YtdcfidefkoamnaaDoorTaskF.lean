/- Package task: All. -/
import Derived.Test.YtdcfidefkoamnaaDoorTaskE
namespace Go.Proofs.YtdcfidefkoamnaaDoor
open Go.RowKit Go.Sort

theorem fr_sortWorld {α : Type} [Inhabited α] (enc : α → List Value) (k : Nat) (w : World) (blk off m : Nat) (dk : Array α) (os : Array Obj) : Fr (fun q => q = blk) w (sortWorldK enc k w blk off m dk os) := by
  refine ⟨rfl, rfl, rfl, ?_, fun i hi hne => ?_⟩
  · show w.heap.size ≤ (grow (putRowK enc k (Sort.ahead w m) blk off dk) os).heap.size
    rw [size_grow, size_putRowK]
    simp
  · show (grow (putRowK enc k (Sort.ahead w m) blk off dk) os).heap[i]? = w.heap[i]?
    have h1 : (putRowK enc k (Sort.ahead w m) blk off dk).heap.size = w.heap.size := by rw [size_putRowK]; simp
    unfold grow
    rw [Array.getElem?_append_left (by rw [h1]; exact hi)]
    unfold putRowK putRow mapBlock
    simp only [heap_ahead, Array.getElem?_modify]
    rw [if_neg (fun e => hne e.symm)]
theorem holdsK_of_own {base g n cap : Nat} {w : World} {L : List Itm} (h : w.ownsRow base 31 3 (.slice (some ⟨g, 0, none⟩) n cap) n (itsV L)) (hn : n = L.length) : HoldsK itV 3 w g 0 L.toArray := by
  obtain ⟨cur, hb, hg, h1, h2, h3, h4⟩ := own_open h
  intro t ht
  rw [size_flatK] at ht
  have ht' : t < n * 3 := by simpa [hn] using ht
  have hi : t / 3 < L.length := by omega
  have hm : t % 3 < 3 := Nat.mod_lt _ (by decide)
  rw [Nat.zero_add]
  refine ⟨?_, frozen_of_row _ _ _ _ _ hg⟩
  rw [cell_of_row w g t cur _ _ hg]
  have e1 : (itsV L)[t]? = (itV L[t / 3])[t % 3]? := by
    have := itsV_get L (t / 3) L[t / 3] (List.getElem?_eq_getElem hi) (t % 3) hm
    rwa [show t / 3 * 3 + t % 3 = t by omega] at this
  rw [← h4, List.getElem?_take, if_pos ht'] at e1
  rw [show cur[t]? = cur.toList[t]? by simp, e1]
  have e2 : (flatK itV 3 L.toArray)[t]! = (itV L.toArray[t / 3]!)[t % 3]! := get_flatK itV 3 L.toArray t ht
  rw [e2, getElem!_pos L.toArray (t / 3) (by simpa using hi)]
  have hl3 : t % 3 < (itV L[t / 3]).length := by simpa using hm
  rw [List.getElem?_eq_getElem hl3]
  simp only [List.getElem_toArray]
  rw [getElem!_pos (itV L[t / 3]) (t % 3) hl3]
  rfl
theorem rk_of_holdsK {g cap : Nat} {w : World} {d : Array Itm} (h : HoldsK itV 3 w g 0 d) (hc : d.size ≤ cap) (hm : cap ≤ maxLen) : Rk 3 itV (fun b => b = g) w (.slice (some ⟨g, 0, none⟩) d.size cap) d.toList := by
  refine ⟨some ⟨g, 0, none⟩, cap, by simp, by simpa using hc, hm, (fun e => by cases e), fun i x hx => ⟨g, 0, rfl, rfl, fun j u hj => ?_⟩⟩
  have hi : i < d.size := by simpa using (List.getElem?_eq_some_iff.1 hx).1
  have hj3 : j < 3 := by simpa using (List.getElem?_eq_some_iff.1 hj).1
  have h1 := (HoldsK.cell h hi hj3).1
  rw [h1, getElem!_pos d i hi]
  have hxe : d[i] = x := by
    rw [Array.getElem?_toList, Array.getElem?_eq_getElem hi] at hx
    exact Option.some.inj hx
  rw [hxe]
  have hl3 : j < (itV x).length := by simpa using hj3
  rw [getElem!_pos (itV x) j hl3]
  rw [List.getElem?_eq_getElem hl3] at hj
  exact hj

theorem Tryd.isAgg_item : ∀ w, (isAgg 31).run Tryd.prog w = .ok true w := fun w => by kernel_rfl
theorem Tryd.sizeOf_item : ∀ w, (Go.sizeOf 31).run Tryd.prog w = .ok 3 w := fun w => by kernel_rfl

set_option maxRecDepth 100000 in
set_option maxHeartbeats 1600000 in
theorem qall_any {base B : Nat} {w : World} {lv : Value} {L : List Itm} {nx : Int} (h : QAt base w B lv L nx) (hl : L.length ≤ 1000000) :
    Calls Tryd.prog 30 #[.pointer (some ⟨B, 0, none⟩)] w fun e w' => ∃ v' d, e = .returned v' ∧ Rk 3 itV (fun b => w.heap.size ≤ b) w' v' d ∧ d.length = L.length ∧ (∀ x, d[0]? = some x → First L x) ∧ Fr (fun _ => False) w w' := by
  obtain ⟨c0, -, -⟩ := h.cells
  have H := hid h; have HL := hid hl
  clear h hl
  go_enter Tryd.func30, Tryd.ntmps30
  go_wp2_with fail
  refine (qclone_any w lv L H.out.own HL.out).mono ?_
  rintro e w2 ⟨v', rfl, ho, hf⟩
  rcases ho.2 with ⟨rfl, h0⟩ | ⟨g, cap, cur, rfl, hb, hg, h1, h2, h3, h4⟩
  · have hL : L = [] := List.eq_nil_of_length_eq_zero h0
    subst hL
    have hs := AnyF.slices_SortFunc_none Tryd.sortL none 0 (.func (.func 41) #[] #[]) w2
    change Calls Tryd.prog 40 _ _ _ at hs
    have HS := hid hs; have HF := hid hf
    clear hs ho hf h0
    go_wp2_with fail
    refine HS.out.mono ?_
    rintro e w3 ⟨rfl, hw⟩
    subst hw
    go_wp2_with fail
    go_ret
    exact ⟨_, [], rfl, ⟨none, 0, rfl, Nat.le_refl _, Nat.zero_le _, fun _ => rfl, fun i x hx => by simp at hx⟩, rfl, fun x hx => by simp at hx, HF.out⟩
  · have hgl := heap_lt hg
    have hH := holdsK_of_own ho rfl
    by_cases h0 : L.length = 0
    · have hL : L = [] := List.eq_nil_of_length_eq_zero h0
      subst hL
      have hs := AnyF.slices_SortFunc_none Tryd.sortL (some ⟨g, 0, none⟩) cap (.func (.func 41) #[] #[]) w2
      change Calls Tryd.prog 40 _ _ _ at hs
      have HS := hid hs; have HF := hid hf; have H2 := hid h2
      clear hs ho hf h0 hH hg h1 h2 h3 h4 hb hgl
      go_wp2_with fail
      refine HS.out.mono ?_
      rintro e w3 ⟨rfl, hw⟩
      subst hw
      go_wp2_with fail
      go_ret
      exact ⟨_, [], rfl, ⟨_, cap, rfl, Nat.zero_le _, H2.out, (fun e => by cases e), fun i x hx => by simp at hx⟩, rfl, fun x hx => by simp at hx, HF.out⟩
    · have eg : ∀ args w, (callFunc 41 args).run Tryd.prog w = .ok (.enter 41 args) w := enters_of Tryd.func41 (by kernel_rfl) rfl
      have hs := AnyQ.slices_SortFunc Tryd.sortL 3 Tryd.isAgg_item Tryd.sizeOf_item itV (fun _ => rfl) (fun x v hv => by simp [itV] at hv; rcases hv with rfl | rfl | rfl <;> rfl) cfI swoI 41 #[] g 0 cap L.toArray w2 eg (cmpLays g 0 _ w2) hH hgl (by have := HL.out; simp; omega)
      change Calls Tryd.prog 40 _ _ _ at hs
      rw [List.size_toArray] at hs
      have hsz : L.toArray.size = L.length := by simp
      have HS := hid hs; have HF := hid hf; have HB := hid hb; have HH := hid hH; have HG := hid hgl; have H1 := hid h1; have H2 := hid h2; have HZ := hid hsz; have H0 := hid h0
      clear hs ho hf h0 hH hg h1 h2 h3 h4 hb hgl eg hsz
      go_wp2_with fail
      refine HS.out.mono ?_
      rintro e w3 ⟨rfl, d', n, os, hp, hss, rfl⟩
      have hds : d'.size = L.length := hp.1
      have hH3 := holdsK_sortWorldK_c itV 3 w2 g 0 L.toArray d' n os HH.out HG.out (by rw [HZ.out]; exact hds)
      have hR3 := rk_of_holdsK (cap := cap) hH3 (by rw [hds]; exact H1.out) H2.out
      have hfi : First L d'[0]! := by
        have := first_of_sorted (d := L.toArray) (d' := d') hp (by rw [HZ.out]; exact hss) (by rw [HZ.out]; have := H0.out; omega)
        simpa using this
      have hF3 := HF.out.trans (fr_sortWorld itV 3 w2 g 0 n d' os) (U := fun _ => False) (fun _ _ h => h) (fun q hq e => by have := HB.out; omega)
      rw [hds] at hR3
      have HR3 := hid hR3; have HFI := hid hfi; have HF3 := hid hF3; have HDS := hid hds
      generalize sortWorldK itV 3 w2 g 0 n d' os = w4 at *
      clear hp hss hds hH3 hR3 hfi hF3
      go_wp2_with fail
      go_ret
      refine ⟨_, d'.toList, rfl, HR3.out.mono (fun k hk => by have := HB.out; omega), by simpa using HDS.out, fun x hx => ?_, HF3.out⟩
      have hi : 0 < d'.size := by have := HDS.out; have := H0.out; omega
      have hxe : d'[0]! = x := by
        rw [Array.getElem?_toList, Array.getElem?_eq_getElem hi] at hx
        rw [getElem!_pos d' 0 hi]
        exact Option.some.inj hx
      rw [← hxe]
      exact HFI.out
end Go.Proofs.YtdcfidefkoamnaaDoor
