/- Package seq: Put, Insert, Delete. -/
import Derived.Test.YtebanmigaikhhaaSeqE
namespace Go.Proofs.Ytebanmigaikhhaa
open Go.RowKit

theorem there_iff {l : List V} {i : Int} (h : isThere l i = true) : ∃ k : Nat, i = (k : Int) + 1 ∧ k < l.length := by
  unfold isThere at h
  simp at h
  exact ⟨(i - 1).toNat, by omega, by omega⟩
theorem sizeL_set (l : List V) (k : Nat) (x : V) (hk : k < l.length) : sizeL (l.set k x) ≤ sizeL l + x.size := by
  rw [List.set_eq_take_append_cons_drop, if_pos hk, sizeL_app, sizeL]
  have h1 := sizeL_drop l k
  have h2 : sizeL (l.drop (k + 1)) ≤ sizeL (l.drop k) := by
    have := sizeL_drop (l.drop k) 1
    rw [List.drop_drop] at this
    omega
  omega
theorem own_setCell {w : World} {base e sz n g cap : Nat} {xs : List Value} (h : w.ownsRow base e sz (.slice (some ⟨g, 0, none⟩) n cap) n xs) (j : Nat) (u : Value) (hj : j < n * sz) : (w.setCell ⟨g, j, none⟩ u).ownsRow base e sz (.slice (some ⟨g, 0, none⟩) n cap) n (xs.set j u) := by
  refine ⟨by simpa using h.1, .inr ?_⟩
  rcases h.2 with ⟨e, _⟩ | ⟨g', cap', cur, e, hb, hg, h1, h2, h3, h4⟩
  · cases e
  · simp only [Value.slice.injEq, Option.some.injEq, Addr.mk.injEq] at e
    obtain ⟨⟨rfl, _⟩, _, rfl⟩ := e
    refine ⟨g, cap, cur.setIfInBounds j u, rfl, hb, setCell_row j u hg, h1, h2, by simpa using h3, ?_⟩
    rw [← h4, Array.toList_setIfInBounds, List.take_set]
theorem own_open {w : World} {base e sz n g cap : Nat} {xs : List Value} (h : w.ownsRow base e sz (.slice (some ⟨g, 0, none⟩) n cap) n xs) : ∃ cur, base ≤ g ∧ w.heap[g]? = some (.cells cur e (0, 0)) ∧ n ≤ cap ∧ cap ≤ maxLen ∧ cur.size = cap * sz ∧ cur.toList.take (n * sz) = xs := by
  rcases h.2 with ⟨e, _⟩ | ⟨g', cap', cur, e, r⟩
  · cases e
  · simp only [Value.slice.injEq, Option.some.injEq, Addr.mk.injEq] at e
    obtain ⟨⟨rfl, _⟩, _, rfl⟩ := e
    exact ⟨cur, r⟩

/-- A cell that is written in a row of values. -/
theorem own_set {w : World} {e base g c n : Nat} {us : List Value} (ho : w.ownsRow base e 4 (.slice (some ⟨g, 0, none⟩) n c) n us) (k : Nat) (hk : k < n) (c0 c1 c2 c3 : Value) :
    ((((w.setCell ⟨g, k * 4, none⟩ c0).setCell ⟨g, k * 4 + 1, none⟩ c1).setCell ⟨g, k * 4 + 2, none⟩ c2).setCell ⟨g, k * 4 + 3, none⟩ c3).ownsRow base e 4 (.slice (some ⟨g, 0, none⟩) n c) n ((((us.set (k * 4) c0).set (k * 4 + 1) c1).set (k * 4 + 2) c2).set (k * 4 + 3) c3) := by
  have h1 := ho.1
  exact own_setCell (own_setCell (own_setCell (own_setCell ho _ _ (by omega)) _ _ (by omega)) _ _ (by omega)) _ _ (by omega)

/-- What a walk needs to write an element of a row of values. -/
theorem own_cell4 {w : World} {e base g c n : Nat} {us : List Value} (ho : w.ownsRow base e 4 (.slice (some ⟨g, 0, none⟩) n c) n us) (k : Nat) (hk : k < n) (c0 c1 c2 c3 : Value) :
    (∃ z, w.cell? ⟨g, k * 4, none⟩ = some z) ∧ (∃ z, w.cell? ⟨g, k * 4 + 1, none⟩ = some z) ∧ (∃ z, w.cell? ⟨g, k * 4 + 2, none⟩ = some z) ∧ (∃ z, w.cell? ⟨g, k * 4 + 3, none⟩ = some z) ∧ (∀ i, w.frozen? ⟨g, i, none⟩ = false) ∧ base ≤ g ∧ n ≤ c ∧
    Fr (fun q => q = g) w ((((w.setCell ⟨g, k * 4, none⟩ c0).setCell ⟨g, k * 4 + 1, none⟩ c1).setCell ⟨g, k * 4 + 2, none⟩ c2).setCell ⟨g, k * 4 + 3, none⟩ c3) := by
  obtain ⟨cur, hb, hg, h1, h2, h3, h4⟩ := own_open ho
  have hc : ∀ j, j < n * 4 → ∃ z, w.cell? ⟨g, j, none⟩ = some z := fun j hj => by
    have : j < cur.size := by rw [h3]; omega
    exact ⟨cur[j], by rw [cell_of_row w g j cur _ _ hg]; exact Array.getElem?_eq_getElem this⟩
  exact ⟨hc _ (by omega), hc _ (by omega), hc _ (by omega), hc _ (by omega), fun i => frozen_of_row _ _ i _ _ hg, hb, h1, ((((Fr.refl (fun q => q = g) w).setCell (p := ⟨g, k * 4, none⟩) (.inl rfl) _).setCell (p := ⟨g, k * 4 + 1, none⟩) (.inl rfl) _).setCell (p := ⟨g, k * 4 + 2, none⟩) (.inl rfl) _).setCell (p := ⟨g, k * 4 + 3, none⟩) (.inl rfl) _⟩

set_option maxRecDepth 100000 in
set_option maxHeartbeats 1600000 in
theorem put_any (l : List V) (x : V) (v : Value) (u : Array Value) (i : Int) (w : World) (h : VL T w l v) (hx : VIn T w x u) (hl : sizeL l ≤ 1073741824) (hxs : x.size ≤ 1073741824) : Calls Try.prog 28 #[v, .int .i64 i, .agg u] w (MadePost w (pPut l i x)) := by
  have hll := len_le_sizeL l
  obtain ⟨v9, rfl, a9, c9, us9, rfl, -⟩ := hx.open
  have hf := (Fr.refl (fun _ => False) w).alloc (.cells #[.int .i64 x.k, .int .i64 x.n, .string x.s, .slice a9 x.l.length c9] 30)
  have hr := heap_alloc_new w (.cells #[.int .i64 x.k, .int .i64 x.n, .string x.s, .slice a9 x.l.length c9] 30)
  have hth := there_any l v i _ (h.fr hf) (by omega)
  have hlt : ∀ k, k < w.heap.size → k < (w.alloc (.cells #[.int .i64 x.k, .int .i64 x.n, .string x.s, .slice a9 x.l.length c9] 30)).heap.size := fun k hk => Nat.lt_of_lt_of_le hk hf.size
  have hcl := clone_any l _ _ v (h.lt.frame hf fun _ _ => not_false) hlt (by omega)
  have hxv := hx.lt.frame hf fun _ _ => not_false
  obtain ⟨a, c, us, rfl, -⟩ := id h
  have hI : (l.length : Int) ≤ 1073741824 := by omega
  have HF := hid hf; have HR := hid hr; have HLT := hid hlt; have HCL := hid hcl; have HX := hid hxv; have HL := hid hl; have HXS := hid hxs
  unfold MadePost
  clear hf hr hlt hcl hxv h hx hl hxs hll
  by_cases ht : isThere l i = true
  · obtain ⟨k, rfl, hk⟩ := there_iff ht
    have hp : pPut l ((k : Int) + 1) x = pMade (l.set k x) := by
      unfold pPut
      rw [if_pos ht, show ((k : Int) + 1 - 1).toNat = k by omega]
    rw [ht] at hth
    have HP := hid hp; have HTH := hid hth
    clear hp ht hth
    have hr0 := HR.out
    go_enter Try.func28, Try.ntmps28
    go_wp2_with fail
    refine HTH.out.mono ?_
    rintro e w2 ⟨rfl, rfl⟩
    go_wp2_with fail
    refine HCL.out.mono ?_
    rintro e w3 ⟨v3, us3, rfl, ho3, hc3, hf3⟩
    obtain ⟨g, cap, rfl⟩ : ∃ g cap, v3 = .slice (some ⟨g, 0, none⟩) l.length cap := by
      rcases ho3.2 with ⟨_, h0⟩ | ⟨g, cap, cur, e, _⟩
      · omega
      · exact ⟨g, cap, e⟩
    obtain ⟨⟨z0, hz0⟩, ⟨z1, hz1⟩, ⟨z2, hz2⟩, ⟨z3, hz3⟩, hzf, hbg, hcap, hf5⟩ := own_cell4 ho3 k hk (.int .i64 x.k) (.int .i64 x.n) (.string x.s) (.slice a9 x.l.length c9)
    have ho5 := own_set ho3 k hk (.int .i64 x.k) (.int .i64 x.n) (.string x.s) (.slice a9 x.l.length c9)
    have hnd : ∀ q, q < w.heap.size → ¬ q = g := fun q hq e => by have := HLT.out q hq; omega
    have hc5 := (hc3.set k x hk (.int .i64 x.k) (.int .i64 x.n) (.string x.s) (.slice a9 x.l.length c9) (HX.out.frame hf3 fun _ _ => not_false)).frame hf5 hnd
    have hv5 := hc5.own (l := l.set k x) (by rw [List.length_set]; exact ho5)
    have hF5 := (HF.out.trans' hf3).trans hf5 (U := fun _ => False) (fun _ _ h => h) (fun q hq e => by have := hnd q hq; omega)
    have hr3 := hf3.heap HR.out not_false
    have y0 : w3.cell? ⟨w.heap.size, 0, none⟩ = some (.int .i64 x.k) := by rw [cell_of_row _ _ 0 _ _ _ hr3]; rfl
    have y1 : w3.cell? ⟨w.heap.size, 1, none⟩ = some (.int .i64 x.n) := by rw [cell_of_row _ _ 1 _ _ _ hr3]; rfl
    have y2 : w3.cell? ⟨w.heap.size, 2, none⟩ = some (.string x.s) := by rw [cell_of_row _ _ 2 _ _ _ hr3]; rfl
    have y3 : w3.cell? ⟨w.heap.size, 3, none⟩ = some (.slice a9 x.l.length c9) := by rw [cell_of_row _ _ 3 _ _ _ hr3]; rfl
    have hs : sizeL (l.set k x) ≤ 1099511627776 := by have := sizeL_set l k x hk; have := HL.out; have := HXS.out; omega
    have HS := hid hs; have HV5 := hid hv5; have HF5 := hid hF5
    clear hs hv5 hF5 hf5 ho5 hc5 hc3 ho3 hf3 hr3 hnd hr0
    go_wp2_with fail
    refine (made_any _ HS.out _ _ _ HV5.out).mono ?_
    rintro e w6 ⟨v', rfl, hf6, hv6⟩
    have HF6 := hid (HF5.out.trans' hf6); have HV6 := hid hv6
    clear hf6 hv6
    go_wp2_with fail
    go_ret2
    exact ⟨_, by rw [HP.out]; rfl, HF6.out, by rw [HP.out]; exact HV6.out.t⟩
  · have hp : pPut l i x = ([], 10) := by unfold pPut; rw [if_neg ht]
    rw [Bool.eq_false_iff.2 ht] at hth
    have HP := hid hp; have HTH := hid hth
    clear hp ht hth
    go_enter Try.func28, Try.ntmps28
    go_wp2_with fail
    refine HTH.out.mono ?_
    rintro e w2 ⟨rfl, rfl⟩
    go_wp2_with fail
    go_ret2
    exact ⟨_, by rw [HP.out]; rfl, HF.out, by rw [HP.out]; exact VL.nil _ _⟩
end Go.Proofs.Ytebanmigaikhhaa
