/- Package seq: what Get, Cut, Put give is new. -/
import Derived.Test.YtjngddmjgcecnaaRefSeqA
namespace Go.Proofs.Ytjngddmjgcecnaa
open Go.RowKit

def MadeNew (w : World) (p : List V × Int) (e : Ending) (w' : World) : Prop := ∃ v', e = .returned (.tuple #[v', .int .i64 p.2]) ∧ Fr (fun _ => False) w w' ∧ VL (fun b => w.heap.size ≤ b) w' p.1 v'

set_option maxRecDepth 100000 in
set_option maxHeartbeats 1600000 in
theorem get_new (l : List V) (v : Value) (i : Int) (w : World) (h : VL T w l v) (hl : sizeL l ≤ 1073741824) : Calls Try.prog 39 #[v, .int .i64 i] w fun e w' => ∃ u, e = .returned (.tuple #[.agg u, .int .i64 (pGet l i).2]) ∧ Fr (fun _ => False) w w' ∧ VIn (fun b => w.heap.size ≤ b) w' (pGet l i).1 u := by
  have hll := len_le_sizeL l
  have hF := (Fr.refl (fun _ => False) w).alloc (.cells #[.int .i64 0, .int .i64 0, .string ⟨#[]⟩, .slice none 0 0] 24)
  have hR := heap_alloc_new w (.cells #[.int .i64 0, .int .i64 0, .string ⟨#[]⟩, .slice none 0 0] 24)
  have HF := hid hF; have HR := hid hR
  have HT := hid (there_any l v i _ (h.fr hF) (by omega))
  obtain ⟨a, cap, us, rfl, hc, hm, hn, hb, hi⟩ := id h
  have HH := hid h; have HB := hid hb; have HI := hid hi; have HLL := hid hl
  have hlm : l.length ≤ 1073741824 := by omega
  clear hF hR h hb hi hn hl hll
  by_cases hth : isThere l i = true
  · obtain ⟨k, rfl⟩ : ∃ k : Nat, i = (k : Int) + 1 := ⟨(i - 1).toNat, by
      unfold isThere at hth
      simp at hth
      omega⟩
    have hkl : k < l.length := by
      unfold isThere at hth
      simp at hth
      omega
    obtain ⟨b, o, y, a', c', rfl, -, hy, hv, e0, e1, e2, e3⟩ := VL.elem HB.out HI.out k hkl
    replace e0 := HF.out.cell e0 not_false
    replace e1 := HF.out.cell e1 not_false
    replace e2 := HF.out.cell e2 not_false
    replace e3 := HF.out.cell e3 not_false
    have hp : pGet l ((k : Int) + 1) = (y, 0) := by
      unfold pGet
      rw [if_pos hth, show ((k : Int) + 1 - 1).toNat = k by omega, List.getD, hy]
      rfl
    have hys := sizeL_mem hy
    have hcl := vclone_any y.size y (Nat.le_refl _) (by have := HLL.out; omega) T _ _ (hv.fr HF.out)
    rw [hth] at HT
    have HP := hid hp; have HCL := hid hcl
    clear hy hv hp hys hcl hth
    go_enter Try.func39, Try.ntmps39
    go_wp2_with fail
    refine HT.out.mono ?_
    rintro e w2 ⟨rfl, rfl⟩
    go_wp2_with fail
    refine HCL.out.mono ?_
    rintro e w3 ⟨u', rfl, hf3, hv3, -⟩
    obtain ⟨v', rfl, a2, c2, us2, rfl, -⟩ := hv3.open
    obtain ⟨hR, hf5, z0, z1, z2, z3, zf⟩ := set4 (hf3.heap HR.out not_false) (.int .i64 y.k) (.int .i64 y.n) (.string y.s) (.slice a2 y.l.length c2)
    have hf4 := HF.out.trans' hf3
    have HRR := hid hR
    have HF5 := hid (hf4.trans hf5 (U := fun _ => False) (fun _ _ h => h) (fun q hq e => by omega))
    have HV5 := hid ((hv3.frame hf5 fun q hq e => by have := hq.1; have := HF.out.size; simp at this hq; omega).mono (E := fun b => w.heap.size ≤ b) fun q _ hq => by have := hq.1; simp at this; omega)
    clear hR hf5 hf4 hf3 hv3
    go_wp2_with fail
    refine bodyPost_ret (results_ct rfl _ _ w.heap.size _ _ _ _ rfl HRR.out Try.underlying24 rfl (by kernel_rfl)) rfl ?_
    exact ⟨_, by rw [HP.out]; rfl, HF5.out, by rw [HP.out]; exact HV5.out⟩
  · have hp : pGet l i = (V0, 10) := by unfold pGet; rw [if_neg hth]
    rw [Bool.eq_false_iff.2 hth] at HT
    have HP := hid hp
    obtain ⟨hR, hf5, z0, z1, z2, z3, zf⟩ := set4 HR.out (.int .i64 0) (.int .i64 0) (.string ⟨#[]⟩) (.slice none 0 0)
    clear hp hR hf5 hth
    go_enter Try.func39, Try.ntmps39
    go_wp2_with fail
    refine HT.out.mono ?_
    rintro e w2 ⟨rfl, rfl⟩
    go_wp2_with fail
    refine bodyPost_ret (results_ct rfl _ _ w.heap.size _ _ _ _ rfl HR.out Try.underlying24 rfl (by kernel_rfl)) rfl ?_
    exact ⟨_, by rw [HP.out]; rfl, HF.out, by rw [HP.out]; exact (VL.nil _ _).close 0 0 ⟨#[]⟩⟩

set_option maxRecDepth 100000 in
set_option maxHeartbeats 1600000 in
theorem cut_new (l : List V) (v : Value) (i j : Int) (w : World) (h : VL T w l v) (hl : sizeL l ≤ 1073741824) : Calls Try.prog 42 #[v, .int .i64 i, .int .i64 j] w (MadeNew w (pCut l i j)) := by
  have hll := len_le_sizeL l
  obtain ⟨a, c, us, rfl, hc, hm, -⟩ := id h
  have hI : (l.length : Int) ≤ 1073741824 := by omega
  unfold MadeNew
  by_cases h1 : j < i
  · have hp : pCut l i j = ([], 0) := by unfold pCut; rw [if_pos h1]
    have HP := hid hp
    clear h hp hl hll hc hm
    go_enter Try.func42, Try.ntmps42
    go_wp2_with fail
    go_ret2
    exact ⟨_, by rw [HP.out]; rfl, Fr.refl _ _, by rw [HP.out]; exact VL.nil _ _⟩
  · by_cases h2 : i < 1
    · have hp : pCut l i j = ([], 10) := by unfold pCut; rw [if_neg h1, if_pos (.inl h2)]
      have HP := hid hp
      clear h hp hl hll hc hm
      go_enter Try.func42, Try.ntmps42
      go_wp2_with fail
      go_ret2
      exact ⟨_, by rw [HP.out]; rfl, Fr.refl _ _, by rw [HP.out]; exact VL.nil _ _⟩
    · by_cases h3 : (l.length : Int) < j
      · have hp : pCut l i j = ([], 10) := by unfold pCut; rw [if_neg h1, if_pos (.inr h3)]
        have HP := hid hp
        clear h hp hl hll hc hm
        go_enter Try.func42, Try.ntmps42
        go_wp2_with fail
        go_ret2
        exact ⟨_, by rw [HP.out]; rfl, Fr.refl _ _, by rw [HP.out]; exact VL.nil _ _⟩
      · obtain ⟨p, rfl⟩ : ∃ p : Nat, i = (p : Int) + 1 := ⟨(i - 1).toNat, by omega⟩
        obtain ⟨q, rfl⟩ : ∃ q : Nat, j = q := ⟨j.toNat, by omega⟩
        have hp : pCut l ((p : Int) + 1) q = pMade ((l.take q).drop p) := by
          unfold pCut
          rw [if_neg h1, if_neg (by omega), show ((p : Int) + 1 - 1).toNat = p by omega]
          rfl
        have hs : sizeL ((l.take q).drop p) ≤ 1099511627776 := by
          have h4 := sizeL_drop (l.take q) p
          have h5 := sizeL_drop l q
          omega
        have HP := hid hp; have HS := hid hs; have HH := hid h
        have hpq : p ≤ q := by omega
        have hql : q ≤ l.length := by omega
        have hqc : q ≤ c := by omega
        clear hp h hl hll hs hm
        go_enter Try.func42, Try.ntmps42
        go_wp2_with fail
        have hsub := VL.sub (a' := Option.map (fun x => x.add (p * 4)) a) (c' := c - p) (len' := q - p) HH.out p q hpq hql rfl rfl (by rw [if_neg (by omega)])
        refine (made_any _ HS.out T w _ hsub).mono ?_
        rintro e w2 ⟨v', rfl, hf2, hv2⟩
        have HF2 := hid hf2; have HV2 := hid hv2
        clear hsub hf2 hv2
        go_wp2_with fail
        go_ret2
        exact ⟨_, by rw [HP.out]; rfl, HF2.out, by rw [HP.out]; exact HV2.out.mono fun q _ hq => hq.1⟩

set_option maxRecDepth 100000 in
set_option maxHeartbeats 1600000 in
theorem put_new (l : List V) (x : V) (v : Value) (u : Array Value) (i : Int) (w : World) (h : VL T w l v) (hx : VIn T w x u) (hl : sizeL l ≤ 1073741824) (hxs : x.size ≤ 1073741824) : Calls Try.prog 38 #[v, .int .i64 i, .agg u] w (MadeNew w (pPut l i x)) := by
  have hll := len_le_sizeL l
  obtain ⟨v9, rfl, a9, c9, us9, rfl, -⟩ := hx.open
  have hf := (Fr.refl (fun _ => False) w).alloc (.cells #[.int .i64 x.k, .int .i64 x.n, .string x.s, .slice a9 x.l.length c9] 24)
  have hr := heap_alloc_new w (.cells #[.int .i64 x.k, .int .i64 x.n, .string x.s, .slice a9 x.l.length c9] 24)
  have hth := there_any l v i _ (h.fr hf) (by omega)
  have hlt : ∀ k, k < w.heap.size → k < (w.alloc (.cells #[.int .i64 x.k, .int .i64 x.n, .string x.s, .slice a9 x.l.length c9] 24)).heap.size := fun k hk => Nat.lt_of_lt_of_le hk hf.size
  have hcl := clone_any l _ _ v (h.lt.frame hf fun _ _ => not_false) hlt (by omega)
  have hxv := hx.lt.frame hf fun _ _ => not_false
  obtain ⟨a, c, us, rfl, -⟩ := id h
  have hI : (l.length : Int) ≤ 1073741824 := by omega
  have HF := hid hf; have HR := hid hr; have HLT := hid hlt; have HCL := hid hcl; have HX := hid hxv; have HL := hid hl; have HXS := hid hxs
  unfold MadeNew
  clear hf hr hlt hcl hxv h hx hl hxs hll
  by_cases ht : isThere l i = true
  · obtain ⟨k, rfl, hk⟩ := there_iff ht
    have hp : pPut l ((k : Int) + 1) x = pMade (l.set k x) := by
      unfold pPut
      rw [if_pos ht, show ((k : Int) + 1 - 1).toNat = k by omega]
    rw [ht] at hth
    have HP := hid hp; have HTH := hid hth
    clear hp ht hth
    have hr0 := HR.out
    go_enter Try.func38, Try.ntmps38
    go_wp2_with fail
    refine HTH.out.mono ?_
    rintro e w2 ⟨rfl, rfl⟩
    go_wp2_with fail
    refine HCL.out.mono ?_
    rintro e w3 ⟨v3, us3, rfl, ho3, hc3, hf3⟩
    obtain ⟨g, cap, rfl⟩ : ∃ g cap, v3 = .slice (some ⟨g, 0, none⟩) l.length cap := by
      rcases ho3.2 with ⟨_, h0⟩ | ⟨g, cap, cur, e, _⟩
      · omega
      · exact ⟨g, cap, e⟩
    obtain ⟨⟨z0, hz0⟩, ⟨z1, hz1⟩, ⟨z2, hz2⟩, ⟨z3, hz3⟩, hzf, hbg, hcap, hf5⟩ := own_cell4 ho3 k hk (.int .i64 x.k) (.int .i64 x.n) (.string x.s) (.slice a9 x.l.length c9)
    have ho5 := own_set ho3 k hk (.int .i64 x.k) (.int .i64 x.n) (.string x.s) (.slice a9 x.l.length c9)
    have hnd : ∀ q, q < w.heap.size → ¬ q = g := fun q hq e => by have := HLT.out q hq; omega
    have hc5 := (hc3.set k x hk (.int .i64 x.k) (.int .i64 x.n) (.string x.s) (.slice a9 x.l.length c9) (HX.out.frame hf3 fun _ _ => not_false)).frame hf5 hnd
    have hv5 := hc5.own (l := l.set k x) (by rw [List.length_set]; exact ho5)
    have hF5 := (HF.out.trans' hf3).trans hf5 (U := fun _ => False) (fun _ _ h => h) (fun q hq e => by have := hnd q hq; omega)
    have hr3 := hf3.heap HR.out not_false
    have y0 : w3.cell? ⟨w.heap.size, 0, none⟩ = some (.int .i64 x.k) := by rw [cell_of_row _ _ 0 _ _ _ hr3]; rfl
    have y1 : w3.cell? ⟨w.heap.size, 1, none⟩ = some (.int .i64 x.n) := by rw [cell_of_row _ _ 1 _ _ _ hr3]; rfl
    have y2 : w3.cell? ⟨w.heap.size, 2, none⟩ = some (.string x.s) := by rw [cell_of_row _ _ 2 _ _ _ hr3]; rfl
    have y3 : w3.cell? ⟨w.heap.size, 3, none⟩ = some (.slice a9 x.l.length c9) := by rw [cell_of_row _ _ 3 _ _ _ hr3]; rfl
    have hs : sizeL (l.set k x) ≤ 1099511627776 := by have := sizeL_set l k x hk; have := HL.out; have := HXS.out; omega
    have HS := hid hs; have HV5 := hid hv5; have HF5 := hid hF5
    clear hs hv5 hF5 hf5 ho5 hc5 hc3 ho3 hf3 hr3 hnd hr0
    go_wp2_with fail
    refine (made_any _ HS.out _ _ _ HV5.out).mono ?_
    rintro e w6 ⟨v', rfl, hf6, hv6⟩
    have HF6 := hid (HF5.out.trans' hf6); have HV6 := hid hv6
    clear hf6 hv6
    go_wp2_with fail
    go_ret2
    exact ⟨_, by rw [HP.out]; rfl, HF6.out, by rw [HP.out]; exact HV6.out.mono fun q _ hq => by have h1 := hq.1; have h2 := HF5.out.size; omega⟩
  · have hp : pPut l i x = ([], 10) := by unfold pPut; rw [if_neg ht]
    rw [Bool.eq_false_iff.2 ht] at hth
    have HP := hid hp; have HTH := hid hth
    clear hp ht hth
    go_enter Try.func38, Try.ntmps38
    go_wp2_with fail
    refine HTH.out.mono ?_
    rintro e w2 ⟨rfl, rfl⟩
    go_wp2_with fail
    go_ret2
    exact ⟨_, by rw [HP.out]; rfl, HF.out, by rw [HP.out]; exact VL.nil _ _⟩

set_option maxRecDepth 100000 in
set_option maxHeartbeats 1600000 in
theorem rget_d (D : Nat → Prop) (l : List V) (v : Value) (i : Int) (w : World) (h : VL D w l v) (hl : sizeL l ≤ 1073741824) : Calls Try.prog 40 #[v, .int .i64 i] w fun e w' => ∃ u, e = .returned (.tuple #[.agg u, .int .i64 (pGet l i).2]) ∧ Fr (fun _ => False) w w' ∧ VIn D w' (pGet l i).1 u := by
  have hll := len_le_sizeL l
  have hF := (Fr.refl (fun _ => False) w).alloc (.cells #[.int .i64 0, .int .i64 0, .string ⟨#[]⟩, .slice none 0 0] 24)
  have hR := heap_alloc_new w (.cells #[.int .i64 0, .int .i64 0, .string ⟨#[]⟩, .slice none 0 0] 24)
  have HF := hid hF; have HR := hid hR
  have HV := hid h
  obtain ⟨a, cap, us, rfl, hc, hm, hn, hb, hi⟩ := id h
  have HB := hid hb; have HI := hid hi; have HLL := hid hl
  have hlm : (l.length : Int) ≤ 1073741824 := by omega
  clear hF hR h hb hi hn hl hll
  by_cases hth : isThere l i = true
  · obtain ⟨k, rfl, hkl⟩ := there_iff hth
    obtain ⟨b, o, y, a', c', rfl, -, hy, hv, e0, e1, e2, e3⟩ := VL.elem HB.out HI.out k hkl
    replace e0 := HF.out.cell e0 not_false
    replace e1 := HF.out.cell e1 not_false
    replace e2 := HF.out.cell e2 not_false
    replace e3 := HF.out.cell e3 not_false
    have hp : pGet l ((k : Int) + 1) = (y, 0) := by
      unfold pGet
      rw [if_pos hth, show ((k : Int) + 1 - 1).toNat = k by omega, List.getD, hy]
      rfl
    have hf5 := (Fr.refl (fun _ => False) w).alloc (.cells #[.int .i64 y.k, .int .i64 y.n, .string y.s, .slice a' y.l.length c'] 24)
    have hR := heap_alloc_new w (.cells #[.int .i64 y.k, .int .i64 y.n, .string y.s, .slice a' y.l.length c'] 24)
    have HP := hid hp
    have HRR := hid hR
    have HF5 := hid hf5
    have HV5 := hid (hv.frame hf5 fun _ _ => not_false)
    have hk1 : ¬ (k : Int) + 1 < 1 := by omega
    have hk2 : ¬ (l.length : Int) < (k : Int) + 1 := by omega
    clear hy hv hp hR hf5 hth
    go_enter Try.func40, Try.ntmps40
    go_wp2_with fail
    refine bodyPost_ret (results_ct rfl _ _ w.heap.size _ _ _ _ rfl HRR.out Try.underlying24 rfl (by kernel_rfl)) rfl ?_
    exact ⟨_, by rw [HP.out]; rfl, HF5.out, by rw [HP.out]; exact HV5.out⟩
  · have hp : pGet l i = (V0, 10) := by unfold pGet; rw [if_neg hth]
    have hcase : i < 1 ∨ (1 ≤ i ∧ (l.length : Int) < i) := by
      unfold isThere at hth
      simp at hth
      omega
    have HP := hid hp
    obtain ⟨hR, hf5, z0, z1, z2, z3, zf⟩ := set4 HR.out (.int .i64 0) (.int .i64 0) (.string ⟨#[]⟩) (.slice none 0 0)
    clear hp hR hf5 hth
    rcases hcase with h1 | ⟨h1, h2⟩
    all_goals
      go_enter Try.func40, Try.ntmps40
      go_wp2_with fail
      refine bodyPost_ret (results_ct rfl _ _ w.heap.size _ _ _ _ rfl HR.out Try.underlying24 rfl (by kernel_rfl)) rfl ?_
      exact ⟨_, by rw [HP.out]; rfl, HF.out, by rw [HP.out]; exact (VL.nil _ _).close 0 0 ⟨#[]⟩⟩

end Go.Proofs.Ytjngddmjgcecnaa
