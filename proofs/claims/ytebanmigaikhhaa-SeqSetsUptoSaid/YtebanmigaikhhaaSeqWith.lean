/- Package seq: With. -/
import Derived.Test.YtebanmigaikhhaaSeqFind
import Derived.Test.YtebanmigaikhhaaSeqH
namespace Go.Proofs.Ytebanmigaikhhaa
open Go.RowKit

/-- The list with x, and its code. -/
noncomputable def pWith (l : List V) (x : V) : List V × Int := if 0 < fidx x l 0 + 1 then pMade l else pMade (l ++ [x])

set_option maxRecDepth 100000 in
set_option maxHeartbeats 3200000 in
theorem with_any (l : List V) (x : V) (v : Value) (u : Array Value) (w : World) (h : VL T w l v) (hx : VIn T w x u) (hl : sizeL l ≤ 1073741824) (hxs : x.size ≤ 1073741824) : Calls Try.prog 35 #[v, .agg u] w (MadePost w (pWith l x)) := by
  have hll := len_le_sizeL l
  obtain ⟨v9, rfl, a9, c9, us9, rfl, -⟩ := hx.open
  have hf := (Fr.refl (fun _ => False) w).alloc (.cells #[.int .i64 x.k, .int .i64 x.n, .string x.s, .slice a9 x.l.length c9] 30)
  have hr := heap_alloc_new w (.cells #[.int .i64 x.k, .int .i64 x.n, .string x.s, .slice a9 x.l.length c9] 30)
  have hcl := find_any l x v _ _ (h.fr hf) (hx.fr hf) (by omega)
  have hg := fidx_ge x l 0
  have hI : (l.length : Int) ≤ 1073741824 := by omega
  obtain ⟨a, c, us, rfl, -⟩ := id h
  have HF := hid hf; have HR := hid hr; have HV := hid h; have HX := hid hx; have HL := hid hl; have HXS := hid hxs
  unfold MadePost
  by_cases h0 : 0 < fidx x l 0 + 1
  · have HP := hid (show pWith l x = pMade l by unfold pWith; rw [if_pos h0])
    generalize fidx x l 0 = r at *
    have h1 : (0 : Int) < r + 1 := h0
    have hr2 : r ≤ 1073741824 := by omega
    have HC := hid hcl
    clear h hx hl hxs hll hf hr hcl hg h0
    go_enter Try.func35, Try.ntmps35
    go_wp2_with fail
    have hr1 := HR.out
    have z0 : (w.alloc (.cells #[.int .i64 x.k, .int .i64 x.n, .string x.s, .slice a9 x.l.length c9] 30)).cell? ⟨w.heap.size, 0, none⟩ = some (.int .i64 x.k) := by rw [cell_of_row _ _ 0 _ _ _ hr1]; rfl
    refine HC.out.mono ?_
    rintro e w2 ⟨rfl, hf2⟩
    have HF2 := hid (HF.out.trans' hf2)
    clear hf2 z0 hr1
    go_wp2_with fail
    refine (made_any l (by have := HL.out; omega) T _ _ (HV.out.fr HF2.out)).mono ?_
    rintro e w3 ⟨v', rfl, hf3, hv3⟩
    have HF3 := hid (HF2.out.trans' hf3); have HV3 := hid hv3
    clear hf3 hv3
    go_wp2_with fail
    go_ret2
    exact ⟨_, by rw [HP.out]; rfl, HF3.out, by rw [HP.out]; exact HV3.out.t⟩
  · have HP := hid (show pWith l x = pMade (l ++ [x]) by unfold pWith; rw [if_neg h0])
    have hs : sizeL (l ++ [x]) ≤ 1099511627776 := by rw [sizeL_app, sizeL, sizeL]; omega
    generalize fidx x l 0 = r at *
    obtain rfl : r = -1 := by omega
    have HC := hid hcl; have HS := hid hs
    clear h hx hl hxs hll hf hr hcl hg h0 hs
    go_enter Try.func35, Try.ntmps35
    go_wp2_with fail
    refine HC.out.mono ?_
    rintro e w2 ⟨rfl, hf2⟩
    have hr2 := hf2.heap HR.out not_false
    have HF2 := hid (HF.out.trans' hf2)
    have z0 : w2.cell? ⟨w.heap.size, 0, none⟩ = some (.int .i64 x.k) := by rw [cell_of_row _ _ 0 _ _ _ hr2]; rfl
    have z1 : w2.cell? ⟨w.heap.size, 1, none⟩ = some (.int .i64 x.n) := by rw [cell_of_row _ _ 1 _ _ _ hr2]; rfl
    have z2 : w2.cell? ⟨w.heap.size, 2, none⟩ = some (.string x.s) := by rw [cell_of_row _ _ 2 _ _ _ hr2]; rfl
    have z3 : w2.cell? ⟨w.heap.size, 3, none⟩ = some (.slice a9 x.l.length c9) := by rw [cell_of_row _ _ 3 _ _ _ hr2]; rfl
    clear hf2 hr2
    go_upto_region 3 with fail
    have hfa := (Fr.refl (fun _ => False) w2).alloc (.cells #[.int .i64 x.k, .int .i64 x.n, .string x.s, .slice a9 x.l.length c9] 30)
    have hra := heap_alloc_new w2 (.cells #[.int .i64 x.k, .int .i64 x.n, .string x.s, .slice a9 x.l.length c9] 30)
    have hfb := (Fr.refl (fun _ => False) (w2.alloc (.cells #[.int .i64 x.k, .int .i64 x.n, .string x.s, .slice a9 x.l.length c9] 30))).alloc (.cells #[.slice a l.length c, .slice (some ⟨w2.heap.size, 0, none⟩) 1 1] 22)
    have hrb := heap_alloc_new (w2.alloc (.cells #[.int .i64 x.k, .int .i64 x.n, .string x.s, .slice a9 x.l.length c9] 30)) (.cells #[.slice a l.length c, .slice (some ⟨w2.heap.size, 0, none⟩) 1 1] 22)
    have hsz : (w2.alloc (.cells #[.int .i64 x.k, .int .i64 x.n, .string x.s, .slice a9 x.l.length c9] 30)).heap.size = w2.heap.size + 1 := by simp
    have hsz2 := heap_lt hrb
    rw [hsz] at hrb hsz2
    have hV := (HV.out.fr HF2.out).lt.frame (hfa.trans' hfb) fun _ _ => not_false
    have hX := VL.lit (((HX.out.fr HF2.out).lt.frame (hfa.trans' hfb) fun _ _ => not_false).mono (E := fun q => q < w2.heap.size + 1) fun q _ hq => by omega) (hfb.heap hra not_false) (by omega)
    have hcl := concat2 l [x] _ _ (w2.heap.size + 1) (fun q => q < w2.heap.size + 1) _ _ hrb (hV.mono fun q _ hq => by omega) hX (fun q hq => by omega) (by simp; omega) (l ++ [x]) rfl
    have HFB := hid (HF2.out.trans' (hfa.trans' hfb))
    have HCC := hid hcl
    clear hfa hra hfb hrb hV hX hcl hsz hsz2
    go_wp2_with fail
    refine HCC.out.mono ?_
    rintro e w3 ⟨v3, us3, rfl, ho3, hc3, hf3⟩
    have hv3 := hc3.own ho3
    obtain ⟨a3, c3, us4, rfl, -⟩ := id hv3
    rw [List.length_append] at hv3
    have HF3 := hid (HFB.out.trans' hf3); have HV3 := hid hv3
    clear ho3 hc3 hf3 hv3 z0 z1 z2 z3
    go_wp2_with fail
    refine (made_any _ HS.out _ w3 _ HV3.out).mono ?_
    rintro e w4 ⟨v', rfl, hf4, hv4⟩
    have HF4 := hid (HF3.out.trans' hf4); have HV4 := hid hv4
    clear hf4 hv4
    go_wp2_with fail
    go_ret2
    exact ⟨_, by rw [HP.out]; rfl, HF4.out, by rw [HP.out]; exact HV4.out.t⟩
end Go.Proofs.Ytebanmigaikhhaa
