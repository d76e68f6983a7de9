/- The statement NumIns, walked. -/
import Derived.Test.YtjngddmjgcecnaaNumC
import Derived.Test.YtjngddmjgcecnaaCmpPlain
import Derived.Test.YtjngddmjgcecnaaRefL
import Derived.Test.YtjngddmjgcecnaaValL
import Derived.Test.YtjngddmjgcecnaaSteps
import Derived.Test.YtjngddmjgcecnaaValS
import Derived.Test.YtjngddmjgcecnaaValS
namespace Go.Proofs.Ytjngddmjgcecnaa
open Go.RowKit

set_option maxRecDepth 100000 in
set_option maxHeartbeats 6400000 in
theorem numIns_any (l : List V) (x : V) (v : Value) (u : Array Value) (w : World) (h : VL T w l v) (hx : VIn T w x u) (hl : sizeL l ≤ 1048576) (hxs : x.size ≤ 1048576) :
    Calls Try.prog 4 #[v, .agg u] w fun e w' => e = .returned (.bool true) ∧ Fr (fun _ => False) w w' := by
  have hll := len_le_sizeL l
  obtain ⟨v9, rfl, a9, c9, us9, rfl, -⟩ := hx.open
  have hf := (Fr.refl (fun _ => False) w).alloc (.cells #[.int .i64 x.k, .int .i64 x.n, .string x.s, .slice a9 x.l.length c9] 24)
  have hr := heap_alloc_new w (.cells #[.int .i64 x.k, .int .i64 x.n, .string x.s, .slice a9 x.l.length c9] 24)
  obtain ⟨a, c, us, rfl, hlc, hcm, -⟩ := id h
  have hI : (l.length : Int) ≤ 1048576 := by omega
  have HF := hid hf; have HR := hid hr; have HV := hid h; have HX := hid hx; have HL := hid hl; have HXS := hid hxs
  clear hf hr h hx hl hxs hll
  go_enter Try.func4, Try.ntmps4
  go_wp2_with fail
  refine (nfirst_any _).mono ?_
  rintro e w1 ⟨rfl, hf1⟩
  have HF1 := hid (HF.out.trans' hf1)
  have HR1 := hid (hf1.heap HR.out not_false)
  clear hf1 HF HR
  go_wp2_with fail
  refine (rights_any 30 l (by have := HL.out; omega) T _ _ (HV.out.fr HF1.out)).mono ?_
  rintro e w2 ⟨rfl, hf2⟩
  have HF2 := hid (HF1.out.trans' hf2)
  have HR2 := hid (hf2.heap HR1.out not_false)
  clear hf2 HF1 HR1
  by_cases hsm : (decide (l.length ≤ 30) && l.all V.right) = true
  rotate_left
  · rw [Bool.eq_false_iff.2 hsm]
    go_wp2_with fail
    go_ret
    exact ⟨rfl, HF2.out⟩
  rw [hsm]
  go_wp2_with fail
  refine (rL_any l (by have := HL.out; omega) T _ _ (HV.out.fr HF2.out)).mono ?_
  rintro e w3 ⟨u3, rfl, hf3, hv3⟩
  have HF3 := hid (HF2.out.trans' hf3)
  have HR3 := hid (hf3.heap HR2.out not_false)
  have hv3 := hv3.t
  clear hf3 HF2 HR2
  go_wp2_with fail
  refine (rright_any (.mk 4 0 ⟨#[]⟩ l) (by rw [V.size, show (ByteArray.size ⟨#[]⟩) = 0 from rfl]; have := HL.out; omega) T _ _ hv3).mono ?_
  rintro e w4 ⟨rfl, hf4⟩
  have HF4 := hid (HF3.out.trans' hf4)
  have HR4 := hid (hf4.heap HR3.out not_false)
  clear hf4 HF3 HR3
  by_cases hrl : (V.mk 4 0 ⟨#[]⟩ l).right = true
  rotate_left
  · rw [Bool.eq_false_iff.2 hrl]
    go_wp2_with fail
    go_ret
    exact ⟨rfl, HF4.out⟩
  rw [hrl]
  have z0 : w4.cell? ⟨w.heap.size, 0, none⟩ = some (.int .i64 x.k) := by rw [cell_of_row _ _ 0 _ _ _ HR4.out]; rfl
  have z1 : w4.cell? ⟨w.heap.size, 1, none⟩ = some (.int .i64 x.n) := by rw [cell_of_row _ _ 1 _ _ _ HR4.out]; rfl
  have z2 : w4.cell? ⟨w.heap.size, 2, none⟩ = some (.string x.s) := by rw [cell_of_row _ _ 2 _ _ _ HR4.out]; rfl
  have z3 : w4.cell? ⟨w.heap.size, 3, none⟩ = some (.slice a9 x.l.length c9) := by rw [cell_of_row _ _ 3 _ _ _ HR4.out]; rfl
  go_wp2_with fail
  refine (rright_any x (by have := HXS.out; omega) T _ _ (HX.out.fr HF4.out)).mono ?_
  rintro e w5 ⟨rfl, hf5⟩
  have HF5 := hid (HF4.out.trans' hf5)
  have HR5 := hid (hf5.heap HR4.out not_false)
  clear hf5 HF4 HR4 z0 z1 z2 z3
  by_cases hrx : x.right = true
  rotate_left
  · rw [Bool.eq_false_iff.2 hrx]
    go_wp2_with fail
    go_ret
    exact ⟨rfl, HF5.out⟩
  rw [hrx]
  have HRX := hid hrx; have HRL := hid hrl
  have HZ0 := hid (show w5.cell? ⟨w.heap.size, 0, none⟩ = some (.int .i64 x.k) by rw [cell_of_row _ _ 0 _ _ _ HR5.out]; rfl)
  have HZ1 := hid (show w5.cell? ⟨w.heap.size, 1, none⟩ = some (.int .i64 x.n) by rw [cell_of_row _ _ 1 _ _ _ HR5.out]; rfl)
  have HZ2 := hid (show w5.cell? ⟨w.heap.size, 2, none⟩ = some (.string x.s) by rw [cell_of_row _ _ 2 _ _ _ HR5.out]; rfl)
  have HZ3 := hid (show w5.cell? ⟨w.heap.size, 3, none⟩ = some (.slice a9 x.l.length c9) by rw [cell_of_row _ _ 3 _ _ _ HR5.out]; rfl)
  have hx5 := HX.out.fr HF5.out
  have hv5 := HV.out.fr HF5.out
  have hw5 : w.heap.size < w5.heap.size := heap_lt HR5.out
  have hdrew : Fr (fun _ => False) w5 w5.drew := (Fr.refl _ _).drew
  obtain ⟨r, hr⟩ : ∃ r, fidx x l 0 + 1 = r := ⟨_, rfl⟩
  have hin : ∀ w1, Fr (fun _ => False) w5 w1 → ∀ u', VIn T w1 (.mk 4 0 ⟨#[]⟩ l) u' → Calls Try.prog 10 #[.int .i64 16, .agg #[.int .i64 x.k, .int .i64 x.n, .string x.s, .slice a9 x.l.length c9], .agg u'] w1 fun e w' => e = .returned (.tuple #[.agg #[.int .i64 0, .int .i64 r, .string ⟨#[]⟩, .slice none 0 0], .int .i64 0]) ∧ Fr (fun _ => False) w1 w' := fun w1 hf u' hu => by
    have := two_in x (.mk 4 0 ⟨#[]⟩ l) (by have := HL.out; show sizeL l ≤ _; omega) w1 _ _ (hx5.fr hf) hu
    rw [show (V.mk 4 0 ⟨#[]⟩ l).k = 4 from rfl, if_pos rfl, if_pos rfl, show (V.mk 4 0 ⟨#[]⟩ l).l = l from rfl, hr] at this
    exact this
  have HR := hid hr; have HIN := hid hin
  clear hrx hrl hr hin
  go_upto_region 6 with fail
  go_cut [6, 7] from 33 to 39 (fun p c wx => ∃ g, p = .pointer (some ⟨g, 0, none⟩) ∧ c = .int .i64 0 ∧ Hid (Fr (fun _ => False) w5 wx) ∧ Hid (wx.heap[g]? = some (.cells #[.int .i64 0, .int .i64 r, .string ⟨#[]⟩, .slice none 0 0] 24)))
  case first =>
    rename_i J K1 hJ hK1
    refine wpF_begin [0, 1, 4, 5, 6] (fun w' => Fr (fun _ => False) w5 w') (by kernel_rfl) ?_
    (refine wpF_take (i := 0) ?_ (by kernel_rfl) (fun _ _ d _ _ h => by cases d <;> exact h) (by kernel_rfl) rfl (by kernel_rfl) (hdrew) ?_ ?_; rotate_left; (· intro w' hS; have z0 := Fr.cell hS HZ0.out not_false; have z1 := Fr.cell hS HZ1.out not_false; have z2 := Fr.cell hS HZ2.out not_false; have z3 := Fr.cell hS HZ3.out not_false; go_simp; try with_reducible rfl); (try simp only [Act.put, List.setIfInBounds_toArray, List.set_cons_zero, List.set_cons_succ]))
    (refine wpF_take (i := 1) ?_ (by kernel_rfl) (fun _ _ d _ _ h => by cases d <;> exact h) (by kernel_rfl) rfl (by kernel_rfl) (hdrew) ?_ ?_; rotate_left; (· intro w' hS; go_simp; try with_reducible rfl); (try simp only [Act.put, List.setIfInBounds_toArray, List.set_cons_zero, List.set_cons_succ]))
    refine wpF_run2 (i := 2) (j := 7) (by kernel_rfl) rfl rfl (by kernel_rfl) (by kernel_rfl) (fun K hK => ?_) (fun K hK => ?_)
    · go_simp
      refine (vL_any l (by have := HL.out; omega) T _ _ (hv5.fr hdrew)).mono ?_
      rintro e w6 ⟨u6, rfl, hf6, hv6, -⟩
      have hS6 := hdrew.trans' hf6
      refine hK _ _ hS6 ?_
      clear hK K
      try simp only [Act.put, List.setIfInBounds_toArray, List.set_cons_zero, List.set_cons_succ]
      refine wpF_run2 (i := 3) (j := 7) (by kernel_rfl) rfl rfl (by kernel_rfl) (by kernel_rfl) (fun K hK => ?_) (fun K hK => ?_)
      · go_simp
        refine (HIN.out _ hS6 _ hv6.t).mono ?_
        rintro e w7 ⟨rfl, hf7⟩
        have hS7 := hS6.trans' hf7
        refine hK _ _ hS7 ?_
        clear hK K
        try simp only [Act.put, List.setIfInBounds_toArray, List.set_cons_zero, List.set_cons_succ]
        (refine wpF_take (i := 4) ?_ (by kernel_rfl) (fun _ _ d _ _ h => by cases d <;> exact h) (by kernel_rfl) rfl (by kernel_rfl) (hS7) ?_ ?_; rotate_left; (· intro w' hS; go_simp; try with_reducible rfl); (try simp only [Act.put, List.setIfInBounds_toArray, List.set_cons_zero, List.set_cons_succ]))
        (refine wpF_take (i := 5) ?_ (by kernel_rfl) (fun _ _ d _ _ h => by cases d <;> exact h) (by kernel_rfl) rfl (by kernel_rfl) (hS7) ?_ ?_; rotate_left; (· intro w' hS; go_simp; try with_reducible rfl); (try simp only [Act.put, List.setIfInBounds_toArray, List.set_cons_zero, List.set_cons_succ]))
        (refine wpF_take (i := 6) ?_ (by kernel_rfl) (fun _ _ d _ _ h => by cases d <;> exact h) (by kernel_rfl) rfl (by kernel_rfl) (hS7) ?_ ?_; rotate_left; (· intro w' hS; go_simp; try with_reducible rfl); (try simp only [Act.put, List.setIfInBounds_toArray, List.set_cons_zero, List.set_cons_succ]))
        (refine wpF_run (i := 7) (by kernel_rfl) rfl (by kernel_rfl) (fun K hK => ?_); go_simp; refine hK _ _ (hS7.alloc _) ?_; clear hK K; (try simp only [Act.put, List.setIfInBounds_toArray, List.set_cons_zero, List.set_cons_succ]))
        have hS9 := hS7.alloc (.cells #[.int .i64 0, .int .i64 r, .string ⟨#[]⟩, .slice none 0 0] 24)
        have hR := heap_alloc_new w7 (.cells #[.int .i64 0, .int .i64 r, .string ⟨#[]⟩, .slice none 0 0] 24)
        (refine wpF_run (i := 8) (by kernel_rfl) rfl (by kernel_rfl) (fun K hK => ?_); go_simp; refine hK _ _ (hS9) ?_; clear hK K; (try simp only [Act.put, List.setIfInBounds_toArray, List.set_cons_zero, List.set_cons_succ]))
        (refine wpF_run (i := 9) (by kernel_rfl) rfl (by kernel_rfl) (fun K hK => ?_); go_simp; refine hK _ _ (hS9) ?_; clear hK K; (try simp only [Act.put, List.setIfInBounds_toArray, List.set_cons_zero, List.set_cons_succ]))
        refine wpF_end (by kernel_rfl) ?_
        refine hK1 _ _ (Met.intro (hJ _ _ ?_))
        repeat apply Exists.intro
        refine ⟨?_, rfl⟩
        exact ⟨_, rfl, rfl, hid hS9, hid hR⟩
      · go_simp
        have hSa := hS6.alloc (.cells #[.int .i64 0, .int .i64 0, .string ⟨#[]⟩, .slice none 0 0] 24)
        have hga := heap_alloc_new w6 (.cells #[.int .i64 0, .int .i64 0, .string ⟨#[]⟩, .slice none 0 0] 24)
        have hgl := hS6.size
        refine hK _ _ hSa ?_
        clear hK K
        try simp only [Act.put, List.setIfInBounds_toArray, List.set_cons_zero, List.set_cons_succ]
        refine wpF_run (i := 3) (by kernel_rfl) rfl (by kernel_rfl) (fun K hK => ?_); go_simp
        refine (HIN.out _ hSa _ (hv6.t.fr ((Fr.refl _ _).alloc _))).mono ?_
        rintro e w7 ⟨rfl, hf7⟩
        have hSn := hSa.trans' hf7
        have hg := hf7.heap hga not_false
        refine hK _ _ hSn ?_
        clear hK K
        try simp only [Act.put, List.setIfInBounds_toArray, List.set_cons_zero, List.set_cons_succ]
        (refine wpF_take (i := 4) ?_ (by kernel_rfl) (fun _ _ d _ _ h => by cases d <;> exact h) (by kernel_rfl) rfl (by kernel_rfl) (hSn) ?_ ?_; rotate_left; (· intro w' hS; go_simp; try with_reducible rfl); (try simp only [Act.put, List.setIfInBounds_toArray, List.set_cons_zero, List.set_cons_succ]))
        (refine wpF_take (i := 5) ?_ (by kernel_rfl) (fun _ _ d _ _ h => by cases d <;> exact h) (by kernel_rfl) rfl (by kernel_rfl) (hSn) ?_ ?_; rotate_left; (· intro w' hS; go_simp; try with_reducible rfl); (try simp only [Act.put, List.setIfInBounds_toArray, List.set_cons_zero, List.set_cons_succ]))
        (refine wpF_take (i := 6) ?_ (by kernel_rfl) (fun _ _ d _ _ h => by cases d <;> exact h) (by kernel_rfl) rfl (by kernel_rfl) (hSn) ?_ ?_; rotate_left; (· intro w' hS; go_simp; try with_reducible rfl); (try simp only [Act.put, List.setIfInBounds_toArray, List.set_cons_zero, List.set_cons_succ]))
        obtain ⟨hR, hf5, z0, z1, z2, z3, zf⟩ := set4 hg (.int .i64 0) (.int .i64 r) (.string ⟨#[]⟩) (.slice none 0 0)
        have hS9 := hSn.trans hf5 (U := fun _ => False) (fun _ _ h => h) (fun q hq e => by have := hgl; omega)
        (refine wpF_run (i := 8) (by kernel_rfl) rfl (by kernel_rfl) (fun K hK => ?_); go_simp; refine hK _ _ (hS9) ?_; clear hK K; (try simp only [Act.put, List.setIfInBounds_toArray, List.set_cons_zero, List.set_cons_succ]))
        (refine wpF_run (i := 9) (by kernel_rfl) rfl (by kernel_rfl) (fun K hK => ?_); go_simp; refine hK _ _ (hS9) ?_; clear hK K; (try simp only [Act.put, List.setIfInBounds_toArray, List.set_cons_zero, List.set_cons_succ]))
        refine wpF_end (by kernel_rfl) ?_
        refine hK1 _ _ (Met.intro (hJ _ _ ?_))
        repeat apply Exists.intro
        refine ⟨?_, rfl⟩
        exact ⟨_, rfl, rfl, hid hS9, hid hR⟩
    · go_simp
      have hSa := hdrew.alloc (.cells #[.int .i64 0, .int .i64 0, .string ⟨#[]⟩, .slice none 0 0] 24)
      have hga := heap_alloc_new w5.drew (.cells #[.int .i64 0, .int .i64 0, .string ⟨#[]⟩, .slice none 0 0] 24)
      have hgl : w5.heap.size ≤ w5.heap.size := Nat.le_refl _
      refine hK _ _ hSa ?_
      clear hK K
      try simp only [Act.put, List.setIfInBounds_toArray, List.set_cons_zero, List.set_cons_succ]
      refine wpF_run (i := 2) (by kernel_rfl) rfl (by kernel_rfl) (fun K hK => ?_); go_simp
      refine (vL_any l (by have := HL.out; omega) T _ _ (hv5.fr hSa)).mono ?_
      rintro e w6 ⟨u6, rfl, hf6, hv6, -⟩
      have hS6 := hSa.trans' hf6
      refine hK _ _ hS6 ?_
      clear hK K
      try simp only [Act.put, List.setIfInBounds_toArray, List.set_cons_zero, List.set_cons_succ]
      refine wpF_run (i := 3) (by kernel_rfl) rfl (by kernel_rfl) (fun K hK => ?_); go_simp
      refine (HIN.out _ hS6 _ hv6.t).mono ?_
      rintro e w7 ⟨rfl, hf7⟩
      have hSn := hS6.trans' hf7
      have hg : w7.heap[w5.heap.size]? = _ := hf7.heap (hf6.heap hga not_false) not_false
      refine hK _ _ hSn ?_
      clear hK K
      try simp only [Act.put, List.setIfInBounds_toArray, List.set_cons_zero, List.set_cons_succ]
      (refine wpF_take (i := 4) ?_ (by kernel_rfl) (fun _ _ d _ _ h => by cases d <;> exact h) (by kernel_rfl) rfl (by kernel_rfl) (hSn) ?_ ?_; rotate_left; (· intro w' hS; go_simp; try with_reducible rfl); (try simp only [Act.put, List.setIfInBounds_toArray, List.set_cons_zero, List.set_cons_succ]))
      (refine wpF_take (i := 5) ?_ (by kernel_rfl) (fun _ _ d _ _ h => by cases d <;> exact h) (by kernel_rfl) rfl (by kernel_rfl) (hSn) ?_ ?_; rotate_left; (· intro w' hS; go_simp; try with_reducible rfl); (try simp only [Act.put, List.setIfInBounds_toArray, List.set_cons_zero, List.set_cons_succ]))
      (refine wpF_take (i := 6) ?_ (by kernel_rfl) (fun _ _ d _ _ h => by cases d <;> exact h) (by kernel_rfl) rfl (by kernel_rfl) (hSn) ?_ ?_; rotate_left; (· intro w' hS; go_simp; try with_reducible rfl); (try simp only [Act.put, List.setIfInBounds_toArray, List.set_cons_zero, List.set_cons_succ]))
      obtain ⟨hR, hf5, z0, z1, z2, z3, zf⟩ := set4 hg (.int .i64 0) (.int .i64 r) (.string ⟨#[]⟩) (.slice none 0 0)
      have hS9 := hSn.trans hf5 (U := fun _ => False) (fun _ _ h => h) (fun q hq e => by have := hgl; omega)
      (refine wpF_run (i := 8) (by kernel_rfl) rfl (by kernel_rfl) (fun K hK => ?_); go_simp; refine hK _ _ (hS9) ?_; clear hK K; (try simp only [Act.put, List.setIfInBounds_toArray, List.set_cons_zero, List.set_cons_succ]))
      (refine wpF_run (i := 9) (by kernel_rfl) rfl (by kernel_rfl) (fun K hK => ?_); go_simp; refine hK _ _ (hS9) ?_; clear hK K; (try simp only [Act.put, List.setIfInBounds_toArray, List.set_cons_zero, List.set_cons_succ]))
      refine wpF_end (by kernel_rfl) ?_
      refine hK1 _ _ (Met.intro (hJ _ _ ?_))
      repeat apply Exists.intro
      refine ⟨?_, rfl⟩
      exact ⟨_, rfl, rfl, hid hS9, hid hR⟩
  case rest =>
  obtain ⟨g, rfl, rfl, HS, HG⟩ := hcut
  have hgr := fidx_ge x l 0
  have hr1 : 0 ≤ r ∧ r ≤ l.length := by have := HR.out; omega
  obtain ⟨hr1, hr2⟩ := hr1
  have hr3 : ¬ r < 0 := by omega
  have hr4 : ¬ (l.length : Int) < r := by omega
  have g1 : wc.cell? ⟨g, 1, none⟩ = some (.int .i64 r) := by rw [cell_of_row _ _ 1 _ _ _ HG.out]; rfl
  have HX5 := hid hx5; have HV5 := hid hv5
  clear hgr hx5 hv5 hdrew HIN
  go_wp2_with fail
  clear g1 hr1 hr2 hr3 hr4
  go_loopw [8] (fun i wr => ∃ k : Nat, k ≤ l.length ∧ i = .int .i64 k ∧ Hid (fidx x l 0 = fidx x (l.drop k) k) ∧ Hid (Fr (fun _ => False) wc wr)) (fun i _ => l.length - (intOf i).toNat)
  case atStart => exact ⟨0, Nat.zero_le _, rfl, hid rfl, hid (Fr.refl _ _)⟩
  case round =>
    obtain ⟨k, hkl, rfl, HXX, HF⟩ := hrel
    by_cases hlt : k < l.length
    · have hlt' : (k : Int) < l.length := by omega
      obtain ⟨ax5, cx5, us5, he5, -, -, -, hb5, hi5⟩ := HV5.out
      simp only [Value.slice.injEq] at he5
      obtain ⟨rfl, -, rfl⟩ := he5
      obtain ⟨b, o, y, a', c', rfl, -, hy, hv, e0, e1, e2, e3⟩ := VL.elem hb5 hi5 k hlt
      have hfw := HS.out.trans' HF.out
      have hdr : l.drop k = y :: l.drop (k + 1) := by
        rw [List.drop_eq_getElem_cons hlt]
        rw [List.getElem?_eq_getElem hlt] at hy
        rw [Option.some.inj hy]
      have HDR := hid hdr; have HY := hid hv; have HFW := hid hfw
      have E0 := hid e0; have E1 := hid e1; have E2 := hid e2; have E3 := hid e3
      clear hdr hy hv hfw e0 e1 e2 e3 hb5 hi5
      go_upto_region 12 with fail
      refine wpF_begin [0, 1, 2, 3, 4] (fun w' => Fr (fun _ => False) w5 w') (by kernel_rfl) ?_
      have hdr : Fr (fun _ => False) w5 wr.drew := HFW.out.drew
      (refine wpF_take (i := 0) ?_ (by kernel_rfl) (fun _ _ d _ _ h => by cases d <;> exact h) (by kernel_rfl) rfl (by kernel_rfl) (hdr) ?_ ?_; rotate_left; (· intro w' hS; go_simp; try with_reducible rfl); (try simp only [Act.put, List.setIfInBounds_toArray, List.set_cons_zero, List.set_cons_succ]))
      (refine wpF_take (i := 1) ?_ (by kernel_rfl) (fun _ _ d _ _ h => by cases d <;> exact h) (by kernel_rfl) rfl (by kernel_rfl) (hdr) ?_ ?_; rotate_left; (· intro w' hS; go_simp; try with_reducible rfl); (try simp only [Act.put, List.setIfInBounds_toArray, List.set_cons_zero, List.set_cons_succ]))
      (refine wpF_take (i := 2) ?_ (by kernel_rfl) (fun _ _ d _ _ h => by cases d <;> exact h) (by kernel_rfl) rfl (by kernel_rfl) (hdr) ?_ ?_; rotate_left; (· intro w' hS; go_simp; try with_reducible rfl); (try simp only [Act.put, List.setIfInBounds_toArray, List.set_cons_zero, List.set_cons_succ]))
      (refine wpF_take (i := 3) ?_ (by kernel_rfl) (fun _ _ d _ _ h => by cases d <;> exact h) (by kernel_rfl) rfl (by kernel_rfl) (hdr) ?_ ?_; rotate_left; (· intro w' hS; have d0 := Fr.cell hS E0.out not_false; have d1 := Fr.cell hS E1.out not_false; have d2 := Fr.cell hS E2.out not_false; have d3 := Fr.cell hS E3.out not_false; go_simp; try with_reducible rfl); (try simp only [Act.put, List.setIfInBounds_toArray, List.set_cons_zero, List.set_cons_succ]))
      (refine wpF_take (i := 4) ?_ (by kernel_rfl) (fun _ _ d _ _ h => by cases d <;> exact h) (by kernel_rfl) rfl (by kernel_rfl) (hdr) ?_ ?_; rotate_left; (· intro w' hS; have z0 := Fr.cell hS HZ0.out not_false; have z1 := Fr.cell hS HZ1.out not_false; have z2 := Fr.cell hS HZ2.out not_false; have z3 := Fr.cell hS HZ3.out not_false; go_simp; try with_reducible rfl); (try simp only [Act.put, List.setIfInBounds_toArray, List.set_cons_zero, List.set_cons_succ]))
      refine wpF_run (i := 5) (by kernel_rfl) rfl (by kernel_rfl) (fun K hK => ?_); go_simp
      refine (vsame_any y.size y x (Nat.le_refl _) T T _ _ _ (VIn.fr HY.out.t hdr) (HX5.out.fr hdr)).mono ?_
      rintro e w7 ⟨rfl, hf7⟩
      have hS7 := hdr.trans' hf7
      refine hK _ _ hS7 ?_
      clear hK K
      try simp only [Act.put, List.setIfInBounds_toArray, List.set_cons_zero, List.set_cons_succ]
      refine wpF_end (by kernel_rfl) ?_
      have HF7 := hid (HF.out.drew.trans' hf7)
      have g1 : w7.cell? ⟨g, 1, none⟩ = some (.int .i64 r) := by rw [cell_of_row _ _ 1 _ _ _ (HF7.out.heap HG.out not_false)]; rfl
      clear hf7 hS7 hdr
      cases hb : V.same y x with
      | true =>
        have hrk : r = (k : Int) + 1 := by rw [← HR.out, HXX.out, HDR.out, fidx, if_pos hb]
        have q1 : (r == (k : Int) + 1) = true := by simpa using hrk
        clear hb hrk
        go_wp2_with fail
        go_ret
        exact ⟨rfl, HF5.out.trans' (HS.out.trans' HF7.out)⟩
      | false =>
        have HFX : Hid (fidx x l 0 = fidx x (l.drop (k + 1)) (k + 1)) := hid (by rw [HXX.out, HDR.out, fidx, if_neg (by rw [hb]; decide)])
        clear hb g1
        go_wp2_with fail
        go_roundw
        case rel => exact ⟨k + 1, by omega, by go_num, HFX, HF7⟩
        case measure => simp [intOf]; omega
    · obtain rfl : k = l.length := by omega
      have hr0 : r = 0 := by rw [← HR.out, HXX.out, List.drop_length]; rfl
      have g0 : wr.cell? ⟨g, 1, none⟩ = some (.int .i64 r) := by rw [cell_of_row _ _ 1 _ _ _ (HF.out.heap HG.out not_false)]; rfl
      have HSW := hid (HS.out.trans' HF.out)
      have hin : ∀ w1, Fr (fun _ => False) w5 w1 → Calls Try.prog 10 #[.int .i64 16, .agg #[.int .i64 x.k, .int .i64 x.n, .string x.s, .slice a9 x.l.length c9], .agg #[.int .i64 2, .int .i64 0, .string ⟨#[97, 98, 99]⟩, .slice none 0 0]] w1 fun e w' => e = .returned (.tuple #[.agg #[.int .i64 0, .int .i64 0, .string ⟨#[]⟩, .slice none 0 0], .int .i64 1]) ∧ Fr (fun _ => False) w1 w' := fun w1 hf => by
        have := two_in x (.mk 2 0 ⟨#[97, 98, 99]⟩ []) (by decide) w1 _ _ (HX5.out.fr hf) ((VL.nil T w1).close 2 0 ⟨#[97, 98, 99]⟩)
        rw [show (V.mk 2 0 ⟨#[97, 98, 99]⟩ []).k = 2 from rfl, if_neg (by decide), if_neg (by decide)] at this
        exact this
      have HIN := hid hin
      have G0 := hid g0
      clear hin g0
      subst hr0
      go_upto_region 14 with fail
      go_cut [10] from 71 to 76 (fun c wx => c = .int .i64 1 ∧ Hid (Fr (fun _ => False) wr wx))
      case first =>
        rename_i J K1 hJ hK1
        refine wpF_begin [0, 3, 4, 5] (fun w' => Fr (fun _ => False) wr w') (by kernel_rfl) ?_
        have hdr : Fr (fun _ => False) wr wr.drew := (Fr.refl _ _).drew
        (refine wpF_take (i := 0) ?_ (by kernel_rfl) (fun _ _ d _ _ h => by cases d <;> exact h) (by kernel_rfl) rfl (by kernel_rfl) (hdr) ?_ ?_; rotate_left; (· intro w' hS; have hS := HSW.out.trans' hS; have z0 := Fr.cell hS HZ0.out not_false; have z1 := Fr.cell hS HZ1.out not_false; have z2 := Fr.cell hS HZ2.out not_false; have z3 := Fr.cell hS HZ3.out not_false; go_simp; try with_reducible rfl); (try simp only [Act.put, List.setIfInBounds_toArray, List.set_cons_zero, List.set_cons_succ]))
        refine wpF_run2 (i := 1) (j := 6) (by kernel_rfl) rfl rfl (by kernel_rfl) (by kernel_rfl) (fun K hK => ?_) (fun K hK => ?_)
        · go_simp
          refine (vS_any ⟨#[97, 98, 99]⟩ _).mono ?_
          rintro e w6 ⟨rfl, hf6⟩
          have hS6 := hdr.trans' hf6
          refine hK _ _ hS6 ?_
          clear hK K
          try simp only [Act.put, List.setIfInBounds_toArray, List.set_cons_zero, List.set_cons_succ]
          refine wpF_run2 (i := 2) (j := 6) (by kernel_rfl) rfl rfl (by kernel_rfl) (by kernel_rfl) (fun K hK => ?_) (fun K hK => ?_)
          · go_simp
            refine (HIN.out _ (HSW.out.trans' hS6)).mono ?_
            rintro e w7 ⟨rfl, hf7⟩
            have hS7 := hS6.trans' hf7
            refine hK _ _ hS7 ?_
            clear hK K
            try simp only [Act.put, List.setIfInBounds_toArray, List.set_cons_zero, List.set_cons_succ]
            (refine wpF_take (i := 3) ?_ (by kernel_rfl) (fun _ _ d _ _ h => by cases d <;> exact h) (by kernel_rfl) rfl (by kernel_rfl) (hS7) ?_ ?_; rotate_left; (· intro w' hS; go_simp; try with_reducible rfl); (try simp only [Act.put, List.setIfInBounds_toArray, List.set_cons_zero, List.set_cons_succ]))
            (refine wpF_take (i := 4) ?_ (by kernel_rfl) (fun _ _ d _ _ h => by cases d <;> exact h) (by kernel_rfl) rfl (by kernel_rfl) (hS7) ?_ ?_; rotate_left; (· intro w' hS; go_simp; try with_reducible rfl); (try simp only [Act.put, List.setIfInBounds_toArray, List.set_cons_zero, List.set_cons_succ]))
            (refine wpF_take (i := 5) ?_ (by kernel_rfl) (fun _ _ d _ _ h => by cases d <;> exact h) (by kernel_rfl) rfl (by kernel_rfl) (hS7) ?_ ?_; rotate_left; (· intro w' hS; go_simp; try with_reducible rfl); (try simp only [Act.put, List.setIfInBounds_toArray, List.set_cons_zero, List.set_cons_succ]))
            have hS9 := hS7.alloc (.cells #[.int .i64 0, .int .i64 0, .string ⟨#[]⟩, .slice none 0 0] 24)
            obtain ⟨-, -, z0, z1, z2, z3, zf⟩ := set4 (heap_alloc_new w7 (.cells #[.int .i64 0, .int .i64 0, .string ⟨#[]⟩, .slice none 0 0] 24)) (.int .i64 0) (.int .i64 0) (.string ⟨#[]⟩) (.slice none 0 0)
            (refine wpF_run (i := 6) (by kernel_rfl) rfl (by kernel_rfl) (fun K hK => ?_); go_simp; refine hK _ _ (hS9) ?_; clear hK K; (try simp only [Act.put, List.setIfInBounds_toArray, List.set_cons_zero, List.set_cons_succ]))
            (refine wpF_run (i := 7) (by kernel_rfl) rfl (by kernel_rfl) (fun K hK => ?_); go_simp; refine hK _ _ (hS9) ?_; clear hK K; (try simp only [Act.put, List.setIfInBounds_toArray, List.set_cons_zero, List.set_cons_succ]))
            (refine wpF_run (i := 8) (by kernel_rfl) rfl (by kernel_rfl) (fun K hK => ?_); go_simp; refine hK _ _ (hS9) ?_; clear hK K; (try simp only [Act.put, List.setIfInBounds_toArray, List.set_cons_zero, List.set_cons_succ]))
            refine wpF_end (by kernel_rfl) ?_
            refine hK1 _ _ (Met.intro (hJ _ _ ?_))
            repeat apply Exists.intro
            refine ⟨?_, rfl⟩
            exact ⟨rfl, hid hS9⟩
          · go_simp
            have hSa := hS6.alloc (.cells #[.int .i64 0, .int .i64 0, .string ⟨#[]⟩, .slice none 0 0] 24)
            have hga := heap_alloc_new w6 (.cells #[.int .i64 0, .int .i64 0, .string ⟨#[]⟩, .slice none 0 0] 24)
            have hgl := hS6.size
            refine hK _ _ hSa ?_
            clear hK K
            try simp only [Act.put, List.setIfInBounds_toArray, List.set_cons_zero, List.set_cons_succ]
            refine wpF_run (i := 2) (by kernel_rfl) rfl (by kernel_rfl) (fun K hK => ?_); go_simp
            refine (HIN.out _ (HSW.out.trans' hSa)).mono ?_
            rintro e w7 ⟨rfl, hf7⟩
            have hSn := hSa.trans' hf7
            have hg := hf7.heap hga not_false
            refine hK _ _ hSn ?_
            clear hK K
            try simp only [Act.put, List.setIfInBounds_toArray, List.set_cons_zero, List.set_cons_succ]
            (refine wpF_take (i := 3) ?_ (by kernel_rfl) (fun _ _ d _ _ h => by cases d <;> exact h) (by kernel_rfl) rfl (by kernel_rfl) (hSn) ?_ ?_; rotate_left; (· intro w' hS; go_simp; try with_reducible rfl); (try simp only [Act.put, List.setIfInBounds_toArray, List.set_cons_zero, List.set_cons_succ]))
            (refine wpF_take (i := 4) ?_ (by kernel_rfl) (fun _ _ d _ _ h => by cases d <;> exact h) (by kernel_rfl) rfl (by kernel_rfl) (hSn) ?_ ?_; rotate_left; (· intro w' hS; go_simp; try with_reducible rfl); (try simp only [Act.put, List.setIfInBounds_toArray, List.set_cons_zero, List.set_cons_succ]))
            (refine wpF_take (i := 5) ?_ (by kernel_rfl) (fun _ _ d _ _ h => by cases d <;> exact h) (by kernel_rfl) rfl (by kernel_rfl) (hSn) ?_ ?_; rotate_left; (· intro w' hS; go_simp; try with_reducible rfl); (try simp only [Act.put, List.setIfInBounds_toArray, List.set_cons_zero, List.set_cons_succ]))
            obtain ⟨-, hf5, z0, z1, z2, z3, zf⟩ := set4 hg (.int .i64 0) (.int .i64 0) (.string ⟨#[]⟩) (.slice none 0 0)
            have hS9 := hSn.trans hf5 (U := fun _ => False) (fun _ _ h => h) (fun q hq e => by omega)
            (refine wpF_run (i := 7) (by kernel_rfl) rfl (by kernel_rfl) (fun K hK => ?_); go_simp; refine hK _ _ (hS9) ?_; clear hK K; (try simp only [Act.put, List.setIfInBounds_toArray, List.set_cons_zero, List.set_cons_succ]))
            (refine wpF_run (i := 8) (by kernel_rfl) rfl (by kernel_rfl) (fun K hK => ?_); go_simp; refine hK _ _ (hS9) ?_; clear hK K; (try simp only [Act.put, List.setIfInBounds_toArray, List.set_cons_zero, List.set_cons_succ]))
            refine wpF_end (by kernel_rfl) ?_
            refine hK1 _ _ (Met.intro (hJ _ _ ?_))
            repeat apply Exists.intro
            refine ⟨?_, rfl⟩
            exact ⟨rfl, hid hS9⟩
        · go_simp
          have hSa := hdr.alloc (.cells #[.int .i64 0, .int .i64 0, .string ⟨#[]⟩, .slice none 0 0] 24)
          have hga := heap_alloc_new wr.drew (.cells #[.int .i64 0, .int .i64 0, .string ⟨#[]⟩, .slice none 0 0] 24)
          refine hK _ _ hSa ?_
          clear hK K
          try simp only [Act.put, List.setIfInBounds_toArray, List.set_cons_zero, List.set_cons_succ]
          refine wpF_run (i := 1) (by kernel_rfl) rfl (by kernel_rfl) (fun K hK => ?_); go_simp
          refine (vS_any ⟨#[97, 98, 99]⟩ _).mono ?_
          rintro e w6 ⟨rfl, hf6⟩
          have hS6 := hSa.trans' hf6
          refine hK _ _ hS6 ?_
          clear hK K
          try simp only [Act.put, List.setIfInBounds_toArray, List.set_cons_zero, List.set_cons_succ]
          refine wpF_run (i := 2) (by kernel_rfl) rfl (by kernel_rfl) (fun K hK => ?_); go_simp
          refine (HIN.out _ (HSW.out.trans' hS6)).mono ?_
          rintro e w7 ⟨rfl, hf7⟩
          have hSn := hS6.trans' hf7
          have hg : w7.heap[wr.heap.size]? = _ := hf7.heap (hf6.heap hga not_false) not_false
          refine hK _ _ hSn ?_
          clear hK K
          try simp only [Act.put, List.setIfInBounds_toArray, List.set_cons_zero, List.set_cons_succ]
          (refine wpF_take (i := 3) ?_ (by kernel_rfl) (fun _ _ d _ _ h => by cases d <;> exact h) (by kernel_rfl) rfl (by kernel_rfl) (hSn) ?_ ?_; rotate_left; (· intro w' hS; go_simp; try with_reducible rfl); (try simp only [Act.put, List.setIfInBounds_toArray, List.set_cons_zero, List.set_cons_succ]))
          (refine wpF_take (i := 4) ?_ (by kernel_rfl) (fun _ _ d _ _ h => by cases d <;> exact h) (by kernel_rfl) rfl (by kernel_rfl) (hSn) ?_ ?_; rotate_left; (· intro w' hS; go_simp; try with_reducible rfl); (try simp only [Act.put, List.setIfInBounds_toArray, List.set_cons_zero, List.set_cons_succ]))
          (refine wpF_take (i := 5) ?_ (by kernel_rfl) (fun _ _ d _ _ h => by cases d <;> exact h) (by kernel_rfl) rfl (by kernel_rfl) (hSn) ?_ ?_; rotate_left; (· intro w' hS; go_simp; try with_reducible rfl); (try simp only [Act.put, List.setIfInBounds_toArray, List.set_cons_zero, List.set_cons_succ]))
          obtain ⟨-, hf5, z0, z1, z2, z3, zf⟩ := set4 hg (.int .i64 0) (.int .i64 0) (.string ⟨#[]⟩) (.slice none 0 0)
          have hS9 := hSn.trans hf5 (U := fun _ => False) (fun _ _ h => h) (fun q hq e => by omega)
          (refine wpF_run (i := 7) (by kernel_rfl) rfl (by kernel_rfl) (fun K hK => ?_); go_simp; refine hK _ _ (hS9) ?_; clear hK K; (try simp only [Act.put, List.setIfInBounds_toArray, List.set_cons_zero, List.set_cons_succ]))
          (refine wpF_run (i := 8) (by kernel_rfl) rfl (by kernel_rfl) (fun K hK => ?_); go_simp; refine hK _ _ (hS9) ?_; clear hK K; (try simp only [Act.put, List.setIfInBounds_toArray, List.set_cons_zero, List.set_cons_succ]))
          refine wpF_end (by kernel_rfl) ?_
          refine hK1 _ _ (Met.intro (hJ _ _ ?_))
          repeat apply Exists.intro
          refine ⟨?_, rfl⟩
          exact ⟨rfl, hid hS9⟩
      case rest =>
      obtain ⟨rfl, HE⟩ := hcut
      have g1 := HE.out.cell G0.out not_false
      go_wp2_with fail
      go_ret
      exact ⟨rfl, HF5.out.trans' (HSW.out.trans' HE.out)⟩
end Go.Proofs.Ytjngddmjgcecnaa
