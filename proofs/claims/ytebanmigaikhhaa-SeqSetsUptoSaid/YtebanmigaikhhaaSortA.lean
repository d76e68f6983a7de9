/- swapRangeCmpFunc, rotateCmpFunc over values. -/
import Derived.Test.YtebanmigaikhhaaSortW
import Derived.Test.YtebanmigaikhhaaRegionG
import Derived.Deep.LoopGhost
import Derived.BigRegion
namespace Go.Proofs.Ytebanmigaikhhaa
open Go.RowKit Go.Sort

set_option maxRecDepth 100000 in
set_option maxHeartbeats 3200000 in
theorem swaprange_any (w0 W : World) (base g n c : Nat) (d : Array PV) (hg : g < w0.heap.size) (h : St w0 base g n c d W) (a b m : Nat) (hn : n ≤ 1099511627776) (hab : a + m ≤ b) (hb : b + m ≤ n) (cmp : Value) :
    Calls Try.prog 71 #[.slice (some ⟨g, 0, none⟩) n c, .int .i64 a, .int .i64 b, .int .i64 m, cmp] W fun e W' => e = .returned (.tuple #[]) ∧ ∃ d', St w0 base g n c d' W' ∧ SwR a b m d d' := by
  have HH := hid h
  have hsz := h.sz
  have HSZ := hid hsz; have HG := hid hg; have HAB := hid hab; have HB := hid hb; have HN := hid hn
  clear h hsz hg
  go_enter Try.func71, Try.ntmps71
  go_wp2_with fail
  go_loopw [10] (fun i wr => ∃ (k : Nat) (dk : Array PV), k ≤ m ∧ i = .int .i64 k ∧ Hid (St w0 base g n c dk wr) ∧ Hid (SwR a b k d dk)) (fun i _ => m - (intOf i).toNat)
  case atStart => exact ⟨0, d, Nat.zero_le _, rfl, HH, hid (SwR.start a b d)⟩
  case round =>
    obtain ⟨k, dk, hk, rfl, HS, HR⟩ := hrel
    by_cases hlt : k < m
    · have hlt' : (k : Int) < m := by omega
      have i1 : a + k < n := by omega
      have i2 : b + k < n := by omega
      obtain ⟨ax, cx, ex, x0, x1, x2, x3⟩ := HS.out.cells i1
      obtain ⟨ay, cy, ey, y0, y1, y2, y3⟩ := HS.out.cells i2
      obtain ⟨fz1, fz2, hc2, hst⟩ := (HS.out.frame (Fr.refl (fun _ => False) wr).drew).swap i1 i2 HG.out ex ey
      obtain ⟨z0, hz0⟩ := hc2 ((b + k) * 4) (by omega)
      obtain ⟨z1, hz1⟩ := hc2 ((b + k) * 4 + 1) (by omega)
      obtain ⟨z2, hz2⟩ := hc2 ((b + k) * 4 + 2) (by omega)
      obtain ⟨z3, hz3⟩ := hc2 ((b + k) * 4 + 3) (by omega)
      have HST := hid hst
      have HR2 := hid (HR.out.step HAB.out (by rw [HSZ.out]; exact HB.out) hlt)
      have h1 : (a : Int) + k < n := by omega
      have h2 : (b : Int) + k < n := by omega
      have t1 : ((a : Int) + k).toNat = a + k := by omega
      have t2 : ((b : Int) + k).toNat = b + k := by omega
      have w1 : IntKind.i64.wrap ((a : Int) + k) = (a : Int) + k := IntWalk.i64_in _ (by omega)
      have w2 : IntKind.i64.wrap ((b : Int) + k) = (b : Int) + k := IntWalk.i64_in _ (by omega)
      have p1 : (0 : Int) ≤ (a : Int) + k := by omega
      have p2 : (0 : Int) ≤ (b : Int) + k := by omega
      have FZ1 := hid fz1; have FZ2 := hid fz2; have HZ0 := hid hz0; have HZ1 := hid hz1; have HZ2 := hid hz2; have HZ3 := hid hz3
      clear hst hc2 ex ey fz1 fz2 hz0 hz1 hz2 hz3
      go_upto_region 3 with fail
      have Y0 := hid y0; have Y1 := hid y1; have Y2 := hid y2; have Y3 := hid y3
      have X0 := hid x0; have X1 := hid x1; have X2 := hid x2; have X3 := hid x3
      clear x0 x1 x2 x3 y0 y1 y2 y3
      generalize (dk[a + k]!).1.k = xk at *
      generalize (dk[a + k]!).1.n = xn at *
      generalize (dk[a + k]!).1.s = xs at *
      generalize (dk[a + k]!).1.l.length = xl at *
      generalize (dk[b + k]!).1.k = yk at *
      generalize (dk[b + k]!).1.n = yn at *
      generalize (dk[b + k]!).1.s = ys at *
      generalize (dk[b + k]!).1.l.length = yl at *
      refine wp_region_g [(0, 2), (1, 2), (2, 2), (3, 2), (4, 2), (5, 2), (6, 2), (7, 2), (8, 2), (9, 2), (10, 2), (11, 2), (12, 2), (13, 0), (14, 2), (15, 2), (16, 2), (17, 2), (18, 2), (19, 0), (20, 1), (21, 1), (22, 1), (23, 1)] (fun w' => Fr (fun _ => False) wr w') (by kernel_rfl) (by kernel_rfl) (by kernel_rfl) rfl (fun _ _ d _ _ h => by cases d <;> exact h) (Fr.refl _ _).drew ?_
      have Fd := hid ((Fr.refl (fun _ => False) wr).drew)
      generalize wr.drew = wd at *
      iterate 13 (refine wpG_free ?_ rfl (by kernel_rfl) ?_ ?_; rotate_left; (· intro w'; go_simp; try with_reducible rfl); (try simp only [Act.put, List.setIfInBounds_toArray, List.set_cons_zero, List.set_cons_succ]))
      (refine wpG_take ?_ rfl (by kernel_rfl) ?_ ?_; rotate_left; (· intro w' hS; have d0 := hS.cell Y0.out not_false; have d1 := hS.cell Y1.out not_false; have d2 := hS.cell Y2.out not_false; have d3 := hS.cell Y3.out not_false; go_simp; try with_reducible rfl); (try simp only [Act.put, List.setIfInBounds_toArray, List.set_cons_zero, List.set_cons_succ]))
      iterate 5 (refine wpG_free ?_ rfl (by kernel_rfl) ?_ ?_; rotate_left; (· intro w'; go_simp; try with_reducible rfl); (try simp only [Act.put, List.setIfInBounds_toArray, List.set_cons_zero, List.set_cons_succ]))
      (refine wpG_take ?_ rfl (by kernel_rfl) ?_ ?_; rotate_left; (· intro w' hS; have d0 := hS.cell X0.out not_false; have d1 := hS.cell X1.out not_false; have d2 := hS.cell X2.out not_false; have d3 := hS.cell X3.out not_false; go_simp; try with_reducible rfl); (try simp only [Act.put, List.setIfInBounds_toArray, List.set_cons_zero, List.set_cons_succ]))
      (refine wpG_run rfl (by kernel_rfl) (fun K hK => ?_); go_simp; refine hK _ _ (fun _ => Fd.out) ?_; clear hK K; (try simp only [Act.put, List.setIfInBounds_toArray, List.set_cons_zero, List.set_cons_succ]))
      have x0 := Fd.out.cell X0.out not_false
      have x1 := Fd.out.cell X1.out not_false
      have x2 := Fd.out.cell X2.out not_false
      have x3 := Fd.out.cell X3.out not_false
      have f1 := FZ1.out
      (refine wpG_run rfl (by kernel_rfl) (fun K hK => ?_); go_simp; refine hK _ _ (last_skip (by kernel_rfl)) ?_; clear hK K; (try simp only [Act.put, List.setIfInBounds_toArray, List.set_cons_zero, List.set_cons_succ]))
      clear x0 x1 x2 x3 f1
      have f2 := FZ2.out
      have z0 := HZ0.out
      have z1 := HZ1.out
      have z2 := HZ2.out
      have z3 := HZ3.out
      generalize (((wd.setCell ⟨g, (a + k) * 4, none⟩ (.int .i64 yk)).setCell ⟨g, (a + k) * 4 + 1, none⟩ (.int .i64 yn)).setCell ⟨g, (a + k) * 4 + 2, none⟩ (.string ys)).setCell ⟨g, (a + k) * 4 + 3, none⟩ (.slice ay yl cy) = wz at *
      (refine wpG_run rfl (by kernel_rfl) (fun K hK => ?_); go_simp; refine hK _ _ (last_skip (by kernel_rfl)) ?_; clear hK K; (try simp only [Act.put, List.setIfInBounds_toArray, List.set_cons_zero, List.set_cons_succ]))
      (refine wpG_run rfl (by kernel_rfl) (fun K hK => ?_); go_simp; refine hK _ _ (last_skip (by kernel_rfl)) ?_; clear hK K; (try simp only [Act.put, List.setIfInBounds_toArray, List.set_cons_zero, List.set_cons_succ]))
      refine wpG_end ?_
      generalize (((wz.setCell ⟨g, (b + k) * 4, none⟩ (.int .i64 xk)).setCell ⟨g, (b + k) * 4 + 1, none⟩ (.int .i64 xn)).setCell ⟨g, (b + k) * 4 + 2, none⟩ (.string xs)).setCell ⟨g, (b + k) * 4 + 3, none⟩ (.slice ax xl cx) = wy at *
      clear f2 z0 z1 z2 z3
      go_wp2_with fail
      go_roundw
      case rel => exact ⟨k + 1, swp dk (a + k) (b + k), by omega, by go_num, HST, HR2⟩
      case measure => simp [intOf]; omega
    · obtain rfl : k = m := by omega
      have hlt' : ¬ (k : Int) < k := by omega
      go_wp2_with fail
      go_end0
      exact ⟨rfl, dk, HS.out, HR.out⟩
end Go.Proofs.Ytebanmigaikhhaa
