/- SortStableFunc, Reverse over a row of values; seq.Sort, seq.Turn. -/
import Derived.Test.YtebanmigaikhhaaSortE
import Derived.Test.YtebanmigaikhhaaValLO
import Derived.Test.YtebanmigaikhhaaSeqH
namespace Go.Proofs.Ytebanmigaikhhaa
open Go.RowKit Go.Sort

/-- A row of its own of right values: what the sort works on. -/
theorem own_st {base : Nat} {w : World} {l : List V} {v : Value} (h : VOwn 30 base w l v) (hk : krL l) : (l = [] ∧ v = .slice none 0 0) ∨ ∃ g c d, v = .slice (some ⟨g, 0, none⟩) l.length c ∧ base ≤ g ∧ g < w.heap.size ∧ St w base g l.length c d w ∧ d.toList.map (·.1) = l := by
  obtain ⟨xs, ho, hx⟩ := h
  rcases own_heap ho with ⟨e, hn, -⟩ | ⟨g, cap, e, hb, hg, -⟩
  · exact .inl ⟨List.eq_nil_of_length_eq_zero hn, e⟩
  refine .inr ?_
  obtain ⟨us, hus⟩ : ∃ us : Nat → Array Value, ∀ i x, l[i]? = some x → VIn (fun b => b ≠ g) w x (us i) ∧ (us i).size = 4 ∧ ∀ j, j < 4 → xs[i * 4 + j]? = (us i)[j]? := by
    classical
    refine ⟨fun i => if h : ∃ u, ∀ x, l[i]? = some x → VIn (fun b => b ≠ g) w x u ∧ u.size = 4 ∧ ∀ j, j < 4 → xs[i * 4 + j]? = u[j]? then h.choose else #[], fun i x hi => ?_⟩
    have h : ∃ u, ∀ x, l[i]? = some x → VIn (fun b => b ≠ g) w x u ∧ u.size = 4 ∧ ∀ j, j < 4 → xs[i * 4 + j]? = u[j]? := by
      obtain ⟨u, h1, h2⟩ := hx i x hi
      refine ⟨u, fun y hy => ?_⟩
      rw [hi] at hy
      cases hy
      exact ⟨h1.mono fun q _ hq e2 => hq.2.2.1 (by rw [e, e2]; rfl), h2⟩
    simp only [dif_pos h]
    exact h.choose_spec x hi
  have hget : ∀ i (hi : i < l.length), (Array.ofFn (n := l.length) fun i => ((l[i.1], us i.1) : PV))[i]! = (l[i], us i) := fun i hi => by
    rw [getElem!_pos _ i (by simpa using hi), Array.getElem_ofFn]
  refine ⟨g, cap, Array.ofFn (n := l.length) fun i => (l[i.1], us i.1), e, hb, hg, ⟨⟨by simp, xs, by rw [← e]; exact ho, fun i hi => ?_⟩, Fr.refl _ _, fun i hi => ?_⟩, ?_⟩
  · rw [hget i hi]
    exact (hus i _ (List.getElem?_eq_getElem hi)).2
  · rw [hget i hi]
    exact ⟨(hus i _ (List.getElem?_eq_getElem hi)).1, krL_mem hk (List.getElem?_eq_getElem hi)⟩
  · apply List.ext_getElem
    · simp
    · intro i h1 h2
      simp
/-- What it has become, read. -/
theorem St.vl {w0 W : World} {base g n c : Nat} {d : Array PV} (h : St w0 base g n c d W) : VL T W (d.toList.map (·.1)) (.slice (some ⟨g, 0, none⟩) n c) := by
  obtain ⟨⟨h1, xs, ho, hx⟩, h2, h3⟩ := h
  subst h1
  have hl : (d.toList.map (·.1)).length = d.size := by simp
  have hv : VC T W (d.toList.map (·.1)) xs := by
    refine ⟨by rw [hl]; exact ho.1, fun i x hi => ?_⟩
    have hil : i < d.size := by
      have := (List.getElem?_eq_some_iff.1 hi).1
      omega
    have hxe : x = (d[i]!).1 := by
      rw [List.getElem?_map, Array.getElem?_toList, Array.getElem?_eq_getElem hil] at hi
      simp only [Option.map_some, Option.some.injEq] at hi
      rw [getElem!_pos d i hil, hi]
    subst hxe
    exact ⟨_, ((h3 i hil).1.frame h2 fun k hk e => hk e).mono fun _ _ _ => trivial, (hx i hil).1, (hx i hil).2⟩
  have := VC.own hv (by rw [hl]; exact ho)
  exact this.t
set_option maxRecDepth 100000 in
set_option maxHeartbeats 1600000 in
theorem insertion0 (a : Option Addr) (c : Nat) (cmp : Value) (W : World) :
    Calls Try.prog 66 #[.slice a 0 c, .int .i64 0, .int .i64 0, cmp] W fun e W' => e = .returned (.tuple #[]) ∧ Fr (fun _ => False) W W' := by
  go_enter Try.func66, Try.ntmps66
  go_wp2_with fail
  go_loopw [8] (fun iv wr => iv = .int .i64 1 ∧ Hid (Fr (fun _ => False) W wr)) (fun iv _ => 0)
  case atStart => exact ⟨rfl, hid (Fr.refl _ _)⟩
  case round =>
    obtain ⟨rfl, HF⟩ := hrel
    go_wp2_with fail
    go_end0
    exact ⟨rfl, HF.out⟩
set_option maxRecDepth 100000 in
set_option maxHeartbeats 1600000 in
theorem stable0 (a : Option Addr) (c : Nat) (cmp : Value) (W : World) :
    Calls Try.prog 63 #[.slice a 0 c, .int .i64 0, cmp] W fun e W' => e = .returned (.tuple #[]) ∧ Fr (fun _ => False) W W' := by
  go_enter Try.func63, Try.ntmps63
  go_wp2_with fail
  go_loopw [7, 8] (fun av bv wr => av = .int .i64 0 ∧ bv = .int .i64 20 ∧ Hid (Fr (fun _ => False) W wr)) (fun iv _ _ => 0)
  case atStart => exact ⟨rfl, rfl, hid (Fr.refl _ _)⟩
  case round =>
    obtain ⟨rfl, rfl, HF⟩ := hrel
    have HI := hid (insertion0 a c cmp wr)
    go_wp2_with fail
    refine HI.out.mono ?_
    rintro e w2 ⟨rfl, hf2⟩
    have HF2 := hid (HF.out.trans' hf2)
    clear hf2
    go_wp2_with fail
    go_loopw [6] (fun sv wr => sv = .int .i64 20 ∧ Hid (Fr (fun _ => False) W wr)) (fun iv _ => 0)
    case atStart => exact ⟨rfl, HF2⟩
    case round =>
      clear HF HF2
      obtain ⟨rfl, HF⟩ := hrel
      go_wp2_with fail
      go_end0
      exact ⟨rfl, HF.out⟩
set_option maxRecDepth 100000 in
set_option maxHeartbeats 1600000 in
theorem stablef0 (a : Option Addr) (c : Nat) (cmp : Value) (W : World) :
    Calls Try.prog 55 #[.slice a 0 c, cmp] W fun e W' => e = .returned (.tuple #[]) ∧ Fr (fun _ => False) W W' := by
  have HI := hid (fun w2 => stable0 a c cmp w2)
  go_enter Try.func55, Try.ntmps55
  go_wp2_with fail
  refine (HI.out _).mono ?_
  rintro e w2 ⟨rfl, hf2⟩
  have HF2 := hid hf2
  clear hf2
  go_wp2_with fail
  go_end0
  exact ⟨rfl, HF2.out⟩
set_option maxRecDepth 100000 in
set_option maxHeartbeats 1600000 in
theorem stablef_any (w0 W : World) (base g n c : Nat) (d : Array PV) (hg : g < w0.heap.size) (h : St w0 base g n c d W) (hn : n ≤ 40) :
    Calls Try.prog 55 #[.slice (some ⟨g, 0, none⟩) n c, .func (.func 56) #[] #[]] W fun e W' => e = .returned (.tuple #[]) ∧ ∃ d', St w0 base g n c d' W' ∧ PermIn 0 n d d' ∧ SortedIn ltP 0 n d' := by
  have HH := hid h
  have HI := hid (fun w2 (h2 : St w0 base g n c d w2) => stable_any w0 w2 base g n c d hg h2 hn)
  clear h hg
  go_enter Try.func55, Try.ntmps55
  go_wp2_with fail
  refine (HI.out _ HH.out).mono ?_
  rintro e w2 ⟨rfl, d2, hs2, hp2, ho2⟩
  have HS2 := hid hs2; have HP2 := hid hp2; have HO2 := hid ho2
  clear hs2 hp2 ho2
  go_wp2_with fail
  go_end0
  exact ⟨rfl, d2, HS2.out, HP2.out, HO2.out⟩
set_option maxRecDepth 100000 in
set_option maxHeartbeats 1600000 in
theorem reverse0 (a : Option Addr) (c : Nat) (W : World) :
    Calls Try.prog 58 #[.slice a 0 c] W fun e W' => e = .returned (.tuple #[]) ∧ Fr (fun _ => False) W W' := by
  go_enter Try.func58, Try.ntmps58
  go_wp2_with fail
  go_loopw [2, 3] (fun av bv wr => av = .int .i64 0 ∧ bv = .int .i64 (-1) ∧ Hid (Fr (fun _ => False) W wr)) (fun iv _ _ => 0)
  case atStart => exact ⟨rfl, rfl, hid (Fr.refl _ _)⟩
  case round =>
    obtain ⟨rfl, rfl, HF⟩ := hrel
    go_wp2_with fail
    go_end0
    exact ⟨rfl, HF.out⟩
def revF (n i : Nat) (d : Array PV) (x : Nat) : PV := if x < i ∨ n ≤ x + i then d[n - 1 - x]! else d[x]!
set_option maxRecDepth 100000 in
set_option maxHeartbeats 3200000 in
theorem reverse_any (w0 W : World) (base g n c : Nat) (d : Array PV) (hg : g < w0.heap.size) (h : St w0 base g n c d W) (hn : n ≤ 1099511627776) :
    Calls Try.prog 58 #[.slice (some ⟨g, 0, none⟩) n c] W fun e W' => e = .returned (.tuple #[]) ∧ ∃ d', St w0 base g n c d' W' ∧ ∀ x, x < n → d'[x]! = d[n - 1 - x]! := by
  have HH := hid h
  have HSZ := hid h.sz; have HG := hid hg
  have w1 : IntKind.i64.wrap ((n : Int) - 1) = (n : Int) - 1 := IntWalk.i64_in _ (by omega)
  clear h hg
  go_enter Try.func58, Try.ntmps58
  go_wp2_with fail
  clear w1
  go_loopw [2, 3] (fun iv jv wr => ∃ (i : Nat) (dk : Array PV), 2 * i ≤ n + 1 ∧ iv = .int .i64 i ∧ jv = .int .i64 ((n : Int) - 1 - i) ∧ Hid (St w0 base g n c dk wr) ∧ Hid (∀ x, x < n → dk[x]! = revF n i d x)) (fun iv _ _ => n + 2 - 2 * (intOf iv).toNat)
  case atStart => exact ⟨0, d, by omega, rfl, by first | rfl | go_num | (congr 1; omega), HH, hid (fun x hx => by unfold revF; rw [if_neg (by omega)])⟩
  case round =>
    obtain ⟨i, dk, hi2, rfl, rfl, HS, HR⟩ := hrel
    by_cases hlt : 2 * i + 1 < n
    · obtain ⟨j, hj⟩ : ∃ j, n - 1 - i = j := ⟨_, rfl⟩
      have hjI : (n : Int) - 1 - i = (j : Int) := by omega
      rw [hjI]
      have hij : (i : Int) < j := by omega
      have i1 : i < n := by omega
      have i2 : j < n := by omega
      have j1 : (i : Int) < n := by omega
      have j2 : (j : Int) < n := by omega
      have hw1 : IntKind.i64.wrap ((i : Int) + 1) = (i : Int) + 1 := IntWalk.i64_in _ (by omega)
      have hw2 : IntKind.i64.wrap ((j : Int) - 1) = (j : Int) - 1 := IntWalk.i64_in _ (by omega)
      have HR2 := hid (show ∀ x, x < n → (swp dk i j)[x]! = revF n (i + 1) d x from fun x hx => by
        rw [swp_get dk (by rw [HS.out.sz]; omega) (by rw [HS.out.sz]; omega)]
        unfold revF
        by_cases e2 : x = j
        · rw [if_pos e2, HR.out i i1]
          unfold revF
          rw [if_neg (show ¬ (i < i ∨ n ≤ i + i) by omega), if_pos (show x < i + 1 ∨ n ≤ x + (i + 1) by omega), show n - 1 - x = i by omega]
        · rw [if_neg e2]
          by_cases e1 : x = i
          · rw [if_pos e1, HR.out j i2]
            unfold revF
            rw [if_neg (show ¬ (j < i ∨ n ≤ j + i) by omega), if_pos (show x < i + 1 ∨ n ≤ x + (i + 1) by omega), show n - 1 - x = j by omega]
          · rw [if_neg e1, HR.out x hx]
            unfold revF
            by_cases e3 : x < i ∨ n ≤ x + i
            · rw [if_pos e3, if_pos (show x < i + 1 ∨ n ≤ x + (i + 1) by omega)]
            · rw [if_neg e3, if_neg (show ¬ (x < i + 1 ∨ n ≤ x + (i + 1)) by omega)])
      have HJ := hid hj
      clear hj hjI
      obtain ⟨ax, cx, ex, x0, x1, x2, x3⟩ := HS.out.cells i1
      obtain ⟨ay, cy, ey, y0, y1, y2, y3⟩ := HS.out.cells i2
      obtain ⟨fz1, fz2, hc2, hst⟩ := (HS.out.frame (Fr.refl (fun _ => False) wr).drew).swap i1 i2 HG.out ex ey
      obtain ⟨z0, hz0⟩ := hc2 ((j) * 4) (by omega)
      obtain ⟨z1, hz1⟩ := hc2 ((j) * 4 + 1) (by omega)
      obtain ⟨z2, hz2⟩ := hc2 ((j) * 4 + 2) (by omega)
      obtain ⟨z3, hz3⟩ := hc2 ((j) * 4 + 3) (by omega)
      have HST := hid hst; have FZ1 := hid fz1; have FZ2 := hid fz2; have HZ0 := hid hz0; have HZ1 := hid hz1; have HZ2 := hid hz2; have HZ3 := hid hz3
      have Y0 := hid y0; have Y1 := hid y1; have Y2 := hid y2; have Y3 := hid y3; have X0 := hid x0; have X1 := hid x1; have X2 := hid x2; have X3 := hid x3
      clear hst hc2 ex ey fz1 fz2 hz0 hz1 hz2 hz3 x0 x1 x2 x3 y0 y1 y2 y3
      generalize (dk[i]!).1.k = xk at *
      generalize (dk[i]!).1.n = xn at *
      generalize (dk[i]!).1.s = xs at *
      generalize (dk[i]!).1.l.length = xl at *
      generalize (dk[j]!).1.k = yk at *
      generalize (dk[j]!).1.n = yn at *
      generalize (dk[j]!).1.s = ys at *
      generalize (dk[j]!).1.l.length = yl at *
      go_upto_region 3 with fail
      refine wp_region_g [(0, 2), (1, 2), (2, 2), (3, 2), (4, 2), (5, 2), (6, 2), (7, 0), (8, 2), (9, 2), (10, 2), (11, 0), (12, 1), (13, 1), (14, 1), (15, 1)] (fun w' => Fr (fun _ => False) wr w') (by kernel_rfl) (by kernel_rfl) (by kernel_rfl) rfl (fun _ _ d _ _ h => by cases d <;> exact h) (Fr.refl _ _).drew ?_
      have Fd := hid ((Fr.refl (fun _ => False) wr).drew)
      generalize wr.drew = wd at *
      iterate 7 (refine wpG_free ?_ rfl (by kernel_rfl) ?_ ?_; rotate_left; (· intro w'; go_simp; try with_reducible rfl); (try simp only [Act.put, List.setIfInBounds_toArray, List.set_cons_zero, List.set_cons_succ]))
      (refine wpG_take ?_ rfl (by kernel_rfl) ?_ ?_; rotate_left; (· intro w' hS; have d0 := hS.cell Y0.out not_false; have d1 := hS.cell Y1.out not_false; have d2 := hS.cell Y2.out not_false; have d3 := hS.cell Y3.out not_false; go_simp; try with_reducible rfl); (try simp only [Act.put, List.setIfInBounds_toArray, List.set_cons_zero, List.set_cons_succ]))
      iterate 3 (refine wpG_free ?_ rfl (by kernel_rfl) ?_ ?_; rotate_left; (· intro w'; go_simp; try with_reducible rfl); (try simp only [Act.put, List.setIfInBounds_toArray, List.set_cons_zero, List.set_cons_succ]))
      (refine wpG_take ?_ rfl (by kernel_rfl) ?_ ?_; rotate_left; (· intro w' hS; have d0 := hS.cell X0.out not_false; have d1 := hS.cell X1.out not_false; have d2 := hS.cell X2.out not_false; have d3 := hS.cell X3.out not_false; go_simp; try with_reducible rfl); (try simp only [Act.put, List.setIfInBounds_toArray, List.set_cons_zero, List.set_cons_succ]))
      (refine wpG_run rfl (by kernel_rfl) (fun K hK => ?_); go_simp; refine hK _ _ (fun _ => Fd.out) ?_; clear hK K; (try simp only [Act.put, List.setIfInBounds_toArray, List.set_cons_zero, List.set_cons_succ]))
      have x0 := Fd.out.cell X0.out not_false
      have x1 := Fd.out.cell X1.out not_false
      have x2 := Fd.out.cell X2.out not_false
      have x3 := Fd.out.cell X3.out not_false
      have f1 := FZ1.out
      (refine wpG_run rfl (by kernel_rfl) (fun K hK => ?_); go_simp; refine hK _ _ (last_skip (by kernel_rfl)) ?_; clear hK K; (try simp only [Act.put, List.setIfInBounds_toArray, List.set_cons_zero, List.set_cons_succ]))
      clear x0 x1 x2 x3 f1
      have f2 := FZ2.out
      have z0 := HZ0.out
      have z1 := HZ1.out
      have z2 := HZ2.out
      have z3 := HZ3.out
      generalize (((wd.setCell ⟨g, (i) * 4, none⟩ (.int .i64 yk)).setCell ⟨g, (i) * 4 + 1, none⟩ (.int .i64 yn)).setCell ⟨g, (i) * 4 + 2, none⟩ (.string ys)).setCell ⟨g, (i) * 4 + 3, none⟩ (.slice ay yl cy) = wz at *
      (refine wpG_run rfl (by kernel_rfl) (fun K hK => ?_); go_simp; refine hK _ _ (last_skip (by kernel_rfl)) ?_; clear hK K; (try simp only [Act.put, List.setIfInBounds_toArray, List.set_cons_zero, List.set_cons_succ]))
      (refine wpG_run rfl (by kernel_rfl) (fun K hK => ?_); go_simp; refine hK _ _ (last_skip (by kernel_rfl)) ?_; clear hK K; (try simp only [Act.put, List.setIfInBounds_toArray, List.set_cons_zero, List.set_cons_succ]))
      refine wpG_end ?_
      generalize (((wz.setCell ⟨g, (j) * 4, none⟩ (.int .i64 xk)).setCell ⟨g, (j) * 4 + 1, none⟩ (.int .i64 xn)).setCell ⟨g, (j) * 4 + 2, none⟩ (.string xs)).setCell ⟨g, (j) * 4 + 3, none⟩ (.slice ax xl cx) = wy at *
      clear f2 z0 z1 z2 z3
      go_wp2_with fail
      go_roundw
      case rel => exact ⟨i + 1, swp dk i j, by omega, by go_num, by have := HJ.out; first | go_num | (congr 1; omega) | (simp; omega), HST, HR2⟩
      case measure => simp [intOf]; omega
    · have hij : ¬ (i : Int) < (n : Int) - 1 - i := by omega
      have HE := hid (show ∀ x, x < n → dk[x]! = d[n - 1 - x]! from fun x hx => by
        rw [HR.out x hx]
        unfold revF
        by_cases e3 : x < i ∨ n ≤ x + i
        · rw [if_pos e3]
        · rw [if_neg e3]; congr 1; omega)
      go_wp2_with fail
      go_end0
      exact ⟨rfl, dk, HS.out, HE.out⟩
end Go.Proofs.Ytebanmigaikhhaa
