/- rotateCmpFunc, the closure of seq.Sort, insertionSortCmpFunc over values. -/
import Derived.Test.YtebanmigaikhhaaSortA
namespace Go.Proofs.Ytebanmigaikhhaa
open Go.RowKit Go.Sort

set_option maxRecDepth 100000 in
set_option maxHeartbeats 3200000 in
theorem rotate_any (w0 W : World) (base g n c : Nat) (d : Array PV) (hg : g < w0.heap.size) (h : St w0 base g n c d W) (a m b : Nat) (hn : n ≤ 1099511627776) (ham : a < m) (hmb : m < b) (hb : b ≤ n) (cmp : Value) :
    Calls Try.prog 69 #[.slice (some ⟨g, 0, none⟩) n c, .int .i64 a, .int .i64 m, .int .i64 b, cmp] W fun e W' => e = .returned (.tuple #[]) ∧ ∃ d', St w0 base g n c d' W' ∧ Rot a m b d d' := by
  have HH := hid h
  have HSZ := hid h.sz; have HG := hid hg
  have w1 : IntKind.i64.wrap ((m : Int) - a) = (m : Int) - a := IntWalk.i64_in _ (by omega)
  have w2 : IntKind.i64.wrap ((b : Int) - m) = (b : Int) - m := IntWalk.i64_in _ (by omega)
  clear h hg
  go_enter Try.func69, Try.ntmps69
  go_wp2_with fail
  clear w1 w2
  go_loopw [10, 11] (fun iv jv wr => ∃ (i j : Nat) (dk : Array PV), 0 < i ∧ 0 < j ∧ a + i ≤ m ∧ m + j ≤ b ∧ iv = .int .i64 i ∧ jv = .int .i64 j ∧ Hid (St w0 base g n c dk wr) ∧ Hid (PermIn 0 d.size d dk) ∧ Hid (∀ x, rotF (fun q => dk[q]!) (m - i) m (m + j) x = rotF (fun q => d[q]!) a m b x)) (fun iv jv _ => (intOf iv).toNat + (intOf jv).toNat)
  case atStart => exact ⟨m - a, b - m, d, by omega, by omega, by omega, by omega, by congr 1; omega, by congr 1; omega, HH, hid (permIn_refl _ _ _), hid (fun x => by rw [show m - (m - a) = a by omega, show m + (b - m) = b by omega])⟩
  case round =>
    obtain ⟨i, j, dk, hi, hj, hai, hmj, rfl, rfl, HS, HP, HR⟩ := hrel
    have w1 : IntKind.i64.wrap ((m : Int) - i) = (m : Int) - i := IntWalk.i64_in _ (by omega)
    have e1 : (m : Int) - i = ((m - i : Nat) : Int) := by omega
    by_cases hij : i = j
    · subst hij
      have q1 : ((i : Int) != (i : Int)) = false := by simp
      have HSW := hid (swaprange_any w0 wr base g n c dk HG.out HS.out (m - i) m i hn (by omega) (by omega) cmp)
      go_wp2_with fail
      refine HSW.out.mono ?_
      rintro e w2 ⟨rfl, d2, hs2, hr2⟩
      have HS2 := hid hs2
      have HR2 := hid (show Rot a m b d d2 from ⟨by rw [hs2.sz, HSZ.out], fun x => by rw [rot_eq hr2 (by omega) x, HR.out x], permIn_trans _ _ _ _ _ HP.out (by
        have := hr2.2.2
        rwa [HS.out.sz, ← HSZ.out] at this)⟩)
      clear hs2 hr2
      go_wp2_with fail
      go_end0
      exact ⟨rfl, d2, HS2.out, HR2.out⟩
    have q1 : ((i : Int) != (j : Int)) = true := by simp; omega
    by_cases hgt : j < i
    · have q2 : (j : Int) < i := by omega
      have w3 : IntKind.i64.wrap ((i : Int) - j) = (i : Int) - j := IntWalk.i64_in _ (by omega)
      have HSW := hid (swaprange_any w0 wr base g n c dk HG.out HS.out (m - i) m j hn (by omega) (by omega) cmp)
      go_wp2_with fail
      refine HSW.out.mono ?_
      rintro e w2 ⟨rfl, d2, hs2, hr2⟩
      have HS2 := hid hs2
      have HP2 := hid (permIn_trans _ _ _ _ _ HP.out (show PermIn 0 d.size dk d2 by
        have := hr2.2.2
        rwa [HS.out.sz, ← HSZ.out] at this))
      have HR2 := hid (show ∀ x, rotF (fun q => d2[q]!) (m - (i - j)) m (m + j) x = rotF (fun q => d[q]!) a m b x from fun x => by rw [rot_gt hr2 hgt (by omega) x, HR.out x])
      clear hs2 hr2
      go_wp2_with fail
      go_roundw
      case rel => exact ⟨i - j, j, d2, by omega, hj, by omega, hmj, by congr 1; omega, rfl, HS2, HP2, HR2⟩
      case measure => simp [intOf]; omega
    · have q2 : ¬ (j : Int) < i := by omega
      have w3 : IntKind.i64.wrap ((j : Int) - i) = (j : Int) - i := IntWalk.i64_in _ (by omega)
      have w4 : IntKind.i64.wrap ((m : Int) + j) = (m : Int) + j := IntWalk.i64_in _ (by omega)
      have w5 : IntKind.i64.wrap ((m : Int) + j - i) = (m : Int) + j - i := IntWalk.i64_in _ (by omega)
      have e2 : (m : Int) + j - i = (m + j - i : Nat) := by omega
      have HSW := hid (swaprange_any w0 wr base g n c dk HG.out HS.out (m - i) (m + j - i) i hn (by omega) (by omega) cmp)
      go_wp2_with fail
      refine HSW.out.mono ?_
      rintro e w2 ⟨rfl, d2, hs2, hr2⟩
      have HS2 := hid hs2
      have HP2 := hid (permIn_trans _ _ _ _ _ HP.out (show PermIn 0 d.size dk d2 by
        have := hr2.2.2
        rwa [HS.out.sz, ← HSZ.out] at this))
      have HR2 := hid (show ∀ x, rotF (fun q => d2[q]!) (m - i) m (m + (j - i)) x = rotF (fun q => d[q]!) a m b x from fun x => by rw [rot_lt hr2 (by omega) (by omega) x, HR.out x])
      clear hs2 hr2
      go_wp2_with fail
      go_roundw
      case rel => exact ⟨i, j - i, d2, hi, by omega, hai, by omega, rfl, by congr 1; omega, HS2, HP2, HR2⟩
      case measure => simp [intOf]; omega

def cfP (p q : PV) : Int := if ltP p q then -1 else if ltP q p then 1 else 0
theorem cfP_lt (p q : PV) : decide (cfP p q < 0) = ltP p q := by
  unfold cfP
  cases h : ltP p q
  · simp only [Bool.false_eq_true, if_false]
    split <;> simp
  · simp
set_option maxRecDepth 100000 in
set_option maxHeartbeats 1600000 in
theorem sortcmp_any (w0 : World) (g : Nat) (p q : PV) (hp : Good w0 g p) (hq : Good w0 g q) (W : World) (hf : Fr (fun b => b = g) w0 W) :
    Calls Try.prog 56 #[.agg p.2, .agg q.2] W fun e w' => e = .returned (.int .i64 (cfP p q)) ∧ Fr (fun _ => False) W w' := by
  obtain ⟨p, u⟩ := p
  obtain ⟨q, v⟩ := q
  have h1 : VIn (fun b => b ≠ g) W p u := hp.1.frame hf fun k hk e => hk e
  have h2 : VIn (fun b => b ≠ g) W q v := hq.1.frame hf fun k hk e => hk e
  have HC1 := hid (fun (w2 : World) (hf2 : Fr (fun _ => False) W w2) => vless_any p q hp.2 hq.2 _ _ w2 _ _ (h1.frame hf2 fun _ _ => id) (h2.frame hf2 fun _ _ => id))
  have HC2 := hid (fun (w2 : World) (hf2 : Fr (fun _ => False) W w2) => vless_any q p hq.2 hp.2 _ _ w2 _ _ (h2.frame hf2 fun _ _ => id) (h1.frame hf2 fun _ _ => id))
  obtain ⟨v1, rfl, a1, c1, us1, rfl, -⟩ := h1.open
  obtain ⟨v2, rfl, a2, c2, us2, rfl, -⟩ := h2.open
  have hF := ((Fr.refl (fun _ => False) W).alloc (.cells #[.int .i64 p.k, .int .i64 p.n, .string p.s, .slice a1 p.l.length c1] 30)).alloc (.cells #[.int .i64 q.k, .int .i64 q.n, .string q.s, .slice a2 q.l.length c2] 30)
  have b1 := ((Fr.refl (fun _ => False) (W.alloc (.cells #[.int .i64 p.k, .int .i64 p.n, .string p.s, .slice a1 p.l.length c1] 30))).alloc (.cells #[.int .i64 q.k, .int .i64 q.n, .string q.s, .slice a2 q.l.length c2] 30)).heap (heap_alloc_new W (.cells #[.int .i64 p.k, .int .i64 p.n, .string p.s, .slice a1 p.l.length c1] 30)) not_false
  have b2 := heap_alloc_new (W.alloc (.cells #[.int .i64 p.k, .int .i64 p.n, .string p.s, .slice a1 p.l.length c1] 30)) (.cells #[.int .i64 q.k, .int .i64 q.n, .string q.s, .slice a2 q.l.length c2] 30)
  rw [World.size_alloc] at b2
  have HF := hid hF; have HB1 := hid b1; have HB2 := hid b2
  have hcf : cfP (p, #[.int .i64 p.k, .int .i64 p.n, .string p.s, .slice a1 p.l.length c1]) (q, #[.int .i64 q.k, .int .i64 q.n, .string q.s, .slice a2 q.l.length c2]) = if ltV p q then -1 else if ltV q p then 1 else 0 := rfl
  have HCF := hid hcf
  rw [hcf]
  have hd1 : decide (cmpV p q < 0) = ltV p q := rfl
  have hd2 : decide (cmpV q p < 0) = ltV q p := rfl
  rw [hd1] at HC1
  rw [hd2] at HC2
  clear h1 h2 hp hq hf hF b1 b2 hcf hd1 hd2 HCF
  generalize ltV p q = l1 at *
  generalize ltV q p = l2 at *
  go_enter Try.func56, Try.ntmps56
  go_upto_region 1 with fail
  generalize (W.alloc (.cells #[.int .i64 p.k, .int .i64 p.n, .string p.s, .slice a1 p.l.length c1] 30)).alloc (.cells #[.int .i64 q.k, .int .i64 q.n, .string q.s, .slice a2 q.l.length c2] 30) = W2 at *
  have d0 : W2.cell? ⟨W.heap.size, 0, none⟩ = some (.int .i64 p.k) := by rw [cell_of_row _ _ 0 _ _ _ HB1.out]; rfl
  have d1 : W2.cell? ⟨W.heap.size, 1, none⟩ = some (.int .i64 p.n) := by rw [cell_of_row _ _ 1 _ _ _ HB1.out]; rfl
  have d2 : W2.cell? ⟨W.heap.size, 2, none⟩ = some (.string p.s) := by rw [cell_of_row _ _ 2 _ _ _ HB1.out]; rfl
  have d3 : W2.cell? ⟨W.heap.size, 3, none⟩ = some (.slice a1 p.l.length c1) := by rw [cell_of_row _ _ 3 _ _ _ HB1.out]; rfl
  have g0 : W2.cell? ⟨W.heap.size + 1, 0, none⟩ = some (.int .i64 q.k) := by rw [cell_of_row _ _ 0 _ _ _ HB2.out]; rfl
  have g1 : W2.cell? ⟨W.heap.size + 1, 1, none⟩ = some (.int .i64 q.n) := by rw [cell_of_row _ _ 1 _ _ _ HB2.out]; rfl
  have g2 : W2.cell? ⟨W.heap.size + 1, 2, none⟩ = some (.string q.s) := by rw [cell_of_row _ _ 2 _ _ _ HB2.out]; rfl
  have g3 : W2.cell? ⟨W.heap.size + 1, 3, none⟩ = some (.slice a2 q.l.length c2) := by rw [cell_of_row _ _ 3 _ _ _ HB2.out]; rfl
  go_wp2_with fail
  refine (HC1.out W2 HF.out).mono ?_
  rintro e w3 ⟨rfl, hf3⟩
  have HF3 := hid (HF.out.trans' hf3)
  replace d0 := hf3.cell d0 not_false
  replace d1 := hf3.cell d1 not_false
  replace d2 := hf3.cell d2 not_false
  replace d3 := hf3.cell d3 not_false
  replace g0 := hf3.cell g0 not_false
  replace g1 := hf3.cell g1 not_false
  replace g2 := hf3.cell g2 not_false
  replace g3 := hf3.cell g3 not_false
  clear hf3
  cases l1
  · go_wp2_with fail
    refine (HC2.out w3 HF3.out).mono ?_
    rintro e w4 ⟨rfl, hf4⟩
    have HF4 := hid (HF3.out.trans' hf4)
    clear hf4
    cases l2
    · go_wp2_with fail
      go_ret
      exact ⟨rfl, HF4.out⟩
    · go_wp2_with fail
      go_ret
      exact ⟨rfl, HF4.out⟩
  · go_wp2_with fail
    go_ret
    exact ⟨rfl, HF3.out⟩

def cmpFn : Value := .func (.func 56) #[] #[]
set_option maxRecDepth 100000 in
set_option maxHeartbeats 3200000 in
theorem insertion_any (w0 W : World) (base g n c : Nat) (d : Array PV) (hg : g < w0.heap.size) (h : St w0 base g n c d W) (a b : Nat) (hn : n ≤ 1099511627776) (hab : a ≤ b) (hb : b ≤ n) :
    Calls Try.prog 66 #[.slice (some ⟨g, 0, none⟩) n c, .int .i64 a, .int .i64 b, .func (.func 56) #[] #[]] W fun e W' => e = .returned (.tuple #[]) ∧ ∃ d', St w0 base g n c d' W' ∧ PermIn a b d d' ∧ SortedIn ltP a b d' := by
  have HH := hid h
  have HSZ := hid h.sz; have HG := hid hg
  have w1 : IntKind.i64.wrap ((a : Int) + 1) = (a : Int) + 1 := IntWalk.i64_in _ (by omega)
  clear h hg
  go_enter Try.func66, Try.ntmps66
  go_wp2_with fail
  clear w1
  go_loopw [8] (fun iv wr => ∃ (i : Nat) (dk : Array PV), a < i ∧ i ≤ b + 1 ∧ iv = .int .i64 i ∧ Hid (St w0 base g n c dk wr) ∧ Hid (PermIn a b d dk) ∧ Hid (SortedIn ltP a (min i b) dk)) (fun iv _ => b + 1 - (intOf iv).toNat)
  case atStart => exact ⟨a + 1, d, by omega, by omega, by go_num, HH, hid (permIn_refl _ _ _), hid (fun i j h1 h2 h3 => by omega)⟩
  case round =>
    obtain ⟨i, dk, hai, hib, rfl, HS, HP, HO⟩ := hrel
    by_cases hlt : i < b
    · have hlt' : (i : Int) < b := by omega
      have hmin : min i b = i := by omega
      rw [hmin] at HO
      generalize wr = wo at *
      go_wp2_with fail
      go_loopw [9] (fun jv wr => ∃ (j : Nat) (dj : Array PV), a ≤ j ∧ j ≤ i ∧ jv = .int .i64 j ∧ Hid (St w0 base g n c dj wr) ∧ Hid (PermIn a b d dj) ∧ Hid (Ins ltP a j i dj)) (fun jv _ => (intOf jv).toNat)
      case atStart => exact ⟨i, dk, by omega, Nat.le_refl _, rfl, HS, HP, hid ⟨fun p q hap hpq hqi _ hq => HO.out p q hap hpq (by omega), fun q h1 h2 => by omega⟩⟩
      case round =>
        clear HS HP HO
        obtain ⟨j, dk, haj, hji, rfl, HS, HP, HI⟩ := hrel
        by_cases hja : a < j
        · obtain ⟨jp, rfl⟩ : ∃ jp, j = jp + 1 := ⟨j - 1, by omega⟩
          have hja' : (a : Int) < (jp : Int) + 1 := by omega
          have i1 : jp + 1 < n := by omega
          have i2 : jp < n := by omega
          have j1 : (jp : Int) + 1 < n := by omega
          have j2 : (jp : Int) < n := by omega
          have p0 : (0 : Int) ≤ (jp : Int) + 1 := by omega
          have e0 : ((jp : Int) + 1).toNat = jp + 1 := by omega
          have hwp : IntKind.i64.wrap (jp : Int) = (jp : Int) := IntWalk.i64_in _ (by omega)
          have hb := cfP_lt dk[jp + 1]! dk[jp]!
          obtain ⟨lb, hlb⟩ : ∃ lb, ltP dk[jp + 1]! dk[jp]! = lb := ⟨_, rfl⟩
          rw [hlb] at hb
          have HLB := hid hlb
          clear hlb
          obtain ⟨ax, cx, ex, x0, x1, x2, x3⟩ := HS.out.cells i1
          obtain ⟨ay, cy, ey, y0, y1, y2, y3⟩ := HS.out.cells i2
          have HCC := hid (sortcmp_any w0 g dk[jp + 1]! dk[jp]! (HS.out.good _ i1) (HS.out.good _ i2))
          rw [ex, ey] at HCC
          have HFR := hid HS.out.fr
          have Y0 := hid y0; have Y1 := hid y1; have Y2 := hid y2; have Y3 := hid y3; have X0 := hid x0; have X1 := hid x1; have X2 := hid x2; have X3 := hid x3
          clear ex ey x0 x1 x2 x3 y0 y1 y2 y3
          generalize cfP dk[jp + 1]! dk[jp]! = cv at *
          generalize (dk[jp + 1]!).1.k = xk at *
          generalize (dk[jp + 1]!).1.n = xn at *
          generalize (dk[jp + 1]!).1.s = xs at *
          generalize (dk[jp + 1]!).1.l.length = xl at *
          generalize (dk[jp]!).1.k = yk at *
          generalize (dk[jp]!).1.n = yn at *
          generalize (dk[jp]!).1.s = ys at *
          generalize (dk[jp]!).1.l.length = yl at *
          go_upto_region 4 with fail
          refine wp_region_cls (fun w' => Fr (fun _ => False) wr w') (by kernel_rfl) (by kernel_rfl) (Fr.refl _ _).drew ?_
          iterate 8 (refine q_take ?_ (by kernel_rfl) ?_ ?_; rotate_left; (· intro w' hS; go_simp; try with_reducible rfl); (try simp only [Act.put, List.setIfInBounds_toArray, List.set_cons_zero, List.set_cons_succ]))
          (refine q_take ?_ (by kernel_rfl) ?_ ?_; rotate_left; (· intro w' hS; have d0 := hS.cell X0.out not_false; have d1 := hS.cell X1.out not_false; have d2 := hS.cell X2.out not_false; have d3 := hS.cell X3.out not_false; go_simp; try with_reducible rfl); try simp only [Act.put, List.setIfInBounds_toArray, List.set_cons_zero, List.set_cons_succ])
          iterate 4 (refine q_take ?_ (by kernel_rfl) ?_ ?_; rotate_left; (· intro w' hS; go_simp; try with_reducible rfl); (try simp only [Act.put, List.setIfInBounds_toArray, List.set_cons_zero, List.set_cons_succ]))
          (refine q_take ?_ (by kernel_rfl) ?_ ?_; rotate_left; (· intro w' hS; have d0 := hS.cell Y0.out not_false; have d1 := hS.cell Y1.out not_false; have d2 := hS.cell Y2.out not_false; have d3 := hS.cell Y3.out not_false; go_simp; try with_reducible rfl); try simp only [Act.put, List.setIfInBounds_toArray, List.set_cons_zero, List.set_cons_succ])
          (refine q_call ?_ ?_ (by kernel_rfl) ?_ ?_; rotate_left 2; (· intro w' hS; go_simp; first | with_reducible rfl | (constructor <;> with_reducible rfl)); (refine ⟨_, fun w' hw => (HCC.out w' (HFR.out.trans' (hw.mono fun _ _ h => h.elim))).mono fun _ _ h => ⟨h.1, hw.trans' h.2⟩, ?_⟩); (try simp only [Act.put, List.setIfInBounds_toArray, List.set_cons_zero, List.set_cons_succ]))
          iterate 2 (refine q_take ?_ (by kernel_rfl) ?_ ?_; rotate_left; (· intro w' hS; go_simp; try with_reducible rfl); (try simp only [Act.put, List.setIfInBounds_toArray, List.set_cons_zero, List.set_cons_succ]))
          refine q_end (fun wy hw => ?_)
          have HSy := hid (HS.out.frame hw)
          clear hw HCC HFR X0 X1 X2 X3 Y0 Y1 Y2 Y3
          clear hb
          cases lb
          · have HO2 := hid (HI.out.stop swo_ltP (.inr HLB.out))
            go_wp2_with fail
            go_roundw
            case rel => exact ⟨i + 1, dk, by omega, by omega, by go_num, HSy, HP, hid (by rw [show min (i + 1) b = i + 1 by omega]; exact HO2.out)⟩
            case measure => simp [intOf]; omega
          · clear HS
            rename Hid (St w0 base g n c dk wy) => HS
            generalize wy = wr at *
            have HI2 := hid (HI.out.step HLB.out (by omega) (by rw [HS.out.sz]; omega))
            have HP2 := hid (permIn_trans _ _ _ _ _ HP.out (swp_permIn dk a b (jp + 1) jp (by omega) (by omega) (by omega) (by omega) (by rw [HS.out.sz]; omega)))
            clear HLB
            obtain ⟨ax, cx, ex, x0, x1, x2, x3⟩ := HS.out.cells i1
            obtain ⟨ay, cy, ey, y0, y1, y2, y3⟩ := HS.out.cells i2
            obtain ⟨fz1, fz2, hc2, hst⟩ := (HS.out.frame (Fr.refl (fun _ => False) wr).drew).swap i1 i2 HG.out ex ey
            obtain ⟨z0, hz0⟩ := hc2 ((jp) * 4) (by omega)
            obtain ⟨z1, hz1⟩ := hc2 ((jp) * 4 + 1) (by omega)
            obtain ⟨z2, hz2⟩ := hc2 ((jp) * 4 + 2) (by omega)
            obtain ⟨z3, hz3⟩ := hc2 ((jp) * 4 + 3) (by omega)
            have HST := hid hst; have FZ1 := hid fz1; have FZ2 := hid fz2; have HZ0 := hid hz0; have HZ1 := hid hz1; have HZ2 := hid hz2; have HZ3 := hid hz3
            have Y0 := hid y0; have Y1 := hid y1; have Y2 := hid y2; have Y3 := hid y3; have X0 := hid x0; have X1 := hid x1; have X2 := hid x2; have X3 := hid x3
            clear hst hc2 ex ey fz1 fz2 hz0 hz1 hz2 hz3 x0 x1 x2 x3 y0 y1 y2 y3
            generalize (dk[jp + 1]!).1.k = xk at *
            generalize (dk[jp + 1]!).1.n = xn at *
            generalize (dk[jp + 1]!).1.s = xs at *
            generalize (dk[jp + 1]!).1.l.length = xl at *
            generalize (dk[jp]!).1.k = yk at *
            generalize (dk[jp]!).1.n = yn at *
            generalize (dk[jp]!).1.s = ys at *
            generalize (dk[jp]!).1.l.length = yl at *
            go_upto_region 6 with fail
            refine wp_region_g [(0, 2), (1, 2), (2, 2), (3, 2), (4, 2), (5, 2), (6, 2), (7, 2), (8, 2), (9, 0), (10, 2), (11, 2), (12, 2), (13, 0), (14, 1), (15, 1), (16, 1), (17, 1)] (fun w' => Fr (fun _ => False) wr w') (by kernel_rfl) (by kernel_rfl) (by kernel_rfl) rfl (fun _ _ d _ _ h => by cases d <;> exact h) (Fr.refl _ _).drew ?_
            have Fd := hid ((Fr.refl (fun _ => False) wr).drew)
            generalize wr.drew = wd at *
            iterate 9 (refine wpG_free ?_ rfl (by kernel_rfl) ?_ ?_; rotate_left; (· intro w'; go_simp; try with_reducible rfl); (try simp only [Act.put, List.setIfInBounds_toArray, List.set_cons_zero, List.set_cons_succ]))
            (refine wpG_take ?_ rfl (by kernel_rfl) ?_ ?_; rotate_left; (· intro w' hS; have d0 := hS.cell Y0.out not_false; have d1 := hS.cell Y1.out not_false; have d2 := hS.cell Y2.out not_false; have d3 := hS.cell Y3.out not_false; go_simp; try with_reducible rfl); (try simp only [Act.put, List.setIfInBounds_toArray, List.set_cons_zero, List.set_cons_succ]))
            iterate 3 (refine wpG_free ?_ rfl (by kernel_rfl) ?_ ?_; rotate_left; (· intro w'; go_simp; try with_reducible rfl); (try simp only [Act.put, List.setIfInBounds_toArray, List.set_cons_zero, List.set_cons_succ]))
            (refine wpG_take ?_ rfl (by kernel_rfl) ?_ ?_; rotate_left; (· intro w' hS; have d0 := hS.cell X0.out not_false; have d1 := hS.cell X1.out not_false; have d2 := hS.cell X2.out not_false; have d3 := hS.cell X3.out not_false; go_simp; try with_reducible rfl); (try simp only [Act.put, List.setIfInBounds_toArray, List.set_cons_zero, List.set_cons_succ]))
            (refine wpG_run rfl (by kernel_rfl) (fun K hK => ?_); go_simp; refine hK _ _ (fun _ => Fd.out) ?_; clear hK K; (try simp only [Act.put, List.setIfInBounds_toArray, List.set_cons_zero, List.set_cons_succ]))
            have x0 := Fd.out.cell X0.out not_false
            have x1 := Fd.out.cell X1.out not_false
            have x2 := Fd.out.cell X2.out not_false
            have x3 := Fd.out.cell X3.out not_false
            have f1 := FZ1.out
            (refine wpG_run rfl (by kernel_rfl) (fun K hK => ?_); go_simp; refine hK _ _ (last_skip (by kernel_rfl)) ?_; clear hK K; (try simp only [Act.put, List.setIfInBounds_toArray, List.set_cons_zero, List.set_cons_succ]))
            clear x0 x1 x2 x3 f1
            have f2 := FZ2.out
            have z0 := HZ0.out
            have z1 := HZ1.out
            have z2 := HZ2.out
            have z3 := HZ3.out
            generalize (((wd.setCell ⟨g, (jp + 1) * 4, none⟩ (.int .i64 yk)).setCell ⟨g, (jp + 1) * 4 + 1, none⟩ (.int .i64 yn)).setCell ⟨g, (jp + 1) * 4 + 2, none⟩ (.string ys)).setCell ⟨g, (jp + 1) * 4 + 3, none⟩ (.slice ay yl cy) = wz at *
            (refine wpG_run rfl (by kernel_rfl) (fun K hK => ?_); go_simp; refine hK _ _ (last_skip (by kernel_rfl)) ?_; clear hK K; (try simp only [Act.put, List.setIfInBounds_toArray, List.set_cons_zero, List.set_cons_succ]))
            (refine wpG_run rfl (by kernel_rfl) (fun K hK => ?_); go_simp; refine hK _ _ (last_skip (by kernel_rfl)) ?_; clear hK K; (try simp only [Act.put, List.setIfInBounds_toArray, List.set_cons_zero, List.set_cons_succ]))
            refine wpG_end ?_
            generalize (((wz.setCell ⟨g, (jp) * 4, none⟩ (.int .i64 xk)).setCell ⟨g, (jp) * 4 + 1, none⟩ (.int .i64 xn)).setCell ⟨g, (jp) * 4 + 2, none⟩ (.string xs)).setCell ⟨g, (jp) * 4 + 3, none⟩ (.slice ax xl cx) = wy at *
            clear f2 z0 z1 z2 z3
            go_wp2_with fail
            go_roundw
            case rel => exact ⟨jp, swp dk (jp + 1) jp, by omega, by omega, by first | rfl | go_num | (congr 1; omega), HST, HP2, HI2⟩
            case measure => simp [intOf] <;> omega
        · obtain rfl : j = a := by omega
          have HO2 := hid (HI.out.stop swo_ltP (.inl (Nat.le_refl _)))
          have hd : decide ((j : Int) > (j : Int)) = false := decide_eq_false (by omega)
          have hd' : ¬ (j : Int) < (j : Int) := by omega
          have HS3 := hid (fun q : Nat => HS.out.frame ((Fr.refl (fun _ => False) wr).drewN q))
          go_upto_region 4 with fail
          go_quiet (fail)
          go_wp2_with fail
          go_roundw
          case rel => exact ⟨i + 1, dk, by omega, by omega, by go_num, HS3.out _, HP, hid (by rw [show min (i + 1) b = i + 1 by omega]; exact HO2.out)⟩
          case measure => simp [intOf]; omega
    · have hlt' : ¬ (i : Int) < b := by omega
      have hmin : min i b = b := by omega
      rw [hmin] at HO
      go_wp2_with fail
      go_end0
      exact ⟨rfl, dk, HS.out, HP.out, HO.out⟩
end Go.Proofs.Ytebanmigaikhhaa
