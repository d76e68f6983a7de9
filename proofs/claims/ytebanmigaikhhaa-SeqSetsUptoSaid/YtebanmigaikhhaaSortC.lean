/- symMergeCmpFunc over values. -/
import Derived.Test.YtebanmigaikhhaaSortB
namespace Go.Proofs.Ytebanmigaikhhaa
open Go.RowKit Go.Sort

theorem permIn_shrink {α : Type} [Inhabited α] {d e : Array α} {a b : Nat} (hab : a ≤ b) (hb : b ≤ d.size) (h : PermIn 0 d.size d e) (ho : ∀ x, x < a ∨ b ≤ x → e[x]! = d[x]!) : PermIn a b d e := by
  obtain ⟨h1, -, h3⟩ := h
  refine ⟨h1, ho, ?_⟩
  rw [extract_toList e 0 d.size (by omega), extract_toList d 0 d.size (Nat.le_refl _)] at h3
  rw [extract_toList e a b (by omega), extract_toList d a b hb]
  have hr : List.range' 0 (d.size - 0) = List.range' 0 a ++ (List.range' a (b - a) ++ List.range' b (d.size - b)) := by
    have e1 := List.range'_append_1 (s := a) (m := b - a) (n := d.size - b)
    rw [show a + (b - a) = b by omega] at e1
    rw [e1]
    have e2 := List.range'_append_1 (s := 0) (m := a) (n := b - a + (d.size - b))
    rw [show 0 + a = a by omega] at e2
    rw [e2]
    congr 1
    omega
  rw [hr] at h3
  simp only [List.map_append] at h3
  have eA : (List.range' 0 a).map (fun i => e[i]!) = (List.range' 0 a).map (fun i => d[i]!) := List.map_congr_left fun x hx => ho x (.inl (by have := List.mem_range'_1.1 hx; omega))
  have eB : (List.range' b (d.size - b)).map (fun i => e[i]!) = (List.range' b (d.size - b)).map (fun i => d[i]!) := List.map_congr_left fun x hx => ho x (.inr (by have := List.mem_range'_1.1 hx; omega))
  rw [eA, eB] at h3
  exact (List.perm_append_right_iff _).1 ((List.perm_append_left_iff _).1 h3)

set_option maxRecDepth 100000 in
set_option maxHeartbeats 3200000 in
theorem sym_one (w0 : World) (base g n c : Nat) (hg : g < w0.heap.size) (hn : n ≤ 1099511627776) (a b : Nat) (d : Array PV) (W : World) (hab : a + 1 < b) (hb : b ≤ n) (h : St w0 base g n c d W) (h2 : SortedIn ltP (a + 1) b d) :
    Calls Try.prog 67 #[.slice (some ⟨g, 0, none⟩) n c, .int .i64 a, .int .i64 (a + 1), .int .i64 b, .func (.func 56) #[] #[]] W fun e W' => e = .returned (.tuple #[]) ∧ ∃ d', St w0 base g n c d' W' ∧ PermIn a b d d' ∧ SortedIn ltP a b d' := by
  have HH := hid h
  have HSZ := hid h.sz; have HG := hid hg; have H2 := hid h2
  clear h hg h2
  go_enter Try.func67, Try.ntmps67
  go_wp2_with fail
  go_loopw [10, 11] (fun iv jv wr => ∃ (i j : Nat), a + 1 ≤ i ∧ i ≤ j ∧ j ≤ b ∧ iv = .int .i64 i ∧ jv = .int .i64 j ∧ Hid (St w0 base g n c d wr) ∧ Hid (∀ x, a < x → x < i → ltP d[x]! d[a]! = true) ∧ Hid (∀ x, j ≤ x → x < b → ltP d[x]! d[a]! = false)) (fun iv jv _ => (intOf jv).toNat - (intOf iv).toNat)
  case atStart => exact ⟨a + 1, b, Nat.le_refl _, by omega, Nat.le_refl _, by first | rfl | go_num, rfl, HH, hid (fun x h1 h2 => by omega), hid (fun x h1 h2 => by omega)⟩
  case round =>
    obtain ⟨i, j, hi, hij, hj, rfl, rfl, HS, HL, HR⟩ := hrel
    by_cases hlt : i < j
    · have hlt' : (i : Int) < j := by omega
      obtain ⟨q, hq⟩ : ∃ q : Nat, (i + j) / 2 = q := ⟨_, rfl⟩
      have hqI : ((i : Int) + j) / 2 = (q : Int) := by omega
      have i1 : q < n := by omega
      have i2 : a < n := by omega
      have j1 : (q : Int) < n := by omega
      have j2 : (a : Int) < n := by omega
      have hqi : i ≤ q := by omega
      have hqj : q < j := by omega
      clear hq
      have hb' := cfP_lt d[q]! d[a]!
      obtain ⟨lb, hlb⟩ : ∃ lb, ltP d[q]! d[a]! = lb := ⟨_, rfl⟩
      rw [hlb] at hb'
      have HLB := hid hlb
      clear hlb
      obtain ⟨ax, cx, ex, x0, x1, x2, x3⟩ := HS.out.cells i1
      obtain ⟨ay, cy, ey, y0, y1, y2, y3⟩ := HS.out.cells i2
      have HCC := hid (sortcmp_any w0 g d[q]! d[a]! (HS.out.good _ i1) (HS.out.good _ i2))
      rw [ex, ey] at HCC
      have HFR := hid HS.out.fr
      have Y0 := hid y0; have Y1 := hid y1; have Y2 := hid y2; have Y3 := hid y3; have X0 := hid x0; have X1 := hid x1; have X2 := hid x2; have X3 := hid x3
      clear ex ey x0 x1 x2 x3 y0 y1 y2 y3
      generalize cfP d[q]! d[a]! = cv at *
      generalize (d[q]!).1.k = xk at *
      generalize (d[q]!).1.n = xn at *
      generalize (d[q]!).1.s = xs at *
      generalize (d[q]!).1.l.length = xl at *
      generalize (d[a]!).1.k = yk at *
      generalize (d[a]!).1.n = yn at *
      generalize (d[a]!).1.s = ys at *
      generalize (d[a]!).1.l.length = yl at *
      go_upto_region 5 with fail
      refine wp_region_cls (fun w' => Fr (fun _ => False) wr w') (by kernel_rfl) (by kernel_rfl) (Fr.refl _ _).drew ?_
      iterate 4 (refine q_take ?_ (by kernel_rfl) ?_ ?_; rotate_left; (· intro w' hS; go_simp; try with_reducible rfl); (try simp only [Act.put, List.setIfInBounds_toArray, List.set_cons_zero, List.set_cons_succ]))
      (refine q_take ?_ (by kernel_rfl) ?_ ?_; rotate_left; (· intro w' hS; have d0 := hS.cell X0.out not_false; have d1 := hS.cell X1.out not_false; have d2 := hS.cell X2.out not_false; have d3 := hS.cell X3.out not_false; go_simp; try with_reducible rfl); try simp only [Act.put, List.setIfInBounds_toArray, List.set_cons_zero, List.set_cons_succ])
      iterate 3 (refine q_take ?_ (by kernel_rfl) ?_ ?_; rotate_left; (· intro w' hS; go_simp; try with_reducible rfl); (try simp only [Act.put, List.setIfInBounds_toArray, List.set_cons_zero, List.set_cons_succ]))
      (refine q_take ?_ (by kernel_rfl) ?_ ?_; rotate_left; (· intro w' hS; have d0 := hS.cell Y0.out not_false; have d1 := hS.cell Y1.out not_false; have d2 := hS.cell Y2.out not_false; have d3 := hS.cell Y3.out not_false; go_simp; try with_reducible rfl); try simp only [Act.put, List.setIfInBounds_toArray, List.set_cons_zero, List.set_cons_succ])
      (refine q_call ?_ ?_ (by kernel_rfl) ?_ ?_; rotate_left 2; (· intro w' hS; go_simp; first | with_reducible rfl | (constructor <;> with_reducible rfl)); (refine ⟨_, fun w' hw => (HCC.out w' (HFR.out.trans' (hw.mono fun _ _ h => h.elim))).mono fun _ _ h => ⟨h.1, hw.trans' h.2⟩, ?_⟩); (try simp only [Act.put, List.setIfInBounds_toArray, List.set_cons_zero, List.set_cons_succ]))
      iterate 1 (refine q_take ?_ (by kernel_rfl) ?_ ?_; rotate_left; (· intro w' hS; go_simp; try with_reducible rfl); (try simp only [Act.put, List.setIfInBounds_toArray, List.set_cons_zero, List.set_cons_succ]))
      refine q_end (fun wy hw => ?_)
      have HSy := hid (HS.out.frame hw)
      clear hw HCC HFR X0 X1 X2 X3 Y0 Y1 Y2 Y3
      clear hb'
      cases lb
      · have HR2 := hid (show ∀ x, q ≤ x → x < b → ltP d[x]! d[a]! = false from fun x h1 h3 => by
          by_cases e : x = q
          · rw [e]; exact HLB.out
          · exact swo_ltP.ntrans _ _ _ (H2.out q x (by omega) (by omega) h3) HLB.out)
        go_wp2_with fail
        go_roundw
        case rel => exact ⟨i, q, hi, by omega, by omega, rfl, rfl, HSy, HL, HR2⟩
        case measure => simp [intOf]; omega
      · have HL2 := hid (show ∀ x, a < x → x < q + 1 → ltP d[x]! d[a]! = true from fun x h1 h3 => by
          by_cases e : x = q
          · rw [e]; exact HLB.out
          · cases hc : ltP d[x]! d[a]! with
            | true => rfl
            | false =>
              have := swo_ltP.ntrans _ _ _ (H2.out x q (by omega) (by omega) (by omega)) hc
              have h4 := HLB.out
              rw [this] at h4
              cases h4)
        go_wp2_with fail
        go_roundw
        case rel => exact ⟨q + 1, j, by omega, by omega, by omega, by go_num, rfl, HSy, HL2, HR⟩
        case measure => simp [intOf]; omega
    · obtain rfl : i = j := by omega
      have hlt' : ¬ (i : Int) < (i : Int) := by omega
      have hw : IntKind.i64.wrap ((i : Int) - 1) = (i : Int) - 1 := IntWalk.i64_in _ (by omega)
      generalize wr = wo at *
      go_wp2_with fail
      go_loopw [13] (fun kv wr => ∃ (k : Nat) (dk : Array PV), a ≤ k ∧ k + 1 ≤ i ∧ kv = .int .i64 k ∧ Hid (St w0 base g n c dk wr) ∧ Hid (Up a k d dk)) (fun kv _ => i - (intOf kv).toNat)
      case atStart => exact ⟨a, d, Nat.le_refl _, by omega, rfl, HS, hid (Up.start a d)⟩
      case round =>
        clear HS
        obtain ⟨k, dk, hak, hki, rfl, HS, HU⟩ := hrel
        by_cases hlt : k + 1 < i
        · have hlt' : (k : Int) < (i : Int) - 1 := by omega
          have i1 : k < n := by omega
          have i2 : k + 1 < n := by omega
          have j1 : (k : Int) < n := by omega
          have j2 : (k : Int) + 1 < n := by omega
          have t2 : ((k : Int) + 1).toNat = k + 1 := by omega
          have p2 : (0 : Int) ≤ (k : Int) + 1 := by omega
          have w2 : IntKind.i64.wrap ((k : Int) + 1) = (k : Int) + 1 := IntWalk.i64_in _ (by omega)
          have HU2 := hid (HU.out.step hak (by rw [HSZ.out]; exact i2))
          obtain ⟨ax, cx, ex, x0, x1, x2, x3⟩ := HS.out.cells i1
          obtain ⟨ay, cy, ey, y0, y1, y2, y3⟩ := HS.out.cells i2
          obtain ⟨fz1, fz2, hc2, hst⟩ := (HS.out.frame (Fr.refl (fun _ => False) wr).drew).swap i1 i2 HG.out ex ey
          obtain ⟨z0, hz0⟩ := hc2 ((k + 1) * 4) (by omega)
          obtain ⟨z1, hz1⟩ := hc2 ((k + 1) * 4 + 1) (by omega)
          obtain ⟨z2, hz2⟩ := hc2 ((k + 1) * 4 + 2) (by omega)
          obtain ⟨z3, hz3⟩ := hc2 ((k + 1) * 4 + 3) (by omega)
          have HST := hid hst; have FZ1 := hid fz1; have FZ2 := hid fz2; have HZ0 := hid hz0; have HZ1 := hid hz1; have HZ2 := hid hz2; have HZ3 := hid hz3
          have Y0 := hid y0; have Y1 := hid y1; have Y2 := hid y2; have Y3 := hid y3; have X0 := hid x0; have X1 := hid x1; have X2 := hid x2; have X3 := hid x3
          clear hst hc2 ex ey fz1 fz2 hz0 hz1 hz2 hz3 x0 x1 x2 x3 y0 y1 y2 y3
          generalize (dk[k]!).1.k = xk at *
          generalize (dk[k]!).1.n = xn at *
          generalize (dk[k]!).1.s = xs at *
          generalize (dk[k]!).1.l.length = xl at *
          generalize (dk[k + 1]!).1.k = yk at *
          generalize (dk[k + 1]!).1.n = yn at *
          generalize (dk[k + 1]!).1.s = ys at *
          generalize (dk[k + 1]!).1.l.length = yl at *
          go_upto_region 11 with fail
          refine wp_region_g [(0, 2), (1, 2), (2, 2), (3, 2), (4, 2), (5, 2), (6, 2), (7, 2), (8, 2), (9, 0), (10, 2), (11, 2), (12, 2), (13, 0), (14, 1), (15, 1), (16, 1), (17, 1)] (fun w' => Fr (fun _ => False) wr w') (by kernel_rfl) (by kernel_rfl) (by kernel_rfl) rfl (fun _ _ d _ _ h => by cases d <;> exact h) (Fr.refl _ _).drew ?_
          have Fd := hid ((Fr.refl (fun _ => False) wr).drew)
          generalize wr.drew = wd at *
          iterate 9 (refine wpG_free ?_ rfl (by kernel_rfl) ?_ ?_; rotate_left; (· intro w'; go_simp; try with_reducible rfl); (try simp only [Act.put, List.setIfInBounds_toArray, List.set_cons_zero, List.set_cons_succ]))
          (refine wpG_take ?_ rfl (by kernel_rfl) ?_ ?_; rotate_left; (· intro w' hS; have d0 := hS.cell Y0.out not_false; have d1 := hS.cell Y1.out not_false; have d2 := hS.cell Y2.out not_false; have d3 := hS.cell Y3.out not_false; go_simp; try with_reducible rfl); (try simp only [Act.put, List.setIfInBounds_toArray, List.set_cons_zero, List.set_cons_succ]))
          iterate 3 (refine wpG_free ?_ rfl (by kernel_rfl) ?_ ?_; rotate_left; (· intro w'; go_simp; try with_reducible rfl); (try simp only [Act.put, List.setIfInBounds_toArray, List.set_cons_zero, List.set_cons_succ]))
          (refine wpG_take ?_ rfl (by kernel_rfl) ?_ ?_; rotate_left; (· intro w' hS; have d0 := hS.cell X0.out not_false; have d1 := hS.cell X1.out not_false; have d2 := hS.cell X2.out not_false; have d3 := hS.cell X3.out not_false; go_simp; try with_reducible rfl); (try simp only [Act.put, List.setIfInBounds_toArray, List.set_cons_zero, List.set_cons_succ]))
          (refine wpG_run rfl (by kernel_rfl) (fun K hK => ?_); go_simp; refine hK _ _ (fun _ => Fd.out) ?_; clear hK K; (try simp only [Act.put, List.setIfInBounds_toArray, List.set_cons_zero, List.set_cons_succ]))
          have x0 := Fd.out.cell X0.out not_false
          have x1 := Fd.out.cell X1.out not_false
          have x2 := Fd.out.cell X2.out not_false
          have x3 := Fd.out.cell X3.out not_false
          have f1 := FZ1.out
          (refine wpG_run rfl (by kernel_rfl) (fun K hK => ?_); go_simp; refine hK _ _ (last_skip (by kernel_rfl)) ?_; clear hK K; (try simp only [Act.put, List.setIfInBounds_toArray, List.set_cons_zero, List.set_cons_succ]))
          clear x0 x1 x2 x3 f1
          have f2 := FZ2.out
          have z0 := HZ0.out
          have z1 := HZ1.out
          have z2 := HZ2.out
          have z3 := HZ3.out
          generalize (((wd.setCell ⟨g, (k) * 4, none⟩ (.int .i64 yk)).setCell ⟨g, (k) * 4 + 1, none⟩ (.int .i64 yn)).setCell ⟨g, (k) * 4 + 2, none⟩ (.string ys)).setCell ⟨g, (k) * 4 + 3, none⟩ (.slice ay yl cy) = wz at *
          (refine wpG_run rfl (by kernel_rfl) (fun K hK => ?_); go_simp; refine hK _ _ (last_skip (by kernel_rfl)) ?_; clear hK K; (try simp only [Act.put, List.setIfInBounds_toArray, List.set_cons_zero, List.set_cons_succ]))
          (refine wpG_run rfl (by kernel_rfl) (fun K hK => ?_); go_simp; refine hK _ _ (last_skip (by kernel_rfl)) ?_; clear hK K; (try simp only [Act.put, List.setIfInBounds_toArray, List.set_cons_zero, List.set_cons_succ]))
          refine wpG_end ?_
          generalize (((wz.setCell ⟨g, (k + 1) * 4, none⟩ (.int .i64 xk)).setCell ⟨g, (k + 1) * 4 + 1, none⟩ (.int .i64 xn)).setCell ⟨g, (k + 1) * 4 + 2, none⟩ (.string xs)).setCell ⟨g, (k + 1) * 4 + 3, none⟩ (.slice ax xl cx) = wy at *
          clear f2 z0 z1 z2 z3
          go_wp2_with fail
          go_roundw
          case rel => exact ⟨k + 1, swp dk k (k + 1), by omega, by omega, by go_num, HST, HU2⟩
          case measure => simp [intOf]; omega
        · have hk : k + 1 = i := by omega
          have hlt' : ¬ (k : Int) < (i : Int) - 1 := by omega
          have HF := hid (show PermIn a b d dk ∧ SortedIn ltP a b dk from
            ⟨permIn_shrink (by omega) (by rw [HSZ.out]; exact hb) HU.out.2.2 fun x hx => by rw [HU.out.2.1 x, if_neg (by omega), if_neg (by omega)],
             HU.out.sorted swo_ltP H2.out hak (by omega) (fun x h1 h2 => HL.out x h1 (by omega)) (fun x h1 h2 => HR.out x (by omega) h2)⟩)
          go_wp2_with fail
          refine bodyPost_ret (results_none rfl _ _ _) rfl ?_
          exact ⟨rfl, dk, HS.out, HF.out⟩

set_option maxRecDepth 100000 in
set_option maxHeartbeats 3200000 in
theorem sym_last (w0 : World) (base g n c : Nat) (hg : g < w0.heap.size) (hn : n ≤ 1099511627776) (a m : Nat) (d : Array PV) (W : World) (ham : a + 1 < m) (hb : m + 1 ≤ n) (h : St w0 base g n c d W) (h1 : SortedIn ltP a m d) :
    Calls Try.prog 67 #[.slice (some ⟨g, 0, none⟩) n c, .int .i64 a, .int .i64 m, .int .i64 (m + 1), .func (.func 56) #[] #[]] W fun e W' => e = .returned (.tuple #[]) ∧ ∃ d', St w0 base g n c d' W' ∧ PermIn a (m + 1) d d' ∧ SortedIn ltP a (m + 1) d' := by
  have HH := hid h
  have HSZ := hid h.sz; have HG := hid hg; have H1 := hid h1
  have w0' : IntKind.i64.wrap ((m : Int) - a) = (m : Int) - a := IntWalk.i64_in _ (by omega)
  have q0 : ((m : Int) - a == 1) = false := by rw [beq_eq_false_iff_ne]; omega
  clear h hg h1
  go_enter Try.func67, Try.ntmps67
  go_wp2_with fail
  clear w0' q0
  go_loopw [14, 15] (fun iv jv wr => ∃ (i j : Nat), a ≤ i ∧ i ≤ j ∧ j ≤ m ∧ iv = .int .i64 i ∧ jv = .int .i64 j ∧ Hid (St w0 base g n c d wr) ∧ Hid (∀ x, a ≤ x → x < i → ltP d[m]! d[x]! = false) ∧ Hid (∀ x, j ≤ x → x < m → ltP d[m]! d[x]! = true)) (fun iv jv _ => (intOf jv).toNat - (intOf iv).toNat)
  case atStart => exact ⟨a, m, Nat.le_refl _, by omega, Nat.le_refl _, rfl, rfl, HH, hid (fun x h1 h2 => by omega), hid (fun x h1 h2 => by omega)⟩
  case round =>
    obtain ⟨i, j, hi, hij, hj, rfl, rfl, HS, HL, HR⟩ := hrel
    by_cases hlt : i < j
    · have hlt' : (i : Int) < j := by omega
      obtain ⟨q, hq⟩ : ∃ q : Nat, (i + j) / 2 = q := ⟨_, rfl⟩
      have hqI : ((i : Int) + j) / 2 = (q : Int) := by omega
      have i1 : m < n := by omega
      have i2 : q < n := by omega
      have j1 : (m : Int) < n := by omega
      have j2 : (q : Int) < n := by omega
      have hqi : i ≤ q := by omega
      have hqj : q < j := by omega
      clear hq
      have hb' := cfP_lt d[m]! d[q]!
      obtain ⟨lb, hlb⟩ : ∃ lb, ltP d[m]! d[q]! = lb := ⟨_, rfl⟩
      rw [hlb] at hb'
      have HLB := hid hlb
      clear hlb
      obtain ⟨ax, cx, ex, x0, x1, x2, x3⟩ := HS.out.cells i1
      obtain ⟨ay, cy, ey, y0, y1, y2, y3⟩ := HS.out.cells i2
      have HCC := hid (sortcmp_any w0 g d[m]! d[q]! (HS.out.good _ i1) (HS.out.good _ i2))
      rw [ex, ey] at HCC
      have HFR := hid HS.out.fr
      have Y0 := hid y0; have Y1 := hid y1; have Y2 := hid y2; have Y3 := hid y3; have X0 := hid x0; have X1 := hid x1; have X2 := hid x2; have X3 := hid x3
      clear ex ey x0 x1 x2 x3 y0 y1 y2 y3
      generalize cfP d[m]! d[q]! = cv at *
      generalize (d[m]!).1.k = xk at *
      generalize (d[m]!).1.n = xn at *
      generalize (d[m]!).1.s = xs at *
      generalize (d[m]!).1.l.length = xl at *
      generalize (d[q]!).1.k = yk at *
      generalize (d[q]!).1.n = yn at *
      generalize (d[q]!).1.s = ys at *
      generalize (d[q]!).1.l.length = yl at *
      go_upto_region 17 with fail
      refine wp_region_cls (fun w' => Fr (fun _ => False) wr w') (by kernel_rfl) (by kernel_rfl) (Fr.refl _ _).drew ?_
      iterate 4 (refine q_take ?_ (by kernel_rfl) ?_ ?_; rotate_left; (· intro w' hS; go_simp; try with_reducible rfl); (try simp only [Act.put, List.setIfInBounds_toArray, List.set_cons_zero, List.set_cons_succ]))
      (refine q_take ?_ (by kernel_rfl) ?_ ?_; rotate_left; (· intro w' hS; have d0 := hS.cell X0.out not_false; have d1 := hS.cell X1.out not_false; have d2 := hS.cell X2.out not_false; have d3 := hS.cell X3.out not_false; go_simp; try with_reducible rfl); try simp only [Act.put, List.setIfInBounds_toArray, List.set_cons_zero, List.set_cons_succ])
      iterate 3 (refine q_take ?_ (by kernel_rfl) ?_ ?_; rotate_left; (· intro w' hS; go_simp; try with_reducible rfl); (try simp only [Act.put, List.setIfInBounds_toArray, List.set_cons_zero, List.set_cons_succ]))
      (refine q_take ?_ (by kernel_rfl) ?_ ?_; rotate_left; (· intro w' hS; have d0 := hS.cell Y0.out not_false; have d1 := hS.cell Y1.out not_false; have d2 := hS.cell Y2.out not_false; have d3 := hS.cell Y3.out not_false; go_simp; try with_reducible rfl); try simp only [Act.put, List.setIfInBounds_toArray, List.set_cons_zero, List.set_cons_succ])
      (refine q_call ?_ ?_ (by kernel_rfl) ?_ ?_; rotate_left 2; (· intro w' hS; go_simp; first | with_reducible rfl | (constructor <;> with_reducible rfl)); (refine ⟨_, fun w' hw => (HCC.out w' (HFR.out.trans' (hw.mono fun _ _ h => h.elim))).mono fun _ _ h => ⟨h.1, hw.trans' h.2⟩, ?_⟩); (try simp only [Act.put, List.setIfInBounds_toArray, List.set_cons_zero, List.set_cons_succ]))
      iterate 2 (refine q_take ?_ (by kernel_rfl) ?_ ?_; rotate_left; (· intro w' hS; go_simp; try with_reducible rfl); (try simp only [Act.put, List.setIfInBounds_toArray, List.set_cons_zero, List.set_cons_succ]))
      refine q_end (fun wy hw => ?_)
      have HSy := hid (HS.out.frame hw)
      clear hw HCC HFR X0 X1 X2 X3 Y0 Y1 Y2 Y3
      clear hb'
      cases lb
      · have HL2 := hid (show ∀ x, a ≤ x → x < q + 1 → ltP d[m]! d[x]! = false from fun x h1 h3 => by
          by_cases e : x = q
          · rw [e]; exact HLB.out
          · exact swo_ltP.ntrans _ _ _ HLB.out (H1.out x q h1 (by omega) (by omega)))
        go_wp2_with fail
        go_roundw
        case rel => exact ⟨q + 1, j, by omega, by omega, by omega, by go_num, rfl, HSy, HL2, HR⟩
        case measure => simp [intOf]; omega
      · have HR2 := hid (show ∀ x, q ≤ x → x < m → ltP d[m]! d[x]! = true from fun x h1 h3 => by
          by_cases e : x = q
          · rw [e]; exact HLB.out
          · cases hc : ltP d[m]! d[x]! with
            | true => rfl
            | false =>
              have := swo_ltP.ntrans _ _ _ hc (H1.out q x (by omega) (by omega) h3)
              have h4 := HLB.out
              rw [this] at h4
              cases h4)
        go_wp2_with fail
        go_roundw
        case rel => exact ⟨i, q, hi, by omega, by omega, rfl, rfl, HSy, HL, HR2⟩
        case measure => simp [intOf]; omega
    · obtain rfl : i = j := by omega
      have hlt' : ¬ (i : Int) < (i : Int) := by omega
      generalize wr = wo at *
      go_wp2_with fail
      go_loopw [17] (fun kv wr => ∃ (k : Nat) (dk : Array PV), i ≤ k ∧ k ≤ m ∧ kv = .int .i64 k ∧ Hid (St w0 base g n c dk wr) ∧ Hid (Dn m k d dk)) (fun kv _ => (intOf kv).toNat)
      case atStart => exact ⟨m, d, by omega, Nat.le_refl _, rfl, HS, hid (Dn.start m d)⟩
      case round =>
        clear HS
        obtain ⟨k, dk, hik, hkm, rfl, HS, HU⟩ := hrel
        by_cases hlt : i < k
        · obtain ⟨kp, rfl⟩ : ∃ kp, k = kp + 1 := ⟨k - 1, by omega⟩
          have hlt' : (i : Int) < (kp : Int) + 1 := by omega
          have i1 : kp + 1 < n := by omega
          have i2 : kp < n := by omega
          have j1 : (kp : Int) + 1 < n := by omega
          have j2 : (kp : Int) < n := by omega
          have t2 : ((kp : Int) + 1).toNat = kp + 1 := by omega
          have p2 : (0 : Int) ≤ (kp : Int) + 1 := by omega
          have hwp : IntKind.i64.wrap (kp : Int) = (kp : Int) := IntWalk.i64_in _ (by omega)
          have HU2 := hid (HU.out.step (by omega) (by rw [HSZ.out]; omega))
          obtain ⟨ax, cx, ex, x0, x1, x2, x3⟩ := HS.out.cells i1
          obtain ⟨ay, cy, ey, y0, y1, y2, y3⟩ := HS.out.cells i2
          obtain ⟨fz1, fz2, hc2, hst⟩ := (HS.out.frame (Fr.refl (fun _ => False) wr).drew).swap i1 i2 HG.out ex ey
          obtain ⟨z0, hz0⟩ := hc2 ((kp) * 4) (by omega)
          obtain ⟨z1, hz1⟩ := hc2 ((kp) * 4 + 1) (by omega)
          obtain ⟨z2, hz2⟩ := hc2 ((kp) * 4 + 2) (by omega)
          obtain ⟨z3, hz3⟩ := hc2 ((kp) * 4 + 3) (by omega)
          have HST := hid hst; have FZ1 := hid fz1; have FZ2 := hid fz2; have HZ0 := hid hz0; have HZ1 := hid hz1; have HZ2 := hid hz2; have HZ3 := hid hz3
          have Y0 := hid y0; have Y1 := hid y1; have Y2 := hid y2; have Y3 := hid y3; have X0 := hid x0; have X1 := hid x1; have X2 := hid x2; have X3 := hid x3
          clear hst hc2 ex ey fz1 fz2 hz0 hz1 hz2 hz3 x0 x1 x2 x3 y0 y1 y2 y3
          generalize (dk[kp + 1]!).1.k = xk at *
          generalize (dk[kp + 1]!).1.n = xn at *
          generalize (dk[kp + 1]!).1.s = xs at *
          generalize (dk[kp + 1]!).1.l.length = xl at *
          generalize (dk[kp]!).1.k = yk at *
          generalize (dk[kp]!).1.n = yn at *
          generalize (dk[kp]!).1.s = ys at *
          generalize (dk[kp]!).1.l.length = yl at *
          go_upto_region 23 with fail
          refine wp_region_g [(0, 2), (1, 2), (2, 2), (3, 2), (4, 2), (5, 2), (6, 2), (7, 2), (8, 2), (9, 0), (10, 2), (11, 2), (12, 2), (13, 0), (14, 1), (15, 1), (16, 1), (17, 1)] (fun w' => Fr (fun _ => False) wr w') (by kernel_rfl) (by kernel_rfl) (by kernel_rfl) rfl (fun _ _ d _ _ h => by cases d <;> exact h) (Fr.refl _ _).drew ?_
          have Fd := hid ((Fr.refl (fun _ => False) wr).drew)
          generalize wr.drew = wd at *
          iterate 9 (refine wpG_free ?_ rfl (by kernel_rfl) ?_ ?_; rotate_left; (· intro w'; go_simp; try with_reducible rfl); (try simp only [Act.put, List.setIfInBounds_toArray, List.set_cons_zero, List.set_cons_succ]))
          (refine wpG_take ?_ rfl (by kernel_rfl) ?_ ?_; rotate_left; (· intro w' hS; have d0 := hS.cell Y0.out not_false; have d1 := hS.cell Y1.out not_false; have d2 := hS.cell Y2.out not_false; have d3 := hS.cell Y3.out not_false; go_simp; try with_reducible rfl); (try simp only [Act.put, List.setIfInBounds_toArray, List.set_cons_zero, List.set_cons_succ]))
          iterate 3 (refine wpG_free ?_ rfl (by kernel_rfl) ?_ ?_; rotate_left; (· intro w'; go_simp; try with_reducible rfl); (try simp only [Act.put, List.setIfInBounds_toArray, List.set_cons_zero, List.set_cons_succ]))
          (refine wpG_take ?_ rfl (by kernel_rfl) ?_ ?_; rotate_left; (· intro w' hS; have d0 := hS.cell X0.out not_false; have d1 := hS.cell X1.out not_false; have d2 := hS.cell X2.out not_false; have d3 := hS.cell X3.out not_false; go_simp; try with_reducible rfl); (try simp only [Act.put, List.setIfInBounds_toArray, List.set_cons_zero, List.set_cons_succ]))
          (refine wpG_run rfl (by kernel_rfl) (fun K hK => ?_); go_simp; refine hK _ _ (fun _ => Fd.out) ?_; clear hK K; (try simp only [Act.put, List.setIfInBounds_toArray, List.set_cons_zero, List.set_cons_succ]))
          have x0 := Fd.out.cell X0.out not_false
          have x1 := Fd.out.cell X1.out not_false
          have x2 := Fd.out.cell X2.out not_false
          have x3 := Fd.out.cell X3.out not_false
          have f1 := FZ1.out
          (refine wpG_run rfl (by kernel_rfl) (fun K hK => ?_); go_simp; refine hK _ _ (last_skip (by kernel_rfl)) ?_; clear hK K; (try simp only [Act.put, List.setIfInBounds_toArray, List.set_cons_zero, List.set_cons_succ]))
          clear x0 x1 x2 x3 f1
          have f2 := FZ2.out
          have z0 := HZ0.out
          have z1 := HZ1.out
          have z2 := HZ2.out
          have z3 := HZ3.out
          generalize (((wd.setCell ⟨g, (kp + 1) * 4, none⟩ (.int .i64 yk)).setCell ⟨g, (kp + 1) * 4 + 1, none⟩ (.int .i64 yn)).setCell ⟨g, (kp + 1) * 4 + 2, none⟩ (.string ys)).setCell ⟨g, (kp + 1) * 4 + 3, none⟩ (.slice ay yl cy) = wz at *
          (refine wpG_run rfl (by kernel_rfl) (fun K hK => ?_); go_simp; refine hK _ _ (last_skip (by kernel_rfl)) ?_; clear hK K; (try simp only [Act.put, List.setIfInBounds_toArray, List.set_cons_zero, List.set_cons_succ]))
          (refine wpG_run rfl (by kernel_rfl) (fun K hK => ?_); go_simp; refine hK _ _ (last_skip (by kernel_rfl)) ?_; clear hK K; (try simp only [Act.put, List.setIfInBounds_toArray, List.set_cons_zero, List.set_cons_succ]))
          refine wpG_end ?_
          generalize (((wz.setCell ⟨g, (kp) * 4, none⟩ (.int .i64 xk)).setCell ⟨g, (kp) * 4 + 1, none⟩ (.int .i64 xn)).setCell ⟨g, (kp) * 4 + 2, none⟩ (.string xs)).setCell ⟨g, (kp) * 4 + 3, none⟩ (.slice ax xl cx) = wy at *
          clear f2 z0 z1 z2 z3
          go_wp2_with fail
          go_roundw
          case rel => exact ⟨kp, swp dk (kp + 1) kp, by omega, by omega, by first | rfl | go_num | (congr 1; omega), HST, HU2⟩
          case measure => simp [intOf] <;> omega
        · obtain rfl : i = k := by omega
          have hlt' : ¬ (i : Int) < (i : Int) := by omega
          have HF := hid (show PermIn a (m + 1) d dk ∧ SortedIn ltP a (m + 1) dk from
            ⟨permIn_shrink (by omega) (by rw [HSZ.out]; exact hb) HU.out.2.2 fun x hx => by rw [HU.out.2.1 x, if_neg (by omega), if_neg (by omega)],
             HU.out.sorted swo_ltP H1.out hi hkm HL.out HR.out⟩)
          go_wp2_with fail
          refine bodyPost_ret (results_none rfl _ _ _) rfl ?_
          exact ⟨rfl, dk, HS.out, HF.out⟩
end Go.Proofs.Ytebanmigaikhhaa
