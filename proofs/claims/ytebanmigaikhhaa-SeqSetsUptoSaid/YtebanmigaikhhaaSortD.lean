/- symMergeCmpFunc over values: the merge itself. -/
import Derived.Test.YtebanmigaikhhaaSortC
import Derived.Deep.CutRange
namespace Go.Proofs.Ytebanmigaikhhaa
open Go.RowKit Go.Sort

def SymTo (w0 : World) (base g n c N : Nat) : Prop := ∀ (a m b : Nat) (d : Array PV) (W : World), b - a < N → a < m → m < b → b ≤ n → St w0 base g n c d W → SortedIn ltP a m d → SortedIn ltP m b d →
    Calls Try.prog 67 #[.slice (some ⟨g, 0, none⟩) n c, .int .i64 a, .int .i64 m, .int .i64 b, .func (.func 56) #[] #[]] W fun e W' => e = .returned (.tuple #[]) ∧ ∃ d', St w0 base g n c d' W' ∧ PermIn a b d d' ∧ SortedIn ltP a b d'
set_option maxRecDepth 100000 in
set_option maxHeartbeats 6400000 in
theorem sym_gen (w0 : World) (base g n c N : Nat) (hg : g < w0.heap.size) (hn : n ≤ 1099511627776) (ih : SymTo w0 base g n c N) (a m b : Nat) (d : Array PV) (W : World) (hN : b - a < N + 1) (ham : a + 1 < m) (hmb : m + 1 < b) (hb : b ≤ n) (h : St w0 base g n c d W) (h1 : SortedIn ltP a m d) (h2 : SortedIn ltP m b d) :
    Calls Try.prog 67 #[.slice (some ⟨g, 0, none⟩) n c, .int .i64 a, .int .i64 m, .int .i64 b, .func (.func 56) #[] #[]] W fun e W' => e = .returned (.tuple #[]) ∧ ∃ d', St w0 base g n c d' W' ∧ PermIn a b d d' ∧ SortedIn ltP a b d' := by
  have HH := hid h
  have HSZ := hid h.sz; have HG := hid hg; have H1 := hid h1; have H2 := hid h2; have HIH := hid ih; have HN := hid hN
  have v0 : IntKind.i64.wrap ((m : Int) - a) = (m : Int) - a := IntWalk.i64_in _ (by omega)
  have v1 : IntKind.i64.wrap ((b : Int) - m) = (b : Int) - m := IntWalk.i64_in _ (by omega)
  have q0 : ((m : Int) - a == 1) = false := by rw [beq_eq_false_iff_ne]; omega
  have q1 : ((b : Int) - m == 1) = false := by rw [beq_eq_false_iff_ne]; omega
  obtain ⟨mid, hmid⟩ : ∃ mid : Nat, mid = (a + b) / 2 := ⟨_, rfl⟩
  have hmI : ((a : Int) + b) / 2 = (mid : Int) := by omega
  obtain ⟨nn, hnn⟩ : ∃ nn : Nat, nn = mid + m := ⟨_, rfl⟩
  have hnI : (mid : Int) + m = (nn : Int) := by omega
  have v2 : IntKind.i64.wrap (nn : Int) = (nn : Int) := IntWalk.i64_in _ (by omega)
  obtain ⟨lo, hi, hlh⟩ : ∃ lo hi : Nat, (mid < m ∧ lo = nn - b ∧ hi = mid) ∨ (m ≤ mid ∧ lo = a ∧ hi = m) := by
    by_cases hc : mid < m
    · exact ⟨_, _, .inl ⟨hc, rfl, rfl⟩⟩
    · exact ⟨_, _, .inr ⟨by omega, rfl, rfl⟩⟩
  have HMID := hid hmid; have HNN := hid hnn; have HLH := hid hlh
  clear h hg h1 h2 ih hN hmid hnn hlh
  go_enter Try.func67, Try.ntmps67
  go_upto_region 27 with fail
  clear v0 v1 q0 q1 hmI hnI v2
  obtain ⟨tb, htb⟩ : ∃ tb, decide (mid < m) = tb := ⟨_, rfl⟩
  go_cut [140] from 138 to 140 (fun v wx => v = .bool tb ∧ W = wx)
  case first =>
    by_cases hc : mid < m
    · have hcI : (mid : Int) < m := by omega
      have htb' : tb = true := by rw [← htb]; simpa using hc
      go_wp2_with fail
      go_meet
      exact ⟨by rw [htb'], rfl⟩
    · have hcI : ¬ (mid : Int) < m := by omega
      have htb' : tb = false := by rw [← htb]; simpa using hc
      go_wp2_with fail
      go_meet
      exact ⟨by rw [htb'], rfl⟩
  case rest =>
  obtain ⟨rfl, rfl⟩ := hcut
  go_upto_if 140 with fail
  go_cut [20, 21] from 141 to 146 (fun s r wx => s = .int .i64 (lo : Nat) ∧ r = .int .i64 (hi : Nat) ∧ W = wx)
  case first =>
    have hmid := HMID.out
    have hnn := HNN.out
    cases tb
    · have hc' : ¬ mid < m := by simpa using htb
      have hlh : lo = a ∧ hi = m := by rcases HLH.out with ⟨hc, hl, hh⟩ | ⟨hc, hl, hh⟩; exact absurd hc hc'; exact ⟨hl, hh⟩
      obtain ⟨rfl, rfl⟩ := hlh
      clear htb hc' hmid hnn
      go_wp2_with fail
      go_meet
      exact ⟨rfl, rfl, rfl⟩
    · have hc' : mid < m := by simpa using htb
      have hlh : lo = nn - b ∧ hi = mid := by rcases HLH.out with ⟨hc, hl, hh⟩ | ⟨hc, hl, hh⟩; exact ⟨hl, hh⟩; omega
      have hsub : (nn : Int) - b = (lo : Int) := by omega
      have hw : IntKind.i64.wrap (lo : Int) = (lo : Int) := IntWalk.i64_in _ (by omega)
      obtain ⟨-, rfl⟩ := hlh
      clear htb hc' hmid hnn
      go_wp2_with fail
      go_meet
      exact ⟨rfl, rfl, rfl⟩
  case rest =>
  obtain ⟨rfl, rfl, rfl⟩ := hcut
  clear htb
  have hbnd : lo ≤ hi ∧ a ≤ lo ∧ hi ≤ m ∧ hi ≤ mid ∧ nn = mid + m ∧ a < mid ∧ mid < b ∧ nn < b + hi + 1 ∧ m + hi ≤ nn ∧ nn ≤ b + lo := by have := HMID.out; have := HNN.out; have := HLH.out; omega
  obtain ⟨n1, n2, n3, n4, n5, n6, n7, n8, n9, n10⟩ := hbnd
  obtain ⟨nm, hnm⟩ : ∃ nm, nn - 1 = nm := ⟨_, rfl⟩
  have e1 : (nn : Int) - 1 = (nm : Int) := by omega
  have N5 := hid n5; have HNM := hid hnm
  clear n5
  have v3 : IntKind.i64.wrap (nm : Int) = (nm : Int) := IntWalk.i64_in _ (by omega)
  clear hnm
  go_wp2_with fail
  clear e1 v3
  go_loopw [20, 21] (fun sv rv wr => ∃ (s r : Nat), lo ≤ s ∧ s ≤ r ∧ r ≤ hi ∧ sv = .int .i64 s ∧ rv = .int .i64 r ∧ Hid (St w0 base g n c d wr) ∧ Hid (∀ x, lo ≤ x → x < s → ltP d[nn - 1 - x]! d[x]! = false) ∧ Hid (∀ x, r ≤ x → x < hi → ltP d[nn - 1 - x]! d[x]! = true)) (fun sv rv _ => (intOf rv).toNat - (intOf sv).toNat)
  case atStart => exact ⟨lo, hi, Nat.le_refl _, n1, Nat.le_refl _, rfl, rfl, HH, hid (fun x h1 h2 => by omega), hid (fun x h1 h2 => by omega)⟩
  case round =>
    obtain ⟨s, r, hls, hsr, hrh, rfl, rfl, HS, HT, HF⟩ := hrel
    by_cases hlt : s < r
    · have hlt' : (s : Int) < r := by omega
      obtain ⟨q, hq⟩ : ∃ q : Nat, (s + r) / 2 = q := ⟨_, rfl⟩
      have hqI : ((s : Int) + r) / 2 = (q : Int) := by omega
      have hqi : s ≤ q := by omega
      have hqj : q < r := by omega
      clear hq
      obtain ⟨p, hp⟩ : ∃ p : Nat, nn - 1 - q = p := ⟨_, rfl⟩
      have i1 : p < n := by omega
      have i2 : q < n := by omega
      have j1 : (p : Int) < n := by omega
      have j2 : (q : Int) < n := by omega
      have e2 : (nm : Int) - q = (p : Int) := by have := HNM.out; omega
      have v3 : IntKind.i64.wrap (p : Int) = (p : Int) := IntWalk.i64_in _ (by omega)
      have hb' := cfP_lt d[p]! d[q]!
      obtain ⟨lb, hlb⟩ : ∃ lb, ltP d[p]! d[q]! = lb := ⟨_, rfl⟩
      rw [hlb] at hb'
      have HLB := hid (show ltP d[nn - 1 - q]! d[q]! = lb by rw [hp]; exact hlb)
      clear hp
      clear hlb
      obtain ⟨ax, cx, ex, x0, x1, x2, x3⟩ := HS.out.cells i1
      obtain ⟨ay, cy, ey, y0, y1, y2, y3⟩ := HS.out.cells i2
      have HCC := hid (sortcmp_any w0 g d[p]! d[q]! (HS.out.good _ i1) (HS.out.good _ i2))
      rw [ex, ey] at HCC
      have HFR := hid HS.out.fr
      have Y0 := hid y0; have Y1 := hid y1; have Y2 := hid y2; have Y3 := hid y3; have X0 := hid x0; have X1 := hid x1; have X2 := hid x2; have X3 := hid x3
      clear ex ey x0 x1 x2 x3 y0 y1 y2 y3
      generalize cfP d[p]! d[q]! = cv at *
      generalize (d[p]!).1.k = xk at *
      generalize (d[p]!).1.n = xn at *
      generalize (d[p]!).1.s = xs at *
      generalize (d[p]!).1.l.length = xl at *
      generalize (d[q]!).1.k = yk at *
      generalize (d[q]!).1.n = yn at *
      generalize (d[q]!).1.s = ys at *
      generalize (d[q]!).1.l.length = yl at *
      go_upto_region 35 with fail
      refine wp_region_cls (fun w' => Fr (fun _ => False) wr w') (by kernel_rfl) (by kernel_rfl) (Fr.refl _ _).drew ?_
      iterate 6 (refine q_take ?_ (by kernel_rfl) ?_ ?_; rotate_left; (· intro w' hS; go_simp; try with_reducible rfl); (try simp only [Act.put, List.setIfInBounds_toArray, List.set_cons_zero, List.set_cons_succ]))
      (refine q_take ?_ (by kernel_rfl) ?_ ?_; rotate_left; (· intro w' hS; have d0 := hS.cell X0.out not_false; have d1 := hS.cell X1.out not_false; have d2 := hS.cell X2.out not_false; have d3 := hS.cell X3.out not_false; go_simp; try with_reducible rfl); try simp only [Act.put, List.setIfInBounds_toArray, List.set_cons_zero, List.set_cons_succ])
      iterate 3 (refine q_take ?_ (by kernel_rfl) ?_ ?_; rotate_left; (· intro w' hS; go_simp; try with_reducible rfl); (try simp only [Act.put, List.setIfInBounds_toArray, List.set_cons_zero, List.set_cons_succ]))
      (refine q_take ?_ (by kernel_rfl) ?_ ?_; rotate_left; (· intro w' hS; have d0 := hS.cell Y0.out not_false; have d1 := hS.cell Y1.out not_false; have d2 := hS.cell Y2.out not_false; have d3 := hS.cell Y3.out not_false; go_simp; try with_reducible rfl); try simp only [Act.put, List.setIfInBounds_toArray, List.set_cons_zero, List.set_cons_succ])
      (refine q_call ?_ ?_ (by kernel_rfl) ?_ ?_; rotate_left 2; (· intro w' hS; go_simp; first | with_reducible rfl | (constructor <;> with_reducible rfl)); (refine ⟨_, fun w' hw => (HCC.out w' (HFR.out.trans' (hw.mono fun _ _ h => h.elim))).mono fun _ _ h => ⟨h.1, hw.trans' h.2⟩, ?_⟩); (try simp only [Act.put, List.setIfInBounds_toArray, List.set_cons_zero, List.set_cons_succ]))
      iterate 2 (refine q_take ?_ (by kernel_rfl) ?_ ?_; rotate_left; (· intro w' hS; go_simp; try with_reducible rfl); (try simp only [Act.put, List.setIfInBounds_toArray, List.set_cons_zero, List.set_cons_succ]))
      refine q_end (fun wy hw => ?_)
      have HSy := hid (HS.out.frame hw)
      clear hw HCC HFR X0 X1 X2 X3 Y0 Y1 Y2 Y3
      clear hb'
      cases lb
      · have HT2 := hid (show ∀ x, lo ≤ x → x < q + 1 → ltP d[nn - 1 - x]! d[x]! = false from fun x h1 h3 => have n5 := N5.out; bs_true swo_ltP H1.out H2.out HLB.out (by omega) (by omega) (by omega) (by omega) (by omega))
        go_wp2_with fail
        go_roundw
        case rel => exact ⟨q + 1, r, by omega, by omega, by omega, by go_num, rfl, HSy, HT2, HF⟩
        case measure => simp [intOf]; omega
      · have HF2 := hid (show ∀ x, q ≤ x → x < hi → ltP d[nn - 1 - x]! d[x]! = true from fun x h1 h3 => have n5 := N5.out; bs_false swo_ltP H1.out H2.out HLB.out (by omega) (by omega) (by omega) (by omega) (by omega))
        go_wp2_with fail
        go_roundw
        case rel => exact ⟨s, q, hls, by omega, by omega, rfl, rfl, HSy, HT, HF2⟩
        case measure => simp [intOf]; omega
    · obtain rfl : s = r := by omega
      have hlt' : ¬ (s : Int) < (s : Int) := by omega
      have e1 : (nn : Int) - s = ((nn - s : Nat) : Int) := by omega
      have v3 : IntKind.i64.wrap ((nn - s : Nat) : Int) = ((nn - s : Nat) : Int) := IntWalk.i64_in _ (by omega)
      have HMIDX := hid (fun (e : Array PV) (he : ∀ x, e[x]! = rotF (fun q => d[q]!) s m (nn - s) x) => sym_mid swo_ltP (by omega) (by omega) H1.out H2.out HMID.out HNN.out HLH.out hls hrh HT.out HF.out he)
      have hbs : a ≤ s ∧ s ≤ mid ∧ s ≤ m ∧ mid ≤ nn - s ∧ m ≤ nn - s ∧ nn - s ≤ b := by have := HMID.out; have := HLH.out; have := N5.out; omega
      obtain ⟨b1, b2, b3, b4, b5, b6⟩ := hbs
      obtain ⟨en, hen⟩ : ∃ en, nn - s = en := ⟨_, rfl⟩
      rw [hen] at e1 v3 HMIDX b4 b5 b6
      generalize wr = wo at *
      go_upto_region 39 with fail
      clear e1 v3
      obtain ⟨tc, htc⟩ : ∃ tc, decide (s < m ∧ m < en) = tc := ⟨_, rfl⟩
      go_cut [185] from 178 to 185 (fun v wx => v = .bool tc ∧ wo = wx)
      case first =>
        by_cases c1 : s < m
        · have c1' : (s : Int) < m := by omega
          by_cases c2 : m < en
          · have c2' : (m : Int) < en := by omega
            have htc' : tc = true := by rw [← htc]; simp [c1, c2]
            go_wp2_with fail
            go_meet
            exact ⟨by rw [htc'], rfl⟩
          · have c2' : ¬ (m : Int) < en := by omega
            have htc' : tc = false := by rw [← htc]; simp [c2]
            go_wp2_with fail
            go_meet
            exact ⟨by rw [htc'], rfl⟩
        · have c1' : ¬ (s : Int) < m := by omega
          have htc' : tc = false := by rw [← htc]; simp [c1]
          go_wp2_with fail
          go_meet
          exact ⟨by rw [htc'], rfl⟩
      case rest =>
      obtain ⟨rfl, rfl⟩ := hcut
      go_upto_if 185 with fail
      go_cut [20] from 186 to 191 (fun s2 wx => s2 = .int .i64 (s : Nat) ∧ Hid (∃ e, St w0 base g n c e wx ∧ Rot s m en d e))
      case first =>
        cases tc
        · have hc : ¬ (s < m ∧ m < en) := by simpa using htc
          have HX := hid (show ∃ e, St w0 base g n c e wo ∧ Rot s m en d e from ⟨d, HS.out, Rot.none d b3 b5 (by omega)⟩)
          clear htc hc
          go_wp2_with fail
          go_meet
          exact ⟨rfl, HX⟩
        · have hc : s < m ∧ m < en := by simpa using htc
          have HRO := hid (rotate_any w0 wo base g n c d HG.out HS.out s m en hn hc.1 hc.2 (by omega) (.func (.func 56) #[] #[]))
          clear htc hc
          go_wp2_with fail
          refine HRO.out.mono ?_
          rintro e w2 ⟨rfl, d2, hs2, hr2⟩
          have HX := hid (show ∃ e, St w0 base g n c e w2 ∧ Rot s m en d e from ⟨d2, hs2, hr2⟩)
          clear hs2 hr2
          go_wp2_with fail
          go_meet
          exact ⟨rfl, HX⟩
      case rest =>
      obtain ⟨rfl, HX⟩ := hcut
      clear htc
      obtain ⟨e, hse, hro⟩ := HX.out
      obtain ⟨-, r1, r2, r3, r4, r5⟩ := HMIDX.out e hro.2.1
      have HSE := hid hse
      have R1 := hid r1; have R2 := hid r2; have R3 := hid r3; have R4 := hid r4; have R5 := hid r5
      have HPE := hid (permIn_shrink (a := a) (b := b) (by omega) (by rw [HSZ.out]; exact hb) hro.2.2 fun x hx => by rw [hro.2.1 x]; unfold rotF; rw [if_neg (by omega), if_neg (by omega)])
      have HES := hid (hse.sz)
      clear hse hro r1 r2 r3 r4 r5 HX HMIDX HT HF HS
      obtain ⟨w5, hw5⟩ : ∃ W, W = wc := ⟨wc, rfl⟩
      rw [← hw5] at HSE ⊢
      clear hw5
      go_upto_region 41 with fail
      obtain ⟨tc, htc⟩ : ∃ tc, decide (a < s ∧ s < mid) = tc := ⟨_, rfl⟩
      go_cut [199] from 192 to 199 (fun v wx => v = .bool tc ∧ w5 = wx)
      case first =>
        by_cases c1 : a < s
        · have c1' : (a : Int) < s := by omega
          by_cases c2 : s < mid
          · have c2' : (s : Int) < mid := by omega
            have htc' : tc = true := by rw [← htc]; simp [c1, c2]
            go_wp2_with fail
            go_meet
            exact ⟨by rw [htc'], rfl⟩
          · have c2' : ¬ (s : Int) < mid := by omega
            have htc' : tc = false := by rw [← htc]; simp [c2]
            go_wp2_with fail
            go_meet
            exact ⟨by rw [htc'], rfl⟩
        · have c1' : ¬ (a : Int) < s := by omega
          have htc' : tc = false := by rw [← htc]; simp [c1]
          go_wp2_with fail
          go_meet
          exact ⟨by rw [htc'], rfl⟩
      case rest =>
      obtain ⟨rfl, rfl⟩ := hcut
      go_upto_if 199 with fail
      go_cut [20] from 200 to 205 (fun s2 wx => s2 = .int .i64 (s : Nat) ∧ Hid (∃ f, St w0 base g n c f wx ∧ PermIn a mid e f ∧ SortedIn ltP a mid f))
      case first =>
        cases tc
        · have hc : ¬ (a < s ∧ s < mid) := by simpa using htc
          have HX := hid (show ∃ f, St w0 base g n c f w5 ∧ PermIn a mid e f ∧ SortedIn ltP a mid f from ⟨e, HSE.out, permIn_refl _ _ _, by
            rcases (show s = a ∨ s = mid by omega) with h | h
            · rw [← h]; exact R2.out
            · rw [← h]; exact R1.out⟩)
          clear htc hc
          go_wp2_with fail
          go_meet
          exact ⟨rfl, HX⟩
        · have hc : a < s ∧ s < mid := by simpa using htc
          have HRO := hid (HIH.out a s mid e w5 (by have := HN.out; omega) hc.1 hc.2 (by omega) HSE.out R1.out R2.out)
          clear htc hc
          go_wp2_with fail
          refine HRO.out.mono ?_
          rintro x w2 ⟨rfl, d2, hs2, hr2, hr3⟩
          have HX := hid (show ∃ f, St w0 base g n c f w2 ∧ PermIn a mid e f ∧ SortedIn ltP a mid f from ⟨d2, hs2, hr2, hr3⟩)
          clear hs2 hr2 hr3
          go_wp2_with fail
          go_meet
          exact ⟨rfl, HX⟩
      case rest =>
      obtain ⟨rfl, HX⟩ := hcut
      clear htc
      obtain ⟨f, hsf, hp1, hs1⟩ := HX.out
      have HSF := hid hsf; have HP1 := hid hp1; have HS1 := hid hs1
      have R3f := hid (show SortedIn ltP mid en f from fun i j p1 p2 p3 => by rw [hp1.2.1 i (by omega), hp1.2.1 j (by omega)]; exact R3.out i j p1 p2 p3)
      have R4f := hid (show SortedIn ltP en b f from fun i j p1 p2 p3 => by rw [hp1.2.1 i (by omega), hp1.2.1 j (by omega)]; exact R4.out i j p1 p2 p3)
      clear hsf hp1 hs1 HX
      obtain ⟨w6, hw6⟩ : ∃ W, W = wc := ⟨wc, rfl⟩
      rw [← hw6] at HSF ⊢
      clear hw6
      have HFIN := hid (fun (f2 : Array PV) (hp2 : PermIn mid b f f2) (hs2 : SortedIn ltP mid b f2) => sym_join (d := e) (by omega) (by omega) (by rw [HES.out]; exact hb) R5.out HP1.out HS1.out hp2 hs2)
      by_cases c1 : mid < en
      · have c1' : (mid : Int) < en := by omega
        by_cases c2 : en < b
        · have c2' : (en : Int) < b := by omega
          have HRO := hid (HIH.out mid en b f w6 (by have := HN.out; omega) c1 c2 hb HSF.out R3f.out R4f.out)
          go_wp2_with fail
          refine HRO.out.mono ?_
          rintro x w2 ⟨rfl, d2, hs2, hr2, hr3⟩
          have HX := hid hs2
          have HY := hid (HFIN.out d2 hr2 hr3)
          clear hs2 hr2 hr3
          go_wp2_with fail
          go_end0
          exact ⟨rfl, d2, HX.out, permIn_trans _ _ _ _ _ HPE.out HY.out.2, HY.out.1⟩
        · have c2' : ¬ (en : Int) < b := by omega
          have hsm : en = b := by omega
          have HY := hid (HFIN.out f (permIn_refl _ _ _) (by rw [← hsm]; exact R3f.out))
          clear hsm
          go_wp2_with fail
          go_end0
          exact ⟨rfl, f, HSF.out, permIn_trans _ _ _ _ _ HPE.out HY.out.2, HY.out.1⟩
      · have c1' : ¬ (mid : Int) < en := by omega
        have hsm : en = mid := by omega
        have HY := hid (HFIN.out f (permIn_refl _ _ _) (by rw [← hsm]; exact R4f.out))
        clear hsm
        go_wp2_with fail
        go_end0
        exact ⟨rfl, f, HSF.out, permIn_trans _ _ _ _ _ HPE.out HY.out.2, HY.out.1⟩
theorem sym_to (w0 : World) (base g n c : Nat) (hg : g < w0.heap.size) (hn : n ≤ 1099511627776) : ∀ N, SymTo w0 base g n c N
  | 0 => fun a m b d W h => by omega
  | N + 1 => fun a m b d W hN ham hmb hb h h1 h2 => by
    by_cases e1 : m = a + 1
    · subst e1
      exact sym_one w0 base g n c hg hn a b d W hmb hb h h2
    · by_cases e2 : b = m + 1
      · subst e2
        exact sym_last w0 base g n c hg hn a m d W (by omega) hb h h1
      · exact sym_gen w0 base g n c N hg hn (sym_to w0 base g n c hg hn N) a m b d W hN (by omega) (by omega) hb h h1 h2
end Go.Proofs.Ytebanmigaikhhaa
