/- TreeG, TreeH, TreeI, TreeJ, DocA: several texts in one: a claim has at most 60 files -/
import Derived.Test.YtbegahbagnflnaaDoorMg07
import Derived.Deep.CutBlock
namespace Go.Proofs.YtbegahbagnflnaaDoor
section
open Go.RowKit

theorem pOwn_cases (x : Nd) (role : Int) (loop : Bool) : (pOwn x role loop = 0 ∧ pCounts x.op x.l.length = true) ∨ pOwn x role loop = 103 ∨ pOwn x role loop = 106 := by
  unfold pOwn
  cases h : pCounts x.op x.l.length
  · rw [if_pos (by simp [ownBad])]
    exact .inr (.inl rfl)
  · split
    · exact .inr (.inl rfl)
    split
    · exact .inr (.inr rfl)
    exact .inl ⟨rfl, rfl⟩
theorem rW_range {role op : Int} {i : Nat} {r : Int} (h0 : 0 ≤ r) (h8 : r ≤ 8) : 0 ≤ rW role op i r ∧ rW role op i r ≤ 8 := by
  unfold rW
  split
  · omega
  split
  · omega
  split <;> omega
def RangeOk (l : List Int) : Prop := ∀ r ∈ l, 0 ≤ r ∧ r ≤ 8
theorem RangeOk.ite {c : Prop} [Decidable c] {a b : List Int} (ha : RangeOk a) (hb : RangeOk b) : RangeOk (if c then a else b) := by
  split
  · exact ha
  · exact hb
theorem RangeOk.rep (n : Nat) {a : Int} (h0 : 0 ≤ a) (h8 : a ≤ 8) : RangeOk (List.replicate n a) := fun r hr => by rw [(List.mem_replicate.1 hr).2]; exact ⟨h0, h8⟩
theorem RangeOk.append {a b : List Int} (ha : RangeOk a) (hb : RangeOk b) : RangeOk (a ++ b) := fun r hr => (List.mem_append.1 hr).elim (ha r) (hb r)
theorem RangeOk.set {a : List Int} (ha : RangeOk a) (i : Nat) {x : Int} (h0 : 0 ≤ x) (h8 : x ≤ 8) : RangeOk (a.set i x) := fun r hr => (List.mem_or_eq_of_mem_set hr).elim (ha r) fun e => by rw [e]; exact ⟨h0, h8⟩
theorem RangeOk.take {a : List Int} (ha : RangeOk a) (n : Nat) : RangeOk (a.take n) := fun r hr => ha r (List.mem_of_mem_take hr)
theorem RangeOk.ifK (n : Nat) : RangeOk (ifK n) := fun r hr => by
  obtain ⟨i, -, rfl⟩ := List.mem_map.1 hr
  split <;> omega
theorem RangeOk.nil : RangeOk [] := fun r hr => by cases hr
theorem RangeOk.cons {a : Int} {l : List Int} (h0 : 0 ≤ a) (h8 : a ≤ 8) (h : RangeOk l) : RangeOk (a :: l) := fun r hr => by
  rcases List.mem_cons.1 hr with rfl | h'
  · exact ⟨h0, h8⟩
  · exact h r h'
theorem pRoles_range (op : Int) (n : Nat) : RangeOk (pRoles op n) := by
  unfold pRoles ifL
  repeat' first | exact RangeOk.nil | exact RangeOk.ifK _ | refine RangeOk.ite ?_ ?_ | refine RangeOk.rep _ (by decide) (by decide) | refine RangeOk.append ?_ ?_ | refine RangeOk.set ?_ _ (by decide) (by decide) | refine RangeOk.take ?_ _ | refine RangeOk.cons (by decide) (by decide) ?_
set_option maxRecDepth 100000 in
set_option maxHeartbeats 6400000 in
theorem walk_any (pa : Nat → Addr) : ∀ (N : Nat) (x : Nd), x.cnt < N → x.cnt ≤ 1048576 → x.sz ≤ 1099511627776 → ∀ (role : Int), 0 ≤ role → role ≤ 8 → ∀ (loop : Bool) (D : Nat → Prop) (w : World) (u : Array Value), NIn D w x u → Sent17 w pa → 7 ≤ w.heap.size →
    Calls Tryd.prog 66 #[.agg u, .int .i64 role, .bool loop] w fun e w' => ∃ v, e = .returned v ∧ Fr (fun _ => False) w w' ∧ AtV pa w' (pWalk x role loop) v := by
  intro N
  induction N with
  | zero =>
    intro x hN
    omega
  | succ N ih =>
    intro x hN hM hZ role hr0 hr8 loop D w u h hE hg
    obtain ⟨va', la', rfl, ⟨va, vc, us1, rfl, hvr⟩, ⟨la, lc, us, rfl, hlc, hlm, hln, hb, hi⟩⟩ := h.open
    have hc1 := Nd.cnt_eq x
    have hl1 := len_le_cnt x.l
    have hz1 := Nd.sz_eq x
    have hl : x.l.length ≤ 1048576 := by omega
    have hf0 := (Fr.refl (fun _ => False) w).alloc (.cells #[.int .i64 x.op, .int .i64 x.ln, .string x.s, .int .i64 x.v.k, .int .i64 x.v.n, .string x.v.s, .slice va x.v.l.length vc, .slice la x.l.length lc] 36)
    have hg0 := heap_alloc_new w (.cells #[.int .i64 x.op, .int .i64 x.ln, .string x.s, .int .i64 x.v.k, .int .i64 x.v.n, .string x.v.s, .slice va x.v.l.length vc, .slice la x.l.length lc] 36)
    have HO := hid (own_any pa x role hr0 hr8 loop D (w.alloc (.cells #[.int .i64 x.op, .int .i64 x.ln, .string x.s, .int .i64 x.v.k, .int .i64 x.v.n, .string x.v.s, .slice va x.v.l.length vc, .slice la x.l.length lc] 36)) _ (h.frame hf0 fun _ _ => not_false) hl (by omega) (by omega) (hE.frame hf0) (by simp; omega))
    have HR := hid (fun w => roles_any x.op x.ln x.v.k x.v.n x.s x.v.s (.slice va x.v.l.length vc) la x.l.length lc hl w)
    have hq := pWalk_eq x role loop
    have hRl := pRoles_len x.op x.l.length
    have HRR := hid (pRoles_range x.op x.l.length)
    have hIH : ∀ (k : Nat) (y : Nd), x.l[k]? = some y → ∀ r, 0 ≤ r → r ≤ 8 → ∀ (lp : Bool) (w2 : World) (u : Array Value), Fr (fun _ => False) w w2 → NIn D w2 y u → Calls Tryd.prog 66 #[.agg u, .int .i64 r, .bool lp] w2 fun e w' => ∃ v, e = .returned v ∧ Fr (fun _ => False) w2 w' ∧ AtV pa w' (pWalk y r lp) v := fun k y hy r h0 h8 lp w2 u hf hn => by
      have h1 := cntL_mem hy
      have h2 := szL_mem hy
      exact ih y (by omega) (by omega) (by omega) r h0 h8 lp D w2 u hn (hE.frame hf) (by have := hf.size; omega)
    have HIH := hid hIH; have HB := hid hb; have HI := hid hi; have HF0 := hid hf0; have HG0 := hid hg0; have HL := hid hl
    have hlI : (x.l.length : Int) ≤ 1048576 := by omega
    have hpo := pOwn_cases x role loop
    clear ih h hE hg hIH hb hi hf0 hg0 hl hvr hln hlc hlm hc1 hl1 hz1 hN hM hZ us1
    generalize pOwn x role loop = po at *
    by_cases hz : po = 0
    case neg =>
      have HQ := hid (show pWalk x role loop = (po, x.ln) by rw [hq, if_neg hz])
      have HZ := hid hz
      obtain ⟨a9, ha9⟩ : ∃ a9, errV pa po = .iface 175 (.pointer (some a9)) := by
        rcases hpo with ⟨h, -⟩ | rfl | rfl
        · exact absurd h hz
        · exact ⟨_, rfl⟩
        · exact ⟨_, rfl⟩
      have HA9 := hid ha9
      rw [ha9] at HO
      clear hq hpo hz ha9 hRl
      generalize pWalk x role loop = q at *
      go_enter Tryd.func66, Tryd.ntmps66
      go_upto_region 1 with fail
      generalize hW0 : w.alloc (.cells #[.int .i64 x.op, .int .i64 x.ln, .string x.s, .int .i64 x.v.k, .int .i64 x.v.n, .string x.v.s, .slice va x.v.l.length vc, .slice la x.l.length lc] 36) = W0 at *
      clear hW0
      have d0 : W0.cell? ⟨w.heap.size, 0, none⟩ = some (.int .i64 x.op) := by rw [cell_of_row _ _ 0 _ _ _ HG0.out]; rfl
      have d1 : W0.cell? ⟨w.heap.size, 1, none⟩ = some (.int .i64 x.ln) := by rw [cell_of_row _ _ 1 _ _ _ HG0.out]; rfl
      have d2 : W0.cell? ⟨w.heap.size, 2, none⟩ = some (.string x.s) := by rw [cell_of_row _ _ 2 _ _ _ HG0.out]; rfl
      have d3 : W0.cell? ⟨w.heap.size, 3, none⟩ = some (.int .i64 x.v.k) := by rw [cell_of_row _ _ 3 _ _ _ HG0.out]; rfl
      have d4 : W0.cell? ⟨w.heap.size, 4, none⟩ = some (.int .i64 x.v.n) := by rw [cell_of_row _ _ 4 _ _ _ HG0.out]; rfl
      have d5 : W0.cell? ⟨w.heap.size, 5, none⟩ = some (.string x.v.s) := by rw [cell_of_row _ _ 5 _ _ _ HG0.out]; rfl
      have d6 : W0.cell? ⟨w.heap.size, 6, none⟩ = some (.slice va x.v.l.length vc) := by rw [cell_of_row _ _ 6 _ _ _ HG0.out]; rfl
      have d7 : W0.cell? ⟨w.heap.size, 7, none⟩ = some (.slice la x.l.length lc) := by rw [cell_of_row _ _ 7 _ _ _ HG0.out]; rfl
      go_wp2_with fail
      refine HO.out.mono ?_
      rintro e w2 ⟨rfl, hf2⟩
      replace d0 := hf2.cell d0 not_false
      replace d1 := hf2.cell d1 not_false
      replace d2 := hf2.cell d2 not_false
      replace d3 := hf2.cell d3 not_false
      replace d4 := hf2.cell d4 not_false
      replace d5 := hf2.cell d5 not_false
      replace d6 := hf2.cell d6 not_false
      replace d7 := hf2.cell d7 not_false
      have HF2 := hid (HF0.out.trans' hf2)
      clear hf2
      have hat : ∀ w3, w3 = w2.alloc (.cells #[.int .i64 x.ln, .iface 175 (.pointer (some a9))] 124) → AtV pa w3 q (.iface 121 (.pointer (some ⟨w2.heap.size, 0, none⟩))) := fun w3 h3 => .inr ⟨by rw [HQ.out]; exact HZ.out, w2.heap.size, rfl, by rw [h3, HQ.out, HA9.out]; exact heap_alloc_new _ _⟩
      have HAT := hid hat
      clear hat
      go_wp2_with fail
      go_ret
      exact ⟨_, rfl, HF2.out.alloc _, HAT.out _ rfl⟩
    case pos =>
    subst hz
    obtain ⟨-, hfull⟩ : (0 : Nat) = 0 ∧ pCounts x.op x.l.length = true := by
      rcases hpo with h | h | h
      · exact h
      · cases h
      · cases h
    have hRL := hRl hfull
    rw [if_pos rfl] at hq
    have HFU := hid hfull; have HQ := hid hq
    clear hpo hRl hfull hq
    generalize pCounts x.op x.l.length = full at *
    generalize pRoles x.op x.l.length = R at *
    generalize pWalk x role loop = q0 at *
    go_enter Tryd.func66, Tryd.ntmps66
    go_upto_region 1 with fail
    generalize hW0 : w.alloc (.cells #[.int .i64 x.op, .int .i64 x.ln, .string x.s, .int .i64 x.v.k, .int .i64 x.v.n, .string x.v.s, .slice va x.v.l.length vc, .slice la x.l.length lc] 36) = W0 at *
    clear hW0
    have d0 : W0.cell? ⟨w.heap.size, 0, none⟩ = some (.int .i64 x.op) := by rw [cell_of_row _ _ 0 _ _ _ HG0.out]; rfl
    have d1 : W0.cell? ⟨w.heap.size, 1, none⟩ = some (.int .i64 x.ln) := by rw [cell_of_row _ _ 1 _ _ _ HG0.out]; rfl
    have d2 : W0.cell? ⟨w.heap.size, 2, none⟩ = some (.string x.s) := by rw [cell_of_row _ _ 2 _ _ _ HG0.out]; rfl
    have d3 : W0.cell? ⟨w.heap.size, 3, none⟩ = some (.int .i64 x.v.k) := by rw [cell_of_row _ _ 3 _ _ _ HG0.out]; rfl
    have d4 : W0.cell? ⟨w.heap.size, 4, none⟩ = some (.int .i64 x.v.n) := by rw [cell_of_row _ _ 4 _ _ _ HG0.out]; rfl
    have d5 : W0.cell? ⟨w.heap.size, 5, none⟩ = some (.string x.v.s) := by rw [cell_of_row _ _ 5 _ _ _ HG0.out]; rfl
    have d6 : W0.cell? ⟨w.heap.size, 6, none⟩ = some (.slice va x.v.l.length vc) := by rw [cell_of_row _ _ 6 _ _ _ HG0.out]; rfl
    have d7 : W0.cell? ⟨w.heap.size, 7, none⟩ = some (.slice la x.l.length lc) := by rw [cell_of_row _ _ 7 _ _ _ HG0.out]; rfl
    have HO2 := hid (show Calls Tryd.prog 84 _ _ (fun e w' => e = .returned .nilIface ∧ _) from HO.out)
    clear HO
    go_wp2_with fail
    refine HO2.out.mono ?_
    rintro e w2 ⟨rfl, hf2⟩
    replace d0 := hf2.cell d0 not_false
    replace d1 := hf2.cell d1 not_false
    replace d2 := hf2.cell d2 not_false
    replace d3 := hf2.cell d3 not_false
    replace d4 := hf2.cell d4 not_false
    replace d5 := hf2.cell d5 not_false
    replace d6 := hf2.cell d6 not_false
    replace d7 := hf2.cell d7 not_false
    have HF2 := hid (HF0.out.trans' hf2)
    have hg2 := hf2.heap HG0.out not_false
    clear hf2 HO2
    go_wp2_with fail
    refine (HR.out _).mono ?_
    rintro e w3 ⟨v3, rfl, hf3, hR3⟩
    have hR3 := hR3 HFU.out
    have HF3 := hid (HF2.out.trans' hf3)
    have hg3 := hf3.heap hg2 not_false
    obtain ⟨ra, rc, rfl, -, -, hrc⟩ := hR3
    replace d7 := hf3.cell d7 not_false
    have d0 : w3.cell? ⟨w.heap.size, 0, none⟩ = some (.int .i64 x.op) := by rw [cell_of_row _ _ 0 _ _ _ hg3]; rfl
    have HRC := hid hrc; have HRL := hid hRL
    clear d1 d2 d3 d4 d5 d6 hf3 hg2 hg3 hrc
    rw [hRL]
    clear hRL
    go_wp2_with fail
    go_loopw [35] (fun i wr => ∃ k : Nat, k ≤ x.l.length ∧ i = .int .i64 k ∧ Hid (q0 = pWalkL x.op role loop R k (x.l.drop k)) ∧ Fr (fun _ => False) w3 wr) (fun i _ => x.l.length - (intOf i).toNat)
    case atStart => exact ⟨0, Nat.zero_le _, rfl, hid (by rw [HQ.out]; rfl), Fr.refl _ _⟩
    case round =>
      obtain ⟨k, hk, rfl, HS, hf⟩ := hrel
      by_cases hlt : k < x.l.length
      · have hlt' : (k : Int) < x.l.length := by omega
        obtain ⟨b, o, y, yva, c1, a', c', rfl, -, hy, hv, e0, e1, e2, e3, e4, e5, e6, e7⟩ := NL.elem HB.out HI.out k hlt
        have hfw := HF3.out.trans' hf
        replace e0 := hfw.cell e0 not_false
        replace e1 := hfw.cell e1 not_false
        replace e2 := hfw.cell e2 not_false
        replace e3 := hfw.cell e3 not_false
        replace e4 := hfw.cell e4 not_false
        replace e5 := hfw.cell e5 not_false
        replace e6 := hfw.cell e6 not_false
        replace e7 := hfw.cell e7 not_false
        obtain ⟨b2, o2, rfl, hrk⟩ := HRC.out k (R.getD k 0) (by have := HRL.out; simp [List.getD, this, hlt])
        have hrr := HRR.out (R.getD k 0) (by have := HRL.out; simp [List.getD, this, hlt])
        have hwr := rW_range (role := role) (op := x.op) (i := k) hrr.1 hrr.2
        replace hrk := hf.cell hrk not_false
        have HW := hid hwr; have HY := hid hy; have HV := hid (hv.frame hfw fun _ _ => not_false); have HFW := hid hfw; have HFR := hid hf
        have HST := hid (pWalkL_step (op := x.op) (role := role) (loop := loop) (R := R) hy)
        replace d0 := hf.cell d0 not_false
        clear hv hy hwr hrr hf hfw d7
        generalize hrk' : R.getD k 0 = rk at *
        clear hrk'
        have hfY := (Fr.refl (fun _ => False) wr).alloc (.cells #[.int .i64 y.op, .int .i64 y.ln, .string y.s, .int .i64 y.v.k, .int .i64 y.v.n, .string y.v.s, .slice yva y.v.l.length c1, .slice a' y.l.length c'] 36)
        have hgY := heap_alloc_new wr (.cells #[.int .i64 y.op, .int .i64 y.ln, .string y.s, .int .i64 y.v.k, .int .i64 y.v.n, .string y.v.s, .slice yva y.v.l.length c1, .slice a' y.l.length c'] 36)
        replace hrk := hfY.cell hrk not_false
        replace d0 := hfY.cell d0 not_false
        have HFW2 := hid (HFW.out.trans' hfY); have HFR2 := hid (HFR.out.trans' hfY); have HGY := hid hgY
        have HV2 := hid (HV.out.frame hfY fun _ _ => not_false)
        clear hfY hgY HV HFW HFR
        go_upto_region 8 with fail
        generalize hW2 : wr.alloc (.cells #[.int .i64 y.op, .int .i64 y.ln, .string y.s, .int .i64 y.v.k, .int .i64 y.v.n, .string y.v.s, .slice yva y.v.l.length c1, .slice a' y.l.length c'] 36) = W2 at *
        clear hW2 e0 e1 e2 e3 e4 e5 e6 e7
        obtain ⟨B2, hB2⟩ : ∃ B2, wr.heap.size = B2 := ⟨_, rfl⟩
        rw [hB2] at HGY ⊢
        clear hB2
        obtain ⟨r9, hr9⟩ : ∃ r9, rW role x.op k rk = r9 := ⟨_, rfl⟩
        obtain ⟨b5, hb5⟩ : ∃ b5, (role == 5) = b5 := ⟨_, rfl⟩
        go_upto_block 2 with fail
        go_cut [12] from 44 to 66 (fun c wx => c = .int .i64 r9 ∧ W2 = wx)
        case first =>
          have HR9 := hid hr9
          clear hr9
          cases b5
          case true =>
            obtain rfl : role = 5 := by simpa using hb5
            have HX := hid (show r9 = 0 by rw [← HR9.out]; rfl)
            go_wp2_with fail
            go_meet
            exact ⟨by rw [HX.out], rfl⟩
          have h1 : role ≠ 5 := by simpa using hb5
          by_cases h2 : role = 2
          · subst h2
            by_cases h3 : x.op = 20
            · by_cases h4 : k = 0
              · have HX := hid (show r9 = 2 by rw [← HR9.out, h3, h4]; rfl)
                subst h4
                rw [h3] at d0
                go_wp2_with fail
                go_meet
                exact ⟨by rw [HX.out], rfl⟩
              · have HX := hid (show r9 = rk by rw [← HR9.out, rW, if_neg (by decide), if_neg (fun h => h4 h.2.2), if_neg (fun h => absurd h.1 (by decide))])
                have q4 : ((k : Int) == 0) = false := by rw [beq_eq_false_iff_ne]; omega
                rw [h3] at d0
                go_wp2_with fail
                go_meet
                exact ⟨by rw [HX.out], rfl⟩
            · have HX := hid (show r9 = rk by rw [← HR9.out, rW, if_neg (by decide), if_neg (fun h => h3 h.2.1), if_neg (fun h => absurd h.1 (by decide))])
              have q3 : (x.op == 20) = false := by simpa using h3
              go_wp2_with fail
              go_meet
              exact ⟨by rw [HX.out], rfl⟩
          have q2 : (role == 2) = false := by simpa using h2
          by_cases h5 : role = 4
          · subst h5
            by_cases h6 : x.op = 26
            · have HX := hid (show r9 = 3 by rw [← HR9.out, rW, if_neg (by decide), if_neg (fun h => absurd h.1 (by decide)), if_pos ⟨rfl, h6⟩])
              rw [h6] at d0
              go_wp2_with fail
              go_meet
              exact ⟨by rw [HX.out], rfl⟩
            · have HX := hid (show r9 = rk by rw [← HR9.out, rW, if_neg (by decide), if_neg (fun h => absurd h.1 (by decide)), if_neg (fun h => h6 h.2)])
              have q3 : (x.op == 26) = false := by simpa using h6
              go_wp2_with fail
              go_meet
              exact ⟨by rw [HX.out], rfl⟩
          · have HX := hid (show r9 = rk by rw [← HR9.out, rW, if_neg h1, if_neg (fun h => h2 h.1), if_neg (fun h => h5 h.1)])
            have q3 : (role == 4) = false := by simpa using h5
            go_wp2_with fail
            go_meet
            exact ⟨by rw [HX.out], rfl⟩
        case rest =>
        obtain ⟨rfl, rfl⟩ := hcut
        rw [hr9] at HW HST
        clear hr9 hrk
        obtain ⟨i9, hi9⟩ : ∃ i9, inW x.op loop r9 = i9 := ⟨_, rfl⟩
        rw [hi9] at HST
        go_upto_region 15 with fail
        go_cut [13] from 67 to 81 (fun c wx => c = .bool i9 ∧ W2 = wx)
        case first =>
          have HI9 := hid hi9
          clear hi9
          have HLO := hid (loops_any x.op W2)
          have HP : inW x.op loop r9 = ((loop && x.op != 48) || (pLoops x.op && r9 == 6)) := rfl
          rw [HP] at HI9
          clear HP
          generalize pLoops x.op = lo at *
          cases loop
          · go_wp2_with fail
            refine HLO.out.mono ?_
            rintro e w8 ⟨rfl, rfl⟩
            have HX := hid (show i9 = (lo && r9 == 6) by rw [← HI9.out]; rfl)
            cases lo
            · go_wp2_with fail
              go_meet
              exact ⟨by rw [HX.out]; rfl, rfl⟩
            · go_wp2_with fail
              go_meet
              exact ⟨by rw [HX.out]; rfl, rfl⟩
          · obtain ⟨b8, hb8⟩ : ∃ b8, (x.op != 48) = b8 := ⟨_, rfl⟩
            cases b8
            · have HX := hid (show i9 = (lo && r9 == 6) by rw [← HI9.out, hb8]; rfl)
              go_wp2_with fail
              refine HLO.out.mono ?_
              rintro e w8 ⟨rfl, rfl⟩
              cases lo
              · go_wp2_with fail
                go_meet
                exact ⟨by rw [HX.out]; rfl, rfl⟩
              · go_wp2_with fail
                go_meet
                exact ⟨by rw [HX.out]; rfl, rfl⟩
            · have HX := hid (show i9 = true by rw [← HI9.out, hb8]; rfl)
              go_wp2_with fail
              go_meet
              exact ⟨by rw [HX.out], rfl⟩
        case rest =>
        obtain ⟨rfl, rfl⟩ := hcut
        clear hi9 d0
        have y0 : W2.cell? ⟨B2, 0, none⟩ = some (.int .i64 y.op) := by rw [cell_of_row _ _ 0 _ _ _ HGY.out]; rfl
        have y1 : W2.cell? ⟨B2, 1, none⟩ = some (.int .i64 y.ln) := by rw [cell_of_row _ _ 1 _ _ _ HGY.out]; rfl
        have y2 : W2.cell? ⟨B2, 2, none⟩ = some (.string y.s) := by rw [cell_of_row _ _ 2 _ _ _ HGY.out]; rfl
        have y3 : W2.cell? ⟨B2, 3, none⟩ = some (.int .i64 y.v.k) := by rw [cell_of_row _ _ 3 _ _ _ HGY.out]; rfl
        have y4 : W2.cell? ⟨B2, 4, none⟩ = some (.int .i64 y.v.n) := by rw [cell_of_row _ _ 4 _ _ _ HGY.out]; rfl
        have y5 : W2.cell? ⟨B2, 5, none⟩ = some (.string y.v.s) := by rw [cell_of_row _ _ 5 _ _ _ HGY.out]; rfl
        have y6 : W2.cell? ⟨B2, 6, none⟩ = some (.slice yva y.v.l.length c1) := by rw [cell_of_row _ _ 6 _ _ _ HGY.out]; rfl
        have y7 : W2.cell? ⟨B2, 7, none⟩ = some (.slice a' y.l.length c') := by rw [cell_of_row _ _ 7 _ _ _ HGY.out]; rfl
        have HC := hid (HIH.out k y HY.out r9 HW.out.1 HW.out.2 i9 W2 _ HFW2.out HV2.out)
        obtain ⟨q9, hq9⟩ : ∃ q9, pWalk y r9 i9 = q9 := ⟨_, rfl⟩
        rw [hq9] at HC HST
        have HST := hid HST.out
        clear hq9
        go_wp2_with fail
        refine HC.out.mono ?_
        rintro e w9 ⟨v9, rfl, hf9, ha9⟩
        have HF9 := hid (HFR2.out.trans' hf9)
        have HFF := hid (HF3.out.trans' (HFR2.out.trans' hf9))
        clear hf9 y0 y1 y2 y3 y4 y5 y6 y7
        rcases ha9 with ⟨hz9, rfl⟩ | ⟨hz9, b9, rfl, hb9⟩
        · have HS2 := hid (show q0 = pWalkL x.op role loop R (k + 1) (x.l.drop (k + 1)) by rw [HS.out, HST.out, if_pos hz9])
          clear hz9
          go_wp2_with fail
          go_roundw
          case rel => exact ⟨k + 1, by omega, by go_num, HS2, HF9.out⟩
          case measure => simp [intOf]; omega
        · have HAT := hid (show AtV pa w9 q0 (.iface 121 (.pointer (some ⟨b9, 0, none⟩))) by rw [HS.out, HST.out, if_neg hz9]; exact .inr ⟨hz9, b9, rfl, hb9⟩)
          clear hz9 hb9
          go_wp2_with fail
          go_ret
          exact ⟨_, rfl, HFF.out, HAT.out⟩
      · obtain rfl : k = x.l.length := by omega
        have HQ0 := hid (show q0 = (0, 0) by rw [HS.out, List.drop_length, pWalkL_nil])
        have HFF := hid (HF3.out.trans' hf)
        go_wp2_with fail
        go_ret
        exact ⟨_, rfl, HFF.out, .inl ⟨by rw [HQ0.out], rfl⟩⟩
end
section
open Go.RowKit

def okC (n : Nat) : Prop := n = 0 ∨ n = 103 ∨ n = 106
mutual
theorem pWalk_code : ∀ (x : Nd) (role : Int) (loop : Bool), okC (pWalk x role loop).1
  | .mk op ln s v l, role, loop => by
    rw [pWalk]
    split
    · exact pWalkL_code l _ _ _ _ _
    · rcases pOwn_cases (.mk op ln s v l) role loop with ⟨h, -⟩ | h | h
      · exact .inl h
      · exact .inr (.inl h)
      · exact .inr (.inr h)
theorem pWalkL_code : ∀ (l : List Nd) (op role : Int) (loop : Bool) (R : List Int) (i : Nat), okC (pWalkL op role loop R i l).1
  | [], op, role, loop, R, i => by rw [pWalkL]; exact .inl rfl
  | y :: r, op, role, loop, R, i => by
    rw [pWalkL]
    split
    · exact pWalkL_code r _ _ _ _ _
    · exact pWalk_code y _ _
end
/-- What is first amiss with nodes that stand where something has to. -/
def pVals (role : Int) : List Nd → Nat × Int
  | [] => (0, 0)
  | y :: r => if (pWalk y role false).1 = 0 then pVals role r else pWalk y role false
theorem pVals_code (role : Int) : ∀ l, okC (pVals role l).1
  | [] => .inl rfl
  | y :: r => by
    rw [pVals]
    split
    · exact pVals_code role r
    · exact pWalk_code y _ _
theorem pVals_step {role : Int} {l : List Nd} {k : Nat} {y : Nd} (h : l[k]? = some y) : pVals role (l.drop k) = if (pWalk y role false).1 = 0 then pVals role (l.drop (k + 1)) else pWalk y role false := by
  rw [drop_at h, pVals]

/-- A fault: its number (0: none), whether it has a place, the place. -/
structure Flt where
  c : Nat
  p : Bool
  l : Int
def fltAt (q : Nat × Int) : Flt := if q.1 = 0 then ⟨0, false, 0⟩ else ⟨q.1, true, q.2⟩
/-- How a fault lies in the world as an error. -/
def ErrIs (pa : Nat → Addr) (w : World) (f : Flt) (v : Value) : Prop :=
  ErrNo f.c ∧ ((f.p = false ∧ f.l = 0 ∧ v = errV pa f.c) ∨ (f.p = true ∧ f.c ≠ 0 ∧ ∃ b, v = .iface 121 (.pointer (some ⟨b, 0, none⟩)) ∧ w.heap[b]? = some (.cells #[.int .i64 f.l, errV pa f.c] 124)))
theorem ErrIs.frame {pa : Nat → Addr} {w w' : World} {f : Flt} {v : Value} (h : ErrIs pa w f v) (hf : Fr (fun _ => False) w w') : ErrIs pa w' f v := by
  obtain ⟨h1, h2 | ⟨h2, h3, b, e, hb⟩⟩ := h
  · exact ⟨h1, .inl h2⟩
  · exact ⟨h1, .inr ⟨h2, h3, b, e, hf.heap hb not_false⟩⟩
theorem AtV.err {pa : Nat → Addr} {w : World} {q : Nat × Int} {v : Value} (h : AtV pa w q v) (hc : okC q.1) : ErrIs pa w (fltAt q) v := by
  rcases h with ⟨h, rfl⟩ | ⟨h, b, e, hb⟩
  · rw [fltAt, if_pos h]
    exact ⟨.inl rfl, .inl ⟨rfl, rfl, rfl⟩⟩
  · rw [fltAt, if_neg h]
    refine ⟨?_, .inr ⟨rfl, h, b, e, hb⟩⟩
    rcases hc with hc | hc | hc
    · exact absurd hc h
    · exact .inr (by simp only [hc]; omega)
    · exact .inr (by simp only [hc]; omega)
/-- What valid tells. -/
def pValid (l : List Nd) (role : Int) : Flt := if 4096 < cntL l then ⟨104, false, 0⟩ else if 40 < depL l then ⟨112, false, 0⟩ else fltAt (pVals role l)
set_option maxRecDepth 100000 in
set_option maxHeartbeats 6400000 in
theorem valid_any (pa : Nat → Addr) (l : List Nd) (role : Int) (hr0 : 0 ≤ role) (hr8 : role ≤ 8) (hz : szL l ≤ 1099511627776) (D : Nat → Prop) (w : World) (v : Value) (h : NL D w l v) (hE : Sent17 w pa) (hg : 7 ≤ w.heap.size) :
    Calls Tryd.prog 35 #[v, .int .i64 role] w fun e w' => ∃ v, e = .returned v ∧ Fr (fun _ => False) w w' ∧ ErrIs pa w' (pValid l role) v := by
  have hcs := cntL_szL l
  have HCN := hid (cnt_any (cntL l + 1) l (by omega) (by omega) 0 (by omega) D w v h)
  have HDP := hid (fun w2 (hf : Fr (fun _ => False) w w2) => tdeep_any (cntL l + 1) l (by omega) (by omega) D w2 v (h.frame hf fun _ _ => not_false))
  have hdc := depL_le' l
  have hs3 : ∀ w2, Fr (fun _ => False) w w2 → w2.cell? ⟨2, 0, none⟩ = some (errV pa 104) := fun w2 hf => (hE.frame hf).s 3 (by decide)
  have hs11 : ∀ w2, Fr (fun _ => False) w w2 → w2.cell? ⟨3, 0, none⟩ = some (errV pa 112) := fun w2 hf => (hE.frame hf).s 11 (by decide)
  have HS3 := hid hs3; have HS11 := hid hs11
  obtain ⟨a, cap, us, rfl, hc, hm, hn, hb, hi⟩ := h
  have HPV := hid (show pValid l role = if 4096 < cntL l then ⟨104, false, 0⟩ else if 40 < depL l then ⟨112, false, 0⟩ else fltAt (pVals role l) from rfl)
  have hW : ∀ (k : Nat) (y : Nd), l[k]? = some y → ¬ 4096 < cntL l → ∀ (w2 : World) (u : Array Value), Fr (fun _ => False) w w2 → NIn D w2 y u → Calls Tryd.prog 66 #[.agg u, .int .i64 role, .bool false] w2 fun e w' => ∃ v, e = .returned v ∧ Fr (fun _ => False) w2 w' ∧ AtV pa w' (pWalk y role false) v := fun k y hy hl w2 u hf hn => by
    have h1 := cntL_mem hy
    have h2 := szL_mem hy
    exact walk_any pa (y.cnt + 1) y (by omega) (by omega) (by omega) role hr0 hr8 false D w2 u hn (hE.frame hf) (by have := hf.size; omega)
  have hll : (l.length : Int) ≤ 1099511627776 := by have := len_le_cnt l; omega
  have HW := hid hW; have HB := hid hb; have HI := hid hi; have HZ := hid hz; have HCS := hid hcs; have HDC := hid hdc
  clear hW hb hi hz hcs hdc hs3 hs11 hE hg hc hm hn hr0 hr8
  go_enter Tryd.func35, Tryd.ntmps35
  go_wp2_with fail
  refine HCN.out.mono ?_
  rintro e w1 ⟨rfl, hf1⟩
  have HF1 := hid hf1
  clear hf1
  by_cases hbig : 4096 < cntL l
  · have HX := hid (show pValid l role = ⟨104, false, 0⟩ by rw [HPV.out, if_pos hbig])
    rw [show (min (0 + cntL l) 4097 : Nat) = 4097 by omega]
    have s3 := HS3.out w1 HF1.out
    clear hbig
    go_wp2_with fail
    go_ret
    exact ⟨_, rfl, HF1.out, by rw [HX.out]; exact ⟨.inr (by decide), .inl ⟨rfl, rfl, rfl⟩⟩⟩
  have hsm : ¬ (4096 : Int) < ((min (0 + cntL l) 4097 : Nat) : Int) := by omega
  obtain ⟨c9, hc9⟩ : ∃ c9, (min (0 + cntL l) 4097 : Nat) = c9 := ⟨_, rfl⟩
  rw [hc9] at hsm ⊢
  have HBIG := hid hbig
  clear hbig hc9
  go_wp2_with fail
  refine (HDP.out w1 HF1.out).mono ?_
  rintro e w2 ⟨rfl, hf2⟩
  have HF2 := hid (HF1.out.trans' hf2)
  clear hf2
  by_cases hdeep : 40 < depL l
  · have HX := hid (show pValid l role = ⟨112, false, 0⟩ by rw [HPV.out, if_neg HBIG.out, if_pos hdeep])
    have s11 := HS11.out w2 HF2.out
    have hd1 : (40 : Int) < depL l := by omega
    have hd2 : (depL l : Int) ≤ 1099511627776 := by have := HDC.out; have := HCS.out; have := HZ.out; omega
    clear hdeep
    go_wp2_with fail
    go_ret
    exact ⟨_, rfl, HF2.out, by rw [HX.out]; exact ⟨.inr (by decide), .inl ⟨rfl, rfl, rfl⟩⟩⟩
  have hd1 : ¬ (40 : Int) < depL l := by omega
  have HX := hid (show pValid l role = fltAt (pVals role l) by rw [HPV.out, if_neg HBIG.out, if_neg hdeep])
  clear hdeep hsm
  go_wp2_with fail
  go_loopw [18] (fun i wr => ∃ k : Nat, k ≤ l.length ∧ i = .int .i64 k ∧ Hid (pVals role l = pVals role (l.drop k)) ∧ Fr (fun _ => False) w2 wr) (fun i _ => l.length - (intOf i).toNat)
  case atStart => exact ⟨0, Nat.zero_le _, rfl, hid rfl, Fr.refl _ _⟩
  case round =>
    obtain ⟨k, hk, rfl, HS, hf⟩ := hrel
    by_cases hlt : k < l.length
    · have hlt' : (k : Int) < l.length := by omega
      obtain ⟨b, o, y, yva, c1, a', c', rfl, -, hy, hv, e0, e1, e2, e3, e4, e5, e6, e7⟩ := NL.elem HB.out HI.out k hlt
      have hfw := HF2.out.trans' hf
      replace e0 := hfw.cell e0 not_false
      replace e1 := hfw.cell e1 not_false
      replace e2 := hfw.cell e2 not_false
      replace e3 := hfw.cell e3 not_false
      replace e4 := hfw.cell e4 not_false
      replace e5 := hfw.cell e5 not_false
      replace e6 := hfw.cell e6 not_false
      replace e7 := hfw.cell e7 not_false
      have HST := hid (pVals_step (role := role) hy)
      have hfY := (Fr.refl (fun _ => False) wr).alloc (.cells #[.int .i64 y.op, .int .i64 y.ln, .string y.s, .int .i64 y.v.k, .int .i64 y.v.n, .string y.v.s, .slice yva y.v.l.length c1, .slice a' y.l.length c'] 36)
      have hgY := heap_alloc_new wr (.cells #[.int .i64 y.op, .int .i64 y.ln, .string y.s, .int .i64 y.v.k, .int .i64 y.v.n, .string y.v.s, .slice yva y.v.l.length c1, .slice a' y.l.length c'] 36)
      have HFW2 := hid (hfw.trans' hfY); have HFR2 := hid (hf.trans' hfY); have HGY := hid hgY
      have HV2 := hid (hv.frame (hfw.trans' hfY) fun _ _ => not_false); have HY := hid hy
      clear hfY hgY hv hy hf hfw
      go_upto_region 8 with fail
      generalize hW2 : wr.alloc (.cells #[.int .i64 y.op, .int .i64 y.ln, .string y.s, .int .i64 y.v.k, .int .i64 y.v.n, .string y.v.s, .slice yva y.v.l.length c1, .slice a' y.l.length c'] 36) = W2 at *
      clear hW2 e0 e1 e2 e3 e4 e5 e6 e7
      obtain ⟨B2, hB2⟩ : ∃ B2, wr.heap.size = B2 := ⟨_, rfl⟩
      rw [hB2] at HGY ⊢
      clear hB2
      have y0 : W2.cell? ⟨B2, 0, none⟩ = some (.int .i64 y.op) := by rw [cell_of_row _ _ 0 _ _ _ HGY.out]; rfl
      have y1 : W2.cell? ⟨B2, 1, none⟩ = some (.int .i64 y.ln) := by rw [cell_of_row _ _ 1 _ _ _ HGY.out]; rfl
      have y2 : W2.cell? ⟨B2, 2, none⟩ = some (.string y.s) := by rw [cell_of_row _ _ 2 _ _ _ HGY.out]; rfl
      have y3 : W2.cell? ⟨B2, 3, none⟩ = some (.int .i64 y.v.k) := by rw [cell_of_row _ _ 3 _ _ _ HGY.out]; rfl
      have y4 : W2.cell? ⟨B2, 4, none⟩ = some (.int .i64 y.v.n) := by rw [cell_of_row _ _ 4 _ _ _ HGY.out]; rfl
      have y5 : W2.cell? ⟨B2, 5, none⟩ = some (.string y.v.s) := by rw [cell_of_row _ _ 5 _ _ _ HGY.out]; rfl
      have y6 : W2.cell? ⟨B2, 6, none⟩ = some (.slice yva y.v.l.length c1) := by rw [cell_of_row _ _ 6 _ _ _ HGY.out]; rfl
      have y7 : W2.cell? ⟨B2, 7, none⟩ = some (.slice a' y.l.length c') := by rw [cell_of_row _ _ 7 _ _ _ HGY.out]; rfl
      have HC := hid (HW.out k y HY.out HBIG.out W2 _ HFW2.out HV2.out)
      have HCO := hid (pWalk_code y role false)
      obtain ⟨q9, hq9⟩ : ∃ q9, pWalk y role false = q9 := ⟨_, rfl⟩
      rw [hq9] at HC HST HCO
      have HST := hid HST.out
      clear hq9
      go_wp2_with fail
      refine HC.out.mono ?_
      rintro e w9 ⟨v9, rfl, hf9, ha9⟩
      have HF9 := hid (HFR2.out.trans' hf9)
      have HFF := hid (HF2.out.trans' (HFR2.out.trans' hf9))
      clear hf9 y0 y1 y2 y3 y4 y5 y6 y7
      rcases ha9 with ⟨hz9, rfl⟩ | ⟨hz9, b9, rfl, hb9⟩
      · have HS2 := hid (show pVals role l = pVals role (l.drop (k + 1)) by rw [HS.out, HST.out, if_pos hz9])
        clear hz9
        go_wp2_with fail
        go_roundw
        case rel => exact ⟨k + 1, by omega, by go_num, HS2, HF9.out⟩
        case measure => simp [intOf]; omega
      · have HAT := hid (show ErrIs pa w9 (pValid l role) (.iface 121 (.pointer (some ⟨b9, 0, none⟩))) by rw [HX.out, HS.out, HST.out, if_neg hz9]; exact AtV.err (.inr ⟨hz9, b9, rfl, hb9⟩) HCO.out)
        clear hz9 hb9
        go_wp2_with fail
        go_ret
        exact ⟨_, rfl, HFF.out, HAT.out⟩
    · obtain rfl : k = l.length := by omega
      have HAT := hid (show ErrIs pa wr (pValid l role) .nilIface by rw [HX.out, HS.out, List.drop_length]; exact ⟨.inl rfl, .inl ⟨rfl, rfl, rfl⟩⟩)
      have HFF := hid (HF2.out.trans' hf)
      go_wp2_with fail
      go_ret
      exact ⟨_, rfl, HFF.out, HAT.out⟩
theorem tvalid_any (pa : Nat → Addr) (l : List Nd) (hz : szL l ≤ 1099511627776) (D : Nat → Prop) (w : World) (v : Value) (h : NL D w l v) (hE : Sent17 w pa) (hg : 7 ≤ w.heap.size) :
    Calls Tryd.prog 19 #[v] w fun e w' => ∃ v, e = .returned v ∧ Fr (fun _ => False) w w' ∧ ErrIs pa w' (pValid l 7) v := by
  have HC := hid (valid_any pa l 7 (by decide) (by decide) hz D w v h hE hg)
  obtain ⟨a, cap, us, rfl, -⟩ := h
  clear hE hg hz
  go_enter Tryd.func19, Tryd.ntmps19
  go_wp2_with fail
  refine HC.out.mono ?_
  rintro e w2 ⟨v2, rfl, hf2, hv2⟩
  go_wp2_with fail
  go_ret
  exact ⟨_, rfl, hf2, hv2⟩
/-- A row of one node, of two. -/
theorem NL.lit1 {D : Nat → Prop} {w : World} {g : Nat} {x : Nd} {u : Array Value} {t : TypeId} {fz : Nat × Nat} (h : w.heap[g]? = some (.cells u t fz)) (hD : D g) (hx : NIn D w x u) : NL D w [x] (.slice (some ⟨g, 0, none⟩) 1 1) := by
  have hu : u.size = 8 := by obtain ⟨va, v, rfl, _⟩ := hx.open; rfl
  refine ⟨_, _, fun _ => u, rfl, Nat.le_refl _, by decide, (fun h => by cases h), fun i hi => ⟨g, 0, rfl, hD, hu, fun j hj => ?_⟩, fun i y hy => ?_⟩
  · obtain rfl : i = 0 := by simp at hi; omega
    rw [cell_of_row w g _ _ _ _ h]
    simp
  · obtain ⟨hi, rfl⟩ := List.getElem?_eq_some_iff.1 hy
    obtain rfl : i = 0 := by simp at hi; omega
    exact hx
theorem NL.lit2 {D : Nat → Prop} {w : World} {g : Nat} {x y : Nd} {u v c : Array Value} {t : TypeId} {fz : Nat × Nat} (h : w.heap[g]? = some (.cells c t fz)) (hc : c = u ++ v) (hD : D g) (hx : NIn D w x u) (hy : NIn D w y v) : NL D w [x, y] (.slice (some ⟨g, 0, none⟩) 2 2) := by
  have hu : u.size = 8 := by obtain ⟨va, v, rfl, _⟩ := hx.open; rfl
  have hv : v.size = 8 := by obtain ⟨va, v, rfl, _⟩ := hy.open; rfl
  subst hc
  refine ⟨_, _, fun i => if i = 0 then u else v, rfl, Nat.le_refl _, by decide, (fun h => by cases h), fun i hi => ⟨g, 0, rfl, hD, ?_, fun j hj => ?_⟩, fun i z hz => ?_⟩
  · dsimp only
    split
    · exact hu
    · exact hv
  · rw [cell_of_row w g _ _ _ _ h]
    obtain rfl | rfl : i = 0 ∨ i = 1 := by simp at hi; omega
    · change (u ++ v)[0 + 0 * 8 + j]? = u[j]?
      rw [Array.getElem?_append_left (by omega)]
      simp
    · change (u ++ v)[0 + 1 * 8 + j]? = v[j]?
      rw [Array.getElem?_append_right (by omega)]
      congr 1
      omega
  · obtain ⟨hi, rfl⟩ := List.getElem?_eq_some_iff.1 hz
    obtain rfl | rfl : i = 0 ∨ i = 1 := by simp at hi; omega
    · exact hx
    · exact hy
end
section
open Go.RowKit

end
section
open Go.RowKit

def v0 : V := .mk 0 0 ⟨#[]⟩ []
/-- A node with an Op, and what it has. -/
def nd0 (op : Int) (l : List Nd) : Nd := .mk op 0 ⟨#[]⟩ v0 l
/-- Its cells. -/
def nU (op : Int) (la : Value) : Array Value := #[.int .i64 op, .int .i64 0, .string ⟨#[]⟩, .int .i64 0, .int .i64 0, .string ⟨#[]⟩, .slice none 0 0, la]
theorem nd0_in {D : Nat → Prop} {w : World} (op : Int) {l : List Nd} {va : Value} (h : NL D w l va) : NIn D w (nd0 op l) (nU op va) := h.close op 0 ⟨#[]⟩ v0 (VL.nil D w)
mutual
theorem pWalk_zero : ∀ (x : Nd) (role : Int) (loop : Bool), (pWalk x role loop).1 = 0 → pWalk x role loop = (0, 0)
  | .mk op ln s v l, role, loop => by
    rw [pWalk]
    split
    · exact pWalkL_zero l _ _ _ _ _
    · intro h
      exact absurd h ‹_›
theorem pWalkL_zero : ∀ (l : List Nd) (op role : Int) (loop : Bool) (R : List Int) (i : Nat), (pWalkL op role loop R i l).1 = 0 → pWalkL op role loop R i l = (0, 0)
  | [], op, role, loop, R, i => by rw [pWalkL]; intro _; rfl
  | y :: r, op, role, loop, R, i => by
    rw [pWalkL]
    split
    · exact pWalkL_zero r _ _ _ _ _
    · intro h
      exact absurd h ‹_›
end
theorem walk1 (op role : Int) (loop : Bool) (R : List Int) (a : Nd) : pWalkL op role loop R 0 [a] = pWalk a (rW role op 0 (R.getD 0 0)) (inW op loop (rW role op 0 (R.getD 0 0))) := by
  rw [pWalkL_cons, pWalkL_nil]
  split
  · exact (pWalk_zero _ _ _ ‹_›).symm
  · rfl
theorem walk2 (op role : Int) (loop : Bool) (R : List Int) (a b : Nd) (ha : (pWalk a (rW role op 0 (R.getD 0 0)) (inW op loop (rW role op 0 (R.getD 0 0)))).1 = 0) : pWalkL op role loop R 0 [a, b] = pWalk b (rW role op 1 (R.getD 1 0)) (inW op loop (rW role op 1 (R.getD 1 0))) := by
  rw [pWalkL_cons, if_pos ha, pWalkL_cons, pWalkL_nil]
  split
  · exact (pWalk_zero _ _ _ ‹_›).symm
  · rfl
theorem walk2b (op role : Int) (loop : Bool) (R : List Int) (a b : Nd) (hb : (pWalk b (rW role op 1 (R.getD 1 0)) (inW op loop (rW role op 1 (R.getD 1 0)))).1 = 0) : pWalkL op role loop R 0 [a, b] = pWalk a (rW role op 0 (R.getD 0 0)) (inW op loop (rW role op 0 (R.getD 0 0))) := by
  rw [pWalkL_cons]
  split
  · rw [pWalkL_cons, if_pos hb, pWalkL_nil]
    exact (pWalk_zero _ _ _ ‹_›).symm
  · rfl
def oneN : Nd := .mk 1 0 ⟨#[]⟩ (.mk 0 1 ⟨#[]⟩ []) []
def blkN (l : List Nd) : Nd := nd0 52 l
def wrapN (c : Int) (n : Nd) : Nd :=
  if c = 0 then nd0 44 [oneN, blkN [n]] else if c = 1 then nd0 48 [oneN, blkN [n]] else if c = 2 then nd0 41 [oneN, blkN [n]] else if c = 3 then nd0 51 [blkN [n], blkN []] else nd0 49 [blkN [n], nd0 50 [nd0 25 [], blkN []]]
def stL (c : Int) (lp : Bool) : Bool := if c = 0 then true else if c = 1 then false else lp
theorem bytes0 : (⟨#[]⟩ : ByteArray).toList.isEmpty = true := by rw [ByteArray.toList_eq]; rfl
theorem own0 (op : Int) (l : List Nd) (role : Int) (lp : Bool) : pOwn (nd0 op l) role lp = if ownBad (fair1 (pStands op role) lp op && (if op = 1 then litOk v0 else true)) (pCounts op l.length) (pNamed op).1 true then 103 else if ownBad2 (pNamed op).1 (pName ⟨#[]⟩) (pNamed op).2 true then 106 else 0 := by
  have h1 : noV v0 = true := by unfold noV; rw [show v0.s = ⟨#[]⟩ from rfl, bytes0]; rfl
  have h2 : pOwn (nd0 op l) role lp = if ownBad (fair1 (pStands op role) lp op && fairV op v0) (pCounts op l.length) (pNamed op).1 (⟨#[]⟩ : ByteArray).toList.isEmpty then 103 else if ownBad2 (pNamed op).1 (pName ⟨#[]⟩) (pNamed op).2 (⟨#[]⟩ : ByteArray).toList.isEmpty then 106 else 0 := rfl
  rw [h2, bytes0]
  unfold fairV
  rw [h1]
theorem own_one (lp : Bool) : pWalk oneN 0 lp = (0, 0) := by
  have h2 : pOwn oneN 0 lp = if ownBad (fair1 (pStands 1 0) lp 1 && litOk (.mk 0 1 ⟨#[]⟩ [])) true false (⟨#[]⟩ : ByteArray).toList.isEmpty then 103 else if ownBad2 false (pName ⟨#[]⟩) false (⟨#[]⟩ : ByteArray).toList.isEmpty then 106 else 0 := rfl
  have h3 : pOwn oneN 0 lp = 0 := by
    rw [h2, bytes0]
    generalize pName _ = nm
    cases nm <;> cases lp <;> rfl
  rw [pWalk_eq, if_pos h3]
  exact pWalkL_nil _ _ _ _ _
theorem walk_blk (n : Nd) (lp : Bool) : pWalk (blkN [n]) 6 lp = pWalk n 7 lp := by
  have h0 : pOwn (blkN [n]) 6 lp = 0 := by
    refine (own0 52 [n] 6 lp).trans ?_
    generalize pName _ = nm
    cases nm <;> cases lp <;> rfl
  rw [pWalk_eq, if_pos h0]
  refine (walk1 52 6 lp (pRoles 52 1) n).trans ?_
  cases lp <;> rfl
theorem walk_nil (op role : Int) (lp : Bool) (h : pOwn (nd0 op []) role lp = 0) : pWalk (nd0 op []) role lp = (0, 0) := by
  rw [pWalk_eq, if_pos h]
  exact pWalkL_nil _ _ _ _ _
theorem walk_blk0 (lp : Bool) : pWalk (blkN []) 6 lp = (0, 0) := by
  refine walk_nil 52 6 lp ((own0 52 [] 6 lp).trans ?_)
  generalize pName _ = nm
  cases nm <;> cases lp <;> rfl
theorem walk_exc (lp : Bool) : pWalk (nd0 50 [nd0 25 [], blkN []]) 8 lp = (0, 0) := by
  have h0 : pOwn (nd0 50 [nd0 25 [], blkN []]) 8 lp = 0 := by
    refine (own0 50 _ 8 lp).trans ?_
    generalize pName _ = nm
    cases nm <;> cases lp <;> rfl
  have h1 : ∀ lp, pWalk (nd0 25 []) 5 lp = (0, 0) := fun lp => by
    refine walk_nil 25 5 lp ((own0 25 [] 5 lp).trans ?_)
    generalize pName _ = nm
    cases nm <;> cases lp <;> rfl
  rw [pWalk_eq, if_pos h0]
  refine (walk2 50 8 lp (pRoles 50 2) (nd0 25 []) (blkN []) ?_).trans ?_
  · rw [show rW 8 50 0 ((pRoles 50 2).getD 0 0) = 5 from rfl, h1]
  · rw [show rW 8 50 1 ((pRoles 50 2).getD 1 0) = 6 from rfl, walk_blk0]
theorem walk_loop (n : Nd) (lp : Bool) : pWalk (nd0 44 [oneN, blkN [n]]) 7 lp = pWalk n 7 true := by
  have h0 : pOwn (nd0 44 [oneN, blkN [n]]) 7 lp = 0 := by
    refine (own0 44 _ 7 lp).trans ?_
    generalize pName _ = nm
    cases nm <;> cases lp <;> rfl
  rw [pWalk_eq, if_pos h0]
  refine (walk2 44 7 lp (pRoles 44 2) oneN (blkN [n]) ?_).trans ?_
  · rw [show rW 7 44 0 ((pRoles 44 2).getD 0 0) = 0 from rfl, own_one]
  · rw [show rW 7 44 1 ((pRoles 44 2).getD 1 0) = 6 from rfl, show inW 44 lp 6 = true by cases lp <;> rfl]
    exact walk_blk n true
theorem walk_fork (n : Nd) (lp : Bool) : pWalk (nd0 48 [oneN, blkN [n]]) 7 lp = pWalk n 7 false := by
  have h0 : pOwn (nd0 48 [oneN, blkN [n]]) 7 lp = 0 := by
    refine (own0 48 _ 7 lp).trans ?_
    generalize pName _ = nm
    cases nm <;> cases lp <;> rfl
  rw [pWalk_eq, if_pos h0]
  refine (walk2 48 7 lp (pRoles 48 2) oneN (blkN [n]) ?_).trans ?_
  · rw [show rW 7 48 0 ((pRoles 48 2).getD 0 0) = 0 from rfl, own_one]
  · rw [show rW 7 48 1 ((pRoles 48 2).getD 1 0) = 6 from rfl, show inW 48 lp 6 = false by cases lp <;> rfl]
    exact walk_blk n false
theorem walk_if (n : Nd) (lp : Bool) : pWalk (nd0 41 [oneN, blkN [n]]) 7 lp = pWalk n 7 lp := by
  have h0 : pOwn (nd0 41 [oneN, blkN [n]]) 7 lp = 0 := by
    refine (own0 41 _ 7 lp).trans ?_
    generalize pName _ = nm
    cases nm <;> cases lp <;> rfl
  rw [pWalk_eq, if_pos h0]
  refine (walk2 41 7 lp (pRoles 41 2) oneN (blkN [n]) ?_).trans ?_
  · rw [show rW 7 41 0 ((pRoles 41 2).getD 0 0) = 0 from rfl, own_one]
  · rw [show rW 7 41 1 ((pRoles 41 2).getD 1 0) = 6 from rfl, show inW 41 lp 6 = lp by cases lp <;> rfl]
    exact walk_blk n lp
theorem walk_fin (n : Nd) (lp : Bool) : pWalk (nd0 51 [blkN [n], blkN []]) 7 lp = pWalk n 7 lp := by
  have h0 : pOwn (nd0 51 [blkN [n], blkN []]) 7 lp = 0 := by
    refine (own0 51 _ 7 lp).trans ?_
    generalize pName _ = nm
    cases nm <;> cases lp <;> rfl
  rw [pWalk_eq, if_pos h0]
  refine (walk2b 51 7 lp (pRoles 51 2) (blkN [n]) (blkN []) ?_).trans ?_
  · rw [show rW 7 51 1 ((pRoles 51 2).getD 1 0) = 6 from rfl, walk_blk0]
  · rw [show rW 7 51 0 ((pRoles 51 2).getD 0 0) = 6 from rfl, show inW 51 lp 6 = lp by cases lp <;> rfl]
    exact walk_blk n lp
theorem walk_try (n : Nd) (lp : Bool) : pWalk (nd0 49 [blkN [n], nd0 50 [nd0 25 [], blkN []]]) 7 lp = pWalk n 7 lp := by
  have h0 : pOwn (nd0 49 [blkN [n], nd0 50 [nd0 25 [], blkN []]]) 7 lp = 0 := by
    refine (own0 49 _ 7 lp).trans ?_
    generalize pName _ = nm
    cases nm <;> cases lp <;> rfl
  rw [pWalk_eq, if_pos h0]
  refine (walk2b 49 7 lp (pRoles 49 2) (blkN [n]) (nd0 50 [nd0 25 [], blkN []]) ?_).trans ?_
  · rw [show rW 7 49 1 ((pRoles 49 2).getD 1 0) = 8 from rfl, walk_exc]
  · rw [show rW 7 49 0 ((pRoles 49 2).getD 0 0) = 6 from rfl, show inW 49 lp 6 = lp by cases lp <;> rfl]
    exact walk_blk n lp
theorem walk_wrap (c : Int) (n : Nd) (lp : Bool) : pWalk (wrapN c n) 7 lp = pWalk n 7 (stL c lp) := by
  unfold wrapN stL
  split
  · exact walk_loop n lp
  split
  · exact walk_fork n lp
  split
  · exact walk_if n lp
  split
  · exact walk_fin n lp
  · exact walk_try n lp
/-- The tree of these, about a node. -/
def treeN (cs : List Int) (n : Nd) : Nd := cs.foldl (fun n c => wrapN c n) n
theorem walk_tree : ∀ (cs : List Int) (n : Nd) (lp : Bool), pWalk (treeN cs n) 7 lp = pWalk n 7 (cs.foldr stL lp)
  | [], n, lp => rfl
  | c :: cs, n, lp => by
    show pWalk (treeN cs (wrapN c n)) 7 lp = _
    rw [walk_tree cs, walk_wrap]
    rfl
def loopB (cs : List Int) : Bool := cs.foldr stL false
def doneB (cs : List Int) : Bool := cs.any fun c => c == 0 || c == 1
theorem foldr_st : ∀ (cs : List Int) (lp : Bool), cs.foldr stL lp = (loopB cs || (!doneB cs && lp))
  | [], lp => by simp [loopB, doneB]
  | c :: cs, lp => by
    have ih := foldr_st cs lp
    have ih0 : loopB (c :: cs) = stL c (loopB cs) := rfl
    have id0 : doneB (c :: cs) = ((c == 0 || c == 1) || doneB cs) := rfl
    rw [List.foldr_cons, ih, ih0, id0]
    unfold stL
    by_cases h0 : c = 0
    · subst h0; simp
    by_cases h1 : c = 1
    · subst h1; simp
    · have q0 : (c == 0) = false := by simpa using h0
      have q1 : (c == 1) = false := by simpa using h1
      simp [h0, h1, q0, q1]
theorem loopB_snoc (cs : List Int) (c : Int) : loopB (cs ++ [c]) = if c = 0 then (loopB cs || !doneB cs) else loopB cs := by
  show (cs ++ [c]).foldr stL false = _
  rw [List.foldr_append, foldr_st]
  simp only [List.foldr_cons, List.foldr_nil]
  unfold stL
  by_cases h0 : c = 0
  · subst h0; simp
  by_cases h1 : c = 1
  · subst h1; simp
  · simp [h0, h1]
theorem doneB_snoc (cs : List Int) (c : Int) : doneB (cs ++ [c]) = (doneB cs || (c == 0 || c == 1)) := by
  unfold doneB
  rw [List.any_append]
  simp
theorem treeN_snoc (cs : List Int) (c : Int) (n : Nd) : treeN (cs ++ [c]) n = wrapN c (treeN cs n) := by
  unfold treeN
  rw [List.foldl_append]
  rfl
theorem wrap_cnt (c : Int) (n : Nd) : (wrapN c n).cnt ≤ n.cnt + 5 := by
  unfold wrapN
  repeat' split
  all_goals simp [nd0, blkN, oneN, Nd.cnt, cntL]
  all_goals omega
theorem wrap_dep (c : Int) (n : Nd) : (wrapN c n).dep ≤ n.dep + 2 := by
  have := Nd.dep_eq n
  unfold wrapN
  repeat' split
  all_goals simp [nd0, blkN, oneN, Nd.dep, depL]
  all_goals omega
theorem wrap_sz (c : Int) (n : Nd) : (wrapN c n).sz ≤ n.sz + 20 := by
  unfold wrapN
  have hv : v0.size = 1 := rfl
  have h1 : (V.mk 0 1 ⟨#[]⟩ []).size = 1 := rfl
  have he : (ByteArray.mk #[]).size = 0 := rfl
  repeat' split
  all_goals simp [nd0, blkN, oneN, Nd.sz, szL, hv, h1, he]
  all_goals omega
theorem tree_bounds : ∀ (cs : List Int) (n : Nd), (treeN cs n).cnt ≤ n.cnt + 5 * cs.length ∧ (treeN cs n).dep ≤ n.dep + 2 * cs.length ∧ (treeN cs n).sz ≤ n.sz + 20 * cs.length
  | [], n => ⟨Nat.le_refl _, Nat.le_refl _, Nat.le_refl _⟩
  | c :: cs, n => by
    obtain ⟨h1, h2, h3⟩ := tree_bounds cs (wrapN c n)
    have := wrap_cnt c n
    have := wrap_dep c n
    have := wrap_sz c n
    have he : treeN (c :: cs) n = treeN cs (wrapN c n) := rfl
    rw [he]
    simp only [List.length_cons]
    omega
theorem leaf_walk (op : Int) (h : op = 45 ∨ op = 46) (lp : Bool) : pWalk (nd0 op []) 7 lp = if lp then (0, 0) else (103, 0) := by
  rcases h with rfl | rfl
  all_goals
    cases lp
    · rw [pWalk_eq]
      have h0 := fun op => own0 op [] 7 false
      rw [h0]
      generalize pName _ = nm
      cases nm <;> rfl
    · refine walk_nil _ 7 true ((own0 _ [] 7 true).trans ?_)
      generalize pName _ = nm
      cases nm <;> rfl
theorem pValid_tree (cs : List Int) (hc : cs.length ≤ 15) (op : Int) (h : op = 45 ∨ op = 46) : pValid [treeN cs (nd0 op [])] 7 = if loopB cs then ⟨0, false, 0⟩ else ⟨103, true, 0⟩ := by
  obtain ⟨h1, h2, h3⟩ := tree_bounds cs (nd0 op [])
  have hc0 : (nd0 op []).cnt = 1 := rfl
  have hd0 : (nd0 op []).dep = 1 := rfl
  unfold pValid
  rw [if_neg (by simp only [cntL]; omega), if_neg (by simp only [depL]; omega)]
  have hw := walk_tree cs (nd0 op []) false
  rw [leaf_walk op h] at hw
  have hw2 : pVals 7 [treeN cs (nd0 op [])] = if loopB cs then (0, 0) else (103, 0) := by
    have : cs.foldr stL false = loopB cs := rfl
    rw [this] at hw
    rw [pVals, hw]
    cases loopB cs <;> rfl
  rw [hw2]
  cases loopB cs <;> rfl
end
section
open Go.RowKit

theorem dexpr_any (op : Int) (w : World) : Calls Tryd.prog 82 #[.int .i64 op] w fun e w' => e = .returned (.bool (isExpr op)) ∧ w = w' := by
  by_cases h1 : 1 ≤ op
  · by_cases h2 : op ≤ 29
    · by_cases h3 : op = 26
      · subst h3
        go_enter Tryd.func82, Tryd.ntmps82
        go_wp2
        go_ret
        exact ⟨rfl, rfl⟩
      · have q3 : (op != 26) = true := by simpa using h3
        have HE := hid (show isExpr op = true by unfold isExpr; rw [decide_eq_true h1, decide_eq_true h2, q3]; rfl)
        clear h3
        go_enter Tryd.func82, Tryd.ntmps82
        go_wp2
        go_ret
        exact ⟨ret_bool HE.out.symm, rfl⟩
    · have HE := hid (show isExpr op = false by unfold isExpr; rw [decide_eq_true h1, decide_eq_false h2]; rfl)
      go_enter Tryd.func82, Tryd.ntmps82
      go_wp2
      go_ret
      exact ⟨ret_bool HE.out.symm, rfl⟩
  · have HE := hid (show isExpr op = false by unfold isExpr; rw [decide_eq_false h1]; rfl)
    go_enter Tryd.func82, Tryd.ntmps82
    go_wp2
    go_ret
    exact ⟨ret_bool HE.out.symm, rfl⟩
theorem dstmt_any (op : Int) (w : World) : Calls Tryd.prog 83 #[.int .i64 op] w fun e w' => e = .returned (.bool (pStands op 7)) ∧ w = w' := by
  have HS := hid (show pStands op 7 = (decide (40 ≤ op) && decide (op ≤ 51) && op != 50) from rfl)
  by_cases h1 : 40 ≤ op
  · by_cases h2 : op ≤ 51
    · by_cases h3 : op = 50
      · subst h3
        go_enter Tryd.func83, Tryd.ntmps83
        go_wp2
        go_ret
        exact ⟨rfl, rfl⟩
      · have q3 : (op != 50) = true := by simpa using h3
        have HE := hid (show pStands op 7 = true by rw [HS.out, decide_eq_true h1, decide_eq_true h2, q3]; rfl)
        clear h3
        go_enter Tryd.func83, Tryd.ntmps83
        go_wp2
        go_ret
        exact ⟨ret_bool HE.out.symm, rfl⟩
    · have HE := hid (show pStands op 7 = false by rw [HS.out, decide_eq_true h1, decide_eq_false h2]; rfl)
      go_enter Tryd.func83, Tryd.ntmps83
      go_wp2
      go_ret
      exact ⟨ret_bool HE.out.symm, rfl⟩
  · have HE := hid (show pStands op 7 = false by rw [HS.out, decide_eq_false h1]; rfl)
    go_enter Tryd.func83, Tryd.ntmps83
    go_wp2
    go_ret
    exact ⟨ret_bool HE.out.symm, rfl⟩
/-- The document's number of a place. -/
def plc (role : Int) : Int := if role = 7 then 9 else if role = 8 then 8 else role + 1
set_option maxRecDepth 100000 in
set_option maxHeartbeats 3200000 in
theorem dstands_any (op role : Int) (h0 : 0 ≤ role) (h8 : role ≤ 8) (w : World) : Calls Tryd.prog 60 #[.int .i64 op, .int .i64 (plc role)] w fun e w' => e = .returned (.bool (pStands op role)) ∧ w = w' := by
  have HX := hid (dexpr_any op w)
  have HS := hid (dstmt_any op w)
  have hrole : role = 0 ∨ role = 1 ∨ role = 2 ∨ role = 3 ∨ role = 4 ∨ role = 5 ∨ role = 6 ∨ role = 7 ∨ role = 8 := by omega
  clear h0 h8
  rcases hrole with rfl | rfl | rfl | rfl | rfl | rfl | rfl | rfl | rfl
  · rw [show plc 0 = 1 from rfl]
    go_enter Tryd.func60, Tryd.ntmps60
    go_wp2_with fail
    refine HX.out.mono ?_
    rintro e w2 ⟨rfl, rfl⟩
    go_wp2
    go_ret
    exact ⟨rfl, rfl⟩
  · rw [show plc 1 = 2 from rfl]
    have HE := hid (show pStands op 1 = (isExpr op || op == 26) from rfl)
    generalize isExpr op = b at *
    cases b
    all_goals
      go_enter Tryd.func60, Tryd.ntmps60
      go_wp2_with fail
      refine HX.out.mono ?_
      rintro e w2 ⟨rfl, rfl⟩
      go_wp2
      go_ret
      exact ⟨ret_bool HE.out.symm, rfl⟩
  · rw [show plc 2 = 3 from rfl]
    have HE := hid (show pStands op 2 = (op == 2 || op == 22 || op == 20) from rfl)
    cases q1 : (op == 2)
    · cases q2 : (op == 22)
      · have HE2 := hid (show pStands op 2 = (op == 20) by rw [HE.out, q1, q2]; rfl)
        clear HE
        go_enter Tryd.func60, Tryd.ntmps60
        go_wp2
        go_ret
        exact ⟨ret_bool HE2.out.symm, rfl⟩
      · have HE2 := hid (show pStands op 2 = true by rw [HE.out, q1, q2]; rfl)
        clear HE
        go_enter Tryd.func60, Tryd.ntmps60
        go_wp2
        go_ret
        exact ⟨ret_bool HE2.out.symm, rfl⟩
    · have HE2 := hid (show pStands op 2 = true by rw [HE.out, q1]; rfl)
      clear HE
      go_enter Tryd.func60, Tryd.ntmps60
      go_wp2
      go_ret
      exact ⟨ret_bool HE2.out.symm, rfl⟩
  · rw [show plc 3 = 4 from rfl]
    go_enter Tryd.func60, Tryd.ntmps60
    go_wp2
    go_ret
    exact ⟨rfl, rfl⟩
  · rw [show plc 4 = 5 from rfl]
    have HE := hid (show pStands op 4 = (op == 2 || op == 26) from rfl)
    cases q1 : (op == 2)
    · have HE2 := hid (show pStands op 4 = (op == 26) by rw [HE.out, q1]; rfl)
      clear HE
      go_enter Tryd.func60, Tryd.ntmps60
      go_wp2
      go_ret
      exact ⟨ret_bool HE2.out.symm, rfl⟩
    · have HE2 := hid (show pStands op 4 = true by rw [HE.out, q1]; rfl)
      clear HE
      go_enter Tryd.func60, Tryd.ntmps60
      go_wp2
      go_ret
      exact ⟨ret_bool HE2.out.symm, rfl⟩
  · rw [show plc 5 = 6 from rfl]
    go_enter Tryd.func60, Tryd.ntmps60
    go_wp2
    go_ret
    exact ⟨rfl, rfl⟩
  · rw [show plc 6 = 7 from rfl]
    go_enter Tryd.func60, Tryd.ntmps60
    go_wp2
    go_ret
    exact ⟨rfl, rfl⟩
  · rw [show plc 7 = 9 from rfl]
    generalize pStands op 7 = b at *
    go_enter Tryd.func60, Tryd.ntmps60
    go_wp2_with fail
    refine HS.out.mono ?_
    rintro e w2 ⟨rfl, rfl⟩
    go_wp2
    go_ret
    exact ⟨rfl, rfl⟩
  · rw [show plc 8 = 8 from rfl]
    go_enter Tryd.func60, Tryd.ntmps60
    go_wp2
    go_ret
    exact ⟨rfl, rfl⟩
/-- The document's counts. -/
def dCounts (op : Int) (n : Nat) : Bool :=
  if op = 1 ∨ op = 2 ∨ op = 45 ∨ op = 46 then decide (n = 0) else if op = 3 ∨ op = 4 ∨ op = 26 ∨ op = 40 then decide (n = 1) else if op = 19 ∨ op = 21 ∨ op = 43 then decide (n = 3) else if op = 23 ∨ op = 28 ∨ op = 41 ∨ op = 49 then decide (2 ≤ n)
  else if op = 24 ∨ op = 25 ∨ op = 52 then true else if op = 29 then decide (n = 2) || decide (n = 3) else if op = 47 then decide (n ≤ 1) else decide (n = 2)
set_option maxRecDepth 100000 in
set_option maxHeartbeats 3200000 in
theorem dcounts_any (op : Int) (n : Nat) (hn : n ≤ 4611686018427387904) (w : World) : Calls Tryd.prog 61 #[.int .i64 op, .int .i64 n] w fun e w' => e = .returned (.bool (dCounts op n)) ∧ w = w' := by
  have hnI : (n : Int) ≤ 4611686018427387904 := by omega
  by_cases h1 : op = 1
  · subst h1
    have HR := hid (show dCounts 1 n = decide (n = 0) from rfl)
    have hb : ((n : Int) == 0) = decide (n = 0) := by
      by_cases h : n = 0
      · rw [h]; rfl
      · rw [decide_eq_false h, beq_eq_false_iff_ne]; omega
    go_enter Tryd.func61, Tryd.ntmps61
    go_wp2
    go_ret
    first | exact ⟨ret_bool HR.out.symm, rfl⟩ | exact ⟨ret_bool (hb.trans HR.out.symm), rfl⟩
  have q1 : (op == 1) = false := by simpa using h1
  by_cases h2 : op = 2
  · subst h2
    have HR := hid (show dCounts 2 n = decide (n = 0) from rfl)
    have hb : ((n : Int) == 0) = decide (n = 0) := by
      by_cases h : n = 0
      · rw [h]; rfl
      · rw [decide_eq_false h, beq_eq_false_iff_ne]; omega
    go_enter Tryd.func61, Tryd.ntmps61
    go_wp2
    go_ret
    first | exact ⟨ret_bool HR.out.symm, rfl⟩ | exact ⟨ret_bool (hb.trans HR.out.symm), rfl⟩
  have q2 : (op == 2) = false := by simpa using h2
  by_cases h45 : op = 45
  · subst h45
    have HR := hid (show dCounts 45 n = decide (n = 0) from rfl)
    have hb : ((n : Int) == 0) = decide (n = 0) := by
      by_cases h : n = 0
      · rw [h]; rfl
      · rw [decide_eq_false h, beq_eq_false_iff_ne]; omega
    go_enter Tryd.func61, Tryd.ntmps61
    go_wp2
    go_ret
    first | exact ⟨ret_bool HR.out.symm, rfl⟩ | exact ⟨ret_bool (hb.trans HR.out.symm), rfl⟩
  have q45 : (op == 45) = false := by simpa using h45
  by_cases h46 : op = 46
  · subst h46
    have HR := hid (show dCounts 46 n = decide (n = 0) from rfl)
    have hb : ((n : Int) == 0) = decide (n = 0) := by
      by_cases h : n = 0
      · rw [h]; rfl
      · rw [decide_eq_false h, beq_eq_false_iff_ne]; omega
    go_enter Tryd.func61, Tryd.ntmps61
    go_wp2
    go_ret
    first | exact ⟨ret_bool HR.out.symm, rfl⟩ | exact ⟨ret_bool (hb.trans HR.out.symm), rfl⟩
  have q46 : (op == 46) = false := by simpa using h46
  by_cases h3 : op = 3
  · subst h3
    have HR := hid (show dCounts 3 n = decide (n = 1) from rfl)
    have hb : ((n : Int) == 1) = decide (n = 1) := by
      by_cases h : n = 1
      · rw [h]; rfl
      · rw [decide_eq_false h, beq_eq_false_iff_ne]; omega
    go_enter Tryd.func61, Tryd.ntmps61
    go_wp2
    go_ret
    first | exact ⟨ret_bool HR.out.symm, rfl⟩ | exact ⟨ret_bool (hb.trans HR.out.symm), rfl⟩
  have q3 : (op == 3) = false := by simpa using h3
  by_cases h4 : op = 4
  · subst h4
    have HR := hid (show dCounts 4 n = decide (n = 1) from rfl)
    have hb : ((n : Int) == 1) = decide (n = 1) := by
      by_cases h : n = 1
      · rw [h]; rfl
      · rw [decide_eq_false h, beq_eq_false_iff_ne]; omega
    go_enter Tryd.func61, Tryd.ntmps61
    go_wp2
    go_ret
    first | exact ⟨ret_bool HR.out.symm, rfl⟩ | exact ⟨ret_bool (hb.trans HR.out.symm), rfl⟩
  have q4 : (op == 4) = false := by simpa using h4
  by_cases h26 : op = 26
  · subst h26
    have HR := hid (show dCounts 26 n = decide (n = 1) from rfl)
    have hb : ((n : Int) == 1) = decide (n = 1) := by
      by_cases h : n = 1
      · rw [h]; rfl
      · rw [decide_eq_false h, beq_eq_false_iff_ne]; omega
    go_enter Tryd.func61, Tryd.ntmps61
    go_wp2
    go_ret
    first | exact ⟨ret_bool HR.out.symm, rfl⟩ | exact ⟨ret_bool (hb.trans HR.out.symm), rfl⟩
  have q26 : (op == 26) = false := by simpa using h26
  by_cases h40 : op = 40
  · subst h40
    have HR := hid (show dCounts 40 n = decide (n = 1) from rfl)
    have hb : ((n : Int) == 1) = decide (n = 1) := by
      by_cases h : n = 1
      · rw [h]; rfl
      · rw [decide_eq_false h, beq_eq_false_iff_ne]; omega
    go_enter Tryd.func61, Tryd.ntmps61
    go_wp2
    go_ret
    first | exact ⟨ret_bool HR.out.symm, rfl⟩ | exact ⟨ret_bool (hb.trans HR.out.symm), rfl⟩
  have q40 : (op == 40) = false := by simpa using h40
  by_cases h19 : op = 19
  · subst h19
    have HR := hid (show dCounts 19 n = decide (n = 3) from rfl)
    have hb : ((n : Int) == 3) = decide (n = 3) := by
      by_cases h : n = 3
      · rw [h]; rfl
      · rw [decide_eq_false h, beq_eq_false_iff_ne]; omega
    go_enter Tryd.func61, Tryd.ntmps61
    go_wp2
    go_ret
    first | exact ⟨ret_bool HR.out.symm, rfl⟩ | exact ⟨ret_bool (hb.trans HR.out.symm), rfl⟩
  have q19 : (op == 19) = false := by simpa using h19
  by_cases h21 : op = 21
  · subst h21
    have HR := hid (show dCounts 21 n = decide (n = 3) from rfl)
    have hb : ((n : Int) == 3) = decide (n = 3) := by
      by_cases h : n = 3
      · rw [h]; rfl
      · rw [decide_eq_false h, beq_eq_false_iff_ne]; omega
    go_enter Tryd.func61, Tryd.ntmps61
    go_wp2
    go_ret
    first | exact ⟨ret_bool HR.out.symm, rfl⟩ | exact ⟨ret_bool (hb.trans HR.out.symm), rfl⟩
  have q21 : (op == 21) = false := by simpa using h21
  by_cases h43 : op = 43
  · subst h43
    have HR := hid (show dCounts 43 n = decide (n = 3) from rfl)
    have hb : ((n : Int) == 3) = decide (n = 3) := by
      by_cases h : n = 3
      · rw [h]; rfl
      · rw [decide_eq_false h, beq_eq_false_iff_ne]; omega
    go_enter Tryd.func61, Tryd.ntmps61
    go_wp2
    go_ret
    first | exact ⟨ret_bool HR.out.symm, rfl⟩ | exact ⟨ret_bool (hb.trans HR.out.symm), rfl⟩
  have q43 : (op == 43) = false := by simpa using h43
  by_cases h23 : op = 23
  · subst h23
    have HR := hid (show dCounts 23 n = decide (2 ≤ n) from rfl)
    have hb : decide ((n : Int) ≥ 2) = decide (2 ≤ n) := by
      by_cases h : 2 ≤ n
      · rw [decide_eq_true h, decide_eq_true (by omega)]
      · rw [decide_eq_false h, decide_eq_false (by omega)]
    go_enter Tryd.func61, Tryd.ntmps61
    go_wp2
    go_ret
    first | exact ⟨ret_bool HR.out.symm, rfl⟩ | exact ⟨ret_bool (hb.trans HR.out.symm), rfl⟩
  have q23 : (op == 23) = false := by simpa using h23
  by_cases h28 : op = 28
  · subst h28
    have HR := hid (show dCounts 28 n = decide (2 ≤ n) from rfl)
    have hb : decide ((n : Int) ≥ 2) = decide (2 ≤ n) := by
      by_cases h : 2 ≤ n
      · rw [decide_eq_true h, decide_eq_true (by omega)]
      · rw [decide_eq_false h, decide_eq_false (by omega)]
    go_enter Tryd.func61, Tryd.ntmps61
    go_wp2
    go_ret
    first | exact ⟨ret_bool HR.out.symm, rfl⟩ | exact ⟨ret_bool (hb.trans HR.out.symm), rfl⟩
  have q28 : (op == 28) = false := by simpa using h28
  by_cases h41 : op = 41
  · subst h41
    have HR := hid (show dCounts 41 n = decide (2 ≤ n) from rfl)
    have hb : decide ((n : Int) ≥ 2) = decide (2 ≤ n) := by
      by_cases h : 2 ≤ n
      · rw [decide_eq_true h, decide_eq_true (by omega)]
      · rw [decide_eq_false h, decide_eq_false (by omega)]
    go_enter Tryd.func61, Tryd.ntmps61
    go_wp2
    go_ret
    first | exact ⟨ret_bool HR.out.symm, rfl⟩ | exact ⟨ret_bool (hb.trans HR.out.symm), rfl⟩
  have q41 : (op == 41) = false := by simpa using h41
  by_cases h49 : op = 49
  · subst h49
    have HR := hid (show dCounts 49 n = decide (2 ≤ n) from rfl)
    have hb : decide ((n : Int) ≥ 2) = decide (2 ≤ n) := by
      by_cases h : 2 ≤ n
      · rw [decide_eq_true h, decide_eq_true (by omega)]
      · rw [decide_eq_false h, decide_eq_false (by omega)]
    go_enter Tryd.func61, Tryd.ntmps61
    go_wp2
    go_ret
    first | exact ⟨ret_bool HR.out.symm, rfl⟩ | exact ⟨ret_bool (hb.trans HR.out.symm), rfl⟩
  have q49 : (op == 49) = false := by simpa using h49
  by_cases h24 : op = 24
  · subst h24
    have HR := hid (show dCounts 24 n = true from rfl)
    go_enter Tryd.func61, Tryd.ntmps61
    go_wp2
    go_ret
    exact ⟨ret_bool HR.out.symm, rfl⟩
  have q24 : (op == 24) = false := by simpa using h24
  by_cases h25 : op = 25
  · subst h25
    have HR := hid (show dCounts 25 n = true from rfl)
    go_enter Tryd.func61, Tryd.ntmps61
    go_wp2
    go_ret
    exact ⟨ret_bool HR.out.symm, rfl⟩
  have q25 : (op == 25) = false := by simpa using h25
  by_cases h52 : op = 52
  · subst h52
    have HR := hid (show dCounts 52 n = true from rfl)
    go_enter Tryd.func61, Tryd.ntmps61
    go_wp2
    go_ret
    exact ⟨ret_bool HR.out.symm, rfl⟩
  have q52 : (op == 52) = false := by simpa using h52
  by_cases h29 : op = 29
  · subst h29
    have HR := hid (show dCounts 29 n = (decide (n = 2) || decide (n = 3)) from rfl)
    by_cases h2 : n = 2
    · subst h2
      go_enter Tryd.func61, Tryd.ntmps61
      go_wp2
      go_ret
      exact ⟨ret_bool HR.out.symm, rfl⟩
    have q2 : ((n : Int) == 2) = false := by rw [beq_eq_false_iff_ne]; omega
    have HR := hid (show dCounts 29 n = decide (n = 3) by rw [HR.out, decide_eq_false h2]; rfl)
    have hb : ((n : Int) == 3) = decide (n = 3) := by
      by_cases h : n = 3
      · rw [h]; rfl
      · rw [decide_eq_false h, beq_eq_false_iff_ne]; omega
    go_enter Tryd.func61, Tryd.ntmps61
    go_wp2
    go_ret
    first | exact ⟨ret_bool HR.out.symm, rfl⟩ | exact ⟨ret_bool (hb.trans HR.out.symm), rfl⟩
  have q29 : (op == 29) = false := by simpa using h29
  by_cases h47 : op = 47
  · subst h47
    have HR := hid (show dCounts 47 n = decide (n ≤ 1) from rfl)
    have hb : decide ((n : Int) ≤ 1) = decide (n ≤ 1) := by
      by_cases h : n ≤ 1
      · rw [decide_eq_true h, decide_eq_true (by omega)]
      · rw [decide_eq_false h, decide_eq_false (by omega)]
    go_enter Tryd.func61, Tryd.ntmps61
    go_wp2
    go_ret
    first | exact ⟨ret_bool HR.out.symm, rfl⟩ | exact ⟨ret_bool (hb.trans HR.out.symm), rfl⟩
  have q47 : (op == 47) = false := by simpa using h47
  have HR := hid (show dCounts op n = decide (n = 2) by unfold dCounts; repeat rw [if_neg (by omega)])
  clear h1 h2 h45 h46 h3 h4 h26 h40 h19 h21 h43 h23 h28 h41 h49 h24 h25 h52 h29 h47
  have hb : ((n : Int) == 2) = decide (n = 2) := by
    by_cases h : n = 2
    · rw [h]; rfl
    · rw [decide_eq_false h, beq_eq_false_iff_ne]; omega
  go_enter Tryd.func61, Tryd.ntmps61
  go_wp2
  go_ret
  first | exact ⟨ret_bool HR.out.symm, rfl⟩ | exact ⟨ret_bool (hb.trans HR.out.symm), rfl⟩
theorem dCounts_eq (op : Int) (n : Nat) (role : Int) (h0 : 0 ≤ role) (h8 : role ≤ 8) (h : pStands op role = true) : dCounts op n = pCounts op n := by
  have hop : (1 ≤ op ∧ op ≤ 29) ∨ (40 ≤ op ∧ op ≤ 52) := by
    have hrole : role = 0 ∨ role = 1 ∨ role = 2 ∨ role = 3 ∨ role = 4 ∨ role = 5 ∨ role = 6 ∨ role = 7 ∨ role = 8 := by omega
    rcases hrole with rfl | rfl | rfl | rfl | rfl | rfl | rfl | rfl | rfl
    all_goals simp [pStands, isExpr] at h
    all_goals omega
  have hl : op = 1 ∨ op = 2 ∨ op = 45 ∨ op = 46 ∨ op = 3 ∨ op = 4 ∨ op = 26 ∨ op = 40 ∨ op = 19 ∨ op = 21 ∨ op = 43 ∨ op = 23 ∨ op = 28 ∨ op = 41 ∨ op = 49 ∨ op = 24 ∨ op = 25 ∨ op = 52 ∨ op = 29 ∨ op = 47 ∨ (((5 ≤ op ∧ op ≤ 18) ∨ op = 20 ∨ op = 22) ∨ op = 27 ∨ op = 42 ∨ op = 44 ∨ op = 48 ∨ op = 50 ∨ op = 51) := by omega
  rcases hl with rfl | rfl | rfl | rfl | rfl | rfl | rfl | rfl | rfl | rfl | rfl | rfl | rfl | rfl | rfl | rfl | rfl | rfl | rfl | rfl | hl
  all_goals try rfl
  unfold dCounts pCounts
  rcases hl with hl | hl
  · rw [if_neg (by omega), if_neg (by omega), if_neg (by omega), if_neg (by omega), if_neg (by omega), if_neg (by omega), if_neg (by omega), if_neg (by omega), if_neg (by omega), if_pos (by omega)]
  · rw [if_neg (by omega), if_neg (by omega), if_neg (by omega), if_neg (by omega), if_neg (by omega), if_neg (by omega), if_neg (by omega), if_neg (by omega), if_neg (by omega), if_neg (by omega), if_neg (by omega), if_neg (by omega), if_neg (by omega), if_pos (by omega)]
/-- The document's place. -/
def dPlace (op : Int) (n : Nat) (own : Int) (i : Nat) : Int :=
  if op = 23 then (if 2 ≤ i then 2 else 1) else if op = 24 then 2 else if op = 25 then (if own ≠ 6 then 2 else 1) else if op = 26 then (if own = 5 then 4 else 1) else if op = 20 then (if own = 3 ∧ i = 0 then 3 else 1)
  else if op = 27 then (if i = 0 then 3 else 1) else if op = 28 then (if (i : Int) = n - 2 then 5 else if (i : Int) < n - 2 then 4 else 1) else if op = 29 then (if i = 1 then 6 else 1) else if op = 50 then (if i = 0 then 6 else 7)
  else if op = 41 then (if i % 2 = 1 ∨ (i : Int) = n - 1 then 7 else 1) else if op = 42 ∨ op = 48 ∨ op = 44 ∨ op = 43 then (if (i : Int) = n - 1 then 7 else 1) else if op = 49 then (if 0 < i then 8 else 7) else if op = 51 then 7 else if op = 52 then 9 else 1
set_option maxRecDepth 100000 in
set_option maxHeartbeats 6400000 in
theorem dplace_any (op ln vk vn : Int) (s vs : ByteArray) (va : Value) (la : Option Addr) (n lc : Nat) (hn : n ≤ 1048576) (own : Int) (i : Nat) (hi : i < n) (w : World) : Calls Tryd.prog 63 #[.agg #[.int .i64 op, .int .i64 ln, .string s, .int .i64 vk, .int .i64 vn, .string vs, va, .slice la n lc], .int .i64 own, .int .i64 i] w fun e w' => e = .returned (.int .i64 (dPlace op n own i)) ∧ Fr (fun _ => False) w w' := by
  have hnI : (n : Int) ≤ 1048576 := by omega
  have hiI : (i : Int) < n := by omega
  have HF := hid ((Fr.refl (fun _ => False) w).alloc (.cells #[.int .i64 op, .int .i64 ln, .string s, .int .i64 vk, .int .i64 vn, .string vs, va, .slice la n lc] 36))
  by_cases h23 : op = 23
  · subst h23
    by_cases hc : 2 ≤ i
    · have HR := hid (show dPlace 23 n own i = 2 by exact if_pos hc)
      have g1 : (i : Int) ≥ 2 := by omega
      go_enter Tryd.func63, Tryd.ntmps63
      go_wp2_with fail
      go_ret
      exact ⟨ret_int HR.out.symm, HF.out⟩
    · have HR := hid (show dPlace 23 n own i = 1 by exact if_neg hc)
      have g1 : ¬ (i : Int) ≥ 2 := by omega
      go_enter Tryd.func63, Tryd.ntmps63
      go_wp2_with fail
      go_ret
      exact ⟨ret_int HR.out.symm, HF.out⟩
  have q23 : (op == 23) = false := by simpa using h23
  by_cases h24 : op = 24
  · subst h24
    have HR := hid (show dPlace 24 n own i = 2 from rfl)
    go_enter Tryd.func63, Tryd.ntmps63
    go_wp2_with fail
    go_ret
    exact ⟨ret_int HR.out.symm, HF.out⟩
  have q24 : (op == 24) = false := by simpa using h24
  by_cases h25 : op = 25
  · subst h25
    by_cases hc : own ≠ 6
    · have HR := hid (show dPlace 25 n own i = 2 by exact if_pos hc)
      have g1 : (own != 6) = true := by simpa using hc
      go_enter Tryd.func63, Tryd.ntmps63
      go_wp2_with fail
      go_ret
      exact ⟨ret_int HR.out.symm, HF.out⟩
    · have HR := hid (show dPlace 25 n own i = 1 by exact if_neg hc)
      have g1 : (own != 6) = false := by simpa using hc
      go_enter Tryd.func63, Tryd.ntmps63
      go_wp2_with fail
      go_ret
      exact ⟨ret_int HR.out.symm, HF.out⟩
  have q25 : (op == 25) = false := by simpa using h25
  by_cases h26 : op = 26
  · subst h26
    by_cases hc : own = 5
    · have HR := hid (show dPlace 26 n own i = 4 by exact if_pos hc)
      have g1 : (own == 5) = true := by simpa using hc
      clear hc
      go_enter Tryd.func63, Tryd.ntmps63
      go_wp2_with fail
      go_ret
      exact ⟨ret_int HR.out.symm, HF.out⟩
    · have HR := hid (show dPlace 26 n own i = 1 by exact if_neg hc)
      have g1 : (own == 5) = false := by simpa using hc
      go_enter Tryd.func63, Tryd.ntmps63
      go_wp2_with fail
      go_ret
      exact ⟨ret_int HR.out.symm, HF.out⟩
  have q26 : (op == 26) = false := by simpa using h26
  by_cases h20 : op = 20
  · subst h20
    by_cases hc : own = 3 ∧ i = 0
    · have HR := hid (show dPlace 20 n own i = 3 from if_pos hc)
      obtain ⟨rfl, rfl⟩ := hc
      go_enter Tryd.func63, Tryd.ntmps63
      go_wp2_with fail
      go_ret
      exact ⟨ret_int HR.out.symm, HF.out⟩
    · have HR := hid (show dPlace 20 n own i = 1 from if_neg hc)
      cases g1 : (own == 3)
      · go_enter Tryd.func63, Tryd.ntmps63
        go_wp2_with fail
        go_ret
        exact ⟨ret_int HR.out.symm, HF.out⟩
      · have g2 : ((i : Int) == 0) = false := by rw [beq_eq_false_iff_ne]; exact fun h => hc ⟨by simpa using g1, by omega⟩
        go_enter Tryd.func63, Tryd.ntmps63
        go_wp2_with fail
        go_ret
        exact ⟨ret_int HR.out.symm, HF.out⟩
  have q20 : (op == 20) = false := by simpa using h20
  by_cases h27 : op = 27
  · subst h27
    by_cases hc : i = 0
    · have HR := hid (show dPlace 27 n own i = 3 by exact if_pos hc)
      have g1 : ((i : Int) == 0) = true := by simp; omega
      go_enter Tryd.func63, Tryd.ntmps63
      go_wp2_with fail
      go_ret
      exact ⟨ret_int HR.out.symm, HF.out⟩
    · have HR := hid (show dPlace 27 n own i = 1 by exact if_neg hc)
      have g1 : ((i : Int) == 0) = false := by rw [beq_eq_false_iff_ne]; omega
      go_enter Tryd.func63, Tryd.ntmps63
      go_wp2_with fail
      go_ret
      exact ⟨ret_int HR.out.symm, HF.out⟩
  have q27 : (op == 27) = false := by simpa using h27
  by_cases h28 : op = 28
  · subst h28
    by_cases hc : (i : Int) = n - 2
    · have HR := hid (show dPlace 28 n own i = 5 from if_pos hc)
      have g1 : ((i : Int) == (n : Int) - 2) = true := by simpa using hc
      clear hc
      go_enter Tryd.func63, Tryd.ntmps63
      go_wp2_with fail
      go_ret
      exact ⟨ret_int HR.out.symm, HF.out⟩
    · have g1 : ((i : Int) == (n : Int) - 2) = false := by simpa using hc
      by_cases hd : (i : Int) < n - 2
      · have HR := hid (show dPlace 28 n own i = 4 from (if_neg hc).trans (if_pos hd))
        clear hc
        go_enter Tryd.func63, Tryd.ntmps63
        go_wp2_with fail
        go_ret
        exact ⟨ret_int HR.out.symm, HF.out⟩
      · have HR := hid (show dPlace 28 n own i = 1 from (if_neg hc).trans (if_neg hd))
        clear hc
        go_enter Tryd.func63, Tryd.ntmps63
        go_wp2_with fail
        go_ret
        exact ⟨ret_int HR.out.symm, HF.out⟩
  have q28 : (op == 28) = false := by simpa using h28
  by_cases h29 : op = 29
  · subst h29
    by_cases hc : i = 1
    · have HR := hid (show dPlace 29 n own i = 6 by exact if_pos hc)
      have g1 : ((i : Int) == 1) = true := by simp; omega
      go_enter Tryd.func63, Tryd.ntmps63
      go_wp2_with fail
      go_ret
      exact ⟨ret_int HR.out.symm, HF.out⟩
    · have HR := hid (show dPlace 29 n own i = 1 by exact if_neg hc)
      have g1 : ((i : Int) == 1) = false := by rw [beq_eq_false_iff_ne]; omega
      go_enter Tryd.func63, Tryd.ntmps63
      go_wp2_with fail
      go_ret
      exact ⟨ret_int HR.out.symm, HF.out⟩
  have q29 : (op == 29) = false := by simpa using h29
  by_cases h50 : op = 50
  · subst h50
    by_cases hc : i = 0
    · have HR := hid (show dPlace 50 n own i = 6 by exact if_pos hc)
      have g1 : ((i : Int) == 0) = true := by simp; omega
      go_enter Tryd.func63, Tryd.ntmps63
      go_wp2_with fail
      go_ret
      exact ⟨ret_int HR.out.symm, HF.out⟩
    · have HR := hid (show dPlace 50 n own i = 7 by exact if_neg hc)
      have g1 : ((i : Int) == 0) = false := by rw [beq_eq_false_iff_ne]; omega
      go_enter Tryd.func63, Tryd.ntmps63
      go_wp2_with fail
      go_ret
      exact ⟨ret_int HR.out.symm, HF.out⟩
  have q50 : (op == 50) = false := by simpa using h50
  by_cases h41 : op = 41
  · subst h41
    have h41 : dPlace 41 n own i = if i % 2 = 1 ∨ (i : Int) = n - 1 then 7 else 1 := rfl
    have hmod : (i : Int).tmod 2 = ((i % 2 : Nat) : Int) := by rw [Int.tmod_eq_emod_of_nonneg (by omega)]; omega
    rcases Nat.mod_two_eq_zero_or_one i with hp | hp
    · rw [hp] at hmod
      by_cases hd : (i : Int) = n - 1
      · have HR := hid (show dPlace 41 n own i = 7 by rw [h41, if_pos (Or.inr hd)])
        have g1 : ((i : Int) == (n : Int) - 1) = true := by simpa using hd
        clear hd hp
        go_enter Tryd.func63, Tryd.ntmps63
        go_wp2_with fail
        go_ret
        exact ⟨ret_int HR.out.symm, HF.out⟩
      · have HR := hid (show dPlace 41 n own i = 1 by rw [h41, if_neg (by omega)])
        have g1 : ((i : Int) == (n : Int) - 1) = false := by simpa using hd
        clear hd hp
        go_enter Tryd.func63, Tryd.ntmps63
        go_wp2_with fail
        go_ret
        exact ⟨ret_int HR.out.symm, HF.out⟩
    · rw [hp] at hmod
      have HR := hid (show dPlace 41 n own i = 7 by rw [h41, if_pos (Or.inl hp)])
      clear hp
      go_enter Tryd.func63, Tryd.ntmps63
      go_wp2_with fail
      go_ret
      exact ⟨ret_int HR.out.symm, HF.out⟩
  have q41 : (op == 41) = false := by simpa using h41
  by_cases h42 : op = 42
  · subst h42
    by_cases hc : (i : Int) = n - 1
    · have HR := hid (show dPlace 42 n own i = 7 by exact if_pos hc)
      have g1 : ((i : Int) == (n : Int) - 1) = true := by simpa using hc
      clear hc
      go_enter Tryd.func63, Tryd.ntmps63
      go_wp2_with fail
      go_ret
      exact ⟨ret_int HR.out.symm, HF.out⟩
    · have HR := hid (show dPlace 42 n own i = 1 by exact if_neg hc)
      have g1 : ((i : Int) == (n : Int) - 1) = false := by simpa using hc
      clear hc
      go_enter Tryd.func63, Tryd.ntmps63
      go_wp2_with fail
      go_ret
      exact ⟨ret_int HR.out.symm, HF.out⟩
  have q42 : (op == 42) = false := by simpa using h42
  by_cases h48 : op = 48
  · subst h48
    by_cases hc : (i : Int) = n - 1
    · have HR := hid (show dPlace 48 n own i = 7 by exact if_pos hc)
      have g1 : ((i : Int) == (n : Int) - 1) = true := by simpa using hc
      clear hc
      go_enter Tryd.func63, Tryd.ntmps63
      go_wp2_with fail
      go_ret
      exact ⟨ret_int HR.out.symm, HF.out⟩
    · have HR := hid (show dPlace 48 n own i = 1 by exact if_neg hc)
      have g1 : ((i : Int) == (n : Int) - 1) = false := by simpa using hc
      clear hc
      go_enter Tryd.func63, Tryd.ntmps63
      go_wp2_with fail
      go_ret
      exact ⟨ret_int HR.out.symm, HF.out⟩
  have q48 : (op == 48) = false := by simpa using h48
  by_cases h44 : op = 44
  · subst h44
    by_cases hc : (i : Int) = n - 1
    · have HR := hid (show dPlace 44 n own i = 7 by exact if_pos hc)
      have g1 : ((i : Int) == (n : Int) - 1) = true := by simpa using hc
      clear hc
      go_enter Tryd.func63, Tryd.ntmps63
      go_wp2_with fail
      go_ret
      exact ⟨ret_int HR.out.symm, HF.out⟩
    · have HR := hid (show dPlace 44 n own i = 1 by exact if_neg hc)
      have g1 : ((i : Int) == (n : Int) - 1) = false := by simpa using hc
      clear hc
      go_enter Tryd.func63, Tryd.ntmps63
      go_wp2_with fail
      go_ret
      exact ⟨ret_int HR.out.symm, HF.out⟩
  have q44 : (op == 44) = false := by simpa using h44
  by_cases h43 : op = 43
  · subst h43
    by_cases hc : (i : Int) = n - 1
    · have HR := hid (show dPlace 43 n own i = 7 by exact if_pos hc)
      have g1 : ((i : Int) == (n : Int) - 1) = true := by simpa using hc
      clear hc
      go_enter Tryd.func63, Tryd.ntmps63
      go_wp2_with fail
      go_ret
      exact ⟨ret_int HR.out.symm, HF.out⟩
    · have HR := hid (show dPlace 43 n own i = 1 by exact if_neg hc)
      have g1 : ((i : Int) == (n : Int) - 1) = false := by simpa using hc
      clear hc
      go_enter Tryd.func63, Tryd.ntmps63
      go_wp2_with fail
      go_ret
      exact ⟨ret_int HR.out.symm, HF.out⟩
  have q43 : (op == 43) = false := by simpa using h43
  by_cases h49 : op = 49
  · subst h49
    by_cases hc : 0 < i
    · have HR := hid (show dPlace 49 n own i = 8 by exact if_pos hc)
      have g1 : (i : Int) > 0 := by omega
      go_enter Tryd.func63, Tryd.ntmps63
      go_wp2_with fail
      go_ret
      exact ⟨ret_int HR.out.symm, HF.out⟩
    · have HR := hid (show dPlace 49 n own i = 7 by exact if_neg hc)
      have g1 : ¬ (i : Int) > 0 := by omega
      go_enter Tryd.func63, Tryd.ntmps63
      go_wp2_with fail
      go_ret
      exact ⟨ret_int HR.out.symm, HF.out⟩
  have q49 : (op == 49) = false := by simpa using h49
  by_cases h51 : op = 51
  · subst h51
    have HR := hid (show dPlace 51 n own i = 7 from rfl)
    go_enter Tryd.func63, Tryd.ntmps63
    go_wp2_with fail
    go_ret
    exact ⟨ret_int HR.out.symm, HF.out⟩
  have q51 : (op == 51) = false := by simpa using h51
  by_cases h52 : op = 52
  · subst h52
    have HR := hid (show dPlace 52 n own i = 9 from rfl)
    go_enter Tryd.func63, Tryd.ntmps63
    go_wp2_with fail
    go_ret
    exact ⟨ret_int HR.out.symm, HF.out⟩
  have q52 : (op == 52) = false := by simpa using h52
  have HR := hid (show dPlace op n own i = 1 by unfold dPlace; repeat rw [if_neg (by omega)])
  clear h23 h24 h25 h26 h20 h27 h28 h29 h50 h41 h42 h48 h44 h43 h49 h51 h52
  go_enter Tryd.func63, Tryd.ntmps63
  go_wp2_with fail
  go_ret
  exact ⟨ret_int HR.out.symm, HF.out⟩
end
end Go.Proofs.YtbegahbagnflnaaDoor
