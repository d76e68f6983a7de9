/- Package tree: walk: what is first amiss with a node, and what it has. -/
import Derived.Test.YteihmagldhmjgaaDoorTreeF
import Derived.Deep.CutBlock
namespace Go.Proofs.YteihmagldhmjgaaDoor
open Go.RowKit

theorem pOwn_cases (x : Nd) (role : Int) (loop : Bool) : (pOwn x role loop = 0 ∧ pCounts x.op x.l.length = true) ∨ pOwn x role loop = 103 ∨ pOwn x role loop = 106 := by
  unfold pOwn
  cases h : pCounts x.op x.l.length
  · rw [if_pos (by simp [ownBad])]
    exact .inr (.inl rfl)
  · split
    · exact .inr (.inl rfl)
    split
    · exact .inr (.inr rfl)
    exact .inl ⟨rfl, rfl⟩
theorem rW_range {role op : Int} {i : Nat} {r : Int} (h0 : 0 ≤ r) (h8 : r ≤ 8) : 0 ≤ rW role op i r ∧ rW role op i r ≤ 8 := by
  unfold rW
  split
  · omega
  split
  · omega
  split <;> omega
def RangeOk (l : List Int) : Prop := ∀ r ∈ l, 0 ≤ r ∧ r ≤ 8
theorem RangeOk.ite {c : Prop} [Decidable c] {a b : List Int} (ha : RangeOk a) (hb : RangeOk b) : RangeOk (if c then a else b) := by
  split
  · exact ha
  · exact hb
theorem RangeOk.rep (n : Nat) {a : Int} (h0 : 0 ≤ a) (h8 : a ≤ 8) : RangeOk (List.replicate n a) := fun r hr => by rw [(List.mem_replicate.1 hr).2]; exact ⟨h0, h8⟩
theorem RangeOk.append {a b : List Int} (ha : RangeOk a) (hb : RangeOk b) : RangeOk (a ++ b) := fun r hr => (List.mem_append.1 hr).elim (ha r) (hb r)
theorem RangeOk.set {a : List Int} (ha : RangeOk a) (i : Nat) {x : Int} (h0 : 0 ≤ x) (h8 : x ≤ 8) : RangeOk (a.set i x) := fun r hr => (List.mem_or_eq_of_mem_set hr).elim (ha r) fun e => by rw [e]; exact ⟨h0, h8⟩
theorem RangeOk.take {a : List Int} (ha : RangeOk a) (n : Nat) : RangeOk (a.take n) := fun r hr => ha r (List.mem_of_mem_take hr)
theorem RangeOk.ifK (n : Nat) : RangeOk (ifK n) := fun r hr => by
  obtain ⟨i, -, rfl⟩ := List.mem_map.1 hr
  split <;> omega
theorem RangeOk.nil : RangeOk [] := fun r hr => by cases hr
theorem RangeOk.cons {a : Int} {l : List Int} (h0 : 0 ≤ a) (h8 : a ≤ 8) (h : RangeOk l) : RangeOk (a :: l) := fun r hr => by
  rcases List.mem_cons.1 hr with rfl | h'
  · exact ⟨h0, h8⟩
  · exact h r h'
theorem pRoles_range (op : Int) (n : Nat) : RangeOk (pRoles op n) := by
  unfold pRoles ifL
  repeat' first | exact RangeOk.nil | exact RangeOk.ifK _ | refine RangeOk.ite ?_ ?_ | refine RangeOk.rep _ (by decide) (by decide) | refine RangeOk.append ?_ ?_ | refine RangeOk.set ?_ _ (by decide) (by decide) | refine RangeOk.take ?_ _ | refine RangeOk.cons (by decide) (by decide) ?_
set_option maxRecDepth 100000 in
set_option maxHeartbeats 6400000 in
theorem walk_any (pa : Nat → Addr) : ∀ (N : Nat) (x : Nd), x.cnt < N → x.cnt ≤ 1048576 → x.sz ≤ 1099511627776 → ∀ (role : Int), 0 ≤ role → role ≤ 8 → ∀ (loop : Bool) (D : Nat → Prop) (w : World) (u : Array Value), NIn D w x u → Sent17 w pa → 7 ≤ w.heap.size →
    Calls Tryd.prog 55 #[.agg u, .int .i64 role, .bool loop] w fun e w' => ∃ v, e = .returned v ∧ Fr (fun _ => False) w w' ∧ AtV pa w' (pWalk x role loop) v := by
  intro N
  induction N with
  | zero =>
    intro x hN
    omega
  | succ N ih =>
    intro x hN hM hZ role hr0 hr8 loop D w u h hE hg
    obtain ⟨va', la', rfl, ⟨va, vc, us1, rfl, hvr⟩, ⟨la, lc, us, rfl, hlc, hlm, hln, hb, hi⟩⟩ := h.open
    have hc1 := Nd.cnt_eq x
    have hl1 := len_le_cnt x.l
    have hz1 := Nd.sz_eq x
    have hl : x.l.length ≤ 1048576 := by omega
    have hf0 := (Fr.refl (fun _ => False) w).alloc (.cells #[.int .i64 x.op, .int .i64 x.ln, .string x.s, .int .i64 x.v.k, .int .i64 x.v.n, .string x.v.s, .slice va x.v.l.length vc, .slice la x.l.length lc] 29)
    have hg0 := heap_alloc_new w (.cells #[.int .i64 x.op, .int .i64 x.ln, .string x.s, .int .i64 x.v.k, .int .i64 x.v.n, .string x.v.s, .slice va x.v.l.length vc, .slice la x.l.length lc] 29)
    have HO := hid (own_any pa x role hr0 hr8 loop D (w.alloc (.cells #[.int .i64 x.op, .int .i64 x.ln, .string x.s, .int .i64 x.v.k, .int .i64 x.v.n, .string x.v.s, .slice va x.v.l.length vc, .slice la x.l.length lc] 29)) _ (h.frame hf0 fun _ _ => not_false) hl (by omega) (by omega) (hE.frame hf0) (by simp; omega))
    have HR := hid (fun w => roles_any x.op x.ln x.v.k x.v.n x.s x.v.s (.slice va x.v.l.length vc) la x.l.length lc hl w)
    have hq := pWalk_eq x role loop
    have hRl := pRoles_len x.op x.l.length
    have HRR := hid (pRoles_range x.op x.l.length)
    have hIH : ∀ (k : Nat) (y : Nd), x.l[k]? = some y → ∀ r, 0 ≤ r → r ≤ 8 → ∀ (lp : Bool) (w2 : World) (u : Array Value), Fr (fun _ => False) w w2 → NIn D w2 y u → Calls Tryd.prog 55 #[.agg u, .int .i64 r, .bool lp] w2 fun e w' => ∃ v, e = .returned v ∧ Fr (fun _ => False) w2 w' ∧ AtV pa w' (pWalk y r lp) v := fun k y hy r h0 h8 lp w2 u hf hn => by
      have h1 := cntL_mem hy
      have h2 := szL_mem hy
      exact ih y (by omega) (by omega) (by omega) r h0 h8 lp D w2 u hn (hE.frame hf) (by have := hf.size; omega)
    have HIH := hid hIH; have HB := hid hb; have HI := hid hi; have HF0 := hid hf0; have HG0 := hid hg0; have HL := hid hl
    have hlI : (x.l.length : Int) ≤ 1048576 := by omega
    have hpo := pOwn_cases x role loop
    clear ih h hE hg hIH hb hi hf0 hg0 hl hvr hln hlc hlm hc1 hl1 hz1 hN hM hZ us1
    generalize pOwn x role loop = po at *
    by_cases hz : po = 0
    case neg =>
      have HQ := hid (show pWalk x role loop = (po, x.ln) by rw [hq, if_neg hz])
      have HZ := hid hz
      obtain ⟨a9, ha9⟩ : ∃ a9, errV pa po = .iface 140 (.pointer (some a9)) := by
        rcases hpo with ⟨h, -⟩ | rfl | rfl
        · exact absurd h hz
        · exact ⟨_, rfl⟩
        · exact ⟨_, rfl⟩
      have HA9 := hid ha9
      rw [ha9] at HO
      clear hq hpo hz ha9 hRl
      generalize pWalk x role loop = q at *
      go_enter Tryd.func55, Tryd.ntmps55
      go_upto_region 1 with fail
      generalize hW0 : w.alloc (.cells #[.int .i64 x.op, .int .i64 x.ln, .string x.s, .int .i64 x.v.k, .int .i64 x.v.n, .string x.v.s, .slice va x.v.l.length vc, .slice la x.l.length lc] 29) = W0 at *
      clear hW0
      have d0 : W0.cell? ⟨w.heap.size, 0, none⟩ = some (.int .i64 x.op) := by rw [cell_of_row _ _ 0 _ _ _ HG0.out]; rfl
      have d1 : W0.cell? ⟨w.heap.size, 1, none⟩ = some (.int .i64 x.ln) := by rw [cell_of_row _ _ 1 _ _ _ HG0.out]; rfl
      have d2 : W0.cell? ⟨w.heap.size, 2, none⟩ = some (.string x.s) := by rw [cell_of_row _ _ 2 _ _ _ HG0.out]; rfl
      have d3 : W0.cell? ⟨w.heap.size, 3, none⟩ = some (.int .i64 x.v.k) := by rw [cell_of_row _ _ 3 _ _ _ HG0.out]; rfl
      have d4 : W0.cell? ⟨w.heap.size, 4, none⟩ = some (.int .i64 x.v.n) := by rw [cell_of_row _ _ 4 _ _ _ HG0.out]; rfl
      have d5 : W0.cell? ⟨w.heap.size, 5, none⟩ = some (.string x.v.s) := by rw [cell_of_row _ _ 5 _ _ _ HG0.out]; rfl
      have d6 : W0.cell? ⟨w.heap.size, 6, none⟩ = some (.slice va x.v.l.length vc) := by rw [cell_of_row _ _ 6 _ _ _ HG0.out]; rfl
      have d7 : W0.cell? ⟨w.heap.size, 7, none⟩ = some (.slice la x.l.length lc) := by rw [cell_of_row _ _ 7 _ _ _ HG0.out]; rfl
      go_wp2_with fail
      refine HO.out.mono ?_
      rintro e w2 ⟨rfl, hf2⟩
      replace d0 := hf2.cell d0 not_false
      replace d1 := hf2.cell d1 not_false
      replace d2 := hf2.cell d2 not_false
      replace d3 := hf2.cell d3 not_false
      replace d4 := hf2.cell d4 not_false
      replace d5 := hf2.cell d5 not_false
      replace d6 := hf2.cell d6 not_false
      replace d7 := hf2.cell d7 not_false
      have HF2 := hid (HF0.out.trans' hf2)
      clear hf2
      have hat : ∀ w3, w3 = w2.alloc (.cells #[.int .i64 x.ln, .iface 140 (.pointer (some a9))] 79) → AtV pa w3 q (.iface 76 (.pointer (some ⟨w2.heap.size, 0, none⟩))) := fun w3 h3 => .inr ⟨by rw [HQ.out]; exact HZ.out, w2.heap.size, rfl, by rw [h3, HQ.out, HA9.out]; exact heap_alloc_new _ _⟩
      have HAT := hid hat
      clear hat
      go_wp2_with fail
      go_ret
      exact ⟨_, rfl, HF2.out.alloc _, HAT.out _ rfl⟩
    case pos =>
    subst hz
    obtain ⟨-, hfull⟩ : (0 : Nat) = 0 ∧ pCounts x.op x.l.length = true := by
      rcases hpo with h | h | h
      · exact h
      · cases h
      · cases h
    have hRL := hRl hfull
    rw [if_pos rfl] at hq
    have HFU := hid hfull; have HQ := hid hq
    clear hpo hRl hfull hq
    generalize pCounts x.op x.l.length = full at *
    generalize pRoles x.op x.l.length = R at *
    generalize pWalk x role loop = q0 at *
    go_enter Tryd.func55, Tryd.ntmps55
    go_upto_region 1 with fail
    generalize hW0 : w.alloc (.cells #[.int .i64 x.op, .int .i64 x.ln, .string x.s, .int .i64 x.v.k, .int .i64 x.v.n, .string x.v.s, .slice va x.v.l.length vc, .slice la x.l.length lc] 29) = W0 at *
    clear hW0
    have d0 : W0.cell? ⟨w.heap.size, 0, none⟩ = some (.int .i64 x.op) := by rw [cell_of_row _ _ 0 _ _ _ HG0.out]; rfl
    have d1 : W0.cell? ⟨w.heap.size, 1, none⟩ = some (.int .i64 x.ln) := by rw [cell_of_row _ _ 1 _ _ _ HG0.out]; rfl
    have d2 : W0.cell? ⟨w.heap.size, 2, none⟩ = some (.string x.s) := by rw [cell_of_row _ _ 2 _ _ _ HG0.out]; rfl
    have d3 : W0.cell? ⟨w.heap.size, 3, none⟩ = some (.int .i64 x.v.k) := by rw [cell_of_row _ _ 3 _ _ _ HG0.out]; rfl
    have d4 : W0.cell? ⟨w.heap.size, 4, none⟩ = some (.int .i64 x.v.n) := by rw [cell_of_row _ _ 4 _ _ _ HG0.out]; rfl
    have d5 : W0.cell? ⟨w.heap.size, 5, none⟩ = some (.string x.v.s) := by rw [cell_of_row _ _ 5 _ _ _ HG0.out]; rfl
    have d6 : W0.cell? ⟨w.heap.size, 6, none⟩ = some (.slice va x.v.l.length vc) := by rw [cell_of_row _ _ 6 _ _ _ HG0.out]; rfl
    have d7 : W0.cell? ⟨w.heap.size, 7, none⟩ = some (.slice la x.l.length lc) := by rw [cell_of_row _ _ 7 _ _ _ HG0.out]; rfl
    have HO2 := hid (show Calls Tryd.prog 70 _ _ (fun e w' => e = .returned .nilIface ∧ _) from HO.out)
    clear HO
    go_wp2_with fail
    refine HO2.out.mono ?_
    rintro e w2 ⟨rfl, hf2⟩
    replace d0 := hf2.cell d0 not_false
    replace d1 := hf2.cell d1 not_false
    replace d2 := hf2.cell d2 not_false
    replace d3 := hf2.cell d3 not_false
    replace d4 := hf2.cell d4 not_false
    replace d5 := hf2.cell d5 not_false
    replace d6 := hf2.cell d6 not_false
    replace d7 := hf2.cell d7 not_false
    have HF2 := hid (HF0.out.trans' hf2)
    have hg2 := hf2.heap HG0.out not_false
    clear hf2 HO2
    go_wp2_with fail
    refine (HR.out _).mono ?_
    rintro e w3 ⟨v3, rfl, hf3, hR3⟩
    have hR3 := hR3 HFU.out
    have HF3 := hid (HF2.out.trans' hf3)
    have hg3 := hf3.heap hg2 not_false
    obtain ⟨ra, rc, rfl, -, -, hrc⟩ := hR3
    replace d7 := hf3.cell d7 not_false
    have d0 : w3.cell? ⟨w.heap.size, 0, none⟩ = some (.int .i64 x.op) := by rw [cell_of_row _ _ 0 _ _ _ hg3]; rfl
    have HRC := hid hrc; have HRL := hid hRL
    clear d1 d2 d3 d4 d5 d6 hf3 hg2 hg3 hrc
    rw [hRL]
    clear hRL
    go_wp2_with fail
    go_loopw [35] (fun i wr => ∃ k : Nat, k ≤ x.l.length ∧ i = .int .i64 k ∧ Hid (q0 = pWalkL x.op role loop R k (x.l.drop k)) ∧ Fr (fun _ => False) w3 wr) (fun i _ => x.l.length - (intOf i).toNat)
    case atStart => exact ⟨0, Nat.zero_le _, rfl, hid (by rw [HQ.out]; rfl), Fr.refl _ _⟩
    case round =>
      obtain ⟨k, hk, rfl, HS, hf⟩ := hrel
      by_cases hlt : k < x.l.length
      · have hlt' : (k : Int) < x.l.length := by omega
        obtain ⟨b, o, y, yva, c1, a', c', rfl, -, hy, hv, e0, e1, e2, e3, e4, e5, e6, e7⟩ := NL.elem HB.out HI.out k hlt
        have hfw := HF3.out.trans' hf
        replace e0 := hfw.cell e0 not_false
        replace e1 := hfw.cell e1 not_false
        replace e2 := hfw.cell e2 not_false
        replace e3 := hfw.cell e3 not_false
        replace e4 := hfw.cell e4 not_false
        replace e5 := hfw.cell e5 not_false
        replace e6 := hfw.cell e6 not_false
        replace e7 := hfw.cell e7 not_false
        obtain ⟨b2, o2, rfl, hrk⟩ := HRC.out k (R.getD k 0) (by have := HRL.out; simp [List.getD, this, hlt])
        have hrr := HRR.out (R.getD k 0) (by have := HRL.out; simp [List.getD, this, hlt])
        have hwr := rW_range (role := role) (op := x.op) (i := k) hrr.1 hrr.2
        replace hrk := hf.cell hrk not_false
        have HW := hid hwr; have HY := hid hy; have HV := hid (hv.frame hfw fun _ _ => not_false); have HFW := hid hfw; have HFR := hid hf
        have HST := hid (pWalkL_step (op := x.op) (role := role) (loop := loop) (R := R) hy)
        replace d0 := hf.cell d0 not_false
        clear hv hy hwr hrr hf hfw d7
        generalize hrk' : R.getD k 0 = rk at *
        clear hrk'
        have hfY := (Fr.refl (fun _ => False) wr).alloc (.cells #[.int .i64 y.op, .int .i64 y.ln, .string y.s, .int .i64 y.v.k, .int .i64 y.v.n, .string y.v.s, .slice yva y.v.l.length c1, .slice a' y.l.length c'] 29)
        have hgY := heap_alloc_new wr (.cells #[.int .i64 y.op, .int .i64 y.ln, .string y.s, .int .i64 y.v.k, .int .i64 y.v.n, .string y.v.s, .slice yva y.v.l.length c1, .slice a' y.l.length c'] 29)
        replace hrk := hfY.cell hrk not_false
        replace d0 := hfY.cell d0 not_false
        have HFW2 := hid (HFW.out.trans' hfY); have HFR2 := hid (HFR.out.trans' hfY); have HGY := hid hgY
        have HV2 := hid (HV.out.frame hfY fun _ _ => not_false)
        clear hfY hgY HV HFW HFR
        go_upto_region 8 with fail
        generalize hW2 : wr.alloc (.cells #[.int .i64 y.op, .int .i64 y.ln, .string y.s, .int .i64 y.v.k, .int .i64 y.v.n, .string y.v.s, .slice yva y.v.l.length c1, .slice a' y.l.length c'] 29) = W2 at *
        clear hW2 e0 e1 e2 e3 e4 e5 e6 e7
        obtain ⟨B2, hB2⟩ : ∃ B2, wr.heap.size = B2 := ⟨_, rfl⟩
        rw [hB2] at HGY ⊢
        clear hB2
        obtain ⟨r9, hr9⟩ : ∃ r9, rW role x.op k rk = r9 := ⟨_, rfl⟩
        obtain ⟨b5, hb5⟩ : ∃ b5, (role == 5) = b5 := ⟨_, rfl⟩
        go_upto_block 2 with fail
        go_cut [12] from 44 to 66 (fun c wx => c = .int .i64 r9 ∧ W2 = wx)
        case first =>
          have HR9 := hid hr9
          clear hr9
          cases b5
          case true =>
            obtain rfl : role = 5 := by simpa using hb5
            have HX := hid (show r9 = 0 by rw [← HR9.out]; rfl)
            go_wp2_with fail
            go_meet
            exact ⟨by rw [HX.out], rfl⟩
          have h1 : role ≠ 5 := by simpa using hb5
          by_cases h2 : role = 2
          · subst h2
            by_cases h3 : x.op = 20
            · by_cases h4 : k = 0
              · have HX := hid (show r9 = 2 by rw [← HR9.out, h3, h4]; rfl)
                subst h4
                rw [h3] at d0
                go_wp2_with fail
                go_meet
                exact ⟨by rw [HX.out], rfl⟩
              · have HX := hid (show r9 = rk by rw [← HR9.out, rW, if_neg (by decide), if_neg (fun h => h4 h.2.2), if_neg (fun h => absurd h.1 (by decide))])
                have q4 : ((k : Int) == 0) = false := by rw [beq_eq_false_iff_ne]; omega
                rw [h3] at d0
                go_wp2_with fail
                go_meet
                exact ⟨by rw [HX.out], rfl⟩
            · have HX := hid (show r9 = rk by rw [← HR9.out, rW, if_neg (by decide), if_neg (fun h => h3 h.2.1), if_neg (fun h => absurd h.1 (by decide))])
              have q3 : (x.op == 20) = false := by simpa using h3
              go_wp2_with fail
              go_meet
              exact ⟨by rw [HX.out], rfl⟩
          have q2 : (role == 2) = false := by simpa using h2
          by_cases h5 : role = 4
          · subst h5
            by_cases h6 : x.op = 26
            · have HX := hid (show r9 = 3 by rw [← HR9.out, rW, if_neg (by decide), if_neg (fun h => absurd h.1 (by decide)), if_pos ⟨rfl, h6⟩])
              rw [h6] at d0
              go_wp2_with fail
              go_meet
              exact ⟨by rw [HX.out], rfl⟩
            · have HX := hid (show r9 = rk by rw [← HR9.out, rW, if_neg (by decide), if_neg (fun h => absurd h.1 (by decide)), if_neg (fun h => h6 h.2)])
              have q3 : (x.op == 26) = false := by simpa using h6
              go_wp2_with fail
              go_meet
              exact ⟨by rw [HX.out], rfl⟩
          · have HX := hid (show r9 = rk by rw [← HR9.out, rW, if_neg h1, if_neg (fun h => h2 h.1), if_neg (fun h => h5 h.1)])
            have q3 : (role == 4) = false := by simpa using h5
            go_wp2_with fail
            go_meet
            exact ⟨by rw [HX.out], rfl⟩
        case rest =>
        obtain ⟨rfl, rfl⟩ := hcut
        rw [hr9] at HW HST
        clear hr9 hrk
        obtain ⟨i9, hi9⟩ : ∃ i9, inW x.op loop r9 = i9 := ⟨_, rfl⟩
        rw [hi9] at HST
        go_upto_region 15 with fail
        go_cut [13] from 67 to 81 (fun c wx => c = .bool i9 ∧ W2 = wx)
        case first =>
          have HI9 := hid hi9
          clear hi9
          have HLO := hid (loops_any x.op W2)
          have HP : inW x.op loop r9 = ((loop && x.op != 48) || (pLoops x.op && r9 == 6)) := rfl
          rw [HP] at HI9
          clear HP
          generalize pLoops x.op = lo at *
          cases loop
          · go_wp2_with fail
            refine HLO.out.mono ?_
            rintro e w8 ⟨rfl, rfl⟩
            have HX := hid (show i9 = (lo && r9 == 6) by rw [← HI9.out]; rfl)
            cases lo
            · go_wp2_with fail
              go_meet
              exact ⟨by rw [HX.out]; rfl, rfl⟩
            · go_wp2_with fail
              go_meet
              exact ⟨by rw [HX.out]; rfl, rfl⟩
          · obtain ⟨b8, hb8⟩ : ∃ b8, (x.op != 48) = b8 := ⟨_, rfl⟩
            cases b8
            · have HX := hid (show i9 = (lo && r9 == 6) by rw [← HI9.out, hb8]; rfl)
              go_wp2_with fail
              refine HLO.out.mono ?_
              rintro e w8 ⟨rfl, rfl⟩
              cases lo
              · go_wp2_with fail
                go_meet
                exact ⟨by rw [HX.out]; rfl, rfl⟩
              · go_wp2_with fail
                go_meet
                exact ⟨by rw [HX.out]; rfl, rfl⟩
            · have HX := hid (show i9 = true by rw [← HI9.out, hb8]; rfl)
              go_wp2_with fail
              go_meet
              exact ⟨by rw [HX.out], rfl⟩
        case rest =>
        obtain ⟨rfl, rfl⟩ := hcut
        clear hi9 d0
        have y0 : W2.cell? ⟨B2, 0, none⟩ = some (.int .i64 y.op) := by rw [cell_of_row _ _ 0 _ _ _ HGY.out]; rfl
        have y1 : W2.cell? ⟨B2, 1, none⟩ = some (.int .i64 y.ln) := by rw [cell_of_row _ _ 1 _ _ _ HGY.out]; rfl
        have y2 : W2.cell? ⟨B2, 2, none⟩ = some (.string y.s) := by rw [cell_of_row _ _ 2 _ _ _ HGY.out]; rfl
        have y3 : W2.cell? ⟨B2, 3, none⟩ = some (.int .i64 y.v.k) := by rw [cell_of_row _ _ 3 _ _ _ HGY.out]; rfl
        have y4 : W2.cell? ⟨B2, 4, none⟩ = some (.int .i64 y.v.n) := by rw [cell_of_row _ _ 4 _ _ _ HGY.out]; rfl
        have y5 : W2.cell? ⟨B2, 5, none⟩ = some (.string y.v.s) := by rw [cell_of_row _ _ 5 _ _ _ HGY.out]; rfl
        have y6 : W2.cell? ⟨B2, 6, none⟩ = some (.slice yva y.v.l.length c1) := by rw [cell_of_row _ _ 6 _ _ _ HGY.out]; rfl
        have y7 : W2.cell? ⟨B2, 7, none⟩ = some (.slice a' y.l.length c') := by rw [cell_of_row _ _ 7 _ _ _ HGY.out]; rfl
        have HC := hid (HIH.out k y HY.out r9 HW.out.1 HW.out.2 i9 W2 _ HFW2.out HV2.out)
        obtain ⟨q9, hq9⟩ : ∃ q9, pWalk y r9 i9 = q9 := ⟨_, rfl⟩
        rw [hq9] at HC HST
        have HST := hid HST.out
        clear hq9
        go_wp2_with fail
        refine HC.out.mono ?_
        rintro e w9 ⟨v9, rfl, hf9, ha9⟩
        have HF9 := hid (HFR2.out.trans' hf9)
        have HFF := hid (HF3.out.trans' (HFR2.out.trans' hf9))
        clear hf9 y0 y1 y2 y3 y4 y5 y6 y7
        rcases ha9 with ⟨hz9, rfl⟩ | ⟨hz9, b9, rfl, hb9⟩
        · have HS2 := hid (show q0 = pWalkL x.op role loop R (k + 1) (x.l.drop (k + 1)) by rw [HS.out, HST.out, if_pos hz9])
          clear hz9
          go_wp2_with fail
          go_roundw
          case rel => exact ⟨k + 1, by omega, by go_num, HS2, HF9.out⟩
          case measure => simp [intOf]; omega
        · have HAT := hid (show AtV pa w9 q0 (.iface 76 (.pointer (some ⟨b9, 0, none⟩))) by rw [HS.out, HST.out, if_neg hz9]; exact .inr ⟨hz9, b9, rfl, hb9⟩)
          clear hz9 hb9
          go_wp2_with fail
          go_ret
          exact ⟨_, rfl, HFF.out, HAT.out⟩
      · obtain rfl : k = x.l.length := by omega
        have HQ0 := hid (show q0 = (0, 0) by rw [HS.out, List.drop_length, pWalkL_nil])
        have HFF := hid (HF3.out.trans' hf)
        go_wp2_with fail
        go_ret
        exact ⟨_, rfl, HFF.out, .inl ⟨by rw [HQ0.out], rfl⟩⟩
end Go.Proofs.YteihmagldhmjgaaDoor
