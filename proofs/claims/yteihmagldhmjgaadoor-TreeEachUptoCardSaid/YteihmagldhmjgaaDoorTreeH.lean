/- Package tree: valid, Valid, Expr. -/
import Derived.Test.YteihmagldhmjgaaDoorTreeG
namespace Go.Proofs.YteihmagldhmjgaaDoor
open Go.RowKit

def okC (n : Nat) : Prop := n = 0 ∨ n = 103 ∨ n = 106
mutual
theorem pWalk_code : ∀ (x : Nd) (role : Int) (loop : Bool), okC (pWalk x role loop).1
  | .mk op ln s v l, role, loop => by
    rw [pWalk]
    split
    · exact pWalkL_code l _ _ _ _ _
    · rcases pOwn_cases (.mk op ln s v l) role loop with ⟨h, -⟩ | h | h
      · exact .inl h
      · exact .inr (.inl h)
      · exact .inr (.inr h)
theorem pWalkL_code : ∀ (l : List Nd) (op role : Int) (loop : Bool) (R : List Int) (i : Nat), okC (pWalkL op role loop R i l).1
  | [], op, role, loop, R, i => by rw [pWalkL]; exact .inl rfl
  | y :: r, op, role, loop, R, i => by
    rw [pWalkL]
    split
    · exact pWalkL_code r _ _ _ _ _
    · exact pWalk_code y _ _
end
/-- What is first amiss with nodes that stand where something has to. -/
def pVals (role : Int) : List Nd → Nat × Int
  | [] => (0, 0)
  | y :: r => if (pWalk y role false).1 = 0 then pVals role r else pWalk y role false
theorem pVals_code (role : Int) : ∀ l, okC (pVals role l).1
  | [] => .inl rfl
  | y :: r => by
    rw [pVals]
    split
    · exact pVals_code role r
    · exact pWalk_code y _ _
theorem pVals_step {role : Int} {l : List Nd} {k : Nat} {y : Nd} (h : l[k]? = some y) : pVals role (l.drop k) = if (pWalk y role false).1 = 0 then pVals role (l.drop (k + 1)) else pWalk y role false := by
  rw [drop_at h, pVals]

/-- A fault: its number (0: none), whether it has a place, the place. -/
structure Flt where
  c : Nat
  p : Bool
  l : Int
def fltAt (q : Nat × Int) : Flt := if q.1 = 0 then ⟨0, false, 0⟩ else ⟨q.1, true, q.2⟩
/-- How a fault lies in the world as an error. -/
def ErrIs (pa : Nat → Addr) (w : World) (f : Flt) (v : Value) : Prop :=
  ErrNo f.c ∧ ((f.p = false ∧ f.l = 0 ∧ v = errV pa f.c) ∨ (f.p = true ∧ f.c ≠ 0 ∧ ∃ b, v = .iface 76 (.pointer (some ⟨b, 0, none⟩)) ∧ w.heap[b]? = some (.cells #[.int .i64 f.l, errV pa f.c] 79)))
theorem ErrIs.frame {pa : Nat → Addr} {w w' : World} {f : Flt} {v : Value} (h : ErrIs pa w f v) (hf : Fr (fun _ => False) w w') : ErrIs pa w' f v := by
  obtain ⟨h1, h2 | ⟨h2, h3, b, e, hb⟩⟩ := h
  · exact ⟨h1, .inl h2⟩
  · exact ⟨h1, .inr ⟨h2, h3, b, e, hf.heap hb not_false⟩⟩
theorem AtV.err {pa : Nat → Addr} {w : World} {q : Nat × Int} {v : Value} (h : AtV pa w q v) (hc : okC q.1) : ErrIs pa w (fltAt q) v := by
  rcases h with ⟨h, rfl⟩ | ⟨h, b, e, hb⟩
  · rw [fltAt, if_pos h]
    exact ⟨.inl rfl, .inl ⟨rfl, rfl, rfl⟩⟩
  · rw [fltAt, if_neg h]
    refine ⟨?_, .inr ⟨rfl, h, b, e, hb⟩⟩
    rcases hc with hc | hc | hc
    · exact absurd hc h
    · exact .inr (by simp only [hc]; omega)
    · exact .inr (by simp only [hc]; omega)
/-- What valid tells. -/
def pValid (l : List Nd) (role : Int) : Flt := if 4096 < cntL l then ⟨104, false, 0⟩ else if 40 < depL l then ⟨112, false, 0⟩ else fltAt (pVals role l)
set_option maxRecDepth 100000 in
set_option maxHeartbeats 6400000 in
theorem valid_any (pa : Nat → Addr) (l : List Nd) (role : Int) (hr0 : 0 ≤ role) (hr8 : role ≤ 8) (hz : szL l ≤ 1099511627776) (D : Nat → Prop) (w : World) (v : Value) (h : NL D w l v) (hE : Sent17 w pa) (hg : 7 ≤ w.heap.size) :
    Calls Tryd.prog 35 #[v, .int .i64 role] w fun e w' => ∃ v, e = .returned v ∧ Fr (fun _ => False) w w' ∧ ErrIs pa w' (pValid l role) v := by
  have hcs := cntL_szL l
  have HCN := hid (cnt_any (cntL l + 1) l (by omega) (by omega) 0 (by omega) D w v h)
  have HDP := hid (fun w2 (hf : Fr (fun _ => False) w w2) => tdeep_any (cntL l + 1) l (by omega) (by omega) D w2 v (h.frame hf fun _ _ => not_false))
  have hdc := depL_le' l
  have hs3 : ∀ w2, Fr (fun _ => False) w w2 → w2.cell? ⟨0, 0, none⟩ = some (errV pa 104) := fun w2 hf => (hE.frame hf).s 3 (by decide)
  have hs11 : ∀ w2, Fr (fun _ => False) w w2 → w2.cell? ⟨1, 0, none⟩ = some (errV pa 112) := fun w2 hf => (hE.frame hf).s 11 (by decide)
  have HS3 := hid hs3; have HS11 := hid hs11
  obtain ⟨a, cap, us, rfl, hc, hm, hn, hb, hi⟩ := h
  have HPV := hid (show pValid l role = if 4096 < cntL l then ⟨104, false, 0⟩ else if 40 < depL l then ⟨112, false, 0⟩ else fltAt (pVals role l) from rfl)
  have hW : ∀ (k : Nat) (y : Nd), l[k]? = some y → ¬ 4096 < cntL l → ∀ (w2 : World) (u : Array Value), Fr (fun _ => False) w w2 → NIn D w2 y u → Calls Tryd.prog 55 #[.agg u, .int .i64 role, .bool false] w2 fun e w' => ∃ v, e = .returned v ∧ Fr (fun _ => False) w2 w' ∧ AtV pa w' (pWalk y role false) v := fun k y hy hl w2 u hf hn => by
    have h1 := cntL_mem hy
    have h2 := szL_mem hy
    exact walk_any pa (y.cnt + 1) y (by omega) (by omega) (by omega) role hr0 hr8 false D w2 u hn (hE.frame hf) (by have := hf.size; omega)
  have hll : (l.length : Int) ≤ 1099511627776 := by have := len_le_cnt l; omega
  have HW := hid hW; have HB := hid hb; have HI := hid hi; have HZ := hid hz; have HCS := hid hcs; have HDC := hid hdc
  clear hW hb hi hz hcs hdc hs3 hs11 hE hg hc hm hn hr0 hr8
  go_enter Tryd.func35, Tryd.ntmps35
  go_wp2_with fail
  refine HCN.out.mono ?_
  rintro e w1 ⟨rfl, hf1⟩
  have HF1 := hid hf1
  clear hf1
  by_cases hbig : 4096 < cntL l
  · have HX := hid (show pValid l role = ⟨104, false, 0⟩ by rw [HPV.out, if_pos hbig])
    rw [show (min (0 + cntL l) 4097 : Nat) = 4097 by omega]
    have s3 := HS3.out w1 HF1.out
    clear hbig
    go_wp2_with fail
    go_ret
    exact ⟨_, rfl, HF1.out, by rw [HX.out]; exact ⟨.inr (by decide), .inl ⟨rfl, rfl, rfl⟩⟩⟩
  have hsm : ¬ (4096 : Int) < ((min (0 + cntL l) 4097 : Nat) : Int) := by omega
  obtain ⟨c9, hc9⟩ : ∃ c9, (min (0 + cntL l) 4097 : Nat) = c9 := ⟨_, rfl⟩
  rw [hc9] at hsm ⊢
  have HBIG := hid hbig
  clear hbig hc9
  go_wp2_with fail
  refine (HDP.out w1 HF1.out).mono ?_
  rintro e w2 ⟨rfl, hf2⟩
  have HF2 := hid (HF1.out.trans' hf2)
  clear hf2
  by_cases hdeep : 40 < depL l
  · have HX := hid (show pValid l role = ⟨112, false, 0⟩ by rw [HPV.out, if_neg HBIG.out, if_pos hdeep])
    have s11 := HS11.out w2 HF2.out
    have hd1 : (40 : Int) < depL l := by omega
    have hd2 : (depL l : Int) ≤ 1099511627776 := by have := HDC.out; have := HCS.out; have := HZ.out; omega
    clear hdeep
    go_wp2_with fail
    go_ret
    exact ⟨_, rfl, HF2.out, by rw [HX.out]; exact ⟨.inr (by decide), .inl ⟨rfl, rfl, rfl⟩⟩⟩
  have hd1 : ¬ (40 : Int) < depL l := by omega
  have HX := hid (show pValid l role = fltAt (pVals role l) by rw [HPV.out, if_neg HBIG.out, if_neg hdeep])
  clear hdeep hsm
  go_wp2_with fail
  go_loopw [18] (fun i wr => ∃ k : Nat, k ≤ l.length ∧ i = .int .i64 k ∧ Hid (pVals role l = pVals role (l.drop k)) ∧ Fr (fun _ => False) w2 wr) (fun i _ => l.length - (intOf i).toNat)
  case atStart => exact ⟨0, Nat.zero_le _, rfl, hid rfl, Fr.refl _ _⟩
  case round =>
    obtain ⟨k, hk, rfl, HS, hf⟩ := hrel
    by_cases hlt : k < l.length
    · have hlt' : (k : Int) < l.length := by omega
      obtain ⟨b, o, y, yva, c1, a', c', rfl, -, hy, hv, e0, e1, e2, e3, e4, e5, e6, e7⟩ := NL.elem HB.out HI.out k hlt
      have hfw := HF2.out.trans' hf
      replace e0 := hfw.cell e0 not_false
      replace e1 := hfw.cell e1 not_false
      replace e2 := hfw.cell e2 not_false
      replace e3 := hfw.cell e3 not_false
      replace e4 := hfw.cell e4 not_false
      replace e5 := hfw.cell e5 not_false
      replace e6 := hfw.cell e6 not_false
      replace e7 := hfw.cell e7 not_false
      have HST := hid (pVals_step (role := role) hy)
      have hfY := (Fr.refl (fun _ => False) wr).alloc (.cells #[.int .i64 y.op, .int .i64 y.ln, .string y.s, .int .i64 y.v.k, .int .i64 y.v.n, .string y.v.s, .slice yva y.v.l.length c1, .slice a' y.l.length c'] 29)
      have hgY := heap_alloc_new wr (.cells #[.int .i64 y.op, .int .i64 y.ln, .string y.s, .int .i64 y.v.k, .int .i64 y.v.n, .string y.v.s, .slice yva y.v.l.length c1, .slice a' y.l.length c'] 29)
      have HFW2 := hid (hfw.trans' hfY); have HFR2 := hid (hf.trans' hfY); have HGY := hid hgY
      have HV2 := hid (hv.frame (hfw.trans' hfY) fun _ _ => not_false); have HY := hid hy
      clear hfY hgY hv hy hf hfw
      go_upto_region 8 with fail
      generalize hW2 : wr.alloc (.cells #[.int .i64 y.op, .int .i64 y.ln, .string y.s, .int .i64 y.v.k, .int .i64 y.v.n, .string y.v.s, .slice yva y.v.l.length c1, .slice a' y.l.length c'] 29) = W2 at *
      clear hW2 e0 e1 e2 e3 e4 e5 e6 e7
      obtain ⟨B2, hB2⟩ : ∃ B2, wr.heap.size = B2 := ⟨_, rfl⟩
      rw [hB2] at HGY ⊢
      clear hB2
      have y0 : W2.cell? ⟨B2, 0, none⟩ = some (.int .i64 y.op) := by rw [cell_of_row _ _ 0 _ _ _ HGY.out]; rfl
      have y1 : W2.cell? ⟨B2, 1, none⟩ = some (.int .i64 y.ln) := by rw [cell_of_row _ _ 1 _ _ _ HGY.out]; rfl
      have y2 : W2.cell? ⟨B2, 2, none⟩ = some (.string y.s) := by rw [cell_of_row _ _ 2 _ _ _ HGY.out]; rfl
      have y3 : W2.cell? ⟨B2, 3, none⟩ = some (.int .i64 y.v.k) := by rw [cell_of_row _ _ 3 _ _ _ HGY.out]; rfl
      have y4 : W2.cell? ⟨B2, 4, none⟩ = some (.int .i64 y.v.n) := by rw [cell_of_row _ _ 4 _ _ _ HGY.out]; rfl
      have y5 : W2.cell? ⟨B2, 5, none⟩ = some (.string y.v.s) := by rw [cell_of_row _ _ 5 _ _ _ HGY.out]; rfl
      have y6 : W2.cell? ⟨B2, 6, none⟩ = some (.slice yva y.v.l.length c1) := by rw [cell_of_row _ _ 6 _ _ _ HGY.out]; rfl
      have y7 : W2.cell? ⟨B2, 7, none⟩ = some (.slice a' y.l.length c') := by rw [cell_of_row _ _ 7 _ _ _ HGY.out]; rfl
      have HC := hid (HW.out k y HY.out HBIG.out W2 _ HFW2.out HV2.out)
      have HCO := hid (pWalk_code y role false)
      obtain ⟨q9, hq9⟩ : ∃ q9, pWalk y role false = q9 := ⟨_, rfl⟩
      rw [hq9] at HC HST HCO
      have HST := hid HST.out
      clear hq9
      go_wp2_with fail
      refine HC.out.mono ?_
      rintro e w9 ⟨v9, rfl, hf9, ha9⟩
      have HF9 := hid (HFR2.out.trans' hf9)
      have HFF := hid (HF2.out.trans' (HFR2.out.trans' hf9))
      clear hf9 y0 y1 y2 y3 y4 y5 y6 y7
      rcases ha9 with ⟨hz9, rfl⟩ | ⟨hz9, b9, rfl, hb9⟩
      · have HS2 := hid (show pVals role l = pVals role (l.drop (k + 1)) by rw [HS.out, HST.out, if_pos hz9])
        clear hz9
        go_wp2_with fail
        go_roundw
        case rel => exact ⟨k + 1, by omega, by go_num, HS2, HF9.out⟩
        case measure => simp [intOf]; omega
      · have HAT := hid (show ErrIs pa w9 (pValid l role) (.iface 76 (.pointer (some ⟨b9, 0, none⟩))) by rw [HX.out, HS.out, HST.out, if_neg hz9]; exact AtV.err (.inr ⟨hz9, b9, rfl, hb9⟩) HCO.out)
        clear hz9 hb9
        go_wp2_with fail
        go_ret
        exact ⟨_, rfl, HFF.out, HAT.out⟩
    · obtain rfl : k = l.length := by omega
      have HAT := hid (show ErrIs pa wr (pValid l role) .nilIface by rw [HX.out, HS.out, List.drop_length]; exact ⟨.inl rfl, .inl ⟨rfl, rfl, rfl⟩⟩)
      have HFF := hid (HF2.out.trans' hf)
      go_wp2_with fail
      go_ret
      exact ⟨_, rfl, HFF.out, HAT.out⟩
theorem tvalid_any (pa : Nat → Addr) (l : List Nd) (hz : szL l ≤ 1099511627776) (D : Nat → Prop) (w : World) (v : Value) (h : NL D w l v) (hE : Sent17 w pa) (hg : 7 ≤ w.heap.size) :
    Calls Tryd.prog 11 #[v] w fun e w' => ∃ v, e = .returned v ∧ Fr (fun _ => False) w w' ∧ ErrIs pa w' (pValid l 7) v := by
  have HC := hid (valid_any pa l 7 (by decide) (by decide) hz D w v h hE hg)
  obtain ⟨a, cap, us, rfl, -⟩ := h
  clear hE hg hz
  go_enter Tryd.func11, Tryd.ntmps11
  go_wp2_with fail
  refine HC.out.mono ?_
  rintro e w2 ⟨v2, rfl, hf2, hv2⟩
  go_wp2_with fail
  go_ret
  exact ⟨_, rfl, hf2, hv2⟩
/-- A row of one node, of two. -/
theorem NL.lit1 {D : Nat → Prop} {w : World} {g : Nat} {x : Nd} {u : Array Value} {t : TypeId} {fz : Nat × Nat} (h : w.heap[g]? = some (.cells u t fz)) (hD : D g) (hx : NIn D w x u) : NL D w [x] (.slice (some ⟨g, 0, none⟩) 1 1) := by
  have hu : u.size = 8 := by obtain ⟨va, v, rfl, _⟩ := hx.open; rfl
  refine ⟨_, _, fun _ => u, rfl, Nat.le_refl _, by decide, (fun h => by cases h), fun i hi => ⟨g, 0, rfl, hD, hu, fun j hj => ?_⟩, fun i y hy => ?_⟩
  · obtain rfl : i = 0 := by simp at hi; omega
    rw [cell_of_row w g _ _ _ _ h]
    simp
  · obtain ⟨hi, rfl⟩ := List.getElem?_eq_some_iff.1 hy
    obtain rfl : i = 0 := by simp at hi; omega
    exact hx
theorem NL.lit2 {D : Nat → Prop} {w : World} {g : Nat} {x y : Nd} {u v c : Array Value} {t : TypeId} {fz : Nat × Nat} (h : w.heap[g]? = some (.cells c t fz)) (hc : c = u ++ v) (hD : D g) (hx : NIn D w x u) (hy : NIn D w y v) : NL D w [x, y] (.slice (some ⟨g, 0, none⟩) 2 2) := by
  have hu : u.size = 8 := by obtain ⟨va, v, rfl, _⟩ := hx.open; rfl
  have hv : v.size = 8 := by obtain ⟨va, v, rfl, _⟩ := hy.open; rfl
  subst hc
  refine ⟨_, _, fun i => if i = 0 then u else v, rfl, Nat.le_refl _, by decide, (fun h => by cases h), fun i hi => ⟨g, 0, rfl, hD, ?_, fun j hj => ?_⟩, fun i z hz => ?_⟩
  · dsimp only
    split
    · exact hu
    · exact hv
  · rw [cell_of_row w g _ _ _ _ h]
    obtain rfl | rfl : i = 0 ∨ i = 1 := by simp at hi; omega
    · change (u ++ v)[0 + 0 * 8 + j]? = u[j]?
      rw [Array.getElem?_append_left (by omega)]
      simp
    · change (u ++ v)[0 + 1 * 8 + j]? = v[j]?
      rw [Array.getElem?_append_right (by omega)]
      congr 1
      omega
  · obtain ⟨hi, rfl⟩ := List.getElem?_eq_some_iff.1 hz
    obtain rfl | rfl : i = 0 ∨ i = 1 := by simp at hi; omega
    · exact hx
    · exact hy
end Go.Proofs.YteihmagldhmjgaaDoor
