import Derived.Test.YtbegahbagnflnaaGreatDoorMn21
import Derived.Test.YtbegahbagnflnaaGreatDoorMn13
import Derived.Test.YtbegahbagnflnaaGreatDoorMn18
import Derived.Test.YtbegahbagnflnaaGreatDoorMn20
import Derived.Test.YtbegahbagnflnaaGreatDoorMn01
set_option linter.unusedSimpArgs false
set_option linter.unusedVariables false
set_option linter.unnecessarySimpa false
namespace Go.Proofs.YtbegahbagnflnaaGreatDoor
section
open Go.RowKit
theorem encNs_append : ∀ (a b : List Nd), encNs (a ++ b) = encNs a ++ encNs b
 | [], b => by simp [encNs]
 | x :: r, b => by simp [encNs, encNs_append r b]
theorem encNs_take {l : List Nd} {k : Nat} {y : Nd} (h : l[k]? = some y) : encNs (l.take (k + 1)) = encNs (l.take k) ++ encN y := by
 rw [List.take_add_one, h, encNs_append]
 simp [encNs]
theorem encNs_take_le (l : List Nd) (k : Nat) : (encNs (l.take k)).length ≤ (encNs l).length := by
 have h : encNs l = encNs (l.take k) ++ encNs (l.drop k) := by rw [← encNs_append, List.take_append_drop]
 rw [h, List.length_append]
 omega
theorem OBx.ne {base k : Nat} {w0 w : World} {v0 v : Value} {l : List UInt8} (h : OBx base w0 v0 w v l) (hk : k < w0.heap.size) (hn : ¬ some k = v0.ownBlock) : ¬ some k = v.ownBlock := fun e =>
 (h.2.2 k e.symm).elim (fun e => hn e.symm) (by omega)
theorem encS_len (s : ByteArray) : (encS s).length = 4 + s.size := by
 have hsl : s.data.toList.length = s.size := by rw [Array.length_toList]; rfl
 rw [encS, List.length_append, leN_len, hsl]
theorem OBx.drew {base : Nat} {w0 w : World} {v0 v : Value} {l : List UInt8} (h : OBx base w0 v0 w v l) : OBx base w0 v0 w.drew v l := ⟨((Fr.refl (fun _ => False) w).drew).own h.1 fun _ _ => not_false, h.2.1.drew, h.2.2⟩
theorem V.eta' (x : V) : V.mk x.k x.n x.s x.l = x := by cases x; rfl
def FlatL (l : List Nd) : Prop := ∀ y ∈ walkL l, y.v.k ≠ 4 ∧ y.v.s.size ≤ 1073741824
theorem FlatL.mem {l : List Nd} (h : FlatL l) {k : Nat} {y : Nd} (hy : l[k]? = some y) : (y.v.k ≠ 4 ∧ y.v.s.size ≤ 1073741824) ∧ FlatL y.l := by
 have hw : walkL l = walkL (l.take k) ++ (y :: walkL y.l) ++ walkL (l.drop (k + 1)) := by
  rw [← walkL_take hy, ← walkL_append, List.take_append_drop]
 refine ⟨h y ?_, fun z hz => h z ?_⟩
 ·rw [hw]; simp
 ·rw [hw]; simp [hz]
set_option maxRecDepth 100000 in
set_option maxHeartbeats 3200000 in
theorem mnodes_of (N : Nat) (ih : ∀ (l : List Nd), cntL l < N → FlatL l → ∀ (D : Nat → Prop) (base : Nat) (w : World) (v lv : Value) (b : List UInt8), NL D w l lv → (∀ k, D k → ¬ some k = v.ownBlock) → OB base w v b → (b ++ encL l).length ≤ 1073741000 → base ≤ w.heap.size →
   Calls Tryz.prog 30 #[v, lv] w fun e w' => ∃ v', e = .returned v' ∧ OBx base w v w' v' (b ++ encL l)) :
  ∀ (l : List Nd), cntL l < N + 1 → FlatL l → ∀ (D : Nat → Prop) (base : Nat) (w : World) (v lv : Value) (b : List UInt8), NL D w l lv → (∀ k, D k → ¬ some k = v.ownBlock) → OB base w v b → (b ++ encL l).length ≤ 1073741000 → base ≤ w.heap.size →
   Calls Tryz.prog 30 #[v, lv] w fun e w' => ∃ v', e = .returned v' ∧ OBx base w v w' v' (b ++ encL l) := by
 intro l hN hfl D base w v lv b h hD hO hlen hb
 have hll := len_le_cnt l
 have h' : NL (fun k => D k ∧ k < w.heap.size) w l lv := h.mono fun k hk hd => ⟨hd, hk⟩
 have hel : (encL l).length = 4 + (encNs l).length := by rw [encL, List.length_append, leN_len]
 rw [List.length_append, hel] at hlen
 have hcn : l.length ≤ (encNs l).length := by
  clear h h' hlen hel hfl hN
  induction l with
  | nil => simp
  | cons x r ih =>
   rw [encNs, List.length_append, encN_eq, List.length_append, leN_len, List.length_cons]
   have := ih (by have := len_le_cnt r; exact this)
   omega
 have HNUM := hid (mnum_any base v b l.length 4 w hO (by omega) (by decide) (by omega) hb)
 obtain ⟨a, cap, us, rfl, hc, hm, hn, hbl, hi⟩ := h'
 obtain ⟨ao, oc, rfl, -⟩ := own_len hO
 have hu : IntKind.u64.wrap (l.length : Int) = (l.length : Int) := IntWalk.u64_in _ (by omega)
 have hlI : (l.length : Int) ≤ 1073741000 := by omega
 have HBL := hid hbl; have HI := hid hi; have HN := hid hN; have HFL := hid hfl; have HIH := hid ih; have HD := hid hD; have HLEN := hid hlen; have HB := hid hb; have HO := hid hO
 clear hbl hi hN hfl ih hD hO hlen hb hc hm hn h hll hel hcn
 go_enter Tryz.func30, Tryz.ntmps30
 go_wp2_with (at_builtin; fail)
 refine HNUM.out.mono ?_
 rintro e w1 ⟨v1, rfl, hx⟩
 have HX := hid hx
 clear hx HNUM
 go_wp2_with fail
 go_loopw [0, 14] (fun u i wr => ∃ k : Nat, k ≤ l.length ∧ i = .int .i64 k ∧ Hid (OBx base w (.slice ao b.length oc) wr u (b ++ (leN l.length 4 ++ encNs (l.take k))))) (fun _ i _ => l.length - (intOf i).toNat)
 case atStart => exact ⟨0, Nat.zero_le _, rfl, hid (by simpa [encNs] using HX.out)⟩
 case round =>
  clear HX
  obtain ⟨k, hk, rfl, HX⟩ := hrel
  by_cases hlt : k < l.length
  ·obtain ⟨bb, o, y, va, c1, a', c', rfl, hDb, hy, hv, e0, e1, e2, e3, e4, e5, e6, e7⟩ := NL.elem HBL.out HI.out k hlt
   have hlt' : (k : Int) < l.length := by omega
   have hf := HX.out.2.1
   have hnb : ¬ some bb = (Value.slice ao b.length oc).ownBlock := HD.out bb hDb.1
   replace e0 := hf.cell e0 hnb
   replace e1 := hf.cell e1 hnb
   replace e2 := hf.cell e2 hnb
   replace e3 := hf.cell e3 hnb
   replace e4 := hf.cell e4 hnb
   replace e5 := hf.cell e5 hnb
   replace e6 := hf.cell e6 hnb
   replace e7 := hf.cell e7 hnb
   obtain ⟨va2, vl, he, hvl, hyl⟩ := hv.open
   obtain rfl : vl = .slice a' y.l.length c' := by simpa using (congrArg (fun q => q.getD 7 undef) he).symm
   obtain rfl : va2 = .slice va y.v.l.length c1 := by simpa using (congrArg (fun q => q.getD 6 undef) he).symm
   have HYL := hid (hyl.frame hf fun k hk => HD.out k hk.1)
   have HVL := hid ((hvl.frame hf fun k hk => HD.out k hk.1).close y.v.k y.v.n y.v.s)
   have HFY := hid (HFL.out.mem hy)
   have HCY := hid (show cntL y.l < N by have := cntL_mem hy; have := Nd.cnt_eq y; have := HN.out; omega)
   have HNX := hid (show b ++ (leN l.length 4 ++ encNs (l.take (k + 1))) = (b ++ (leN l.length 4 ++ encNs (l.take k))) ++ encN y by rw [encNs_take hy]; simp)
   have HPL := hid (show ((b ++ (leN l.length 4 ++ encNs (l.take k))) ++ encN y).length ≤ 1073741000 by
    rw [← HNX.out, List.length_append, List.length_append, leN_len]
    have := encNs_take_le l (k + 1)
    have := HLEN.out
    omega)
   obtain ⟨P, hP⟩ : ∃ P, b ++ (leN l.length 4 ++ encNs (l.take k)) = P := ⟨_, rfl⟩
   rw [hP] at HX HNX HPL
   rw [encN_eq] at HNX HPL
   clear hP hyl hvl hv he hy hf hnb
   obtain ⟨ar, cr, rfl, -⟩ := own_len HX.out.1
   have HPN := hid (show P.length + 1 ≤ 1099511627776 by have := HPL.out; simp only [List.length_append] at this; omega)
   have HF1 := hid (((Fr.refl (fun k => some k = (Value.slice ar P.length cr).ownBlock) wr).alloc (.cells #[.int .i64 y.op, .int .i64 y.ln, .string y.s, .int .i64 y.v.k, .int .i64 y.v.n, .string y.v.s, .slice va y.v.l.length c1, .slice a' y.l.length c'] 75)).alloc (.cells #[.int .u8 (y.op % 256)] 5))
   have HR := hid (heap_alloc_new wr (.cells #[.int .i64 y.op, .int .i64 y.ln, .string y.s, .int .i64 y.v.k, .int .i64 y.v.n, .string y.v.s, .slice va y.v.l.length c1, .slice a' y.l.length c'] 75))
   have HOW := hid (World.ownsRow.alloc (World.ownsRow.alloc HX.out.1 (.cells #[.int .i64 y.op, .int .i64 y.ln, .string y.s, .int .i64 y.v.k, .int .i64 y.v.n, .string y.v.s, .slice va y.v.l.length c1, .slice a' y.l.length c'] 75)) (.cells #[.int .u8 (y.op % 256)] 5))
   have HBW := hid (byte_word y.op)
   have HBS := hid (Nat.le_trans HB.out HX.out.2.1.size)
   go_wp2_with (at_builtin; go_must (refine wpList_append1 rfl (.tmp 18) (.tmp 22) 30 rfl 5 (.int .u8 0) 1 Tryz.underlying30 Tryz.info_byte rfl _ rfl base P.length (bV P) HOW.out (wr.heap.size + 1) 1 (.int .u8 (y.op % 256)) rfl (by simp) rfl HPN.out (by decide) (by have := HBS.out; simp; omega) ?_))
   intro g cp w2 ho hf2 hn2
   have HX2 := hid (show OBx base wr (.slice ar P.length cr) w2 (.slice (some ⟨g, 0, none⟩) (P.length + 1) cp) (P ++ leN (uI y.op) 1) from OBx.of (by rw [HBW.out]; exact ho) (by rw [leN_len]) (HF1.out.trans' hf2) (fun r hr => by
    simp only [Value.ownBlock, Option.some.injEq] at hr
    subst hr
    refine hn2.imp id fun h => ?_
    (try simp at h); omega))
   have hw0 : wr.heap.size < ((wr.alloc (.cells #[.int .i64 y.op, .int .i64 y.ln, .string y.s, .int .i64 y.v.k, .int .i64 y.v.n, .string y.v.s, .slice va y.v.l.length c1, .slice a' y.l.length c'] 75)).alloc (.cells #[.int .u8 (y.op % 256)] 5)).heap.size := by simp; omega
   have hne : ¬ some wr.heap.size = (Value.slice ar P.length cr).ownBlock := fun e => by have := (HX.out.1.lt _ e.symm).2; omega
   have hr2 : w2.heap[wr.heap.size]? = some (.cells #[.int .i64 y.op, .int .i64 y.ln, .string y.s, .int .i64 y.v.k, .int .i64 y.v.n, .string y.v.s, .slice va y.v.l.length c1, .slice a' y.l.length c'] 75 (0, 0)) := hf2.heap (((Fr.refl (fun _ => False) _).alloc _).heap HR.out not_false) hne
   have hne2 : ¬ some wr.heap.size = (Value.slice (some ⟨g, 0, none⟩) (P.length + 1) cp).ownBlock := fun e => by
    simp only [Value.ownBlock, Option.some.injEq] at e
    subst e
    rcases hn2 with h | h
    ·exact hne h.symm
    ·(try simp at h); omega
   have hsz2 := heap_lt hr2
   have HR2 := hid hr2; have HNE2 := hid hne2; have HSZ2 := hid hsz2
   obtain ⟨B, hB⟩ : ∃ B, wr.heap.size = B := ⟨_, rfl⟩
   rw [hB] at HR2 HNE2 HSZ2
   rw [hB]
   have d1 : w2.cell? ⟨B, 1, none⟩ = some (.int .i64 y.ln) := by rw [cell_of_row _ _ _ _ _ _ HR2.out]; rfl
   have HI2 := hid (mint_any base _ (P ++ leN (uI y.op) 1) y.ln w2 HX2.out.1 (by have := HPL.out; simp only [List.length_append] at this ⊢; omega) (Nat.le_trans HBS.out HX2.out.2.1.size))
   clear ho hf2 hn2 hne hr2 hne2 hsz2 hw0 hB HOW HR HF1 e0 e1 e2 e3 e4 e5 e6 e7
   go_wp2_with fail
   refine HI2.out.mono ?_
   rintro e w3 ⟨v3, rfl, hx3⟩
   obtain ⟨P3, hP3⟩ : ∃ q, P ++ leN (uI y.op) 1 ++ encI y.ln = q := ⟨_, rfl⟩
   rw [hP3] at hx3
   have HX3 := hid (HX2.out.trans hx3)
   have HR3 := hid (hx3.2.1.heap HR2.out HNE2.out)
   have HNE3 := hid (hx3.ne HSZ2.out HNE2.out)
   have HSZ3 := hid (heap_lt HR3.out)
   have HPL3 := hid (show P3.length + ((encS y.s).length + ((encV y.v).length + (encL y.l).length)) ≤ 1073741000 by rw [← hP3]; have := HPL.out; simp only [List.length_append] at this ⊢; omega)
   have HNX3 := hid (show b ++ (leN l.length 4 ++ encNs (l.take (k + 1))) = P3 ++ encS y.s ++ encV y.v ++ encL y.l by rw [HNX.out, ← hP3]; simp only [List.append_assoc])
   have HBS3 := hid (Nat.le_trans HBS.out HX3.out.2.1.size)
   have HO3 := hid hx3.1
   obtain ⟨a3, c3, rfl, -⟩ := own_len hx3.1
   clear hx3 d1 HI2 hP3 HX2 HR2 HNE2 HSZ2 HNX HPL
   go_upto_region 7 with fail
   have HC := hid (fun (w' : World) (h : w'.heap[B]? = some (.cells #[.int .i64 y.op, .int .i64 y.ln, .string y.s, .int .i64 y.v.k, .int .i64 y.v.n, .string y.v.s, .slice va y.v.l.length c1, .slice a' y.l.length c'] 75 (0, 0))) => (show w'.cell? ⟨B, 2, none⟩ = some (.string y.s) ∧ w'.cell? ⟨B, 3, none⟩ = some (.int .i64 y.v.k) ∧ w'.cell? ⟨B, 4, none⟩ = some (.int .i64 y.v.n) ∧ w'.cell? ⟨B, 5, none⟩ = some (.string y.v.s) ∧ w'.cell? ⟨B, 6, none⟩ = some (.slice va y.v.l.length c1) by
    refine ⟨?_, ?_, ?_, ?_, ?_⟩
    all_goals (rw [cell_of_row _ _ _ _ _ _ h]; rfl)))
   refine wp_region_ord [(0, 0), (1, 0), (2, 0), (4, 0), (5, 0), (3, 1), (6, 1), (7, 0)] (fun w' => w'.heap[B]? = some (.cells #[.int .i64 y.op, .int .i64 y.ln, .string y.s, .int .i64 y.v.k, .int .i64 y.v.n, .string y.v.s, .slice va y.v.l.length c1, .slice a' y.l.length c'] 75 (0, 0))) (by kernel_rfl) (by kernel_rfl) (by kernel_rfl) rfl (fun _ _ d _ _ h => by cases d <;> exact h) HR3.out ?_
   iterate 2 (refine wpO_take ?_ rfl (by kernel_rfl) ?_ ?_; rotate_left; (· intro w' hS; go_simp; try with_reducible rfl); try simp only [Act.put, List.setIfInBounds_toArray, List.set_cons_zero, List.set_cons_succ])
   (refine wpO_take ?_ rfl (by kernel_rfl) ?_ ?_; rotate_left; (· intro w' hS; obtain ⟨q2, q3, q4, q5, q6⟩ := HC.out w' hS; go_simp; try with_reducible rfl); try simp only [Act.put, List.setIfInBounds_toArray, List.set_cons_zero, List.set_cons_succ])
   (refine wpO_take ?_ rfl (by kernel_rfl) ?_ ?_; rotate_left; (· intro w' hS; go_simp; try with_reducible rfl); try simp only [Act.put, List.setIfInBounds_toArray, List.set_cons_zero, List.set_cons_succ])
   (refine wpO_take ?_ rfl (by kernel_rfl) ?_ ?_; rotate_left; (· intro w' hS; obtain ⟨q2, q3, q4, q5, q6⟩ := HC.out w' hS; go_simp; try with_reducible rfl); try simp only [Act.put, List.setIfInBounds_toArray, List.set_cons_zero, List.set_cons_succ])
   have hfd : Fr (fun _ => False) w3 w3.drew := (Fr.refl _ _).drew
   refine wpO_run rfl (by kernel_rfl) (fun K hK => ?_); go_simp
   refine (mtext_any base _ P3 y.s w3.drew (hfd.own HO3.out fun _ _ => not_false) (by have := HPL3.out; have := encS_len y.s; omega) (by have := HPL3.out; omega) (Nat.le_trans HBS3.out hfd.size)).mono ?_
   rintro e w4 ⟨v4, rfl, hx4⟩
   obtain ⟨P4, hP4⟩ : ∃ q, P3 ++ encS y.s = q := ⟨_, rfl⟩
   rw [hP4] at hx4
   have hr4 : w4.heap[B]? = some (.cells #[.int .i64 y.op, .int .i64 y.ln, .string y.s, .int .i64 y.v.k, .int .i64 y.v.n, .string y.v.s, .slice va y.v.l.length c1, .slice a' y.l.length c'] 75 (0, 0)) := hx4.2.1.heap (hfd.heap HR3.out not_false) HNE3.out
   refine hK _ _ (fun _ => hr4) ?_
   clear hK K
   try simp only [Act.put, List.setIfInBounds_toArray, List.set_cons_zero, List.set_cons_succ]
   have HX4 := hid (HX3.out.drew.trans hx4)
   have HNE4 := hid (hx4.ne (Nat.lt_of_lt_of_le HSZ3.out hfd.size) HNE3.out)
   have HR4 := hid hr4
   have hDr : ∀ k, D k ∧ k < w.heap.size → ¬ some k = (Value.slice ar P.length cr).ownBlock := fun k hk e => (HX.out.2.2 k e.symm).elim (fun e => HD.out k hk.1 e.symm) (by omega)
   have hlv : (P4 ++ encV y.v).length ≤ 1073741000 := by rw [← hP4]; have := HPL3.out; simp only [List.length_append] at this ⊢; omega
   have HVL4 := hid (HVL.out.frame HX4.out.2.1 hDr)
   rw [V.eta'] at HVL4
   have HO4 := hid hx4.1
   have HMV := hid (mvalue_any base _ P4 y.v _ w4 _ HVL4.out HFY.out.1.1 HFY.out.1.2 hx4.1 (by rw [List.length_append] at hlv; omega) (Nat.le_trans HBS3.out (Nat.le_trans hfd.size hx4.2.1.size)))
   have HDR := hid hDr
   obtain ⟨a4, c4, rfl, -⟩ := own_len hx4.1
   clear hx4 hr4 hDr hlv
   refine wpO_run rfl (by kernel_rfl) (fun K hK => ?_); go_simp
   refine HMV.out.mono ?_
   rintro e w5 ⟨v5, rfl, hx5⟩
   obtain ⟨P5, hP5⟩ : ∃ q, P4 ++ encV y.v = q := ⟨_, rfl⟩
   rw [hP5] at hx5
   have hr5 := hx5.2.1.heap HR4.out HNE4.out
   refine hK _ _ (fun _ => hr5) ?_
   clear hK K
   try simp only [Act.put, List.setIfInBounds_toArray, List.set_cons_zero, List.set_cons_succ]
   (refine wpO_take ?_ rfl (by kernel_rfl) ?_ ?_; rotate_left; (· intro w' hS; go_simp; try with_reducible rfl); try simp only [Act.put, List.setIfInBounds_toArray, List.set_cons_zero, List.set_cons_succ])
   refine wpO_end ?_
   have HX5 := hid (HX4.out.trans hx5)
   have HP5 := hid (show P3 ++ encS y.s ++ encV y.v = P5 by rw [hP4, hP5])
   have d7 : w5.cell? ⟨B, 7, none⟩ = some (.slice a' y.l.length c') := by rw [cell_of_row _ _ _ _ _ _ hr5]; rfl
   have HY5 := hid (HYL.out.frame HX5.out.2.1 HDR.out)
   have HREC := hid (HIH.out y.l HCY.out HFY.out.2 _ base w5 v5 _ P5 HY5.out (fun k hk e => (HX5.out.2.2 k e.symm).elim (fun e => HDR.out k hk e.symm) (by have := HX.out.2.1.size; omega)) hx5.1 (by rw [← HP5.out]; have := HPL3.out; simp only [List.length_append] at this ⊢; omega) (Nat.le_trans HBS.out HX5.out.2.1.size))
   obtain ⟨a5, c5, rfl, -⟩ := own_len hx5.1
   clear hx5 hr5 HMV HX4 HVL4 HO4 HX3 hP4 hP5 HO3 hfd
   go_wp2_with fail
   refine HREC.out.mono ?_
   rintro e w6 ⟨v6, rfl, hx6⟩
   have HX6 := hid (show OBx base w (.slice ao b.length oc) w6 v6 (b ++ (leN l.length 4 ++ encNs (l.take (k + 1)))) by
    rw [HNX3.out, HP5.out]
    exact HX.out.trans (HX5.out.trans hx6))
   clear hx6 HREC d7
   go_wp2_with fail
   go_roundw
   case rel => exact ⟨k + 1, by omega, by go_num, HX6⟩
   case measure => simp [intOf]; omega
  ·obtain rfl : k = l.length := by omega
   rw [List.take_length] at HX
   go_wp2_with fail
   go_ret
   exact ⟨_, rfl, HX.out⟩
theorem mnodes_to : ∀ (N : Nat) (l : List Nd), cntL l < N → FlatL l → ∀ (D : Nat → Prop) (base : Nat) (w : World) (v lv : Value) (b : List UInt8), NL D w l lv → (∀ k, D k → ¬ some k = v.ownBlock) → OB base w v b → (b ++ encL l).length ≤ 1073741000 → base ≤ w.heap.size →
   Calls Tryz.prog 30 #[v, lv] w fun e w' => ∃ v', e = .returned v' ∧ OBx base w v w' v' (b ++ encL l)
 | 0 => fun l h => absurd h (Nat.not_lt_zero _)
 | N + 1 => mnodes_of N (mnodes_to N)
end
section
open Go.RowKit
theorem pOwn_flat {x : Nd} {role : Int} {lp : Bool} (h : pOwn x role lp = 0) : x.v.k ≠ 4 := by
 intro hk
 have hf : fairV x.op x.v = false := by
  unfold fairV
  split
  ·simp [litOk, hk]
  ·simp [noV, hk]
 unfold pOwn at h
 rw [hf, if_pos (by simp [ownBad])] at h
 exact absurd h (by decide)
mutual
theorem walk_flat : ∀ (x : Nd) (role : Int) (lp : Bool), (pWalk x role lp).1 = 0 → ∀ y ∈ x.walk, y.v.k ≠ 4
 | .mk op ln s v l, role, lp, h, y, hy => by
  rw [pWalk] at h
  by_cases h1 : pOwn (.mk op ln s v l) role lp = 0
  ·rw [if_pos h1] at h
   rw [Nd.walk] at hy
   rcases List.mem_cons.1 hy with rfl | hy
   ·exact pOwn_flat h1
   ·exact walkL_flat l _ _ _ _ _ h y hy
  ·rw [if_neg h1] at h
   exact absurd h h1
theorem walkL_flat : ∀ (l : List Nd) (op role : Int) (lp : Bool) (R : List Int) (i : Nat), (pWalkL op role lp R i l).1 = 0 → ∀ y ∈ walkL l, y.v.k ≠ 4
 | [], op, role, lp, R, i, h, y, hy => by simp [walkL] at hy
 | x :: r, op, role, lp, R, i, h, y, hy => by
  rw [pWalkL] at h
  by_cases h1 : (pWalk x (rW role op i (R.getD i 0)) (inW op lp (rW role op i (R.getD i 0)))).1 = 0
  ·rw [if_pos h1] at h
   rw [walkL] at hy
   rcases List.mem_append.1 hy with hy | hy
   ·exact walk_flat x _ _ h1 y hy
   ·exact walkL_flat r _ _ _ _ _ h y hy
  ·rw [if_neg h1] at h
   exact absurd h h1
end
theorem sz_walk : ∀ (l : List Nd), ∀ y ∈ walkL l, y.sz ≤ szL l := by
 have key : ∀ (N : Nat) (l : List Nd), cntL l < N → ∀ y ∈ walkL l, y.sz ≤ szL l := by
  intro N
  induction N with
  | zero => intro l h; exact absurd h (Nat.not_lt_zero _)
  | succ N ih =>
   intro l h
   induction l with
   | nil => intro y hy; simp [walkL] at hy
   | cons x r ihr =>
    intro y hy
    rw [cntL] at h
    have hc := Nd.cnt_eq x
    have hs := Nd.sz_eq x
    rw [walkL, Nd.walk_eq] at hy
    rw [szL]
    rcases List.mem_append.1 hy with hy | hy
    ·rcases List.mem_cons.1 hy with rfl | hy
     ·omega
     ·have := ih x.l (by omega) y hy
      omega
    ·have := ihr (by omega) y hy
     omega
 exact fun l => key (cntL l + 1) l (Nat.lt_succ_self _)
theorem flat_of {l : List Nd} (h : (pValid l 7).c = 0) (hz : szL l ≤ 1073741824) : FlatL l := by
 intro y hy
 have hs := sz_walk l y hy
 have h1 := Nd.sz_eq y
 have h2 := V.size_eq y.v
 refine ⟨?_, by omega⟩
 have hw : ∀ (l : List Nd), (pVals 7 l).1 = 0 → ∀ y ∈ walkL l, y.v.k ≠ 4 := by
  intro l
  induction l with
  | nil => intro _ y hy; simp [walkL] at hy
  | cons x r ih =>
   intro hv y hy
   rw [pVals] at hv
   by_cases h1 : (pWalk x 7 false).1 = 0
   ·rw [if_pos h1] at hv
    rw [walkL] at hy
    rcases List.mem_append.1 hy with hy | hy
    ·exact walk_flat x _ _ h1 y hy
    ·exact ih hv y hy
   ·rw [if_neg h1] at hv
    exact absurd hv h1
 refine hw l ?_ y hy
 unfold pValid at h
 split at h
 ·cases h
 split at h
 ·cases h
 unfold fltAt at h
 by_cases h3 : (pVals 7 l).1 = 0
 ·exact h3
 ·rw [if_neg h3] at h; exact absurd h h3
theorem cbytes_any {base K : Nat} {w : World} {l : List Nd} (h : CodeBox base w l K) (hfl : FlatL l) (hlen : (encL l).length ≤ 1073741000) :
  Calls Tryz.prog 8 #[.pointer (some ⟨K, 0, none⟩)] w fun e w' => ∃ v', e = .returned v' ∧ OB w.heap.size w' v' (sealB (encL l)) ∧ Fr (fun _ => False) w w' := by
 obtain ⟨C, h1, sv, L, nb, T, ⟨lv, nv, bv, xs, zs, h2, -⟩, -, -, -, -, hn⟩ := h
 have c0 : w.cell? ⟨K, 0, none⟩ = some (.pointer (some ⟨C, 0, none⟩)) := by rw [cell_of_row _ _ _ _ _ _ h1]; rfl
 have d3 : w.cell? ⟨C, 3, none⟩ = some sv := by rw [cell_of_row _ _ _ _ _ _ h2]; rfl
 have HN := hid (mnodes_to (cntL l + 1) l (by omega) hfl (fun _ => True) w.heap.size w (.slice none 0 0) sv [] hn (fun k _ e => by cases e) (World.ownsRow_nil _ _ _ _) (by simpa using hlen) (Nat.le_refl _))
 have HL := hid hlen
 obtain ⟨a, c, us, rfl, -⟩ := id hn
 clear h1 h2 hn hlen hfl
 go_enter Tryz.func8, Tryz.ntmps8
 go_wp2_with fail
 refine HN.out.mono ?_
 rintro e w2 ⟨v2, rfl, hx⟩
 rw [List.nil_append] at hx
 have HX := hid hx
 have HF := hid (show Fr (fun _ => False) w w2 from hx.2.1.mono fun _ _ e => by cases e)
 have HS := hid (seal_any _ v2 (encL l) w2 (Bs.own hx.1) (by have := HL.out; omega))
 obtain ⟨a2, c2, rfl, -⟩ := own_len hx.1
 clear hx HN
 go_wp2_with fail
 refine HS.out.mono ?_
 rintro e w3 ⟨v3, rfl, ho3, hf3⟩
 have HO3 := hid (own_base' ho3 HF.out.size)
 have HF3 := hid (HF.out.trans' hf3)
 obtain ⟨a3, c3, rfl, -⟩ := own_len ho3
 clear ho3 hf3 HS
 go_wp2_with fail
 go_ret
 exact ⟨_, rfl, HO3.out, HF3.out⟩
end
section
open Go.RowKit
def rProg (B : List UInt8) (s : RS) : List Nd × RS :=
 if (rNds B 41 ⟨4096, s⟩).2.s.ok = true ∧ (pValid (rNds B 41 ⟨4096, s⟩).1 7).c = 0 then ((rNds B 41 ⟨4096, s⟩).1, (rNds B 41 ⟨4096, s⟩).2.s) else ([], (rNds B 41 ⟨4096, s⟩).2.s.fail)
theorem Sent17.five {w : World} {pa : Nat → Addr} (h : Sent17 w pa) : Sent5 w pa := ⟨fun i hi => h.s i (by
 have hi' : i = 2 ∨ i = 3 ∨ i = 4 ∨ i = 5 ∨ i = 11 := by simpa using hi
 omega)⟩
theorem Sents.five {w : World} {pa : Nat → Addr} (h : Sents w pa) : Sent5 w pa := ⟨fun i hi => h i (by
 have hi' : i = 2 ∨ i = 3 ∨ i = 4 ∨ i = 5 ∨ i = 11 := by simpa using hi
 omega)⟩
theorem Sents.bound {w : World} {pa : Nat → Addr} (h : Sents w pa) : sentB ≤ w.heap.size := by
 obtain ⟨i, hi, he⟩ : ∃ i, i < 17 ∧ sentG.getD i 0 + 1 = sentB := ⟨sentG.findIdx (fun x => x + 1 == sentB), by decide, by decide⟩
 have := World.block_lt_of_cell? _ _ (h i hi)
 simp only at this
 omega
theorem sgb_le : 7 ≤ sentB := by decide
set_option maxRecDepth 100000 in
theorem rdprog_any {B : List UInt8} {s : RS} {R : Nat} (pa : Nat → Addr) (w : World) (h : RdAt w R B s) (hE : Sents w pa) :
  Calls Tryz.prog 32 #[.pointer (some ⟨R, 0, none⟩)] w fun e w' => ∃ v, e = .returned v ∧ RdAt w' R B (rProg B s).2 ∧ Fr (fun k => k = R) w w' ∧ NL (fun _ => True) w' (rProg B s).1 v ∧
   ((rProg B s).2.ok = true → (pValid (rProg B s).1 7).c = 0 ∧ szL (rProg B s).1 + s.at_ ≤ (rProg B s).2.at_) := by
 obtain ⟨⟨x, t⟩, hq⟩ : ∃ q, rNds B 41 ⟨4096, s⟩ = q := ⟨_, rfl⟩
 have hg := rNds_go (B := B) 41 ⟨4096, s⟩ h.1.2.1
 rw [hq] at hg
 have hP : rProg B s = if t.s.ok = true ∧ (pValid x 7).c = 0 then (x, t.s) else ([], t.s.fail) := by unfold rProg; rw [hq]
 rw [hP]
 have hf0 := (Fr.refl (fun _ => False) w).alloc (.cells #[.int .i64 4096] 3)
 have HBL := hid (heap_alloc_new w (.cells #[.int .i64 4096] 3))
 have HR := hid h
 have HSB := hid hE.bound
 have HN := hid (nds_to 41 (by decide) B ⟨4096, s⟩ R w.heap.size pa _ (h.frame hf0) (hE.frame hf0) h.lt (heap_alloc_new w (.cells #[.int .i64 4096] 3)) ⟨Int.le_refl _, by dsimp only; split <;> omega⟩)
 rw [hq, show (42 : Int) - ((41 : Nat) : Int) = 1 from rfl] at HN
 have HF0 := hid hf0
 have HE := hid (fun (w2 : World) (hf : Fr (fun k => k = R ∨ k = w.heap.size) (w.alloc (.cells #[.int .i64 4096] 3)) w2) => show Sents w2 pa from fun i hi => hf.cell (hf0.cell (hE i hi) not_false) (by
  have h1 := sent_lt i hi
  have h2 := h.1.1
  have h3 := hE.bound
  show ¬ (sentG.getD i 0 = R ∨ sentG.getD i 0 = w.heap.size)
  omega))
 clear h hE hq hP hf0
 have HG := hid hg.2.2
 dsimp only at HN
 clear hg
 by_cases hok : t.s.ok = true
 ·have hsz := HG.out hok
  dsimp only at hsz
  have HSZ := hid hsz
  have HBND := hid HR.out.1.2
  have HTV := hid (fun (w2 : World) (hf : Fr (fun k => k = R ∨ k = w.heap.size) (w.alloc (.cells #[.int .i64 4096] 3)) w2) (hr : RdAt w2 R B t.s) (D : Nat → Prop) (v : Value) (hv : NL D w2 x v) => tvalid5_any pa x (by have := HSZ.out; have := hr.1.2; omega) D w2 v hv (HE.out w2 hf).five (Nat.le_trans sgb_le (HE.out w2 hf).bound))
  by_cases hc : (pValid x 7).c = 0
  ·rw [if_pos ⟨hok, hc⟩]
   have HOK := hid hok; have HC := hid hc
   clear hok hc hsz
   go_enter Tryz.func32, Tryz.ntmps32
   go_wp2_with fail
   refine HN.out.mono ?_
   rintro e w2 ⟨v, rfl, hv, hr, hl, hf⟩
   have HV := hid (hv.mono (E := fun _ => True) fun _ _ _ => trivial)
   have HF := hid hf
   have HR2 := hid hr
   have r2 := hr.ok_nil HOK.out
   have HT := hid (HTV.out w2 hf hr _ v hv)
   obtain ⟨a, c, us, rfl, -⟩ := id hv
   clear hv hr hl hf HN
   go_wp2_with fail
   refine HT.out.mono ?_
   rintro e w3 ⟨ev, rfl, hf3, hev⟩
   rcases hev.cases with ⟨-, rfl⟩ | ⟨hcc, -⟩
   case inr => exact absurd HC.out hcc
   have r3 := hf3.cell r2 not_false
   have HF3 := hid hf3
   clear r2 hev hf3
   go_wp2_with fail
   go_ret
   exact ⟨_, rfl, HR2.out.frame HF3.out, ((HF0.out.trans HF.out (U := fun k => k = R) (fun _ _ h => h.elim) (fun k hk h => h.elim id (fun h => by omega)))).trans HF3.out (fun _ _ h => h) (fun _ _ h => h.elim), HV.out.frame HF3.out fun _ _ => not_false, fun _ => ⟨HC.out, HSZ.out⟩⟩
  ·rw [if_neg (fun h => hc h.2)]
   have HOK := hid hok; have HC := hid hc
   clear hok hc hsz
   go_enter Tryz.func32, Tryz.ntmps32
   go_wp2_with fail
   refine HN.out.mono ?_
   rintro e w2 ⟨v, rfl, hv, hr, hl, hf⟩
   have HF := hid hf
   have HR2 := hid hr
   have r2 := hr.ok_nil HOK.out
   have HT := hid (HTV.out w2 hf hr _ v hv)
   obtain ⟨a, c, us, rfl, -⟩ := id hv
   clear hv hr hl hf HN
   go_wp2_with fail
   refine HT.out.mono ?_
   rintro e w3 ⟨ev, rfl, hf3, hev⟩
   rcases hev.cases with ⟨hcc, -⟩ | ⟨-, tt, xx, rfl⟩
   case inl => exact absurd hcc HC.out
   have HFL := hid (rdfail_any w3 (HR2.out.frame hf3) tt xx)
   have HF3 := hid hf3
   clear r2 hev hf3
   go_wp2_with fail
   refine HFL.out.mono ?_
   rintro e w4 ⟨rfl, hr4, hf4⟩
   obtain ⟨t4, x4, r4⟩ := hr4.ok_iface rfl
   have HR4 := hid hr4; have HF4 := hid hf4
   clear hr4 hf4
   go_wp2_with fail
   go_ret
   exact ⟨_, rfl, HR4.out, (((HF0.out.trans HF.out (U := fun k => k = R) (fun _ _ h => h.elim) (fun k hk h => h.elim id (fun h => by omega)))).trans HF3.out (U := fun k => k = R) (fun _ _ h => h) (fun _ _ h => h.elim)).trans' HF4.out, NL.nil _ _, fun h => by cases h⟩
 ·rw [if_neg (fun h => hok h.1)]
  have HOK := hid (show t.s.ok = false by simpa using hok)
  clear hok
  go_enter Tryz.func32, Tryz.ntmps32
  go_wp2_with fail
  refine HN.out.mono ?_
  rintro e w2 ⟨v, rfl, hv, hr, hl, hf⟩
  have HF := hid hf
  obtain ⟨t4, x4, r4⟩ := hr.ok_iface HOK.out
  have HR4 := hid (show RdAt w2 R B t.s.fail from ⟨hr.1, by
   obtain ⟨-, bv, ev, h1, h2, h3⟩ := hr
   exact ⟨bv, ev, h1, h2, .inr ⟨rfl, h3.elim (fun h => by rw [HOK.out] at h; cases h.1) fun h => h.2⟩⟩⟩)
  obtain ⟨a, c, us, rfl, -⟩ := id hv
  clear hv hr hl hf HN
  go_wp2_with fail
  go_ret
  exact ⟨_, rfl, HR4.out, HF0.out.trans HF.out (U := fun k => k = R) (fun _ _ h => h.elim) (fun k hk h => h.elim id (fun h => by omega)), NL.nil _ _, fun h => by cases h⟩
end
section
def inI (z : Int) : Prop := -9223372036854775808 ≤ z ∧ z < 9223372036854775808
def RngL (l : List Nd) : Prop := ∀ y ∈ walkL l, inI y.ln ∧ inI y.v.n
theorem pCounts_op {op : Int} {n : Nat} (h : pCounts op n = true) : 0 ≤ op ∧ op < 256 := by
 unfold pCounts at h
 by_cases h0 : 0 ≤ op ∧ op < 256
 ·exact h0
 ·exfalso
  repeat (rw [if_neg (by omega)] at h)
  cases h
theorem empty_size {s : ByteArray} (h : s.toList.isEmpty = true) : s = ⟨#[]⟩ := by
 rw [List.isEmpty_iff, ByteArray.toList_eq] at h
 cases s with
 | mk d => simp at h; subst h; rfl
theorem size_empty {s : ByteArray} (h : s.size = 0) : s = ⟨#[]⟩ := by
 cases s with
 | mk d =>
  have : d.size = 0 := h
  rw [Array.size_eq_zero_iff] at this
  subst this
  rfl
theorem valid_fit {v : V} (h : litOk v = true) (hn : inI v.n) : fitV v := by
 unfold litOk at h
 simp only [Bool.and_eq_true, bne_iff_ne, decide_eq_true_eq] at h
 obtain ⟨⟨h4, hv⟩, -⟩ := h
 unfold V.valid at hv
 rw [V.odd_eq, if_neg (by omega)] at hv
 by_cases a1 : 4096 < oddSize v.k v.s 0
 ·rw [if_pos a1] at hv; exact absurd hv (by simp)
 rw [if_neg a1] at hv
 cases a2 : oddRange v.k v.n
 case true => rw [a2] at hv; simp at hv
 rw [a2] at hv
 cases a3 : oddShape v.k v.n v.s v.l.isEmpty
 case true => rw [a3] at hv; simp at hv
 clear hv
 obtain ⟨k, n, s, l⟩ := v
 simp only [V.k, V.n, V.s, V.l] at *
 unfold oddRange at a2
 unfold oddShape at a3
 unfold oddSize at a1
 simp only [Bool.or_eq_false_iff, decide_eq_false_iff_not] at a2
 simp only [Bool.or_eq_false_iff] at a3
 obtain ⟨⟨⟨b1, b2⟩, b3⟩, -⟩ := a3
 obtain ⟨⟨⟨c1, c2⟩, -⟩, -⟩ := a2
 have hl : l = [] := by
  have : (k != 4) = true := by rw [bne_iff_ne]; exact h4
  rw [this, Bool.true_and, Bool.not_eq_false'] at b3
  exact List.isEmpty_iff.1 b3
 refine ⟨hl, ?_⟩
 by_cases k2 : k = 2
 ·subst k2
  refine .inr ⟨rfl, ?_, ?_⟩
  ·show n = 0
   simpa using b1
  ·simp at a1; show s.size ≤ 4096; omega
 ·refine .inl ⟨by show k = 0 ∨ k = 1 ∨ k = 3; omega, ?_, hn.1, hn.2⟩
  have : (k != 2) = true := by rw [bne_iff_ne]; exact k2
  rw [this, Bool.true_and] at b2
  show s = ⟨#[]⟩
  have b4 : s.size = 0 := by simpa using b2
  exact size_empty b4
theorem none_fit {v : V} (h : noV v = true) : fitV v := by
 unfold noV at h
 simp only [Bool.and_eq_true, beq_iff_eq, decide_eq_true_eq] at h
 obtain ⟨⟨⟨h1, h2⟩, h3⟩, h4⟩ := h
 exact ⟨List.eq_nil_of_length_eq_zero h4, .inl ⟨.inl h1, empty_size h3, by omega, by omega⟩⟩
theorem own_fit {x : Nd} {role : Int} {lp : Bool} (h : pOwn x role lp = 0) (hn : inI x.v.n) : (0 ≤ x.op ∧ x.op < 256) ∧ x.s.size ≤ 32 ∧ fitV x.v := by
 unfold pOwn at h
 cases h1 : ownBad (fair1 (pStands x.op role) lp x.op && fairV x.op x.v) (pCounts x.op x.l.length) (pNamed x.op).1 x.s.toList.isEmpty
 case true => rw [h1] at h; simp at h
 rw [h1] at h
 cases h2 : ownBad2 (pNamed x.op).1 (pName x.s) (pNamed x.op).2 x.s.toList.isEmpty
 case true => rw [h2] at h; simp at h
 clear h
 unfold ownBad at h1
 simp only [Bool.or_eq_false_iff, Bool.not_eq_false', Bool.and_eq_true] at h1
 obtain ⟨⟨⟨-, hf⟩, hc⟩, hs⟩ := h1
 refine ⟨pCounts_op hc, ?_, ?_⟩
 ·cases he : x.s.toList.isEmpty
  ·rw [he] at hs h2
   have his : (pNamed x.op).1 = true := by
    cases hh : (pNamed x.op).1
    ·rw [hh] at hs; simp at hs
    ·rfl
   unfold ownBad2 at h2
   rw [his] at h2
   have hp : pName x.s = true := by
    cases hh : pName x.s
    ·rw [hh] at h2; simp at h2
    ·rfl
   unfold pName at hp
   simp only [Bool.and_eq_true, decide_eq_true_eq] at hp
   exact hp.1.2.1
  ·rw [empty_size he]; exact Nat.zero_le _
 ·unfold fairV at hf
  by_cases h1 : x.op = 1
  ·rw [if_pos h1] at hf; exact valid_fit hf hn
  ·rw [if_neg h1] at hf; exact none_fit hf
mutual
theorem walk_fit : ∀ (x : Nd) (role : Int) (lp : Bool), (pWalk x role lp).1 = 0 → (∀ y ∈ x.walk, inI y.ln ∧ inI y.v.n) → FitN x
 | .mk op ln s v l, role, lp, h, hr => by
  rw [pWalk] at h
  by_cases h1 : pOwn (.mk op ln s v l) role lp = 0
  ·rw [if_pos h1] at h
   have h0 := hr (.mk op ln s v l) (by rw [Nd.walk]; exact List.mem_cons_self)
   obtain ⟨f1, f3, f4⟩ := own_fit h1 h0.2
   exact .mk op ln s v l f1 h0.1 f3 f4 (walkL_fit l _ _ _ _ _ h fun y hy => hr y (by rw [Nd.walk]; exact List.mem_cons_of_mem _ hy))
  ·rw [if_neg h1] at h
   exact absurd h h1
theorem walkL_fit : ∀ (l : List Nd) (op role : Int) (lp : Bool) (R : List Int) (i : Nat), (pWalkL op role lp R i l).1 = 0 → (∀ y ∈ walkL l, inI y.ln ∧ inI y.v.n) → ∀ y ∈ l, FitN y
 | [], op, role, lp, R, i, h, _, y, hy => by cases hy
 | x :: r, op, role, lp, R, i, h, hr, y, hy => by
  rw [pWalkL] at h
  by_cases h1 : (pWalk x (rW role op i (R.getD i 0)) (inW op lp (rW role op i (R.getD i 0)))).1 = 0
  ·rw [if_pos h1] at h
   rcases List.mem_cons.1 hy with e | hy
   ·rw [e]
    exact walk_fit x _ _ h1 fun z hz => hr z (by rw [walkL]; exact List.mem_append_left _ hz)
   ·exact walkL_fit r _ _ _ _ _ h (fun z hz => hr z (by rw [walkL]; exact List.mem_append_right _ hz)) y hy
  ·rw [if_neg h1] at h
   exact absurd h h1
end
theorem vals_fit : ∀ l : List Nd, (pVals 7 l).1 = 0 → RngL l → ∀ y ∈ l, FitN y
 | [], _, _, y, hy => by cases hy
 | x :: r, hv, hr, y, hy => by
  rw [pVals] at hv
  by_cases h1 : (pWalk x 7 false).1 = 0
  ·rw [if_pos h1] at hv
   rcases List.mem_cons.1 hy with e | hy
   ·rw [e]
    exact walk_fit x _ _ h1 fun z hz => hr z (by rw [walkL]; exact List.mem_append_left _ hz)
   ·exact vals_fit r hv (fun z hz => hr z (by rw [walkL]; exact List.mem_append_right _ hz)) y hy
  ·rw [if_neg h1] at hv
   exact absurd hv h1
theorem pValid_vals {l : List Nd} (h : (pValid l 7).c = 0) : (pVals 7 l).1 = 0 := by
 unfold pValid at h
 split at h
 ·cases h
 split at h
 ·cases h
 unfold fltAt at h
 by_cases h3 : (pVals 7 l).1 = 0
 ·exact h3
 ·rw [if_neg h3] at h; exact absurd h h3
theorem rProg_enc {l : List Nd} (h : (pValid l 7).c = 0) (hr : RngL l) (q : List UInt8) : rNds (encL l ++ q) 41 ⟨4096, ⟨0, true⟩⟩ = (l, ⟨4096 - cntL l, ⟨(encL l).length, true⟩⟩) := by
 obtain ⟨-, h2, h3⟩ := pValid_ok h
 have := rNds_enc (B := encL l ++ q) 40 l 0 4096 q h3 (vals_fit l (pValid_vals h) hr) (by omega) (by omega) rfl
 rw [Nat.zero_add] at this
 exact this.1
end
section
open Go.RowKit
def bitAt (l : List UInt8) (j : Nat) : Bool := (l.getD (j / 8) 0).toNat.testBit (j % 8)
theorem S_word' {c : BitVec 32} {e : Nat → Bool} (k : Nat) : ∀ j, j ≤ 32 → S c e (k + j) = it zs j (S c e k ^^^ wd (fun i => e (k + i)) j)
 | 0, _ => by simp [wd, it]
 | j + 1, hj => by
  have h1 := S_word' (c := c) (e := e) k j (by omega)
  rw [← Nat.add_assoc]
  simp only [S, h1, wd, it_xor, it, zs_xor]
  have h2 := it_one_shift j (by omega)
  rw [BitVec.xor_assoc]
  congr 2
  by_cases he : e (k + j) = true
  ·rw [if_pos he, h2, he]; rfl
  ·rw [if_neg he, it_zero, Bool.eq_false_iff.2 he]; rfl
theorem byte_bits (c : BitVec 32) (b : UInt8) : crcB c b = S c (fun i => b.toNat.testBit i) 8 := by
 have h := S_word' (c := c) (e := fun i => b.toNat.testBit i) 0 8 (by decide)
 rw [Nat.zero_add] at h
 rw [h]
 unfold crcB
 congr 2
 apply BitVec.eq_of_getLsbD_eq
 intro i hi
 rw [wd_bit _ 8 (by decide) i hi, BitVec.getLsbD_ofNat]
 by_cases h8 : i < 8
 ·simp [h8, hi]
 ·have hb := b.toNat_lt
  have : b.toNat.testBit i = false := Nat.testBit_lt_two_pow (Nat.lt_of_lt_of_le hb (Nat.pow_le_pow_right (by decide) (by omega)))
  simp [h8, this]
theorem S_shift (c : BitVec 32) (e : Nat → Bool) (k : Nat) : ∀ m, S c e (k + m) = S (S c e k) (fun i => e (k + i)) m
 | 0 => rfl
 | m + 1 => by rw [← Nat.add_assoc]; simp only [S, S_shift c e k m]
theorem crc_bits : ∀ (l : List UInt8) (c : BitVec 32), crc c l = S c (bitAt l) (8 * l.length)
 | [], c => rfl
 | b :: l, c => by
  have h1 := crc_bits l (crcB c b)
  have e : crc c (b :: l) = crc (crcB c b) l := rfl
  rw [e, h1, List.length_cons, show 8 * (l.length + 1) = 8 + 8 * l.length by omega, S_shift, byte_bits]
  have e1 : S c (bitAt (b :: l)) 8 = S c (fun i => b.toNat.testBit i) 8 := S_congr (fun j hj => by
   unfold bitAt
   rw [show j / 8 = 0 by omega, show j % 8 = j by omega]
   rfl)
  rw [e1]
  apply S_congr
  intro j _
  unfold bitAt
  rw [show (8 + j) / 8 = j / 8 + 1 by omega, show (8 + j) % 8 = j % 8 by omega]
  rfl
theorem n4_bit (l : List UInt8) (i : Nat) (hi : i < 32) : (n4 l).testBit i = bitAt l i := by
 have h0 := (l.getD 0 0).toNat_lt
 have h1 := (l.getD 1 0).toNat_lt
 have h2 := (l.getD 2 0).toNat_lt
 have h3 := (l.getD 3 0).toNat_lt
 unfold bitAt n4
 have e : (l.getD 0 0).toNat + 256 * (l.getD 1 0).toNat + 65536 * (l.getD 2 0).toNat + 16777216 * (l.getD 3 0).toNat = 2 ^ 8 * (2 ^ 8 * (2 ^ 8 * (l.getD 3 0).toNat + (l.getD 2 0).toNat) + (l.getD 1 0).toNat) + (l.getD 0 0).toNat := by omega
 rw [e, Nat.testBit_two_pow_mul_add _ h0]
 by_cases c0 : i < 8
 ·rw [if_pos c0, show i / 8 = 0 by omega, show i % 8 = i by omega]
 ·rw [if_neg c0, Nat.testBit_two_pow_mul_add _ h1]
  by_cases c1 : i - 8 < 8
  ·rw [if_pos c1, show i / 8 = 1 by omega, show i % 8 = i - 8 by omega]
  ·rw [if_neg c1, Nat.testBit_two_pow_mul_add _ h2]
   by_cases c2 : i - 8 - 8 < 8
   ·rw [if_pos c2, show i / 8 = 2 by omega, show i % 8 = i - 8 - 8 by omega]
   ·rw [if_neg c2, show i / 8 = 3 by omega, show i % 8 = i - 8 - 8 - 8 by omega]
theorem open_iff (t : List UInt8) (L : Nat) (h : t.length = L + 4) : (openB t).2 = 0 ↔ S 4294967295#32 (bitAt t) (8 * t.length) = it zs 32 (BitVec.allOnes 32) := by
 have e1 : (openB t).2 = 0 ↔ n4 (t.drop L) = (sumB (t.take L)).toNat := by
  unfold openB
  rw [if_neg (by omega), h, show L + 4 - 4 = L by omega]
  by_cases hx : n4 (t.drop L) = (sumB (t.take L)).toNat
  ·rw [if_pos hx]; simp [hx]
  ·rw [if_neg hx]; simp [hx]
 have hs : 8 * t.length = 8 * L + 32 := by omega
 rw [e1, hs, S_word' (8 * L) 32 (Nat.le_refl _)]
 have hc : crc 4294967295#32 (t.take L) = S 4294967295#32 (bitAt t) (8 * L) := by
  rw [crc_bits, List.length_take, Nat.min_eq_left (by omega)]
  apply S_congr
  intro j hj
  unfold bitAt
  have : (t.take L).getD (j / 8) 0 = t.getD (j / 8) 0 := by
   simp only [List.getD, List.getElem?_take]
   rw [if_pos (by omega)]
  rw [this]
 have hw : wd (fun i => bitAt t (8 * L + i)) 32 = BitVec.ofNat 32 (n4 (t.drop L)) := by
  apply BitVec.eq_of_getLsbD_eq
  intro i hi
  rw [wd_bit _ 32 (Nat.le_refl _) i hi, BitVec.getLsbD_ofNat, n4_bit _ i hi]
  simp only [hi, decide_true, Bool.true_and]
  unfold bitAt
  rw [show (8 * L + i) / 8 = L + i / 8 by omega, show (8 * L + i) % 8 = i % 8 by omega]
  simp only [List.getD, List.getElem?_drop]
 rw [hw, ← hc]
 have hlt := n4_lt (t.drop L)
 generalize n4 (t.drop L) = x at *
 unfold sumB
 generalize crc 4294967295#32 (t.take L) = c
 constructor
 ·intro hx
  congr 1
  rw [hx, BitVec.ofNat_toNat, BitVec.setWidth_eq, ← BitVec.xor_allOnes, ← BitVec.xor_assoc, BitVec.xor_self, BitVec.zero_xor]
 ·intro hx
  have h2 := it_eq 32 hx
  have h3 : BitVec.ofNat 32 x = ~~~c := by
   have : c ^^^ (c ^^^ BitVec.ofNat 32 x) = c ^^^ BitVec.allOnes 32 := by rw [h2]
   rw [← BitVec.xor_assoc, BitVec.xor_self, BitVec.zero_xor] at this
   rw [this, BitVec.xor_allOnes]
  rw [← h3, BitVec.toNat_ofNat, Nat.mod_eq_of_lt hlt]
theorem seal_opens (l : List UInt8) : openB (sealB l) = (l, 0) := by
 unfold openB sealB
 have h := n4_le4 (sumB l).toNat (sumB l).isLt
 simp [h]
theorem turned_iff (l t : List UInt8) (D : Nat → Bool) (ht : t.length = (sealB l).length) (hD : ∀ j, j < 8 * t.length → bitAt t j = (bitAt (sealB l) j ^^ D j)) : (openB t).2 = 0 ↔ S 0#32 D (8 * t.length) = 0#32 := by
 have hsl : (sealB l).length = l.length + 4 := by simp [sealB]
 have h0 := (open_iff (sealB l) l.length hsl).1 (by rw [seal_opens])
 rw [open_iff t l.length (by omega)]
 have e : S 4294967295#32 (bitAt t) (8 * t.length) = S (4294967295#32 ^^^ 0#32) (fun j => bitAt (sealB l) j ^^ D j) (8 * t.length) := by
  rw [BitVec.xor_zero]
  exact S_congr hD
 rw [e, S_xor, ht, h0]
 constructor
 ·intro h
  have : it zs 32 (BitVec.allOnes 32) ^^^ (it zs 32 (BitVec.allOnes 32) ^^^ S 0#32 D (8 * (sealB l).length)) = it zs 32 (BitVec.allOnes 32) ^^^ it zs 32 (BitVec.allOnes 32) := by rw [h]
  rw [← BitVec.xor_assoc, BitVec.xor_self, BitVec.zero_xor] at this
  exact this
 ·intro h
  rw [h, BitVec.xor_zero]
def flip (l : List UInt8) (p : Nat) : List UInt8 := l.set (p / 8) (l.getD (p / 8) 0 ^^^ UInt8.ofNat (2 ^ (p % 8)))
@[simp] theorem flip_length (l : List UInt8) (p : Nat) : (flip l p).length = l.length := by simp [flip]
theorem open_not {t : List UInt8} (h4 : 4 ≤ t.length) (h : (openB t).2 ≠ 0) : (openB t).2 = 102 := by
 unfold openB at h ⊢
 rw [if_neg (by omega)] at h ⊢
 split at h
 ·exact absurd rfl h
 ·rename_i hx
  rw [if_neg hx]
end
section
theorem testBit_zero (x : UInt8) (h : ∀ i, i < 8 → x.toNat.testBit i = false) : x = 0 := by
 apply UInt8.toNat.inj
 apply Nat.eq_of_testBit_eq
 intro i
 by_cases hi : i < 8
 ·rw [h i hi]; simp
 ·rw [Nat.testBit_lt_two_pow (Nat.lt_of_lt_of_le x.toNat_lt (Nat.pow_le_pow_right (by omega) (by omega)))]; simp
def spoil (b : List UInt8) (p : Nat) (x : UInt8) : List UInt8 := b.set p (b.getD p 0 ^^^ x)
theorem spoil_len (b : List UInt8) (p : Nat) (x : UInt8) : (spoil b p x).length = b.length := by simp [spoil]
theorem spoil_bit (b : List UInt8) (p : Nat) (x : UInt8) (hp : p < b.length) (j : Nat) : bitAt (spoil b p x) j = (bitAt b j ^^ (decide (j / 8 = p) && x.toNat.testBit (j % 8))) := by
 unfold bitAt spoil
 by_cases h : j / 8 = p
 ·subst h
  have h1 : (b.set (j / 8) (b.getD (j / 8) 0 ^^^ x)).getD (j / 8) 0 = b.getD (j / 8) 0 ^^^ x := by
   simp only [List.getD, List.getElem?_set, if_pos hp]
   simp [hp]
  rw [h1, UInt8.toNat_xor, Nat.testBit_xor]
  simp
 ·have h1 : (b.set p (b.getD p 0 ^^^ x)).getD (j / 8) 0 = b.getD (j / 8) 0 := by
   simp only [List.getD, List.getElem?_set]
   rw [if_neg (fun e => h e.symm)]
  rw [h1]
  simp [h]
theorem spoilt (l : List UInt8) (p : Nat) (hp : p < (sealB l).length) (x : UInt8) (hx : x ≠ 0) : (openB (spoil (sealB l) p x)).2 = 102 := by
 have hlen := spoil_len (sealB l) p x
 refine open_not (by rw [hlen]; simp [sealB]) fun h0 => hx (testBit_zero x fun i hi => ?_)
 have h1 := (turned_iff l _ (fun j => decide (j / 8 = p) && x.toNat.testBit (j % 8)) hlen (fun j _ => spoil_bit _ p x hp j)).1 h0
 have h2 := S_burst (8 * p) (8 * (spoil (sealB l) p x).length) (fun j hj => by
  have : ¬ j / 8 = p := by omega
  simp [this]) (fun j hj => by
  rw [hlen] at hj
  have : ¬ j / 8 = p := by omega
  simp [this]) h1 (8 * p + i)
 have h3 : (8 * p + i) / 8 = p := by omega
 have h4 : (8 * p + i) % 8 = i := by omega
 simpa [h3, h4] using h2
end
section
open Go.RowKit
theorem OB.below {base : Nat} {w : World} {v : Value} {l : List UInt8} (h : OB base w v l) : Bs (fun k => k < w.heap.size) w v l := by
 obtain ⟨a, c, e, h1, h2, hk⟩ := Bs.own h
 refine ⟨a, c, e, h1, h2, fun k hlt => ?_⟩
 obtain ⟨b, o, e1, hD, hc⟩ := hk k hlt
 exact ⟨b, o, e1, (h.lt b hD).2, hc⟩
theorem OB.len {base : Nat} {w : World} {v : Value} {l : List UInt8} (h : OB base w v l) : ∃ a c, v = .slice a l.length c := by
 obtain ⟨a, c, e, -⟩ := own_len h
 exact ⟨a, c, e⟩
theorem openB_len (l : List UInt8) : (openB l).1.length ≤ l.length := by
 unfold openB
 split
 ·simp
 split
 ·simp
 ·simp
set_option maxRecDepth 100000 in
theorem mopen_any (D : Nat → Prop) (pa : Nat → Addr) (v : Value) (l : List UInt8) (w : World) (hB : Bs D w v l) (hl : l.length ≤ 1073741824) (hE : Sents w pa) :
  Calls Tryz.prog 31 #[v] w fun e w' => ∃ r ev, e = .returned (.tuple #[r, ev]) ∧ Fr (fun _ => False) w w' ∧
   (((openB l).2 ≠ 0 ∧ r = .pointer none ∧ ev = errV pa 102) ∨ ((openB l).2 = 0 ∧ ev = .nilIface ∧ ∃ R, r = .pointer (some ⟨R, 0, none⟩) ∧ w.heap.size ≤ R ∧ RdAt w' R (openB l).1 ⟨0, true⟩)) := by
 have HO := hid (open_any D pa v l w hB hl hE)
 have HE := hid hE
 have HLL := hid (openB_len l)
 have HL := hid hl
 obtain ⟨a, c, rfl, -⟩ := hB
 have hcode : (openB l).2 = 0 ∨ (openB l).2 = 101 ∨ (openB l).2 = 102 := by
  unfold openB
  split
  ·exact .inr (.inl rfl)
  split
  ·exact .inl rfl
  ·exact .inr (.inr rfl)
 obtain ⟨⟨q, n⟩, hq⟩ : ∃ q, openB l = q := ⟨_, rfl⟩
 rw [hq] at HO HLL hcode ⊢
 dsimp only at HO HLL hcode ⊢
 clear hq hE hl
 by_cases hn : n = 0
 ·subst hn
  have h0 : errV pa 0 = .nilIface := rfl
  rw [h0] at HO
  clear hcode h0
  go_enter Tryz.func31, Tryz.ntmps31
  go_wp2_with fail
  refine HO.out.mono ?_
  rintro e w2 ⟨v2, rfl, ho, hf⟩
  have HF := hid hf
  obtain ⟨a2, c2, rfl⟩ := ho.len
  have HC := hid (clone_any _ _ q w2 ho.bs (by have := HLL.out; have := HL.out; omega))
  clear ho hf HO
  go_wp2_with fail
  refine HC.out.mono ?_
  rintro e w3 ⟨v3, rfl, ho, hf⟩
  have HF3 := hid (HF.out.trans' hf)
  obtain ⟨a3, c3, rfl⟩ := ho.len
  have hfa := (Fr.refl (fun _ => False) w3).alloc (.cells #[.slice a3 q.length c3, .int .i64 0, .nilIface] 72)
  have HR := hid (show RdAt (w3.alloc (.cells #[.slice a3 q.length c3, .int .i64 0, .nilIface] 72)) w3.heap.size q ⟨0, true⟩ from
   ⟨⟨Nat.le_trans HE.out.bound HF3.out.size, Nat.zero_le _, by have := HLL.out; have := HL.out; omega⟩, _, _, heap_alloc_new w3 _, ho.below.frame hfa fun _ _ => not_false, .inl ⟨rfl, rfl⟩⟩)
  have HF4 := hid (HF3.out.trans' hfa)
  clear ho hf HC hfa
  go_wp2_with fail
  go_ret2
  exact ⟨_, _, rfl, HF4.out, .inr ⟨by trivial, rfl, _, rfl, HF3.out.size, HR.out⟩⟩
 ·have h0 : errV pa n = .iface 200 (.pointer (some (pa (n - 101)))) := if_neg hn
  rw [h0] at HO
  have HN := hid hn
  clear hcode h0 hn
  go_enter Tryz.func31, Tryz.ntmps31
  go_wp2_with fail
  refine HO.out.mono ?_
  rintro e w2 ⟨v2, rfl, ho, hf⟩
  have HF := hid hf
  have e1 : w2.cell? ⟨1, 0, none⟩ = some (.iface 200 (.pointer (some (pa 1)))) := (HE.out.frame hf) 1 (by decide)
  obtain ⟨a2, c2, rfl⟩ := ho.len
  clear ho hf HO
  go_wp2_with fail
  go_quiet (fail)
  go_wp2
  go_ret2
  exact ⟨_, _, rfl, HF.out.drewN _, .inl ⟨HN.out, rfl, rfl⟩⟩
theorem takes_eqF {α : Type} [DecidableEq α] (la lb : List α) (k : Nat) (h : la.length = lb.length) (hk : la.length ≤ k) (he : la.take k = lb.take k) : la = lb := by
 rw [List.take_of_length_le hk, List.take_of_length_le (by omega)] at he
 exact he
set_option maxHeartbeats 800000 in
theorem equal_any (D E : Nat → Prop) (va vb : Value) (la lb : List UInt8) (w : World) (ha : Bs D w va la) (hb : Bs E w vb lb) :
  Calls Tryz.prog 34 #[va, vb] w fun e w' => e = .returned (.bool (decide (la = lb))) ∧ ∃ n, w.drewN n = w' := by
 obtain ⟨a, c, rfl, ha1, ha2, hak⟩ := ha
 obtain ⟨b, d, rfl, hb1, hb2, hbk⟩ := hb
 have hm1 : la.length ≤ 9223372036854775807 := Nat.le_trans ha1 ha2
 have hm2 : lb.length ≤ 9223372036854775807 := Nat.le_trans hb1 hb2
 clear ha1 ha2 hb1 hb2
 have HA := hid hak; clear hak
 have HB := hid hbk; clear hbk
 by_cases hl : la.length = lb.length
 ·have hb : ((la.length : Int) != (lb.length : Int)) = false := by
   rw [bne_eq_false_iff_eq]
   omega
  have HL := hid hl; clear hl
  go_enter Tryz.func34, Tryz.ntmps34
  go_wp2
  go_loopw [13] (fun i wr => ∃ k n : Nat, k ≤ la.length ∧ i = .int .i64 k ∧ la.take k = lb.take k ∧ w.drewN n = wr) (fun i _ => la.length - (intOf i).toNat)
  case atStart => exact ⟨0, 0, Nat.zero_le _, rfl, by simp, rfl⟩
  case round =>
   obtain ⟨k, n, hk, rfl, ht, rfl⟩ := hrel
   by_cases hlt : k < la.length
   ·obtain ⟨b1, o1, rfl, _, c1⟩ := HA.out k hlt
    obtain ⟨b2, o2, rfl, _, c2⟩ := HB.out k (by have := HL.out; omega)
    have hlt2 : (k : Int) < lb.length := by have := HL.out; omega
    have h1 := take_snoc la k 0 hlt
    have h2 := take_snoc lb k 0 (by omega)
    have hn : la.getD k 0 ≠ lb.getD k 0 → decide (la = lb) = false := fun h => by
     rw [decide_eq_false_iff_not]
     intro e
     exact h (by rw [e])
    generalize la.getD k 0 = x at *
    generalize lb.getD k 0 = y at *
    have HN := hid hn; clear hn
    have H1 := hid h1; clear h1
    have H2 := hid h2; clear h2
    have HT := hid ht; clear ht
    by_cases he : x = y
    ·have hq : ((x.toNat : Int) != (y.toNat : Int)) = false := by rw [bne_eq_false_iff_eq, he]
     have HE := hid he; clear he
     go_wp2_with fail
     go_quiet (fail)
     go_wp2
     go_roundw
     case rel => exact ⟨k + 1, n + nq, by omega, by go_num, by rw [H1.out, H2.out, HT.out, HE.out], by simp [World.drewN, Nat.add_assoc]⟩
     case measure => simp [intOf]; omega
    ·have hq : ((x.toNat : Int) != (y.toNat : Int)) = true := by
      rw [bne_iff_ne]
      exact fun h => he (UInt8.toNat.inj (by omega))
     have HE := hid he; clear he
     go_wp2_with fail
     go_quiet (fail)
     go_wp2
     go_ret
     exact ⟨ret_bool (HN.out HE.out).symm, n + nq, by simp [World.drewN, Nat.add_assoc]⟩
   ·have hd : decide (la = lb) = true := by
     rw [decide_eq_true_iff]
     exact takes_eqF la lb k HL.out (by omega) ht
    have HD := hid hd; clear hd ht
    go_wp2
    go_ret
    exact ⟨ret_bool HD.out.symm, n, rfl⟩
 ·have hd : decide (la = lb) = false := by
   rw [decide_eq_false_iff_not]
   intro e
   exact hl (by rw [e])
  have hb : ((la.length : Int) != (lb.length : Int)) = true := by
   rw [bne_iff_ne]
   omega
  rw [hd]
  clear hd
  have HL := hid hl; clear hl
  go_enter Tryz.func34, Tryz.ntmps34
  go_wp2
  go_ret
  exact ⟨rfl, 0, rfl⟩
mutual
theorem encN_sz : ∀ x : Nd, (encN x).length ≤ 26 * x.sz
 | .mk op ln s v l => by
  have h1 := encNs_sz l
  have h2 := V.size_eq v
  rw [encN, Nd.sz]
  simp only [List.length_append, leN_len, encI, encS_len]
  have h3 : (encV v).length ≤ 9 + v.s.size := by
   unfold encV
   rw [List.length_append, leN_len]
   split
   ·rw [encS_len]; omega
   ·rw [encI, leN_len]; omega
  omega
theorem encNs_sz : ∀ l : List Nd, (encNs l).length ≤ 26 * szL l
 | [] => by simp [encNs]
 | x :: r => by
  have h1 := encN_sz x
  have h2 := encNs_sz r
  rw [encNs, szL, List.length_append]
  omega
end
theorem encL_sz (l : List Nd) : (encL l).length ≤ 4 + 26 * szL l := by
 have h1 := encNs_sz l
 rw [encL, List.length_append, leN_len]
 omega
def readS (b : List UInt8) : List Nd × Bool :=
 if (openB b).2 = 0 ∧ (rProg (openB b).1 ⟨0, true⟩).2.ok = true ∧ (rProg (openB b).1 ⟨0, true⟩).2.at_ = (openB b).1.length ∧ sealB (encL (rProg (openB b).1 ⟨0, true⟩).1) = b then ((rProg (openB b).1 ⟨0, true⟩).1, true) else ([], false)
set_option maxRecDepth 100000 in
set_option maxHeartbeats 1600000 in
theorem cread_any (D : Nat → Prop) (pa : Nat → Addr) (v : Value) (b : List UInt8) (w : World) (hB : Bs D w v b) (hl : b.length ≤ 1073741000) (hz : (openB b).2 = 0 → (rProg (openB b).1 ⟨0, true⟩).2.ok = true → szL (rProg (openB b).1 ⟨0, true⟩).1 ≤ 1048576) (hE : Sents w pa) :
  Calls Tryz.prog 9 #[v] w fun e w' => ∃ r ev, e = .returned (.tuple #[r, ev]) ∧ Fr (fun _ => False) w w' ∧
   (((readS b).2 = true ∧ ev = .nilIface ∧ (pValid (readS b).1 7).c = 0 ∧ szL (readS b).1 ≤ b.length ∧ sealB (encL (readS b).1) = b ∧ ∃ K, r = .pointer (some ⟨K, 0, none⟩) ∧ CodeBox w.heap.size w' (readS b).1 K) ∨
    ((readS b).2 = false ∧ r = .pointer none ∧ ev = errV pa (if (openB b).2 = 0 then 103 else 102))) := by
 have HOP := hid (mopen_any D pa v b w hB (by omega) hE)
 have HE := hid hE
 have HBS := hid (fun (w2 : World) (hf : Fr (fun _ => False) w w2) => hB.frame hf fun _ _ => not_false)
 have HL := hid hl
 have HZZ := hid hz
 have HLL := hid (openB_len b)
 have e0 : w.cell? ⟨0, 0, none⟩ = some (.iface 200 (.pointer (some (pa 2)))) := hE 2 (by decide)
 obtain ⟨a, c, rfl, -⟩ := hB
 have h103 : errV pa 103 = .iface 200 (.pointer (some (pa 2))) := rfl
 have h102 : errV pa 102 = .iface 200 (.pointer (some (pa 1))) := rfl
 have HRS := hid (show readS b = if (openB b).2 = 0 ∧ (rProg (openB b).1 ⟨0, true⟩).2.ok = true ∧ (rProg (openB b).1 ⟨0, true⟩).2.at_ = (openB b).1.length ∧ sealB (encL (rProg (openB b).1 ⟨0, true⟩).1) = b then ((rProg (openB b).1 ⟨0, true⟩).1, true) else ([], false) from rfl)
 obtain ⟨⟨q, n⟩, hq⟩ : ∃ q, openB b = q := ⟨_, rfl⟩
 rw [HRS.out]
 rw [hq] at HOP HLL HZZ ⊢
 dsimp only at HOP HLL HZZ ⊢
 clear hq hE hl hz HRS
 have h0 : errV pa 0 = .nilIface := rfl
 by_cases hn : n = 0
 ·subst hn
  obtain ⟨⟨l, s⟩, hqs⟩ : ∃ q', rProg q ⟨0, true⟩ = q' := ⟨_, rfl⟩
  rw [hqs] at HZZ ⊢
  have HRP := hid (fun (w2 : World) (R : Nat) (hr : RdAt w2 R q ⟨0, true⟩) (he : Sents w2 pa) => by have := rdprog_any pa w2 hr he; rw [hqs] at this; exact this)
  clear hqs
  rw [if_pos (show (0 : Nat) = 0 from rfl), h103]
  clear h103 h102 h0
  by_cases hall : s.ok = true ∧ s.at_ = q.length
  ·have HALL := hid hall
   by_cases heq : sealB (encL l) = b
   ·rw [if_pos ⟨rfl, hall.1, hall.2, heq⟩]
    have HEQ := hid heq
    clear hall heq
    go_enter Tryz.func9, Tryz.ntmps9
    go_wp2_with fail
    refine HOP.out.mono ?_
    rintro e w2 ⟨r, ev, rfl, hf, ⟨hne, -⟩ | ⟨-, rfl, R, rfl, hRw, hr⟩⟩
    ·exact absurd rfl hne
    have HF := hid hf
    have HRP2 := hid (HRP.out w2 R hr (HE.out.frame hf))
    have HRW := hid hRw
    clear hf hr hRw HOP
    go_wp2_with fail
    refine HRP2.out.mono ?_
    rintro e w3 ⟨v3, rfl, hr3, hf3, hn3, hok3⟩
    have HF3 := hid (HF.out.trans hf3 (U := fun _ => False) (fun _ _ h => h) (fun k hk e => by have := HRW.out; omega))
    have e3 := HF3.out.cell e0 not_false
    have HN3 := hid hn3
    obtain ⟨a3, c3, us3, rfl, -⟩ := id hn3
    have HR3 := hid hr3
    have HOK := hid (hok3 HALL.out.1)
    have r2 := hr3.ok_nil HALL.out.1
    have HLE := hid (rdleft_any w3 hr3)
    have hngt : ¬ ((0 : Int) < (q.length : Int) - s.at_) := by have := HALL.out.2; omega
    have hsz : szL l ≤ 1048576 := HZZ.out (by trivial) HALL.out.1
    have HSZ := hid hsz
    clear hr3 hf3 hn3 hok3 hsz
    go_wp2_with fail
    refine HLE.out.mono ?_
    rintro e w4 ⟨rfl, hf4⟩
    have e4 := hf4.cell e3 not_false
    have HF4 := hid (HF3.out.trans' hf4)
    have HMK := hid (make_any l HSZ.out (pValid_ok HOK.out.1).1 (by have := sumR_le l; have := (pValid_ok HOK.out.1).2.1; omega) _ w4 _ (HN3.out.frame hf4 fun _ _ => not_false))
    clear hf4 r2 e3
    go_wp2_with fail
    refine HMK.out.mono ?_
    rintro e w5 ⟨C, rfl, -, hf5, hmc⟩
    have hfa := (Fr.refl (fun _ => False) w5).alloc (.cells #[.pointer (some ⟨C, 0, none⟩)] 61)
    have HF6 := hid ((HF4.out.trans' hf5).trans' hfa)
    have e6 := hfa.cell (hf5.cell e4 not_false) not_false
    have HBX := hid (show CodeBox w.heap.size (w5.alloc (.cells #[.pointer (some ⟨C, 0, none⟩)] 61)) l w5.heap.size from ⟨C, heap_alloc_new w5 _, by
     obtain ⟨sv, L, nb, T, h1, h2, h3, h4, h5, h6⟩ := hmc.fr hfa
     exact ⟨sv, L, nb, T, h1.down HF4.out.size, h2, h3, h4, h5, h6⟩⟩)
    have HBY := hid (cbytes_any HBX.out (flat_of HOK.out.1 (by have := HSZ.out; omega)) (by have := encL_sz l; have := HSZ.out; omega))
    clear hf5 hmc hfa e4 HMK
    go_upto_region 8 with fail
    generalize hKK : w5.heap.size = K at *
    generalize w5.alloc (.cells #[.pointer (some ⟨C, 0, none⟩)] 61) = w6 at *
    clear hKK
    go_wp2_with fail
    refine HBY.out.mono ?_
    rintro e w7 ⟨v7, rfl, ho7, hf7⟩
    have HF7 := hid (HF6.out.trans' hf7)
    have e7 := hf7.cell e6 not_false
    have HB7 := hid (HBX.out.fr hf7)
    obtain ⟨a7, c7, rfl⟩ := ho7.len
    have HQ := hid (equal_any _ _ _ _ (sealB (encL l)) b w7 ho7.bs (HBS.out w7 HF7.out))
    clear ho7 hf7 HBY e6
    go_wp2_with fail
    refine HQ.out.mono ?_
    rintro e w8 ⟨rfl, n8, rfl⟩
    have e8 : (w7.drewN n8).cell? ⟨0, 0, none⟩ = some (.iface 200 (.pointer (some (pa 2)))) := ((Fr.refl (fun _ => False) w7).drewN n8).cell e7 not_false
    have HF8 := hid (HF7.out.drewN n8)
    have HB8 := hid (HB7.out.fr ((Fr.refl (fun _ => False) w7).drewN n8))
    clear e7 HQ
    generalize w7.drewN n8 = w8 at *
    have hd := decide_eq_true HEQ.out
    rw [hd]
    clear hd
    go_wp2_with fail
    go_ret2
    exact ⟨_, _, rfl, HF8.out, .inl ⟨by trivial, rfl, HOK.out.1, by have h1 := HOK.out.2; have h2 := HALL.out.2; have := HLL.out; (try dsimp only at h1 ⊢); omega, HEQ.out, K, rfl, HB8.out⟩⟩
   ·rw [if_neg (fun h => heq h.2.2.2)]
    have HEQ := hid heq
    clear hall heq
    go_enter Tryz.func9, Tryz.ntmps9
    go_wp2_with fail
    refine HOP.out.mono ?_
    rintro e w2 ⟨r, ev, rfl, hf, ⟨hne, -⟩ | ⟨-, rfl, R, rfl, hRw, hr⟩⟩
    ·exact absurd rfl hne
    have HF := hid hf
    have HRP2 := hid (HRP.out w2 R hr (HE.out.frame hf))
    have HRW := hid hRw
    clear hf hr hRw HOP
    go_wp2_with fail
    refine HRP2.out.mono ?_
    rintro e w3 ⟨v3, rfl, hr3, hf3, hn3, hok3⟩
    have HF3 := hid (HF.out.trans hf3 (U := fun _ => False) (fun _ _ h => h) (fun k hk e => by have := HRW.out; omega))
    have e3 := HF3.out.cell e0 not_false
    have HN3 := hid hn3
    obtain ⟨a3, c3, us3, rfl, -⟩ := id hn3
    have HR3 := hid hr3
    have HOK := hid (hok3 HALL.out.1)
    have r2 := hr3.ok_nil HALL.out.1
    have HLE := hid (rdleft_any w3 hr3)
    have hngt : ¬ ((0 : Int) < (q.length : Int) - s.at_) := by have := HALL.out.2; omega
    have hsz : szL l ≤ 1048576 := HZZ.out (by trivial) HALL.out.1
    have HSZ := hid hsz
    clear hr3 hf3 hn3 hok3 hsz
    go_wp2_with fail
    refine HLE.out.mono ?_
    rintro e w4 ⟨rfl, hf4⟩
    have e4 := hf4.cell e3 not_false
    have HF4 := hid (HF3.out.trans' hf4)
    have HMK := hid (make_any l HSZ.out (pValid_ok HOK.out.1).1 (by have := sumR_le l; have := (pValid_ok HOK.out.1).2.1; omega) _ w4 _ (HN3.out.frame hf4 fun _ _ => not_false))
    clear hf4 r2 e3
    go_wp2_with fail
    refine HMK.out.mono ?_
    rintro e w5 ⟨C, rfl, -, hf5, hmc⟩
    have hfa := (Fr.refl (fun _ => False) w5).alloc (.cells #[.pointer (some ⟨C, 0, none⟩)] 61)
    have HF6 := hid ((HF4.out.trans' hf5).trans' hfa)
    have e6 := hfa.cell (hf5.cell e4 not_false) not_false
    have HBX := hid (show CodeBox w.heap.size (w5.alloc (.cells #[.pointer (some ⟨C, 0, none⟩)] 61)) l w5.heap.size from ⟨C, heap_alloc_new w5 _, by
     obtain ⟨sv, L, nb, T, h1, h2, h3, h4, h5, h6⟩ := hmc.fr hfa
     exact ⟨sv, L, nb, T, h1.down HF4.out.size, h2, h3, h4, h5, h6⟩⟩)
    have HBY := hid (cbytes_any HBX.out (flat_of HOK.out.1 (by have := HSZ.out; omega)) (by have := encL_sz l; have := HSZ.out; omega))
    clear hf5 hmc hfa e4 HMK
    go_upto_region 8 with fail
    generalize hKK : w5.heap.size = K at *
    generalize w5.alloc (.cells #[.pointer (some ⟨C, 0, none⟩)] 61) = w6 at *
    clear hKK
    go_wp2_with fail
    refine HBY.out.mono ?_
    rintro e w7 ⟨v7, rfl, ho7, hf7⟩
    have HF7 := hid (HF6.out.trans' hf7)
    have e7 := hf7.cell e6 not_false
    have HB7 := hid (HBX.out.fr hf7)
    obtain ⟨a7, c7, rfl⟩ := ho7.len
    have HQ := hid (equal_any _ _ _ _ (sealB (encL l)) b w7 ho7.bs (HBS.out w7 HF7.out))
    clear ho7 hf7 HBY e6
    go_wp2_with fail
    refine HQ.out.mono ?_
    rintro e w8 ⟨rfl, n8, rfl⟩
    have e8 : (w7.drewN n8).cell? ⟨0, 0, none⟩ = some (.iface 200 (.pointer (some (pa 2)))) := ((Fr.refl (fun _ => False) w7).drewN n8).cell e7 not_false
    have HF8 := hid (HF7.out.drewN n8)
    have HB8 := hid (HB7.out.fr ((Fr.refl (fun _ => False) w7).drewN n8))
    clear e7 HQ
    generalize w7.drewN n8 = w8 at *
    have hd := decide_eq_false HEQ.out
    rw [hd]
    clear hd
    go_wp2_with fail
    go_quiet (fail)
    go_wp2
    go_ret2
    exact ⟨_, _, rfl, HF8.out.drewN _, .inr ⟨by trivial, rfl, rfl⟩⟩
  ·rw [if_neg (fun h => hall ⟨h.2.1, h.2.2.1⟩)]
   have HALL := hid hall
   clear hall
   go_enter Tryz.func9, Tryz.ntmps9
   go_wp2_with fail
   refine HOP.out.mono ?_
   rintro e w2 ⟨r, ev, rfl, hf, ⟨hne, -⟩ | ⟨-, rfl, R, rfl, hRw, hr⟩⟩
   ·exact absurd rfl hne
   have HF := hid hf
   have HRP2 := hid (HRP.out w2 R hr (HE.out.frame hf))
   have HRW := hid hRw
   clear hf hr hRw HOP
   go_wp2_with fail
   refine HRP2.out.mono ?_
   rintro e w3 ⟨v3, rfl, hr3, hf3, hn3, -⟩
   have HF3 := hid (HF.out.trans hf3 (U := fun _ => False) (fun _ _ h => h) (fun k hk e => by have := HRW.out; omega))
   have e3 := HF3.out.cell e0 not_false
   obtain ⟨a3, c3, us3, rfl, -⟩ := hn3
   have HR3 := hid hr3
   clear hr3 hf3
   by_cases hok : s.ok = true
   ·have r2 := HR3.out.ok_nil hok
    have HLE := hid (rdleft_any w3 HR3.out)
    have hat : s.at_ < q.length := by
     have := HR3.out.1.2.1
     by_cases h : s.at_ = q.length
     ·exact absurd ⟨hok, h⟩ HALL.out
     ·omega
    have hgt : (0 : Int) < (q.length : Int) - s.at_ := by omega
    clear hok hat
    go_wp2_with fail
    refine HLE.out.mono ?_
    rintro e w4 ⟨rfl, hf4⟩
    have e4 := hf4.cell e3 not_false
    have HF4 := hid (HF3.out.trans' hf4)
    clear hf4 r2 e3
    go_wp2_with fail
    go_quiet (fail)
    go_wp2
    go_ret2
    exact ⟨_, _, rfl, HF4.out.drewN _, .inr ⟨by trivial, rfl, rfl⟩⟩
   ·obtain ⟨tt, xx, r2⟩ := HR3.out.ok_iface (by simpa using hok)
    clear hok
    go_wp2_with fail
    go_quiet (fail)
    go_wp2
    go_ret2
    exact ⟨_, _, rfl, HF3.out.drewN _, .inr ⟨by trivial, rfl, rfl⟩⟩
 ·rw [if_neg (fun h => hn h.1), if_neg hn, h102]
  rw [h102] at HOP
  have HN := hid hn
  clear h103 h102 h0 hn
  go_enter Tryz.func9, Tryz.ntmps9
  go_wp2_with fail
  refine HOP.out.mono ?_
  rintro e w2 ⟨r, ev, rfl, hf, ⟨-, rfl, rfl⟩ | ⟨he, -⟩⟩
  case inr => exact absurd he HN.out
  have HF := hid hf
  clear hf HOP
  go_wp2_with fail
  go_ret2
  exact ⟨_, _, rfl, HF.out, .inr ⟨by trivial, rfl, rfl⟩⟩
end
section
variable {X Y : List UInt8}
theorem rNum_ext {k : Nat} {s : RS} (h : (rNum X k s).2.ok = true) : rNum (X ++ Y) k s = rNum X k s := by
 unfold rNum at h ⊢
 by_cases hc : s.ok = false ∨ X.length < s.at_ + k
 ·rw [if_pos hc] at h; cases h
 ·have h1 : ¬ (s.ok = false ∨ (X ++ Y).length < s.at_ + k) := fun e => e.elim (fun e => hc (.inl e)) fun e => hc (.inr (by rw [List.length_append] at e; omega))
  have h2 : s.at_ + k ≤ X.length := by
   by_cases e : X.length < s.at_ + k
   ·exact absurd (.inr e) hc
   ·omega
  rw [if_neg hc, if_neg h1, List.drop_append_of_le_length (by omega), List.take_append_of_le_length (by rw [List.length_drop]; omega)]
theorem rMany_ext {most : Int} {s : RS} (h : (rMany X most s).2.ok = true) : rMany (X ++ Y) most s = rMany X most s := by
 have h0 : (rNum X 4 s).2.ok = true := by
  unfold rMany at h
  dsimp only at h
  by_cases hc : (rNum X 4 s).2.ok = false ∨ (0 ≤ most ∧ most < ((rNum X 4 s).1 : Int))
  ·rw [if_pos hc] at h; cases h
  ·cases e : (rNum X 4 s).2.ok
   ·exact absurd (.inl e) hc
   ·rfl
 unfold rMany
 rw [rNum_ext h0]
theorem rText_ext {most : Int} {s : RS} (h : (rText X most s).2.ok = true) : rText (X ++ Y) most s = rText X most s := by
 unfold rText at h ⊢
 dsimp only at h ⊢
 by_cases hc : (rMany X most s).2.ok = false ∨ X.length < (rMany X most s).2.at_ + (rMany X most s).1
 ·rw [if_pos hc] at h; cases h
 ·have h0 : (rMany X most s).2.ok = true := by
   cases e : (rMany X most s).2.ok
   ·exact absurd (.inl e) hc
   ·rfl
  have h2 : (rMany X most s).2.at_ + (rMany X most s).1 ≤ X.length := by
   by_cases e : X.length < (rMany X most s).2.at_ + (rMany X most s).1
   ·exact absurd (.inr e) hc
   ·omega
  rw [rMany_ext h0, if_neg hc, if_neg (fun e => e.elim (fun e => hc (.inl e)) fun e => hc (.inr (by rw [List.length_append] at e; omega))), List.drop_append_of_le_length (by omega), List.take_append_of_le_length (by rw [List.length_drop]; omega)]
theorem rLoop_ext {σ α : Type} {ok : σ → Bool} {f g : σ → α × σ} (hf : ∀ t, ok (f t).2 = true → g t = f t) (hm : ∀ n t, ok (rLoop ok f n t).2 = true → ok t = true) : ∀ (n : Nat) (t : σ), ok (rLoop ok f n t).2 = true → rLoop ok g n t = rLoop ok f n t
 | 0, t, _ => rfl
 | n + 1, t, h => by
  rw [rLoop] at h
  by_cases hs : ok t = false
  ·rw [if_pos hs] at h
   rw [hs] at h; cases h
  ·rw [if_neg hs] at h
   have h1 : ok (f t).2 = true := hm n _ h
   rw [rLoop, rLoop, if_neg hs, if_neg hs, hf t h1, rLoop_ext hf hm n _ h]
theorem rNum_ok {k : Nat} {s : RS} (h : (rNum X k s).2.ok = true) : s.ok = true := by
 unfold rNum at h
 by_cases hc : s.ok = false ∨ X.length < s.at_ + k
 ·rw [if_pos hc] at h; cases h
 ·cases e : s.ok
  ·exact absurd (.inl e) hc
  ·rfl
theorem rMany_ok {most : Int} {s : RS} (h : (rMany X most s).2.ok = true) : s.ok = true := by
 unfold rMany at h
 dsimp only at h
 by_cases hc : (rNum X 4 s).2.ok = false ∨ (0 ≤ most ∧ most < ((rNum X 4 s).1 : Int))
 ·rw [if_pos hc] at h; cases h
 ·rw [if_neg hc] at h; exact rNum_ok h
theorem rText_ok {most : Int} {s : RS} (h : (rText X most s).2.ok = true) : s.ok = true := by
 unfold rText at h
 dsimp only at h
 by_cases hc : (rMany X most s).2.ok = false ∨ X.length < (rMany X most s).2.at_ + (rMany X most s).1
 ·rw [if_pos hc] at h; cases h
 ·refine rMany_ok (X := X) (most := most) ?_
  cases e : (rMany X most s).2.ok
  ·exact absurd (.inl e) hc
  ·rfl
theorem rLoop_ok {σ α : Type} {ok : σ → Bool} {f : σ → α × σ} (hf : ∀ t, ok (f t).2 = true → ok t = true) : ∀ (n : Nat) (t : σ), ok (rLoop ok f n t).2 = true → ok t = true
 | 0, t, h => h
 | n + 1, t, h => by
  rw [rLoop] at h
  by_cases hs : ok t = false
  ·rw [if_pos hs] at h; exact h
  ·simpa using hs
theorem rVal_ok : ∀ (d : Nat) {s : RS}, (rVal X d s).2.ok = true → s.ok = true
 | 0, s, h => by cases h
 | d + 1, s, h => by
  rw [rVal] at h
  (try dsimp only at h)
  by_cases c1 : (rNum X 1 s).1 = 0 ∨ (rNum X 1 s).1 = 1 ∨ (rNum X 1 s).1 = 3
  ·rw [if_pos c1] at h; exact rNum_ok (rNum_ok h)
  rw [if_neg c1] at h
  by_cases c2 : (rNum X 1 s).1 = 2
  ·rw [if_pos c2] at h; exact rNum_ok (rText_ok h)
  rw [if_neg c2] at h
  by_cases c4 : (rNum X 1 s).1 = 4
  ·rw [if_pos c4] at h
   exact rNum_ok (rMany_ok (rLoop_ok (ok := RS.ok) (fun t => rVal_ok d) _ _ h))
  ·rw [if_neg c4] at h; cases h
theorem rVal_ext : ∀ (d : Nat) {s : RS}, (rVal X d s).2.ok = true → rVal (X ++ Y) d s = rVal X d s
 | 0, s, h => rfl
 | d + 1, s, h => by
  have h0 := h
  rw [rVal] at h
  (try dsimp only at h)
  by_cases c1 : (rNum X 1 s).1 = 0 ∨ (rNum X 1 s).1 = 1 ∨ (rNum X 1 s).1 = 3
  ·rw [if_pos c1] at h
   rw [rVal, rVal, rNum_ext (rNum_ok h), if_pos c1, if_pos c1, rNum_ext h]
  rw [if_neg c1] at h
  by_cases c2 : (rNum X 1 s).1 = 2
  ·rw [if_pos c2] at h
   rw [rVal, rVal, rNum_ext (rText_ok h), if_neg c1, if_neg c1, if_pos c2, if_pos c2, rText_ext h]
  rw [if_neg c2] at h
  by_cases c4 : (rNum X 1 s).1 = 4
  ·rw [if_pos c4] at h
   have k1 := rLoop_ok (ok := RS.ok) (fun t => rVal_ok d) _ _ h
   rw [rVal, rVal, rNum_ext (rMany_ok k1), if_neg c1, if_neg c1, if_neg c2, if_neg c2, if_pos c4, if_pos c4, rMany_ext k1, rLoop_ext (ok := RS.ok) (fun t ht => rVal_ext d ht) (rLoop_ok (ok := RS.ok) (fun t => rVal_ok d)) _ _ h]
  ·rw [if_neg c4] at h; cases h
theorem rNode_ok {f : NS → List Nd × NS} (hf : ∀ t, NS.ok (f t).2 = true → NS.ok t = true) (t : NS) (h : NS.ok (rNode X f t).2 = true) : NS.ok t = true :=
 rNum_ok (X := X) (rNum_ok (X := X) (rText_ok (X := X) (rVal_ok (X := X) 40 (hf _ h))))
theorem rNode_ext {f g : NS → List Nd × NS} (hf : ∀ t, NS.ok (f t).2 = true → NS.ok t = true) (hfg : ∀ t, NS.ok (f t).2 = true → g t = f t) (t : NS) (h : NS.ok (rNode X f t).2 = true) : rNode (X ++ Y) g t = rNode X f t := by
 have k4 : (rVal X 40 (rText X 32 (rNum X 8 (rNum X 1 t.s).2).2).2).2.ok = true := hf _ h
 have k3 := rVal_ok 40 k4
 have k2 := rText_ok k3
 have k1 := rNum_ok k2
 unfold rNode
 dsimp only
 rw [rNum_ext k1, rNum_ext k2, rText_ext k3, rVal_ext 40 k4]
 rw [hfg _ h]
theorem rNds_ok : ∀ (d : Nat) (t : NS), NS.ok (rNds X d t).2 = true → NS.ok t = true
 | 0, t, h => by cases h
 | d + 1, t, h => by
  rw [rNds] at h
  have k1 := rLoop_ok (ok := NS.ok) (rNode_ok (rNds_ok d)) _ _ h
  exact rMany_ok (X := X) k1
theorem rNds_ext : ∀ (d : Nat) (t : NS), NS.ok (rNds X d t).2 = true → rNds (X ++ Y) d t = rNds X d t
 | 0, t, h => rfl
 | d + 1, t, h => by
  rw [rNds] at h
  have k1 := rLoop_ok (ok := NS.ok) (rNode_ok (rNds_ok d)) _ _ h
  have k0 : (rMany X t.lf t.s).2.ok = true := k1
  rw [rNds, rNds, rMany_ext k0]
  exact rLoop_ext (ok := NS.ok) (rNode_ext (rNds_ok d) (rNds_ext d)) (rLoop_ok (ok := NS.ok) (rNode_ok (rNds_ok d))) _ _ h
end
section
variable {B : List UInt8}
theorem rNum_lt (k : Nat) (s : RS) : (rNum B k s).1 < 256 ^ k := by
 unfold rNum
 split
 ·exact Nat.pow_pos (by omega)
 ·refine Nat.lt_of_lt_of_le (deN_lt _) (Nat.pow_le_pow_right (by omega) ?_)
  simp
  omega
theorem sI_inI (u : Nat) (h : u < 18446744073709551616) : inI (sI u) := sI_range u h
theorem inI_zero : inI 0 := ⟨by decide, by decide⟩
theorem rVal_n (d : Nat) (s : RS) : inI (rVal B d s).1.n := by
 cases d with
 | zero => exact inI_zero
 | succ d =>
  rw [rVal]
  split
  ·exact sI_inI _ (by have := rNum_lt (B := B) 8 (rNum B 1 s).2; simpa using this)
  split
  ·exact inI_zero
  split
  ·exact inI_zero
  ·exact inI_zero
theorem rLoop_rng {f : NS → List Nd × NS} (hf : ∀ t, RngL (f t).1) : ∀ (n : Nat) (t : NS), RngL (rLoop NS.ok (rNode B f) n t).1
 | 0, t => fun y hy => by simp [rLoop, walkL] at hy
 | n + 1, t => by
  rw [rLoop]
  split
  ·intro y hy; simp [walkL] at hy
  ·intro y hy
   rw [walkL] at hy
   rcases List.mem_append.1 hy with hy | hy
   ·unfold rNode at hy
    rw [Nd.walk_eq] at hy
    rcases List.mem_cons.1 hy with rfl | hy
    ·exact ⟨sI_inI _ (by have := rNum_lt (B := B) 8 (rNum B 1 t.s).2; simpa using this), rVal_n _ _⟩
    ·exact hf _ y hy
   ·exact rLoop_rng hf n _ y hy
theorem rNds_rng : ∀ (d : Nat) (t : NS), RngL (rNds B d t).1
 | 0, t => fun y hy => by simp [rNds, walkL] at hy
 | d + 1, t => by rw [rNds]; exact rLoop_rng (rNds_rng d) _ _
theorem read_sealed {l : List Nd} (h : (pValid l 7).c = 0) (hr : RngL l) : readS (sealB (encL l)) = (l, true) := by
 have h1 := rProg_enc h hr []
 rw [List.append_nil] at h1
 have h2 : rProg (encL l) ⟨0, true⟩ = (l, ⟨(encL l).length, true⟩) := by
  unfold rProg
  rw [h1]
  exact if_pos ⟨rfl, h⟩
 unfold readS
 rw [seal_opens, h2]
 exact if_pos ⟨rfl, rfl, rfl, rfl⟩
theorem read_cut {l : List Nd} (h : (pValid l 7).c = 0) (hr : RngL l) (k : Nat) (hk : k < (sealB (encL l)).length) : (readS ((sealB (encL l)).take k)).2 = false := by
 cases hc : (readS ((sealB (encL l)).take k)).2
 ·rfl
 ·exfalso
  unfold readS at hc
  by_cases h0 : (openB ((sealB (encL l)).take k)).2 = 0 ∧ (rProg (openB ((sealB (encL l)).take k)).1 ⟨0, true⟩).2.ok = true ∧ (rProg (openB ((sealB (encL l)).take k)).1 ⟨0, true⟩).2.at_ = (openB ((sealB (encL l)).take k)).1.length ∧ sealB (encL (rProg (openB ((sealB (encL l)).take k)).1 ⟨0, true⟩).1) = (sealB (encL l)).take k
  ·obtain ⟨-, h2, -, h4⟩ := h0
   generalize (openB ((sealB (encL l)).take k)).1 = X at *
   unfold rProg at h2 h4
   by_cases h5 : (rNds X 41 ⟨4096, ⟨0, true⟩⟩).2.s.ok = true ∧ (pValid (rNds X 41 ⟨4096, ⟨0, true⟩⟩).1 7).c = 0
   ·rw [if_pos h5] at h4
    have hr' := rNds_rng (B := X) 41 ⟨4096, ⟨0, true⟩⟩
    have hv' := h5.2
    dsimp only at h4
    generalize (rNds X 41 ⟨4096, ⟨0, true⟩⟩).1 = l' at *
    have hb : sealB (encL l) = encL l' ++ (le4 (sumB (encL l')).toNat ++ (sealB (encL l)).drop k) := by
     have := List.take_append_drop k (sealB (encL l))
     rw [← h4] at this
     rw [← List.append_assoc]
     exact this.symm
    have e1 := rProg_enc hv' hr' (le4 (sumB (encL l')).toNat ++ (sealB (encL l)).drop k)
    rw [← hb] at e1
    have e2 := rProg_enc h hr (le4 (sumB (encL l)).toNat)
    have e3 : encL l ++ le4 (sumB (encL l)).toNat = sealB (encL l) := rfl
    rw [e3, e1] at e2
    have e4 : l' = l := congrArg Prod.fst e2
    subst e4
    have e5 := congrArg List.length h4
    rw [List.length_take] at e5
    omega
   ·rw [if_neg h5] at h2
    cases h2
  ·rw [if_neg h0] at hc
   cases hc
theorem cut_no {l : List Nd} (h : (pValid l 7).c = 0) (hr : RngL l) (k : Nat) (hk : k < (sealB (encL l)).length) (h0 : (openB ((sealB (encL l)).take k)).2 = 0) : (rProg (openB ((sealB (encL l)).take k)).1 ⟨0, true⟩).2.ok = false := by
 have hL : (sealB (encL l)).length = (encL l).length + 4 := seal_len _
 have hX : (openB ((sealB (encL l)).take k)).1 = (encL l).take (k - 4) ∧ 4 ≤ k := by
  unfold openB at h0 ⊢
  have hl : ((sealB (encL l)).take k).length = k := by rw [List.length_take]; omega
  rw [hl] at h0 ⊢
  by_cases h4 : k < 4
  ·rw [if_pos h4] at h0; exact absurd h0 (by decide)
  ·rw [if_neg h4] at h0 ⊢
   by_cases h5 : n4 (((sealB (encL l)).take k).drop (k - 4)) = (sumB (((sealB (encL l)).take k).take (k - 4))).toNat
   ·rw [if_pos h5]
    refine ⟨?_, by omega⟩
    show ((sealB (encL l)).take k).take (k - 4) = _
    rw [List.take_take, Nat.min_eq_left (by omega)]
    exact List.take_append_of_le_length (by omega)
   ·rw [if_neg h5] at h0; exact absurd h0 (by decide)
 rw [hX.1]
 have hXl : ((encL l).take (k - 4)).length = k - 4 := by rw [List.length_take]; omega
 cases hc : (rProg ((encL l).take (k - 4)) ⟨0, true⟩).2.ok
 ·rfl
 ·exfalso
  unfold rProg at hc
  by_cases h5 : (rNds ((encL l).take (k - 4)) 41 ⟨4096, ⟨0, true⟩⟩).2.s.ok = true ∧ (pValid (rNds ((encL l).take (k - 4)) 41 ⟨4096, ⟨0, true⟩⟩).1 7).c = 0
  ·have e1 := rNds_ext (Y := (encL l).drop (k - 4)) 41 ⟨4096, ⟨0, true⟩⟩ h5.1
   rw [List.take_append_drop] at e1
   have e2 := rProg_enc h hr []
   rw [List.append_nil, e1] at e2
   have e3 := (rNds_go (B := (encL l).take (k - 4)) 41 ⟨4096, ⟨0, true⟩⟩ (Nat.zero_le _)).1.2.1
   rw [e2, hXl] at e3
   (try dsimp only at e3)
   omega
  ·rw [if_neg h5] at hc
   cases hc
theorem read_spoilt (l : List UInt8) (p : Nat) (hp : p < (sealB l).length) (x : UInt8) (hx : x ≠ 0) : (readS (spoil (sealB l) p x)).2 = false := by
 have h1 := spoilt l p hp x hx
 unfold readS
 rw [if_neg (fun h => by rw [h1] at h; exact absurd h.1 (by decide))]
end
section
open Go.RowKit
theorem OB.set {base : Nat} {w : World} {g cap : Nat} {l : List UInt8} (h : OB base w (.slice (some ⟨g, 0, none⟩) l.length cap) l) (i : Nat) (hi : i < l.length) (x : UInt8) :
  OB base (w.setCell ⟨g, i, none⟩ (.int .u8 x.toNat)) (.slice (some ⟨g, 0, none⟩) l.length cap) (l.set i x) := by
 rcases h.2 with ⟨h1, _⟩ | ⟨g', cap', cur, e, hb, hg, h1, h2, h3, ht⟩
 ·simp at h1
 ·simp only [Value.slice.injEq, Option.some.injEq, Addr.mk.injEq] at e
  obtain ⟨⟨rfl, _, _⟩, _, rfl⟩ := e
  refine ⟨by simp, .inr ⟨g, cap, cur.setIfInBounds i (.int .u8 x.toNat), by simp, hb, setCell_row i _ hg, by simpa using h1, h2, by simpa using h3, ?_⟩⟩
  simp only [List.length_set, Nat.mul_one] at ht ⊢
  rw [Array.toList_setIfInBounds, List.take_set, ht]
  simp [bV, List.map_set]
theorem OB.cell {base : Nat} {w : World} {g cap n : Nat} {l : List UInt8} (h : OB base w (.slice (some ⟨g, 0, none⟩) n cap) l) (i : Nat) (hi : i < l.length) : w.cell? ⟨g, i, none⟩ = some (.int .u8 (l.getD i 0).toNat) ∧ w.frozen? ⟨g, i, none⟩ = false := by
 rcases h.2 with ⟨h1, _⟩ | ⟨g', cap', cur, e, hb, hg, h1, h2, h3, ht⟩
 ·simp at h1
 ·simp only [Value.slice.injEq, Option.some.injEq, Addr.mk.injEq] at e
  obtain ⟨⟨rfl, _, _⟩, _, rfl⟩ := e
  refine ⟨?_, frozen_of_row _ _ _ _ _ hg⟩
  rw [cell_of_row _ _ _ _ _ _ hg]
  have : (cur.toList.take (l.length * 1))[i]? = (bV l)[i]? := by rw [ht]
  rw [List.getElem?_take, if_pos (by omega)] at this
  simp only [Array.getElem?_toList] at this
  rw [this]
  simp [bV, List.getD, hi]
theorem OB.addr {base : Nat} {w : World} {v : Value} {l : List UInt8} (h : OB base w v l) (hl : 0 < l.length) : ∃ g cap, v = .slice (some ⟨g, 0, none⟩) l.length cap ∧ base ≤ g ∧ g < w.heap.size := by
 rcases own_heap h with ⟨_, h0, _⟩ | ⟨g, cap, e, hb, hg, _⟩
 ·omega
 ·exact ⟨g, cap, e, hb, hg⟩
end
section
open Go.RowKit
theorem takes_eq {α : Type} [DecidableEq α] (la lb : List α) (k : Nat) (h : la.length = lb.length) (hk : la.length ≤ k) (he : la.take k = lb.take k) : la = lb := by
 rw [List.take_of_length_le hk, List.take_of_length_le (by omega)] at he
 exact he
set_option maxHeartbeats 800000 in
theorem sameBytes_any (D E : Nat → Prop) (va vb : Value) (la lb : List UInt8) (w : World) (ha : Bs D w va la) (hb : Bs E w vb lb) :
  Calls Tryz.prog 10 #[va, vb] w fun e w' => e = .returned (.bool (decide (la = lb))) ∧ ∃ n, w.drewN n = w' := by
 obtain ⟨a, c, rfl, ha1, ha2, hak⟩ := ha
 obtain ⟨b, d, rfl, hb1, hb2, hbk⟩ := hb
 have hm1 : la.length ≤ 9223372036854775807 := Nat.le_trans ha1 ha2
 have hm2 : lb.length ≤ 9223372036854775807 := Nat.le_trans hb1 hb2
 clear ha1 ha2 hb1 hb2
 have HA := hid hak; clear hak
 have HB := hid hbk; clear hbk
 by_cases hl : la.length = lb.length
 ·have hb : ((la.length : Int) != (lb.length : Int)) = false := by
   rw [bne_eq_false_iff_eq]
   omega
  have HL := hid hl; clear hl
  go_enter Tryz.func10, Tryz.ntmps10
  go_wp2
  go_loopw [5] (fun i wr => ∃ k n : Nat, k ≤ la.length ∧ i = .int .i64 k ∧ la.take k = lb.take k ∧ w.drewN n = wr) (fun i _ => la.length - (intOf i).toNat)
  case atStart => exact ⟨0, 0, Nat.zero_le _, rfl, by simp, rfl⟩
  case round =>
   obtain ⟨k, n, hk, rfl, ht, rfl⟩ := hrel
   by_cases hlt : k < la.length
   ·obtain ⟨b1, o1, rfl, _, c1⟩ := HA.out k hlt
    obtain ⟨b2, o2, rfl, _, c2⟩ := HB.out k (by have := HL.out; omega)
    have hlt2 : (k : Int) < lb.length := by have := HL.out; omega
    have h1 := take_snoc la k 0 hlt
    have h2 := take_snoc lb k 0 (by omega)
    have hn : la.getD k 0 ≠ lb.getD k 0 → decide (la = lb) = false := fun h => by
     rw [decide_eq_false_iff_not]
     intro e
     exact h (by rw [e])
    generalize la.getD k 0 = x at *
    generalize lb.getD k 0 = y at *
    have HN := hid hn; clear hn
    have H1 := hid h1; clear h1
    have H2 := hid h2; clear h2
    have HT := hid ht; clear ht
    by_cases he : x = y
    ·have hq : ((x.toNat : Int) == (y.toNat : Int)) = true := by rw [beq_iff_eq, he]
     have HE := hid he; clear he
     go_wp2_with fail
     go_quiet (fail)
     go_wp2
     go_roundw
     case rel => exact ⟨k + 1, n + nq, by omega, by go_num, by rw [H1.out, H2.out, HT.out, HE.out], by simp [World.drewN, Nat.add_assoc]⟩
     case measure => simp [intOf]; omega
    ·have hq : ((x.toNat : Int) == (y.toNat : Int)) = false := by
      rw [beq_eq_false_iff_ne]
      exact fun h => he (UInt8.toNat.inj (by omega))
     have HE := hid he; clear he
     go_wp2_with fail
     go_quiet (fail)
     go_wp2
     go_ret
     exact ⟨ret_bool (HN.out HE.out).symm, n + nq, by simp [World.drewN, Nat.add_assoc]⟩
   ·have hd : decide (la = lb) = true := by
     rw [decide_eq_true_iff]
     exact takes_eq la lb k HL.out (by omega) ht
    have HD := hid hd; clear hd ht
    go_wp2
    go_ret
    exact ⟨ret_bool HD.out.symm, n, rfl⟩
 ·have hd : decide (la = lb) = false := by
   rw [decide_eq_false_iff_not]
   intro e
   exact hl (by rw [e])
  have hb : ((la.length : Int) != (lb.length : Int)) = true := by
   rw [bne_iff_ne]
   omega
  rw [hd]
  clear hd
  have HL := hid hl; clear hl
  go_enter Tryz.func10, Tryz.ntmps10
  go_wp2
  go_ret
  exact ⟨rfl, 0, rfl⟩
end
section
open Go.RowKit
set_option maxHeartbeats 1600000 in
theorem rsames_of (N : Nat) (ih : ∀ (x : V), x.size ≤ N → ∀ (D E : Nat → Prop) (w : World) (u u' : Array Value), VIn D w x u → VIn E w x u' →
   Calls Tryz.prog 63 #[.agg u, .agg u'] w fun e w' => e = .returned (.bool true) ∧ Fr (fun _ => False) w w')
  (l : List V) (hl : sizeL l ≤ N) (D E : Nat → Prop) (w : World) (v v' : Value) (h : VL D w l v) (h' : VL E w l v') :
  Calls Tryz.prog 90 #[v, v'] w fun e w' => e = .returned (.bool true) ∧ Fr (fun _ => False) w w' := by
 obtain ⟨a, cap, us, rfl, hc, hm, hn, hb, hi⟩ := h
 obtain ⟨a', cap', us', rfl, hc', hm', hn', hb', hi'⟩ := h'
 have hlm : l.length ≤ 9223372036854775807 := Nat.le_trans hc hm
 have q4 : ((l.length : Int) != (l.length : Int)) = false := by simp
 have HB := hid hb; have HI := hid hi; have HN := hid hl
 have HB' := hid hb'; have HI' := hid hi'
 clear hb hi hl hn hb' hi' hn' hc' hm'
 go_enter Tryz.func90, Tryz.ntmps90
 go_wp2
 clear q4
 go_loopw [5] (fun i wr => ∃ k : Nat, k ≤ l.length ∧ i = .int .i64 k ∧ Fr (fun _ => False) w wr) (fun i _ => l.length - (intOf i).toNat)
 case atStart => exact ⟨0, Nat.zero_le _, rfl, Fr.refl _ _⟩
 case round =>
  obtain ⟨k, hk, rfl, hf⟩ := hrel
  by_cases hlt : k < l.length
  ·obtain ⟨b, o, y, a2, c2, rfl, -, hy, hv, e0, e1, e2, e3⟩ := VL.elem HB.out HI.out k hlt
   obtain ⟨b', o', y', a2', c2', rfl, -, hy', hv', f0, f1, f2, f3⟩ := VL.elem HB'.out HI'.out k hlt
   rw [hy] at hy'
   obtain rfl := Option.some.inj hy'
   have t2 := sizeL_mem hy
   have hy1 : y.size ≤ N := by have := HN.out; omega
   have hc := ih y hy1 D E
   clear t2 hy1 hy
   have HFr := hid hf; have HV := hid hv; have HV' := hid hv'; have HC := hid hc
   have E0 := hid e0; have E1 := hid e1; have E2 := hid e2; have E3 := hid e3
   have G0 := hid f0; have G1 := hid f1; have G2 := hid f2; have G3 := hid f3
   clear hf hv hv' hc hy' f0 f1 f2 f3 e0 e1 e2 e3
   go_upto_region 6 with fail
   refine wp_region_cls (fun w' => Fr (fun _ => False) wr w') (by kernel_rfl) (by kernel_rfl) (Fr.refl _ _).drew ?_
   iterate 3 (refine q_take ?_ (by kernel_rfl) ?_ ?_; rotate_left; (· intro w' hS; go_simp; try with_reducible rfl); (try simp only [Act.put, List.setIfInBounds_toArray, List.set_cons_zero, List.set_cons_succ]))
   (refine q_take ?_ (by kernel_rfl) ?_ ?_; rotate_left; (· intro w' hS; have d0 := (HFr.out.trans' hS).cell E0.out not_false; have d1 := (HFr.out.trans' hS).cell E1.out not_false; have d2 := (HFr.out.trans' hS).cell E2.out not_false; have d3 := (HFr.out.trans' hS).cell E3.out not_false; go_simp; try with_reducible rfl); try simp only [Act.put, List.setIfInBounds_toArray, List.set_cons_zero, List.set_cons_succ])
   iterate 3 (refine q_take ?_ (by kernel_rfl) ?_ ?_; rotate_left; (· intro w' hS; go_simp; try with_reducible rfl); (try simp only [Act.put, List.setIfInBounds_toArray, List.set_cons_zero, List.set_cons_succ]))
   (refine q_take ?_ (by kernel_rfl) ?_ ?_; rotate_left; (· intro w' hS; have d0 := (HFr.out.trans' hS).cell G0.out not_false; have d1 := (HFr.out.trans' hS).cell G1.out not_false; have d2 := (HFr.out.trans' hS).cell G2.out not_false; have d3 := (HFr.out.trans' hS).cell G3.out not_false; go_simp; try with_reducible rfl); try simp only [Act.put, List.setIfInBounds_toArray, List.set_cons_zero, List.set_cons_succ])
   (refine q_call ?_ ?_ (by kernel_rfl) ?_ ?_; rotate_left 2; (· intro w' hS; go_simp; first | with_reducible rfl | (constructor <;> with_reducible rfl)); (refine ⟨_, fun w' hw => (HC.out w' _ _ (HV.out.frame (HFr.out.trans' hw) (fun _ _ => id)) (HV'.out.frame (HFr.out.trans' hw) (fun _ _ => id))).mono fun _ _ h => ⟨h.1, hw.trans' h.2⟩, ?_⟩); (try simp only [Act.put, List.setIfInBounds_toArray, List.set_cons_zero, List.set_cons_succ]))
   (refine q_take ?_ (by kernel_rfl) ?_ ?_; rotate_left; (· intro w' hS; go_simp; try with_reducible rfl); (try simp only [Act.put, List.setIfInBounds_toArray, List.set_cons_zero, List.set_cons_succ]))
   refine q_end (fun w' hw => ?_)
   have HE := hid (HFr.out.trans' hw)
   clear hw
   go_wp2
   go_roundw
   case rel => exact ⟨k + 1, by omega, by go_num, HE.out⟩
   case measure => simp [intOf]; omega
  ·go_wp2
   go_ret
   exact ⟨rfl, hf⟩
set_option maxHeartbeats 1600000 in
theorem rsame_refl : ∀ (N : Nat) (x : V), x.size ≤ N → ∀ (D E : Nat → Prop) (w : World) (u u' : Array Value), VIn D w x u → VIn E w x u' →
  Calls Tryz.prog 63 #[.agg u, .agg u'] w fun e w' => e = .returned (.bool true) ∧ Fr (fun _ => False) w w' := by
 intro N
 induction N with
 | zero =>
  intro x h
  rw [V.size_eq] at h
  omega
 | succ N ih =>
  intro x hN D E w u u' h h'
  have hs := V.size_eq x
  obtain ⟨v, rfl, hL⟩ := h.open
  obtain ⟨v', rfl, hL'⟩ := h'.open
  have hcall := rsames_of N ih x.l (by omega) D E
  obtain ⟨a, cap, us, rfl, -⟩ := id hL
  obtain ⟨a', cap', us', rfl, -⟩ := id hL'
  generalize x.k = kk at *
  generalize x.n = nn at *
  generalize x.s = ss at *
  generalize x.l = l at *
  have q1 : (kk == kk) = true := by simp
  have q2 : (nn == nn) = true := by simp
  have q3 : (ss.toList == ss.toList) = true := by simp
  have HL := hid hL; have HL' := hid hL'; have HC := hid hcall
  clear hL hL' hcall hs hN h h'
  go_enter Tryz.func63, Tryz.ntmps63
  go_wp2_with fail
  have hF : Fr (fun _ => False) w ((w.alloc (.cells #[.int .i64 kk, .int .i64 nn, .string ss, .slice a l.length cap] 44)).alloc (.cells #[.int .i64 kk, .int .i64 nn, .string ss, .slice a' l.length cap'] 44)) := ((Fr.refl _ _).alloc _).alloc _
  have hb2 : ((w.alloc (.cells #[.int .i64 kk, .int .i64 nn, .string ss, .slice a l.length cap] 44)).alloc (.cells #[.int .i64 kk, .int .i64 nn, .string ss, .slice a' l.length cap'] 44)).heap[w.heap.size]? = some (.cells #[.int .i64 kk, .int .i64 nn, .string ss, .slice a l.length cap] 44) := ((Fr.refl (fun _ => False) _).alloc _).heap (heap_alloc_new w _) not_false
  have hb3 : ((w.alloc (.cells #[.int .i64 kk, .int .i64 nn, .string ss, .slice a l.length cap] 44)).alloc (.cells #[.int .i64 kk, .int .i64 nn, .string ss, .slice a' l.length cap'] 44)).heap[w.heap.size + 1]? = some (.cells #[.int .i64 kk, .int .i64 nn, .string ss, .slice a' l.length cap'] 44) := by
   have := heap_alloc_new (w.alloc (.cells #[.int .i64 kk, .int .i64 nn, .string ss, .slice a l.length cap] 44)) (.cells #[.int .i64 kk, .int .i64 nn, .string ss, .slice a' l.length cap'] 44)
   simpa using this
  refine (HC.out _ _ _ (HL.out.frame hF fun _ _ => id) (HL'.out.frame hF fun _ _ => id)).mono ?_
  rintro e w2 ⟨rfl, hf2⟩
  replace hb2 := hf2.heap hb2 not_false
  replace hb3 := hf2.heap hb3 not_false
  have d0 : w2.cell? ⟨w.heap.size, 0, none⟩ = some (.int .i64 kk) := by rw [cell_of_row w2 _ 0 _ _ _ hb2]; rfl
  have d1 : w2.cell? ⟨w.heap.size, 1, none⟩ = some (.int .i64 nn) := by rw [cell_of_row w2 _ 1 _ _ _ hb2]; rfl
  have d2 : w2.cell? ⟨w.heap.size, 2, none⟩ = some (.string ss) := by rw [cell_of_row w2 _ 2 _ _ _ hb2]; rfl
  have g0 : w2.cell? ⟨w.heap.size + 1, 0, none⟩ = some (.int .i64 kk) := by rw [cell_of_row w2 _ 0 _ _ _ hb3]; rfl
  have g1 : w2.cell? ⟨w.heap.size + 1, 1, none⟩ = some (.int .i64 nn) := by rw [cell_of_row w2 _ 1 _ _ _ hb3]; rfl
  have g2 : w2.cell? ⟨w.heap.size + 1, 2, none⟩ = some (.string ss) := by rw [cell_of_row w2 _ 2 _ _ _ hb3]; rfl
  have HE := hid (hF.trans' hf2)
  clear hF hf2 hb2 hb3
  go_wp2
  go_ret
  exact ⟨rfl, HE.out⟩
end
end Go.Proofs.YtbegahbagnflnaaGreatDoor
