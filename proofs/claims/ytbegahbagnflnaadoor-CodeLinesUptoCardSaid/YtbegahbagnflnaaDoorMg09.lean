/- Rising, DocB, DocD, DocE, DocC: several texts in one: a claim has at most 60 files -/
import Derived.Test.YtbegahbagnflnaaDoorMg05
import Derived.Test.YtbegahbagnflnaaDoorRegion
import Derived.Deep.CutRange
import Derived.Test.YtbegahbagnflnaaDoorMg07
import Derived.Test.YtbegahbagnflnaaDoorMg02
import Derived.Test.YtbegahbagnflnaaDoorMg08
namespace Go.Proofs.YtbegahbagnflnaaDoor
section
open Go.RowKit

/-- Is a text before another one? -/
def bf : List UInt8 → List UInt8 → Bool
  | [], b => !b.isEmpty
  | _ :: _, [] => false
  | x :: r, y :: t => if x = y then bf r t else decide (x.toNat < y.toNat)
theorem bytes_drop (a : ByteArray) (k : Nat) (h : k < a.size) : a.data.toList.drop k = a[k] :: a.data.toList.drop (k + 1) := by
  have h' : k < a.data.toList.length := by simpa using h
  rw [List.drop_eq_getElem_cons h']
  rfl
set_option maxHeartbeats 1600000 in
theorem before_any (a b : ByteArray) (ha : a.size ≤ 1099511627776) (hb : b.size ≤ 1099511627776) (w : World) : Calls Tryd.prog 114 #[.string a, .string b] w fun e w' => e = .returned (.bool (bf a.data.toList b.data.toList)) ∧ Fr (fun _ => False) w w' := by
  have haI : (a.size : Int) ≤ 1099511627776 := by omega
  have hbI : (b.size : Int) ≤ 1099511627776 := by omega
  obtain ⟨r, hr⟩ : ∃ r, bf a.data.toList b.data.toList = r := ⟨_, rfl⟩
  rw [hr]
  have HR := hid hr
  clear hr ha hb
  go_enter Tryd.func114, Tryd.ntmps114
  go_wp2_with fail
  go_loopw [5] (fun i wr => ∃ k : Nat, k ≤ a.size ∧ k ≤ b.size ∧ i = .int .i64 k ∧ Hid (bf (a.data.toList.drop k) (b.data.toList.drop k) = r) ∧ Fr (fun _ => False) w wr) (fun i _ => a.size - (intOf i).toNat)
  case atStart => exact ⟨0, Nat.zero_le _, Nat.zero_le _, rfl, HR, Fr.refl _ _⟩
  case round =>
    obtain ⟨k, hka, hkb, rfl, HB, hf⟩ := hrel
    by_cases h1 : k < a.size
    · by_cases h2 : k < b.size
      · have h1I : (k : Int) < a.size := by omega
        have h2I : (k : Int) < b.size := by omega
        have HF := hid hf
        have hst : bf (a.data.toList.drop k) (b.data.toList.drop k) = if a[k] = b[k] then bf (a.data.toList.drop (k + 1)) (b.data.toList.drop (k + 1)) else decide (a[k].toNat < b[k].toNat) := by
          rw [bytes_drop a k h1, bytes_drop b k h2, bf]
        have HST := hid hst
        clear hst hf
        by_cases he : a[k] = b[k]
        · have HB2 := hid (show bf (a.data.toList.drop (k + 1)) (b.data.toList.drop (k + 1)) = r by rw [← HB.out, HST.out, if_pos he])
          have hq : ((a[k].toNat : Int) != (b[k].toNat : Int)) = false := by rw [he]; simp
          clear he
          go_upto_region 4 with fail
          refine wp_region_cls (fun w' => Fr (fun _ => False) wr w') (by kernel_rfl) (by kernel_rfl) (Fr.refl _ _).drew ?_
          iterate 7 (refine q_take ?_ (by kernel_rfl) ?_ ?_; rotate_left; (· intro w' hS; go_simp; try with_reducible rfl); (try simp only [Act.put, List.setIfInBounds_toArray, List.set_cons_zero, List.set_cons_succ]))
          refine q_end (fun w' hw => ?_)
          have HF2 := hid (HF.out.trans' hw)
          clear hw
          go_wp2_with fail
          go_roundw
          case rel => exact ⟨k + 1, by omega, by omega, by go_num, HB2, HF2.out⟩
          case measure => simp [intOf]; omega
        · have HR2 := hid (show decide (a[k].toNat < b[k].toNat) = r by rw [← HB.out, HST.out, if_neg he])
          have hne : a[k].toNat ≠ b[k].toNat := fun h => he (UInt8.toNat_inj.1 h)
          have hq : ((a[k].toNat : Int) != (b[k].toNat : Int)) = true := by simp; omega
          clear he hne
          go_upto_region 4 with fail
          refine wp_region_cls (fun w' => Fr (fun _ => False) wr w') (by kernel_rfl) (by kernel_rfl) (Fr.refl _ _).drew ?_
          iterate 7 (refine q_take ?_ (by kernel_rfl) ?_ ?_; rotate_left; (· intro w' hS; go_simp; try with_reducible rfl); (try simp only [Act.put, List.setIfInBounds_toArray, List.set_cons_zero, List.set_cons_succ]))
          refine q_end (fun w' hw => ?_)
          have HF2 := hid (HF.out.trans' hw)
          clear hw
          go_upto_region 5 with fail
          refine wp_region_cls (fun w2 => Fr (fun _ => False) w' w2) (by kernel_rfl) (by kernel_rfl) (Fr.refl _ _).drew ?_
          iterate 8 (refine q_take ?_ (by kernel_rfl) ?_ ?_; rotate_left; (· intro w' hS; go_simp; try with_reducible rfl); (try simp only [Act.put, List.setIfInBounds_toArray, List.set_cons_zero, List.set_cons_succ]))
          refine q_end (fun w2 hw => ?_)
          have HF3 := hid (HF2.out.trans' hw)
          clear hw
          go_wp2_with fail
          go_ret
          exact ⟨ret_bool HR2.out, HF3.out⟩
      · have h1I : (k : Int) < a.size := by omega
        have h2I : ¬ (k : Int) < b.size := by omega
        have hbk : k = b.size := by omega
        have HR2 := hid (show false = r by
          rw [← HB.out, bytes_drop a k h1, List.drop_of_length_le (show b.data.toList.length ≤ k by simp; omega)]
          rfl)
        have hlt : ¬ (a.size : Int) < b.size := by omega
        have HF := hid hf
        go_wp2_with fail
        go_ret
        exact ⟨ret_bool HR2.out, HF.out⟩
    · obtain rfl : k = a.size := by omega
      have HF := hid hf
      have HR2 := hid (show decide (a.size < b.size) = r by
        rw [← HB.out, List.drop_of_length_le (show a.data.toList.length ≤ a.size by simp)]
        rw [bf]
        by_cases h : a.size < b.size
        · rw [decide_eq_true (by omega), bytes_drop b _ h]; rfl
        · rw [decide_eq_false (by omega), List.drop_of_length_le (show b.data.toList.length ≤ a.size by simp; omega)]; rfl)
      clear hf
      go_wp2_with fail
      go_ret
      exact ⟨ret_bool HR2.out, HF.out⟩

theorem Tryd.info_st : (Tryd.prog.info? 9).map (fun i => (i.zero, i.size, i.bytes)) = some (some (.string ⟨#[]⟩), 1, 16) := by kernel_rfl
/-- With one laid in. -/
def insT (L : List ByteArray) (q : Nat) (y : ByteArray) : List ByteArray := L.take q ++ [y] ++ L.drop q
theorem insT_mem (L : List ByteArray) (q : Nat) (y s : ByteArray) : s ∈ insT L q y ↔ s ∈ L ∨ s = y := by
  have h : s ∈ L ↔ s ∈ L.take q ∨ s ∈ L.drop q := by rw [← List.mem_append, List.take_append_drop]
  simp only [insT, List.mem_append, List.mem_singleton, h]
  constructor
  · rintro ((h | h) | h)
    · exact .inl (.inl h)
    · exact .inr h
    · exact .inl (.inr h)
  · rintro ((h | h) | h)
    · exact .inl (.inl h)
    · exact .inr h
    · exact .inl (.inr h)
theorem insT_length (L : List ByteArray) (q : Nat) (y : ByteArray) (h : q ≤ L.length) : (insT L q y).length = L.length + 1 := by
  simp [insT]
  omega
theorem ba_ext {a b : ByteArray} (h : a.data.toList = b.data.toList) : a = b := by
  cases a; cases b; simp at h; rw [h]
theorem bf_trans : ∀ {a b c : List UInt8}, bf a b = true → bf b c = true → bf a c = true
  | [], _, [], _, h => by rename_i b _; cases b <;> simp [bf] at h
  | [], _, _ :: _, _, _ => rfl
  | _ :: _, [], _, h, _ => by simp [bf] at h
  | _ :: _, _ :: _, [], _, h => by simp [bf] at h
  | x :: r, y :: t, z :: u, h, h' => by
    rw [bf] at h h' ⊢
    by_cases e1 : x = y
    · subst e1
      rw [if_pos rfl] at h
      by_cases e2 : x = z
      · rw [if_pos e2] at h' ⊢; exact bf_trans h h'
      · rw [if_neg e2] at h' ⊢; exact h'
    · rw [if_neg e1] at h
      by_cases e2 : y = z
      · subst e2; rw [if_neg e1]; exact h
      · rw [if_neg e2] at h'
        have h1 := of_decide_eq_true h
        have h2 := of_decide_eq_true h'
        rw [if_neg (fun e => by subst e; omega)]
        exact decide_eq_true (by omega)
theorem bf_tri : ∀ {a b : List UInt8}, bf a b = false → a ≠ b → bf b a = true
  | [], [], _, h => absurd rfl h
  | [], _ :: _, h, _ => by simp [bf] at h
  | _ :: _, [], _, _ => rfl
  | x :: r, y :: t, h, hn => by
    rw [bf] at h ⊢
    by_cases e : x = y
    · subst e
      rw [if_pos rfl] at h ⊢
      exact bf_tri h fun e => hn (by rw [e])
    · rw [if_neg e] at h
      rw [if_neg (fun e' => e e'.symm)]
      have h1 := of_decide_eq_false h
      have h2 : x.toNat ≠ y.toNat := fun h => e (UInt8.toNat_inj.1 h)
      exact decide_eq_true (by omega)
theorem bf_irr : ∀ (a : List UInt8), bf a a = false
  | [] => rfl
  | x :: r => by rw [bf, if_pos rfl, bf_irr r]
/-- Strictly rising. -/
def StrictT (L : List ByteArray) : Prop := L.Pairwise fun a b => bf a.data.toList b.data.toList = true
theorem insT_strict {L : List ByteArray} {q : Nat} {y : ByteArray} (h : StrictT L) (hq : q ≤ L.length) (h1 : ∀ j, j < q → bf (L.getD j ByteArray.empty).data.toList y.data.toList = true) (h2 : q < L.length → bf y.data.toList (L.getD q ByteArray.empty).data.toList = true) : StrictT (insT L q y) := by
  have hlow : ∀ x ∈ L.take q, bf x.data.toList y.data.toList = true := fun x hx => by
    obtain ⟨j, hj, rfl⟩ := List.mem_iff_getElem.1 hx
    have hjq : j < q := by simp at hj; omega
    have := h1 j hjq
    rw [List.getElem_take]
    simpa [List.getD, show j < L.length by omega] using this
  have hhigh : ∀ x ∈ L.drop q, bf y.data.toList x.data.toList = true := fun x hx => by
    by_cases hql : q < L.length
    · have h3 := h2 hql
      have hd : L.drop q = L.getD q ByteArray.empty :: L.drop (q + 1) := by
        rw [List.drop_eq_getElem_cons hql]; simp [List.getD, hql]
      have hp : StrictT (L.drop q) := List.Pairwise.sublist (List.drop_sublist q L) h
      rw [hd] at hp hx
      rcases List.mem_cons.1 hx with rfl | hx
      · exact h3
      · exact bf_trans h3 ((List.pairwise_cons.1 hp).1 x hx)
    · rw [List.drop_of_length_le (by omega)] at hx; cases hx
  unfold StrictT insT
  rw [List.append_assoc, List.pairwise_append]
  refine ⟨List.Pairwise.sublist (List.take_sublist q L) h, ?_, ?_⟩
  · rw [List.singleton_append, List.pairwise_cons]
    exact ⟨hhigh, List.Pairwise.sublist (List.drop_sublist q L) h⟩
  · intro a ha b hb
    rcases List.mem_append.1 hb with hb | hb
    · rw [List.mem_singleton.1 hb]; exact hlow a ha
    · exact bf_trans (hlow a ha) (hhigh b hb)
theorem mem_step {l : List ByteArray} {k : Nat} (h : k < l.length) (s : ByteArray) : s ∈ l.take (k + 1) ↔ s ∈ l.take k ∨ s = l.getD k ByteArray.empty := by
  rw [List.take_succ_eq_append_getElem h, List.mem_append]
  simp [List.getD, h]
set_option maxRecDepth 100000 in
set_option maxHeartbeats 6400000 in
theorem rising_exact (l : List ByteArray) (hl : l.length ≤ 1048576) (hs : ∀ s ∈ l, s.size ≤ 1099511627776) (D : Nat → Prop) (w : World) (v : Value) (h : Ss D w v l) : Calls Tryd.prog 98 #[v] w fun e w' => ∃ (L : List ByteArray) (v' : Value), e = .returned v' ∧ w'.ownsRow w.heap.size 9 1 v' L.length (sV L) ∧ (∀ s, s ∈ L ↔ s ∈ l) ∧ StrictT L ∧ L.length ≤ l.length ∧ Fr (fun _ => False) w w' := by
  obtain ⟨a, c, rfl, h1, h2, hk⟩ := h
  have HC := hid hk
  have hlI : (l.length : Int) ≤ 1048576 := by omega
  have HS := hid hs; have HLL := hid hl
  clear hk h1 h2 hs hl
  obtain ⟨si, i1, i2, i3, i4⟩ := info_parts Tryd.info_st
  have HI1 := hid i1; have HI2 := hid i2; have HI3 := hid i3; have HI4 := hid i4
  clear i1 i2 i3 i4
  go_enter Tryd.func98, Tryd.ntmps98
  go_wp2_with fail
  go_loopw [3, 4] (fun ov i wr => ∃ (k : Nat) (L : List ByteArray), k ≤ l.length ∧ i = .int .i64 k ∧ Hid (wr.ownsRow w.heap.size 9 1 ov L.length (sV L)) ∧ Hid (∀ s, s ∈ L ↔ s ∈ l.take k) ∧ Hid (StrictT L) ∧ L.length ≤ k ∧ Fr (fun _ => False) w wr) (fun _ i _ => l.length - (intOf i).toNat)
  case atStart => exact ⟨0, [], Nat.zero_le _, rfl, hid (World.ownsRow_nil _ _ _ _), hid (fun s => by simp), hid List.Pairwise.nil, Nat.le_refl _, Fr.refl _ _⟩
  case round =>
    obtain ⟨k, L, hk, rfl, HO, HM, HSTR, hLk, hf⟩ := hrel
    by_cases hlt : k < l.length
    · obtain ⟨b, o, rfl, -, hcw⟩ := HC.out k hlt
      have hlt' : (k : Int) < l.length := by omega
      have HY := hid (hf.cell hcw not_false)
      have HMS := hid (fun s => mem_step hlt s)
      have HYS := hid (show (l.getD k ByteArray.empty).size ≤ 1099511627776 from HS.out _ (by simp [List.getD, hlt]))
      obtain ⟨y, hy⟩ : ∃ y, l.getD k ByteArray.empty = y := ⟨_, rfl⟩
      rw [hy] at HY HMS HYS
      have hLI : (L.length : Int) ≤ 1048576 := by have := HLL.out; omega
      have HLM := hid (show ∀ s ∈ L, s.size ≤ 1099511627776 from fun s hs => HS.out s (List.mem_of_mem_take ((HM.out s).1 hs)))
      have HF := hid hf
      have HLK := hid hLk
      obtain ⟨ao, oc, rfl, -, HAO, hsrc⟩ := own_src HO.out
      have HAO := hid HAO
      have HSR := hid hsrc
      clear hcw hf hy hsrc hLk
      generalize wr = wo at *
      go_wp2_with fail
      go_loopw [5] (fun j wq => ∃ q : Nat, q ≤ L.length ∧ j = .int .i64 q ∧ Hid (∀ j, j < q → bf (L.getD j ByteArray.empty).data.toList y.data.toList = true) ∧ Fr (fun _ => False) wo wq) (fun j _ => L.length - (intOf j).toNat)
      case atStart => exact ⟨0, Nat.zero_le _, rfl, hid (fun j hj => absurd hj (Nat.not_lt_zero j)), Fr.refl _ _⟩
      case round =>
        obtain ⟨q, hq, rfl, HLOW, hfq⟩ := hrel
        have HFQ := hid hfq
        clear hfq
        go_upto_region 6 with fail
        go_cut [27] from 13 to 27 (fun c wx => c = .bool (decide (q < L.length) && bf (L.getD q ByteArray.empty).data.toList y.data.toList) ∧ Hid (Fr (fun _ => False) wr wx))
        case first =>
          by_cases hql : q < L.length
          · obtain ⟨b2, o2, rfl, hx⟩ := HSR.out q hql
            have hqI : (q : Int) < L.length := by omega
            have hx2 : wo.cell? ⟨b2, o2 + q, none⟩ = some (.string (L.getD q ByteArray.empty)) := by rw [hx]; simp [sV, List.getD, hql]
            have HX := hid hx2
            have HXS := hid (show (L.getD q ByteArray.empty).size ≤ 1099511627776 from HLM.out _ (by simp [List.getD, hql]))
            have hd : decide (q < L.length) = true := decide_eq_true hql
            clear hx hx2
            generalize L.getD q ByteArray.empty = x at *
            have HBF := hid (fun w => before_any x y HXS.out HYS.out w)
            generalize bf x.data.toList y.data.toList = bb at *
            refine wp_region_cls (fun w' => Fr (fun _ => False) wr w') (by kernel_rfl) (by kernel_rfl) (Fr.refl _ _).drew ?_
            iterate 8 (refine q_take ?_ (by kernel_rfl) ?_ ?_; rotate_left; (· intro w' hS; go_simp; try with_reducible rfl); (try simp only [Act.put, List.setIfInBounds_toArray, List.set_cons_zero, List.set_cons_succ]))
            (refine q_take ?_ (by kernel_rfl) ?_ ?_; rotate_left; (· intro w' hS; have d0 := (HFQ.out.trans' hS).cell HX.out not_false; go_simp; try with_reducible rfl); (try simp only [Act.put, List.setIfInBounds_toArray, List.set_cons_zero, List.set_cons_succ]))
            iterate 3 (refine q_take ?_ (by kernel_rfl) ?_ ?_; rotate_left; (· intro w' hS; go_simp; try with_reducible rfl); (try simp only [Act.put, List.setIfInBounds_toArray, List.set_cons_zero, List.set_cons_succ]))
            (refine q_take ?_ (by kernel_rfl) ?_ ?_; rotate_left; (· intro w' hS; have d0 := (HFQ.out.trans' hS).cell HY.out not_false; go_simp; try with_reducible rfl); (try simp only [Act.put, List.setIfInBounds_toArray, List.set_cons_zero, List.set_cons_succ]))
            (refine q_call ?_ ?_ (by kernel_rfl) ?_ ?_; rotate_left 2; (· intro w' hS; go_simp; first | with_reducible rfl | (constructor <;> with_reducible rfl)); (refine ⟨_, fun w' hw => (HBF.out w').mono fun _ _ h => ⟨h.1, hw.trans' h.2⟩, ?_⟩); (try simp only [Act.put, List.setIfInBounds_toArray, List.set_cons_zero, List.set_cons_succ]))
            (refine q_take ?_ (by kernel_rfl) ?_ ?_; rotate_left; (· intro w' hS; go_simp; try with_reducible rfl); (try simp only [Act.put, List.setIfInBounds_toArray, List.set_cons_zero, List.set_cons_succ]))
            refine q_end (fun w' hw => ?_)
            have HW := hid hw
            clear hw
            go_wp2_with fail
            go_meet
            exact ⟨by rw [hd]; rfl, HW⟩
          · have hqI : ¬ (q : Int) < L.length := by omega
            have hd : decide (q < L.length) = false := decide_eq_false hql
            go_quiet (fail)
            go_wp2_with fail
            go_meet
            exact ⟨by rw [hd]; rfl, hid ((Fr.refl (fun _ => False) _).drewN _)⟩
        case rest =>
        obtain ⟨rfl, HWC⟩ := hcut
        obtain ⟨cb, hcb⟩ : ∃ cb, (decide (q < L.length) && bf (L.getD q ByteArray.empty).data.toList y.data.toList) = cb := ⟨_, rfl⟩
        rw [hcb]
        have HCB := hid hcb
        have HFC := hid (HFQ.out.trans' HWC.out)
        clear hcb
        cases cb
        case true =>
          have hql : q < L.length := by
            have := HCB.out
            simp at this
            exact this.1
          have hqI : (q : Int) < L.length := by omega
          have HLOW2 := hid (show ∀ j, j < q + 1 → bf (L.getD j ByteArray.empty).data.toList y.data.toList = true from fun j hj => by
            by_cases e : j = q
            · subst e
              have := HCB.out
              rw [Bool.and_eq_true] at this
              exact this.2
            · exact HLOW.out j (by omega))
          go_wp2_with fail
          go_roundw
          case rel => exact ⟨q + 1, by omega, by go_num, HLOW2, HFC.out⟩
          case measure => simp [intOf]; omega
        case false =>
        obtain ⟨w6, hw6⟩ : ∃ W, W = wc := ⟨wc, rfl⟩
        rw [← hw6] at HFC HWC ⊢
        clear hw6
        go_upto_region 8 with fail
        go_cut [44] from 30 to 44 (fun c wx => c = .bool (decide (q < L.length ∧ L.getD q ByteArray.empty = y)) ∧ Hid (Fr (fun _ => False) w6 wx))
        case first =>
          by_cases hql : q < L.length
          · obtain ⟨b2, o2, rfl, hx⟩ := HSR.out q hql
            have hqI : (q : Int) < L.length := by omega
            have hx2 : wo.cell? ⟨b2, o2 + q, none⟩ = some (.string (L.getD q ByteArray.empty)) := by rw [hx]; simp [sV, List.getD, hql]
            have HX := hid hx2
            obtain ⟨eb, heb⟩ : ∃ eb, decide (q < L.length ∧ L.getD q ByteArray.empty = y) = eb := ⟨_, rfl⟩
            have hqe : ((L.getD q ByteArray.empty).toList == y.toList) = eb := by
              rw [← heb]
              by_cases h : L.getD q ByteArray.empty = y
              · rw [decide_eq_true ⟨hql, h⟩]; exact toList_same h
              · rw [decide_eq_false fun h' => h h'.2]; exact toList_ne h
            have HEB := hid heb
            clear hx hx2 heb
            generalize L.getD q ByteArray.empty = x at *
            refine wp_region_cls (fun w' => Fr (fun _ => False) w6 w') (by kernel_rfl) (by kernel_rfl) (Fr.refl _ _).drew ?_
            iterate 8 (refine q_take ?_ (by kernel_rfl) ?_ ?_; rotate_left; (· intro w' hS; go_simp; try with_reducible rfl); (try simp only [Act.put, List.setIfInBounds_toArray, List.set_cons_zero, List.set_cons_succ]))
            (refine q_take ?_ (by kernel_rfl) ?_ ?_; rotate_left; (· intro w' hS; have d0 := (HFC.out.trans' hS).cell HX.out not_false; go_simp; try with_reducible rfl); (try simp only [Act.put, List.setIfInBounds_toArray, List.set_cons_zero, List.set_cons_succ]))
            iterate 3 (refine q_take ?_ (by kernel_rfl) ?_ ?_; rotate_left; (· intro w' hS; go_simp; try with_reducible rfl); (try simp only [Act.put, List.setIfInBounds_toArray, List.set_cons_zero, List.set_cons_succ]))
            (refine q_take ?_ (by kernel_rfl) ?_ ?_; rotate_left; (· intro w' hS; have d0 := (HFC.out.trans' hS).cell HY.out not_false; go_simp; try with_reducible rfl); (try simp only [Act.put, List.setIfInBounds_toArray, List.set_cons_zero, List.set_cons_succ]))
            iterate 2 (refine q_take ?_ (by kernel_rfl) ?_ ?_; rotate_left; (· intro w' hS; go_simp; try with_reducible rfl); (try simp only [Act.put, List.setIfInBounds_toArray, List.set_cons_zero, List.set_cons_succ]))
            refine q_end (fun w' hw => ?_)
            have HW := hid hw
            clear hw
            go_wp2_with fail
            go_meet
            exact ⟨by rw [HEB.out], HW⟩
          · have hqI : ¬ (q : Int) < L.length := by omega
            have hd : decide (q < L.length ∧ L.getD q ByteArray.empty = y) = false := decide_eq_false fun h => hql h.1
            go_quiet (fail)
            go_wp2_with fail
            go_meet
            exact ⟨by rw [hd], hid ((Fr.refl (fun _ => False) _).drewN _)⟩
        case rest =>
        obtain ⟨rfl, HWD⟩ := hcut
        obtain ⟨w7, hw7⟩ : ∃ W, W = wc := ⟨wc, rfl⟩
        rw [← hw7] at HWD ⊢
        clear hw7
        have HFD := hid (HFC.out.trans' HWD.out)
        by_cases heq : q < L.length ∧ L.getD q ByteArray.empty = y
        · rw [decide_eq_true heq]
          have hmem : y ∈ L := by rw [← heq.2]; simp [List.getD, heq.1]
          have HM2 := hid (show ∀ s, s ∈ L ↔ s ∈ l.take (k + 1) from fun s => by
            rw [HMS.out s, ← HM.out s]
            constructor
            · exact .inl
            · rintro (h | rfl)
              · exact h
              · exact hmem)
          have HF9 := hid (HF.out.trans' HFD.out)
          have HO9 := hid (HFD.out.own HO.out (fun _ _ => id))
          clear hmem heq
          go_wp2_with fail
          go_roundw
          case rel => exact ⟨k + 1, L, by omega, by go_num, HO9, HM2, HSTR, by have := HLK.out; omega, HF9.out⟩
          case measure => simp [intOf]; omega
        · rw [decide_eq_false heq]
          have HIM := hid (show ∀ s, s ∈ insT L q y ↔ s ∈ l.take (k + 1) from fun s => by rw [insT_mem, HMS.out s, ← HM.out s])
          have HIL := hid (insT_length L q y hq)
          have HSTR2 := hid (insT_strict HSTR.out hq HLOW.out fun hql => by
            have h1 := HCB.out
            rw [decide_eq_true hql, Bool.true_and] at h1
            exact bf_tri h1 fun e => heq ⟨hql, ba_ext e⟩)
          have HF9 := hid (HF.out.trans' HFD.out)
          have HO9 := hid (HFD.out.own HO.out (fun _ _ => id))
          have HBZ := hid (show w.heap.size ≤ w7.heap.size from HF9.out.size)
          have HFY := hid (HFD.out.cell HY.out not_false)
          clear heq
          go_upto_region 9 with fail
          obtain ⟨wm, hmk, hom, hgm⟩ := run_make_own (P := Tryd.prog) (w := w7.drew) w.heap.size 132 9 si (.string ⟨#[]⟩) 1 Tryd.underlying132 HI1.out HI2.out HI3.out .i64 .i64 (L.length + 1) (by rw [HI4.out]; have := HLL.out; have := HLK.out; omega) (by unfold maxLen; have := HLL.out; have := HLK.out; omega) (by simpa using HBZ.out)
          rw [show ((L.length + 1 : Nat) : Int) = (L.length : Int) + 1 by omega] at hmk
          have hwr : IntKind.i64.wrap ((L.length : Int) + 1) = (L.length : Int) + 1 := IntWalk.i64_in _ (by omega)
          have hfm0 := Fr.of_grownBy hgm
          have hfm : Fr (fun _ => False) w7.drew wm := hfm0.mono (fun _ _ e => by cases e)
          have HFM := hid ((HF9.out.drew).trans' hfm); have HOM := hid hom
          have HSM := hid (show w7.heap.size ≤ wm.heap.size from (by simpa using hfm.size))
          have HNB := hid (show ∀ r, Value.ownBlock (.slice (some ⟨w7.drew.heap.size, 0, none⟩) 0 (L.length + 1)) = some r → w7.heap.size ≤ r from fun r hr => by simp [Value.ownBlock] at hr; omega)
          have HSRC := hid (show ∀ j x, L[j]? = some x → ∃ b o, ao = some (⟨b, o, none⟩ : Addr) ∧ b < w7.heap.size ∧ wm.cell? ⟨b, o + j, none⟩ = some (.string x) from fun j x hj => by
            have hjl := (List.getElem?_eq_some_iff.1 hj).1
            obtain ⟨b, o, e, hc⟩ := HSR.out j hjl
            have hv : (sV L)[j]? = some (.string x) := by simp [sV, hj]
            rw [hv] at hc
            have h7 := HFD.out.cell hc not_false
            exact ⟨b, o, e, World.block_lt_of_cell? _ _ h7, hfm.cell (show w7.drew.cell? _ = _ from h7) not_false⟩)
          have HYM := hid (hfm.cell (show w7.drew.cell? _ = _ from HFY.out) not_false)
          have HYB := hid (World.block_lt_of_cell? _ _ HFY.out)
          have HLS := hid (show (sV L).length = L.length by simp [sV])
          have hone : ∀ M : List ByteArray, ∀ u ∈ sV M, u.oneCell' = true := fun M u hu => by
            obtain ⟨x, -, rfl⟩ := List.mem_map.1 hu
            rfl
          have HONE := hid hone
          have hcap : L.length ≤ oc := by
            rcases HO9.out.2 with ⟨e, h0⟩ | ⟨g', cap', cur, e, hb, hg, h1, -⟩
            · simp at e; omega
            · simp at e; omega
          have hqc : q ≤ oc := by omega
          clear hgm hom hfm0 hfm hone
          rcases own_heap HO9.out with ⟨he, h0, -⟩ | ⟨g, cap, he, -, -, -⟩
          · obtain ⟨rfl, hn0, rfl⟩ : ao = none ∧ L.length = 0 ∧ oc = 0 := by simpa using he
            obtain rfl := List.eq_nil_of_length_eq_zero hn0
            obtain rfl : q = 0 := by simpa using hq
            refine wp_region_ord [(0, 0), (1, 0), (2, 0), (4, 0), (5, 0), (6, 0), (3, 1), (7, 1), (8, 1)] (fun _ => True) (by kernel_rfl) (by kernel_rfl) (by kernel_rfl) rfl (fun _ _ d _ _ h => by cases d <;> exact h) trivial ?_
            iterate 6 (refine wpO_take ?_ rfl (by kernel_rfl) ?_ ?_; rotate_left; (· intro w' hS; go_simp; try with_reducible rfl); try simp only [Act.put, List.setIfInBounds_toArray, List.set_cons_zero, List.set_cons_succ])
            have hmk1 : (Instr.makeSlice 132 (.int .i64 0) (.int .i64 1)).run Tryd.prog w7.drew = .ok (.slice (some ⟨w7.drew.heap.size, 0, none⟩) 0 1) wm := hmk
            have hwr1 : IntKind.i64.wrap 1 = 1 := by decide
            (refine wpO_run rfl (by kernel_rfl) (fun K hK => ?_); go_simp; refine hK _ _ (fun _ => trivial) ?_; clear hK K; try simp only [Act.put, List.setIfInBounds_toArray, List.set_cons_zero, List.set_cons_succ])
            refine wpO_run rfl (by kernel_rfl) (fun K hK => ?_)
            refine wp_appendN (.tmp 48) (.tmp 51) 132 rfl 9 (.string ⟨#[]⟩) 16 Tryd.underlying132 Tryd.info_st rfl (.slice (some ⟨w7.drew.heap.size, 0, none⟩) 0 (([] : List ByteArray).length + 1)) rfl w.heap.size 0 [] HOM.out none 0 0 ((sV ([] : List ByteArray)).take 0) rfl (by rw [List.length_take, HLS.out]; omega) (fun _ => ⟨rfl, rfl⟩) (fun j hj => by omega) (fun u hu => HONE.out ([] : List ByteArray) u (List.mem_of_mem_take hu)) (by have := HLL.out; have := HLK.out; omega) (by decide) (Nat.le_trans HBZ.out HSM.out) ?_
            intro v8 w8 ho8 hf8 hn8
            have HF8 := hid (HFM.out.trans hf8 (U := fun _ => False) (fun _ _ h => h) (fun r hr e => by have := (HOM.out.lt r e.symm).1; omega))
            have HO8 := hid (show w8.ownsRow w.heap.size 9 1 v8 0 ((sV ([] : List ByteArray)).take 0) by simpa using ho8)
            have HNB8 := hid (show ∀ r, v8.ownBlock = some r → w7.heap.size ≤ r from fun r hr => (hn8 r hr).elim (HNB.out r) (fun h => Nat.le_trans HSM.out h))
            have HY8 := hid (hf8.cell HYM.out (fun e => by have := HNB.out _ e.symm; have := HYB.out; simp only at *; omega))
            have HS8 := hid (Nat.le_trans HSM.out hf8.size)
            have HSRC8 := hid (show ∀ j x, ([] : List ByteArray)[j]? = some x → ∃ b o, none = some (⟨b, o, none⟩ : Addr) ∧ b < w7.heap.size ∧ w8.cell? ⟨b, o + j, none⟩ = some (.string x) from fun j x hj => by
              obtain ⟨b3, o3, e3, hb3, hc3⟩ := HSRC.out j x hj
              exact ⟨b3, o3, e3, hb3, hf8.cell hc3 (fun e => by have := HNB.out _ e.symm; simp only at *; omega)⟩)
            clear ho8 hf8 hn8
            refine hK _ _ (fun _ => trivial) ?_
            clear hK K hmk
            try simp only [Act.put, List.setIfInBounds_toArray, List.set_cons_zero, List.set_cons_succ]
            (refine wpO_run rfl (by kernel_rfl) (fun K hK => ?_); go_simp; refine hK _ _ (fun _ => trivial) ?_; clear hK K; try simp only [Act.put, List.setIfInBounds_toArray, List.set_cons_zero, List.set_cons_succ])
            refine wpO_end ?_
            obtain ⟨a8, c8, rfl, -⟩ := own_len HO8.out
            have HOW8 := hid (World.ownsRow.alloc HO8.out (.cells #[.string y] 9))
            have HCE8 := hid (cell_new1 w8 (.string y) 9 (0, 0))
            have HFA8 := hid (HF8.out.alloc (.cells #[.string y] 9))
            have hy8 := HY8.out
            go_upto_region 11 with (at_builtin; go_must (refine wpList_append1 rfl (.tmp 53) (.tmp 58) 132 rfl 9 (.string ⟨#[]⟩) 16 Tryd.underlying132 Tryd.info_st rfl _ rfl w.heap.size 0 ((sV ([] : List ByteArray)).take 0) HOW8.out w8.heap.size 1 (.string y) rfl HCE8.out rfl (by have := HLL.out; have := HLK.out; omega) (by decide) HFA8.out.size ?_; intro g9 cap9 w9 ho9 hf9 hn9))
            have HF9b := hid (HFA8.out.trans hf9 (U := fun _ => False) (fun _ _ h => h) (fun r hr e => by have := (HO8.out.lt r e.symm).1; omega))
            have HO9b := hid ho9
            have HSRC9 := hid (show ∀ j x, ([] : List ByteArray)[j]? = some x → ∃ b o, none = some (⟨b, o, none⟩ : Addr) ∧ b < w7.heap.size ∧ w9.cell? ⟨b, o + j, none⟩ = some (.string x) from fun j x hj => by
              obtain ⟨b3, o3, e3, hb3, hc3⟩ := HSRC8.out j x hj
              exact ⟨b3, o3, e3, hb3, hf9.cell (((Fr.refl (fun _ => False) w8).alloc (.cells #[.string y] 9)).cell hc3 not_false) (fun e => by have := HNB8.out _ e.symm; simp only at *; omega)⟩)
            clear ho9 hf9 hn9 hy8
            have HINS := hid (show sV (insT ([] : List ByteArray) 0 y) = ((sV ([] : List ByteArray)).take 0 ++ [Value.string y]) ++ (sV ([] : List ByteArray)).drop 0 by simp [insT, sV, List.map_take, List.map_drop])
            go_wp2_with (at_builtin; go_must (refine wpList_appendN rfl (.tmp 60) (.tmp 63) 132 rfl 9 (.string ⟨#[]⟩) 16 Tryd.underlying132 Tryd.info_st rfl _ rfl w.heap.size (0 + 1) ((sV ([] : List ByteArray)).take 0 ++ [Value.string y]) HO9b.out _ _ _ ((sV ([] : List ByteArray)).drop 0) rfl (by simp [sV]) (fun _ => ⟨rfl, rfl⟩) (fun j hj => by omega) (fun u hu => HONE.out ([] : List ByteArray) u (List.mem_of_mem_drop hu)) (by have := HLL.out; have := HLK.out; omega) (by decide) HF9b.out.size ?_))
            intro v10 w10 ho10 hf10 hn10
            have HO10 := hid (show w10.ownsRow w.heap.size 9 1 v10 (insT ([] : List ByteArray) 0 y).length (sV (insT ([] : List ByteArray) 0 y)) by
              rw [HINS.out, HIL.out]
              have : 0 + 1 + 0 = ([] : List ByteArray).length + 1 := by rfl
              rw [← this]
              simpa using ho10)
            have HF10 := hid (HF9b.out.trans hf10 (U := fun _ => False) (fun _ _ h => h) (fun r hr e => by have := (HO9b.out.lt r e.symm).1; omega))
            clear ho10 hf10 hn10
            go_wp2_with fail
            go_roundw
            case rel => exact ⟨k + 1, insT ([] : List ByteArray) 0 y, by omega, by go_num, HO10, HIM, HSTR2, by rw [HIL.out]; have := HLK.out; omega, HF10.out⟩
            case measure => simp [intOf]; omega
          · obtain ⟨rfl, rfl⟩ : ao = some ⟨g, 0, none⟩ ∧ oc = cap := by simpa using he
            refine wp_region_ord [(0, 0), (1, 0), (2, 0), (4, 0), (5, 0), (6, 0), (3, 1), (7, 1), (8, 1)] (fun _ => True) (by kernel_rfl) (by kernel_rfl) (by kernel_rfl) rfl (fun _ _ d _ _ h => by cases d <;> exact h) trivial ?_
            have HSG := hid (show ∀ j, j < L.length → wm.cell? ⟨g, 0 + j, none⟩ = (sV L)[j]? from fun j hj => by
              obtain ⟨b3, o3, e3, -, hc3⟩ := HSRC.out j L[j] (List.getElem?_eq_getElem hj)
              obtain ⟨rfl, rfl⟩ : b3 = g ∧ o3 = 0 := by simp at e3; exact ⟨e3.1.symm, e3.2.symm⟩
              rw [hc3]
              simp [sV, List.getElem?_eq_getElem hj])
            iterate 6 (refine wpO_take ?_ rfl (by kernel_rfl) ?_ ?_; rotate_left; (· intro w' hS; go_simp; try with_reducible rfl); try simp only [Act.put, List.setIfInBounds_toArray, List.set_cons_zero, List.set_cons_succ])
            (refine wpO_run rfl (by kernel_rfl) (fun K hK => ?_); go_simp; refine hK _ _ (fun _ => trivial) ?_; clear hK K; try simp only [Act.put, List.setIfInBounds_toArray, List.set_cons_zero, List.set_cons_succ])
            refine wpO_run rfl (by kernel_rfl) (fun K hK => ?_)
            refine wp_appendN (.tmp 48) (.tmp 51) 132 rfl 9 (.string ⟨#[]⟩) 16 Tryd.underlying132 Tryd.info_st rfl (.slice (some ⟨w7.drew.heap.size, 0, none⟩) 0 (L.length + 1)) rfl w.heap.size 0 [] HOM.out (some ⟨g, 0, none⟩) q oc ((sV L).take q) rfl (by rw [List.length_take, HLS.out]; omega) (fun h => by cases h) (fun j hj => ⟨_, _, rfl, by rw [HSG.out j (by omega), List.getElem?_take, if_pos hj]⟩) (fun u hu => HONE.out L u (List.mem_of_mem_take hu)) (by have := HLL.out; have := HLK.out; omega) (by decide) (Nat.le_trans HBZ.out HSM.out) ?_
            intro v8 w8 ho8 hf8 hn8
            have HF8 := hid (HFM.out.trans hf8 (U := fun _ => False) (fun _ _ h => h) (fun r hr e => by have := (HOM.out.lt r e.symm).1; omega))
            have HO8 := hid (show w8.ownsRow w.heap.size 9 1 v8 q ((sV L).take q) by simpa using ho8)
            have HNB8 := hid (show ∀ r, v8.ownBlock = some r → w7.heap.size ≤ r from fun r hr => (hn8 r hr).elim (HNB.out r) (fun h => Nat.le_trans HSM.out h))
            have HY8 := hid (hf8.cell HYM.out (fun e => by have := HNB.out _ e.symm; have := HYB.out; simp only at *; omega))
            have HS8 := hid (Nat.le_trans HSM.out hf8.size)
            have HSRC8 := hid (show ∀ j x, L[j]? = some x → ∃ b o, (some ⟨g, 0, none⟩) = some (⟨b, o, none⟩ : Addr) ∧ b < w7.heap.size ∧ w8.cell? ⟨b, o + j, none⟩ = some (.string x) from fun j x hj => by
              obtain ⟨b3, o3, e3, hb3, hc3⟩ := HSRC.out j x hj
              exact ⟨b3, o3, e3, hb3, hf8.cell hc3 (fun e => by have := HNB.out _ e.symm; simp only at *; omega)⟩)
            clear ho8 hf8 hn8
            refine hK _ _ (fun _ => trivial) ?_
            clear hK K hmk
            try simp only [Act.put, List.setIfInBounds_toArray, List.set_cons_zero, List.set_cons_succ]
            (refine wpO_run rfl (by kernel_rfl) (fun K hK => ?_); go_simp; refine hK _ _ (fun _ => trivial) ?_; clear hK K; try simp only [Act.put, List.setIfInBounds_toArray, List.set_cons_zero, List.set_cons_succ])
            refine wpO_end ?_
            obtain ⟨a8, c8, rfl, -⟩ := own_len HO8.out
            have HOW8 := hid (World.ownsRow.alloc HO8.out (.cells #[.string y] 9))
            have HCE8 := hid (cell_new1 w8 (.string y) 9 (0, 0))
            have HFA8 := hid (HF8.out.alloc (.cells #[.string y] 9))
            have hy8 := HY8.out
            go_upto_region 11 with (at_builtin; go_must (refine wpList_append1 rfl (.tmp 53) (.tmp 58) 132 rfl 9 (.string ⟨#[]⟩) 16 Tryd.underlying132 Tryd.info_st rfl _ rfl w.heap.size q ((sV L).take q) HOW8.out w8.heap.size 1 (.string y) rfl HCE8.out rfl (by have := HLL.out; have := HLK.out; omega) (by decide) HFA8.out.size ?_; intro g9 cap9 w9 ho9 hf9 hn9))
            have HF9b := hid (HFA8.out.trans hf9 (U := fun _ => False) (fun _ _ h => h) (fun r hr e => by have := (HO8.out.lt r e.symm).1; omega))
            have HO9b := hid ho9
            have HSRC9 := hid (show ∀ j x, L[j]? = some x → ∃ b o, (some ⟨g, 0, none⟩) = some (⟨b, o, none⟩ : Addr) ∧ b < w7.heap.size ∧ w9.cell? ⟨b, o + j, none⟩ = some (.string x) from fun j x hj => by
              obtain ⟨b3, o3, e3, hb3, hc3⟩ := HSRC8.out j x hj
              exact ⟨b3, o3, e3, hb3, hf9.cell (((Fr.refl (fun _ => False) w8).alloc (.cells #[.string y] 9)).cell hc3 not_false) (fun e => by have := HNB8.out _ e.symm; simp only at *; omega)⟩)
            clear ho9 hf9 hn9 hy8
            have HINS := hid (show sV (insT L q y) = ((sV L).take q ++ [Value.string y]) ++ (sV L).drop q by simp [insT, sV, List.map_take, List.map_drop])
            have hqn := hq
            by_cases hoq : oc = q
            · go_wp2_with (at_builtin; go_must (refine wpList_appendN rfl (.tmp 60) (.tmp 63) 132 rfl 9 (.string ⟨#[]⟩) 16 Tryd.underlying132 Tryd.info_st rfl _ rfl w.heap.size (q + 1) ((sV L).take q ++ [Value.string y]) HO9b.out _ _ _ ((sV L).drop q) rfl (by rw [List.length_drop, HLS.out]) (fun h => by cases h) (fun j hj => by omega) (fun u hu => HONE.out L u (List.mem_of_mem_drop hu)) (by have := HLL.out; have := HLK.out; omega) (by decide) HF9b.out.size ?_))
              intro v10 w10 ho10 hf10 hn10
              have HO10 := hid (show w10.ownsRow w.heap.size 9 1 v10 (insT L q y).length (sV (insT L q y)) by
                rw [HINS.out, HIL.out]
                have : q + 1 + (L.length - q) = L.length + 1 := by omega
                rw [← this]
                simpa using ho10)
              have HF10 := hid (HF9b.out.trans hf10 (U := fun _ => False) (fun _ _ h => h) (fun r hr e => by have := (HO9b.out.lt r e.symm).1; omega))
              clear ho10 hf10 hn10
              go_wp2_with fail
              go_roundw
              case rel => exact ⟨k + 1, insT L q y, by omega, by go_num, HO10, HIM, HSTR2, by rw [HIL.out]; have := HLK.out; omega, HF10.out⟩
              case measure => simp [intOf]; omega
            have HSG9 := hid (show ∀ j, j < L.length → w9.cell? ⟨g, j, none⟩ = (sV L)[j]? from fun j hj => by
              obtain ⟨b3, o3, e3, -, hc3⟩ := HSRC9.out j L[j] (List.getElem?_eq_getElem hj)
              obtain ⟨rfl, rfl⟩ : b3 = g ∧ o3 = 0 := by simp at e3; exact ⟨e3.1.symm, e3.2.symm⟩
              rw [Nat.zero_add] at hc3
              rw [hc3]
              simp [sV, List.getElem?_eq_getElem hj])
            · go_wp2_with (at_builtin; go_must (refine wpList_appendN rfl (.tmp 60) (.tmp 63) 132 rfl 9 (.string ⟨#[]⟩) 16 Tryd.underlying132 Tryd.info_st rfl _ rfl w.heap.size (q + 1) ((sV L).take q ++ [Value.string y]) HO9b.out _ _ _ ((sV L).drop q) rfl (by rw [List.length_drop, HLS.out]) (fun h => by cases h) (fun j hj => ⟨_, _, rfl, by rw [List.getElem?_drop, ← HSG9.out (q + j) (by omega)]⟩) (fun u hu => HONE.out L u (List.mem_of_mem_drop hu)) (by have := HLL.out; have := HLK.out; omega) (by decide) HF9b.out.size ?_))
              intro v10 w10 ho10 hf10 hn10
              have HO10 := hid (show w10.ownsRow w.heap.size 9 1 v10 (insT L q y).length (sV (insT L q y)) by
                rw [HINS.out, HIL.out]
                have : q + 1 + (L.length - q) = L.length + 1 := by omega
                rw [← this]
                simpa using ho10)
              have HF10 := hid (HF9b.out.trans hf10 (U := fun _ => False) (fun _ _ h => h) (fun r hr e => by have := (HO9b.out.lt r e.symm).1; omega))
              clear ho10 hf10 hn10
              go_wp2_with fail
              go_roundw
              case rel => exact ⟨k + 1, insT L q y, by omega, by go_num, HO10, HIM, HSTR2, by rw [HIL.out]; have := HLK.out; omega, HF10.out⟩
              case measure => simp [intOf]; omega
    · obtain rfl : k = l.length := by omega
      have HF := hid hf
      have hM := HM.out
      rw [List.take_length] at hM
      have HM2 := hid hM
      clear hf hM
      go_wp2_with fail
      go_ret
      exact ⟨L, _, rfl, HO.out, HM2.out, HSTR.out, hLk, HF.out⟩
theorem rising_any (l : List ByteArray) (hl : l.length ≤ 1048576) (hs : ∀ s ∈ l, s.size ≤ 1099511627776) (D : Nat → Prop) (w : World) (v : Value) (h : Ss D w v l) : Calls Tryd.prog 98 #[v] w fun e w' => ∃ (L : List ByteArray) (v' : Value), e = .returned v' ∧ w'.ownsRow w.heap.size 9 1 v' L.length (sV L) ∧ (∀ s, s ∈ L ↔ s ∈ l) ∧ L.length ≤ l.length ∧ Fr (fun _ => False) w w' :=
  (rising_exact l hl hs D w v h).mono fun _ _ ⟨L, v', h1, h2, h3, _, h5, h6⟩ => ⟨L, v', h1, h2, h3, h5, h6⟩
end
section
open Go.RowKit

theorem dsmall_any (c : Nat) (hc : c < 256) (w : World) : Calls Tryd.prog 96 #[.int .u8 c] w fun e w' => e = .returned (.bool (smallc c)) ∧ w = w' := by
  have h3 : (97 ≤ c ∧ c ≤ 122) ∨ 122 < c ∨ c = 95 ∨ (c < 97 ∧ c ≠ 95) := by omega
  rcases h3 with ⟨h1, h2⟩ | h1 | h1 | ⟨h1, h2⟩
  · have HR := hid (show smallc c = true from small_of (.inl ⟨h1, h2⟩))
    have g1 : (c : Int) ≥ 97 := by omega
    have g2 : (c : Int) ≤ 122 := by omega
    go_enter Tryd.func96, Tryd.ntmps96
    go_wp2
    go_ret
    exact ⟨ret_bool HR.out.symm, rfl⟩
  · have HR := hid (show smallc c = false from Bool.eq_false_iff.2 fun h => by have := small_cases h; omega)
    have g1 : (c : Int) ≥ 97 := by omega
    have g2 : ¬ (c : Int) ≤ 122 := by omega
    have g3 : ((c : Int) == 95) = false := by rw [beq_eq_false_iff_ne]; omega
    go_enter Tryd.func96, Tryd.ntmps96
    go_wp2
    go_ret
    exact ⟨ret_bool HR.out.symm, rfl⟩
  · subst h1
    go_enter Tryd.func96, Tryd.ntmps96
    go_wp2
    go_ret
    exact ⟨rfl, rfl⟩
  · have HR := hid (show smallc c = false from Bool.eq_false_iff.2 fun h => by have := small_cases h; omega)
    have g1 : ¬ (c : Int) ≥ 97 := by omega
    have g3 : ((c : Int) == 95) = false := by rw [beq_eq_false_iff_ne]; omega
    go_enter Tryd.func96, Tryd.ntmps96
    go_wp2
    go_ret
    exact ⟨ret_bool HR.out.symm, rfl⟩
def digc (c : Nat) : Bool := decide (48 ≤ c) && decide (c ≤ 57)
theorem ddigit_any (c : Nat) (hc : c < 256) (w : World) : Calls Tryd.prog 97 #[.int .u8 c] w fun e w' => e = .returned (.bool (digc c)) ∧ w = w' := by
  by_cases h1 : 48 ≤ c
  · have g1 : (c : Int) ≥ 48 := by omega
    by_cases h2 : c ≤ 57
    · have g2 : (c : Int) ≤ 57 := by omega
      have HR := hid (show digc c = true by simp [digc]; omega)
      go_enter Tryd.func97, Tryd.ntmps97
      go_wp2
      go_ret
      exact ⟨ret_bool HR.out.symm, rfl⟩
    · have g2 : ¬ (c : Int) ≤ 57 := by omega
      have HR := hid (show digc c = false by simp [digc]; omega)
      go_enter Tryd.func97, Tryd.ntmps97
      go_wp2
      go_ret
      exact ⟨ret_bool HR.out.symm, rfl⟩
  · have g1 : ¬ (c : Int) ≥ 48 := by omega
    have HR := hid (show digc c = false by simp [digc]; omega)
    go_enter Tryd.func97, Tryd.ntmps97
    go_wp2
    go_ret
    exact ⟨ret_bool HR.out.symm, rfl⟩
theorem okc_split (c : Nat) : okc c = (smallc c || digc c) := by
  rw [Bool.eq_iff_iff]
  simp [okc, smallc, digc]
  omega
theorem bName_no {s : ByteArray} (h : ¬ bName s) : decide (bName s) = false := decide_eq_false h
set_option maxHeartbeats 1600000 in
theorem disname_any (s : ByteArray) (hs : s.size ≤ 1099511627776) (w : World) : Calls Tryd.prog 79 #[.string s] w fun e w' => e = .returned (.bool (decide (bName s))) ∧ Fr (fun _ => False) w w' := by
  have hsI : (s.size : Int) ≤ 1099511627776 := by omega
  by_cases h1 : s.size < 1
  · have HR := hid (bName_no (s := s) fun h => by have := h.1; omega)
    generalize decide (bName s) = r at *
    clear hs
    go_enter Tryd.func79, Tryd.ntmps79
    go_wp2_with fail
    go_ret
    exact ⟨ret_bool HR.out.symm, Fr.refl _ _⟩
  by_cases h2 : 32 < s.size
  · have HR := hid (bName_no (s := s) fun h => by have := h.2.1; omega)
    generalize decide (bName s) = r at *
    clear hs
    go_enter Tryd.func79, Tryd.ntmps79
    go_wp2_with fail
    go_ret
    exact ⟨ret_bool HR.out.symm, Fr.refl _ _⟩
  have h0 : 0 < s.size := by omega
  have hb0 : at0 s 0 = s[0].toNat := by
    have : 0 < s.data.toList.length := by simpa using h0
    simp [at0, List.getD, h0]; rfl
  have HSM := hid (fun w => dsmall_any s[0].toNat s[0].toNat_lt w)
  cases hsm : smallc s[0].toNat
  · have HR := hid (bName_no (s := s) fun h => by have := h.2.2.1; rw [hb0, hsm] at this; cases this)
    generalize decide (bName s) = r at *
    rw [hsm] at HSM
    clear hs hb0 hsm
    go_enter Tryd.func79, Tryd.ntmps79
    go_wp2_with fail
    refine (HSM.out _).mono ?_
    rintro e w2 ⟨rfl, rfl⟩
    go_wp2_with fail
    go_ret
    exact ⟨ret_bool HR.out.symm, Fr.refl _ _⟩
  have HB0 := hid (show smallc (at0 s 0) = true by rw [hb0, hsm])
  rw [hsm] at HSM
  clear hb0 hsm
  obtain ⟨r, hr⟩ : ∃ r, decide (bName s) = r := ⟨_, rfl⟩
  rw [hr]
  have HRR := hid hr
  clear hr
  go_enter Tryd.func79, Tryd.ntmps79
  go_wp2_with fail
  refine (HSM.out _).mono ?_
  rintro e w2 ⟨rfl, rfl⟩
  go_wp2_with fail
  go_loopw [3] (fun i wr => ∃ k : Nat, k ≤ s.size ∧ i = .int .i64 k ∧ w = wr ∧ Hid (∀ j, j < k → okc (at0 s j) = true)) (fun i _ => s.size - (intOf i).toNat)
  case atStart => exact ⟨0, Nat.zero_le _, rfl, rfl, hid fun j hj => by omega⟩
  case round =>
    obtain ⟨k, hk, rfl, rfl, HA⟩ := hrel
    by_cases hlt : k < s.size
    · have hlt' : (k : Int) < s.size := by omega
      have hbk : at0 s k = s[k].toNat := by
        have : k < s.data.toList.length := by simpa using hlt
        simp [at0, List.getD, hlt]; rfl
      have HK := hid (dsmall_any s[k].toNat s[k].toNat_lt w)
      have HD := hid (ddigit_any s[k].toNat s[k].toNat_lt w)
      have hsp := okc_split s[k].toNat
      generalize smallc s[k].toNat = sm at *
      generalize digc s[k].toNat = dg at *
      cases sm
      · cases dg
        · have HR := hid (show r = false by rw [← HRR.out]; exact bName_no fun h => by have := h.2.2.2 k hlt; rw [hbk, hsp] at this; cases this)
          clear hbk hsp
          go_wp2_with fail
          refine HK.out.mono ?_
          rintro e w2 ⟨rfl, rfl⟩
          go_wp2_with fail
          refine HD.out.mono ?_
          rintro e w2 ⟨rfl, rfl⟩
          go_wp2_with fail
          go_ret
          exact ⟨ret_bool HR.out.symm, Fr.refl _ _⟩
        · have HOK := hid (show okc (at0 s k) = true by rw [hbk, hsp]; rfl)
          clear hbk hsp
          go_wp2_with fail
          refine HK.out.mono ?_
          rintro e w2 ⟨rfl, rfl⟩
          go_wp2_with fail
          refine HD.out.mono ?_
          rintro e w2 ⟨rfl, rfl⟩
          go_wp2_with fail
          go_roundw
          case rel => exact ⟨k + 1, by omega, by go_num, trivial, hid (all_step HA.out HOK.out)⟩
          case measure => simp [intOf]; omega
      · have HOK := hid (show okc (at0 s k) = true by rw [hbk, hsp]; rfl)
        clear hbk hsp
        go_wp2_with fail
        refine HK.out.mono ?_
        rintro e w2 ⟨rfl, rfl⟩
        go_wp2_with fail
        go_roundw
        case rel => exact ⟨k + 1, by omega, by go_num, trivial, hid (all_step HA.out HOK.out)⟩
        case measure => simp [intOf]; omega
    · obtain rfl : k = s.size := by omega
      have HR := hid (show r = true by rw [← HRR.out]; exact decide_eq_true ⟨by omega, by omega, HB0.out, HA.out⟩)
      go_wp2_with fail
      go_ret
      exact ⟨ret_bool HR.out.symm, Fr.refl _ _⟩
set_option maxHeartbeats 800000 in
theorem dholds_any (s : ByteArray) (l : List ByteArray) (hl : l.length ≤ 1099511627776) (v : Value) (w : World) (h : Ss Tv w v l) : Calls Tryd.prog 80 #[v, .string s] w fun e w' => e = .returned (.bool (memB s l)) ∧ w = w' := by
  obtain ⟨a, c, rfl, h1, h2, hk⟩ := h
  have HC := hid hk
  have hlI : (l.length : Int) ≤ 1099511627776 := by omega
  have HM := hid (memB_iff (s := s) (l := l))
  clear hk h1 h2 hl
  generalize memB s l = r at *
  go_enter Tryd.func80, Tryd.ntmps80
  go_wp2_with fail
  go_loopw [5] (fun i wr => ∃ k : Nat, k ≤ l.length ∧ i = .int .i64 k ∧ w = wr ∧ Hid (∀ j, j < k → l.getD j ByteArray.empty ≠ s)) (fun i _ => l.length - (intOf i).toNat)
  case atStart => exact ⟨0, Nat.zero_le _, rfl, rfl, hid fun j hj => by omega⟩
  case round =>
    obtain ⟨k, hk, rfl, rfl, HA⟩ := hrel
    by_cases hlt : k < l.length
    · obtain ⟨b, o, rfl, -, hc⟩ := HC.out k hlt
      have hlt' : (k : Int) < l.length := by omega
      by_cases he : s = l.getD k ByteArray.empty
      · have HR := hid (show r = true from HM.out.2 (by rw [he]; simp [List.getD, hlt]))
        have hq := toList_same he.symm
        generalize l.getD k ByteArray.empty = d at *
        clear he
        go_wp2_with fail
        go_ret
        exact ⟨ret_bool HR.out.symm, rfl⟩
      · generalize hd : l.getD k ByteArray.empty = d at *
        have HNE := hid he
        have HD := hid hd
        have hq := toList_ne (Ne.symm he)
        clear hd he
        go_wp2_with fail
        go_roundw
        case rel => exact ⟨k + 1, by omega, by go_num, trivial, hid (all_step HA.out (by rw [HD.out]; exact fun e => HNE.out e.symm))⟩
        case measure => simp [intOf]; omega
    · obtain rfl : k = l.length := by omega
      have HR := hid (show r = false from Bool.eq_false_iff.2 fun h => by
        obtain ⟨j, hj, e⟩ := List.getElem_of_mem (HM.out.1 h)
        exact HA.out j hj (by simp [List.getD, hj, e]))
      go_wp2_with fail
      go_ret
      exact ⟨ret_bool HR.out.symm, rfl⟩
set_option maxHeartbeats 800000 in
theorem dright_any (x : V) (hM : x.size ≤ 1099511627776) (D : Nat → Prop) (w : World) (u : Array Value) (h : VIn D w x u) : Calls Tryd.prog 58 #[.agg u] w fun e w' => e = .returned (.bool (decide (x.valid = 0))) ∧ Fr (fun _ => False) w w' := by
  obtain ⟨v, rfl, a, cap, us, rfl, -⟩ := id h.open
  have hf := (Fr.refl (fun _ => False) w).alloc (.cells #[.int .i64 x.k, .int .i64 x.n, .string x.s, .slice a x.l.length cap] 34)
  have HC := hid (rvalid_any x hM D _ _ (h.frame hf fun _ _ => not_false))
  have HF := hid hf; have HG := hid (heap_alloc_new w (.cells #[.int .i64 x.k, .int .i64 x.n, .string x.s, .slice a x.l.length cap] 34))
  have hd : (x.valid == 0) = decide (x.valid = 0) := by
    by_cases h : x.valid = 0
    · rw [h]; rfl
    · rw [decide_eq_false h, beq_eq_false_iff_ne]; exact h
  generalize decide (x.valid = 0) = r at *
  generalize x.valid = rv at *
  clear h hM hf
  go_enter Tryd.func58, Tryd.ntmps58
  go_upto_region 1 with fail
  generalize hW : w.alloc (.cells #[.int .i64 x.k, .int .i64 x.n, .string x.s, .slice a x.l.length cap] 34) = W at *
  clear hW
  have d0 : W.cell? ⟨w.heap.size, 0, none⟩ = some (.int .i64 x.k) := by rw [cell_of_row _ _ 0 _ _ _ HG.out]; rfl
  have d1 : W.cell? ⟨w.heap.size, 1, none⟩ = some (.int .i64 x.n) := by rw [cell_of_row _ _ 1 _ _ _ HG.out]; rfl
  have d2 : W.cell? ⟨w.heap.size, 2, none⟩ = some (.string x.s) := by rw [cell_of_row _ _ 2 _ _ _ HG.out]; rfl
  have d3 : W.cell? ⟨w.heap.size, 3, none⟩ = some (.slice a x.l.length cap) := by rw [cell_of_row _ _ 3 _ _ _ HG.out]; rfl
  go_wp2_with fail
  refine HC.out.mono ?_
  rintro e w2 ⟨rfl, hf2⟩
  have HF2 := hid (HF.out.trans' hf2)
  clear hf2
  go_wp2_with fail
  go_ret
  exact ⟨rfl, HF2.out⟩
set_option maxRecDepth 100000 in
set_option maxHeartbeats 1600000 in
theorem dmany_any : ∀ (N : Nat) (l : List Nd), cntL l < N → cntL l ≤ 4611686018427387904 → ∀ (n : Nat), n ≤ 1048576 → ∀ (D : Nat → Prop) (w : World) (v : Value), NL D w l v →
    Calls Tryd.prog 56 #[v, .int .i64 n] w fun e w' => e = .returned (.int .i64 (if cntL l ≤ n then ((n - cntL l : Nat) : Int) else -1)) ∧ Fr (fun _ => False) w w' := by
  intro N
  induction N with
  | zero =>
    intro l hN hM n hn0 D w v h
    omega
  | succ N ih =>
    intro l hN hM n hn0 D w v h
    have hll := len_le_cnt l
    obtain ⟨a, cap, us, rfl, hc, hm, hn, hb, hi⟩ := h
    have hlI : (l.length : Int) ≤ 4611686018427387904 := by omega
    obtain ⟨r, hr⟩ : ∃ r : Int, (if cntL l ≤ n then ((n - cntL l : Nat) : Int) else -1) = r := ⟨_, rfl⟩
    rw [hr]
    have HB := hid hb; have HI := hid hi; have HM := hid hM; have HN := hid hN; have HR := hid hr
    clear hb hi hM hN hn hll hc hm hr
    go_enter Tryd.func56, Tryd.ntmps56
    go_wp2
    go_loopw [1, 5] (fun m i wr => ∃ k q : Nat, k ≤ l.length ∧ i = .int .i64 k ∧ m = .int .i64 q ∧ cntL (l.take k) + q = n ∧ Fr (fun _ => False) w wr) (fun _ i _ => l.length - (intOf i).toNat)
    case atStart => exact ⟨0, n, Nat.zero_le _, rfl, rfl, by simp [cntL], Fr.refl _ _⟩
    case round =>
      obtain ⟨k, q, hk, rfl, rfl, hb4, hf⟩ := hrel
      by_cases hlt : k < l.length
      · obtain ⟨b, o, y, va, c1, a', c', rfl, -, hy, hv, e0, e1, e2, e3, e4, e5, e6, e7⟩ := NL.elem HB.out HI.out k hlt
        have hlt' : (k : Int) < l.length := by omega
        replace e7 := hf.cell e7 not_false
        have t1 := cntL_take l k y hy
        have t2 := cntL_mem hy
        have t3 := cntL_take_le l (k + 1)
        have t4 := Nd.cnt_eq y
        have hqI : (q : Int) ≤ 1048576 := by omega
        obtain ⟨va2, vl, he, -, hyl⟩ := hv.open
        obtain rfl : vl = .slice a' y.l.length c' := by simpa using (congrArg (fun q => q.getD 7 undef) he).symm
        have HF := hid hf
        by_cases h5 : q < 1
        · have HX := hid (show r = -1 by rw [← HR.out, if_neg (by omega)])
          have h5I : (q : Int) < 1 := by omega
          clear t1 t2 t3 t4 hv hyl he hf hy hb4 e0 e1 e2 e3 e4 e5 e6
          go_wp2
          go_ret
          exact ⟨ret_int HX.out.symm, HF.out⟩
        · have h5I : ¬ (q : Int) < 1 := by omega
          obtain ⟨q1, hq1⟩ : ∃ q1 : Nat, q = q1 + 1 := ⟨q - 1, by omega⟩
          have hq1I : (q : Int) - 1 = q1 := by omega
          have hcl := ih y.l (by have := HN.out; omega) (by have := HM.out; omega) q1 (by omega) D wr _ (hyl.frame hf fun _ _ => not_false)
          have HCL := hid hcl
          by_cases h6 : cntL y.l ≤ q1
          · rw [if_pos h6] at HCL
            obtain ⟨q2, hq2⟩ : ∃ q2, q1 - cntL y.l = q2 := ⟨_, rfl⟩
            rw [hq2] at HCL
            have HB5 := hid (show cntL (l.take (k + 1)) + q2 = n by omega)
            clear t1 t2 t3 t4 hv hyl he hf hy hb4 e0 e1 e2 e3 e4 e5 e6 hcl h6 hq2 hq1
            go_wp2_with fail
            refine HCL.out.mono ?_
            rintro e w2 ⟨rfl, hf2⟩
            have HF2 := hid (HF.out.trans' hf2)
            clear hf2
            go_wp2_with fail
            go_roundw
            case rel => exact ⟨k + 1, q2, by omega, by go_num, rfl, HB5.out, HF2.out⟩
            case measure => simp [intOf]; omega
          · rw [if_neg h6] at HCL
            have HX := hid (show r = -1 by rw [← HR.out, if_neg (by omega)])
            clear t1 t2 t3 t4 hv hyl he hf hy hb4 e0 e1 e2 e3 e4 e5 e6 hcl h6 hq1
            go_wp2_with fail
            refine HCL.out.mono ?_
            rintro e w2 ⟨rfl, hf2⟩
            have HF2 := hid (HF.out.trans' hf2)
            clear hf2
            go_wp2_with fail
            go_ret
            exact ⟨ret_int HX.out.symm, HF2.out⟩
      · obtain rfl : k = l.length := by omega
        rw [List.take_length] at hb4
        have HX := hid (show r = q by rw [← HR.out, if_pos (by omega)]; omega)
        clear hb4
        go_wp2
        go_ret
        exact ⟨ret_int HX.out.symm, hf⟩
theorem dtoomany_any (l : List Nd) (hM : cntL l ≤ 4611686018427387904) (D : Nat → Prop) (w : World) (v : Value) (h : NL D w l v) :
    Calls Tryd.prog 31 #[v] w fun e w' => e = .returned (.bool (decide (4096 < cntL l))) ∧ Fr (fun _ => False) w w' := by
  have HC := hid (dmany_any (cntL l + 1) l (by omega) hM 4096 (by decide) D w v h)
  obtain ⟨a, cap, us, rfl, -⟩ := h
  by_cases hc : cntL l ≤ 4096
  · rw [if_pos hc] at HC
    have HR := hid (show decide (4096 < cntL l) = false from decide_eq_false (by omega))
    generalize decide (4096 < cntL l) = r at *
    obtain ⟨q, hq⟩ : ∃ q, 4096 - cntL l = q := ⟨_, rfl⟩
    rw [hq] at HC
    have hq0 : ¬ (q : Int) < 0 := by omega
    clear hq hc hM
    go_enter Tryd.func31, Tryd.ntmps31
    go_wp2_with fail
    refine HC.out.mono ?_
    rintro e w2 ⟨rfl, hf2⟩
    go_wp2_with fail
    go_ret
    exact ⟨ret_bool HR.out.symm, hf2⟩
  · rw [if_neg hc] at HC
    have HR := hid (show decide (4096 < cntL l) = true from decide_eq_true (by omega))
    generalize decide (4096 < cntL l) = r at *
    clear hc hM
    go_enter Tryd.func31, Tryd.ntmps31
    go_wp2_with fail
    refine HC.out.mono ?_
    rintro e w2 ⟨rfl, hf2⟩
    go_wp2_with fail
    go_ret
    exact ⟨ret_bool HR.out.symm, hf2⟩
set_option maxRecDepth 100000 in
set_option maxHeartbeats 1600000 in
theorem ddeep_any : ∀ (N : Nat) (l : List Nd), cntL l < N → cntL l ≤ 4611686018427387904 → ∀ (D : Nat → Prop) (w : World) (v : Value), NL D w l v →
    Calls Tryd.prog 32 #[v] w fun e w' => e = .returned (.int .i64 (depL l)) ∧ Fr (fun _ => False) w w' := by
  intro N
  induction N with
  | zero =>
    intro l hN hM D w v h
    omega
  | succ N ih =>
    intro l hN hM D w v h
    have hll := len_le_cnt l
    obtain ⟨a, cap, us, rfl, hc, hm, hn, hb, hi⟩ := h
    have hlI : (l.length : Int) ≤ 4611686018427387904 := by omega
    have HB := hid hb; have HI := hid hi; have HM := hid hM; have HN := hid hN
    clear hb hi hM hN hn hll hc hm
    go_enter Tryd.func32, Tryd.ntmps32
    go_wp2
    go_loopw [3, 4] (fun n i wr => ∃ k : Nat, k ≤ l.length ∧ i = .int .i64 k ∧ n = .int .i64 (depL (l.take k)) ∧ Fr (fun _ => False) w wr) (fun _ i _ => l.length - (intOf i).toNat)
    case atStart => exact ⟨0, Nat.zero_le _, rfl, by simp [depL], Fr.refl _ _⟩
    case round =>
      obtain ⟨k, hk, rfl, rfl, hf⟩ := hrel
      by_cases hlt : k < l.length
      · obtain ⟨b, o, y, va, c1, a', c', rfl, -, hy, hv, e0, e1, e2, e3, e4, e5, e6, e7⟩ := NL.elem HB.out HI.out k hlt
        have hlt' : (k : Int) < l.length := by omega
        replace e7 := hf.cell e7 not_false
        have t1 := cntL_take l k y hy
        have t2 := cntL_mem hy
        have t3 := cntL_take_le l (k + 1)
        have t4 := Nd.cnt_eq y
        obtain ⟨va2, vl, he, -, hyl⟩ := hv.open
        obtain rfl : vl = .slice a' y.l.length c' := by simpa using (congrArg (fun q => q.getD 7 undef) he).symm
        have hcl := ih y.l (by have := HN.out; omega) (by have := HM.out; omega) D wr _ (hyl.frame hf fun _ _ => not_false)
        have d1 := depL_take l k y hy
        have d2 := Nd.dep_eq y
        have d3 := depL_le' y.l
        have d4 := depL_le' (l.take k)
        have d5 := cntL_take_le l k
        have hdy : (depL y.l : Int) ≤ 4611686018427387904 := by have := HM.out; omega
        have hdk : (depL (l.take k) : Int) ≤ 4611686018427387904 := by have := HM.out; omega
        have hmx : (depL (l.take (k + 1)) : Int) = max (depL (l.take k) : Int) (1 + depL y.l) := by omega
        have HMX := hid hmx; have HF := hid hf; have HC := hid hcl
        clear d1 d2 d3 d4 d5 hmx e0 e1 e2 e3 e4 e5 e6
        clear t1 t2 t3 t4 hv hyl he hcl hf hy
        go_wp2_with fail
        refine HC.out.mono ?_
        rintro e w2 ⟨rfl, hf2⟩
        have HF2 := hid (HF.out.trans' hf2); clear hf2
        generalize depL (l.take k) = p at *
        generalize depL y.l = q at *
        by_cases hpq : (p : Int) ≤ 1 + q
        · go_wp2
          all_goals
            go_roundw
            case rel => exact ⟨k + 1, by omega, by go_num, int_eq (by rw [HMX.out]; omega), HF2.out⟩
            case measure => simp [intOf]; omega
        · go_wp2
          all_goals
            go_roundw
            case rel => exact ⟨k + 1, by omega, by go_num, int_eq (by rw [HMX.out]; omega), HF2.out⟩
            case measure => simp [intOf]; omega
      · obtain rfl : k = l.length := by omega
        go_wp2
        go_ret
        exact ⟨ret_int (by rw [List.take_length]), hf⟩
end
section
open Go.RowKit

theorem wpO_skip {P : Program} {l : List Oper} {tk : List Nat} {Q : Exit → Act → World → Prop} {S : World → Prop} {i : Nat} {r : List (Nat × Nat)} {a : Act} {w : World} {o : Oper} (hi : nth l i = some o) (hg : Region.wanted o (yielded l.toArray a.tmps) = false)
    (hS : S w) (h : wpO P tk l.toArray Q r S (a.put o.dst undef) w) : wpO P tk l.toArray Q ((i, 1) :: r) S a w := by
  unfold wpO wpOp
  simp only [(nth_spec l i).trans hi, hg]
  exact ⟨fun _ => hS, h⟩
theorem bytes0' : (⟨#[]⟩ : ByteArray).toList.isEmpty = true := by rw [ByteArray.toList_eq]; rfl
set_option maxRecDepth 100000 in
theorem dkeys_any (w : World) : Calls Tryd.prog 81 #[] w fun e w' => ∃ L v, e = .returned v ∧ Ss Tv w' v L ∧ (∀ s, s ∈ L ↔ s ∈ keysL) ∧ L.length ≤ 19 ∧ Fr (fun _ => False) w w' := by
  have hf := (Fr.refl (fun _ => False) w).alloc (.cells #[.string ⟨#[105, 102]⟩, .string ⟨#[101, 108, 115, 101, 105, 102]⟩, .string ⟨#[101, 108, 115, 101]⟩, .string ⟨#[101, 110, 100, 105, 102]⟩, .string ⟨#[102, 111, 114]⟩, .string ⟨#[105, 110]⟩, .string ⟨#[101, 110, 100, 102, 111, 114]⟩, .string ⟨#[119, 104, 105, 108, 101]⟩, .string ⟨#[101, 110, 100, 119, 104, 105, 108, 101]⟩, .string ⟨#[98, 114, 101, 97, 107]⟩, .string ⟨#[99, 111, 110, 116, 105, 110, 117, 101]⟩, .string ⟨#[114, 101, 116, 117, 114, 110]⟩, .string ⟨#[102, 111, 114, 107]⟩, .string ⟨#[101, 110, 100, 102, 111, 114, 107]⟩, .string ⟨#[116, 114, 121]⟩, .string ⟨#[101, 120, 99, 101, 112, 116]⟩, .string ⟨#[102, 105, 110, 97, 108, 108, 121]⟩, .string ⟨#[101, 110, 100, 116, 114, 121]⟩, .string ⟨#[97, 110, 121]⟩] 9)
  have hs := Ss.lit (D := Tv) (l := keysL) (heap_alloc_new w (.cells #[.string ⟨#[105, 102]⟩, .string ⟨#[101, 108, 115, 101, 105, 102]⟩, .string ⟨#[101, 108, 115, 101]⟩, .string ⟨#[101, 110, 100, 105, 102]⟩, .string ⟨#[102, 111, 114]⟩, .string ⟨#[105, 110]⟩, .string ⟨#[101, 110, 100, 102, 111, 114]⟩, .string ⟨#[119, 104, 105, 108, 101]⟩, .string ⟨#[101, 110, 100, 119, 104, 105, 108, 101]⟩, .string ⟨#[98, 114, 101, 97, 107]⟩, .string ⟨#[99, 111, 110, 116, 105, 110, 117, 101]⟩, .string ⟨#[114, 101, 116, 117, 114, 110]⟩, .string ⟨#[102, 111, 114, 107]⟩, .string ⟨#[101, 110, 100, 102, 111, 114, 107]⟩, .string ⟨#[116, 114, 121]⟩, .string ⟨#[101, 120, 99, 101, 112, 116]⟩, .string ⟨#[102, 105, 110, 97, 108, 108, 121]⟩, .string ⟨#[101, 110, 100, 116, 114, 121]⟩, .string ⟨#[97, 110, 121]⟩] 9)) rfl trivial (by decide)
  have HC := hid (rising_any keysL (by decide) (fun s hs => by
    have : ∀ s ∈ keysL, s.size ≤ 1099511627776 := by decide
    exact this s hs) Tv _ _ hs)
  have HF := hid hf
  clear hf hs
  go_enter Tryd.func81, Tryd.ntmps81
  go_wp2_with fail
  refine HC.out.mono ?_
  rintro e w2 ⟨L, v', rfl, ho, hm, hl, hf2⟩
  have HF2 := hid (HF.out.trans' hf2); have HS := hid ((Ss.own ho).mono fun _ _ _ => trivial); have HM := hid hm; have HL := hid hl
  clear ho hm hl hf2
  go_wp2_with fail
  go_ret
  exact ⟨L, _, rfl, HS.out, HM.out, HL.out, HF2.out⟩
/-- The document's named. -/
def dNamed (op : Int) (s : ByteArray) : Int :=
  if op = 2 ∨ op = 24 ∨ op = 42 ∨ op = 43 then (if pName s then 0 else 1) else if op = 50 then (if s.toList.isEmpty = false ∧ pName s = false then 1 else 0) else if s.toList.isEmpty = false then 2 else 0
theorem memB_same {s : ByteArray} {L M : List ByteArray} (h : ∀ s, s ∈ L ↔ s ∈ M) : memB s L = memB s M := by
  rw [Bool.eq_iff_iff, memB_iff, memB_iff]
  exact h s
set_option maxRecDepth 100000 in
set_option maxHeartbeats 800000 in
theorem dnamed_any (op ln vk vn : Int) (s vs : ByteArray) (va la : Value) (hs : s.size ≤ 1099511627776) (w : World) : Calls Tryd.prog 59 #[.agg #[.int .i64 op, .int .i64 ln, .string s, .int .i64 vk, .int .i64 vn, .string vs, va, la]] w fun e w' => e = .returned (.int .i64 (dNamed op s)) ∧ Fr (fun _ => False) w w' := by
  have HN := hid (fun w => disname_any s hs w)
  have HK := hid dkeys_any
  have HH := hid (fun (L : List ByteArray) (v : Value) (w : World) (hl : L.length ≤ 19) (h : Ss Tv w v L) => dholds_any s L (by omega) v w h)
  have HPN := hid (show pName s = (decide (bName s) && !memB s keysL) from rfl)
  have hf0 := (Fr.refl (fun _ => False) w).alloc (.cells #[.int .i64 op, .int .i64 ln, .string s, .int .i64 vk, .int .i64 vn, .string vs, va, la] 36)
  have hg0 := heap_alloc_new w (.cells #[.int .i64 op, .int .i64 ln, .string s, .int .i64 vk, .int .i64 vn, .string vs, va, la] 36)
  have HF0 := hid hf0
  have HSE := hid (rfl : s.toList.isEmpty = s.toList.isEmpty)
  clear hs hf0
  have hcase : (op = 2 ∨ op = 24 ∨ op = 42 ∨ op = 43) ∨ op = 50 ∨ ¬ (op = 2 ∨ op = 24 ∨ op = 42 ∨ op = 43 ∨ op = 50) := by omega
  rcases hcase with hop | hop | hop
  · have HD := hid (show dNamed op s = if pName s then 0 else 1 from if_pos hop)
    generalize hdn : dNamed op s = dn at *
    clear hdn
    generalize decide (bName s) = bn at *
    generalize hpn : pName s = pn at *
    clear hpn
    rcases hop with rfl | rfl | rfl | rfl
    all_goals
      go_enter Tryd.func59, Tryd.ntmps59
      go_upto_region 6 with fail
      generalize hW0 : w.alloc (.cells #[.int .i64 _, .int .i64 ln, .string s, .int .i64 vk, .int .i64 vn, .string vs, va, la] 36) = W0 at *
      have d2 : W0.cell? ⟨w.heap.size, 2, none⟩ = some (.string s) := by rw [cell_of_row _ _ 2 _ _ _ hg0]; rfl
      clear hW0 hg0
      refine wp_region_ord [(0, 0), (1, 0), (2, 1), (3, 0), (4, 0), (6, 0), (7, 0), (5, 1), (8, 1), (9, 0)] (fun w' => w'.cell? ⟨w.heap.size, 2, none⟩ = some (.string s)) (by kernel_rfl) (by kernel_rfl) (by kernel_rfl) rfl (fun _ _ d _ _ h => by cases d <;> exact h) d2 ?_
      iterate 2 (refine wpO_take ?_ rfl (by kernel_rfl) ?_ ?_; rotate_left; (· intro w' hS; go_simp; try with_reducible rfl); try simp only [Act.put, List.setIfInBounds_toArray, List.set_cons_zero, List.set_cons_succ])
      refine wpO_run rfl (by kernel_rfl) (fun K hK => ?_); go_simp
      refine (HN.out W0.drew).mono ?_
      rintro e w2 ⟨rfl, hf2⟩
      have d3 := hf2.cell (show W0.drew.cell? _ = _ from d2) not_false
      have HF2 := hid (HF0.out.drew.trans' hf2)
      refine hK _ _ (fun _ => d3) ?_
      clear hK K hf2
      try simp only [Act.put, List.setIfInBounds_toArray, List.set_cons_zero, List.set_cons_succ]
      cases bn
      · have HX := hid (show dn = 1 by rw [HD.out, HPN.out]; rfl)
        iterate 2 (refine wpO_take ?_ rfl (by kernel_rfl) ?_ ?_; rotate_left; (· intro w' hS; go_simp; try with_reducible rfl); try simp only [Act.put, List.setIfInBounds_toArray, List.set_cons_zero, List.set_cons_succ])
        iterate 2 (refine wpO_pass rfl (by kernel_rfl) ?_; try simp only [Act.put, List.setIfInBounds_toArray, List.set_cons_zero, List.set_cons_succ])
        (refine wpO_skip rfl (by kernel_rfl) d3 ?_; try simp only [Act.put, List.setIfInBounds_toArray, List.set_cons_zero, List.set_cons_succ])
        (refine wpO_skip rfl (by kernel_rfl) d3 ?_; try simp only [Act.put, List.setIfInBounds_toArray, List.set_cons_zero, List.set_cons_succ])
        (refine wpO_take ?_ rfl (by kernel_rfl) ?_ ?_; rotate_left; (· intro w' hS; go_simp; try with_reducible rfl); try simp only [Act.put, List.setIfInBounds_toArray, List.set_cons_zero, List.set_cons_succ])
        refine wpO_end ?_
        go_wp2_with fail
        go_ret
        exact ⟨ret_int HX.out.symm, HF2.out⟩
      · iterate 4 (refine wpO_take ?_ rfl (by kernel_rfl) ?_ ?_; rotate_left; (· intro w' hS; go_simp; try with_reducible rfl); try simp only [Act.put, List.setIfInBounds_toArray, List.set_cons_zero, List.set_cons_succ])
        refine wpO_run rfl (by kernel_rfl) (fun K hK => ?_); go_simp
        refine (HK.out w2).mono ?_
        rintro e w3 ⟨L, v3, rfl, hs3, hm3, hl3, hf3⟩
        have d4 := hf3.cell d3 not_false
        have HH3 := hid (HH.out L v3 w3 hl3 hs3)
        have HMS := hid (memB_same (s := s) hm3)
        have HF3 := hid (HF2.out.trans' hf3)
        obtain ⟨a3, c3, rfl, -⟩ := hs3
        clear hm3 hl3 hf3
        refine hK _ _ (fun _ => d4) ?_
        clear hK K
        try simp only [Act.put, List.setIfInBounds_toArray, List.set_cons_zero, List.set_cons_succ]
        refine wpO_run rfl (by kernel_rfl) (fun K hK => ?_); go_simp
        refine HH3.out.mono ?_
        rintro e w4 ⟨rfl, rfl⟩
        refine hK _ _ (fun _ => d4) ?_
        clear hK K
        try simp only [Act.put, List.setIfInBounds_toArray, List.set_cons_zero, List.set_cons_succ]
        have HX := hid (show dn = if memB s L then 1 else 0 by rw [HD.out, HPN.out, ← HMS.out]; cases memB s L <;> rfl)
        generalize memB s L = mb at *
        (refine wpO_take ?_ rfl (by kernel_rfl) ?_ ?_; rotate_left; (· intro w' hS; go_simp; try with_reducible rfl); try simp only [Act.put, List.setIfInBounds_toArray, List.set_cons_zero, List.set_cons_succ])
        refine wpO_end ?_
        cases mb
        · go_wp2_with fail
          go_ret
          exact ⟨ret_int HX.out.symm, HF3.out⟩
        · go_wp2_with fail
          go_ret
          exact ⟨ret_int HX.out.symm, HF3.out⟩
  · subst hop
    have HD := hid (show dNamed 50 s = if s.toList.isEmpty = false ∧ pName s = false then 1 else 0 from rfl)
    generalize hdn : dNamed 50 s = dn at *
    clear hdn
    generalize decide (bName s) = bn at *
    generalize hpn : pName s = pn at *
    clear hpn
    obtain ⟨se, hse⟩ : ∃ se, s.toList.isEmpty = se := ⟨_, rfl⟩
    rw [hse] at HD
    go_enter Tryd.func59, Tryd.ntmps59
    go_upto_region 10 with fail
    generalize hW0 : w.alloc (.cells #[.int .i64 50, .int .i64 ln, .string s, .int .i64 vk, .int .i64 vn, .string vs, va, la] 36) = W0 at *
    have d2 : W0.cell? ⟨w.heap.size, 2, none⟩ = some (.string s) := by rw [cell_of_row _ _ 2 _ _ _ hg0]; rfl
    clear hW0 hg0
    cases se
    · have hne : (s.toList != (⟨#[]⟩ : ByteArray).toList) = true := by
        rw [bne_iff_ne]
        intro h
        rw [h, bytes0'] at hse
        cases hse
      refine wp_region_ord [(0, 0), (1, 0), (2, 0), (3, 0), (4, 0), (5, 0), (6, 1), (7, 0), (8, 0), (10, 0), (11, 0), (9, 1), (12, 1), (13, 0), (14, 0)] (fun w' => w'.cell? ⟨w.heap.size, 2, none⟩ = some (.string s)) (by kernel_rfl) (by kernel_rfl) (by kernel_rfl) rfl (fun _ _ d _ _ h => by cases d <;> exact h) d2 ?_
      iterate 6 (refine wpO_take ?_ rfl (by kernel_rfl) ?_ ?_; rotate_left; (· intro w' hS; go_simp; try with_reducible rfl); try simp only [Act.put, List.setIfInBounds_toArray, List.set_cons_zero, List.set_cons_succ])
      refine wpO_run rfl (by kernel_rfl) (fun K hK => ?_); go_simp
      refine (HN.out W0.drew).mono ?_
      rintro e w2 ⟨rfl, hf2⟩
      have d3 := hf2.cell (show W0.drew.cell? _ = _ from d2) not_false
      have HF2 := hid (HF0.out.drew.trans' hf2)
      refine hK _ _ (fun _ => d3) ?_
      clear hK K hf2
      try simp only [Act.put, List.setIfInBounds_toArray, List.set_cons_zero, List.set_cons_succ]
      cases bn
      · have HX := hid (show dn = 1 by rw [HD.out, HPN.out]; rfl)
        iterate 2 (refine wpO_take ?_ rfl (by kernel_rfl) ?_ ?_; rotate_left; (· intro w' hS; go_simp; try with_reducible rfl); try simp only [Act.put, List.setIfInBounds_toArray, List.set_cons_zero, List.set_cons_succ])
        iterate 2 (refine wpO_pass rfl (by kernel_rfl) ?_; try simp only [Act.put, List.setIfInBounds_toArray, List.set_cons_zero, List.set_cons_succ])
        (refine wpO_skip rfl (by kernel_rfl) d3 ?_; try simp only [Act.put, List.setIfInBounds_toArray, List.set_cons_zero, List.set_cons_succ])
        (refine wpO_skip rfl (by kernel_rfl) d3 ?_; try simp only [Act.put, List.setIfInBounds_toArray, List.set_cons_zero, List.set_cons_succ])
        iterate 2 (refine wpO_take ?_ rfl (by kernel_rfl) ?_ ?_; rotate_left; (· intro w' hS; go_simp; try with_reducible rfl); try simp only [Act.put, List.setIfInBounds_toArray, List.set_cons_zero, List.set_cons_succ])
        refine wpO_end ?_
        go_wp2_with fail
        go_ret
        exact ⟨ret_int HX.out.symm, HF2.out⟩
      · iterate 4 (refine wpO_take ?_ rfl (by kernel_rfl) ?_ ?_; rotate_left; (· intro w' hS; go_simp; try with_reducible rfl); try simp only [Act.put, List.setIfInBounds_toArray, List.set_cons_zero, List.set_cons_succ])
        refine wpO_run rfl (by kernel_rfl) (fun K hK => ?_); go_simp
        refine (HK.out w2).mono ?_
        rintro e w3 ⟨L, v3, rfl, hs3, hm3, hl3, hf3⟩
        have d4 := hf3.cell d3 not_false
        have HH3 := hid (HH.out L v3 w3 hl3 hs3)
        have HMS := hid (memB_same (s := s) hm3)
        have HF3 := hid (HF2.out.trans' hf3)
        obtain ⟨a3, c3, rfl, -⟩ := hs3
        clear hm3 hl3 hf3
        refine hK _ _ (fun _ => d4) ?_
        clear hK K
        try simp only [Act.put, List.setIfInBounds_toArray, List.set_cons_zero, List.set_cons_succ]
        refine wpO_run rfl (by kernel_rfl) (fun K hK => ?_); go_simp
        refine HH3.out.mono ?_
        rintro e w4 ⟨rfl, rfl⟩
        refine hK _ _ (fun _ => d4) ?_
        clear hK K
        try simp only [Act.put, List.setIfInBounds_toArray, List.set_cons_zero, List.set_cons_succ]
        have HX := hid (show dn = if memB s L then 1 else 0 by rw [HD.out, HPN.out, ← HMS.out]; cases memB s L <;> rfl)
        generalize memB s L = mb at *
        iterate 2 (refine wpO_take ?_ rfl (by kernel_rfl) ?_ ?_; rotate_left; (· intro w' hS; go_simp; try with_reducible rfl); try simp only [Act.put, List.setIfInBounds_toArray, List.set_cons_zero, List.set_cons_succ])
        refine wpO_end ?_
        cases mb
        · go_wp2_with fail
          go_ret
          exact ⟨ret_int HX.out.symm, HF3.out⟩
        · go_wp2_with fail
          go_ret
          exact ⟨ret_int HX.out.symm, HF3.out⟩
    · have hne : (s.toList != (⟨#[]⟩ : ByteArray).toList) = false := by
        rw [bne_eq_false_iff_eq]
        have h1 := List.isEmpty_iff.1 hse
        have h2 := List.isEmpty_iff.1 bytes0'
        rw [h1, h2]
      have HX := hid (show dn = 0 by rw [HD.out]; rfl)
      go_quiet (fail)
      go_wp2_with fail
      go_ret
      exact ⟨ret_int HX.out.symm, HF0.out.drewN _⟩
  · have HD := hid (show dNamed op s = if s.toList.isEmpty = false then 2 else 0 by unfold dNamed; rw [if_neg (by omega), if_neg (by omega)])
    have q2 : (op == 2) = false := by rw [beq_eq_false_iff_ne]; omega
    have q24 : (op == 24) = false := by rw [beq_eq_false_iff_ne]; omega
    have q42 : (op == 42) = false := by rw [beq_eq_false_iff_ne]; omega
    have q43 : (op == 43) = false := by rw [beq_eq_false_iff_ne]; omega
    have q50 : (op == 50) = false := by rw [beq_eq_false_iff_ne]; omega
    generalize hdn : dNamed op s = dn at *
    clear hdn hop
    obtain ⟨se, hse⟩ : ∃ se, s.toList.isEmpty = se := ⟨_, rfl⟩
    rw [hse] at HD
    go_enter Tryd.func59, Tryd.ntmps59
    go_upto_region 13 with fail
    generalize hW0 : w.alloc (.cells #[.int .i64 op, .int .i64 ln, .string s, .int .i64 vk, .int .i64 vn, .string vs, va, la] 36) = W0 at *
    have d2 : W0.cell? ⟨w.heap.size, 2, none⟩ = some (.string s) := by rw [cell_of_row _ _ 2 _ _ _ hg0]; rfl
    clear hW0 hg0
    cases se
    · have hne : (s.toList != (⟨#[]⟩ : ByteArray).toList) = true := by
        rw [bne_iff_ne]
        intro h
        rw [h, bytes0'] at hse
        cases hse
      have HX := hid (show dn = 2 by rw [HD.out]; rfl)
      go_wp2_with fail
      go_ret
      exact ⟨ret_int HX.out.symm, HF0.out⟩
    · have hne : (s.toList != (⟨#[]⟩ : ByteArray).toList) = false := by
        rw [bne_eq_false_iff_eq]
        have h1 := List.isEmpty_iff.1 hse
        have h2 := List.isEmpty_iff.1 bytes0'
        rw [h1, h2]
      have HX := hid (show dn = 0 by rw [HD.out]; rfl)
      go_wp2_with fail
      go_ret
      exact ⟨ret_int HX.out.symm, HF0.out⟩
end
section
open Go.RowKit

theorem rW_plain {role op : Int} (i : Nat) (r : Int) (h5 : role ≠ 5) (h20 : op ≠ 20) (h26 : op ≠ 26) : rW role op i r = r := by
  unfold rW
  rw [if_neg h5, if_neg (fun h => h20 h.2.1), if_neg (fun h => h26 h.2)]
theorem getD_rep (m i : Nat) (a : Int) (h : i < m) : (List.replicate m a).getD i 0 = a := by
  simp [List.getD, List.getElem?_replicate, h]
theorem ifK_getD (n i : Nat) (h : i < n) : (ifK n).getD i 0 = if i % 2 = 0 then 0 else 6 := by
  simp [ifK, List.getD, List.getElem?_map, List.getElem?_range h]
set_option maxHeartbeats 1600000 in
theorem dPlace_eq (op role : Int) (n i : Nat) (h0 : 0 ≤ role) (h8 : role ≤ 8) (hst : pStands op role = true) (hc : pCounts op n = true) (hi : i < n) : dPlace op n (plc role) i = plc (rW role op i ((pRoles op n).getD i 0)) := by
  have h5 : role = 5 → op = 25 := fun e => by subst e; simpa [pStands] using hst
  have hl : op = 3 ∨ op = 4 ∨ op = 40 ∨ (5 ≤ op ∧ op ≤ 18) ∨ op = 22 ∨ op = 19 ∨ op = 21 ∨ op = 47 ∨ op = 1 ∨ op = 2 ∨ op = 45 ∨ op = 46 ∨ op = 26 ∨ op = 20 ∨ op = 43 ∨ op = 23 ∨ op = 28 ∨ op = 41 ∨ op = 49 ∨ op = 24 ∨ op = 25 ∨ op = 52 ∨ op = 27 ∨ op = 42 ∨ op = 44 ∨ op = 48 ∨ op = 50 ∨ op = 51 ∨ op = 29 := by
    unfold pCounts at hc
    repeat' split at hc
    all_goals first | omega | cases hc
  have e25 : ∀ {k : Int}, op = k → k ≠ 25 → role ≠ 5 := fun e hk h => hk (e ▸ h5 h)
  rcases hl with rfl | rfl | rfl | hop | rfl | rfl | rfl | rfl | rfl | rfl | rfl | rfl | rfl | rfl | rfl | rfl | rfl | rfl | rfl | rfl | rfl | rfl | rfl | rfl | rfl | rfl | rfl | rfl | rfl
  -- 3, 4, 40
  · obtain rfl : n = 1 := by simpa [pCounts] using hc
    rw [rW_plain _ _ (e25 rfl (by decide)) (by decide) (by decide)]
    obtain rfl : i = 0 := by omega
    rfl
  · obtain rfl : n = 1 := by simpa [pCounts] using hc
    rw [rW_plain _ _ (e25 rfl (by decide)) (by decide) (by decide)]
    obtain rfl : i = 0 := by omega
    rfl
  · obtain rfl : n = 1 := by simpa [pCounts] using hc
    rw [rW_plain _ _ (e25 rfl (by decide)) (by decide) (by decide)]
    obtain rfl : i = 0 := by omega
    rfl
  -- 5 to 18
  · have hn : n = 2 := by
      unfold pCounts at hc
      rw [if_neg (by omega), if_neg (by omega), if_pos (by omega)] at hc
      simpa using hc
    subst hn
    have h5' : role ≠ 5 := fun h => by have := h5 h; omega
    rw [rW_plain _ _ h5' (by omega) (by omega)]
    have hr : pRoles op 2 = List.replicate 2 0 := by unfold pRoles; rw [if_neg (by omega), if_neg (by omega), if_pos (by omega)]
    rw [hr, getD_rep 2 i 0 hi]
    unfold dPlace
    rw [if_neg (by omega), if_neg (by omega), if_neg (by omega), if_neg (by omega), if_neg (by omega), if_neg (by omega), if_neg (by omega), if_neg (by omega), if_neg (by omega), if_neg (by omega), if_neg (by omega), if_neg (by omega), if_neg (by omega), if_neg (by omega)]
    rfl
  -- 22
  · obtain rfl : n = 2 := by simpa [pCounts] using hc
    rw [rW_plain _ _ (e25 rfl (by decide)) (by decide) (by decide)]
    obtain rfl | rfl : i = 0 ∨ i = 1 := by omega
    all_goals rfl
  -- 19, 21
  · obtain rfl : n = 3 := by simpa [pCounts] using hc
    rw [rW_plain _ _ (e25 rfl (by decide)) (by decide) (by decide)]
    obtain rfl | rfl | rfl : i = 0 ∨ i = 1 ∨ i = 2 := by omega
    all_goals rfl
  · obtain rfl : n = 3 := by simpa [pCounts] using hc
    rw [rW_plain _ _ (e25 rfl (by decide)) (by decide) (by decide)]
    obtain rfl | rfl | rfl : i = 0 ∨ i = 1 ∨ i = 2 := by omega
    all_goals rfl
  -- 47
  · have hn : n ≤ 1 := by simpa [pCounts] using hc
    obtain rfl : n = 1 := by omega
    rw [rW_plain _ _ (e25 rfl (by decide)) (by decide) (by decide)]
    obtain rfl : i = 0 := by omega
    rfl
  -- 1, 2, 45, 46
  · obtain rfl : n = 0 := by simpa [pCounts] using hc
    omega
  · obtain rfl : n = 0 := by simpa [pCounts] using hc
    omega
  · obtain rfl : n = 0 := by simpa [pCounts] using hc
    omega
  · obtain rfl : n = 0 := by simpa [pCounts] using hc
    omega
  -- 26
  · obtain rfl : n = 1 := by simpa [pCounts] using hc
    obtain rfl : i = 0 := by omega
    have hr : role = 0 ∨ role = 1 ∨ role = 2 ∨ role = 3 ∨ role = 4 ∨ role = 6 ∨ role = 7 ∨ role = 8 := by have := e25 rfl (by decide); omega
    rcases hr with rfl | rfl | rfl | rfl | rfl | rfl | rfl | rfl
    all_goals rfl
  -- 20
  · obtain rfl : n = 2 := by simpa [pCounts] using hc
    have hr : role = 0 ∨ role = 1 ∨ role = 2 ∨ role = 3 ∨ role = 4 ∨ role = 6 ∨ role = 7 ∨ role = 8 := by have := e25 rfl (by decide); omega
    obtain rfl | rfl : i = 0 ∨ i = 1 := by omega
    all_goals
      rcases hr with rfl | rfl | rfl | rfl | rfl | rfl | rfl | rfl
      all_goals rfl
  -- 43
  · obtain rfl : n = 3 := by simpa [pCounts] using hc
    rw [rW_plain _ _ (e25 rfl (by decide)) (by decide) (by decide)]
    obtain rfl | rfl | rfl : i = 0 ∨ i = 1 ∨ i = 2 := by omega
    all_goals rfl
  -- 23
  · have hn : 2 ≤ n := by simpa [pCounts] using hc
    rw [rW_plain _ _ (e25 rfl (by decide)) (by decide) (by decide)]
    have hr : pRoles 23 n = List.replicate 2 0 ++ List.replicate (n - 2) 1 := rfl
    have hp : dPlace 23 n (plc role) i = if 2 ≤ i then 2 else 1 := rfl
    rw [hr, hp]
    rcases i with _ | _ | j
    · rfl
    · rfl
    · have e : (List.replicate 2 (0 : Int) ++ List.replicate (n - 2) 1).getD (j + 2) 0 = (1 : Int) := by
        show (List.replicate (n - 2) (1 : Int)).getD j 0 = 1
        exact getD_rep _ _ _ (by omega)
      rw [if_pos (by omega), e]
      rfl
  -- 28
  · have hn : 2 ≤ n := by simpa [pCounts] using hc
    rw [rW_plain _ _ (e25 rfl (by decide)) (by decide) (by decide)]
    have hr : pRoles 28 n = (List.replicate (n - 1) 3).set (n - 2) 4 ++ [0] := rfl
    have hp : dPlace 28 n (plc role) i = if (i : Int) = n - 2 then 5 else if (i : Int) < n - 2 then 4 else 1 := rfl
    rw [hr, hp]
    by_cases h : i = n - 2
    · have e : ((List.replicate (n - 1) (3 : Int)).set (n - 2) 4 ++ [0]).getD i 0 = (4 : Int) := by
        subst h
        rw [List.getD_eq_getElem?_getD, List.getElem?_append_left (by simp; omega), List.getElem?_set_self (by simp; omega)]; rfl
      rw [if_pos (by omega), e]
      rfl
    · by_cases h2 : i < n - 2
      · have e : ((List.replicate (n - 1) (3 : Int)).set (n - 2) 4 ++ [0]).getD i 0 = (3 : Int) := by
          rw [List.getD_eq_getElem?_getD, List.getElem?_append_left (by simp; omega), List.getElem?_set_ne (by omega), List.getElem?_replicate, if_pos (by omega)]; rfl
        rw [if_neg (by omega), if_pos (by omega), e]
        rfl
      · have e : ((List.replicate (n - 1) (3 : Int)).set (n - 2) 4 ++ [0]).getD i 0 = (0 : Int) := by
          rw [List.getD_eq_getElem?_getD, List.getElem?_append_right (by simp; omega)]
          simp [show i - (n - 1) = 0 by omega]
        rw [if_neg (by omega), if_neg (by omega), e]
        rfl
  -- 41
  · have hn : 2 ≤ n := by simpa [pCounts] using hc
    rw [rW_plain _ _ (e25 rfl (by decide)) (by decide) (by decide)]
    have hr : pRoles 41 n = ifL n := rfl
    have hp : dPlace 41 n (plc role) i = if i % 2 = 1 ∨ (i : Int) = n - 1 then 7 else 1 := rfl
    rw [hr, hp]
    unfold ifL
    by_cases he : n % 2 = 0
    · rw [if_pos he, ifK_getD n i hi]
      by_cases h : i % 2 = 0
      · rw [if_pos h, if_neg (by omega)]; rfl
      · rw [if_neg h, if_pos (by omega)]; rfl
    · rw [if_neg he]
      by_cases h : i = n - 1
      · have e : ((ifK n).set (n - 1) 6).getD i 0 = (6 : Int) := by
          subst h
          rw [List.getD_eq_getElem?_getD, List.getElem?_set_self (by simp; omega)]; rfl
        rw [if_pos (by omega), e]
        rfl
      · have e : ((ifK n).set (n - 1) 6).getD i 0 = (ifK n).getD i 0 := by rw [List.getD_eq_getElem?_getD, List.getElem?_set_ne (by omega), List.getD_eq_getElem?_getD]
        rw [e, ifK_getD n i hi]
        by_cases h2 : i % 2 = 0
        · rw [if_pos h2, if_neg (by omega)]; rfl
        · rw [if_neg h2, if_pos (by omega)]; rfl
  -- 49
  · have hn : 2 ≤ n := by simpa [pCounts] using hc
    rw [rW_plain _ _ (e25 rfl (by decide)) (by decide) (by decide)]
    have hr : pRoles 49 n = 6 :: List.replicate (n - 1) 8 := rfl
    have hp : dPlace 49 n (plc role) i = if 0 < i then 8 else 7 := rfl
    rw [hr, hp]
    cases i with
    | zero => rfl
    | succ j =>
      have e : ((6 : Int) :: List.replicate (n - 1) 8).getD (j + 1) 0 = (8 : Int) := getD_rep (n - 1) j 8 (by omega)
      rw [if_pos (by omega), e]
      rfl
  -- 24
  · rw [rW_plain _ _ (e25 rfl (by decide)) (by decide) (by decide)]
    have hr : pRoles 24 n = List.replicate n 1 := rfl
    rw [hr, getD_rep n i 1 hi]
    rfl
  -- 25
  · have hr : pRoles 25 n = List.replicate n 1 := rfl
    rw [hr, getD_rep n i 1 hi]
    have hr : role = 0 ∨ role = 1 ∨ role = 2 ∨ role = 3 ∨ role = 4 ∨ role = 5 ∨ role = 6 ∨ role = 7 ∨ role = 8 := by omega
    rcases hr with rfl | rfl | rfl | rfl | rfl | rfl | rfl | rfl | rfl
    all_goals rfl
  -- 52
  · rw [rW_plain _ _ (e25 rfl (by decide)) (by decide) (by decide)]
    have hr : pRoles 52 n = List.replicate n 7 := rfl
    rw [hr, getD_rep n i 7 hi]
    rfl
  -- 27
  · obtain rfl : n = 2 := by simpa [pCounts] using hc
    rw [rW_plain _ _ (e25 rfl (by decide)) (by decide) (by decide)]
    obtain rfl | rfl : i = 0 ∨ i = 1 := by omega
    all_goals rfl
  · obtain rfl : n = 2 := by simpa [pCounts] using hc
    rw [rW_plain _ _ (e25 rfl (by decide)) (by decide) (by decide)]
    obtain rfl | rfl : i = 0 ∨ i = 1 := by omega
    all_goals rfl
  · obtain rfl : n = 2 := by simpa [pCounts] using hc
    rw [rW_plain _ _ (e25 rfl (by decide)) (by decide) (by decide)]
    obtain rfl | rfl : i = 0 ∨ i = 1 := by omega
    all_goals rfl
  · obtain rfl : n = 2 := by simpa [pCounts] using hc
    rw [rW_plain _ _ (e25 rfl (by decide)) (by decide) (by decide)]
    obtain rfl | rfl : i = 0 ∨ i = 1 := by omega
    all_goals rfl
  · obtain rfl : n = 2 := by simpa [pCounts] using hc
    rw [rW_plain _ _ (e25 rfl (by decide)) (by decide) (by decide)]
    obtain rfl | rfl : i = 0 ∨ i = 1 := by omega
    all_goals rfl
  · obtain rfl : n = 2 := by simpa [pCounts] using hc
    rw [rW_plain _ _ (e25 rfl (by decide)) (by decide) (by decide)]
    obtain rfl | rfl : i = 0 ∨ i = 1 := by omega
    all_goals rfl
  -- 29
  · have hn : n = 2 ∨ n = 3 := by simpa [pCounts] using hc
    rw [rW_plain _ _ (e25 rfl (by decide)) (by decide) (by decide)]
    rcases hn with rfl | rfl
    · obtain rfl | rfl : i = 0 ∨ i = 1 := by omega
      all_goals rfl
    · obtain rfl | rfl | rfl : i = 0 ∨ i = 1 ∨ i = 2 := by omega
      all_goals rfl

/-- Is a node amiss, as the document asks it? -/
def awayB (op : Int) (loop : Bool) : Bool := (op == 45 || op == 46) && !loop
def oBad (st cn fv : Bool) (nm : Int) (aw : Bool) : Bool := !st || !cn || !fv || nm == 2 || aw
theorem pOwn_doc (x : Nd) (role : Int) (h0 : 0 ≤ role) (h8 : role ≤ 8) (loop : Bool) : pOwn x role loop = if oBad (pStands x.op role) (dCounts x.op x.l.length) (fairV x.op x.v) (dNamed x.op x.s) (awayB x.op loop) then 103 else if dNamed x.op x.s = 1 then 106 else 0 := by
  have hst := dCounts_eq x.op x.l.length role h0 h8
  have hp : pOwn x role loop = if ownBad (fair1 (pStands x.op role) loop x.op && fairV x.op x.v) (pCounts x.op x.l.length) (pNamed x.op).1 x.s.toList.isEmpty then 103 else if ownBad2 (pNamed x.op).1 (pName x.s) (pNamed x.op).2 x.s.toList.isEmpty then 106 else 0 := rfl
  rw [hp]
  have hnm : (dNamed x.op x.s = 2 ↔ (!(pNamed x.op).1 && !x.s.toList.isEmpty) = true) ∧ (dNamed x.op x.s = 1 ↔ ownBad2 (pNamed x.op).1 (pName x.s) (pNamed x.op).2 x.s.toList.isEmpty = true) := by
    unfold dNamed pNamed ownBad2
    by_cases h1 : x.op = 2 ∨ x.op = 24 ∨ x.op = 42 ∨ x.op = 43
    · rw [if_pos h1, if_pos h1]
      cases pName x.s <;> cases x.s.toList.isEmpty <;> simp
    · rw [if_neg h1, if_neg h1]
      by_cases h2 : x.op = 50
      · rw [if_pos h2, if_pos h2]
        cases pName x.s <;> cases x.s.toList.isEmpty <;> simp
      · rw [if_neg h2, if_neg h2]
        cases x.s.toList.isEmpty <;> simp
  obtain ⟨hn2, hn1⟩ := hnm
  have haw : fair1 (pStands x.op role) loop x.op = (pStands x.op role && !awayB x.op loop) := by
    unfold fair1 awayB
    cases loop
    · cases h45 : (x.op == 45) <;> cases h46 : (x.op == 46) <;> simp [bne, h45, h46]
    · simp
  rw [haw]
  have hob : (oBad (pStands x.op role) (dCounts x.op x.l.length) (fairV x.op x.v) (dNamed x.op x.s) (awayB x.op loop)) = ownBad (pStands x.op role && !awayB x.op loop && fairV x.op x.v) (pCounts x.op x.l.length) (pNamed x.op).1 x.s.toList.isEmpty := by
    have hb2 : (dNamed x.op x.s == 2) = (!(pNamed x.op).1 && !x.s.toList.isEmpty) := by
      rw [Bool.eq_iff_iff, beq_iff_eq]
      exact hn2
    unfold oBad ownBad
    rw [hb2]
    cases hs : pStands x.op role
    · simp
    · rw [hst hs]
      cases pCounts x.op x.l.length <;> cases fairV x.op x.v <;> cases awayB x.op loop <;> simp
  rw [hob]
  by_cases hb : ownBad2 (pNamed x.op).1 (pName x.s) (pNamed x.op).2 x.s.toList.isEmpty = true
  · rw [if_pos (hn1.2 hb), if_pos hb]
  · rw [if_neg (fun h => hb (hn1.1 h)), if_neg hb]

/-- A loop's flag, as the document gives it to all that a node has. -/
def dLoop (op : Int) (loop : Bool) : Bool := if op = 42 ∨ op = 43 ∨ op = 44 then true else if op = 48 then false else loop
theorem expr_op {op role : Int} (h0 : 0 ≤ role) (h5 : role ≤ 5) (h : pStands op role = true) : 1 ≤ op ∧ op ≤ 29 := by
  have hr : role = 0 ∨ role = 1 ∨ role = 2 ∨ role = 3 ∨ role = 4 ∨ role = 5 := by omega
  rcases hr with rfl | rfl | rfl | rfl | rfl | rfl
  all_goals simp [pStands, isExpr] at h
  all_goals omega
def RangeOk5 (l : List Int) : Prop := ∀ r ∈ l, 0 ≤ r ∧ r ≤ 5
theorem RangeOk5.ite {c : Prop} [Decidable c] {a b : List Int} (ha : RangeOk5 a) (hb : RangeOk5 b) : RangeOk5 (if c then a else b) := by
  split
  · exact ha
  · exact hb
theorem RangeOk5.rep (n : Nat) {a : Int} (h0 : 0 ≤ a) (h8 : a ≤ 5) : RangeOk5 (List.replicate n a) := fun r hr => by rw [(List.mem_replicate.1 hr).2]; exact ⟨h0, h8⟩
theorem RangeOk5.append {a b : List Int} (ha : RangeOk5 a) (hb : RangeOk5 b) : RangeOk5 (a ++ b) := fun r hr => (List.mem_append.1 hr).elim (ha r) (hb r)
theorem RangeOk5.set {a : List Int} (ha : RangeOk5 a) (i : Nat) {x : Int} (h0 : 0 ≤ x) (h8 : x ≤ 5) : RangeOk5 (a.set i x) := fun r hr => (List.mem_or_eq_of_mem_set hr).elim (ha r) fun e => by rw [e]; exact ⟨h0, h8⟩
theorem RangeOk5.take {a : List Int} (ha : RangeOk5 a) (n : Nat) : RangeOk5 (a.take n) := fun r hr => ha r (List.mem_of_mem_take hr)
theorem RangeOk5.nil : RangeOk5 [] := fun r hr => by cases hr
theorem RangeOk5.cons {a : Int} {l : List Int} (h0 : 0 ≤ a) (h8 : a ≤ 5) (h : RangeOk5 l) : RangeOk5 (a :: l) := fun r hr => by
  rcases List.mem_cons.1 hr with rfl | h'
  · exact ⟨h0, h8⟩
  · exact h r h'
theorem expr_roles (op : Int) (n : Nat) (h1 : 1 ≤ op) (h2 : op ≤ 29) : ∀ r ∈ pRoles op n, 0 ≤ r ∧ r ≤ 5 := by
  have h : RangeOk5 (pRoles op n) := by
    unfold pRoles
    have n41 : ¬ op = 41 := by omega
    have n49 : ¬ op = 49 := by omega
    have n43 : ¬ op = 43 := by omega
    have n42 : ¬ (op = 42 ∨ op = 44 ∨ op = 48) := by omega
    have n50 : ¬ op = 50 := by omega
    have n51 : ¬ op = 51 := by omega
    have n52 : ¬ op = 52 := by omega
    rw [if_neg n43, if_neg n41, if_neg n49, if_neg n52, if_neg n42, if_neg n50, if_neg n51]
    repeat' first | exact RangeOk5.nil | refine RangeOk5.ite ?_ ?_ | refine RangeOk5.rep _ (by decide) (by decide) | refine RangeOk5.append ?_ ?_ | refine RangeOk5.set ?_ _ (by decide) (by decide) | refine RangeOk5.take ?_ _ | refine RangeOk5.cons (by decide) (by decide) ?_
  exact h
theorem rW_expr {role op : Int} {i : Nat} {r : Int} (h0 : 0 ≤ r) (h5 : r ≤ 5) : 0 ≤ rW role op i r ∧ rW role op i r ≤ 5 := by
  unfold rW
  split
  · omega
  split
  · omega
  split <;> omega
mutual
/-- Where no statement can be, the loop's flag is nothing. -/
theorem walk_flag : ∀ (x : Nd) (role : Int) (lp : Bool), 0 ≤ role → role ≤ 5 → pWalk x role lp = pWalk x role true
  | .mk op ln s v l, role, lp, h0, h5 => by
    have hown : pOwn (.mk op ln s v l) role lp = pOwn (.mk op ln s v l) role true := by
      have hf : fair1 (pStands op role) lp op = fair1 (pStands op role) true op := by
        unfold fair1
        cases hs : pStands op role
        · rfl
        · have := expr_op h0 h5 hs
          have e1 : (op != 45) = true := by rw [bne_iff_ne]; omega
          have e2 : (op != 46) = true := by rw [bne_iff_ne]; omega
          rw [e1, e2]
          cases lp <;> rfl
      show (if ownBad (fair1 (pStands op role) lp op && fairV op v) (pCounts op l.length) (pNamed op).1 s.toList.isEmpty then 103 else if ownBad2 (pNamed op).1 (pName s) (pNamed op).2 s.toList.isEmpty then 106 else 0) = _
      rw [hf]
      rfl
    rw [pWalk, pWalk, hown]
    by_cases hz : pOwn (.mk op ln s v l) role true = 0
    · rw [if_pos hz, if_pos hz]
      have hs : pStands op role = true := by
        cases hs : pStands op role
        · exfalso
          have : pOwn (.mk op ln s v l) role true = if ownBad (fair1 (pStands op role) true op && fairV op v) (pCounts op l.length) (pNamed op).1 s.toList.isEmpty then 103 else if ownBad2 (pNamed op).1 (pName s) (pNamed op).2 s.toList.isEmpty then 106 else 0 := rfl
          rw [this, hs] at hz
          simp [fair1, ownBad] at hz
        · rfl
      have ho := expr_op h0 h5 hs
      exact walkL_flag l op role lp true (pRoles op l.length) 0 ho.1 ho.2 (expr_roles op _ ho.1 ho.2)
    · rw [if_neg hz, if_neg hz]
theorem walkL_flag : ∀ (l : List Nd) (op role : Int) (lp lq : Bool) (R : List Int) (i : Nat), 1 ≤ op → op ≤ 29 → (∀ r ∈ R, 0 ≤ r ∧ r ≤ 5) → pWalkL op role lp R i l = pWalkL op role lq R i l
  | [], op, role, lp, lq, R, i, h1, h2, hR => by rw [pWalkL, pWalkL]
  | y :: r, op, role, lp, lq, R, i, h1, h2, hR => by
    have hrr : 0 ≤ R.getD i 0 ∧ R.getD i 0 ≤ 5 := by
      by_cases h : i < R.length
      · have : R.getD i 0 = R[i] := by simp [List.getD, h]
        rw [this]
        exact hR _ (List.getElem_mem h)
      · simp [List.getD, List.getElem?_eq_none (Nat.le_of_not_lt h)]
    have hw := rW_expr (role := role) (op := op) (i := i) hrr.1 hrr.2
    have e1 := walk_flag y (rW role op i (R.getD i 0)) (inW op lp (rW role op i (R.getD i 0))) hw.1 hw.2
    have e2 := walk_flag y (rW role op i (R.getD i 0)) (inW op lq (rW role op i (R.getD i 0))) hw.1 hw.2
    rw [pWalkL_cons, pWalkL_cons, e1, e2, walkL_flag r op role lp lq R (i + 1) h1 h2 hR]
end
end
section
open Go.RowKit

theorem svs_none (a : Option Addr) (n c : Nat) (hn : n ≤ 9223372036854775807) (w : World) : Calls Tryd.prog 77 #[.slice a n c, .slice none 0 0] w fun e w' => e = .returned (.bool (decide (n = 0))) ∧ w = w' := by
  by_cases h : n = 0
  · subst h
    go_enter Tryd.func77, Tryd.ntmps77
    go_wp2
    go_loop [5] (fun i => i = .int .i64 0) (fun _ => 0)
    case atStart => rfl
    case round =>
      subst hrel
      go_wp2
      go_ret
      exact ⟨rfl, rfl⟩
  · have hq : ((n : Int) != 0) = true := by simp; omega
    have HR := hid (show decide (n = 0) = false from decide_eq_false h)
    generalize decide (n = 0) = r at *
    clear h
    go_enter Tryd.func77, Tryd.ntmps77
    go_wp2
    go_ret
    exact ⟨ret_bool HR.out.symm, rfl⟩
set_option maxHeartbeats 1600000 in
theorem sv_none (k n : Int) (s : ByteArray) (a : Option Addr) (m c : Nat) (hm : m ≤ 9223372036854775807) (w : World) : Calls Tryd.prog 57 #[.agg #[.int .i64 k, .int .i64 n, .string s, .slice a m c], .agg #[.int .i64 0, .int .i64 0, .string ⟨#[]⟩, .slice none 0 0]] w fun e w' => e = .returned (.bool (k == 0 && n == 0 && s.toList.isEmpty && decide (m = 0))) ∧ Fr (fun _ => False) w w' := by
  have HC := hid (fun w => svs_none a m c hm w)
  obtain ⟨r, hr⟩ : ∃ r, (k == 0 && n == 0 && s.toList.isEmpty && decide (m = 0)) = r := ⟨_, rfl⟩
  rw [hr]
  have HR := hid hr
  clear hr hm
  generalize decide (m = 0) = b at *
  have hF : Fr (fun _ => False) w ((w.alloc (.cells #[.int .i64 k, .int .i64 n, .string s, .slice a m c] 34)).alloc (.cells #[.int .i64 0, .int .i64 0, .string ⟨#[]⟩, .slice none 0 0] 34)) := ((Fr.refl _ _).alloc _).alloc _
  have hb2 : ((w.alloc (.cells #[.int .i64 k, .int .i64 n, .string s, .slice a m c] 34)).alloc (.cells #[.int .i64 0, .int .i64 0, .string ⟨#[]⟩, .slice none 0 0] 34)).heap[w.heap.size]? = some (.cells #[.int .i64 k, .int .i64 n, .string s, .slice a m c] 34) := ((Fr.refl (fun _ => False) _).alloc _).heap (heap_alloc_new w _) not_false
  have hb3 : ((w.alloc (.cells #[.int .i64 k, .int .i64 n, .string s, .slice a m c] 34)).alloc (.cells #[.int .i64 0, .int .i64 0, .string ⟨#[]⟩, .slice none 0 0] 34)).heap[w.heap.size + 1]? = some (.cells #[.int .i64 0, .int .i64 0, .string ⟨#[]⟩, .slice none 0 0] 34) := by
    have := heap_alloc_new (w.alloc (.cells #[.int .i64 k, .int .i64 n, .string s, .slice a m c] 34)) (.cells #[.int .i64 0, .int .i64 0, .string ⟨#[]⟩, .slice none 0 0] 34)
    simpa using this
  go_enter Tryd.func57, Tryd.ntmps57
  go_upto_region 1 with fail
  generalize (w.alloc (.cells #[.int .i64 k, .int .i64 n, .string s, .slice a m c] 34)).alloc (.cells #[.int .i64 0, .int .i64 0, .string ⟨#[]⟩, .slice none 0 0] 34) = W at *
  have d0 : W.cell? ⟨w.heap.size, 0, none⟩ = some (.int .i64 k) := by rw [cell_of_row W _ 0 _ _ _ hb2]; rfl
  have d1 : W.cell? ⟨w.heap.size, 1, none⟩ = some (.int .i64 n) := by rw [cell_of_row W _ 1 _ _ _ hb2]; rfl
  have d2 : W.cell? ⟨w.heap.size, 2, none⟩ = some (.string s) := by rw [cell_of_row W _ 2 _ _ _ hb2]; rfl
  have d3 : W.cell? ⟨w.heap.size, 3, none⟩ = some (.slice a m c) := by rw [cell_of_row W _ 3 _ _ _ hb2]; rfl
  have g0 : W.cell? ⟨w.heap.size + 1, 0, none⟩ = some (.int .i64 0) := by rw [cell_of_row W _ 0 _ _ _ hb3]; rfl
  have g1 : W.cell? ⟨w.heap.size + 1, 1, none⟩ = some (.int .i64 0) := by rw [cell_of_row W _ 1 _ _ _ hb3]; rfl
  have g2 : W.cell? ⟨w.heap.size + 1, 2, none⟩ = some (.string ⟨#[]⟩) := by rw [cell_of_row W _ 2 _ _ _ hb3]; rfl
  have g3 : W.cell? ⟨w.heap.size + 1, 3, none⟩ = some (.slice none 0 0) := by rw [cell_of_row W _ 3 _ _ _ hb3]; rfl
  have HF := hid hF
  clear hF hb2 hb3
  go_wp2_with fail
  refine (HC.out W).mono ?_
  rintro e w2 ⟨rfl, rfl⟩
  cases b
  · have HX := hid (show r = false by rw [← HR.out, Bool.and_false])
    go_wp2_with fail
    go_ret
    exact ⟨ret_bool HX.out.symm, HF.out⟩
  cases hk : (k == 0)
  · have HX := hid (show r = false by rw [← HR.out, hk]; rfl)
    go_wp2_with fail
    go_ret
    exact ⟨ret_bool HX.out.symm, HF.out⟩
  cases hn : (n == 0)
  · have HX := hid (show r = false by rw [← HR.out, hk, hn]; rfl)
    go_wp2_with fail
    go_ret
    exact ⟨ret_bool HX.out.symm, HF.out⟩
  have HX := hid (show r = s.toList.isEmpty by rw [← HR.out, hk, hn]; simp)
  go_wp2_with fail
  go_ret
  exact ⟨ret_bool HX.out.symm, HF.out⟩
theorem noV_eq (v : V) : noV v = (v.k == 0 && v.n == 0 && v.s.toList.isEmpty && decide (v.l.length = 0)) := rfl
end
end Go.Proofs.YtbegahbagnflnaaDoor
