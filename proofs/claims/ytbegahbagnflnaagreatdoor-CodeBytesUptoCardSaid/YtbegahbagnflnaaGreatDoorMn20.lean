import Derived.Test.YtbegahbagnflnaaGreatDoorMn19
import Derived.Test.YtbegahbagnflnaaGreatDoorMn06
import Derived.Test.YtbegahbagnflnaaGreatDoorMn07
set_option linter.unusedSimpArgs false
set_option linter.unusedVariables false
set_option linter.unnecessarySimpa false
namespace Go.Proofs.YtbegahbagnflnaaGreatDoor
section
open Go.RowKit
theorem clone_any (D : Nat → Prop) (v : Value) (l : List UInt8) (w : World) (hB : Bs D w v l) (hl : l.length ≤ 1073741824) :
  Calls Tryz.prog 54 #[v] w fun e w' => ∃ v', e = .returned v' ∧ OB w.heap.size w' v' l ∧ Fr (fun _ => False) w w' := by
 obtain ⟨a, c, rfl, hlc, hcm, hk⟩ := hB
 cases a with
 | none =>
  have h0 : l = [] := by
   cases l with
   | nil => rfl
   | cons x r => obtain ⟨_, _, e, _⟩ := hk 0 (by simp); cases e
  subst h0
  clear hk
  have hq : (binOp .eql 30 (.slice none 0 c) (.slice none 0 0)).run Tryz.prog w = .ok (.bool true) w := Lib.run_eql_slice_nil _ _ _ _ _ _ _ _ Tryz.underlying30
  go_enter Tryz.func54, Tryz.ntmps54
  go_wp2
  go_ret
  exact ⟨_, rfl, World.ownsRow_nil _ _ _ _, Fr.refl _ _⟩
 | some ad =>
  have hc : ∀ j, j < l.length → ∃ b o, (some ad : Option Addr) = some ⟨b, o, none⟩ ∧ (w.alloc (.cells #[] 5)).cell? ⟨b, o + j, none⟩ = (bV l)[j]? := fun j hj => by
   obtain ⟨b, o, e, _, hc⟩ := hk j hj
   refine ⟨b, o, e, ?_⟩
   rw [alloc_cell _ hc]
   simp [bV, List.getD, hj]
  have ho : (w.alloc (.cells #[] 5)).ownsRow w.heap.size 5 1 (.slice (some ⟨w.heap.size, 0, none⟩) 0 0) 0 [] :=
   ⟨rfl, .inr ⟨w.heap.size, 0, #[], rfl, Nat.le_refl _, heap_alloc_new w _, by simp, by simp, by simp, by simp⟩⟩
  have hF := (Fr.refl (fun _ => False) w).alloc (.cells #[] 5)
  have h1 : ∀ u ∈ bV l, u.oneCell' = true := by
   intro u hu
   simp only [bV, List.mem_map] at hu
   obtain ⟨_, _, rfl⟩ := hu
   rfl
  have HC := hid hc
  have HO := hid ho
  have HF := hid hF
  have H1 := hid h1
  clear hk hc ho hF h1
  have hq : (binOp .eql 30 (.slice (some ad) l.length c) (.slice none 0 0)).run Tryz.prog w = .ok (.bool false) w := Lib.run_eql_slice_nil _ _ _ _ _ _ _ _ Tryz.underlying30
  go_enter Tryz.func54, Tryz.ntmps54
  go_wp2_with (at_builtin; go_must (refine wpList_appendN rfl (.tmp 5) (.tmp 6) 30 rfl 5 (.int .u8 0) 1 Tryz.underlying30 Tryz.info_byte rfl (.slice (some ⟨w.heap.size, 0, none⟩) 0 0) rfl w.heap.size 0 [] HO.out (some ad) l.length c (bV l) rfl (by simp) (fun h => by cases h) HC.out H1.out (by omega) (by decide) (by simp) ?_))
  intro v' w' ho' hf' _
  have HR := hid (OB.fr (l := []) HF.out HO.out hf')
  have HO' := hid ho'
  clear ho' hf'
  go_wp2
  go_ret
  refine ⟨v', rfl, ?_, HR.out⟩
  have := HO'.out
  simpa [OB, bV] using this
theorem OB.snoc {base : Nat} {w : World} {v : Value} {l m : List UInt8} (h : w.ownsRow base 5 1 v (l.length + m.length) (bV l ++ bV m)) : OB base w v (l ++ m) := by
 simpa [OB, bV] using h
theorem bytes_any (D : Nat → Prop) (v : Value) (l : List UInt8) (w : World) (hB : Bs D w v l) (hl : l.length ≤ 1073741824) :
  Calls Tryz.prog 16 #[v] w fun e w' => ∃ v', e = .returned v' ∧ OB w.heap.size w' v' l ∧ Fr (fun _ => False) w w' := by
 obtain ⟨a, c, rfl, hlc, hcm, hk⟩ := hB
 have hm' : l.length ≤ 1073741824 := hl
 have HK := hid hk
 clear hk
 obtain ⟨ii, i1, i2, i3, i4⟩ := info_parts Tryz.info_byte
 go_enter Tryz.func16, Tryz.ntmps16
 go_wp2_with (at_make; refine wpList_make_own _ rfl _ _ 30 rfl w.heap.size 5 ii (.int .u8 0) 1 Tryz.underlying30 i1 i2 i3 .i64 .i64 _ l.length rfl rfl rfl (by rw [i4]; omega) (by unfold maxLen; omega) (Nat.le_refl _) ?_; intro W hown0 hgrow0)
 have hF0 : Fr (fun _ => False) w W := (Fr.of_grownBy hgrow0).mono (fun _ _ e => by cases e)
 have HF0 := hid hF0; have HO0 := hid hown0
 clear hF0 hown0 hgrow0 i1 i2 i3 i4
 go_loopw [3, 4] (fun v i wr => ∃ k : Nat, k ≤ l.length ∧ i = .int .i64 k ∧ OB w.heap.size wr v (l.take k) ∧ Fr (fun _ => False) w wr) (fun _ i _ => l.length - (intOf i).toNat)
 case atStart => exact ⟨0, Nat.zero_le _, rfl, by rw [List.take_zero]; exact HO0.out, HF0.out⟩
 case round =>
  clear HO0 HF0
  obtain ⟨k, hk, rfl, hO, hf⟩ := hrel
  by_cases hlt : k < l.length
  ·obtain ⟨b, o, rfl, hDb, hcw⟩ := HK.out k hlt
   have hcr := hf.cell hcw not_false
   have ht := take_snoc l k 0 hlt
   have htl : (l.take k).length = k := by simp; omega
   have hn1 : (l.take k).length + 1 ≤ 1099511627776 := by omega
   generalize l.getD k 0 = ch at *
   have hbs : w.heap.size ≤ (wr.alloc (.cells #[.int .u8 ch.toNat] 5)).heap.size := by have := hf.size; simp; omega
   have hown := World.ownsRow.alloc hO (.cells #[.int .u8 ch.toNat] 5)
   have hc1 := cell_new1 wr (.int .u8 ch.toNat) 5 (0, 0)
   have HT := hid ht; have HTL := hid htl; have HO := hid hO; have HF := hid hf; have HOW := hid hown; have HC1 := hid hc1; have HBS := hid hbs; have HN1 := hid hn1
   clear ht htl hO hf hcw hown hc1 hbs hn1
   go_wp2_with (at_builtin; go_must (refine wpList_append1 rfl (.tmp 14) (.tmp 19) 30 rfl 5 (.int .u8 0) 1 Tryz.underlying30 Tryz.info_byte rfl _ rfl w.heap.size (l.take k).length (bV (l.take k)) HOW.out wr.heap.size 1 (.int .u8 ch.toNat) rfl HC1.out rfl HN1.out (by decide) HBS.out ?_))
   intro g cap w1 ho hf1 _
   have hF1 := OB.fr (HF.out.alloc (.cells #[.int .u8 ch.toNat] 5)) HOW.out hf1
   have hO1 : OB w.heap.size w1 (.slice (some ⟨g, 0, none⟩) (k + 1) cap) (l.take k ++ [ch]) := OB.snoc (by rw [HTL.out]; exact ho)
   rw [← HT.out] at hO1
   have HF1 := hid hF1; have HO1 := hid hO1
   clear ho hf1 hF1 hO1
   go_wp2
   go_roundw
   case rel => exact ⟨k + 1, by omega, by go_num, HO1.out, HF1.out⟩
   case measure => simp [intOf]; omega
  ·obtain rfl : k = l.length := by omega
   rw [List.take_length] at hO
   have HO := hid hO; have HF := hid hf
   clear hO hf
   go_wp2
   go_ret
   exact ⟨_, rfl, HO.out, HF.out⟩
theorem seal_len (l : List UInt8) : (l ++ le4 (sumB l).toNat).length = l.length + 4 := by simp
def sealB (l : List UInt8) : List UInt8 := l ++ le4 (sumB l).toNat
theorem seal_any (D : Nat → Prop) (v : Value) (l : List UInt8) (w : World) (hB : Bs D w v l) (hl : l.length ≤ 1073741824) :
  Calls Tryz.prog 29 #[v] w fun e w' => ∃ v', e = .returned v' ∧ OB w.heap.size w' v' (sealB l) ∧ Fr (fun _ => False) w w' := by
 have HB := hid hB
 clear hB
 go_enter Tryz.func29, Tryz.ntmps29
 go_wp2_with fail
 refine (clone_any D v l w HB.out hl).mono ?_
 rintro e w1 ⟨v1, rfl, ho1, hf1⟩
 have HO1 := hid ho1; have HF1 := hid hf1
 clear ho1 hf1
 go_wp2_with fail
 refine (sum_any D v l w1 (HB.out.frame HF1.out (fun _ _ => not_false))).mono ?_
 rintro e w2 ⟨rfl, hf2⟩
 have HF2 := hid hf2
 clear hf2
 go_wp2_with fail
 refine (little_any w.heap.size v1 l (sumB l).toNat w2 (HF2.out.own HO1.out (fun _ _ => not_false)) (sumB l).isLt hl (by have := HF1.out.size; have := HF2.out.size; omega)).mono ?_
 rintro e w3 ⟨v3, rfl, ho3, hf3⟩
 have HO3 := hid ho3
 have HF3 := hid (OB.fr (HF1.out.trans' HF2.out) (HF2.out.own HO1.out (fun _ _ => not_false)) hf3)
 clear ho3 hf3
 go_wp2_with fail
 go_ret
 exact ⟨_, rfl, HO3.out, HF3.out⟩
end
section
open Go.RowKit
def openB (l : List UInt8) : List UInt8 × Nat :=
 if l.length < 4 then ([], 101) else if n4 (l.drop (l.length - 4)) = (sumB (l.take (l.length - 4))).toNat then (l.take (l.length - 4), 0) else ([], 102)
theorem own_baseF {w : World} {b b' e size n : Nat} {v : Value} {xs : List Value} (h : w.ownsRow b e size v n xs) (hb : b' ≤ b) : w.ownsRow b' e size v n xs := by
 refine ⟨h.1, h.2.imp id ?_⟩
 rintro ⟨g, cap, cur, h1, h2, r⟩
 exact ⟨g, cap, cur, h1, Nat.le_trans hb h2, r⟩
theorem Bs.from {D : Nat → Prop} {w : World} {b o c : Nat} {l : List UInt8} (h : Bs D w (.slice (some ⟨b, o, none⟩) l.length c) l) (i : Nat) (hi : i < l.length) : Bs D w (.slice (some ⟨b, o + i, none⟩) (l.length - i) (c - i)) (l.drop i) := by
 have h0 := h
 obtain ⟨a0, c0, e, h1, h2, _⟩ := h0
 simp only [Value.slice.injEq] at e
 obtain ⟨rfl, _, rfl⟩ := e
 have := Bs.sub (a' := some ⟨b, o + i, none⟩) (c' := c - i) (len' := l.length - i) h i l.length (by omega) (Nat.le_refl _) rfl rfl (by rw [if_neg (by omega)]; simp only [Option.map_some]; exact congrArg some (by unfold Addr.add; split <;> simp_all))
 rwa [List.take_length] at this
theorem Bs.upto {D : Nat → Prop} {w : World} {a : Option Addr} {c : Nat} {l : List UInt8} (h : Bs D w (.slice a l.length c) l) (i : Nat) (hi : i ≤ l.length) : Bs D w (.slice a i c) (l.take i) := by
 obtain ⟨a0, c0, e, h1, h2, hk⟩ := h
 simp only [Value.slice.injEq] at e
 obtain ⟨rfl, _, rfl⟩ := e
 refine ⟨a, c, by simp [Nat.min_eq_left hi], by simp; omega, h2, fun k hk' => ?_⟩
 have hki : k < i := by simp at hk'; omega
 obtain ⟨b, o, e, hD, hc⟩ := hk k (by omega)
 refine ⟨b, o, e, hD, ?_⟩
 rw [hc]
 simp [List.getD, List.getElem?_take, hki]
theorem open_any (D : Nat → Prop) (pa : Nat → Addr) (v : Value) (l : List UInt8) (w : World) (hB : Bs D w v l) (hl : l.length ≤ 1073741824) (hE : Sents w pa) :
  Calls Tryz.prog 60 #[v] w fun e w' => ∃ v', e = .returned (.tuple #[v', errV pa (openB l).2]) ∧ OB w.heap.size w' v' (openB l).1 ∧ Fr (fun _ => False) w w' := by
 have hB0 := hB
 obtain ⟨a, c, rfl, hlc, hcm, hk⟩ := hB
 have e0 : w.cell? ⟨4, 0, none⟩ = some (.iface 200 (.pointer (some (pa 0)))) := hE 0 (by decide)
 have e1 : w.cell? ⟨1, 0, none⟩ = some (.iface 200 (.pointer (some (pa 1)))) := hE 1 (by decide)
 by_cases h4 : l.length < 4
 ·have hr : openB l = ([], 101) := by simp [openB, h4]
  rw [hr]
  have hm : decide ((l.length : Int) - 4 < 0) = true := by simp; omega
  have HH := hid hr
  clear hE hB0 hk hr
  go_enter Tryz.func60, Tryz.ntmps60
  go_wp2_with fail
  go_quiet (fail)
  go_wp2
  go_ret2
  exact ⟨_, rfl, World.ownsRow_nil _ _ _ _, (Fr.refl _ _).drewN _⟩
 ·obtain ⟨n, hn⟩ : ∃ n, l.length = n + 4 := ⟨l.length - 4, by omega⟩
  obtain ⟨b, o, rfl, _, _⟩ := hk 0 (by omega)
  clear hk
  have hb1 := Bs.from hB0 n (by omega)
  have hb2 := Bs.upto hB0 n (by omega)
  have hop : openB l = if n4 (l.drop n) = (sumB (l.take n)).toNat then (l.take n, 0) else ([], 102) := by
   unfold openB
   rw [if_neg h4, show l.length - 4 = n by omega]
  rw [hn] at hb1 ⊢
  rw [show n + 4 - n = 4 by omega] at hb1
  have hd4 : 4 ≤ (l.drop n).length := by simp; omega
  have htl : (l.take n).length ≤ 1073741824 := by simp; omega
  have hnb : n ≤ 1073741824 := by omega
  have hnc : n + 4 ≤ c := by omega
  unfold maxLen at hcm
  have hcn : ¬ c = n := by omega
  have hle : (n : Int) ≤ (n : Int) + 4 := by omega
  have hlc2 : n ≤ c := by omega
  have hlo := n4_lt (l.drop n)
  generalize hD : l.drop n = ld at *
  generalize hT : l.take n = lt at *
  generalize hx : n4 ld = x at *
  have hHX := hid hx; have HO := hid hop; have HB1 := hid hb1; have HB2 := hid hb2; have HDD := hid hD; have HTT := hid hT; have HN := hid hn; have HE := hid hE; have HB0 := hid hB0
  clear hx hop hb1 hb2 hD hT hn hE hB0
  go_enter Tryz.func60, Tryz.ntmps60
  go_upto_region 4 with fail
  refine wp_region_cls (fun w' => Fr (fun _ => False) w w') (by kernel_rfl) (by kernel_rfl) (Fr.refl _ _).drew ?_
  (refine q_take ?_ (by kernel_rfl) ?_ ?_; rotate_left; (· intro w' hS; go_simp; try with_reducible rfl); (try simp only [Act.put, List.setIfInBounds_toArray, List.set_cons_zero, List.set_cons_succ]))
  (refine q_take ?_ (by kernel_rfl) ?_ ?_; rotate_left; (· intro w' hS; go_simp; try with_reducible rfl); (try simp only [Act.put, List.setIfInBounds_toArray, List.set_cons_zero, List.set_cons_succ]))
  (refine q_take ?_ (by kernel_rfl) ?_ ?_; rotate_left; (· intro w' hS; go_simp; try with_reducible rfl); (try simp only [Act.put, List.setIfInBounds_toArray, List.set_cons_zero, List.set_cons_succ]))
  (refine q_call ?_ ?_ (by kernel_rfl) ?_ ?_; rotate_left 2; (· intro w' hS; go_simp; first | with_reducible rfl | (constructor <;> with_reducible rfl)); (refine ⟨_, fun w' hw => (fnumber_any D _ ld w' (HB1.out.frame hw (fun _ _ => not_false)) hd4).mono fun _ _ h => ⟨by rw [h.1, hHX.out], by obtain ⟨n, rfl⟩ := h.2; exact hw.drewN n⟩, ?_⟩); (try simp only [Act.put, List.setIfInBounds_toArray, List.set_cons_zero, List.set_cons_succ]))
  (refine q_take ?_ (by kernel_rfl) ?_ ?_; rotate_left; (· intro w' hS; go_simp; try with_reducible rfl); (try simp only [Act.put, List.setIfInBounds_toArray, List.set_cons_zero, List.set_cons_succ]))
  (refine q_take ?_ (by kernel_rfl) ?_ ?_; rotate_left; (· intro w' hS; go_simp; try with_reducible rfl); (try simp only [Act.put, List.setIfInBounds_toArray, List.set_cons_zero, List.set_cons_succ]))
  (refine q_take ?_ (by kernel_rfl) ?_ ?_; rotate_left; (· intro w' hS; go_simp; try with_reducible rfl); (try simp only [Act.put, List.setIfInBounds_toArray, List.set_cons_zero, List.set_cons_succ]))
  (refine q_call ?_ ?_ (by kernel_rfl) ?_ ?_; rotate_left 2; (· intro w' hS; go_simp; first | with_reducible rfl | (constructor <;> with_reducible rfl)); (refine ⟨_, fun w' hw => (sum_any D _ lt w' (HB2.out.frame hw (fun _ _ => not_false))).mono fun _ _ h => ⟨h.1, hw.trans' h.2⟩, ?_⟩); (try simp only [Act.put, List.setIfInBounds_toArray, List.set_cons_zero, List.set_cons_succ]))
  (refine q_take ?_ (by kernel_rfl) ?_ ?_; rotate_left; (· intro w' hS; go_simp; try with_reducible rfl); (try simp only [Act.put, List.setIfInBounds_toArray, List.set_cons_zero, List.set_cons_succ]))
  refine q_end (fun W hw => ?_)
  have HW := hid hw
  clear hw
  by_cases hxe : x = (sumB lt).toNat
  ·rw [if_pos hxe] at HO
   have hb : ((x : Int) != ((sumB lt).toNat : Int)) = false := by rw [bne_eq_false_iff_eq]; omega
   have HX := hid hxe
   clear hxe
   go_wp2_with fail
   refine (clone_any D _ lt W (HB2.out.frame HW.out (fun _ _ => not_false)) htl).mono ?_
   rintro e w3 ⟨v3, rfl, ho3, hf3⟩
   have HO3 := hid (own_baseF ho3 HW.out.size); have HF3 := hid (HW.out.trans' hf3)
   clear ho3 hf3
   go_wp2_with fail
   go_ret2
   refine ⟨v3, ?_, ?_, HF3.out⟩
   ·rw [HO.out]; rfl
   ·rw [HO.out]; exact HO3.out
  ·rw [if_neg hxe] at HO
   have hb : ((x : Int) != ((sumB lt).toNat : Int)) = true := by rw [bne_iff_ne]; omega
   have HX := hid hxe
   have e1' := HW.out.cell e1 not_false
   clear hxe e0 e1
   go_wp2_with fail
   go_quiet (fail)
   go_wp2
   go_ret2
   refine ⟨.slice none 0 0, ?_, ?_, HW.out.drewN _⟩
   ·rw [HO.out]; rfl
   ·rw [HO.out]; exact World.ownsRow_nil _ _ _ _
end
section
open Go.RowKit
def sentB : Nat := sentG.foldl max 0 + 1
theorem sent_lt : ∀ i, i < 17 → sentG.getD i 0 < sentB := by decide
def RdAt (w : World) (R : Nat) (B : List UInt8) (s : RS) : Prop :=
 (sentB ≤ R ∧ s.at_ ≤ B.length ∧ B.length ≤ 1073741824) ∧ ∃ bv ev, w.heap[R]? = some (.cells #[bv, .int .i64 (s.at_ : Int), ev] 72 (0, 0)) ∧ Bs (fun k => k < R) w bv B ∧ ((s.ok = true ∧ ev = .nilIface) ∨ (s.ok = false ∧ ∃ t x, ev = .iface t x))
theorem RdAt.frame {w w' : World} {R : Nat} {B : List UInt8} {s : RS} (h : RdAt w R B s) (hf : Fr (fun _ => False) w w') : RdAt w' R B s := by
 obtain ⟨h0, bv, ev, h1, h2, h3⟩ := h
 exact ⟨h0, bv, ev, hf.heap h1 not_false, h2.frame hf fun _ _ => not_false, h3⟩
theorem RdAt.other {S : Nat → Prop} {w w' : World} {R : Nat} {B : List UInt8} {s : RS} (h : RdAt w R B s) (hf : Fr S w w') (hS : ∀ k, k ≤ R → ¬ S k) : RdAt w' R B s := by
 obtain ⟨h0, bv, ev, h1, h2, h3⟩ := h
 exact ⟨h0, bv, ev, hf.heap h1 (hS R (Nat.le_refl _)), h2.frame hf fun k hk => hS k (Nat.le_of_lt hk), h3⟩
theorem Sents.at_ {w w' : World} {pa : Nat → Addr} {R : Nat} (h : Sents w pa) (hf : Fr (fun k => k = R) w w') (hR : sentB ≤ R) : Sents w' pa := fun i hi => hf.cell (h i hi) (by have := sent_lt i hi; show ¬ sentG.getD i 0 = R; omega)
theorem set3 {w : World} {B : Nat} {t : TypeId} {fz : Nat × Nat} {a0 a1 a2 : Value} (h : w.heap[B]? = some (.cells #[a0, a1, a2] t fz)) :
  (∀ u, (w.setCell ⟨B, 1, none⟩ u).heap[B]? = some (.cells #[a0, u, a2] t fz) ∧ Fr (fun q => q = B) w (w.setCell ⟨B, 1, none⟩ u)) ∧ (∀ u, (w.setCell ⟨B, 2, none⟩ u).heap[B]? = some (.cells #[a0, a1, u] t fz) ∧ Fr (fun q => q = B) w (w.setCell ⟨B, 2, none⟩ u)) := by
 have hr := Fr.refl (fun q => q = B) w
 refine ⟨fun u => ⟨?_, hr.setCell (.inl rfl) _⟩, fun u => ⟨?_, hr.setCell (.inl rfl) _⟩⟩
 ·have h0 := setCell_row 1 u h
  simpa only [List.setIfInBounds_toArray, List.set_cons_zero, List.set_cons_succ] using h0
 ·have h0 := setCell_row 2 u h
  simpa only [List.setIfInBounds_toArray, List.set_cons_zero, List.set_cons_succ] using h0
theorem rdfail_any {B : List UInt8} {s : RS} {R : Nat} (w : World) (h : RdAt w R B s) (t : TypeId) (x : Value) :
  Calls Tryz.prog 62 #[.pointer (some ⟨R, 0, none⟩), .iface t x] w fun e w' => e = .returned (.tuple #[]) ∧ RdAt w' R B s.fail ∧ Fr (fun k => k = R) w w' := by
 obtain ⟨h0, bv, ev, h1, h2, h3⟩ := h
 have c2 : w.cell? ⟨R, 2, none⟩ = some ev := by rw [cell_of_row _ _ _ _ _ _ h1]; rfl
 rcases h3 with ⟨hok, rfl⟩ | ⟨hok, tt, xx, rfl⟩
 ·have f2 := frozen_of_row w _ 2 _ _ h1
  obtain ⟨hn1, hn2⟩ := (set3 h1).2 (.iface t x)
  have HN1 := hid hn1; have HN2 := hid hn2; have H2 := hid (h2.frame hn2 fun _ h => Nat.ne_of_lt h); have H0 := hid h0
  clear h1 hn1 hn2 h2 h0
  go_enter Tryz.func62, Tryz.ntmps62
  go_wp2_with fail
  go_end0
  exact ⟨rfl, ⟨H0.out, bv, _, HN1.out, H2.out, .inr ⟨rfl, _, _, rfl⟩⟩, HN2.out⟩
 ·have H := hid (show RdAt w R B s.fail from ⟨h0, bv, _, h1, h2, .inr ⟨rfl, _, _, rfl⟩⟩)
  clear h1 h2 h0
  go_enter Tryz.func62, Tryz.ntmps62
  go_wp2_with fail
  go_end0
  exact ⟨rfl, H.out, Fr.refl _ _⟩
theorem rdleft_any {B : List UInt8} {s : RS} {R : Nat} (w : World) (h : RdAt w R B s) :
  Calls Tryz.prog 33 #[.pointer (some ⟨R, 0, none⟩)] w fun e w' => e = .returned (.int .i64 ((B.length : Int) - s.at_)) ∧ Fr (fun _ => False) w w' := by
 obtain ⟨⟨h0, h01, h02⟩, bv, ev, h1, ⟨a, c, rfl, -⟩, -⟩ := h
 have c0 : w.cell? ⟨R, 0, none⟩ = some (.slice a B.length c) := by rw [cell_of_row _ _ _ _ _ _ h1]; rfl
 have c1 : w.cell? ⟨R, 1, none⟩ = some (.int .i64 (s.at_ : Int)) := by rw [cell_of_row _ _ _ _ _ _ h1]; rfl
 clear h1
 go_enter Tryz.func33, Tryz.ntmps33
 go_wp2_with fail
 go_quiet (fail)
 go_wp2
 go_ret
 exact ⟨rfl, (Fr.refl _ _).drewN _⟩
theorem or_byte (n j x : Nat) (hj : j < 8) (hn : n < 256 ^ j) (hx : x < 256) : bits BinOp.or IntKind.u64 (n : Int) ((x * 2 ^ (8 * j) : Nat) : Int) = ((n + 2 ^ (8 * j) * x : Nat) : Int) := by
 have h8 : (256 : Nat) ^ j = 2 ^ (8 * j) := by rw [show 256 = 2 ^ 8 by decide, ← Nat.pow_mul]
 have hlt : 2 ^ (8 * j) * x + n < 2 ^ (8 * (j + 1)) := by
  rw [show 8 * (j + 1) = 8 * j + 8 by omega, Nat.pow_add]
  have : 2 ^ (8 * j) * x + 2 ^ (8 * j) ≤ 2 ^ (8 * j) * 2 ^ 8 := by rw [← Nat.mul_succ]; exact Nat.mul_le_mul_left _ (by omega)
  omega
 have h64 : (2 : Nat) ^ (8 * (j + 1)) ≤ 18446744073709551616 := by
  rw [show (18446744073709551616 : Nat) = 2 ^ 64 by decide]
  exact Nat.pow_le_pow_right (by omega) (by omega)
 rw [Nat.mul_comm x, u64_or_nat _ _ (by omega) (by omega), Nat.or_comm, ← Nat.two_pow_add_eq_or_of_lt (by omega), Nat.add_comm]
set_option maxRecDepth 100000 in
set_option maxHeartbeats 1600000 in
theorem rdnum_any {B : List UInt8} {s : RS} {R : Nat} (k : Nat) (hk : k ≤ 8) (pa : Nat → Addr) (w : World) (h : RdAt w R B s) (hE : Sents w pa) :
  Calls Tryz.prog 86 #[.pointer (some ⟨R, 0, none⟩), .int .i64 k] w fun e w' => e = .returned (.int .u64 ((rNum B k s).1 : Int)) ∧ RdAt w' R B (rNum B k s).2 ∧ Fr (fun k => k = R) w w' := by
 have h0 := h
 obtain ⟨⟨hR, hat, hB⟩, bv, ev, h1, h2, h3⟩ := h
 have c0 : w.cell? ⟨R, 0, none⟩ = some bv := by rw [cell_of_row _ _ _ _ _ _ h1]; rfl
 have c1 : w.cell? ⟨R, 1, none⟩ = some (.int .i64 (s.at_ : Int)) := by rw [cell_of_row _ _ _ _ _ _ h1]; rfl
 have c2 : w.cell? ⟨R, 2, none⟩ = some ev := by rw [cell_of_row _ _ _ _ _ _ h1]; rfl
 have f1 := frozen_of_row w _ 1 _ _ h1
 have e0 : w.cell? ⟨4, 0, none⟩ = some (.iface 200 (.pointer (some (pa 0)))) := hE 0 (by decide)
 have HL := hid (rdleft_any w h0)
 have HF := hid (fun (w2 : World) (hf : Fr (fun _ => False) w w2) => rdfail_any w2 (h0.frame hf) 200 (.pointer (some (pa 0))))
 have H0 := hid h0; have H1 := hid h1; have H2 := hid h2; have HR := hid hR
 have hkI : (k : Int) ≤ 8 := by omega
 clear h1 h2 h0 hR hE
 by_cases hc : s.ok = false ∨ B.length < s.at_ + k
 ·have HN := hid (show rNum B k s = (0, s.fail) by unfold rNum; rw [if_pos hc])
  rw [HN.out]
  rcases h3 with ⟨hok, rfl⟩ | ⟨hok, tt, xx, rfl⟩
  ·have hc2 : B.length < s.at_ + k := hc.elim (fun h => by rw [hok] at h; cases h) id
   clear hc
   go_enter Tryz.func86, Tryz.ntmps86
   go_wp2_with fail
   refine HL.out.mono ?_
   rintro e w2 ⟨rfl, hf2⟩
   have d2 := hf2.cell c2 not_false
   have ee := hf2.cell e0 not_false
   have HF2 := hid hf2
   clear hf2
   go_wp2_with fail
   refine (HF.out w2 HF2.out).mono ?_
   rintro e w3 ⟨rfl, hr, hf⟩
   have HRR := hid hr; have HFR := hid (HF2.out.trans hf (U := fun k => k = R) (fun _ _ h => h.elim) (fun _ _ h => h))
   clear hr hf
   go_wp2_with fail
   go_ret
   exact ⟨rfl, HRR.out, HFR.out⟩
  ·clear hc
   go_enter Tryz.func86, Tryz.ntmps86
   go_wp2_with fail
   refine (HF.out w (Fr.refl _ _)).mono ?_
   rintro e w2 ⟨rfl, hr, hf⟩
   have HRR := hid hr; have HFR := hid hf
   clear hr hf
   go_wp2_with fail
   go_ret
   exact ⟨rfl, HRR.out, HFR.out⟩
 ·have hok : s.ok = true := by
   cases hs : s.ok
   ·exact absurd (.inl hs) hc
   ·rfl
  have hle : s.at_ + k ≤ B.length := by
   by_cases h2 : B.length < s.at_ + k
   ·exact absurd (.inr h2) hc
   ·omega
  have HN := hid (show rNum B k s = (deN ((B.drop s.at_).take k), ⟨s.at_ + k, true⟩) by unfold rNum; rw [if_neg hc])
  rw [HN.out]
  obtain ⟨-, rfl⟩ : s.ok = true ∧ ev = .nilIface := by
   rcases h3 with h3 | ⟨h3, -⟩
   ·exact h3
   ·rw [hok] at h3; cases h3
  clear hc
  go_enter Tryz.func86, Tryz.ntmps86
  go_wp2_with fail
  refine HL.out.mono ?_
  rintro e w2 ⟨rfl, hf2⟩
  have d0 := hf2.cell c0 not_false
  have d1 := hf2.cell c1 not_false
  have g1 : w2.frozen? ⟨R, 1, none⟩ = false := frozen_of_row w2 _ 1 _ _ (hf2.heap H1.out not_false)
  have HF2 := hid hf2
  have HB := hid (H2.out.frame hf2 fun _ _ => not_false)
  obtain ⟨a, c, rfl, -⟩ := H2.out
  have hlI : (B.length : Int) ≤ 1073741824 := by omega
  clear hf2 HF
  go_wp2_with fail
  go_loopw [5, 22] (fun u i wr => ∃ j : Nat, j ≤ k ∧ i = .int .i64 j ∧ u = .int .u64 (deN ((B.drop s.at_).take j) : Nat) ∧ ∃ n, w2.drewN n = wr) (fun _ i _ => k - (intOf i).toNat)
  case atStart => exact ⟨0, Nat.zero_le _, rfl, by simp [deN], 0, rfl⟩
  case round =>
   obtain ⟨j, hj, rfl, rfl, n, rfl⟩ := hrel
   by_cases hlt : j < k
   ·obtain ⟨a9, c9, e9, -, -, hb⟩ := HB.out
    obtain ⟨b, o, rfl, hb1, hb2⟩ := hb (s.at_ + j) (by omega)
    obtain ⟨rfl, -, rfl⟩ := by simpa using e9
    have hjI : (j : Int) < k := by omega
    have HX := hid (show (B.drop s.at_).take (j + 1) = (B.drop s.at_).take j ++ [B.getD (s.at_ + j) 0] by
     have h1 := take_snoc (B.drop s.at_) j 0 (by rw [List.length_drop]; omega)
     rw [h1]
     simp [List.getD])
    have HTL := hid (show ((B.drop s.at_).take j).length = j by rw [List.length_take, List.length_drop]; omega)
    have HLT := hid (deN_lt ((B.drop s.at_).take j))
    generalize B.getD (s.at_ + j) 0 = x at *
    have hx1 : IntKind.u64.wrap (x.toNat : Int) = (x.toNat : Int) := IntWalk.u64_in _ (by have := x.toNat_lt; omega)
    have h2j : x.toNat * 2 ^ (8 * j) < 18446744073709551616 := by
     have h1 : (2 : Nat) ^ (8 * (j + 1)) ≤ 2 ^ 64 := Nat.pow_le_pow_right (by omega) (by omega)
     have h2 : x.toNat * 2 ^ (8 * j) < 2 ^ 8 * 2 ^ (8 * j) := Nat.mul_lt_mul_of_pos_right (by have := x.toNat_lt; omega) (Nat.pow_pos (by decide))
     rw [← Nat.pow_add, show 8 + 8 * j = 8 * (j + 1) by omega] at h2
     have h3 : (2 : Nat) ^ 64 = 18446744073709551616 := by decide
     omega
    have hx2 : IntKind.u64.wrap ((x.toNat : Int) * 2 ^ (8 * j)) = ((x.toNat * 2 ^ (8 * j) : Nat) : Int) := by
     rw [show ((x.toNat : Int) * 2 ^ (8 * j)) = ((x.toNat * 2 ^ (8 * j) : Nat) : Int) by simp]
     exact IntWalk.u64_in _ (by omega)
    have HX1 := hid hx1; have HX2 := hid hx2
    have HOR := hid (or_byte (deN ((B.drop s.at_).take j)) j x.toNat (by omega) (by have := HLT.out; rw [HTL.out] at this; exact this) x.toNat_lt)
    have HDE := hid (show deN ((B.drop s.at_).take (j + 1)) = deN ((B.drop s.at_).take j) + 2 ^ (8 * j) * x.toNat by rw [HX.out, deN_snoc, HTL.out])
    clear hx1 hx2 h2j hb
    go_wp2_with fail
    go_quiet (fail)
    rw [HX1.out, HX2.out, HOR.out, ← HDE.out]
    go_wp2
    go_roundw
    case rel => exact ⟨j + 1, by omega, by go_num, rfl, n + nq, by simp [World.drewN, Nat.add_assoc]⟩
    case measure => simp [intOf]; omega
   ·obtain rfl : j = k := by omega
    have hf := (Fr.refl (fun _ => False) w2).drewN n
    have c1' := hf.cell d1 not_false
    have HFZ := hid (HF2.out.trans' hf)
    obtain ⟨hn1, hn2⟩ := (set3 (HFZ.out.heap H1.out not_false)).1 (.int .i64 ((s.at_ : Int) + j))
    have f1' : (w2.drewN n).frozen? ⟨R, 1, none⟩ = false := frozen_of_row _ _ 1 _ _ (HFZ.out.heap H1.out not_false)
    have HN1 := hid hn1; have HN2 := hid hn2
    have HB9 := hid ((HB.out.frame hf fun _ _ => not_false).frame hn2 fun _ h => Nat.ne_of_lt h)
    have hsI : (s.at_ : Int) ≤ 1073741824 := by omega
    clear hn1 hn2 hf
    go_wp2_with fail
    go_ret
    refine ⟨rfl, ⟨⟨HR.out, hle, hB⟩, _, _, ?_, HB9.out, .inl ⟨rfl, rfl⟩⟩, HFZ.out.trans HN2.out (fun _ _ h => h.elim) (fun _ _ h => h)⟩
    simpa using HN1.out
end
section
variable {B : List UInt8}
def GoOn (B : List UInt8) (s s' : RS) : Prop := s.at_ ≤ s'.at_ ∧ s'.at_ ≤ B.length ∧ (s'.ok = true → s.ok = true)
theorem GoOn.refl {s : RS} (h : s.at_ ≤ B.length) : GoOn B s s := ⟨Nat.le_refl _, h, id⟩
theorem GoOn.trans {a b c : RS} (h : GoOn B a b) (k : GoOn B b c) : GoOn B a c := ⟨Nat.le_trans h.1 k.1, k.2.1, fun x => h.2.2 (k.2.2 x)⟩
theorem GoOn.fail {a b : RS} (h : GoOn B a b) : GoOn B a b.fail := ⟨h.1, h.2.1, (fun x => by cases x)⟩
theorem rNum_go (k : Nat) {s : RS} (h : s.at_ ≤ B.length) : GoOn B s (rNum B k s).2 ∧ ((rNum B k s).2.ok = true → (rNum B k s).2.at_ = s.at_ + k) ∧ (rNum B k s).1 < 256 ^ k := by
 unfold rNum
 by_cases hc : s.ok = false ∨ B.length < s.at_ + k
 ·rw [if_pos hc]
  exact ⟨(GoOn.refl h).fail, (fun x => by cases x), Nat.pow_pos (by omega)⟩
 ·rw [if_neg hc]
  refine ⟨⟨Nat.le_add_right _ _, ?_, fun _ => ?_⟩, fun _ => rfl, ?_⟩
  ·show s.at_ + k ≤ B.length
   by_cases h2 : B.length < s.at_ + k
   ·exact absurd (.inr h2) hc
   ·omega
  ·cases hs : s.ok
   ·exact absurd (.inl hs) hc
   ·rfl
  ·refine Nat.lt_of_lt_of_le (deN_lt _) (Nat.pow_le_pow_right (by omega) ?_)
   simp
   omega
theorem rMany_go (most : Int) {s : RS} (h : s.at_ ≤ B.length) : GoOn B s (rMany B most s).2 ∧ ((rMany B most s).2.ok = true → (rMany B most s).2.at_ = s.at_ + 4) ∧ (rMany B most s).1 < 4294967296 ∧ (0 ≤ most → ((rMany B most s).1 : Int) ≤ most) ∧ ((rMany B most s).2.ok = false → (rMany B most s).1 = 0) := by
 obtain ⟨h1, h2, h3⟩ := rNum_go (B := B) 4 h
 unfold rMany
 (try dsimp only)
 by_cases hc : (rNum B 4 s).2.ok = false ∨ (0 ≤ most ∧ most < ((rNum B 4 s).1 : Int))
 ·rw [if_pos hc]
  exact ⟨h1.fail, (fun x => by cases x), (show (0 : Nat) < 4294967296 by decide), fun x => by simpa using x, fun _ => rfl⟩
 ·rw [if_neg hc]
  refine ⟨h1, h2, by simpa using h3, fun x => ?_, fun x => absurd (.inl x) hc⟩
  by_cases h4 : most < ((rNum B 4 s).1 : Int)
  ·exact absurd (.inr ⟨x, h4⟩) hc
  ·omega
theorem rText_go (most : Int) {s : RS} (h : s.at_ ≤ B.length) : GoOn B s (rText B most s).2 ∧ ((rText B most s).2.ok = true → (rText B most s).2.at_ = s.at_ + 4 + (rText B most s).1.size) := by
 obtain ⟨h1, h2, h3, -, h5⟩ := rMany_go (B := B) most h
 unfold rText
 (try dsimp only)
 by_cases hc : (rMany B most s).2.ok = false ∨ B.length < (rMany B most s).2.at_ + (rMany B most s).1
 ·rw [if_pos hc]
  exact ⟨h1.fail, (fun x => by cases x)⟩
 ·rw [if_neg hc]
  have hok : (rMany B most s).2.ok = true := by
   cases hs : (rMany B most s).2.ok
   ·exact absurd (.inl hs) hc
   ·rfl
  have hle : (rMany B most s).2.at_ + (rMany B most s).1 ≤ B.length := by
   by_cases h2 : B.length < (rMany B most s).2.at_ + (rMany B most s).1
   ·exact absurd (.inr h2) hc
   ·omega
  refine ⟨⟨?_, hle, fun _ => h1.2.2 hok⟩, fun _ => ?_⟩
  ·have := h1.1
   show s.at_ ≤ (rMany B most s).2.at_ + (rMany B most s).1
   omega
  ·have := h2 hok
   have hsz : (⟨((B.drop (rMany B most s).2.at_).take (rMany B most s).1).toArray⟩ : ByteArray).size = (rMany B most s).1 := by
    show (((B.drop (rMany B most s).2.at_).take (rMany B most s).1).toArray).size = _
    simp
    omega
   (try dsimp only)
   rw [hsz]
   omega
theorem rLoop_val {d : Nat} (hf : ∀ s : RS, s.at_ ≤ B.length → GoOn B s (rVal B d s).2 ∧ ((rVal B d s).2.ok = true → (rVal B d s).1.size + s.at_ ≤ (rVal B d s).2.at_)) :
  ∀ (n : Nat) (s : RS), s.at_ ≤ B.length → GoOn B s (rLoop RS.ok (rVal B d) n s).2 ∧ ((rLoop RS.ok (rVal B d) n s).2.ok = true → sizeL (rLoop RS.ok (rVal B d) n s).1 + s.at_ ≤ (rLoop RS.ok (rVal B d) n s).2.at_)
 | 0, s, h => ⟨GoOn.refl h, fun _ => by simp [rLoop, sizeL]⟩
 | n + 1, s, h => by
  rw [rLoop]
  by_cases hs : s.ok = false
  ·rw [if_pos hs]
   exact ⟨GoOn.refl h, fun _ => by simp [sizeL]⟩
  ·rw [if_neg hs]
   obtain ⟨h1, h2⟩ := hf s h
   obtain ⟨h3, h4⟩ := rLoop_val hf n _ h1.2.1
   refine ⟨h1.trans h3, fun hok => ?_⟩
   have := h4 hok
   have := h2 (h3.2.2 hok)
   simp only [sizeL]
   omega
theorem rVal_go : ∀ (d : Nat) (s : RS), s.at_ ≤ B.length → GoOn B s (rVal B d s).2 ∧ ((rVal B d s).2.ok = true → (rVal B d s).1.size + s.at_ ≤ (rVal B d s).2.at_)
 | 0, s, h => ⟨(GoOn.refl h).fail, (fun x => by cases x)⟩
 | d + 1, s, h => by
  obtain ⟨h1, h2, h3⟩ := rNum_go (B := B) 1 h
  rw [rVal]
  (try dsimp only)
  by_cases c1 : (rNum B 1 s).1 = 0 ∨ (rNum B 1 s).1 = 1 ∨ (rNum B 1 s).1 = 3
  ·rw [if_pos c1]
   obtain ⟨k1, k2, k3⟩ := rNum_go (B := B) 8 h1.2.1
   refine ⟨h1.trans k1, fun hok => ?_⟩
   have := k2 hok
   have := h2 (k1.2.2 hok)
   have h0 : (V.mk ((rNum B 1 s).1 : Int) (sI (rNum B 8 (rNum B 1 s).2).1) ⟨#[]⟩ []).size = 1 := by rw [V.size_eq]; simp [V.s, V.l, sizeL]; rfl
   (try dsimp only)
   omega
  ·rw [if_neg c1]
   by_cases c2 : (rNum B 1 s).1 = 2
   ·rw [if_pos c2]
    obtain ⟨k1, k2⟩ := rText_go (B := B) 4096 h1.2.1
    refine ⟨h1.trans k1, fun hok => ?_⟩
    have := k2 hok
    have := h2 (k1.2.2 hok)
    have h0 : (V.mk 2 0 (rText B 4096 (rNum B 1 s).2).1 []).size = 1 + (rText B 4096 (rNum B 1 s).2).1.size := by rw [V.size_eq]; simp [V.s, V.l, sizeL]
    (try dsimp only)
    omega
   ·rw [if_neg c2]
    by_cases c4 : (rNum B 1 s).1 = 4
    ·rw [if_pos c4]
     obtain ⟨k1, k2, -⟩ := rMany_go (B := B) 4096 h1.2.1
     obtain ⟨m1, m2⟩ := rLoop_val (rVal_go d) (rMany B 4096 (rNum B 1 s).2).1 _ k1.2.1
     refine ⟨(h1.trans k1).trans m1, fun hok => ?_⟩
     have := m2 hok
     have := k2 (m1.2.2 hok)
     have := h2 (k1.2.2 (m1.2.2 hok))
     (try dsimp only)
     rw [V.size_eq]
     simp only [V.s, V.l]
     have h0 : (⟨#[]⟩ : ByteArray).size = 0 := rfl
     omega
    ·rw [if_neg c4]
     exact ⟨h1.fail, (fun x => by cases x)⟩
def LfOn (t t' : NS) : Prop := t'.lf ≤ t.lf ∧ t.lf + t.s.at_ ≤ t'.lf + t'.s.at_ + (if t.s.ok = true ∧ t'.s.ok = false then 1 else 0)
theorem LfOn.trans {a b c : NS} (g1 : b.s.ok = true → a.s.ok = true) (g2 : c.s.ok = true → b.s.ok = true) (h : LfOn a b) (k : LfOn b c) : LfOn a c := by
 obtain ⟨h1, h2⟩ := h
 obtain ⟨k1, k2⟩ := k
 refine ⟨by omega, ?_⟩
 revert h2 k2 g1 g2
 cases a.s.ok <;> cases b.s.ok <;> cases c.s.ok <;> simp <;> omega
def NdsGo (B : List UInt8) (f : NS → List Nd × NS) : Prop := ∀ t : NS, t.s.at_ ≤ B.length → GoOn B t.s (f t).2.s ∧ LfOn t (f t).2 ∧ ((f t).2.s.ok = true → szL (f t).1 + t.s.at_ ≤ (f t).2.s.at_)
theorem rNode_go {f : NS → List Nd × NS} (hf : NdsGo B f) (t : NS) (h : t.s.at_ ≤ B.length) (ht : t.s.ok = true) : GoOn B t.s (rNode B f t).2.s ∧ LfOn t (rNode B f t).2 ∧ ((rNode B f t).2.s.ok = true → (rNode B f t).1.sz + t.s.at_ ≤ (rNode B f t).2.s.at_ ∧ t.s.at_ < (rNode B f t).2.s.at_) := by
 obtain ⟨a1, a2, a3⟩ := rNum_go (B := B) 1 h
 obtain ⟨b1, b2, b3⟩ := rNum_go (B := B) 8 a1.2.1
 obtain ⟨c1, c2⟩ := rText_go (B := B) 32 b1.2.1
 obtain ⟨d1, d2⟩ := rVal_go (B := B) 40 _ c1.2.1
 obtain ⟨e1, e2, e3⟩ := hf ⟨t.lf - 1, (rVal B 40 (rText B 32 (rNum B 8 (rNum B 1 t.s).2).2).2).2⟩ d1.2.1
 have hg := ((a1.trans b1).trans c1).trans d1
 have hadv : (rVal B 40 (rText B 32 (rNum B 8 (rNum B 1 t.s).2).2).2).2.ok = true → t.s.at_ + 1 ≤ (rVal B 40 (rText B 32 (rNum B 8 (rNum B 1 t.s).2).2).2).2.at_ := fun o4 => by
  have o1 := b1.2.2 (c1.2.2 (d1.2.2 o4))
  have := a2 o1
  have := ((b1.trans c1).trans d1).1
  omega
 unfold rNode
 (try dsimp only at *)
 refine ⟨hg.trans e1, ?_, fun hok => ?_⟩
 ·obtain ⟨l1, l2⟩ := e2
  have g2 := e1.2.2
  (try dsimp only at l1 l2 g2)
  refine ⟨by (try dsimp only); omega, ?_⟩
  (try dsimp only)
  rw [ht]
  revert l2 g2 hadv
  have h0 := hg.1
  cases (rVal B 40 (rText B 32 (rNum B 8 (rNum B 1 t.s).2).2).2).2.ok <;> cases (f ⟨t.lf - 1, (rVal B 40 (rText B 32 (rNum B 8 (rNum B 1 t.s).2).2).2).2⟩).2.s.ok <;> simp <;> omega
 ·have h5 := e3 hok
  have o4 := e1.2.2 hok
  have h4 := d2 o4
  have o3 := d1.2.2 o4
  have h3 := c2 o3
  have o2 := c1.2.2 o3
  have h2 := b2 o2
  have h1 := a2 (b1.2.2 o2)
  have h6 := e1.1
  (try dsimp only at h5 h6 ⊢)
  rw [Nd.sz_eq]
  simp only [Nd.s, Nd.v, Nd.l]
  omega
theorem rLoop_node {f : NS → List Nd × NS} (hf : NdsGo B f) : ∀ (n : Nat) (t : NS), t.s.at_ ≤ B.length → GoOn B t.s (rLoop NS.ok (rNode B f) n t).2.s ∧ LfOn t (rLoop NS.ok (rNode B f) n t).2 ∧ ((rLoop NS.ok (rNode B f) n t).2.s.ok = true → szL (rLoop NS.ok (rNode B f) n t).1 + t.s.at_ ≤ (rLoop NS.ok (rNode B f) n t).2.s.at_)
 | 0, t, h => ⟨GoOn.refl h, ⟨Int.le_refl _, by show t.lf + t.s.at_ ≤ t.lf + t.s.at_ + _; split <;> omega⟩, fun _ => by simp [rLoop, szL]⟩
 | n + 1, t, h => by
  rw [rLoop]
  by_cases hs : NS.ok t = false
  ·rw [if_pos hs]
   exact ⟨GoOn.refl h, ⟨Int.le_refl _, by show t.lf + t.s.at_ ≤ t.lf + t.s.at_ + _; split <;> omega⟩, fun _ => by simp [szL]⟩
  ·rw [if_neg hs]
   obtain ⟨h1, h2, h3⟩ := rNode_go hf t h (by simpa [NS.ok] using hs)
   obtain ⟨k1, k2, k3⟩ := rLoop_node hf n _ h1.2.1
   refine ⟨h1.trans k1, LfOn.trans h1.2.2 k1.2.2 h2 k2, fun hok => ?_⟩
   have := k3 hok
   have := (h3 (k1.2.2 hok)).1
   simp only [szL]
   omega
theorem rNds_go : ∀ d : Nat, NdsGo B (rNds B d)
 | 0 => fun t h => ⟨(GoOn.refl h).fail, ⟨Int.le_refl _, by show t.lf + t.s.at_ ≤ t.lf + t.s.at_ + _; split <;> omega⟩, (fun x => by cases x)⟩
 | d + 1 => fun t h => by
  obtain ⟨a1, a2, a3, a4, a5⟩ := rMany_go (B := B) t.lf h
  obtain ⟨k1, k2, k3⟩ := rLoop_node (rNds_go d) (rMany B t.lf t.s).1 ⟨t.lf, (rMany B t.lf t.s).2⟩ a1.2.1
  rw [rNds]
  refine ⟨a1.trans k1, LfOn.trans (b := ⟨t.lf, (rMany B t.lf t.s).2⟩) a1.2.2 k1.2.2 ⟨Int.le_refl _, ?_⟩ k2, fun hok => ?_⟩
  ·have := a1.1
   (try dsimp only)
   split <;> omega
  ·have h1 := k3 hok
   have h2 := a1.1
   replace h1 : szL (rLoop NS.ok (rNode B (rNds B d)) (rMany B t.lf t.s).1 ⟨t.lf, (rMany B t.lf t.s).2⟩).1 + (rMany B t.lf t.s).2.at_ ≤ _ := h1
   omega
end
section
open Go.RowKit
theorem RdAt.ok_iface {w : World} {R : Nat} {B : List UInt8} {s : RS} (h : RdAt w R B s) (hs : s.ok = false) : ∃ t x, w.cell? ⟨R, 2, none⟩ = some (.iface t x) := by
 obtain ⟨-, bv, ev, h1, -, ⟨h3, -⟩ | ⟨-, t, x, rfl⟩⟩ := h
 ·rw [hs] at h3; cases h3
 ·exact ⟨t, x, by rw [cell_of_row _ _ _ _ _ _ h1]; rfl⟩
theorem RdAt.ok_nil {w : World} {R : Nat} {B : List UInt8} {s : RS} (h : RdAt w R B s) (hs : s.ok = true) : w.cell? ⟨R, 2, none⟩ = some .nilIface := by
 obtain ⟨-, bv, ev, h1, -, ⟨-, rfl⟩ | ⟨h3, -⟩⟩ := h
 ·rw [cell_of_row _ _ _ _ _ _ h1]; rfl
 ·rw [hs] at h3; cases h3
theorem sI_wrap (u : Nat) (h : u < 18446744073709551616) : RowKit.wrap64 (u : Int) = sI u := by
 unfold sI RowKit.wrap64
 split <;> omega
theorem sI_range (u : Nat) (h : u < 18446744073709551616) : -9223372036854775808 ≤ sI u ∧ sI u < 9223372036854775808 := by
 unfold sI
 split <;> omega
theorem rdint_any {B : List UInt8} {s : RS} {R : Nat} (pa : Nat → Addr) (w : World) (h : RdAt w R B s) (hE : Sents w pa) :
  Calls Tryz.prog 87 #[.pointer (some ⟨R, 0, none⟩)] w fun e w' => e = .returned (.int .i64 (sI (rNum B 8 s).1)) ∧ RdAt w' R B (rNum B 8 s).2 ∧ Fr (fun k => k = R) w w' := by
 have HN := hid (rdnum_any 8 (by decide) pa w h hE)
 have HW := hid (sI_wrap (rNum B 8 s).1 (by have := (rNum_go (B := B) 8 h.1.2.1).2.2; simpa using this))
 clear h hE
 go_enter Tryz.func87, Tryz.ntmps87
 go_wp2_with fail
 refine HN.out.mono ?_
 rintro e w2 ⟨rfl, hr, hf⟩
 have HR := hid hr; have HF := hid hf
 clear hr hf HN
 go_wp2_with fail
 go_ret
 exact ⟨by rw [HW.out]; rfl, HR.out, HF.out⟩
set_option maxRecDepth 100000 in
theorem rdmany_any {B : List UInt8} {s : RS} {R : Nat} (most : Int) (hm : -9223372036854775808 ≤ most ∧ most < 4294967296) (pa : Nat → Addr) (w : World) (h : RdAt w R B s) (hE : Sents w pa) :
  Calls Tryz.prog 85 #[.pointer (some ⟨R, 0, none⟩), .int .i64 most] w fun e w' => e = .returned (.int .i64 ((rMany B most s).1 : Int)) ∧ RdAt w' R B (rMany B most s).2 ∧ Fr (fun k => k = R) w w' := by
 have HN := hid (rdnum_any 4 (by decide) pa w h hE)
 have hn := (rNum_go (B := B) 4 h.1.2.1).2.2
 have hR := h.1.1
 have HD := hid (show rMany B most s = if (rNum B 4 s).2.ok = false ∨ (0 ≤ most ∧ most < ((rNum B 4 s).1 : Int)) then (0, (rNum B 4 s).2.fail) else rNum B 4 s from rfl)
 rw [HD.out]
 clear h
 have hn' : (rNum B 4 s).1 < 4294967296 := by simpa using hn
 obtain ⟨⟨n, t⟩, hq⟩ : ∃ q, rNum B 4 s = q := ⟨_, rfl⟩
 rw [hq] at HN hn' ⊢
 clear hq HD hn
 dsimp only at HN hn' ⊢
 have hn64 : IntKind.i64.wrap (n : Int) = n := IntWalk.i64_in _ (by omega)
 have HE := hid hE; have HR := hid hR
 have HW := hid hn64
 have hmw : IntKind.u64.wrap most = if 0 ≤ most then most else most + 18446744073709551616 := by
  split
  ·exact IntWalk.u64_in _ (by omega)
  ·rw [IntKind.wrap_u64]; omega
 by_cases hc : 0 ≤ most ∧ most < (n : Int)
 ·rw [if_pos (.inr hc)]
  rw [if_pos hc.1] at hmw
  have hgt : (n : Int) > most := hc.2
  have HMW := hid hmw
  clear hmw hE
  go_enter Tryz.func85, Tryz.ntmps85
  go_wp2_with fail
  refine HN.out.mono ?_
  rintro e w2 ⟨rfl, hr, hf⟩
  have HRR := hid hr; have HF := hid hf
  have e2 : w2.cell? ⟨2, 0, none⟩ = some (.iface 200 (.pointer (some (pa 3)))) := (HE.out.at_ hf HR.out) 3 (by decide)
  clear hr hf HN
  go_wp2_with fail
  refine (rdfail_any w2 HRR.out 200 (.pointer (some (pa 3)))).mono ?_
  rintro e w3 ⟨rfl, hr3, hf3⟩
  have HR3 := hid hr3; have HF3 := hid (HF.out.trans' hf3)
  obtain ⟨tt, xx, d2⟩ := hr3.ok_iface rfl
  clear hr3 hf3
  go_wp2_with fail
  go_ret
  exact ⟨rfl, HR3.out, HF3.out⟩
 ·have hng : ¬ ((n : Int) > if 0 ≤ most then most else most + 18446744073709551616) := by split <;> omega
  rw [← hmw] at hng
  generalize hmg : IntKind.u64.wrap most = mw at *
  have HMG := hid hmg
  clear hmw hE
  have HT := hid (show (if t.ok = false ∨ (0 ≤ most ∧ most < (n : Int)) then ((0 : Nat), t.fail) else (n, t)) = if t.ok = false then (0, t.fail) else (n, t) by
   by_cases h : t.ok = false
   ·rw [if_pos h, if_pos (.inl h)]
   ·rw [if_neg h, if_neg (fun e => e.elim h hc)])
  rw [HT.out]
  clear HT hc
  by_cases hok : t.ok = false
  ·rw [if_pos hok]
   have HOK := hid hok
   clear hok
   go_enter Tryz.func85, Tryz.ntmps85
   go_wp2_with fail
   refine HN.out.mono ?_
   rintro e w2 ⟨rfl, hr, hf⟩
   obtain ⟨tt, xx, d2⟩ := hr.ok_iface HOK.out
   have HR9 := hid (show RdAt w2 R B t.fail from ⟨hr.1, by
    obtain ⟨-, bv, ev, h1, h2, h3⟩ := hr
    exact ⟨bv, ev, h1, h2, .inr ⟨rfl, h3.elim (fun h => by rw [HOK.out] at h; cases h.1) fun h => h.2⟩⟩⟩)
   have HF := hid hf
   clear hr hf HN
   go_wp2_with fail
   go_ret
   exact ⟨rfl, HR9.out, HF.out⟩
  ·rw [if_neg hok]
   have HOK := hid hok
   clear hok
   go_enter Tryz.func85, Tryz.ntmps85
   go_wp2_with fail
   refine HN.out.mono ?_
   rintro e w2 ⟨rfl, hr, hf⟩
   have HRR := hid hr; have HF := hid hf
   have d2 := hr.ok_nil (by simpa using HOK.out)
   clear hr hf HN
   go_wp2_with fail
   go_ret
   exact ⟨rfl, HRR.out, HF.out⟩
set_option maxRecDepth 100000 in
theorem rdtext_any {B : List UInt8} {s : RS} {R : Nat} (most : Int) (hm : -9223372036854775808 ≤ most ∧ most < 4294967296) (pa : Nat → Addr) (w : World) (h : RdAt w R B s) (hE : Sents w pa) :
  Calls Tryz.prog 88 #[.pointer (some ⟨R, 0, none⟩), .int .i64 most] w fun e w' => e = .returned (.string (rText B most s).1) ∧ RdAt w' R B (rText B most s).2 ∧ Fr (fun k => k = R) w w' := by
 have HN := hid (rdmany_any most hm pa w h hE)
 have hg := rMany_go (B := B) most h.1.2.1
 have hR := h.1.1
 have hBl := h.1.2.2
 have HD := hid (show rText B most s = if (rMany B most s).2.ok = false ∨ B.length < (rMany B most s).2.at_ + (rMany B most s).1 then (⟨#[]⟩, (rMany B most s).2.fail) else (⟨((B.drop (rMany B most s).2.at_).take (rMany B most s).1).toArray⟩, ⟨(rMany B most s).2.at_ + (rMany B most s).1, true⟩) from rfl)
 rw [HD.out]
 clear h
 obtain ⟨⟨n, t⟩, hq⟩ : ∃ q, rMany B most s = q := ⟨_, rfl⟩
 rw [hq] at HN hg ⊢
 clear hq HD
 obtain ⟨⟨-, hta, -⟩, -, hn, -, h0⟩ := hg
 dsimp only at HN hn hta h0 ⊢
 have HE := hid hE; have HR := hid hR
 have HLE := hid (fun (w2 : World) (h : RdAt w2 R B t) => rdleft_any w2 h)
 by_cases hc : B.length < t.at_ + n
 ·rw [if_pos (.inr hc)]
  clear hE
  go_enter Tryz.func88, Tryz.ntmps88
  go_wp2_with fail
  refine HN.out.mono ?_
  rintro e w2 ⟨rfl, hr, hf⟩
  have HRR := hid hr; have HF := hid hf
  clear hr hf HN
  go_wp2_with fail
  refine (HLE.out w2 HRR.out).mono ?_
  rintro e w3 ⟨rfl, hf3⟩
  have HF3 := hid (HF.out.trans hf3 (U := fun k => k = R) (fun _ _ h => h) (fun _ _ h => h.elim))
  have HR3 := hid (HRR.out.frame hf3)
  have e3 : w3.cell? ⟨4, 0, none⟩ = some (.iface 200 (.pointer (some (pa 0)))) := (HE.out.at_ HF3.out HR.out) 0 (by decide)
  clear hf3
  go_wp2_with fail
  refine (rdfail_any w3 HR3.out 200 (.pointer (some (pa 0)))).mono ?_
  rintro e w4 ⟨rfl, hr4, hf4⟩
  have HR4 := hid hr4; have HF4 := hid (HF3.out.trans' hf4)
  obtain ⟨tt, xx, d2⟩ := hr4.ok_iface rfl
  clear hr4 hf4
  go_wp2_with fail
  go_ret
  exact ⟨rfl, HR4.out, HF4.out⟩
 by_cases hok : t.ok = false
 ·rw [if_pos (.inl hok)]
  have HOK := hid hok
  clear hok hE
  go_enter Tryz.func88, Tryz.ntmps88
  go_wp2_with fail
  refine HN.out.mono ?_
  rintro e w2 ⟨rfl, hr, hf⟩
  have HRR := hid hr; have HF := hid hf
  clear hr hf HN
  go_wp2_with fail
  refine (HLE.out w2 HRR.out).mono ?_
  rintro e w3 ⟨rfl, hf3⟩
  have HF3 := hid (HF.out.trans hf3 (U := fun k => k = R) (fun _ _ h => h) (fun _ _ h => h.elim))
  have HR3 := hid (HRR.out.frame hf3)
  obtain ⟨tt, xx, d2⟩ := HR3.out.ok_iface HOK.out
  have HR9 := hid (show RdAt w3 R B t.fail from ⟨HR3.out.1, by
   obtain ⟨-, bv, ev, h1, h2, h3⟩ := HR3.out
   exact ⟨bv, ev, h1, h2, .inr ⟨rfl, h3.elim (fun h => by rw [HOK.out] at h; cases h.1) fun h => h.2⟩⟩⟩)
  clear hf3
  go_wp2_with fail
  go_ret
  exact ⟨rfl, HR9.out, HF3.out⟩
 ·rw [if_neg (fun e => e.elim hok hc)]
  have HOK := hid hok
  clear hok hE
  have hle : t.at_ + n ≤ B.length := by omega
  have hge : ¬ ((B.length : Int) - t.at_ < n) := by omega
  go_enter Tryz.func88, Tryz.ntmps88
  go_wp2_with fail
  refine HN.out.mono ?_
  rintro e w2 ⟨rfl, hr, hf⟩
  have HRR := hid hr; have HF := hid hf
  clear hr hf HN
  go_wp2_with fail
  refine (HLE.out w2 HRR.out).mono ?_
  rintro e w3 ⟨rfl, hf3⟩
  have HF3 := hid (HF.out.trans hf3 (U := fun k => k = R) (fun _ _ h => h) (fun _ _ h => h.elim))
  have HR3 := hid (HRR.out.frame hf3)
  obtain ⟨-, bv, ev, h1, h2, ⟨-, rfl⟩ | ⟨h3, -⟩⟩ := HR3.out
  case inr => exact absurd h3 HOK.out
  have d1 : w3.cell? ⟨R, 1, none⟩ = some (.int .i64 (t.at_ : Int)) := by rw [cell_of_row _ _ _ _ _ _ h1]; rfl
  have d2 : w3.cell? ⟨R, 2, none⟩ = some .nilIface := by rw [cell_of_row _ _ _ _ _ _ h1]; rfl
  have f1 := frozen_of_row w3 _ 1 _ _ h1
  have hnI : (n : Int) ≤ 1073741824 := by omega
  have htI : (t.at_ : Int) ≤ 1073741824 := by omega
  obtain ⟨k1, k2⟩ := (set3 h1).1 (.int .i64 ((t.at_ : Int) + n))
  have K1 := hid k1; have HK2 := hid k2
  have HB3 := hid (h2.frame k2 fun _ h => Nat.ne_of_lt h)
  clear k1 k2 h1 h2 hf3
  go_upto_region 7 with fail
  generalize w3.setCell ⟨R, 1, none⟩ (.int .i64 ((t.at_ : Int) + n)) = w4 at *
  have c0 : w4.cell? ⟨R, 0, none⟩ = some bv := by rw [cell_of_row _ _ _ _ _ _ K1.out]; rfl
  have c1 : w4.cell? ⟨R, 1, none⟩ = some (.int .i64 ((t.at_ : Int) + n)) := by rw [cell_of_row _ _ _ _ _ _ K1.out]; rfl
  have HF4 := hid (HF3.out.trans' HK2.out)
  have HB4 := hid HB3.out
  obtain ⟨a, c, rfl, hlc, hcm, -⟩ := HB3.out
  have HCV := hid (fun (w' : World) (hf : Fr (fun _ => False) w4 w') (a' : Option Addr) (c' : Nat) (hc' : c' = c - t.at_) (ha : a' = if c = t.at_ then a else a.map fun x => x.add t.at_) => by
   have h1 := Bs.sub (a' := a') (c' := c') (len' := n) HB4.out t.at_ (t.at_ + n) (by omega) hle (by omega) hc' ha
   have h2 := conv_bytes (h1.frame hf fun _ _ => not_false) 30 5 9 Tryz.underlying30 Tryz.underlying5 Tryz.underlying9
   have h3 : (B.take (t.at_ + n)).drop t.at_ = (B.drop t.at_).take n := by rw [List.drop_take, show t.at_ + n - t.at_ = n by omega]
   rw [h3] at h2
   exact h2)
  have hsub : ((t.at_ : Int) + n) - n = t.at_ := by omega
  have hle2 : (t.at_ : Int) ≤ t.at_ + n := by omega
  have hcI : (t.at_ : Int) + n ≤ c := by omega
  unfold maxLen at hcm
  have C0 := hid c0; have C1 := hid c1
  clear c0 c1
  refine wp_region_ord [(0, 0), (1, 0), (2, 0), (3, 0), (4, 0), (5, 0), (6, 0), (7, 0), (8, 0), (9, 0), (10, 0), (11, 0), (12, 0), (13, 0), (14, 0), (15, 0), (16, 0)] (fun w' => Fr (fun _ => False) w4 w') (by kernel_rfl) (by kernel_rfl) (by kernel_rfl) rfl (fun _ _ d _ _ h => by cases d <;> exact h) (Fr.refl _ _).drew ?_
  iterate 3 (refine wpO_take ?_ rfl (by kernel_rfl) ?_ ?_; rotate_left; (· intro w' hS; go_simp; try with_reducible rfl); try simp only [Act.put, List.setIfInBounds_toArray, List.set_cons_zero, List.set_cons_succ])
  (refine wpO_take ?_ rfl (by kernel_rfl) ?_ ?_; rotate_left; (· intro w' hS; have c0 := hS.cell C0.out not_false; go_simp; try with_reducible rfl); try simp only [Act.put, List.setIfInBounds_toArray, List.set_cons_zero, List.set_cons_succ])
  iterate 3 (refine wpO_take ?_ rfl (by kernel_rfl) ?_ ?_; rotate_left; (· intro w' hS; go_simp; try with_reducible rfl); try simp only [Act.put, List.setIfInBounds_toArray, List.set_cons_zero, List.set_cons_succ])
  (refine wpO_take ?_ rfl (by kernel_rfl) ?_ ?_; rotate_left; (· intro w' hS; have c0 := hS.cell C1.out not_false; go_simp; try with_reducible rfl); try simp only [Act.put, List.setIfInBounds_toArray, List.set_cons_zero, List.set_cons_succ])
  iterate 5 (refine wpO_take ?_ rfl (by kernel_rfl) ?_ ?_; rotate_left; (· intro w' hS; go_simp; try with_reducible rfl); try simp only [Act.put, List.setIfInBounds_toArray, List.set_cons_zero, List.set_cons_succ])
  (refine wpO_take ?_ rfl (by kernel_rfl) ?_ ?_; rotate_left; (· intro w' hS; have c0 := hS.cell C1.out not_false; go_simp; try with_reducible rfl); try simp only [Act.put, List.setIfInBounds_toArray, List.set_cons_zero, List.set_cons_succ])
  have hwr : IntKind.i64.wrap (t.at_ : Int) = t.at_ := IntWalk.i64_in _ (by omega)
  have hnn : (0 : Int) ≤ t.at_ + n := by omega
  have htn : ((t.at_ : Int) + n).toNat - t.at_ = n := by omega
  (refine wpO_take ?_ rfl (by kernel_rfl) ?_ ?_; rotate_left; (· intro w' hS; go_simp; try with_reducible rfl); try simp only [Act.put, List.setIfInBounds_toArray, List.set_cons_zero, List.set_cons_succ])
  (refine wpO_take ?_ rfl (by kernel_rfl) ?_ ?_; rotate_left; (· intro w' hS; have hcv := HCV.out w' hS _ _ rfl rfl; go_simp; try with_reducible rfl); try simp only [Act.put, List.setIfInBounds_toArray, List.set_cons_zero, List.set_cons_succ])
  (refine wpO_take ?_ rfl (by kernel_rfl) ?_ ?_; rotate_left; (· intro w' hS; go_simp; try with_reducible rfl); try simp only [Act.put, List.setIfInBounds_toArray, List.set_cons_zero, List.set_cons_succ])
  refine wpO_end ?_
  have HR5 := hid (show RdAt w4.drew R B ⟨t.at_ + n, true⟩ from ⟨⟨HR.out, hle, hBl⟩, _, _, by simpa using ((Fr.refl (fun _ => False) w4).drew).heap K1.out not_false, HB4.out.frame ((Fr.refl (fun _ => False) w4).drew) fun _ _ => not_false, .inl ⟨rfl, rfl⟩⟩)
  have HF5 := hid (HF4.out.drew)
  clear hsub hle2 hcI hwr hnn htn
  go_wp2_with fail
  all_goals go_ret
  all_goals exact ⟨rfl, HR5.out, HF5.out⟩
end
end Go.Proofs.YtbegahbagnflnaaGreatDoor
