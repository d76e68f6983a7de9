/- Package frame: Open; the document's. -/
import Derived.Test.YtlpbjmgpckhneaaDoorFrameC
import Derived.Test.YtlpbjmgpckhneaaDoorSee
namespace Go.Proofs.YtlpbjmgpckhneaaDoor
open Go.RowKit

/-- What stands ahead of a sum, or the error's number. -/
def openB (l : List UInt8) : List UInt8 × Nat :=
  if l.length < 4 then ([], 101) else if n4 (l.drop (l.length - 4)) = (sumB (l.take (l.length - 4))).toNat then (l.take (l.length - 4), 0) else ([], 102)

theorem own_base {w : World} {b b' e size n : Nat} {v : Value} {xs : List Value} (h : w.ownsRow b e size v n xs) (hb : b' ≤ b) : w.ownsRow b' e size v n xs := by
  refine ⟨h.1, h.2.imp id ?_⟩
  rintro ⟨g, cap, cur, h1, h2, r⟩
  exact ⟨g, cap, cur, h1, Nat.le_trans hb h2, r⟩
theorem Bs.from {D : Nat → Prop} {w : World} {b o c : Nat} {l : List UInt8} (h : Bs D w (.slice (some ⟨b, o, none⟩) l.length c) l) (i : Nat) (hi : i < l.length) : Bs D w (.slice (some ⟨b, o + i, none⟩) (l.length - i) (c - i)) (l.drop i) := by
  have h0 := h
  obtain ⟨a0, c0, e, h1, h2, _⟩ := h0
  simp only [Value.slice.injEq] at e
  obtain ⟨rfl, _, rfl⟩ := e
  have := Bs.sub (a' := some ⟨b, o + i, none⟩) (c' := c - i) (len' := l.length - i) h i l.length (by omega) (Nat.le_refl _) rfl rfl (by rw [if_neg (by omega)]; simp only [Option.map_some]; exact congrArg some (by unfold Addr.add; split <;> simp_all))
  rwa [List.take_length] at this
theorem Bs.upto {D : Nat → Prop} {w : World} {a : Option Addr} {c : Nat} {l : List UInt8} (h : Bs D w (.slice a l.length c) l) (i : Nat) (hi : i ≤ l.length) : Bs D w (.slice a i c) (l.take i) := by
  obtain ⟨a0, c0, e, h1, h2, hk⟩ := h
  simp only [Value.slice.injEq] at e
  obtain ⟨rfl, _, rfl⟩ := e
  refine ⟨a, c, by simp [Nat.min_eq_left hi], by simp; omega, h2, fun k hk' => ?_⟩
  have hki : k < i := by simp at hk'; omega
  obtain ⟨b, o, e, hD, hc⟩ := hk k (by omega)
  refine ⟨b, o, e, hD, ?_⟩
  rw [hc]
  simp [List.getD, List.getElem?_take, hki]

theorem open_any (D : Nat → Prop) (pa : Nat → Addr) (v : Value) (l : List UInt8) (w : World) (hB : Bs D w v l) (hl : l.length ≤ 1073741824) (hE : Sents w pa) :
    Calls Tryd.prog 11 #[v] w fun e w' => ∃ v', e = .returned (.tuple #[v', errV pa (openB l).2]) ∧ OB w.heap.size w' v' (openB l).1 ∧ Fr (fun _ => False) w w' := by
  have hB0 := hB
  obtain ⟨a, c, rfl, hlc, hcm, hk⟩ := hB
  have e0 : w.cell? ⟨0, 0, none⟩ = some (.iface 79 (.pointer (some (pa 0)))) := hE 0 (by decide)
  have e1 : w.cell? ⟨1, 0, none⟩ = some (.iface 79 (.pointer (some (pa 1)))) := hE 1 (by decide)
  by_cases h4 : l.length < 4
  · have hr : openB l = ([], 101) := by simp [openB, h4]
    rw [hr]
    have hm : decide ((l.length : Int) - 4 < 0) = true := by simp; omega
    have HH := hid hr
    clear hE hB0 hk hr
    go_enter Tryd.func11, Tryd.ntmps11
    go_wp2_with fail
    go_quiet (fail)
    go_wp2
    go_ret2
    exact ⟨_, rfl, World.ownsRow_nil _ _ _ _, (Fr.refl _ _).drewN _⟩
  · obtain ⟨n, hn⟩ : ∃ n, l.length = n + 4 := ⟨l.length - 4, by omega⟩
    obtain ⟨b, o, rfl, _, _⟩ := hk 0 (by omega)
    clear hk
    have hb1 := Bs.from hB0 n (by omega)
    have hb2 := Bs.upto hB0 n (by omega)
    have hop : openB l = if n4 (l.drop n) = (sumB (l.take n)).toNat then (l.take n, 0) else ([], 102) := by
      unfold openB
      rw [if_neg h4, show l.length - 4 = n by omega]
    rw [hn] at hb1 ⊢
    rw [show n + 4 - n = 4 by omega] at hb1
    have hd4 : 4 ≤ (l.drop n).length := by simp; omega
    have htl : (l.take n).length ≤ 1073741824 := by simp; omega
    have hnb : n ≤ 1073741824 := by omega
    have hnc : n + 4 ≤ c := by omega
    unfold maxLen at hcm
    have hcn : ¬ c = n := by omega
    have hle : (n : Int) ≤ (n : Int) + 4 := by omega
    have hlc2 : n ≤ c := by omega
    have hlo := n4_lt (l.drop n)
    generalize hD : l.drop n = ld at *
    generalize hT : l.take n = lt at *
    generalize hx : n4 ld = x at *
    have hHX := hid hx; have HO := hid hop; have HB1 := hid hb1; have HB2 := hid hb2; have HDD := hid hD; have HTT := hid hT; have HN := hid hn; have HE := hid hE; have HB0 := hid hB0
    clear hx hop hb1 hb2 hD hT hn hE hB0
    go_enter Tryd.func11, Tryd.ntmps11
    go_upto_region 4 with fail
    refine wp_region_cls (fun w' => Fr (fun _ => False) w w') (by kernel_rfl) (by kernel_rfl) (Fr.refl _ _).drew ?_
    (refine q_take ?_ (by kernel_rfl) ?_ ?_; rotate_left; (· intro w' hS; go_simp; try with_reducible rfl); (try simp only [Act.put, List.setIfInBounds_toArray, List.set_cons_zero, List.set_cons_succ]))
    (refine q_take ?_ (by kernel_rfl) ?_ ?_; rotate_left; (· intro w' hS; go_simp; try with_reducible rfl); (try simp only [Act.put, List.setIfInBounds_toArray, List.set_cons_zero, List.set_cons_succ]))
    (refine q_take ?_ (by kernel_rfl) ?_ ?_; rotate_left; (· intro w' hS; go_simp; try with_reducible rfl); (try simp only [Act.put, List.setIfInBounds_toArray, List.set_cons_zero, List.set_cons_succ]))
    (refine q_call ?_ ?_ (by kernel_rfl) ?_ ?_; rotate_left 2; (· intro w' hS; go_simp; first | with_reducible rfl | (constructor <;> with_reducible rfl)); (refine ⟨_, fun w' hw => (fnumber_any D _ ld w' (HB1.out.frame hw (fun _ _ => not_false)) hd4).mono fun _ _ h => ⟨by rw [h.1, hHX.out], by obtain ⟨n, rfl⟩ := h.2; exact hw.drewN n⟩, ?_⟩); (try simp only [Act.put, List.setIfInBounds_toArray, List.set_cons_zero, List.set_cons_succ]))
    (refine q_take ?_ (by kernel_rfl) ?_ ?_; rotate_left; (· intro w' hS; go_simp; try with_reducible rfl); (try simp only [Act.put, List.setIfInBounds_toArray, List.set_cons_zero, List.set_cons_succ]))
    (refine q_take ?_ (by kernel_rfl) ?_ ?_; rotate_left; (· intro w' hS; go_simp; try with_reducible rfl); (try simp only [Act.put, List.setIfInBounds_toArray, List.set_cons_zero, List.set_cons_succ]))
    (refine q_take ?_ (by kernel_rfl) ?_ ?_; rotate_left; (· intro w' hS; go_simp; try with_reducible rfl); (try simp only [Act.put, List.setIfInBounds_toArray, List.set_cons_zero, List.set_cons_succ]))
    (refine q_call ?_ ?_ (by kernel_rfl) ?_ ?_; rotate_left 2; (· intro w' hS; go_simp; first | with_reducible rfl | (constructor <;> with_reducible rfl)); (refine ⟨_, fun w' hw => (sum_any D _ lt w' (HB2.out.frame hw (fun _ _ => not_false))).mono fun _ _ h => ⟨h.1, hw.trans' h.2⟩, ?_⟩); (try simp only [Act.put, List.setIfInBounds_toArray, List.set_cons_zero, List.set_cons_succ]))
    (refine q_take ?_ (by kernel_rfl) ?_ ?_; rotate_left; (· intro w' hS; go_simp; try with_reducible rfl); (try simp only [Act.put, List.setIfInBounds_toArray, List.set_cons_zero, List.set_cons_succ]))
    refine q_end (fun W hw => ?_)
    have HW := hid hw
    clear hw
    by_cases hxe : x = (sumB lt).toNat
    · rw [if_pos hxe] at HO
      have hb : ((x : Int) != ((sumB lt).toNat : Int)) = false := by rw [bne_eq_false_iff_eq]; omega
      have HX := hid hxe
      clear hxe
      go_wp2_with fail
      refine (clone_any D _ lt W (HB2.out.frame HW.out (fun _ _ => not_false)) htl).mono ?_
      rintro e w3 ⟨v3, rfl, ho3, hf3⟩
      have HO3 := hid (own_base ho3 HW.out.size); have HF3 := hid (HW.out.trans' hf3)
      clear ho3 hf3
      go_wp2_with fail
      go_ret2
      refine ⟨v3, ?_, ?_, HF3.out⟩
      · rw [HO.out]; rfl
      · rw [HO.out]; exact HO3.out
    · rw [if_neg hxe] at HO
      have hb : ((x : Int) != ((sumB lt).toNat : Int)) = true := by rw [bne_iff_ne]; omega
      have HX := hid hxe
      have e1' := HW.out.cell e1 not_false
      clear hxe e0 e1
      go_wp2_with fail
      go_quiet (fail)
      go_wp2
      go_ret2
      refine ⟨.slice none 0 0, ?_, ?_, HW.out.drewN _⟩
      · rw [HO.out]; rfl
      · rw [HO.out]; exact World.ownsRow_nil _ _ _ _

theorem ropen_any (D : Nat → Prop) (v : Value) (l : List UInt8) (w : World) (hB : Bs D w v l) (hl : l.length ≤ 1073741824) :
    Calls Tryd.prog 14 #[v] w fun e w' => ∃ v', e = .returned (.tuple #[v', .int .i64 (openB l).2]) ∧ Bs D w' v' (openB l).1 ∧ Fr (fun _ => False) w w' := by
  have hB0 := hB
  obtain ⟨a, c, rfl, hlc, hcm, hk⟩ := hB
  by_cases h4 : l.length < 4
  · have hr : openB l = ([], 101) := by simp [openB, h4]
    have hm : decide (l.length < 4) = true := by simp; omega
    have HH := hid hr
    clear hB0 hk hr
    go_enter Tryd.func14, Tryd.ntmps14
    go_wp2_with fail
    go_ret2
    refine ⟨.slice none 0 0, by rw [HH.out]; rfl, ?_, Fr.refl _ _⟩
    rw [HH.out]
    exact ⟨none, 0, rfl, Nat.le_refl _, Nat.zero_le _, fun k hk => by simp at hk⟩
  · obtain ⟨n, hn⟩ : ∃ n, l.length = n + 4 := ⟨l.length - 4, by omega⟩
    obtain ⟨b, o, rfl, _, _⟩ := hk 0 (by omega)
    clear hk
    have hb1 := Bs.from hB0 n (by omega)
    have hb2 := Bs.upto hB0 n (by omega)
    have hop : openB l = if n4 (l.drop n) = (sumB (l.take n)).toNat then (l.take n, 0) else ([], 102) := by
      unfold openB
      rw [if_neg h4, show l.length - 4 = n by omega]
    rw [hn] at hb1 ⊢
    rw [show n + 4 - n = 4 by omega] at hb1
    have hd4 : 4 ≤ (l.drop n).length := by simp; omega
    have htl : (l.take n).length ≤ 1073741824 := by simp; omega
    have hnb : n ≤ 1073741824 := by omega
    have hnc : n + 4 ≤ c := by omega
    unfold maxLen at hcm
    have hcn : ¬ c = n := by omega
    have hle : (n : Int) ≤ (n : Int) + 4 := by omega
    have hlc2 : n ≤ c := by omega
    have hlo := n4_lt (l.drop n)
    generalize hD : l.drop n = ld at *
    generalize hT : l.take n = lt at *
    generalize hx : n4 ld = x at *
    have hHX := hid hx; have HO := hid hop; have HB1 := hid hb1; have HB2 := hid hb2; have HDD := hid hD; have HTT := hid hT; have HN := hid hn; have HB0 := hid hB0
    clear hx hop hb1 hb2 hD hT hn hB0
    go_enter Tryd.func14, Tryd.ntmps14
    go_upto_region 4 with fail
    refine wp_region_cls (fun w' => Fr (fun _ => False) w w') (by kernel_rfl) (by kernel_rfl) (Fr.refl _ _).drew ?_
    (refine q_take ?_ (by kernel_rfl) ?_ ?_; rotate_left; (· intro w' hS; go_simp; try with_reducible rfl); (try simp only [Act.put, List.setIfInBounds_toArray, List.set_cons_zero, List.set_cons_succ]))
    (refine q_take ?_ (by kernel_rfl) ?_ ?_; rotate_left; (· intro w' hS; go_simp; try with_reducible rfl); (try simp only [Act.put, List.setIfInBounds_toArray, List.set_cons_zero, List.set_cons_succ]))
    (refine q_take ?_ (by kernel_rfl) ?_ ?_; rotate_left; (· intro w' hS; go_simp; try with_reducible rfl); (try simp only [Act.put, List.setIfInBounds_toArray, List.set_cons_zero, List.set_cons_succ]))
    (refine q_call ?_ ?_ (by kernel_rfl) ?_ ?_; rotate_left 2; (· intro w' hS; go_simp; first | with_reducible rfl | (constructor <;> with_reducible rfl)); (refine ⟨_, fun w' hw => (rnumber_any D _ ld w' (HB1.out.frame hw (fun _ _ => not_false)) hd4).mono fun _ _ h => ⟨by rw [h.1, hHX.out], by obtain ⟨n, rfl⟩ := h.2; exact hw.drewN n⟩, ?_⟩); (try simp only [Act.put, List.setIfInBounds_toArray, List.set_cons_zero, List.set_cons_succ]))
    (refine q_take ?_ (by kernel_rfl) ?_ ?_; rotate_left; (· intro w' hS; go_simp; try with_reducible rfl); (try simp only [Act.put, List.setIfInBounds_toArray, List.set_cons_zero, List.set_cons_succ]))
    (refine q_take ?_ (by kernel_rfl) ?_ ?_; rotate_left; (· intro w' hS; go_simp; try with_reducible rfl); (try simp only [Act.put, List.setIfInBounds_toArray, List.set_cons_zero, List.set_cons_succ]))
    (refine q_take ?_ (by kernel_rfl) ?_ ?_; rotate_left; (· intro w' hS; go_simp; try with_reducible rfl); (try simp only [Act.put, List.setIfInBounds_toArray, List.set_cons_zero, List.set_cons_succ]))
    (refine q_call ?_ ?_ (by kernel_rfl) ?_ ?_; rotate_left 2; (· intro w' hS; go_simp; first | with_reducible rfl | (constructor <;> with_reducible rfl)); (refine ⟨_, fun w' hw => (rsum_any D _ lt w' (HB2.out.frame hw (fun _ _ => not_false))).mono fun _ _ h => ⟨h.1, h.2 ▸ hw⟩, ?_⟩); (try simp only [Act.put, List.setIfInBounds_toArray, List.set_cons_zero, List.set_cons_succ]))
    (refine q_take ?_ (by kernel_rfl) ?_ ?_; rotate_left; (· intro w' hS; go_simp; try with_reducible rfl); (try simp only [Act.put, List.setIfInBounds_toArray, List.set_cons_zero, List.set_cons_succ]))
    refine q_end (fun W hw => ?_)
    have HW := hid hw
    clear hw
    by_cases hxe : x = (sumB lt).toNat
    · rw [if_pos hxe] at HO
      have hb : ((x : Int) != ((sumB lt).toNat : Int)) = false := by rw [bne_eq_false_iff_eq]; omega
      have HX := hid hxe
      clear hxe
      go_wp2_with fail
      go_ret2
      refine ⟨.slice (some ⟨b, o, none⟩) n c, ?_, ?_, HW.out⟩
      · rw [HO.out]; rfl
      · rw [HO.out]; exact HB2.out.frame HW.out (fun _ _ => not_false)
    · rw [if_neg hxe] at HO
      have hb : ((x : Int) != ((sumB lt).toNat : Int)) = true := by rw [bne_iff_ne]; omega
      have HX := hid hxe
      clear hxe
      go_wp2_with fail
      go_ret2
      refine ⟨.slice none 0 0, ?_, ?_, HW.out⟩
      · rw [HO.out]; rfl
      · rw [HO.out]; exact ⟨none, 0, rfl, Nat.le_refl _, Nat.zero_le _, fun k hk => by simp at hk⟩
end Go.Proofs.YtlpbjmgpckhneaaDoor
