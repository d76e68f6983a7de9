/- inglenookworld.few, Small: just what they answer; a right value is small. -/
import Derived.Test.YteihmagldhmjgaaDoorRefRight
namespace Go.Proofs.YteihmagldhmjgaaDoor
open Go.RowKit

mutual
def V.few : V → Nat → Nat → Option Nat
  | .mk _ _ s l, left, deep => if left < 1 + s.size / 16 ∨ 60 < deep then none else fewL l (left - (1 + s.size / 16)) (deep + 1)
def fewL : List V → Nat → Nat → Option Nat
  | [], left, _ => some left
  | x :: r, left, deep => match V.few x left deep with
    | none => none
    | some n => fewL r n deep
end
theorem V.few_eq (x : V) (left deep : Nat) : x.few left deep = if left < 1 + x.s.size / 16 ∨ 60 < deep then none else fewL x.l (left - (1 + x.s.size / 16)) (deep + 1) := by
  cases x; simp only [V.few, V.s, V.l]; rfl
theorem fewL_drop (l : List V) (k left deep : Nat) (x : V) (h : l[k]? = some x) : fewL (l.drop k) left deep = match x.few left deep with
    | none => none
    | some n => fewL (l.drop (k + 1)) n deep := by
  have hk := (List.getElem?_eq_some_iff.1 h).1
  rw [List.drop_eq_getElem_cons hk]
  have : l[k] = x := (List.getElem?_eq_some_iff.1 h).2
  rw [this, fewL]
mutual
theorem V.few_le : ∀ (x : V) (left deep n : Nat), x.few left deep = some n → n ≤ left
  | .mk k n s l, left, deep, m, h => by
    simp only [V.few] at h
    split at h
    · cases h
    · have := fewL_le l _ _ _ h
      omega
theorem fewL_le : ∀ (l : List V) (left deep n : Nat), fewL l left deep = some n → n ≤ left
  | [], left, deep, n, h => by simp [fewL] at h; omega
  | x :: r, left, deep, n, h => by
    simp only [fewL] at h
    split at h
    · cases h
    · rename_i m hm
      have h1 := V.few_le x left deep m hm
      have h2 := fewL_le r m deep n h
      omega
end
def fewI : Option Nat → Int
  | none => -1
  | some n => n

mutual
theorem V.odd_few : ∀ (x : V) (deep sz : Nat), (x.odd deep sz).1 = 0 → sz ≤ (x.odd deep sz).2 ∧ (x.odd deep sz).2 ≤ 4096 ∧ ∀ left d, d + 1 = deep → (x.odd deep sz).2 ≤ left + sz → ∃ n, x.few left d = some n ∧ left + sz ≤ n + (x.odd deep sz).2
  | .mk k n s l, deep, sz, h => by
    have ih := oddL_few l (deep + 1) (oddSize k s sz)
    simp only [V.odd] at h ⊢
    by_cases h1 : 40 < deep
    · simp [h1] at h
    simp only [if_neg h1] at h ⊢
    by_cases h2 : 4096 < oddSize k s sz
    · simp [h2] at h
    simp only [if_neg h2] at h ⊢
    cases h3 : oddRange k n
    case true => simp [h3] at h
    simp only [h3, Bool.false_eq_true, if_false] at h ⊢
    cases h4 : oddShape k n s l.isEmpty
    case true => simp [h4] at h
    simp only [h4, Bool.false_eq_true, if_false] at h ⊢
    have hc : sz + 1 + s.size / 16 ≤ oddSize k s sz := by
      unfold oddSize
      by_cases hk : k = 2
      · rw [if_pos hk]; omega
      · rw [if_neg hk]
        have : s.size = 0 := by
          cases h5 : (s.size != 0)
          · exact bne_eq_false_iff_eq.1 h5
          · have hk2 : (k != 2) = true := bne_iff_ne.2 hk
            unfold oddShape at h4
            rw [hk2, h5] at h4
            simp at h4
        omega
    obtain ⟨i1, i2, i3⟩ := ih (by omega) h
    refine ⟨by omega, i2, fun left d hd hl => ?_⟩
    simp only [V.few]
    rw [if_neg (by omega)]
    obtain ⟨m, hm, hle⟩ := i3 (left - (1 + s.size / 16)) (d + 1) (by omega) (by omega)
    exact ⟨m, hm, by omega⟩
theorem oddL_few : ∀ (l : List V) (deep sz : Nat), sz ≤ 4096 → (oddL l deep sz).1 = 0 → sz ≤ (oddL l deep sz).2 ∧ (oddL l deep sz).2 ≤ 4096 ∧ ∀ left d, d + 1 = deep → (oddL l deep sz).2 ≤ left + sz → ∃ n, fewL l left d = some n ∧ left + sz ≤ n + (oddL l deep sz).2
  | [], deep, sz, hz, h => by
    simp only [oddL, fewL]
    exact ⟨Nat.le_refl _, hz, fun left d _ _ => ⟨left, rfl, Nat.le_refl _⟩⟩
  | x :: r, deep, sz, hz, h => by
    simp only [oddL] at h ⊢
    by_cases h0 : (x.odd deep sz).1 = 0
    · rw [if_pos h0] at h ⊢
      obtain ⟨a1, a2, a3⟩ := V.odd_few x deep sz h0
      obtain ⟨b1, b2, b3⟩ := oddL_few r deep _ a2 h
      refine ⟨by omega, b2, fun left d hd hl => ?_⟩
      obtain ⟨n, hn, hn2⟩ := a3 left d hd (by omega)
      obtain ⟨m, hm, hm2⟩ := b3 n d hd (by omega)
      refine ⟨m, ?_, by omega⟩
      simp only [fewL, hn]
      exact hm
    · rw [if_neg h0] at h
      exact absurd h h0
end
theorem small_of_valid {x : V} (h : x.valid = 0) : ∃ n, x.few 6000 0 = some n := by
  obtain ⟨h1, h2, h3⟩ := V.odd_few x 1 0 h
  obtain ⟨n, hn, _⟩ := h3 6000 0 rfl (by omega)
  exact ⟨n, hn⟩

set_option maxHeartbeats 1600000 in
theorem few_any : ∀ (N : Nat) (x : V), x.size ≤ N → ∀ (D : Nat → Prop) (w : World) (u : Array Value) (left deep : Nat), VIn D w x u → x.size ≤ 1099511627776 → left ≤ 1099511627776 → deep ≤ 61 →
    Calls Tryd.prog 57 #[.agg u, .int .i64 left, .int .i64 deep] w fun e w' => e = .returned (.int .i64 (fewI (x.few left deep))) ∧ Fr (fun _ => False) w w' := by
  intro N
  induction N with
  | zero =>
    intro x h
    rw [V.size_eq] at h
    omega
  | succ N ih =>
    intro x hN D w u left deep h hM hz hd
    have hs := V.size_eq x
    rw [V.few_eq]
    obtain ⟨v, rfl, a, cap, us, rfl, hc, hm, hn, hb, hi⟩ := h.open
    have hlm : x.l.length ≤ 9223372036854775807 := Nat.le_trans hc hm
    have hsm : x.s.size ≤ 1099511627776 := by omega
    generalize x.k = kk at *
    generalize x.n = nn at *
    generalize x.s = ss at *
    generalize x.l = l at *
    obtain ⟨r, hr⟩ : ∃ r, r = fewI (if left < 1 + ss.size / 16 ∨ 60 < deep then none else fewL l (left - (1 + ss.size / 16)) (deep + 1)) := ⟨_, rfl⟩
    rw [← hr]
    have hF : Fr (fun _ => False) w (w.alloc (.cells #[.int .i64 kk, .int .i64 nn, .string ss, .slice a l.length cap] 26)) := (Fr.refl _ _).alloc _
    have hb1 : (w.alloc (.cells #[.int .i64 kk, .int .i64 nn, .string ss, .slice a l.length cap] 26)).heap[w.heap.size]? = some (.cells #[.int .i64 kk, .int .i64 nn, .string ss, .slice a l.length cap] 26) := heap_alloc_new w _
    have d2 : (w.alloc (.cells #[.int .i64 kk, .int .i64 nn, .string ss, .slice a l.length cap] 26)).cell? ⟨w.heap.size, 2, none⟩ = some (.string ss) := by rw [cell_of_row _ _ 2 _ _ _ hb1]; rfl
    have d3 : (w.alloc (.cells #[.int .i64 kk, .int .i64 nn, .string ss, .slice a l.length cap] 26)).cell? ⟨w.heap.size, 3, none⟩ = some (.slice a l.length cap) := by rw [cell_of_row _ _ 3 _ _ _ hb1]; rfl
    have HB := hid hb; have HI := hid hi; have HS := hid hs; have HM := hid hM; have HN := hid hN; have HF := hid hF; have HR := hid hr; have HIH := hid ih; have HD3 := hid d3
    clear hb hi hs hM hN h hn hF hb1 hr ih
    by_cases h1 : (left : Int) - 1 - (ss.size : Int) / 16 < 0
    · have hr : r = -1 := by rw [HR.out, if_pos (by omega)]; rfl
      subst hr
      go_enter Tryd.func57, Tryd.ntmps57
      go_wp2
      go_ret
      exact ⟨rfl, HF.out⟩
    by_cases h2 : (60 : Int) < deep
    · have hr : r = -1 := by rw [HR.out, if_pos (by omega)]; rfl
      subst hr
      go_enter Tryd.func57, Tryd.ntmps57
      go_wp2
      go_ret
      exact ⟨rfl, HF.out⟩
    have hr : r = fewI (fewL l (left - (1 + ss.size / 16)) (deep + 1)) := by rw [HR.out, if_neg (by omega)]
    obtain ⟨z, hz1, hz2⟩ : ∃ z : Nat, (left : Int) - 1 - (ss.size : Int) / 16 = z ∧ z = left - (1 + ss.size / 16) := ⟨left - (1 + ss.size / 16), by omega, rfl⟩
    rw [← hz2] at hr
    have hzl : z ≤ left := by omega
    have HR' := hid hr; have HZ := hid hz1
    clear HR hr hz2 hz1
    go_enter Tryd.func57, Tryd.ntmps57
    go_upto_region 5 with fail
    rw [HZ.out]
    generalize hW1 : w.alloc (.cells #[.int .i64 kk, .int .i64 nn, .string ss, .slice a l.length cap] 26) = W1 at *
    clear hW1 d2
    go_loopw [1, 7] (fun lv i wr => ∃ k zk : Nat, k ≤ l.length ∧ i = .int .i64 k ∧ lv = .int .i64 zk ∧ zk ≤ z ∧ fewL l z (deep + 1) = fewL (l.drop k) zk (deep + 1) ∧ Fr (fun _ => False) W1 wr) (fun _ i _ => l.length - (intOf i).toNat)
    case atStart => exact ⟨0, z, Nat.zero_le _, rfl, rfl, Nat.le_refl _, rfl, Fr.refl _ _⟩
    case round =>
      obtain ⟨k, zk, hk, rfl, rfl, hzk, heq, hf⟩ := hrel
      have d3 := hf.cell HD3.out not_false
      by_cases hlt : k < l.length
      · obtain ⟨b, o, y, a', c', rfl, -, hy, hv, e0, e1, e2, e3⟩ := VL.elem HB.out HI.out k hlt
        have hf0 := HF.out.trans' hf
        replace e0 := hf0.cell e0 not_false
        replace e1 := hf0.cell e1 not_false
        replace e2 := hf0.cell e2 not_false
        replace e3 := hf0.cell e3 not_false
        have hv2 := hv.frame hf0 (fun _ _ => not_false)
        have t2 := sizeL_mem hy
        have hy1 : y.size ≤ N := by have := HS.out; have := HN.out; omega
        have hod := fewL_drop l k zk (deep + 1) y hy
        have hole := fun n => y.few_le zk (deep + 1) n
        have hc := HIH.out y hy1 D wr _ zk (deep + 1) hv2 (by have := HM.out; have := HS.out; omega) (by omega) (by omega)
        rw [hod] at heq
        have HE := hid heq; have HFr := hid hf; have HC := hid hc; have HL := hid hole
        clear hv t2 hf hf0 hv2 hc hy1 hod heq hole hy
        generalize y.few zk (deep + 1) = ry at *
        go_wp2_with fail
        refine HC.out.mono ?_
        rintro e w2 ⟨rfl, hf2⟩
        have HF2 := hid (HFr.out.trans' hf2)
        clear hf2
        cases ry with
        | none =>
          have hrr : r = -1 := by rw [HR'.out, HE.out]; rfl
          subst hrr
          simp only [fewI]
          go_wp2
          go_ret
          exact ⟨rfl, HF.out.trans' HF2.out⟩
        | some n =>
          have hnz := HL.out n rfl
          have hE2 := hid (show fewL l z (deep + 1) = fewL (l.drop (k + 1)) n (deep + 1) from HE.out)
          simp only [fewI]
          go_wp2
          go_roundw
          case rel => exact ⟨k + 1, n, by omega, by go_num, rfl, by omega, hE2.out, HF2.out⟩
          case measure => simp [intOf]; omega
      · go_wp2
        go_ret
        have hrr := HR'.out
        rw [heq, List.drop_of_length_le (by omega), fewL] at hrr
        rw [hrr]
        exact ⟨rfl, HF.out.trans' hf⟩

def V.small (x : V) : Bool := decide (0 ≤ fewI (x.few 6000 0))
theorem V.small_of {x : V} (h : x.valid = 0) : x.small = true := by
  obtain ⟨n, hn⟩ := small_of_valid h
  unfold V.small
  rw [hn]
  simp [fewI]
end Go.Proofs.YteihmagldhmjgaaDoor
