/- Package seq: Find, With. -/
import Derived.Test.YtebanmigaikhhaaSeqF
import Derived.Test.YtebanmigaikhhaaValSameX
namespace Go.Proofs.Ytebanmigaikhhaa
open Go.RowKit

/-- Where a value stands; -1: nowhere. -/
noncomputable def fidx (x : V) : List V → Nat → Int
  | [], _ => -1
  | y :: r, k => if V.same y x = true then k else fidx x r (k + 1)
theorem fidx_ge (x : V) : ∀ (l : List V) (k : Nat), -1 ≤ fidx x l k ∧ fidx x l k < k + l.length ∧ (fidx x l k ≠ -1 → (k : Int) ≤ fidx x l k)
  | [], k => by simp [fidx]; omega
  | y :: r, k => by
    unfold fidx
    split
    · simp; omega
    · have := fidx_ge x r (k + 1)
      simp only [List.length_cons]
      push_cast at *
      omega

set_option maxHeartbeats 1600000 in
theorem find1_any (y x : V) (p : Nat) (w : World) (uy : Array Value) (ax : Option Addr) (cx : Nat) (hy : VIn T w y uy) (hp : w.heap[p]? = some (.cells #[.int .i64 x.k, .int .i64 x.n, .string x.s, .slice ax x.l.length cx] 30))
    (hx : VIn T w x #[.int .i64 x.k, .int .i64 x.n, .string x.s, .slice ax x.l.length cx]) :
    Calls Try.prog 54 #[.agg uy, .pointer (some ⟨p, 0, none⟩)] w fun e w' => e = .returned (.bool (V.same y x)) ∧ Fr (fun _ => False) w w' := by
  obtain ⟨v9, rfl, a9, c9, us9, rfl, -⟩ := hy.open
  have hf := (Fr.refl (fun _ => False) w).alloc (.cells #[.int .i64 y.k, .int .i64 y.n, .string y.s, .slice a9 y.l.length c9] 30)
  have hq := hf.heap hp not_false
  have z0 : (w.alloc (.cells #[.int .i64 y.k, .int .i64 y.n, .string y.s, .slice a9 y.l.length c9] 30)).cell? ⟨p, 0, none⟩ = some (.int .i64 x.k) := by rw [cell_of_row _ _ 0 _ _ _ hq]; rfl
  have z1 : (w.alloc (.cells #[.int .i64 y.k, .int .i64 y.n, .string y.s, .slice a9 y.l.length c9] 30)).cell? ⟨p, 1, none⟩ = some (.int .i64 x.n) := by rw [cell_of_row _ _ 1 _ _ _ hq]; rfl
  have z2 : (w.alloc (.cells #[.int .i64 y.k, .int .i64 y.n, .string y.s, .slice a9 y.l.length c9] 30)).cell? ⟨p, 2, none⟩ = some (.string x.s) := by rw [cell_of_row _ _ 2 _ _ _ hq]; rfl
  have z3 : (w.alloc (.cells #[.int .i64 y.k, .int .i64 y.n, .string y.s, .slice a9 y.l.length c9] 30)).cell? ⟨p, 3, none⟩ = some (.slice ax x.l.length cx) := by rw [cell_of_row _ _ 3 _ _ _ hq]; rfl
  have HC := hid (vsame_any y.size y x (Nat.le_refl _) T T _ _ _ (hy.fr hf) (hx.fr hf)); have HF := hid hf
  clear hf hq hp hx hy
  go_enter Try.func54, Try.ntmps54
  go_wp2_with fail
  refine HC.out.mono ?_
  rintro e w2 ⟨rfl, hf2⟩
  have HF2 := hid (HF.out.trans' hf2)
  clear hf2 z0 z1 z2 z3
  go_wp2_with fail
  go_ret
  exact ⟨rfl, HF2.out⟩

set_option maxRecDepth 100000 in
set_option maxHeartbeats 1600000 in
theorem idx_any (l : List V) (x : V) (v : Value) (p : Nat) (w : World) (ax : Option Addr) (cx : Nat) (h : VL T w l v) (hp : w.heap[p]? = some (.cells #[.int .i64 x.k, .int .i64 x.n, .string x.s, .slice ax x.l.length cx] 30))
    (hx : VIn T w x #[.int .i64 x.k, .int .i64 x.n, .string x.s, .slice ax x.l.length cx]) (hl : l.length ≤ 1099511627776) :
    Calls Try.prog 53 #[v, .func (.func 54) #[] #[.pointer (some ⟨p, 0, none⟩)]] w fun e w' => e = .returned (.int .i64 (fidx x l 0)) ∧ Fr (fun _ => False) w w' := by
  obtain ⟨a, c, us, rfl, -, -, -, hb, hi⟩ := h
  have HB := hid hb; have HI := hid hi; have HP := hid hp; have HX := hid hx
  have hlI : (l.length : Int) ≤ 1099511627776 := by omega
  clear hb hi hp hx hl
  go_enter Try.func53, Try.ntmps53
  go_wp2_with fail
  go_loopw [8] (fun i wr => ∃ k : Nat, k ≤ l.length ∧ i = .int .i64 k ∧ Hid (fidx x l 0 = fidx x (l.drop k) k) ∧ Hid (Fr (fun _ => False) w wr)) (fun i _ => l.length - (intOf i).toNat)
  case atStart => exact ⟨0, Nat.zero_le _, rfl, hid rfl, hid (Fr.refl _ _)⟩
  case round =>
    obtain ⟨k, hkl, rfl, HXX, HF⟩ := hrel
    by_cases hlt : k < l.length
    · obtain ⟨b, o, y, a', c', rfl, -, hy, hv, e0, e1, e2, e3⟩ := VL.elem HB.out HI.out k hlt
      replace e0 := HF.out.cell e0 not_false
      replace e1 := HF.out.cell e1 not_false
      replace e2 := HF.out.cell e2 not_false
      replace e3 := HF.out.cell e3 not_false
      have hdr : l.drop k = y :: l.drop (k + 1) := by
        rw [List.drop_eq_getElem_cons hlt]
        rw [List.getElem?_eq_getElem hlt] at hy
        rw [Option.some.inj hy]
      have hcl := find1_any y x p wr _ ax cx (VIn.fr (hv.mono fun _ _ _ => trivial) HF.out) (HF.out.heap HP.out not_false) (HX.out.fr HF.out)
      have HDR := hid hdr; have HCL := hid hcl
      clear hdr hy hv hcl
      go_wp2_with fail
      refine HCL.out.mono ?_
      rintro e w2 ⟨rfl, hf2⟩
      have HF2 := hid (HF.out.trans' hf2)
      clear hf2 e0 e1 e2 e3 HCL
      cases hb : V.same y x with
      | true =>
        have HFX : Hid (fidx x l 0 = k) := hid (by rw [HXX.out, HDR.out, fidx, if_pos hb])
        clear hb
        go_wp2_with fail
        go_ret
        exact ⟨ret_int HFX.out.symm, HF2.out⟩
      | false =>
        have HFX : Hid (fidx x l 0 = fidx x (l.drop (k + 1)) (k + 1)) := hid (by rw [HXX.out, HDR.out, fidx, if_neg (by rw [hb]; decide)])
        clear hb
        go_wp2_with fail
        go_roundw
        case rel => exact ⟨k + 1, by omega, by go_num, HFX, HF2⟩
        case measure => simp [intOf]; omega
    · obtain rfl : k = l.length := by omega
      go_wp2_with fail
      go_ret
      exact ⟨ret_int (by rw [HXX.out, List.drop_length]; rfl), HF.out⟩

set_option maxRecDepth 100000 in
set_option maxHeartbeats 1600000 in
theorem find_any (l : List V) (x : V) (v : Value) (u : Array Value) (w : World) (h : VL T w l v) (hx : VIn T w x u) (hl : sizeL l ≤ 1099511627776) :
    Calls Try.prog 36 #[v, .agg u] w fun e w' => e = .returned (.int .i64 (fidx x l 0 + 1)) ∧ Fr (fun _ => False) w w' := by
  have hll := len_le_sizeL l
  obtain ⟨v9, rfl, a9, c9, us9, rfl, -⟩ := hx.open
  have hf := (Fr.refl (fun _ => False) w).alloc (.cells #[.int .i64 x.k, .int .i64 x.n, .string x.s, .slice a9 x.l.length c9] 30)
  have hr := heap_alloc_new w (.cells #[.int .i64 x.k, .int .i64 x.n, .string x.s, .slice a9 x.l.length c9] 30)
  have HC := hid (idx_any l x v w.heap.size _ a9 c9 (h.fr hf) hr (hx.fr hf) (by omega)); have HF := hid hf
  have hg := fidx_ge x l 0
  obtain ⟨a, c, us, rfl, -⟩ := id h
  have hI : (l.length : Int) ≤ 1099511627776 := by omega
  clear hf hr h hx hl hll
  generalize fidx x l 0 = r at *
  have hr1 : -1 ≤ r := hg.1
  have hr2 : r ≤ 1099511627776 := by omega
  clear hg
  go_enter Try.func36, Try.ntmps36
  go_wp2_with fail
  refine HC.out.mono ?_
  rintro e w2 ⟨rfl, hf2⟩
  have HF2 := hid (HF.out.trans' hf2)
  clear hf2
  go_wp2_with fail
  go_ret
  exact ⟨rfl, HF2.out⟩
end Go.Proofs.Ytebanmigaikhhaa
