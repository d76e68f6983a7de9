/- Package task: the queue; New, Len, Next, Of, room, find. -/
import Derived.Test.YtdcfidefkoamnaaDoorTaskPlain
import Derived.Test.YtdcfidefkoamnaaDoorRk
import Derived.Test.YtdcfidefkoamnaaDoorSee
namespace Go.Proofs.YtdcfidefkoamnaaDoor
open Go.RowKit

theorem Tryd.info_item : (Tryd.prog.info? 31).map (fun i => (i.zero, i.size, i.bytes)) = some (some (.agg #[.int .i64 0, .int .i64 0, .int .i64 0]), 3, 24) := by kernel_rfl
/-- The queue in block B. -/
structure QAt (base : Nat) (w : World) (B : Nat) (lv : Value) (L : List Itm) (nx : Int) : Prop where
  heap : w.heap[B]? = some (.cells #[lv, .int .i64 nx] 64 (0, 0))
  own : w.ownsRow base 31 3 lv L.length (itsV L)
  le : base ≤ B
def QS (B : Nat) (lv : Value) : Nat → Prop := fun k => k = B ∨ some k = lv.ownBlock
theorem QAt.frame {base B : Nat} {w w' : World} {lv : Value} {L : List Itm} {nx : Int} {S : Nat → Prop} (h : QAt base w B lv L nx) (hf : Fr S w w') (h1 : ¬ S B) (h2 : ∀ k, lv.ownBlock = some k → ¬ S k) : QAt base w' B lv L nx :=
  ⟨hf.heap h.heap h1, hf.own h.own h2, h.le⟩
theorem QAt.fr {base B : Nat} {w w' : World} {lv : Value} {L : List Itm} {nx : Int} (h : QAt base w B lv L nx) (hf : Fr (fun _ => False) w w') : QAt base w' B lv L nx := h.frame hf not_false (fun _ _ => not_false)
theorem QAt.cells {base B : Nat} {w : World} {lv : Value} {L : List Itm} {nx : Int} (h : QAt base w B lv L nx) :
    w.cell? ⟨B, 0, none⟩ = some lv ∧ w.cell? ⟨B, 1, none⟩ = some (.int .i64 nx) ∧ ∀ i, w.frozen? ⟨B, i, none⟩ = false := by
  refine ⟨?_, ?_, fun i => frozen_of_row _ _ i _ _ h.heap⟩
  all_goals (rw [cell_of_row _ _ _ _ _ _ h.heap]; rfl)
theorem QAt.neB {base B : Nat} {w : World} {lv : Value} {L : List Itm} {nx : Int} (h : QAt base w B lv L nx) : ∀ k, lv.ownBlock = some k → k ≠ B := own_ne_cells h.own h.heap (by decide)
theorem QAt.lt {base B : Nat} {w : World} {lv : Value} {L : List Itm} {nx : Int} (h : QAt base w B lv L nx) : ∀ k, QS B lv k → base ≤ k ∧ k < w.heap.size := by
  rintro k (rfl | hk)
  · exact ⟨h.le, heap_lt h.heap⟩
  · exact h.own.lt k hk.symm
theorem QAt.setN {base B : Nat} {w : World} {lv : Value} {L : List Itm} {nx : Int} (h : QAt base w B lv L nx) (u : Int) : QAt base (w.setCell ⟨B, 1, none⟩ (.int .i64 u)) B lv L u :=
  ⟨setCell_row 1 _ h.heap, ((Fr.refl (fun k => k = B) w).setCell (p := ⟨B, 1, none⟩) (.inl rfl) _).own h.own h.neB, h.le⟩
theorem QAt.setL {base B : Nat} {w : World} {lv lv2 : Value} {L2 : List Itm} {nx : Int} (h : w.heap[B]? = some (.cells #[lv, .int .i64 nx] 64 (0, 0))) (hb : base ≤ B) (ho : w.ownsRow base 31 3 lv2 L2.length (itsV L2)) : QAt base (w.setCell ⟨B, 0, none⟩ lv2) B lv2 L2 nx :=
  ⟨setCell_row 0 _ h, ((Fr.refl (fun k => k = B) w).setCell (p := ⟨B, 0, none⟩) (.inl rfl) _).own ho (own_ne_cells ho h (by decide)), hb⟩
theorem QAt.rk {base B : Nat} {w : World} {lv : Value} {L : List Itm} {nx : Int} (h : QAt base w B lv L nx) : Rk 3 itV (fun b => lv.ownBlock = some b) w lv L := Rk.own (k := 3) (enc := itV) itV_length h.own

theorem new_any (w : World) : Calls Tryd.prog 9 #[] w fun e w' => e = .returned (.pointer (some ⟨w.heap.size, 0, none⟩)) ∧ QAt w.heap.size w' w.heap.size (.slice none 0 0) [] 1 ∧ Fr (fun _ => False) w w' := by
  have h1 : QAt w.heap.size (w.alloc (.cells #[.slice none 0 0, .int .i64 1] 64)) w.heap.size (.slice none 0 0) [] 1 := ⟨heap_alloc_new w _, World.ownsRow_nil _ _ _ _, Nat.le_refl _⟩
  have h2 := (Fr.refl (fun _ => False) w).alloc (.cells #[.slice none 0 0, .int .i64 1] 64)
  have H1 := hid h1; have H2 := hid h2
  clear h1 h2
  go_enter Tryd.func9, Tryd.ntmps9
  go_wp2
  go_ret
  exact ⟨rfl, H1.out, H2.out⟩
theorem qlen_any {base B : Nat} {w : World} {lv : Value} {L : List Itm} {nx : Int} (h : QAt base w B lv L nx) : Calls Tryd.prog 15 #[.pointer (some ⟨B, 0, none⟩)] w fun e w' => e = .returned (.int .i64 L.length) ∧ w = w' := by
  obtain ⟨c0, -, -⟩ := h.cells
  obtain ⟨a, c, rfl, -⟩ := own_len h.own
  clear h
  go_enter Tryd.func15, Tryd.ntmps15
  go_wp2
  go_ret
  exact ⟨rfl, rfl⟩
theorem qnext_any {base B : Nat} {w : World} {lv : Value} {L : List Itm} {nx : Int} (h : QAt base w B lv L nx) : Calls Tryd.prog 19 #[.pointer (some ⟨B, 0, none⟩)] w fun e w' => e = .returned (.int .i64 nx) ∧ w = w' := by
  obtain ⟨-, c1, -⟩ := h.cells
  clear h
  go_enter Tryd.func19, Tryd.ntmps19
  go_wp2
  go_ret
  exact ⟨rfl, rfl⟩

/-- How many are an owner's. -/
def ofI (L : List Itm) (o : Int) : Nat := (L.filter fun x => x.own == o).length
theorem ofI_le (L : List Itm) (o : Int) : ofI L o ≤ L.length := List.length_filter_le _ _
theorem ofI_snoc (L : List Itm) (x : Itm) (o : Int) : ofI (L ++ [x]) o = ofI L o + if x.own == o then 1 else 0 := by
  unfold ofI
  rw [List.filter_append, List.length_append]
  by_cases h : (x.own == o) = true <;> simp [List.filter_cons, h]
set_option maxHeartbeats 1600000 in
theorem of_any {base B : Nat} {w : World} {lv : Value} {L : List Itm} {nx : Int} (h : QAt base w B lv L nx) (hl : L.length ≤ 1000000) (o : Int) :
    Calls Tryd.prog 28 #[.pointer (some ⟨B, 0, none⟩), .int .i64 o] w fun e w' => e = .returned (.int .i64 (ofI L o : Nat)) ∧ Fr (fun _ => False) w w' := by
  obtain ⟨c0, -, -⟩ := h.cells
  obtain ⟨a, c, rfl, hc1, hc2, hn, hk⟩ := h.rk
  have HK := hid hk; have HLL := hid hl
  have hlI : (L.length : Int) ≤ 1000000 := by omega
  clear h hk hn hc1 hc2 hl
  go_enter Tryd.func28, Tryd.ntmps28
  go_wp2_with fail
  go_loopw [5, 13] (fun v i wr => ∃ k : Nat, k ≤ L.length ∧ i = .int .i64 k ∧ v = .int .i64 (ofI (L.take k) o : Nat) ∧ Fr (fun _ => False) w wr) (fun _ i _ => L.length - (intOf i).toNat)
  case atStart => exact ⟨0, Nat.zero_le _, rfl, rfl, Fr.refl _ _⟩
  case round =>
    obtain ⟨k, hkl, rfl, rfl, hf⟩ := hrel
    by_cases hlt : k < L.length
    · obtain ⟨x, hx⟩ : ∃ x, L[k]? = some x := ⟨_, List.getElem?_eq_getElem hlt⟩
      obtain ⟨b, o1, rfl, -, hcc⟩ := HK.out k x hx
      have d0 := hf.cell (hcc 0 (.int .i64 x.id) rfl) not_false
      have d1 := hf.cell (hcc 1 (.int .i64 x.own) rfl) not_false
      have d2 := hf.cell (hcc 2 (.int .i64 x.wk) rfl) not_false
      rw [Nat.add_zero] at d0
      have ht : L.take (k + 1) = L.take k ++ [x] := by rw [List.take_add_one, hx]; rfl
      have hs : ofI (L.take (k + 1)) o = ofI (L.take k) o + if x.own == o then 1 else 0 := by rw [ht, ofI_snoc]
      have hle := ofI_le (L.take k) o
      have hle2 : ofI (L.take k) o ≤ 1000000 := by have := List.length_take_le k L; have := HLL.out; omega
      have hleI : (ofI (L.take k) o : Int) ≤ 1000000 := by omega
      have HS := hid hs; have HF := hid hf
      clear hs ht hle hle2 hcc hx hf
      generalize ofI (L.take k) o = q at *
      cases hb : (x.own == o) with
      | true =>
        rw [hb] at HS
        go_wp2_with fail
        go_roundw
        case rel => exact ⟨k + 1, by omega, by go_num, by congr 1; have := HS.out; simp at this; omega, HF.out.alloc _⟩
        case measure => simp [intOf]; omega
      | false =>
        rw [hb] at HS
        go_wp2_with fail
        go_roundw
        case rel => exact ⟨k + 1, by omega, by go_num, by congr 1; have := HS.out; simp at this; omega, HF.out.alloc _⟩
        case measure => simp [intOf]; omega
    · obtain rfl : k = L.length := by omega
      rw [List.take_length]
      go_wp2_with fail
      go_ret
      exact ⟨rfl, hf⟩

/-- What is amiss, if something more is to wait for an owner: an error's number. -/
def roomI (L : List Itm) (o : Int) : Nat := if 128 ≤ L.length then 104 else if 16 ≤ ofI L o then 109 else 0
theorem room_no (L : List Itm) (o : Int) : ErrNo (roomI L o) := by unfold roomI ErrNo; split <;> (try split) <;> omega
/-- The three errors that a queue gives when something more is to wait. -/
def S3 (w : World) (pa : Nat → Addr) : Prop := ∀ i, i = 3 ∨ i = 4 ∨ i = 8 → w.cell? ⟨sentG.getD i 0, 0, none⟩ = some (.iface 124 (.pointer (some (pa i))))
theorem S3.frame {w w' : World} {pa : Nat → Addr} (h : S3 w pa) (hf : Fr (fun _ => False) w w') : S3 w' pa := fun i hi => hf.cell (h i hi) not_false
theorem Sent17.three {w : World} {pa : Nat → Addr} (h : Sent17 w pa) : S3 w pa := fun i hi => h.s i (by omega)
set_option maxRecDepth 100000 in
theorem room_any {base B : Nat} {w : World} {lv : Value} {L : List Itm} {nx : Int} (pa : Nat → Addr) (hS : S3 w pa) (h : QAt base w B lv L nx) (hl : L.length ≤ 1000000) (o : Int) :
    Calls Tryd.prog 31 #[.pointer (some ⟨B, 0, none⟩), .int .i64 o] w fun e w' => e = .returned (errV pa (roomI L o)) ∧ Fr (fun _ => False) w w' := by
  obtain ⟨c0, -, -⟩ := h.cells
  have H := hid h; have HL := hid hl; have HS := hid hS
  obtain ⟨a, c, rfl, -⟩ := own_len h.own
  have g3 : w.cell? ⟨1, 0, none⟩ = some (.iface 124 (.pointer (some (pa 3)))) := hS 3 (by decide)
  clear h hl hS
  by_cases h1 : 128 ≤ L.length
  · have h1' : (128 : Int) ≤ L.length := by omega
    have hr : errV pa (roomI L o) = .iface 124 (.pointer (some (pa 3))) := by unfold roomI; rw [if_pos h1]; rfl
    have HR := hid hr
    clear hr
    go_enter Tryd.func31, Tryd.ntmps31
    go_wp2_with fail
    go_ret
    exact ⟨by rw [HR.out]; rfl, Fr.refl _ _⟩
  · have h1' : ¬ (128 : Int) ≤ L.length := by omega
    clear g3
    go_enter Tryd.func31, Tryd.ntmps31
    go_wp2_with fail
    refine (of_any H.out HL.out o).mono ?_
    rintro e w2 ⟨rfl, hf⟩
    have g8 : w2.cell? ⟨3, 0, none⟩ = some (.iface 124 (.pointer (some (pa 8)))) := (HS.out.frame hf) 8 (by decide)
    have HF := hid hf
    clear hf
    by_cases h2 : 16 ≤ ofI L o
    · have h2' : (16 : Int) ≤ (ofI L o : Nat) := by omega
      have hr : errV pa (roomI L o) = .iface 124 (.pointer (some (pa 8))) := by unfold roomI; rw [if_neg h1, if_pos h2]; rfl
      have HR := hid hr
      clear hr
      go_wp2_with fail
      go_ret
      exact ⟨by rw [HR.out]; rfl, HF.out⟩
    · have h2' : ¬ (16 : Int) ≤ (ofI L o : Nat) := by omega
      have hr : errV pa (roomI L o) = .nilIface := by unfold roomI; rw [if_neg h1, if_neg h2]; simp [errV]
      have HR := hid hr
      clear hr g8 h1 h2
      go_wp2_with fail
      go_ret
      exact ⟨by rw [HR.out]; rfl, HF.out⟩

/-- Where a number stands; -1: nowhere. -/
def fidx (id : Int) : List Itm → Nat → Int
  | [], _ => -1
  | x :: r, k => if x.id = id then k else fidx id r (k + 1)
theorem find1_any (x : Itm) (id : Int) (p : Nat) (w : World) (hp : w.cell? ⟨p, 0, none⟩ = some (.int .i64 id)) :
    Calls Tryd.prog 45 #[.agg #[.int .i64 x.id, .int .i64 x.own, .int .i64 x.wk], .pointer (some ⟨p, 0, none⟩)] w fun e w' => e = .returned (.bool (x.id == id)) ∧ Fr (fun _ => False) w w' := by
  have h2 := (Fr.refl (fun _ => False) w).alloc (.cells #[.int .i64 x.id, .int .i64 x.own, .int .i64 x.wk] 31)
  have H2 := hid h2
  have hp2 := alloc_cell (.cells #[.int .i64 x.id, .int .i64 x.own, .int .i64 x.wk] 31) hp
  clear h2 hp
  go_enter Tryd.func45, Tryd.ntmps45
  go_wp2
  go_ret
  exact ⟨rfl, H2.out⟩
set_option maxHeartbeats 1600000 in
theorem idx_any (L : List Itm) (lv : Value) (D : Nat → Prop) (id : Int) (p : Nat) (w : World) (hR : Rk 3 itV D w lv L) (hl : L.length ≤ 1000000) (hp : w.cell? ⟨p, 0, none⟩ = some (.int .i64 id)) :
    Calls Tryd.prog 44 #[lv, .func (.func 45) #[] #[.pointer (some ⟨p, 0, none⟩)]] w fun e w' => e = .returned (.int .i64 (fidx id L 0)) ∧ Fr (fun _ => False) w w' := by
  obtain ⟨a, c, rfl, hc1, hc2, hn, hk⟩ := hR
  have HK := hid hk; have HP := hid hp
  have hlI : (L.length : Int) ≤ 1000000 := by omega
  clear hk hn hc1 hc2 hl hp
  go_enter Tryd.func44, Tryd.ntmps44
  go_wp2_with fail
  go_loopw [8] (fun i wr => ∃ k : Nat, k ≤ L.length ∧ i = .int .i64 k ∧ Hid (fidx id L 0 = fidx id (L.drop k) k) ∧ Hid (Fr (fun _ => False) w wr)) (fun i _ => L.length - (intOf i).toNat)
  case atStart => exact ⟨0, Nat.zero_le _, rfl, hid rfl, hid (Fr.refl _ _)⟩
  case round =>
    obtain ⟨k, hkl, rfl, HX, HF⟩ := hrel
    by_cases hlt : k < L.length
    · obtain ⟨x, hx⟩ : ∃ x, L[k]? = some x := ⟨_, List.getElem?_eq_getElem hlt⟩
      obtain ⟨b, o1, rfl, -, hcc⟩ := HK.out k x hx
      have d0 := HF.out.cell (hcc 0 (.int .i64 x.id) rfl) not_false
      have d1 := HF.out.cell (hcc 1 (.int .i64 x.own) rfl) not_false
      have d2 := HF.out.cell (hcc 2 (.int .i64 x.wk) rfl) not_false
      rw [Nat.add_zero] at d0
      have hdr : L.drop k = x :: L.drop (k + 1) := by
        rw [List.drop_eq_getElem_cons hlt]
        rw [List.getElem?_eq_getElem hlt] at hx
        rw [Option.some.inj hx]
      have hp2 := HF.out.cell HP.out not_false
      have HDR := hid hdr; have HP2 := hid hp2
      clear hdr hcc hx hp2
      go_wp2_with fail
      refine (find1_any x id p wr HP2.out).mono ?_
      rintro e w2 ⟨rfl, hf2⟩
      have HF2 := hid (HF.out.trans' hf2)
      clear hf2
      cases hb : (x.id == id) with
      | true =>
        have hid' : x.id = id := by simpa using hb
        have HFX : Hid (fidx id L 0 = k) := hid (by rw [HX.out, HDR.out, fidx, if_pos hid'])
        clear hid' hb
        go_wp2_with fail
        go_ret
        exact ⟨ret_int HFX.out.symm, HF2.out⟩
      | false =>
        have hid' : ¬ x.id = id := by simpa using hb
        have HFX : Hid (fidx id L 0 = fidx id (L.drop (k + 1)) (k + 1)) := hid (by rw [HX.out, HDR.out, fidx, if_neg hid'])
        clear hid' hb
        go_wp2_with fail
        go_roundw
        case rel => exact ⟨k + 1, by omega, by go_num, HFX, HF2⟩
        case measure => simp [intOf]; omega
    · obtain rfl : k = L.length := by omega
      go_wp2_with fail
      go_ret
      exact ⟨ret_int (by rw [HX.out, List.drop_length]; rfl), HF.out⟩
set_option maxHeartbeats 1600000 in
theorem qfind_any {base B : Nat} {w : World} {lv : Value} {L : List Itm} {nx : Int} (h : QAt base w B lv L nx) (hl : L.length ≤ 1000000) (id : Int) :
    Calls Tryd.prog 34 #[.pointer (some ⟨B, 0, none⟩), .int .i64 id] w fun e w' => e = .returned (.int .i64 (fidx id L 0)) ∧ Fr (fun _ => False) w w' := by
  have hf := (Fr.refl (fun _ => False) w).alloc (.cells #[.int .i64 id] 3)
  have hcu := idx_any L lv _ id w.heap.size (w.alloc (.cells #[.int .i64 id] 3)) (h.rk.frame hf (fun _ _ => not_false)) hl (cell_new1 _ _ _ _)
  obtain ⟨c0, -, -⟩ := (h.fr hf).cells
  have HF := hid hf; have HCU := hid hcu
  clear h hl hf hcu
  go_enter Tryd.func34, Tryd.ntmps34
  go_wp2_with fail
  refine HCU.out.mono ?_
  rintro e w2 ⟨rfl, hf2⟩
  have HF2 := hid (HF.out.trans' hf2)
  clear hf2
  go_wp2_with fail
  go_ret
  exact ⟨rfl, HF2.out⟩
end Go.Proofs.YtdcfidefkoamnaaDoor
