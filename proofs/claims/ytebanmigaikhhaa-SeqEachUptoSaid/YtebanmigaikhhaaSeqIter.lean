/- seq.Each: the iterator over a copy of the items: what it promises each round. -/
import Derived.Test.YtebanmigaikhhaaRange
import Derived.Test.YtebanmigaikhhaaValL
import Derived.Test.YtebanmigaikhhaaSeqC
import Derived.RangeFuncCalls
import Derived.Shelf.Abstract
import Derived.Shelf.RegionOpen
import Derived.OwnWalkIn
import Derived.TacticsInMore
namespace Go.Proofs.Ytebanmigaikhhaa
open Go.RowKit
attribute [local go_sem] Oper.semAt_some

def encE (x : Nat × V × Array Value) : Array Value := #[.int .i64 ((x.1 : Int) + 1), .agg x.2.2]
/-- What a round is told: the next item, a copy of its own. -/
def GE (m : List V) (B1 : Nat) (pre : List (Nat × V × Array Value)) (x : Nat × V × Array Value) (W : World) : Prop :=
  x.1 = pre.length ∧ m[x.1]? = some x.2.1 ∧ VIn (fun b => B1 + 2 ≤ b ∧ Soft W b) W x.2.1 x.2.2 ∧ ∃ xs, W.ownsRow (B1 + 2) 30 4 (x.2.2.getD 3 undef) x.2.1.l.length xs
theorem ownsRow_up {w : World} {b b' e size n : Nat} {v : Value} {xs : List Value} (h : w.ownsRow b e size v n xs) (hb : b' ≤ b) : w.ownsRow b' e size v n xs := own_rebase h (fun k hk => Nat.le_trans hb (h.lt k hk).1)
theorem each_any (m : List V) (hM : sizeL m ≤ 1099511627776) (D : Nat → Prop) (w : World) (v : Value) (h : VL D w m v) :
    Calls Try.prog 11 #[v] w fun e w' => ∃ B v2, e = .returned (.func (.func 42) #[] #[.pointer (some ⟨B, 0, none⟩)]) ∧ Fr (fun _ => False) w w' ∧ w.heap.size ≤ B ∧ B < w'.heap.size ∧ w'.cell? ⟨B, 0, none⟩ = some v2 ∧ VL (fun q => w.heap.size ≤ q ∧ q < w'.heap.size) w' m v2 := by
  have HC := hid (vL_any m hM D w v h)
  obtain ⟨a, cap, us, rfl, -⟩ := h
  clear hM
  go_enter Try.func11, Try.ntmps11
  go_wp2_with fail
  refine HC.out.mono ?_
  rintro e w2 ⟨u, rfl, hf2, hv2, -⟩
  obtain ⟨vl, hu, hl⟩ := hv2.open
  obtain rfl : u = #[.int .i64 4, .int .i64 0, .string ⟨#[]⟩, vl] := hu
  have hfl : ∀ W : World, (Instr.field 30 (.agg #[.int .i64 4, .int .i64 0, .string ⟨#[]⟩, vl]) 3).run Try.prog W = .ok vl W := fun W => run_fieldL _ _ _ _ W
  have HL := hid (show VL (fun b => w.heap.size ≤ b ∧ Soft w2 b) w2 m vl from hl)
  obtain ⟨a2, c2, us2, rfl, -⟩ := id HL.out
  have HF2 := hid hf2
  clear hf2 hv2 hl
  have HA := hid (HF2.out.alloc (.cells #[.slice a2 m.length c2] 22))
  have HB := hid (cell_new1 w2 (.slice a2 m.length c2) 22 (0, 0))
  have HV := hid (HL.out.frame ((Fr.refl (fun _ => False) w2).alloc (.cells #[.slice a2 m.length c2] 22)) fun _ _ => id)
  go_wp2_with fail
  go_ret
  refine ⟨_, _, rfl, HA.out, HF2.out.size, by simp, HB.out, (VL.mono HV.out fun q hq hd => ⟨hd.1, hq⟩)⟩

set_option maxRecDepth 100000 in
set_option maxHeartbeats 1600000 in
theorem each1_iter (m : List V) (hM : sizeL m ≤ 1099511627776) (B0 B : Nat) (w0 : World) (v : Value) (hB : B0 ≤ B) (hB1 : B < w0.heap.size) (hc : w0.cell? ⟨B, 0, none⟩ = some v) (h : VL (fun q => B0 ≤ q ∧ q < w0.heap.size) w0 m v) :
    IterC Try.prog 42 #[.pointer (some ⟨B, 0, none⟩)] encE B0 w0.heap.size (GE m w0.heap.size) (fun xs => xs.length = m.length) (fun pre => 1 ≤ pre.length ∧ pre.length ≤ m.length) w0 := by
  intro r J Jx W hf hsz hJ hJx hY h0
  show Calls Try.prog 42 #[.func (.yield r) #[] #[], .pointer (some ⟨B, 0, none⟩)] W _
  have hll := len_le_sizeL m
  have hcW := hf.cell hc not_false
  have HVL := hid h
  obtain ⟨a, cap, us, rfl, hcap, hmx, hn, hb, hi⟩ := h
  have HB := hid hb; have HI := hid hi; have HM := hid hM; have HF := hid hf; have HSZ := hid hsz; have HJ := hid hJ; have HY := hid hY; have H0 := hid h0; have HBB := hid hB; have HBB1 := hid hB1
  have hmI : (m.length : Int) ≤ 1099511627776 := by omega
  clear hM hf hsz hJ hJx hY h0 hb hi hn hc hB hB1 hll
  go_enter Try.func42, Try.ntmps42
  go_wp2_with fail
  go_loopw [7] (fun i wr => ∃ pre : List (Nat × V × Array Value), pre.length ≤ m.length ∧ i = .int .i64 pre.length ∧ Hid (J pre wr) ∧ Hid (Fr (fun q => q < B0 ∨ w0.heap.size ≤ q) w0 wr) ∧ Hid (w0.heap.size + 2 ≤ wr.heap.size)) (fun i _ => m.length - (intOf i).toNat)
  case atStart => exact ⟨[], Nat.zero_le _, rfl, H0, hid (HF.out.mono fun _ _ h => h.elim), HSZ⟩
  case round =>
    obtain ⟨pre, hk, rfl, HJp, HFr, HSr⟩ := hrel
    by_cases hlt : pre.length < m.length
    · obtain ⟨b, o, y, va, c1, rfl, hD, hy, hv, e0, e1, e2, e3⟩ := VL.elem HB.out HI.out pre.length hlt
      have hlt' : (pre.length : Int) < m.length := by omega
      have hnS : ¬ (b < B0 ∨ w0.heap.size ≤ b) := by omega
      have hx := sizeL_mem hy
      replace e0 := HFr.out.cell e0 hnS
      replace e1 := HFr.out.cell e1 hnS
      replace e2 := HFr.out.cell e2 hnS
      replace e3 := HFr.out.cell e3 hnS
      have hvr := hv.frame HFr.out (fun q hq => by omega)
      have HFA := hid ((Fr.refl (fun _ => False) wr).alloc (.cells #[.int .i64 y.k, .int .i64 y.n, .string y.s, .slice va y.l.length c1] 30))
      have HG := hid (heap_alloc_new wr (.cells #[.int .i64 y.k, .int .i64 y.n, .string y.s, .slice va y.l.length c1] 30))
      have HC := hid (fun (w2 : World) (hf2 : Fr (fun _ => False) wr w2) => vclone_any y.size y (Nat.le_refl _) (by have := HM.out; omega) _ w2 _ (hvr.frame hf2 fun _ _ => id))
      have HYL := hid hy
      clear hv hvr hx hD hnS hy
      go_upto_region 3 with fail
      generalize hW2 : wr.alloc (.cells #[.int .i64 y.k, .int .i64 y.n, .string y.s, .slice va y.l.length c1] 30) = W2 at *
      clear hW2 e0 e1 e2 e3
      have d0 : W2.cell? ⟨wr.heap.size, 0, none⟩ = some (.int .i64 y.k) := by rw [cell_of_row _ _ 0 _ _ _ HG.out]; rfl
      have d1 : W2.cell? ⟨wr.heap.size, 1, none⟩ = some (.int .i64 y.n) := by rw [cell_of_row _ _ 1 _ _ _ HG.out]; rfl
      have d2 : W2.cell? ⟨wr.heap.size, 2, none⟩ = some (.string y.s) := by rw [cell_of_row _ _ 2 _ _ _ HG.out]; rfl
      have d3 : W2.cell? ⟨wr.heap.size, 3, none⟩ = some (.slice va y.l.length c1) := by rw [cell_of_row _ _ 3 _ _ _ HG.out]; rfl
      refine (wpIn_wide (n := 0)).1 ?_
      gi_wp2_with fail
      refine ⟨trivial, rfl, callsIn_wide.2 ((HC.out W2 HFA.out).mono ?_)⟩
      rintro e w3 ⟨u', rfl, hf3, hv3, xs3, ho3⟩
      have HF3 := hid (HFA.out.trans' hf3)
      have hsz3 : w0.heap.size + 2 ≤ W2.heap.size := Nat.le_trans HSr.out HFA.out.size
      have hJ3 := HJ.out _ _ _ HJp.out HF3.out
      have hG3 : GE m w0.heap.size pre (pre.length, y, u') w3 := ⟨rfl, HYL.out, hv3.mono fun q _ hd => ⟨Nat.le_trans hsz3 hd.1, hd.2⟩, xs3, ownsRow_up ho3 hsz3⟩
      obtain ⟨fn, tmps, assign, body, hy, hR⟩ := HY.out pre (pre.length, y, u') w3 hJ3 hG3
      have HK3 := hid ((HFr.out.trans' (HF3.out.mono fun _ _ h => h.elim)))
      dsimp only [encE] at hy
      clear hv3 ho3 hJ3 hG3 hf3 hsz3 d0 d1 d2 d3
      have hpm : IntKind.i64.wrap ((pre.length : Int) + 1) = (pre.length : Int) + 1 := IntWalk.i64_in _ (by omega)
      gi_wp2_with fail
      refine ⟨rfl, hR.mono ?_⟩
      clear hy hR
      rintro e w4 (⟨rfl, hJ4, hk4⟩ | ⟨rfl, hJx4⟩)
      · have HJ4 := hid hJ4
        have HK4 := hid (HK3.out.trans' (hk4.mono fun _ _ h => h))
        have HS4 := hid (show w0.heap.size + 2 ≤ w4.heap.size from Nat.le_trans HSr.out (Nat.le_trans HF3.out.size hk4.size))
        clear hJ4 hk4
        gi_wp2_with fail
        go_wp2_with fail
        go_roundw
        case rel => exact ⟨pre ++ [(pre.length, y, u')], by simp; omega, by simp, HJ4, HK4, HS4⟩
        case measure => simp [intOf]; omega
      · have HJ4 := hid hJx4
        clear hJx4
        gi_wp2_with fail
        go_wp2_with fail
        refine bodyPost_ret (results_none rfl _ _ _) rfl ?_
        exact ⟨⟨_, rfl⟩, .inr ⟨pre ++ [(pre.length, y, u')], ⟨by simp, by simp; omega⟩, HJ4.out⟩⟩
    · obtain ⟨hpl⟩ : Nonempty (pre.length = m.length) := ⟨by omega⟩
      have hlt' : ¬ (pre.length : Int) < m.length := by omega
      go_wp2_with fail
      go_end0
      exact ⟨⟨_, rfl⟩, .inl ⟨pre, hpl, HJp.out⟩⟩
end Go.Proofs.Ytebanmigaikhhaa
