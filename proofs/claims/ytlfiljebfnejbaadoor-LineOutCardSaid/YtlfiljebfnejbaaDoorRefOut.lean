/- The document's queue of lines: Texts, Used. -/
import Derived.Test.YtlfiljebfnejbaaDoorOutTake
namespace Go.Proofs.YtlfiljebfnejbaaDoor
open Go.RowKit

/-- The document's queue in block X: its list is a whole row of its own (an element may be cut off ahead). -/
structure RAt (base : Nat) (w : World) (X : Nat) (most lost : Int) (lv : Value) (L : List (List UInt8)) : Prop where
  heap : w.heap[X]? = some (.cells #[.int .i64 most, .int .i64 lost, lv] 39 (0, 0))
  own : OwnO base 9 w lv L.length (sV (txt L))
  le : base ≤ X
theorem RAt.cells {base X : Nat} {w : World} {most lost : Int} {lv : Value} {L : List (List UInt8)} (h : RAt base w X most lost lv L) :
    w.cell? ⟨X, 0, none⟩ = some (.int .i64 most) ∧ w.cell? ⟨X, 1, none⟩ = some (.int .i64 lost) ∧ w.cell? ⟨X, 2, none⟩ = some lv ∧ ∀ i, w.frozen? ⟨X, i, none⟩ = false := by
  refine ⟨?_, ?_, ?_, fun i => frozen_of_row _ _ i _ _ h.heap⟩
  all_goals (rw [cell_of_row _ _ _ _ _ _ h.heap]; rfl)
theorem RAt.frame {base X : Nat} {w w' : World} {most lost : Int} {lv : Value} {L : List (List UInt8)} {S : Nat → Prop} (h : RAt base w X most lost lv L) (hf : Fr S w w') (h1 : ¬ S X) (h2 : ∀ k, lv.ownBlock = some k → ¬ S k) : RAt base w' X most lost lv L :=
  ⟨hf.heap h.heap h1, h.own.frame hf h2, h.le⟩

set_option maxRecDepth 100000 in
set_option maxHeartbeats 1600000 in
theorem rused_any (base X : Nat) (most lost : Int) (lv : Value) (L : List (List UInt8)) (w : World) (hR : RAt base w X most lost lv L) (hu : usedB L ≤ 2097152) :
    Calls Tryd.prog 19 #[.pointer (some ⟨X, 0, none⟩)] w fun e w' => e = .returned (.int .i64 (usedB L : Nat)) ∧ w = w' := by
  obtain ⟨c0, c1, c2, cz⟩ := hR.cells
  obtain ⟨la, lc, rfl, hlc, hlm, hln, hls⟩ := hR.own.shape
  have HLS := hid hls; have HR := hid hR; have HU := hid hu
  have hll := len_usedB L
  have hlI : (L.length : Int) ≤ 2097152 := by omega
  clear hls hR hu hlc hlm hln hll
  go_enter Tryd.func19, Tryd.ntmps19
  go_wp2_with fail
  go_loopw [3, 4] (fun v i wr => ∃ k : Nat, k ≤ L.length ∧ i = .int .i64 k ∧ v = .int .i64 (usedB (L.take k) : Nat) ∧ w = wr) (fun _ i _ => L.length - (intOf i).toNat)
  case atStart => exact ⟨0, Nat.zero_le _, rfl, rfl, rfl⟩
  case round =>
    obtain ⟨k, hk, rfl, rfl, rfl⟩ := hrel
    by_cases hlt : k < L.length
    · obtain ⟨b1, o1, rfl, hc1⟩ := HLS.out k hlt
      have hx : (sV (txt L))[k]? = some (.string ⟨(L.getD k []).toArray⟩) := by simp [sV, txt, List.getD, hlt]
      rw [hx] at hc1
      have htk : usedB (L.take (k + 1)) = usedB (L.take k) + ((L.getD k []).length + 1) := by rw [take_snoc L k [] hlt, usedB_snoc]
      have hub : usedB (L.take (k + 1)) ≤ 2097152 := by
        have : usedB L = usedB (L.take (k + 1)) + usedB (L.drop (k + 1)) := by rw [← usedB_app, List.take_append_drop]
        have := HU.out
        omega
      generalize L.getD k [] = y at *
      have hys : (ByteArray.mk y.toArray).size = y.length := by simp [ByteArray.size]
      have h1 : (usedB (L.take k) : Int) + y.length + 1 ≤ 2097152 := by omega
      have HT := hid htk
      clear htk hub hx
      go_wp2_with fail
      go_roundw
      case rel => exact ⟨k + 1, by omega, by go_num, by congr 1; rw [HT.out]; omega, trivial⟩
      case measure => simp [intOf]; omega
    · obtain rfl : k = L.length := by omega
      rw [List.take_length]
      go_wp2_with fail
      go_ret
      exact ⟨rfl, rfl⟩

set_option maxHeartbeats 1600000 in
theorem texts_any (v : Value) (l : List ByteArray) (w : World) (D : Nat → Prop) (hB : Ss D w v l) (hl : l.length ≤ 2097152) :
    Calls Tryd.prog 24 #[v] w fun e w' => ∃ v', e = .returned v' ∧ w'.ownsRow w.heap.size 9 1 v' l.length (sV l) ∧ Fr (fun _ => False) w w' := by
  obtain ⟨a, c, rfl, hlc, hcm, hk⟩ := hB
  have hlI : (l.length : Int) ≤ 2097152 := by omega
  have HK := hid hk
  clear hk hlc hcm
  obtain ⟨ii, i1, i2, i3, i4⟩ := info_parts' Tryd.info_str
  go_enter Tryd.func24, Tryd.ntmps24
  go_wp2_with (at_make; refine wpList_make_own _ rfl _ _ 29 rfl w.heap.size 9 ii (.string ByteArray.empty) 1 Tryd.underlying29 i1 i2 i3 .i64 .i64 _ l.length rfl rfl rfl (by rw [i4]; omega) (by unfold maxLen; omega) (Nat.le_refl _) ?_; intro W hown0 hgrow0)
  have hF0 : Fr (fun _ => False) w W := (Fr.of_grownBy hgrow0).mono (fun _ _ e => by cases e)
  have HF0 := hid hF0; have HO0 := hid hown0
  clear hF0 hown0 hgrow0 i1 i2 i3 i4
  go_loopw [3, 4] (fun v i wr => ∃ k : Nat, k ≤ l.length ∧ i = .int .i64 k ∧ wr.ownsRow w.heap.size 9 1 v (l.take k).length (sV (l.take k)) ∧ Fr (fun _ => False) w wr) (fun _ i _ => l.length - (intOf i).toNat)
  case atStart => exact ⟨0, Nat.zero_le _, rfl, by rw [List.take_zero]; exact HO0.out, HF0.out⟩
  case round =>
    clear HO0 HF0
    obtain ⟨k, hk, rfl, hO, hf⟩ := hrel
    by_cases hlt : k < l.length
    · obtain ⟨b, o, rfl, hDb, hcw⟩ := HK.out k hlt
      have hcr := hf.cell hcw not_false
      have hst := take_snoc l k ByteArray.empty hlt
      have hln := List.length_take_le k l
      have htl : (l.take k).length = k := by simp; omega
      have HTL := hid htl
      clear htl
      generalize l.getD k ByteArray.empty = x at *
      have hown := World.ownsRow.alloc hO (.cells #[.string x] 9)
      have hce := cell_new1 wr (.string x) 9 (0, 0)
      have hbs : w.heap.size ≤ (wr.alloc (.cells #[.string x] 9)).heap.size := by have := hf.size; simp; omega
      have hn1 : (l.take k).length + 1 ≤ 1099511627776 := by omega
      have HST := hid hst; have HOWA := hid hown; have HCE := hid hce; have HBS := hid hbs; have HN1 := hid hn1; have HF := hid hf
      clear hst hln hown hce hbs hn1 hO hf hcw
      go_wp2_with (at_builtin; go_must (refine wpList_append1 rfl (.tmp 14) (.tmp 19) 29 rfl 9 (.string ByteArray.empty) 16 Tryd.underlying29 Tryd.info_str rfl _ rfl w.heap.size (l.take k).length (sV (l.take k)) HOWA.out wr.heap.size 1 (.string x) rfl HCE.out rfl HN1.out (by decide) HBS.out ?_))
      intro g cap w3 ho3 hf3 _
      have hF3 : Fr (fun _ => False) w w3 := (HF.out.alloc (.cells #[.string x] 9)).trans hf3 (fun _ _ h => h) (fun q hq e => by
        have := HOWA.out.lt q e.symm
        omega)
      have hO3 : w3.ownsRow w.heap.size 9 1 (.slice (some ⟨g, 0, none⟩) (k + 1) cap) (l.take (k + 1)).length (sV (l.take (k + 1))) := by
        rw [HST.out]
        have h1 : w3.ownsRow w.heap.size 9 1 (.slice (some ⟨g, 0, none⟩) (k + 1) cap) ((l.take k).length + 1) (sV (l.take k) ++ [.string x]) := by rw [HTL.out]; exact ho3
        have e1 : (l.take k ++ [x]).length = (l.take k).length + 1 := by simp
        rw [e1]
        simpa [sV] using h1
      have HF3 := hid hF3; have HO3 := hid hO3
      clear ho3 hf3 hF3 hO3
      go_wp2_with fail
      go_roundw
      case rel => exact ⟨k + 1, by omega, by go_num, HO3.out, HF3.out⟩
      case measure => simp [intOf]; omega
    · obtain rfl : k = l.length := by omega
      rw [List.take_length] at hO
      go_wp2_with fail
      go_ret
      exact ⟨_, rfl, hO, hf⟩
end Go.Proofs.YtlfiljebfnejbaaDoor
