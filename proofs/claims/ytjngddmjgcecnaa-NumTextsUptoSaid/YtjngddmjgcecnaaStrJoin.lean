/- str.Join of two texts with nothing between. -/
import Derived.Test.YtjngddmjgcecnaaNumD
import Derived.Lib.AppendStr
namespace Go.Proofs.Ytjngddmjgcecnaa
open Go.RowKit

theorem Try.info_b8 : (Try.prog.info? 5).map (fun i => (i.zero, i.size, i.bytes)) = some (some (.int .u8 0), 1, 1) := by kernel_rfl
theorem run_append_text (base : Nat) (v : Value) (n : Nat) (xs : List Value) (w : World) (hown : w.ownsRow base 5 1 v n xs) (s : ByteArray) (h63 : n + s.size ≤ 1073741824) (hbase : base ≤ w.heap.size) (ty : TypeId) :
    ∃ a' c' w', (Builtin.append_ #[65, 9] ty #[v, .string s]).run Try.prog w = .ok (.slice a' (n + s.size) c') w' ∧ w'.ownsRow base 5 1 (.slice a' (n + s.size) c') (n + s.size) (xs ++ Lib.strCells s) ∧ Fr (fun k => some k = v.ownBlock) w w' := by
  obtain ⟨i, hi, he⟩ := Option.map_eq_some_iff.1 Try.info_b8
  simp only [Prod.mk.injEq] at he
  obtain ⟨z1, z2, z3⟩ := he
  obtain ⟨v', w', hr, ho, hg, -⟩ := Lib.run_append_own_string (P := Try.prog) (w := w) base 65 9 ty 5 i Try.underlying65 Try.underlying9 hi z1 z2 z3 v n xs hown s (by simp [maxLen]; omega) (by omega) hbase
  obtain ⟨a, c, rfl, -⟩ := own_len ho
  exact ⟨a, c, w', hr, ho, Fr.of_grownBy hg⟩

def pJoin (a b : ByteArray) : ByteArray × Int := if a.size + b.size < 4096 then (a ++ b, 0) else (⟨#[]⟩, 14)
set_option maxRecDepth 100000 in
set_option maxHeartbeats 1600000 in
theorem join2_any (a b : ByteArray) (g : Nat) (w : World) (h0 : w.cell? ⟨g, 0, none⟩ = some (.string a)) (h1 : w.cell? ⟨g, 1, none⟩ = some (.string b)) (ha : a.size ≤ 3000) (hb : b.size ≤ 3000) :
    Calls Try.prog 32 #[.string ⟨#[]⟩, .slice (some ⟨g, 0, none⟩) 2 2] w fun e w' => e = .returned (.tuple #[.string (pJoin a b).1, .int .i64 (pJoin a b).2]) ∧ Fr (fun _ => False) w w' := by
  have hg : g < w.heap.size := World.block_lt_of_cell? _ ⟨g, 0, none⟩ h0
  have hz : (ByteArray.size ⟨#[]⟩) = 0 := rfl
  obtain ⟨a1, c1, W1, hr1, ho1, hf1⟩ := run_append_text w.heap.size _ 0 [] w (World.ownsRow_nil w _ _ 1) a (by omega) (Nat.le_refl _) 65
  have hF1 : Fr (fun _ => False) w W1 := hf1.trans (Fr.refl (fun _ => False) W1) (U := fun _ => False) (fun q _ h => by cases h) (fun _ _ h => h)
  obtain ⟨a2, c2, W2, hr2, ho2, hf2⟩ := run_append_text w.heap.size _ _ _ W1 ho1 ⟨#[]⟩ (by rw [hz]; omega) hF1.size 65
  have hF2 : Fr (fun _ => False) w W2 := hF1.trans hf2 (U := fun _ => False) (fun _ _ h => h) (fun q hq e => by have := (ho1.lt q e.symm).1; omega)
  obtain ⟨a3, c3, W3, hr3, ho3, hf3⟩ := run_append_text w.heap.size _ _ _ W2 ho2 b (by rw [hz]; omega) hF2.size 65
  have hF3 : Fr (fun _ => False) w W3 := hF2.trans hf3 (U := fun _ => False) (fun _ _ h => h) (fun q hq e => by have := (ho2.lt q e.symm).1; omega)
  simp only [Nat.zero_add, Nat.add_zero, hz] at hr1 hr2 hr3 ho3
  have hcv := conv_bytes (Bs.own (l := a.data.toList ++ b.data.toList) (w := W3) (base := w.heap.size) (e := 5) (v := .slice a3 (a.size + b.size) c3) (by
    have hl : (a.data.toList ++ b.data.toList).length = a.size + b.size := by rw [List.length_append, Array.length_toList, Array.length_toList]; rfl
    rw [hl]
    have hx : Lib.strCells ⟨#[]⟩ = [] := rfl
    rw [hx] at ho3
    simpa [bV, Lib.strCells] using ho3)) 65 5 9 Try.underlying65 Try.underlying5 Try.underlying9
  have hab : (⟨(a.data.toList ++ b.data.toList).toArray⟩ : ByteArray) = a ++ b := by
    apply ByteArray.ext
    simp
  rw [hab] at hcv
  have HJ := hid (show pJoin a b = if a.size + b.size < 4096 then (a ++ b, 0) else (⟨#[]⟩, 14) from rfl)
  have g0 := h0
  have k0 := hF1.cell h0 not_false
  have k1 := hF1.cell h1 not_false
  have HF1 := hid hF1; have HF2 := hid hF2; have HF3 := hid hF3
  have HK0 := hid k0; have HK1 := hid k1; have HH0 := hid h0; have HH1 := hid h1
  have hai : (a.size : Int) ≤ 3000 := by omega
  have hbi : (b.size : Int) ≤ 3000 := by omega
  have HR1 := hid hr1; have HR2 := hid hr2; have HR3 := hid hr3; have HCV := hid hcv
  clear hr1 hr2 hr3 ho1 ho2 ho3 hf1 hf2 hf3 hF1 hF2 hF3 hcv hab g0 k0 k1 h0 h1 hg
  go_enter Try.func32, Try.ntmps32
  go_wp2_with fail
  go_loopw [6, 11] (fun v i wr => (i = .int .i64 0 ∧ v = .slice none 0 0 ∧ wr = w) ∨ (i = .int .i64 1 ∧ v = .slice a1 a.size c1 ∧ wr = W1) ∨ (i = .int .i64 2 ∧ v = .slice a3 (a.size + b.size) c3 ∧ wr = W3 ∧ a.size + b.size < 4096)) (fun _ i _ => 2 - (intOf i).toNat)
  case atStart => exact .inl ⟨rfl, rfl, rfl⟩
  case round =>
    rcases hrel with ⟨rfl, rfl, rfl⟩ | ⟨rfl, rfl, rfl⟩ | ⟨rfl, rfl, rfl, hlt⟩
    · have h0 := HH0.out
      have q1 : ¬ (4096 : Int) ≤ a.size := by omega
      go_wp2_with (at_builtin; go_must (refine Lib.wpList_append_run _ rfl _ _ _ _ rfl _ _ rfl rfl _ _ HR1.out ?_))
      go_roundw
      case rel => exact .inr (.inl (by simp))
      case measure => simp [intOf]
    · have h0 := HK0.out
      have h1 := HK1.out
      have q1 : ¬ (4096 : Int) - a.size ≤ 0 := by omega
      by_cases hlt : a.size + b.size < 4096
      · have q2 : ¬ (4096 : Int) - a.size ≤ b.size := by omega
        go_upto_region 9 with (at_builtin; go_must (refine Lib.wpList_append_run _ rfl _ _ _ _ rfl _ _ rfl rfl _ _ HR2.out ?_))
        go_wp2_with (at_builtin; go_must (refine Lib.wpList_append_run _ rfl _ _ _ _ rfl _ _ rfl rfl _ _ HR3.out ?_))
        go_roundw
        case rel => exact .inr (.inr (by simp [hlt]))
        case measure => simp [intOf]
      · have q2 : (4096 : Int) - a.size ≤ b.size := by omega
        go_upto_region 9 with (at_builtin; go_must (refine Lib.wpList_append_run _ rfl _ _ _ _ rfl _ _ rfl rfl _ _ HR2.out ?_))
        go_wp2_with fail
        go_ret2
        exact ⟨by rw [HJ.out, if_neg hlt]; rfl, HF2.out⟩
    · have hcv := HCV.out
      go_wp2_with fail
      go_ret2
      exact ⟨by rw [HJ.out, if_pos hlt]; rfl, HF3.out⟩
end Go.Proofs.Ytjngddmjgcecnaa
