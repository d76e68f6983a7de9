/- The document's Fits of a list, and what it makes. -/
import Derived.Test.YtebanmigaikhhaaRefBulk
import Derived.Test.YtebanmigaikhhaaSeqE
namespace Go.Proofs.Ytebanmigaikhhaa
open Go.RowKit

set_option maxHeartbeats 1600000 in
theorem rfits_ok (l : List V) (hK : kindedL l) (x : V) (hx : x = .mk 4 0 ⟨#[]⟩ l) (hM : x.size ≤ 1099511627776) (D : Nat → Prop) (w : World) (u : Array Value) (h : VIn D w x u) :
    Calls Try.prog 21 #[.agg u] w fun e w' => e = .returned (.int .i64 (mcode l)) ∧ Fr (fun _ => False) w w' := by
  have hkx : x.kinded := by rw [hx]; exact ⟨fun _ => rfl, fun h => absurd rfl h, hK⟩
  have hdx : x.deep = 1 + deepL l := by rw [hx, V.deep]
  have hsx : x.size = 1 + sizeL l := by rw [hx, V.size]; rfl
  have hc1 := rdeep_ok x.size x (Nat.le_refl _) hkx hM D
  have hc2 := rsize_ok x.size x (Nat.le_refl _) hkx hM D
  rw [hdx] at hc1
  rw [hsx] at hc2
  obtain ⟨v, rfl, a, cap, us, rfl, -⟩ := id h.open
  have hF : Fr (fun _ => False) w (w.alloc (.cells #[.int .i64 x.k, .int .i64 x.n, .string x.s, .slice a x.l.length cap] 30)) := (Fr.refl _ _).alloc _
  have hb1 : (w.alloc (.cells #[.int .i64 x.k, .int .i64 x.n, .string x.s, .slice a x.l.length cap] 30)).heap[w.heap.size]? = some (.cells #[.int .i64 x.k, .int .i64 x.n, .string x.s, .slice a x.l.length cap] 30) := heap_alloc_new w _
  have HC1 := hid hc1; have HC2 := hid hc2; have HF := hid hF; have HH := hid h; have HB := hid hb1
  have hdl := deepL_le l
  have hd40 : 1 + deepL l ≤ 1099511627777 := by omega
  have hs40 : 1 + sizeL l ≤ 1099511627777 := by omega
  have HMC := hid (show mcode l = if 40 < 1 + deepL l then 9 else if 4096 < 1 + sizeL l then 14 else 0 from rfl)
  clear hc1 hc2 hF h hb1 hdl hdx hsx hkx hx hM
  generalize 1 + deepL l = n at *
  generalize 1 + sizeL l = m at *
  go_enter Try.func21, Try.ntmps21
  go_wp2_with fail
  refine (HC1.out _ _ (HH.out.frame HF.out fun _ _ => id)).mono ?_
  rintro e w2 ⟨rfl, hf2⟩
  have hb := hf2.heap HB.out not_false
  have d0 : w2.cell? ⟨w.heap.size, 0, none⟩ = some (.int .i64 x.k) := by rw [cell_of_row w2 _ 0 _ _ _ hb]; rfl
  have d1 : w2.cell? ⟨w.heap.size, 1, none⟩ = some (.int .i64 x.n) := by rw [cell_of_row w2 _ 1 _ _ _ hb]; rfl
  have d2 : w2.cell? ⟨w.heap.size, 2, none⟩ = some (.string x.s) := by rw [cell_of_row w2 _ 2 _ _ _ hb]; rfl
  have d3 : w2.cell? ⟨w.heap.size, 3, none⟩ = some (.slice a x.l.length cap) := by rw [cell_of_row w2 _ 3 _ _ _ hb]; rfl
  have HF2 := hid (HF.out.trans' hf2)
  clear hf2 hb
  by_cases hn : (40 : Int) < n
  · go_wp2
    go_ret
    exact ⟨ret_int (by rw [HMC.out, if_pos (by omega)]; rfl), HF2.out⟩
  · have hn' : decide ((40 : Int) < n) = false := by simpa using hn
    go_wp2_with fail
    refine (HC2.out _ _ (HH.out.frame HF2.out fun _ _ => id)).mono ?_
    rintro e w3 ⟨rfl, hf3⟩
    have HF3 := hid (HF2.out.trans' hf3)
    clear hf3 d0 d1 d2 d3
    by_cases hm : (4096 : Int) < m
    · go_wp2
      go_ret
      exact ⟨ret_int (by rw [HMC.out, if_neg (by omega), if_pos (by omega)]; rfl), HF3.out⟩
    · have hm' : decide ((4096 : Int) < m) = false := by simpa using hm
      go_wp2
      go_ret
      exact ⟨ret_int (by rw [HMC.out, if_neg (by omega), if_neg (by omega)]; rfl), HF3.out⟩

set_option maxHeartbeats 1600000 in
theorem rmade_any (l : List V) (hK : kindedL l) (hM : sizeL l ≤ 1099511627000) (w : World) (v : Value) (h : VL T w l v) : Calls Try.prog 51 #[v] w (MadePost w (pMade l)) := by
  have hcl := rfits_ok l hK _ rfl (by rw [V.size, show (ByteArray.size ⟨#[]⟩) = 0 from rfl]; omega) T w _ (h.close 4 0 ⟨#[]⟩)
  obtain ⟨a, c, us, rfl, -⟩ := id h
  have HCL := hid hcl; have HH := hid h
  unfold MadePost
  clear hcl h
  by_cases hm : mcode l = 0
  · have hml : mlist l = l := by unfold mlist; rw [if_pos hm]
    rw [hm] at HCL
    have HMC := hid hm; have HML := hid hml
    clear hm hml
    go_enter Try.func51, Try.ntmps51
    go_wp2_with fail
    refine HCL.out.mono ?_
    rintro e w2 ⟨rfl, hf2⟩
    have HF2 := hid hf2
    clear hf2
    go_wp2_with fail
    go_ret2
    exact ⟨_, by rw [show (pMade l).2 = 0 from congrArg Int.ofNat HMC.out]; rfl, HF2.out, by rw [show (pMade l).1 = l from HML.out]; exact HH.out.fr HF2.out⟩
  · have hml : mlist l = [] := by unfold mlist; rw [if_neg hm]
    obtain ⟨m, hmm⟩ : ∃ m, mcode l = m := ⟨_, rfl⟩
    rw [hmm] at HCL hm
    have hb : ((m : Int) != 0) = true := by simp; omega
    have HMC := hid hmm; have HML := hid hml
    clear hml hmm
    go_enter Try.func51, Try.ntmps51
    go_wp2_with fail
    refine HCL.out.mono ?_
    rintro e w2 ⟨rfl, hf2⟩
    have HF2 := hid hf2
    clear hf2
    go_wp2_with fail
    go_ret2
    exact ⟨_, by rw [show (pMade l).2 = m from congrArg Int.ofNat HMC.out]; rfl, HF2.out, by rw [show (pMade l).1 = [] from HML.out]; exact VL.nil _ _⟩
end Go.Proofs.Ytebanmigaikhhaa
