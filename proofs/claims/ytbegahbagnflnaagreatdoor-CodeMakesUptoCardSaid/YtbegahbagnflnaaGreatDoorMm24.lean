/- EncN, CodeBy, RdE, CodeMakes, ValRow, NodRow: several texts in one: a claim has at most 60 files -/
import Derived.Test.YtbegahbagnflnaaGreatDoorMm23
import Derived.Test.YtbegahbagnflnaaGreatDoorMm14
import Derived.Test.YtbegahbagnflnaaGreatDoorMm19
import Derived.Test.YtbegahbagnflnaaGreatDoorMm20
import Derived.Test.YtbegahbagnflnaaGreatDoorMm10
import Derived.Test.YtbegahbagnflnaaGreatDoorMm21
import Derived.Test.YtbegahbagnflnaaGreatDoorMm02
import Derived.Test.YtbegahbagnflnaaGreatDoorRows
import Derived.ChangeArms
import Derived.Test.YtbegahbagnflnaaGreatDoorMm08
set_option linter.unusedSimpArgs false
set_option linter.unusedVariables false
set_option linter.unnecessarySimpa false
namespace Go.Proofs.YtbegahbagnflnaaGreatDoor
section
open Go.RowKit

theorem OBx.drew {base : Nat} {w0 w : World} {v0 v : Value} {l : List UInt8} (h : OBx base w0 v0 w v l) : OBx base w0 v0 w.drew v l := ⟨((Fr.refl (fun _ => False) w).drew).own h.1 fun _ _ => not_false, h.2.1.drew, h.2.2⟩
/-- No value of theirs is a list; texts are short. -/
def FlatL (l : List Nd) : Prop := ∀ y ∈ walkL l, y.v.k ≠ 4 ∧ y.v.s.size ≤ 1073741824
end
section
open Go.RowKit

end
section
open Go.RowKit

/-- A program as it is read: where it is amiss, none. -/
def rProg (B : List UInt8) (s : RS) : List Nd × RS :=
  if (rNds B 41 ⟨4096, s⟩).2.s.ok = true ∧ (pValid (rNds B 41 ⟨4096, s⟩).1 7).c = 0 then ((rNds B 41 ⟨4096, s⟩).1, (rNds B 41 ⟨4096, s⟩).2.s) else ([], (rNds B 41 ⟨4096, s⟩).2.s.fail)
theorem Sent17.five {w : World} {pa : Nat → Addr} (h : Sent17 w pa) : Sent5 w pa := ⟨fun i hi => h.s i (by
  have hi' : i = 2 ∨ i = 3 ∨ i = 4 ∨ i = 5 ∨ i = 11 := by simpa using hi
  omega)⟩
theorem Sents.five {w : World} {pa : Nat → Addr} (h : Sents w pa) : Sent5 w pa := ⟨fun i hi => h i (by
  have hi' : i = 2 ∨ i = 3 ∨ i = 4 ∨ i = 5 ∨ i = 11 := by simpa using hi
  omega)⟩
theorem Sents.bound {w : World} {pa : Nat → Addr} (h : Sents w pa) : sentB ≤ w.heap.size := by
  obtain ⟨i, hi, he⟩ : ∃ i, i < 17 ∧ sentG.getD i 0 + 1 = sentB := ⟨sentG.findIdx (fun x => x + 1 == sentB), by decide, by decide⟩
  have := World.block_lt_of_cell? _ _ (h i hi)
  simp only at this
  omega
theorem sgb_le : 7 ≤ sentB := by decide
end
section
open Go.RowKit

theorem same_fltM {w : World} {pa : Nat → Addr} (h : Sent17 w pa) {f : Flt} {v : Value} (hv : ErrIs pa w f v) : Calls Tryz.prog 20 #[v, faultF f] w fun e w' => e = .returned (.bool true) ∧ Fr (fun _ => False) w w' := by
  have := same_err h hv f.c f.p f.l
  simpa [faultF] using this
theorem Sent17.boundM {w : World} {pa : Nat → Addr} (h : Sent17 w pa) : sentB ≤ w.heap.size := Sents.bound h.s
set_option maxRecDepth 100000 in
set_option maxHeartbeats 6400000 in
theorem codeMakes_any (pa : Nat → Addr) (v : Value) (l : List Nd) (w : World) (h : NL (fun _ => True) w l v) (hl : szL l ≤ 1048576) (hE : Sent17 w pa) :
    Calls Tryz.prog 4 #[v] w fun e w' => e = .returned (.bool true) ∧ Fr (fun _ => False) w w' := by
  have hcl := cntL_szL l
  have hg := Nat.le_trans sgb_le hE.boundM
  have HFI := hid (cfirst_any pa w hE.five hg)
  have HNO := hid (fun (w2 : World) (hf : Fr (fun _ => False) w w2) => wNodes_any l (by omega) 1000 (by decide) _ w2 v (h.frame hf fun _ _ => not_false))
  have HCO := hid (fun (w2 : World) (hf : Fr (fun _ => False) w w2) => compile_any pa l hl _ w2 v (h.frame hf fun _ _ => not_false) (hE.five.frame hf) (Nat.le_trans hg hf.size))
  have HVA := hid (fun (w2 : World) (hf : Fr (fun _ => False) w w2) => dvalid_any l (by omega) _ w2 v (h.frame hf fun _ _ => not_false))
  have HSA := hid (fun (w2 : World) (hf : Fr (fun _ => False) w w2) (f : Flt) (ev : Value) (hv : ErrIs pa w2 f ev) => same_fltM (hE.frame hf) hv)
  have HDC := hid (fun (w2 : World) (hf : Fr (fun _ => False) w w2) => dcount_any (cntL l + 1) l (by omega) (by omega) _ w2 _ (h.frame hf fun _ _ => not_false))
  have HTV := hid (fun (w2 : World) (hf : Fr (fun _ => False) w w2) => tvars_to (cntL l + 1) l (by omega) hl _ w2 _ (h.frame hf fun _ _ => not_false))
  have HNS := hid (fun (w2 : World) (hf : Fr (fun _ => False) w w2) (v2 : Value) (h2 : NL (fun _ => True) w2 l v2) => nsames_refl l _ _ w2 _ _ h2 (h.frame hf fun _ _ => not_false))
  have HCL := hid (show cntL l ≤ 1048576 by omega)
  have HZ := hid hl
  have HSR := hid (fun (hc : (pValid l 7).c = 0) => show sumR 7 l ≤ 7 * cntL l ∧ sumR 7 l ≤ 28672 ∧ cntL l ≤ 4096 by have := sumR_le l; have := (pValid_ok hc).2.1; omega)
  have HNM := hid (namesL_size l)
  obtain ⟨pv, hpv⟩ : ∃ pv, pValid l 7 = pv := ⟨_, rfl⟩
  rw [hpv] at HVA HCO HSR
  clear hpv
  obtain ⟨fc, fp, fl⟩ := pv
  unfold faultF faultV at HVA HSA
  simp only at HVA HSA
  obtain ⟨a, cap, us, rfl, -⟩ := id h
  clear h hl hE hg hcl
  go_enter Tryz.func4, Tryz.ntmps4
  go_wp2_with fail
  refine HFI.out.mono ?_
  rintro e w1 ⟨rfl, hf1⟩
  have HF1 := hid hf1
  clear hf1 HFI
  go_wp2_with fail
  refine (HNO.out w1 HF1.out).mono ?_
  rintro e w2 ⟨⟨b, rfl⟩, hf2⟩
  have HF2 := hid (HF1.out.trans' hf2)
  clear hf2 HNO
  cases b
  · go_wp2_with fail
    go_ret
    exact ⟨rfl, HF2.out⟩
  go_wp2_with fail
  refine (HCO.out w2 HF2.out).mono ?_
  rintro e w3 ⟨r, ev, rfl, hf3, herr, hcase⟩
  have HF3 := hid (HF2.out.trans' hf3)
  have HER := hid herr
  have HCASE := hid hcase
  clear hf3 herr HCO hcase
  have hcase := HCASE.out
  rcases hcase with ⟨hc, rfl, K, rfl, hbox⟩ | ⟨hc, rfl, t, x, rfl⟩
  · have HC := hid hc; have HBX := hid hbox
    have HS := hid (HSR.out hc)
    clear hc hbox HCASE
    go_wp2_with fail
    refine (HVA.out w3 HF3.out).mono ?_
    rintro e w4 ⟨rfl, hf4⟩
    have HF4 := hid (HF3.out.trans' hf4)
    have HB4 := hid (HBX.out.fr hf4)
    have HE4 := hid (HER.out.frame hf4)
    clear hf4 HVA HBX HER
    go_upto_region 8 with fail
    have hfa := (Fr.refl (fun _ => False) w4).alloc (.cells #[.int .i64 fc, .bool fp, .int .i64 fl, .int .i64 0, .int .i64 0, .string ⟨#[]⟩, .slice none 0 0] 46)
    have HF5 := hid (HF4.out.trans' hfa)
    have HB5 := hid (HB4.out.fr hfa)
    have HSM := hid (HSA.out _ HF5.out _ _ (HE4.out.frame hfa))
    have HH5 := hid (heap_alloc_new w4 (.cells #[.int .i64 fc, .bool fp, .int .i64 fl, .int .i64 0, .int .i64 0, .string ⟨#[]⟩, .slice none 0 0] 46))
    clear hfa HF4 HB4 HE4
    generalize hQ : w4.heap.size = Q at *
    generalize w4.alloc (.cells #[.int .i64 fc, .bool fp, .int .i64 fl, .int .i64 0, .int .i64 0, .string ⟨#[]⟩, .slice none 0 0] 46) = w5 at *
    clear hQ
    have q0 : w5.cell? ⟨Q, 0, none⟩ = some (.int .i64 fc) := by rw [cell_of_row _ _ _ _ _ _ HH5.out]; rfl
    have q1 : w5.cell? ⟨Q, 1, none⟩ = some (.bool fp) := by rw [cell_of_row _ _ _ _ _ _ HH5.out]; rfl
    have q2 : w5.cell? ⟨Q, 2, none⟩ = some (.int .i64 fl) := by rw [cell_of_row _ _ _ _ _ _ HH5.out]; rfl
    have q3 : w5.cell? ⟨Q, 3, none⟩ = some (.int .i64 0) := by rw [cell_of_row _ _ _ _ _ _ HH5.out]; rfl
    have q4 : w5.cell? ⟨Q, 4, none⟩ = some (.int .i64 0) := by rw [cell_of_row _ _ _ _ _ _ HH5.out]; rfl
    have q5 : w5.cell? ⟨Q, 5, none⟩ = some (.string ⟨#[]⟩) := by rw [cell_of_row _ _ _ _ _ _ HH5.out]; rfl
    have q6 : w5.cell? ⟨Q, 6, none⟩ = some (.slice none 0 0) := by rw [cell_of_row _ _ _ _ _ _ HH5.out]; rfl
    go_wp2_with fail
    refine HSM.out.mono ?_
    rintro e w6 ⟨rfl, hf6⟩
    have HF6 := hid (HF5.out.trans' hf6)
    have HB6 := hid (HB5.out.fr hf6)
    clear hf6 q0 q1 q2 q3 q4 q5 q6 HSM HB5
    go_wp2_with fail
    refine (HDC.out w6 HF6.out).mono ?_
    rintro e w7 ⟨rfl, hf7⟩
    have HF7 := hid (HF6.out.trans' hf7)
    have HB7 := hid (HB6.out.fr hf7)
    have HCK := hid (ccheck_any HB7.out (by have := HS.out; omega))
    clear hf7 HDC
    have hs0 : ¬ ((sumR 7 l : Int) + 2 < 0) := by omega
    have hs1 : ¬ (16 * (cntL l : Int) + 16 < (sumR 7 l : Int) + 2) := by have := HS.out; omega
    have hsI : (sumR 7 l : Int) ≤ 28672 := by have := HS.out; omega
    have hcI : (cntL l : Int) ≤ 1048576 := by have := HCL.out; omega
    go_wp2_with fail
    refine HCK.out.mono ?_
    rintro e w8 ⟨rfl, hf8⟩
    have HF8 := hid (HF7.out.trans' hf8)
    have HB8 := hid (HB7.out.fr hf8)
    have HLE := hid (clen_any HB8.out)
    clear hf8 HCK
    go_wp2_with fail
    refine HLE.out.mono ?_
    rintro e w9 ⟨rfl, hf9⟩
    have HF9 := hid (HF8.out.trans' hf9)
    have HB9 := hid (HB8.out.fr hf9)
    have HLE2 := hid (clen_any HB9.out)
    clear hf9 HLE
    go_wp2_with fail
    refine HLE2.out.mono ?_
    rintro e w10 ⟨rfl, hf10⟩
    have HF10 := hid (HF9.out.trans' hf10)
    have HB10 := hid (HB9.out.fr hf10)
    have HSC := hid (csource_any HB10.out (by have := HZ.out; omega))
    clear hf10 HLE2
    go_wp2_with fail
    refine HSC.out.mono ?_
    rintro e w11 ⟨v11, rfl, hn11, hf11⟩
    have HF11 := hid (HF10.out.trans' hf11)
    have HB11 := hid (HB10.out.fr hf11)
    have HN11 := hid (HNS.out w11 HF11.out _ hn11)
    obtain ⟨a11, c11, u11, rfl, -⟩ := id hn11
    clear hf11 hn11 HSC
    go_wp2_with fail
    refine HN11.out.mono ?_
    rintro e w12 ⟨rfl, hf12⟩
    have HF12 := hid (HF11.out.trans' hf12)
    have HB12 := hid (HB11.out.fr hf12)
    clear hf12 HN11
    go_wp2_with (at_builtin; fail)
    refine (HTV.out w12 HF12.out).mono ?_
    rintro e w13 ⟨R0, v13, rfl, ho, hm, -, hlr, hf13⟩
    have HM := hid hm
    have HO := hid ho
    have HF13 := hid hf13
    have HLN := hid (show R0.length ≤ 4096 by have h1 := hlr; have h2 := HS.out.2.2; omega)
    obtain ⟨a13, c13, rfl, -⟩ := own_len ho
    have hfa := (Fr.refl (fun _ => False) w13).alloc fiveO
    have HOA := hid (hfa.own ho fun _ _ => not_false)
    have HFA := hid (hf13.trans' hfa)
    have HCE := hid (five_cell w13)
    clear ho hm hlr hf13 hfa HTV
    go_wp2_with (at_builtin; go_must (refine wpList_appendN rfl (.tmp 66) (.tmp 67) 50 rfl 9 (.string ⟨#[]⟩) 16 Tryz.underlying50 Tryz.info_st rfl _ rfl w12.heap.size R0.length (sV R0) HOA.out (some ⟨w13.heap.size, 0, none⟩) 5 5 (sV five) rfl (by simp [five]) (fun h => by cases h) HCE.out five_one (by have := HLN.out; omega) (by decide) HFA.out.size ?_))
    intro v14 w14 ho14 hf14 hk14
    have hlen5 : (R0 ++ five).length = R0.length + 5 := by rw [List.length_append]; rfl
    have HO14 := hid (show w14.ownsRow w12.heap.size 9 1 v14 (R0 ++ five).length (sV (R0 ++ five)) by rw [hlen5, sv_append]; exact ho14)
    have HF14 := hid (HF12.out.trans' (HFA.out.trans hf14 (U := fun _ => False) (fun _ _ h => h) (fun r hr e => by have := (HO.out.lt r e.symm).1; omega)))
    have HB14 := hid (HB12.out.fr (HFA.out.trans hf14 (U := fun _ => False) (fun _ _ h => h) (fun r hr e => by have := (HO.out.lt r e.symm).1; omega)))
    have HRI := hid (rising_exact (R0 ++ five) (by rw [hlen5]; have := HLN.out; omega) (fun s hs => by
      rcases List.mem_append.1 hs with hs | hs
      · have := HNM.out s ((HM.out s).1 hs); have := HZ.out; omega
      · simp only [five, List.mem_cons, List.not_mem_nil, or_false] at hs
        rcases hs with rfl | rfl | rfl | rfl | rfl <;> decide) _ w14 v14 (Ss.own HO14.out))
    have HMF := hid (show ∀ s, s ∈ R0 ++ five ↔ s ∈ namesL l ∨ s ∈ five from fun s => by rw [List.mem_append, HM.out s])
    clear ho14 hf14 hk14 hlen5
    generalize R0 ++ five = L5 at *
    obtain ⟨a14, c14, rfl, -⟩ := own_len HO14.out
    go_wp2_with fail
    refine HRI.out.mono ?_
    rintro e w15 ⟨R1, v15, rfl, ho15, hm15, hst15, -, hf15⟩
    have HF15 := hid (HF14.out.trans' hf15)
    have HB15 := hid (HB14.out.fr hf15)
    have HM15 := hid (show ∀ s, s ∈ R1 ↔ s ∈ namesL l ∨ s ∈ five from fun s => by rw [hm15 s, HMF.out s])
    have HST := hid hst15
    have HO15 := hid (Ss.own ho15)
    have HCV := hid (cvars_any HB15.out HZ.out)
    obtain ⟨a15, c15, rfl, -⟩ := own_len ho15
    clear ho15 hm15 hst15 hf15 HRI
    go_wp2_with fail
    refine HCV.out.mono ?_
    rintro e w16 ⟨R2, v16, rfl, ho16, hm16, hst16, hf16⟩
    have hRR : R2 = R1 := strictT_unique hst16 HST.out fun s => by rw [hm16 s, HM15.out s]
    subst hRR
    have HF16 := hid (HF15.out.trans' hf16)
    have HB16 := hid (HB15.out.fr hf16)
    have HST2 := hid (sametexts_refl R2 _ _ w16 _ _ (Ss.own ho16) (HO15.out.frame hf16 fun _ _ => not_false))
    obtain ⟨a16, c16, rfl, -⟩ := own_len ho16
    clear ho16 hm16 hst16 hf16 HCV
    go_wp2_with fail
    refine HST2.out.mono ?_
    rintro e w17 ⟨rfl, hf17⟩
    have HF17 := hid (HF16.out.trans' hf17)
    have HB17 := hid (HB16.out.fr hf17)
    have HL1 := hid (cline_any HB17.out (by have := HS.out; omega) (-1))
    clear hf17 HST2
    go_wp2_with fail
    refine HL1.out.mono ?_
    rintro e w18 ⟨n1, rfl, ⟨-, hn1⟩, hf18⟩
    obtain rfl : n1 = 0 := hn1 (.inl (by decide))
    have HF18 := hid (HF17.out.trans' hf18)
    have HB18 := hid (HB17.out.fr hf18)
    have HLE3 := hid (clen_any HB18.out)
    clear hf18 hn1 HL1
    go_wp2_with fail
    refine HLE3.out.mono ?_
    rintro e w19 ⟨rfl, hf19⟩
    have HF19 := hid (HF18.out.trans' hf19)
    have HB19 := hid (HB18.out.fr hf19)
    have HL2 := hid (cline_any HB19.out (by have := HS.out; omega) ((sumR 7 l + 2 : Nat) : Int))
    clear hf19 HLE3
    go_wp2_with fail
    refine HL2.out.mono ?_
    rintro e w20 ⟨n2, rfl, ⟨-, hn2⟩, hf20⟩
    obtain rfl : n2 = 0 := hn2 (.inr (Int.le_refl _))
    have HF20 := hid (HF19.out.trans' hf20)
    clear hf20 hn2 HL2
    go_wp2_with fail
    go_ret
    exact ⟨rfl, HF20.out⟩
  · have HC := hid hc
    clear hc HCASE
    go_wp2_with fail
    refine (HVA.out w3 HF3.out).mono ?_
    rintro e w4 ⟨rfl, hf4⟩
    have HF4 := hid (HF3.out.trans' hf4)
    have HE4 := hid (HER.out.frame hf4)
    clear hf4 HVA HER
    go_upto_region 8 with fail
    have hfa := (Fr.refl (fun _ => False) w4).alloc (.cells #[.int .i64 fc, .bool fp, .int .i64 fl, .int .i64 0, .int .i64 0, .string ⟨#[]⟩, .slice none 0 0] 46)
    have HF5 := hid (HF4.out.trans' hfa)
    have HSM := hid (HSA.out _ HF5.out _ _ (HE4.out.frame hfa))
    have HH5 := hid (heap_alloc_new w4 (.cells #[.int .i64 fc, .bool fp, .int .i64 fl, .int .i64 0, .int .i64 0, .string ⟨#[]⟩, .slice none 0 0] 46))
    clear hfa HF4 HE4
    generalize hQ : w4.heap.size = Q at *
    generalize w4.alloc (.cells #[.int .i64 fc, .bool fp, .int .i64 fl, .int .i64 0, .int .i64 0, .string ⟨#[]⟩, .slice none 0 0] 46) = w5 at *
    clear hQ
    have q0 : w5.cell? ⟨Q, 0, none⟩ = some (.int .i64 fc) := by rw [cell_of_row _ _ _ _ _ _ HH5.out]; rfl
    have q1 : w5.cell? ⟨Q, 1, none⟩ = some (.bool fp) := by rw [cell_of_row _ _ _ _ _ _ HH5.out]; rfl
    have q2 : w5.cell? ⟨Q, 2, none⟩ = some (.int .i64 fl) := by rw [cell_of_row _ _ _ _ _ _ HH5.out]; rfl
    have q3 : w5.cell? ⟨Q, 3, none⟩ = some (.int .i64 0) := by rw [cell_of_row _ _ _ _ _ _ HH5.out]; rfl
    have q4 : w5.cell? ⟨Q, 4, none⟩ = some (.int .i64 0) := by rw [cell_of_row _ _ _ _ _ _ HH5.out]; rfl
    have q5 : w5.cell? ⟨Q, 5, none⟩ = some (.string ⟨#[]⟩) := by rw [cell_of_row _ _ _ _ _ _ HH5.out]; rfl
    have q6 : w5.cell? ⟨Q, 6, none⟩ = some (.slice none 0 0) := by rw [cell_of_row _ _ _ _ _ _ HH5.out]; rfl
    go_wp2_with fail
    refine HSM.out.mono ?_
    rintro e w6 ⟨rfl, hf6⟩
    have HF6 := hid (HF5.out.trans' hf6)
    clear hf6 q0 q1 q2 q3 q4 q5 q6 HSM
    go_wp2_with fail
    go_ret
    exact ⟨rfl, HF6.out⟩
end
section
open Go.ChangeShapes Go.WideShapes Go.ChangeAt Go.RowKit

def in64 (n : Int) : Prop := -9223372036854775808 ≤ n ∧ n ≤ 9223372036854775807
mutual
def V.wf : V → Prop
  | .mk k n _ l => in64 k ∧ in64 n ∧ wfL l
def wfL : List V → Prop
  | [] => True
  | x :: r => V.wf x ∧ wfL r
end
theorem wfL_of : ∀ (l : List V), (∀ (i : Nat) (x : V), l[i]? = some x → x.wf) → wfL l
  | [], _ => trivial
  | x :: r, h => ⟨h 0 x rfl, wfL_of r fun i y hy => h (i + 1) y (by simpa using hy)⟩
section
variable {H : Type} {enc : TypeId × Value → H}

theorem bulkAll_le : ∀ (l : List V) (ds : List (DataW H)), l.length = ds.length → (∀ (i : Nat) (x : V) (d : DataW H), l[i]? = some x → ds[i]? = some d → x.size ≤ Rows.uptoBulk d) → sizeL l ≤ Rows.uptoBulkAll ds
  | [], [], _, _ => by simp [sizeL]
  | [], _ :: _, h, _ => by simp at h
  | _ :: _, [], h, _ => by simp at h
  | x :: r, d :: ds, h, hp => by
    have h1 := hp 0 x d rfl rfl
    have h2 := bulkAll_le r ds (by simpa using h) (fun i y e hy he => hp (i + 1) y e (by simpa using hy) (by simpa using he))
    simp only [sizeL, Rows.uptoBulkAll]
    omega

/-- What a reading of a value gives. -/
def ValueOpen (enc : TypeId × Value → H) (W : World) (fuel : Nat) : Prop :=
  ∀ (cs : List Value) (y : DataW H × List MemPlace), DataW.trod enc Tryz.prog W 0 (fun _ => true) true fuel 44 cs = some y →
    ∃ (x : V) (u : Array Value), cs = u.toList ∧ VIn (fun _ => True) W x u ∧ x.size ≤ Rows.uptoBulk y.1 ∧ x.wf

theorem cells_api : Tryz.prog.cellsOf 44 = 4 := by kernel_rfl

theorem vin_size {D : Nat → Prop} {w : World} {x : V} {u : Array Value} (h : VIn D w x u) : u.size = 4 := by
  obtain ⟨v, rfl, _⟩ := h.open
  rfl
set_option maxRecDepth 100000 in
theorem open_slice {W : World} {fuel : Nat} (ih : ∀ m, m < fuel → ValueOpen enc W m) {cs : List Value} {y : DataW H × List MemPlace} (h : DataW.trod enc Tryz.prog W 0 (fun _ => true) true fuel 42 cs = some y) :
    ∃ (l : List V) (v : Value), cs = [v] ∧ VL (fun _ => True) W l v ∧ sizeL l ≤ Rows.uptoBulk y.1 ∧ wfL l := by
  rcases DataW.trod_slice Tryz.underlying42 h with ⟨rfl, rfl⟩ | ⟨a, len, cap, elems, rest, n, rfl, rfl, rfl, -, hl, hm, hel, hin, -⟩
  · exact ⟨[], _, rfl, VL.nil _ _, by simp [sizeL], trivial⟩
  · have hspot : 0 < len → a.spot = none := by
      intro h0
      have h1 := hin 0 h0
      rw [List.getElem?_eq_getElem (by omega), cells_api] at h1
      obtain ⟨cs', hcells, -⟩ := Option.bind_eq_some_iff.1 h1
      obtain ⟨-, hcl, hcell⟩ := World.cells?_some hcells
      have h2 := hcell 0 (by omega)
      rw [List.getElem?_eq_getElem (by omega)] at h2
      simpa [Addr.add] using World.cell?_spot h2
    have key : ∀ i, i < len → ∃ (x : V) (u : Array Value) (e : DataW H × List MemPlace), elems[i]? = some e ∧ (∃ b o, some a = some (⟨b, o, none⟩ : Addr) ∧ ∀ j, j < 4 → W.cell? ⟨b, o + i * 4 + j, none⟩ = u[j]?) ∧ VIn (fun _ => True) W x u ∧ x.size ≤ Rows.uptoBulk e.1 ∧ x.wf := by
      intro i hi
      have h1 := hin i hi
      have h2 : elems[i]? = some elems[i] := List.getElem?_eq_getElem (by omega)
      rw [h2, cells_api] at h1
      obtain ⟨cs', hcells, htr⟩ := Option.bind_eq_some_iff.1 h1
      obtain ⟨-, hcl, hcell⟩ := World.cells?_some hcells
      obtain ⟨x, u, rfl, hv, hs, hw⟩ := ih n (by omega) cs' _ htr
      obtain ⟨b, o, sp⟩ := a
      have hsp : sp = none := hspot (by omega)
      subst hsp
      refine ⟨x, u, elems[i], h2, ⟨b, o, rfl, fun j hj => ?_⟩, hv, hs, hw⟩
      have := hcell j hj
      rw [addr_add, addr_add] at this
      simpa using this
    obtain ⟨f, us, es, hf⟩ : ∃ (f : Nat → V) (us : Nat → Array Value) (es : Nat → DataW H × List MemPlace), ∀ i, i < len → elems[i]? = some (es i) ∧ (∃ b o, some a = some (⟨b, o, none⟩ : Addr) ∧ ∀ j, j < 4 → W.cell? ⟨b, o + i * 4 + j, none⟩ = (us i)[j]?) ∧ VIn (fun _ => True) W (f i) (us i) ∧ (f i).size ≤ Rows.uptoBulk (es i).1 ∧ (f i).wf := by
      classical
      refine ⟨fun i => if h : i < len then (key i h).choose else .mk 0 0 ⟨#[]⟩ [], fun i => if h : i < len then (key i h).choose_spec.choose else #[], fun i => if h : i < len then (key i h).choose_spec.choose_spec.choose else (.nil, []), fun i hi => ?_⟩
      simp only [dif_pos hi]
      exact (key i hi).choose_spec.choose_spec.choose_spec
    have hlen : ((List.range len).map f).length = len := by simp
    have hget : ∀ i x, ((List.range len).map f)[i]? = some x → i < len ∧ x = f i := by
      intro i x hx
      have hi : i < len := by simpa using (List.getElem?_eq_some_iff.1 hx).1
      rw [List.getElem?_map, List.getElem?_range hi] at hx
      exact ⟨hi, (Option.some.inj hx).symm⟩
    refine ⟨(List.range len).map f, _, rfl, ⟨some a, cap, us, by rw [hlen], by rw [hlen]; exact hl, hm, (fun h => by cases h), fun i hi => ?_, fun i x hx => ?_⟩, ?_, ?_⟩
    · rw [hlen] at hi
      obtain ⟨-, ⟨b, o, e, hc⟩, hv, -⟩ := hf i hi
      exact ⟨b, o, e, trivial, vin_size hv, hc⟩
    · obtain ⟨hi, rfl⟩ := hget i x hx
      exact (hf i hi).2.2.1
    · have := bulkAll_le ((List.range len).map f) (elems.map (·.1)) (by simp [hel]) (fun i x d hx hd => by
        obtain ⟨hi, rfl⟩ := hget i x hx
        obtain ⟨he, -, -, hs, -⟩ := hf i hi
        rw [List.getElem?_map, he] at hd
        simp at hd
        subst hd
        exact hs)
      simp only [Rows.uptoBulk]
      omega
    · exact wfL_of _ fun i x hx => by
        obtain ⟨hi, rfl⟩ := hget i x hx
        exact (hf i hi).2.2.2.2

theorem i64_wf {n : Int} (h : (Lit.int .i64 n).wf = true) : in64 n := i64_of_wf h

set_option maxRecDepth 100000 in
theorem open_value (W : World) : ∀ fuel, ValueOpen enc W fuel := by
  intro fuel
  induction fuel using Nat.strongRecOn with
  | _ fuel ih =>
    intro cs y h
    obtain ⟨xs, m, rfl, rfl, hl, hlen, hf⟩ := DataW.trod_struct Tryz.underlying44 h
    rw [cells_api] at hl
    match xs, hlen, cs, hl with
    | [y0, y1, y2, y3], _, [v0, v1, v2, v3], _ =>
      have g0 := hf 0 _ rfl
      have g1 := hf 1 _ rfl
      have g2 := hf 2 _ rfl
      have g3 := hf 3 _ rfl
      have g0 : DataW.trod enc Tryz.prog W 0 (fun _ => true) true m 3 [v0] = some y0 := g0
      have g1 : DataW.trod enc Tryz.prog W 0 (fun _ => true) true m 2 [v1] = some y1 := g1
      have g2 : DataW.trod enc Tryz.prog W 0 (fun _ => true) true m 9 [v2] = some y2 := g2
      have g3 : DataW.trod enc Tryz.prog W 0 (fun _ => true) true m 42 [v3] = some y3 := g3
      obtain ⟨k, e0, rfl, w0⟩ := DataW.trod_int Tryz.underlying3 g0
      obtain ⟨n, e1, rfl, w1⟩ := DataW.trod_int Tryz.underlying2 g1
      obtain ⟨s, e2, rfl, -⟩ := DataW.trod_string Tryz.underlying9 g2
      obtain ⟨l, v, e3, hv, hs, hw⟩ := open_slice (fun j hj => ih j (by omega)) g3
      obtain rfl : v0 = Value.int .i64 k := (List.cons.inj (show [v0] = [Value.int .i64 k] from e0)).1
      obtain rfl : v1 = Value.int .i64 n := (List.cons.inj (show [v1] = [Value.int .i64 n] from e1)).1
      obtain rfl : v2 = Value.string s := (List.cons.inj (show [v2] = [Value.string s] from e2)).1
      obtain rfl : v3 = v := (List.cons.inj (show [v3] = [v] from e3)).1
      refine ⟨.mk k n s l, _, rfl, hv.close k n s, ?_, i64_wf w0, i64_wf w1, hw⟩
      simp only [List.map_cons, List.map_nil, Rows.uptoBulk, Rows.uptoBulkAll, V.size]
      have : s.data.toList.length = s.size := by rw [Array.length_toList]; rfl
      omega
end
end
section
open Go.ChangeShapes Go.WideShapes Go.ChangeAt Go.RowKit

mutual
def Nd.wf : Nd → Prop
  | .mk op ln _ v l => in64 op ∧ in64 ln ∧ v.wf ∧ nwfL l
def nwfL : List Nd → Prop
  | [] => True
  | x :: r => Nd.wf x ∧ nwfL r
end
theorem nwfL_of : ∀ (l : List Nd), (∀ (i : Nat) (x : Nd), l[i]? = some x → x.wf) → nwfL l
  | [], _ => trivial
  | x :: r, h => ⟨h 0 x rfl, nwfL_of r fun i y hy => h (i + 1) y (by simpa using hy)⟩
section
variable {H : Type} {enc : TypeId × Value → H}

theorem bulkAllN_le : ∀ (l : List Nd) (ds : List (DataW H)), l.length = ds.length → (∀ (i : Nat) (x : Nd) (d : DataW H), l[i]? = some x → ds[i]? = some d → x.sz ≤ Rows.uptoBulk d) → szL l ≤ Rows.uptoBulkAll ds
  | [], [], _, _ => by simp [szL]
  | [], _ :: _, h, _ => by simp at h
  | _ :: _, [], h, _ => by simp at h
  | x :: r, d :: ds, h, hp => by
    have h1 := hp 0 x d rfl rfl
    have h2 := bulkAllN_le r ds (by simpa using h) (fun i y e hy he => hp (i + 1) y e (by simpa using hy) (by simpa using he))
    simp only [szL, Rows.uptoBulkAll]
    omega

/-- What a reading of a node gives. -/
def NodeOpen (enc : TypeId × Value → H) (W : World) (fuel : Nat) : Prop :=
  ∀ (cs : List Value) (y : DataW H × List MemPlace), DataW.trod enc Tryz.prog W 0 (fun _ => true) true fuel 75 cs = some y →
    ∃ (x : Nd) (u : Array Value), cs = u.toList ∧ NIn (fun _ => True) W x u ∧ x.sz ≤ Rows.uptoBulk y.1 ∧ x.wf

theorem cells_node : Tryz.prog.cellsOf 75 = 8 := by kernel_rfl

theorem nin_size {D : Nat → Prop} {w : World} {x : Nd} {u : Array Value} (h : NIn D w x u) : u.size = 8 := by
  obtain ⟨va, v, rfl, _⟩ := h.open
  rfl
set_option maxRecDepth 100000 in
theorem open_nodes {W : World} {fuel : Nat} (ih : ∀ m, m < fuel → NodeOpen enc W m) {cs : List Value} {y : DataW H × List MemPlace} (h : DataW.trod enc Tryz.prog W 0 (fun _ => true) true fuel 22 cs = some y) :
    ∃ (l : List Nd) (v : Value), cs = [v] ∧ NL (fun _ => True) W l v ∧ szL l ≤ Rows.uptoBulk y.1 ∧ nwfL l := by
  rcases DataW.trod_slice Tryz.underlying22 h with ⟨rfl, rfl⟩ | ⟨a, len, cap, elems, rest, n, rfl, rfl, rfl, -, hl, hm, hel, hin, -⟩
  · exact ⟨[], _, rfl, NL.nil _ _, by simp [szL], trivial⟩
  · have hspot : 0 < len → a.spot = none := by
      intro h0
      have h1 := hin 0 h0
      rw [List.getElem?_eq_getElem (by omega), cells_node] at h1
      obtain ⟨cs', hcells, -⟩ := Option.bind_eq_some_iff.1 h1
      obtain ⟨-, hcl, hcell⟩ := World.cells?_some hcells
      have h2 := hcell 0 (by omega)
      rw [List.getElem?_eq_getElem (by omega)] at h2
      simpa [Addr.add] using World.cell?_spot h2
    have key : ∀ i, i < len → ∃ (x : Nd) (u : Array Value) (e : DataW H × List MemPlace), elems[i]? = some e ∧ (∃ b o, some a = some (⟨b, o, none⟩ : Addr) ∧ ∀ j, j < 8 → W.cell? ⟨b, o + i * 8 + j, none⟩ = u[j]?) ∧ NIn (fun _ => True) W x u ∧ x.sz ≤ Rows.uptoBulk e.1 ∧ x.wf := by
      intro i hi
      have h1 := hin i hi
      have h2 : elems[i]? = some elems[i] := List.getElem?_eq_getElem (by omega)
      rw [h2, cells_node] at h1
      obtain ⟨cs', hcells, htr⟩ := Option.bind_eq_some_iff.1 h1
      obtain ⟨-, hcl, hcell⟩ := World.cells?_some hcells
      obtain ⟨x, u, rfl, hv, hs, hw⟩ := ih n (by omega) cs' _ htr
      obtain ⟨b, o, sp⟩ := a
      have hsp : sp = none := hspot (by omega)
      subst hsp
      refine ⟨x, u, elems[i], h2, ⟨b, o, rfl, fun j hj => ?_⟩, hv, hs, hw⟩
      have := hcell j hj
      rw [addr_add, addr_add] at this
      simpa using this
    obtain ⟨f, us, es, hf⟩ : ∃ (f : Nat → Nd) (us : Nat → Array Value) (es : Nat → DataW H × List MemPlace), ∀ i, i < len → elems[i]? = some (es i) ∧ (∃ b o, some a = some (⟨b, o, none⟩ : Addr) ∧ ∀ j, j < 8 → W.cell? ⟨b, o + i * 8 + j, none⟩ = (us i)[j]?) ∧ NIn (fun _ => True) W (f i) (us i) ∧ (f i).sz ≤ Rows.uptoBulk (es i).1 ∧ (f i).wf := by
      classical
      refine ⟨fun i => if h : i < len then (key i h).choose else .mk 0 0 ⟨#[]⟩ (.mk 0 0 ⟨#[]⟩ []) [], fun i => if h : i < len then (key i h).choose_spec.choose else #[], fun i => if h : i < len then (key i h).choose_spec.choose_spec.choose else (.nil, []), fun i hi => ?_⟩
      simp only [dif_pos hi]
      exact (key i hi).choose_spec.choose_spec.choose_spec
    have hlen : ((List.range len).map f).length = len := by simp
    have hget : ∀ i x, ((List.range len).map f)[i]? = some x → i < len ∧ x = f i := by
      intro i x hx
      have hi : i < len := by simpa using (List.getElem?_eq_some_iff.1 hx).1
      rw [List.getElem?_map, List.getElem?_range hi] at hx
      exact ⟨hi, (Option.some.inj hx).symm⟩
    refine ⟨(List.range len).map f, _, rfl, ⟨some a, cap, us, by rw [hlen], by rw [hlen]; exact hl, hm, (fun h => by cases h), fun i hi => ?_, fun i x hx => ?_⟩, ?_, ?_⟩
    · rw [hlen] at hi
      obtain ⟨-, ⟨b, o, e, hc⟩, hv, -⟩ := hf i hi
      exact ⟨b, o, e, trivial, nin_size hv, hc⟩
    · obtain ⟨hi, rfl⟩ := hget i x hx
      exact (hf i hi).2.2.1
    · have := bulkAllN_le ((List.range len).map f) (elems.map (·.1)) (by simp [hel]) (fun i x d hx hd => by
        obtain ⟨hi, rfl⟩ := hget i x hx
        obtain ⟨he, -, -, hs, -⟩ := hf i hi
        rw [List.getElem?_map, he] at hd
        simp at hd
        subst hd
        exact hs)
      simp only [Rows.uptoBulk]
      omega
    · exact nwfL_of _ fun i x hx => by
        obtain ⟨hi, rfl⟩ := hget i x hx
        exact (hf i hi).2.2.2.2

set_option maxRecDepth 100000 in
theorem open_node (W : World) : ∀ fuel, NodeOpen enc W fuel := by
  intro fuel
  induction fuel using Nat.strongRecOn with
  | _ fuel ih =>
    intro cs y h
    obtain ⟨xs, m, rfl, rfl, hl, hlen, hf⟩ := DataW.trod_struct Tryz.underlying75 h
    rw [cells_node] at hl
    match xs, hlen, cs, hl with
    | [y0, y1, y2, y3, y4], _, [v0, v1, v2, v3, v4, v5, v6, v7], _ =>
      have g0 := hf 0 _ rfl
      have g1 := hf 1 _ rfl
      have g2 := hf 2 _ rfl
      have g3 := hf 3 _ rfl
      have g4 := hf 4 _ rfl
      have g0 : DataW.trod enc Tryz.prog W 0 (fun _ => true) true m 3 [v0] = some y0 := g0
      have g1 : DataW.trod enc Tryz.prog W 0 (fun _ => true) true m 3 [v1] = some y1 := g1
      have g2 : DataW.trod enc Tryz.prog W 0 (fun _ => true) true m 9 [v2] = some y2 := g2
      have g3 : DataW.trod enc Tryz.prog W 0 (fun _ => true) true m 44 [v3, v4, v5, v6] = some y3 := g3
      have g4 : DataW.trod enc Tryz.prog W 0 (fun _ => true) true m 22 [v7] = some y4 := g4
      obtain ⟨k, e0, rfl, w0⟩ := DataW.trod_int Tryz.underlying3 g0
      obtain ⟨n, e1, rfl, w1⟩ := DataW.trod_int Tryz.underlying3 g1
      obtain ⟨s, e2, rfl, -⟩ := DataW.trod_string Tryz.underlying9 g2
      obtain ⟨xv, u, e3, hv, hs, hw⟩ := open_value W m _ _ g3
      obtain ⟨l, vl, e4, hnl, hsl, hwl⟩ := open_nodes (fun j hj => ih j (by omega)) g4
      obtain rfl : v0 = Value.int .i64 k := (List.cons.inj (show [v0] = [Value.int .i64 k] from e0)).1
      obtain rfl : v1 = Value.int .i64 n := (List.cons.inj (show [v1] = [Value.int .i64 n] from e1)).1
      obtain rfl : v2 = Value.string s := (List.cons.inj (show [v2] = [Value.string s] from e2)).1
      obtain rfl : v7 = vl := (List.cons.inj (show [v7] = [vl] from e4)).1
      obtain ⟨vv, rfl, hvl⟩ := hv.open
      simp at e3
      obtain ⟨rfl, rfl, rfl, rfl⟩ := e3
      refine ⟨.mk k n s xv l, _, rfl, hnl.close k n s xv hvl, ?_, i64_wf w0, i64_wf w1, hw, hwl⟩
      simp only [List.map_cons, List.map_nil, Rows.uptoBulk, Rows.uptoBulkAll, Nd.sz]
      have : s.data.toList.length = s.size := by rw [Array.length_toList]; rfl
      omega
end
end
end Go.Proofs.YtbegahbagnflnaaGreatDoor
