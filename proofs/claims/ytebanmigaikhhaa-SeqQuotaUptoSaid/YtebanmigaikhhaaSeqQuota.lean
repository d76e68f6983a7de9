/- The statement SeqQuota, walked. -/
import Derived.Test.YtebanmigaikhhaaSeqWith
import Derived.Test.YtebanmigaikhhaaSeqFirst
import Derived.Test.YtebanmigaikhhaaValL
import Derived.Test.YtebanmigaikhhaaNumber
namespace Go.Proofs.Ytebanmigaikhhaa
open Go.RowKit

theorem made_get (z : Array Value) (m j : Nat) (hj : j < m) (hz : z.size = 4) : (madeCells z m)[j]? = z[j % 4]? := by
  have : j % z.size < z.size := Nat.mod_lt _ (by omega)
  simp [madeCells, hj, hz]
  rw [getElem!_pos z (j % 4) (by omega), Array.getElem?_eq_getElem (by omega)]
theorem V0.inn (D : Nat → Prop) (w : World) : VIn D w V0 #[.int .i64 0, .int .i64 0, .string ⟨#[]⟩, .slice none 0 0] := (VL.nil D w).close 0 0 ⟨#[]⟩
theorem getV_rep {n i : Nat} {x : V} (h : (List.replicate n V0)[i]? = some x) : x = V0 ∧ i < n := by
  have h1 := (List.getElem?_eq_some_iff.1 h).1
  rw [List.getElem?_replicate, if_pos (by simpa using h1)] at h
  exact ⟨(Option.some.inj h).symm, by simpa using h1⟩
/-- make([]api.Value, n). -/
theorem mk_full (n : Nat) (hn : n ≤ 4294967296) (w : World) (C : Int) (hC : C = (n : Int)) : ∃ w', (Instr.makeSlice 22 (.int .i64 C) (.int .i64 C)).run Try.prog w = .ok (.slice (some ⟨w.heap.size, 0, none⟩) n n) w' ∧
    VL T w' (List.replicate n V0) (.slice (some ⟨w.heap.size, 0, none⟩) n n) ∧ Fr (fun _ => False) w w' := by
  subst hC
  obtain ⟨i, hi, he⟩ := Option.map_eq_some_iff.1 Try.info_val
  simp only [Prod.mk.injEq] at he
  obtain ⟨z1, z2, z3⟩ := he
  have hr := run_make (P := Try.prog) w 22 30 i (.agg #[.int .i64 0, .int .i64 0, .string ⟨#[]⟩, .slice none 0 0]) Try.underlying22 hi z1 .i64 .i64 n n (by omega) (by omega) (by rw [z3]; omega) (by omega)
  rw [Int.toNat_natCast, z2] at hr
  refine ⟨_, hr, ?_, (Fr.refl _ _).alloc _⟩
  have hlen : (List.replicate n V0).length = n := by simp
  refine ⟨_, n, fun _ => #[.int .i64 0, .int .i64 0, .string ⟨#[]⟩, .slice none 0 0], by rw [hlen], by rw [hlen]; exact Nat.le_refl _, by simp [maxLen]; omega, (fun e => by cases e), fun i hi => ⟨w.heap.size, 0, rfl, trivial, rfl, fun j hj => ?_⟩, fun i x hx => ?_⟩
  · rw [hlen] at hi
    rw [cell_of_row _ _ _ _ _ _ (heap_alloc_new w _), made_get _ _ _ (by omega) (by rfl)]
    rw [show (0 + i * 4 + j) % 4 = j by omega]
    rfl
  · obtain ⟨rfl, -⟩ := getV_rep hx
    exact V0.inn _ _

/-- The values in one another: how great, how deep. -/
def nest1 : Nat → V
  | 0 => VI 1
  | n + 1 => .mk 4 0 ⟨#[]⟩ [nest1 n]
theorem nest1_size : ∀ n, (nest1 n).size = n + 1
  | 0 => rfl
  | n + 1 => by
    have := nest1_size n
    simp [nest1, V.size, sizeL, this, ByteArray.size]
    omega
theorem nest1_deep : ∀ n, (nest1 n).deep = n + 1
  | 0 => rfl
  | n + 1 => by
    have := nest1_deep n
    simp [nest1, V.deep, deepL, this]
    omega
theorem sizeL_rep (n : Nat) : sizeL (List.replicate n V0) = n := by
  induction n with
  | zero => rfl
  | succ n ih =>
    rw [List.replicate_succ, sizeL, ih, show V0.size = 1 from rfl]
    omega
theorem deepL_rep (n : Nat) : deepL (List.replicate n V0) ≤ 1 := by
  induction n with
  | zero => simp [deepL]
  | succ n ih =>
    rw [List.replicate_succ, deepL, show V0.deep = 1 from rfl]
    omega
theorem ins_rep (j : Nat) : pIns (List.replicate j V0) (VI 1) 1 = pMade (VI 1 :: List.replicate j V0) ∧ mcode (VI 1 :: List.replicate j V0) = if 4096 < j + 2 then 14 else 0 := by
  have hat : pAt (List.replicate j V0) 1 = 0 := by
    unfold pAt
    simp
    omega
  refine ⟨by unfold pIns; rw [hat]; rfl, ?_⟩
  have h1 := deepL_rep j
  have h2 : (VI 1).deep = 1 := rfl
  have h3 : (VI 1).size = 1 := rfl
  unfold mcode
  rw [sizeL, sizeL_rep, deepL, h2, h3, if_neg (by omega)]
  simp only [show 1 + (1 + j) = j + 2 by omega]
theorem mcode_one (x : V) (d : Nat) (hd : x.deep = d) (hs : x.size = d) (h : d ≤ 40) : mcode [x] = if d = 40 then 9 else 0 := by
  unfold mcode
  rw [deepL, deepL, sizeL, sizeL, hd, hs]
  by_cases h4 : d = 40
  · rw [if_pos (by omega), if_pos h4]
  · rw [if_neg (by omega), if_neg (by omega), if_neg h4]

set_option maxRecDepth 100000 in
set_option maxHeartbeats 6400000 in
theorem seqQuota_any (n deep : Int) (b0 : -9223372036854775808 ≤ n) (c0 : n ≤ 9223372036854775807) (b1 : -9223372036854775808 ≤ deep) (c1 : deep ≤ 9223372036854775807) (w : World) :
    Calls Try.prog 6 #[.int .i64 n, .int .i64 deep] w fun e w' => e = .returned (.bool true) ∧ Fr (fun _ => False) w w' := by
  obtain ⟨k, hk⟩ : ∃ k : Nat, n % 6 + 4092 = k := ⟨(n % 6 + 4092).toNat, by have := Int.emod_nonneg n (show (6 : Int) ≠ 0 by omega); omega⟩
  have hk1 : 4092 ≤ k ∧ k ≤ 4097 := by have := Int.emod_nonneg n (show (6 : Int) ≠ 0 by omega); have := Int.emod_lt_of_pos n (show (0 : Int) < 6 by omega); omega
  obtain ⟨d, hd⟩ : ∃ d : Nat, deep % 4 + 37 = d := ⟨(deep % 4 + 37).toNat, by have := Int.emod_nonneg deep (show (4 : Int) ≠ 0 by omega); omega⟩
  have hd1 : 37 ≤ d ∧ d ≤ 40 := by have := Int.emod_nonneg deep (show (4 : Int) ≠ 0 by omega); have := Int.emod_lt_of_pos deep (show (0 : Int) < 4 by omega); omega
  obtain ⟨j, hj⟩ : ∃ j, (if k ≤ 4095 then k else 4095) = j := ⟨_, rfl⟩
  have HK := hid hk; have HK1 := hid hk1; have HD := hid hd; have HD1 := hid hd1; have HJ := hid hj
  have HB0 := hid b0; have HC0 := hid c0; have HB1 := hid b1; have HC1 := hid c1
  clear hk hk1 hd hd1 hj b0 c0 b1 c1
  go_enter Try.func6, Try.ntmps6
  go_wp2_with fail
  refine (first_any _).mono ?_
  rintro e w1 ⟨rfl, hf1⟩
  have HF1 := hid hf1
  clear hf1
  go_wp2_with fail
  refine (number_any n 6 _ (by omega) (by omega) HB0.out HC0.out).mono ?_
  rintro e w2 ⟨rfl, rfl⟩
  have hn : IntKind.i64.wrap (n % 6 + 4092) = (k : Int) := by rw [HK.out]; exact IntWalk.i64_in _ (by have := HK1.out; omega)
  obtain ⟨W2, hmk, hv2, hf2⟩ := mk_full k (by have := HK1.out; omega) w1 (k : Int) rfl
  have HF2 := hid (HF1.out.trans' hf2); have HV2 := hid hv2
  clear hf2 hv2
  generalize n % 6 = nm at *
  go_upto_if 30 with fail
  go_cut [6] from 31 to 32 (fun c wx => c = .slice (some ⟨w1.heap.size, 0, none⟩) j k ∧ W2 = wx)
  case first =>
    by_cases h4 : k ≤ 4095
    · have hjk : j = k := by have := HJ.out; rw [if_pos h4] at this; exact this.symm
      have h5 : ¬ (4095 : Int) < k := by omega
      go_wp2_with fail
      go_meet
      exact ⟨by rw [hjk], rfl⟩
    · have hjk : j = 4095 := by have := HJ.out; rw [if_neg h4] at this; exact this.symm
      have h5 : (4095 : Int) < k := by omega
      have h6 : 4095 ≤ k := by omega
      go_wp2_with fail
      go_meet
      exact ⟨by rw [hjk], rfl⟩
  case rest =>
  obtain ⟨rfl, rfl⟩ := hcut
  have hj1 : j ≤ k ∧ 4092 ≤ j ∧ j ≤ 4095 := by
    have h1 := HJ.out
    have h2 := HK1.out
    split at h1 <;> omega
  have hvj : VL T W2 (List.replicate j V0) (.slice (some ⟨w1.heap.size, 0, none⟩) (List.replicate j V0).length k) := by
    have := HV2.out.upto j (by simp; omega)
    rw [List.take_replicate, Nat.min_eq_left hj1.1] at this
    rwa [List.length_replicate]
  rw [List.length_replicate] at hvj
  have HJ1 := hid hj1; have HVJ := hid hvj
  clear hj1 hvj HJ HV2 hn HK
  go_wp2_with fail
  refine (vI_any 1 W2).mono ?_
  rintro e w3 ⟨rfl, hf3⟩
  have hfa := hf3.alloc (.cells #[.int .i64 0, .int .i64 1, .string ⟨#[]⟩, .slice none 0 0] 30)
  have hra := heap_alloc_new w3 (.cells #[.int .i64 0, .int .i64 1, .string ⟨#[]⟩, .slice none 0 0] 30)
  have HF3 := hid (HF2.out.trans' hfa); have HR3 := hid hra; have HV3 := hid (HVJ.out.fr hfa)
  clear hf3 hfa hra HVJ HF2
  go_wp2_with fail
  generalize w3.alloc (.cells #[.int .i64 0, .int .i64 1, .string ⟨#[]⟩, .slice none 0 0] 30) = W3 at *
  refine (insert_any (List.replicate j V0) (VI 1) _ _ 1 W3 HV3.out (VI.inn _ _ _) (by rw [sizeL_rep]; have := HJ1.out; omega) (by decide)).mono ?_
  rintro e w4 ⟨v4, rfl, hf4, hv4⟩
  rw [(ins_rep j).1] at hv4 ⊢
  obtain ⟨a4, c4, us4, rfl, -⟩ := id hv4
  have HF4 := hid (HF3.out.trans' hf4); have HR4 := hid (hf4.heap HR3.out not_false)
  obtain ⟨m, hm⟩ : ∃ m : Nat, mcode (VI 1 :: List.replicate j V0) = m := ⟨_, rfl⟩
  obtain ⟨q, hq⟩ : ∃ q : Nat, (pMade (VI 1 :: List.replicate j V0)).1.length = q := ⟨_, rfl⟩
  have hm2 : m = if 4096 < j + 2 then 14 else 0 := by rw [← hm]; exact (ins_rep j).2
  have hq2 : 4096 < j + 2 → q = 0 := fun h => by
    rw [← hq]
    unfold pMade mlist
    rw [hm, hm2, if_pos h]
    rfl
  rw [show (pMade (VI 1 :: List.replicate j V0)).2 = (m : Int) from congrArg Int.ofNat hm, hq]
  have HM2 := hid hm2; have HQ2 := hid hq2
  clear hf4 hv4 hm hq hm2 hq2 HF3 HR3 HV3
  go_upto_region 10 with fail
  go_cut [59] from 40 to 59 (fun c wx => c = .bool false ∧ w4 = wx)
  case first =>
    have hj1 := HJ1.out
    by_cases h4 : 4096 < j + 2
    · obtain rfl : m = 14 := by have := HM2.out; rwa [if_pos h4] at this
      obtain rfl : q = 0 := HQ2.out h4
      have h5 : ¬ (j : Int) + 2 ≤ 4096 := by omega
      go_wp2_with fail
      go_meet
      exact ⟨rfl, rfl⟩
    · obtain rfl : m = 0 := by have := HM2.out; rwa [if_neg h4] at this
      have h5 : (j : Int) + 2 ≤ 4096 := by omega
      go_wp2_with fail
      go_meet
      exact ⟨rfl, rfl⟩
  case rest =>
  obtain ⟨rfl, rfl⟩ := hcut
  clear HM2 HQ2
  go_wp2_with fail
  refine (number_any deep 4 _ (by omega) (by omega) HB1.out HC1.out).mono ?_
  rintro e w5 ⟨rfl, rfl⟩
  have hn : IntKind.i64.wrap (deep % 4 + 37) = (d : Int) := by rw [HD.out]; exact IntWalk.i64_in _ (by have := HD1.out; omega)
  generalize deep % 4 = nm at *
  go_wp2_with fail
  refine (vI_any 1 _).mono ?_
  rintro e w6 ⟨rfl, hf6⟩
  have hfa := hf6.alloc (.cells #[.int .i64 0, .int .i64 1, .string ⟨#[]⟩, .slice none 0 0] 30)
  have hra := heap_alloc_new w6 (.cells #[.int .i64 0, .int .i64 1, .string ⟨#[]⟩, .slice none 0 0] 30)
  have HF6 := hid (HF4.out.trans' hfa); have HR6 := hid hra; have HR7 := hid (hfa.heap HR4.out not_false)
  have hws : w.heap.size ≤ w6.heap.size := (HF4.out.trans' hf6).size
  have hpp : w3.heap.size < w6.heap.size := Nat.lt_of_lt_of_le (heap_lt HR4.out) hf6.size
  have hd1 := HD1.out
  clear hf6 hfa hra HF4 HR4 hn
  go_wp2_with fail
  generalize w6.alloc (.cells #[.int .i64 0, .int .i64 1, .string ⟨#[]⟩, .slice none 0 0] 30) = W6 at *
  have HPP := hid hpp; have HWS := hid hws
  clear hpp hws
  go_loopw [11] (fun i wr => ∃ k' : Nat, 1 ≤ k' ∧ k' ≤ d ∧ i = .int .i64 k' ∧ Hid (Fr (fun q => q = w6.heap.size) W6 wr) ∧ ∃ a9 c9, Hid (wr.heap[w6.heap.size]? = some (.cells #[.int .i64 (nest1 (k' - 1)).k, .int .i64 (nest1 (k' - 1)).n, .string (nest1 (k' - 1)).s, .slice a9 (nest1 (k' - 1)).l.length c9] 30)) ∧ Hid (VIn (fun q => q ≠ w6.heap.size) wr (nest1 (k' - 1)) #[.int .i64 (nest1 (k' - 1)).k, .int .i64 (nest1 (k' - 1)).n, .string (nest1 (k' - 1)).s, .slice a9 (nest1 (k' - 1)).l.length c9])) (fun i _ => d - (intOf i).toNat)
  case atStart => exact ⟨1, Nat.le_refl _, by omega, rfl, hid (Fr.refl _ _), none, 0, HR6, hid (VI.inn _ _ _)⟩
  case round =>
    obtain ⟨k', hk1, hkd, rfl, HF, a9, c9, HR, HX⟩ := hrel
    by_cases hlt : k' < d
    · have hlt' : (k' : Int) < d := by omega
      have hns := nest1_size (k' - 1)
      have hnx : nest1 k' = .mk 4 0 ⟨#[]⟩ [nest1 (k' - 1)] := by
        obtain ⟨t, rfl⟩ : ∃ t, k' = t + 1 := ⟨k' - 1, by omega⟩
        rfl
      have HNX := hid hnx; have HNS := hid hns
      clear hns hnx
      generalize nest1 (k' - 1) = y at *
      have hr := HR.out
      have y0 : wr.cell? ⟨w6.heap.size, 0, none⟩ = some (.int .i64 y.k) := by rw [cell_of_row _ _ 0 _ _ _ hr]; rfl
      have y1 : wr.cell? ⟨w6.heap.size, 1, none⟩ = some (.int .i64 y.n) := by rw [cell_of_row _ _ 1 _ _ _ hr]; rfl
      have y2 : wr.cell? ⟨w6.heap.size, 2, none⟩ = some (.string y.s) := by rw [cell_of_row _ _ 2 _ _ _ hr]; rfl
      have y3 : wr.cell? ⟨w6.heap.size, 3, none⟩ = some (.slice a9 y.l.length c9) := by rw [cell_of_row _ _ 3 _ _ _ hr]; rfl
      clear hr
      have ROW := hid (heap_alloc_new wr (.cells #[.int .i64 y.k, .int .i64 y.n, .string y.s, .slice a9 y.l.length c9] 30))
      have hfa := (Fr.refl (fun _ => False) wr).alloc (.cells #[.int .i64 y.k, .int .i64 y.n, .string y.s, .slice a9 y.l.length c9] 30)
      have hsz := heap_lt HR.out
      have hli : VL (fun q => q ≠ w6.heap.size) _ [y] (.slice (some ⟨wr.heap.size, 0, none⟩) 1 1) := VL.lit (HX.out.frame hfa fun _ _ => not_false) ROW.out (by omega)
      have hcl := vL_any [y] (by rw [sizeL, sizeL, HNS.out]; omega) _ _ _ hli
      have HCL := hid hcl; have HFA := hid hfa; have HSZ := hid hsz
      clear hcl hfa hli hsz ROW
      go_wp2_with fail
      refine HCL.out.mono ?_
      rintro e wz ⟨u', rfl, hfz, hvz, -⟩
      obtain ⟨vz, rfl, hvz2⟩ : ∃ v, u' = #[.int .i64 4, .int .i64 0, .string ⟨#[]⟩, v] ∧ VL _ wz [y] v := hvz.open
      obtain ⟨az, cz, uz, hez, -⟩ := id hvz2
      replace hez : vz = .slice az 1 cz := hez
      subst hez
      have hfr := HFA.out.trans' hfz
      obtain ⟨hR, hf5, z0, z1, z2, z3, zf⟩ := set4 (hfr.heap HR.out not_false) (.int .i64 4) (.int .i64 0) (.string ⟨#[]⟩) (.slice az 1 cz)
      have HRR := hid hR
      have HF5 := hid ((HF.out.trans hfr (U := fun q => q = w6.heap.size) (fun _ _ h => h) (fun q hq e => False.elim e)).trans hf5 (fun _ _ h => h) (fun q hq e => e))
      have HV5 := hid ((hvz.frame hf5 fun q hq e => by have h1 := hq.1; have h2 := HSZ.out; simp at h1; omega).mono (E := fun q => q ≠ w6.heap.size) fun q _ hq e => by have h1 := hq.1; have h2 := HSZ.out; simp at h1; omega)
      clear hR hf5 hfr hfz hvz hvz2 y0 y1 y2 y3 HCL
      go_wp2_with fail
      go_roundw
      case rel =>
        refine ⟨k' + 1, by omega, by omega, by go_num, HF5, az, cz, hid ?_, hid ?_⟩
        · rw [show k' + 1 - 1 = k' by omega, HNX.out]; exact HRR.out
        · rw [show k' + 1 - 1 = k' by omega, HNX.out]; exact HV5.out
      case measure => simp [intOf]; omega
    · obtain rfl : k' = d := by omega
      have hyd := nest1_deep (k' - 1)
      have hys := nest1_size (k' - 1)
      rw [show k' - 1 + 1 = k' by omega] at hyd hys
      generalize nest1 (k' - 1) = y at *
      have hd1 := HD1.out
      obtain ⟨m, hm⟩ : ∃ m : Nat, mcode [y] = m := ⟨_, rfl⟩
      have hm2 : m = if k' = 40 then 9 else 0 := by rw [← hm]; exact mcode_one y k' hyd hys hd1.2
      have hpm : (pMade [y]).2 = (m : Int) := by rw [← hm]; rfl
      have hp1 : pIns [] y 1 = pMade [y] := rfl
      have hp2 : pWith [] y = pMade [y] := rfl
      have hp3 : pPut [VI 1] 1 y = pMade [y] := rfl
      have hp4 : pCat [VI 1] [VI 1] = ([VI 1, VI 1], 0) := rfl
      have hysz : y.size ≤ 1073741824 := by omega
      obtain ⟨pl, pc, hpl⟩ : ∃ a b, pMade [y] = (a, b) := ⟨_, _, rfl⟩
      rw [hpl] at hp1 hp2 hp3 hpm
      replace hpm : pc = (m : Int) := hpm
      subst hpm
      have HFW := hid (HF6.out.trans HF.out (U := fun _ => False) (fun _ _ h => h) (fun q hq e => by have := HWS.out; omega))
      have HRV := hid (HF.out.heap HR7.out (by have := HPP.out; omega))
      have HM2 := hid hm2; have HP1 := hid hp1; have HP2 := hid hp2; have HP3 := hid hp3; have HP4 := hid hp4; have HYS := hid hysz; have HXT := hid HX.out.t
      have hr := HR.out
      have y0 : wr.cell? ⟨w6.heap.size, 0, none⟩ = some (.int .i64 y.k) := by rw [cell_of_row _ _ 0 _ _ _ hr]; rfl
      have y1 : wr.cell? ⟨w6.heap.size, 1, none⟩ = some (.int .i64 y.n) := by rw [cell_of_row _ _ 1 _ _ _ hr]; rfl
      have y2 : wr.cell? ⟨w6.heap.size, 2, none⟩ = some (.string y.s) := by rw [cell_of_row _ _ 2 _ _ _ hr]; rfl
      have y3 : wr.cell? ⟨w6.heap.size, 3, none⟩ = some (.slice a9 y.l.length c9) := by rw [cell_of_row _ _ 3 _ _ _ hr]; rfl
      have h40 : ¬ (40 : Int) < k' := by omega
      clear hm hm2 hp1 hp2 hp3 hp4 hpl hysz hr hyd hys HX HF HF6 HR6 HR7
      go_wp2_with fail
      refine (insert_any [] y (.slice none 0 0) _ 1 wr (VL.nil T wr) HXT.out (by decide) HYS.out).mono ?_
      rw [HP1.out]
      rintro e wa ⟨va, rfl, hfa, hva⟩
      obtain ⟨aa, ca, ua, rfl, -⟩ := id hva
      have HFA := hid hfa
      have hr := hfa.heap HR.out not_false
      clear y0 y1 y2 y3 hfa hva
      have y0 : wa.cell? ⟨w6.heap.size, 0, none⟩ = some (.int .i64 y.k) := by rw [cell_of_row _ _ 0 _ _ _ hr]; rfl
      have y1 : wa.cell? ⟨w6.heap.size, 1, none⟩ = some (.int .i64 y.n) := by rw [cell_of_row _ _ 1 _ _ _ hr]; rfl
      have y2 : wa.cell? ⟨w6.heap.size, 2, none⟩ = some (.string y.s) := by rw [cell_of_row _ _ 2 _ _ _ hr]; rfl
      have y3 : wa.cell? ⟨w6.heap.size, 3, none⟩ = some (.slice a9 y.l.length c9) := by rw [cell_of_row _ _ 3 _ _ _ hr]; rfl
      clear hr
      go_wp2_with fail
      refine (with_any [] y (.slice none 0 0) _ wa (VL.nil T wa) (HXT.out.fr HFA.out) (by decide) HYS.out).mono ?_
      rw [HP2.out]
      rintro e wb ⟨vb, rfl, hfb, hvb⟩
      obtain ⟨ab, cb, ub, rfl, -⟩ := id hvb
      have HFB := hid (HFA.out.trans' hfb)
      clear y0 y1 y2 y3 hfb hvb HFA
      have hr := HFB.out.heap HR.out not_false
      have hr7 := HFB.out.heap HRV.out not_false
      have y0 : wb.cell? ⟨w6.heap.size, 0, none⟩ = some (.int .i64 y.k) := by rw [cell_of_row _ _ 0 _ _ _ hr]; rfl
      have y1 : wb.cell? ⟨w6.heap.size, 1, none⟩ = some (.int .i64 y.n) := by rw [cell_of_row _ _ 1 _ _ _ hr]; rfl
      have y2 : wb.cell? ⟨w6.heap.size, 2, none⟩ = some (.string y.s) := by rw [cell_of_row _ _ 2 _ _ _ hr]; rfl
      have y3 : wb.cell? ⟨w6.heap.size, 3, none⟩ = some (.slice a9 y.l.length c9) := by rw [cell_of_row _ _ 3 _ _ _ hr]; rfl
      have z0 : wb.cell? ⟨w3.heap.size, 0, none⟩ = some (.int .i64 0) := by rw [cell_of_row _ _ 0 _ _ _ hr7]; rfl
      have z1 : wb.cell? ⟨w3.heap.size, 1, none⟩ = some (.int .i64 1) := by rw [cell_of_row _ _ 1 _ _ _ hr7]; rfl
      have z2 : wb.cell? ⟨w3.heap.size, 2, none⟩ = some (.string ⟨#[]⟩) := by rw [cell_of_row _ _ 2 _ _ _ hr7]; rfl
      have z3 : wb.cell? ⟨w3.heap.size, 3, none⟩ = some (.slice none 0 0) := by rw [cell_of_row _ _ 3 _ _ _ hr7]; rfl
      have hfz := (Fr.refl (fun _ => False) wb).alloc (.cells #[.int .i64 0, .int .i64 1, .string ⟨#[]⟩, .slice none 0 0] 30)
      have hlz : VL T _ [VI 1] (.slice (some ⟨wb.heap.size, 0, none⟩) 1 1) := VL.lit (VI.inn T _ 1) (heap_alloc_new wb (.cells #[.int .i64 0, .int .i64 1, .string ⟨#[]⟩, .slice none 0 0] 30)) trivial
      have x0 := hfz.cell y0 not_false
      have x1 := hfz.cell y1 not_false
      have x2 := hfz.cell y2 not_false
      have x3 := hfz.cell y3 not_false
      have HFZ := hid (HFB.out.trans' hfz); have HLZ := hid hlz
      clear hr hr7 hfz hlz
      go_wp2_with fail
      refine (put_any [VI 1] y _ _ 1 _ HLZ.out (HXT.out.fr HFZ.out) (by decide) HYS.out).mono ?_
      rw [HP3.out]
      rintro e wc ⟨vc, rfl, hfc, hvc⟩
      obtain ⟨ac, cc, uc, rfl, -⟩ := id hvc
      have HFC := hid (HFZ.out.trans' hfc)
      clear x0 x1 x2 x3 y0 y1 y2 y3 z0 z1 z2 z3 hfc hvc HFZ HFB HLZ
      have hr7 := HFC.out.heap HRV.out not_false
      have z0 : wc.cell? ⟨w3.heap.size, 0, none⟩ = some (.int .i64 0) := by rw [cell_of_row _ _ 0 _ _ _ hr7]; rfl
      have z1 : wc.cell? ⟨w3.heap.size, 1, none⟩ = some (.int .i64 1) := by rw [cell_of_row _ _ 1 _ _ _ hr7]; rfl
      have z2 : wc.cell? ⟨w3.heap.size, 2, none⟩ = some (.string ⟨#[]⟩) := by rw [cell_of_row _ _ 2 _ _ _ hr7]; rfl
      have z3 : wc.cell? ⟨w3.heap.size, 3, none⟩ = some (.slice none 0 0) := by rw [cell_of_row _ _ 3 _ _ _ hr7]; rfl
      have hg1 := (Fr.refl (fun _ => False) wc).alloc (.cells #[.int .i64 0, .int .i64 1, .string ⟨#[]⟩, .slice none 0 0] 30)
      have hg2 := (Fr.refl (fun _ => False) (wc.alloc (.cells #[.int .i64 0, .int .i64 1, .string ⟨#[]⟩, .slice none 0 0] 30))).alloc (.cells #[.int .i64 0, .int .i64 1, .string ⟨#[]⟩, .slice none 0 0] 30)
      have hl1 : VL T _ [VI 1] (.slice (some ⟨wc.heap.size, 0, none⟩) 1 1) := VL.lit (VI.inn T _ 1) (heap_alloc_new wc (.cells #[.int .i64 0, .int .i64 1, .string ⟨#[]⟩, .slice none 0 0] 30)) trivial
      have hl2 : VL T _ [VI 1] (.slice (some ⟨wc.heap.size + 1, 0, none⟩) 1 1) := VL.lit (VI.inn T _ 1) (by have := heap_alloc_new (wc.alloc (.cells #[.int .i64 0, .int .i64 1, .string ⟨#[]⟩, .slice none 0 0] 30)) (.cells #[.int .i64 0, .int .i64 1, .string ⟨#[]⟩, .slice none 0 0] 30); rwa [show (wc.alloc (.cells #[.int .i64 0, .int .i64 1, .string ⟨#[]⟩, .slice none 0 0] 30)).heap.size = wc.heap.size + 1 by simp] at this) trivial
      have x0 := hg1.cell z0 not_false
      have x1 := hg1.cell z1 not_false
      have x2 := hg1.cell z2 not_false
      have x3 := hg1.cell z3 not_false
      have HG := hid (HFC.out.trans' (hg1.trans' hg2)); have HL1 := hid (hl1.fr hg2); have HL2 := hid hl2
      clear hr7 hg1 hg2 hl1 hl2
      go_wp2_with fail
      refine (cat_any [VI 1] [VI 1] _ _ _ HL1.out HL2.out (by decide) (by decide)).mono ?_
      rw [HP4.out]
      rintro e wd ⟨vd, rfl, hfd, hvd⟩
      obtain ⟨ad, cd, ud, rfl, -⟩ := id hvd
      have HFD := hid (HFW.out.trans' (HG.out.trans' hfd))
      clear x0 x1 x2 x3 z0 z1 z2 z3 hfd hvd HFC HG HL1 HL2
      have hn : IntKind.i64.wrap ((k' : Int) + 1) = (k' : Int) + 1 := IntWalk.i64_in _ (by omega)
      by_cases h4 : k' = 40
      · obtain rfl : m = 9 := by have := HM2.out; rwa [if_pos h4] at this
        subst h4
        go_wp2_with fail
        go_ret
        exact ⟨rfl, HFD.out⟩
      · obtain rfl : m = 0 := by have := HM2.out; rwa [if_neg h4] at this
        have h5 : (k' : Int) + 1 ≤ 40 := by omega
        go_wp2_with fail
        go_ret
        exact ⟨rfl, HFD.out⟩
end Go.Proofs.Ytebanmigaikhhaa
