/- Package keep: generation. -/
import Derived.Test.YtpceckmjoicdlaaDoorKeepB
namespace Go.Proofs.YtpceckmjoicdlaaDoor
open Go.RowKit
variable {w0 w w' : World} {pa : Nat → Addr} {nm : ByteArray} {X : Nat}

theorem or_add (i a b : Nat) (ha : a < 2 ^ i) : a ||| b * 2 ^ i = a + b * 2 ^ i := by
  rw [Nat.or_comm, Nat.mul_comm, ← Nat.two_pow_add_eq_or_of_lt ha, Nat.add_comm]
theorem or_step (h : List UInt8) (h8 : h.length = 8) (i : Nat) (hi : i < 8) (m : Nat) (hm : m = 256 ^ i) : bits .or .u64 (n8 (h.take i) : Int) (((h.getD i 0).toNat : Int) * (m : Int)) = (n8 (h.take (i + 1)) : Int) := by
  have h1 := take_snoc h i 0 (by omega)
  have h2 := n8_snoc (h.take i) (h.getD i 0)
  rw [← h1] at h2
  have hl : (h.take i).length = i := by rw [List.length_take]; omega
  have h3 := n8_lt (h.take i)
  rw [hl] at h2 h3
  have hx := (h.getD i 0).toNat_lt
  have e : (256 : Nat) ^ i = 2 ^ (8 * i) := by rw [Nat.pow_mul]
  have hb : (256 : Nat) ^ i ≤ 256 ^ 7 := Nat.pow_le_pow_right (by decide) (by omega)
  have hb2 : (h.getD i 0).toNat * 256 ^ i ≤ 255 * 256 ^ 7 := Nat.mul_le_mul (by omega) hb
  subst hm
  rw [h2, show ((h.getD i 0).toNat : Int) * ((256 ^ i : Nat) : Int) = (((h.getD i 0).toNat * 256 ^ i : Nat) : Int) by rw [Int.natCast_mul], u64_or_nat _ _ (by omega) (by omega), e, or_add _ _ _ (by rw [← e]; exact h3)]
theorem RecOwn.len {base : Nat} {v : Value} {rs : List (List UInt8)} (h : RecOwn base w v rs) : ∃ a c, v = .slice a rs.length c := by
  obtain ⟨xs, ho, -⟩ := h
  obtain ⟨a, c, e, -⟩ := own_len ho
  exact ⟨a, c, e⟩
/-- A record's slice in its row. -/
theorem RecOwn.get {base : Nat} {a : Option Addr} {n c : Nat} {rs : List (List UInt8)} (h : RecOwn base w (.slice a n c) rs) (hn : n = rs.length) (i : Nat) (hi : i < rs.length) : ∃ g u, a = some ⟨g, 0, none⟩ ∧ w.cell? ⟨g, i, none⟩ = some u ∧ OB base w u (rs.getD i []) := by
  obtain ⟨xs, ho, hx⟩ := h
  obtain ⟨u, hu, hb⟩ := hx i hi
  rcases own_heap ho with ⟨e, h0, -⟩ | ⟨g, cap, e, -, -, hc⟩
  · omega
  · simp only [Value.slice.injEq] at e
    exact ⟨g, u, e.1, by rw [hc i (by omega), hu], hb⟩
set_option maxRecDepth 100000 in
set_option maxHeartbeats 12800000 in
theorem gen_any {p : PS} (h : PW w0 w X p) (hE : Sent17 w0 pa) (hd : p.down = false) (nm : ByteArray) {k : Nat} (hl : lk p.names nm = some k) :
    Calls Tryd.prog 49 #[.pointer (some ⟨X, 0, none⟩), .string nm] w fun e w' => Fr (fun _ => False) w w' ∧
      ((∃ b n v, gen (p.fs k).by_ = some (b, n) ∧ e = .returned (.tuple #[v, .int .i64 n, .nilIface]) ∧ OB w.heap.size w' v b) ∨
        (gen (p.fs k).by_ = none ∧ e = .returned (.tuple #[.slice none 0 0, .int .i64 0, errV pa 102]))) := by
  have hbd := (h.ok.bd k ⟨nm, (lk_mem h.ok.kn).1 hl⟩).1
  have HLN : Hid (Calls Tryd.prog 21 #[.pointer (some ⟨X, 0, none⟩), .string nm] w fun e w' => e = .returned (.tuple #[.int .i64 (p.fs k).by_.length, .nilIface]) ∧ Fr (fun _ => False) w w') := hid (by
    obtain ⟨s, h, rfl, rfl⟩ := h
    have hm := (lk_mem h.d.names.2).1 hl
    refine (len_any pa (h.s6 hE.s6) h.d nm (by have := h.d.sz.1 _ hm; dsimp only at this; unfold maxLen; omega)).mono fun _ _ ⟨e, h2⟩ => ?_
    rw [(up_file hd hl).1, show lenS s nm = (s.fs k).by_.length by unfold lenS; rw [(up_file hd hl).2]] at e
    exact ⟨e, h2⟩)
  have HRD := hid (fun (W2 : World) (hf : Fr (fun _ => False) w W2) => read_u (h.fr hf) hE.s6 hd hl 0 (p.fs k).by_.length (by omega))
  obtain ⟨l, hl2⟩ : ∃ l, (p.fs k).by_ = l := ⟨_, rfl⟩
  rw [hl2] at HLN HRD hbd ⊢
  simp only [Nat.zero_add, List.take_length, List.drop_zero] at HRD
  obtain ⟨ls, t, code, hlt, hend, hlsb⟩ := decomp l.length l (Nat.le_refl _)
  have HE := hid hE; have HP := hid h; have HLT := hid hlt; have HEND := hid hend; have HLSB := hid hlsb
  have HBD := hid hbd
  clear hE h hl hd hbd hlt hend hlsb hl2
  go_enter Tryd.func49, Tryd.ntmps49
  go_wp2_with fail
  refine HLN.out.mono ?_
  rintro e w1 ⟨rfl, hf1⟩
  have HF1 := hid hf1
  clear hf1
  go_wp2_with fail
  refine (HRD.out w1 HF1.out).mono ?_
  rintro e w2 ⟨hf2, v2, rfl, ho2⟩
  have HF2 := hid (HF1.out.trans' hf2)
  obtain ⟨a2, c2, hv2, -⟩ := own_len ho2
  subst hv2
  have HO2 := hid ho2
  clear hf2 ho2
  have HALL := hid (all_any _ pa _ l ls t code w2 (OB.bs HO2.out) (by have := HBD.out; omega) (HE.out.frame (HP.out.f.trans' HF2.out)).s HLSB.out HLT.out HEND.out)
  go_wp2_with fail
  refine HALL.out.mono ?_
  rintro e w3 ⟨v3, rfl, hr3, hf3⟩
  obtain ⟨a3, c3, hv3⟩ := hr3.len
  subst hv3
  have HR3 := hid hr3; have HF3 := hid (HF2.out.trans' hf3)
  have g1 : w3.cell? ⟨6, 0, none⟩ = some (.iface 168 (.pointer (some (pa 1)))) := (HE.out.frame (HP.out.f.trans' HF3.out)).s 1 (by decide)
  clear hr3 hf3
  have HCODE := hid (rfl : code = code)
  by_cases hc : code = 0
  rotate_left
  · have hg : gen l = none := gen_none fun h b hg => by
      obtain ⟨h1, h2, h3⟩ := hg
      have h4 := decomp_one ls [h, b] t [] code 0 HEND.out (.inl ⟨rfl, rfl⟩) HLSB.out (fun x hx => by simp at hx; rcases hx with rfl | rfl <;> omega) (by rw [← HLT.out, h3]; simp)
      rcases HEND.out with ⟨-, e⟩ | ⟨e, -⟩
      · exact hc e
      · exact e h4.2
    obtain ⟨pe, hpe⟩ := errV_some pa hc
    rw [hpe]
    have HG := hid hg
    clear hg hpe hc
    go_wp2_with fail
    go_quiet (fail)
    go_wp2_with fail
    go_ret3
    exact ⟨HF3.out.drewN _, .inr ⟨HG.out, rfl⟩⟩
  subst hc
  have ht : t = [] := by
    rcases HEND.out with ⟨e, -⟩ | ⟨-, -, e⟩
    · exact e
    · exact absurd rfl e
  have hlr : l = recsB ls := by rw [HLT.out, ht, List.append_nil]
  have z0 : errV pa 0 = .nilIface := rfl
  rw [z0]
  by_cases h2 : ls.length = 2
  rotate_left
  · have hg : gen l = none := gen_none fun h b hg => by
      obtain ⟨h1, h2', h3⟩ := hg
      have h4 := decomp_one ls [h, b] [] [] 0 0 (.inl ⟨rfl, rfl⟩) (.inl ⟨rfl, rfl⟩) HLSB.out (fun x hx => by simp at hx; rcases hx with rfl | rfl <;> omega) (by simp only [List.append_nil]; rw [← hlr, h3])
      exact h2 (by rw [h4.1]; rfl)
    have h2b : ((ls.length : Int) != 2) = true := by rw [bne_iff_ne]; omega
    have HG := hid hg
    clear hg z0 ht hlr h2
    go_wp2_with fail
    go_quiet (fail)
    go_wp2_with fail
    go_ret3
    exact ⟨HF3.out.drewN _, .inr ⟨HG.out, rfl⟩⟩
  obtain ⟨h, b, rfl⟩ : ∃ h b, ls = [h, b] := by
    match ls, h2 with
    | [h, b], _ => exact ⟨h, b, rfl⟩
  obtain ⟨g3, u0, rfl, hc0, ho0⟩ := HR3.out.get rfl 0 (by simp)
  obtain ⟨g3', u1, he, hc1, ho1⟩ := HR3.out.get rfl 1 (by simp)
  simp only [Option.some.injEq, Addr.mk.injEq, and_true] at he
  subst he
  simp only [List.getD_cons_zero, List.getD_cons_succ] at ho0 ho1
  obtain ⟨a0, c0, hu0, -⟩ := own_len ho0
  obtain ⟨a1, c1, hu1, -⟩ := own_len ho1
  subst hu0 hu1
  have HO0 := hid ho0; have HO1 := hid ho1
  clear ho0 ho1 z0 ht h2
  by_cases h8 : h.length = 8
  rotate_left
  · have hg : gen l = none := gen_none fun h' b' hg => by
      obtain ⟨h1, h2', h3⟩ := hg
      have h4 := decomp_one [h, b] [h', b'] [] [] 0 0 (.inl ⟨rfl, rfl⟩) (.inl ⟨rfl, rfl⟩) HLSB.out (fun x hx => by simp at hx; rcases hx with rfl | rfl <;> omega) (by simp only [List.append_nil]; rw [← hlr, h3])
      have := h4.1
      simp only [List.cons.injEq, and_true] at this
      exact h8 (by rw [this.1]; exact h1)
    have h8b : ((h.length : Int) != 8) = true := by rw [bne_iff_ne]; omega
    have HG := hid hg
    clear hg hlr h8
    simp only [List.length_cons, List.length_nil, Nat.zero_add, Nat.reduceAdd]
    go_wp2_with fail
    go_quiet (fail)
    go_wp2_with fail
    go_ret3
    exact ⟨HF3.out.drewN _, .inr ⟨HG.out, rfl⟩⟩
  have hg : gen l = some (b, i8 h) := gen_of ⟨h8, HLSB.out b (by simp), hlr⟩
  obtain ⟨g0, rfl, hcl⟩ : ∃ g0, a0 = some ⟨g0, 0, none⟩ ∧ ∀ j, j < 8 → w3.cell? ⟨g0, j, none⟩ = some (.int .u8 (h.getD j 0).toNat) := by
    rcases own_heap HO0.out with ⟨e, h0, -⟩ | ⟨g, cap, e, -, -, hc⟩
    · omega
    · simp only [Value.slice.injEq] at e
      refine ⟨g, e.1, fun j hj => ?_⟩
      rw [hc j (by omega)]
      simp [bV, List.getD, show j < h.length by omega]
  have HG := hid hg; have HCL := hid hcl; have H8 := hid h8
  clear hg hcl hlr
  rw [h8] at hc0
  simp only [List.length_cons, List.length_nil, Nat.zero_add, Nat.reduceAdd]
  clear h8
  go_wp2_with fail
  go_loopw [12, 59] (fun kv iv wr => ∃ i : Nat, i ≤ 8 ∧ kv = .int .u64 (n8 (h.take i)) ∧ iv = .int .i64 i ∧ w3 = wr) (fun _ iv _ => 8 - (intOf iv).toNat)
  case atStart => exact ⟨0, by omega, by rw [List.take_zero]; rfl, rfl, rfl⟩
  case round =>
    obtain ⟨i, hi, rfl, rfl, rfl⟩ := hrel
    have hcs : i = 0 ∨ i = 1 ∨ i = 2 ∨ i = 3 ∨ i = 4 ∨ i = 5 ∨ i = 6 ∨ i = 7 ∨ i = 8 := by omega
    rcases hcs with rfl | rfl | rfl | rfl | rfl | rfl | rfl | rfl | rfl
    · have hcj := HCL.out 0 (by decide)
      have hx := (h.getD 0 0).toNat_lt
      have HOR := hid (show bits .or .u64 (n8 (h.take 0) : Int) (((h.getD 0 0).toNat : Int)) = (n8 (h.take 1) : Int) from by have := or_step h H8.out 0 (by decide) 1 (by decide); simpa using this)
      have hsl : n8 (h.take 0) < 18446744073709551616 := by
        have := n8_lt (h.take 0)
        rw [List.length_take, H8.out] at this
        exact Nat.lt_of_lt_of_le this (by decide)
      generalize (h.getD 0 0).toNat = x at *
      generalize n8 (h.take 0) = s at *
      go_wp2_with fail
      first
        | exact ⟨⟨1, by omega, by rw [HOR.out], rfl, trivial⟩, by simp [intOf]⟩
        | (go_roundw
           case rel => exact ⟨1, by omega, by rw [HOR.out], rfl, trivial⟩
           case measure => simp [intOf])
    · have hcj := HCL.out 1 (by decide)
      have hx := (h.getD 1 0).toNat_lt
      have HOR := hid (show bits .or .u64 (n8 (h.take 1) : Int) (((h.getD 1 0).toNat : Int) * 256) = (n8 (h.take 2) : Int) from by have := or_step h H8.out 1 (by decide) 256 (by decide); simpa using this)
      have hsl : n8 (h.take 1) < 18446744073709551616 := by
        have := n8_lt (h.take 1)
        rw [List.length_take, H8.out] at this
        exact Nat.lt_of_lt_of_le this (by decide)
      generalize (h.getD 1 0).toNat = x at *
      generalize n8 (h.take 1) = s at *
      go_wp2_with fail
      first
        | exact ⟨⟨2, by omega, by rw [HOR.out], rfl, trivial⟩, by simp [intOf]⟩
        | (go_roundw
           case rel => exact ⟨2, by omega, by rw [HOR.out], rfl, trivial⟩
           case measure => simp [intOf])
    · have hcj := HCL.out 2 (by decide)
      have hx := (h.getD 2 0).toNat_lt
      have HOR := hid (show bits .or .u64 (n8 (h.take 2) : Int) (((h.getD 2 0).toNat : Int) * 65536) = (n8 (h.take 3) : Int) from by have := or_step h H8.out 2 (by decide) 65536 (by decide); simpa using this)
      have hsl : n8 (h.take 2) < 18446744073709551616 := by
        have := n8_lt (h.take 2)
        rw [List.length_take, H8.out] at this
        exact Nat.lt_of_lt_of_le this (by decide)
      generalize (h.getD 2 0).toNat = x at *
      generalize n8 (h.take 2) = s at *
      go_wp2_with fail
      first
        | exact ⟨⟨3, by omega, by rw [HOR.out], rfl, trivial⟩, by simp [intOf]⟩
        | (go_roundw
           case rel => exact ⟨3, by omega, by rw [HOR.out], rfl, trivial⟩
           case measure => simp [intOf])
    · have hcj := HCL.out 3 (by decide)
      have hx := (h.getD 3 0).toNat_lt
      have HOR := hid (show bits .or .u64 (n8 (h.take 3) : Int) (((h.getD 3 0).toNat : Int) * 16777216) = (n8 (h.take 4) : Int) from by have := or_step h H8.out 3 (by decide) 16777216 (by decide); simpa using this)
      have hsl : n8 (h.take 3) < 18446744073709551616 := by
        have := n8_lt (h.take 3)
        rw [List.length_take, H8.out] at this
        exact Nat.lt_of_lt_of_le this (by decide)
      generalize (h.getD 3 0).toNat = x at *
      generalize n8 (h.take 3) = s at *
      go_wp2_with fail
      first
        | exact ⟨⟨4, by omega, by rw [HOR.out], rfl, trivial⟩, by simp [intOf]⟩
        | (go_roundw
           case rel => exact ⟨4, by omega, by rw [HOR.out], rfl, trivial⟩
           case measure => simp [intOf])
    · have hcj := HCL.out 4 (by decide)
      have hx := (h.getD 4 0).toNat_lt
      have HOR := hid (show bits .or .u64 (n8 (h.take 4) : Int) (((h.getD 4 0).toNat : Int) * 4294967296) = (n8 (h.take 5) : Int) from by have := or_step h H8.out 4 (by decide) 4294967296 (by decide); simpa using this)
      have hsl : n8 (h.take 4) < 18446744073709551616 := by
        have := n8_lt (h.take 4)
        rw [List.length_take, H8.out] at this
        exact Nat.lt_of_lt_of_le this (by decide)
      generalize (h.getD 4 0).toNat = x at *
      generalize n8 (h.take 4) = s at *
      go_wp2_with fail
      first
        | exact ⟨⟨5, by omega, by rw [HOR.out], rfl, trivial⟩, by simp [intOf]⟩
        | (go_roundw
           case rel => exact ⟨5, by omega, by rw [HOR.out], rfl, trivial⟩
           case measure => simp [intOf])
    · have hcj := HCL.out 5 (by decide)
      have hx := (h.getD 5 0).toNat_lt
      have HOR := hid (show bits .or .u64 (n8 (h.take 5) : Int) (((h.getD 5 0).toNat : Int) * 1099511627776) = (n8 (h.take 6) : Int) from by have := or_step h H8.out 5 (by decide) 1099511627776 (by decide); simpa using this)
      have hsl : n8 (h.take 5) < 18446744073709551616 := by
        have := n8_lt (h.take 5)
        rw [List.length_take, H8.out] at this
        exact Nat.lt_of_lt_of_le this (by decide)
      generalize (h.getD 5 0).toNat = x at *
      generalize n8 (h.take 5) = s at *
      go_wp2_with fail
      first
        | exact ⟨⟨6, by omega, by rw [HOR.out], rfl, trivial⟩, by simp [intOf]⟩
        | (go_roundw
           case rel => exact ⟨6, by omega, by rw [HOR.out], rfl, trivial⟩
           case measure => simp [intOf])
    · have hcj := HCL.out 6 (by decide)
      have hx := (h.getD 6 0).toNat_lt
      have HOR := hid (show bits .or .u64 (n8 (h.take 6) : Int) (((h.getD 6 0).toNat : Int) * 281474976710656) = (n8 (h.take 7) : Int) from by have := or_step h H8.out 6 (by decide) 281474976710656 (by decide); simpa using this)
      have hsl : n8 (h.take 6) < 18446744073709551616 := by
        have := n8_lt (h.take 6)
        rw [List.length_take, H8.out] at this
        exact Nat.lt_of_lt_of_le this (by decide)
      generalize (h.getD 6 0).toNat = x at *
      generalize n8 (h.take 6) = s at *
      go_wp2_with fail
      first
        | exact ⟨⟨7, by omega, by rw [HOR.out], rfl, trivial⟩, by simp [intOf]⟩
        | (go_roundw
           case rel => exact ⟨7, by omega, by rw [HOR.out], rfl, trivial⟩
           case measure => simp [intOf])
    · have hcj := HCL.out 7 (by decide)
      have hx := (h.getD 7 0).toNat_lt
      have HOR := hid (show bits .or .u64 (n8 (h.take 7) : Int) (((h.getD 7 0).toNat : Int) * 72057594037927936) = (n8 (h.take 8) : Int) from by have := or_step h H8.out 7 (by decide) 72057594037927936 (by decide); simpa using this)
      have hsl : n8 (h.take 7) < 18446744073709551616 := by
        have := n8_lt (h.take 7)
        rw [List.length_take, H8.out] at this
        exact Nat.lt_of_lt_of_le this (by decide)
      generalize (h.getD 7 0).toNat = x at *
      generalize n8 (h.take 7) = s at *
      go_wp2_with fail
      first
        | exact ⟨⟨8, by omega, by rw [HOR.out], rfl, trivial⟩, by simp [intOf]⟩
        | (go_roundw
           case rel => exact ⟨8, by omega, by rw [HOR.out], rfl, trivial⟩
           case measure => simp [intOf])
    · have hw8 : IntKind.i64.wrap (n8 (h.take 8) : Int) = i8 h := by unfold i8; rw [List.take_of_length_le (by rw [H8.out]; exact Nat.le_refl _)]
      have HW8 := hid hw8
      clear hw8
      generalize n8 (h.take 8) = s at *
      go_wp2_with fail
      go_ret3
      refine ⟨HF3.out, .inl ⟨b, i8 h, .slice a1 b.length c1, HG.out, ?_, own_rebase HO1.out fun q hq => ?_⟩⟩
      · have e : wrap64 (s : Int) = i8 h := by rw [← HW8.out, IntKind.wrap_i64]; unfold wrap64; first | rfl | omega | (split <;> omega)
        rw [← e]
        rfl
      · have h1 := (HO1.out.lt q hq).1
        have h2 := HF2.out.size
        omega
end Go.Proofs.YtpceckmjoicdlaaDoor
