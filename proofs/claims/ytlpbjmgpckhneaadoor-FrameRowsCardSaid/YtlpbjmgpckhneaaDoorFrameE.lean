/- Package frame: Read, Put, All; the document's. -/
import Derived.Test.YtlpbjmgpckhneaaDoorFrameD
namespace Go.Proofs.YtlpbjmgpckhneaaDoor
open Go.RowKit

/-- The record at the beginning, how many bytes, the error's number. -/
def readB (l : List UInt8) : List UInt8 × Nat × Nat :=
  if l.length < 4 then ([], 0, 101) else if 4194304 < n4 l then ([], 0, 104) else if l.length < n4 l + 8 then ([], 0, 101) else
  if (openB ((l.take (n4 l + 8)).drop 4)).2 = 0 then ((openB ((l.take (n4 l + 8)).drop 4)).1, n4 l + 8, 0) else ([], 0, (openB ((l.take (n4 l + 8)).drop 4)).2)
theorem openB_no (l : List UInt8) : ErrNo (openB l).2 := by
  unfold openB ErrNo
  split
  · simp
  · split <;> simp
theorem errV_eq (pa : Nat → Addr) (w : World) (m : Nat) (h : m ≠ 0) : (binOp .neq 29 (errV pa m) .nilIface).run Tryd.prog w = .ok (.bool true) w := by
  unfold errV
  rw [if_neg h]
  rfl

theorem read_any (D : Nat → Prop) (pa : Nat → Addr) (v : Value) (l : List UInt8) (w : World) (hB : Bs D w v l) (hl : l.length ≤ 1073741824) (hE : Sents w pa) :
    Calls Tryd.prog 15 #[v] w fun e w' => ∃ v', e = .returned (.tuple #[v', .int .i64 (readB l).2.1, errV pa (readB l).2.2]) ∧ OB w.heap.size w' v' (readB l).1 ∧ Fr (fun _ => False) w w' := by
  have hB0 := hB
  obtain ⟨a, c, rfl, hlc, hcm, hk⟩ := hB
  have e0 : w.cell? ⟨0, 0, none⟩ = some (.iface 79 (.pointer (some (pa 0)))) := hE 0 (by decide)
  have e3 : w.cell? ⟨2, 0, none⟩ = some (.iface 79 (.pointer (some (pa 3)))) := hE 3 (by decide)
  by_cases h4 : l.length < 4
  · have hr : readB l = ([], 0, 101) := by simp [readB, h4]
    have hm : decide (l.length < 4) = true := by simp; omega
    have HH := hid hr
    clear hE hB0 hk hr
    go_enter Tryd.func15, Tryd.ntmps15
    go_wp2_with fail
    go_quiet (fail)
    go_wp2
    go_ret3
    exact ⟨.slice none 0 0, by rw [HH.out]; rfl, by rw [HH.out]; exact World.ownsRow_nil _ _ _ _, (Fr.refl _ _).drewN _⟩
  · obtain ⟨b, o, rfl, _, _⟩ := hk 0 (by omega)
    clear hk
    have hn4 := fnumber_any D _ l w hB0 (by omega)
    have hlo := n4_lt l
    have hrd : readB l = if 4194304 < n4 l then ([], 0, 104) else if l.length < n4 l + 8 then ([], 0, 101) else
      if (openB ((l.take (n4 l + 8)).drop 4)).2 = 0 then ((openB ((l.take (n4 l + 8)).drop 4)).1, n4 l + 8, 0) else ([], 0, (openB ((l.take (n4 l + 8)).drop 4)).2) := by
      conv => lhs; unfold readB
      rw [if_neg h4]
    have hm : decide (l.length < 4) = false := by simp; omega
    generalize n4 l = x at *
    have HN := hid hn4; have HR := hid hrd; have HB := hid hB0; have HE := hid hE
    clear hn4 hrd hB0 hE
    by_cases h2 : 4194304 < x
    · rw [if_pos h2] at HR
      go_enter Tryd.func15, Tryd.ntmps15
      go_wp2_with fail
      refine HN.out.mono ?_
      rintro e w1 ⟨rfl, n, rfl⟩
      go_wp2_with fail
      go_quiet (fail)
      go_wp2
      go_ret3
      exact ⟨.slice none 0 0, by rw [HR.out]; rfl, by rw [HR.out]; exact World.ownsRow_nil _ _ _ _, ((Fr.refl _ _).drewN _).drewN _⟩
    · rw [if_neg h2] at HR
      have h2' : ¬ (4194304 : Int) < x := by omega
      by_cases h3 : l.length < x + 8
      · rw [if_pos h3] at HR
        go_enter Tryd.func15, Tryd.ntmps15
        go_wp2_with fail
        refine HN.out.mono ?_
        rintro e w1 ⟨rfl, n, rfl⟩
        go_wp2_with fail
        go_quiet (fail)
        go_wp2
        go_ret3
        exact ⟨.slice none 0 0, by rw [HR.out]; rfl, by rw [HR.out]; exact World.ownsRow_nil _ _ _ _, ((Fr.refl _ _).drewN _).drewN _⟩
      · rw [if_neg h3] at HR
        unfold maxLen at hcm
        have hq : Bs D w (.slice (some ⟨b, o + 4, none⟩) (x + 4) (c - 4)) ((l.take (x + 8)).drop 4) := by
          have h1 := Bs.upto HB.out (x + 8) (by omega)
          have hL : (l.take (x + 8)).length = x + 8 := by simp; omega
          have h2 := Bs.from (l := l.take (x + 8)) (b := b) (o := o) (c := c) (by rw [hL]; exact h1) 4 (by omega)
          rw [hL, show x + 8 - 4 = x + 4 by omega] at h2
          exact h2
        have hql : ((l.take (x + 8)).drop 4).length ≤ 1073741824 := by simp; omega
        have hc4 : ¬ c = 4 := by omega
        have hx4 : ¬ 4194304 < (x : Int) := by omega
        have hx8 : ¬ (l.length : Int) < (x : Int) + 8 := by omega
        have hx9 : x + 8 ≤ c := by omega
        have hx10 : (4 : Int) ≤ (x : Int) + 8 := by omega
        generalize (l.take (x + 8)).drop 4 = q at *
        have hno := openB_no q
        have hop := fun w1 (hf : Fr (fun _ => False) w w1) => open_any D pa _ q w1 (hq.frame hf (fun _ _ => not_false)) hql (HE.out.frame hf)
        have HOP := hid hop; have HNO := hid hno; have HQ := hid hq
        clear hop hno hq hql
        have hfn := fun n => (Fr.refl (fun _ => False) w).drewN n
        have HFN := hid hfn
        clear hfn
        go_enter Tryd.func15, Tryd.ntmps15
        go_wp2_with fail
        refine HN.out.mono ?_
        rintro e w1 ⟨rfl, n, rfl⟩
        go_wp2_with fail
        refine (HOP.out _ (HFN.out n)).mono ?_
        rintro e w2 ⟨v2, rfl, ho2, hf2⟩
        have HO2 := hid ho2; have HF2 := hid ((HFN.out n).trans' hf2)
        clear ho2 hf2
        by_cases hm0 : (openB q).2 = 0
        · rw [if_pos hm0] at HR
          rw [hm0]
          have HM := hid hm0
          clear hm0
          unfold errV
          rw [if_pos rfl]
          go_wp2_with fail
          go_ret3
          exact ⟨v2, by rw [HR.out]; rfl, by rw [HR.out]; exact HO2.out, HF2.out⟩
        · rw [if_neg hm0] at HR
          have he : ∃ a, errV pa (openB q).2 = .iface 79 (.pointer (some a)) := ⟨_, by unfold errV; rw [if_neg hm0]⟩
          obtain ⟨ea, he⟩ := he
          rw [he]
          have HM := hid hm0; have HEA := hid he
          clear hm0 he
          go_wp2_with fail
          go_ret3
          exact ⟨.slice none 0 0, by rw [HR.out, ← HEA.out]; rfl, by rw [HR.out]; exact World.ownsRow_nil _ _ _ _, HF2.out⟩

theorem rread_any (D : Nat → Prop) (v : Value) (l : List UInt8) (w : World) (hB : Bs D w v l) (hl : l.length ≤ 1073741824) :
    Calls Tryd.prog 16 #[v] w fun e w' => ∃ v', e = .returned (.tuple #[v', .int .i64 (readB l).2.1, .int .i64 (readB l).2.2]) ∧ Bs D w' v' (readB l).1 ∧ Fr (fun _ => False) w w' := by
  have hnil : ∀ w' : World, Bs D w' (.slice none 0 0) [] := fun w' => ⟨none, 0, rfl, Nat.le_refl _, Nat.zero_le _, fun k hk => by simp at hk⟩
  have HNIL := hid hnil
  clear hnil
  have hB0 := hB
  obtain ⟨a, c, rfl, hlc, hcm, hk⟩ := hB
  by_cases h4 : l.length < 4
  · have hr : readB l = ([], 0, 101) := by simp [readB, h4]
    have hm : decide (l.length < 4) = true := by simp; omega
    have HH := hid hr
    clear hB0 hk hr
    go_enter Tryd.func16, Tryd.ntmps16
    go_wp2_with fail
    go_ret3
    exact ⟨.slice none 0 0, by rw [HH.out]; rfl, by rw [HH.out]; exact HNIL.out _, Fr.refl _ _⟩
  · obtain ⟨b, o, rfl, _, _⟩ := hk 0 (by omega)
    clear hk
    have hn4 := rnumber_any D _ l w hB0 (by omega)
    have hlo := n4_lt l
    have hrd : readB l = if 4194304 < n4 l then ([], 0, 104) else if l.length < n4 l + 8 then ([], 0, 101) else
      if (openB ((l.take (n4 l + 8)).drop 4)).2 = 0 then ((openB ((l.take (n4 l + 8)).drop 4)).1, n4 l + 8, 0) else ([], 0, (openB ((l.take (n4 l + 8)).drop 4)).2) := by
      conv => lhs; unfold readB
      rw [if_neg h4]
    have hm : decide (l.length < 4) = false := by simp; omega
    generalize n4 l = x at *
    have HN := hid hn4; have HR := hid hrd; have HB := hid hB0
    clear hn4 hrd hB0
    by_cases h2 : 4194304 < x
    · rw [if_pos h2] at HR
      have h2' : (4194304 : Int) < x := by omega
      go_enter Tryd.func16, Tryd.ntmps16
      go_wp2_with fail
      refine HN.out.mono ?_
      rintro e w1 ⟨rfl, n, rfl⟩
      go_wp2_with fail
      go_ret3
      exact ⟨.slice none 0 0, by rw [HR.out]; rfl, by rw [HR.out]; exact HNIL.out _, (Fr.refl _ _).drewN _⟩
    · rw [if_neg h2] at HR
      have h2' : ¬ (4194304 : Int) < x := by omega
      by_cases h3 : l.length < x + 8
      · rw [if_pos h3] at HR
        have h3' : (l.length : Int) - 8 < x := by omega
        go_enter Tryd.func16, Tryd.ntmps16
        go_wp2_with fail
        refine HN.out.mono ?_
        rintro e w1 ⟨rfl, n, rfl⟩
        go_wp2_with fail
        go_ret3
        exact ⟨.slice none 0 0, by rw [HR.out]; rfl, by rw [HR.out]; exact HNIL.out _, (Fr.refl _ _).drewN _⟩
      · rw [if_neg h3] at HR
        unfold maxLen at hcm
        have hq : Bs D w (.slice (some ⟨b, o + 4, none⟩) (x + 4) (c - 4)) ((l.take (x + 8)).drop 4) := by
          have h1 := Bs.upto HB.out (x + 8) (by omega)
          have hL : (l.take (x + 8)).length = x + 8 := by simp; omega
          have h2 := Bs.from (l := l.take (x + 8)) (b := b) (o := o) (c := c) (by rw [hL]; exact h1) 4 (by omega)
          rw [hL, show x + 8 - 4 = x + 4 by omega] at h2
          exact h2
        have hql : ((l.take (x + 8)).drop 4).length ≤ 1073741824 := by simp; omega
        have hc4 : ¬ c = 4 := by omega
        have hx8 : ¬ (l.length : Int) - 8 < (x : Int) := by omega
        have hx9 : 8 + x ≤ c := by omega
        have hx10 : (4 : Int) ≤ 8 + (x : Int) := by omega
        have hx11 : 8 + x - 4 = x + 4 := by omega
        generalize (l.take (x + 8)).drop 4 = q at *
        have hop := fun w1 (hf : Fr (fun _ => False) w w1) => ropen_any D _ q w1 (hq.frame hf (fun _ _ => not_false)) hql
        have HOP := hid hop; have HQ := hid hq
        clear hop hq hql
        have hfn := fun n => (Fr.refl (fun _ => False) w).drewN n
        have HFN := hid hfn
        clear hfn
        go_enter Tryd.func16, Tryd.ntmps16
        go_wp2_with fail
        refine HN.out.mono ?_
        rintro e w1 ⟨rfl, n, rfl⟩
        go_wp2_with fail
        refine (HOP.out _ (HFN.out n)).mono ?_
        rintro e w2 ⟨v2, rfl, ho2, hf2⟩
        have HO2 := hid ho2; have HF2 := hid ((HFN.out n).trans' hf2)
        clear ho2 hf2
        have h8 : (8 : Int) + x = ((x + 8 : Nat) : Int) := by omega
        have H8 := hid h8
        clear h8
        by_cases hm0 : (openB q).2 = 0
        · rw [if_pos hm0] at HR
          rw [hm0]
          have HM := hid hm0
          clear hm0
          go_wp2_with fail
          go_ret3
          exact ⟨v2, by rw [HR.out]; simp; omega, by rw [HR.out]; exact HO2.out, HF2.out⟩
        · rw [if_neg hm0] at HR
          have hb : (((openB q).2 : Int) != 0) = true := by rw [bne_iff_ne]; omega
          have HM := hid hm0
          clear hm0
          go_wp2_with fail
          go_ret3
          exact ⟨.slice none 0 0, by rw [HR.out]; rfl, by rw [HR.out]; exact HNIL.out _, HF2.out⟩

/-! ### Put -/
def recB (r : List UInt8) : List UInt8 := le4 r.length ++ sealB r
def recsB (ls : List (List UInt8)) : List UInt8 := (ls.map recB).flatten
theorem recB_len (r : List UInt8) : (recB r).length = r.length + 8 := by simp [recB, sealB]; omega
theorem recsB_take (ls : List (List UInt8)) (k : Nat) (h : k < ls.length) : recsB (ls.take (k + 1)) = recsB (ls.take k) ++ recB (ls.getD k []) := by
  rw [take_snoc ls k [] h]
  simp [recsB]
theorem recsB_le (ls : List (List UInt8)) (k : Nat) : (recsB (ls.take k)).length ≤ (recsB ls).length := by
  have : recsB ls = recsB (ls.take k) ++ recsB (ls.drop k) := by
    simp only [recsB]
    rw [← List.flatten_append, ← List.map_append, List.take_append_drop]
  rw [this, List.length_append]
  omega
/-- A list of byte lists reads so in w; all of it lies where D says. -/
abbrev Bss (D : Nat → Prop) (w : World) (v : Value) (ls : List (List UInt8)) : Prop := Sl D w v ls.length (fun k u => Bs D w u (ls.getD k []))

theorem put_any (D E : Nat → Prop) (v vs : Value) (l : List UInt8) (ls : List (List UInt8)) (w : World) (hB : Bs D w v l) (hS : Bss E w vs ls) (hl : (l ++ recsB ls).length ≤ 1073741824) :
    Calls Tryd.prog 20 #[v, vs] w fun e w' => ∃ v', e = .returned v' ∧ OB w.heap.size w' v' (l ++ recsB ls) ∧ Fr (fun _ => False) w w' := by
  obtain ⟨a, c, rfl, hlc, hcm, hk⟩ := hS
  have hm' : ls.length ≤ 9223372036854775807 := Nat.le_trans hlc hcm
  simp only [List.length_append] at hl
  have HK := hid hk; have HB := hid hB
  clear hk hB
  go_enter Tryd.func20, Tryd.ntmps20
  go_wp2_with fail
  refine (clone_any D v l w HB.out (by omega)).mono ?_
  rintro e w1 ⟨v1, rfl, ho1, hf1⟩
  have HO1 := hid ho1; have HF1 := hid hf1
  clear ho1 hf1
  go_wp2_with fail
  go_loopw [5, 12] (fun v i wr => ∃ k : Nat, k ≤ ls.length ∧ i = .int .i64 k ∧ OB w.heap.size wr v (l ++ recsB (ls.take k)) ∧ Fr (fun _ => False) w wr) (fun _ i _ => ls.length - (intOf i).toNat)
  case atStart => exact ⟨0, Nat.zero_le _, rfl, by simpa [recsB] using HO1.out, HF1.out⟩
  case round =>
    clear HO1 HF1
    obtain ⟨k, hk, rfl, hO, hf⟩ := hrel
    by_cases hlt : k < ls.length
    · obtain ⟨b, o, u, rfl, hDb, hcw, hu⟩ := HK.out k hlt
      have hcr := hf.cell hcw not_false
      have ht := recsB_take ls k hlt
      have hle := recsB_le ls (k + 1)
      rw [ht, List.length_append, recB_len] at hle
      generalize ls.getD k [] = r at *
      have hu2 := hu
      obtain ⟨ra, rc, rfl, hrl, hrc, _⟩ := hu
      have hrb : r.length < 4294967296 := by omega
      have hln : (l ++ recsB (ls.take k)).length ≤ 1073741824 := by simp only [List.length_append]; omega
      have hl3 : (l ++ recsB (ls.take k)).length + 4 + (r.length + 4) ≤ 1099511627776 := by simp only [List.length_append]; omega
      have hrl2 : r.length ≤ 1073741824 := by omega
      have HT := hid ht; have HO := hid hO; have HF := hid hf; have HU := hid hu2; have HLE := hid hle; have HLN := hid hln; have HL3 := hid hl3
      clear ht hO hf hu2 hle hcw hln hl3
      go_wp2_with fail
      refine (little_any w.heap.size _ _ r.length wr HO.out hrb HLN.out HF.out.size).mono ?_
      rintro e w2 ⟨v2, rfl, ho2, hf2⟩
      have HF2 := hid (OB.fr HF.out HO.out hf2); have HO2 := hid ho2
      clear ho2 hf2
      go_wp2_with fail
      refine (seal_any E _ r w2 (HU.out.frame HF2.out (fun _ _ => not_false)) hrl2).mono ?_
      rintro e w3 ⟨v3, rfl, ho3, hf3⟩
      have HF3 := hid (HF2.out.trans' hf3)
      have HO3 := hid (hf3.own HO2.out (fun _ _ => not_false))
      obtain ⟨ao, c3, rfl, -, hn, hc⟩ := own_src ho3
      have HN := hid hn; have HC := hid hc
      clear ho3 hf3 hn hc
      have hsl : (sealB r).length = r.length + 4 := by simp [sealB]
      have HSL := hid hsl
      clear hsl
      go_wp2_with (at_builtin; go_must (refine wpList_appendN rfl (.tmp 20) (.tmp 22) 22 rfl 5 (.int .u8 0) 1 Tryd.underlying22 Tryd.info_byte rfl v2 rfl w.heap.size (l ++ recsB (ls.take k) ++ le4 r.length).length (bV (l ++ recsB (ls.take k) ++ le4 r.length)) HO3.out ao (sealB r).length c3 (bV (sealB r)) rfl (by simp) HN.out (by intro j hj; exact HC.out j hj) (bV_one _) (by rw [HSL.out]; have := HL3.out; simp at this ⊢; omega) (by decide) HF3.out.size ?_))
      intro v' w' ho' hf' _
      have hO4 : OB w.heap.size w' v' (l ++ recsB (ls.take (k + 1))) := by
        rw [HT.out, recB]
        simpa [OB, bV, List.append_assoc, Nat.add_assoc] using ho'
      have HF4 := hid (OB.fr HF3.out HO3.out hf')
      have HO4 := hid hO4
      clear ho' hf' hO4
      go_wp2
      go_roundw
      case rel => exact ⟨k + 1, by omega, by go_num, HO4.out, HF4.out⟩
      case measure => simp [intOf]; omega
    · obtain rfl : k = ls.length := by omega
      rw [List.take_length] at hO
      have HO := hid hO; have HF := hid hf
      clear hO hf
      go_wp2
      go_ret
      exact ⟨_, rfl, HO.out, HF.out⟩

theorem rput_any (D E : Nat → Prop) (v vs : Value) (l : List UInt8) (ls : List (List UInt8)) (w : World) (hB : Bs D w v l) (hS : Bss E w vs ls) (hl : (l ++ recsB ls).length ≤ 1073741824) :
    Calls Tryd.prog 21 #[v, vs] w fun e w' => ∃ v', e = .returned v' ∧ OB w.heap.size w' v' (l ++ recsB ls) ∧ Fr (fun _ => False) w w' := by
  obtain ⟨a, c, rfl, hlc, hcm, hk⟩ := hS
  have hm' : ls.length ≤ 9223372036854775807 := Nat.le_trans hlc hcm
  simp only [List.length_append] at hl
  have HK := hid hk; have HB := hid hB
  clear hk hB
  go_enter Tryd.func21, Tryd.ntmps21
  go_wp2_with fail
  refine (bytes_any D v l w HB.out (by omega)).mono ?_
  rintro e w1 ⟨v1, rfl, ho1, hf1⟩
  have HO1 := hid ho1; have HF1 := hid hf1
  clear ho1 hf1
  go_wp2_with fail
  go_loopw [5, 6] (fun v i wr => ∃ k : Nat, k ≤ ls.length ∧ i = .int .i64 k ∧ OB w.heap.size wr v (l ++ recsB (ls.take k)) ∧ Fr (fun _ => False) w wr) (fun _ i _ => ls.length - (intOf i).toNat)
  case atStart => exact ⟨0, Nat.zero_le _, rfl, by simpa [recsB] using HO1.out, HF1.out⟩
  case round =>
    clear HO1 HF1
    obtain ⟨k, hk, rfl, hO, hf⟩ := hrel
    by_cases hlt : k < ls.length
    · obtain ⟨b, o, u, rfl, hDb, hcw, hu⟩ := HK.out k hlt
      have hcr := hf.cell hcw not_false
      have hblt : b < w.heap.size := World.block_lt_of_cell? w _ hcw
      have ht := recsB_take ls k hlt
      have hle := recsB_le ls (k + 1)
      rw [ht, List.length_append, recB_len] at hle
      generalize ls.getD k [] = r at *
      have hu2 := hu
      obtain ⟨ra, rc, rfl, hrl, hrc, _⟩ := hu
      have hrb : r.length < 4294967296 := by omega
      have hln : (l ++ recsB (ls.take k)).length ≤ 1073741824 := by simp only [List.length_append]; omega
      have hl3 : (l ++ recsB (ls.take k)).length + 4 + (r.length + 4) ≤ 1099511627776 := by simp only [List.length_append]; omega
      have hrl2 : r.length ≤ 1073741824 := by omega
      have HT := hid ht; have HO := hid hO; have HF := hid hf; have HU := hid hu2; have HLE := hid hle; have HLN := hid hln; have HL3 := hid hl3; have HCW := hid hcw
      clear ht hO hf hu2 hle hcw hln hl3
      go_wp2_with fail
      refine (rlittle_any r.length wr hrb).mono ?_
      rintro e w2 ⟨v2, rfl, ho2, hf2⟩
      have HF2 := hid (HF.out.trans' hf2)
      have HO2 := hid (hf2.own HO.out (fun _ _ => not_false))
      obtain ⟨ao, c3, rfl, -, hn, hc⟩ := own_src ho2
      have HN := hid hn; have HC := hid hc
      clear ho2 hf2 hn hc hcr
      go_wp2_with (at_builtin; go_must (refine wpList_appendN rfl (.tmp 15) (.tmp 22) 22 rfl 5 (.int .u8 0) 1 Tryd.underlying22 Tryd.info_byte rfl _ rfl w.heap.size (l ++ recsB (ls.take k)).length (bV (l ++ recsB (ls.take k))) HO2.out ao 4 c3 (bV (le4 r.length)) rfl (by simp) HN.out (by intro j hj; exact HC.out j hj) (bV_one _) (by have := HL3.out; omega) (by decide) HF2.out.size ?_))
      intro v3 w3 ho3 hf3 _
      have HF3 := hid (OB.fr HF2.out HO2.out hf3)
      have hO3 : OB w.heap.size w3 v3 (l ++ recsB (ls.take k) ++ le4 r.length) := by
        simpa [OB, bV, List.append_assoc, Nat.add_assoc] using ho3
      have HO3 := hid hO3
      have hcr := HF3.out.cell HCW.out not_false
      clear ho3 hf3 hO3 HO HO2 HN HC HF HF2
      go_wp2_with fail
      refine (rseal_any E _ r w3 (HU.out.frame HF3.out (fun _ _ => not_false)) hrl2).mono ?_
      rintro e w4 ⟨v4, rfl, ho4, hf4⟩
      have HF4 := hid (HF3.out.trans' hf4)
      have HO4 := hid (hf4.own HO3.out (fun _ _ => not_false))
      obtain ⟨ao2, c4, rfl, -, hn, hc⟩ := own_src ho4
      have HN := hid hn; have HC := hid hc
      clear ho4 hf4 hn hc hcr
      have hsl : (sealB r).length = r.length + 4 := by simp [sealB]
      have HSL := hid hsl
      clear hsl
      go_wp2_with (at_builtin; go_must (refine wpList_appendN rfl (.tmp 24) (.tmp 29) 22 rfl 5 (.int .u8 0) 1 Tryd.underlying22 Tryd.info_byte rfl v3 rfl w.heap.size (l ++ recsB (ls.take k) ++ le4 r.length).length (bV (l ++ recsB (ls.take k) ++ le4 r.length)) HO4.out ao2 (sealB r).length c4 (bV (sealB r)) rfl (by simp) HN.out (by intro j hj; exact HC.out j hj) (bV_one _) (by rw [HSL.out]; have := HL3.out; simp at this ⊢; omega) (by decide) HF4.out.size ?_))
      intro v' w' ho' hf' _
      have hO4 : OB w.heap.size w' v' (l ++ recsB (ls.take (k + 1))) := by
        rw [HT.out, recB]
        simpa [OB, bV, List.append_assoc, Nat.add_assoc] using ho'
      have HF5 := hid (OB.fr HF4.out HO4.out hf')
      have HO5 := hid hO4
      clear ho' hf' hO4
      go_wp2
      go_roundw
      case rel => exact ⟨k + 1, by omega, by go_num, HO5.out, HF5.out⟩
      case measure => simp [intOf]; omega
    · obtain rfl : k = ls.length := by omega
      rw [List.take_length] at hO
      have HO := hid hO; have HF := hid hf
      clear hO hf
      go_wp2
      go_ret
      exact ⟨_, rfl, HO.out, HF.out⟩
end Go.Proofs.YtlpbjmgpckhneaaDoor
