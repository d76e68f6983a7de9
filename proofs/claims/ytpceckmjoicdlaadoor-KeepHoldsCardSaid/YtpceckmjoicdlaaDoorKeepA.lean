/- Package keep: number. -/
import Derived.Test.YtpceckmjoicdlaaDoorDiskU
import Derived.Test.YtpceckmjoicdlaaDoorKFrame
import Derived.Test.YtpceckmjoicdlaaDoorErrIs
namespace Go.Proofs.YtpceckmjoicdlaaDoor
open Go.RowKit
variable {w0 w w' : World} {pa : Nat → Addr} {nm : ByteArray} {X : Nat}

/-- A number's eight bytes, the lowest first. -/
def le8 (u : Nat) : List UInt8 := [UInt8.ofNat u, UInt8.ofNat (u / 256), UInt8.ofNat (u / 65536), UInt8.ofNat (u / 16777216), UInt8.ofNat (u / 4294967296), UInt8.ofNat (u / 1099511627776), UInt8.ofNat (u / 281474976710656), UInt8.ofNat (u / 72057594037927936)]
set_option maxRecDepth 100000 in
set_option maxHeartbeats 6400000 in
theorem knumber_any (n : Int) (u : Nat) (hn : -9223372036854775808 ≤ n ∧ n ≤ 9223372036854775807) (hu : IntKind.u64.wrap n = (u : Int)) (hub : u < 18446744073709551616) (w : World) :
    Calls Tryd.prog 27 #[.int .i64 n] w fun e w' => ∃ v', e = .returned v' ∧ OB w.heap.size w' v' (le8 u) ∧ Fr (fun _ => False) w w' := by
  have hN := World.ownsRow_nil w w.heap.size 5 1
  have HN := hid hN
  clear hN
  go_enter Tryd.func27, Tryd.ntmps27
  go_wp2_with fail
  go_loopw [3, 5] (fun v iv wr => ∃ i : Nat, i ≤ 8 ∧ iv = .int .i64 i ∧ Hid (OB w.heap.size wr v ((le8 u).take i)) ∧ Hid (Fr (fun _ => False) w wr)) (fun _ iv _ => 8 - (intOf iv).toNat)
  case atStart => exact ⟨0, by omega, rfl, hid HN.out, hid (Fr.refl _ _)⟩
  case round =>
    obtain ⟨i, hi, rfl, HO, HF⟩ := hrel
    obtain ⟨L, hL⟩ : ∃ L, (le8 u).take i = L := ⟨_, rfl⟩
    have hlen : L.length = i := by rw [← hL, List.length_take]; simp [le8]; omega
    have ho := HO.out
    rw [hL] at ho
    obtain ⟨a, c, hv, -⟩ := own_len ho
    rw [hlen] at hv
    subst hv
    have HO2 := hid ho; have HL := hid hL; have HLEN := hid hlen
    clear ho hL hlen HO
    have hcs : i = 0 ∨ i = 1 ∨ i = 2 ∨ i = 3 ∨ i = 4 ∨ i = 5 ∨ i = 6 ∨ i = 7 ∨ i = 8 := by omega
    rcases hcs with rfl | rfl | rfl | rfl | rfl | rfl | rfl | rfl | rfl
    · have hval : ((UInt8.ofNat (u)).toNat : Int) = (u : Int) % 256 := by rw [UInt8.toNat_ofNat']; omega
      have hst : (le8 u).take 1 = L ++ [UInt8.ofNat (u)] := by rw [← HL.out]; rfl
      have hfa := (Fr.refl (fun _ => False) wr).alloc (.cells #[.int .u8 ((u : Int) % 256)] 5)
      have HOW := hid (show (wr.alloc (.cells #[.int .u8 ((u : Int) % 256)] 5)).ownsRow w.heap.size 5 1 (.slice a 0 c) 0 (bV L) from by have := hfa.own HO2.out fun _ _ => not_false; rw [HLEN.out] at this; exact this)
      have HC1 := hid (cell_new1 wr (.int .u8 ((u : Int) % 256)) 5 (0, 0))
      have HBS := hid (show w.heap.size ≤ (wr.alloc (.cells #[.int .u8 ((u : Int) % 256)] 5)).heap.size by have := hfa.size; have := HF.out.size; omega)
      have HFA := hid hfa; have HST := hid hst; have HVAL := hid hval
      clear hfa hst hval
      go_wp2_with (at_builtin; go_must (refine wpList_append1 rfl (.tmp 8) (.tmp 15) 22 rfl 5 (.int .u8 0) 1 Tryd.underlying22 Tryd.info_byte rfl _ rfl w.heap.size 0 (bV L) HOW.out wr.heap.size 1 (.int .u8 ((u : Int) % 256)) rfl HC1.out rfl (by decide) (by decide) HBS.out ?_))
      intro g cap w1 ho1 hf1 _
      have HO1 := hid (show OB w.heap.size w1 (.slice (some ⟨g, 0, none⟩) 1 cap) ((le8 u).take 1) from by
        rw [HST.out]
        unfold OB
        rw [List.length_append, HLEN.out]
        have e : bV (L ++ [UInt8.ofNat (u)]) = bV L ++ [.int .u8 ((u : Int) % 256)] := by simp only [bV, List.map_append, List.map_cons, List.map_nil]; rw [HVAL.out]
        rw [e]
        exact ho1)
      have HF1 := hid ((HF.out.trans' HFA.out).trans (U := fun _ => False) hf1 (fun _ _ h => h) fun k hk e => by
        have := (HOW.out.lt k e.symm).1
        omega)
      clear ho1 hf1
      go_wp2_with fail
      go_roundw
      case rel => exact ⟨1, by omega, rfl, HO1, HF1⟩
      case measure => simp [intOf]
    · have hval : ((UInt8.ofNat (u / 256)).toNat : Int) = (u : Int) / 256 % 256 := by rw [UInt8.toNat_ofNat']; omega
      have hst : (le8 u).take 2 = L ++ [UInt8.ofNat (u / 256)] := by rw [← HL.out]; rfl
      have hfa := (Fr.refl (fun _ => False) wr).alloc (.cells #[.int .u8 ((u : Int) / 256 % 256)] 5)
      have HOW := hid (show (wr.alloc (.cells #[.int .u8 ((u : Int) / 256 % 256)] 5)).ownsRow w.heap.size 5 1 (.slice a 1 c) 1 (bV L) from by have := hfa.own HO2.out fun _ _ => not_false; rw [HLEN.out] at this; exact this)
      have HC1 := hid (cell_new1 wr (.int .u8 ((u : Int) / 256 % 256)) 5 (0, 0))
      have HBS := hid (show w.heap.size ≤ (wr.alloc (.cells #[.int .u8 ((u : Int) / 256 % 256)] 5)).heap.size by have := hfa.size; have := HF.out.size; omega)
      have HFA := hid hfa; have HST := hid hst; have HVAL := hid hval
      clear hfa hst hval
      go_wp2_with (at_builtin; go_must (refine wpList_append1 rfl (.tmp 8) (.tmp 15) 22 rfl 5 (.int .u8 0) 1 Tryd.underlying22 Tryd.info_byte rfl _ rfl w.heap.size 1 (bV L) HOW.out wr.heap.size 1 (.int .u8 ((u : Int) / 256 % 256)) rfl HC1.out rfl (by decide) (by decide) HBS.out ?_))
      intro g cap w1 ho1 hf1 _
      have HO1 := hid (show OB w.heap.size w1 (.slice (some ⟨g, 0, none⟩) 2 cap) ((le8 u).take 2) from by
        rw [HST.out]
        unfold OB
        rw [List.length_append, HLEN.out]
        have e : bV (L ++ [UInt8.ofNat (u / 256)]) = bV L ++ [.int .u8 ((u : Int) / 256 % 256)] := by simp only [bV, List.map_append, List.map_cons, List.map_nil]; rw [HVAL.out]
        rw [e]
        exact ho1)
      have HF1 := hid ((HF.out.trans' HFA.out).trans (U := fun _ => False) hf1 (fun _ _ h => h) fun k hk e => by
        have := (HOW.out.lt k e.symm).1
        omega)
      clear ho1 hf1
      go_wp2_with fail
      go_roundw
      case rel => exact ⟨2, by omega, rfl, HO1, HF1⟩
      case measure => simp [intOf]
    · have hval : ((UInt8.ofNat (u / 65536)).toNat : Int) = (u : Int) / 65536 % 256 := by rw [UInt8.toNat_ofNat']; omega
      have hst : (le8 u).take 3 = L ++ [UInt8.ofNat (u / 65536)] := by rw [← HL.out]; rfl
      have hfa := (Fr.refl (fun _ => False) wr).alloc (.cells #[.int .u8 ((u : Int) / 65536 % 256)] 5)
      have HOW := hid (show (wr.alloc (.cells #[.int .u8 ((u : Int) / 65536 % 256)] 5)).ownsRow w.heap.size 5 1 (.slice a 2 c) 2 (bV L) from by have := hfa.own HO2.out fun _ _ => not_false; rw [HLEN.out] at this; exact this)
      have HC1 := hid (cell_new1 wr (.int .u8 ((u : Int) / 65536 % 256)) 5 (0, 0))
      have HBS := hid (show w.heap.size ≤ (wr.alloc (.cells #[.int .u8 ((u : Int) / 65536 % 256)] 5)).heap.size by have := hfa.size; have := HF.out.size; omega)
      have HFA := hid hfa; have HST := hid hst; have HVAL := hid hval
      clear hfa hst hval
      go_wp2_with (at_builtin; go_must (refine wpList_append1 rfl (.tmp 8) (.tmp 15) 22 rfl 5 (.int .u8 0) 1 Tryd.underlying22 Tryd.info_byte rfl _ rfl w.heap.size 2 (bV L) HOW.out wr.heap.size 1 (.int .u8 ((u : Int) / 65536 % 256)) rfl HC1.out rfl (by decide) (by decide) HBS.out ?_))
      intro g cap w1 ho1 hf1 _
      have HO1 := hid (show OB w.heap.size w1 (.slice (some ⟨g, 0, none⟩) 3 cap) ((le8 u).take 3) from by
        rw [HST.out]
        unfold OB
        rw [List.length_append, HLEN.out]
        have e : bV (L ++ [UInt8.ofNat (u / 65536)]) = bV L ++ [.int .u8 ((u : Int) / 65536 % 256)] := by simp only [bV, List.map_append, List.map_cons, List.map_nil]; rw [HVAL.out]
        rw [e]
        exact ho1)
      have HF1 := hid ((HF.out.trans' HFA.out).trans (U := fun _ => False) hf1 (fun _ _ h => h) fun k hk e => by
        have := (HOW.out.lt k e.symm).1
        omega)
      clear ho1 hf1
      go_wp2_with fail
      go_roundw
      case rel => exact ⟨3, by omega, rfl, HO1, HF1⟩
      case measure => simp [intOf]
    · have hval : ((UInt8.ofNat (u / 16777216)).toNat : Int) = (u : Int) / 16777216 % 256 := by rw [UInt8.toNat_ofNat']; omega
      have hst : (le8 u).take 4 = L ++ [UInt8.ofNat (u / 16777216)] := by rw [← HL.out]; rfl
      have hfa := (Fr.refl (fun _ => False) wr).alloc (.cells #[.int .u8 ((u : Int) / 16777216 % 256)] 5)
      have HOW := hid (show (wr.alloc (.cells #[.int .u8 ((u : Int) / 16777216 % 256)] 5)).ownsRow w.heap.size 5 1 (.slice a 3 c) 3 (bV L) from by have := hfa.own HO2.out fun _ _ => not_false; rw [HLEN.out] at this; exact this)
      have HC1 := hid (cell_new1 wr (.int .u8 ((u : Int) / 16777216 % 256)) 5 (0, 0))
      have HBS := hid (show w.heap.size ≤ (wr.alloc (.cells #[.int .u8 ((u : Int) / 16777216 % 256)] 5)).heap.size by have := hfa.size; have := HF.out.size; omega)
      have HFA := hid hfa; have HST := hid hst; have HVAL := hid hval
      clear hfa hst hval
      go_wp2_with (at_builtin; go_must (refine wpList_append1 rfl (.tmp 8) (.tmp 15) 22 rfl 5 (.int .u8 0) 1 Tryd.underlying22 Tryd.info_byte rfl _ rfl w.heap.size 3 (bV L) HOW.out wr.heap.size 1 (.int .u8 ((u : Int) / 16777216 % 256)) rfl HC1.out rfl (by decide) (by decide) HBS.out ?_))
      intro g cap w1 ho1 hf1 _
      have HO1 := hid (show OB w.heap.size w1 (.slice (some ⟨g, 0, none⟩) 4 cap) ((le8 u).take 4) from by
        rw [HST.out]
        unfold OB
        rw [List.length_append, HLEN.out]
        have e : bV (L ++ [UInt8.ofNat (u / 16777216)]) = bV L ++ [.int .u8 ((u : Int) / 16777216 % 256)] := by simp only [bV, List.map_append, List.map_cons, List.map_nil]; rw [HVAL.out]
        rw [e]
        exact ho1)
      have HF1 := hid ((HF.out.trans' HFA.out).trans (U := fun _ => False) hf1 (fun _ _ h => h) fun k hk e => by
        have := (HOW.out.lt k e.symm).1
        omega)
      clear ho1 hf1
      go_wp2_with fail
      go_roundw
      case rel => exact ⟨4, by omega, rfl, HO1, HF1⟩
      case measure => simp [intOf]
    · have hval : ((UInt8.ofNat (u / 4294967296)).toNat : Int) = (u : Int) / 4294967296 % 256 := by rw [UInt8.toNat_ofNat']; omega
      have hst : (le8 u).take 5 = L ++ [UInt8.ofNat (u / 4294967296)] := by rw [← HL.out]; rfl
      have hfa := (Fr.refl (fun _ => False) wr).alloc (.cells #[.int .u8 ((u : Int) / 4294967296 % 256)] 5)
      have HOW := hid (show (wr.alloc (.cells #[.int .u8 ((u : Int) / 4294967296 % 256)] 5)).ownsRow w.heap.size 5 1 (.slice a 4 c) 4 (bV L) from by have := hfa.own HO2.out fun _ _ => not_false; rw [HLEN.out] at this; exact this)
      have HC1 := hid (cell_new1 wr (.int .u8 ((u : Int) / 4294967296 % 256)) 5 (0, 0))
      have HBS := hid (show w.heap.size ≤ (wr.alloc (.cells #[.int .u8 ((u : Int) / 4294967296 % 256)] 5)).heap.size by have := hfa.size; have := HF.out.size; omega)
      have HFA := hid hfa; have HST := hid hst; have HVAL := hid hval
      clear hfa hst hval
      go_wp2_with (at_builtin; go_must (refine wpList_append1 rfl (.tmp 8) (.tmp 15) 22 rfl 5 (.int .u8 0) 1 Tryd.underlying22 Tryd.info_byte rfl _ rfl w.heap.size 4 (bV L) HOW.out wr.heap.size 1 (.int .u8 ((u : Int) / 4294967296 % 256)) rfl HC1.out rfl (by decide) (by decide) HBS.out ?_))
      intro g cap w1 ho1 hf1 _
      have HO1 := hid (show OB w.heap.size w1 (.slice (some ⟨g, 0, none⟩) 5 cap) ((le8 u).take 5) from by
        rw [HST.out]
        unfold OB
        rw [List.length_append, HLEN.out]
        have e : bV (L ++ [UInt8.ofNat (u / 4294967296)]) = bV L ++ [.int .u8 ((u : Int) / 4294967296 % 256)] := by simp only [bV, List.map_append, List.map_cons, List.map_nil]; rw [HVAL.out]
        rw [e]
        exact ho1)
      have HF1 := hid ((HF.out.trans' HFA.out).trans (U := fun _ => False) hf1 (fun _ _ h => h) fun k hk e => by
        have := (HOW.out.lt k e.symm).1
        omega)
      clear ho1 hf1
      go_wp2_with fail
      go_roundw
      case rel => exact ⟨5, by omega, rfl, HO1, HF1⟩
      case measure => simp [intOf]
    · have hval : ((UInt8.ofNat (u / 1099511627776)).toNat : Int) = (u : Int) / 1099511627776 % 256 := by rw [UInt8.toNat_ofNat']; omega
      have hst : (le8 u).take 6 = L ++ [UInt8.ofNat (u / 1099511627776)] := by rw [← HL.out]; rfl
      have hfa := (Fr.refl (fun _ => False) wr).alloc (.cells #[.int .u8 ((u : Int) / 1099511627776 % 256)] 5)
      have HOW := hid (show (wr.alloc (.cells #[.int .u8 ((u : Int) / 1099511627776 % 256)] 5)).ownsRow w.heap.size 5 1 (.slice a 5 c) 5 (bV L) from by have := hfa.own HO2.out fun _ _ => not_false; rw [HLEN.out] at this; exact this)
      have HC1 := hid (cell_new1 wr (.int .u8 ((u : Int) / 1099511627776 % 256)) 5 (0, 0))
      have HBS := hid (show w.heap.size ≤ (wr.alloc (.cells #[.int .u8 ((u : Int) / 1099511627776 % 256)] 5)).heap.size by have := hfa.size; have := HF.out.size; omega)
      have HFA := hid hfa; have HST := hid hst; have HVAL := hid hval
      clear hfa hst hval
      go_wp2_with (at_builtin; go_must (refine wpList_append1 rfl (.tmp 8) (.tmp 15) 22 rfl 5 (.int .u8 0) 1 Tryd.underlying22 Tryd.info_byte rfl _ rfl w.heap.size 5 (bV L) HOW.out wr.heap.size 1 (.int .u8 ((u : Int) / 1099511627776 % 256)) rfl HC1.out rfl (by decide) (by decide) HBS.out ?_))
      intro g cap w1 ho1 hf1 _
      have HO1 := hid (show OB w.heap.size w1 (.slice (some ⟨g, 0, none⟩) 6 cap) ((le8 u).take 6) from by
        rw [HST.out]
        unfold OB
        rw [List.length_append, HLEN.out]
        have e : bV (L ++ [UInt8.ofNat (u / 1099511627776)]) = bV L ++ [.int .u8 ((u : Int) / 1099511627776 % 256)] := by simp only [bV, List.map_append, List.map_cons, List.map_nil]; rw [HVAL.out]
        rw [e]
        exact ho1)
      have HF1 := hid ((HF.out.trans' HFA.out).trans (U := fun _ => False) hf1 (fun _ _ h => h) fun k hk e => by
        have := (HOW.out.lt k e.symm).1
        omega)
      clear ho1 hf1
      go_wp2_with fail
      go_roundw
      case rel => exact ⟨6, by omega, rfl, HO1, HF1⟩
      case measure => simp [intOf]
    · have hval : ((UInt8.ofNat (u / 281474976710656)).toNat : Int) = (u : Int) / 281474976710656 % 256 := by rw [UInt8.toNat_ofNat']; omega
      have hst : (le8 u).take 7 = L ++ [UInt8.ofNat (u / 281474976710656)] := by rw [← HL.out]; rfl
      have hfa := (Fr.refl (fun _ => False) wr).alloc (.cells #[.int .u8 ((u : Int) / 281474976710656 % 256)] 5)
      have HOW := hid (show (wr.alloc (.cells #[.int .u8 ((u : Int) / 281474976710656 % 256)] 5)).ownsRow w.heap.size 5 1 (.slice a 6 c) 6 (bV L) from by have := hfa.own HO2.out fun _ _ => not_false; rw [HLEN.out] at this; exact this)
      have HC1 := hid (cell_new1 wr (.int .u8 ((u : Int) / 281474976710656 % 256)) 5 (0, 0))
      have HBS := hid (show w.heap.size ≤ (wr.alloc (.cells #[.int .u8 ((u : Int) / 281474976710656 % 256)] 5)).heap.size by have := hfa.size; have := HF.out.size; omega)
      have HFA := hid hfa; have HST := hid hst; have HVAL := hid hval
      clear hfa hst hval
      go_wp2_with (at_builtin; go_must (refine wpList_append1 rfl (.tmp 8) (.tmp 15) 22 rfl 5 (.int .u8 0) 1 Tryd.underlying22 Tryd.info_byte rfl _ rfl w.heap.size 6 (bV L) HOW.out wr.heap.size 1 (.int .u8 ((u : Int) / 281474976710656 % 256)) rfl HC1.out rfl (by decide) (by decide) HBS.out ?_))
      intro g cap w1 ho1 hf1 _
      have HO1 := hid (show OB w.heap.size w1 (.slice (some ⟨g, 0, none⟩) 7 cap) ((le8 u).take 7) from by
        rw [HST.out]
        unfold OB
        rw [List.length_append, HLEN.out]
        have e : bV (L ++ [UInt8.ofNat (u / 281474976710656)]) = bV L ++ [.int .u8 ((u : Int) / 281474976710656 % 256)] := by simp only [bV, List.map_append, List.map_cons, List.map_nil]; rw [HVAL.out]
        rw [e]
        exact ho1)
      have HF1 := hid ((HF.out.trans' HFA.out).trans (U := fun _ => False) hf1 (fun _ _ h => h) fun k hk e => by
        have := (HOW.out.lt k e.symm).1
        omega)
      clear ho1 hf1
      go_wp2_with fail
      go_roundw
      case rel => exact ⟨7, by omega, rfl, HO1, HF1⟩
      case measure => simp [intOf]
    · have hval : ((UInt8.ofNat (u / 72057594037927936)).toNat : Int) = (u : Int) / 72057594037927936 := by rw [UInt8.toNat_ofNat']; omega
      have hst : (le8 u).take 8 = L ++ [UInt8.ofNat (u / 72057594037927936)] := by rw [← HL.out]; rfl
      have hfa := (Fr.refl (fun _ => False) wr).alloc (.cells #[.int .u8 ((u : Int) / 72057594037927936)] 5)
      have HOW := hid (show (wr.alloc (.cells #[.int .u8 ((u : Int) / 72057594037927936)] 5)).ownsRow w.heap.size 5 1 (.slice a 7 c) 7 (bV L) from by have := hfa.own HO2.out fun _ _ => not_false; rw [HLEN.out] at this; exact this)
      have HC1 := hid (cell_new1 wr (.int .u8 ((u : Int) / 72057594037927936)) 5 (0, 0))
      have HBS := hid (show w.heap.size ≤ (wr.alloc (.cells #[.int .u8 ((u : Int) / 72057594037927936)] 5)).heap.size by have := hfa.size; have := HF.out.size; omega)
      have HFA := hid hfa; have HST := hid hst; have HVAL := hid hval
      clear hfa hst hval
      go_wp2_with (at_builtin; go_must (refine wpList_append1 rfl (.tmp 8) (.tmp 15) 22 rfl 5 (.int .u8 0) 1 Tryd.underlying22 Tryd.info_byte rfl _ rfl w.heap.size 7 (bV L) HOW.out wr.heap.size 1 (.int .u8 ((u : Int) / 72057594037927936)) rfl HC1.out rfl (by decide) (by decide) HBS.out ?_))
      intro g cap w1 ho1 hf1 _
      have HO1 := hid (show OB w.heap.size w1 (.slice (some ⟨g, 0, none⟩) 8 cap) ((le8 u).take 8) from by
        rw [HST.out]
        unfold OB
        rw [List.length_append, HLEN.out]
        have e : bV (L ++ [UInt8.ofNat (u / 72057594037927936)]) = bV L ++ [.int .u8 ((u : Int) / 72057594037927936)] := by simp only [bV, List.map_append, List.map_cons, List.map_nil]; rw [HVAL.out]
        rw [e]
        exact ho1)
      have HF1 := hid ((HF.out.trans' HFA.out).trans (U := fun _ => False) hf1 (fun _ _ h => h) fun k hk e => by
        have := (HOW.out.lt k e.symm).1
        omega)
      clear ho1 hf1
      go_wp2_with fail
      go_roundw
      case rel => exact ⟨8, by omega, rfl, HO1, HF1⟩
      case measure => simp [intOf]
    · have HO3 := hid (show OB w.heap.size wr (.slice a 8 c) (le8 u) from by
        have e : L = le8 u := HL.out.symm
        rw [← e]
        exact HO2.out)
      go_wp2_with fail
      go_ret
      exact ⟨_, rfl, HO3.out, HF.out⟩
end Go.Proofs.YtpceckmjoicdlaaDoor
