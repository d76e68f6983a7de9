/- Package keep: newest. -/
import Derived.Test.YtpceckmjoicdlaaDoorKeepC
namespace Go.Proofs.YtpceckmjoicdlaaDoor
open Go.RowKit
variable {w0 w w' : World} {pa : Nat → Addr} {nm : ByteArray} {X : Nat}

abbrev kW0 : ByteArray := ⟨#[119, 111, 114, 108, 100, 46, 48]⟩
abbrev kW1 : ByteArray := ⟨#[119, 111, 114, 108, 100, 46, 49]⟩
abbrev kNew : ByteArray := ⟨#[119, 111, 114, 108, 100, 46, 110, 101, 119]⟩
theorem len_u0 {p : PS} (h : PW w0 w X p) (hS : S6 w0.heap.size w0 pa) (hd : p.down = false) (hn : nm.size ≤ 1048576) (hl : lk p.names nm = none) :
    Calls Tryd.prog 21 #[.pointer (some ⟨X, 0, none⟩), .string nm] w fun e w' => e = .returned (.tuple #[.int .i64 0, errV pa 107]) ∧ Fr (fun _ => False) w w' := by
  obtain ⟨s, h, rfl, rfl⟩ := h
  refine (len_any pa (h.s6 hS) h.d nm (by unfold maxLen; omega)).mono fun _ _ ⟨e, h2⟩ => ?_
  have hE : fileE s nm = 107 := by unfold fileE; rw [show s.down = false from hd, show lk s.names nm = none from hl]; rfl
  have hP : fileP s nm = none := by unfold fileP; rw [show s.down = false from hd, show lk s.names nm = none from hl]; rfl
  rw [hE, show lenS s nm = 0 by unfold lenS; rw [hP]] at e
  exact ⟨e, h2⟩
theorem gen0_any {p : PS} (h : PW w0 w X p) (hE : Sent17 w0 pa) (hd : p.down = false) (hn : nm.size ≤ 1048576) (hl : lk p.names nm = none) :
    Calls Tryd.prog 49 #[.pointer (some ⟨X, 0, none⟩), .string nm] w fun e w' => Fr (fun _ => False) w w' ∧ e = .returned (.tuple #[.slice none 0 0, .int .i64 0, errV pa 107]) := by
  have HLN := hid (len_u0 h hE.s6 hd hn hl)
  have z1 : errV pa 107 = .iface 168 (.pointer (some (pa 6))) := rfl
  rw [z1] at HLN ⊢
  clear h hE hd hn hl z1
  go_enter Tryd.func49, Tryd.ntmps49
  go_wp2_with fail
  refine HLN.out.mono ?_
  rintro e w1 ⟨rfl, hf1⟩
  have HF1 := hid hf1
  clear hf1
  go_wp2_with fail
  go_ret3
  exact ⟨HF1.out, rfl⟩
/-- What a name's file says: no file; it is none; one. -/
noncomputable def gst (p : PS) (nm : ByteArray) : Option (Option (List UInt8 × Int)) := (lk p.names nm).map fun k => gen (p.fs k).by_
/-- generation's answer. -/
theorem gst_any {p : PS} (h : PW w0 w X p) (hE : Sent17 w0 pa) (hd : p.down = false) (hn : nm.size ≤ 1048576) :
    Calls Tryd.prog 49 #[.pointer (some ⟨X, 0, none⟩), .string nm] w fun e w' => Fr (fun _ => False) w w' ∧
      ((∃ b n v, gst p nm = some (some (b, n)) ∧ e = .returned (.tuple #[v, .int .i64 n, errV pa 0]) ∧ OB w.heap.size w' v b) ∨
        (gst p nm = some none ∧ e = .returned (.tuple #[.slice none 0 0, .int .i64 0, errV pa 102])) ∨ (gst p nm = none ∧ e = .returned (.tuple #[.slice none 0 0, .int .i64 0, errV pa 107]))) := by
  cases hl : lk p.names nm with
  | none =>
    refine (gen0_any h hE hd hn hl).mono ?_
    rintro e w2 ⟨hf, rfl⟩
    exact ⟨hf, .inr (.inr ⟨by unfold gst; rw [hl]; rfl, rfl⟩)⟩
  | some k =>
    refine (gen_any h hE hd nm hl).mono ?_
    rintro e w2 ⟨hf, ⟨b, n, v, hg, rfl, ho⟩ | ⟨hg, rfl⟩⟩
    · exact ⟨hf, .inl ⟨b, n, v, by unfold gst; rw [hl]; exact congrArg some hg, rfl, ho⟩⟩
    · exact ⟨hf, .inr (.inl ⟨by unfold gst; rw [hl]; exact congrArg some hg, rfl⟩)⟩
theorem results_tmp4 {fn : Func} {t u v x : Tmp} (h : fn.results = #[.tmp t, .tmp u, .tmp v, .tmp x]) (tmps : Array Value) (P : Program) (w : World) :
    (results fn tmps).run P w = .ok (.tuple #[tmps.getD t undef, tmps.getD u undef, tmps.getD v undef, tmps.getD x undef]) w := by
  simp [results, h]
/-- The newest, of two. -/
def newP (g0 g1 : Option (Option (List UInt8 × Int))) : ByteArray × List UInt8 × Int × Nat :=
  match g0, g1 with
  | some (some (b0, n0)), some (some (b1, n1)) => if n0 < n1 then (kW1, b1, n1, 0) else (kW0, b0, n0, 0)
  | some (some (b0, n0)), _ => (kW0, b0, n0, 0)
  | _, some (some (b1, n1)) => (kW1, b1, n1, 0)
  | none, none => (⟨#[]⟩, [], 0, 107)
  | _, _ => (⟨#[]⟩, [], 0, 102)
set_option maxRecDepth 100000 in
set_option maxHeartbeats 12800000 in
theorem newest_any {p : PS} (h : PW w0 w X p) (hE : Sent17 w0 pa) (hd : p.down = false) :
    Calls Tryd.prog 23 #[.pointer (some ⟨X, 0, none⟩)] w fun e w' => Fr (fun _ => False) w w' ∧
      ∃ v, e = .returned (.tuple #[.string (newP (gst p kW0) (gst p kW1)).1, v, .int .i64 (newP (gst p kW0) (gst p kW1)).2.2.1, errV pa (newP (gst p kW0) (gst p kW1)).2.2.2]) ∧ OB w.heap.size w' v (newP (gst p kW0) (gst p kW1)).2.1 := by
  have HG := hid (fun (W2 : World) (hf : Fr (fun _ => False) w W2) (nm : ByteArray) (hn : nm.size ≤ 1048576) => gst_any (nm := nm) (h.fr hf) hE hd hn)
  have HIS := hid (fun (W2 : World) (hf : Fr (fun _ => False) w W2) (m : Nat) (hm : ErrNo m) (j : Nat) (hj : 101 ≤ j ∧ j ≤ 117) => eis_any (hE.frame (h.f.trans' hf)) m hm j hj)
  have HC := hid (fun (W2 : World) (hf : Fr (fun _ => False) w W2) (i : Nat) (hi : i < 17) => (hE.frame (h.f.trans' hf)).s i hi)
  have hN := World.ownsRow_nil (w.alloc (.cells #[.string kW0, .string kW1] 9)) w.heap.size 5 1
  have hfa := (Fr.refl (fun _ => False) w).alloc (.cells #[.string kW0, .string kW1] 9)
  have hrow := heap_alloc_new w (.cells #[.string kW0, .string kW1] 9)
  have HN := hid hN; have HFA := hid hfa; have HROW := hid hrow
  have HI07 := hid (fun (W2 : World) (hf : Fr (fun _ => False) w W2) => (show Calls Tryd.prog 24 #[.nilIface, .iface 168 (.pointer (some (pa 6)))] W2 fun e w' => e = .returned (.bool false) ∧ W2 = w' from HIS.out W2 hf 0 (by unfold ErrNo; omega) 107 (by omega)))
  have HI0C := hid (fun (W2 : World) (hf : Fr (fun _ => False) w W2) => (show Calls Tryd.prog 24 #[.nilIface, .iface 168 (.pointer (some (pa 9)))] W2 fun e w' => e = .returned (.bool false) ∧ W2 = w' from HIS.out W2 hf 0 (by unfold ErrNo; omega) 110 (by omega)))
  have HI27 := hid (fun (W2 : World) (hf : Fr (fun _ => False) w W2) => (show Calls Tryd.prog 24 #[.iface 168 (.pointer (some (pa 1))), .iface 168 (.pointer (some (pa 6)))] W2 fun e w' => e = .returned (.bool false) ∧ W2 = w' from HIS.out W2 hf 102 (by unfold ErrNo; omega) 107 (by omega)))
  have HI2C := hid (fun (W2 : World) (hf : Fr (fun _ => False) w W2) => (show Calls Tryd.prog 24 #[.iface 168 (.pointer (some (pa 1))), .iface 168 (.pointer (some (pa 9)))] W2 fun e w' => e = .returned (.bool false) ∧ W2 = w' from HIS.out W2 hf 102 (by unfold ErrNo; omega) 110 (by omega)))
  have HI77 := hid (fun (W2 : World) (hf : Fr (fun _ => False) w W2) => (show Calls Tryd.prog 24 #[.iface 168 (.pointer (some (pa 6))), .iface 168 (.pointer (some (pa 6)))] W2 fun e w' => e = .returned (.bool true) ∧ W2 = w' from HIS.out W2 hf 107 (by unfold ErrNo; omega) 107 (by omega)))
  have HC6 := hid (fun (W2 : World) (hf : Fr (fun _ => False) w W2) => (show W2.cell? ⟨2, 0, none⟩ = some (.iface 168 (.pointer (some (pa 6)))) from HC.out W2 hf 6 (by decide)))
  have HC9 := hid (fun (W2 : World) (hf : Fr (fun _ => False) w W2) => (show W2.cell? ⟨1, 0, none⟩ = some (.iface 168 (.pointer (some (pa 9)))) from HC.out W2 hf 9 (by decide)))
  have HC1 := hid (fun (W2 : World) (hf : Fr (fun _ => False) w W2) => (show W2.cell? ⟨6, 0, none⟩ = some (.iface 168 (.pointer (some (pa 1)))) from HC.out W2 hf 1 (by decide)))
  have HG0 := hid (fun (W2 : World) (hf : Fr (fun _ => False) w W2) => HG.out W2 hf kW0 (by decide))
  have HG1 := hid (fun (W2 : World) (hf : Fr (fun _ => False) w W2) => HG.out W2 hf kW1 (by decide))
  generalize gst p kW0 = g0 at *
  generalize gst p kW1 = g1 at *
  clear hN hfa hrow h hE hd HIS HC HG
  go_enter Tryd.func23, Tryd.ntmps23
  go_wp2_with fail
  go_loopw [6, 7, 8, 9, 17] (fun b6 b7 b8 b9 iv wr => Hid (Fr (fun _ => False) (w.alloc (.cells #[.string kW0, .string kW1] 9)) wr) ∧
    ((iv = .int .i64 0 ∧ b6 = .string ⟨#[]⟩ ∧ b7 = .slice none 0 0 ∧ b8 = .int .i64 (-9223372036854775808) ∧ b9 = .bool false) ∨
     (iv = .int .i64 1 ∧ ((g0 = none ∧ b6 = .string ⟨#[]⟩ ∧ b7 = .slice none 0 0 ∧ b8 = .int .i64 (-9223372036854775808) ∧ b9 = .bool false) ∨
        (g0 = some none ∧ b6 = .string ⟨#[]⟩ ∧ b7 = .slice none 0 0 ∧ b8 = .int .i64 (-9223372036854775808) ∧ b9 = .bool true) ∨
        ∃ b n, g0 = some (some (b, n)) ∧ b6 = .string kW0 ∧ Hid (OB w.heap.size wr b7 b) ∧ b8 = .int .i64 n ∧ b9 = .bool true)) ∨
     (iv = .int .i64 2 ∧ (((newP g0 g1).2.2.2 = 107 ∧ (newP g0 g1).1 = ⟨#[]⟩ ∧ (newP g0 g1).2.1 = [] ∧ (newP g0 g1).2.2.1 = 0 ∧ b6 = .string ⟨#[]⟩ ∧ b9 = .bool false) ∨
        ((newP g0 g1).2.2.2 = 102 ∧ (newP g0 g1).1 = ⟨#[]⟩ ∧ (newP g0 g1).2.1 = [] ∧ (newP g0 g1).2.2.1 = 0 ∧ b6 = .string ⟨#[]⟩ ∧ b9 = .bool true) ∨
        ((newP g0 g1).2.2.2 = 0 ∧ (newP g0 g1).1 = kW0 ∧ b6 = .string kW0 ∧ Hid (OB w.heap.size wr b7 (newP g0 g1).2.1) ∧ b8 = .int .i64 (newP g0 g1).2.2.1) ∨
        ((newP g0 g1).2.2.2 = 0 ∧ (newP g0 g1).1 = kW1 ∧ b6 = .string kW1 ∧ Hid (OB w.heap.size wr b7 (newP g0 g1).2.1) ∧ b8 = .int .i64 (newP g0 g1).2.2.1)))))
    (fun _ _ _ _ iv _ => 2 - (intOf iv).toNat)
  case atStart => exact ⟨hid (Fr.refl _ _), .inl ⟨rfl, rfl, rfl, rfl, rfl⟩⟩
  case round =>
    obtain ⟨HF, hst⟩ := hrel
    have HFq := hid (HFA.out.trans' HF.out)
    have k0 : wr.cell? ⟨w.heap.size, 0, none⟩ = some (.string kW0) := HF.out.cell (by rw [cell_of_row _ _ _ _ _ _ HROW.out]; rfl) not_false
    have k1 : wr.cell? ⟨w.heap.size, 1, none⟩ = some (.string kW1) := HF.out.cell (by rw [cell_of_row _ _ _ _ _ _ HROW.out]; rfl) not_false
    have e0 : ([119, 111, 114, 108, 100, 46, 48] : List UInt8).isEmpty = false := rfl
    rcases hst with ⟨rfl, rfl, rfl, rfl, rfl⟩ | ⟨rfl, hst⟩ | ⟨rfl, hst⟩
    · go_wp2_with fail
      refine (HG0.out wr HFq.out).mono ?_
      rintro e w2 ⟨hf2, hg⟩
      have HF2 := hid (HFq.out.trans' hf2)
      have HFA2 := hid (HF.out.trans' hf2)
      have c6 := HC6.out w2 HF2.out
      have c9 := HC9.out w2 HF2.out
      clear hf2 k0 k1
      rcases hg with ⟨b2, n2, v2, hg, rfl, ho⟩ | ⟨hg, rfl⟩ | ⟨hg, rfl⟩
      · have z0 : errV pa 0 = .nilIface := rfl
        rw [z0]
        have HO := hid ho; have HGG := hid hg
        clear z0 ho hg
        go_wp2_with fail
        refine (HI07.out w2 HF2.out).mono ?_
        rintro e w3 ⟨rfl, rfl⟩
        go_wp2_with fail
        refine (HI0C.out w2 HF2.out).mono ?_
        rintro e w3 ⟨rfl, rfl⟩
        go_wp2_with fail
        first
          | exact ⟨⟨HFA2, .inr (.inl ⟨rfl, .inr (.inr ⟨b2, n2, HGG.out, rfl, hid (own_rebase HO.out fun q hq => by have h1 := (HO.out.lt q hq).1; have h2 := HFq.out.size; omega), rfl, rfl⟩)⟩)⟩, by simp [intOf]⟩
          | (go_roundw
             case rel => exact ⟨HFA2, .inr (.inl ⟨rfl, .inr (.inr ⟨b2, n2, HGG.out, rfl, hid (own_rebase HO.out fun q hq => by have h1 := (HO.out.lt q hq).1; have h2 := HFq.out.size; omega), rfl, rfl⟩)⟩)⟩
             case measure => simp [intOf])
      · have z0 : errV pa 102 = .iface 168 (.pointer (some (pa 1))) := rfl
        rw [z0]
        have HGG := hid hg
        clear z0 hg
        go_wp2_with fail
        refine (HI27.out w2 HF2.out).mono ?_
        rintro e w3 ⟨rfl, rfl⟩
        go_wp2_with fail
        refine (HI2C.out w2 HF2.out).mono ?_
        rintro e w3 ⟨rfl, rfl⟩
        go_wp2_with fail
        first
          | exact ⟨⟨HFA2, .inr (.inl ⟨rfl, .inr (.inl ⟨HGG.out, rfl, rfl, rfl, rfl⟩)⟩)⟩, by simp [intOf]⟩
          | (go_roundw
             case rel => exact ⟨HFA2, .inr (.inl ⟨rfl, .inr (.inl ⟨HGG.out, rfl, rfl, rfl, rfl⟩)⟩)⟩
             case measure => simp [intOf])
      · have z0 : errV pa 107 = .iface 168 (.pointer (some (pa 6))) := rfl
        rw [z0]
        have HGG := hid hg
        clear z0 hg
        go_wp2_with fail
        refine (HI77.out w2 HF2.out).mono ?_
        rintro e w3 ⟨rfl, rfl⟩
        go_wp2_with fail
        first
          | exact ⟨⟨HFA2, .inr (.inl ⟨rfl, .inl ⟨HGG.out, rfl, rfl, rfl, rfl⟩⟩)⟩, by simp [intOf]⟩
          | (go_roundw
             case rel => exact ⟨HFA2, .inr (.inl ⟨rfl, .inl ⟨HGG.out, rfl, rfl, rfl, rfl⟩⟩)⟩
             case measure => simp [intOf])
    · rcases hst with ⟨hq0, rfl, rfl, rfl, rfl⟩ | ⟨hq0, rfl, rfl, rfl, rfl⟩ | ⟨b1, n1, hq0, rfl, HB, rfl, rfl⟩
      · have HQ0 := hid hq0
        clear hq0
        go_wp2_with fail
        refine (HG1.out wr HFq.out).mono ?_
        rintro e w2 ⟨hf2, hg⟩
        have HF2 := hid (HFq.out.trans' hf2)
        have HFA2 := hid (HF.out.trans' hf2)
        have c6 := HC6.out w2 HF2.out
        have c9 := HC9.out w2 HF2.out
        clear hf2 k0 k1
        rcases hg with ⟨b2, n2, v2, hg, rfl, ho⟩ | ⟨hg, rfl⟩ | ⟨hg, rfl⟩
        · have z0 : errV pa 0 = .nilIface := rfl
          rw [z0]
          have HO := hid ho; have HGG := hid hg
          clear z0 ho hg
          go_wp2_with fail
          refine (HI07.out w2 HF2.out).mono ?_
          rintro e w3 ⟨rfl, rfl⟩
          go_wp2_with fail
          refine (HI0C.out w2 HF2.out).mono ?_
          rintro e w3 ⟨rfl, rfl⟩
          go_wp2_with fail
          first
            | exact ⟨⟨HFA2, .inr (.inr ⟨rfl, .inr (.inr (.inr ⟨(by rw [HQ0.out, HGG.out]; rfl), (by rw [HQ0.out, HGG.out]; rfl), rfl, by rw [show (newP g0 g1).2.1 = b2 from by rw [HQ0.out, HGG.out]; rfl]; exact hid (own_rebase HO.out fun q hq => by have h1 := (HO.out.lt q hq).1; have h2 := HFq.out.size; omega), by rw [show (newP g0 g1).2.2.1 = n2 from by rw [HQ0.out, HGG.out]; rfl]⟩))⟩)⟩, by simp [intOf]⟩
            | (go_roundw
               case rel => exact ⟨HFA2, .inr (.inr ⟨rfl, .inr (.inr (.inr ⟨(by rw [HQ0.out, HGG.out]; rfl), (by rw [HQ0.out, HGG.out]; rfl), rfl, by rw [show (newP g0 g1).2.1 = b2 from by rw [HQ0.out, HGG.out]; rfl]; exact hid (own_rebase HO.out fun q hq => by have h1 := (HO.out.lt q hq).1; have h2 := HFq.out.size; omega), by rw [show (newP g0 g1).2.2.1 = n2 from by rw [HQ0.out, HGG.out]; rfl]⟩))⟩)⟩
               case measure => simp [intOf])
        · have z0 : errV pa 102 = .iface 168 (.pointer (some (pa 1))) := rfl
          rw [z0]
          have HGG := hid hg
          clear z0 hg
          go_wp2_with fail
          refine (HI27.out w2 HF2.out).mono ?_
          rintro e w3 ⟨rfl, rfl⟩
          go_wp2_with fail
          refine (HI2C.out w2 HF2.out).mono ?_
          rintro e w3 ⟨rfl, rfl⟩
          go_wp2_with fail
          first
            | exact ⟨⟨HFA2, .inr (.inr ⟨rfl, .inr (.inl ⟨(by rw [HQ0.out, HGG.out]; rfl), (by rw [HQ0.out, HGG.out]; rfl), (by rw [HQ0.out, HGG.out]; rfl), (by rw [HQ0.out, HGG.out]; rfl), rfl, rfl⟩)⟩)⟩, by simp [intOf]⟩
            | (go_roundw
               case rel => exact ⟨HFA2, .inr (.inr ⟨rfl, .inr (.inl ⟨(by rw [HQ0.out, HGG.out]; rfl), (by rw [HQ0.out, HGG.out]; rfl), (by rw [HQ0.out, HGG.out]; rfl), (by rw [HQ0.out, HGG.out]; rfl), rfl, rfl⟩)⟩)⟩
               case measure => simp [intOf])
        · have z0 : errV pa 107 = .iface 168 (.pointer (some (pa 6))) := rfl
          rw [z0]
          have HGG := hid hg
          clear z0 hg
          go_wp2_with fail
          refine (HI77.out w2 HF2.out).mono ?_
          rintro e w3 ⟨rfl, rfl⟩
          go_wp2_with fail
          first
            | exact ⟨⟨HFA2, .inr (.inr ⟨rfl, .inl ⟨(by rw [HQ0.out, HGG.out]; rfl), (by rw [HQ0.out, HGG.out]; rfl), (by rw [HQ0.out, HGG.out]; rfl), (by rw [HQ0.out, HGG.out]; rfl), rfl, rfl⟩⟩)⟩, by simp [intOf]⟩
            | (go_roundw
               case rel => exact ⟨HFA2, .inr (.inr ⟨rfl, .inl ⟨(by rw [HQ0.out, HGG.out]; rfl), (by rw [HQ0.out, HGG.out]; rfl), (by rw [HQ0.out, HGG.out]; rfl), (by rw [HQ0.out, HGG.out]; rfl), rfl, rfl⟩⟩)⟩
               case measure => simp [intOf])
      · have HQ0 := hid hq0
        clear hq0
        go_wp2_with fail
        refine (HG1.out wr HFq.out).mono ?_
        rintro e w2 ⟨hf2, hg⟩
        have HF2 := hid (HFq.out.trans' hf2)
        have HFA2 := hid (HF.out.trans' hf2)
        have c6 := HC6.out w2 HF2.out
        have c9 := HC9.out w2 HF2.out
        clear hf2 k0 k1
        rcases hg with ⟨b2, n2, v2, hg, rfl, ho⟩ | ⟨hg, rfl⟩ | ⟨hg, rfl⟩
        · have z0 : errV pa 0 = .nilIface := rfl
          rw [z0]
          have HO := hid ho; have HGG := hid hg
          clear z0 ho hg
          go_wp2_with fail
          refine (HI07.out w2 HF2.out).mono ?_
          rintro e w3 ⟨rfl, rfl⟩
          go_wp2_with fail
          refine (HI0C.out w2 HF2.out).mono ?_
          rintro e w3 ⟨rfl, rfl⟩
          go_wp2_with fail
          first
            | exact ⟨⟨HFA2, .inr (.inr ⟨rfl, .inr (.inr (.inr ⟨(by rw [HQ0.out, HGG.out]; rfl), (by rw [HQ0.out, HGG.out]; rfl), rfl, by rw [show (newP g0 g1).2.1 = b2 from by rw [HQ0.out, HGG.out]; rfl]; exact hid (own_rebase HO.out fun q hq => by have h1 := (HO.out.lt q hq).1; have h2 := HFq.out.size; omega), by rw [show (newP g0 g1).2.2.1 = n2 from by rw [HQ0.out, HGG.out]; rfl]⟩))⟩)⟩, by simp [intOf]⟩
            | (go_roundw
               case rel => exact ⟨HFA2, .inr (.inr ⟨rfl, .inr (.inr (.inr ⟨(by rw [HQ0.out, HGG.out]; rfl), (by rw [HQ0.out, HGG.out]; rfl), rfl, by rw [show (newP g0 g1).2.1 = b2 from by rw [HQ0.out, HGG.out]; rfl]; exact hid (own_rebase HO.out fun q hq => by have h1 := (HO.out.lt q hq).1; have h2 := HFq.out.size; omega), by rw [show (newP g0 g1).2.2.1 = n2 from by rw [HQ0.out, HGG.out]; rfl]⟩))⟩)⟩
               case measure => simp [intOf])
        · have z0 : errV pa 102 = .iface 168 (.pointer (some (pa 1))) := rfl
          rw [z0]
          have HGG := hid hg
          clear z0 hg
          go_wp2_with fail
          refine (HI27.out w2 HF2.out).mono ?_
          rintro e w3 ⟨rfl, rfl⟩
          go_wp2_with fail
          refine (HI2C.out w2 HF2.out).mono ?_
          rintro e w3 ⟨rfl, rfl⟩
          go_wp2_with fail
          first
            | exact ⟨⟨HFA2, .inr (.inr ⟨rfl, .inr (.inl ⟨(by rw [HQ0.out, HGG.out]; rfl), (by rw [HQ0.out, HGG.out]; rfl), (by rw [HQ0.out, HGG.out]; rfl), (by rw [HQ0.out, HGG.out]; rfl), rfl, rfl⟩)⟩)⟩, by simp [intOf]⟩
            | (go_roundw
               case rel => exact ⟨HFA2, .inr (.inr ⟨rfl, .inr (.inl ⟨(by rw [HQ0.out, HGG.out]; rfl), (by rw [HQ0.out, HGG.out]; rfl), (by rw [HQ0.out, HGG.out]; rfl), (by rw [HQ0.out, HGG.out]; rfl), rfl, rfl⟩)⟩)⟩
               case measure => simp [intOf])
        · have z0 : errV pa 107 = .iface 168 (.pointer (some (pa 6))) := rfl
          rw [z0]
          have HGG := hid hg
          clear z0 hg
          go_wp2_with fail
          refine (HI77.out w2 HF2.out).mono ?_
          rintro e w3 ⟨rfl, rfl⟩
          go_wp2_with fail
          first
            | exact ⟨⟨HFA2, .inr (.inr ⟨rfl, .inr (.inl ⟨(by rw [HQ0.out, HGG.out]; rfl), (by rw [HQ0.out, HGG.out]; rfl), (by rw [HQ0.out, HGG.out]; rfl), (by rw [HQ0.out, HGG.out]; rfl), rfl, rfl⟩)⟩)⟩, by simp [intOf]⟩
            | (go_roundw
               case rel => exact ⟨HFA2, .inr (.inr ⟨rfl, .inr (.inl ⟨(by rw [HQ0.out, HGG.out]; rfl), (by rw [HQ0.out, HGG.out]; rfl), (by rw [HQ0.out, HGG.out]; rfl), (by rw [HQ0.out, HGG.out]; rfl), rfl, rfl⟩)⟩)⟩
               case measure => simp [intOf])
      · have HQ0 := hid hq0
        clear hq0
        obtain ⟨ab, cb, hbv, -⟩ := own_len HB.out
        subst hbv
        go_wp2_with fail
        refine (HG1.out wr HFq.out).mono ?_
        rintro e w2 ⟨hf2, hg⟩
        have HF2 := hid (HFq.out.trans' hf2)
        have HFA2 := hid (HF.out.trans' hf2)
        have c6 := HC6.out w2 HF2.out
        have c9 := HC9.out w2 HF2.out
        have HB2 := hid (hf2.own HB.out fun _ _ => not_false)
        clear hf2 k0 k1
        rcases hg with ⟨b2, n2, v2, hg, rfl, ho⟩ | ⟨hg, rfl⟩ | ⟨hg, rfl⟩
        · have z0 : errV pa 0 = .nilIface := rfl
          rw [z0]
          have HO := hid ho; have HGG := hid hg
          clear z0 ho hg
          go_wp2_with fail
          refine (HI07.out w2 HF2.out).mono ?_
          rintro e w3 ⟨rfl, rfl⟩
          go_wp2_with fail
          refine (HI0C.out w2 HF2.out).mono ?_
          rintro e w3 ⟨rfl, rfl⟩
          by_cases hlt : n1 < n2
          · go_wp2_with fail
            first
              | exact ⟨⟨HFA2, .inr (.inr ⟨rfl, .inr (.inr (.inr ⟨(by rw [HQ0.out, HGG.out]; simp only [newP]; rw [if_pos (by omega)]), (by rw [HQ0.out, HGG.out]; simp only [newP]; rw [if_pos (by omega)]), rfl, by rw [show (newP g0 g1).2.1 = b2 from (by rw [HQ0.out, HGG.out]; simp only [newP]; rw [if_pos (by omega)])]; exact hid (own_rebase HO.out fun q hq => by have h1 := (HO.out.lt q hq).1; have h2 := HFq.out.size; omega), by rw [show (newP g0 g1).2.2.1 = n2 from (by rw [HQ0.out, HGG.out]; simp only [newP]; rw [if_pos (by omega)])]⟩))⟩)⟩, by simp [intOf]⟩
              | (go_roundw
                 case rel => exact ⟨HFA2, .inr (.inr ⟨rfl, .inr (.inr (.inr ⟨(by rw [HQ0.out, HGG.out]; simp only [newP]; rw [if_pos (by omega)]), (by rw [HQ0.out, HGG.out]; simp only [newP]; rw [if_pos (by omega)]), rfl, by rw [show (newP g0 g1).2.1 = b2 from (by rw [HQ0.out, HGG.out]; simp only [newP]; rw [if_pos (by omega)])]; exact hid (own_rebase HO.out fun q hq => by have h1 := (HO.out.lt q hq).1; have h2 := HFq.out.size; omega), by rw [show (newP g0 g1).2.2.1 = n2 from (by rw [HQ0.out, HGG.out]; simp only [newP]; rw [if_pos (by omega)])]⟩))⟩)⟩
                 case measure => simp [intOf])
          · go_wp2_with fail
            first
              | exact ⟨⟨HFA2, .inr (.inr ⟨rfl, .inr (.inr (.inl ⟨(by rw [HQ0.out, HGG.out]; simp only [newP]; rw [if_neg (by omega)]), (by rw [HQ0.out, HGG.out]; simp only [newP]; rw [if_neg (by omega)]), rfl, by rw [show (newP g0 g1).2.1 = b1 from (by rw [HQ0.out, HGG.out]; simp only [newP]; rw [if_neg (by omega)])]; exact HB2, by rw [show (newP g0 g1).2.2.1 = n1 from (by rw [HQ0.out, HGG.out]; simp only [newP]; rw [if_neg (by omega)])]⟩))⟩)⟩, by simp [intOf]⟩
              | (go_roundw
                 case rel => exact ⟨HFA2, .inr (.inr ⟨rfl, .inr (.inr (.inl ⟨(by rw [HQ0.out, HGG.out]; simp only [newP]; rw [if_neg (by omega)]), (by rw [HQ0.out, HGG.out]; simp only [newP]; rw [if_neg (by omega)]), rfl, by rw [show (newP g0 g1).2.1 = b1 from (by rw [HQ0.out, HGG.out]; simp only [newP]; rw [if_neg (by omega)])]; exact HB2, by rw [show (newP g0 g1).2.2.1 = n1 from (by rw [HQ0.out, HGG.out]; simp only [newP]; rw [if_neg (by omega)])]⟩))⟩)⟩
                 case measure => simp [intOf])
        · have z0 : errV pa 102 = .iface 168 (.pointer (some (pa 1))) := rfl
          rw [z0]
          have HGG := hid hg
          clear z0 hg
          go_wp2_with fail
          refine (HI27.out w2 HF2.out).mono ?_
          rintro e w3 ⟨rfl, rfl⟩
          go_wp2_with fail
          refine (HI2C.out w2 HF2.out).mono ?_
          rintro e w3 ⟨rfl, rfl⟩
          go_wp2_with fail
          first
            | exact ⟨⟨HFA2, .inr (.inr ⟨rfl, .inr (.inr (.inl ⟨(by rw [HQ0.out, HGG.out]; rfl), (by rw [HQ0.out, HGG.out]; rfl), rfl, by rw [show (newP g0 g1).2.1 = b1 from by rw [HQ0.out, HGG.out]; rfl]; exact HB2, by rw [show (newP g0 g1).2.2.1 = n1 from by rw [HQ0.out, HGG.out]; rfl]⟩))⟩)⟩, by simp [intOf]⟩
            | (go_roundw
               case rel => exact ⟨HFA2, .inr (.inr ⟨rfl, .inr (.inr (.inl ⟨(by rw [HQ0.out, HGG.out]; rfl), (by rw [HQ0.out, HGG.out]; rfl), rfl, by rw [show (newP g0 g1).2.1 = b1 from by rw [HQ0.out, HGG.out]; rfl]; exact HB2, by rw [show (newP g0 g1).2.2.1 = n1 from by rw [HQ0.out, HGG.out]; rfl]⟩))⟩)⟩
               case measure => simp [intOf])
        · have z0 : errV pa 107 = .iface 168 (.pointer (some (pa 6))) := rfl
          rw [z0]
          have HGG := hid hg
          clear z0 hg
          go_wp2_with fail
          refine (HI77.out w2 HF2.out).mono ?_
          rintro e w3 ⟨rfl, rfl⟩
          go_wp2_with fail
          first
            | exact ⟨⟨HFA2, .inr (.inr ⟨rfl, .inr (.inr (.inl ⟨(by rw [HQ0.out, HGG.out]; rfl), (by rw [HQ0.out, HGG.out]; rfl), rfl, by rw [show (newP g0 g1).2.1 = b1 from by rw [HQ0.out, HGG.out]; rfl]; exact HB2, by rw [show (newP g0 g1).2.2.1 = n1 from by rw [HQ0.out, HGG.out]; rfl]⟩))⟩)⟩, by simp [intOf]⟩
            | (go_roundw
               case rel => exact ⟨HFA2, .inr (.inr ⟨rfl, .inr (.inr (.inl ⟨(by rw [HQ0.out, HGG.out]; rfl), (by rw [HQ0.out, HGG.out]; rfl), rfl, by rw [show (newP g0 g1).2.1 = b1 from by rw [HQ0.out, HGG.out]; rfl]; exact HB2, by rw [show (newP g0 g1).2.2.1 = n1 from by rw [HQ0.out, HGG.out]; rfl]⟩))⟩)⟩
               case measure => simp [intOf])
    · have c6 := HC6.out wr HFq.out
      have c1 := HC1.out wr HFq.out
      rcases hst with ⟨q1, q2, q3, q4, rfl, rfl⟩ | ⟨q1, q2, q3, q4, rfl, rfl⟩ | ⟨q1, q2, rfl, HB, rfl⟩ | ⟨q1, q2, rfl, HB, rfl⟩
      · have Q1 := hid q1; have Q2 := hid q2; have Q3 := hid q3; have Q4 := hid q4
        clear q1 q2 q3 q4
        go_wp2_with fail
        go_quiet (fail)
        go_wp2_with fail
        (try simp only [Exit.inBlock, Exit.then])
        refine bodyPost_ret (results_tmp4 rfl _ _ _) rfl ?_
        refine ⟨HFq.out.drewN _, .slice none 0 0, by rw [Q1.out, Q2.out, Q4.out]; rfl, by rw [Q3.out]; exact World.ownsRow_nil _ _ _ _⟩
      · have Q1 := hid q1; have Q2 := hid q2; have Q3 := hid q3; have Q4 := hid q4
        clear q1 q2 q3 q4
        go_wp2_with fail
        go_quiet (fail)
        go_wp2_with fail
        (try simp only [Exit.inBlock, Exit.then])
        refine bodyPost_ret (results_tmp4 rfl _ _ _) rfl ?_
        refine ⟨HFq.out.drewN _, .slice none 0 0, by rw [Q1.out, Q2.out, Q4.out]; rfl, by rw [Q3.out]; exact World.ownsRow_nil _ _ _ _⟩
      · have Q1 := hid q1; have Q2 := hid q2
        obtain ⟨ab, cb, hbv, -⟩ := own_len HB.out
        subst hbv
        clear q1 q2
        go_wp2_with fail
        (try simp only [Exit.inBlock, Exit.then])
        refine bodyPost_ret (results_tmp4 rfl _ _ _) rfl ?_
        exact ⟨HFq.out, _, by rw [Q1.out, Q2.out]; rfl, HB.out⟩
      · have Q1 := hid q1; have Q2 := hid q2
        obtain ⟨ab, cb, hbv, -⟩ := own_len HB.out
        subst hbv
        clear q1 q2
        go_wp2_with fail
        (try simp only [Exit.inBlock, Exit.then])
        refine bodyPost_ret (results_tmp4 rfl _ _ _) rfl ?_
        exact ⟨HFq.out, _, by rw [Q1.out, Q2.out]; rfl, HB.out⟩
end Go.Proofs.YtpceckmjoicdlaaDoor
