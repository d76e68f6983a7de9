/- Package frame and the document's: four bytes and back, copies, what is sealed. -/
import Derived.Test.YtlpbjmgpckhneaaDoorFrameA
namespace Go.Proofs.YtlpbjmgpckhneaaDoor
open Go.RowKit

/-! ### Four bytes, the lowest first -/
def le4 (n : Nat) : List UInt8 := [UInt8.ofNat n, UInt8.ofNat (n / 256), UInt8.ofNat (n / 65536), UInt8.ofNat (n / 16777216)]
def n4 (l : List UInt8) : Nat := (l.getD 0 0).toNat + 256 * (l.getD 1 0).toNat + 65536 * (l.getD 2 0).toNat + 16777216 * (l.getD 3 0).toNat
@[simp] theorem le4_length (n : Nat) : (le4 n).length = 4 := rfl
theorem n4_lt (l : List UInt8) : n4 l < 4294967296 := by
  have h0 := (l.getD 0 0).toNat_lt
  have h1 := (l.getD 1 0).toNat_lt
  have h2 := (l.getD 2 0).toNat_lt
  have h3 := (l.getD 3 0).toNat_lt
  unfold n4
  omega
theorem n4_le4 (n : Nat) (h : n < 4294967296) : n4 (le4 n) = n := by
  simp [n4, le4]
  omega

theorem join4 {x0 x1 x2 x3 : Nat} (b0 : x0 < 2 ^ 8) (b1 : x1 < 2 ^ 8) (b2 : x2 < 2 ^ 8) (b3 : x3 < 2 ^ 8) :
    bits BinOp.or IntKind.u32 (bits BinOp.or IntKind.u32 (bits BinOp.or IntKind.u32 (x0 : Int) ((x1 : Int) * 256)) ((x2 : Int) * 65536)) ((x3 : Int) * 16777216) = ((x0 + 256 * x1 + 65536 * x2 + 16777216 * x3 : Nat) : Int) := by
  have h : ∀ (i a b : Nat), a < 2 ^ i → a ||| b * 2 ^ i = a + b * 2 ^ i := fun i a b ha => by
    rw [Nat.or_comm, Nat.mul_comm, ← Nat.two_pow_add_eq_or_of_lt ha, Nat.add_comm]
  have h1 := h 8 x0 x1 b0
  have h2 := h 16 (x0 + x1 * 2 ^ 8) x2 (by omega)
  have h3 := h 24 (x0 + x1 * 2 ^ 8 + x2 * 2 ^ 16) x3 (by omega)
  rw [show (x1 : Int) * 256 = ((x1 * 2 ^ 8 : Nat) : Int) by omega, show (x2 : Int) * 65536 = ((x2 * 2 ^ 16 : Nat) : Int) by omega, show (x3 : Int) * 16777216 = ((x3 * 2 ^ 24 : Nat) : Int) by omega]
  rw [u32_or_nat _ _ (by omega) (by omega), h1, u32_or_nat _ _ (by omega) (by omega), h2, u32_or_nat _ _ (by omega) (by omega), h3]
  omega

theorem fnumber_any (D : Nat → Prop) (v : Value) (l : List UInt8) (w : World) (hB : Bs D w v l) (h4 : 4 ≤ l.length) :
    Calls Tryd.prog 25 #[v] w fun e w' => e = .returned (.int .u32 (n4 l : Nat)) ∧ ∃ n, w.drewN n = w' := by
  obtain ⟨a, c, rfl, hlc, hcm, hk⟩ := hB
  have hm' : l.length ≤ 9223372036854775807 := Nat.le_trans hlc hcm
  obtain ⟨b, o, rfl, _, c0⟩ := hk 0 (by omega)
  have cx : ∀ k, k < l.length → w.cell? ⟨b, o + k, none⟩ = some (.int .u8 (l.getD k 0).toNat) := fun k hk' => by
    obtain ⟨b', o', e, _, hc⟩ := hk k hk'
    simp only [Option.some.injEq, Addr.mk.injEq] at e
    obtain ⟨rfl, rfl, _⟩ := e
    exact hc
  have c1 := cx 1 (by omega)
  have c2 := cx 2 (by omega)
  have c3 := cx 3 (by omega)
  clear cx hk
  rw [Nat.add_zero] at c0
  have hn : n4 l = (l.getD 0 0).toNat + 256 * (l.getD 1 0).toNat + 65536 * (l.getD 2 0).toNat + 16777216 * (l.getD 3 0).toNat := rfl
  have b0 := (l.getD 0 0).toNat_lt
  have b1 := (l.getD 1 0).toNat_lt
  have b2 := (l.getD 2 0).toNat_lt
  have b3 := (l.getD 3 0).toNat_lt
  generalize (l.getD 0 0).toNat = x0 at *
  generalize (l.getD 1 0).toNat = x1 at *
  generalize (l.getD 2 0).toNat = x2 at *
  generalize (l.getD 3 0).toNat = x3 at *
  have HN := hid hn
  clear hn
  go_enter Tryd.func25, Tryd.ntmps25
  go_wp2_with fail
  go_quiet (fail)
  go_wp2
  go_ret
  refine ⟨ret_int ?_, _, rfl⟩
  rw [HN.out]
  exact join4 b0 b1 b2 b3
theorem rnumber_any (D : Nat → Prop) (v : Value) (l : List UInt8) (w : World) (hB : Bs D w v l) (h4 : 4 ≤ l.length) :
    Calls Tryd.prog 28 #[v] w fun e w' => e = .returned (.int .u32 (n4 l : Nat)) ∧ ∃ n, w.drewN n = w' := by
  obtain ⟨a, c, rfl, hlc, hcm, hk⟩ := hB
  have hm' : l.length ≤ 9223372036854775807 := Nat.le_trans hlc hcm
  obtain ⟨b, o, rfl, _, c0⟩ := hk 0 (by omega)
  have cx : ∀ k, k < l.length → w.cell? ⟨b, o + k, none⟩ = some (.int .u8 (l.getD k 0).toNat) := fun k hk' => by
    obtain ⟨b', o', e, _, hc⟩ := hk k hk'
    simp only [Option.some.injEq, Addr.mk.injEq] at e
    obtain ⟨rfl, rfl, _⟩ := e
    exact hc
  have c1 := cx 1 (by omega)
  have c2 := cx 2 (by omega)
  have c3 := cx 3 (by omega)
  clear cx hk
  rw [Nat.add_zero] at c0
  have hn : n4 l = (l.getD 0 0).toNat + 256 * (l.getD 1 0).toNat + 65536 * (l.getD 2 0).toNat + 16777216 * (l.getD 3 0).toNat := rfl
  have b0 := (l.getD 0 0).toNat_lt
  have b1 := (l.getD 1 0).toNat_lt
  have b2 := (l.getD 2 0).toNat_lt
  have b3 := (l.getD 3 0).toNat_lt
  generalize (l.getD 0 0).toNat = x0 at *
  generalize (l.getD 1 0).toNat = x1 at *
  generalize (l.getD 2 0).toNat = x2 at *
  generalize (l.getD 3 0).toNat = x3 at *
  have HN := hid hn
  clear hn
  go_enter Tryd.func28, Tryd.ntmps28
  go_wp2_with fail
  go_quiet (fail)
  go_wp2
  go_ret
  refine ⟨ret_int ?_, _, rfl⟩
  rw [HN.out]
  exact join4 b0 b1 b2 b3

/-! ### Owned bytes -/
/-- Value v owns these bytes, in blocks from base on. -/
abbrev OB (base : Nat) (w : World) (v : Value) (l : List UInt8) : Prop := w.ownsRow base 5 1 v l.length (bV l)
theorem Tryd.info_byte : (Tryd.prog.info? 5).map (fun i => (i.zero, i.size, i.bytes)) = some (some (.int .u8 0), 1, 1) := by kernel_rfl
theorem OB.bs {base : Nat} {w : World} {v : Value} {l : List UInt8} (h : OB base w v l) : Bs (fun k => base ≤ k) w v l :=
  (Bs.own h).mono fun k _ hk => (h.lt k hk).1
theorem OB.fr {S : Nat → Prop} {a w w' : World} {v : Value} {l : List UInt8} (hf : Fr S a w) (h : OB a.heap.size w v l) (hg : Fr (fun k => some k = v.ownBlock) w w') : Fr S a w' :=
  hf.trans hg (fun _ _ h => h) fun k hk e => absurd (h.lt k e.symm).1 (by omega)

theorem le4_bV (n : Nat) (hn : n < 4294967296) : bV (le4 n) = [.int .u8 ((n : Int) % 256), .int .u8 ((n : Int) / 256 % 256), .int .u8 ((n : Int) / 65536 % 256), .int .u8 ((n : Int) / 16777216)] := by
  simp [bV, le4]
  omega

theorem little_any (base : Nat) (v : Value) (l : List UInt8) (n : Nat) (w : World) (h : OB base w v l) (hn : n < 4294967296) (hl : l.length ≤ 1073741824) (hb : base ≤ w.heap.size) :
    Calls Tryd.prog 23 #[v, .int .u32 n] w fun e w' => ∃ v', e = .returned v' ∧ OB base w' v' (l ++ le4 n) ∧ Fr (fun k => some k = v.ownBlock) w w' := by
  have hq := le4_bV n hn
  have hc : ∀ j, j < 4 → ∃ b o, (some ⟨w.heap.size, 0, none⟩ : Option Addr) = some ⟨b, o, none⟩ ∧ (w.alloc (.cells #[.int .u8 ((n : Int) % 256), .int .u8 ((n : Int) / 256 % 256), .int .u8 ((n : Int) / 65536 % 256), .int .u8 ((n : Int) / 16777216)] 5)).cell? ⟨b, o + j, none⟩ = (bV (le4 n))[j]? := by
    intro j hj
    refine ⟨_, _, rfl, ?_⟩
    rw [hq, Nat.zero_add, cell_of_row _ _ _ _ _ _ (heap_alloc_new w _)]
    simp
  have ho : (w.alloc (.cells #[.int .u8 ((n : Int) % 256), .int .u8 ((n : Int) / 256 % 256), .int .u8 ((n : Int) / 65536 % 256), .int .u8 ((n : Int) / 16777216)] 5)).ownsRow base 5 1 v l.length (bV l) := h.alloc _
  have hF := (Fr.refl (fun k => some k = v.ownBlock) w).alloc (.cells #[.int .u8 ((n : Int) % 256), .int .u8 ((n : Int) / 256 % 256), .int .u8 ((n : Int) / 65536 % 256), .int .u8 ((n : Int) / 16777216)] 5)
  have h1 : ∀ u ∈ bV (le4 n), u.oneCell' = true := by
    intro u hu
    simp only [bV, List.mem_map] at hu
    obtain ⟨_, _, rfl⟩ := hu
    rfl
  have HC := hid hc
  have HO := hid ho
  have HF := hid hF
  have H1 := hid h1
  clear hq h hc ho hF h1
  go_enter Tryd.func23, Tryd.ntmps23
  go_wp2_with (at_builtin; go_must (refine wpList_appendN rfl (.tmp 5) (.tmp 17) 22 rfl 5 (.int .u8 0) 1 Tryd.underlying22 Tryd.info_byte rfl v rfl base l.length (bV l) HO.out (some ⟨w.heap.size, 0, none⟩) 4 4 (bV (le4 n)) rfl (by simp) (fun h => by cases h) HC.out H1.out (by omega) (by decide) (by simp; omega) ?_))
  intro v' w' ho' hf' _
  have HR := hid (HF.out.trans' hf')
  have HO' := hid ho'
  clear ho' hf'
  go_wp2
  go_ret
  refine ⟨v', rfl, ?_, HR.out⟩
  have := HO'.out
  simpa [OB, bV] using this
end Go.Proofs.YtlpbjmgpckhneaaDoor
