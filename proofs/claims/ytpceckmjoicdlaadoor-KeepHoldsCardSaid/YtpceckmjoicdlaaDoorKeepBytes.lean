/- The statement KeepBytes. -/
import Derived.Test.YtpceckmjoicdlaaDoorKeepF
import Derived.Test.YtpceckmjoicdlaaDoorDiskU
import Derived.Test.YtpceckmjoicdlaaDoorRefs
import Derived.Test.YtpceckmjoicdlaaDoorSameBytes
namespace Go.Proofs.YtpceckmjoicdlaaDoor
open Go.RowKit
variable {w0 w w' : World} {pa : Nat → Addr} {nm : ByteArray} {X : Nat}

theorem sumF_three (g : Nat → Nat) (M : Nat) {L : Nm} (hk : Ks L) (h : ∀ q ∈ L, (q.1 = kW0 ∨ q.1 = kW1 ∨ q.1 = kNew) ∧ g q.2 ≤ M) : sumF g L ≤ 3 * M := by
  have step : ∀ (nm : ByteArray) (L : Nm), Ks L → (∀ q ∈ L, g q.2 ≤ M) → sumF g L ≤ M + sumF g (dl L nm) := fun nm L hk hb => by
    cases hl : lk L nm with
    | none => rw [dl_none hl]; omega
    | some f =>
      have hm := (lk_mem hk).1 hl
      rw [sumF_dl g hk hm]
      have h5 : g f ≤ M := hb _ hm
      omega
  have h1 := step kW0 L hk fun q hq => (h q hq).2
  have h2 := step kW1 (dl L kW0) (ks_dl hk _) fun q hq => (h q (mem_dl.1 hq).1).2
  have h3 := step kNew (dl (dl L kW0) kW1) (ks_dl (ks_dl hk _) _) fun q hq => (h q (mem_dl.1 (mem_dl.1 hq).1).1).2
  have h4 : dl (dl (dl L kW0) kW1) kNew = [] := by
    rw [List.eq_nil_iff_forall_not_mem]
    intro q hq
    obtain ⟨hq, e3⟩ := mem_dl.1 hq
    obtain ⟨hq, e2⟩ := mem_dl.1 hq
    obtain ⟨hq, e1⟩ := mem_dl.1 hq
    rcases (h q hq).1 with e | e | e
    · exact e1 e
    · exact e2 e
    · exact e3 e
  rw [h4] at h3
  simp only [sumF] at h3
  omega
/-- A disk of three names. -/
structure K3 (p : PS) (M : Nat) : Prop where
  calm : p.calm
  nm : ∀ t k, lk p.names t = some k → (t = kW0 ∨ t = kW1 ∨ t = kNew) ∧ (p.fs k).by_.length ≤ M
theorem K3.used {p : PS} {M : Nat} (h : K3 p M) (hk : Ks p.names) : p.used ≤ 3 * M :=
  sumF_three _ M hk fun q hq => h.nm q.1 q.2 ((lk_mem hk).2 hq)
theorem K3.new (room : Int) (M : Nat) : K3 (PS.new room) M := ⟨⟨rfl, rfl⟩, fun t k h => by cases h⟩
theorem K3.create {p : PS} {M : Nat} (h : K3 p M) {nm : ByteArray} (hn : nm = kW0 ∨ nm = kW1 ∨ nm = kNew) (F : Nat) : K3 (p.create nm F) M := ⟨h.calm, fun t k hl => by
  simp only [PS.create] at hl ⊢
  rw [lk_pt] at hl
  by_cases e : t = nm
  · rw [if_pos e] at hl
    injection hl with hl
    subst hl
    rw [upd_same]
    exact ⟨e ▸ hn, Nat.zero_le _⟩
  · rw [if_neg e] at hl
    refine ⟨(h.nm t k hl).1, ?_⟩
    by_cases ek : k = F
    · subst ek; rw [upd_same]; exact Nat.zero_le _
    · rw [upd_ne _ _ ek]; exact (h.nm t k hl).2⟩
theorem K3.put {p : PS} {M : Nat} (h : K3 p M) (k : Nat) (f : FS) (hf : f.by_.length ≤ M) : K3 (p.put k f) M := ⟨h.calm, fun t q hl => by
  refine ⟨(h.nm t q hl).1, ?_⟩
  simp only [PS.put]
  by_cases e : q = k
  · rw [e, upd_same]; exact hf
  · rw [upd_ne _ _ e]; exact (h.nm t q hl).2⟩
theorem K3.saved {p p' : PS} {M F : Nat} {nt : ByteArray} {bytes : List UInt8} (h : K3 p M) (hs : Saved p p' nt F bytes) (hn : nt = kW0 ∨ nt = kW1) (hb : bytes.length ≤ M) : K3 p' M := ⟨hs.calm, fun t k hl => by
  rw [hs.lk] at hl
  by_cases e : t = nt
  · rw [if_pos e] at hl
    injection hl with hl
    subst hl
    obtain ⟨n, e2⟩ := hs.fF
    rw [e2]
    exact ⟨by rcases hn with e3 | e3 <;> simp [e, e3], hb⟩
  · rw [if_neg e] at hl
    by_cases e1 : t = kNew
    · rw [if_pos e1] at hl; cases hl
    · rw [if_neg e1] at hl
      rw [hs.fs k (hs.new t k e1 hl)]
      exact h.nm t k hl⟩
theorem saveTo_or (n : ByteArray) : saveTo n = kW0 ∨ saveTo n = kW1 := by
  unfold saveTo
  split
  · exact .inr rfl
  · exact .inl rfl
/-- What a name says once the disk is saved. -/
theorem gst_saved {p p' : PS} {F u : Nat} {b : List UInt8} {nt : ByteArray} (hs : Saved p p' nt F (recsB [le8 u, b])) (hb : b.length ≤ 4194304) (hu : u < 18446744073709551616) (t : ByteArray) (ht : t ≠ kNew) :
    gst p' t = if t = nt then some (some (b, IntKind.i64.wrap u)) else gst p t := by
  unfold gst
  rw [hs.lk]
  by_cases e : t = nt
  · rw [if_pos e, if_pos e]
    obtain ⟨n, e2⟩ := hs.fF
    have g : Gd (recsB [le8 u, b]) (le8 u) b := ⟨rfl, hb, rfl⟩
    simp only [Option.map_some, e2]
    rw [gen_of g]
    unfold i8
    rw [n8_le8 u hu]
  · rw [if_neg e, if_neg e, if_neg ht]
    cases hl : lk p.names t with
    | none => rfl
    | some k => simp only [Option.map_some]; rw [hs.fs k (hs.new t k ht hl)]
theorem wrap_back {n : Int} {u : Nat} (h1 : -9223372036854775808 ≤ n) (h2 : n < 9223372036854775807) (hu : IntKind.u64.wrap (IntKind.i64.wrap (n + 1)) = (u : Int)) : IntKind.i64.wrap (u : Int) = n + 1 ∧ u < 18446744073709551616 := by
  rw [← hu]
  constructor
  · simp only [IntKind.wrap, IntKind.signed, IntKind.bits] at *
    simp at *
    omega
  · simp only [IntKind.wrap, IntKind.signed, IntKind.bits] at *
    simp at *
    omega
theorem gen_range {l : List UInt8} {b : List UInt8} {n : Int} (h : gen l = some (b, n)) : -9223372036854775808 ≤ n ∧ n ≤ 9223372036854775807 := by
  by_cases hg : ∃ p : List UInt8 × List UInt8, Gd l p.1 p.2
  · obtain ⟨⟨h1, h2⟩, hg⟩ := hg
    rw [gen_of hg] at h
    injection h with h
    injection h with _ h
    rw [← h]
    unfold i8
    simp only [IntKind.wrap, IntKind.signed, IntKind.bits]
    simp
    omega
  · rw [gen_none fun x y hx => hg ⟨⟨x, y⟩, hx⟩] at h
    cases h
theorem gst_range {p : PS} {b : List UInt8} {n : Int} (h : gst p nm = some (some (b, n))) : -9223372036854775808 ≤ n ∧ n ≤ 9223372036854775807 := by
  unfold gst at h
  cases hl : lk p.names nm with
  | none => rw [hl] at h; cases h
  | some k => rw [hl] at h; injection h with h; exact gen_range h
/-- Saved is what is loaded. -/
theorem newP_saved {p p' : PS} {F u : Nat} {b : List UInt8} (hs : Saved p p' (saveTo (newP (gst p kW0) (gst p kW1)).1) F (recsB [le8 u, b])) (hb : b.length ≤ 4194304) (hu : IntKind.u64.wrap (IntKind.i64.wrap ((newP (gst p kW0) (gst p kW1)).2.2.1 + 1)) = (u : Int))
    (hn : (newP (gst p kW0) (gst p kW1)).2.2.1 ≠ 9223372036854775807) :
    newP (gst p' kW0) (gst p' kW1) = (saveTo (newP (gst p kW0) (gst p kW1)).1, b, (newP (gst p kW0) (gst p kW1)).2.2.1 + 1, 0) := by
  have r0 := fun b n => gst_range (p := p) (nm := kW0) (b := b) (n := n)
  have r1 := fun b n => gst_range (p := p) (nm := kW1) (b := b) (n := n)
  have hne := kNew_ne
  have hz0 : kW0 ≠ ⟨#[]⟩ := by decide +kernel
  have hz1 : kW1 ≠ ⟨#[]⟩ := by decide +kernel
  have hul : u < 18446744073709551616 := by
    simp only [IntKind.wrap, IntKind.signed, IntKind.bits] at hu
    simp at hu
    omega
  rw [gst_saved hs hb hul kW0 (fun e => hne.1 e.symm), gst_saved hs hb hul kW1 (fun e => hne.2.1 e.symm)]
  clear hs
  generalize gst p kW0 = g0 at *
  generalize gst p kW1 = g1 at *
  have fin0 : ∀ n : Int, -9223372036854775808 ≤ n → n ≤ 9223372036854775807 → n ≠ 9223372036854775807 → IntKind.u64.wrap (IntKind.i64.wrap (n + 1)) = (u : Int) → IntKind.i64.wrap (u : Int) = n + 1 := fun n h1 h2 h3 h4 => (wrap_back h1 (by omega) h4).1
  have s0 : saveTo kW0 = kW1 := if_pos rfl
  have s1 : saveTo kW1 = kW0 := if_neg fun e => hne.2.2 e.symm
  have s2 : saveTo ⟨#[]⟩ = kW0 := if_neg fun e => hz0 e.symm
  have n01 := hne.2.2
  have n10 : kW1 ≠ kW0 := fun e => hne.2.2 e.symm
  rcases g0 with _ | _ | ⟨b0, n0⟩ <;> rcases g1 with _ | _ | ⟨b1, n1⟩
  all_goals try
    (have q := fin0 0 (by decide) (by decide) (by decide) (by first | exact hu | (simp only [newP] at hu; exact hu))
     simp only [newP, s2, if_pos rfl, if_neg n10, q, if_true]
     done)
  all_goals try
    (have q := fin0 n0 (r0 _ _ rfl).1 (r0 _ _ rfl).2 hn hu
     simp only [newP, s0, if_pos rfl, if_neg n01, q, if_true]
     try rw [if_pos (by omega)]
     done)
  all_goals try
    (have q := fin0 n1 (r1 _ _ rfl).1 (r1 _ _ rfl).2 hn hu
     simp only [newP, s1, if_pos rfl, if_neg n10, q, if_true]
     try rw [if_neg (by omega)]
     done)
  by_cases hlt : n0 < n1
  · simp only [newP, if_pos hlt] at hu hn ⊢
    have q := fin0 n1 (r1 _ _ rfl).1 (r1 _ _ rfl).2 hn hu
    simp only [s1, if_pos rfl, if_neg n10, q, if_true]
    rw [if_neg (by omega)]
  · simp only [newP, if_neg hlt] at hu hn ⊢
    have q := fin0 n0 (r0 _ _ rfl).1 (r0 _ _ rfl).2 hn hu
    simp only [s0, if_pos rfl, if_neg n01, q, if_true]
    rw [if_pos (by omega)]
theorem newP_range {p : PS} : -9223372036854775808 ≤ (newP (gst p kW0) (gst p kW1)).2.2.1 ∧ (newP (gst p kW0) (gst p kW1)).2.2.1 ≤ 9223372036854775807 := by
  have r0 := fun b n => gst_range (p := p) (nm := kW0) (b := b) (n := n)
  have r1 := fun b n => gst_range (p := p) (nm := kW1) (b := b) (n := n)
  generalize gst p kW0 = g0 at *
  generalize gst p kW1 = g1 at *
  rcases g0 with _ | _ | ⟨b0, n0⟩ <;> rcases g1 with _ | _ | ⟨b1, n1⟩
  all_goals first
    | exact ⟨by decide, by decide⟩
    | exact r0 _ _ rfl
    | exact r1 _ _ rfl
    | (by_cases hlt : n0 < n1
       · simp only [newP, if_pos hlt]; exact r1 _ _ rfl
       · simp only [newP, if_neg hlt]; exact r0 _ _ rfl)
set_option maxRecDepth 100000 in
set_option maxHeartbeats 3200000 in
theorem kfirst_any (hE : Sent17 w pa) : Calls Tryd.prog 6 #[] w fun e w' => e = .returned (.bool true) ∧ Fr (fun _ => False) w w' := by
  have HN := hid (new_p hE.s6 (Fr.refl _ w) 100)
  have HE := hid hE
  clear hE
  go_enter Tryd.func6, Tryd.ntmps6
  go_wp2_with fail
  refine HN.out.mono ?_
  rintro e w1 ⟨-, h1⟩
  obtain ⟨X, rfl, h1, -⟩ := h1 (by decide +kernel)
  have hL := load_any h1 HE.out rfl
  have e0 : newP (gst (PS.new 100) kW0) (gst (PS.new 100) kW1) = (⟨#[]⟩, [], 0, 107) := rfl
  rw [e0] at hL
  have HL := hid hL
  have HF1 := hid h1.f
  clear h1 hL e0
  go_wp2_with fail
  refine HL.out.mono ?_
  rintro e w2 ⟨hf2, v, rfl, ho⟩
  obtain ⟨a, c, hv, -⟩ := own_len ho
  subst hv
  clear ho
  have HF2 := hid (HF1.out.trans' hf2)
  clear hf2
  have HI := hid (is_num w2 pa (HE.out.frame HF2.out) 107 (by unfold ErrNo; omega) 107)
  go_wp2_with fail
  refine HI.out.mono ?_
  rintro e w3 ⟨rfl, hf3⟩
  have HF3 := hid (HF2.out.trans' hf3)
  clear hf3
  go_wp2_with fail
  go_ret
  exact ⟨rfl, HF3.out⟩
theorem knames_any (w : World) : Calls Tryd.prog 15 #[] w fun e w' => e = .returned (.slice (some ⟨w.heap.size, 0, none⟩) 3 3) ∧ w' = w.alloc (.cells #[.string kW0, .string kW1, .string kNew] 9) := by
  go_enter Tryd.func15, Tryd.ntmps15
  go_wp2_with fail
  go_ret
  exact ⟨rfl, rfl⟩
theorem fr_drewN2 (h : ∃ n, w.drewN n = w') : Fr (fun _ => False) w w' := by
  obtain ⟨n, rfl⟩ := h
  exact (Fr.refl _ _).drewN n
abbrev C3 : Obj := .cells #[.string kW0, .string kW1, .string kNew] 9
theorem names_same (w : World) : Calls Tryd.prog 14 #[.slice (some ⟨w.heap.size, 0, none⟩) 3 3, .slice (some ⟨w.heap.size + 1, 0, none⟩) 3 3] ((w.alloc C3).alloc C3) fun e w' => e = .returned (.bool true) ∧ Fr (fun _ => False) w w' := by
  have hza := (Fr.refl (fun _ => False) w).alloc C3
  have hra : Ss (TB (w.alloc C3)) (w.alloc C3) (.slice (some ⟨w.heap.size, 0, none⟩) 3 3) [kW0, kW1, kNew] := Ss.row (l := [kW0, kW1, kNew]) (heap_alloc_new w C3) (by simp [maxLen])
  have hzb := (Fr.refl (fun _ => False) (w.alloc C3)).alloc C3
  have hrb : Ss (TB ((w.alloc C3).alloc C3)) ((w.alloc C3).alloc C3) (.slice (some ⟨w.heap.size + 1, 0, none⟩) 3 3) [kW0, kW1, kNew] := by
    have h := Ss.row (l := [kW0, kW1, kNew]) (heap_alloc_new (w.alloc C3) C3) (by simp [maxLen])
    have e : (w.alloc C3).heap.size = w.heap.size + 1 := by simp
    rw [e] at h
    exact h
  refine (sameTexts_any _ _ _ _ _ _ _ (hra.keep0 hzb) hrb).mono ?_
  rintro e w2 ⟨rfl, h⟩
  exact ⟨congrArg (fun b => Ending.returned (.bool b)) (decide_eq_true rfl), (hza.trans' hzb).trans' (fr_drewN2 h)⟩
theorem gst_create {p : PS} {F : Nat} {nm t : ByteArray} (hk : Ks p.names) (hF : ∀ k, PFl p k → k ≠ F) (ht : t ≠ nm) : gst (p.create nm F) t = gst p t := by
  unfold gst
  simp only [PS.create]
  rw [lk_pt, if_neg ht]
  cases hl : lk p.names t with
  | none => rfl
  | some k => simp only [Option.map_some]; rw [upd_ne _ _ (hF k (.inl ⟨t, (lk_mem hk).1 hl⟩))]
theorem gst_put {p : PS} {F : Nat} {f : FS} {t : ByteArray} (hF : ∀ k, lk p.names t = some k → k ≠ F) : gst (p.put F f) t = gst p t := by
  unfold gst
  simp only [PS.put]
  cases hl : lk p.names t with
  | none => rfl
  | some k => simp only [Option.map_some]; rw [upd_ne _ _ (hF k hl)]
theorem newP_good (c : List UInt8) (g1 : Option (Option (List UInt8 × Int))) : (newP (some (some (c, 1))) g1).2.2.2 = 0 ∧ ((newP (some (some (c, 1))) g1).2.2.1 = 1 → (newP (some (some (c, 1))) g1).2.1 = c) := by
  rcases g1 with _ | _ | ⟨b1, n1⟩
  · exact ⟨rfl, fun _ => rfl⟩
  · exact ⟨rfl, fun _ => rfl⟩
  · by_cases h : 1 < n1
    · simp only [newP, if_pos h]
      exact ⟨trivial, fun e => by omega⟩
    · simp only [newP, if_neg h]
      exact ⟨trivial, fun _ => trivial⟩
theorem newP_some {g0 g1 : Option (Option (List UInt8 × Int))} (h : g0 ≠ none) : (newP g0 g1).2.2.2 = 0 ∨ (newP g0 g1).2.2.2 = 102 := by
  rcases g0 with _ | _ | ⟨b0, n0⟩ <;> rcases g1 with _ | _ | ⟨b1, n1⟩
  all_goals first
    | exact absurd rfl h
    | exact .inl rfl
    | exact .inr rfl
    | (by_cases hlt : n0 < n1
       · exact .inl (by unfold newP; simp only [if_pos hlt])
       · exact .inl (by unfold newP; simp only [if_neg hlt]))
theorem wrap_nat (n : Int) : ∃ u : Nat, IntKind.u64.wrap n = (u : Int) ∧ u < 18446744073709551616 := by
  refine ⟨(IntKind.u64.wrap n).toNat, ?_, ?_⟩
  · simp only [IntKind.wrap, IntKind.signed, IntKind.bits]
    simp
    omega
  · simp only [IntKind.wrap, IntKind.signed, IntKind.bits]
    simp
    omega
/-- What stands behind the first file. -/
structure KI (good : Bool) (c : List UInt8) (p : PS) : Prop where
  k3 : K3 p 224
  room : p.room = 16384
  cl : p.calls ≤ 20 ∧ p.files ≤ 20
  g0 : gst p kW0 ≠ none
  gd : good = true → gst p kW0 = some (some (c, 1))
theorem KI.create {good : Bool} {c : List UInt8} {p : PS} (h : KI good c p) (hk : Ks p.names) (hc : p.calls ≤ 19 ∧ p.files ≤ 19) {F : Nat} (hF : ∀ k, PFl p k → k ≠ F) (hn : nm = kW1 ∨ nm = kNew) : KI good c (p.create nm F) := by
  have hne := kNew_ne
  have h1 : gst (p.create nm F) kW0 = gst p kW0 := gst_create hk hF (by rcases hn with e | e <;> rw [e]; exact hne.2.2; exact fun e => hne.1 e.symm)
  exact ⟨h.k3.create (.inr hn) F, h.room, ⟨Nat.succ_le_succ hc.1, Nat.succ_le_succ hc.2⟩, by rw [h1]; exact h.g0, fun e => by rw [h1]; exact h.gd e⟩
theorem KI.put {good : Bool} {c : List UInt8} {p : PS} (h : KI good c p) (hc : p.calls ≤ 19) {F : Nat} {f : FS} (hf : f.by_.length ≤ 224) (hF : ∀ k, lk p.names kW0 = some k → k ≠ F) : KI good c (p.put F f) := by
  have h1 := gst_put (f := f) hF
  exact ⟨h.k3.put F f hf, h.room, ⟨Nat.succ_le_succ hc, h.cl.2⟩, by rw [h1]; exact h.g0, fun e => by rw [h1]; exact h.gd e⟩
set_option maxRecDepth 100000 in
set_option maxHeartbeats 12800000 in
theorem keepBytes_any (pa : Nat → Addr) (va vb vc : Value) (a b c : List UInt8) (good : Bool) (W : World) (ha : Bs (fun _ => True) W va a) (hb : Bs (fun _ => True) W vb b) (hc : Bs (fun _ => True) W vc c) (hE : Sent17 W pa) :
    Calls Tryd.prog 3 #[va, vb, vc, .bool good] W fun e w' => e = .returned (.bool true) ∧ Fr (fun _ => False) W w' := by
  have HFI := hid (kfirst_any hE)
  have HA := hid (ha.mono (E := fun k => k < W.heap.size) fun _ h _ => h)
  have HB := hid (hb.mono (E := fun k => k < W.heap.size) fun _ h _ => h)
  have HC := hid (hc.mono (E := fun k => k < W.heap.size) fun _ h _ => h)
  obtain ⟨aa, ca, rfl, ha1, -⟩ := id ha
  obtain ⟨ab, cb, rfl, hb1, -⟩ := id hb
  obtain ⟨ac, cc, rfl, hc1, -⟩ := id hc
  have HE := hid hE
  clear ha hb hc hE
  have HKN := hid knames_any
  go_enter Tryd.func3, Tryd.ntmps3
  go_wp2_with fail
  refine HFI.out.mono ?_
  rintro e w1 ⟨rfl, hf1⟩
  have HF1 := hid hf1
  clear hf1
  by_cases l1 : 200 < a.length
  · have l1I : (200 : Int) < a.length := by omega
    go_wp2_with fail
    go_ret
    exact ⟨rfl, HF1.out⟩
  have l1I : ¬ (200 : Int) < a.length := by omega
  by_cases l2 : 200 < b.length
  · have l2I : (200 : Int) < b.length := by omega
    go_wp2_with fail
    go_ret
    exact ⟨rfl, HF1.out⟩
  have l2I : ¬ (200 : Int) < b.length := by omega
  by_cases l3 : 200 < c.length
  · have l3I : (200 : Int) < c.length := by omega
    go_wp2_with fail
    go_ret
    exact ⟨rfl, HF1.out⟩
  have l3I : ¬ (200 : Int) < c.length := by omega
  have HN := hid (new_p (HE.out.s6) HF1.out 16384)
  go_wp2_with fail
  refine HN.out.mono ?_
  rintro e w2 ⟨-, h2⟩
  obtain ⟨X, rfl, h2, -⟩ := h2 (by decide +kernel)
  have H2 := hid h2
  clear h2 l1I l2I l3I
  have hne := hid kNew_ne
  cases good with
  | true =>
    have hsv := save_any H2.out HE.out ⟨rfl, rfl⟩ ⟨by decide, by decide⟩ _ c (KB.arg HC.out H2.out.f) (by omega) 1 (by decide +kernel) (by decide) (by simp [PS.used, PS.new, sumF]; omega)
    have HSV0 := hid hsv
    clear hsv
    go_wp2_with fail
    refine HSV0.out.mono ?_
    rintro e w4 ⟨rfl, -, F, p0, h4, hs⟩
    have es : saveTo (newP (gst (PS.new 16384) kW0) (gst (PS.new 16384) kW1)).1 = kW0 := by decide +kernel
    rw [es] at hs
    have hq : ∃ p0 : PS, PW W w4 X p0 ∧ KI true c p0 ∧ (p0.calls ≤ 10 ∧ p0.files ≤ 10) ∧ lk p0.names kW1 = none ∧ lk p0.names kNew = none := by
      have hg := gst_saved hs (by omega) (by decide) kW0 (fun e => hne.out.1 e.symm)
      rw [if_pos rfl] at hg
      refine ⟨p0, h4, ⟨(K3.new 16384 224).saved hs (.inl rfl) (by simp [recsB, recB_len, le8]; omega), hs.room, ?_, (by rw [hg]; intro e; cases e), fun _ => hg⟩, ?_, ?_, ?_⟩
      · have h1 := hs.calls; have h2 := hs.files
        simp only [PS.new] at h1 h2
        omega
      · have h1 := hs.calls; have h2 := hs.files
        simp only [PS.new] at h1 h2
        omega
      · rw [hs.lk, if_neg (fun e => hne.out.2.2 e.symm), if_neg (fun e => hne.out.2.1 e.symm)]; rfl
      · rw [hs.lk, if_neg hne.out.1, if_pos rfl]
    clear h4 hs es HSV0
    clear H2
    obtain ⟨p0, h4, hi, hc0, hl1, hl2⟩ := hq
    have H4 := hid h4; have HI := hid hi; have HC0 := hid hc0; have HL2 := hid hl2
    have hcr := create_p h4 HE.out.s6 (nm := kW1) hi.k3.calm (by decide +kernel) hl1 ⟨by omega, by omega⟩
    have HCR := hid hcr
    clear h4 hi hc0 hl1 hl2 hcr
    go_wp2_with fail
    refine HCR.out.mono ?_
    rintro e w5 ⟨rfl, F1, hF1, h5, -⟩
    have H5 := hid h5
    have HI5 := hid (HI.out.create (nm := kW1) H4.out.ok.kn (by have := HC0.out; omega) hF1 (.inl rfl))
    have HW0 := hid (show ∀ k, lk (p0.create kW1 F1).names kW0 = some k → k ≠ F1 from fun k hk => hF1 k (.inl ⟨kW0, (lk_mem H4.out.ok.kn).1 (by
      have e : lk (p0.create kW1 F1).names kW0 = if kW0 = kW1 then some F1 else lk p0.names kW0 := lk_pt _ _ _ _
      rw [e, if_neg hne.out.2.2] at hk
      exact hk)⟩))
    have hap := append_q h5 HE.out.s6 (nm := kW1) HI5.out.k3.calm (k := F1) ((lk_pt _ _ _ _).trans (if_pos rfl)) _ b _ (HB.out.frame h5.f fun _ _ => id) (fun k hk => .inr hk) (by
      have h1 := HI5.out.k3.used h5.ok.kn
      have h2 := HI5.out.room
      omega) (by have := HI5.out.cl; omega)
    have HAP := hid hap
    clear h5 hF1 hap
    go_wp2_with fail
    refine HAP.out.mono ?_
    rintro e w6 ⟨rfl, h6, -⟩
    have HI6 := hid (HI5.out.put (by show p0.calls + 1 ≤ 19; have := HC0.out; omega) (f := ⟨((p0.create kW1 F1).fs F1).id, ((p0.create kW1 F1).fs F1).by_ ++ b, ((p0.create kW1 F1).fs F1).sy⟩) (by simp only [PS.create, upd_same, List.nil_append]; omega) HW0.out)
    have hcr := create_p h6 HE.out.s6 (nm := kNew) HI6.out.k3.calm (by decide +kernel) (by
      have e : lk (p0.create kW1 F1).names kNew = if kNew = kW1 then some F1 else lk p0.names kNew := lk_pt _ _ _ _
      exact e.trans ((if_neg hne.out.2.1).trans HL2.out)) ⟨by have := HI6.out.cl; omega, by have := HI6.out.cl; omega⟩
    have HCR2 := hid hcr
    have H6 := hid h6
    clear h6 hcr
    go_wp2_with fail
    refine HCR2.out.mono ?_
    rintro e w7 ⟨rfl, F2, hF2, h7, -⟩
    have hi7 := HI6.out.create (nm := kNew) H6.out.ok.kn (by
      show (p0.calls + 1 + 1 ≤ 19 ∧ p0.files + 1 ≤ 19)
      have := HC0.out
      omega) hF2 (.inr rfl)
    have hq7 : ∃ p3 : PS, PW W w7 X p3 ∧ KI true c p3 := ⟨_, h7, hi7⟩
    clear h7 hi7 hF2 HI6 HI5 HW0 H6 H5 H4 HI HC0 HL2 HCR HCR2 HAP
    obtain ⟨p3, h7, hi7⟩ := hq7
    have H7 := hid h7; have HI7 := hid hi7
    have hl := load_any h7 HE.out hi7.k3.calm.1
    have hcode := newP_good c (gst p3 kW1)
    rw [← hi7.gd rfl] at hcode
    clear h7 hi7
    obtain ⟨np, hnp⟩ : ∃ np, np = newP (gst p3 kW0) (gst p3 kW1) := ⟨_, rfl⟩
    rw [← hnp] at hl hcode
    obtain ⟨nn, x, n, cd⟩ := np
    have HNP := hid hnp
    dsimp only at hl hcode
    have hrg : -9223372036854775808 ≤ n ∧ n ≤ 9223372036854775807 := by
      have e : n = (newP (gst p3 kW0) (gst p3 kW1)).2.2.1 := by rw [← hnp]
      rw [e]
      exact newP_range
    clear hnp
    obtain ⟨hc1, hc2⟩ := hcode
    subst hc1
    have z0 : errV pa 0 = .nilIface := rfl
    rw [z0] at hl
    have HLD := hid hl; have HC0x := hid hc2
    clear hl z0 hc2
    go_wp2_with fail
    refine HLD.out.mono ?_
    rintro e w8 ⟨hf8, v8, rfl, ho8⟩
    obtain ⟨a8, c8, hv8, -⟩ := own_len ho8
    subst hv8
    have H8 := hid (H7.out.fr hf8)
    by_cases hn1 : n = 1
    · obtain rfl := HC0x.out hn1
      have hq1 : (n == (1 : Int)) = true := beq_iff_eq.2 hn1
      have HSA1 := hid (sameBytes_any _ _ _ _ _ _ w8 ho8.bs2 (HC.out.frame H8.out.f fun _ _ => id))
      rw [decide_eq_true (rfl : x = x)] at HSA1
      clear hf8 ho8 hn1
      go_wp2_with fail
      refine HSA1.out.mono ?_
      rintro e w9 ⟨rfl, hq9⟩
      have H9 := hid (H8.out.fr (fr_drewN2 hq9))
      clear hq9 hq1
      clear HC0x
      by_cases hmx : n = 9223372036854775807
      · have hqm : (n == (9223372036854775807 : Int)) = true := beq_iff_eq.2 hmx
        clear hmx
        go_wp2_with fail
        go_ret
        exact ⟨rfl, H9.out.f⟩
      have hqm : (n == (9223372036854775807 : Int)) = false := by
        rw [beq_eq_false_iff_ne]
        exact hmx
      obtain ⟨u, hu, hub⟩ := wrap_nat (IntKind.i64.wrap (n + 1))
      have en : (newP (gst p3 kW0) (gst p3 kW1)).2.2.1 = n := by rw [← HNP.out]
      have hsv := save_any H9.out HE.out HI7.out.k3.calm ⟨by have := HI7.out.cl; omega, by have := HI7.out.cl; omega⟩ _ a (KB.arg HA.out H9.out.f) (by omega) u (by rw [en]; exact hu) hub (by
        have h1 := HI7.out.k3.used H9.out.ok.kn
        have h2 := HI7.out.room
        omega)
      have HSV := hid hsv; have HU := hid hu; have HMX := hid hmx
      clear hsv hu hub hmx
      go_wp2_with fail
      refine HSV.out.mono ?_
      rintro e wa ⟨rfl, -, F5, p5, h5, hs5⟩
      have hn5 := newP_saved hs5 (by omega) (by rw [en]; exact HU.out) (by rw [en]; exact HMX.out)
      rw [en] at hn5
      have hl5 := load_any h5 HE.out hs5.calm.1
      rw [hn5] at hl5
      dsimp only at hl5
      have HL5 := hid hl5; have H5 := hid h5
      clear hl5 hn5 hs5 h5 hqm
      go_wp2_with fail
      refine HL5.out.mono ?_
      rintro e wb ⟨hfb, vy, rfl, hob⟩
      obtain ⟨ay, cy, hvy, -⟩ := own_len hob
      subst hvy
      have H8b := hid (H5.out.fr hfb)
      have HSA := hid (sameBytes_any _ _ _ _ _ _ wb hob.bs2 (HA.out.frame H8b.out.f fun _ _ => id))
      rw [decide_eq_true (rfl : a = a)] at HSA
      have hgt : n < n + 1 := by omega
      have z0 : errV pa 0 = .nilIface := rfl
      rw [z0]
      clear hfb hob z0
      go_wp2_with fail
      refine HSA.out.mono ?_
      rintro e wc ⟨rfl, hqc⟩
      have HFc := hid (H8b.out.f.trans' (fr_drewN2 hqc))
      clear hqc
      go_wp2_with fail
      refine (HKN.out wc).mono ?_
      rintro e wd ⟨rfl, rfl⟩
      go_wp2_with fail
      refine (names_same wc).mono ?_
      rintro e we ⟨rfl, hqe⟩
      have HFe := hid (HFc.out.trans' hqe)
      clear hqe
      go_wp2_with fail
      go_ret
      exact ⟨rfl, HFe.out⟩
    · have hq1 : (n == (1 : Int)) = false := by
        rw [beq_eq_false_iff_ne]
        exact hn1
      have H9 := H8
      clear hf8 ho8 hn1
      clear HC0x
      by_cases hmx : n = 9223372036854775807
      · have hqm : (n == (9223372036854775807 : Int)) = true := beq_iff_eq.2 hmx
        clear hmx
        go_wp2_with fail
        go_ret
        exact ⟨rfl, H9.out.f⟩
      have hqm : (n == (9223372036854775807 : Int)) = false := by
        rw [beq_eq_false_iff_ne]
        exact hmx
      obtain ⟨u, hu, hub⟩ := wrap_nat (IntKind.i64.wrap (n + 1))
      have en : (newP (gst p3 kW0) (gst p3 kW1)).2.2.1 = n := by rw [← HNP.out]
      have hsv := save_any H9.out HE.out HI7.out.k3.calm ⟨by have := HI7.out.cl; omega, by have := HI7.out.cl; omega⟩ _ a (KB.arg HA.out H9.out.f) (by omega) u (by rw [en]; exact hu) hub (by
        have h1 := HI7.out.k3.used H9.out.ok.kn
        have h2 := HI7.out.room
        omega)
      have HSV := hid hsv; have HU := hid hu; have HMX := hid hmx
      clear hsv hu hub hmx
      go_wp2_with fail
      refine HSV.out.mono ?_
      rintro e wa ⟨rfl, -, F5, p5, h5, hs5⟩
      have hn5 := newP_saved hs5 (by omega) (by rw [en]; exact HU.out) (by rw [en]; exact HMX.out)
      rw [en] at hn5
      have hl5 := load_any h5 HE.out hs5.calm.1
      rw [hn5] at hl5
      dsimp only at hl5
      have HL5 := hid hl5; have H5 := hid h5
      clear hl5 hn5 hs5 h5 hqm
      go_wp2_with fail
      refine HL5.out.mono ?_
      rintro e wb ⟨hfb, vy, rfl, hob⟩
      obtain ⟨ay, cy, hvy, -⟩ := own_len hob
      subst hvy
      have H8b := hid (H5.out.fr hfb)
      have HSA := hid (sameBytes_any _ _ _ _ _ _ wb hob.bs2 (HA.out.frame H8b.out.f fun _ _ => id))
      rw [decide_eq_true (rfl : a = a)] at HSA
      have hgt : n < n + 1 := by omega
      have z0 : errV pa 0 = .nilIface := rfl
      rw [z0]
      clear hfb hob z0
      go_wp2_with fail
      refine HSA.out.mono ?_
      rintro e wc ⟨rfl, hqc⟩
      have HFc := hid (H8b.out.f.trans' (fr_drewN2 hqc))
      clear hqc
      go_wp2_with fail
      refine (HKN.out wc).mono ?_
      rintro e wd ⟨rfl, rfl⟩
      go_wp2_with fail
      refine (names_same wc).mono ?_
      rintro e we ⟨rfl, hqe⟩
      have HFe := hid (HFc.out.trans' hqe)
      clear hqe
      go_wp2_with fail
      go_ret
      exact ⟨rfl, HFe.out⟩
  | false =>
    have hcr := create_p H2.out HE.out.s6 (nm := kW0) ⟨rfl, rfl⟩ (by decide +kernel) rfl ⟨Nat.zero_le _, Nat.zero_le _⟩
    have HCR0 := hid hcr
    clear hcr
    go_wp2_with fail
    refine HCR0.out.mono ?_
    rintro e w3 ⟨rfl, F, -, h3, -⟩
    have hap := append_q h3 HE.out.s6 (nm := kW0) ⟨rfl, rfl⟩ (lk_one _ _) _ a _ (HA.out.frame h3.f fun _ _ => id) (fun k hk => .inr hk) (by simp [PS.used, PS.create, PS.new, pt, dl, sumF]; omega) (by simp [PS.create, PS.new])
    have HAP0 := hid hap
    clear h3 hap
    go_wp2_with fail
    refine HAP0.out.mono ?_
    rintro e w4 ⟨rfl, h4, -⟩
    have hq : ∃ p0 : PS, PW W w4 X p0 ∧ KI false c p0 ∧ (p0.calls ≤ 10 ∧ p0.files ≤ 10) ∧ lk p0.names kW1 = none ∧ lk p0.names kNew = none := by
      refine ⟨_, h4, ⟨((K3.new 16384 224).create (.inl rfl) F).put F _ (by simp only [PS.create, upd_same, List.nil_append]; omega), rfl, by simp [PS.put, PS.create, PS.new], ?_, fun e => by cases e⟩, by simp [PS.put, PS.create, PS.new], ?_, ?_⟩
      · unfold gst
        have e : lk ((((PS.new 16384).create kW0 F).put F ⟨(((PS.new 16384).create kW0 F).fs F).id, (((PS.new 16384).create kW0 F).fs F).by_ ++ a, (((PS.new 16384).create kW0 F).fs F).sy⟩)).names kW0 = some F := lk_one _ _
        rw [e]
        exact fun e => by cases e
      · exact (lk_pt [] kW0 F kW1).trans (if_neg fun e => hne.out.2.2 e.symm)
      · exact (lk_pt [] kW0 F kNew).trans (if_neg hne.out.1)
    clear h4 HCR0 HAP0
    clear H2
    obtain ⟨p0, h4, hi, hc0, hl1, hl2⟩ := hq
    have H4 := hid h4; have HI := hid hi; have HC0 := hid hc0; have HL2 := hid hl2
    have hcr := create_p h4 HE.out.s6 (nm := kW1) hi.k3.calm (by decide +kernel) hl1 ⟨by omega, by omega⟩
    have HCR := hid hcr
    clear h4 hi hc0 hl1 hl2 hcr
    go_wp2_with fail
    refine HCR.out.mono ?_
    rintro e w5 ⟨rfl, F1, hF1, h5, -⟩
    have H5 := hid h5
    have HI5 := hid (HI.out.create (nm := kW1) H4.out.ok.kn (by have := HC0.out; omega) hF1 (.inl rfl))
    have HW0 := hid (show ∀ k, lk (p0.create kW1 F1).names kW0 = some k → k ≠ F1 from fun k hk => hF1 k (.inl ⟨kW0, (lk_mem H4.out.ok.kn).1 (by
      have e : lk (p0.create kW1 F1).names kW0 = if kW0 = kW1 then some F1 else lk p0.names kW0 := lk_pt _ _ _ _
      rw [e, if_neg hne.out.2.2] at hk
      exact hk)⟩))
    have hap := append_q h5 HE.out.s6 (nm := kW1) HI5.out.k3.calm (k := F1) ((lk_pt _ _ _ _).trans (if_pos rfl)) _ b _ (HB.out.frame h5.f fun _ _ => id) (fun k hk => .inr hk) (by
      have h1 := HI5.out.k3.used h5.ok.kn
      have h2 := HI5.out.room
      omega) (by have := HI5.out.cl; omega)
    have HAP := hid hap
    clear h5 hF1 hap
    go_wp2_with fail
    refine HAP.out.mono ?_
    rintro e w6 ⟨rfl, h6, -⟩
    have HI6 := hid (HI5.out.put (by show p0.calls + 1 ≤ 19; have := HC0.out; omega) (f := ⟨((p0.create kW1 F1).fs F1).id, ((p0.create kW1 F1).fs F1).by_ ++ b, ((p0.create kW1 F1).fs F1).sy⟩) (by simp only [PS.create, upd_same, List.nil_append]; omega) HW0.out)
    have hcr := create_p h6 HE.out.s6 (nm := kNew) HI6.out.k3.calm (by decide +kernel) (by
      have e : lk (p0.create kW1 F1).names kNew = if kNew = kW1 then some F1 else lk p0.names kNew := lk_pt _ _ _ _
      exact e.trans ((if_neg hne.out.2.1).trans HL2.out)) ⟨by have := HI6.out.cl; omega, by have := HI6.out.cl; omega⟩
    have HCR2 := hid hcr
    have H6 := hid h6
    clear h6 hcr
    go_wp2_with fail
    refine HCR2.out.mono ?_
    rintro e w7 ⟨rfl, F2, hF2, h7, -⟩
    have hi7 := HI6.out.create (nm := kNew) H6.out.ok.kn (by
      show (p0.calls + 1 + 1 ≤ 19 ∧ p0.files + 1 ≤ 19)
      have := HC0.out
      omega) hF2 (.inr rfl)
    have hq7 : ∃ p3 : PS, PW W w7 X p3 ∧ KI false c p3 := ⟨_, h7, hi7⟩
    clear h7 hi7 hF2 HI6 HI5 HW0 H6 H5 H4 HI HC0 HL2 HCR HCR2 HAP
    obtain ⟨p3, h7, hi7⟩ := hq7
    have H7 := hid h7; have HI7 := hid hi7
    have hl := load_any h7 HE.out hi7.k3.calm.1
    have hcode := newP_some (g1 := gst p3 kW1) hi7.g0
    clear h7 hi7
    obtain ⟨np, hnp⟩ : ∃ np, np = newP (gst p3 kW0) (gst p3 kW1) := ⟨_, rfl⟩
    rw [← hnp] at hl hcode
    obtain ⟨nn, x, n, cd⟩ := np
    have HNP := hid hnp
    dsimp only at hl hcode
    have hrg : -9223372036854775808 ≤ n ∧ n ≤ 9223372036854775807 := by
      have e : n = (newP (gst p3 kW0) (gst p3 kW1)).2.2.1 := by rw [← hnp]
      rw [e]
      exact newP_range
    clear hnp
    rcases hcode with rfl | rfl
    · have z0 : errV pa 0 = .nilIface := rfl
      rw [z0] at hl
      have HLD := hid hl; have HC0x := hid trivial
      clear hl z0
      go_wp2_with fail
      refine HLD.out.mono ?_
      rintro e w8 ⟨hf8, v8, rfl, ho8⟩
      obtain ⟨a8, c8, hv8, -⟩ := own_len ho8
      subst hv8
      have H9 := hid (H7.out.fr hf8)
      clear hf8 ho8
      clear HC0x
      by_cases hmx : n = 9223372036854775807
      · have hqm : (n == (9223372036854775807 : Int)) = true := beq_iff_eq.2 hmx
        clear hmx
        go_wp2_with fail
        go_ret
        exact ⟨rfl, H9.out.f⟩
      have hqm : (n == (9223372036854775807 : Int)) = false := by
        rw [beq_eq_false_iff_ne]
        exact hmx
      obtain ⟨u, hu, hub⟩ := wrap_nat (IntKind.i64.wrap (n + 1))
      have en : (newP (gst p3 kW0) (gst p3 kW1)).2.2.1 = n := by rw [← HNP.out]
      have hsv := save_any H9.out HE.out HI7.out.k3.calm ⟨by have := HI7.out.cl; omega, by have := HI7.out.cl; omega⟩ _ a (KB.arg HA.out H9.out.f) (by omega) u (by rw [en]; exact hu) hub (by
        have h1 := HI7.out.k3.used H9.out.ok.kn
        have h2 := HI7.out.room
        omega)
      have HSV := hid hsv; have HU := hid hu; have HMX := hid hmx
      clear hsv hu hub hmx
      go_wp2_with fail
      refine HSV.out.mono ?_
      rintro e wa ⟨rfl, -, F5, p5, h5, hs5⟩
      have hn5 := newP_saved hs5 (by omega) (by rw [en]; exact HU.out) (by rw [en]; exact HMX.out)
      rw [en] at hn5
      have hl5 := load_any h5 HE.out hs5.calm.1
      rw [hn5] at hl5
      dsimp only at hl5
      have HL5 := hid hl5; have H5 := hid h5
      clear hl5 hn5 hs5 h5 hqm
      go_wp2_with fail
      refine HL5.out.mono ?_
      rintro e wb ⟨hfb, vy, rfl, hob⟩
      obtain ⟨ay, cy, hvy, -⟩ := own_len hob
      subst hvy
      have H8b := hid (H5.out.fr hfb)
      have HSA := hid (sameBytes_any _ _ _ _ _ _ wb hob.bs2 (HA.out.frame H8b.out.f fun _ _ => id))
      rw [decide_eq_true (rfl : a = a)] at HSA
      have hgt : n < n + 1 := by omega
      have z0 : errV pa 0 = .nilIface := rfl
      rw [z0]
      clear hfb hob z0
      go_wp2_with fail
      refine HSA.out.mono ?_
      rintro e wc ⟨rfl, hqc⟩
      have HFc := hid (H8b.out.f.trans' (fr_drewN2 hqc))
      clear hqc
      go_wp2_with fail
      refine (HKN.out wc).mono ?_
      rintro e wd ⟨rfl, rfl⟩
      go_wp2_with fail
      refine (names_same wc).mono ?_
      rintro e we ⟨rfl, hqe⟩
      have HFe := hid (HFc.out.trans' hqe)
      clear hqe
      go_wp2_with fail
      go_ret
      exact ⟨rfl, HFe.out⟩
    · have z0 : errV pa 102 = .iface 168 (.pointer (some (pa 1))) := rfl
      rw [z0] at hl
      have HLD := hid hl; have HC0x := hid trivial
      clear hl
      go_wp2_with fail
      refine HLD.out.mono ?_
      rintro e w8 ⟨hf8, v8, rfl, ho8⟩
      obtain ⟨a8, c8, hv8, -⟩ := own_len ho8
      subst hv8
      have H8 := hid (H7.out.fr hf8)
      have his := is_num w8 pa (HE.out.frame H8.out.f) 102 (by unfold ErrNo; omega) 102
      rw [z0] at his
      have HIS := hid his
      clear hf8 ho8 his z0
      go_wp2_with fail
      refine HIS.out.mono ?_
      rintro e w9 ⟨rfl, hf9⟩
      have H9 := hid (H8.out.fr hf9)
      clear hf9
      clear HC0x
      by_cases hmx : n = 9223372036854775807
      · have hqm : (n == (9223372036854775807 : Int)) = true := beq_iff_eq.2 hmx
        clear hmx
        go_wp2_with fail
        go_ret
        exact ⟨rfl, H9.out.f⟩
      have hqm : (n == (9223372036854775807 : Int)) = false := by
        rw [beq_eq_false_iff_ne]
        exact hmx
      obtain ⟨u, hu, hub⟩ := wrap_nat (IntKind.i64.wrap (n + 1))
      have en : (newP (gst p3 kW0) (gst p3 kW1)).2.2.1 = n := by rw [← HNP.out]
      have hsv := save_any H9.out HE.out HI7.out.k3.calm ⟨by have := HI7.out.cl; omega, by have := HI7.out.cl; omega⟩ _ a (KB.arg HA.out H9.out.f) (by omega) u (by rw [en]; exact hu) hub (by
        have h1 := HI7.out.k3.used H9.out.ok.kn
        have h2 := HI7.out.room
        omega)
      have HSV := hid hsv; have HU := hid hu; have HMX := hid hmx
      clear hsv hu hub hmx
      go_wp2_with fail
      refine HSV.out.mono ?_
      rintro e wa ⟨rfl, -, F5, p5, h5, hs5⟩
      have hn5 := newP_saved hs5 (by omega) (by rw [en]; exact HU.out) (by rw [en]; exact HMX.out)
      rw [en] at hn5
      have hl5 := load_any h5 HE.out hs5.calm.1
      rw [hn5] at hl5
      dsimp only at hl5
      have HL5 := hid hl5; have H5 := hid h5
      clear hl5 hn5 hs5 h5 hqm
      go_wp2_with fail
      refine HL5.out.mono ?_
      rintro e wb ⟨hfb, vy, rfl, hob⟩
      obtain ⟨ay, cy, hvy, -⟩ := own_len hob
      subst hvy
      have H8b := hid (H5.out.fr hfb)
      have HSA := hid (sameBytes_any _ _ _ _ _ _ wb hob.bs2 (HA.out.frame H8b.out.f fun _ _ => id))
      rw [decide_eq_true (rfl : a = a)] at HSA
      have hgt : n < n + 1 := by omega
      have z0 : errV pa 0 = .nilIface := rfl
      rw [z0]
      clear hfb hob z0
      go_wp2_with fail
      refine HSA.out.mono ?_
      rintro e wc ⟨rfl, hqc⟩
      have HFc := hid (H8b.out.f.trans' (fr_drewN2 hqc))
      clear hqc
      go_wp2_with fail
      refine (HKN.out wc).mono ?_
      rintro e wd ⟨rfl, rfl⟩
      go_wp2_with fail
      refine (names_same wc).mono ?_
      rintro e we ⟨rfl, hqe⟩
      have HFe := hid (HFc.out.trans' hqe)
      clear hqe
      go_wp2_with fail
      go_ret
      exact ⟨rfl, HFe.out⟩
end Go.Proofs.YtpceckmjoicdlaaDoor
