/- KeepTurns: the plain part. -/
import Derived.Test.YtpceckmjoicdlaaDoorKeepBytes
namespace Go.Proofs.YtpceckmjoicdlaaDoor
open Go.RowKit
variable {w0 w w' : World} {pa : Nat → Addr} {nm : ByteArray} {X : Nat}

theorem gen_some {l b : List UInt8} {n : Int} (h : gen l = some (b, n)) : ∃ hd, Gd l hd b ∧ n = i8 hd := by
  by_cases hg : ∃ p : List UInt8 × List UInt8, Gd l p.1 p.2
  · obtain ⟨⟨h1, h2⟩, hg⟩ := hg
    rw [gen_of hg] at h
    injection h with h
    injection h with e1 e2
    dsimp only at e1 e2 hg
    subst e1
    exact ⟨h1, hg, e2.symm⟩
  · rw [gen_none fun x y hx => hg ⟨⟨x, y⟩, hx⟩] at h
    cases h
theorem gd_len {l hd b : List UInt8} (g : Gd l hd b) : l.length = b.length + 24 := by
  obtain ⟨h1, h2, rfl⟩ := g
  simp [recsB, recB_len]
  omega
/-- A torn one is none. -/
theorem gen_torn {l hd : List UInt8} {x : UInt8} (g : Gd l hd [x]) (j : Nat) (hj : j < 25) : gen (l.take j) = none := gen_none fun h2 b2 g2 => by
  have hl := gd_len g
  have hl2 := gd_len g2
  rw [List.length_take, hl] at hl2
  simp only [List.length_cons, List.length_nil] at hl2
  have hb : b2 = [] := List.eq_nil_of_length_eq_zero (by omega)
  subst hb
  have hj2 : j = 24 := by simp only [List.length_nil] at hl2; omega
  subst hj2
  obtain ⟨h1, -, e1⟩ := g
  obtain ⟨h1', -, e2⟩ := g2
  have e3 : l = recB hd ++ recB [x] := by rw [e1]; simp [recsB]
  have e4 : l.take 24 = recB h2 ++ recB [] := by rw [e2]; simp [recsB]
  have hr1 : (recB hd).length = 16 := by rw [recB_len, h1]
  have hr2 : (recB h2).length = 16 := by rw [recB_len, h1']
  have e5 : (l.take 24).drop 16 = recB [] := by rw [e4, ← hr2, List.drop_left]
  have e6 : (l.drop 16).take 8 = recB [] := by rw [← e5, List.drop_take]
  have e7 : l.drop 16 = recB [x] := by rw [e3, ← hr1, List.drop_left]
  rw [e7] at e6
  have e8 := congrArg (fun z => z.getD 0 0) e6
  simp [recB, sealB, le4] at e8
/-- The first name's generation behind so many savings, and the second's. -/
def turn0 (m : Nat) : Option (Option (List UInt8 × Int)) := if m = 0 then none else if m % 2 = 1 then some (some ([UInt8.ofNat (m - 1)], m)) else some (some ([UInt8.ofNat (m - 2)], (m : Int) - 1))
def turn1 (m : Nat) : Option (Option (List UInt8 × Int)) := if m ≤ 1 then none else if m % 2 = 0 then some (some ([UInt8.ofNat (m - 1)], m)) else some (some ([UInt8.ofNat (m - 2)], (m : Int) - 1))
def turnN (m : Nat) : ByteArray := if m = 0 then ⟨#[]⟩ else if m % 2 = 1 then kW0 else kW1
theorem newP_turn (m : Nat) (hm : m ≤ 11) : newP (turn0 m) (turn1 m) = (turnN m, if m = 0 then [] else [UInt8.ofNat (m - 1)], (m : Int), if m = 0 then 107 else 0) := by
  have hc : m = 0 ∨ m = 1 ∨ m = 2 ∨ m = 3 ∨ m = 4 ∨ m = 5 ∨ m = 6 ∨ m = 7 ∨ m = 8 ∨ m = 9 ∨ m = 10 ∨ m = 11 := by omega
  rcases hc with rfl | rfl | rfl | rfl | rfl | rfl | rfl | rfl | rfl | rfl | rfl | rfl
  all_goals rfl
/-- What stands behind so many savings. -/
structure TI (m : Nat) (p : PS) : Prop where
  k3 : K3 p 25
  room : p.room = 16384
  cl : p.calls ≤ 6 * m ∧ p.files ≤ m
  g0 : gst p kW0 = turn0 m
  g1 : gst p kW1 = turn1 m
  new : lk p.names kNew = none
  inj : ∀ k, lk p.names kW0 = some k → lk p.names kW1 ≠ some k
theorem TI.zero : TI 0 (PS.new 16384) := ⟨K3.new _ _, rfl, ⟨Nat.le_refl _, Nat.le_refl _⟩, rfl, rfl, rfl, fun k h => by cases h⟩
theorem TI.next {m : Nat} (hm : m ≤ 10) {p p' : PS} (h : TI m p) {F : Nat} (hs : Saved p p' (saveTo (turnN m)) F (recsB [le8 (m + 1), [UInt8.ofNat m]])) : TI (m + 1) p' := by
  have hne := kNew_ne
  have hn : saveTo (turnN m) = if m % 2 = 1 then kW1 else kW0 := by
    have hc : m = 0 ∨ m = 1 ∨ m = 2 ∨ m = 3 ∨ m = 4 ∨ m = 5 ∨ m = 6 ∨ m = 7 ∨ m = 8 ∨ m = 9 ∨ m = 10 := by omega
    rcases hc with rfl | rfl | rfl | rfl | rfl | rfl | rfl | rfl | rfl | rfl | rfl
    all_goals decide +kernel
  have g0 := gst_saved hs (by simp) (by omega) kW0 (fun e => hne.1 e.symm)
  have g1 := gst_saved hs (by simp) (by omega) kW1 (fun e => hne.2.1 e.symm)
  have hw : IntKind.i64.wrap ((m + 1 : Nat) : Int) = ((m + 1 : Nat) : Int) := by rw [IntKind.wrap_i64]; omega
  rw [hw] at g0 g1
  have hl0 := hs.lk kW0
  have hl1 := hs.lk kW1
  have n10 : ¬ kW1 = kW0 := fun e => hne.2.2 e.symm
  have k0n : ¬ kW0 = kNew := fun e => hne.1 e.symm
  have k1n : ¬ kW1 = kNew := fun e => hne.2.1 e.symm
  refine ⟨h.k3.saved hs (saveTo_or _) (by simp [recsB, recB_len, le8]), by rw [hs.room, h.room], ⟨by have := hs.calls; have := h.cl; omega, by have := hs.files; have := h.cl; omega⟩, ?_, ?_, ?_, ?_⟩
  · rw [g0, h.g0, hn]
    unfold turn0
    by_cases hp : m % 2 = 1
    · rw [if_pos hp, if_neg hne.2.2, if_neg (by omega), if_pos hp, if_neg (by omega), if_neg (by omega)]
      rw [show m + 1 - 2 = m - 1 by omega, show ((m + 1 : Nat) : Int) - 1 = (m : Int) by omega]
    · rw [if_neg hp, if_pos rfl, if_neg (by omega), if_pos (by omega)]
      rfl
  · rw [g1, h.g1, hn]
    unfold turn1
    by_cases hp : m % 2 = 1
    · rw [if_pos hp, if_pos rfl, if_neg (by omega), if_pos (by omega)]
      rfl
    · rw [if_neg hp, if_neg n10]
      by_cases h0 : m = 0
      · subst h0; rfl
      · rw [if_neg (by omega), if_pos (by omega), if_neg (by omega), if_neg (by omega)]
        rw [show m + 1 - 2 = m - 1 by omega, show ((m + 1 : Nat) : Int) - 1 = (m : Int) by omega]
  · rw [hs.lk]
    rw [if_neg (by rcases saveTo_or (turnN m) with e | e <;> rw [e]; exact hne.1; exact hne.2.1), if_pos rfl]
  · intro k hk0 hk1
    rw [hl0] at hk0
    rw [hl1] at hk1
    rcases saveTo_or (turnN m) with e | e
    · rw [e, if_pos rfl] at hk0
      rw [e, if_neg n10, if_neg k1n] at hk1
      injection hk0 with hk0
      exact hs.new kW1 k k1n hk1 hk0.symm
    · rw [e, if_neg hne.2.2, if_neg k0n] at hk0
      rw [e, if_pos rfl] at hk1
      injection hk1 with hk1
      exact hs.new kW0 k k0n hk0 hk1.symm
/-- The names. -/
theorem TI.list {m : Nat} (hm : 2 ≤ m) {p : PS} (hk : Ks p.names) (h : TI m p) : namesL p.names = [kW0, kW1] := by
  have hne := kNew_ne
  refine namesL_of ?_ (by decide +kernel)
  have hm0 : ∀ t, t ∈ p.names.map (·.1) ↔ t ∈ [kW0, kW1] := fun t => by
    constructor
    · intro ht
      obtain ⟨q, hq, rfl⟩ := List.mem_map.1 ht
      have hl : lk p.names q.1 = some q.2 := (lk_mem hk).2 hq
      rcases (h.k3.nm _ _ hl).1 with e | e | e
      · simp [e]
      · simp [e]
      · rw [e, h.new] at hl; cases hl
    · intro ht
      have key : ∀ n, gst p n ≠ none → n ∈ p.names.map (·.1) := fun n hn => by
        cases hl : lk p.names n with
        | none => exact absurd (by unfold gst; rw [hl]; rfl) hn
        | some k => exact List.mem_map.2 ⟨(n, k), (lk_mem hk).1 hl, rfl⟩
      simp only [List.mem_cons, List.not_mem_nil, or_false] at ht
      rcases ht with rfl | rfl
      · refine key _ ?_
        rw [h.g0]; unfold turn0
        rw [if_neg (by omega)]
        split <;> simp
      · refine key _ ?_
        rw [h.g1]; unfold turn1
        rw [if_neg (by omega)]
        split <;> simp
  have hnd : [kW0, kW1].Nodup := by
    rw [List.nodup_cons]
    exact ⟨by simp only [List.mem_cons, List.not_mem_nil, or_false]; exact hne.2.2, by simp⟩
  exact (List.perm_ext_iff_of_nodup hk hnd).2 hm0
/-- The last one, and what is cut of it. -/
theorem TI.last {m : Nat} (hm : 2 ≤ m) {p : PS} (h : TI m p) : ∃ k, lk p.names (turnN m) = some k ∧ (p.fs k).by_.length = 25 ∧
    ∀ j, j < 25 → ∀ n, newP (gst (p.put k ⟨n, (p.fs k).by_.take j, j⟩) kW0) (gst (p.put k ⟨n, (p.fs k).by_.take j, j⟩) kW1) = (turnN (m - 1), [UInt8.ofNat (m - 2)], (m : Int) - 1, 0) ∧ K3 (p.put k ⟨n, (p.fs k).by_.take j, j⟩) 25 := by
  have hne := kNew_ne
  have key : ∀ nm b n, gst p nm = some (some (b, n)) → ∃ k, lk p.names nm = some k ∧ gen (p.fs k).by_ = some (b, n) := fun nm b n hg => by
    unfold gst at hg
    cases hl : lk p.names nm with
    | none => rw [hl] at hg; cases hg
    | some k => rw [hl] at hg; injection hg with hg; exact ⟨k, rfl, hg⟩
  have gT : ∀ nm k, lk p.names nm = some k → ∀ f, gst (p.put k f) nm = some (gen f.by_) := fun nm k hl f => by
    unfold gst
    simp only [PS.put]
    rw [hl]
    simp only [Option.map_some, upd_same]
  have k3 : ∀ k j n, (p.fs k).by_.length = 25 → K3 (p.put k ⟨n, (p.fs k).by_.take j, j⟩) 25 := fun k j n hk => h.k3.put k _ (by rw [List.length_take]; omega)
  by_cases hp : m % 2 = 1
  · have hN : turnN m = kW0 := by unfold turnN; rw [if_neg (by omega), if_pos hp]
    have hN1 : turnN (m - 1) = kW1 := by unfold turnN; rw [if_neg (by omega), if_neg (by omega)]
    rw [hN, hN1]
    have hg0 := h.g0
    have hg1 := h.g1
    unfold turn0 at hg0
    unfold turn1 at hg1
    rw [if_neg (by omega), if_pos hp] at hg0
    rw [if_neg (by omega), if_neg (by omega)] at hg1
    obtain ⟨k, hk, hgen⟩ := key _ _ _ hg0
    obtain ⟨hd, hgd, -⟩ := gen_some hgen
    have hl := gd_len hgd
    simp only [List.length_cons, List.length_nil, Nat.zero_add] at hl
    refine ⟨k, hk, by omega, fun j hj n => ⟨?_, k3 k j n (by omega)⟩⟩
    rw [gT _ _ hk, gst_put fun q hq e => h.inj k hk (by rw [← e]; exact hq), hg1, gen_torn hgd j hj]
    rfl
  · have hN : turnN m = kW1 := by unfold turnN; rw [if_neg (by omega), if_neg hp]
    have hN1 : turnN (m - 1) = kW0 := by unfold turnN; rw [if_neg (by omega), if_pos (by omega)]
    rw [hN, hN1]
    have hg0 := h.g0
    have hg1 := h.g1
    unfold turn0 at hg0
    unfold turn1 at hg1
    rw [if_neg (by omega), if_neg hp] at hg0
    rw [if_neg (by omega), if_pos (by omega)] at hg1
    obtain ⟨k, hk, hgen⟩ := key _ _ _ hg1
    obtain ⟨hd, hgd, -⟩ := gen_some hgen
    have hl := gd_len hgd
    simp only [List.length_cons, List.length_nil, Nat.zero_add] at hl
    refine ⟨k, hk, by omega, fun j hj n => ⟨?_, k3 k j n (by omega)⟩⟩
    rw [gT _ _ hk, gst_put fun q hq e => h.inj q hq (by rw [e]; exact hk), hg0, gen_torn hgd j hj]
    rfl
end Go.Proofs.YtpceckmjoicdlaaDoor
