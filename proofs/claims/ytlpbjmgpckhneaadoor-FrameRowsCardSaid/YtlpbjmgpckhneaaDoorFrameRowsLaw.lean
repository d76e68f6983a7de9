/- Records one behind the other: what Read says at each. Plain. -/
import Derived.Test.YtlpbjmgpckhneaaDoorFrameE
import Derived.Test.YtlpbjmgpckhneaaDoorFrameBits
namespace Go.Proofs.YtlpbjmgpckhneaaDoor
open Go.RowKit

theorem n4_app (n : Nat) (h : n < 4294967296) (x : List UInt8) : n4 (le4 n ++ x) = n := by
  simp [n4, le4]
  omega
theorem read_rec (r rest : List UInt8) (h : r.length ≤ 4194304) : readB (recB r ++ rest) = (r, r.length + 8, 0) := by
  have e : recB r ++ rest = le4 r.length ++ (sealB r ++ rest) := by simp [recB]
  have hn : n4 (recB r ++ rest) = r.length := by rw [e, n4_app _ (by omega)]
  have hl : (recB r ++ rest).length = r.length + 8 + rest.length := by rw [List.length_append, recB_len]
  have hp : ((recB r ++ rest).take (r.length + 8)).drop 4 = sealB r := by
    rw [← recB_len r, List.take_left]
    unfold recB
    exact List.drop_left (l₁ := le4 r.length)
  unfold readB
  rw [hn, hl, if_neg (by omega), if_neg (by omega), if_neg (by omega), hp, seal_opens]
  rfl
theorem read_cut (r rest : List UInt8) (h : r.length ≤ 4194304) (m : Nat) (hm : m < r.length + 8) : (readB ((recB r ++ rest).take m)).2.2 = 101 := by
  have hl : ((recB r ++ rest).take m).length = m := by
    rw [List.length_take, List.length_append, recB_len]
    omega
  unfold readB
  rw [hl]
  by_cases h4 : m < 4
  · rw [if_pos h4]
  · rw [if_neg h4]
    have hn : n4 ((recB r ++ rest).take m) = r.length := by
      have e : recB r ++ rest = le4 r.length ++ (sealB r ++ rest) := by simp [recB]
      have e2 : (recB r ++ rest).take m = le4 r.length ++ (sealB r ++ rest).take (m - 4) := by
        rw [e, List.take_append, List.take_of_length_le (by simp; omega)]
        simp
      rw [e2, n4_app _ (by omega)]
    rw [hn, if_neg (by omega), if_pos (by omega)]
theorem read_bad (r x rest : List UInt8) (h : r.length ≤ 4194304) (hx : x.length = r.length + 4) (ho : (openB x).2 = 102) : (readB (le4 r.length ++ x ++ rest)).2.2 = 102 := by
  have hn : n4 (le4 r.length ++ x ++ rest) = r.length := by rw [List.append_assoc, n4_app _ (by omega)]
  have hl : (le4 r.length ++ x ++ rest).length = r.length + 8 + rest.length := by simp; omega
  have hp : ((le4 r.length ++ x ++ rest).take (r.length + 8)).drop 4 = x := by
    have : r.length + 8 = (le4 r.length ++ x).length := by simp; omega
    rw [this, List.take_left]
    exact List.drop_left (l₁ := le4 r.length)
  unfold readB
  rw [hn, hl, if_neg (by omega), if_neg (by omega), if_neg (by omega), hp, if_neg (by omega)]
  exact ho

theorem recsB_app (a b : List (List UInt8)) : recsB (a ++ b) = recsB a ++ recsB b := by simp [recsB]
theorem recsB_cons (r : List UInt8) (ls : List (List UInt8)) : recsB (r :: ls) = recB r ++ recsB ls := by simp [recsB]
theorem drop_getD {α : Type} (l : List α) (k : Nat) (d : α) (h : k < l.length) : l.drop k = l.getD k d :: l.drop (k + 1) := by
  rw [List.drop_eq_getElem_cons h]
  simp [List.getD, h]
/-- Where the k-th record ends. -/
def endB (ls : List (List UInt8)) (k : Nat) : Nat := (recsB (ls.take k)).length
theorem endB_zero (ls : List (List UInt8)) : endB ls 0 = 0 := by simp [endB, recsB]
theorem endB_succ (ls : List (List UInt8)) (k : Nat) (h : k < ls.length) : endB ls (k + 1) = endB ls k + (ls.getD k []).length + 8 := by
  unfold endB
  rw [recsB_take ls k h, List.length_append, recB_len]
  omega
theorem endB_mono (ls : List (List UInt8)) {i k : Nat} (h : i ≤ k) : endB ls i ≤ endB ls k := by
  unfold endB
  have : ls.take i = (ls.take k).take i := by rw [List.take_take, Nat.min_eq_left h]
  rw [this]
  exact recsB_le _ _
theorem endB_all (ls : List (List UInt8)) : endB ls ls.length = (recsB ls).length := by rw [endB, List.take_length]
theorem recsB_split (ls : List (List UInt8)) (k : Nat) : recsB ls = recsB (ls.take k) ++ recsB (ls.drop k) := by
  rw [← recsB_app, List.take_append_drop]

/-- What All does at the end of the records: nothing is left, or Read tells. -/
def AllEnd (t : List UInt8) (code : Nat) : Prop := (t = [] ∧ code = 0) ∨ (t ≠ [] ∧ (readB t).2.2 = code ∧ code ≠ 0)
/-- Cut at k, behind the w-th record. -/
theorem cut_end (ls : List (List UInt8)) (k w : Nat) (hls : ∀ r ∈ ls, r.length ≤ 4194304) (hk : k ≤ (recsB ls).length) (hw : w ≤ ls.length) (h1 : endB ls w ≤ k) (h2 : w < ls.length → k < endB ls (w + 1)) :
    ∃ t code, (recsB ls).take k = recsB (ls.take w) ++ t ∧ AllEnd t code ∧ (code = 0 ↔ endB ls w = k) ∧ (code = 0 ∨ code = 101) := by
  have hs := recsB_split ls w
  have e1 : (recsB ls).take k = recsB (ls.take w) ++ (recsB (ls.drop w)).take (k - endB ls w) := by
    rw [hs, List.take_append, List.take_of_length_le (by unfold endB at h1; exact h1)]
    rfl
  by_cases he : endB ls w = k
  · refine ⟨[], 0, ?_, .inl ⟨rfl, rfl⟩, by simp [he], .inl rfl⟩
    rw [e1, he]
    simp
  · have hwl : w < ls.length := by
      rcases Nat.lt_or_eq_of_le hw with h | h
      · exact h
      · subst h; rw [endB_all] at h1 he; omega
    have h3 := h2 hwl
    rw [endB_succ ls w hwl] at h3
    have hr : (ls.getD w []).length ≤ 4194304 := hls _ (by
      rw [List.getD_eq_getElem?_getD, List.getElem?_eq_getElem hwl]
      exact List.getElem_mem _)
    have e2 : recsB (ls.drop w) = recB (ls.getD w []) ++ recsB (ls.drop (w + 1)) := by rw [drop_getD ls w [] hwl, recsB_cons]
    refine ⟨_, 101, e1, .inr ⟨?_, ?_, by decide⟩, by simp [he], .inr rfl⟩
    · intro e
      have := congrArg List.length e
      rw [e2] at this
      simp [recB_len] at this
      omega
    · rw [e2]
      exact read_cut _ _ hr _ (by omega)
/-- One byte behind a length turned. -/
theorem turn_end (ls : List (List UInt8)) (i j : Nat) (b : UInt8) (hls : ∀ r ∈ ls, r.length ≤ 4194304) (hb : b ≠ 0) (hj : j < ls.length) (h1 : endB ls j + 4 ≤ i) (h2 : i < endB ls (j + 1)) :
    ∃ t, (recsB ls).set i ((recsB ls).getD i 0 ^^^ b) = recsB (ls.take j) ++ t ∧ AllEnd t 102 := by
  have hs := recsB_split ls j
  have e2 : recsB (ls.drop j) = recB (ls.getD j []) ++ recsB (ls.drop (j + 1)) := by rw [drop_getD ls j [] hj, recsB_cons]
  rw [endB_succ ls j hj] at h2
  have hr : (ls.getD j []).length ≤ 4194304 := hls _ (by
    rw [List.getD_eq_getElem?_getD, List.getElem?_eq_getElem hj]
    exact List.getElem_mem _)
  generalize ls.getD j [] = r at *
  generalize hrest : recsB (ls.drop (j + 1)) = rest at *
  have hE : (recsB (ls.take j)).length = endB ls j := rfl
  obtain ⟨q, rfl⟩ : ∃ q, i = endB ls j + (4 + q) := ⟨i - endB ls j - 4, by omega⟩
  have hq : q < (sealB r).length := by simp [sealB]; omega
  have hg : (recsB ls).getD (endB ls j + (4 + q)) 0 = (sealB r).getD q 0 := by
    rw [hs, e2]
    simp only [List.getD]
    rw [List.getElem?_append_right (by omega), hE, Nat.add_sub_cancel_left]
    unfold recB
    rw [List.append_assoc, List.getElem?_append_right (by simp), show 4 + q - (le4 r.length).length = q by simp, List.getElem?_append_left hq]
  have hset : (recsB ls).set (endB ls j + (4 + q)) ((recsB ls).getD (endB ls j + (4 + q)) 0 ^^^ b) = recsB (ls.take j) ++ (le4 r.length ++ (sealB r).set q ((sealB r).getD q 0 ^^^ b) ++ rest) := by
    rw [hg, hs, e2, List.set_append_right _ _ (by omega), hE, Nat.add_sub_cancel_left]
    unfold recB
    rw [List.append_assoc, List.set_append_right _ _ (by simp), show 4 + q - (le4 r.length).length = q by simp, List.set_append_left _ _ hq]
    simp
  refine ⟨_, hset, .inr ⟨by simp [le4], ?_, by decide⟩⟩
  have hxl : ((sealB r).set q ((sealB r).getD q 0 ^^^ b)).length = (sealB r).length := by simp
  refine read_bad r _ rest hr (by rw [hxl]; simp [sealB]) (open_not (by rw [hxl]; simp [sealB]) fun h0 => ?_)
  have hbits : ∀ m, bitAt ((sealB r).set q ((sealB r).getD q 0 ^^^ b)) m = (bitAt (sealB r) m ^^ (decide (m / 8 = q) && b.toNat.testBit (m % 8))) := by
    intro m
    unfold bitAt
    by_cases hm : m / 8 = q
    · subst hm
      simp [List.getD, hq, UInt8.toNat_xor, Nat.testBit_xor]
    · have : ((sealB r).set q ((sealB r).getD q 0 ^^^ b)).getD (m / 8) 0 = (sealB r).getD (m / 8) 0 := by
        simp only [List.getD]
        rw [List.getElem?_set_ne (by omega)]
      rw [this]
      simp [hm]
  rw [turned_iff r _ _ hxl (fun m _ => hbits m)] at h0
  have hz := S_burst (8 * q) _ (fun m hm => by simp [show ¬ m / 8 = q by omega]) (fun m hm => by
    rcases hm with hm | hm
    · simp [show ¬ m / 8 = q by omega]
    · rw [hxl] at hm
      simp [show ¬ m / 8 = q by omega]) h0
  apply hb
  apply UInt8.toNat.inj
  apply Nat.eq_of_testBit_eq
  intro m
  by_cases hm : m < 8
  · have := hz (8 * q + m)
    rw [show (8 * q + m) / 8 = q by omega, show (8 * q + m) % 8 = m by omega] at this
    simpa using this
  · have : b.toNat.testBit m = false := Nat.testBit_lt_two_pow (Nat.lt_of_lt_of_le b.toNat_lt (Nat.pow_le_pow_right (by decide) (by omega)))
    rw [this]
    simp
end Go.Proofs.YtlpbjmgpckhneaaDoor
