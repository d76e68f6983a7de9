/- Package keep: what a generation's bytes say; plain. -/
import Derived.Test.YtpceckmjoicdlaaDoorKeepA
namespace Go.Proofs.YtpceckmjoicdlaaDoor
open Go.RowKit

theorem le4_n4 (l : List UInt8) (h : l.length = 4) : le4 (n4 l) = l := by
  match l, h with
  | [a, b, c, d], _ =>
    have ha := a.toNat_lt
    have hb := b.toNat_lt
    have hc := c.toNat_lt
    have hd := d.toNat_lt
    have key : ∀ (x : UInt8) (m : Nat), m % 256 = x.toNat → UInt8.ofNat m = x := fun x m h => by
      apply UInt8.toNat_inj.1
      rw [UInt8.toNat_ofNat']
      exact h
    simp only [le4, n4, List.getD_cons_zero, List.getD_cons_succ]
    rw [key a _ (by omega), key b _ (by omega), key c _ (by omega), key d _ (by omega)]
theorem n4_take (l : List UInt8) (h : 4 ≤ l.length) : n4 (l.take 4) = n4 l := by
  unfold n4
  simp only [List.getD, List.getElem?_take]
  simp
/-- What is read is a record that stands there. -/
theorem frec_good (l : List UInt8) (h : (frecB l).2.2 = 0) : ∃ r, r.length ≤ 4194304 ∧ frecB l = (r, r.length + 8, 0) ∧ ∃ rest, l = recB r ++ rest := by
  unfold frecB at h ⊢
  by_cases h1 : l.length < 4
  · rw [if_pos h1] at h; simp at h
  rw [if_neg h1] at h ⊢
  by_cases h2 : 4194304 < n4 l
  · rw [if_pos h2] at h; simp at h
  rw [if_neg h2] at h ⊢
  by_cases h3 : l.length < n4 l + 8
  · rw [if_pos h3] at h; simp at h
  rw [if_neg h3] at h ⊢
  obtain ⟨x, hx⟩ : ∃ x, (l.take (n4 l + 8)).drop 4 = x := ⟨_, rfl⟩
  have hxl : x.length = n4 l + 4 := by rw [← hx, List.length_drop, List.length_take]; omega
  rw [hx] at h ⊢
  by_cases h4 : (openB x).2 = 0
  · rw [if_pos h4]
    unfold openB at h4 ⊢
    rw [if_neg (by omega), show x.length - 4 = n4 l by omega] at h4 ⊢
    by_cases h5 : n4 (x.drop (n4 l)) = (sumB (x.take (n4 l))).toNat
    · rw [if_pos h5]
      have hrl : (x.take (n4 l)).length = n4 l := by rw [List.length_take]; omega
      refine ⟨x.take (n4 l), by omega, by rw [hrl], l.drop (n4 l + 8), ?_⟩
      have e1 : le4 (n4 l) = l.take 4 := by
        have := le4_n4 (l.take 4) (by rw [List.length_take]; omega)
        rw [n4_take l (by omega)] at this
        exact this
      have e2 : le4 (n4 (x.drop (n4 l))) = x.drop (n4 l) := le4_n4 _ (by rw [List.length_drop]; omega)
      unfold recB sealB
      rw [hrl, e1, ← h5, e2, List.take_append_drop, ← hx]
      have e3 : l.take 4 = (l.take (n4 l + 8)).take 4 := by rw [List.take_take, Nat.min_eq_left (by omega)]
      rw [e3, List.take_append_drop, List.take_append_drop]
    · rw [if_neg h5] at h4; simp at h4
  · rw [if_neg h4] at h
    exact absurd h h4
theorem recB_ne (r : List UInt8) : recB r ≠ [] := fun e => by
  have := congrArg List.length e
  rw [recB_len] at this
  simp at this
/-- All bytes are records, and an end. -/
theorem decomp : ∀ (n : Nat) (l : List UInt8), l.length ≤ n → ∃ ls t code, l = recsB ls ++ t ∧ AllEnd t code ∧ ∀ r ∈ ls, r.length ≤ 4194304
  | 0, l, h => by
    have : l = [] := List.eq_nil_of_length_eq_zero (by omega)
    subst this
    exact ⟨[], [], 0, rfl, .inl ⟨rfl, rfl⟩, fun r hr => by simp at hr⟩
  | n + 1, l, h => by
    by_cases h0 : l = []
    · subst h0
      exact ⟨[], [], 0, rfl, .inl ⟨rfl, rfl⟩, fun r hr => by simp at hr⟩
    by_cases h1 : (frecB l).2.2 = 0
    · obtain ⟨r, hr, -, rest, rfl⟩ := frec_good l h1
      have hrl : rest.length ≤ n := by
        rw [List.length_append, recB_len] at h
        omega
      obtain ⟨ls, t, code, e, ha, hb⟩ := decomp n rest hrl
      refine ⟨r :: ls, t, code, by rw [recsB_cons, List.append_assoc, ← e], ha, fun x hx => ?_⟩
      rcases List.mem_cons.1 hx with rfl | hx
      · exact hr
      · exact hb x hx
    · exact ⟨[], l, _, rfl, .inr ⟨h0, rfl, h1⟩, fun r hr => by simp at hr⟩
/-- .. in just one way. -/
theorem decomp_one : ∀ (ls ls' : List (List UInt8)) (t t' : List UInt8) (c c' : Nat), AllEnd t c → AllEnd t' c' → (∀ r ∈ ls, r.length ≤ 4194304) → (∀ r ∈ ls', r.length ≤ 4194304) → recsB ls ++ t = recsB ls' ++ t' → ls = ls' ∧ t = t'
  | [], [], t, t', c, c', _, _, _, _, h => ⟨rfl, by simpa [recsB] using h⟩
  | [], r :: ls', t, t', c, c', ha, _, _, hb', h => by
    exfalso
    rw [recsB_cons] at h
    simp only [recsB, List.map_nil, List.flatten_nil, List.nil_append] at h
    rw [List.append_assoc] at h
    have hr := read_rec r ((ls'.map recB).flatten ++ t') (hb' r (by simp))
    rcases ha with ⟨e, -⟩ | ⟨-, e1, e2⟩
    · rw [e] at h
      exact recB_ne r (List.append_eq_nil_iff.1 h.symm).1
    · rw [h] at e1
      rw [hr] at e1
      exact e2 e1.symm
  | r :: ls, [], t, t', c, c', _, ha', hb, _, h => by
    exfalso
    rw [recsB_cons] at h
    simp only [recsB, List.map_nil, List.flatten_nil, List.nil_append] at h
    rw [List.append_assoc] at h
    have hr := read_rec r ((ls.map recB).flatten ++ t) (hb r (by simp))
    rcases ha' with ⟨e, -⟩ | ⟨-, e1, e2⟩
    · rw [e] at h
      exact recB_ne r (List.append_eq_nil_iff.1 h).1
    · rw [← h] at e1
      rw [hr] at e1
      exact e2 e1.symm
  | r :: ls, r' :: ls', t, t', c, c', ha, ha', hb, hb', h => by
    rw [recsB_cons, recsB_cons, List.append_assoc, List.append_assoc] at h
    have h1 := read_rec r (recsB ls ++ t) (hb r (by simp))
    have h2 := read_rec r' (recsB ls' ++ t') (hb' r' (by simp))
    rw [h, h2] at h1
    simp only [Prod.mk.injEq, and_true] at h1
    obtain ⟨rfl, -⟩ := h1
    have h3 := List.append_cancel_left h
    obtain ⟨e1, e2⟩ := decomp_one ls ls' t t' c c' ha ha' (fun x hx => hb x (by simp [hx])) (fun x hx => hb' x (by simp [hx])) h3
    exact ⟨by rw [e1], e2⟩
/-- A generation: eight bytes and what is kept. -/
def Gd (l h b : List UInt8) : Prop := h.length = 8 ∧ b.length ≤ 4194304 ∧ l = recsB [h, b]
theorem Gd.one {l h b h' b' : List UInt8} (g : Gd l h b) (g' : Gd l h' b') : h = h' ∧ b = b' := by
  obtain ⟨h1, h2, rfl⟩ := g
  obtain ⟨h1', h2', e⟩ := g'
  have := (decomp_one [h, b] [h', b'] [] [] 0 0 (.inl ⟨rfl, rfl⟩) (.inl ⟨rfl, rfl⟩) (fun x hx => by simp at hx; rcases hx with rfl | rfl <;> omega) (fun x hx => by simp at hx; rcases hx with rfl | rfl <;> omega) (by simpa using e)).1
  simp only [List.cons.injEq, and_true] at this
  exact this
def n8 : List UInt8 → Nat
  | [] => 0
  | c :: r => c.toNat + 256 * n8 r
theorem n8_lt : ∀ l : List UInt8, n8 l < 256 ^ l.length
  | [] => by simp [n8]
  | c :: r => by
    have h1 := n8_lt r
    have h2 := c.toNat_lt
    rw [n8, List.length_cons, Nat.pow_succ]
    omega
theorem n8_le8 (u : Nat) (h : u < 18446744073709551616) : n8 (le8 u) = u := by
  simp only [n8, le8, UInt8.toNat_ofNat']
  omega
theorem n8_snoc : ∀ (l : List UInt8) (c : UInt8), n8 (l ++ [c]) = n8 l + c.toNat * 256 ^ l.length
  | [], c => by simp [n8]
  | d :: r, c => by
    have := n8_snoc r c
    rw [List.cons_append, n8, this, n8, List.length_cons, Nat.pow_succ, Nat.mul_add, ← Nat.mul_assoc, Nat.mul_comm 256 c.toNat, Nat.mul_assoc c.toNat 256, Nat.mul_comm 256 (256 ^ r.length), Nat.add_assoc]
def i8 (h : List UInt8) : Int := IntKind.i64.wrap (n8 h)
open Classical in
/-- What a file says. -/
noncomputable def gen (l : List UInt8) : Option (List UInt8 × Int) := if h : ∃ p : List UInt8 × List UInt8, Gd l p.1 p.2 then some (h.choose.2, i8 h.choose.1) else none
theorem gen_of {l h b : List UInt8} (g : Gd l h b) : gen l = some (b, i8 h) := by
  have hex : ∃ p : List UInt8 × List UInt8, Gd l p.1 p.2 := ⟨(h, b), g⟩
  unfold gen
  rw [dif_pos hex]
  obtain ⟨e1, e2⟩ := g.one hex.choose_spec
  rw [← e1, ← e2]
theorem gen_none {l : List UInt8} (g : ∀ h b, ¬ Gd l h b) : gen l = none := by
  unfold gen
  rw [dif_neg]
  rintro ⟨p, hp⟩
  exact g _ _ hp
end Go.Proofs.YtpceckmjoicdlaaDoor
