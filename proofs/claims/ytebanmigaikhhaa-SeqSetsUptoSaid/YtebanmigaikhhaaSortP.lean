/- slices.SortStableFunc, in plain Lean: exchanges of ranges, rotations, the symmetric merge. No function of the program stands here. -/
import Derived.Test.YtebanmigaikhhaaLib
import Derived.Sort.LotA
namespace Go.Proofs.Ytebanmigaikhhaa
open Go.Sort
section
variable {α : Type} [Inhabited α] {lt : α → α → Bool}

/-- The places a.. and b.. exchanged, i of them. -/
def SwR (a b i : Nat) (d dk : Array α) : Prop := dk.size = d.size ∧ (∀ x, dk[x]! = if a ≤ x ∧ x < a + i then d[x - a + b]! else if b ≤ x ∧ x < b + i then d[x - b + a]! else d[x]!) ∧ PermIn 0 d.size d dk
theorem SwR.start (a b : Nat) (d : Array α) : SwR a b 0 d d := ⟨rfl, fun x => by rw [if_neg (by omega), if_neg (by omega)], permIn_refl _ _ _⟩
theorem SwR.step {a b i n : Nat} {d dk : Array α} (h : SwR a b i d dk) (hab : a + n ≤ b) (hb : b + n ≤ d.size) (hi : i < n) : SwR a b (i + 1) d (swp dk (a + i) (b + i)) := by
  obtain ⟨h1, h2, h3⟩ := h
  refine ⟨by rw [swp_size, h1], fun x => ?_, permIn_trans _ _ _ _ _ h3 ?_⟩
  · rw [swp_get dk (by omega) (by omega), h2, h2, h2]
    rw [if_neg (show ¬ (a ≤ a + i ∧ a + i < a + i) by omega), if_neg (show ¬ (b ≤ a + i ∧ a + i < b + i) by omega), if_neg (show ¬ (a ≤ b + i ∧ b + i < a + i) by omega), if_neg (show ¬ (b ≤ b + i ∧ b + i < b + i) by omega)]
    by_cases e1 : x = b + i
    · rw [if_pos e1, if_neg (by omega), if_pos (by omega)]
      congr 1
      omega
    · rw [if_neg e1]
      by_cases e2 : x = a + i
      · rw [if_pos e2, if_pos (by omega)]
        congr 1
        omega
      · rw [if_neg e2]
        by_cases c1 : a ≤ x ∧ x < a + i
        · rw [if_pos c1, if_pos (by omega)]
        · rw [if_neg c1, if_neg (show ¬ (a ≤ x ∧ x < a + (i + 1)) by omega)]
          by_cases c2 : b ≤ x ∧ x < b + i
          · rw [if_pos c2, if_pos (by omega)]
          · rw [if_neg c2, if_neg (show ¬ (b ≤ x ∧ x < b + (i + 1)) by omega)]
  · have := swp_permIn dk 0 dk.size (a + i) (b + i) (Nat.zero_le _) (by omega) (Nat.zero_le _) (by omega) (Nat.le_refl _)
    rwa [h1] at this

/-- [a, b) turned about, so that what began at m begins at a. -/
def rotF (d : Nat → α) (a m b x : Nat) : α := if a ≤ x ∧ x < a + (b - m) then d (x + (m - a)) else if a + (b - m) ≤ x ∧ x < b then d (x - (b - m)) else d x
theorem rot_gt {d dk : Array α} {m i j : Nat} (h : SwR (m - i) m j d dk) (hij : j < i) (him : i ≤ m) (x : Nat) : rotF (fun q => dk[q]!) (m - (i - j)) m (m + j) x = rotF (fun q => d[q]!) (m - i) m (m + j) x := by
  obtain ⟨-, h2, -⟩ := h
  unfold rotF
  simp only [h2]
  by_cases c1 : m - i ≤ x ∧ x < m - i + (m + j - m)
  · rw [if_pos c1, if_neg (by omega), if_neg (by omega), if_pos (by omega)]
    congr 1; omega
  · rw [if_neg c1]
    by_cases c2 : m - i + (m + j - m) ≤ x ∧ x < m + j
    · rw [if_pos c2]
      by_cases c3 : m - (i - j) ≤ x ∧ x < m - (i - j) + (m + j - m)
      · rw [if_pos c3, if_neg (by omega), if_pos (by omega)]
        congr 1; omega
      · rw [if_neg c3, if_pos (by omega), if_neg (by omega), if_neg (by omega)]
    · rw [if_neg c2, if_neg (by omega), if_neg (by omega), if_neg (by omega), if_neg (by omega)]
theorem rot_lt {d dk : Array α} {m i j : Nat} (h : SwR (m - i) (m + j - i) i d dk) (hij : i < j) (him : i ≤ m) (x : Nat) : rotF (fun q => dk[q]!) (m - i) m (m + (j - i)) x = rotF (fun q => d[q]!) (m - i) m (m + j) x := by
  obtain ⟨-, h2, -⟩ := h
  unfold rotF
  simp only [h2]
  by_cases c1 : m - i ≤ x ∧ x < m - i + (m + (j - i) - m)
  · rw [if_pos c1, if_pos (show m - i ≤ x ∧ x < m - i + (m + j - m) by omega), if_neg (by omega)]
    by_cases c2 : m + j - i ≤ x + (m - (m - i)) ∧ x + (m - (m - i)) < m + j - i + i
    · omega
    · rw [if_neg c2]
  · rw [if_neg c1]
    by_cases c2 : m - i ≤ x ∧ x < m - i + (m + j - m)
    · rw [if_pos c2]
      by_cases c3 : m - i + (m + (j - i) - m) ≤ x ∧ x < m + (j - i)
      · rw [if_pos c3, if_pos (by omega)]
        congr 1; omega
      · rw [if_neg c3]
        by_cases c4 : m - i ≤ x ∧ x < m - i + i
        · omega
        · omega
    · rw [if_neg c2]
      by_cases c3 : m - i + (m + (j - i) - m) ≤ x ∧ x < m + (j - i)
      · omega
      · rw [if_neg c3]
        by_cases c5 : m - i + (m + j - m) ≤ x ∧ x < m + j
        · rw [if_pos c5, if_neg (by omega), if_pos (by omega)]
          congr 1; omega
        · rw [if_neg c5, if_neg (by omega), if_neg (by omega)]
theorem rot_eq {d dk : Array α} {m i : Nat} (h : SwR (m - i) m i d dk) (him : i ≤ m) (x : Nat) : dk[x]! = rotF (fun q => d[q]!) (m - i) m (m + i) x := by
  obtain ⟨-, h2, -⟩ := h
  unfold rotF
  rw [h2]
  by_cases c1 : m - i ≤ x ∧ x < m - i + i
  · rw [if_pos c1, if_pos (by omega)]
    congr 1; omega
  · rw [if_neg c1]
    by_cases c2 : m ≤ x ∧ x < m + i
    · rw [if_pos c2, if_neg (show ¬ (m - i ≤ x ∧ x < m - i + (m + i - m)) by omega), if_pos (by omega)]
      congr 1; omega
    · rw [if_neg c2, if_neg (show ¬ (m - i ≤ x ∧ x < m - i + (m + i - m)) by omega), if_neg (by omega)]
/-- The rotation, done. -/
def Rot (a m b : Nat) (d e : Array α) : Prop := e.size = d.size ∧ (∀ x, e[x]! = rotF (fun q => d[q]!) a m b x) ∧ PermIn 0 d.size d e
theorem Rot.none {a m b : Nat} (d : Array α) (h1 : a ≤ m) (h2 : m ≤ b) (h : a = m ∨ m = b) : Rot a m b d d := ⟨rfl, fun x => by
  unfold rotF
  rcases h with rfl | rfl
  · by_cases c : a ≤ x ∧ x < a + (b - a)
    · rw [if_pos c]; simp
    · rw [if_neg c, if_neg (by omega)]
  · rw [if_neg (by omega)]
    by_cases c : a + (m - m) ≤ x ∧ x < m
    · rw [if_pos c]; simp
    · rw [if_neg c], permIn_refl _ _ _⟩

/-! ### The symmetric merge -/
theorem bs_true (hS : SWO lt) {d : Array α} {a m b p c c' : Nat} (h1 : SortedIn lt a m d) (h2 : SortedIn lt m b d) (hc : lt d[p - c]! d[c]! = false) (ha : a ≤ c') (hcc : c' ≤ c) (hcm : c < m) (hm : m + c ≤ p) (hb : p < b + c') : lt d[p - c']! d[c']! = false := by
  by_cases e : c' = c
  · rw [e]; exact hc
  · exact hS.ntrans _ _ _ (hS.ntrans _ _ _ (h2 (p - c) (p - c') (by omega) (by omega) (by omega)) hc) (h1 c' c ha (by omega) hcm)
theorem bs_false (hS : SWO lt) {d : Array α} {a m b p c c' : Nat} (h1 : SortedIn lt a m d) (h2 : SortedIn lt m b d) (hc : lt d[p - c]! d[c]! = true) (ha : a ≤ c) (hcc : c ≤ c') (hcm : c' < m) (hm : m + c' ≤ p) (hb : p < b + c) : lt d[p - c']! d[c']! = true := by
  by_cases e : c' = c
  · rw [e]; exact hc
  · cases h : lt d[p - c']! d[c']! with
    | true => rfl
    | false =>
      have := hS.ntrans _ _ _ (hS.ntrans _ _ _ (h2 (p - c') (p - c) (by omega) (by omega) (by omega)) h) (h1 c c' ha (by omega) hcm)
      rw [this] at hc
      cases hc
/-- Behind the rotation: four runs, and nothing of the right half is less than anything of the left. -/
theorem sym_mid (hS : SWO lt) {d e : Array α} {a m b s mid n lo hi : Nat} (ham : a < m) (hmb : m < b) (h1 : SortedIn lt a m d) (h2 : SortedIn lt m b d) (hmid : mid = (a + b) / 2) (hn : n = mid + m)
    (hlh : (mid < m ∧ lo = n - b ∧ hi = mid) ∨ (m ≤ mid ∧ lo = a ∧ hi = m)) (hls : lo ≤ s) (hsh : s ≤ hi) (hT : ∀ c, lo ≤ c → c < s → lt d[n - 1 - c]! d[c]! = false) (hF : ∀ c, s ≤ c → c < hi → lt d[n - 1 - c]! d[c]! = true)
    (he : ∀ x, e[x]! = rotF (fun q => d[q]!) s m (n - s) x) :
    (a ≤ s ∧ s ≤ mid ∧ s ≤ m ∧ mid ≤ n - s ∧ m ≤ n - s ∧ n - s ≤ b) ∧ SortedIn lt a s e ∧ SortedIn lt s mid e ∧ SortedIn lt mid (n - s) e ∧ SortedIn lt (n - s) b e ∧ ∀ i j, a ≤ i → i < mid → mid ≤ j → j < b → lt e[j]! e[i]! = false := by
  have hb : a ≤ s ∧ s ≤ mid ∧ s ≤ m ∧ mid ≤ n - s ∧ m ≤ n - s ∧ n - s ≤ b := by omega
  obtain ⟨b1, b2, b3, b4, b5, b6⟩ := hb
  have e1 : ∀ x, x < s → e[x]! = d[x]! := fun x hx => by rw [he]; unfold rotF; rw [if_neg (by omega), if_neg (by omega)]
  have e2 : ∀ x, s ≤ x → x < mid → e[x]! = d[x + (m - s)]! := fun x hx hy => by rw [he]; unfold rotF; rw [if_pos (by omega)]
  have e3 : ∀ x, mid ≤ x → x < n - s → e[x]! = d[x - (mid - s)]! := fun x hx hy => by
    rw [he]; unfold rotF; rw [if_neg (by omega), if_pos (by omega)]
    congr 1; omega
  have e4 : ∀ x, n - s ≤ x → e[x]! = d[x]! := fun x hx => by rw [he]; unfold rotF; rw [if_neg (by omega), if_neg (by omega)]
  refine ⟨⟨b1, b2, b3, b4, b5, b6⟩, fun i j p1 p2 p3 => ?_, fun i j p1 p2 p3 => ?_, fun i j p1 p2 p3 => ?_, fun i j p1 p2 p3 => ?_, fun i j p1 p2 p3 p4 => ?_⟩
  · rw [e1 i (by omega), e1 j p3]; exact h1 i j p1 p2 (by omega)
  · rw [e2 i p1 (by omega), e2 j (by omega) p3]; exact h2 _ _ (by omega) (by omega) (by omega)
  · rw [e3 i p1 (by omega), e3 j (by omega) p3]; exact h1 _ _ (by omega) (by omega) (by omega)
  · rw [e4 i p1, e4 j (by omega)]; exact h2 _ _ (by omega) p2 p3
  · by_cases ci : i < s
    · rw [e1 i ci]
      by_cases cj : j < n - s
      · rw [e3 j p3 cj]; exact h1 _ _ p1 (by omega) (by omega)
      · rw [e4 j (by omega)]
        have hlo : lo < s := by omega
        have ht := hT (s - 1) (by omega) (by omega)
        rw [show n - 1 - (s - 1) = n - s by omega] at ht
        have t1 : lt d[n - s]! d[i]! = false := by
          by_cases e : i = s - 1
          · rw [e]; exact ht
          · exact hS.ntrans _ _ _ ht (h1 i (s - 1) p1 (by omega) (by omega))
        by_cases e : j = n - s
        · rw [e]; exact t1
        · exact hS.ntrans _ _ _ (h2 (n - s) j (by omega) (by omega) p4) t1
    · rw [e2 i (by omega) p2]
      by_cases cj : j < n - s
      · rw [e3 j p3 cj]
        have hhi : s < hi := by omega
        have hf := hF s (Nat.le_refl _) hhi
        have hf0 := hS.asymmA hf
        have t1 : lt d[s]! d[i + (m - s)]! = false := by
          by_cases e : i + (m - s) = n - 1 - s
          · rw [e]; exact hf0
          · exact hS.ntrans _ _ _ hf0 (h2 (i + (m - s)) (n - 1 - s) (by omega) (by omega) (by omega))
        by_cases e : j - (mid - s) = s
        · rw [e]; exact t1
        · exact hS.ntrans _ _ _ (h1 s (j - (mid - s)) (by omega) (by omega) (by omega)) t1
      · rw [e4 j (by omega)]; exact h2 _ _ (by omega) (by omega) p4
/-- Both halves put in order. -/
theorem sym_join {d f g : Array α} {a mid b : Nat} (ham : a ≤ mid) (hmb : mid ≤ b) (hsz : b ≤ d.size) (hx : ∀ i j, a ≤ i → i < mid → mid ≤ j → j < b → lt d[j]! d[i]! = false)
    (p1 : PermIn a mid d f) (s1 : SortedIn lt a mid f) (p2 : PermIn mid b f g) (s2 : SortedIn lt mid b g) : SortedIn lt a b g ∧ PermIn a b d g := by
  have hf : f.size = d.size := p1.1
  have y1 : ∀ i j, a ≤ i → i < mid → mid ≤ j → j < b → lt g[j]! g[i]! = false := fun i j h1 h2 h3 h4 => by
    rw [p2.2.1 i (by omega)]
    refine permIn_all f g mid b (fun z => lt z f[i]! = false) (by omega) p2 (fun k hk1 hk2 => ?_) j h3 h4
    rw [p1.2.1 k (by omega)]
    exact permIn_all d f a mid (fun z => lt d[k]! z = false) (by omega) p1 (fun q hq1 hq2 => hx q k hq1 hq2 hk1 hk2) i h1 h2
  refine ⟨fun i j h1 h2 h3 => ?_, permIn_trans _ _ _ _ _ (permIn_mono d f a mid a b (Nat.le_refl _) hmb hsz p1) (permIn_mono f g mid b a b ham (Nat.le_refl _) (by omega) p2)⟩
  by_cases c : j < mid
  · rw [p2.2.1 i (by omega), p2.2.1 j (by omega)]; exact s1 i j h1 h2 c
  · by_cases c2 : i < mid
    · exact y1 i j h1 c2 (by omega) h3
    · exact s2 i j (by omega) h2 h3
/-! ### One element alone -/
/-- d[a] moved up to k. -/
def Up (a k : Nat) (d dk : Array α) : Prop := dk.size = d.size ∧ (∀ x, dk[x]! = if a ≤ x ∧ x < k then d[x + 1]! else if x = k then d[a]! else d[x]!) ∧ PermIn 0 d.size d dk
theorem Up.start (a : Nat) (d : Array α) : Up a a d d := ⟨rfl, fun x => by
  rw [if_neg (by omega)]
  by_cases e : x = a
  · rw [if_pos e, e]
  · rw [if_neg e], permIn_refl _ _ _⟩
theorem Up.step {a k : Nat} {d dk : Array α} (h : Up a k d dk) (hak : a ≤ k) (hk : k + 1 < d.size) : Up a (k + 1) d (swp dk k (k + 1)) := by
  obtain ⟨h1, h2, h3⟩ := h
  refine ⟨by rw [swp_size, h1], fun x => ?_, permIn_trans _ _ _ _ _ h3 ?_⟩
  · rw [swp_get dk (by omega) (by omega), h2, h2, h2]
    rw [if_neg (show ¬ (a ≤ k ∧ k < k) by omega), if_pos rfl, if_neg (show ¬ (a ≤ k + 1 ∧ k + 1 < k) by omega), if_neg (show ¬ (k + 1 = k) by omega)]
    by_cases e1 : x = k + 1
    · rw [if_pos e1, if_neg (by omega), if_pos e1]
    · rw [if_neg e1]
      by_cases e2 : x = k
      · rw [if_pos e2, if_pos (by omega)]
        congr 1; omega
      · rw [if_neg e2, if_neg e2, if_neg e1]
        by_cases c : a ≤ x ∧ x < k
        · rw [if_pos c, if_pos (by omega)]
        · rw [if_neg c, if_neg (by omega)]
  · have := swp_permIn dk 0 dk.size k (k + 1) (Nat.zero_le _) (by omega) (Nat.zero_le _) (by omega) (Nat.le_refl _)
    rwa [h1] at this
theorem Up.sorted (hS : SWO lt) {a k b : Nat} {d dk : Array α} (h : Up a k d dk) (h2 : SortedIn lt (a + 1) b d) (hak : a ≤ k) (hkb : k < b) (hL : ∀ x, a < x → x ≤ k → lt d[x]! d[a]! = true) (hG : ∀ x, k < x → x < b → lt d[x]! d[a]! = false) : SortedIn lt a b dk := by
  obtain ⟨-, hx, -⟩ := h
  intro i j p1 p2 p3
  rw [hx, hx]
  by_cases ci : a ≤ i ∧ i < k
  · rw [if_pos ci]
    by_cases cj : a ≤ j ∧ j < k
    · rw [if_pos cj]; exact h2 _ _ (by omega) (by omega) (by omega)
    · rw [if_neg cj]
      by_cases ej : j = k
      · rw [if_pos ej]; exact hS.asymmA (hL (i + 1) (by omega) (by omega))
      · rw [if_neg ej]; exact h2 _ _ (by omega) (by omega) p3
  · rw [if_neg ci, if_neg (by omega), if_neg (show ¬ j = k by omega)]
    by_cases ei : i = k
    · rw [if_pos ei]; exact hG j (by omega) p3
    · rw [if_neg ei]; exact h2 _ _ (by omega) p2 p3
/-- d[m] moved down to k. -/
def Dn (m k : Nat) (d dk : Array α) : Prop := dk.size = d.size ∧ (∀ x, dk[x]! = if k < x ∧ x ≤ m then d[x - 1]! else if x = k then d[m]! else d[x]!) ∧ PermIn 0 d.size d dk
theorem Dn.start (m : Nat) (d : Array α) : Dn m m d d := ⟨rfl, fun x => by
  rw [if_neg (by omega)]
  by_cases e : x = m
  · rw [if_pos e, e]
  · rw [if_neg e], permIn_refl _ _ _⟩
theorem Dn.step {m k : Nat} {d dk : Array α} (h : Dn m (k + 1) d dk) (hkm : k < m) (hm : m < d.size) : Dn m k d (swp dk (k + 1) k) := by
  obtain ⟨h1, h2, h3⟩ := h
  refine ⟨by rw [swp_size, h1], fun x => ?_, permIn_trans _ _ _ _ _ h3 ?_⟩
  · rw [swp_get dk (by omega) (by omega), h2, h2, h2]
    rw [if_neg (show ¬ (k + 1 < k + 1 ∧ k + 1 ≤ m) by omega), if_pos rfl, if_neg (show ¬ (k + 1 < k ∧ k ≤ m) by omega), if_neg (show ¬ (k = k + 1) by omega)]
    by_cases e1 : x = k
    · rw [if_pos e1, if_neg (by omega), if_pos e1]
    · rw [if_neg e1]
      by_cases e2 : x = k + 1
      · rw [if_pos e2, if_pos (by omega)]
        congr 1; omega
      · rw [if_neg e2, if_neg e2, if_neg e1]
        by_cases c : k + 1 < x ∧ x ≤ m
        · rw [if_pos c, if_pos (by omega)]
        · rw [if_neg c, if_neg (by omega)]
  · have := swp_permIn dk 0 dk.size (k + 1) k (Nat.zero_le _) (by omega) (Nat.zero_le _) (by omega) (Nat.le_refl _)
    rwa [h1] at this
theorem Dn.sorted (hS : SWO lt) {a m k : Nat} {d dk : Array α} (h : Dn m k d dk) (h1 : SortedIn lt a m d) (hak : a ≤ k) (hkm : k ≤ m) (hL : ∀ x, a ≤ x → x < k → lt d[m]! d[x]! = false) (hG : ∀ x, k ≤ x → x < m → lt d[m]! d[x]! = true) : SortedIn lt a (m + 1) dk := by
  obtain ⟨-, hx, -⟩ := h
  intro i j p1 p2 p3
  rw [hx, hx]
  by_cases cj : k < j ∧ j ≤ m
  · rw [if_pos cj]
    by_cases ci : k < i ∧ i ≤ m
    · rw [if_pos ci]; exact h1 _ _ (by omega) (by omega) (by omega)
    · rw [if_neg ci]
      by_cases ei : i = k
      · rw [if_pos ei]; exact hS.asymmA (hG (j - 1) (by omega) (by omega))
      · rw [if_neg ei]; exact h1 _ _ p1 (by omega) (by omega)
  · rw [if_neg cj, if_neg (show ¬ (k < i ∧ i ≤ m) by omega), if_neg (show ¬ i = k by omega)]
    by_cases ej : j = k
    · rw [if_pos ej]; exact hL i p1 (by omega)
    · rw [if_neg ej]; exact h1 i j p1 p2 (by omega)
end
end Go.Proofs.Ytebanmigaikhhaa
