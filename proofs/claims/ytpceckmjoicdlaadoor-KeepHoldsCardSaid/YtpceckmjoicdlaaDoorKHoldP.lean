/- KeepHolds: the plain part. -/
import Derived.Test.YtpceckmjoicdlaaDoorKeepBytes
import Derived.Test.YtpceckmjoicdlaaDoorDiskV
namespace Go.Proofs.YtpceckmjoicdlaaDoor
open Go.RowKit
variable {w0 w w' : World} {pa : Nat → Addr} {nm : ByteArray} {X : Nat}

/-- A disk whose files are synced. -/
structure RI (p : PS) : Prop where
  calm : p.calm
  ch : p.ch = []
  kept : p.kept = p.names
  nm : ∀ t k, lk p.names t = some k → t = kW0 ∨ t = kW1 ∨ t = kNew
  len : ∀ k, (p.fs k).by_.length ≤ 224 ∧ (p.fs k).sy ≤ (p.fs k).by_.length
  full : ∀ t k, lk p.names t = some k → (p.fs k).sy = (p.fs k).by_.length
  room : p.room = 65536
theorem PS.beg_same (q : PS) : q.beg.ch = q.ch ∧ q.beg.kept = q.kept ∧ q.beg.names = q.names ∧ q.beg.room = q.room ∧ q.beg.fs = q.fs ∧ q.beg.calls = q.calls ∧ q.beg.files = q.files := by
  unfold PS.beg
  split
  · exact ⟨rfl, rfl, rfl, rfl, rfl, rfl, rfl⟩
  · split <;> exact ⟨rfl, rfl, rfl, rfl, rfl, rfl, rfl⟩
theorem kp_of {q q' : PS} (e1 : q'.ch = q.ch) (e2 : q'.kept = q.kept) (i : Nat) : q'.kp i = q.kp i := by unfold PS.kp; rw [e1, e2]
theorem kp_snoc {q q' : PS} {c : Chg} (e1 : q'.ch = q.ch ++ [c]) (e2 : q'.kept = q.kept) : (∀ i, i ≤ q.ch.length → q'.kp i = q.kp i) ∧ q'.kp (q.ch.length + 1) = applyM (q.kp q.ch.length) c := by
  unfold PS.kp
  rw [e1, e2]
  refine ⟨fun i hi => by rw [List.take_append_of_le_length hi], ?_⟩
  rw [List.take_of_length_le (by simp), List.foldl_append, List.take_length]
  rfl
/-- On the way: whatever of its changes is there, the two names have what they had. -/
structure MS0 (p q : PS) (j : Nat) : Prop where
  kept : q.kept = p.names
  room : q.room = 65536
  nmk : q.names = q.kp q.ch.length
  safe : ∀ i, i ≤ q.ch.length → ∀ t, t ≠ kNew → lk (q.kp i) t = lk p.names t
  fs : ∀ t k, t ≠ kNew → lk p.names t = some k → q.fs k = p.fs k
  len : ∀ k, (q.fs k).by_.length ≤ 224 ∧ (q.fs k).sy ≤ (q.fs k).by_.length
  cl : q.calls ≤ p.calls + j ∧ q.files ≤ p.files + j
theorem MS0.start {p : PS} (h : RI p) (n : Int) : MS0 p (p.arm n) 0 := by
  have e : ∀ i, (p.arm n).kp i = p.names := fun i => by
    unfold PS.kp PS.arm
    dsimp only
    rw [h.ch, List.take_nil, h.kept]
    rfl
  exact ⟨h.kept, h.room, (e _).symm, fun i _ t _ => by rw [e], fun _ _ _ _ => rfl, h.len, ⟨Nat.le_refl _, Nat.le_refl _⟩⟩
theorem MS0.beg {p q : PS} {j : Nat} (h : MS0 p q j) : MS0 p q.beg j := by
  obtain ⟨e1, e2, e3, e4, e5, e6, e7⟩ := q.beg_same
  refine ⟨by rw [e2]; exact h.kept, by rw [e4]; exact h.room, by rw [e3, kp_of e1 e2, e1]; exact h.nmk, fun i hi t ht => ?_, fun t k ht hk => by rw [e5]; exact h.fs t k ht hk, fun k => by rw [e5]; exact h.len k, by rw [e6, e7]; exact h.cl⟩
  rw [e1] at hi
  rw [kp_of e1 e2]
  exact h.safe i hi t ht
theorem MS0.step {p q q' : PS} {j : Nat} (h : MS0 p q j) (c : Chg) (hc : ∀ N t, t ≠ kNew → lk (applyM N c) t = lk N t) (e1 : q'.ch = q.ch ++ [c]) (e2 : q'.kept = q.kept) (e3 : q'.names = applyM q.names c) (e4 : q'.room = q.room)
    (hfs : ∀ t k, t ≠ kNew → lk p.names t = some k → q'.fs k = q.fs k) (hl : ∀ k, (q'.fs k).by_.length ≤ 224 ∧ (q'.fs k).sy ≤ (q'.fs k).by_.length) (hcl : q'.calls ≤ q.calls + 1 ∧ q'.files ≤ q.files + 1) : MS0 p q' (j + 1) := by
  obtain ⟨k1, k2⟩ := kp_snoc e1 e2
  have hlen : q'.ch.length = q.ch.length + 1 := by rw [e1]; simp
  refine ⟨by rw [e2]; exact h.kept, by rw [e4]; exact h.room, by rw [hlen, k2, e3, ← h.nmk], fun i hi t ht => ?_, fun t k ht hk => by rw [hfs t k ht hk]; exact h.fs t k ht hk, hl, by have := h.cl; omega⟩
  rw [hlen] at hi
  by_cases e : i ≤ q.ch.length
  · rw [k1 i e]; exact h.safe i e t ht
  · rw [show i = q.ch.length + 1 by omega, k2, hc _ t ht]
    exact h.safe _ (Nat.le_refl _) t ht
theorem kNew_em : kNew ≠ ⟨#[]⟩ := by decide +kernel
theorem MS0.rm {p q : PS} {j : Nat} (h : MS0 p q j) : MS0 p (q.change ⟨⟨#[]⟩, kNew, none⟩) (j + 1) :=
  h.step ⟨⟨#[]⟩, kNew, none⟩ (fun N t ht => by
    unfold applyM
    dsimp only
    rw [if_neg kNew_em, lk_dl, if_neg ht]) rfl rfl rfl rfl (fun _ _ _ _ => rfl) h.len ⟨Nat.le_refl _, Nat.le_succ _⟩
theorem MS0.old {p q : PS} {j : Nat} (h : MS0 p q j) (hk : Ks q.names) {F : Nat} (hF : ∀ k, PFl q k → k ≠ F) : ∀ t k, t ≠ kNew → lk p.names t = some k → k ≠ F := fun t k ht hl => by
  refine hF k (.inl ⟨t, (lk_mem hk).1 ?_⟩)
  rw [h.nmk, h.safe _ (Nat.le_refl _) t ht]
  exact hl
theorem MS0.create {p q : PS} {j : Nat} (h : MS0 p q j) {F : Nat} (hF : ∀ t k, t ≠ kNew → lk p.names t = some k → k ≠ F) : MS0 p (q.create kNew F) (j + 1) :=
  h.step ⟨kNew, ⟨#[]⟩, some F⟩ (fun N t ht => by
    unfold applyM
    dsimp only
    rw [if_pos rfl, lk_pt, if_neg ht]) rfl rfl rfl rfl (fun t k ht hk => upd_ne _ _ (hF t k ht hk)) (fun k => by
    simp only [PS.create]
    by_cases e : k = F
    · rw [e, upd_same]; exact ⟨Nat.zero_le _, Nat.le_refl _⟩
    · rw [upd_ne _ _ e]; exact h.len k) ⟨Nat.le_refl _, Nat.le_refl _⟩
theorem MS0.put {p q : PS} {j : Nat} (h : MS0 p q j) {F : Nat} (hF : ∀ t k, t ≠ kNew → lk p.names t = some k → k ≠ F) (f : FS) (hf : f.by_.length ≤ 224 ∧ f.sy ≤ f.by_.length) : MS0 p (q.put F f) (j + 1) := by
  refine ⟨h.kept, h.room, h.nmk, h.safe, fun t k ht hk => ?_, fun k => ?_, by show q.calls + 1 ≤ _ ∧ q.files ≤ _; have := h.cl; omega⟩
  · simp only [PS.put]
    rw [upd_ne _ _ (hF t k ht hk)]
    exact h.fs t k ht hk
  · simp only [PS.put]
    by_cases e : k = F
    · rw [e, upd_same]; exact hf
    · rw [upd_ne _ _ e]; exact h.len k
theorem MS0.used {p q : PS} {j : Nat} (h : MS0 p q j) (hp : RI p) (hk : Ks q.names) : q.used ≤ 672 := by
  refine sumF_three _ 224 hk fun z hz => ⟨?_, (h.len z.2).1⟩
  have hl := (lk_mem hk).2 hz
  by_cases e : z.1 = kNew
  · exact .inr (.inr e)
  · rw [h.nmk, h.safe _ (Nat.le_refl _) _ e] at hl
    exact hp.nm _ _ hl
/-- Names of which one is the new one's. -/
def Put (p q : PS) (nt : ByteArray) (bytes : List UInt8) (N : Nm) : Prop := (∃ F n, lk N nt = some F ∧ q.fs F = ⟨n, bytes, bytes.length⟩) ∧ lk N kNew = none ∧ ∀ t, t ≠ nt → t ≠ kNew → lk N t = lk p.names t
structure MS (p q : PS) (nt : ByteArray) (bytes : List UInt8) (j : Nat) : Prop where
  room : q.room = 65536
  safe : ∀ i, i ≤ q.ch.length → (∀ t, t ≠ kNew → lk (q.kp i) t = lk p.names t) ∨ Put p q nt bytes (q.kp i)
  fs : ∀ t k, t ≠ kNew → lk p.names t = some k → q.fs k = p.fs k
  len : ∀ k, (q.fs k).by_.length ≤ 224 ∧ (q.fs k).sy ≤ (q.fs k).by_.length
  cl : q.calls ≤ p.calls + j ∧ q.files ≤ p.files + j
theorem MS0.ms {p q : PS} {j : Nat} (h : MS0 p q j) (nt : ByteArray) (bytes : List UInt8) : MS p q nt bytes j := ⟨h.room, fun i hi => .inl (h.safe i hi), h.fs, h.len, h.cl⟩
theorem MS0.ren {p q : PS} {j F n : Nat} (h : MS0 p q j) {nt : ByteArray} {bytes : List UInt8} (hf : q.fs F = ⟨n, bytes, bytes.length⟩) (hnt : nt = kW0 ∨ nt = kW1) : MS p (q.change (renC kNew nt F)) nt bytes (j + 1) ∧ Put p (q.change (renC kNew nt F)) nt bytes (q.change (renC kNew nt F)).names := by
  have hne := kNew_ne
  have hn : kNew ≠ nt := by rcases hnt with e | e <;> rw [e]; exact hne.1; exact hne.2.1
  have ha : ∀ N, applyM N (renC kNew nt F) = pt (dl N kNew) nt F := fun N => by
    unfold renC applyM
    rw [if_neg hn]
    dsimp only
    rw [if_neg kNew_em]
  obtain ⟨k1, k2⟩ := kp_snoc (q := q) (q' := q.change (renC kNew nt F)) (c := renC kNew nt F) rfl rfl
  have hP : Put p (q.change (renC kNew nt F)) nt bytes (pt (dl q.names kNew) nt F) := by
    refine ⟨⟨F, n, by rw [lk_pt, if_pos rfl], hf⟩, by rw [lk_pt, if_neg hn, lk_dl, if_pos rfl], fun t h1 h2 => ?_⟩
    rw [lk_pt, if_neg h1, lk_dl, if_neg h2, h.nmk]
    exact h.safe _ (Nat.le_refl _) t h2
  have hlen : (q.change (renC kNew nt F)).ch.length = q.ch.length + 1 := by simp [PS.change]
  refine ⟨⟨h.room, fun i hi => ?_, h.fs, h.len, ?_⟩, ?_⟩
  · rw [hlen] at hi
    by_cases e : i ≤ q.ch.length
    · rw [k1 i e]; exact .inl (h.safe i e)
    · rw [show i = q.ch.length + 1 by omega, k2, ha, ← h.nmk]
      exact .inr hP
  · show q.calls + 1 ≤ _ ∧ q.files ≤ _
    have := h.cl
    omega
  · show Put p _ nt bytes (applyM q.names (renC kNew nt F))
    rw [ha]
    exact hP
theorem MS.beg {p q : PS} {j : Nat} {nt : ByteArray} {bytes : List UInt8} (h : MS p q nt bytes j) : MS p q.beg nt bytes j := by
  obtain ⟨e1, e2, e3, e4, e5, e6, e7⟩ := q.beg_same
  refine ⟨by rw [e4]; exact h.room, fun i hi => ?_, fun t k ht hk => by rw [e5]; exact h.fs t k ht hk, fun k => by rw [e5]; exact h.len k, by rw [e6, e7]; exact h.cl⟩
  rw [e1] at hi
  rw [kp_of e1 e2]
  unfold Put
  rw [e5]
  exact h.safe i hi
/-- What two names say of a saved disk. -/
def Turned (p r : PS) (nt : ByteArray) (bytes : List UInt8) : Prop := gst r nt = some (gen bytes) ∧ ∀ t, t ≠ nt → t ≠ kNew → gst r t = gst p t
theorem cut_full {f : FS} {m : Nat} (h : f.sy = f.by_.length) (hm : m ≤ f.by_.length - f.sy) : cutF f m = f := by
  unfold cutF
  rw [show m = 0 by omega, Nat.add_zero, h, List.take_length, ← h]
theorem MS.crash {p q : PS} {j : Nat} {nt : ByteArray} {bytes : List UInt8} (h : MS p q nt bytes j) (hp : RI p) (hnt : nt = kW0 ∨ nt = kW1) {picks : List Int} {G : List Nat} (ho : q.order picks G) (hk : Ks (q.crash picks G).names) :
    RI (q.crash picks G) ∧ ((∀ t, t ≠ kNew → gst (q.crash picks G) t = gst p t) ∨ Turned p (q.crash picks G) nt bytes) := by
  have hcp : q.cp picks ≤ q.ch.length := pick_le _ _ _
  obtain ⟨N, hN⟩ : ∃ N, q.kp (q.cp picks) = N := ⟨_, rfl⟩
  have hn : (q.crash picks G).names = N := hN
  have hs := h.safe _ hcp
  rw [hN] at hs
  rw [hn] at hk
  have hG : ∀ t k, lk N t = some k → k ∈ G := fun t k hl => (ho.2.1 k).2 ⟨t, by rw [hN]; exact (lk_mem hk).1 hl⟩
  have hfs : ∀ k, k ∈ G → ∃ m, m ≤ (q.fs k).by_.length - (q.fs k).sy ∧ (q.crash picks G).fs k = cutF (q.fs k) m := fun k hk => ⟨_, pick_le picks (G.idxOf k + 1) _, by simp only [PS.crash]; rw [if_pos hk]⟩
  have hold : ∀ t k, t ≠ kNew → lk p.names t = some k → lk N t = some k → (q.crash picks G).fs k = p.fs k := fun t k ht hl hl2 => by
    obtain ⟨m, hm, e⟩ := hfs k (hG t k hl2)
    have e2 := h.fs t k ht hl
    rw [e2] at hm
    rw [e, e2]
    exact cut_full (hp.full t k hl) hm
  have hgst : ∀ t, t ≠ kNew → lk N t = lk p.names t → gst (q.crash picks G) t = gst p t := fun t ht e => by
    unfold gst
    rw [hn, e]
    cases hl : lk p.names t with
    | none => rfl
    | some k => simp only [Option.map_some]; rw [hold t k ht hl (e.trans hl)]
  refine ⟨⟨⟨rfl, rfl⟩, rfl, rfl, fun t k hl => ?_, fun k => ?_, fun t k hl => ?_, h.room⟩, ?_⟩
  · rw [hn] at hl
    by_cases e : t = kNew
    · exact .inr (.inr e)
    · rcases hs with h1 | ⟨-, -, h1⟩
      · rw [h1 t e] at hl; exact hp.nm _ _ hl
      · by_cases e2 : t = nt
        · rcases hnt with e3 | e3
          · exact .inl (e2.trans e3)
          · exact .inr (.inl (e2.trans e3))
        · rw [h1 t e2 e] at hl; exact hp.nm _ _ hl
  · by_cases e : k ∈ G
    · obtain ⟨m, hm, e⟩ := hfs k e
      have h1 := h.len k
      rw [e]
      unfold cutF
      dsimp only
      rw [List.length_take]
      omega
    · simp only [PS.crash]
      rw [if_neg e]
      exact h.len k
  · rw [hn] at hl
    obtain ⟨m, hm, e⟩ := hfs k (hG t k hl)
    have h1 := h.len k
    rw [e]
    unfold cutF
    dsimp only
    rw [List.length_take]
    omega
  · rcases hs with h1 | ⟨⟨F, n, hF, e⟩, -, h1⟩
    · exact .inl fun t ht => hgst t ht (h1 t ht)
    · refine .inr ⟨?_, fun t h2 h3 => hgst t h3 (h1 t h2 h3)⟩
      unfold gst
      rw [hn, hF]
      simp only [Option.map_some]
      obtain ⟨m, hm, e2⟩ := hfs F (hG nt F hF)
      rw [e] at hm e2
      rw [e2, cut_full rfl hm]
theorem MS.done {p q : PS} {j : Nat} {nt : ByteArray} {bytes : List UInt8} (h : MS p q nt bytes j) (ht : Put p q nt bytes q.names) (hp : RI p) (hnt : nt = kW0 ∨ nt = kW1) (hd : q.beg.down = false) :
    RI (q.beg.syncDir.arm 0) ∧ Turned p (q.beg.syncDir.arm 0) nt bytes := by
  obtain ⟨e1, e2, e3, e4, e5, e6, e7⟩ := q.beg_same
  obtain ⟨⟨F, n, hF, e⟩, hnew, h1⟩ := ht
  have hn : (q.beg.syncDir.arm 0).names = q.names := e3
  have hf : (q.beg.syncDir.arm 0).fs = q.fs := e5
  refine ⟨⟨⟨hd, rfl⟩, rfl, rfl, fun t k hl => ?_, fun k => by rw [hf]; exact h.len k, fun t k hl => ?_, by show q.beg.room = _; rw [e4]; exact h.room⟩, ?_, fun t h2 h3 => ?_⟩
  · rw [hn] at hl
    by_cases e : t = kNew
    · exact .inr (.inr e)
    · by_cases e2 : t = nt
      · rcases hnt with e3 | e3
        · exact .inl (e2.trans e3)
        · exact .inr (.inl (e2.trans e3))
      · rw [h1 t e2 e] at hl; exact hp.nm _ _ hl
  · rw [hn] at hl
    rw [hf]
    by_cases e' : t = kNew
    · rw [e', hnew] at hl; cases hl
    · by_cases e2 : t = nt
      · rw [e2, hF] at hl
        injection hl with hl
        rw [← hl, e]
      · rw [h1 t e2 e'] at hl
        rw [h.fs t k e' hl]
        exact hp.full t k hl
  · unfold gst
    rw [hn, hf, hF]
    simp only [Option.map_some]
    rw [e]
  · unfold gst
    rw [hn, hf, h1 t h2 h3]
    cases hl : lk p.names t with
    | none => rfl
    | some k => simp only [Option.map_some]; rw [h.fs t k h3 hl]
theorem newP_put (g0 g1 : Option (Option (List UInt8 × Int))) (b : List UInt8) (n : Int) (hn : (newP g0 g1).2.2.1 = n) :
    newP (if kW0 = saveTo (newP g0 g1).1 then some (some (b, n + 1)) else g0) (if kW1 = saveTo (newP g0 g1).1 then some (some (b, n + 1)) else g1) = (saveTo (newP g0 g1).1, b, n + 1, 0) := by
  have hne := kNew_ne
  have hz0 : kW0 ≠ ⟨#[]⟩ := by decide +kernel
  have s0 : saveTo kW0 = kW1 := if_pos rfl
  have s1 : saveTo kW1 = kW0 := if_neg fun e => hne.2.2 e.symm
  have s2 : saveTo ⟨#[]⟩ = kW0 := if_neg fun e => hz0 e.symm
  have n01 := hne.2.2
  have n10 : kW1 ≠ kW0 := fun e => hne.2.2 e.symm
  subst hn
  rcases g0 with _ | _ | ⟨b0, n0⟩ <;> rcases g1 with _ | _ | ⟨b1, n1⟩
  all_goals try
    (simp only [newP, s2, if_pos rfl, if_neg n10, if_true]
     done)
  all_goals try
    (simp only [newP, s0, if_pos rfl, if_neg n01, if_true]
     try rw [if_pos (by omega)]
     done)
  all_goals try
    (simp only [newP, s1, if_pos rfl, if_neg n10, if_true]
     try rw [if_neg (by omega)]
     done)
  by_cases hlt : n0 < n1
  · simp only [newP, if_pos hlt]
    simp only [s1, if_pos rfl, if_neg n10, if_true]
    rw [if_neg (by omega)]
  · simp only [newP, if_neg hlt]
    simp only [s0, if_pos rfl, if_neg n01, if_true]
    rw [if_pos (by omega)]
/-- What the law knows of its disk. -/
structure LI (some? : Bool) (last : List UInt8) (n : Nat) (p : PS) : Prop where
  ri : RI p
  np : (some? = false ∧ n = 0 ∧ gst p kW0 = none ∧ gst p kW1 = none) ∨ (some? = true ∧ ∃ nm, newP (gst p kW0) (gst p kW1) = (nm, last, (n : Int), 0))
theorem LI.zero (last : List UInt8) : LI false last 0 (PS.new 65536) := ⟨⟨⟨rfl, rfl⟩, rfl, rfl, (fun t k h => by cases h), fun k => ⟨Nat.zero_le _, Nat.le_refl _⟩, (fun t k h => by cases h), rfl⟩, .inl ⟨rfl, rfl, rfl, rfl⟩⟩
theorem LI.keep {s : Bool} {last : List UInt8} {n : Nat} {p r : PS} (h : LI s last n p) (hr : RI r) (hg : ∀ t, t ≠ kNew → gst r t = gst p t) : LI s last n r := by
  have hne := kNew_ne
  refine ⟨hr, ?_⟩
  rw [hg kW0 fun e => hne.1 e.symm, hg kW1 fun e => hne.2.1 e.symm]
  exact h.np
theorem LI.num {s : Bool} {last : List UInt8} {n : Nat} {p : PS} (h : LI s last n p) : (newP (gst p kW0) (gst p kW1)).2.2.1 = (n : Int) := by
  rcases h.np with ⟨-, rfl, e0, e1⟩ | ⟨-, nm, e⟩
  · rw [e0, e1]; rfl
  · rw [e]
theorem gen_put (n : Nat) (hn : n ≤ 1000) (b : List UInt8) (hb : b.length ≤ 4194304) : gen (recsB [le8 (n + 1), b]) = some (b, (n : Int) + 1) := by
  have g : Gd (recsB [le8 (n + 1), b]) (le8 (n + 1)) b := ⟨rfl, hb, rfl⟩
  rw [gen_of g]
  unfold i8
  rw [n8_le8 _ (by omega)]
  have e : IntKind.i64.wrap ((n + 1 : Nat) : Int) = (n : Int) + 1 := by rw [IntKind.wrap_i64]; omega
  rw [e]
theorem LI.put {s : Bool} {last : List UInt8} {n : Nat} {p r : PS} (h : LI s last n p) (hn : n ≤ 1000) {b : List UInt8} (hb : b.length ≤ 4194304) (hr : RI r) (ht : Turned p r (saveTo (newP (gst p kW0) (gst p kW1)).1) (recsB [le8 (n + 1), b])) : LI true b (n + 1) r := by
  have hne := kNew_ne
  have k0n : kW0 ≠ kNew := fun e => hne.1 e.symm
  have k1n : kW1 ≠ kNew := fun e => hne.2.1 e.symm
  obtain ⟨h1, h2⟩ := ht
  rw [gen_put n hn b hb] at h1
  have key := newP_put (gst p kW0) (gst p kW1) b n h.num
  have e0 : gst r kW0 = if kW0 = saveTo (newP (gst p kW0) (gst p kW1)).1 then some (some (b, (n : Int) + 1)) else gst p kW0 := by
    split
    · rename_i e; rw [← h1]; exact congrArg (gst r) e
    · rename_i e; exact h2 _ e k0n
  have e1 : gst r kW1 = if kW1 = saveTo (newP (gst p kW0) (gst p kW1)).1 then some (some (b, (n : Int) + 1)) else gst p kW1 := by
    split
    · rename_i e; rw [← h1]; exact congrArg (gst r) e
    · rename_i e; exact h2 _ e k1n
  exact ⟨hr, .inr ⟨rfl, _, by rw [e0, e1, key]; rfl⟩⟩
theorem wrap_u (n : Nat) (hn : n ≤ 1000) : IntKind.u64.wrap (IntKind.i64.wrap ((n : Int) + 1)) = ((n + 1 : Nat) : Int) := by
  simp only [IntKind.wrap, IntKind.signed, IntKind.bits]
  simp
  omega
end Go.Proofs.YtpceckmjoicdlaaDoor
