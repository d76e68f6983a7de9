/- Disks that are alike but for their blocks: each file goes by its number (plain). -/
import Derived.Test.YtlhbgobjhddhlaaGreatDoorDiskV
import Derived.Test.YtlhbgobjhddhlaaGreatDoorDiskU
namespace Go.Proofs.YtlhbgobjhddhlaaGreatDoor
open Go.RowKit

def idP (g : Nat → FS) (x : ByteArray × Nat) : ByteArray × Nat := (x.1, (g x.2).id)
def idC (g : Nat → FS) (c : Chg) : Chg := ⟨c.nm, c.gn, c.fl.map fun k => (g k).id⟩
theorem map_dl (g : Nat → FS) (M : Nm) (s : ByteArray) : (dl M s).map (idP g) = dl (M.map (idP g)) s := by
  unfold dl
  rw [List.filter_map]
  rfl
theorem map_pt (g : Nat → FS) (M : Nm) (s : ByteArray) (k : Nat) : (pt M s k).map (idP g) = pt (M.map (idP g)) s (g k).id := by
  unfold pt
  rw [List.map_cons, map_dl]
  rfl
theorem map_applyM (g : Nat → FS) (M : Nm) (c : Chg) : (applyM M c).map (idP g) = applyM (M.map (idP g)) (idC g c) := by
  obtain ⟨n, gn, fl⟩ := c
  unfold applyM idC
  dsimp only
  cases fl with
  | none =>
    dsimp only [Option.map_none]
    split
    · rfl
    · exact map_dl _ _ _
  | some k =>
    dsimp only [Option.map_some]
    rw [map_pt]
    split
    · rfl
    · rw [map_dl]
theorem lk_idP (g : Nat → FS) (M : Nm) (s : ByteArray) : lk (M.map (idP g)) s = (lk M s).map fun k => (g k).id := by
  unfold lk
  rw [List.find?_map, Option.map_map, Option.map_map]
  rfl
theorem fold_idP (g : Nat → FS) (L : List Chg) : ∀ M : Nm, (L.foldl applyM M).map (idP g) = (L.map (idC g)).foldl applyM (M.map (idP g)) := by
  induction L with
  | nil => exact fun _ => rfl
  | cons c r ih => exact fun M => by rw [List.foldl_cons, ih, List.map_cons, List.foldl_cons, map_applyM]
/-- q is p, each file by its number. -/
structure Im (p q : PS) : Prop where
  room : q.room = p.room
  names : q.names = p.names.map (idP p.fs)
  kept : q.kept = p.kept.map (idP p.fs)
  ch : q.ch = p.ch.map (idC p.fs)
  files : q.files = p.files
  armed : q.armed = p.armed
  down : q.down = p.down
  calls : q.calls = p.calls
  fs : ∀ k, PFl p k → q.fs (p.fs k).id = p.fs k
  inj : ∀ k j, PFl p k → PFl p j → (p.fs k).id = (p.fs j).id → k = j
  ids : ∀ k, PFl p k → 1 ≤ (p.fs k).id ∧ (p.fs k).id ≤ p.files
variable {p q : PS} {nm : ByteArray}
theorem Im.new (room : Int) : Im (PS.new room) (PS.new room) := by
  have h : ∀ k, ¬ PFl (PS.new room) k := fun k hk => by
    rcases hk with ⟨_, h⟩ | ⟨_, h⟩ | ⟨_, h, _⟩ <;> cases h
  exact ⟨rfl, rfl, rfl, rfl, rfl, rfl, rfl, rfl, fun k hk => absurd hk (h k), fun k _ hk => absurd hk (h k), fun k hk => absurd hk (h k)⟩
theorem Im.lk (h : Im p q) (s : ByteArray) : lk q.names s = (lk p.names s).map fun k => (p.fs k).id := by rw [h.names, lk_idP]
theorem Im.lk_none (h : Im p q) (s : ByteArray) : Go.Proofs.YtlhbgobjhddhlaaGreatDoor.lk q.names s = none ↔ Go.Proofs.YtlhbgobjhddhlaaGreatDoor.lk p.names s = none := by
  rw [h.lk]; cases Go.Proofs.YtlhbgobjhddhlaaGreatDoor.lk p.names s <;> simp
theorem PS.beg_same (q : PS) : q.beg.ch = q.ch ∧ q.beg.kept = q.kept ∧ q.beg.names = q.names ∧ q.beg.room = q.room ∧ q.beg.fs = q.fs ∧ q.beg.calls = q.calls ∧ q.beg.files = q.files := by
  unfold PS.beg
  split
  · exact ⟨rfl, rfl, rfl, rfl, rfl, rfl, rfl⟩
  · split <;> exact ⟨rfl, rfl, rfl, rfl, rfl, rfl, rfl⟩
theorem PFl.beg {k : Nat} : PFl p.beg k ↔ PFl p k := by
  obtain ⟨e1, e2, e3, -⟩ := p.beg_same
  unfold PFl
  rw [e1, e2, e3]
theorem Im.begE (h : Im p q) : q.begE = p.begE := by unfold PS.begE; rw [h.down, h.armed]
theorem Im.beg (h : Im p q) : Im p.beg q.beg := by
  obtain ⟨e1, e2, e3, e4, e5, e6, e7⟩ := p.beg_same
  obtain ⟨f1, f2, f3, f4, f5, f6, f7⟩ := q.beg_same
  have had : q.beg.armed = p.beg.armed ∧ q.beg.down = p.beg.down := by
    unfold PS.beg
    rw [h.down, h.armed]
    split
    · exact ⟨h.armed, h.down⟩
    · split
      · exact ⟨rfl, rfl⟩
      · exact ⟨h.armed, h.down⟩
  refine ⟨by rw [e4, f4, h.room], by rw [e3, e5, f3, h.names], by rw [e2, e5, f2, h.kept], by rw [e1, e5, f1, h.ch], by rw [e7, f7, h.files], had.1, had.2, by rw [e6, f6, h.calls], fun k hk => ?_, fun k j hk hj => ?_, fun k hk => ?_⟩
  · rw [e5, f5]; exact h.fs k (PFl.beg.1 hk)
  · rw [e5]; exact h.inj k j (PFl.beg.1 hk) (PFl.beg.1 hj)
  · rw [e5, e7]; exact h.ids k (PFl.beg.1 hk)
theorem idP_upd {g : Nat → FS} {F : Nat} {f : FS} {M : Nm} (hM : ∀ x ∈ M, x.2 ≠ F) : M.map (idP (upd g F f)) = M.map (idP g) :=
  List.map_congr_left fun x hx => by unfold idP; rw [upd_ne _ _ (hM x hx)]
theorem idC_upd {g : Nat → FS} {F : Nat} {f : FS} {L : List Chg} (hL : ∀ c ∈ L, c.fl ≠ some F) : L.map (idC (upd g F f)) = L.map (idC g) :=
  List.map_congr_left fun c hc => by
    unfold idC
    have h1 := hL c hc
    cases e : c.fl with
    | none => rfl
    | some k => rw [e] at h1; simp only [Option.map_some]; rw [upd_ne _ _ fun e' => h1 (by rw [e'])]
theorem mem_pt {M : Nm} {s : ByteArray} {k : Nat} {x : ByteArray × Nat} (h : x ∈ pt M s k) : x = (s, k) ∨ x ∈ M := by
  unfold pt at h
  rcases List.mem_cons.1 h with e | e
  · exact .inl e
  · exact .inr (mem_dl.1 e).1
theorem Im.create (h : Im p q) {F : Nat} (hF : ∀ k, PFl p k → k ≠ F) : Im (p.create nm F) (q.create nm (q.files + 1)) := by
  have hkey : ∀ k, PFl (p.create nm F) k → k = F ∨ (PFl p k ∧ k ≠ F) := fun k hk => by
    by_cases e : k = F
    · exact .inl e
    refine .inr ⟨?_, e⟩
    rcases hk with ⟨n, hn⟩ | hk | ⟨c, hc, hck⟩
    · rcases mem_pt hn with e' | e'
      · exact absurd (congrArg Prod.snd e') e
      · exact .inl ⟨n, e'⟩
    · exact .inr (.inl hk)
    · rcases List.mem_append.1 hc with h1 | h1
      · exact .inr (.inr ⟨c, h1, hck⟩)
      · simp only [List.mem_cons, List.not_mem_nil, or_false] at h1
        rw [h1] at hck
        exact absurd (Option.some.inj hck).symm e
  have h1 : p.names.map (idP (upd p.fs F ⟨p.files + 1, [], 0⟩)) = q.names := by rw [h.names]; exact idP_upd fun x hx => hF _ (.inl ⟨x.1, hx⟩)
  refine ⟨h.room, ?_, ?_, ?_, by show q.files + 1 = p.files + 1; rw [h.files], h.armed, h.down, by show q.calls + 1 = p.calls + 1; rw [h.calls], fun k hk => ?_, fun k j hk hj => ?_, fun k hk => ?_⟩
  · show pt q.names nm (q.files + 1) = (pt p.names nm F).map (idP (upd p.fs F ⟨p.files + 1, [], 0⟩))
    rw [map_pt, h1, upd_same, h.files]
  · show q.kept = p.kept.map (idP (upd p.fs F ⟨p.files + 1, [], 0⟩))
    rw [h.kept]; exact (idP_upd fun x hx => hF _ (.inr (.inl ⟨x.1, hx⟩))).symm
  · show q.ch ++ ([⟨nm, ⟨#[]⟩, some (q.files + 1)⟩] : List Chg) = (p.ch ++ ([⟨nm, ⟨#[]⟩, some F⟩] : List Chg)).map (idC (upd p.fs F ⟨p.files + 1, [], 0⟩))
    rw [List.map_append, idC_upd fun c hc e => hF F (.inr (.inr ⟨c, hc, e⟩)) rfl, h.ch]
    simp [idC, h.files]
  · show upd q.fs (q.files + 1) ⟨q.files + 1, [], 0⟩ (upd p.fs F ⟨p.files + 1, [], 0⟩ k).id = upd p.fs F ⟨p.files + 1, [], 0⟩ k
    rcases hkey k hk with rfl | ⟨hk', e⟩
    · rw [upd_same, h.files]; exact upd_same _ _ _
    · rw [upd_ne _ _ e, upd_ne _ _ (by have := (h.ids k hk').2; rw [h.files]; omega)]
      exact h.fs k hk'
  · show (upd p.fs F ⟨p.files + 1, [], 0⟩ k).id = (upd p.fs F ⟨p.files + 1, [], 0⟩ j).id → k = j
    rcases hkey k hk with rfl | ⟨hk', e⟩ <;> rcases hkey j hj with rfl | ⟨hj', e'⟩
    · exact fun _ => rfl
    · rw [upd_same, upd_ne _ _ e']
      intro e2
      have := (h.ids j hj').2
      dsimp only at e2
      omega
    · rw [upd_same, upd_ne _ _ e]
      intro e2
      have := (h.ids k hk').2
      dsimp only at e2
      omega
    · rw [upd_ne _ _ e, upd_ne _ _ e']
      exact h.inj k j hk' hj'
  · show 1 ≤ (upd p.fs F ⟨p.files + 1, [], 0⟩ k).id ∧ (upd p.fs F ⟨p.files + 1, [], 0⟩ k).id ≤ p.files + 1
    rcases hkey k hk with rfl | ⟨hk', e⟩
    · rw [upd_same]; exact ⟨by simp, Nat.le_refl _⟩
    · rw [upd_ne _ _ e]
      have := h.ids k hk'
      omega
theorem idP_put {g : Nat → FS} {F : Nat} {f : FS} (hf : f.id = (g F).id) (k : Nat) : (upd g F f k).id = (g k).id := by
  by_cases e : k = F
  · rw [e, upd_same, hf]
  · rw [upd_ne _ _ e]
theorem Im.put (h : Im p q) {k : Nat} (hk : PFl p k) (f : FS) (hf : f.id = (p.fs k).id) : Im (p.put k f) (q.put (p.fs k).id f) := by
  have e0 : idP (upd p.fs k f) = idP p.fs := by funext x; unfold idP; rw [idP_put hf]
  have e1 : idC (upd p.fs k f) = idC p.fs := by funext c; unfold idC; congr 1; cases c.fl <;> simp [idP_put hf]
  refine ⟨h.room, ?_, ?_, ?_, h.files, h.armed, h.down, by show q.calls + 1 = p.calls + 1; rw [h.calls], fun j hj => ?_, fun j j' hj hj' => ?_, fun j hj => ?_⟩
  · show q.names = p.names.map (idP (upd p.fs k f)); rw [e0, h.names]
  · show q.kept = p.kept.map (idP (upd p.fs k f)); rw [e0, h.kept]
  · show q.ch = p.ch.map (idC (upd p.fs k f)); rw [e1, h.ch]
  · show upd q.fs (p.fs k).id f (upd p.fs k f j).id = upd p.fs k f j
    rw [idP_put hf]
    by_cases e : j = k
    · rw [e, upd_same, upd_same]
    · rw [upd_ne _ _ e, upd_ne _ _ fun e' => e (h.inj j k hj hk e')]
      exact h.fs j hj
  · show (upd p.fs k f j).id = (upd p.fs k f j').id → j = j'
    rw [idP_put hf, idP_put hf]
    exact h.inj j j' hj hj'
  · show 1 ≤ (upd p.fs k f j).id ∧ (upd p.fs k f j).id ≤ p.files
    rw [idP_put hf]
    exact h.ids j hj
/-- What keeps its files, or has fewer. -/
theorem Im.sub {p' q' : PS} (h : Im p q) (hfs : p'.fs = p.fs) (hqs : q'.fs = q.fs) (hs : ∀ k, PFl p' k → PFl p k) (hfi : p'.files = p.files)
    (room : q'.room = p'.room) (names : q'.names = p'.names.map (idP p'.fs)) (kept : q'.kept = p'.kept.map (idP p'.fs)) (ch : q'.ch = p'.ch.map (idC p'.fs)) (files : q'.files = p'.files) (armed : q'.armed = p'.armed) (down : q'.down = p'.down) (calls : q'.calls = p'.calls) : Im p' q' :=
  ⟨room, names, kept, ch, files, armed, down, calls, fun k hk => by rw [hfs, hqs]; exact h.fs k (hs k hk), fun k j hk hj => by rw [hfs]; exact h.inj k j (hs k hk) (hs j hj), fun k hk => by rw [hfs, hfi]; exact h.ids k (hs k hk)⟩
theorem Im.syncDir (h : Im p q) : Im p.syncDir q.syncDir :=
  h.sub rfl rfl (fun k hk => by
    rcases hk with hk | hk | ⟨c, hc, _⟩
    · exact .inl hk
    · exact .inl hk
    · cases hc) rfl h.room h.names h.names rfl h.files h.armed h.down (by show q.calls + 1 = p.calls + 1; rw [h.calls])
theorem Im.arm (h : Im p q) (n : Int) : Im (p.arm n) (q.arm n) := h.sub rfl rfl (fun _ hk => hk) rfl h.room h.names h.kept h.ch h.files rfl h.down h.calls
theorem applyM_from {M : Nm} {c : Chg} {x : ByteArray × Nat} (h : x ∈ applyM M c) : x ∈ M ∨ c.fl = some x.2 := by
  unfold applyM at h
  split at h
  · split at h
    · exact .inl h
    · exact .inl (mem_dl.1 h).1
  · rename_i f hf
    rcases mem_pt h with e | e
    · exact .inr (by rw [hf, e])
    · split at e
      · exact .inl e
      · exact .inl (mem_dl.1 e).1
theorem Im.change (h : Im p q) (c : Chg) (hc : ∀ k, c.fl = some k → PFl p k) : Im (p.change c) (q.change (idC p.fs c)) :=
  h.sub rfl rfl (fun k hk => by
    rcases hk with ⟨n, hn⟩ | hk | ⟨c', hc', e⟩
    · rcases applyM_from hn with h1 | h1
      · exact .inl ⟨n, h1⟩
      · exact hc k h1
    · exact .inr (.inl hk)
    · rcases List.mem_append.1 hc' with h1 | h1
      · exact .inr (.inr ⟨c', h1, e⟩)
      · simp only [List.mem_cons, List.not_mem_nil, or_false] at h1
        rw [h1] at e
        exact hc k e) rfl h.room (by show applyM q.names _ = (applyM p.names c).map (idP p.fs); rw [map_applyM, h.names]) h.kept
    (by show q.ch ++ [idC p.fs c] = (p.ch ++ [c]).map (idC p.fs); rw [List.map_append, h.ch]; rfl) h.files h.armed h.down (by show q.calls + 1 = p.calls + 1; rw [h.calls])
theorem Im.kp (h : Im p q) (i : Nat) : q.kp i = (p.kp i).map (idP p.fs) := by
  unfold PS.kp
  rw [fold_idP, h.kept, h.ch, List.map_take]
theorem kp_from {i : Nat} {x : ByteArray × Nat} (h : x ∈ p.kp i) : PFl p x.2 := by
  unfold PS.kp at h
  have key : ∀ (L : List Chg) (M : Nm), x ∈ L.foldl applyM M → x ∈ M ∨ ∃ c ∈ L, c.fl = some x.2 := by
    intro L
    induction L with
    | nil => exact fun M hM => .inl hM
    | cons c r ih =>
      intro M hM
      rcases ih _ hM with h1 | ⟨c', hc', e⟩
      · rcases applyM_from h1 with h2 | h2
        · exact .inl h2
        · exact .inr ⟨c, List.mem_cons_self .., h2⟩
      · exact .inr ⟨c', List.mem_cons_of_mem _ hc', e⟩
  rcases key _ _ h with h1 | ⟨c, hc, e⟩
  · exact .inr (.inl ⟨x.1, h1⟩)
  · exact .inr (.inr ⟨c, List.mem_of_mem_take hc, e⟩)
theorem Im.cp (h : Im p q) (picks : List Int) : q.cp picks = p.cp picks := by unfold PS.cp; rw [h.ch, List.length_map]
theorem idxOf_map {f : Nat → Nat} {G : List Nat} (hf : ∀ a ∈ G, ∀ b ∈ G, f a = f b → a = b) {k : Nat} (hk : k ∈ G) : (G.map f).idxOf (f k) = G.idxOf k := by
  induction G with
  | nil => cases hk
  | cons a r ih =>
    rw [List.map_cons, List.idxOf_cons, List.idxOf_cons]
    by_cases e : a = k
    · rw [e]; simp
    · have e' : f a ≠ f k := fun h => e (hf a (List.mem_cons_self ..) k hk h)
      have hk' : k ∈ r := by rcases List.mem_cons.1 hk with h | h; exact absurd h.symm e; exact h
      rw [beq_eq_false_iff_ne.2 e, beq_eq_false_iff_ne.2 e']
      dsimp only [cond_false]
      rw [ih (fun x hx y hy => hf x (List.mem_cons_of_mem _ hx) y (List.mem_cons_of_mem _ hy)) hk']
theorem Im.order (h : Im p q) {picks : List Int} {G : List Nat} (ho : p.order picks G) : q.order picks (G.map fun k => (p.fs k).id) ∧ ∀ k ∈ G, PFl p k := by
  have hm : ∀ k ∈ G, PFl p k := fun k hk => by
    obtain ⟨n, hn⟩ := (ho.2.1 k).1 hk
    exact kp_from hn
  refine ⟨⟨?_, fun k => ?_, ?_⟩, hm⟩
  · rw [List.nodup_iff_pairwise_ne, List.pairwise_map]
    have h1 : G.Pairwise fun a b => a ∈ G ∧ b ∈ G ∧ a ≠ b := List.Pairwise.imp_of_mem (fun ha hb hab => ⟨ha, hb, hab⟩) ho.1
    exact h1.imp fun ⟨ha, hb, hab⟩ e => hab (h.inj _ _ (hm _ ha) (hm _ hb) e)
  · rw [h.cp, h.kp]
    constructor
    · intro hk
      obtain ⟨j, hj, rfl⟩ := List.mem_map.1 hk
      obtain ⟨n, hn⟩ := (ho.2.1 j).1 hj
      exact ⟨n, List.mem_map.2 ⟨(n, j), hn, rfl⟩⟩
    · rintro ⟨n, hn⟩
      obtain ⟨⟨n', j⟩, hj, e⟩ := List.mem_map.1 hn
      exact List.mem_map.2 ⟨j, (ho.2.1 j).2 ⟨n', hj⟩, congrArg Prod.snd e⟩
  · rw [List.pairwise_map]
    have h1 : G.Pairwise fun a b => a ∈ G ∧ b ∈ G ∧ (p.fs a).id ≤ (p.fs b).id := List.Pairwise.imp_of_mem (fun ha hb hab => ⟨ha, hb, hab⟩) ho.2.2
    exact h1.imp fun ⟨ha, hb, hab⟩ => by rw [h.fs _ (hm _ ha), h.fs _ (hm _ hb)]; exact hab
theorem Im.crash (h : Im p q) {picks : List Int} {G : List Nat} (ho : p.order picks G) : Im (p.crash picks G) (q.crash picks (G.map fun k => (p.fs k).id)) := by
  have hm := (h.order ho).2
  have hin : ∀ k, PFl (p.crash picks G) k → k ∈ G := fun k hk => by
    rcases hk with ⟨n, hn⟩ | ⟨n, hn⟩ | ⟨c, hc, _⟩
    · exact (ho.2.1 k).2 ⟨n, hn⟩
    · exact (ho.2.1 k).2 ⟨n, hn⟩
    · cases hc
  have hid : ∀ k, ((p.crash picks G).fs k).id = (p.fs k).id := fun k => by
    simp only [PS.crash]
    split <;> rfl
  have e0 : idP (p.crash picks G).fs = idP p.fs := by funext x; unfold idP; rw [hid]
  refine ⟨h.room, ?_, ?_, rfl, h.files, rfl, rfl, h.calls, fun k hk => ?_, fun k j hk hj => ?_, fun k hk => ?_⟩
  · show q.kp (q.cp picks) = (p.kp (p.cp picks)).map (idP (p.crash picks G).fs)
    rw [e0, h.cp, h.kp]
  · show q.kp (q.cp picks) = (p.kp (p.cp picks)).map (idP (p.crash picks G).fs)
    rw [e0, h.cp, h.kp]
  · rw [hid]
    have hkG := hin k hk
    have hkq : (p.fs k).id ∈ G.map fun k => (p.fs k).id := List.mem_map.2 ⟨k, hkG, rfl⟩
    simp only [PS.crash]
    rw [if_pos hkG, if_pos hkq, h.fs k (hm k hkG), idxOf_map (f := fun k => (p.fs k).id) (fun a ha b hb => h.inj a b (hm a ha) (hm b hb)) hkG]
  · rw [hid, hid]
    exact h.inj k j (hm k (hin k hk)) (hm j (hin j hj))
  · rw [hid]
    exact h.ids k (hm k (hin k hk))
/-- By their numbers, files have one order. -/
theorem Im.one (h : Im p q) {picks : List Int} {G H : List Nat} (hG : q.order picks G) (hH : q.order picks H) : G = H := by
  have hid : ∀ k, (∃ n, (n, k) ∈ q.kp (q.cp picks)) → (q.fs k).id = k := fun k ⟨n, hn⟩ => by
    rw [h.kp] at hn
    obtain ⟨x, hx, e⟩ := List.mem_map.1 hn
    have e2 : (p.fs x.2).id = k := congrArg Prod.snd e
    rw [← e2, h.fs _ (kp_from hx)]
  have hs : ∀ {L : List Nat}, q.order picks L → L.Pairwise (· ≤ ·) := fun {L} hL => by
    have h1 : L.Pairwise fun a b => a ∈ L ∧ b ∈ L ∧ (q.fs a).id ≤ (q.fs b).id := List.Pairwise.imp_of_mem (fun ha hb hab => ⟨ha, hb, hab⟩) hL.2.2
    exact h1.imp fun ⟨ha, hb, hab⟩ => by rwa [hid _ ((hL.2.1 _).1 ha), hid _ ((hL.2.1 _).1 hb)] at hab
  exact List.Perm.eq_of_pairwise (fun _ _ _ _ h1 h2 => Nat.le_antisymm h1 h2) (hs hG) (hs hH) ((List.perm_ext_iff_of_nodup hG.1 hH.1).2 fun k => by rw [hG.2.1, hH.2.1])
theorem sumF_map (f : Nat → Nat) (g : Nat → Nat) (L : Nm) (m : ByteArray × Nat → ByteArray × Nat) (h : ∀ x ∈ L, f (m x).2 = g x.2) : sumF f (L.map m) = sumF g L := by
  induction L with
  | nil => rfl
  | cons x r ih =>
    rw [List.map_cons]
    unfold sumF
    rw [h x (List.mem_cons_self ..), ih fun y hy => h y (List.mem_cons_of_mem _ hy)]
theorem Im.used (h : Im p q) : q.used = p.used := by
  unfold PS.used
  rw [h.names]
  exact sumF_map _ _ _ _ fun x hx => by
    show (q.fs (p.fs x.2).id).by_.length = _
    rw [h.fs _ (.inl ⟨x.1, hx⟩)]
theorem Im.list (h : Im p q) : namesL q.names = namesL p.names := by
  refine namesL_perm ?_
  rw [h.names, List.map_map]
  exact List.Perm.refl _
end Go.Proofs.YtlhbgobjhddhlaaGreatDoor
