/- Package disk: Clone. -/
import Derived.Test.YtlhbgobjhddhlaaGreatDoorDiskCl
import Derived.Test.YtlhbgobjhddhlaaGreatDoorDiskO
namespace Go.Proofs.YtlhbgobjhddhlaaGreatDoor
open Go.RowKit
variable {base : Nat} {w w' wr w2 : World} {s : DS} {B : Nat} {cv : Value} {N K : Nm} {C : List Chg} {M : List (Nat × Nat)}

/-- Clone under way: B is the heap's size ahead; own's map is B, own is B + 1, the copy B + 2, its maps B + 3, B + 4. -/
structure CI (s : DS) (w wr : World) (B : Nat) (cv : Value) (N K : Nm) (C : List Chg) (M : List (Nat × Nat)) : Prop where
  hB : w.heap.size = B
  fr : Fr (fun _ => False) w wr
  own : wr.heap[B + 1]? = some (.cells #[.map (some B)] 75 (0, 0))
  pm : PMapAt wr B M
  mf : ∀ p ∈ M, Fl s p.1 ∧ B ≤ p.2 ∧ FileAt wr p.2 (s.fs p.1)
  hx : wr.heap[B + 2]? = some (.cells #[.int .i64 s.room, .map (some (B + 3)), .map (some (B + 4)), cv, .int .i64 s.files, .int .i64 s.armed, .bool s.down, .int .i64 s.calls] 62 (0, 0))
  nm : MapAt wr (B + 3) N
  kp : MapAt wr (B + 4) K
  ch : wr.ownsRow B 82 3 cv C.length (chV C)
  fl : ∀ k, ((∃ n, (n, k) ∈ N) ∨ (∃ n, (n, k) ∈ K) ∨ ∃ c ∈ C, c.fl = some k) → ∃ p ∈ M, p.2 = k
  sz : (∀ p ∈ N, p.1.size ≤ 64) ∧ (∀ p ∈ K, p.1.size ≤ 64) ∧ ∀ c ∈ C, c.nm.size ≤ 64 ∧ c.gn.size ≤ 64
theorem CI.go (h : CI s w wr B cv N K C M) (hf : Fr (fun _ => False) wr w2) : CI s w w2 B cv N K C M :=
  ⟨h.hB, h.fr.trans' hf, hf.heap h.own not_false, h.pm.frame hf not_false fun _ _ => not_false, fun p hp => ⟨(h.mf p hp).1, (h.mf p hp).2.1, (h.mf p hp).2.2.frame hf not_false fun _ _ => not_false⟩, hf.heap h.hx not_false, h.nm.frame hf not_false, h.kp.frame hf not_false, hf.own h.ch fun _ _ => not_false, h.fl, h.sz⟩
theorem own_not_map {base e sz n j : Nat} {v : Value} {xs : List Value} (h : wr.ownsRow base e sz v n xs) (hj : ∃ es cl, wr.heap[j]? = some (.map es cl)) : ∀ k, v.ownBlock = some k → ¬ k = j := fun k hk e => by
  obtain ⟨es, cl, hq⟩ := hj
  rcases h.2 with ⟨hv, -⟩ | ⟨g, cap, cur, hv, -, hg, -⟩
  · rw [hv] at hk; cases hk
  · rw [hv] at hk
    simp only [Value.ownBlock, Option.some.injEq] at hk
    rw [← hk] at e
    rw [← e, hg] at hq
    cases hq
theorem FileAt.turn {j k : Nat} {f : FS} (h : FileAt wr k f) (hj : ∃ es cl, wr.heap[j]? = some (.map es cl)) (hf : Fr (fun k => k = j) wr w2) : FileAt w2 k f := by
  obtain ⟨es, cl, hq⟩ := hj
  refine h.frame hf (fun e => ?_) fun b hb e => ?_
  · obtain ⟨v, h1, -⟩ := h
    rw [(show k = j from e), hq] at h1
    cases h1
  · obtain ⟨cs, fz, h1⟩ := hb
    rw [(show b = j from e), hq] at h1
    cases h1
theorem PMapAt.ismap {b : Nat} (h : PMapAt wr b M) : ∃ es cl, wr.heap[b]? = some (.map es cl) := by
  obtain ⟨⟨es, cl, h1, -⟩, -⟩ := h
  exact ⟨es, cl, h1⟩
theorem MapAt.ismap {b : Nat} (h : MapAt wr b N) : ∃ es cl, wr.heap[b]? = some (.map es cl) := by
  obtain ⟨es, cl, h1, -⟩ := h.cells
  exact ⟨es, cl, h1⟩
theorem CI.turn {j : Nat} {M' : List (Nat × Nat)} {N' K' : Nm} (h : CI s w wr B cv N K C M) (hj : ∃ es cl, wr.heap[j]? = some (.map es cl)) (hjB : B ≤ j) (hf : Fr (fun k => k = j) wr w2) (hj1 : j ≠ B + 1) (hj2 : j ≠ B + 2)
    (pm : PMapAt w2 B M') (mf : ∀ p ∈ M', Fl s p.1 ∧ B ≤ p.2 ∧ FileAt w2 p.2 (s.fs p.1)) (nm : MapAt w2 (B + 3) N') (kp : MapAt w2 (B + 4) K')
    (fl : ∀ k, ((∃ n, (n, k) ∈ N') ∨ (∃ n, (n, k) ∈ K') ∨ ∃ c ∈ C, c.fl = some k) → ∃ p ∈ M', p.2 = k) (sz : (∀ p ∈ N', p.1.size ≤ 64) ∧ (∀ p ∈ K', p.1.size ≤ 64)) : CI s w w2 B cv N' K' C M' :=
  ⟨h.hB, h.fr.trans (U := fun _ => False) hf (fun _ _ h => h) fun k hk e => by have := h.hB; omega, hf.heap h.own (fun e => hj1 e.symm), pm, mf, hf.heap h.hx (fun e => hj2 e.symm), nm, kp, hf.own h.ch (own_not_map h.ch hj), fl, ⟨sz.1, sz.2, h.sz.2.2⟩⟩
/-- Behind a call of the closure. -/
theorem CI.call {k g : Nat} {M' : List (Nat × Nat)} (h : CI s w wr B cv N K C M) (hk : Fl s k) (hm : PMapAt w2 B M') (hf : Fr (fun j => j = B) wr w2)
    (hc : (M' = M ∧ lkp M k = some g) ∨ (M' = M ++ [(k, g)] ∧ lkp M k = none ∧ wr.heap.size ≤ g ∧ FileAt w2 g (s.fs k))) : CI s w w2 B cv N K C M' ∧ (k, g) ∈ M' := by
  have hsub : ∀ p ∈ M, p ∈ M' := fun p hp => by
    rcases hc with ⟨e, -⟩ | ⟨e, -⟩
    · rw [e]; exact hp
    · rw [e]; exact List.mem_append_left _ hp
  have hmem : (k, g) ∈ M' := by
    rcases hc with ⟨e, hl⟩ | ⟨e, -⟩
    · rw [e]; exact lkp_mem hl
    · rw [e]; simp
  refine ⟨h.turn h.pm.ismap (Nat.le_refl _) hf (by omega) (by omega) hm (fun p hp => ?_) (h.nm.frame hf (by omega)) (h.kp.frame hf (by omega)) (fun q hq => ?_) ⟨h.sz.1, h.sz.2.1⟩, hmem⟩
  · have hold : p ∈ M → Fl s p.1 ∧ B ≤ p.2 ∧ FileAt w2 p.2 (s.fs p.1) := fun h1 => ⟨(h.mf p h1).1, (h.mf p h1).2.1, (h.mf p h1).2.2.turn h.pm.ismap hf⟩
    rcases hc with ⟨e, -⟩ | ⟨e, -, hg, hfile⟩
    · rw [e] at hp; exact hold hp
    · rw [e] at hp
      rcases List.mem_append.1 hp with h1 | h1
      · exact hold h1
      · simp only [List.mem_cons, List.not_mem_nil, or_false] at h1
        rw [h1]
        exact ⟨hk, by have := h.hB; have := h.fr.size; dsimp only; omega, hfile⟩
  · obtain ⟨p, hp, e⟩ := h.fl q hq
    exact ⟨p, hsub p hp, e⟩
theorem mem_pt' {M : Nm} {s : ByteArray} {k : Nat} {x : ByteArray × Nat} (h : x ∈ pt M s k) : x = (s, k) ∨ x ∈ M := by
  unfold pt at h
  rcases List.mem_cons.1 h with e | e
  · exact .inl e
  · exact .inr (mem_dl.1 e).1
/-- Behind a store into the copy's names. -/
theorem CI.storeN {k g : Nat} {nm : ByteArray} (h : CI s w wr B cv N K C M) (hm : (k, g) ∈ M) (hn : nm.size ≤ 64) (hs : MapAt w2 (B + 3) (pt N nm g)) (hf : Fr (fun j => j = B + 3) wr w2) : CI s w w2 B cv (pt N nm g) K C M :=
  h.turn h.nm.ismap (by omega) hf (by omega) (by omega) (h.pm.frame hf (by omega) fun p hp e => by
      obtain ⟨cs, h1⟩ := h.pm.2 p hp
      obtain ⟨es, cl, h2⟩ := h.nm.ismap
      rw [(show p.1 = B + 3 from e), h2] at h1
      cases h1) (fun p hp => ⟨(h.mf p hp).1, (h.mf p hp).2.1, (h.mf p hp).2.2.turn h.nm.ismap hf⟩) hs (h.kp.frame hf (by omega)) (fun q hq => by
    rcases hq with ⟨n, hn⟩ | hq | hq
    · rcases mem_pt' hn with e | e
      · exact ⟨(k, g), hm, (congrArg Prod.snd e).symm⟩
      · exact h.fl q (.inl ⟨n, e⟩)
    · exact h.fl q (.inr (.inl hq))
    · exact h.fl q (.inr (.inr hq))) ⟨fun p hp => by
    rcases mem_pt' hp with e | e
    · rw [e]; exact hn
    · exact h.sz.1 p e, h.sz.2.1⟩
theorem CI.storeK {k g : Nat} {nm : ByteArray} (h : CI s w wr B cv N K C M) (hm : (k, g) ∈ M) (hn : nm.size ≤ 64) (hs : MapAt w2 (B + 4) (pt K nm g)) (hf : Fr (fun j => j = B + 4) wr w2) : CI s w w2 B cv N (pt K nm g) C M :=
  h.turn h.kp.ismap (by omega) hf (by omega) (by omega) (h.pm.frame hf (by omega) fun p hp e => by
      obtain ⟨cs, h1⟩ := h.pm.2 p hp
      obtain ⟨es, cl, h2⟩ := h.kp.ismap
      rw [(show p.1 = B + 4 from e), h2] at h1
      cases h1) (fun p hp => ⟨(h.mf p hp).1, (h.mf p hp).2.1, (h.mf p hp).2.2.turn h.kp.ismap hf⟩) (h.nm.frame hf (by omega)) hs (fun q hq => by
    rcases hq with hq | ⟨n, hn⟩ | hq
    · exact h.fl q (.inl hq)
    · rcases mem_pt' hn with e | e
      · exact ⟨(k, g), hm, (congrArg Prod.snd e).symm⟩
      · exact h.fl q (.inr (.inl ⟨n, e⟩))
    · exact h.fl q (.inr (.inr hq))) ⟨h.sz.1, fun p hp => by
    rcases mem_pt' hp with e | e
    · rw [e]; exact hn
    · exact h.sz.2.1 p e⟩
/-- A new block that is no row turns. -/
theorem CI.at {j : Nat} (h : CI s w wr B cv N K C M) (hf : Fr (fun k => k = j) wr w2) (hj : B + 5 ≤ j) (hno : ∀ cs t fz, wr.heap[j]? ≠ some (.cells cs t fz)) : CI s w w2 B cv N K C M := by
  have hfb : ∀ k, FBk wr k → ¬ k = j := fun k ⟨cs, hk⟩ e => hno _ _ _ (e ▸ hk)
  refine ⟨h.hB, h.fr.trans (U := fun _ => False) hf (fun _ _ h => h) fun k hk e => by have := h.hB; omega, hf.heap h.own (show ¬ (B + 1 = j) by omega), h.pm.frame hf (show ¬ (B = j) by omega) (fun p hp => hfb _ (h.pm.2 p hp)), fun p hp => ⟨(h.mf p hp).1, (h.mf p hp).2.1, (h.mf p hp).2.2.frame hf (hfb _ (h.mf p hp).2.2.fbk) fun b hb e => ?_⟩,
    hf.heap h.hx (show ¬ (B + 2 = j) by omega), h.nm.frame hf (show ¬ (B + 3 = j) by omega), h.kp.frame hf (show ¬ (B + 4 = j) by omega), hf.own h.ch (fun k hk e => ?_), h.fl, h.sz⟩
  · obtain ⟨cs, fz, hb⟩ := hb
    exact hno _ _ _ ((show b = j from e) ▸ hb)
  · rcases h.ch.2 with ⟨hv, -⟩ | ⟨g, cap, cur, hv, -, hg, -⟩
    · rw [hv] at hk; cases hk
    · rw [hv] at hk
      simp only [Value.ownBlock, Option.some.injEq] at hk
      rw [hk, (show k = j from e)] at hg
      exact hno _ _ _ hg
theorem RangeAt.left_frame {S : Nat → Prop} {b r : Nat} {X L : Nm} (h : RangeAt wr b r X L) (hf : Fr S wr w2) (hb : ¬ S b) (hr : ¬ S r) : w2.rangeLeft b r = wr.rangeLeft b r := by
  obtain ⟨es, left, cnt, ⟨a, clock, since, seen, c0, h1, h2, h3, h4, h5, rr⟩, hp⟩ := h
  unfold World.rangeLeft
  rw [h1, h5, hf.heap h1 hb, hf.heap h5 hr]
/-- The closure, whatever it is called with. -/
theorem cl_ci (h : CI s w wr B cv N K C M) (hd : DAt base w s) (o : Option Nat) (po : Option Addr) (hpo : pV o = .pointer po) (ho : ∀ k, o = some k → Fl s k) :
    Calls Tryz.prog 35 #[.pointer po, .pointer (some ⟨B + 1, 0, none⟩)] wr fun e w2 => ∃ po' M', e = .returned (.pointer po') ∧ CI s w w2 B cv N K C M' ∧ Fr (fun j => j = B) wr w2 ∧ ∃ o', pV o' = .pointer po' ∧ ∀ g, o' = some g → ∃ p ∈ M', p.2 = g := by
  cases o with
  | none =>
    obtain rfl : none = po := by simpa [pV] using hpo
    refine (cl_nil (B + 1)).mono ?_
    rintro e w2 ⟨rfl, rfl⟩
    exact ⟨none, M, rfl, h, Fr.refl _ _, none, rfl, fun g hg => by cases hg⟩
  | some k =>
    obtain rfl : some ⟨k, 0, none⟩ = po := by simpa [pV] using hpo
    refine (cl_any h.own h.pm ((hd.fl k (ho k rfl)).frame h.fr not_false fun _ _ => not_false) (hd.bd k (ho k rfl)).1).mono ?_
    rintro e w2 ⟨g, M', rfl, hpm, hf, hcs⟩
    obtain ⟨h2, hm⟩ := h.call (ho k rfl) hpm hf hcs
    exact ⟨some ⟨g, 0, none⟩, M', rfl, h2, hf, some g, rfl, fun g' hg => ⟨(k, g), hm, Option.some.inj hg⟩⟩
/-- Behind an append to the copy's changes. -/
theorem CI.push {w3 : World} {cv' : Value} {c : Chg} {fl : Option Nat} (h : CI s w wr B cv N K C M) (hf : Fr (fun k => some k = cv.ownBlock) wr w2) (ho : w2.ownsRow B 82 3 cv' (C ++ [Chg.mk c.nm c.gn fl]).length (chV (C ++ [Chg.mk c.nm c.gn fl])))
    (hs : w3 = w2.setCell ⟨B + 2, 3, none⟩ cv') (hfl : ∀ g, fl = some g → ∃ p ∈ M, p.2 = g) (hsz : c.nm.size ≤ 64 ∧ c.gn.size ≤ 64) : CI s w w3 B cv' N K (C ++ [Chg.mk c.nm c.gn fl]) M := by
  have hno : ∀ k cs t fz, wr.heap[k]? = some (.cells cs t fz) → t ≠ 82 → ¬ some k = cv.ownBlock := fun k cs t fz hk ht e => own_ne_cells h.ch hk (fun e' => ht e'.symm) k e.symm rfl
  have hnm : ∀ k es cl, wr.heap[k]? = some (.map es cl) → ¬ some k = cv.ownBlock := fun k es cl hk e => own_not_map h.ch ⟨es, cl, hk⟩ k e.symm rfl
  have hx2 := hf.heap h.hx (hno _ _ _ _ h.hx (by decide))
  have hx3 := setCell_row 3 cv' hx2
  simp only [List.setIfInBounds_toArray, List.set_cons_zero, List.set_cons_succ] at hx3
  have hf3 : Fr (fun k => k = B + 2) w2 w3 := by rw [hs]; exact (Fr.refl (fun k => k = B + 2) w2).setCell (p := ⟨B + 2, 3, none⟩) (.inl rfl) cv'
  have hfile : ∀ k f, FileAt wr k f → FileAt w3 k f := fun k f h1 => by
    obtain ⟨cs, h2⟩ := h1.fbk
    have h3 := h1.frame hf (hno _ _ _ _ h2 (by decide)) fun j ⟨cs', fz', h4⟩ => hno _ _ _ _ h4 (by decide)
    have h5 := hf.heap h2 (hno _ _ _ _ h2 (by decide))
    refine h3.frame hf3 (fun e => ?_) fun j ⟨cs', fz', h4⟩ e => ?_
    · rw [(show k = B + 2 from e), hx2] at h5
      simp only [Option.some.injEq, Obj.cells.injEq] at h5
      exact absurd h5.2.1 (by decide)
    · rw [(show j = B + 2 from e), hx2] at h4
      simp only [Option.some.injEq, Obj.cells.injEq] at h4
      exact absurd h4.2.1 (by decide)
  have hfb : ∀ k, FBk wr k → FBk w3 k := fun k ⟨cs, h2⟩ => by
    refine FBk.frame ⟨cs, hf.heap h2 (hno _ _ _ _ h2 (by decide))⟩ hf3 fun e => ?_
    have h5 := hf.heap h2 (hno _ _ _ _ h2 (by decide))
    rw [(show k = B + 2 from e), hx2] at h5
    simp only [Option.some.injEq, Obj.cells.injEq] at h5
    exact absurd h5.2.1 (by decide)
  obtain ⟨⟨es, cl, hp1, hp2⟩, hp3⟩ := h.pm
  obtain ⟨es1, cl1, hn1⟩ := h.nm.ismap
  obtain ⟨es2, cl2, hk1⟩ := h.kp.ismap
  have hB := h.hB
  refine ⟨hB, (h.fr.trans (U := fun _ => False) hf (fun _ _ h => h) fun k hk e => by have := (h.ch.lt k e.symm).1; omega).trans (U := fun _ => False) hf3 (fun _ _ h => h) fun k hk e => by omega, ?_, ⟨⟨es, cl, hf3.heap (hf.heap hp1 (hnm _ _ _ hp1)) (show ¬ (B = B + 2) by omega), hp2⟩, fun p hp => hfb _ (hp3 p hp)⟩,
    fun p hp => ⟨(h.mf p hp).1, (h.mf p hp).2.1, hfile _ _ (h.mf p hp).2.2⟩, by rw [hs]; exact hx3, (h.nm.frame hf (hnm _ _ _ hn1)).frame hf3 (show ¬ (B + 3 = B + 2) by omega), (h.kp.frame hf (hnm _ _ _ hk1)).frame hf3 (show ¬ (B + 4 = B + 2) by omega), ?_, fun k hk => ?_, ⟨h.sz.1, h.sz.2.1, fun c' hc' => ?_⟩⟩
  · exact hf3.heap (hf.heap h.own (hno _ _ _ _ h.own (by decide))) (show ¬ (B + 1 = B + 2) by omega)
  · exact hf3.own ho (own_ne_cells ho hx2 (by decide))
  · rcases hk with hk | hk | ⟨c', hc', e⟩
    · exact h.fl k (.inl hk)
    · exact h.fl k (.inr (.inl hk))
    · rcases List.mem_append.1 hc' with h1 | h1
      · exact h.fl k (.inr (.inr ⟨c', h1, e⟩))
      · simp only [List.mem_cons, List.not_mem_nil, or_false] at h1
        rw [h1] at e
        exact hfl k e
  · rcases List.mem_append.1 hc' with h1 | h1
    · exact h.sz.2.2 c' h1
    · simp only [List.mem_cons, List.not_mem_nil, or_false] at h1
      rw [h1]
      exact hsz
/-- A new block of changes turns. -/
theorem CI.at2 {j : Nat} (h : CI s w wr B cv N K C M) (hf : Fr (fun k => k = j) wr w2) (hj : B + 5 ≤ j) (hty : ∀ cs t fz, wr.heap[j]? = some (.cells cs t fz) → t = 82) (hcv : ∀ k, cv.ownBlock = some k → ¬ k = j) : CI s w w2 B cv N K C M := by
  have hfb : ∀ k, FBk wr k → ¬ k = j := fun k ⟨cs, hk⟩ e => absurd (hty _ _ _ (e ▸ hk)) (by decide)
  refine ⟨h.hB, h.fr.trans (U := fun _ => False) hf (fun _ _ h => h) fun k hk e => by have := h.hB; omega, hf.heap h.own (show ¬ (B + 1 = j) by omega), h.pm.frame hf (show ¬ (B = j) by omega) (fun p hp => hfb _ (h.pm.2 p hp)), fun p hp => ⟨(h.mf p hp).1, (h.mf p hp).2.1, (h.mf p hp).2.2.frame hf (hfb _ (h.mf p hp).2.2.fbk) fun b hb e => ?_⟩,
    hf.heap h.hx (show ¬ (B + 2 = j) by omega), h.nm.frame hf (show ¬ (B + 3 = j) by omega), h.kp.frame hf (show ¬ (B + 4 = j) by omega), hf.own h.ch hcv, h.fl, h.sz⟩
  obtain ⟨cs, fz, hb⟩ := hb
  exact absurd (hty _ _ _ ((show b = j from e) ▸ hb)) (by decide)
theorem wpList_appendR {P : Program} {ops : Array Oper} {rest : List Oper} {o : Oper} {a : Act} {w : World} {Q : Exit → Act → World → Prop} (hgd : o.guard = none) (s x : Operand) (t : TypeId)
    (ho : o.op = .call { callee := .builtin .append, args := #[s, x], argTypes := #[t, t] })
    (e : TypeId) (z : Value) (sz bytes : Nat) (ht : P.underlying t = some (.slice e)) (hrow : (P.info? e).map (fun i => (i.zero, i.size, i.bytes)) = some (some z, sz, bytes)) (hzs : z.cells.size = sz) (hsz0 : 0 < sz)
    (v : Value) (hs : a.eval s = v) (base n : Nat) (xs : List Value) (hown : w.ownsRow base e sz v n xs)
    (g0 c : Nat) (us : List Value) (hus : us.length = sz) (hx : a.eval x = .slice (some ⟨g0, 0, none⟩) 1 c) (hu : ∀ j y, us[j]? = some y → w.cell? ⟨g0, j, none⟩ = some y) (h1 : ∀ y ∈ us, y.oneCell' = true)
    (h63 : n + 1 ≤ 1099511627776) (hby : bytes ≤ 64) (hbase : base ≤ w.heap.size)
    (h : ∀ g cap w', w'.ownsRow base e sz (.slice (some ⟨g, 0, none⟩) (n + 1) cap) (n + 1) (xs ++ us) → Fr (fun k => some k = v.ownBlock) w w' → (v.ownBlock = some g ∨ w.heap.size ≤ g) → wpList P ops Q rest (a.put o.dst (.slice (some ⟨g, 0, none⟩) (n + 1) cap)) w') : wpList P ops Q (o :: rest) a w :=
  wpList_plain hgd fun _ hK => wp_appendR s x t ho e z sz bytes ht hrow hzs hsz0 v hs base n xs hown g0 c us hus hx hu h1 h63 hby hbase fun g cap w' h2 h3 h4 => hK _ _ (h g cap w' h2 h3 h4)
/-- The disk that it is in the end. -/
def cloneS (s : DS) (B : Nat) (cv : Value) (N K : Nm) (C : List Chg) (M : List (Nat × Nat)) : DS :=
  { s with X := B + 2, bn := B + 3, bk := B + 4, cv := cv, names := N, kept := K, ch := C, fs := fun g => match M.find? (fun p => p.2 == g) with
    | some p => s.fs p.1
    | none => ⟨0, [], 0⟩ }
theorem CI.done (h : CI s w wr B cv N K C M) (hd : DAt base w s) (hl : N.length ≤ s.names.length ∧ K.length ≤ s.kept.length ∧ C.length = s.ch.length) : DAt B wr (cloneS s B cv N K C M) := by
  have key : ∀ k, Fl (cloneS s B cv N K C M) k → ∃ p ∈ M, p.2 = k ∧ (cloneS s B cv N K C M).fs k = s.fs p.1 := fun k hk => by
    obtain ⟨p, hp, e⟩ := h.fl k hk
    cases hf : M.find? (fun p => p.2 == k) with
    | none => exact absurd (List.find?_eq_none.1 hf p hp) (by simp [e])
    | some q =>
      refine ⟨q, List.mem_of_find?_eq_some hf, by simpa using List.find?_some hf, ?_⟩
      simp only [cloneS]
      rw [hf]
  have hcn := hd.cn
  refine ⟨h.hx, h.nm, h.kp, (by show B + 3 ≠ B + 4; omega), h.ch, fun k hk => ?_, fun k hk => ?_, h.sz, fun k hk => ?_, hd.rm, ?_⟩
  · obtain ⟨p, hp, e, e2⟩ := key k hk
    rw [e2, ← e]
    exact (h.mf p hp).2.2
  · rcases hk with e | e | e | e | hk
    · have e : k = B + 2 := e; omega
    · have e : k = B + 3 := e; omega
    · have e : k = B + 4 := e; omega
    · exact (h.ch.lt k e).1
    · obtain ⟨p, hp, e, -⟩ := key k hk
      have := (h.mf p hp).2.1
      omega
  · obtain ⟨p, hp, e, e2⟩ := key k hk
    rw [e2]
    exact hd.bd p.1 (h.mf p hp).1
  · show N.length ≤ s.calls ∧ K.length ≤ s.calls ∧ K.length + C.length ≤ s.calls ∧ s.files ≤ _ ∧ s.armed ≤ _
    omega
end Go.Proofs.YtlhbgobjhddhlaaGreatDoor
