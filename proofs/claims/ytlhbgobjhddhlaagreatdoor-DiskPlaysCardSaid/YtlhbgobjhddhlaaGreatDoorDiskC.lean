/- Package disk: apply, change. -/
import Derived.Test.YtlhbgobjhddhlaaGreatDoorDiskB
import Derived.Test.YtlhbgobjhddhlaaGreatDoorAppR
import Derived.Test.YtlhbgobjhddhlaaGreatDoorRegion
namespace Go.Proofs.YtlhbgobjhddhlaaGreatDoor
open Go.RowKit
variable {base : Nat} {w w' : World} {s : DS}

theorem ba_toList_inj' {s t : ByteArray} (h : s.toList = t.toList) : s = t := by
  have := congrArg List.toArray h
  cases s; cases t
  simpa [ByteArray.toList_eq] using this
def applyM (M : Nm) (c : Chg) : Nm :=
  match c.fl with
  | none => if c.gn = ⟨#[]⟩ then M else dl M c.gn
  | some f => pt (if c.gn = ⟨#[]⟩ then M else dl M c.gn) c.nm f
theorem dl_len (M : Nm) (s : ByteArray) : (dl M s).length ≤ M.length := List.length_filter_le _ _
theorem applyM_len (M : Nm) (c : Chg) : (applyM M c).length ≤ M.length + 1 := by
  have h1 := dl_len M c.gn
  unfold applyM
  split
  · split <;> omega
  · unfold pt
    rw [List.length_cons]
    have h2 := dl_len (if c.gn = ⟨#[]⟩ then M else dl M c.gn) c.nm
    have h3 : (if c.gn = ⟨#[]⟩ then M else dl M c.gn).length ≤ M.length := by split <;> omega
    omega
theorem applyM_mem {M : Nm} {c : Chg} {p : ByteArray × Nat} (h : p ∈ applyM M c) : p ∈ M ∨ (c.fl = some p.2 ∧ p.1 = c.nm) := by
  unfold applyM at h
  split at h
  · split at h
    · exact .inl h
    · exact .inl (mem_dl.1 h).1
  · rename_i f hf
    unfold pt at h
    rcases List.mem_cons.1 h with rfl | h
    · exact .inr ⟨hf, rfl⟩
    · have h1 := (mem_dl.1 h).1
      split at h1
      · exact .inl h1
      · exact .inl (mem_dl.1 h1).1
set_option maxRecDepth 100000 in
set_option maxHeartbeats 1600000 in
theorem apply_any {b : Nat} {M : Nm} (h : MapAt w b M) (c : Chg) (hM : M.length < maxLen) (hc : c.nm.size ≤ 64 ∧ c.gn.size ≤ 64) :
    Calls Tryz.prog 53 #[.map (some b), .agg #[.string c.nm, .string c.gn, pV c.fl]] w fun e w' => e = .returned (.tuple #[]) ∧ MapAt w' b (applyM M c) ∧ Fr (fun k => k = b) w w' := by
  obtain ⟨nm, gn, fl⟩ := c
  dsimp only at hc ⊢
  have hF := (Fr.refl (fun _ => False) w).alloc (.cells #[.string nm, .string gn, pV fl] 82)
  have hM1 := h.frame hF not_false
  have hr := heap_alloc_new w (.cells #[.string nm, .string gn, pV fl] 82)
  have hne : w.heap.size ≠ b := by have := h.lt; omega
  have hmx : nm.size ≤ maxLen ∧ gn.size ≤ maxLen := by unfold maxLen; omega
  have HF := hid hF; have HM1 := hid hM1; have HR := hid hr; have HNE := hid hne; have HMX := hid hmx; have HML := hid hM
  clear h hF hM1 hr hne hc hmx hM
  have key : ∀ W : World, W.heap[w.heap.size]? = some (.cells #[.string nm, .string gn, pV fl] 82) → W.cell? ⟨w.heap.size, 0, none⟩ = some (.string nm) ∧ W.cell? ⟨w.heap.size, 1, none⟩ = some (.string gn) ∧ W.cell? ⟨w.heap.size, 2, none⟩ = some (pV fl) := fun W hW => by
    refine ⟨?_, ?_, ?_⟩
    all_goals (rw [cell_of_row _ _ _ _ _ _ hW]; rfl)
  have KEY := hid key
  clear key
  have hgb : gn ≠ ⟨#[]⟩ → gn.toList.isEmpty = false := fun h => by
    cases hl : gn.toList with
    | nil => exact absurd (ba_toList_inj' (t := ⟨#[]⟩) (by rw [hl]; simp [ByteArray.toList_eq])) h
    | cons _ _ => rfl
  cases fl with
  | none =>
    by_cases hg : gn = ⟨#[]⟩
    · subst hg
      have HA := hid (show applyM M ⟨nm, ⟨#[]⟩, none⟩ = M by unfold applyM; simp)
      clear hgb
      go_enter Tryz.func53, Tryz.ntmps53
      go_upto_region 1 with fail
      generalize w.alloc (.cells #[.string nm, .string ⟨#[]⟩, pV none] 82) = W at *
      obtain ⟨k0, k1, k2⟩ := KEY.out W HR.out
      unfold pV at k2
      go_wp2_with fail
      go_end0
      exact ⟨rfl, by rw [HA.out]; exact HM1.out, HF.out.mono fun _ _ h => h.elim⟩
    · have HA := hid (show applyM M ⟨nm, gn, none⟩ = dl M gn by unfold applyM; simp [hg])
      obtain ⟨w2, hrun, hm2, hf2, -⟩ := HM1.out.drop HMX.out.2 0
      have hgn := hgb hg
      obtain ⟨r0, r1, r2⟩ := KEY.out w2 (hf2.heap HR.out HNE.out)
      unfold pV at r2
      have HM2 := hid hm2; have HF2 := hid hf2
      clear hgb hg hm2 hf2
      go_enter Tryz.func53, Tryz.ntmps53
      go_upto_region 1 with fail
      generalize w.alloc (.cells #[.string nm, .string gn, pV none] 82) = W at *
      obtain ⟨k0, k1, k2⟩ := KEY.out W HR.out
      unfold pV at k2
      go_wp2_with fail
      go_end0
      exact ⟨rfl, by rw [HA.out]; exact HM2.out, (HF.out.mono fun _ _ h => h.elim).trans' HF2.out⟩
  | some f =>
    by_cases hg : gn = ⟨#[]⟩
    · subst hg
      have HA := hid (show applyM M ⟨nm, ⟨#[]⟩, some f⟩ = pt M nm f by unfold applyM; simp)
      obtain ⟨w2, hrun, hm2, hf2, -⟩ := HM1.out.store HMX.out.1 f HML.out
      have HM2 := hid hm2; have HF2 := hid hf2
      clear hgb hm2 hf2
      go_enter Tryz.func53, Tryz.ntmps53
      go_upto_region 1 with fail
      generalize w.alloc (.cells #[.string nm, .string ⟨#[]⟩, pV (some f)] 82) = W at *
      obtain ⟨k0, k1, k2⟩ := KEY.out W HR.out
      unfold pV at k2
      go_wp2_with fail
      go_end0
      exact ⟨rfl, by rw [HA.out]; exact HM2.out, (HF.out.mono fun _ _ h => h.elim).trans' HF2.out⟩
    · have HA := hid (show applyM M ⟨nm, gn, some f⟩ = pt (dl M gn) nm f by unfold applyM; simp [hg])
      obtain ⟨w2, hrun, hm2, hf2, -⟩ := HM1.out.drop HMX.out.2 0
      have hgn := hgb hg
      obtain ⟨r0, r1, r2⟩ := KEY.out w2 (hf2.heap HR.out HNE.out)
      unfold pV at r2
      obtain ⟨w3, hrun3, hm3, hf3, -⟩ := hm2.store HMX.out.1 f (by have := dl_len M gn; have := HML.out; omega)
      have HM3 := hid hm3; have HF2 := hid (hf2.trans' hf3)
      clear hgb hg hm2 hf2 hm3 hf3
      go_enter Tryz.func53, Tryz.ntmps53
      go_upto_region 1 with fail
      generalize w.alloc (.cells #[.string nm, .string gn, pV (some f)] 82) = W at *
      obtain ⟨k0, k1, k2⟩ := KEY.out W HR.out
      unfold pV at k2
      go_wp2_with fail
      go_end0
      exact ⟨rfl, by rw [HA.out]; exact HM3.out, (HF.out.mono fun _ _ h => h.elim).trans' HF2.out⟩
theorem Tryz.info_change : (Tryz.prog.info? 82).map (fun i => (i.zero, i.size, i.bytes)) = some (some (.agg #[.string ⟨#[]⟩, .string ⟨#[]⟩, .pointer none]), 3, 40) := by kernel_rfl
theorem chV_snoc (l : List Chg) (c : Chg) : chV (l ++ [c]) = chV l ++ [.string c.nm, .string c.gn, pV c.fl] := by simp [chV]
/-- The blocks that change writes. -/
def CSet (s : DS) (k : Nat) : Prop := k = s.X ∨ k = s.bn ∨ s.cv.ownBlock = some k
theorem DAt.csetf (h : DAt base w s) {k : Nat} {f : FS} (hk : FileAt w k f) : ¬ CSet s k := fun hC => by
  obtain ⟨v, hm, -⟩ := hk
  rcases hC with e | e | e
  · rw [e, h.heap] at hm
    simp only [Option.some.injEq, Obj.cells.injEq] at hm
    exact absurd hm.2.1 (by decide)
  · obtain ⟨es, cl, hq, -⟩ := h.names.cells
    rw [e, hq] at hm
    cases hm
  · exact own_ne_cells h.ch hm (by decide) k e rfl
theorem DAt.changed (h : DAt base w s) (s' : DS) (hf : Fr (CSet s) w w') (hs : s'.X = s.X ∧ s'.bn = s.bn ∧ s'.bk = s.bk ∧ s'.kept = s.kept ∧ s'.room = s.room)
    (hh : w'.heap[s.X]? = some (.cells #[.int .i64 s.room, .map (some s.bn), .map (some s.bk), s'.cv, .int .i64 s'.files, .int .i64 s'.armed, .bool s'.down, .int .i64 s'.calls] 62 (0, 0)))
    (hm : MapAt w' s.bn s'.names) (ho : w'.ownsRow base 82 3 s'.cv s'.ch.length (chV s'.ch))
    (hfl : ∀ k, Fl s' k → (Fl s k ∧ s'.fs k = s.fs k) ∨ (FileAt w' k (s'.fs k) ∧ base ≤ k ∧ (s'.fs k).by_.length ≤ 4194304 ∧ (s'.fs k).sy ≤ (s'.fs k).by_.length ∧ (s'.fs k).id ≤ 4611686018427387904))
    (hsz : (∀ p ∈ s'.names, p.1.size ≤ 64) ∧ ∀ c ∈ s'.ch, c.nm.size ≤ 64 ∧ c.gn.size ≤ 64)
    (hc : s'.names.length ≤ s'.calls ∧ s.kept.length ≤ s'.calls ∧ s.kept.length + s'.ch.length ≤ s'.calls ∧ s'.files ≤ 4611686018427387904 ∧ s'.armed ≤ 9223372036854775807) : DAt base w' s' := by
  obtain ⟨X, bn, bk, cv, room, names, kept, ch, files, armed, down, calls, fs⟩ := s'
  simp only at hs hh hm ho hfl hsz hc
  obtain ⟨rfl, rfl, rfl, rfl, rfl⟩ := hs
  have hCD : ∀ k, CSet s k → DSet s k := fun k hk => by
    rcases hk with h1 | h1 | h1
    · exact .inl h1
    · exact .inr (.inl h1)
    · exact .inr (.inr (.inr (.inl h1)))
  have hmap : ∀ {k : Nat} {es : Array MapEntry} {cl : Nat}, w.heap[k]? = some (.map es cl) → ¬ k = s.X ∧ ¬ s.cv.ownBlock = some k := by
    intro k es cl hk
    refine ⟨fun e => ?_, fun e => ?_⟩
    · rw [e, h.heap] at hk
      cases hk
    · rcases h.ch.2 with ⟨hv, -⟩ | ⟨g, cap, cur, hv, -, hg, -⟩
      · rw [hv] at e; cases e
      · rw [hv] at e
        simp only [Value.ownBlock, Option.some.injEq] at e
        subst e
        rw [hg] at hk
        cases hk
  have hkeep : ∀ k, Fl s k → ¬ CSet s k := fun k hk => h.csetf (h.fl k hk)
  refine ⟨hh, hm, h.kept.frame hf ?_, h.ne, ho, fun k hk => ?_, fun k hk => ?_, ⟨hsz.1, h.sz.2.1, hsz.2⟩, fun k hk => ?_, h.rm, hc⟩
  · obtain ⟨es, cl, hq, -⟩ := h.kept.cells
    rintro (e | e | e)
    · exact (hmap hq).1 e
    · exact h.ne e.symm
    · exact (hmap hq).2 e
  · rcases hfl k hk with ⟨h1, h2⟩ | h1
    · dsimp only at h2 ⊢
      rw [h2]
      exact (h.fl k h1).frame hf (hkeep k h1) fun j hj hC => h.bytes hj (hCD j hC)
    · exact h1.1
  · rcases hk with e | e | e | e | e
    · exact h.lo k (.inl e)
    · exact h.lo k (.inr (.inl e))
    · exact h.lo k (.inr (.inr (.inl e)))
    · exact (ho.lt k e).1
    · rcases hfl k e with ⟨h1, -⟩ | h1
      · exact h.lo k (.inr (.inr (.inr (.inr h1))))
      · exact h1.2.1
  · rcases hfl k hk with ⟨h1, h2⟩ | h1
    · dsimp only at h2 ⊢
      rw [h2]
      exact h.bd k h1
    · exact h1.2.2
def changeS (s : DS) (c : Chg) (cv : Value) : DS := { s with names := applyM s.names c, ch := s.ch ++ [c], calls := s.calls + 1, cv := cv }
/-- A slice's row is the one that it was, or a new one. -/
def CvN (v0 v : Value) (w : World) : Prop := ∀ k, v.ownBlock = some k → v0.ownBlock = some k ∨ w.heap.size ≤ k
theorem CvN.older {v0 v : Value} {w0 : World} (h : CvN v0 v w) (hs : w0.heap.size ≤ w.heap.size) : CvN v0 v w0 := fun k hk => (h k hk).imp id fun h => Nat.le_trans hs h
set_option maxRecDepth 100000 in
set_option maxHeartbeats 3200000 in
theorem change_any (h : DAt base w s) (c : Chg) (hc : c.nm.size ≤ 64 ∧ c.gn.size ≤ 64) (hn : s.calls ≤ 1000000) (hb : base ≤ w.heap.size)
    (hfl : ∀ k, c.fl = some k → FileAt w k (s.fs k) ∧ base ≤ k ∧ (s.fs k).by_.length ≤ 4194304 ∧ (s.fs k).sy ≤ (s.fs k).by_.length ∧ (s.fs k).id ≤ 4611686018427387904) :
    Calls Tryz.prog 39 #[.pointer (some ⟨s.X, 0, none⟩), .agg #[.string c.nm, .string c.gn, pV c.fl]] w fun e w' => e = .returned (.tuple #[]) ∧ ∃ cv, CvN s.cv cv w ∧ DAt base w' (changeS s c cv) ∧ Fr (CSet s) w w' := by
  have hF := (Fr.refl (fun _ => False) w).alloc (.cells #[.string c.nm, .string c.gn, pV c.fl] 82)
  have hr := heap_alloc_new w (.cells #[.string c.nm, .string c.gn, pV c.fl] 82)
  have hone : ∀ y ∈ [Value.string c.nm, .string c.gn, pV c.fl], y.oneCell' = true := by
    intro y hy
    simp only [List.mem_cons, List.not_mem_nil, or_false] at hy
    rcases hy with rfl | rfl | rfl
    · rfl
    · rfl
    · cases c.fl <;> rfl
  have hcn := h.cn
  have hap := fun (W : World) (hW : MapAt W s.bn s.names) => apply_any hW c (by unfold maxLen; omega) hc
  have H := hid h; have HF := hid hF; have HR := hid hr; have HFL := hid hfl; have HONE := hid hone; have HAP := hid hap; have HC := hid hc; have HB := hid hb
  have hw7 : IntKind.i64.wrap ((s.calls : Int) + 1) = (s.calls : Int) + 1 := IntWalk.i64_in _ (by omega)
  have key : ∀ W : World, W.heap[w.heap.size]? = some (.cells #[.string c.nm, .string c.gn, pV c.fl] 82) → W.cell? ⟨w.heap.size, 0, none⟩ = some (.string c.nm) ∧ W.cell? ⟨w.heap.size, 1, none⟩ = some (.string c.gn) ∧ W.cell? ⟨w.heap.size, 2, none⟩ = some (pV c.fl) := fun W hW => by
    refine ⟨?_, ?_, ?_⟩
    all_goals (rw [cell_of_row _ _ _ _ _ _ hW]; rfl)
  have KEY := hid key
  have hlt : ∀ k, CSet s k → k ≠ w.heap.size := fun k hk e => by
    rcases hk with e1 | e1 | e1
    · have := heap_lt h.heap; omega
    · have := h.names.lt; omega
    · have := (h.ch.lt k e1).2; omega
  have HLT := hid hlt
  clear h hF hr hfl hone hap key hcn hc hb hlt
  go_enter Tryz.func39, Tryz.ntmps39
  go_upto_region 1 with fail
  obtain ⟨B, hB⟩ : ∃ B, w.heap.size = B := ⟨_, rfl⟩
  have HBB := hid hB
  rw [hB] at HR KEY HLT ⊢
  clear hB
  generalize w.alloc (.cells #[.string c.nm, .string c.gn, pV c.fl] 82) = W at *
  obtain ⟨k0, k1, k2⟩ := KEY.out W HR.out
  obtain ⟨-, x1, -⟩ := (H.out.fr HF.out).cells
  have HFV := hid (rfl : pV c.fl = pV c.fl)
  have X1 := hid x1; have K0 := hid k0; have K1 := hid k1; have K2 := hid k2
  clear x1 k0 k1 k2
  have hXb : ¬ s.X = s.bn := fun e => by
    obtain ⟨es, cl, hq, -⟩ := H.out.names.cells
    rw [← e, H.out.heap] at hq
    cases hq
  have HXB := hid hXb; have HBB2 := hid (show ¬ B = s.bn from fun e => HLT.out _ (.inr (.inl rfl)) e.symm)
  clear hXb
  refine wp_region_ord [(0, 0), (1, 0), (2, 0), (3, 0), (4, 0), (5, 1)] (fun w' => Fr (fun k => k = s.bn) W w') (by kernel_rfl) (by kernel_rfl) (by kernel_rfl) rfl (fun _ _ d _ _ h => by cases d <;> exact h) (Fr.refl _ _).drew ?_
  have HWd := hid (Fr.refl (fun k => k = s.bn) W).drew
  have HFd := hid HF.out.drew; have HRd := hid (show W.drew.heap[B]? = some (.cells #[.string c.nm, .string c.gn, pV c.fl] 82) from HR.out)
  generalize W.drew = Wd at *
  iterate 3 (refine wpO_take ?_ rfl (by kernel_rfl) ?_ ?_; rotate_left; (· intro w' hS; go_simp; try with_reducible rfl); try simp only [Act.put, List.setIfInBounds_toArray, List.set_cons_zero, List.set_cons_succ])
  (refine wpO_take ?_ rfl (by kernel_rfl) ?_ ?_; rotate_left; (· intro w' hS; have d1 := hS.cell X1.out HXB.out; go_simp; try with_reducible rfl); try simp only [Act.put, List.setIfInBounds_toArray, List.set_cons_zero, List.set_cons_succ])
  (refine wpO_take ?_ rfl (by kernel_rfl) ?_ ?_; rotate_left; (· intro w' hS; have d0 := hS.cell K0.out HBB2.out; have d1 := hS.cell K1.out HBB2.out; have d2 := hS.cell K2.out HBB2.out; go_simp; try with_reducible rfl); try simp only [Act.put, List.setIfInBounds_toArray, List.set_cons_zero, List.set_cons_succ])
  refine wpO_run rfl (by kernel_rfl) (fun K hK => ?_); go_simp
  refine (HAP.out Wd (H.out.fr HFd.out).names).mono ?_
  rintro e w2 ⟨rfl, hm2, hf2⟩
  refine hK _ _ (fun _ => HWd.out.trans' hf2) ?_
  clear hK K
  try simp only [Act.put, List.setIfInBounds_toArray, List.set_cons_zero, List.set_cons_succ]
  refine wpO_end ?_
  have hD := H.out.fr HFd.out
  have hXb := HXB.out
  have hcb : ∀ k, s.cv.ownBlock = some k → ¬ k = s.bn := fun k hk e => by
    obtain ⟨es, cl, hq, -⟩ := hD.names.cells
    rcases hD.ch.2 with ⟨hv, -⟩ | ⟨g, cap, cur, hv, -, hg, -⟩
    · rw [hv] at hk; cases hk
    · rw [hv] at hk
      simp only [Value.ownBlock, Option.some.injEq] at hk
      subst hk
      rw [← e, hg] at hq
      cases hq
  have hx2 := hf2.heap hD.heap hXb
  have hch2 := hf2.own hD.ch hcb
  have hB2 := hf2.heap HRd.out (fun e => HLT.out _ (.inr (.inl rfl)) e.symm)
  have hXc : ¬ some s.X = s.cv.ownBlock := fun e => own_ne_cells hch2 hx2 (by decide) s.X e.symm rfl
  have hBc : ¬ some B = s.cv.ownBlock := fun e => HLT.out B (.inr (.inr e.symm)) rfl
  have hbc : ¬ some s.bn = s.cv.ownBlock := fun e => hcb s.bn e.symm rfl
  have hbs2 : base ≤ w2.heap.size := by have := HB.out; have := HFd.out.size; have := hf2.size; omega
  have c3 : w2.cell? ⟨s.X, 3, none⟩ = some s.cv := by rw [cell_of_row _ _ _ _ _ _ hx2]; rfl
  obtain ⟨q0, q1, q2⟩ := KEY.out w2 hB2
  have C3 := hid c3; have Q0 := hid q0; have Q1 := hid q1; have Q2 := hid q2; have HX2 := hid hx2; have HCH2 := hid hch2; have HM2 := hid hm2; have HF2 := hid hf2
  have HXC := hid hXc; have HBC := hid hBc; have HbC := hid hbc; have HBS := hid hbs2
  clear hm2 hf2 hD hXb hcb hx2 hch2 hB2 hXc hBc hbc c3 q0 q1 q2 hbs2
  go_upto_region 2 with fail
  refine wp_region_ord [(0, 0), (1, 0), (2, 0), (3, 0), (4, 0), (5, 0), (6, 1), (7, 1), (8, 1), (9, 1), (10, 1)] (fun w' => Fr (fun k => some k = s.cv.ownBlock) w2 w') (by kernel_rfl) (by kernel_rfl) (by kernel_rfl) rfl (fun _ _ d _ _ h => by cases d <;> exact h) (Fr.refl _ _).drew ?_
  iterate 4 (refine wpO_take ?_ rfl (by kernel_rfl) ?_ ?_; rotate_left; (· intro w' hS; go_simp; try with_reducible rfl); try simp only [Act.put, List.setIfInBounds_toArray, List.set_cons_zero, List.set_cons_succ])
  (refine wpO_take ?_ rfl (by kernel_rfl) ?_ ?_; rotate_left; (· intro w' hS; have d1 := hS.cell C3.out HXC.out; go_simp; try with_reducible rfl); try simp only [Act.put, List.setIfInBounds_toArray, List.set_cons_zero, List.set_cons_succ])
  (refine wpO_take ?_ rfl (by kernel_rfl) ?_ ?_; rotate_left; (· intro w' hS; have d0 := hS.cell Q0.out HBC.out; have d1 := hS.cell Q1.out HBC.out; have d2 := hS.cell Q2.out HBC.out; go_simp; try with_reducible rfl); try simp only [Act.put, List.setIfInBounds_toArray, List.set_cons_zero, List.set_cons_succ])
  have hfa := (Fr.refl (fun _ => False) w2).drew.alloc (.cells #[.string c.nm, .string c.gn, pV c.fl] 82)
  have hcn2 := cells_newR w2.drew #[.string c.nm, .string c.gn, pV c.fl] 82 (0, 0)
  have hba : base ≤ (w2.drew.alloc (.cells #[.string c.nm, .string c.gn, pV c.fl] 82)).heap.size := by have := HBS.out; have := hfa.size; omega
  refine wpO_run rfl (by kernel_rfl) (fun K hK => ?_); go_simp
  refine hK _ _ (fun _ => hfa.mono fun _ _ h => h.elim) ?_
  clear hK K
  try simp only [Act.put, List.setIfInBounds_toArray, List.set_cons_zero, List.set_cons_succ]
  refine wpO_run rfl (by kernel_rfl) (fun K hK => ?_)
  refine wp_appendR (.tmp 14) (.tmp 16) 60 rfl 82 (.agg #[.string ⟨#[]⟩, .string ⟨#[]⟩, .pointer none]) 3 40 Tryz.underlying60 Tryz.info_change rfl (by decide) s.cv rfl base s.ch.length (chV s.ch) (hfa.own HCH2.out fun _ _ => not_false) w2.drew.heap.size 1 [.string c.nm, .string c.gn, pV c.fl] rfl rfl hcn2 HONE.out (by have := H.out.cn; omega) (by decide) hba ?_
  intro g cap w4 ho4 hf4 hg4
  have hx4 := hf4.heap (hfa.heap HX2.out not_false) HXC.out
  have f3 : w4.frozen? ⟨s.X, 3, none⟩ = false := frozen_of_row _ _ _ _ _ hx4
  have c3' : w4.cell? ⟨s.X, 3, none⟩ = some s.cv := by rw [cell_of_row _ _ _ _ _ _ hx4]; rfl
  refine hK _ _ (fun _ => (hfa.mono fun _ _ h => h.elim).trans' hf4) ?_
  clear hK K
  try simp only [Act.put, List.setIfInBounds_toArray, List.set_cons_zero, List.set_cons_succ]
  have ho5 : w4.ownsRow base 82 3 (.slice (some ⟨g, 0, none⟩) (s.ch.length + 1) cap) (s.ch ++ [c]).length (chV (s.ch ++ [c])) := by
    rw [chV_snoc, List.length_append]
    exact ho4
  have hF4 := ((HFd.out.trans (U := CSet s) HF2.out (fun _ _ h => h.elim) (fun _ _ h => .inr (.inl h))).trans (U := CSet s) hfa (fun _ _ h => h) (fun _ _ h => h.elim)).trans (U := CSet s) hf4 (fun _ _ h => h) (fun _ _ h => .inr (.inr h.symm))
  have hm4 := (HM2.out.frame hfa not_false).frame hf4 HbC.out
  have hcvn : CvN s.cv (.slice (some ⟨g, 0, none⟩) (s.ch.length + 1) cap) w := fun k hk => by
    obtain rfl : g = k := by simpa [Value.ownBlock] using hk
    have h1 := HBB.out; have h2 := HFd.out.size; have h3 := HF2.out.size; have h4 := hfa.size
    exact hg4.imp id fun h => by
      have h5 : w2.heap.size ≤ g := Nat.le_trans ((Fr.refl (fun _ => False) w2).alloc _).drew.size h
      omega
  have HX4 := hid hx4; have HO5 := hid ho5; have HF4 := hid hF4; have HM4 := hid hm4; have HCV := hid hcvn
  clear ho4 hf4 hg4 hx4 ho5 hF4 hm4 hfa hcn2 hba hcvn
  iterate 2
    refine wpO_run rfl (by kernel_rfl) (fun K hK => ?_)
    go_simp
    refine hK _ _ (last_skip (by kernel_rfl)) ?_
    clear hK K
    try simp only [Act.put, List.setIfInBounds_toArray, List.set_cons_zero, List.set_cons_succ]
  refine wpO_run rfl (by kernel_rfl) (fun K hK => ?_)
  go_simp
  refine hK _ _ (last_skip (by kernel_rfl)) ?_
  clear hK K
  try simp only [Act.put, List.setIfInBounds_toArray, List.set_cons_zero, List.set_cons_succ]
  refine wpO_end ?_
  obtain ⟨cv', hcv⟩ : ∃ v, v = Value.slice (some ⟨g, 0, none⟩) (s.ch.length + 1) cap := ⟨_, rfl⟩
  rw [← hcv] at HO5 HCV
  have hne5 := own_ne_cells HO5.out HX4.out (by decide)
  rw [← hcv]
  clear hcv
  have hx5 := setCell_row 3 cv' HX4.out
  simp only [List.setIfInBounds_toArray, List.set_cons_zero, List.set_cons_succ] at hx5
  have hF5 := HF4.out.setCell (p := ⟨s.X, 3, none⟩) (.inl (.inl rfl)) cv'
  have hf45 := (Fr.refl (fun k => k = s.X) w4).setCell (p := ⟨s.X, 3, none⟩) (.inl rfl) cv'
  have ho5 := hf45.own HO5.out hne5
  have hm5 := HM4.out.frame hf45 (fun e => HXB.out e.symm)
  clear f3 c3' hf45
  generalize w4.setCell ⟨s.X, 3, none⟩ cv' = w5 at *
  have c7 : w5.cell? ⟨s.X, 7, none⟩ = some (.int .i64 s.calls) := by rw [cell_of_row _ _ _ _ _ _ hx5]; rfl
  have f7 : w5.frozen? ⟨s.X, 7, none⟩ = false := frozen_of_row _ _ _ _ _ hx5
  have HX5 := hid hx5; have HF5 := hid hF5; have HO := hid ho5; have HM5 := hid hm5; have HN5 := hid hne5
  clear hx5 hF5 ho5 hm5 hne5
  go_wp2_with fail
  go_end0
  have hx6 := setCell_row 7 (.int .i64 ((s.calls : Int) + 1)) HX5.out
  simp only [List.setIfInBounds_toArray, List.set_cons_zero, List.set_cons_succ] at hx6
  have hf56 := (Fr.refl (fun k => k = s.X) w5).setCell (p := ⟨s.X, 7, none⟩) (.inl rfl) (.int .i64 ((s.calls : Int) + 1))
  have hF6 := HF5.out.setCell (p := ⟨s.X, 7, none⟩) (.inl (.inl rfl)) (.int .i64 ((s.calls : Int) + 1))
  have hcn := H.out.cn
  have hal := applyM_len s.names c
  refine ⟨rfl, cv', HCV.out, H.out.changed (changeS s c cv') hF6 ⟨rfl, rfl, rfl, rfl, rfl⟩ (by simpa [changeS] using hx6) (HM5.out.frame hf56 fun e => HXB.out e.symm) (hf56.own HO.out HN5.out) (fun k hk => ?_) ⟨fun p hp => ?_, fun c' hc' => ?_⟩ ?_, hF6⟩
  · have key : Fl s k ∨ c.fl = some k := by
      rcases hk with ⟨n, hn⟩ | hk | ⟨c', hc', e⟩
      · rcases applyM_mem hn with h1 | h1
        · exact .inl (.inl ⟨n, h1⟩)
        · exact .inr h1.1
      · exact .inl (.inr (.inl hk))
      · rcases List.mem_append.1 hc' with h1 | h1
        · exact .inl (.inr (.inr ⟨c', h1, e⟩))
        · simp at h1
          subst h1
          exact .inr e
    rcases key with h1 | h1
    · exact .inl ⟨h1, rfl⟩
    · obtain ⟨g1, g2⟩ := HFL.out k h1
      refine .inr ⟨g1.frame hF6 (H.out.csetf g1) fun j hj hC => H.out.bytes hj ?_, g2⟩
      rcases hC with e | e | e
      · exact .inl e
      · exact .inr (.inl e)
      · exact .inr (.inr (.inr (.inl e)))
  · rcases applyM_mem hp with h1 | h1
    · exact H.out.sz.1 p h1
    · rw [h1.2]; exact HC.out.1
  · rcases List.mem_append.1 hc' with h1 | h1
    · exact H.out.sz.2.2 c' h1
    · simp at h1
      subst h1
      exact HC.out
  · simp only [changeS, List.length_append, List.length_cons, List.length_nil]
    omega
end Go.Proofs.YtlhbgobjhddhlaaGreatDoor
