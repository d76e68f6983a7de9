/- Disks beside one another: each call keeps to its own disk's blocks, and goes by the disk's image alone. -/
import Derived.Test.YtlhbgobjhddhlaaGreatDoorDiskX
import Derived.Test.YtlhbgobjhddhlaaGreatDoorDiskCo
namespace Go.Proofs.YtlhbgobjhddhlaaGreatDoor
open Go.RowKit
variable {w0 w w' : World} {pa : Nat → Addr} {nm : ByteArray} {X : Nat} {q : PS} {D : Nat → Prop} {s : DS}

theorem DAt.dlt {base : Nat} (h : DAt base w s) {k : Nat} (hk : DSet s k) : k < w.heap.size := by
  rcases hk with e | e | e | e | e
  · rw [e]; exact heap_lt h.heap
  · rw [e]; exact h.names.lt
  · rw [e]; exact h.kept.lt
  · exact (h.ch.lt k e).2
  · exact (h.fl k e).lt
/-- A disk whose image is q, in the blocks D. -/
def TW (w0 w : World) (X : Nat) (q : PS) (D : Nat → Prop) : Prop := ∃ s, LW w0 w s ∧ s.X = X ∧ Im (ps s) q ∧ D = DSet s
theorem TW.lt (h : TW w0 w X q D) {k : Nat} (hk : D k) : k < w.heap.size := by
  obtain ⟨s, h, -, -, rfl⟩ := h
  exact h.d.dlt hk
theorem TW.lo (h : TW w0 w X q D) {k : Nat} (hk : D k) : w0.heap.size ≤ k := by
  obtain ⟨s, h, -, -, rfl⟩ := h
  exact h.d.lo k hk
theorem TW.bb (h : TW w0 w X q D) {k : Nat} (hk : BB w k) : ¬ D k := by
  obtain ⟨s, h, -, -, rfl⟩ := h
  exact h.d.bytes hk
theorem TW.f (h : TW w0 w X q D) : Fr (fun _ => False) w0 w := by
  obtain ⟨s, h, -⟩ := h
  exact h.f
theorem TW.cells (h : TW w0 w X q D) {k : Nat} {cs : Array Value} {t : TypeId} {fz : Nat × Nat} (hc : w.heap[k]? = some (.cells cs t fz)) (h1 : t ≠ 62) (h2 : t ≠ 82) (h3 : t ≠ 78) : ¬ D k := by
  obtain ⟨s, h, -, -, rfl⟩ := h
  intro hd
  rcases h.d.other hd hc with e | e | e
  · exact h1 e
  · exact h2 e
  · exact h3 e
theorem TW.frame {S : Nat → Prop} (h : TW w0 w X q D) (hf : Fr S w w') (hS : ∀ k, D k → ¬ S k) (hB : ∀ k, BB w k → ¬ S k) (h0 : ∀ k, k < w0.heap.size → ¬ S k) : TW w0 w' X q D := by
  obtain ⟨s, h, hX, hi, rfl⟩ := h
  exact ⟨s, ⟨h.d.frame hf hS hB, h.f.trans (U := fun _ => False) hf (fun _ _ h => h) fun k hk e => h0 k hk e⟩, hX, hi, rfl⟩
theorem TW.fr (h : TW w0 w X q D) (hf : Fr (fun _ => False) w w') : TW w0 w' X q D := h.frame hf (fun _ _ => id) (fun _ _ => id) fun _ _ => id
/-- Behind a call: the blocks are the old ones, or new. -/
def St1 (w0 w w' : World) (X : Nat) (D : Nat → Prop) (q' : PS) : Prop := ∃ D', TW w0 w' X q' D' ∧ Fr D w w' ∧ ∀ k, D' k → D k ∨ w.heap.size ≤ k
/-- The other disk stands. -/
theorem St1.other {X2 : Nat} {q' q2 : PS} {D2 : Nat → Prop} (h : TW w0 w X q D) (hs : St1 w0 w w' X D q') (h2 : TW w0 w X2 q2 D2) (ha : ∀ k, D k → ¬ D2 k) :
    ∃ D', TW w0 w' X q' D' ∧ TW w0 w' X2 q2 D2 ∧ (∀ k, D' k → ¬ D2 k) ∧ Fr D w w' ∧ ∀ k, D' k → D k ∨ w.heap.size ≤ k := by
  obtain ⟨D', h1, hf, hn⟩ := hs
  refine ⟨D', h1, h2.frame hf (fun k hk hd => ha k hd hk) (fun k hk => h.bb hk) (fun k hk hd => by have := h.lo hd; omega), fun k hk hd => ?_, hf, hn⟩
  rcases hn k hk with e | e
  · exact ha k e hd
  · have := h2.lt hd; omega
theorem ds_new {s' : DS} (hX : s'.X = s.X ∨ w.heap.size ≤ s'.X) (hbn : s'.bn = s.bn ∨ w.heap.size ≤ s'.bn) (hbk : s'.bk = s.bk ∨ w.heap.size ≤ s'.bk) (hcv : CvN s.cv s'.cv w) (hfl : ∀ k, Fl s' k → Fl s k ∨ w.heap.size ≤ k) : ∀ k, DSet s' k → DSet s k ∨ w.heap.size ≤ k := by
  intro k hk
  rcases hk with e | e | e | e | e
  · rcases hX with h | h
    · exact .inl (.inl (e.trans h))
    · exact .inr (by omega)
  · rcases hbn with h | h
    · exact .inl (.inr (.inl (e.trans h)))
    · exact .inr (by omega)
  · rcases hbk with h | h
    · exact .inl (.inr (.inr (.inl (e.trans h))))
    · exact .inr (by omega)
  · rcases hcv k e with h | h
    · exact .inl (.inr (.inr (.inr (.inl h))))
    · exact .inr h
  · rcases hfl k e with h | h
    · exact .inl (.inr (.inr (.inr (.inr h))))
    · exact .inr h
theorem CvN.refl (v : Value) (w : World) : CvN v v w := fun _ h => .inl h
theorem CvN.nil (v : Value) (w : World) : CvN v (.slice none 0 0) w := fun _ h => by cases h
/-- What the calls do to an image, and what they answer. -/
def PS.findE (q : PS) (nm : ByteArray) : Nat := if q.begE = 0 then (if lk q.names nm = none then 107 else 0) else 110
def PS.createE (q : PS) (nm : ByteArray) : Nat := if q.begE ≠ 0 then 110 else if okN nm = false then 106 else if lk q.names nm ≠ none then 108 else 0
def PS.createQ (q : PS) (nm : ByteArray) : PS := if q.createE nm = 0 then q.beg.create nm (q.beg.files + 1) else q.beg
def PS.appE (q : PS) (nm : ByteArray) (m : List UInt8) : Nat := if q.findE nm ≠ 0 then q.findE nm else if q.room - (q.used : Int) < m.length then 109 else 0
/-- Into a file. -/
def PS.upd (q : PS) (nm : ByteArray) (g : FS → FS) : PS := match lk q.names nm with
  | some k => q.beg.put k (g (q.fs k))
  | none => q.beg
def PS.appQ (q : PS) (nm : ByteArray) (m : List UInt8) : PS := if q.appE nm m = 0 then q.upd nm fun f => ⟨f.id, f.by_ ++ m, f.sy⟩ else q.beg
def PS.syncQ (q : PS) (nm : ByteArray) : PS := if q.findE nm = 0 then q.upd nm fun f => ⟨f.id, f.by_, f.by_.length⟩ else q.beg
def PS.lenN (q : PS) (nm : ByteArray) : Nat := match lk q.names nm with
  | some k => (q.fs k).by_.length
  | none => 0
def PS.cutE (q : PS) (nm : ByteArray) (n : Int) : Nat := if q.findE nm ≠ 0 then q.findE nm else if n < 0 ∨ (q.lenN nm : Int) < n then 105 else 0
def PS.cutQ (q : PS) (nm : ByteArray) (n : Int) : PS := if q.cutE nm n = 0 then q.upd nm fun f => ⟨f.id, f.by_.take n.toNat, n.toNat⟩ else q.beg
def PS.renE (q : PS) (nm nt : ByteArray) : Nat := if q.findE nm ≠ 0 then q.findE nm else if okN nt = false then 106 else 0
def PS.renQ (q : PS) (nm nt : ByteArray) : PS := if q.renE nm nt = 0 then (match lk q.names nm with
  | some k => q.beg.change (renC nm nt k)
  | none => q.beg) else q.beg
def PS.remQ (q : PS) (nm : ByteArray) : PS := if q.findE nm = 0 then q.beg.change ⟨⟨#[]⟩, nm, none⟩ else q.beg
def PS.dirQ (q : PS) : PS := if q.begE = 0 then q.beg.syncDir else q.beg
theorem Im.findE {p : PS} (h : Im p q) : q.findE nm = p.findE nm := by
  unfold PS.findE
  rw [h.begE]
  simp only [h.lk_none]
theorem findE_ps : findE s nm = (ps s).findE nm := rfl
theorem Im.createE {p : PS} (h : Im p q) : q.createE nm = p.createE nm := by
  unfold PS.createE
  rw [h.begE]
  simp only [ne_eq, h.lk_none]
theorem TW.to {S : Nat → Prop} {s' : DS} {q' : PS} (h : LW w0 w s) (hd : LW w0 w' s') (hX : s.X = X) (hi : Im (ps s') q') (hX' : s'.X = s.X) (hf : Fr S w w') (hS : ∀ k, S k → DSet s k) (hn : ∀ k, DSet s' k → DSet s k ∨ w.heap.size ≤ k) : St1 w0 w w' X (DSet s) q' :=
  ⟨DSet s', ⟨s', hd, hX'.trans hX, hi, rfl⟩, hf.mono fun k _ e => hS k e, hn⟩
theorem dset_beg : ∀ k, DSet (beginS s) k → DSet s k := fun k hk => by
  obtain ⟨b1, b2, b3, b4, -, b6, b7, b8, -⟩ := beginS_same s
  unfold DSet Fl at hk ⊢
  rw [b1, b2, b3, b4, b6, b7, b8] at hk
  exact hk
theorem st_beg {S : Nat → Prop} (h : LW w0 w s) (hX : s.X = X) (hi : Im (ps s) q) (hd : LW w0 w' (beginS s)) (hf : Fr S w w') (hS : ∀ k, S k → DSet s k) : St1 w0 w w' X (DSet s) q.beg :=
  TW.to h hd hX (by rw [ps_beg]; exact hi.beg) (beginS_same s).1 hf hS fun k hk => .inl (dset_beg k hk)
theorem create_t (h : TW w0 w X q D) (hS : S6 w0.heap.size w0 pa) (hn : nm.size ≤ 1048576) (hc : q.calls ≤ 1000000 ∧ q.files ≤ 1000000) :
    Calls Tryz.prog 10 #[.pointer (some ⟨X, 0, none⟩), .string nm] w fun e w' => e = .returned (errV pa (q.createE nm)) ∧ St1 w0 w w' X D (q.createQ nm) := by
  obtain ⟨s, h, rfl, hi, rfl⟩ := h
  refine (create_any pa (h.s6 hS) h.d nm hn (by have h1 := hi.calls; have h2 := hi.files; exact ⟨by rw [show s.calls = (ps s).calls from rfl, ← h1]; exact hc.1, by rw [show s.files = (ps s).files from rfl, ← h2]; exact hc.2⟩) h.le).mono ?_
  rintro e w2 ⟨rfl, h1, h2⟩
  have hE : createE s nm = q.createE nm := by rw [hi.createE]; rfl
  rw [hE] at h1 h2 ⊢
  refine ⟨rfl, ?_⟩
  unfold PS.createQ
  by_cases h0 : q.createE nm = 0
  · rw [if_pos h0]
    obtain ⟨F, cv, hF, hcv, hd, hf⟩ := h2 h0
    have hl := h.to hd hf fun _ => cset_dset
    obtain ⟨b1, b2, b3, b4, -, b6, b7, b8, -⟩ := beginS_same s
    have hps : ps (createS s nm F cv) = (ps s).beg.create nm F := by
      rw [← ps_beg]
      unfold createS changeS addFile PS.create applyM ps Go.Proofs.YtlhbgobjhddhlaaGreatDoor.upd
      simp
    refine TW.to h hl.1 rfl (by rw [hps]; exact hi.beg.create fun k hk e => by have := (h.d.fl k (PFl.beg.1 hk)).lt; omega) b1 hf (fun _ => cset_dset) (ds_new (.inl b1) (.inl b2) (.inl b3) hcv fun k hk => ?_)
    have h3 : Fl (createS s nm F cv) k → Fl s k ∨ k = F := fun hk => by
      unfold createS changeS addFile at hk
      rcases hk with ⟨n, hn⟩ | hk | ⟨c, hc, e⟩
      · dsimp only at hn
        rcases applyM_from hn with h1 | h1
        · rw [b6] at h1; exact .inl (.inl ⟨n, h1⟩)
        · exact .inr (Option.some.inj h1).symm
      · dsimp only at hk
        rw [b7] at hk
        exact .inl (.inr (.inl hk))
      · dsimp only at hc
        rw [b8] at hc
        rcases List.mem_append.1 hc with h1 | h1
        · exact .inl (.inr (.inr ⟨c, h1, e⟩))
        · simp only [List.mem_cons, List.not_mem_nil, or_false] at h1
          rw [h1] at e
          exact .inr (Option.some.inj e).symm
    rcases h3 hk with h4 | h4
    · exact .inl h4
    · exact .inr (by omega)
  · rw [if_neg h0]
    obtain ⟨h3, h4⟩ := h1 h0
    exact st_beg h rfl hi (h.to h3 h4 fun _ => x_dset).1 h4 fun _ => x_dset
theorem fs_up {k : Nat} {f : FS} (hk : lk s.names nm = some k) : ps (fsUp (beginS s) k f) = (ps s).beg.put k f := by
  rw [← ps_beg]; rfl
theorem dset_up {k : Nat} {f : FS} : ∀ j, DSet (fsUp (beginS s) k f) j → DSet s j := fun j hj => dset_beg j hj
theorem Im.upd {p : PS} (h : Im p q) {k : Nat} (hk : Go.Proofs.YtlhbgobjhddhlaaGreatDoor.lk p.names nm = some k) (hK : Ks p.names) (g : FS → FS) (hg : (g (p.fs k)).id = (p.fs k).id) : Im (p.beg.put k (g (p.fs k))) (q.upd nm g) := by
  have hF : PFl p k := .inl ⟨nm, (lk_mem hK).1 hk⟩
  have h1 : Go.Proofs.YtlhbgobjhddhlaaGreatDoor.lk q.names nm = some (p.fs k).id := by rw [h.lk, hk]; rfl
  have e : q.upd nm g = q.beg.put (p.fs k).id (g (p.fs k)) := by
    unfold PS.upd
    rw [h1]
    dsimp only
    rw [h.fs k hF]
  obtain ⟨-, -, -, -, e5, -, -⟩ := p.beg_same
  have h2 := h.beg.put (k := k) (PFl.beg.2 hF) (g (p.fs k)) (by rw [e5]; exact hg)
  rw [e5] at h2
  rw [e]
  exact h2
theorem append_t (h : TW w0 w X q D) (hS : S6 w0.heap.size w0 pa) (hn : nm.size ≤ 1048576) (v : Value) (m : List UInt8) (E : Nat → Prop) (hv : Bs E w v m) (hD : ∀ k, E k → ¬ D k) (hm : m.length ≤ 1073741824) (hc : q.calls ≤ 1000000) :
    Calls Tryz.prog 12 #[.pointer (some ⟨X, 0, none⟩), .string nm, v] w fun e w' => e = .returned (errV pa (q.appE nm m)) ∧ St1 w0 w w' X D (q.appQ nm m) := by
  obtain ⟨s, h, rfl, hi, rfl⟩ := h
  refine (append_l rfl hS h nm hn v m E hv hD hm (by rw [show s.calls = (ps s).calls from rfl, ← hi.calls]; exact hc)).mono ?_
  rintro e w2 ⟨rfl, h1, h2⟩
  have hE : appE s nm m = q.appE nm m := by
    unfold PS.appE
    rw [hi.findE, hi.used, hi.room]
    rfl
  rw [hE] at h1 h2 ⊢
  refine ⟨rfl, ?_⟩
  unfold PS.appQ
  by_cases h0 : q.appE nm m = 0
  · rw [if_pos h0]
    obtain ⟨k, hk, hd, hf⟩ := h2 h0
    exact TW.to h hd rfl (by rw [fs_up hk]; exact hi.upd hk h.d.names.2 (fun f => ⟨f.id, f.by_ ++ m, f.sy⟩) rfl) (beginS_same s).1 hf (fun _ h => h) fun j hj => .inl (dset_up j hj)
  · rw [if_neg h0]
    obtain ⟨h3, h4⟩ := h1 h0
    exact st_beg h rfl hi h3 h4 fun _ h => h
theorem sync_t (h : TW w0 w X q D) (hS : S6 w0.heap.size w0 pa) (hn : nm.size ≤ 1048576) (hc : q.calls ≤ 1000000) :
    Calls Tryz.prog 16 #[.pointer (some ⟨X, 0, none⟩), .string nm] w fun e w' => e = .returned (errV pa (q.findE nm)) ∧ St1 w0 w w' X D (q.syncQ nm) := by
  obtain ⟨s, h, rfl, hi, rfl⟩ := h
  refine (sync_l rfl hS h nm hn (by rw [show s.calls = (ps s).calls from rfl, ← hi.calls]; exact hc)).mono ?_
  rintro e w2 ⟨rfl, h1, h2⟩
  have hE : findE s nm = q.findE nm := by rw [hi.findE]; rfl
  rw [hE] at h1 h2 ⊢
  refine ⟨rfl, ?_⟩
  unfold PS.syncQ
  by_cases h0 : q.findE nm = 0
  · rw [if_pos h0]
    obtain ⟨k, hk, hd, hf⟩ := h2 h0
    exact TW.to h hd rfl (by rw [fs_up hk]; exact hi.upd hk h.d.names.2 (fun f => ⟨f.id, f.by_, f.by_.length⟩) rfl) (beginS_same s).1 hf (fun _ h => h) fun j hj => .inl (dset_up j hj)
  · rw [if_neg h0]
    obtain ⟨h3, h4⟩ := h1 h0
    exact st_beg h rfl hi h3 h4 fun _ h => h
theorem change_st {S : Nat → Prop} {c : Chg} {cv : Value} {q' : PS} (h : LW w0 w s) (hq : q' = q.beg.change (idC (ps s).fs c)) (hi : Im (ps s) q) (hc : ∀ k, c.fl = some k → Fl s k) (hcv : CvN s.cv cv w) (hd : DAt w0.heap.size w' (changeS (beginS s) c cv)) (hf : Fr S w w') (hS : ∀ k, S k → DSet s k) : St1 w0 w w' s.X (DSet s) q' := by
  obtain ⟨b1, b2, b3, b4, -, b6, b7, b8, -⟩ := beginS_same s
  have hps : ps (changeS (beginS s) c cv) = (ps s).beg.change c := by rw [← ps_beg]; rfl
  have hl := h.to hd hf hS
  obtain ⟨-, -, -, -, e5, -, -⟩ := (ps s).beg_same
  refine TW.to h hl.1 rfl (by rw [hps, hq, ← e5]; exact hi.beg.change c fun k hk => PFl.beg.2 (hc k hk)) b1 hf hS (ds_new (.inl b1) (.inl b2) (.inl b3) hcv fun k hk => .inl ?_)
  rcases hk with ⟨n, hn⟩ | hk | ⟨c', hc', e⟩
  · unfold changeS at hn
    dsimp only at hn
    rcases applyM_from hn with h1 | h1
    · rw [b6] at h1; exact .inl ⟨n, h1⟩
    · exact hc k h1
  · unfold changeS at hk
    dsimp only at hk
    rw [b7] at hk
    exact .inr (.inl hk)
  · unfold changeS at hc'
    dsimp only at hc'
    rw [b8] at hc'
    rcases List.mem_append.1 hc' with h1 | h1
    · exact .inr (.inr ⟨c', h1, e⟩)
    · simp only [List.mem_cons, List.not_mem_nil, or_false] at h1
      rw [h1] at e
      exact hc k e
theorem remove_t (h : TW w0 w X q D) (hS : S6 w0.heap.size w0 pa) (hn : nm.size ≤ 1048576) (hc : q.calls ≤ 1000000) :
    Calls Tryz.prog 20 #[.pointer (some ⟨X, 0, none⟩), .string nm] w fun e w' => e = .returned (errV pa (q.findE nm)) ∧ St1 w0 w w' X D (q.remQ nm) := by
  obtain ⟨s, h, rfl, hi, rfl⟩ := h
  refine (remove_any pa (h.s6 hS) h.d nm hn (by rw [show s.calls = (ps s).calls from rfl, ← hi.calls]; exact hc) h.le).mono ?_
  rintro e w2 ⟨rfl, h1, h2⟩
  have hE : findE s nm = q.findE nm := by rw [hi.findE]; rfl
  rw [hE] at h1 h2 ⊢
  refine ⟨rfl, ?_⟩
  unfold PS.remQ
  by_cases h0 : q.findE nm = 0
  · rw [if_pos h0]
    obtain ⟨cv, hcv, hd, hf⟩ := h2 h0
    exact change_st h rfl hi (fun k hk => by cases hk) hcv hd hf fun _ => cset_dset
  · rw [if_neg h0]
    obtain ⟨h3, h4⟩ := h1 h0
    exact st_beg h rfl hi (h.to h3 h4 fun _ => x_dset).1 h4 fun _ => x_dset
theorem rename_t {nt : ByteArray} (h : TW w0 w X q D) (hS : S6 w0.heap.size w0 pa) (hn : nm.size ≤ 1048576) (ht : nt.size ≤ 1048576) (hc : q.calls ≤ 1000000) :
    Calls Tryz.prog 18 #[.pointer (some ⟨X, 0, none⟩), .string nm, .string nt] w fun e w' => e = .returned (errV pa (q.renE nm nt)) ∧ St1 w0 w w' X D (q.renQ nm nt) := by
  obtain ⟨s, h, rfl, hi, rfl⟩ := h
  refine (rename_any pa (h.s6 hS) h.d nm nt hn ht (by rw [show s.calls = (ps s).calls from rfl, ← hi.calls]; exact hc) h.le).mono ?_
  rintro e w2 ⟨rfl, h1, h2⟩
  have hE : renE s nm nt = q.renE nm nt := by unfold PS.renE; rw [hi.findE]; rfl
  rw [hE] at h1 h2 ⊢
  refine ⟨rfl, ?_⟩
  unfold PS.renQ
  by_cases h0 : q.renE nm nt = 0
  · rw [if_pos h0]
    obtain ⟨k, cv, hk, hcv, hd, hf⟩ := h2 h0
    have hl : lk q.names nm = some (s.fs k).id := by rw [hi.lk, show lk (ps s).names nm = some k from hk]; rfl
    rw [hl]
    exact change_st h (by unfold renC idC; rfl) hi (fun j hj => by
      obtain rfl : k = j := Option.some.inj hj
      exact .inl ⟨nm, (lk_mem h.d.names.2).1 hk⟩) hcv hd hf fun _ => cset_dset
  · rw [if_neg h0]
    obtain ⟨h3, h4⟩ := h1 h0
    exact st_beg h rfl hi (h.to h3 h4 fun _ => x_dset).1 h4 fun _ => x_dset
theorem syncdir_t (h : TW w0 w X q D) (hS : S6 w0.heap.size w0 pa) (hc : q.calls ≤ 1000000) :
    Calls Tryz.prog 22 #[.pointer (some ⟨X, 0, none⟩)] w fun e w' => e = .returned (errV pa q.begE) ∧ St1 w0 w w' X D q.dirQ := by
  obtain ⟨s, h, rfl, hi, rfl⟩ := h
  refine (syncdir_l rfl hS h (by rw [show s.calls = (ps s).calls from rfl, ← hi.calls]; exact hc)).mono ?_
  rintro e w2 ⟨rfl, h1, h2⟩
  have hE : beginE s = q.begE := by rw [hi.begE]; rfl
  rw [hE] at h1 h2 ⊢
  refine ⟨rfl, ?_⟩
  unfold PS.dirQ
  by_cases h0 : q.begE = 0
  · rw [if_pos h0]
    obtain ⟨bk, hb, hd, hf⟩ := h2 h0
    obtain ⟨b1, b2, b3, b4, -, b6, b7, b8, -⟩ := beginS_same s
    have hps : ps (syncS (beginS s) bk) = (ps s).beg.syncDir := by rw [← ps_beg]; rfl
    refine TW.to h hd rfl (by rw [hps]; exact hi.beg.syncDir) b1 hf (fun _ h => h) (ds_new (.inl b1) (.inl b2) (.inr hb) (CvN.nil _ _) fun k hk => .inl ?_)
    unfold syncS at hk
    rcases hk with ⟨n, hn⟩ | ⟨n, hn⟩ | ⟨c, hc, -⟩
    · dsimp only at hn; rw [b6] at hn; exact .inl ⟨n, hn⟩
    · dsimp only at hn; rw [b6] at hn; exact .inl ⟨n, hn⟩
    · cases hc
  · rw [if_neg h0]
    obtain ⟨h3, h4⟩ := h1 h0
    exact st_beg h rfl hi h3 h4 fun _ h => h
theorem arm_t (h : TW w0 w X q D) (n : Int) (hn : n ≤ 9223372036854775807) :
    Calls Tryz.prog 24 #[.pointer (some ⟨X, 0, none⟩), .int .i64 n] w fun e w' => e = .returned (.tuple #[]) ∧ St1 w0 w w' X D (q.arm n) := by
  obtain ⟨s, h, rfl, hi, rfl⟩ := h
  refine (arm_l rfl h n hn).mono ?_
  rintro e w2 ⟨rfl, h1, h2⟩
  exact ⟨rfl, TW.to h h1 rfl (hi.arm n) rfl h2 (fun _ h => h) fun k hk => .inl hk⟩
theorem crash_t (h : TW w0 w X q D) (hc : q.calls ≤ 1000000) (E : Nat → Prop) (pv : Value) (picks : List Int) (hp : Is E w pv picks) (hD : ∀ k, E k → ¬ D k) (hr : ∀ k, -9223372036854775808 ≤ picks.getD k 0 ∧ picks.getD k 0 ≤ 9223372036854775807) (hl : picks.length ≤ 1000000) :
    Calls Tryz.prog 26 #[.pointer (some ⟨X, 0, none⟩), pv] w fun e w' => e = .returned (.tuple #[]) ∧ ∃ G, q.order picks G ∧ St1 w0 w w' X D (q.crash picks G) := by
  obtain ⟨s, h, rfl, hi, rfl⟩ := h
  refine (crash_l rfl h (by rw [show s.calls = (ps s).calls from rfl, ← hi.calls]; exact hc) E pv picks hp hD hr hl).mono ?_
  rintro e w2 ⟨rfl, G, bn, hb, hG, hd, hf⟩
  have hG' : (ps s).order picks G := hG
  refine ⟨rfl, _, (hi.order hG').1, TW.to h hd rfl (hi.crash hG') rfl hf (fun _ h => h) (ds_new (.inl rfl) (.inr hb) (.inl rfl) (CvN.nil _ _) fun k hk => .inl ?_)⟩
  unfold crashS at hk
  rcases hk with ⟨n, hn⟩ | ⟨n, hn⟩ | ⟨c, hc, -⟩
  · exact kp_from (p := ps s) (i := crashP s picks) (x := (n, k)) hn
  · exact kp_from (p := ps s) (i := crashP s picks) (x := (n, k)) hn
  · cases hc
theorem TW.one {picks : List Int} {G H : List Nat} (h : TW w0 w X q D) (hG : q.order picks G) (hH : q.order picks H) : G = H := by
  obtain ⟨s, h, -, hi, -⟩ := h
  exact hi.one hG hH
theorem new_t (hS : S6 w0.heap.size w0 pa) (hf : Fr (fun _ => False) w0 w) (room : Int) (hok : newOk room = true) :
    Calls Tryz.prog 5 #[.int .i64 room] w fun e w' => ∃ X D, e = .returned (.tuple #[.pointer (some ⟨X, 0, none⟩), .nilIface]) ∧ TW w0 w' X (PS.new room) D ∧ (∀ k, D k → w.heap.size ≤ k) ∧ Fr (fun _ => False) w w' := by
  refine (new_l hS hf room).mono ?_
  rintro e w2 ⟨-, h2⟩
  obtain ⟨e1, h3, h4⟩ := h2 hok
  refine ⟨_, _, e1, ⟨_, h3, rfl, Im.new room, rfl⟩, fun k hk => ?_, h4⟩
  rcases hk with e | e | e | e | e
  · have e : k = w.heap.size + 2 := e; omega
  · have e : k = w.heap.size := e; omega
  · have e : k = w.heap.size + 1 := e; omega
  · cases e
  · rcases e with ⟨_, h⟩ | ⟨_, h⟩ | ⟨_, h, _⟩ <;> cases h
theorem own_lower {base base' e sz n : Nat} {v : Value} {xs : List Value} (h : w.ownsRow base e sz v n xs) (hb : base' ≤ base) : w.ownsRow base' e sz v n xs :=
  ⟨h.1, h.2.imp id fun ⟨g, cap, cur, h1, h2, r⟩ => ⟨g, cap, cur, h1, Nat.le_trans hb h2, r⟩⟩
/-- A copy: a disk of new blocks. -/
theorem clone_t (h : TW w0 w X q D) (hc : q.calls ≤ 1000000) :
    Calls Tryz.prog 8 #[.pointer (some ⟨X, 0, none⟩)] w fun e w' => Fr (fun _ => False) w w' ∧ ∃ Y s', e = .returned (.pointer (some ⟨Y, 0, none⟩)) ∧ LW w0 w' s' ∧ s'.X = Y ∧ s'.calls = q.calls ∧ s'.files = q.files ∧ ∀ k, DSet s' k → w.heap.size ≤ k := by
  obtain ⟨s, h, rfl, hi, rfl⟩ := h
  refine (dclone_any h.d (by rw [show s.calls = (ps s).calls from rfl, ← hi.calls]; exact hc) h.le).mono ?_
  rintro e w2 ⟨cv, N, K, C, M, rfl, hd, hf⟩
  refine ⟨hf, _, cloneS s w.heap.size cv N K C M, rfl, ⟨⟨hd.heap, hd.names, hd.kept, hd.ne, own_lower hd.ch h.le, hd.fl, fun k hk => Nat.le_trans h.le (hd.lo k hk), hd.sz, hd.bd, hd.rm, hd.cn⟩, h.f.trans' hf⟩, rfl, hi.calls.symm, hi.files.symm, hd.lo⟩
theorem list_t (h : TW w0 w X q D) (hc : q.calls ≤ 1000000) :
    Calls Tryz.prog 62 #[.pointer (some ⟨X, 0, none⟩)] w fun e w' => Fr (fun _ => False) w w' ∧ ∃ a c, e = .returned (.slice a (namesL q.names).length c) ∧ Ss (TB w') w' (.slice a (namesL q.names).length c) (namesL q.names) := by
  obtain ⟨s, h, rfl, hi, rfl⟩ := h
  rw [hi.list]
  exact list_p ⟨s, h, rfl, rfl⟩ (by rw [← hi.calls]; exact hc)
theorem used_t (h : TW w0 w X q D) (hc : q.calls ≤ 1000000) :
    Calls Tryz.prog 9 #[.pointer (some ⟨X, 0, none⟩)] w fun e w' => e = .returned (.int .i64 q.used) ∧ Fr (fun _ => False) w w' := by
  obtain ⟨s, h, rfl, hi, rfl⟩ := h
  rw [hi.used]
  exact used_p ⟨s, h, rfl, rfl⟩ (by rw [← hi.calls]; exact hc)
theorem calls_t (h : TW w0 w X q D) : Calls Tryz.prog 64 #[.pointer (some ⟨X, 0, none⟩)] w fun e w' => e = .returned (.int .i64 q.calls) ∧ w = w' := by
  obtain ⟨s, h, rfl, hi, rfl⟩ := h
  rw [hi.calls]
  exact calls_p ⟨s, h, rfl, rfl⟩
theorem down_t (h : TW w0 w X q D) : Calls Tryz.prog 65 #[.pointer (some ⟨X, 0, none⟩)] w fun e w' => e = .returned (.bool q.down) ∧ w = w' := by
  obtain ⟨s, h, rfl, hi, rfl⟩ := h
  rw [hi.down]
  exact down_p ⟨s, h, rfl, rfl⟩
end Go.Proofs.YtlhbgobjhddhlaaGreatDoor
