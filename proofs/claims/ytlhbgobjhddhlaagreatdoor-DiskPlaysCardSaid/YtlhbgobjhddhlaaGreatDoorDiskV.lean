/- Package disk: more calls whose power may go. -/
import Derived.Test.YtlhbgobjhddhlaaGreatDoorDiskR
namespace Go.Proofs.YtlhbgobjhddhlaaGreatDoor
open Go.RowKit
variable {w0 w w' : World} {s : DS} {pa : Nat → Addr} {nm : ByteArray} {X : Nat}

theorem beg_find {s : DS} {k : Nat} (hl : lk s.names nm = some k) : findE s nm = (ps s).begE := by
  unfold findE
  rw [hl, ps_begE]
  rcases (ps s).begE_no with e | e <;> rw [e] <;> rfl
theorem sync_g {p : PS} (h : PW w0 w X p) (hS : S6 w0.heap.size w0 pa) {k : Nat} (hl : lk p.names nm = some k) (hb : p.calls ≤ 1000000) :
    Calls Tryz.prog 16 #[.pointer (some ⟨X, 0, none⟩), .string nm] w fun e w' => e = .returned (errV pa p.begE) ∧ Fr (Tk w) w w' ∧ (p.begE ≠ 0 → PW w0 w' X p.beg) ∧ (p.begE = 0 → PW w0 w' X (p.beg.put k ⟨(p.fs k).id, (p.fs k).by_, (p.fs k).by_.length⟩)) := by
  obtain ⟨s, h, rfl, rfl⟩ := h
  refine (sync_l rfl hS h nm (by have := h.d.sz.1 _ ((lk_mem h.d.names.2).1 hl); dsimp only at this; omega) hb).mono ?_
  rintro e w2 ⟨rfl, h1, h2⟩
  rw [beg_find hl] at h1 h2 ⊢
  rcases (ps s).begE_no with e | e
  · obtain ⟨k', hk', h3, h4⟩ := h2 e
    obtain rfl := Option.some.inj ((show lk s.names nm = some k from hl).symm.trans hk')
    refine ⟨rfl, h.tk h4, fun hn => absurd e hn, fun _ => ⟨_, h3, (beginS_same s).1, ?_⟩⟩
    rw [← ps_beg]
    rfl
  · obtain ⟨h3, h4⟩ := h1 (by rw [e]; decide)
    exact ⟨rfl, h.tk h4, fun _ => ⟨_, h3, (beginS_same s).1, ps_beg s⟩, fun h0 => by rw [e] at h0; cases h0⟩
theorem remove_g {p : PS} (h : PW w0 w X p) (hS : S6 w0.heap.size w0 pa) {k : Nat} (hl : lk p.names nm = some k) (hb : p.calls ≤ 1000000) :
    Calls Tryz.prog 20 #[.pointer (some ⟨X, 0, none⟩), .string nm] w fun e w' => e = .returned (errV pa p.begE) ∧ Fr (Tk w) w w' ∧ (p.begE ≠ 0 → PW w0 w' X p.beg) ∧ (p.begE = 0 → PW w0 w' X (p.beg.change ⟨⟨#[]⟩, nm, none⟩)) := by
  obtain ⟨s, h, rfl, rfl⟩ := h
  refine (remove_l rfl hS h nm (by have := h.d.sz.1 _ ((lk_mem h.d.names.2).1 hl); dsimp only at this; omega) hb).mono ?_
  rintro e w2 ⟨rfl, h1, h2⟩
  rw [beg_find hl] at h1 h2 ⊢
  rcases (ps s).begE_no with e | e
  · obtain ⟨cv, h3, h4⟩ := h2 e
    refine ⟨rfl, h.tk h4, fun hn => absurd e hn, fun _ => ⟨_, h3, (beginS_same s).1, ?_⟩⟩
    rw [← ps_beg]
    rfl
  · obtain ⟨h3, h4⟩ := h1 (by rw [e]; decide)
    exact ⟨rfl, h.tk h4, fun _ => ⟨_, h3, (beginS_same s).1, ps_beg s⟩, fun h0 => by rw [e] at h0; cases h0⟩
theorem rename_g {p : PS} (h : PW w0 w X p) (hS : S6 w0.heap.size w0 pa) {k : Nat} (hl : lk p.names nm = some k) (nt : ByteArray) (ho : okN nt = true) (hb : p.calls ≤ 1000000) :
    Calls Tryz.prog 18 #[.pointer (some ⟨X, 0, none⟩), .string nm, .string nt] w fun e w' => e = .returned (errV pa p.begE) ∧ Fr (Tk w) w w' ∧ (p.begE ≠ 0 → PW w0 w' X p.beg) ∧ (p.begE = 0 → PW w0 w' X (p.beg.change (renC nm nt k))) := by
  obtain ⟨s, h, rfl, rfl⟩ := h
  refine (rename_l rfl hS h nm nt (by have := h.d.sz.1 _ ((lk_mem h.d.names.2).1 hl); dsimp only at this; omega) (by have := okN_size ho; omega) hb).mono ?_
  rintro e w2 ⟨rfl, h1, h2⟩
  have hE : renE s nm nt = (ps s).begE := by
    unfold renE
    rw [beg_find hl]
    rcases (ps s).begE_no with e | e
    · rw [e]; simp [ho]
    · rw [e]; rfl
  rw [hE] at h1 h2 ⊢
  rcases (ps s).begE_no with e | e
  · obtain ⟨k', cv, hk', h3, h4⟩ := h2 e
    obtain rfl := Option.some.inj ((show lk s.names nm = some k from hl).symm.trans hk')
    refine ⟨rfl, h.tk h4, fun hn => absurd e hn, fun _ => ⟨_, h3, (beginS_same s).1, ?_⟩⟩
    rw [← ps_beg]
    rfl
  · obtain ⟨h3, h4⟩ := h1 (by rw [e]; decide)
    exact ⟨rfl, h.tk h4, fun _ => ⟨_, h3, (beginS_same s).1, ps_beg s⟩, fun h0 => by rw [e] at h0; cases h0⟩
theorem create_g {p : PS} (h : PW w0 w X p) (hS : S6 w0.heap.size w0 pa) (ho : okN nm = true) (hl : lk p.names nm = none) (hb : p.calls ≤ 1000000 ∧ p.files ≤ 1000000) :
    Calls Tryz.prog 10 #[.pointer (some ⟨X, 0, none⟩), .string nm] w fun e w' => e = .returned (errV pa p.begE) ∧ Fr (Tk w) w w' ∧ (p.begE ≠ 0 → PW w0 w' X p.beg) ∧ (p.begE = 0 → ∃ F, (∀ k, PFl p k → k ≠ F) ∧ PW w0 w' X (p.beg.create nm F)) := by
  obtain ⟨s, h, rfl, rfl⟩ := h
  refine (create_l rfl hS h nm (by have := okN_size ho; omega) hb).mono ?_
  rintro e w2 ⟨rfl, h1, h2⟩
  have hE : createE s nm = (ps s).begE := by
    unfold createE
    have hl2 : lk s.names nm = none := hl
    rw [ps_begE]
    rcases (ps s).begE_no with e | e
    · rw [e]; simp [ho, hl2]
    · rw [e]; rfl
  rw [hE] at h1 h2 ⊢
  rcases (ps s).begE_no with e | e
  · obtain ⟨F, cv, hF, h3, h4⟩ := h2 e
    refine ⟨rfl, h.tk h4, fun hn => absurd e hn, fun _ => ⟨F, fun k hk e => by have := (h.d.fl k hk).lt; omega, _, h3, (beginS_same s).1, ?_⟩⟩
    rw [← ps_beg]
    unfold createS changeS addFile PS.create applyM ps upd
    simp
  · obtain ⟨h3, h4⟩ := h1 (by rw [e]; decide)
    exact ⟨rfl, h.tk h4, fun _ => ⟨_, h3, (beginS_same s).1, ps_beg s⟩, fun h0 => by rw [e] at h0; cases h0⟩
end Go.Proofs.YtlhbgobjhddhlaaGreatDoor
