/- DiskPlays: the program's disk and the document's, side by side (seven texts in one: a claim has at most 60 files). -/
import Derived.Test.YtlhbgobjhddhlaaGreatDoorDiskZ
import Derived.Test.YtlhbgobjhddhlaaGreatDoorRefDisk
import Derived.Test.YtlhbgobjhddhlaaGreatDoorRefs
import Derived.Test.YtlhbgobjhddhlaaGreatDoorSameBytes
namespace Go.Proofs.YtlhbgobjhddhlaaGreatDoor
section
open Go.RowKit

def dec (y : ByteArray × Nat) : ByteArray × Nat := (y.1, y.2 - 1)
def bfP (a b : ByteArray × Nat) : Prop := bf a.1.data.toList b.1.data.toList = true
/-- The document's row of names is the program's map, in order, each file's number one lower. -/
structure NR (N L : Nm) : Prop where
  pos : ∀ y ∈ N, 1 ≤ y.2
  perm : L.Perm (N.map dec)
  srt : L.Pairwise bfP
theorem NR.nil : NR [] [] := ⟨fun _ h => (by cases h), List.Perm.refl _, List.Pairwise.nil⟩
theorem dl_dec (N : Nm) (s : ByteArray) : (dl N s).map dec = dl (N.map dec) s := by
  unfold dl
  rw [List.filter_map]
  rfl
theorem NR.dl {N L : Nm} (h : NR N L) (s : ByteArray) : NR (dl N s) (dl L s) :=
  ⟨fun y hy => h.pos y (List.mem_filter.1 hy).1, by rw [dl_dec]; exact h.perm.filter _, h.srt.filter _⟩
theorem withN_perm (L : Nm) (s : ByteArray) (f : Nat) : (withN L s f).Perm ((s, f) :: dl L s) := by
  unfold withN
  have h := List.takeWhile_append_dropWhile (p := bfN s) (l := dl L s)
  have h2 : ((dl L s).takeWhile (bfN s) ++ [(s, f)] ++ (dl L s).dropWhile (bfN s)).Perm ((s, f) :: ((dl L s).takeWhile (bfN s) ++ (dl L s).dropWhile (bfN s))) := by
    rw [List.append_assoc]
    exact List.perm_middle
  rw [h] at h2
  exact h2
theorem tw_all {p : ByteArray × Nat → Bool} : ∀ {l : Nm} {y}, y ∈ l.takeWhile p → p y = true
  | [], _, h => by cases h
  | x :: r, y, h => by
    rw [List.takeWhile_cons] at h
    split at h
    · rename_i hx
      rcases List.mem_cons.1 h with rfl | h
      · exact hx
      · exact tw_all h
    · cases h
theorem dw_all {s : ByteArray} : ∀ {l : Nm}, l.Pairwise bfP → (∀ y ∈ l, y.1 ≠ s) → ∀ {y}, y ∈ l.dropWhile (bfN s) → bf s.data.toList y.1.data.toList = true
  | [], _, _, _, h => by cases h
  | x :: r, hs, hn, y, h => by
    rw [List.dropWhile_cons] at h
    split at h
    · exact dw_all (List.pairwise_cons.1 hs).2 (fun z hz => hn z (List.mem_cons_of_mem _ hz)) h
    · rename_i hx
      have hx' : bf x.1.data.toList s.data.toList = false := by simpa [bfN] using hx
      have h1 : bf s.data.toList x.1.data.toList = true := bf_tri hx' fun e => hn x List.mem_cons_self (ba_ext e)
      rcases List.mem_cons.1 h with rfl | h
      · exact h1
      · exact bf_trans h1 ((List.pairwise_cons.1 hs).1 y h)
theorem withN_srt {L : Nm} (h : L.Pairwise bfP) (s : ByteArray) (f : Nat) : (withN L s f).Pairwise bfP := by
  have hd : (dl L s).Pairwise bfP := h.filter _
  have hne : ∀ y ∈ dl L s, y.1 ≠ s := fun y hy => (mem_dl.1 hy).2
  unfold withN
  rw [List.append_assoc]
  refine List.pairwise_append.2 ⟨hd.sublist (List.takeWhile_sublist _), List.pairwise_cons.2 ⟨fun y hy => dw_all hd hne hy, hd.sublist (List.dropWhile_sublist _)⟩, fun a ha b hb => ?_⟩
  have h1 : bf a.1.data.toList s.data.toList = true := tw_all ha
  rcases List.mem_cons.1 hb with rfl | hb
  · exact h1
  · exact bf_trans h1 (dw_all hd hne hb)
theorem NR.pt {N L : Nm} (h : NR N L) (s : ByteArray) (f : Nat) (hf : 1 ≤ f) : NR (pt N s f) (withN L s (f - 1)) :=
  ⟨fun y hy => by
    rcases List.mem_cons.1 hy with rfl | hy
    · exact hf
    · exact (h.dl s).pos y hy, (withN_perm L s (f - 1)).trans (by
    unfold Go.Proofs.YtlhbgobjhddhlaaGreatDoor.pt
    rw [List.map_cons]
    exact (h.dl s).perm.cons _), withN_srt h.srt s _⟩
theorem NR.ks {N L : Nm} (h : NR N L) : Ks N := by
  have h1 : (L.map (·.1)).Nodup := by
    unfold List.Nodup
    rw [List.pairwise_map]
    exact h.srt.imp fun {a b} hab e => by
      unfold bfP at hab
      rw [e, bf_irr] at hab
      cases hab
  have h2 : (L.map (·.1)).Perm (N.map (·.1)) := by
    have := h.perm.map (·.1)
    rw [List.map_map] at this
    exact this
  exact h2.nodup_iff.1 h1
theorem NR.len {N L : Nm} (h : NR N L) : L.length = N.length := by rw [h.perm.length_eq, List.length_map]
theorem NR.mem {N L : Nm} (h : NR N L) {n : ByteArray} {j : Nat} : (n, j) ∈ L ↔ (n, j + 1) ∈ N := by
  rw [h.perm.mem_iff, List.mem_map]
  constructor
  · rintro ⟨⟨m, k⟩, hy, e⟩
    have h1 := h.pos _ hy
    simp only [dec, Prod.mk.injEq] at e
    obtain ⟨rfl, rfl⟩ := e
    dsimp only at h1
    rwa [show k - 1 + 1 = k by omega]
  · exact fun hy => ⟨_, hy, by simp [dec]⟩
theorem NR.kl {N L : Nm} (h : NR N L) : Ks L := by
  unfold Ks List.Nodup
  rw [List.pairwise_map]
  exact h.srt.imp fun {a b} hab e => by
    unfold bfP at hab
    rw [e, bf_irr] at hab
    cases hab
theorem NR.lk {N L : Nm} (h : NR N L) (s : ByteArray) : lk L s = (lk N s).map (· - 1) := by
  cases hN : Go.Proofs.YtlhbgobjhddhlaaGreatDoor.lk N s with
  | some k =>
    have h1 := (lk_mem h.ks).1 hN
    have h2 := h.pos _ h1
    exact (lk_mem h.kl).2 (h.mem.2 (by dsimp only at h2; rwa [show k - 1 + 1 = k by omega]))
  | none =>
    refine lk_none.2 fun p hp e => ?_
    obtain ⟨n, j⟩ := p
    exact lk_none.1 hN _ (h.mem.1 hp) e
theorem NR.lk0 {N L : Nm} (h : NR N L) (s : ByteArray) : Go.Proofs.YtlhbgobjhddhlaaGreatDoor.lk L s = none ↔ Go.Proofs.YtlhbgobjhddhlaaGreatDoor.lk N s = none := by
  rw [h.lk]
  cases Go.Proofs.YtlhbgobjhddhlaaGreatDoor.lk N s <;> simp
theorem sumF_perm (g : Nat → Nat) {a b : Nm} (h : a.Perm b) : sumF g a = sumF g b := by
  induction h with
  | nil => rfl
  | cons x _ ih => unfold sumF; rw [ih]
  | swap x y l => unfold sumF; unfold sumF; omega
  | trans _ _ h1 h2 => exact h1.trans h2
theorem usedR_sum (F : List (List UInt8 × Nat)) : ∀ l : Nm, usedR F l = sumF (fun k => (F.getD k ([], 0)).1.length) l
  | [] => rfl
  | y :: r => by unfold usedR sumF; rw [usedR_sum F r]
theorem bf_le : ∀ {a b : List UInt8}, bf a b = true → a ≤ b
  | [], b, _ => List.nil_le b
  | x :: r, [], h => by cases h
  | x :: r, y :: t, h => by
    unfold bf at h
    split at h
    · rename_i e
      subst e
      exact List.cons_le_cons_iff.2 (.inr ⟨rfl, bf_le h⟩)
    · have h1 : x.toNat < y.toNat := of_decide_eq_true h
      exact List.cons_le_cons_iff.2 (.inl (UInt8.lt_iff_toNat_lt.2 h1))
theorem NR.list {N L : Nm} (h : NR N L) : namesL N = L.map (·.1) := by
  have h2 : (N.map (·.1)).Perm (L.map (·.1)) := by
    have := h.perm.map (·.1)
    rw [List.map_map] at this
    exact this.symm
  rw [namesL_perm h2]
  unfold namesL
  rw [List.mergeSort_of_pairwise]
  · unfold unB
    rw [List.map_map]
    exact List.map_congr_left fun y _ => by simp [Function.comp]
  · rw [List.pairwise_map]
    exact h.srt.imp fun {a b} hab => decide_eq_true (bf_le hab)
end
section
open Go.RowKit
variable {q : PS} {R : RS} {nm nt : ByteArray}

structure Rel (q : PS) (R : RS) : Prop where
  room : R.room = q.room
  armed : R.fuse = q.armed
  off : R.off = q.down
  calls : R.calls = q.calls
  files : R.files.length = q.files
  names : NR q.names R.names
  kept : NR q.kept R.kept
  top : NR (q.kp q.ch.length) R.names
  logl : R.log.length = q.ch.length
  log : ∀ i, i < q.ch.length → NR (q.kp (i + 1)) (R.log.getD i [])
  fs : ∀ k, PFl q k → 1 ≤ k ∧ k ≤ q.files ∧ R.files.getD (k - 1) ([], 0) = ((q.fs k).by_, (q.fs k).sy)
  ne : ∀ y ∈ q.names, y.1 ≠ ⟨#[]⟩
  nk : ∀ i, ∀ y ∈ q.kp i, y.1 ≠ ⟨#[]⟩
theorem Rel.new (room : Int) : Rel (PS.new room) (RS.new room) :=
  ⟨rfl, rfl, rfl, rfl, rfl, NR.nil, NR.nil, NR.nil, rfl, fun i hi => (by cases hi), fun k hk => (by rcases hk with ⟨_, h⟩ | ⟨_, h⟩ | ⟨_, h, _⟩ <;> cases h), fun y hy => (by cases hy), fun i y hy => (by unfold PS.kp PS.new at hy; simp at hy)⟩
theorem Rel.gateB (h : Rel q R) : R.gateB = false ↔ q.begE ≠ 0 := by
  unfold RS.gateB PS.begE
  rw [h.off, h.armed]
  cases q.down
  · by_cases e : q.armed = 1 <;> simp [e]
  · simp
theorem PS.kp_same {p q : PS} (hk : q.kept = p.kept) (hc : q.ch = p.ch) (i : Nat) : q.kp i = p.kp i := by unfold PS.kp; rw [hk, hc]
theorem Rel.beg (h : Rel q R) : Rel q.beg R.gateS := by
  obtain ⟨g1, g2, g3, g4, g5, g6, -⟩ := R.gate_same
  obtain ⟨b1, b2, b3, b4, b5, b6, b7⟩ := q.beg_same
  have hkp : ∀ i, q.beg.kp i = q.kp i := PS.kp_same b2 b1
  have hd : R.gateS.fuse = q.beg.armed ∧ R.gateS.off = q.beg.down := by
    unfold RS.gateS PS.beg
    rw [h.off, h.armed]
    cases hq : q.down
    · by_cases e : 0 < q.armed
      · simp [e]
      · simp [e, h.armed, h.off, hq]
    · simp [h.armed, h.off, hq]
  exact ⟨by rw [g1, b4]; exact h.room, hd.1, hd.2, by rw [g6, b6]; exact h.calls, by rw [g2, b7]; exact h.files, by rw [g3, b3]; exact h.names, by rw [g4, b2]; exact h.kept,
    by rw [g3, b1, hkp]; exact h.top, by rw [g5, b1]; exact h.logl, fun i hi => by rw [b1] at hi; rw [g5, hkp]; exact h.log i hi, fun k hk => by rw [b7, g2, b5]; exact h.fs k (PFl.beg.1 hk), by rw [b3]; exact h.ne, fun i y hy => h.nk i y (by rwa [hkp] at hy)⟩
theorem PS.kp_change (q : PS) (c : Chg) (i : Nat) : (q.change c).kp i = if i ≤ q.ch.length then q.kp i else applyM (q.kp q.ch.length) c := by
  unfold PS.kp PS.change
  dsimp only
  split
  · rename_i h
    rw [List.take_append_of_le_length h]
  · rename_i h
    rw [List.take_of_length_le (by rw [List.length_append]; simp; omega), List.foldl_append, List.take_of_length_le (Nat.le_refl _)]
    rfl
theorem PFl.change {c : Chg} {k : Nat} (h : PFl (q.change c) k) : PFl q k ∨ c.fl = some k := by
  rcases h with ⟨n, h⟩ | h | ⟨d, hd, e⟩
  · rcases applyM_from h with h | h
    · exact .inl (.inl ⟨n, h⟩)
    · exact .inr h
  · exact .inl (.inr (.inl h))
  · rcases List.mem_append.1 hd with h | h
    · exact .inl (.inr (.inr ⟨d, h, e⟩))
    · rw [List.mem_singleton.1 h] at e
      exact .inr e
theorem Rel.note {c : Chg} {l : Nm} (h : Rel q R) (hn : NR (applyM q.names c) l) (ht : NR (applyM (q.kp q.ch.length) c) l)
    (hf : ∀ k, c.fl = some k → 1 ≤ k ∧ k ≤ q.files ∧ R.files.getD (k - 1) ([], 0) = ((q.fs k).by_, (q.fs k).sy)) (hne : ∀ y ∈ applyM q.names c, y.1 ≠ ⟨#[]⟩) : Rel (q.change c) (R.note l) := by
  have hl : (q.change c).ch.length = q.ch.length + 1 := by unfold PS.change; dsimp only; rw [List.length_append]; rfl
  refine ⟨h.room, h.armed, h.off, by unfold RS.note PS.change; dsimp only; rw [h.calls], h.files, hn, h.kept, ?_, ?_, fun i hi => ?_, fun k hk => ?_, hne, fun i y hy => ?_⟩
  · rw [hl, PS.kp_change, if_neg (by omega)]
    exact ht
  · rw [hl]
    unfold RS.note
    dsimp only
    rw [List.length_append, h.logl]
    rfl
  · rw [hl] at hi
    rw [PS.kp_change]
    unfold RS.note
    dsimp only
    by_cases hlt : i < q.ch.length
    · rw [if_pos (by omega)]
      have := h.log i hlt
      simp only [List.getD] at this ⊢
      rw [List.getElem?_append_left (by rw [h.logl]; exact hlt)]
      exact this
    · have hi2 : i = q.ch.length := by omega
      rw [if_neg (by omega), hi2]
      simp only [List.getD]
      rw [List.getElem?_append_right (by rw [h.logl]; exact Nat.le_refl _), h.logl, Nat.sub_self]
      exact ht
  · rcases PFl.change hk with h1 | h1
    · exact h.fs k h1
    · exact hf k h1
  · rw [PS.kp_change] at hy
    split at hy
    · exact h.nk i y hy
    · have h0 := ht.pos y hy
      have h1 : (y.1, y.2 - 1) ∈ l := ht.mem.2 (by rw [show y.2 - 1 + 1 = y.2 by omega]; exact hy)
      have h2 := hne (y.1, y.2 - 1 + 1) (hn.mem.1 h1)
      exact h2
theorem Rel.file (h : Rel q R) : R.lenC nm = q.fileE nm := by
  unfold RS.lenC PS.fileE
  rw [h.off]
  simp only [h.names.lk0]
theorem Rel.fl (h : Rel q R) {k : Nat} (hk : lk q.names nm = some k) : R.fl nm = ((q.fs k).by_, (q.fs k).sy) := by
  unfold RS.fl
  rw [h.names.lk, hk]
  exact (h.fs k (.inl ⟨nm, (lk_mem h.names.ks).1 hk⟩)).2.2
theorem Rel.fl0 (h : Rel q R) (hk : lk q.names nm = none) : R.fl nm = ([], 0) := by
  unfold RS.fl
  rw [h.names.lk, hk]
  rfl
theorem Rel.len (h : Rel q R) : (R.lenV nm).1.length = q.lenV nm ∧ (R.lenV nm).2 = q.synV nm := by
  unfold RS.lenV PS.lenV PS.synV PS.fileP
  rw [h.off]
  cases q.down
  · cases hk : Go.Proofs.YtlhbgobjhddhlaaGreatDoor.lk q.names nm with
    | none => simp [h.fl0 hk]
    | some k => simp [h.fl hk]
  · simp
theorem Rel.used (h : Rel q R) : usedR R.files R.names = q.used := by
  rw [usedR_sum, sumF_perm _ h.names.perm]
  unfold PS.used
  refine sumF_map _ _ _ _ fun x hx => ?_
  show (R.files.getD (x.2 - 1) ([], 0)).1.length = _
  rw [(h.fs x.2 (.inl ⟨x.1, hx⟩)).2.2]
theorem Rel.findC (h : Rel q R) : R.findC nm = q.findE nm := by
  unfold RS.findC PS.findE
  by_cases hg : R.gateB = false
  · rw [if_pos hg, if_neg (h.gateB.1 hg)]
  · have h0 : q.begE = 0 := Decidable.byContradiction fun e => hg (h.gateB.2 e)
    rw [if_neg hg, if_pos h0]
    simp only [h.names.lk0]
theorem Rel.read (h : Rel q R) (o n : Int) : R.readC nm o n = q.readE nm o n ∧ (q.readE nm o n = 0 → ((R.fl nm).1.take (o + n).toNat).drop o.toNat = q.readB nm o n) := by
  have h0 : q.fileE nm = 0 → ∃ k, lk q.names nm = some k ∧ q.fileP nm = some k := fun e => by
    unfold PS.fileE at e
    unfold PS.fileP
    cases hd : q.down
    · cases hk : Go.Proofs.YtlhbgobjhddhlaaGreatDoor.lk q.names nm with
      | none => simp [hd, hk] at e
      | some k => exact ⟨k, rfl, by simp⟩
    · simp [hd] at e
  unfold RS.readC PS.readE
  rw [h.file]
  by_cases e : q.fileE nm = 0
  · obtain ⟨k, hk, hp⟩ := h0 e
    have hl : q.lenV nm = (q.fs k).by_.length := by unfold PS.lenV; rw [hp]
    rw [h.fl hk, hl]
    refine ⟨rfl, fun _ => ?_⟩
    unfold PS.readB
    rw [hp]
  · rw [if_pos e, if_pos e]
    exact ⟨rfl, fun h => absurd h e⟩
theorem Rel.createC (h : Rel q R) : R.createC nm = q.createE nm := by
  unfold RS.createC PS.createE
  by_cases hg : R.gateB = false
  · rw [if_pos hg, if_pos (h.gateB.1 hg)]
  · rw [if_neg hg, if_neg (fun e => hg (h.gateB.2 e))]
    simp only [ne_eq, h.names.lk0]
theorem ba_nil {s : ByteArray} (h : okN s = true) : s ≠ ⟨#[]⟩ := fun e => by
  have := okN_size h
  rw [e] at this
  exact absurd this.1 (by decide)
theorem Rel.create (h : Rel q R) : Rel (q.createQ nm) (R.createS nm) := by
  have hB := h.beg
  unfold PS.createQ RS.createS
  rw [h.createC]
  by_cases h0 : q.createE nm = 0
  · rw [if_pos h0, if_pos h0]
    have hok : okN nm = true := by
      unfold PS.createE at h0
      cases ho : okN nm with
      | true => rfl
      | false => simp only [ho, if_true] at h0; split at h0 <;> cases h0
    obtain ⟨g1, g2, g3, g4, g5, g6, -⟩ := R.gate_same
    rw [← g3, ← g2]
    generalize R.gateS = R1 at *
    generalize q.beg = q1 at *
    clear g1 g2 g3 g4 g5 g6
    have h1 : Rel { q1 with files := q1.files + 1, fs := upd q1.fs (q1.files + 1) ⟨q1.files + 1, [], 0⟩ } R1.addFile :=
      ⟨hB.room, hB.armed, hB.off, hB.calls, by unfold RS.addFile; dsimp only; rw [List.length_append, hB.files]; rfl, hB.names, hB.kept, hB.top, hB.logl, hB.log, fun k hk => by
        have hk2 := hB.fs k hk
        refine ⟨hk2.1, by dsimp only; omega, ?_⟩
        unfold RS.addFile
        dsimp only
        rw [upd_ne _ _ (by omega), ← hk2.2.2]
        simp only [List.getD]
        rw [List.getElem?_append_left (by rw [hB.files]; omega)], hB.ne, hB.nk⟩
    have hpt : ∀ M : Nm, applyM M ⟨nm, ⟨#[]⟩, some (q1.files + 1)⟩ = pt M nm (q1.files + 1) := fun M => by unfold applyM; simp
    have h2 := h1.note (c := ⟨nm, ⟨#[]⟩, some (q1.files + 1)⟩) (l := withN R1.names nm R1.files.length)
      (by rw [hpt, show R1.files.length = q1.files + 1 - 1 by rw [hB.files]; omega]; exact hB.names.pt nm _ (by omega))
      (by rw [hpt, show R1.files.length = q1.files + 1 - 1 by rw [hB.files]; omega]; exact hB.top.pt nm _ (by omega))
      (fun k hk => by
        simp only [Option.some.injEq] at hk
        subst hk
        refine ⟨by omega, Nat.le_refl _, ?_⟩
        dsimp only
        rw [upd_same]
        unfold RS.addFile
        dsimp only
        simp only [List.getD]
        rw [List.getElem?_append_right (by rw [hB.files]; omega), hB.files]
        simp)
      (fun y hy => by
        rw [hpt] at hy
        rcases List.mem_cons.1 hy with rfl | hy
        · exact ba_nil hok
        · exact hB.ne y (mem_dl.1 hy).1)
    have e : q1.create nm (q1.files + 1) = PS.change { q1 with files := q1.files + 1, fs := upd q1.fs (q1.files + 1) ⟨q1.files + 1, [], 0⟩ } ⟨nm, ⟨#[]⟩, some (q1.files + 1)⟩ := by
      unfold PS.create PS.change
      rw [hpt]
    rw [e]
    exact h2
  · rw [if_neg h0, if_neg h0]
    exact hB
theorem Rel.put (h : Rel q R) {k : Nat} (hk : PFl q k) (f : FS) : Rel (q.put k f) { R with files := R.files.set (k - 1) (f.by_, f.sy), calls := R.calls + 1 } := by
  refine ⟨h.room, h.armed, h.off, by unfold PS.put; dsimp only; rw [h.calls], by rw [List.length_set]; exact h.files, h.names, h.kept, h.top, h.logl, h.log, fun j hj => ?_, h.ne, h.nk⟩
  have h1 := h.fs j hj
  have h2 := h.fs k hk
  refine ⟨h1.1, h1.2.1, ?_⟩
  unfold PS.put
  dsimp only
  by_cases e : j = k
  · rw [e, upd_same]
    simp only [List.getD]
    rw [List.getElem?_set_self (by rw [h.files]; omega)]
    rfl
  · rw [upd_ne _ _ e, ← h1.2.2]
    simp only [List.getD]
    rw [List.getElem?_set_ne (by omega)]
theorem Rel.upd (h : Rel q R) {g : FS → FS} {g' : List UInt8 × Nat → List UInt8 × Nat} (hg : ∀ f, g' (f.by_, f.sy) = ((g f).by_, (g f).sy)) : Rel (q.upd nm g) (R.upd nm g') := by
  have hB := h.beg
  unfold PS.upd RS.upd
  rw [h.names.lk]
  cases hk : Go.Proofs.YtlhbgobjhddhlaaGreatDoor.lk q.names nm with
  | none => exact hB
  | some k =>
    obtain ⟨g1, g2, g3, g4, g5, g6, -⟩ := R.gate_same
    have h1 := hB.put (k := k) (PFl.beg.2 (.inl ⟨nm, (lk_mem h.names.ks).1 hk⟩)) (g (q.fs k))
    have h2 := (h.fs k (.inl ⟨nm, (lk_mem h.names.ks).1 hk⟩)).2.2
    rw [← hg, ← h2, g2, g6] at h1
    exact h1
theorem Rel.sync (h : Rel q R) : Rel (q.syncQ nm) (R.syncS nm) := by
  unfold PS.syncQ RS.syncS
  rw [h.findC]
  split
  · exact h.upd fun _ => rfl
  · exact h.beg
theorem Rel.cutC (h : Rel q R) (n : Int) : R.cutC nm n = q.cutE nm n := by
  unfold RS.cutC PS.cutE
  rw [h.findC]
  have : (R.fl nm).1.length = q.lenN nm := by
    unfold PS.lenN
    cases hk : Go.Proofs.YtlhbgobjhddhlaaGreatDoor.lk q.names nm with
    | none => rw [h.fl0 hk]; rfl
    | some k => rw [h.fl hk]
  rw [this]
theorem Rel.cut (h : Rel q R) (n : Int) : Rel (q.cutQ nm n) (R.cutS nm n) := by
  unfold PS.cutQ RS.cutS
  rw [h.cutC]
  split
  · exact h.upd fun _ => rfl
  · exact h.beg
theorem Rel.appC (h : Rel q R) (m : List UInt8) : R.appC nm m = q.appE nm m := by
  unfold RS.appC PS.appE
  rw [h.findC, h.used, h.room]
theorem Rel.app (h : Rel q R) (m : List UInt8) : Rel (q.appQ nm m) (R.appS nm m) := by
  unfold PS.appQ RS.appS
  rw [h.appC]
  split
  · exact h.upd fun _ => rfl
  · exact h.beg
theorem findE_lk (h : q.findE nm = 0) : ∃ k, lk q.names nm = some k := by
  unfold PS.findE at h
  cases hk : Go.Proofs.YtlhbgobjhddhlaaGreatDoor.lk q.names nm with
  | none => simp only [hk, if_true] at h; split at h <;> cases h
  | some k => exact ⟨k, rfl⟩
theorem Rel.rem (h : Rel q R) : Rel (q.remQ nm) (R.remS nm) := by
  have hB := h.beg
  unfold PS.remQ RS.remS
  rw [h.findC]
  by_cases h0 : q.findE nm = 0
  · rw [if_pos h0, if_pos h0]
    obtain ⟨k, hk⟩ := findE_lk h0
    have hne : nm ≠ ⟨#[]⟩ := h.ne _ ((lk_mem h.names.ks).1 hk)
    obtain ⟨g1, g2, g3, g4, g5, g6, -⟩ := R.gate_same
    rw [← g3]
    have hap : ∀ M : Nm, applyM M ⟨⟨#[]⟩, nm, none⟩ = dl M nm := fun M => by unfold applyM; simp [hne]
    exact hB.note (by rw [hap]; exact hB.names.dl nm) (by rw [hap]; exact hB.top.dl nm) (fun k hk => by cases hk) (fun y hy => by rw [hap] at hy; exact hB.ne y (mem_dl.1 hy).1)
  · rw [if_neg h0, if_neg h0]
    exact hB
theorem Rel.renC (h : Rel q R) : R.renC nm nt = q.renE nm nt := by
  unfold RS.renC PS.renE
  rw [h.findC]
theorem dl_dl (M : Nm) (s : ByteArray) : dl (dl M s) s = dl M s := by
  unfold dl
  rw [List.filter_filter]
  simp
theorem withN_dl (L : Nm) (s : ByteArray) (f : Nat) : withN (dl L s) s f = withN L s f := by unfold withN; rw [dl_dl]
theorem Rel.ren (h : Rel q R) : Rel (q.renQ nm nt) (R.renS nm nt) := by
  have hB := h.beg
  unfold PS.renQ RS.renS
  rw [h.renC]
  by_cases h0 : q.renE nm nt = 0
  · rw [if_pos h0, if_pos h0]
    have hf0 : q.findE nm = 0 := by
      unfold PS.renE at h0
      split at h0
      · rename_i e; exact absurd h0 e
      · rename_i e; simpa using e
    have hot : okN nt = true := by
      unfold PS.renE at h0
      rw [if_neg (by simp [hf0])] at h0
      cases ho : okN nt with
      | true => rfl
      | false => simp [ho] at h0
    obtain ⟨k, hk⟩ := findE_lk hf0
    rw [h.names.lk, hk]
    have hmem := (lk_mem h.names.ks).1 hk
    have hne : nm ≠ ⟨#[]⟩ := h.ne _ hmem
    have hfk := h.fs k (.inl ⟨nm, hmem⟩)
    obtain ⟨g1, g2, g3, g4, g5, g6, -⟩ := R.gate_same
    obtain ⟨b1, b2, b3, b4, b5, b6, b7⟩ := q.beg_same
    have hap : ∀ {M L : Nm}, NR M L → NR (applyM M (Go.Proofs.YtlhbgobjhddhlaaGreatDoor.renC nm nt k)) (withN (dl L nm) nt (k - 1)) := fun {M L} hM => by
      unfold applyM Go.Proofs.YtlhbgobjhddhlaaGreatDoor.renC
      dsimp only
      by_cases e : nm = nt
      · subst e
        rw [if_pos rfl, if_pos rfl, withN_dl]
        exact hM.pt nm k hfk.1
      · rw [if_neg e, if_neg hne]
        exact (hM.dl nm).pt nt k hfk.1
    show Rel (q.beg.change (Go.Proofs.YtlhbgobjhddhlaaGreatDoor.renC nm nt k)) (R.gateS.note (withN (Go.Proofs.YtlhbgobjhddhlaaGreatDoor.dl R.names nm) nt (k - 1)))
    rw [← g3]
    refine hB.note (hap hB.names) (hap hB.top) (fun j hj => ?_) (fun y hy => ?_)
    · have e : k = j := by unfold Go.Proofs.YtlhbgobjhddhlaaGreatDoor.renC at hj; simpa using hj
      subst e
      rw [b7, g2, b5]
      exact hfk
    · unfold applyM Go.Proofs.YtlhbgobjhddhlaaGreatDoor.renC at hy
      dsimp only at hy
      rcases List.mem_cons.1 hy with rfl | hy
      · exact ba_nil hot
      · have h1 := (mem_dl.1 hy).1
        split at h1
        · exact hB.ne y h1
        · exact hB.ne y (mem_dl.1 h1).1
  · rw [if_neg h0, if_neg h0]
    exact hB
theorem Rel.dirC (h : Rel q R) : R.dirC = q.begE := by
  unfold RS.dirC
  by_cases hg : R.gateB = false
  · have h1 := h.gateB.1 hg
    rw [if_pos hg]
    unfold PS.begE at h1 ⊢
    split
    · rfl
    · split
      · rfl
      · rename_i a b; simp [a, b] at h1
  · rw [if_neg hg]
    exact (Decidable.byContradiction fun e => hg (h.gateB.2 (fun e2 => e e2.symm)))
theorem Rel.dir (h : Rel q R) : Rel q.dirQ R.dirS := by
  have hB := h.beg
  unfold PS.dirQ RS.dirS
  by_cases hg : R.gateB = false
  · rw [if_pos hg, if_neg (h.gateB.1 hg)]
    exact hB
  · have h0 : q.begE = 0 := Decidable.byContradiction fun e => hg (h.gateB.2 e)
    rw [if_neg hg, if_pos h0]
    obtain ⟨g1, g2, g3, g4, g5, g6, -⟩ := R.gate_same
    refine ⟨hB.room, hB.armed, hB.off, by have := hB.calls; rw [g6] at this; unfold PS.syncDir; dsimp only; rw [this], hB.files, hB.names, by rw [← g3]; exact hB.names, ?_, rfl, fun i hi => (by cases hi), fun k hk => ?_, hB.ne, fun i y hy => hB.ne y (by unfold PS.kp PS.syncDir at hy; simpa using hy)⟩
    · unfold PS.syncDir PS.kp
      dsimp only
      exact hB.names
    · refine hB.fs k ?_
      rcases hk with h1 | h1 | ⟨c, hc, _⟩
      · exact .inl h1
      · exact .inl h1
      · cases hc
theorem Rel.arm (h : Rel q R) (n : Int) : Rel (q.arm n) (R.arm n) :=
  ⟨h.room, rfl, h.off, h.calls, h.files, h.names, h.kept, h.top, h.logl, h.log, h.fs, h.ne, h.nk⟩
end
section
open Go.RowKit
variable {q : PS} {R : RS}

theorem Im.self {p : PS} (h : Im p q) {j : Nat} (hj : PFl q j) : (q.fs j).id = j := by
  have key : ∃ k, PFl p k ∧ (p.fs k).id = j := by
    rcases hj with ⟨n, hn⟩ | ⟨n, hn⟩ | ⟨c, hc, e⟩
    · rw [h.names] at hn
      obtain ⟨x, hx, e⟩ := List.mem_map.1 hn
      exact ⟨x.2, .inl ⟨x.1, hx⟩, congrArg Prod.snd e⟩
    · rw [h.kept] at hn
      obtain ⟨x, hx, e⟩ := List.mem_map.1 hn
      exact ⟨x.2, .inr (.inl ⟨x.1, hx⟩), congrArg Prod.snd e⟩
    · rw [h.ch] at hc
      obtain ⟨d, hd, e2⟩ := List.mem_map.1 hc
      subst e2
      unfold idC at e
      dsimp only at e
      cases hf : d.fl with
      | none => rw [hf] at e; cases e
      | some k =>
        rw [hf] at e
        simp only [Option.map_some, Option.some.injEq] at e
        exact ⟨k, .inr (.inr ⟨d, hd, hf⟩), e⟩
  obtain ⟨k, hk, e⟩ := key
  rw [← e, h.fs k hk]
theorem TW.self {w0 w : World} {X : Nat} {D : Nat → Prop} (h : TW w0 w X q D) : ∀ j, PFl q j → (q.fs j).id = j := by
  obtain ⟨s, -, -, hi, -⟩ := h
  exact fun j hj => hi.self hj
def cutP (y : List UInt8 × Nat) (m : Nat) : List UInt8 × Nat := (y.1.take (y.2 + m), y.2 + m)
def before (now : Nm) (i : Nat) : Nat := ((List.range i).filter (named now)).length
theorem before_succ (now : Nm) (i : Nat) : before now (i + 1) = before now i + if named now i = true then 1 else 0 := by
  unfold before
  rw [List.range_succ, List.filter_append, List.length_append]
  congr 1
  by_cases h : named now i = true
  · simp [h]
  · simp [h]
theorem crL_all (now : Nm) (picks : List Int) (F : List (List UInt8 × Nat)) : ∀ i, i ≤ F.length → (crL now picks F i).2 = before now i + 1 ∧
    ∀ j, j < i → (crL now picks F i).1.getD j ([], 0) = if named now j = true then cutP (F.getD j ([], 0)) (pick picks (before now j + 1) ((F.getD j ([], 0)).1.length - (F.getD j ([], 0)).2)) else F.getD j ([], 0) := by
  intro i
  induction i with
  | zero => exact fun _ => ⟨rfl, fun j hj => by omega⟩
  | succ i ih =>
    intro hi
    obtain ⟨h1, h2⟩ := ih (by omega)
    obtain ⟨l1, l2, l3⟩ := crL_len now picks F i
    unfold crL
    rw [before_succ]
    by_cases hn : named now i = true
    · rw [if_pos hn, if_pos hn]
      refine ⟨by dsimp only; rw [h1], fun j hj => ?_⟩
      dsimp only
      by_cases e : j = i
      · rw [e, if_pos hn]
        simp only [List.getD]
        rw [List.getElem?_set_self (by rw [l1]; omega), h1]
        rfl
      · rw [← h2 j (by omega)]
        simp only [List.getD]
        rw [List.getElem?_set_ne (by omega)]
    · rw [if_neg hn, if_neg hn]
      refine ⟨h1, fun j hj => ?_⟩
      by_cases e : j = i
      · rw [e, if_neg hn]
        exact l3 i (Nat.le_refl _)
      · exact h2 j (by omega)
def idsOf (now : Nm) (n : Nat) : List Nat := ((List.range n).filter (named now)).map (· + 1)
theorem ids_idx (now : Nm) : ∀ (n : Nat) (j : Nat), j < n → named now j = true → (idsOf now n).idxOf (j + 1) = before now j := by
  intro n
  induction n with
  | zero => intro j hj; omega
  | succ n ih =>
    intro j hj hn
    unfold idsOf
    rw [List.range_succ, List.filter_append, List.map_append, List.idxOf_append]
    by_cases e : j = n
    · subst e
      rw [if_neg]
      · rw [List.length_map]
        unfold before
        simp [hn]
      · intro hm
        obtain ⟨x, hx, e⟩ := List.mem_map.1 hm
        have := List.mem_range.1 (List.mem_filter.1 hx).1
        omega
    · rw [if_pos]
      · exact ih j (by omega) hn
      · exact List.mem_map.2 ⟨j, List.mem_filter.2 ⟨List.mem_range.2 (by omega), hn⟩, rfl⟩
theorem named_iff {N now : Nm} (h : NR N now) (j : Nat) : named now j = true ↔ ∃ n, (n, j + 1) ∈ N := by
  unfold named
  rw [List.any_eq_true]
  constructor
  · rintro ⟨⟨n, k⟩, hy, e⟩
    have e2 : k = j := by simpa using e
    subst e2
    exact ⟨n, h.mem.1 hy⟩
  · rintro ⟨n, hn⟩
    exact ⟨(n, j), h.mem.2 hn, by simp⟩
theorem Rel.now (h : Rel q R) (picks : List Int) : NR (q.kp (q.cp picks)) (R.nowR picks) := by
  unfold RS.nowR PS.cp
  rw [h.logl]
  have hle := pick_le picks 0 q.ch.length
  by_cases h0 : pick picks 0 q.ch.length = 0
  · rw [if_pos h0, h0]
    exact h.kept
  · rw [if_neg h0]
    have := h.log (pick picks 0 q.ch.length - 1) (by omega)
    rwa [show pick picks 0 q.ch.length - 1 + 1 = pick picks 0 q.ch.length by omega] at this
theorem Rel.order (h : Rel q R) (hs : ∀ j, PFl q j → (q.fs j).id = j) (picks : List Int) : q.order picks (idsOf (R.nowR picks) q.files) := by
  have hn := h.now picks
  have hm : ∀ k, k ∈ idsOf (R.nowR picks) q.files ↔ ∃ n, (n, k) ∈ q.kp (q.cp picks) := fun k => by
    unfold idsOf
    rw [List.mem_map]
    constructor
    · rintro ⟨j, hj, rfl⟩
      exact (named_iff hn j).1 (List.mem_filter.1 hj).2
    · rintro ⟨n, hk⟩
      have h1 := h.fs k (kp_from hk)
      refine ⟨k - 1, List.mem_filter.2 ⟨List.mem_range.2 (by omega), (named_iff hn _).2 ⟨n, by rwa [show k - 1 + 1 = k by omega]⟩⟩, by omega⟩
  have hp : (idsOf (R.nowR picks) q.files).Pairwise (· < ·) := by
    unfold idsOf
    rw [List.pairwise_map]
    exact (List.pairwise_lt_range.filter _).imp fun h => by omega
  refine ⟨hp.imp fun h e => by omega, hm, ?_⟩
  refine List.Pairwise.imp_of_mem (fun {a b} ha hb hab => ?_) hp
  obtain ⟨n, hna⟩ := (hm a).1 ha
  obtain ⟨m, hmb⟩ := (hm b).1 hb
  rw [hs a (kp_from hna), hs b (kp_from hmb)]
  omega
theorem order_uni (hs : ∀ j, PFl q j → (q.fs j).id = j) {picks : List Int} {G H : List Nat} (hG : q.order picks G) (hH : q.order picks H) : G = H := by
  have hs2 : ∀ {L : List Nat}, q.order picks L → L.Pairwise (· ≤ ·) := fun {L} hL => by
    refine List.Pairwise.imp_of_mem (fun {a b} ha hb hab => ?_) hL.2.2
    obtain ⟨n, hna⟩ := (hL.2.1 a).1 ha
    obtain ⟨m, hmb⟩ := (hL.2.1 b).1 hb
    rwa [hs a (kp_from hna), hs b (kp_from hmb)] at hab
  exact List.Perm.eq_of_pairwise (fun _ _ _ _ h1 h2 => Nat.le_antisymm h1 h2) (hs2 hG) (hs2 hH) ((List.perm_ext_iff_of_nodup hG.1 hH.1).2 fun k => by rw [hG.2.1, hH.2.1])
theorem Rel.crash (h : Rel q R) (hs : ∀ j, PFl q j → (q.fs j).id = j) {picks : List Int} {G : List Nat} (hG : q.order picks G) : Rel (q.crash picks G) (R.crashS picks) := by
  have hn := h.now picks
  have hGH := order_uni hs hG (h.order hs picks)
  have hkp : ∀ i, (q.crash picks G).kp i = q.kp (q.cp picks) := fun i => by
    show ([].take i).foldl applyM (q.kp (q.cp picks)) = _
    simp
  have hpf : ∀ k, PFl (q.crash picks G) k → ∃ n, (n, k) ∈ q.kp (q.cp picks) := fun k hk => by
    rcases hk with h1 | h1 | ⟨c, hc, _⟩
    · exact h1
    · exact h1
    · cases hc
  have hlen := crL_len (R.nowR picks) picks R.files R.files.length
  refine ⟨h.room, rfl, rfl, h.calls, hlen.1.trans h.files, hn, hn, by rw [hkp]; exact hn, rfl, fun i hi => (by cases hi), fun k hk => ?_, h.nk _, fun i => by rw [hkp]; exact h.nk _⟩
  obtain ⟨n, hk2⟩ := hpf k hk
  have h1 := h.fs k (kp_from hk2)
  have hkG : k ∈ G := (hG.2.1 k).2 ⟨n, hk2⟩
  refine ⟨h1.1, h1.2.1, ?_⟩
  have hnm : named (R.nowR picks) (k - 1) = true := (named_iff hn _).2 ⟨n, by rwa [show k - 1 + 1 = k by omega]⟩
  have h2 := (crL_all (R.nowR picks) picks R.files R.files.length (Nat.le_refl _)).2 (k - 1) (by rw [h.files]; omega)
  show (crL (R.nowR picks) picks R.files R.files.length).1.getD (k - 1) ([], 0) = _
  rw [h2, if_pos hnm, h1.2.2]
  unfold PS.crash cutF cutP
  dsimp only
  rw [if_pos hkG]
  have hix : G.idxOf k = before (R.nowR picks) (k - 1) := by
    rw [hGH]
    have := ids_idx (R.nowR picks) q.files (k - 1) (by omega) hnm
    rwa [show k - 1 + 1 = k by omega] at this
  rw [hix]
end
section
open Go.RowKit
variable {R : RS} {i : Nat} {nm nt : ByteArray}

def RowOk (n i : Nat) (l : Nm) : Prop := l.length ≤ i ∧ ∀ y ∈ l, y.1.size ≤ 64 ∧ y.2 < n
structure RS.Bd (R : RS) (i : Nat) : Prop where
  nm : RowOk R.files.length i R.names
  kp : RowOk R.files.length i R.kept
  lg : R.log.length ≤ i ∧ ∀ l ∈ R.log, RowOk R.files.length i l
  fb : R.files.length ≤ i ∧ ∀ y ∈ R.files, y.1.length ≤ 200 * i ∧ y.2 ≤ y.1.length
  rm : 1 ≤ R.room ∧ R.room ≤ 4194304
  cl : R.calls ≤ i ∧ R.fuse ≤ 9223372036854775807
theorem RowOk.mono {n m i j : Nat} {l : Nm} (h : RowOk n i l) (hn : n ≤ m) (hi : i ≤ j) : RowOk m j l := ⟨Nat.le_trans h.1 hi, fun y hy => ⟨(h.2 y hy).1, Nat.lt_of_lt_of_le (h.2 y hy).2 hn⟩⟩
theorem RS.Bd.ok (h : R.Bd i) (hi : i ≤ 1000) : R.Ok :=
  ⟨⟨by have := h.nm.1; omega, h.nm.2⟩, ⟨by have := h.kp.1; omega, h.kp.2⟩, ⟨by have := h.lg.1; omega, fun l hl => ⟨by have := (h.lg.2 l hl).1; omega, (h.lg.2 l hl).2⟩⟩, ⟨by have := h.fb.1; omega, fun y hy => ⟨by have := (h.fb.2 y hy).1; omega, (h.fb.2 y hy).2⟩⟩, h.rm, ⟨by have := h.cl.1; omega, h.cl.2⟩⟩
theorem RS.Bd.mono (h : R.Bd i) {j : Nat} (hi : i ≤ j) : R.Bd j :=
  ⟨h.nm.mono (Nat.le_refl _) hi, h.kp.mono (Nat.le_refl _) hi, ⟨Nat.le_trans h.lg.1 hi, fun l hl => (h.lg.2 l hl).mono (Nat.le_refl _) hi⟩, ⟨Nat.le_trans h.fb.1 hi, fun y hy => ⟨by have := (h.fb.2 y hy).1; omega, (h.fb.2 y hy).2⟩⟩, h.rm, ⟨Nat.le_trans h.cl.1 hi, h.cl.2⟩⟩
theorem RS.Bd.gate (h : R.Bd i) : R.gateS.Bd i := by
  obtain ⟨e1, e2, e3, e4, e5, e6, e7⟩ := R.gate_same
  exact ⟨by rw [e3, e2]; exact h.nm, by rw [e4, e2]; exact h.kp, by rw [e5, e2]; exact h.lg, by rw [e2]; exact h.fb, by rw [e1]; exact h.rm, by rw [e6]; exact ⟨h.cl.1, by have := h.cl.2; omega⟩⟩
theorem RS.Bd.new {room : Int} (h : newOk room = true) : (RS.new room).Bd 0 := by
  refine ⟨⟨Nat.le_refl _, fun _ h => (by cases h)⟩, ⟨Nat.le_refl _, fun _ h => (by cases h)⟩, ⟨Nat.le_refl _, fun _ h => (by cases h)⟩, ⟨Nat.le_refl _, fun _ h => (by cases h)⟩, ?_, ⟨Nat.le_refl _, Nat.zero_le _⟩⟩
  unfold newOk at h
  simp only [Bool.and_eq_true, decide_eq_true_eq] at h
  exact h
theorem RS.Bd.note (h : R.Bd i) {l : Nm} (hl : RowOk R.files.length (i + 1) l) : (R.note l).Bd (i + 1) := by
  have h1 := h.mono (Nat.le_succ i)
  refine ⟨hl, h1.kp, ⟨?_, fun m hm => ?_⟩, h1.fb, h.rm, ⟨by have := h.cl.1; show R.calls + 1 ≤ _; omega, h.cl.2⟩⟩
  · show (R.log ++ [l]).length ≤ _
    have := h.lg.1
    rw [List.length_append]
    simp
    omega
  · rcases List.mem_append.1 hm with h2 | h2
    · exact h1.lg.2 m h2
    · rw [List.mem_singleton.1 h2]
      exact hl
theorem RowOk.dl {n : Nat} {l : Nm} (h : RowOk n i l) (s : ByteArray) : RowOk n i (dl l s) := ⟨Nat.le_trans (List.length_filter_le _ _) h.1, fun y hy => h.2 y (mem_dl.1 hy).1⟩
theorem RowOk.withN {n : Nat} {l : Nm} (h : RowOk n i l) {s : ByteArray} {f : Nat} (hs : s.size ≤ 64) (hf : f < n) : RowOk n (i + 1) (withN l s f) := by
  have hp := withN_perm l s f
  have hd := h.dl s
  refine ⟨by rw [hp.length_eq, List.length_cons]; have := hd.1; omega, fun y hy => ?_⟩
  rcases List.mem_cons.1 (hp.mem_iff.1 hy) with rfl | h1
  · exact ⟨hs, hf⟩
  · exact hd.2 y h1
theorem RS.Bd.create (h : R.Bd i) : (R.createS nm).Bd (i + 1) := by
  unfold RS.createS
  by_cases h0 : R.createC nm = 0
  · rw [if_pos h0]
    have hok : okN nm = true := by
      unfold RS.createC at h0
      cases ho : okN nm with
      | true => rfl
      | false => simp only [ho, if_true] at h0; split at h0 <;> cases h0
    obtain ⟨e1, e2, e3, e4, e5, e6, e7⟩ := R.gate_same
    rw [← e3, ← e2]
    have hg := h.gate
    generalize R.gateS = R1 at *
    have hl : R1.addFile.files.length = R1.files.length + 1 := by unfold RS.addFile; dsimp only; rw [List.length_append]; rfl
    have h1 : R1.addFile.Bd (i + 1) := by
      refine ⟨hg.nm.mono (by omega) (by omega), hg.kp.mono (by omega) (by omega), ⟨by have := hg.lg.1; show R1.log.length ≤ _; omega, fun l hl2 => (hg.lg.2 l hl2).mono (by omega) (by omega)⟩, ⟨by have := hg.fb.1; omega, fun y hy => ?_⟩, hg.rm, ⟨by have := hg.cl.1; show R1.calls ≤ _; omega, hg.cl.2⟩⟩
      rcases List.mem_append.1 hy with h2 | h2
      · exact ⟨by have := (hg.fb.2 y h2).1; omega, (hg.fb.2 y h2).2⟩
      · rw [List.mem_singleton.1 h2]
        exact ⟨Nat.zero_le _, Nat.le_refl _⟩
    have hlog : R1.addFile.log = R1.log := rfl
    have hw : RowOk R1.addFile.files.length (i + 1) (Go.Proofs.YtlhbgobjhddhlaaGreatDoor.withN R1.names nm R1.files.length) := (hg.nm.mono (by omega) (Nat.le_refl _)).withN (okN_size hok).2 (by omega)
    refine ⟨hw, h1.kp, ⟨?_, fun m hm => ?_⟩, h1.fb, h1.rm, ⟨by have := hg.cl.1; show R1.calls + 1 ≤ _; omega, hg.cl.2⟩⟩
    · show (R1.log ++ [_]).length ≤ _
      have := hg.lg.1
      rw [List.length_append]
      simp
      omega
    · rcases List.mem_append.1 hm with h2 | h2
      · exact h1.lg.2 m h2
      · rw [List.mem_singleton.1 h2]
        exact hw
  · rw [if_neg h0]
    exact h.gate.mono (Nat.le_succ i)
theorem RS.Bd.rem (h : R.Bd i) : (R.remS nm).Bd (i + 1) := by
  unfold RS.remS
  obtain ⟨e1, e2, e3, e4, e5, e6, e7⟩ := R.gate_same
  split
  · rw [← e3]
    exact h.gate.note ((h.gate.nm.dl nm).mono (Nat.le_refl _) (Nat.le_succ i))
  · exact h.gate.mono (Nat.le_succ i)
theorem lk_inR {l : Nm} {s : ByteArray} {f : Nat} (h : lk l s = some f) : ∃ y ∈ l, y.1 = s ∧ y.2 = f := by
  unfold lk at h
  cases hf : l.find? (fun p => decide (p.1 = s)) with
  | none => rw [hf] at h; cases h
  | some p =>
    rw [hf] at h
    simp only [Option.map_some, Option.some.injEq] at h
    exact ⟨p, List.mem_of_find?_eq_some hf, by simpa using List.find?_some hf, h⟩
theorem RS.Bd.ren (h : R.Bd i) : (R.renS nm nt).Bd (i + 1) := by
  unfold RS.renS
  by_cases h0 : R.renC nm nt = 0
  · rw [if_pos h0]
    have hot : okN nt = true := by
      unfold RS.renC at h0
      cases ho : okN nt with
      | true => rfl
      | false =>
        simp only [ho, if_true] at h0
        split at h0
        · rename_i e; exact absurd h0 e
        · cases h0
    cases hk : Go.Proofs.YtlhbgobjhddhlaaGreatDoor.lk R.names nm with
    | none => exact h.gate.mono (Nat.le_succ i)
    | some f =>
      obtain ⟨y, hy, -, rfl⟩ := lk_inR hk
      obtain ⟨e1, e2, e3, e4, e5, e6, e7⟩ := R.gate_same
      show (R.gateS.note (Go.Proofs.YtlhbgobjhddhlaaGreatDoor.withN (Go.Proofs.YtlhbgobjhddhlaaGreatDoor.dl R.names nm) nt y.2)).Bd (i + 1)
      rw [← e3]
      exact h.gate.note ((h.gate.nm.dl nm).withN (okN_size hot).2 (by rw [e2]; exact (h.nm.2 y hy).2))
  · rw [if_neg h0]
    exact h.gate.mono (Nat.le_succ i)
theorem getD_memF {F : List (List UInt8 × Nat)} {k : Nat} (hk : k < F.length) : F.getD k ([], 0) ∈ F := by
  rw [List.getD_eq_getElem?_getD, List.getElem?_eq_getElem hk]
  exact List.getElem_mem _
theorem RS.Bd.upd (h : R.Bd i) {g : List UInt8 × Nat → List UInt8 × Nat} (hg : ∀ f, lk R.names nm = some f → R.files.getD f ([], 0) ∈ R.files → (g (R.files.getD f ([], 0))).1.length ≤ 200 * (i + 1) ∧ (g (R.files.getD f ([], 0))).2 ≤ (g (R.files.getD f ([], 0))).1.length) : (R.upd nm g).Bd (i + 1) := by
  unfold RS.upd
  cases hk : Go.Proofs.YtlhbgobjhddhlaaGreatDoor.lk R.names nm with
  | none => exact h.gate.mono (Nat.le_succ i)
  | some f =>
    obtain ⟨y, hy, -, rfl⟩ := lk_inR hk
    have hlt := (h.nm.2 y hy).2
    have hg2 := hg _ hk (getD_memF hlt)
    obtain ⟨e1, e2, e3, e4, e5, e6, e7⟩ := R.gate_same
    have h1 := h.mono (Nat.le_succ i)
    have hl : (R.files.set y.2 (g (R.files.getD y.2 ([], 0)))).length = R.files.length := List.length_set
    refine ⟨?_, ?_, ?_, ⟨?_, fun z hz => ?_⟩, ?_, ?_⟩
    · show RowOk (R.files.set y.2 _).length _ R.gateS.names
      rw [hl, e3]
      exact h1.nm
    · show RowOk (R.files.set y.2 _).length _ R.gateS.kept
      rw [hl, e4]
      exact h1.kp
    · show R.gateS.log.length ≤ _ ∧ ∀ l ∈ R.gateS.log, RowOk (R.files.set y.2 _).length _ l
      rw [hl, e5]
      exact h1.lg
    · show (R.files.set y.2 _).length ≤ _
      rw [hl]
      exact h1.fb.1
    · rcases List.mem_or_eq_of_mem_set hz with h2 | h2
      · exact h1.fb.2 z h2
      · rw [h2]
        exact hg2
    · show 1 ≤ R.gateS.room ∧ R.gateS.room ≤ _
      rw [e1]
      exact h.rm
    · exact ⟨by have := h.cl.1; show R.calls + 1 ≤ _; omega, by show R.gateS.fuse ≤ _; have := h.cl.2; omega⟩
theorem RS.Bd.sync (h : R.Bd i) : (R.syncS nm).Bd (i + 1) := by
  unfold RS.syncS
  split
  · exact h.upd fun f _ hm => ⟨by have := (h.fb.2 _ hm).1; dsimp only; omega, Nat.le_refl _⟩
  · exact h.gate.mono (Nat.le_succ i)
theorem RS.Bd.app (h : R.Bd i) {m : List UInt8} (hm : m.length ≤ 200) : (R.appS nm m).Bd (i + 1) := by
  unfold RS.appS
  split
  · refine h.upd fun f _ hf => ?_
    have := h.fb.2 _ hf
    dsimp only
    rw [List.length_append]
    omega
  · exact h.gate.mono (Nat.le_succ i)
theorem RS.Bd.cut (h : R.Bd i) {n : Int} : (R.cutS nm n).Bd (i + 1) := by
  unfold RS.cutS
  by_cases h0 : R.cutC nm n = 0
  · rw [if_pos h0]
    refine h.upd fun f hf hm => ?_
    have h1 := h.fb.2 _ hm
    have h2 : ¬ (n < 0 ∨ ((R.fl nm).1.length : Int) < n) := fun e => by
      unfold RS.cutC at h0
      rw [if_pos e] at h0
      split at h0
      · rename_i e2; exact e2 h0
      · cases h0
    have h3 : R.fl nm = R.files.getD f ([], 0) := by unfold RS.fl; rw [hf]
    rw [h3] at h2
    dsimp only
    rw [List.length_take]
    omega
  · rw [if_neg h0]
    exact h.gate.mono (Nat.le_succ i)
theorem RS.Bd.dir (h : R.Bd i) : R.dirS.Bd (i + 1) := by
  unfold RS.dirS
  obtain ⟨e1, e2, e3, e4, e5, e6, e7⟩ := R.gate_same
  have h1 := h.gate.mono (Nat.le_succ i)
  split
  · exact h1
  · exact ⟨h1.nm, by show RowOk R.gateS.files.length _ R.names; rw [← e3]; exact h1.nm, ⟨Nat.zero_le _, fun _ hl => (by cases hl)⟩, h1.fb, h1.rm, ⟨by have := h.cl.1; show R.calls + 1 ≤ _; omega, h1.cl.2⟩⟩
theorem RS.Bd.arm (h : R.Bd i) {n : Int} (hn : n ≤ 9223372036854775807) : (R.arm n).Bd (i + 1) := by
  have h1 := h.mono (Nat.le_succ i)
  exact ⟨h1.nm, h1.kp, h1.lg, h1.fb, h1.rm, ⟨h1.cl.1, by show n.toNat ≤ _; omega⟩⟩
theorem RS.Bd.crash (h : R.Bd i) (picks : List Int) : (R.crashS picks).Bd (i + 1) := by
  have h1 := h.mono (Nat.le_succ i)
  have hl := crL_len (R.nowR picks) picks R.files R.files.length
  have ha := crL_all (R.nowR picks) picks R.files R.files.length (Nat.le_refl _)
  have hnow : RowOk R.files.length (i + 1) (R.nowR picks) := by
    unfold RS.nowR
    split
    · exact h1.kp
    · rename_i hne
      have := pick_le picks 0 R.log.length
      rw [List.getD_eq_getElem?_getD, List.getElem?_eq_getElem (show pick picks 0 R.log.length - 1 < R.log.length by omega)]
      exact h1.lg.2 _ (List.getElem_mem _)
  refine ⟨?_, ?_, ⟨Nat.zero_le _, fun _ hl => (by cases hl)⟩, ⟨?_, fun y hy => ?_⟩, h.rm, ⟨h1.cl.1, Nat.zero_le _⟩⟩
  · show RowOk (crL _ _ _ _).1.length _ (R.nowR picks)
    rw [hl.1]
    exact hnow
  · show RowOk (crL _ _ _ _).1.length _ (R.nowR picks)
    rw [hl.1]
    exact hnow
  · show (crL _ _ _ _).1.length ≤ _
    rw [hl.1]
    exact h1.fb.1
  · change y ∈ (crL (R.nowR picks) picks R.files R.files.length).1 at hy
    obtain ⟨j, hj, e⟩ := List.mem_iff_getElem.1 hy
    rw [hl.1] at hj
    have h2 := ha.2 j hj
    rw [List.getD_eq_getElem?_getD, List.getElem?_eq_getElem (by rw [hl.1]; exact hj), Option.getD_some, e] at h2
    have h3 := h1.fb.2 _ (getD_memF hj)
    rw [h2]
    split
    · have h4 := pick_le picks (before (R.nowR picks) j + 1) ((R.files.getD j ([], 0)).1.length - (R.files.getD j ([], 0)).2)
      unfold cutP
      dsimp only
      rw [List.length_take]
      omega
    · exact h3
end
section
open Go.RowKit
variable {z : Nat} {zs : Array Value} {W w w' : World} {pa : Nat → Addr} {nm nt : ByteArray} {X x i : Nat} {q q' : PS} {R R' : RS} {s : DS} {D : Nat → Prop}

theorem LW.frame {S : Nat → Prop} (h : LW W w s) (hf : Fr S w w') (hS : ∀ k, DSet s k → ¬ S k) (hB : ∀ k, BB w k → ¬ S k) (h0 : ∀ k, k < W.heap.size → ¬ S k) : LW W w' s :=
  ⟨h.d.frame hf hS hB, h.f.trans (U := fun _ => False) hf (fun _ _ h => h) fun k hk e => h0 k hk e⟩
theorem LW.ref (h : LW W w s) (hf : Fr (RK W.heap.size w) w w') : LW W w' s := by
  refine h.frame hf (fun k hk hr => ?_) (fun k hk hr => ?_) fun k hk hr => by have := hr.1; omega
  · obtain ⟨-, cs, t, fz, hc, ht⟩ := hr
    rcases h.d.other hk hc with e | e | e <;> (rw [e] at ht; revert ht; decide)
  · obtain ⟨-, cs, t, fz, hc, ht⟩ := hr
    obtain ⟨cs', fz', hc'⟩ := hk
    rw [hc'] at hc
    simp only [Option.some.injEq, Obj.cells.injEq] at hc
    rw [← hc.2.1] at ht
    revert ht
    decide
/-- The program's disk and the document's. -/
def Duo (W w : World) (X x : Nat) (q : PS) (R : RS) : Prop := ∃ D, TW W w X q D ∧ RAt W.heap.size w x R
/-- And a copy, and what the disks are told. -/
def Tri (W w : World) (X x z : Nat) (zs : Array Value) (s : DS) (q : PS) (R : RS) : Prop := ∃ D, TW W w X q D ∧ RAt W.heap.size w x R ∧ LW W w s ∧ (∀ k, DSet s k → ¬ D k) ∧ w.heap[z]? = some (.cells zs 35 (0, 0))
theorem Duo.f (h : Duo W w X x q R) : Fr (fun _ => False) W w := by obtain ⟨D, h1, -⟩ := h; exact h1.f
theorem Duo.fr (h : Duo W w X x q R) (hf : Fr (fun _ => False) w w') : Duo W w' X x q R := by
  obtain ⟨D, h1, h2⟩ := h
  exact ⟨D, h1.fr hf, h2.fr hf⟩
theorem Tri.f (h : Tri W w X x z zs s q R) : Fr (fun _ => False) W w := by obtain ⟨D, h1, -⟩ := h; exact h1.f
theorem Tri.fr (h : Tri W w X x z zs s q R) (hf : Fr (fun _ => False) w w') : Tri W w' X x z zs s q R := by
  obtain ⟨D, h1, h2, h3, h4, hz⟩ := h
  exact ⟨D, h1.fr hf, h2.fr hf, h3.fr hf, h4, hf.heap hz not_false⟩
theorem Tri.duo (h : Tri W w X x z zs s q R) : Duo W w X x q R := by
  obtain ⟨D, h1, h2, -⟩ := h
  exact ⟨D, h1, h2⟩
theorem tri_st (h1 : TW W w X q D) (h2 : RAt W.heap.size w x R) (h3 : LW W w s) (h4 : ∀ k, DSet s k → ¬ D k) (hz : w.heap[z]? = some (.cells zs 35 (0, 0))) (hs : St1 W w w' X D q') : Tri W w' X x z zs s q' R := by
  obtain ⟨D', h5, hf, hn⟩ := hs
  refine ⟨D', h5, h2.tw h1 hf, h3.frame hf h4 (fun k hk => h1.bb hk) (fun k hk hd => by have := h1.lo hd; omega), fun k hk hd => ?_, hf.heap hz (h1.cells hz (by decide) (by decide) (by decide))⟩
  rcases hn k hd with e | e
  · exact h4 k hk e
  · have := h3.d.dlt hk
    omega
theorem Tri.ref (h : Tri W w X x z zs s q R) (h' : RAt W.heap.size w' x R') (hf : Fr (RK W.heap.size w) w w') : Tri W w' X x z zs s q R' := by
  obtain ⟨D, h1, h2, h3, h4, hz⟩ := h
  refine ⟨D, h1.ref (Nat.le_refl _) hf, h', h3.ref hf, h4, hf.heap hz fun hr => ?_⟩
  obtain ⟨-, cs, t, fz, hc, ht⟩ := hr
  rw [hz] at hc
  simp only [Option.some.injEq, Obj.cells.injEq] at hc
  rw [← hc.2.1] at ht
  revert ht
  decide
theorem tri_clone (h : Duo W w X x q R) (hz : w.heap[z]? = some (.cells zs 35 (0, 0))) (hc : q.calls ≤ 1000000) :
    Calls Tryz.prog 8 #[.pointer (some ⟨X, 0, none⟩)] w fun e w' => ∃ s, e = .returned (.pointer (some ⟨s.X, 0, none⟩)) ∧ s.calls ≤ 1000000 ∧ Tri W w' X x z zs s q R := by
  obtain ⟨D, h1, h2⟩ := h
  refine (clone_t h1 hc).mono ?_
  rintro e w2 ⟨hf, Y, s, rfl, hl, rfl, hcs, -, hD⟩
  exact ⟨s, rfl, by omega, D, h1.fr hf, h2.fr hf, hl, fun k hk hd => by have h3 := h1.lt hd; have h4 := hD k hk; omega, hf.heap hz not_false⟩
theorem tri_used (h : Tri W w X x z zs s q R) (hc : s.calls ≤ 1000000) :
    Calls Tryz.prog 9 #[.pointer (some ⟨s.X, 0, none⟩)] w fun e w' => e = .returned (.int .i64 (ps s).used) ∧ Tri W w' X x z zs s q R := by
  obtain ⟨D, h1, h2, h3, h4, hz⟩ := id h
  exact (clone_u h3 hc).mono fun _ _ ⟨e, hf⟩ => ⟨e, h.fr hf⟩
theorem tri_create (h : Tri W w X x z zs s q R) (hS : S6 W.heap.size W pa) (hn : nm.size ≤ 1048576) (hc : q.calls ≤ 1000000 ∧ q.files ≤ 1000000) :
    Calls Tryz.prog 10 #[.pointer (some ⟨X, 0, none⟩), .string nm] w fun e w' => e = .returned (errV pa (q.createE nm)) ∧ Tri W w' X x z zs s (q.createQ nm) R := by
  obtain ⟨D, h1, h2, h3, h4, hz⟩ := h
  exact (create_t h1 hS hn hc).mono fun _ _ ⟨e, hs⟩ => ⟨e, tri_st h1 h2 h3 h4 hz hs⟩
theorem tri_append (h : Tri W w X x z zs s q R) (hS : S6 W.heap.size W pa) (hn : nm.size ≤ 1048576) (v : Value) (m : List UInt8) (hv : Bs (fun k => k < W.heap.size) W v m) (hm : m.length ≤ 1048576) (hc : q.calls ≤ 1000000) :
    Calls Tryz.prog 12 #[.pointer (some ⟨X, 0, none⟩), .string nm, v] w fun e w' => e = .returned (errV pa (q.appE nm m)) ∧ Tri W w' X x z zs s (q.appQ nm m) R := by
  obtain ⟨D, h1, h2, h3, h4, hz⟩ := h
  exact (append_t h1 hS hn v m _ (hv.frame h1.f fun _ _ => id) (fun k hk hd => by have := h1.lo hd; omega) (by omega) hc).mono fun _ _ ⟨e, hs⟩ => ⟨e, tri_st h1 h2 h3 h4 hz hs⟩
theorem tri_cut (h : Tri W w X x z zs s q R) (hS : S6 W.heap.size W pa) (hn : nm.size ≤ 1048576) (n : Int) (hnn : -9223372036854775808 ≤ n ∧ n ≤ 9223372036854775807) (hc : q.calls ≤ 1000000) :
    Calls Tryz.prog 14 #[.pointer (some ⟨X, 0, none⟩), .string nm, .int .i64 n] w fun e w' => e = .returned (errV pa (q.cutE nm n)) ∧ Tri W w' X x z zs s (q.cutQ nm n) R := by
  obtain ⟨D, h1, h2, h3, h4, hz⟩ := h
  exact (cut_t h1 hS hn n hnn hc).mono fun _ _ ⟨e, hs⟩ => ⟨e, tri_st h1 h2 h3 h4 hz hs⟩
theorem tri_sync (h : Tri W w X x z zs s q R) (hS : S6 W.heap.size W pa) (hn : nm.size ≤ 1048576) (hc : q.calls ≤ 1000000) :
    Calls Tryz.prog 16 #[.pointer (some ⟨X, 0, none⟩), .string nm] w fun e w' => e = .returned (errV pa (q.findE nm)) ∧ Tri W w' X x z zs s (q.syncQ nm) R := by
  obtain ⟨D, h1, h2, h3, h4, hz⟩ := h
  exact (sync_t h1 hS hn hc).mono fun _ _ ⟨e, hs⟩ => ⟨e, tri_st h1 h2 h3 h4 hz hs⟩
theorem tri_rename (h : Tri W w X x z zs s q R) (hS : S6 W.heap.size W pa) (hn : nm.size ≤ 1048576) (ht : nt.size ≤ 1048576) (hc : q.calls ≤ 1000000) :
    Calls Tryz.prog 18 #[.pointer (some ⟨X, 0, none⟩), .string nm, .string nt] w fun e w' => e = .returned (errV pa (q.renE nm nt)) ∧ Tri W w' X x z zs s (q.renQ nm nt) R := by
  obtain ⟨D, h1, h2, h3, h4, hz⟩ := h
  exact (rename_t h1 hS hn ht hc).mono fun _ _ ⟨e, hs⟩ => ⟨e, tri_st h1 h2 h3 h4 hz hs⟩
theorem tri_remove (h : Tri W w X x z zs s q R) (hS : S6 W.heap.size W pa) (hn : nm.size ≤ 1048576) (hc : q.calls ≤ 1000000) :
    Calls Tryz.prog 20 #[.pointer (some ⟨X, 0, none⟩), .string nm] w fun e w' => e = .returned (errV pa (q.findE nm)) ∧ Tri W w' X x z zs s (q.remQ nm) R := by
  obtain ⟨D, h1, h2, h3, h4, hz⟩ := h
  exact (remove_t h1 hS hn hc).mono fun _ _ ⟨e, hs⟩ => ⟨e, tri_st h1 h2 h3 h4 hz hs⟩
theorem tri_syncdir (h : Tri W w X x z zs s q R) (hS : S6 W.heap.size W pa) (hc : q.calls ≤ 1000000) :
    Calls Tryz.prog 22 #[.pointer (some ⟨X, 0, none⟩)] w fun e w' => e = .returned (errV pa q.begE) ∧ Tri W w' X x z zs s q.dirQ R := by
  obtain ⟨D, h1, h2, h3, h4, hz⟩ := h
  exact (syncdir_t h1 hS hc).mono fun _ _ ⟨e, hs⟩ => ⟨e, tri_st h1 h2 h3 h4 hz hs⟩
theorem tri_arm (h : Tri W w X x z zs s q R) (n : Int) (hn : n ≤ 9223372036854775807) :
    Calls Tryz.prog 24 #[.pointer (some ⟨X, 0, none⟩), .int .i64 n] w fun e w' => e = .returned (.tuple #[]) ∧ Tri W w' X x z zs s (q.arm n) R := by
  obtain ⟨D, h1, h2, h3, h4, hz⟩ := h
  exact (arm_t h1 n hn).mono fun _ _ ⟨e, hs⟩ => ⟨e, tri_st h1 h2 h3 h4 hz hs⟩
theorem tri_crash (h : Tri W w X x z zs s q R) (hr : Rel q R) (hc : q.calls ≤ 1000000) (pv : Value) (picks : List Int) (hp : Is (fun k => k < W.heap.size) W pv picks) (hrg : ∀ k, -9223372036854775808 ≤ picks.getD k 0 ∧ picks.getD k 0 ≤ 9223372036854775807) (hl : picks.length ≤ 1000000) :
    Calls Tryz.prog 26 #[.pointer (some ⟨X, 0, none⟩), pv] w fun e w' => e = .returned (.tuple #[]) ∧ ∃ q', Rel q' (R.crashS picks) ∧ Tri W w' X x z zs s q' R := by
  obtain ⟨D, h1, h2, h3, h4, hz⟩ := h
  exact (crash_t h1 hc _ pv picks (hp.frame h1.f fun _ _ => id) (fun k hk hd => by have := h1.lo hd; omega) hrg hl).mono fun _ _ ⟨e, G, hG, hs⟩ => ⟨e, _, hr.crash h1.self hG, tri_st h1 h2 h3 h4 hz hs⟩
theorem tri_read (h : Tri W w X x z zs s q R) (hS : S6 W.heap.size W pa) (hn : nm.size ≤ 1048576) (o n : Int) (ho : -9223372036854775808 ≤ o ∧ o ≤ 9223372036854775807) (hnn : -9223372036854775808 ≤ n ∧ n ≤ 9223372036854775807) :
    Calls Tryz.prog 28 #[.pointer (some ⟨X, 0, none⟩), .string nm, .int .i64 o, .int .i64 n] w fun e w' => Tri W w' X x z zs s q R ∧ ∃ v, e = .returned (.tuple #[v, errV pa (q.readE nm o n)]) ∧ Bs (BB w') w' v (if q.readE nm o n = 0 then q.readB nm o n else []) := by
  obtain ⟨D, h1, h2, h3, h4, hz⟩ := id h
  refine (read_t h1 hS (by unfold maxLen; omega) o n ho hnn).mono ?_
  rintro e w2 ⟨hf, v, rfl, h5, h6⟩
  refine ⟨h.fr hf, v, rfl, ?_⟩
  by_cases h0 : q.readE nm o n = 0
  · rw [if_pos h0]
    exact (h5 h0).bs2
  · rw [if_neg h0, h6 h0]
    exact Bs.nil' _ _
theorem tri_rcreate (h : Tri W w X x z zs s q R) (hb : R.Ok) (hn : nm.size ≤ 1048576) :
    Calls Tryz.prog 11 #[.pointer (some ⟨x, 0, none⟩), .string nm] w fun e w' => e = .returned (.int .i64 (R.createC nm : Int)) ∧ Tri W w' X x z zs s q (R.createS nm) := by
  obtain ⟨D, h1, h2, h3, h4, hz⟩ := id h
  exact (rcreate_any h2 hb hn h.f.size).mono fun _ _ ⟨e, ha, hf⟩ => ⟨e, h.ref ha hf⟩
theorem tri_rappend (h : Tri W w X x z zs s q R) (hb : R.Ok) (hn : nm.size ≤ 1048576) (v : Value) (m : List UInt8) (hv : Bs (fun k => k < W.heap.size) W v m) (hm : m.length ≤ 1048576) :
    Calls Tryz.prog 13 #[.pointer (some ⟨x, 0, none⟩), .string nm, v] w fun e w' => e = .returned (.int .i64 (R.appC nm m : Int)) ∧ Tri W w' X x z zs s q (R.appS nm m) := by
  obtain ⟨D, h1, h2, h3, h4, hz⟩ := id h
  exact (rappend_any h2 hb hn v m (hv.frame h1.f fun _ _ => id) hm h.f.size).mono fun _ _ ⟨e, ha, hf⟩ => ⟨e, h.ref ha hf⟩
theorem tri_rcut (h : Tri W w X x z zs s q R) (hb : R.Ok) (hn : nm.size ≤ 1048576) (n : Int) (hnn : -9223372036854775808 ≤ n ∧ n ≤ 9223372036854775807) :
    Calls Tryz.prog 15 #[.pointer (some ⟨x, 0, none⟩), .string nm, .int .i64 n] w fun e w' => e = .returned (.int .i64 (R.cutC nm n : Int)) ∧ Tri W w' X x z zs s q (R.cutS nm n) := by
  obtain ⟨D, h1, h2, h3, h4, hz⟩ := id h
  exact (rcut_any h2 hb hn n hnn h.f.size).mono fun _ _ ⟨e, ha, hf⟩ => ⟨e, h.ref ha hf⟩
theorem tri_rsync (h : Tri W w X x z zs s q R) (hb : R.Ok) (hn : nm.size ≤ 1048576) :
    Calls Tryz.prog 17 #[.pointer (some ⟨x, 0, none⟩), .string nm] w fun e w' => e = .returned (.int .i64 (R.findC nm : Int)) ∧ Tri W w' X x z zs s q (R.syncS nm) := by
  obtain ⟨D, h1, h2, h3, h4, hz⟩ := id h
  exact (rsync_any h2 hb hn h.f.size).mono fun _ _ ⟨e, ha, hf⟩ => ⟨e, h.ref ha hf⟩
theorem tri_rrename (h : Tri W w X x z zs s q R) (hb : R.Ok) (hn : nm.size ≤ 1048576) (ht : nt.size ≤ 1048576) :
    Calls Tryz.prog 19 #[.pointer (some ⟨x, 0, none⟩), .string nm, .string nt] w fun e w' => e = .returned (.int .i64 (R.renC nm nt : Int)) ∧ Tri W w' X x z zs s q (R.renS nm nt) := by
  obtain ⟨D, h1, h2, h3, h4, hz⟩ := id h
  exact (rrename_any h2 hb hn ht h.f.size).mono fun _ _ ⟨e, ha, hf⟩ => ⟨e, h.ref ha hf⟩
theorem tri_rremove (h : Tri W w X x z zs s q R) (hb : R.Ok) (hn : nm.size ≤ 1048576) :
    Calls Tryz.prog 21 #[.pointer (some ⟨x, 0, none⟩), .string nm] w fun e w' => e = .returned (.int .i64 (R.findC nm : Int)) ∧ Tri W w' X x z zs s q (R.remS nm) := by
  obtain ⟨D, h1, h2, h3, h4, hz⟩ := id h
  exact (rremove_any h2 hb hn h.f.size).mono fun _ _ ⟨e, ha, hf⟩ => ⟨e, h.ref ha hf⟩
theorem tri_rsyncdir (h : Tri W w X x z zs s q R) (hb : R.Ok) :
    Calls Tryz.prog 23 #[.pointer (some ⟨x, 0, none⟩)] w fun e w' => e = .returned (.int .i64 (R.dirC : Int)) ∧ Tri W w' X x z zs s q R.dirS := by
  obtain ⟨D, h1, h2, h3, h4, hz⟩ := id h
  exact (rsyncdir_any h2 hb).mono fun _ _ ⟨e, ha, hf⟩ => ⟨e, h.ref ha hf⟩
theorem tri_rarm (h : Tri W w X x z zs s q R) (n : Int) (hn : n ≤ 9223372036854775807) :
    Calls Tryz.prog 25 #[.pointer (some ⟨x, 0, none⟩), .int .i64 n] w fun e w' => e = .returned (.tuple #[]) ∧ Tri W w' X x z zs s q (R.arm n) := by
  obtain ⟨D, h1, h2, h3, h4, hz⟩ := id h
  exact (rarm_any h2 n hn).mono fun _ _ ⟨e, ha, hf⟩ => ⟨e, h.ref ha hf⟩
theorem tri_rcrash (h : Tri W w X x z zs s q R) (hb : R.Ok) (pv : Value) (picks : List Int) (hp : Is (fun k => k < W.heap.size) W pv picks) (hrg : ∀ k, -9223372036854775808 ≤ picks.getD k 0 ∧ picks.getD k 0 ≤ 9223372036854775807) (hl : picks.length ≤ 1000000) :
    Calls Tryz.prog 27 #[.pointer (some ⟨x, 0, none⟩), pv] w fun e w' => e = .returned (.tuple #[]) ∧ Tri W w' X x z zs s q (R.crashS picks) := by
  obtain ⟨D, h1, h2, h3, h4, hz⟩ := id h
  exact (rcrash_any h2 hb h.f.size pv picks (hp.frame h1.f fun _ _ => id) hrg hl).mono fun _ _ ⟨e, ha, hf⟩ => ⟨e, h.ref ha hf⟩
theorem tri_rread (h : Tri W w X x z zs s q R) (hb : R.Ok) (o n : Int) (ho : -9223372036854775808 ≤ o ∧ o ≤ 9223372036854775807) (hn : -9223372036854775808 ≤ n ∧ n ≤ 9223372036854775807) :
    Calls Tryz.prog 29 #[.pointer (some ⟨x, 0, none⟩), .string nm, .int .i64 o, .int .i64 n] w fun e w' => Tri W w' X x z zs s q R ∧ Fr (fun _ => False) w w' ∧ ∃ v, e = .returned (.tuple #[v, .int .i64 (R.readC nm o n : Int)]) ∧ Bs (BB w') w' v (if R.readC nm o n = 0 then ((R.fl nm).1.take (o + n).toNat).drop o.toNat else []) := by
  obtain ⟨D, h1, h2, h3, h4, hz⟩ := id h
  refine (rread_any h2 hb o n ho hn).mono ?_
  rintro e w2 ⟨hf, v, rfl, h5⟩
  exact ⟨h.fr hf, hf, v, rfl, h5.bs2⟩
end
section
variable (q : PS) (nm nt : ByteArray)
theorem begE_no : ErrNo q.begE := by
  unfold PS.begE ErrNo
  split
  · omega
  · split <;> omega
theorem findE_no : ErrNo (q.findE nm) := by
  unfold PS.findE ErrNo
  split
  · split <;> omega
  · omega
theorem createE_no : ErrNo (q.createE nm) := by
  unfold PS.createE ErrNo
  split
  · omega
  · split
    · omega
    · split <;> omega
theorem appE_no (m : List UInt8) : ErrNo (q.appE nm m) := by
  unfold PS.appE
  split
  · exact findE_no q nm
  · unfold ErrNo; split <;> omega
theorem cutE_no (n : Int) : ErrNo (q.cutE nm n) := by
  unfold PS.cutE
  split
  · exact findE_no q nm
  · unfold ErrNo; split <;> omega
theorem renE_no : ErrNo (q.renE nm nt) := by
  unfold PS.renE
  split
  · exact findE_no q nm
  · unfold ErrNo; split <;> omega
theorem fileE_no' : ErrNo (q.fileE nm) := by
  unfold PS.fileE ErrNo
  split
  · omega
  · split <;> omega
theorem readE_no (o n : Int) : ErrNo (q.readE nm o n) := by
  unfold PS.readE
  split
  · exact fileE_no' q nm
  · unfold ErrNo; split <;> omega
end
section
open Go.RowKit
variable {W w w' : World} {pa : Nat → Addr} {nm : ByteArray} {X x : Nat} {q : PS} {R : RS} {s : DS}

theorem fileE_no (q : PS) (nm : ByteArray) : ErrNo (q.fileE nm) := by
  unfold PS.fileE ErrNo
  split
  · omega
  · split <;> omega
theorem RAt.cells {base : Nat} (h : RAt base w x R) : w.cell? ⟨x, 6, none⟩ = some (.bool R.off) ∧ w.cell? ⟨x, 7, none⟩ = some (.int .i64 (R.calls : Int)) := by
  obtain ⟨fv, nv, kv, lv, L, G, h⟩ := h
  obtain ⟨-, -, -, -, -, -, c6, c7, -⟩ := h.cell
  exact ⟨c6, c7⟩
set_option maxRecDepth 100000 in
set_option maxHeartbeats 12800000 in
theorem same_any (h : Duo W w X x q R) (hE : Sent17 W pa) (hr : Rel q R) (hb : R.Ok) (hn : nm.size ≤ 1048576) :
    Calls Tryz.prog 31 #[.pointer (some ⟨X, 0, none⟩), .pointer (some ⟨x, 0, none⟩), .string nm] w fun e w' => e = .returned (.bool true) ∧ Fr (fun _ => False) w w' := by
  obtain ⟨D, h1, h2⟩ := h
  have hqc : q.calls ≤ 1000000 := by have := hb.cl.1; rw [← hr.calls]; omega
  have hlen := fun (V : World) (hF : Fr (fun _ => False) w V) => len_t (nm := nm) (h1.fr hF) hE.s6 (by unfold maxLen; omega)
  have hsyn := fun (V : World) (hF : Fr (fun _ => False) w V) => synced_t (nm := nm) (h1.fr hF) hE.s6 (by unfold maxLen; omega)
  have hrln := fun (V : World) (hF : Fr (fun _ => False) w V) => rlen_any (nm := nm) (h2.fr hF) hb
  rw [hr.file, hr.len.1, hr.len.2] at hrln
  have hlst := fun (V : World) (hF : Fr (fun _ => False) w V) => list_t (h1.fr hF) hqc
  have hrls := fun (V : World) (hF : Fr (fun _ => False) w V) => rlist_any (h2.fr hF) (by have := hb.nm.1; omega)
  rw [hr.names.list] at hlst
  have husd := fun (V : World) (hF : Fr (fun _ => False) w V) => used_t (h1.fr hF) hqc
  have hrus := fun (V : World) (hF : Fr (fun _ => False) w V) => rused_any (h2.fr hF) hb
  rw [hr.used] at hrus
  have hcal := fun (V : World) (hF : Fr (fun _ => False) w V) => calls_t (h1.fr hF)
  have hdwn := fun (V : World) (hF : Fr (fun _ => False) w V) => down_t (h1.fr hF)
  have hcel := fun (V : World) (hF : Fr (fun _ => False) w V) => (h2.fr hF).cells
  rw [hr.off, hr.calls] at hcel
  have his := fun (V : World) (hF : Fr (fun _ => False) w V) => is_num V pa (hE.frame (h1.f.trans' hF)) (q.fileE nm) (fileE_no q nm) ((q.fileE nm : Nat) : Int)
  rw [decide_eq_true rfl] at his
  have hcl0 : q.calls ≤ 9223372036854775807 := by omega
  obtain ⟨c, hc⟩ : ∃ c, q.fileE nm = c := ⟨_, rfl⟩
  obtain ⟨v, hv⟩ : ∃ v, errV pa c = v := ⟨_, rfl⟩
  obtain ⟨n, hn'⟩ : ∃ n, q.lenV nm = n := ⟨_, rfl⟩
  obtain ⟨y, hy⟩ : ∃ y, q.synV nm = y := ⟨_, rfl⟩
  obtain ⟨u, hu⟩ : ∃ u, q.used = u := ⟨_, rfl⟩
  obtain ⟨k, hk⟩ : ∃ k, q.calls = k := ⟨_, rfl⟩
  obtain ⟨d, hd⟩ : ∃ d, q.down = d := ⟨_, rfl⟩
  obtain ⟨l, hl⟩ : ∃ l, R.names.map (·.1) = l := ⟨_, rfl⟩
  rw [hc, hv, hn'] at hlen
  rw [hc, hv, hy] at hsyn
  rw [hc, hn', hy] at hrln
  rw [hc, hv] at his
  rw [hl] at hlst hrls
  rw [hu] at husd hrus
  rw [hk] at hcal hcel
  rw [hd] at hdwn hcel
  have HLEN := hid hlen; have HSYN := hid hsyn; have HRLN := hid hrln; have HLST := hid hlst; have HRLS := hid hrls; have HUSD := hid husd; have HRUS := hid hrus; have HCAL := hid hcal; have HDWN := hid hdwn; have HCEL := hid hcel; have HIS := hid his
  clear hlen hsyn hrln hlst hrls husd hrus hcal hdwn hcel his hc hv hn' hy hu hk hd hl h1 h2 hr hb hE hn hqc hcl0
  go_enter Tryz.func31, Tryz.ntmps31
  go_wp2_with fail
  refine (HLEN.out w (Fr.refl _ _)).mono ?_
  rintro e w1 ⟨rfl, hf1⟩
  have HF1 := hid hf1
  clear hf1
  go_wp2_with fail
  refine (HSYN.out w1 HF1.out).mono ?_
  rintro e w2 ⟨rfl, hf2⟩
  have HF2 := hid (HF1.out.trans' hf2)
  clear hf2
  go_wp2_with fail
  refine (HRLN.out w2 HF2.out).mono ?_
  rintro e w3 ⟨rfl, hf3⟩
  have HF3 := hid (HF2.out.trans' hf3)
  clear hf3
  go_upto_region 4 with fail
  refine wp_region_ord [(0, 0), (2, 0), (1, 1), (3, 1), (4, 1), (5, 0), (6, 0), (8, 0), (7, 1), (9, 1), (10, 0), (11, 0), (12, 0), (13, 0), (15, 0), (16, 0), (17, 0), (18, 0), (14, 1), (19, 0), (20, 0), (21, 0), (22, 0), (24, 0), (25, 0), (26, 0), (27, 0), (23, 1), (28, 0), (29, 0), (30, 0), (31, 0), (32, 0), (33, 0), (34, 0), (35, 0), (36, 0), (37, 0), (38, 0), (39, 0), (40, 0), (41, 0), (42, 0), (43, 1), (44, 0), (45, 0), (46, 0), (47, 0), (48, 1), (49, 0), (50, 0)] (fun w' => Fr (fun _ => False) w w') (by kernel_rfl) (by kernel_rfl) (by kernel_rfl) rfl (fun _ _ d _ _ h => by cases d <;> exact h) HF3.out.drew ?_
  have HFd := hid HF3.out.drew
  generalize w3.drew = wd at *
  iterate 2 (refine wpO_take ?_ rfl (by kernel_rfl) ?_ ?_; rotate_left; (· intro w' hS; go_simp; try with_reducible rfl); try simp only [Act.put, List.setIfInBounds_toArray, List.set_cons_zero, List.set_cons_succ])
  refine wpO_run rfl (by kernel_rfl) (fun K hK => ?_); go_simp
  refine (HLST.out wd HFd.out).mono ?_
  rintro e w4 ⟨hf4, a4, c4, rfl, hs4⟩
  have HF4 := hid (HFd.out.trans' hf4); have HS4 := hid hs4
  refine hK _ _ (fun _ => HF4.out) ?_
  clear hK K hf4 hs4
  try simp only [Act.put, List.setIfInBounds_toArray, List.set_cons_zero, List.set_cons_succ]
  refine wpO_run rfl (by kernel_rfl) (fun K hK => ?_); go_simp
  refine (HRLS.out w4 HF4.out).mono ?_
  rintro e w5 ⟨v5, rfl, hs5, hf5⟩
  have HF5 := hid (HF4.out.trans' hf5); have HS5 := hid (HS4.out.keep0 hf5); have HT5 := hid hs5
  refine hK _ _ (fun _ => HF5.out) ?_
  clear hK K hf5 hs5
  try simp only [Act.put, List.setIfInBounds_toArray, List.set_cons_zero, List.set_cons_succ]
  have hst := sameTexts_any _ _ _ _ _ _ w5 HS5.out (ss_own HT5.out)
  rw [decide_eq_true rfl] at hst
  have HST := hid hst
  clear hst
  refine wpO_run rfl (by kernel_rfl) (fun K hK => ?_); go_simp
  refine HST.out.mono ?_
  rintro e w6 ⟨rfl, nd, rfl⟩
  have HF6 := hid (HF5.out.trans' ((Fr.refl (fun _ => False) w5).drewN nd))
  refine hK _ _ (fun _ => HF6.out) ?_
  clear hK K HST
  try simp only [Act.put, List.setIfInBounds_toArray, List.set_cons_zero, List.set_cons_succ]
  generalize w5.drewN nd = w6 at *
  iterate 3 (refine wpO_take ?_ rfl (by kernel_rfl) ?_ ?_; rotate_left; (· intro w' hS; go_simp; try with_reducible rfl); try simp only [Act.put, List.setIfInBounds_toArray, List.set_cons_zero, List.set_cons_succ])
  refine wpO_run rfl (by kernel_rfl) (fun K hK => ?_); go_simp
  refine (HUSD.out w6 HF6.out).mono ?_
  rintro e w7 ⟨rfl, hf7⟩
  have HF7 := hid (HF6.out.trans' hf7)
  refine hK _ _ (fun _ => HF7.out) ?_
  clear hK K hf7
  try simp only [Act.put, List.setIfInBounds_toArray, List.set_cons_zero, List.set_cons_succ]
  refine wpO_run rfl (by kernel_rfl) (fun K hK => ?_); go_simp
  refine (HRUS.out w7 HF7.out).mono ?_
  rintro e w8 ⟨rfl, hf8⟩
  have HF8 := hid (HF7.out.trans' hf8)
  refine hK _ _ (fun _ => HF8.out) ?_
  clear hK K hf8
  try simp only [Act.put, List.setIfInBounds_toArray, List.set_cons_zero, List.set_cons_succ]
  iterate 7 (refine wpO_take ?_ rfl (by kernel_rfl) ?_ ?_; rotate_left; (· intro w' hS; go_simp; try with_reducible rfl); try simp only [Act.put, List.setIfInBounds_toArray, List.set_cons_zero, List.set_cons_succ])
  (refine wpO_take ?_ rfl (by kernel_rfl) ?_ ?_; rotate_left; (· intro w' hS; have d1 := (HCEL.out w' hS).2; go_simp; try with_reducible rfl); try simp only [Act.put, List.setIfInBounds_toArray, List.set_cons_zero, List.set_cons_succ])
  refine wpO_run rfl (by kernel_rfl) (fun K hK => ?_); go_simp
  refine (HCAL.out w8 HF8.out).mono ?_
  rintro e w9 ⟨rfl, rfl⟩
  refine hK _ _ (fun _ => HF8.out) ?_
  clear hK K
  try simp only [Act.put, List.setIfInBounds_toArray, List.set_cons_zero, List.set_cons_succ]
  iterate 7 (refine wpO_take ?_ rfl (by kernel_rfl) ?_ ?_; rotate_left; (· intro w' hS; go_simp; try with_reducible rfl); try simp only [Act.put, List.setIfInBounds_toArray, List.set_cons_zero, List.set_cons_succ])
  (refine wpO_take ?_ rfl (by kernel_rfl) ?_ ?_; rotate_left; (· intro w' hS; have d1 := (HCEL.out w' hS).1; go_simp; try with_reducible rfl); try simp only [Act.put, List.setIfInBounds_toArray, List.set_cons_zero, List.set_cons_succ])
  refine wpO_run rfl (by kernel_rfl) (fun K hK => ?_); go_simp
  refine (HDWN.out w8 HF8.out).mono ?_
  rintro e w9 ⟨rfl, rfl⟩
  refine hK _ _ (fun _ => HF8.out) ?_
  clear hK K
  try simp only [Act.put, List.setIfInBounds_toArray, List.set_cons_zero, List.set_cons_succ]
  iterate 15 (refine wpO_take ?_ rfl (by kernel_rfl) ?_ ?_; rotate_left; (· intro w' hS; go_simp; try with_reducible rfl); try simp only [Act.put, List.setIfInBounds_toArray, List.set_cons_zero, List.set_cons_succ])
  refine wpO_run rfl (by kernel_rfl) (fun K hK => ?_); go_simp
  refine (HIS.out w8 HF8.out).mono ?_
  rintro e w9 ⟨rfl, hf9⟩
  have HF9 := hid (HF8.out.trans' hf9)
  refine hK _ _ (fun _ => HF9.out) ?_
  clear hK K hf9
  try simp only [Act.put, List.setIfInBounds_toArray, List.set_cons_zero, List.set_cons_succ]
  iterate 4 (refine wpO_take ?_ rfl (by kernel_rfl) ?_ ?_; rotate_left; (· intro w' hS; go_simp; try with_reducible rfl); try simp only [Act.put, List.setIfInBounds_toArray, List.set_cons_zero, List.set_cons_succ])
  refine wpO_run rfl (by kernel_rfl) (fun K hK => ?_); go_simp
  refine (HIS.out w9 HF9.out).mono ?_
  rintro e wa ⟨rfl, hfa⟩
  have HFa := hid (HF9.out.trans' hfa)
  refine hK _ _ (fun _ => HFa.out) ?_
  clear hK K hfa
  try simp only [Act.put, List.setIfInBounds_toArray, List.set_cons_zero, List.set_cons_succ]
  iterate 2 (refine wpO_take ?_ rfl (by kernel_rfl) ?_ ?_; rotate_left; (· intro w' hS; go_simp; try with_reducible rfl); try simp only [Act.put, List.setIfInBounds_toArray, List.set_cons_zero, List.set_cons_succ])
  refine wpO_end ?_
  go_wp2_with fail
  go_ret
  exact ⟨rfl, HFa.out⟩
end
end Go.Proofs.YtlhbgobjhddhlaaGreatDoor
