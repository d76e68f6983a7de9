/- Package disk: Crash. -/
import Derived.Test.YtlhbgobjhddhlaaGreatDoorDiskN
import Derived.Test.YtlhbgobjhddhlaaGreatDoorDiskS
namespace Go.Proofs.YtlhbgobjhddhlaaGreatDoor
open Go.RowKit
variable {base : Nat} {w w' : World} {s : DS}

/-- The names that are kept behind i changes. -/
def kp (s : DS) (i : Nat) : Nm := (s.ch.take i).foldl applyM s.kept
theorem kp_zero (s : DS) : kp s 0 = s.kept := rfl
theorem kp_succ (s : DS) (i : Nat) (c : Chg) (h : s.ch[i]? = some c) : kp s (i + 1) = applyM (kp s i) c := by
  unfold kp
  rw [List.take_add_one, h, List.foldl_append]
  rfl
theorem kp_len (s : DS) (i : Nat) : (kp s i).length ≤ s.kept.length + s.ch.length := by
  unfold kp
  have key : ∀ (l : List Chg) (M : Nm), (l.foldl applyM M).length ≤ M.length + l.length := by
    intro l
    induction l with
    | nil => intro M; simp
    | cons c r ih =>
      intro M
      have h1 := ih (applyM M c)
      have h2 := applyM_len M c
      rw [List.foldl_cons, List.length_cons]
      omega
  have h1 := key (s.ch.take i) s.kept
  have h2 : (s.ch.take i).length ≤ s.ch.length := by rw [List.length_take]; omega
  omega
theorem foldl_mem : ∀ (l : List Chg) (M : Nm) (p : ByteArray × Nat), p ∈ l.foldl applyM M → p ∈ M ∨ ∃ c ∈ l, c.fl = some p.2 ∧ p.1 = c.nm
  | [], M, p, h => .inl h
  | c :: r, M, p, h => by
    rw [List.foldl_cons] at h
    rcases foldl_mem r _ p h with h1 | ⟨c', hc, h1⟩
    · rcases applyM_mem h1 with h2 | h2
      · exact .inl h2
      · exact .inr ⟨c, by simp, h2⟩
    · exact .inr ⟨c', by simp [hc], h1⟩
theorem kp_mem {s : DS} {i : Nat} {p : ByteArray × Nat} (h : p ∈ kp s i) : p ∈ s.kept ∨ ∃ c ∈ s.ch, c.fl = some p.2 ∧ p.1 = c.nm := by
  rcases foldl_mem _ _ p h with h1 | ⟨c, hc, h1⟩
  · exact .inl h1
  · exact .inr ⟨c, List.mem_of_mem_take hc, h1⟩
theorem kp_fl {s : DS} {i : Nat} {n : ByteArray} {k : Nat} (h : (n, k) ∈ kp s i) : Fl s k := by
  rcases kp_mem h with h1 | ⟨c, hc, h1, -⟩
  · exact .inr (.inl ⟨n, h1⟩)
  · exact .inr (.inr ⟨c, hc, h1⟩)
theorem ks_applyM {M : Nm} (h : Ks M) (c : Chg) : Ks (applyM M c) := by
  unfold applyM
  split
  · split
    · exact h
    · exact ks_dl h _
  · refine ks_pt ?_ _ _
    split
    · exact h
    · exact ks_dl h _
def cutF (f : FS) (m : Nat) : FS := ⟨f.id, f.by_.take (f.sy + m), f.sy + m⟩
def crashP (s : DS) (picks : List Int) : Nat := pick picks 0 s.ch.length
def crashF (s : DS) (picks : List Int) (G : List Nat) (k : Nat) : FS := if k ∈ G then cutF (s.fs k) (pick picks (G.idxOf k + 1) ((s.fs k).by_.length - (s.fs k).sy)) else s.fs k
def crashS (s : DS) (picks : List Int) (G : List Nat) (bn : Nat) : DS :=
  { s with bn := bn, names := kp s (crashP s picks), kept := kp s (crashP s picks), ch := [], cv := .slice none 0 0, armed := 0, down := false, fs := crashF s picks G }
/-- The files in the order of a crash. -/
def CrashG (s : DS) (picks : List Int) (G : List Nat) : Prop := G.Nodup ∧ (∀ k, k ∈ G ↔ ∃ n, (n, k) ∈ kp s (crashP s picks)) ∧ G.Pairwise fun a b => (s.fs a).id ≤ (s.fs b).id
/-- The cells of a row of changes. -/
theorem chV_get (l : List Chg) (i : Nat) (c : Chg) (h : l[i]? = some c) : (chV l)[i * 3]? = some (.string c.nm) ∧ (chV l)[i * 3 + 1]? = some (.string c.gn) ∧ (chV l)[i * 3 + 2]? = some (pV c.fl) := by
  induction l generalizing i with
  | nil => simp at h
  | cons d r ih =>
    have e : chV (d :: r) = [.string d.nm, .string d.gn, pV d.fl] ++ chV r := by simp [chV]
    cases i with
    | zero =>
      simp at h
      subst h
      rw [e]
      exact ⟨rfl, rfl, rfl⟩
    | succ j =>
      have h1 := ih j (by simpa using h)
      rw [e]
      refine ⟨?_, ?_, ?_⟩
      all_goals
        rw [List.getElem?_append_right (by simp; omega)]
        simp only [List.length_cons, List.length_nil]
      · rw [show (j + 1) * 3 - (0 + 1 + 1 + 1) = j * 3 by omega]; exact h1.1
      · rw [show (j + 1) * 3 + 1 - (0 + 1 + 1 + 1) = j * 3 + 1 by omega]; exact h1.2.1
      · rw [show (j + 1) * 3 + 2 - (0 + 1 + 1 + 1) = j * 3 + 2 by omega]; exact h1.2.2

theorem Tryz.info_pfile : (Tryz.prog.info? 76).map (fun i => (i.zero, i.size, i.bytes)) = some (some (.pointer none), 1, 8) := by kernel_rfl
set_option maxRecDepth 100000 in
set_option maxHeartbeats 6400000 in
theorem crash_any (h : DAt base w s) (hb : base ≤ w.heap.size) (hc : s.calls ≤ 1000000) (D : Nat → Prop) (pv : Value) (picks : List Int) (hp : Is D w pv picks) (hD : ∀ k, D k → ¬ DSet s k) (hr : ∀ k, -9223372036854775808 ≤ picks.getD k 0 ∧ picks.getD k 0 ≤ 9223372036854775807) (hl : picks.length ≤ 1000000) :
    Calls Tryz.prog 26 #[.pointer (some ⟨s.X, 0, none⟩), pv] w fun e w' => e = .returned (.tuple #[]) ∧ ∃ G bn, w.heap.size ≤ bn ∧ CrashG s picks G ∧ DAt base w' (crashS s picks G bn) ∧ Fr (DSet s) w w' := by
  obtain ⟨ac, cc, hcv, hcl⟩ := own_len h.ch
  have hcr : ∃ g, ac = some ⟨g, 0, none⟩ ∨ (s.ch.length = 0) := by
    rcases own_heap h.ch with ⟨e, h0, -⟩ | ⟨g, cap, e, -⟩
    · exact ⟨0, .inr h0⟩
    · rw [hcv] at e
      simp only [Value.slice.injEq] at e
      exact ⟨g, .inl e.1⟩
  have hcap : s.ch.length ≤ cc ∧ cc ≤ maxLen := by
    rcases h.ch.2 with ⟨e, h0⟩ | ⟨g, cap, cur, e, -, -, h1, h2, -⟩
    · rw [hcv] at e
      simp only [Value.slice.injEq] at e
      obtain ⟨-, e1, e2⟩ := e
      omega
    · rw [hcv] at e
      simp only [Value.slice.injEq] at e
      obtain ⟨-, -, rfl⟩ := e
      exact ⟨h1, h2⟩
  obtain ⟨-, c1, c2, c3, -⟩ := h.cells
  have hcn := h.cn
  obtain ⟨n, hn⟩ : ∃ n, s.ch.length = n := ⟨_, rfl⟩
  obtain ⟨p, hp0⟩ : ∃ p, crashP s picks = p := ⟨_, rfl⟩
  have hpn : p ≤ n := by rw [← hp0, ← hn]; exact pick_le _ _ _
  have hpk := fun (w2 : World) (hf : Fr (fun _ => False) w w2) => picked_any D pv picks (hp.frame hf fun _ _ => id) hr 0 n (by omega) (by omega) (by omega)
  rw [show pick picks 0 n = p by rw [← hp0, ← hn]; rfl] at hpk
  rw [hcv, hn] at c3
  have hpI : (0 : Int) ≤ p ∧ (p : Int) ≤ cc := by omega
  have H := hid h; have HP := hid hp; have HDD := hid hD; have HRP := hid hr; have HPK := hid hpk; have HCV := hid hcv; have HN := hid hn; have HP0 := hid hp0; have HPN := hid hpn; have HCN := hid hcn; have HCR := hid hcr
  have C1 := hid c1; have C2 := hid c2; have C3 := hid c3; have HB := hid hb; have HC := hid hc; have HL := hid hl
  clear h hp hD hr hpk hcv hcl hn hp0 hcn c1 c2 c3 hb hc hl hcr
  go_enter Tryz.func26, Tryz.ntmps26
  go_upto_region 0 with fail
  refine wp_region_cls (fun w' => Fr (fun _ => False) w w') (by kernel_rfl) (by kernel_rfl) (Fr.refl _ _).drew ?_
  iterate 3 (refine q_take ?_ (by kernel_rfl) ?_ ?_; rotate_left; (· intro w' hS; go_simp; try with_reducible rfl); (try simp only [Act.put, List.setIfInBounds_toArray, List.set_cons_zero, List.set_cons_succ]))
  (refine q_take ?_ (by kernel_rfl) ?_ ?_; rotate_left; (· intro w' hS; have d0 := hS.cell C3.out not_false; go_simp; try with_reducible rfl); try simp only [Act.put, List.setIfInBounds_toArray, List.set_cons_zero, List.set_cons_succ])
  iterate 4 (refine q_take ?_ (by kernel_rfl) ?_ ?_; rotate_left; (· intro w' hS; go_simp; try with_reducible rfl); (try simp only [Act.put, List.setIfInBounds_toArray, List.set_cons_zero, List.set_cons_succ]))
  (refine q_take ?_ (by kernel_rfl) ?_ ?_; rotate_left; (· intro w' hS; have d0 := hS.cell C3.out not_false; go_simp; try with_reducible rfl); try simp only [Act.put, List.setIfInBounds_toArray, List.set_cons_zero, List.set_cons_succ])
  (refine q_take ?_ (by kernel_rfl) ?_ ?_; rotate_left; (· intro w' hS; go_simp; try with_reducible rfl); (try simp only [Act.put, List.setIfInBounds_toArray, List.set_cons_zero, List.set_cons_succ]))
  (refine q_call ?_ ?_ (by kernel_rfl) ?_ ?_; rotate_left 2; (· intro w' hS; go_simp; first | with_reducible rfl | (constructor <;> with_reducible rfl)); (refine ⟨_, fun w' hw => (HPK.out w' hw).mono fun _ _ h => ⟨h.1, h.2 ▸ hw⟩, ?_⟩); (try simp only [Act.put, List.setIfInBounds_toArray, List.set_cons_zero, List.set_cons_succ]))
  iterate 3 (refine q_take ?_ (by kernel_rfl) ?_ ?_; rotate_left; (· intro w' hS; go_simp; try with_reducible rfl); (try simp only [Act.put, List.setIfInBounds_toArray, List.set_cons_zero, List.set_cons_succ]))
  refine q_end (fun wy hw => ?_)
  have HFY := hid hw
  clear hw hpI hcap
  have hHy := H.out.fr HFY.out
  have HY := hid hHy
  clear hHy
  go_wp2_with fail
  go_loopw [24] (fun iv wr => ∃ i : Nat, i ≤ p ∧ iv = .int .i64 i ∧ Hid (MapAt wr s.bk (kp s i)) ∧ Hid (Fr (fun k => k = s.bk) wy wr)) (fun iv _ => p - (intOf iv).toNat)
  case atStart => exact ⟨0, Nat.zero_le _, rfl, hid HY.out.kept, hid (Fr.refl _ _)⟩
  case round =>
    obtain ⟨i, hi, rfl, HM, HF⟩ := hrel
    by_cases hlt : i < p
    · have hltI : (i : Int) < p := by omega
      obtain ⟨g, rfl⟩ : ∃ g, ac = some ⟨g, 0, none⟩ := by
        obtain ⟨g, e | e⟩ := HCR.out
        · exact ⟨g, e⟩
        · have := HN.out; have := HPN.out; omega
      obtain ⟨c, hci⟩ : ∃ c, s.ch[i]? = some c := ⟨_, List.getElem?_eq_getElem (by have := HN.out; have := HPN.out; omega)⟩
      have hg1 := chV_get _ _ _ hci
      have hcells := (HY.out.ch).cells (g := g) (by rw [HCV.out]; rfl)
      have hgk : g ≠ s.bk := fun e => by
        obtain ⟨es, cl, hq, -⟩ := HY.out.kept.cells
        rcases HY.out.ch.2 with ⟨hv, -⟩ | ⟨g', cap', cur, hv, -, hg', -⟩
        · rw [HCV.out] at hv; cases hv
        · rw [HCV.out] at hv
          simp only [Value.slice.injEq, Option.some.injEq, Addr.mk.injEq, and_true] at hv
          rw [← e, hv.1, hg'] at hq
          cases hq
      have hXk : ¬ s.X = s.bk := fun e => by
        obtain ⟨es, cl, hq, -⟩ := HY.out.kept.cells
        rw [← e, HY.out.heap] at hq
        cases hq
      have hadd : ∀ j, (⟨g, 0, none⟩ : Addr).add j = ⟨g, j, none⟩ := fun j => by unfold Addr.add; split <;> simp_all
      have c0 : wr.cell? ⟨g, i * 3, none⟩ = some (.string c.nm) := HF.out.cell ((hadd _) ▸ hcells _ _ hg1.1) hgk
      have c1 : wr.cell? ⟨g, i * 3 + 1, none⟩ = some (.string c.gn) := HF.out.cell ((hadd _) ▸ hcells _ _ hg1.2.1) hgk
      have c2 : wr.cell? ⟨g, i * 3 + 2, none⟩ = some (pV c.fl) := HF.out.cell ((hadd _) ▸ hcells _ _ hg1.2.2) hgk
      have x2 : wr.cell? ⟨s.X, 2, none⟩ = some (.map (some s.bk)) := HF.out.cell (HFY.out.cell C2.out not_false) hXk
      obtain ⟨po, hpo⟩ : ∃ po, pV c.fl = .pointer po := by cases c.fl <;> exact ⟨_, rfl⟩
      rw [hpo] at c2
      have hsz := HY.out.sz.2.2 c (List.mem_of_getElem? hci)
      have hap := fun (W : World) (hW : MapAt W s.bk (kp s i)) => apply_any hW c (by have := kp_len s i; have h1 := HCN.out; have h2 := HC.out; unfold maxLen; omega) hsz
      rw [hpo] at hap
      have HAP := hid hap
      have HCI := hid hci; have HXK := hid hXk; have X2 := hid x2
      clear hcells hg1 hgk hadd hci hXk x2 hpo hsz hap
      go_upto_region 3 with fail
      have hfa := (Fr.refl (fun _ => False) wr).alloc (.cells #[.string c.nm, .string c.gn, .pointer po] 82)
      have hrow := heap_alloc_new wr (.cells #[.string c.nm, .string c.gn, .pointer po] 82)
      have hBk : ¬ wr.heap.size = s.bk := by have := HM.out.lt; omega
      have HFA := hid hfa; have HROW := hid hrow; have HBK := hid hBk
      obtain ⟨B, hB⟩ : ∃ B, wr.heap.size = B := ⟨_, rfl⟩
      rw [hB] at HROW HBK ⊢
      clear hfa hrow hBk hB c0 c1 c2
      generalize wr.alloc (.cells #[.string c.nm, .string c.gn, .pointer po] 82) = W at *
      have k0 : W.cell? ⟨B, 0, none⟩ = some (.string c.nm) := by rw [cell_of_row _ _ _ _ _ _ HROW.out]; rfl
      have k1 : W.cell? ⟨B, 1, none⟩ = some (.string c.gn) := by rw [cell_of_row _ _ _ _ _ _ HROW.out]; rfl
      have k2 : W.cell? ⟨B, 2, none⟩ = some (.pointer po) := by rw [cell_of_row _ _ _ _ _ _ HROW.out]; rfl
      have X1 := hid (HFA.out.cell X2.out not_false)
      have K0 := hid k0; have K1 := hid k1; have K2 := hid k2
      clear k0 k1 k2
      refine wp_region_ord [(0, 0), (1, 0), (2, 0), (3, 0), (4, 0), (5, 1)] (fun w' => Fr (fun k => k = s.bk) W w') (by kernel_rfl) (by kernel_rfl) (by kernel_rfl) rfl (fun _ _ d _ _ h => by cases d <;> exact h) (Fr.refl _ _).drew ?_
      have HWd := hid (Fr.refl (fun _ => False) W).drew
      generalize W.drew = Wd at *
      iterate 3 (refine wpO_take ?_ rfl (by kernel_rfl) ?_ ?_; rotate_left; (· intro w' hS; go_simp; try with_reducible rfl); try simp only [Act.put, List.setIfInBounds_toArray, List.set_cons_zero, List.set_cons_succ])
      (refine wpO_take ?_ rfl (by kernel_rfl) ?_ ?_; rotate_left; (· intro w' hS; have d1 := hS.cell X1.out HXK.out; go_simp; try with_reducible rfl); try simp only [Act.put, List.setIfInBounds_toArray, List.set_cons_zero, List.set_cons_succ])
      (refine wpO_take ?_ rfl (by kernel_rfl) ?_ ?_; rotate_left; (· intro w' hS; have d0 := hS.cell K0.out HBK.out; have d1 := hS.cell K1.out HBK.out; have d2 := hS.cell K2.out HBK.out; go_simp; try with_reducible rfl); try simp only [Act.put, List.setIfInBounds_toArray, List.set_cons_zero, List.set_cons_succ])
      refine wpO_run rfl (by kernel_rfl) (fun K hK => ?_); go_simp
      refine (HAP.out Wd ((HM.out.frame HFA.out not_false).frame HWd.out not_false)).mono ?_
      rintro e w2 ⟨rfl, hm2, hf2⟩
      refine hK _ _ (fun _ => (HWd.out.mono fun _ _ h => h.elim).trans' hf2) ?_
      clear hK K
      try simp only [Act.put, List.setIfInBounds_toArray, List.set_cons_zero, List.set_cons_succ]
      refine wpO_end ?_
      have HM2 := hid hm2; have HF2 := hid (((HF.out.trans' (HFA.out.mono fun _ _ h => h.elim)).trans' (HWd.out.mono fun _ _ h => h.elim)).trans' hf2)
      have hw1 : IntKind.i64.wrap ((i : Int) + 1) = (i : Int) + 1 := IntWalk.i64_in _ (by have := HCN.out; have := HN.out; have := HC.out; omega)
      clear hm2 hf2
      go_wp2_with fail
      go_roundw
      case rel => exact ⟨i + 1, by omega, by go_num, hid (by rw [kp_succ s i c HCI.out]; exact HM2.out), HF2⟩
      case measure => simp [intOf]; omega
    · have hltI : ¬ (i : Int) < p := by omega
      obtain rfl : p = i := by omega
      have HM1 := HM; have HF1 := HF
      clear HM HF hi
      have hkl := kp_len s p
      have hkmem : ∀ n k, (n, k) ∈ kp s p → Fl s k := fun n k h => kp_fl h
      obtain ⟨K, hK⟩ : ∃ K, kp s p = K := ⟨_, rfl⟩
      rw [hK] at HM1 hkl hkmem
      have HKE := hid hK; have HKL := hid hkl; have HKM := hid hkmem
      have hbk : ∀ k, FBk wy k → ¬ k = s.bk := fun k hk e => by
        obtain ⟨es, cl, hq, -⟩ := HY.out.kept.cells
        obtain ⟨cs, hk⟩ := hk
        rw [e, hq] at hk
        cases hk
      have hXk : ¬ s.X = s.bk := fun e => by
        obtain ⟨es, cl, hq, -⟩ := HY.out.kept.cells
        rw [← e, HY.out.heap] at hq
        cases hq
      have hfb : ∀ k, Fl s k → FBk wr k := fun k hk => by
        have h1 := (HY.out.fl k hk).fbk
        have h2 := hbk k h1
        obtain ⟨cs, h1⟩ := h1
        exact ⟨cs, HF1.out.heap h1 h2⟩
      have x2 : wr.cell? ⟨s.X, 2, none⟩ = some (.map (some s.bk)) := HF1.out.cell (HFY.out.cell C2.out not_false) hXk
      obtain ⟨w1, hrun, hra, hf1, hs1⟩ := HM1.out.range
      obtain ⟨rr, hrr⟩ : ∃ rr, wr.heap.size = rr := ⟨_, rfl⟩
      rw [hrr] at hrun hra hs1
      have HRR := hid hrr; have HRA := hid hra; have HFR := hid hf1; have HS1 := hid hs1
      have HFB := hid (fun k (hk : Fl s k) => show FBk w1 k ∧ k < rr from by
        obtain ⟨cs, h1⟩ := hfb k hk
        exact ⟨⟨cs, hf1.heap h1 not_false⟩, by rw [← hrr]; exact heap_lt h1⟩)
      clear hkl hkmem hK hbk hXk hfb hrr hra hf1 hs1
      go_wp2_with fail
      go_loopw [6] (fun nv wq => ∃ (ag : Option Addr) (cg : Nat) (G : List Nat) (L : Nm), nv = .slice ag G.length cg ∧ Hid (RangeAt wq s.bk rr K L) ∧ Hid (wq.ownsRow w1.heap.size 76 1 (.slice ag G.length cg) G.length (fV G)) ∧ Hid (Fr (fun k => k = rr) w1 wq) ∧ Hid G.Nodup ∧ Hid (∀ q ∈ K, q ∈ L ∨ q.2 ∈ G) ∧ Hid (∀ k ∈ G, ∃ n, (n, k) ∈ K) ∧ Hid (G.length + L.length ≤ K.length)) (fun _ wq => wq.rangeLeft s.bk rr)
      case atStart => exact ⟨none, 0, [], K, rfl, HRA, hid (World.ownsRow_nil _ _ _ _), hid (Fr.refl _ _), hid List.nodup_nil, hid (fun q hq => .inl hq), hid (fun k hk => by simp at hk), hid (by simp)⟩
      case round =>
        obtain ⟨ag, cg, G, L, rfl, HR, HO, HF, HND, HKL2, HGK, HLE⟩ := hrel
        rcases HR.out.next 0 with ⟨hL, hrun⟩ | ⟨nm, f, w2, hfL, hfM, hrun, hra2, hf2, hs2, hen, hlt2⟩
        · subst hL
          have hgl : G.length ≤ 1000000 := by have := HLE.out; have := HKL.out; have := HCN.out; have := HC.out; simp at *; omega
          have hgf : ∀ k ∈ G, Fl s k := fun k hk => by
            obtain ⟨n, hn⟩ := HGK.out k hk
            exact HKM.out n k hn
          have hbkr : s.bk < rr := by have := HRA.out.map.lt; have h1 := HM1.out.lt; rw [HRR.out] at h1; exact h1
          have hF1q : Fr (fun k => k = s.bk) wy wr := (HF1.out.trans (U := fun k => k = s.bk) HFR.out (fun _ _ h => h) (fun _ _ h => h.elim)).trans (U := fun k => k = s.bk) HF.out (fun _ _ h => h) (fun k hk e => by
            have h1 := HF1.out.size
            rw [HRR.out] at h1
            omega)
          have hbk : ∀ k, (∃ cs t fz, wy.heap[k]? = some (.cells cs t fz)) → ¬ k = s.bk := fun k hk e => by
            obtain ⟨es, cl, hq, -⟩ := HY.out.kept.cells
            obtain ⟨cs, t, fz, hk⟩ := hk
            rw [e, hq] at hk
            cases hk
          have hFLq : ∀ k, Fl s k → FileAt wr k (s.fs k) := fun k hk => by
            have h1 := HY.out.fl k hk
            have h2 := h1.fbk
            exact h1.frame hF1q (hbk k (by obtain ⟨cs, h2⟩ := h2; exact ⟨_, _, _, h2⟩)) fun j hj => hbk j (by obtain ⟨cs, fz, h2⟩ := hj; exact ⟨_, _, _, h2⟩)
          have hXq := hF1q.heap HY.out.heap (hbk _ ⟨_, _, _, HY.out.heap⟩)
          have hso := fsort_any (fun k => (s.fs k).id) G _ cg ag HO.out hgl (fun k hk => by
            have h1 := hFLq k (hgf k hk)
            obtain ⟨a, c, h2, -⟩ := h1.cells
            exact ⟨h1.fbk, h2, (HY.out.bd k (hgf k hk)).2.2⟩)
          have HSO := hid hso
          have HMQ := hid HR.out.map
          have HFQ := hid hF1q; have HFLQ := hid hFLq; have HXQ := hid hXq; have HGF := hid hgf; have HGL := hid hgl
          have HOLT := hid (show ∀ k, (Value.slice ag G.length cg).ownBlock = some k → wy.heap.size ≤ k ∧ k ≠ s.bk ∧ k < wr.heap.size from fun k hk => by
            have h1 := HO.out.lt k hk
            have h2 := HF1.out.size
            have h3 := HFR.out.size
            have h4 := HRR.out
            have h5 := HS1.out
            exact ⟨by omega, by omega, h1.2⟩)
          clear hso hgl hgf hbkr hF1q hbk hFLq hXq
          go_wp2_with fail
          refine HSO.out.mono ?_
          rintro e w3 ⟨rfl, G', hperm, hpw, hps, hf3⟩
          have hlen : G'.length = G.length := hperm.length_eq
          have hmem : ∀ k, k ∈ G' ↔ k ∈ G := fun k => hperm.mem_iff
          have hnd : G'.Nodup := hperm.nodup_iff.2 HND.out
          have hGC : CrashG s picks G' := ⟨hnd, fun k => by
            rw [HP0.out, HKE.out, hmem]
            refine ⟨HGK.out k, fun ⟨n, hn⟩ => ?_⟩
            rcases HKL2.out _ hn with h1 | h1
            · simp at h1
            · exact h1, hpw⟩
          have hown3 : ∀ k, k < wy.heap.size → ¬ (Value.slice ag G.length cg).ownBlock = some k := fun k hk e => by
            have := (HOLT.out k e).1
            omega
          have hownq : ∀ k cs t fz, wr.heap[k]? = some (.cells cs t fz) → t ≠ 76 → ¬ (Value.slice ag G.length cg).ownBlock = some k := fun k cs t fz hk ht e => by
            exact own_ne_cells HO.out hk ht.symm k e rfl
          have hX3 := hf3.heap HXQ.out (hownq _ _ _ _ HXQ.out (by decide))
          have hFL3 : ∀ k, Fl s k → FileAt w3 k (s.fs k) := fun k hk => by
            have h1 := HFLQ.out k hk
            obtain ⟨cs, h2⟩ := h1.fbk
            refine h1.frame hf3 (hownq _ _ _ _ h2 (by decide)) fun j hj => ?_
            obtain ⟨cs', fz', h3⟩ := hj
            exact hownq _ _ _ _ h3 (by decide)
          have hM3 := HMQ.out.frame hf3 (fun e => (HOLT.out _ e).2.1 rfl)
          have hFy3 : Fr (fun k => k = s.bk) wy w3 := HFQ.out.trans (U := fun k => k = s.bk) hf3 (fun _ _ h => h) (fun k hk e => absurd e (hown3 k hk))
          have hrow3 : ∀ k, Fl s k → ¬ (Value.slice ag G.length cg).ownBlock = some k := fun k hk => by
            obtain ⟨cs, h2⟩ := (HFLQ.out k hk).fbk
            exact hownq _ _ _ _ h2 (by decide)
          have HX3 := hid hX3; have HFL3 := hid hFL3; have HM3 := hid hM3; have HFy3 := hid hFy3; have HPS := hid hps; have HGC := hid hGC; have HR3 := hid hrow3; have HLEN := hid hlen; have HMEM := hid hmem; have HND3 := hid hnd
          clear hlen hmem hnd hGC hown3 hownq hX3 hFL3 hM3 hFy3 hrow3 hperm hpw hps hf3
          have hgl := HGL.out
          rw [← HLEN.out] at hgl HPS HR3 ⊢
          go_wp2_with fail
          go_loopw [56] (fun nv wq => ∃ i : Nat, i ≤ G'.length ∧ nv = .int .i64 i ∧ Hid (∀ k, Fl s k → FileAt wq k (if k ∈ G'.take i then crashF s picks G' k else s.fs k)) ∧ Hid (Fr (fun k => k ∈ G') w3 wq)) (fun nv _ => G'.length - (intOf nv).toNat)
          case atStart => exact ⟨0, Nat.zero_le _, rfl, hid (fun k hk => by rw [List.take_zero, if_neg (by simp)]; exact HFL3.out k hk), hid (Fr.refl _ _)⟩
          case round =>
            obtain ⟨i, hi, rfl, HFI, HFq⟩ := hrel
            by_cases hlt : i < G'.length
            · have hltI : (i : Int) < G'.length := by omega
              obtain ⟨f, hfe⟩ : ∃ f, G'[i]? = some f := ⟨_, List.getElem?_eq_getElem hlt⟩
              have hfm : f ∈ G' := List.mem_of_getElem? hfe
              have hfF : Fl s f := HGF.out f ((HMEM.out f).1 hfm)
              have hnt : f ∉ G'.take i := fun hin => by
                obtain ⟨j, hj, e⟩ := List.getElem_of_mem hin
                rw [List.length_take] at hj
                have e2 : G'[j]'(by omega) = f := by rw [← e, List.getElem_take]
                have e3 : G'[i]'hlt = f := by rw [List.getElem?_eq_getElem hlt] at hfe; exact Option.some.inj hfe
                have := (List.getElem_inj HND3.out).1 (e2.trans e3.symm)
                omega
              have hidx : G'.idxOf f = i := by
                have e3 : G'[i]'hlt = f := by rw [List.getElem?_eq_getElem hlt] at hfe; exact Option.some.inj hfe
                rw [← e3]
                exact HND3.out.idxOf_getElem i hlt
              have hfa := HFI.out f hfF
              rw [if_neg hnt] at hfa
              obtain ⟨a, c, f0, f1, f2, hbs, ffz, hhk, -⟩ := hfa.cells
              have hbd := HY.out.bd f hfF
              have hcF : crashF s picks G' f = cutF (s.fs f) (pick picks (i + 1) ((s.fs f).by_.length - (s.fs f).sy)) := by unfold crashF; rw [if_pos hfm, hidx]
              obtain ⟨l, hl⟩ : ∃ l, (s.fs f).by_ = l := ⟨_, rfl⟩
              obtain ⟨sy, hsy⟩ : ∃ y, (s.fs f).sy = y := ⟨_, rfl⟩
              rw [hl] at f1 hhk hbs hbd hcF
              rw [hsy] at f2 hhk hbd hcF
              obtain ⟨m, hm⟩ : ∃ m, pick picks (i + 1) (l.length - sy) = m := ⟨_, rfl⟩
              have hmle : m ≤ l.length - sy := by rw [← hm]; exact pick_le _ _ _
              rw [hm] at hcF
              obtain ⟨q, hq⟩ : ∃ q, sy + m = q := ⟨_, rfl⟩
              have hcF2 : crashF s picks G' f = ⟨(s.fs f).id, l.take q, q⟩ := by rw [hcF]; unfold cutF; rw [hl, hsy, hq]
              have hql : q ≤ l.length := by omega
              have hup : (Bs (BB wr) wr (.slice a q c) (l.take q)) ∧ l.length ≤ c ∧ c ≤ maxLen := by
                obtain ⟨a', c', e, h1, h2, h3⟩ := hbs
                simp only [Value.slice.injEq] at e
                obtain ⟨rfl, -, rfl⟩ := e
                refine ⟨⟨_, _, by rw [List.length_take, Nat.min_eq_left hql], by rw [List.length_take, Nat.min_eq_left hql]; omega, h2, fun x hx => ?_⟩, h1, h2⟩
                have hx' : x < q := by rw [List.length_take, Nat.min_eq_left hql] at hx; exact hx
                obtain ⟨b, o, e, hD, hc⟩ := h3 x (by omega)
                exact ⟨b, o, e, hD, by rw [hc]; simp [List.getD, List.getElem?_take, hx']⟩
              obtain ⟨j, hj⟩ : ∃ j, i + 1 = j := ⟨_, rfl⟩
              obtain ⟨t, ht⟩ : ∃ t, l.length - sy = t := ⟨_, rfl⟩
              have hpicks : Is D wr pv picks := by
                have h1 := (HP.out.frame HFY.out fun _ _ => id).frame HFy3.out fun k hk e => HDD.out k hk (by rw [e]; exact .inr (.inr (.inl rfl)))
                exact h1.frame HFq.out fun k hk e => HDD.out k hk (.inr (.inr (.inr (.inr (HGF.out k ((HMEM.out k).1 e))))))
              have hpk := fun (W : World) (hF : Fr (fun _ => False) wr W) => picked_any D pv picks (hpicks.frame hF fun _ _ => id) HRP.out j t (by omega) (by omega) (by have := HL.out; omega)
              rw [show pick picks j t = m by rw [← hm, hj, ht]] at hpk
              have hclone := fun (W : World) (hF : Fr (fun _ => False) wr W) => clone_any (BB wr) (.slice a q c) (l.take q) W (hup.1.frame hF fun _ _ => id) (by rw [List.length_take]; omega)
              have hlt2 : (l.take q).length = q := by rw [List.length_take, Nat.min_eq_left hql]
              have hps := HPS.out.frame HFq.out fun k hk e => HR3.out k (HGF.out k ((HMEM.out k).1 e)) hk
              obtain ⟨ab, ac', e, -, -, hcc⟩ := hps
              simp only [Value.slice.injEq] at e
              obtain ⟨rfl, -, rfl⟩ := e
              obtain ⟨b, o, u, rfl, -, hcell, rfl⟩ := hcc i hlt
              rw [show G'.getD i 0 = f by rw [List.getD_eq_getElem?_getD, hfe]; rfl] at hcell
              have w72 : IntKind.i64.wrap ((i : Int) + 1) = (j : Int) := by rw [← hj]; exact (IntWalk.i64_in _ (by omega)).trans (by omega)
              have w82 : IntKind.i64.wrap ((l.length : Int) - sy) = (t : Int) := by rw [← ht]; exact (IntWalk.i64_in _ (by omega)).trans (by omega)
              have w84 : IntKind.i64.wrap ((sy : Int) + m) = (q : Int) := by rw [← hq]; exact (IntWalk.i64_in _ (by omega)).trans (by omega)
              have hqc : (q : Int) ≤ c ∧ (0 : Int) ≤ q := by omega
              have F1 := hid f1; have F2 := hid f2; have HHK := hid hhk; have HFF := hid hfF; have HFM := hid hfm; have HFE := hid hfe; have HJ := hid hj; have HCF := hid hcF2; have HPKF := hid hpk; have HCLF := hid hclone; have HT := hid hlt2; have HBD := hid hbd; have HTY := hid hfa.typed; have HNT := hid hnt
              have HLQ := hid hl
              clear hfm hfF hnt hidx hfa f0 f1 f2 hbs ffz hhk hbd hcF hl hsy hm hmle hq hcF2 hup ht hpicks hpk hclone hlt2 hcc hfe hj
              go_upto_region 15 with fail
              refine wp_region_ord [(0, 0), (1, 0), (2, 0), (3, 0), (4, 0), (5, 0), (6, 0), (7, 0), (8, 0), (9, 0), (10, 0), (11, 0), (12, 0), (13, 0), (14, 0), (15, 0), (16, 0), (17, 0), (18, 0), (19, 0), (20, 0), (21, 0), (22, 1), (23, 0), (24, 0), (25, 1), (26, 1), (27, 1), (28, 1)] (fun w' => Fr (fun _ => False) wr w') (by kernel_rfl) (by kernel_rfl) (by kernel_rfl) rfl (fun _ _ d _ _ h => by cases d <;> exact h) (Fr.refl _ _).drew ?_
              iterate 4 (refine wpO_take ?_ rfl (by kernel_rfl) ?_ ?_; rotate_left; (· intro w' hS; go_simp; try with_reducible rfl); try simp only [Act.put, List.setIfInBounds_toArray, List.set_cons_zero, List.set_cons_succ])
              (refine wpO_take ?_ rfl (by kernel_rfl) ?_ ?_; rotate_left; (· intro w' hS; have d1 := hS.cell F1.out not_false; go_simp; try with_reducible rfl); try simp only [Act.put, List.setIfInBounds_toArray, List.set_cons_zero, List.set_cons_succ])
              iterate 3 (refine wpO_take ?_ rfl (by kernel_rfl) ?_ ?_; rotate_left; (· intro w' hS; go_simp; try with_reducible rfl); try simp only [Act.put, List.setIfInBounds_toArray, List.set_cons_zero, List.set_cons_succ])
              (refine wpO_take ?_ rfl (by kernel_rfl) ?_ ?_; rotate_left; (· intro w' hS; have d1 := hS.cell F2.out not_false; go_simp; try with_reducible rfl); try simp only [Act.put, List.setIfInBounds_toArray, List.set_cons_zero, List.set_cons_succ])
              iterate 6 (refine wpO_take ?_ rfl (by kernel_rfl) ?_ ?_; rotate_left; (· intro w' hS; go_simp; try with_reducible rfl); try simp only [Act.put, List.setIfInBounds_toArray, List.set_cons_zero, List.set_cons_succ])
              (refine wpO_take ?_ rfl (by kernel_rfl) ?_ ?_; rotate_left; (· intro w' hS; have d1 := hS.cell F1.out not_false; go_simp; try with_reducible rfl); try simp only [Act.put, List.setIfInBounds_toArray, List.set_cons_zero, List.set_cons_succ])
              iterate 4 (refine wpO_take ?_ rfl (by kernel_rfl) ?_ ?_; rotate_left; (· intro w' hS; go_simp; try with_reducible rfl); try simp only [Act.put, List.setIfInBounds_toArray, List.set_cons_zero, List.set_cons_succ])
              (refine wpO_take ?_ rfl (by kernel_rfl) ?_ ?_; rotate_left; (· intro w' hS; have d1 := hS.cell F2.out not_false; go_simp; try with_reducible rfl); try simp only [Act.put, List.setIfInBounds_toArray, List.set_cons_zero, List.set_cons_succ])
              (refine wpO_take ?_ rfl (by kernel_rfl) ?_ ?_; rotate_left; (· intro w' hS; go_simp; try with_reducible rfl); try simp only [Act.put, List.setIfInBounds_toArray, List.set_cons_zero, List.set_cons_succ])
              clear w72 w82
              refine wpO_run rfl (by kernel_rfl) (fun K hK => ?_); go_simp
              refine (HPKF.out wr.drew (Fr.refl _ _).drew).mono ?_
              rintro e w2 ⟨rfl, rfl⟩
              refine hK _ _ (fun _ => (Fr.refl _ _).drew) ?_
              clear hK K
              try simp only [Act.put, List.setIfInBounds_toArray, List.set_cons_zero, List.set_cons_succ]
              iterate 2 (refine wpO_take ?_ rfl (by kernel_rfl) ?_ ?_; rotate_left; (· intro w' hS; go_simp; try with_reducible rfl); try simp only [Act.put, List.setIfInBounds_toArray, List.set_cons_zero, List.set_cons_succ])
              clear w84
              have hfd := (Fr.refl (fun _ => False) wr).drew
              generalize wr.drew = Wd at *
              refine wpO_run rfl (by kernel_rfl) (fun K hK => ?_); go_simp
              refine (HCLF.out Wd hfd).mono ?_
              rintro e w6 ⟨v', rfl, ho6, hf6⟩
              have hf6 := hfd.trans' hf6
              refine hK _ _ (fun _ => hf6) ?_
              clear hK K hfd
              try simp only [Act.put, List.setIfInBounds_toArray, List.set_cons_zero, List.set_cons_succ]
              have hh6 := hf6.heap HHK.out not_false
              have hne6 := own_ne_cells ho6 hh6 (by decide)
              have hNV : NV v' := by
                rcases own_heap ho6 with ⟨e, -⟩ | ⟨g, cap, e, -⟩
                · exact .inl e
                · exact .inr ⟨_, _, _, e⟩
              have hBy : ∀ x, v'.ownBlock = some x → BB w6 x := fun x hx => by
                rcases ho6.2 with ⟨e, -⟩ | ⟨g, cap, cur, e, -, hg, -⟩
                · rw [e] at hx; cases hx
                · rw [e] at hx
                  simp only [Value.ownBlock, Option.some.injEq] at hx
                  subst hx
                  exact ⟨_, _, hg⟩
              have hB6 := Bs.own ho6
              obtain ⟨a8, c8, hv8, -⟩ := own_len ho6
              have hh7 := setCell_row 2 (.int .i64 (q : Int)) (setCell_row 1 v' hh6)
              simp only [List.setIfInBounds_toArray, List.set_cons_zero, List.set_cons_succ] at hh7
              have hf67 : Fr (fun j => j = f) w6 ((w6.setCell ⟨f, 1, none⟩ v').setCell ⟨f, 2, none⟩ (.int .i64 (q : Int))) := Fr.setCell (S := fun j => j = f) (Fr.setCell (S := fun j => j = f) (Fr.refl _ _) (p := ⟨f, 1, none⟩) (.inl rfl) v') (p := ⟨f, 2, none⟩) (.inl rfl) _
              have hF7 : Fr (fun j => j = f) wr ((w6.setCell ⟨f, 1, none⟩ v').setCell ⟨f, 2, none⟩ (.int .i64 (q : Int))) := (hf6.mono fun _ _ h => h.elim).trans' hf67
              have hfile : FileAt ((w6.setCell ⟨f, 1, none⟩ v').setCell ⟨f, 2, none⟩ (.int .i64 (q : Int))) f ⟨(s.fs f).id, l.take q, q⟩ := ⟨v', hh7, (hB6.frame hf67 hne6).mono fun x _ hx => (hBy x hx).frame hf67 (hne6 x hx), hNV⟩
              have kf : w6.frozen? ⟨f, 1, none⟩ = false := frozen_of_row _ _ _ _ _ hh6
              have kc : w6.cell? ⟨f, 1, none⟩ = some (.slice a l.length c) := by rw [cell_of_row _ _ _ _ _ _ hh6]; rfl
              have hh61 := setCell_row 1 v' hh6
              have kf2 : (w6.setCell ⟨f, 1, none⟩ v').frozen? ⟨f, 2, none⟩ = false := frozen_of_row _ _ _ _ _ hh61
              have kc1 : (w6.setCell ⟨f, 1, none⟩ v').cell? ⟨f, 1, none⟩ = some v' := by rw [cell_of_row _ _ _ _ _ _ hh61]; rfl
              have kc2 : (w6.setCell ⟨f, 1, none⟩ v').cell? ⟨f, 2, none⟩ = some (.int .i64 sy) := by rw [cell_of_row _ _ _ _ _ _ hh61]; rfl
              rw [HT.out] at hv8
              subst hv8
              have HF7 := hid hF7; have HFILE := hid hfile
              clear hh6 hne6 hNV hBy hB6 hh7 hf67 hF7 hfile hh61 ho6 hf6
              iterate 2
                refine wpO_run rfl (by kernel_rfl) (fun K hK => ?_)
                go_simp
                refine hK _ _ (last_skip (by kernel_rfl)) ?_
                clear hK K
                try simp only [Act.put, List.setIfInBounds_toArray, List.set_cons_zero, List.set_cons_succ]
              refine wpO_run rfl (by kernel_rfl) (fun K hK => ?_)
              go_simp
              refine hK _ _ (last_skip (by kernel_rfl)) ?_
              clear hK K
              try simp only [Act.put, List.setIfInBounds_toArray, List.set_cons_zero, List.set_cons_succ]
              refine wpO_end ?_
              have w97 : IntKind.i64.wrap ((i : Int) + 1) = (j : Int) := by have := HJ.out; rw [← this]; exact (IntWalk.i64_in _ (by omega)).trans (by omega)
              go_wp2_with fail
              have htk : G'.take j = G'.take i ++ [f] := by rw [← HJ.out, List.take_add_one, HFE.out]; rfl
              refine ⟨⟨j, by have := HJ.out; omega, rfl, hid (fun k hk => ?_), hid (HFq.out.trans (U := fun k => k ∈ G') HF7.out (fun _ _ h => h) (fun k _ e => by rw [e]; exact HFM.out))⟩, by have := HJ.out; simp [intOf]; omega⟩
              rw [htk]
              by_cases e : k = f
              · rw [e, if_pos (by simp), HCF.out]
                exact HFILE.out
              · have h1 := (HFI.out k hk).frame HF7.out e HTY.out.1
                have h2 : (k ∈ G'.take i ++ [f]) = (k ∈ G'.take i) := by simp [e]
                simp only [h2]
                exact h1
            · have hltI : ¬ (i : Int) < G'.length := by omega
              obtain rfl : i = G'.length := by omega
              rw [List.take_length] at HFI
              have hX3 := HX3.out
              have hgX : s.X ∉ G' := fun e => by
                obtain ⟨cs, h1⟩ := (HFL3.out s.X (HGF.out _ ((HMEM.out _).1 e))).fbk
                rw [hX3] at h1
                simp only [Option.some.injEq, Obj.cells.injEq] at h1
                exact absurd h1.2.1 (by decide)
              have hgk : s.bk ∉ G' := fun e => by
                obtain ⟨cs, h1⟩ := (HFL3.out s.bk (HGF.out _ ((HMEM.out _).1 e))).fbk
                obtain ⟨es, cl, hq, -⟩ := HM3.out.cells
                rw [hq] at h1
                cases h1
              have hXq := HFq.out.heap hX3 hgX
              have hMq := HM3.out.frame HFq.out hgk
              have x2 : wr.cell? ⟨s.X, 2, none⟩ = some (.map (some s.bk)) := by rw [cell_of_row _ _ _ _ _ _ hXq]; rfl
              have HMC := hid (mclone_any hMq)
              have HXQ2 := hid hXq; have HMQ2 := hid hMq
              clear hX3 hgX hgk hXq hMq
              go_wp2_with fail
              refine HMC.out.mono ?_
              rintro e w4 ⟨rfl, hm4, hf4, hs4⟩
              have hX4 := hf4.heap HXQ2.out not_false
              have x1 : w4.cell? ⟨s.X, 1, none⟩ = some (.map (some s.bn)) := by rw [cell_of_row _ _ _ _ _ _ hX4]; rfl
              have x3 : w4.cell? ⟨s.X, 3, none⟩ = some (.slice ac n cc) := by rw [cell_of_row _ _ _ _ _ _ hX4, ← HN.out, ← HCV.out]; rfl
              have x5 : w4.cell? ⟨s.X, 5, none⟩ = some (.int .i64 s.armed) := by rw [cell_of_row _ _ _ _ _ _ hX4]; rfl
              have x6 : w4.cell? ⟨s.X, 6, none⟩ = some (.bool s.down) := by rw [cell_of_row _ _ _ _ _ _ hX4]; rfl
              have fz : ∀ i, w4.frozen? ⟨s.X, i, none⟩ = false := fun i => frozen_of_row _ _ i _ _ hX4
              have f1 := fz 1
              have f3 := fz 3
              have f5 := fz 5
              have f6 := fz 6
              obtain ⟨N, hNe⟩ : ∃ N, wr.heap.size = N := ⟨_, rfl⟩
              rw [hNe] at hm4 hs4 ⊢
              have HM4 := hid hm4; have HF4 := hid hf4; have HX4 := hid hX4; have HNE := hid hNe; have HS4 := hid hs4
              clear hm4 hf4 hs4 hX4 fz hNe
              go_wp2_with fail
              go_end0
              have hh := setCell_row 6 (.bool false) (setCell_row 5 (.int .i64 0) (setCell_row 3 (.slice none 0 0) (setCell_row 1 (.map (some N)) HX4.out)))
              simp only [List.setIfInBounds_toArray, List.set_cons_zero, List.set_cons_succ] at hh
              have hF8 := ((((Fr.refl (fun k => k = s.X) w4).setCell (p := ⟨s.X, 1, none⟩) (.inl rfl) (.map (some N))).setCell (p := ⟨s.X, 3, none⟩) (.inl rfl) (.slice none 0 0)).setCell (p := ⟨s.X, 5, none⟩) (.inl rfl) (.int .i64 0)).setCell (p := ⟨s.X, 6, none⟩) (.inl rfl) (.bool false)
              generalize (((w4.setCell ⟨s.X, 1, none⟩ (.map (some N))).setCell ⟨s.X, 3, none⟩ (.slice none 0 0)).setCell ⟨s.X, 5, none⟩ (.int .i64 0)).setCell ⟨s.X, 6, none⟩ (.bool false) = w8 at *
              have hd := H.out
              have hkf : ∀ k, Fl (crashS s picks G' N) k → k ∈ G' := fun k hk => by
                rcases hk with hk | hk | ⟨c, hc, -⟩
                · exact (HGC.out.2.1 k).2 hk
                · exact (HGC.out.2.1 k).2 hk
                · simp [crashS] at hc
              have hgs : ∀ k, k ∈ G' → Fl s k := fun k hk => HGF.out k ((HMEM.out k).1 hk)
              have hKK : kp s (crashP s picks) = K := by rw [HP0.out]; exact HKE.out
              have hKl : K.length ≤ s.calls := by have := HKL.out; have := HCN.out; have := HN.out; omega
              have hNlt : w.heap.size ≤ N := by have h1 := HFY.out.size; have h2 := HFy3.out.size; have h3 := HFq.out.size; have h4 := HNE.out; omega
              have hcl : ∀ k ∈ G', (crashF s picks G' k).by_.length ≤ 4194304 ∧ (crashF s picks G' k).sy ≤ (crashF s picks G' k).by_.length ∧ (crashF s picks G' k).id ≤ 4611686018427387904 := fun k hk => by
                have h1 := hd.bd k (hgs k hk)
                have h2 := pick_le picks (G'.idxOf k + 1) ((s.fs k).by_.length - (s.fs k).sy)
                unfold crashF cutF
                rw [if_pos hk]
                simp only [List.length_take]
                omega
              have hszK : ∀ q ∈ K, q.1.size ≤ 64 := fun q hq => by
                rw [← hKK] at hq
                rcases kp_mem hq with h1 | ⟨c, hc, -, e⟩
                · exact hd.sz.2.1 q h1
                · rw [e]; exact (hd.sz.2.2 c hc).1
              have hne8 : ∀ k cs t fz, w4.heap[k]? = some (.cells cs t fz) → t ≠ 62 → k ≠ s.X := fun k cs t fz hk ht e => by
                rw [e, HX4.out] at hk
                simp only [Option.some.injEq, Obj.cells.injEq] at hk
                exact ht hk.2.1.symm
              have hneM : ∀ {b : Nat} {M : Nm}, MapAt w4 b M → ¬ b = s.X := fun hm e => by
                obtain ⟨es, cl, hq, -⟩ := hm.cells
                rw [e, HX4.out] at hq
                cases hq
              have hMk4 := HMQ2.out.frame HF4.out not_false
              refine ⟨rfl, G', N, hNlt, HGC.out, ⟨hh, ?_, ?_, ?_, World.ownsRow_nil _ _ _ _, fun k hk => ?_, fun k hk => ?_, ⟨?_, ?_, fun c hc => by simp [crashS] at hc⟩, fun k hk => hcl k (hkf k hk), hd.rm, ?_⟩, ?_⟩
              · show MapAt w8 N (kp s (crashP s picks))
                rw [hKK]
                exact HM4.out.frame hF8 (hneM HM4.out)
              · show MapAt w8 s.bk (kp s (crashP s picks))
                rw [hKK]
                exact hMk4.frame hF8 (hneM hMk4)
              · show N ≠ s.bk
                have := HMQ2.out.lt
                have := HNE.out
                omega
              · have h1 := HFI.out k (hgs k (hkf k hk))
                rw [if_pos (hkf k hk)] at h1
                have h2 := h1.frame HF4.out not_false fun _ _ => not_false
                refine h2.frame hF8 ?_ fun j hj => ?_
                · obtain ⟨cs, h3⟩ := h2.fbk
                  exact hne8 _ _ _ _ h3 (by decide)
                · obtain ⟨cs, fz, h3⟩ := hj
                  exact hne8 _ _ _ _ h3 (by decide)
              · rcases hk with e | e | e | e | e
                · exact hd.lo k (.inl e)
                · have : k = N := e
                  have := HB.out
                  omega
                · exact hd.lo k (.inr (.inr (.inl e)))
                · simp [crashS, Value.ownBlock] at e
                · exact hd.lo k (.inr (.inr (.inr (.inr (hgs k (hkf k e))))))
              · show ∀ q ∈ kp s (crashP s picks), q.1.size ≤ 64
                rw [hKK]; exact hszK
              · show ∀ q ∈ kp s (crashP s picks), q.1.size ≤ 64
                rw [hKK]; exact hszK
              · simp only [crashS, hKK, List.length_nil]
                have := hd.cn
                omega
              · exact ((((HFY.out.mono fun _ _ h => h.elim).trans (U := DSet s) HFy3.out (fun _ _ h => h) (fun k _ e => .inr (.inr (.inl e)))).trans (U := DSet s) HFq.out (fun _ _ h => h) (fun k _ e => .inr (.inr (.inr (.inr (hgs k e)))))).trans (U := DSet s) HF4.out (fun _ _ h => h) (fun _ _ h => h.elim)).trans (U := DSet s) hF8 (fun _ _ h => h) (fun k _ e => .inl e)
        · have hfF : Fl s f := HKM.out nm f hfM
          have hF2 := HF.out.trans' hf2
          have hfbl : ∀ k, Fl s k → FBk w2 k := fun k hk => by
            obtain ⟨⟨cs, h1⟩, h2⟩ := HFB.out k hk
            exact ⟨cs, hF2.heap h1 (by omega)⟩
          have hor : ∀ k, (Value.slice ag G.length cg).ownBlock = some k → ¬ k = rr := fun k hk e => by
            have := (HO.out.lt k hk).1
            have := HS1.out
            omega
          have ho2 := hf2.own HO.out hor
          have hGl : G.length ≤ 1000000 := by have := HLE.out; have := HKL.out; have := HCN.out; have := HC.out; omega
          have HCON := hid (contains_any _ _ G f (Ps.own ho2) hGl (fun k hk => by obtain ⟨n, hn⟩ := HGK.out k hk; exact hfbl k (HKM.out n k hn)) (hfbl f hfF))
          have HF2 := hid hF2; have HO2 := hid ho2; have HRA2 := hid hra2; have HLT := hid hlt2; have HFL := hid hfL; have HFM := hid hfM
          clear hF2 ho2 hra2 hlt2 hfL hfM hfF hfbl hf2 hs2 hor
          have HQ := hid (show ∀ q ∈ K, q.1 = nm → q.2 = f from fun q hq e => by
            have h1 := (lk_mem HRA2.out.map.2).2 HFM.out
            have h2 := (lk_mem (s := q.1) (f := q.2) HRA2.out.map.2).2 hq
            rw [e, h1] at h2
            exact (Option.some.inj h2).symm)
          have HDL := hid (dl_lt HFL.out)
          by_cases hin : f ∈ G
          · rw [decide_eq_true hin] at HCON
            have HIN := hid hin
            clear hin
            go_wp2_with fail
            refine HCON.out.mono ?_
            rintro e w3 ⟨rfl, rfl⟩
            go_wp2_with fail
            refine ⟨⟨ag, cg, G, dl L nm, rfl, HRA2, HO2, HF2, HND, hid (fun q hq => ?_), HGK, hid (by have := HLE.out; have := HDL.out; omega)⟩, HLT.out⟩
            rcases HKL2.out q hq with h1 | h1
            · by_cases e : q.1 = nm
              · right; rw [HQ.out q hq e]; exact HIN.out
              · exact .inl (mem_dl.2 ⟨h1, e⟩)
            · exact .inr h1
          · rw [decide_eq_false hin] at HCON
            have HIN := hid hin
            have hGl2 : G.length + 1 ≤ 1099511627776 := by omega
            have HN1 := hid hGl2
            have hfa := (Fr.refl (fun _ => False) w2).alloc (.cells #[.pointer (some ⟨f, 0, none⟩)] 76)
            have HOA := hid (hfa.own HO2.out fun _ _ => not_false)
            have HC1 := hid (cell_new1 w2 (.pointer (some ⟨f, 0, none⟩)) 76 (0, 0))
            have hsz2 : w1.heap.size ≤ w2.heap.size := HF2.out.size
            have HBS := hid (show w1.heap.size ≤ (w2.alloc (.cells #[.pointer (some ⟨f, 0, none⟩)] 76)).heap.size by have := hfa.size; omega)
            have HFA := hid hfa
            clear hin hGl2 hfa hsz2
            go_wp2_with fail
            refine HCON.out.mono ?_
            rintro e w3 ⟨rfl, rfl⟩
            go_wp2_with (at_builtin; go_must (refine wpList_append1 rfl (.tmp 48) (.tmp 50) 98 rfl 76 (.pointer none) 8 Tryz.underlying98 Tryz.info_pfile rfl _ rfl w1.heap.size G.length (fV G) HOA.out w2.heap.size 1 (.pointer (some ⟨f, 0, none⟩)) rfl HC1.out rfl HN1.out (by decide) HBS.out ?_))
            intro g cap w4 ho4 hf4 hg4
            have HO4 := hid ho4; have HF4 := hid hf4
            have hno : ∀ k, k < w1.heap.size → ¬ some k = (Value.slice ag G.length cg).ownBlock := fun k hk e => by
              have := (HO2.out.lt k e.symm).1
              omega
            have hrr1 : rr < w1.heap.size := by have := HS1.out; omega
            have hbk1 : s.bk < w1.heap.size := HRA.out.map.lt
            have hgf : Fr (fun k => some k = (Value.slice ag G.length cg).ownBlock) w2 w4 := (HFA.out.mono fun _ _ h => h.elim).trans' hf4
            have HGF := hid hgf
            have HRA4 := hid (HRA2.out.frame hgf (hno _ hbk1) (hno _ hrr1))
            have HRL := hid (show w4.rangeLeft s.bk rr = w2.rangeLeft s.bk rr from by
              have e1 := hgf.block s.bk (HRA2.out.map.lt) (hno _ hbk1)
              have e2 := hgf.block rr (by have := HF2.out.size; omega) (hno _ hrr1)
              unfold World.rangeLeft
              rw [e1, e2])
            have HF14 := hid (show Fr (fun k => k = rr) w1 w4 from HF2.out.trans hgf (fun _ _ h => h) (fun k hk h => absurd h (hno k hk)))
            clear ho4 hf4 hg4 hno hrr1 hbk1 hgf
            go_wp2_with fail
            refine ⟨⟨some ⟨g, 0, none⟩, cap, G ++ [f], dl L nm, by simp, HRA4, hid ?_, HF14, hid ?_, hid (fun q hq => ?_), hid (fun k hk => ?_), hid ?_⟩, by rw [HRL.out]; exact HLT.out⟩
            · have := HO4.out
              simp only [List.length_append, List.length_cons, List.length_nil, fV, List.map_append, List.map_cons, List.map_nil] at this ⊢
              exact this
            · rw [List.nodup_append]
              refine ⟨HND.out, by simp, fun x hx y hy e => ?_⟩
              simp at hy
              exact HIN.out (by rw [← hy, ← e]; exact hx)
            · rcases HKL2.out q hq with h1 | h1
              · by_cases e : q.1 = nm
                · right; rw [HQ.out q hq e]; simp
                · exact .inl (mem_dl.2 ⟨h1, e⟩)
              · exact .inr (by simp [h1])
            · rcases List.mem_append.1 hk with h1 | h1
              · exact HGK.out k h1
              · simp at h1
                subst h1
                exact ⟨nm, HFM.out⟩
            · have := HLE.out; have := HDL.out; simp only [List.length_append, List.length_cons, List.length_nil]; omega
end Go.Proofs.YtlhbgobjhddhlaaGreatDoor
