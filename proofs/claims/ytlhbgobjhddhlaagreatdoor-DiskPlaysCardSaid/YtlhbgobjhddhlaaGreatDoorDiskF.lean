/- Package disk: Append, Sync. -/
import Derived.Test.YtlhbgobjhddhlaaGreatDoorDiskE
import Derived.Test.YtlhbgobjhddhlaaGreatDoorBClone
import Derived.Lib.AppendZeros
namespace Go.Proofs.YtlhbgobjhddhlaaGreatDoor
open Go.RowKit
variable {base : Nat} {w w' : World} {s : DS}

def fsUp (s : DS) (k : Nat) (f : FS) : DS := { s with fs := fun j => if j = k then f else s.fs j, calls := s.calls + 1 }
theorem DAt.cells8 (hh : w.heap[s.X]? = some (.cells #[.int .i64 s.room, .map (some s.bn), .map (some s.bk), s.cv, .int .i64 s.files, .int .i64 s.armed, .bool s.down, .int .i64 s.calls] 62 (0, 0))) : w.cell? ⟨s.X, 7, none⟩ = some (.int .i64 s.calls) ∧ w.frozen? ⟨s.X, 7, none⟩ = false := by
  refine ⟨?_, frozen_of_row _ _ _ _ _ hh⟩
  rw [cell_of_row _ _ _ _ _ _ hh]; rfl
theorem FileAt.typed {k : Nat} {f : FS} (h : FileAt w k f) : (∀ j, BB w j → j ≠ k) ∧ ∀ cs t fz, w.heap[k]? = some (.cells cs t fz) → t = 78 := by
  obtain ⟨v, hm, -⟩ := h
  refine ⟨fun j ⟨cs, fz, hj⟩ e => ?_, fun cs t fz hc => ?_⟩
  · rw [e, hm] at hj
    simp only [Option.some.injEq, Obj.cells.injEq] at hj
    exact absurd hj.2.1 (by decide)
  · rw [hm] at hc
    simp only [Option.some.injEq, Obj.cells.injEq] at hc
    exact hc.2.1.symm
/-- One file is another, and a call is counted. -/
theorem DAt.fsUp (h : DAt base w s) {k : Nat} (hk : Fl s k) (f : FS) {w1 w2 : World} (h1 : Fr (fun j => j = k) w w1) (hf : FileAt w1 k f) (hb : f.by_.length ≤ 4194304 ∧ f.sy ≤ f.by_.length ∧ f.id ≤ 4611686018427387904) (hc : s.calls ≤ 1000000000) {j : Int} (hj : j = (s.calls : Int) + 1)
    (h2 : w2 = w1.setCell ⟨s.X, 7, none⟩ (.int .i64 j)) : DAt base w2 (fsUp s k f) ∧ Fr (fun q => q = k ∨ q = s.X) w w2 := by
  subst h2 hj
  have ht := (h.fl k hk).typed
  have hkX : k ≠ s.X := fun e => by
    have := ht.2 _ _ _ (by rw [e]; exact h.heap)
    exact absurd this (by decide)
  have hmap : ∀ {b : Nat} {M : Nm}, MapAt w b M → ¬ b = k := fun hm e => by
    obtain ⟨es, cl, hq, -⟩ := hm.cells
    obtain ⟨v, hm', -⟩ := h.fl k hk
    rw [e, hm'] at hq
    cases hq
  have hx1 := h1.heap h.heap (fun e => hkX e.symm)
  have hx2 := setCell_row 7 (.int .i64 ((s.calls : Int) + 1)) hx1
  simp only [List.setIfInBounds_toArray, List.set_cons_zero, List.set_cons_succ] at hx2
  have h1' : DAt base w1 { s with fs := fun j => if j = k then f else s.fs j } := by
    refine ⟨hx1, h.names.frame h1 (hmap h.names), h.kept.frame h1 (hmap h.kept), h.ne, h1.own h.ch fun q hq e => ?_, fun q hq => ?_, h.lo, h.sz, fun q hq => ?_, h.rm, h.cn⟩
    · obtain ⟨v, hm', -⟩ := h.fl k hk
      exact own_ne_cells h.ch hm' (by decide) q hq e
    · dsimp only
      by_cases e : q = k
      · rw [if_pos e, e]; exact hf
      · rw [if_neg e]
        exact (h.fl q hq).frame h1 e ht.1
    · dsimp only
      by_cases e : q = k
      · rw [if_pos e]; exact hb
      · rw [if_neg e]; exact h.bd q hq
  refine ⟨h1'.turn (Go.Proofs.YtlhbgobjhddhlaaGreatDoor.fsUp s k f) ((Fr.refl (fun q => q = s.X) w1).setCell (p := ⟨s.X, 7, none⟩) (.inl rfl) _) rfl ⟨rfl, rfl, rfl, rfl, rfl, rfl, rfl, rfl⟩ (by simpa [Go.Proofs.YtlhbgobjhddhlaaGreatDoor.fsUp] using hx2) (by have := h.cn; simp only [Go.Proofs.YtlhbgobjhddhlaaGreatDoor.fsUp]; omega), (h1.mono fun _ _ e => .inl e).setCell (p := ⟨s.X, 7, none⟩) (.inl (.inr rfl)) _⟩
set_option maxRecDepth 100000 in
theorem clip_any (a : Option Addr) (n c : Nat) (hn : n ≤ c) (hc : c ≤ maxLen) (w : World) : Calls Tryz.prog 46 #[.slice a n c] w fun e w' => e = .returned (.slice a n n) ∧ w = w' := by
  have hcI : (n : Int) ≤ c := by omega
  have hc0 : (0 : Int) ≤ n := by omega
  go_enter Tryz.func46, Tryz.ntmps46
  go_wp2_with fail
  all_goals
    go_ret
    exact ⟨rfl, rfl⟩
def appE (s : DS) (nm : ByteArray) (m : List UInt8) : Nat := if findE s nm ≠ 0 then findE s nm else if s.room - (usedS s : Int) < m.length then 109 else 0
theorem usedS_begin (s : DS) : usedS (beginS s) = usedS s := by
  unfold usedS
  rw [(beginS_same s).2.2.2.2.2.1, (beginS_same s).2.2.2.2.2.2.2.2.2.2]
set_option maxRecDepth 100000 in
set_option maxHeartbeats 3200000 in
theorem append_any (pa : Nat → Addr) (hS : S6 base w pa) (h : DAt base w s) (nm : ByteArray) (hn : nm.size ≤ 1048576) (v : Value) (m : List UInt8) (D : Nat → Prop) (hv : Bs D w v m) (hD : ∀ k, D k → k ≠ s.X) (hm : m.length ≤ 1073741824) (hc : s.calls ≤ 1000000) :
    Calls Tryz.prog 12 #[.pointer (some ⟨s.X, 0, none⟩), .string nm, v] w fun e w' => e = .returned (errV pa (appE s nm m)) ∧
      (appE s nm m ≠ 0 → DAt base w' (beginS s) ∧ Fr (fun k => k = s.X) w w') ∧
      (appE s nm m = 0 → ∃ k, lk s.names nm = some k ∧ DAt base w' (fsUp (beginS s) k ⟨(s.fs k).id, (s.fs k).by_ ++ m, (s.fs k).sy⟩) ∧ Fr (fun q => q = k ∨ q = s.X) w w') := by
  have HC := hid (find_any pa hS h nm (by unfold maxLen; omega))
  have hbs := beginS_same s
  have HX := hid hbs.1
  have HBS := hid hbs
  have HS := hid (fun (w2 : World) (hf : Fr (fun k => k = s.X) w w2) => S6.turn hS h hf)
  have hub := usedS_begin s
  have hXB : ∀ k, BB w k → k ≠ s.X := fun k hk e => h.bytes hk (.inl e)
  have HV := hid hv; have HD := hid hD; have HXB := hid hXB
  obtain ⟨av, cv, rfl, -⟩ := id hv
  rcases find_cases s h.names.2 nm with ⟨k, e1, e2, hmm, hlk, hbe⟩ | ⟨e1, e2⟩
  rotate_left
  · obtain ⟨p, hp⟩ := errV_some pa (m := findE s nm) (by omega)
    have hne : findE s nm ≠ 0 := by omega
    have ea : appE s nm m = findE s nm := by unfold appE; rw [if_pos hne]
    rw [e1, hp] at HC
    rw [ea, hp]
    have HNE := hid hne
    unfold pV at HC
    clear e1 e2 hp h hS hbs hc hne hub hXB hv hD ea
    go_enter Tryz.func12, Tryz.ntmps12
    go_wp2_with fail
    refine HC.out.mono ?_
    rintro e w2 ⟨rfl, h2, hf2⟩
    have H2 := hid h2; have HF2 := hid hf2
    clear h2 hf2
    go_wp2_with fail
    go_ret
    exact ⟨rfl, fun _ => ⟨H2.out, HF2.out⟩, fun h => absurd h HNE.out⟩
  have hns := h.sz.1 _ hmm
  have hub2 : usedS s ≤ 4194304000000 := by
    refine Nat.le_trans (sumF_le _ 4194304 s.names fun p hp => (h.bd p.2 (.inl ⟨p.1, hp⟩)).1) ?_
    have := h.cn
    have h2 := Nat.mul_le_mul_left 4194304 (show s.names.length ≤ 1000000 by omega)
    omega
  have hrm := h.rm
  have hbd := h.bd k (.inl ⟨nm, hmm⟩)
  have hul : (s.fs k).by_.length ≤ usedS s := by
    have := sumF_dl (fun k => (s.fs k).by_.length) h.names.2 hmm
    unfold usedS
    omega
  have HUS := hid (fun (w2 : World) (h2 : DAt base w2 (beginS s)) => used_any h2 (by rw [hbs.2.2.2.2.2.2.2.2.2.1]; exact hc))
  rw [hbs.1, hub] at HUS
  rw [e1, e2] at HC
  have z0 : errV pa 0 = .nilIface := rfl
  rw [z0] at HC
  unfold pV at HC
  have hw1 : IntKind.i64.wrap (s.room - (usedS s : Int)) = s.room - (usedS s : Int) := IntWalk.i64_in _ (by omega)
  have HK := hid (show Fl (beginS s) k by rw [Fl, hbs.2.2.2.2.2.1]; exact .inl ⟨nm, hmm⟩)
  have HLK := hid hlk; have HBD := hid hbd; have HUL := hid hul; have HCC := hid hc; have HRM := hid hrm
  by_cases hfull : s.room - (usedS s : Int) < m.length
  · have ea : appE s nm m = 109 := by unfold appE; rw [if_neg (by simp [e2]), if_pos hfull]
    rw [ea]
    have z1 : errV pa 109 = .iface 167 (.pointer (some (pa 8))) := rfl
    rw [z1]
    clear e1 e2 h hS hbs hc hub hXB hv hD ea hns hub2 hrm hbd hul z0 z1 hmm hlk hbe
    go_enter Tryz.func12, Tryz.ntmps12
    go_wp2_with fail
    refine HC.out.mono ?_
    rintro e w2 ⟨rfl, h2, hf2⟩
    have H2 := hid h2; have HF2 := hid hf2
    have c0 := h2.cells.1
    rw [HX.out, HBS.out.2.2.2.2.1] at c0
    have C0 := hid c0
    clear h2 hf2 c0
    go_upto_region 4 with fail
    refine wp_region_cls (fun w' => Fr (fun _ => False) w2 w') (by kernel_rfl) (by kernel_rfl) (Fr.refl _ _).drew ?_
    iterate 5 (refine q_take ?_ (by kernel_rfl) ?_ ?_; rotate_left; (· intro w' hS; go_simp; try with_reducible rfl); (try simp only [Act.put, List.setIfInBounds_toArray, List.set_cons_zero, List.set_cons_succ]))
    (refine q_take ?_ (by kernel_rfl) ?_ ?_; rotate_left; (· intro w' hS; have d0 := hS.cell C0.out not_false; go_simp; try with_reducible rfl); try simp only [Act.put, List.setIfInBounds_toArray, List.set_cons_zero, List.set_cons_succ])
    iterate 1 (refine q_take ?_ (by kernel_rfl) ?_ ?_; rotate_left; (· intro w' hS; go_simp; try with_reducible rfl); (try simp only [Act.put, List.setIfInBounds_toArray, List.set_cons_zero, List.set_cons_succ]))
    (refine q_call ?_ ?_ (by kernel_rfl) ?_ ?_; rotate_left 2; (· intro w' hS; go_simp; first | with_reducible rfl | (constructor <;> with_reducible rfl)); (refine ⟨_, fun w' hw => (HUS.out w' (H2.out.fr hw)).mono fun _ _ h => ⟨h.1, hw.trans' h.2⟩, ?_⟩); (try simp only [Act.put, List.setIfInBounds_toArray, List.set_cons_zero, List.set_cons_succ]))
    iterate 2 (refine q_take ?_ (by kernel_rfl) ?_ ?_; rotate_left; (· intro w' hS; go_simp; try with_reducible rfl); (try simp only [Act.put, List.setIfInBounds_toArray, List.set_cons_zero, List.set_cons_succ]))
    refine q_end (fun wy hw => ?_)
    have HD2 := hid (H2.out.fr hw)
    have HFy := hid (HF2.out.trans' (hw.mono fun _ _ h => h.elim))
    have g8 : wy.cell? ⟨3, 0, none⟩ = some (.iface 167 (.pointer (some (pa 8)))) := (HS.out wy HFy.out).get 8 (by decide)
    clear hw
    go_wp2_with fail
    go_ret
    exact ⟨rfl, fun _ => ⟨HD2.out, HFy.out⟩, fun h => by simp at h⟩
  · have ea : appE s nm m = 0 := by unfold appE; rw [if_neg (by simp [e2]), if_neg hfull]
    rw [ea, z0]
    have hnew : (s.fs k).by_.length + m.length ≤ 4194304 := by omega
    have HNEW := hid hnew
    clear e1 e2 h hS hbs hub hXB hv hD ea hns hub2 hrm hbd hul z0 hmm hlk hbe hnew
    go_enter Tryz.func12, Tryz.ntmps12
    go_wp2_with fail
    refine HC.out.mono ?_
    rintro e w2 ⟨rfl, h2, hf2⟩
    have H2 := hid h2; have HF2 := hid hf2
    have c0 := h2.cells.1
    rw [HX.out, HBS.out.2.2.2.2.1] at c0
    have C0 := hid c0
    clear h2 hf2 c0
    go_upto_region 4 with fail
    refine wp_region_cls (fun w' => Fr (fun _ => False) w2 w') (by kernel_rfl) (by kernel_rfl) (Fr.refl _ _).drew ?_
    iterate 5 (refine q_take ?_ (by kernel_rfl) ?_ ?_; rotate_left; (· intro w' hS; go_simp; try with_reducible rfl); (try simp only [Act.put, List.setIfInBounds_toArray, List.set_cons_zero, List.set_cons_succ]))
    (refine q_take ?_ (by kernel_rfl) ?_ ?_; rotate_left; (· intro w' hS; have d0 := hS.cell C0.out not_false; go_simp; try with_reducible rfl); try simp only [Act.put, List.setIfInBounds_toArray, List.set_cons_zero, List.set_cons_succ])
    iterate 1 (refine q_take ?_ (by kernel_rfl) ?_ ?_; rotate_left; (· intro w' hS; go_simp; try with_reducible rfl); (try simp only [Act.put, List.setIfInBounds_toArray, List.set_cons_zero, List.set_cons_succ]))
    (refine q_call ?_ ?_ (by kernel_rfl) ?_ ?_; rotate_left 2; (· intro w' hS; go_simp; first | with_reducible rfl | (constructor <;> with_reducible rfl)); (refine ⟨_, fun w' hw => (HUS.out w' (H2.out.fr hw)).mono fun _ _ h => ⟨h.1, hw.trans' h.2⟩, ?_⟩); (try simp only [Act.put, List.setIfInBounds_toArray, List.set_cons_zero, List.set_cons_succ]))
    iterate 2 (refine q_take ?_ (by kernel_rfl) ?_ ?_; rotate_left; (· intro w' hS; go_simp; try with_reducible rfl); (try simp only [Act.put, List.setIfInBounds_toArray, List.set_cons_zero, List.set_cons_succ]))
    refine q_end (fun wy hw => ?_)
    have HD2 := hid (H2.out.fr hw)
    have HFy := hid (HF2.out.trans' (hw.mono fun _ _ h => h.elim))
    clear hw
    have hfs : (beginS s).fs = s.fs := HBS.out.2.2.2.2.2.2.2.2.2.2
    have hfa := HD2.out.fl k HK.out
    rw [hfs] at hfa
    obtain ⟨a, c, f0, f1, f2, hbs1, ffz, hhk, -⟩ := hfa.cells
    have hclen : (s.fs k).by_.length ≤ c ∧ c ≤ maxLen := by
      obtain ⟨a', c', e, h1, h2, -⟩ := id hbs1
      simp only [Value.slice.injEq] at e
      obtain ⟨-, -, rfl⟩ := e
      exact ⟨h1, h2⟩
    have hbs2 : Bs (BB wy) wy (.slice a (s.fs k).by_.length (s.fs k).by_.length) (s.fs k).by_ := by
      obtain ⟨a', c', e, h1, h2, h3⟩ := id hbs1
      simp only [Value.slice.injEq] at e
      obtain ⟨rfl, -, rfl⟩ := e
      exact ⟨_, _, rfl, Nat.le_refl _, by omega, h3⟩
    have hvy := HV.out.frame HFy.out (fun j hj => HD.out j hj)
    have hnew := HNEW.out
    obtain ⟨v', w6, hrun, hF6, hcase⟩ := run_append_full wy (BB wy) D a _ _ _ hbs2 (by cases a <;> simp) hvy (by omega) 32
    obtain ⟨l, hl⟩ : ∃ l, (s.fs k).by_ = l := ⟨_, rfl⟩
    have ht := hfa.typed
    have hh6 := hF6.heap hhk not_false
    rw [hl] at f1 hclen hrun hh6
    have hh7 := setCell_row 1 v' hh6
    simp only [List.setIfInBounds_toArray, List.set_cons_zero, List.set_cons_succ] at hh7
    have hF7 : Fr (fun j => j = k) wy (w6.setCell ⟨k, 1, none⟩ v') := Fr.setCell (S := fun j => j = k) (hF6.mono fun _ _ h => h.elim) (p := ⟨k, 1, none⟩) (.inl rfl) v'
    have hf67 := (Fr.refl (fun j => j = k) w6).setCell (p := ⟨k, 1, none⟩) (.inl rfl) v'
    have hBs7 : Bs (BB (w6.setCell ⟨k, 1, none⟩ v')) (w6.setCell ⟨k, 1, none⟩ v') v' (l ++ m) := by
      rcases hcase with ⟨rfl, rfl, rfl⟩ | ⟨g, n9, c9, cs, rfl, hg, hb9⟩
      · rw [List.append_nil, ← hl]
        exact (hbs2.frame hF7 ht.1).mono fun j _ hj => hj.frame hF7 (ht.1 j hj)
      · have hgk : g ≠ k := fun e => by
          rw [e, hh6] at hg
          simp only [Option.some.injEq, Obj.cells.injEq] at hg
          exact absurd hg.2.1 (by decide)
        rw [hl] at hb9
        refine (hb9.frame hf67 fun j hj e => hgk (hj ▸ e)).mono fun j _ hj => ?_
        subst hj
        exact ⟨cs, (0, 0), hf67.heap hg hgk⟩
    have hNV : NV v' := by
      rcases hcase with ⟨-, rfl, -⟩ | ⟨g, n9, c9, cs, rfl, -⟩
      · cases a with
        | none =>
          left
          obtain ⟨a', c', e, h1, h2, h3⟩ := id hbs2
          simp only [Value.slice.injEq] at e
          obtain ⟨rfl, -, -⟩ := e
          have : (s.fs k).by_.length = 0 := by
            rcases Nat.eq_zero_or_pos (s.fs k).by_.length with h0 | h0
            · exact h0
            · obtain ⟨_, _, e, -⟩ := h3 0 h0; cases e
          rw [this]
        | some ad => exact .inr ⟨_, _, _, rfl⟩
      · exact .inr ⟨_, _, _, rfl⟩
    have hfile : FileAt (w6.setCell ⟨k, 1, none⟩ v') k ⟨(s.fs k).id, l ++ m, (s.fs k).sy⟩ := ⟨v', hh7, hBs7, hNV⟩
    have hbd := HBD.out
    rw [hl] at hbd hnew
    have hca : (beginS s).calls = s.calls := HBS.out.2.2.2.2.2.2.2.2.2.1
    have hcc := HCC.out
    have hfin := HD2.out.fsUp HK.out ⟨(s.fs k).id, l ++ m, (s.fs k).sy⟩ hF7 hfile ⟨by simp only [List.length_append]; omega, by simp only [List.length_append]; omega, by dsimp only; omega⟩ (by omega) (j := (s.calls : Int) + 1) (by rw [hca]) rfl
    rw [HX.out] at hfin
    have hx7 := hF7.heap HD2.out.heap (fun e => by
      have := ht.2 _ _ _ (by rw [← e]; exact HD2.out.heap)
      exact absurd this (by decide))
    rw [HX.out] at hx7
    have x7 : (w6.setCell ⟨k, 1, none⟩ v').cell? ⟨s.X, 7, none⟩ = some (.int .i64 s.calls) := by rw [cell_of_row _ _ _ _ _ _ hx7, hca]; rfl
    have xf : (w6.setCell ⟨k, 1, none⟩ v').frozen? ⟨s.X, 7, none⟩ = false := frozen_of_row _ _ _ _ _ hx7
    have kf : w6.frozen? ⟨k, 1, none⟩ = false := frozen_of_row _ _ _ _ _ hh6
    have kc : w6.cell? ⟨k, 1, none⟩ = some (.slice a l.length c) := by rw [cell_of_row _ _ _ _ _ _ hh6]; rfl
    have hw7 : IntKind.i64.wrap ((s.calls : Int) + 1) = (s.calls : Int) + 1 := IntWalk.i64_in _ (by omega)
    have HCL := hid (clip_any a l.length c hclen.1 hclen.2 wy)
    obtain ⟨a8, n8, c8, hv8⟩ : ∃ a n c, v' = .slice a n c := by
      rcases hcase with ⟨-, e, -⟩ | ⟨_, _, _, _, e, -⟩
      · exact ⟨_, _, _, e⟩
      · exact ⟨_, _, _, e⟩
    have HL := hid hl; have HFIN := hid hfin
    clear hfs hfa f0 f2 hbs1 ffz hhk hclen hbs2 hvy hnew hF6 hcase hl ht hh6 hh7 hF7 hf67 hBs7 hNV hfile hbd hca hcc hfin hx7
    subst hv8
    go_wp2_with fail
    refine HCL.out.mono ?_
    rintro e w9 ⟨rfl, rfl⟩
    go_wp2_with (at_builtin; go_must (refine Lib.wpList_append_run _ rfl (.tmp 34) (.tmp 35) 32 32 rfl _ _ rfl rfl _ _ hrun ?_))
    clear hrun
    go_wp2_with fail
    go_ret
    refine ⟨rfl, fun h => absurd rfl h, fun _ => ⟨k, HLK.out, ?_, ?_⟩⟩
    · rw [HL.out]; exact HFIN.out.1
    · exact HFy.out.trans (U := fun q => q = k ∨ q = s.X) HFIN.out.2 (fun _ _ h => .inr h) (fun _ _ h => h)
end Go.Proofs.YtlhbgobjhddhlaaGreatDoor
