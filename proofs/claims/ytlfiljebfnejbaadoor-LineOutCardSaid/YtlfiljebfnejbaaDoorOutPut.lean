/- Package line's Out: what it is, NewOut, Used, Lost, Put. -/
import Derived.Test.YtlfiljebfnejbaaDoorRowOff
import Derived.Test.YtlfiljebfnejbaaDoorLineIn
import Derived.Test.YtlfiljebfnejbaaDoorRegion
import Derived.IntWalk
namespace Go.Proofs.YtlfiljebfnejbaaDoor
open Go.RowKit

/-- What a queue of lines may take of a line. -/
def cleanStep (m : Nat) (b : List UInt8) (c : UInt8) : List UInt8 := if pln c.toNat = true ∧ b.length < m then b ++ [c] else b
def clean (m : Nat) (l : List UInt8) : List UInt8 := l.foldl (cleanStep m) []
theorem clean_take (m : Nat) (l : List UInt8) (k : Nat) (h : k < l.length) : clean m (l.take (k + 1)) = cleanStep m (clean m (l.take k)) (l.getD k 0) := by
  rw [take_snoc l k 0 h]
  simp only [clean, List.foldl_append, List.foldl_cons, List.foldl_nil]
theorem clean_len (m : Nat) (l : List UInt8) : (clean m l).length ≤ m := by
  unfold clean
  have : ∀ (l b : List UInt8), b.length ≤ m → (l.foldl (cleanStep m) b).length ≤ m := by
    intro l
    induction l with
    | nil => intro b h; exact h
    | cons c l ih =>
      intro b h
      refine ih _ ?_
      unfold cleanStep
      split
      · rename_i hc; simp; omega
      · exact h
  exact this l [] (Nat.zero_le _)
def usedB (L : List (List UInt8)) : Nat := (L.map fun s => s.length + 1).sum
theorem usedB_app (a b : List (List UInt8)) : usedB (a ++ b) = usedB a + usedB b := by simp [usedB]
theorem usedB_cons (x : List UInt8) (b : List (List UInt8)) : usedB (x :: b) = x.length + 1 + usedB b := by simp [usedB]
theorem usedB_snoc (L : List (List UInt8)) (x : List UInt8) : usedB (L ++ [x]) = usedB L + (x.length + 1) := by
  rw [usedB_app, usedB_cons]
  simp [usedB]
theorem usedB_drop (L : List (List UInt8)) (j : Nat) : usedB (L.drop j) ≤ usedB L := by
  have : usedB L = usedB (L.take j) + usedB (L.drop j) := by rw [← usedB_app, List.take_append_drop]
  omega
theorem len_usedB (L : List (List UInt8)) : L.length ≤ usedB L := by
  induction L with
  | nil => simp
  | cons x r ih => rw [usedB_cons, List.length_cons]; omega
/-- The last lines that have room, and how many are left out. -/
def dropTo (most : Nat) : List (List UInt8) → Nat → List (List UInt8) × Nat
  | [], k => ([], k)
  | x :: r, k => if most < usedB (x :: r) then dropTo most r (k + 1) else (x :: r, k)

/-- The queue in block B. -/
structure OutAt (base : Nat) (w : World) (B : Nat) (most used lost : Int) (lv : Value) (L : List (List UInt8)) : Prop where
  heap : w.heap[B]? = some (.cells #[.int .i64 most, .int .i64 used, .int .i64 lost, lv] 48 (0, 0))
  own : OwnO base 9 w lv L.length (sV (txt L))
  le : base ≤ B
def OutS (B : Nat) (lv : Value) : Nat → Prop := fun k => k = B ∨ some k = lv.ownBlock
theorem OutAt.frame {base B : Nat} {w w' : World} {most used lost : Int} {lv : Value} {L : List (List UInt8)} {S : Nat → Prop} (h : OutAt base w B most used lost lv L) (hf : Fr S w w') (h1 : ¬ S B) (h2 : ∀ k, lv.ownBlock = some k → ¬ S k) : OutAt base w' B most used lost lv L :=
  ⟨hf.heap h.heap h1, h.own.frame hf h2, h.le⟩
theorem OutAt.cells {base B : Nat} {w : World} {most used lost : Int} {lv : Value} {L : List (List UInt8)} (h : OutAt base w B most used lost lv L) :
    w.cell? ⟨B, 0, none⟩ = some (.int .i64 most) ∧ w.cell? ⟨B, 1, none⟩ = some (.int .i64 used) ∧ w.cell? ⟨B, 2, none⟩ = some (.int .i64 lost) ∧ w.cell? ⟨B, 3, none⟩ = some lv ∧ ∀ i, w.frozen? ⟨B, i, none⟩ = false := by
  refine ⟨?_, ?_, ?_, ?_, fun i => frozen_of_row _ _ i _ _ h.heap⟩
  all_goals (rw [cell_of_row _ _ _ _ _ _ h.heap]; rfl)

theorem OwnO.ne_own {w : World} {b1 b2 e1 e2 s2 n1 n2 : Nat} {v1 v2 : Value} {x1 x2 : List Value} (h1 : OwnO b1 e1 w v1 n1 x1) (h2 : w.ownsRow b2 e2 s2 v2 n2 x2) (he : e1 ≠ e2) : ∀ k, v2.ownBlock = some k → ¬ some k = v1.ownBlock := by
  intro k h e
  rcases h2.2 with ⟨rfl, _⟩ | ⟨g, cap, cur, rfl, _, hg, _⟩
  · simp [Value.ownBlock] at h
  · simp only [Value.ownBlock, Option.some.injEq] at h
    subst h
    exact h1.ne_cells hg he _ e.symm rfl
theorem OutAt.neB {base B : Nat} {w : World} {most used lost : Int} {lv : Value} {L : List (List UInt8)} (h : OutAt base w B most used lost lv L) : ∀ k, lv.ownBlock = some k → k ≠ B := h.own.ne_cells h.heap (by decide)
theorem OutAt.setUsed {base B : Nat} {w : World} {most used lost : Int} {lv : Value} {L : List (List UInt8)} (h : OutAt base w B most used lost lv L) (u : Int) : OutAt base (w.setCell ⟨B, 1, none⟩ (.int .i64 u)) B most u lost lv L :=
  ⟨setCell_row 1 _ h.heap, h.own.frame ((Fr.refl (fun k => k = B) w).setCell (p := ⟨B, 1, none⟩) (.inl rfl) _) h.neB, h.le⟩
theorem OutAt.setLost {base B : Nat} {w : World} {most used lost : Int} {lv : Value} {L : List (List UInt8)} (h : OutAt base w B most used lost lv L) (u : Int) : OutAt base (w.setCell ⟨B, 2, none⟩ (.int .i64 u)) B most used u lv L :=
  ⟨setCell_row 2 _ h.heap, h.own.frame ((Fr.refl (fun k => k = B) w).setCell (p := ⟨B, 2, none⟩) (.inl rfl) _) h.neB, h.le⟩
theorem OutAt.setL {base B : Nat} {w : World} {most used lost : Int} {lv lv' : Value} {L' : List (List UInt8)} (h : w.heap[B]? = some (.cells #[.int .i64 most, .int .i64 used, .int .i64 lost, lv] 48 (0, 0))) (hb : base ≤ B) (hn : OwnO base 9 w lv' L'.length (sV (txt L'))) : OutAt base (w.setCell ⟨B, 3, none⟩ lv') B most used lost lv' L' :=
  ⟨setCell_row 3 _ h, hn.frame ((Fr.refl (fun k => k = B) w).setCell (p := ⟨B, 3, none⟩) (.inl rfl) _) (hn.ne_cells h (by decide)), hb⟩

theorem newOut_any (m : Int) (w : World) :
    Calls Tryd.prog 9 #[.int .i64 m] w fun e w' => e = .returned (.pointer (some ⟨w.heap.size, 0, none⟩)) ∧ OutAt w.heap.size w' w.heap.size (bnd m 4096) 0 0 (.slice none 0 0) [] ∧ Fr (fun _ => False) w w' := by
  have h1 : OutAt w.heap.size (w.alloc (.cells #[.int .i64 (bnd m 4096), .int .i64 0, .int .i64 0, .slice none 0 0] 48)) w.heap.size (bnd m 4096) 0 0 (.slice none 0 0) [] := ⟨heap_alloc_new w _, OwnO.nil _ _ _, Nat.le_refl _⟩
  have h2 := (Fr.refl (fun _ => False) w).alloc (.cells #[.int .i64 (bnd m 4096), .int .i64 0, .int .i64 0, .slice none 0 0] 48)
  have H1 := hid h1; have H2 := hid h2
  clear h1 h2
  go_enter Tryd.func9, Tryd.ntmps9
  go_wp2_with (go_at_call 21; refine (bound_any _ _ _).mono ?_; rintro e w' ⟨rfl, rfl⟩)
  go_ret
  exact ⟨rfl, H1.out, H2.out⟩
theorem used_any {base B : Nat} {w : World} {most used lost : Int} {lv : Value} {L : List (List UInt8)} (h : OutAt base w B most used lost lv L) :
    Calls Tryd.prog 18 #[.pointer (some ⟨B, 0, none⟩)] w fun e w' => e = .returned (.int .i64 used) ∧ w = w' := by
  have hc := h.cells.2.1
  clear h
  go_enter Tryd.func18, Tryd.ntmps18
  go_wp2
  go_ret
  exact ⟨rfl, rfl⟩
theorem lost_any {base B : Nat} {w : World} {most used lost : Int} {lv : Value} {L : List (List UInt8)} (h : OutAt base w B most used lost lv L) :
    Calls Tryd.prog 20 #[.pointer (some ⟨B, 0, none⟩)] w fun e w' => e = .returned (.int .i64 lost) ∧ w = w' := by
  have hc := h.cells.2.2.1
  clear h
  go_enter Tryd.func20, Tryd.ntmps20
  go_wp2
  go_ret
  exact ⟨rfl, rfl⟩

set_option maxRecDepth 100000 in
set_option maxHeartbeats 1600000 in
theorem put_any (base B most lost : Nat) (lv : Value) (L : List (List UInt8)) (s : ByteArray) (w : World) (hO : OutAt base w B most (usedB L) lost lv L) (hm1 : 1 ≤ most) (hm2 : most ≤ 1048576) (hu : usedB L ≤ most) (hlo : lost ≤ 1000000) (hs : s.size ≤ 1048576) (hb : base ≤ w.heap.size) :
    Calls Tryd.prog 11 #[.pointer (some ⟨B, 0, none⟩), .string s] w fun e w' => e = .returned (.tuple #[]) ∧ ∃ lv', OutAt base w' B most (usedB (dropTo most (L ++ [clean (most - 1) s.data.toList]) lost).1) ((dropTo most (L ++ [clean (most - 1) s.data.toList]) lost).2 : Nat) lv' (dropTo most (L ++ [clean (most - 1) s.data.toList]) lost).1 ∧ Fr (OutS B lv) w w' ∧ (∀ k, lv'.ownBlock = some k → lv.ownBlock = some k ∨ w.heap.size ≤ k) := by
  have HO := hid hO; have HM2 := hid hm2; have HU := hid hu; have HLO := hid hlo; have HS := hid hs; have HBB := hid hb
  have hmI : (most : Int) ≤ 1048576 := by omega
  have hsI : (s.size : Int) ≤ 1048576 := by omega
  have hsl : s.data.toList.length = s.size := by simp
  have HSL := hid hsl
  clear hO hm2 hu hlo hs hb hsl
  go_enter Tryd.func11, Tryd.ntmps11
  go_wp2_with fail
  go_loopw [4, 8] (fun v i wr => ∃ k : Nat, k ≤ s.size ∧ i = .int .i64 k ∧ wr.ownsRow w.heap.size 5 1 v (clean (most - 1) (s.data.toList.take k)).length (bV (clean (most - 1) (s.data.toList.take k))) ∧ Fr (fun _ => False) w wr) (fun _ i _ => s.size - (intOf i).toNat)
  case atStart => exact ⟨0, Nat.zero_le _, rfl, World.ownsRow_nil _ _ _ _, Fr.refl _ _⟩
  case round =>
    obtain ⟨k, hk, rfl, hO, hf⟩ := hrel
    have hO1 := HO.out.frame hf not_false (fun _ _ => not_false)
    obtain ⟨c0, c1, c2, c3, hfz⟩ := hO1.cells
    by_cases hlt : k < s.size
    · have hst := clean_take (most - 1) s.data.toList k (by rw [HSL.out]; exact hlt)
      have hbk : s.data.toList.getD k 0 = s[k] := by
        have : k < s.data.toList.length := by rw [HSL.out]; exact hlt
        simp [List.getD, hlt]; rfl
      rw [hbk] at hst
      have hln := clean_len (most - 1) (s.data.toList.take k)
      generalize clean (most - 1) (s.data.toList.take k) = cl at *
      obtain ⟨va, vc, rfl, -⟩ := own_len hO
      have hlnI : (cl.length : Int) ≤ 1048576 := by omega
      have HST := hid hst; have HOW := hid hO; have HF := hid hf; have HO1 := hid hO1; have HLN := hid hln
      have hbs : w.heap.size ≤ (wr.alloc (.cells #[.int .u8 s[k].toNat] 5)).heap.size := by have := HF.out.size; simp; omega
      have hown := World.ownsRow.alloc hO (.cells #[.int .u8 s[k].toNat] 5)
      have hc1 := cell_new1 wr (.int .u8 s[k].toNat) 5 (0, 0)
      have hn1 : cl.length + 1 ≤ 1099511627776 := by omega
      have HBS := hid hbs; have HOWA := hid hown; have HC1 := hid hc1; have HN1 := hid hn1
      clear hst hO hf hO1 hbk hln hbs hown hc1 hn1
      by_cases hp : pln s[k].toNat = true
      · by_cases hl : cl.length < most - 1
        · have hl' : (cl.length : Int) < (most : Int) - 1 := by omega
          have hcs : cleanStep (most - 1) cl s[k] = cl ++ [s[k]] := by simp [cleanStep, hp, hl]
          have HCS := hid hcs; have HP := hid hp; have HL := hid hl
          clear hcs hp hl
          go_wp2_with fail
          refine (plain_any _ _).mono ?_
          rintro e w2 ⟨rfl, rfl⟩
          rw [HP.out]
          go_wp2_with (at_builtin; go_must (refine wpList_append1 rfl (.tmp 25) (.tmp 29) 22 rfl 5 (.int .u8 0) 1 Tryd.underlying22 Tryd.info_byte rfl _ rfl w.heap.size cl.length (bV cl) HOWA.out wr.heap.size 1 (.int .u8 s[k].toNat) rfl HC1.out rfl HN1.out (by decide) HBS.out ?_))
          intro g cap w3 ho3 hf3 _
          have hF3 : Fr (fun _ => False) w w3 := (HF.out.alloc (.cells #[.int .u8 s[k].toNat] 5)).trans hf3 (fun _ _ h => h) (fun x hx e => by
            have := HOWA.out.lt x e.symm
            omega)
          have hO3 : w3.ownsRow w.heap.size 5 1 (.slice (some ⟨g, 0, none⟩) (cl.length + 1) cap) (clean (most - 1) (s.data.toList.take (k + 1))).length (bV (clean (most - 1) (s.data.toList.take (k + 1)))) := by
            rw [HST.out, HCS.out]
            simpa [bV] using ho3
          have HF3 := hid hF3; have HO3 := hid hO3
          clear ho3 hf3 hF3 hO3
          go_wp2_with fail
          go_roundw
          case rel => exact ⟨k + 1, by omega, by go_num, HO3.out, HF3.out⟩
          case measure => simp [intOf]; omega
        · have hl' : ¬ (cl.length : Int) < (most : Int) - 1 := by omega
          have hcs : cleanStep (most - 1) cl s[k] = cl := by simp [cleanStep, hl]
          rw [hcs] at HST
          have HP := hid hp
          clear hcs hp hl
          go_wp2_with fail
          refine (plain_any _ _).mono ?_
          rintro e w2 ⟨rfl, rfl⟩
          rw [HP.out]
          go_wp2_with fail
          go_roundw
          case rel => exact ⟨k + 1, by omega, by go_num, by rw [HST.out]; exact HOW.out, HF.out⟩
          case measure => simp [intOf]; omega
      · have hp' : pln s[k].toNat = false := by simpa using hp
        have hcs : cleanStep (most - 1) cl s[k] = cl := by simp [cleanStep, hp']
        rw [hcs] at HST
        have HP := hid hp'
        clear hcs hp hp'
        go_wp2_with fail
        refine (plain_any _ _).mono ?_
        rintro e w2 ⟨rfl, rfl⟩
        rw [HP.out]
        go_wp2_with fail
        go_roundw
        case rel => exact ⟨k + 1, by omega, by go_num, by rw [HST.out]; exact HOW.out, HF.out⟩
        case measure => simp [intOf]; omega
    · obtain rfl : k = s.size := by omega
      rw [show s.data.toList.take s.size = s.data.toList by rw [← HSL.out, List.take_length]] at hO
      have hln := clean_len (most - 1) s.data.toList
      generalize hcl : clean (most - 1) s.data.toList = cl at *
      obtain ⟨va, vc, rfl, -⟩ := own_len hO
      have hcv : ∀ w', Bs (fun k => (Value.slice va cl.length vc).ownBlock = some k) w' (.slice va cl.length vc) cl → (convert 22 9 (.slice va cl.length vc)).run Tryd.prog w' = .ok (.string ⟨cl.toArray⟩) w' := fun w' h => conv_bytes h 22 5 9 Tryd.underlying22 Tryd.underlying5 Tryd.underlying9
      have hbs0 : Bs (fun k => (Value.slice va cl.length vc).ownBlock = some k) wr (.slice va cl.length vc) cl := Bs.own hO
      have HCV := hid hcv; have HOW := hid hO; have HF := hid hf; have HO1 := hid hO1; have HLN := hid hln; have HCL := hid hcl; have HBS0 := hid hbs0
      clear hcv hO hf hO1 hln hcl hbs0
      go_upto_region 7 with fail
      refine wp_region_ord [(0, 0), (1, 0), (2, 0), (3, 0), (4, 0), (5, 0), (6, 0), (7, 1), (8, 1), (9, 1), (10, 1), (11, 1)] (fun w' => w'.cell? ⟨B, 3, none⟩ = some lv ∧ Bs (fun k => (Value.slice va cl.length vc).ownBlock = some k) w' (.slice va cl.length vc) cl) (by kernel_rfl) (by kernel_rfl) (by kernel_rfl) rfl (fun _ _ d _ _ h => by cases d <;> exact h) ⟨c3, HBS0.out⟩ ?_
      iterate 6 (refine wpO_take ?_ rfl (by kernel_rfl) ?_ ?_; rotate_left; (· intro w' hS; go_simp; try with_reducible rfl); try simp only [Act.put, List.setIfInBounds_toArray, List.set_cons_zero, List.set_cons_succ])
      (refine wpO_take ?_ rfl (by kernel_rfl) ?_ ?_; rotate_left; (· intro w' hS; have hcv := HCV.out w' hS.2; go_simp; try with_reducible rfl); (try simp only [Act.put, List.setIfInBounds_toArray, List.set_cons_zero, List.set_cons_succ]))
      refine wpO_run rfl (by kernel_rfl) (fun K hK => ?_)
      go_simp
      have hfa := (Fr.refl (fun _ => False) wr.drew).alloc (.cells #[.string ⟨cl.toArray⟩] 9)
      refine hK _ _ (fun _ => ⟨hfa.cell c3 not_false, (hfa.trans' (Fr.refl _ _)) |> fun h => (HBS0.out.frame ((Fr.refl (fun _ => False) wr).drew.trans' h) (fun _ _ => not_false))⟩) ?_
      clear hK K
      try simp only [Act.put, List.setIfInBounds_toArray, List.set_cons_zero, List.set_cons_succ]
      have hO2 := HO1.out.frame (((Fr.refl (fun _ => False) wr).drew).trans' hfa) not_false (fun _ _ => not_false)
      have hw2 := HOW.out
      have hb2 : base ≤ (wr.drew.alloc (.cells #[.string ⟨cl.toArray⟩] 9)).heap.size := by have := HF.out.size; have := HBB.out; simp; omega
      have hn2 : L.length + 1 ≤ 1099511627776 := by have := len_usedB L; have := HU.out; have := HM2.out; omega
      refine wpO_run rfl (by kernel_rfl) (fun K hK => ?_)
      refine wp_append1O (.tmp 36) (.tmp 39) 29 rfl 9 (.string ByteArray.empty) 16 Tryd.underlying29 Tryd.info_str rfl lv rfl base L.length (sV (txt L)) hO2.own wr.drew.heap.size 1 (.string ⟨cl.toArray⟩) rfl (cell_new1 _ _ _ _) rfl hn2 (by decide) hb2 ?_
      intro lv0 w4 ho4 hf4 hbk
      obtain ⟨la, lc, rfl, -⟩ := ho4.shape
      have hB4 := hf4.heap hO2.heap (fun e => hO2.neB B e.symm rfl)
      have hb4 : Bs (fun k => (Value.slice va cl.length vc).ownBlock = some k) w4 (.slice va cl.length vc) cl := (HBS0.out.frame ((Fr.refl (fun _ => False) wr).drew.trans' hfa) (fun _ _ => not_false)).frame hf4 (fun k hk => hO2.own.ne_own (hfa.own (((Fr.refl (fun _ => False) wr).drew).own hw2 (fun _ _ => not_false)) (fun _ _ => not_false)) (by decide) k hk)
      have c34 : w4.cell? ⟨B, 3, none⟩ = some lv := by rw [cell_of_row _ _ _ _ _ _ hB4]; rfl
      have f34 : w4.frozen? ⟨B, 3, none⟩ = false := frozen_of_row _ _ _ _ _ hB4
      refine hK _ _ (fun _ => ⟨c34, hb4⟩) ?_
      clear hK K
      try simp only [Act.put, List.setIfInBounds_toArray, List.set_cons_zero, List.set_cons_succ]
      have hL4 : sV (txt L) ++ [.string ⟨cl.toArray⟩] = sV (txt (L ++ [cl])) := by simp [sV, txt]
      have ho5 : OwnO base 9 w4 (.slice la (L.length + 1) lc) (L ++ [cl]).length (sV (txt (L ++ [cl]))) := by
        rw [← hL4, List.length_append]
        exact ho4
      have hO5 := OutAt.setL hB4 hO2.le ho5
      have hF5 : Fr (OutS B lv) w (w4.setCell ⟨B, 3, none⟩ (.slice la (L.length + 1) lc)) := (((HF.out.drew.trans' hfa).trans hf4 (U := OutS B lv) (fun _ _ h => h.elim) (fun _ _ h => .inr h))).setCell (p := ⟨B, 3, none⟩) (.inl (.inl rfl)) (.slice la (L.length + 1) lc)
      have hbk5 : ∀ k, (Value.slice la (L.length + 1) lc).ownBlock = some k → lv.ownBlock = some k ∨ w.heap.size ≤ k := fun k hk => by
        rcases hbk with h | ⟨q, h, hq⟩
        · exact .inl (h ▸ hk)
        · rw [hk] at h
          have hs1 := HF.out.size
          simp only [Option.some.injEq] at h
          simp at hq
          right; omega
      have HO5 := hid hO5; have HF5 := hid hF5; have HBK := hid hbk5
      clear ho4 hf4 hbk hB4 hb4 hO5 hF5 hbk5 ho5 hL4 hO2 hw2 hfa hb2 hn2 HBS0 HOW HO1 HCV
      refine wpO_run rfl (by kernel_rfl) (fun K hK => ?_)
      go_simp
      refine hK _ _ (last_skip (by kernel_rfl)) ?_
      clear hK K
      try simp only [Act.put, List.setIfInBounds_toArray, List.set_cons_zero, List.set_cons_succ]
      refine wpO_run rfl (by kernel_rfl) (fun K hK => ?_)
      go_simp
      refine hK _ _ (last_skip (by kernel_rfl)) ?_
      clear hK K
      try simp only [Act.put, List.setIfInBounds_toArray, List.set_cons_zero, List.set_cons_succ]
      refine wpO_run rfl (by kernel_rfl) (fun K hK => ?_)
      go_simp
      refine hK _ _ (last_skip (by kernel_rfl)) ?_
      clear hK K
      try simp only [Act.put, List.setIfInBounds_toArray, List.set_cons_zero, List.set_cons_succ]
      refine wpO_end ?_
      generalize w4.setCell ⟨B, 3, none⟩ (.slice la (L.length + 1) lc) = w5 at *
      clear c34 f34 c0 c1 c2 c3 hfz
      obtain ⟨d0, d1, d2, d3, dz⟩ := HO5.out.cells
      have hub : (usedB L : Int) ≤ 1048576 := by have := HU.out; have := HM2.out; omega
      have hcb : (cl.length : Int) ≤ 1048576 := by have := HLN.out; have := HM2.out; omega
      have hO6 := HO5.out.setUsed ((usedB L : Int) + ((cl.length : Int) + 1))
      have hF6 := HF5.out.setCell (p := ⟨B, 1, none⟩) (.inl (.inl rfl)) (.int .i64 ((usedB L : Int) + ((cl.length : Int) + 1)))
      have hus : (usedB L : Int) + ((cl.length : Int) + 1) = (usedB (L ++ [cl]) : Nat) := by rw [usedB_snoc]; omega
      have HO6 := hid hO6; have HF6 := hid hF6; have HUS := hid hus
      clear hO6 hF6 hus
      go_wp2_with fail
      generalize w5.setCell ⟨B, 1, none⟩ (.int .i64 ((usedB L : Int) + ((cl.length : Int) + 1))) = w6 at *
      have hub6 : usedB (L ++ [cl]) ≤ 2097152 := by have h1 := HU.out; have h2 := HM2.out; have h3 := HLN.out; rw [usedB_snoc]; omega
      have hO7 : OutAt base w6 B most (usedB (L ++ [cl]) : Nat) lost (.slice la (L.length + 1) lc) (L ++ [cl]) := by rw [← HUS.out]; exact HO6.out
      have HO7 := hid hO7; have HUB6 := hid hub6
      clear hO7 hub6 HO5 HF5 HO6 d0 d1 d2 d3 dz
      generalize hM : L ++ [cl] = M at *
      have HM := hid hM
      clear hM
      go_loopw [] (fun wr => ∃ (j : Nat) (a : Option Addr) (c : Nat), j ≤ M.length ∧ Hid (OutAt base wr B most (usedB (M.drop j) : Nat) (lost + j : Nat) (.slice a (M.length - j) c) (M.drop j)) ∧ Hid (dropTo most (M.drop j) (lost + j) = dropTo most M lost) ∧ Hid (Fr (OutS B lv) w wr) ∧ Hid (∀ k, (Value.slice a (M.length - j) c).ownBlock = some k → lv.ownBlock = some k ∨ w.heap.size ≤ k)) (fun wr => match wr.cell? ⟨B, 1, none⟩ with | some v => (intOf v).toNat | none => 0)
      case atStart => exact ⟨0, la, lc, Nat.zero_le _, hid (by rw [List.drop_zero, Nat.sub_zero, ← HM.out, List.length_append]; rw [← HM.out] at HO7; exact HO7.out), hid (by rw [List.drop_zero]; rfl), hid HF6.out, hid (by rw [Nat.sub_zero, ← HM.out, List.length_append]; exact HBK.out)⟩
      case round =>
        obtain ⟨j, a, c, hj, HA, HD, HFw, HBw⟩ := hrel
        obtain ⟨d0, d1, d2, d3, dz⟩ := HA.out.cells
        have hmj := HA.out.own.1
        have hub7 : (usedB (M.drop j) : Int) ≤ 2097152 := by have := usedB_drop M j; have := HUB6.out; omega
        have hlj : (lost : Int) + j ≤ 4000000 := by have := HLO.out; have := len_usedB M; have := HUB6.out; omega
        by_cases hgt : most < usedB (M.drop j)
        · obtain ⟨x, r, hdr⟩ : ∃ x r, M.drop j = x :: r := by
            cases h : M.drop j with
            | nil => rw [h] at hgt; simp [usedB] at hgt
            | cons x r => exact ⟨x, r, rfl⟩
          have hjl : j < M.length := by
            rcases Nat.lt_or_ge j M.length with h | h
            · exact h
            · rw [List.drop_of_length_le h] at hdr; cases hdr
          have hdr1 : M.drop (j + 1) = r := by rw [← List.drop_drop, hdr]; rfl
          have hgtI : (most : Int) < (usedB (M.drop j) : Nat) := by omega
          have hA := HA.out
          obtain ⟨ax, cx, ecx, hlx, hmx, hnx, hcx⟩ := hA.own.shape
          simp only [Value.slice.injEq] at ecx
          obtain ⟨rfl, hlen, rfl⟩ := ecx
          obtain ⟨b1, o1, rfl, hc1⟩ := hcx 0 (by omega)
          have hx0 : (sV (txt (M.drop j)))[0]? = some (.string ⟨x.toArray⟩) := by rw [hdr]; rfl
          rw [hx0, Nat.add_zero] at hc1
          have hxs : (x.length : Int) ≤ 2097152 := by rw [hdr, usedB_cons] at hub7; omega
          have hue : (usedB (M.drop j) : Int) - ((x.length : Int) + 1) = (usedB r : Nat) := by rw [hdr, usedB_cons]; omega
          have hur : (usedB r : Int) ≤ 2097152 := by rw [hdr, usedB_cons] at hub7; omega
          have hdt : dropTo most (M.drop j) (lost + j) = dropTo most r (lost + (j + 1)) := by rw [hdr, dropTo, ← hdr, if_pos hgt]; rfl
          have hlt2 : usedB r < usedB (M.drop j) := by rw [hdr, usedB_cons]; omega
          generalize usedB (M.drop j) = U at *
          have hxsz : (ByteArray.mk x.toArray).size = x.length := by simp [ByteArray.size]
          have HDR := hid hdr; have HDR1 := hid hdr1; have HMJ := hid hmj; have HUE := hid hue; have HDT := hid hdt; have HLT2 := hid hlt2; have HLEN := hid hlen
          clear hdr hdr1 hmj hdt hlt2 hx0 hlx hmx hnx hcx hlen hue
          go_wp2_with fail
          go_quiet (fail)
          have hpos0 : 0 < M.length - j := by omega
          have hposI : (0 : Int) < ((M.length - j : Nat) : Int) := by omega
          have hi1 : IntKind.i64.wrap ((x.length : Int) + 1) = (x.length : Int) + 1 := IntWalk.i64_in _ (by omega)
          have hi2 : IntKind.i64.wrap ((U : Int) - ((x.length : Int) + 1)) = (usedB r : Nat) := by rw [HUE.out]; exact IntWalk.i64_in _ (by omega)
          go_upto_region 10 with fail
          refine wp_region_ord [(0, 0), (1, 0), (2, 0), (3, 0), (4, 0), (5, 0), (6, 0), (7, 0), (8, 0), (9, 0), (10, 0), (11, 0), (12, 0), (13, 1), (14, 1), (15, 1)] (fun w' => w'.cell? ⟨B, 1, none⟩ = some (.int .i64 U) ∧ w'.cell? ⟨B, 3, none⟩ = some (.slice (some ⟨b1, o1, none⟩) (M.length - j) c) ∧ w'.cell? ⟨b1, o1, none⟩ = some (.string ⟨x.toArray⟩) ∧ w'.frozen? ⟨B, 1, none⟩ = false) (by kernel_rfl) (by kernel_rfl) (by kernel_rfl) rfl (fun _ _ d _ _ h => by cases d <;> exact h) ⟨d1, d3, hc1, dz 1⟩ ?_
          iterate 13 (refine wpO_take ?_ rfl (by kernel_rfl) ?_ ?_; rotate_left; (· intro w' hS; go_simp; try with_reducible rfl); try simp only [Act.put, List.setIfInBounds_toArray, List.set_cons_zero, List.set_cons_succ])
          refine wpO_run rfl (by kernel_rfl) (fun K hK => ?_)
          go_simp
          refine hK _ _ (last_skip (by kernel_rfl)) ?_
          clear hK K
          try simp only [Act.put, List.setIfInBounds_toArray, List.set_cons_zero, List.set_cons_succ]
          refine wpO_run rfl (by kernel_rfl) (fun K hK => ?_)
          go_simp
          refine hK _ _ (last_skip (by kernel_rfl)) ?_
          clear hK K
          try simp only [Act.put, List.setIfInBounds_toArray, List.set_cons_zero, List.set_cons_succ]
          refine wpO_run rfl (by kernel_rfl) (fun K hK => ?_)
          go_simp
          refine hK _ _ (last_skip (by kernel_rfl)) ?_
          clear hK K
          try simp only [Act.put, List.setIfInBounds_toArray, List.set_cons_zero, List.set_cons_succ]
          refine wpO_end ?_
          clear hi1 hi2
          have hF8 := ((Fr.refl (fun k => k = B) wr).drewN (nq + 1)).setCell (p := ⟨B, 1, none⟩) (.inl rfl) (.int .i64 (usedB r : Nat))
          have hO8 := OutAt.setUsed (hA.frame ((Fr.refl (fun _ => False) wr).drewN (nq + 1)) not_false (fun _ _ => not_false)) (usedB r : Nat)
          have hF9 := hF8.setCell (p := ⟨B, 3, none⟩) (.inl rfl) (.slice (if c = 1 then some ⟨b1, o1, none⟩ else some ⟨b1, o1 + 1, none⟩) (M.length - j - 1) (c - 1))
          have hT : OwnO base 9 ((wr.drewN (nq + 1)).setCell ⟨B, 1, none⟩ (.int .i64 (usedB r : Nat))) (.slice (if c = 1 then some ⟨b1, o1, none⟩ else some ⟨b1, o1 + 1, none⟩) (M.length - j - 1) (c - 1)) (M.drop (j + 1)).length (sV (txt (M.drop (j + 1)))) := by
            have h1 := hO8.own
            rw [HDR.out, show M.length - j = r.length + 1 by have := HLEN.out; rw [HDR.out] at this; simpa using this] at h1
            have h2 := OwnO.tail (x := .string ⟨x.toArray⟩) (xs := sV (txt r)) (n := r.length) (a' := if c = 1 then some ⟨b1, o1, none⟩ else some ⟨b1, o1 + 1, none⟩) h1 (by split <;> rfl)
            rw [HDR1.out, show M.length - j - 1 = r.length by have := HLEN.out; rw [HDR.out] at this; simp at this; omega]
            exact h2
          have hO9 := OutAt.setL hO8.heap hO8.le hT
          have HF9 := hid hF9; have HO9 := hid hO9
          have hcb : 1 ≤ c := by
            have := hA.own.shape
            obtain ⟨_, _, e, h1, _⟩ := this
            simp only [Value.slice.injEq] at e
            omega
          have HHA := hid hA
          have e3 := hO8.cells
          have HT := hid hT
          clear hF8 hO8 hT hF9 hO9 hA d0 d1 d2 d3 dz hc1
          obtain ⟨d0, d1, d2, d3, dz⟩ := e3
          go_upto_region 11 with fail
          generalize (wr.drewN (nq + 1)).setCell ⟨B, 1, none⟩ (.int .i64 (usedB r : Nat)) = W8 at *
          go_wp2_with fail
          have hO10 := OutAt.setLost HO9.out ((lost : Int) + j + 1)
          have hF10 := HF9.out.setCell (p := ⟨B, 2, none⟩) (.inl rfl) (.int .i64 ((lost : Int) + j + 1))
          have hown2 : ∀ k, (Value.slice (if c = 1 then some ⟨b1, o1, none⟩ else some ⟨b1, o1 + 1, none⟩) (M.length - j - 1) (c - 1)).ownBlock = some k → (Value.slice (some ⟨b1, o1, none⟩) (M.length - j) c).ownBlock = some k := fun k hk => by
            by_cases h : c = 1
            · rw [if_pos h] at hk; exact hk
            · rw [if_neg h] at hk; exact hk
          have hB1 := OutAt.cells hO10
          have hB2 := HHA.out.cells
          generalize (W8.setCell ⟨B, 3, none⟩ (.slice (if c = 1 then some ⟨b1, o1, none⟩ else some ⟨b1, o1 + 1, none⟩) (M.length - j - 1) (c - 1))).setCell ⟨B, 2, none⟩ (.int .i64 ((lost : Int) + j + 1)) = W10 at *
          have hdl : (M.drop (j + 1)) = r := HDR1.out
          refine ⟨⟨j + 1, if c = 1 then some ⟨b1, o1, none⟩ else some ⟨b1, o1 + 1, none⟩, c - 1, by omega, hid ?_, hid ?_, hid ?_, hid ?_⟩, ?_⟩
          · rw [show M.length - (j + 1) = M.length - j - 1 by omega, show (((lost + (j + 1) : Nat)) : Int) = (lost : Int) + j + 1 by omega, hdl]
            rw [hdl] at hO10
            exact hO10
          · rw [hdl, ← HDT.out]; exact HD.out
          · exact HFw.out.trans hF10 (fun _ _ h => h) (fun k _ h => .inl h)
          · intro k hk
            rw [show M.length - (j + 1) = M.length - j - 1 by omega] at hk
            exact HBw.out k (hown2 k hk)
          · rw [hB1.2.1, hB2.2.1]
            have := HLT2.out
            simp [intOf]
            omega
        · have hle : ¬ (most : Int) < (usedB (M.drop j) : Nat) := by omega
          have hdt : dropTo most (M.drop j) (lost + j) = (M.drop j, lost + j) := by
            cases hdr : M.drop j with
            | nil => rfl
            | cons x r => rw [dropTo, ← hdr, if_neg hgt]
          have hfin : dropTo most M lost = (M.drop j, lost + j) := by rw [← HD.out, hdt]
          have HFIN := hid hfin
          clear hmj hdt hfin
          go_wp2_with fail
          go_quiet (fail)
          go_wp2_with fail
          go_end0
          refine ⟨rfl, _, ?_, HFw.out.drewN _, HBw.out⟩
          rw [HCL.out, HM.out, HFIN.out]
          exact HA.out.frame ((Fr.refl (fun _ => False) wr).drewN _) not_false (fun _ _ => not_false)
end Go.Proofs.YtlfiljebfnejbaaDoor
