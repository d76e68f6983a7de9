/- Package seq: Sort, Turn, Without. -/
import Derived.Test.YtebanmigaikhhaaSortF
import Derived.Test.YtebanmigaikhhaaSeqFind
namespace Go.Proofs.Ytebanmigaikhhaa
open Go.RowKit Go.Sort

def ListPost (w : World) (l : List V) (e : Ending) (w' : World) : Prop := ∃ v', e = .returned v' ∧ Fr (fun _ => False) w w' ∧ VL T w' l v'
theorem perm_all {d e : Array PV} (h : PermIn 0 d.size d e) : e.toList.Perm d.toList := by
  have h1 := h.2.2
  rw [Array.extract_size] at h1
  rw [← h.1, Array.extract_size] at h1
  exact h1
theorem sorted_pw {d : Array PV} (h : SortedIn ltP 0 d.size d) : (d.toList.map (·.1)).Pairwise (fun x y => ltV y x = false) := by
  rw [List.pairwise_map, List.pairwise_iff_getElem]
  intro i j hi hj hij
  have h1 := h i j (Nat.zero_le _) hij (by simpa using hj)
  have hi' : i < d.size := by simpa using hi
  have hj' : j < d.size := by simpa using hj
  rw [getElem!_pos d i hi', getElem!_pos d j hj'] at h1
  exact h1
theorem sorted_same {l m : List V} (hp : l.Perm m) (hl : l.Pairwise (fun x y => ltV y x = false)) (hm : m.Pairwise (fun x y => ltV y x = false)) : l = m :=
  List.Perm.eq_of_pairwise (fun a b _ _ h1 h2 => ltV_eq h2 h1) hl hm hp

set_option maxRecDepth 100000 in
set_option maxHeartbeats 3200000 in
theorem sort_any (l : List V) (hk : krL l) (h40 : l.length ≤ 40) (hl : sizeL l ≤ 1073741824) (v : Value) (w : World) (h : VL T w l v) :
    Calls Try.prog 38 #[v] w fun e w' => ∃ l', ListPost w l' e w' ∧ l.Perm l' ∧ l'.Pairwise (fun x y => ltV y x = false) := by
  have hfl := run_fieldL
  have HC := hid (vL_own l (by omega) T w v h); have HK := hid hk; have H40 := hid h40
  obtain ⟨a, c, us, rfl, -⟩ := id h
  clear h hk hl h40
  go_enter Try.func38, Try.ntmps38
  go_wp2_with fail
  refine HC.out.mono ?_
  rintro e w2 ⟨v2, rfl, hf2, ho2⟩
  have HF2 := hid hf2
  rcases own_st ho2 HK.out with ⟨rfl, rfl⟩ | ⟨g, c2, d, rfl, hb, hg, hst, hd⟩
  · have HS := hid (fun w3 => stablef0 none 0 (.func (.func 56) #[] #[]) w3)
    clear hf2 ho2
    go_wp2_with fail
    refine (HS.out _).mono ?_
    rintro e w3 ⟨rfl, hf3⟩
    have HF3 := hid (HF2.out.trans' hf3)
    clear hf3
    go_wp2_with fail
    go_ret
    exact ⟨[], ⟨_, rfl, HF3.out, VL.nil _ _⟩, List.Perm.refl _, List.Pairwise.nil⟩
  · have HS := hid (stablef_any w2 w2 _ g l.length c2 d hg hst H40.out)
    have HB := hid hb; have HD := hid hd; have HZ := hid hst.sz
    clear hf2 ho2 hst hd hb hg
    go_wp2_with fail
    refine HS.out.mono ?_
    rintro e w3 ⟨rfl, d3, hs3, hp3, hso3⟩
    have HS3 := hid hs3; have HP3 := hid hp3; have HO3 := hid hso3
    clear hs3 hp3 hso3
    go_wp2_with fail
    go_ret
    refine ⟨d3.toList.map (·.1), ⟨_, rfl, HF2.out.trans HS3.out.fr (fun _ _ => id) (fun q hq e => by have := HB.out; omega), HS3.out.vl⟩, ?_, ?_⟩
    · have h1 := HP3.out
      rw [← HZ.out] at h1
      have h2 := (perm_all h1).map (fun p : PV => p.1)
      rw [HD.out] at h2
      exact h2.symm
    · refine sorted_pw ?_
      rw [HS3.out.sz]
      exact HO3.out

set_option maxRecDepth 100000 in
set_option maxHeartbeats 3200000 in
theorem turn_any (l : List V) (hk : krL l) (hl : sizeL l ≤ 1073741824) (v : Value) (w : World) (h : VL T w l v) :
    Calls Try.prog 40 #[v] w (ListPost w l.reverse) := by
  have hll := len_le_sizeL l
  have hfl := run_fieldL
  have HC := hid (vL_own l (by omega) T w v h); have HK := hid hk; have HL := hid hll; have HSL := hid hl
  obtain ⟨a, c, us, rfl, -⟩ := id h
  unfold ListPost
  clear h hk hl hll
  go_enter Try.func40, Try.ntmps40
  go_wp2_with fail
  refine HC.out.mono ?_
  rintro e w2 ⟨v2, rfl, hf2, ho2⟩
  have HF2 := hid hf2
  rcases own_st ho2 HK.out with ⟨rfl, rfl⟩ | ⟨g, c2, d, rfl, hb, hg, hst, hd⟩
  · have HS := hid (fun w3 => reverse0 none 0 w3)
    clear hf2 ho2
    go_wp2_with fail
    refine (HS.out _).mono ?_
    rintro e w3 ⟨rfl, hf3⟩
    have HF3 := hid (HF2.out.trans' hf3)
    clear hf3
    go_wp2_with fail
    go_ret
    exact ⟨_, rfl, HF3.out, VL.nil _ _⟩
  · have HS := hid (reverse_any w2 w2 _ g l.length c2 d hg hst (by have := HL.out; have := HSL.out; omega))
    have HB := hid hb; have HD := hid hd; have HZ := hid hst.sz
    clear hf2 ho2 hst hd hb hg
    go_wp2_with fail
    refine HS.out.mono ?_
    rintro e w3 ⟨rfl, d3, hs3, hp3⟩
    have HS3 := hid hs3; have HP3 := hid hp3
    clear hs3 hp3
    go_wp2_with fail
    go_ret
    have he : l.reverse = d3.toList.map (·.1) := by
      have hz3 := HS3.out.sz
      have hz := HZ.out
      have hd := HD.out
      apply List.ext_getElem
      · simp [hz3]
      · intro i h1 h2
        have hi : i < l.length := by simpa using h1
        have h3 := HP3.out i hi
        rw [getElem!_pos d3 i (by omega), getElem!_pos d (l.length - 1 - i) (by omega)] at h3
        have h4 : (d.toList.map (·.1))[l.length - 1 - i]'(by simp; omega) = l[l.length - 1 - i]'(by omega) := by
          congr 1
        rw [List.getElem_reverse, ← h4]
        simp [h3]
    exact ⟨_, rfl, HF2.out.trans HS3.out.fr (fun _ _ => id) (fun q hq e => by have := HB.out; omega), by rw [he]; exact HS3.out.vl⟩

/-- The list without the first x. -/
noncomputable def pWithout (l : List V) (x : V) : List V := if fidx x l 0 = -1 then l else l.take (fidx x l 0).toNat ++ l.drop ((fidx x l 0).toNat + 1)
set_option maxRecDepth 100000 in
set_option maxHeartbeats 3200000 in
theorem without_any (l : List V) (x : V) (v : Value) (u : Array Value) (w : World) (h : VL T w l v) (hx : VIn T w x u) (hl : sizeL l ≤ 1073741824) : Calls Try.prog 37 #[v, .agg u] w (ListPost w (pWithout l x)) := by
  have hll := len_le_sizeL l
  obtain ⟨v9, rfl, a9, c9, us9, rfl, -⟩ := hx.open
  have hf := (Fr.refl (fun _ => False) w).alloc (.cells #[.int .i64 x.k, .int .i64 x.n, .string x.s, .slice a9 x.l.length c9] 30)
  have hcl := find_any l x v _ _ (h.fr hf) (hx.fr hf) (by omega)
  have hg := fidx_ge x l 0
  have hI : (l.length : Int) ≤ 1073741824 := by omega
  obtain ⟨a, c, us, rfl, hlc, hcm, -⟩ := id h
  have HF := hid hf; have HV := hid h; have HL := hid hl
  have hfl := run_fieldL
  unfold ListPost
  by_cases h0 : fidx x l 0 = -1
  · have HP := hid (show pWithout l x = l by unfold pWithout; rw [if_pos h0])
    rw [h0] at hcl
    have HC := hid hcl
    clear h hx hl hll hf hcl hg h0 hlc hcm
    go_enter Try.func37, Try.ntmps37
    go_wp2_with fail
    refine HC.out.mono ?_
    rintro e w2 ⟨rfl, hf2⟩
    have HF2 := hid (HF.out.trans' hf2)
    clear hf2
    go_wp2_with fail
    refine (vL_own l (by have := HL.out; omega) T _ _ (HV.out.fr HF2.out)).mono ?_
    rintro e w3 ⟨v', rfl, hf3, ho3⟩
    have HF3 := hid (HF2.out.trans' hf3); have HO3 := hid ho3
    clear hf3 ho3
    go_wp2_with fail
    go_ret
    exact ⟨_, rfl, HF3.out, by rw [HP.out]; exact HO3.out.close.t⟩
  · obtain ⟨k, hk⟩ : ∃ k : Nat, fidx x l 0 = k := ⟨(fidx x l 0).toNat, by have := hg.2.2 h0; omega⟩
    have hp : pWithout l x = l.take k ++ l.drop (k + 1) := by unfold pWithout; rw [if_neg h0, hk]; rfl
    have hkl : k < l.length := by omega
    rw [hk] at hcl
    have hs : sizeL (l.take k ++ l.drop (k + 1)) ≤ 1099511627776 := by
      have h1 := sizeL_drop l k
      have h2 := sizeL_drop l (k + 1)
      rw [sizeL_app]
      omega
    have HP := hid hp; have HS := hid hs; have HC := hid hcl
    have hk1 : k ≤ l.length := by omega
    have hk2 : k + 1 ≤ l.length := by omega
    have hk3 : k + 1 ≤ c := by omega
    have hk4 : k ≤ c := by omega
    have hk5 : ¬ (k : Int) + 1 < 0 := by omega
    have hk6 : ((k : Int) + 1).toNat = k + 1 := by omega
    have hk7 : (k : Int) + 1 ≤ l.length := by omega
    have hk8 : ((k : Int) + 1 == 0) = false := by rw [beq_eq_false_iff_ne]; omega
    clear hp hs h hx hl hll hf hcl hg h0 hk
    go_enter Try.func37, Try.ntmps37
    go_wp2_with fail
    refine HC.out.mono ?_
    rintro e w1 ⟨rfl, hf1⟩
    have HF1 := hid (HF.out.trans' hf1)
    clear hf1
    go_upto_region 4 with fail
    refine wp_region_ord [(0, 0), (1, 0), (2, 0), (3, 0), (4, 0), (5, 0), (6, 0), (7, 1), (8, 1), (9, 1), (10, 0), (11, 0)] (fun _ => True) (by kernel_rfl) (by kernel_rfl) (by kernel_rfl) rfl (fun _ _ d _ _ h => by cases d <;> exact h) trivial ?_
    have hw : IntKind.i64.wrap (k : Int) = k := IntWalk.i64_in _ (by omega)
    iterate 7 (refine wpO_take ?_ rfl (by kernel_rfl) ?_ ?_; rotate_left; (· intro w' hS; go_simp; try with_reducible rfl); try simp only [Act.put, List.setIfInBounds_toArray, List.set_cons_zero, List.set_cons_succ])
    (refine wpO_run rfl (by kernel_rfl) (fun K hK => ?_); go_simp; refine hK _ _ (fun _ => trivial) ?_; clear hK K; try simp only [Act.put, List.setIfInBounds_toArray, List.set_cons_zero, List.set_cons_succ])
    have hf2 : Fr (fun _ => False) w1 (w1.alloc (.cells #[.slice a k c, .slice (if c = k + 1 then a else Option.map (fun x => x.add ((k + 1) * 4)) a) (l.length - (k + 1)) (c - (k + 1))] 22)).drew := ((Fr.refl (fun _ => False) w1).alloc _).drew
    have hrb : (w1.alloc (.cells #[.slice a k c, .slice (if c = k + 1 then a else Option.map (fun x => x.add ((k + 1) * 4)) a) (l.length - (k + 1)) (c - (k + 1))] 22)).drew.heap[w1.heap.size]? = some (.cells #[.slice a k c, .slice (if c = k + 1 then a else Option.map (fun x => x.add ((k + 1) * 4)) a) (l.length - (k + 1)) (c - (k + 1))] 22) := heap_alloc_new w1 _
    have hsz : w1.heap.size < (w1.alloc (.cells #[.slice a k c, .slice (if c = k + 1 then a else Option.map (fun x => x.add ((k + 1) * 4)) a) (l.length - (k + 1)) (c - (k + 1))] 22)).drew.heap.size := heap_lt hrb
    generalize (w1.alloc (.cells #[.slice a k c, .slice (if c = k + 1 then a else Option.map (fun x => x.add ((k + 1) * 4)) a) (l.length - (k + 1)) (c - (k + 1))] 22)).drew = W2 at *
    have hV2 := (HV.out.fr HF1.out).lt.frame hf2 fun _ _ => not_false
    obtain ⟨L, hL⟩ : ∃ L, l.take k ++ l.drop (k + 1) = L := ⟨_, rfl⟩
    rw [hL] at HS HP
    have hcl := concat2 (l.take k) (l.drop (k + 1)) _ _ w1.heap.size (fun q => q < w1.heap.size) W2 _ hrb (hV2.upto k hk1) (hV2.rest (k + 1) hk2) (fun q hq => by omega) (by simp; omega) L hL
    have HF2 := hid (HF1.out.trans' hf2)
    have HCL := hid hcl
    clear hL hcl hf2 hrb hsz hV2
    refine wpO_run rfl (by kernel_rfl) (fun K hK => ?_); go_simp
    refine HCL.out.mono ?_
    rintro e w3 ⟨v3, us3, rfl, ho3, hc3, hf3⟩
    have hv3 := hc3.own ho3
    obtain ⟨a3, c3, us4, rfl, -⟩ := id hv3
    refine hK _ _ (fun _ => trivial) ?_
    clear hK K
    try simp only [Act.put, List.setIfInBounds_toArray, List.set_cons_zero, List.set_cons_succ]
    have HF3 := hid (HF2.out.trans' hf3); have HV3 := hid hv3
    clear ho3 hc3 hf3 hv3
    refine wpO_run rfl (by kernel_rfl) (fun K hK => ?_); go_simp
    refine (vL_own _ HS.out _ w3 _ HV3.out).mono ?_
    rintro e w4 ⟨v4, rfl, hf4, ho4⟩
    refine hK _ _ (fun _ => trivial) ?_
    clear hK K
    try simp only [Act.put, List.setIfInBounds_toArray, List.set_cons_zero, List.set_cons_succ]
    have HF4 := hid (HF3.out.trans' hf4); have HO4 := hid ho4
    clear hf4 ho4
    iterate 2 (refine wpO_take ?_ rfl (by kernel_rfl) ?_ ?_; rotate_left; (· intro w' hS; go_simp; try with_reducible rfl); try simp only [Act.put, List.setIfInBounds_toArray, List.set_cons_zero, List.set_cons_succ])
    refine wpO_end ?_
    go_wp2_with fail
    all_goals
      go_ret
      exact ⟨_, rfl, HF4.out, by rw [HP.out]; exact HO4.out.close.t⟩
end Go.Proofs.Ytebanmigaikhhaa
