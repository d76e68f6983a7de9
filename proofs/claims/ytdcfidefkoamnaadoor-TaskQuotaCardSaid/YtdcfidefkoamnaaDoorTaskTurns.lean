/- The statement TaskTurns, walked. -/
import Derived.Test.YtdcfidefkoamnaaDoorTaskH
import Derived.IntWalk
namespace Go.Proofs.YtdcfidefkoamnaaDoor
open Go.RowKit Go.Sort

theorem and_mask (x : Int) (m : Nat) (hm : m < 4611686018427387904) : 0 ≤ bits .and .i64 x m ∧ bits .and .i64 x m ≤ m := by
  have h : (BitVec.ofInt 64 x &&& BitVec.ofInt 64 (m : Int)).toNat ≤ m := by
    rw [BitVec.toNat_and, BitVec.ofInt_natCast, BitVec.toNat_ofNat, Nat.mod_eq_of_lt (by omega)]
    exact Nat.and_le_right
  have e : bits .and .i64 x m = IntKind.i64.wrap ((BitVec.ofInt 64 x &&& BitVec.ofInt 64 (m : Int)).toNat : Int) := rfl
  rw [e, IntWalk.i64_in _ (by omega)]
  omega
theorem QAt.step2 {Bo : Nat} {w wr w7 : World} {lv : Value} {L : List Itm} {nx : Int} (h : QAt Bo wr Bo lv L nx) (hB : w.heap.size ≤ Bo) (hf : Fr (fun _ => False) w wr) (hg : Fr (QS Bo lv) wr w7) : Fr (fun _ => False) w w7 :=
  hf.trans hg (fun _ _ h => h) (fun q hq e => by have := (h.lt q e).1; omega)
theorem uniq_eq {L : List Itm} (hU : Uniq L) {x y : Itm} (hx : x ∈ L) (hy : y ∈ L) (h : x.id = y.id) : x = y := by
  obtain ⟨i, hi, rfl⟩ := List.getElem_of_mem hx
  obtain ⟨j, hj, rfl⟩ := List.getElem_of_mem hy
  rcases Nat.lt_trichotomy i j with h1 | h1 | h1
  · exact absurd h ((List.pairwise_iff_getElem.1 hU) i j hi hj h1)
  · subst h1; rfl
  · exact absurd h.symm ((List.pairwise_iff_getElem.1 hU) j i hj hi h1)
/-- Where one stands. -/
theorem place_of {L : List Itm} (hU : Uniq L) {x : Itm} (hx : x ∈ L) : ∃ k : Nat, fidx x.id L 0 = k ∧ L[k]? = some x := by
  rcases fidx_cases x.id L with ⟨-, h⟩ | ⟨j, y, h1, h2, h3⟩
  · exact absurd rfl (h x hx)
  · exact ⟨j, h1, by rw [h2, uniq_eq hU (List.mem_of_getElem? h2) hx h3]⟩
/-- How many do not wait for ever. -/
def cntI (L : List Itm) : Nat := (L.filter fun x => x.wk != -1).length
theorem cntI_le (L : List Itm) : cntI L ≤ L.length := List.length_filter_le _ _
theorem cntI_snoc (L : List Itm) (x : Itm) : cntI (L ++ [x]) = cntI L + if x.wk = -1 then 0 else 1 := by
  unfold cntI
  rw [List.filter_append, List.length_append]
  by_cases h : x.wk = -1 <;> simp [h]
theorem cntI_erase (L : List Itm) (k : Nat) (x : Itm) (hx : L[k]? = some x) (hw : x.wk ≠ -1) : cntI (L.eraseIdx k) + 1 = cntI L := by
  induction L generalizing k with
  | nil => simp at hx
  | cons y r ih =>
    cases k with
    | zero =>
      simp at hx
      subst hx
      simp [cntI, hw]
    | succ k =>
      have := ih k (by simpa using hx)
      unfold cntI at this ⊢
      rw [List.eraseIdx_cons_succ]
      by_cases h : (y.wk != -1) = true
      · simp only [List.filter_cons, h, if_true, List.length_cons]; omega
      · simp only [List.filter_cons, h]; exact this
theorem cntI_zero (L : List Itm) (h : ∀ x ∈ L, x.wk = -1) : cntI L = 0 := by
  unfold cntI
  rw [List.length_eq_zero_iff, List.filter_eq_nil_iff]
  intro x hx
  simp [h x hx]
theorem first_exists (L : List Itm) (h : L ≠ []) : ∃ x, First L x := by
  induction L with
  | nil => exact absurd rfl h
  | cons y r ih =>
    by_cases hr : r = []
    · subst hr
      exact ⟨y, by simp [First, Ahd]⟩
    · obtain ⟨x, hx, hm⟩ := ih hr
      by_cases hyx : Ahd y x
      · refine ⟨y, List.mem_cons_self .., fun z hz => ?_⟩
        rcases List.mem_cons.1 hz with rfl | hz
        · simp [Ahd]
        · have h1 := hm z hz
          unfold Ahd at h1 hyx ⊢
          omega
      · exact ⟨x, List.mem_cons_of_mem _ hx, fun z hz => by
          rcases List.mem_cons.1 hz with rfl | hz
          · exact hyx
          · exact hm z hz⟩
/-- Something is due, or nothing is. -/
theorem due_cases (L : List Itm) (t : Int) : (∃ x, First L x ∧ x.wk ≠ -1 ∧ x.wk ≤ t) ∨ ((∀ x, First L x → x.wk = -1 ∨ t < x.wk) ∧ ∀ x ∈ L, x.wk = -1 ∨ t < x.wk) := by
  by_cases h : ∃ x, First L x ∧ x.wk ≠ -1 ∧ x.wk ≤ t
  · exact .inl h
  · right
    have h1 : ∀ x, First L x → x.wk = -1 ∨ t < x.wk := fun x hx => by
      by_cases h2 : x.wk = -1
      · exact .inl h2
      · exact .inr (Int.lt_of_not_ge fun h3 => h ⟨x, hx, h2, h3⟩)
    refine ⟨h1, fun y hy => ?_⟩
    obtain ⟨x, hx⟩ := first_exists L (fun e => by rw [e] at hy; cases hy)
    have h2 := h1 x hx
    have h3 := hx.2 y hy
    unfold Ahd at h3
    omega
/-- What holds as the tasks are laid. -/
def PT (L : List Itm) (k : Nat) : Prop := L.length = k ∧ (∀ x ∈ L, x.id ≤ k ∧ x.wk ≤ 254) ∧ Uniq L ∧ ∀ o : Nat, ofI L o ≤ k - 10 * o
theorem PT.snoc {L : List Itm} {k : Nat} (h : PT L k) (x : Itm) (h1 : x.id = k + 1) (h2 : x.own = (k : Int) / 10) (h3 : x.wk ≤ 254) : PT (L ++ [x]) (k + 1) := by
  obtain ⟨a, b, c, d⟩ := h
  refine ⟨by simp [a], fun y hy => ?_, ?_, fun o => ?_⟩
  · rcases List.mem_append.1 hy with hy | hy
    · have := b y hy; omega
    · simp at hy; subst hy; omega
  · unfold Uniq
    rw [List.pairwise_append]
    refine ⟨c, List.pairwise_singleton .., fun y hy z hz => ?_⟩
    simp at hz
    subst hz
    have := b y hy
    omega
  · have := d o
    rw [ofI_snoc]
    by_cases ho : (x.own == (o : Int)) = true
    · rw [if_pos ho]
      have : x.own = o := by simpa using ho
      have hko : k / 10 = o := by omega
      omega
    · rw [if_neg ho]
      omega
theorem PT.room {L : List Itm} {k : Nat} (h : PT L k) (hk : k ≤ 100) : roomI L ((k : Int) / 10) = 0 := by
  rw [show (k : Int) / 10 = ((k / 10 : Nat) : Int) from rfl]
  unfold roomI
  have := h.2.2.2 (k / 10)
  rw [if_neg (by have := h.1; omega), if_neg (by omega)]
/-- What holds as the time goes on. -/
def PL (L : List Itm) (t : Int) (lid lwk : Int) : Prop := (∀ x ∈ L, (x.wk = -1 ∨ t ≤ x.wk) ∧ x.wk ≤ 254) ∧ Uniq L ∧ (lwk < t ∨ (lwk = t ∧ ∀ x ∈ L, x.wk = t → lid < x.id)) ∧ L.length ≤ 100
theorem PL.erase {L : List Itm} {t lid lwk : Int} (h : PL L t lid lwk) {x : Itm} (hx : First L x) (hw : x.wk = t) (k : Nat) (hk : L[k]? = some x) : PL (L.eraseIdx k) t x.id t := by
  obtain ⟨a, b, c, d⟩ := h
  have hsub : ∀ y ∈ L.eraseIdx k, y ∈ L := fun y hy => List.mem_of_mem_eraseIdx hy
  refine ⟨fun y hy => a y (hsub y hy), b.sublist (List.eraseIdx_sublist ..), .inr ⟨rfl, fun y hy hyt => ?_⟩, by have := List.length_eraseIdx_le L k; omega⟩
  have h1 := hx.2 y (hsub y hy)
  have hne : y.id ≠ x.id := fun e => by
    obtain ⟨i, hi, rfl⟩ := List.getElem_of_mem hy
    have hkl := (List.getElem?_eq_some_iff.1 hk).1
    have hpw := List.pairwise_iff_getElem.1 b
    have hkx : L[k] = x := (List.getElem?_eq_some_iff.1 hk).2
    rw [List.getElem_eraseIdx] at e
    have hil : i < L.length - 1 := by rw [List.length_eraseIdx] at hi; simp [hkl] at hi; exact hi
    split at e
    · rename_i hik
      exact hpw i k (by omega) hkl hik (by rw [hkx]; exact e)
    · rename_i hik
      exact hpw k (i + 1) hkl (by omega) (by omega) (by rw [hkx]; exact e.symm)
  unfold Ahd at h1
  omega

theorem mem_min {L : List Itm} {x : Itm} (hx : First L x) : x ∈ L := hx.1

set_option maxRecDepth 100000 in
set_option maxHeartbeats 6400000 in
theorem taskTurns_any (pa : Nat → Addr) (v : Value) (l : List Int) (w : World)
    (hB : Sl (fun _ => True) w v l.length (fun k u => u = .int .i64 (l.getD k 0) ∧ -9223372036854775808 ≤ l.getD k 0 ∧ l.getD k 0 ≤ 9223372036854775807)) (hS : S3 w pa) :
    Calls Tryd.prog 3 #[v] w fun e w' => e = .returned (.bool true) ∧ Fr (fun _ => False) w w' := by
  obtain ⟨a, c, rfl, hlc, hcm, hk⟩ := hB
  have HK := hid hk; have HS := hid hS
  clear hk hlc hcm hS
  go_enter Tryd.func3, Tryd.ntmps3
  go_wp2_with fail
  refine (first_any pa _ HS.out).mono ?_
  rintro e w1 ⟨rfl, hf⟩
  have HF := hid hf
  clear hf
  by_cases h40 : 60 < l.length
  · have h' : decide ((60 : Int) < l.length) = true := by simp; omega
    go_wp2_with fail
    go_ret
    exact ⟨rfl, HF.out⟩
  · have h' : decide ((60 : Int) < l.length) = false := by simp; omega
    have hlI : (l.length : Int) ≤ 60 := by omega
    go_wp2_with fail
    refine (new_any _).mono ?_
    rintro e w3 ⟨rfl, hq3, hf3⟩
    have HB := hid HF.out.size
    have HF3 := hid (HF.out.trans' hf3); have HQ3 := hid hq3
    generalize w1.heap.size = Bo at *
    clear hq3 hf3 HF h' h40
    go_wp2_with fail
    go_loopw [5, 6] (fun v i wr => ∃ (k : Nat) (lv : Value) (L : List Itm), k ≤ l.length ∧ i = .int .i64 k ∧ v = .int .i64 (cntI L : Nat) ∧ Hid (QAt Bo wr Bo lv L (k + 1 : Nat)) ∧ Hid (Fr (fun _ => False) w wr) ∧ Hid (PT L k)) (fun _ i _ => l.length - (intOf i).toNat)
    case atStart => exact ⟨0, _, [], Nat.zero_le _, rfl, rfl, HQ3, HF3, hid ⟨rfl, by simp, List.Pairwise.nil, fun o => by simp [ofI]⟩⟩
    case round =>
      clear HQ3 HF3
      obtain ⟨k, lv, L, hkl, rfl, rfl, HQ, HFw, HP⟩ := hrel
      by_cases hlt : k < l.length
      · obtain ⟨b0, o0, u0, rfl, -, hcw, rfl, hx1, hx2⟩ := HK.out k hlt
        have hcr := HFw.out.cell hcw not_false
        obtain ⟨x, hx⟩ : ∃ x, l.getD k 0 = x := ⟨_, rfl⟩
        rw [hx] at hcr hx1 hx2
        have hm := and_mask x 255 (by omega)
        obtain ⟨y, hy⟩ : ∃ y, bits .and .i64 x ((255 : Nat) : Int) = y := ⟨_, rfl⟩
        rw [hy] at hm
        obtain ⟨hm1, hm2⟩ := hm
        clear hx hcw hx1 hx2
        have hy' : bits .and .i64 x 255 = y := hy
        clear hy
        obtain ⟨c, hc⟩ : ∃ c : Nat, cntI L = c := ⟨_, rfl⟩
        have hcl := cntI_le L
        have HPo := hid HP.out.1
        rw [hc] at hcl
        have hL6 : L.length ≤ 1000000 := by have := HPo.out; omega
        have hc60 : c < 60 := by have := HPo.out; omega
        have HL6 := hid hL6
        have hbw : Bo ≤ wr.heap.size := by have := heap_lt HQ.out.heap; omega
        have HBW := hid hbw
        have hSw := hid (HS.out.frame HFw.out)
        have hroom := hid (HP.out.room (by omega))
        have HC := hid hc
        rw [hc]
        clear hL6 hbw hc
        by_cases h255 : y = 255
        · have h' : (y == 255) = true := by simp [h255]
          obtain ⟨z, hz⟩ : ∃ z : Itm, z = ⟨(k : Int) + 1, (k : Int) / 10, -1, by omega, by omega, by omega⟩ := ⟨_, rfl⟩
          have hz1 : z.id = (k : Int) + 1 := by rw [hz]
          have hz2 : z.own = (k : Int) / 10 := by rw [hz]
          have hz3 : z.wk = -1 := by rw [hz]
          have hz0 : addI L z.id z.own z.wk = 0 := by
            rw [hz1, hz2, hz3]
            unfold addI
            rw [if_neg (by omega), if_neg (by omega), hroom.out]
          have hcl := add_good (L := L) pa hSw.out z (by rw [hz1]; exact HQ.out) HL6.out hz0 HBW.out
          have hp7 := HP.out.snoc z hz1 hz2 (by omega)
          have hc7 : cntI (L ++ [z]) = c := by rw [cntI_snoc, HC.out, hz3]; simp
          have hl7 := hp7.1
          rw [hz1, hz2, hz3] at hcl
          obtain ⟨L7, hL7⟩ : ∃ L7, L ++ [z] = L7 := ⟨_, rfl⟩
          rw [hL7] at hp7 hc7 hcl
          have HCL := hid hcl; have HP7 := hid hp7; have HC7 := hid hc7
          clear hcl hp7 hc7 hL7 hz hz1 hz2 hz3 hz0 hl7
          go_wp2_with fail
          refine HCL.out.mono ?_
          rintro e w6 ⟨rfl, lv7, hq7, hf7, hb7⟩
          have HF7 := hid (HQ.out.step2 HB.out HFw.out hf7)
          have HQ7 := hid hq7
          clear hq7 hf7 hb7
          go_wp2_with fail
          go_roundw
          case rel => exact ⟨k + 1, lv7, L7, by omega, by go_num, by rw [HC7.out], HQ7, HF7, HP7⟩
          case measure => simp [intOf]; omega
        · have h' : (y == 255) = false := by rw [beq_eq_false_iff_ne]; exact h255
          obtain ⟨z, hz⟩ : ∃ z : Itm, z = ⟨(k : Int) + 1, (k : Int) / 10, y, by omega, by omega, by omega⟩ := ⟨_, rfl⟩
          have hz1 : z.id = (k : Int) + 1 := by rw [hz]
          have hz2 : z.own = (k : Int) / 10 := by rw [hz]
          have hz3 : z.wk = y := by rw [hz]
          have hz0 : addI L z.id z.own z.wk = 0 := by
            rw [hz1, hz2, hz3]
            unfold addI
            rw [if_neg (by omega), if_neg (by omega), hroom.out]
          have hcl := add_good (L := L) pa hSw.out z (by rw [hz1]; exact HQ.out) HL6.out hz0 HBW.out
          have hp7 := HP.out.snoc z hz1 hz2 (by omega)
          have hc7 : cntI (L ++ [z]) = c + 1 := by rw [cntI_snoc, HC.out, hz3, if_neg (by omega)]
          have hl7 := hp7.1
          rw [hz1, hz2, hz3] at hcl
          obtain ⟨L7, hL7⟩ : ∃ L7, L ++ [z] = L7 := ⟨_, rfl⟩
          rw [hL7] at hp7 hc7 hcl
          have HCL := hid hcl; have HP7 := hid hp7; have HC7 := hid hc7
          clear hcl hp7 hc7 hL7 hz hz1 hz2 hz3 hz0 hl7
          go_wp2_with fail
          refine HCL.out.mono ?_
          rintro e w6 ⟨rfl, lv7, hq7, hf7, hb7⟩
          have HF7 := hid (HQ.out.step2 HB.out HFw.out hf7)
          have HQ7 := hid hq7
          clear hq7 hf7 hb7
          go_wp2_with fail
          go_roundw
          case rel => exact ⟨k + 1, lv7, L7, by omega, by go_num, by rw [HC7.out]; go_num, HQ7, HF7, HP7⟩
          case measure => simp [intOf]; omega
      · obtain rfl : k = l.length := by omega
        obtain ⟨hp1, hp2, hp3, -⟩ := HP.out
        have hpl : PL L ((0 : Nat) : Int) 0 (-1) := ⟨fun x hx => ⟨by have := x.hw; omega, (hp2 x hx).2⟩, hp3, .inl (by omega), by omega⟩
        have hfl := HFw.out.alloc (.cells #[.int .i64 0, .int .i64 0, .int .i64 (-1)] 31)
        have hql := HQ.out.fr ((Fr.refl (fun _ => False) wr).alloc (.cells #[.int .i64 0, .int .i64 0, .int .i64 (-1)] 31))
        have hrl := heap_alloc_new wr (.cells #[.int .i64 0, .int .i64 0, .int .i64 (-1)] 31)
        have hnl : ¬ QS Bo lv wr.heap.size := fun h => by have := (HQ.out.lt _ h).2; omega
        have hlb : w.heap.size ≤ wr.heap.size := HFw.out.size
        have HPL := hid hpl; have HFL := hid hfl; have HQL := hid hql; have HRL := hid hrl; have HNL := hid hnl; have HLB := hid hlb
        obtain ⟨nx, hnx⟩ : ∃ nx : Int, ((l.length + 1 : Nat) : Int) = nx := ⟨_, rfl⟩
        rw [hnx] at HQL
        clear hp1 hp2 hp3 hpl hfl hql hrl hnl hlb HP HQ HFw hnx
        go_wp2_with fail
        generalize wr.heap.size = Lb at *
        clear hlI HK
        go_loopw [5, 11] (fun v5 v11 w2 => ∃ (t : Nat) (lv : Value) (L : List Itm) (lid lo lwk : Int), t ≤ 256 ∧ v5 = .int .i64 (cntI L : Nat) ∧ v11 = .int .i64 t ∧ lwk < t ∧ Hid (QAt Bo w2 Bo lv L nx) ∧ Hid (Fr (fun _ => False) w w2) ∧ Hid (PL L t lid lwk) ∧ Hid (w2.heap[Lb]? = some (.cells #[.int .i64 lid, .int .i64 lo, .int .i64 lwk] 31 (0, 0))) ∧ Hid (¬ QS Bo lv Lb)) (fun _ i _ => 256 - (intOf i).toNat)
        case atStart => exact ⟨0, lv, L, 0, 0, -1, by omega, rfl, rfl, by omega, HQL, HFL, HPL, HRL, HNL⟩
        case round =>
          clear HFL HQL HPL HRL HNL
          obtain ⟨t, lv, L, lid, lo, lwk, ht, rfl, rfl, hlw, HQ, HFw, HP, HR, HN⟩ := hrel
          by_cases hlt : t < 256
          · have h57 : decide ((t : Int) < 256) = true := by simp; omega
            go_wp2_with fail
            clear h57
            go_loopw [5] (fun v5 w3 => ∃ (lv : Value) (L : List Itm) (lid lo lwk : Int), v5 = .int .i64 (cntI L : Nat) ∧ lwk ≤ t ∧ Hid (QAt Bo w3 Bo lv L nx) ∧ Hid (Fr (fun _ => False) w w3) ∧ Hid (PL L t lid lwk) ∧ Hid (w3.heap[Lb]? = some (.cells #[.int .i64 lid, .int .i64 lo, .int .i64 lwk] 31 (0, 0))) ∧ Hid (¬ QS Bo lv Lb)) (fun v _ => (intOf v).toNat)
            case atStart => exact ⟨lv, L, lid, lo, lwk, rfl, by omega, HQ, HFw, HP, HR, HN⟩
            case round =>
              clear HQ HFw HP HR HN hlw
              obtain ⟨lv, L, lid, lo, lwk, rfl, hlw, HQ, HFw, HP, HR, HN⟩ := hrel
              have HL6 : Hid (L.length ≤ 1000000) := hid (by have := HP.out.2.2.2; omega)
              rcases due_cases L t with ⟨x, hx, hw1, hw2⟩ | ⟨hno, hall⟩
              · obtain ⟨k, hk, hkx⟩ := place_of HP.out.2.1 hx.1
                have hxt : x.wk = t := by have := (HP.out.1 x hx.1).1; omega
                have hkl := (List.getElem?_eq_some_iff.1 hkx).1
                have hcl := qtake_yes HQ.out HL6.out t x hx HP.out.2.1 hw1 hw2 k hk hkl
                have hp7 := HP.out.erase hx hxt k hkx
                have hc7 := cntI_erase L k x hkx hw1
                have hlst : (lwk < t) ∨ (lwk = t ∧ lid < x.id) := by
                  rcases HP.out.2.2.1 with h | ⟨h1, h2⟩
                  · exact .inl h
                  · exact .inr ⟨h1, h2 x hx.1 hxt⟩
                rw [hxt] at hcl
                obtain ⟨L7, hL7⟩ : ∃ L7, L.eraseIdx k = L7 := ⟨_, rfl⟩
                rw [hL7] at hp7 hc7 hcl
                have hc100 : cntI L7 ≤ 100 := by have := cntI_le L7; have := hp7.2.2.2; omega
                rw [show cntI L = cntI L7 + 1 from hc7.symm]
                have HCL := hid hcl; have HP7 := hid hp7
                clear hcl hp7 hL7 hk hkx hkl hx hw1 hw2 HL6 hc7 HP
                go_wp2_with fail
                refine HCL.out.mono ?_
                rintro e w6 ⟨rfl, lv7, hq7, hf7, hb7⟩
                have hfa := (Fr.refl (fun _ => False) w6).alloc (.cells #[.int .i64 x.id, .int .i64 x.own, .int .i64 t] 31)
                have hxr := heap_alloc_new w6 (.cells #[.int .i64 x.id, .int .i64 x.own, .int .i64 t] 31)
                have hr6 := hfa.heap (hf7.heap HR.out HN.out) not_false
                have HF6 := hid (HQ.out.step2 HB.out HFw.out hf7)
                have HF7 := hid (HF6.out.trans' hfa); have HQ7 := hid (hq7.fr hfa); have HXR := hid hxr; have HR7 := hid hr6
                have HN7 : Hid (¬ QS Bo lv7 Lb) := hid (fun h => HN.out (by unfold QS at h ⊢; rw [hb7] at h; exact h))
                have hrx := (setCell_row 2 (.int .i64 t) (setCell_row 1 (.int .i64 x.own) (setCell_row 0 (.int .i64 x.id) hr6)))
                simp only [List.setIfInBounds_toArray, List.set_cons_zero, List.set_cons_succ] at hrx
                have hf8 : Fr (fun q => q = Lb) (w6.alloc (.cells #[.int .i64 x.id, .int .i64 x.own, .int .i64 t] 31)) ((((w6.alloc (.cells #[.int .i64 x.id, .int .i64 x.own, .int .i64 t] 31)).setCell ⟨Lb, 0, none⟩ (.int .i64 x.id)).setCell ⟨Lb, 1, none⟩ (.int .i64 x.own)).setCell ⟨Lb, 2, none⟩ (.int .i64 t)) := (((Fr.refl (fun q => q = Lb) (w6.alloc (.cells #[.int .i64 x.id, .int .i64 x.own, .int .i64 t] 31))).setCell (p := ⟨Lb, 0, none⟩) (.inl rfl) (.int .i64 x.id)).setCell (p := ⟨Lb, 1, none⟩) (.inl rfl) (.int .i64 x.own)).setCell (p := ⟨Lb, 2, none⟩) (.inl rfl) (.int .i64 t)
                have hq8 := HQ7.out.frame hf8 (fun e => HN7.out (.inl e.symm)) (fun q hq e => HN7.out (.inr (by rw [← e, hq])))
                have hF8 := HF7.out.trans hf8 (U := fun _ => False) (fun _ _ h => h) (fun q hq e => by have := HLB.out; omega)
                have HRX := hid hrx; have HQ8 := hid hq8; have HF8 := hid hF8
                have x0 : (w6.alloc (.cells #[.int .i64 x.id, .int .i64 x.own, .int .i64 t] 31)).cell? ⟨w6.heap.size, 0, none⟩ = some (.int .i64 x.id) := by rw [cell_of_row _ _ _ _ _ _ hxr]; rfl
                have x1 : (w6.alloc (.cells #[.int .i64 x.id, .int .i64 x.own, .int .i64 t] 31)).cell? ⟨w6.heap.size, 1, none⟩ = some (.int .i64 x.own) := by rw [cell_of_row _ _ _ _ _ _ hxr]; rfl
                have x2 : (w6.alloc (.cells #[.int .i64 x.id, .int .i64 x.own, .int .i64 t] 31)).cell? ⟨w6.heap.size, 2, none⟩ = some (.int .i64 t) := by rw [cell_of_row _ _ _ _ _ _ hxr]; rfl
                have z0 : (w6.alloc (.cells #[.int .i64 x.id, .int .i64 x.own, .int .i64 t] 31)).cell? ⟨Lb, 0, none⟩ = some (.int .i64 lid) := by rw [cell_of_row _ _ _ _ _ _ hr6]; rfl
                have z1 : (w6.alloc (.cells #[.int .i64 x.id, .int .i64 x.own, .int .i64 t] 31)).cell? ⟨Lb, 1, none⟩ = some (.int .i64 lo) := by rw [cell_of_row _ _ _ _ _ _ hr6]; rfl
                have z2 : (w6.alloc (.cells #[.int .i64 x.id, .int .i64 x.own, .int .i64 t] 31)).cell? ⟨Lb, 2, none⟩ = some (.int .i64 lwk) := by rw [cell_of_row _ _ _ _ _ _ hr6]; rfl
                have zf : ∀ i, (w6.alloc (.cells #[.int .i64 x.id, .int .i64 x.own, .int .i64 t] 31)).frozen? ⟨Lb, i, none⟩ = false := fun i => frozen_of_row _ _ _ _ _ hr6
                have t1 : decide ((t : Int) < t) = false := by simp
                have t2 : decide ((t : Int) < lwk) = false := by simp; omega
                have t3 : ((t : Int) == t) = true := by simp
                clear hq7 hf7 hb7 hfa hxr hr6 hrx hf8 hq8 hF8 HR HN HQ HFw
                rcases hlst with h1 | ⟨h1, h2⟩
                · have t4 : ((t : Int) == lwk) = false := by rw [beq_eq_false_iff_ne]; omega
                  go_wp2_with fail
                  go_roundw
                  case rel => exact ⟨lv7, L7, x.id, x.own, t, by go_num, by omega, HQ8, HF8, HP7, HRX, HN7⟩
                  case measure => simp [intOf]
                · have t4 : ((t : Int) == lwk) = true := by rw [beq_iff_eq]; omega
                  have t5 : decide (x.id ≤ lid) = false := by simp; omega
                  go_wp2_with fail
                  go_roundw
                  case rel => exact ⟨lv7, L7, x.id, x.own, t, by go_num, by omega, HQ8, HF8, HP7, HRX, HN7⟩
                  case measure => simp [intOf]
              · have hcl := qtake_no HQ.out HL6.out t hno
                have HCL := hid hcl; have HALL := hid hall
                clear hcl hall hno HL6
                go_wp2_with fail
                refine HCL.out.mono ?_
                rintro e w6 ⟨rfl, hf7⟩
                have hfa := hf7.alloc (.cells #[.int .i64 0, .int .i64 0, .int .i64 0] 31)
                have hp7 : PL L ((t + 1 : Nat) : Int) lid lwk := ⟨fun x hx => ⟨by have := (HP.out.1 x hx).1; have := HALL.out x hx; omega, (HP.out.1 x hx).2⟩, HP.out.2.1, .inl (by omega), HP.out.2.2.2⟩
                have HQ7 := hid (HQ.out.fr hfa); have HF7 := hid (HFw.out.trans' hfa); have HR7 := hid (hfa.heap HR.out not_false); have HP7 := hid hp7
                clear hf7 hfa hp7
                go_wp2_with fail
                go_roundw
                case rel => exact ⟨t + 1, lv, L, lid, lo, lwk, by omega, rfl, by go_num, by omega, HQ7, HF7, HP7, HR7, HN⟩
                case measure => simp [intOf]; omega
          · obtain rfl : t = 256 := by omega
            have hall : ∀ x ∈ L, x.wk = -1 := fun x hx => by have := HP.out.1 x hx; omega
            have hc := cntI_zero L hall
            rw [hc]
            have hcl := qtake_no HQ.out (by have := HP.out.2.2.2; omega) 9223372036854775807 (fun x hx => .inl (hall x hx.1))
            have HCL := hid hcl
            clear hcl hall hc
            go_wp2_with fail
            refine HCL.out.mono ?_
            rintro e w6 ⟨rfl, hf7⟩
            have HF7 := hid (HFw.out.trans' (hf7.alloc (.cells #[.int .i64 0, .int .i64 0, .int .i64 0] 31)))
            clear hf7
            go_wp2_with fail
            go_ret
            exact ⟨rfl, HF7.out⟩
end Go.Proofs.YtdcfidefkoamnaaDoor
