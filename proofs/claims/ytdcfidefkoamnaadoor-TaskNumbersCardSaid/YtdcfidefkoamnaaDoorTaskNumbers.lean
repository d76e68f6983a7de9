/- The statement TaskNumbers, walked. -/
import Derived.Test.YtdcfidefkoamnaaDoorTaskH
import Derived.Test.YtdcfidefkoamnaaDoorNumber
namespace Go.Proofs.YtdcfidefkoamnaaDoor
open Go.RowKit Go.Sort

theorem QAt.step {Bo : Nat} {w wr w7 : World} {lv : Value} {L : List Itm} {nx : Int} (h : QAt Bo wr Bo lv L nx) (hB : w.heap.size ≤ Bo) (hf : Fr (fun _ => False) w wr) (hg : Fr (QS Bo lv) wr w7) : Fr (fun _ => False) w w7 :=
  hf.trans hg (fun _ _ h => h) (fun q hq e => by have := (h.lt q e).1; omega)
theorem ofI_zero (L : List Itm) (o : Int) (h : ∀ x ∈ L, x.own ≠ o) : ofI L o = 0 := by
  unfold ofI
  rw [List.length_eq_zero_iff, List.filter_eq_nil_iff]
  intro x hx
  simpa using h x hx
/-- What holds ahead of each round. -/
def PN (L : List Itm) (k : Nat) (nx : Int) : Prop := L.length ≤ k ∧ (∀ x ∈ L, x.own < k) ∧ 1 ≤ nx ∧ nx ≤ 201 + k
theorem PN.snoc {L : List Itm} {k : Nat} {nx nx' : Int} (h : PN L k nx) (x : Itm) (hx : x.own = k) (h1 : 1 ≤ nx') (h2 : nx' ≤ 201 + k + 1) : PN (L ++ [x]) (k + 1) nx' :=
  ⟨by have := h.1; simp; omega, fun y hy => by
    rcases List.mem_append.1 hy with hy | hy
    · have := h.2.1 y hy; omega
    · simp at hy; subst hy; omega, h1, by omega⟩
theorem PN.same {L : List Itm} {k : Nat} {nx : Int} (h : PN L k nx) : PN L (k + 1) nx :=
  ⟨by have := h.1; omega, fun y hy => by have := h.2.1 y hy; omega, h.2.2.1, by have := h.2.2.2; omega⟩
theorem PN.erase {L : List Itm} {k : Nat} {nx : Int} (h : PN L k nx) (j : Nat) : PN (L.eraseIdx j) (k + 1) nx :=
  ⟨by have := h.1; have := List.length_eraseIdx_le L j; omega, fun y hy => by have := h.2.1 y (List.mem_of_mem_eraseIdx hy); omega, h.2.2.1, by have := h.2.2.2; omega⟩
theorem PN.room {L : List Itm} {k : Nat} {nx : Int} (h : PN L k nx) (hk : k ≤ 100) : roomI L k = 0 := by
  unfold roomI
  rw [if_neg (by have := h.1; omega), ofI_zero L k (fun x hx => by have := h.2.1 x hx; omega), if_neg (by omega)]

set_option maxRecDepth 100000 in
set_option maxHeartbeats 6400000 in
theorem taskNumbers_any (pa : Nat → Addr) (v : Value) (l : List Int) (w : World)
    (hB : Sl (fun _ => True) w v l.length (fun k u => u = .int .i64 (l.getD k 0) ∧ -9223372036854775808 ≤ l.getD k 0 ∧ l.getD k 0 ≤ 9223372036854775807)) (hS : Sent17 w pa) :
    Calls Tryd.prog 6 #[v] w fun e w' => e = .returned (.bool true) ∧ Fr (fun _ => False) w w' := by
  obtain ⟨a, c, rfl, hlc, hcm, hk⟩ := hB
  have HK := hid hk; have HS := hid hS
  clear hk hlc hcm hS
  go_enter Tryd.func6, Tryd.ntmps6
  go_wp2_with fail
  refine (first_any pa _ HS.out).mono ?_
  rintro e w1 ⟨rfl, hf⟩
  have HF := hid hf
  clear hf
  by_cases h40 : 30 < l.length
  · have h' : decide ((30 : Int) < l.length) = true := by simp; omega
    go_wp2_with fail
    go_ret
    exact ⟨rfl, HF.out⟩
  · have h' : decide ((30 : Int) < l.length) = false := by simp; omega
    have hlI : (l.length : Int) ≤ 30 := by omega
    go_wp2_with fail
    refine (new_any _).mono ?_
    rintro e w3 ⟨rfl, hq3, hf3⟩
    have HB := hid HF.out.size
    have HF3 := hid (HF.out.trans' hf3); have HQ3 := hid hq3
    generalize w1.heap.size = Bo at *
    clear hq3 hf3 HF h' h40
    go_wp2_with fail
    go_loopw [5, 6] (fun v i wr => ∃ (k : Nat) (lv : Value) (L : List Itm) (nx : Int), k ≤ l.length ∧ i = .int .i64 k ∧ v = .int .i64 nx ∧ Hid (QAt Bo wr Bo lv L nx) ∧ Hid (Fr (fun _ => False) w wr) ∧ Hid (PN L k nx)) (fun _ i _ => l.length - (intOf i).toNat)
    case atStart => exact ⟨0, _, [], 1, Nat.zero_le _, rfl, rfl, HQ3, HF3, hid ⟨Nat.le_refl _, by simp, by omega, by omega⟩⟩
    case round =>
      clear HQ3 HF3
      obtain ⟨k, lv, L, nx, hkl, rfl, rfl, HQ, HFw, HP⟩ := hrel
      by_cases hlt : k < l.length
      · obtain ⟨b0, o0, u0, rfl, -, hcw, rfl, hx1, hx2⟩ := HK.out k hlt
        have hcr := HFw.out.cell hcw not_false
        obtain ⟨x, hx⟩ : ∃ x, l.getD k 0 = x := ⟨_, rfl⟩
        rw [hx] at hcr hx1 hx2
        have HX1 := hid hx1; have HX2 := hid hx2
        clear hx hcw hx1 hx2
        obtain ⟨hp1, hp2, hp3, hp4⟩ := HP.out
        have HP2 := hid hp2
        have hL6 : L.length ≤ 1000000 := by omega
        have HL6 := hid hL6
        have hbw : Bo ≤ wr.heap.size := by have := heap_lt HQ.out.heap; omega
        have HBW := hid hbw
        have hSw := hid (HS.out.frame HFw.out)
        clear hp1 hp2 hL6 hbw
        obtain ⟨id, hid1, hid2, hid3⟩ : ∃ id : Int, x % 200 + 1 = id ∧ 1 ≤ id ∧ id ≤ 200 := ⟨_, rfl, by omega, by omega⟩
        obtain ⟨r, hr⟩ : ∃ r, x.tmod 3 = r := ⟨_, rfl⟩
        go_wp2_with fail
        refine (number_any x 200 _ (by omega) (by omega) HX1.out HX2.out).mono ?_
        rintro e w5 ⟨rfl, rfl⟩
        by_cases hr0 : r = 0
        · subst hr0
          have hz : addI L nx k 5 = 0 := by
            unfold addI
            rw [if_neg (by omega), if_neg (by omega), HP.out.room (by omega)]
          have HZ := hid hz
          clear hz
          go_wp2_with fail
          refine (add_good (L := L) pa hSw.out (⟨nx, k, 5, hp3, by omega, by omega⟩ : Itm) HQ.out HL6.out HZ.out HBW.out).mono ?_
          rintro e w6 ⟨rfl, lv7, hq7, hf7, hb7⟩
          have HF7 := hid (HQ.out.step HB.out HFw.out hf7)
          have HP7 := hid (HP.out.snoc (nx' := nx + 1) (⟨nx, k, 5, hp3, by omega, by omega⟩ : Itm) rfl (by omega) (by omega))
          obtain ⟨L7, hL7⟩ : ∃ L7, L ++ [(⟨nx, k, 5, hp3, by omega, by omega⟩ : Itm)] = L7 := ⟨_, rfl⟩
          rw [hL7] at hq7 HP7
          have HQ7 := hid hq7
          obtain ⟨nx7, hnx7⟩ : ∃ nx7, nx + 1 = nx7 := ⟨_, rfl⟩
          clear hq7 hf7 hb7 hL7
          have HN7 := hid hnx7
          rw [hnx7] at HQ7 HP7
          go_wp2_with fail
          refine (qnext_any HQ7.out).mono ?_
          rintro e w8 ⟨rfl, rfl⟩
          go_wp2_with fail
          go_roundw
          case rel => exact ⟨k + 1, lv7, L7, nx7, by omega, by go_num, rfl, HQ7, HF7, HP7⟩
          case measure => simp [intOf]; omega
        · have hr0' : (r == 0) = false := by rw [beq_eq_false_iff_ne]; exact hr0
          have hcs : (r = 1 ∨ r = -1) ∨ ((r == 1) = false ∧ (r == -1) = false) := by
            by_cases h1 : r = 1
            · exact .inl (.inl h1)
            · by_cases h2 : r = -1
              · exact .inl (.inr h2)
              · exact .inr ⟨by rw [beq_eq_false_iff_ne]; exact h1, by rw [beq_eq_false_iff_ne]; exact h2⟩
          rcases hcs with h1 | ⟨h1, h2⟩
          · have hro := HP.out.room (k := k) (by omega)
            obtain ⟨y, hy⟩ : ∃ y : Itm, y = ⟨id, k, 3, hid2, by omega, by omega⟩ := ⟨_, rfl⟩
            have hy1 : y.id = id := by rw [hy]
            have hy2 : y.own = k := by rw [hy]
            have hy3 : y.wk = 3 := by rw [hy]
            have hid3' : id + 1 ≤ 201 := by omega
            by_cases hm : putI L y = 0
            · have hcl := qput_good (L := L) pa hSw.out HQ.out HL6.out y hm HBW.out (by omega) (by omega)
              rw [hy1, hy2, hy3] at hcl
              have HCL := hid hcl; have HM := hid hm
              have HY2 := hid hy2
              clear hcl hm hro hy hy1 hy3 hy2
              rcases h1 with rfl | rfl
              all_goals
                go_wp2_with fail
                refine HCL.out.mono ?_
                rintro e w6 ⟨rfl, lv7, hq7, hf7, hb7⟩
                have HF7 := hid (HQ.out.step HB.out HFw.out hf7)
                have HP7 := hid (HP.out.snoc (nx' := max nx (id + 1)) y HY2.out (by omega) (by omega))
                obtain ⟨L7, hL7⟩ : ∃ L7, L ++ [y] = L7 := ⟨_, rfl⟩
                rw [hL7] at hq7 HP7
                have HQ7 := hid hq7
                clear hq7 hf7 hb7 hL7
                obtain ⟨nx7, hnx7⟩ : ∃ nx7, max nx (id + 1) = nx7 := ⟨_, rfl⟩
                rw [hnx7] at HQ7 HP7
                go_wp2_with fail
                refine (qnext_any HQ7.out).mono ?_
                rintro e w8 ⟨rfl, rfl⟩
                go_wp2_with fail
                go_roundw
                case rel => exact ⟨k + 1, lv7, L7, nx7, by omega, by go_num, rfl, HQ7, HF7, HP7⟩
                case measure => simp [intOf]; omega
            · have hcl := qput_bad (L := L) pa hSw.out HQ.out HL6.out y hm
              have hp8 : putI L y = 108 := by
                unfold putI at hm ⊢
                split
                · rfl
                · rename_i h0
                  rw [if_neg h0, hy2, hro] at hm
                  omega
              rw [hp8, hy1, hy2, hy3] at hcl
              have he : errV pa 108 = .iface 124 (.pointer (some (pa 7))) := rfl
              rw [he] at hcl
              have HCL := hid hcl
              clear hcl hm hro hp8 he hy hy1 hy3 hy2
              rcases h1 with rfl | rfl
              all_goals
                go_wp2_with fail
                refine HCL.out.mono ?_
                rintro e w6 ⟨rfl, hf7⟩
                have HF6 := hid (HFw.out.trans' hf7); have HQ6 := hid (HQ.out.fr hf7)
                have his := is_num w6 pa (hSw.out.frame hf7) 108 (.inr (by omega)) 108
                rw [show errV pa 108 = .iface 124 (.pointer (some (pa 7))) from rfl, show decide (((108 : Nat) : Int) = 108) = true from rfl] at his
                have HIS := hid his
                clear his hf7
                go_wp2_with fail
                refine HIS.out.mono ?_
                rintro e w7 ⟨rfl, hf7⟩
                have HF7 := hid (HF6.out.trans' hf7); have HQ7 := hid (HQ6.out.fr hf7); have HP7 := hid HP.out.same
                obtain ⟨L7, rfl⟩ : ∃ L7, L7 = L := ⟨_, rfl⟩
                obtain ⟨lv7, rfl⟩ : ∃ lv7, lv7 = lv := ⟨_, rfl⟩
                obtain ⟨nx7, rfl⟩ : ∃ nx7, nx7 = nx := ⟨_, rfl⟩
                clear hf7
                go_wp2_with fail
                refine (qnext_any HQ7.out).mono ?_
                rintro e w8 ⟨rfl, rfl⟩
                go_wp2_with fail
                go_roundw
                case rel => exact ⟨k + 1, lv7, L7, nx7, by omega, by go_num, rfl, HQ7, HF7, HP7⟩
                case measure => simp [intOf]; omega
          · rcases fidx_cases id L with ⟨-, hno⟩ | ⟨j, y, hj, hjy, -⟩
            · have HNO := hid hno
              clear hno
              go_wp2_with fail
              refine (qkill_no HQ.out HL6.out id HNO.out).mono ?_
              rintro e w7 ⟨rfl, hf7⟩
              have HF7 := hid (HFw.out.trans' hf7); have HQ7 := hid (HQ.out.fr hf7); have HP7 := hid HP.out.same
              obtain ⟨L7, rfl⟩ : ∃ L7, L7 = L := ⟨_, rfl⟩
              obtain ⟨lv7, rfl⟩ : ∃ lv7, lv7 = lv := ⟨_, rfl⟩
              obtain ⟨nx7, rfl⟩ : ∃ nx7, nx7 = nx := ⟨_, rfl⟩
              clear hf7
              go_wp2_with fail
              refine (qnext_any HQ7.out).mono ?_
              rintro e w8 ⟨rfl, rfl⟩
              go_wp2_with fail
              go_roundw
              case rel => exact ⟨k + 1, lv7, L7, nx7, by omega, by go_num, rfl, HQ7, HF7, HP7⟩
              case measure => simp [intOf]; omega
            · have HJ := hid hj
              have hjl := (List.getElem?_eq_some_iff.1 hjy).1
              have HJL := hid hjl
              clear hj hjy hjl
              go_wp2_with fail
              refine (qkill_yes HQ.out HL6.out id j HJ.out HJL.out).mono ?_
              rintro e w7 ⟨rfl, lv7, hq7, hf7, hb7⟩
              have HF7 := hid (HQ.out.step HB.out HFw.out hf7); have HP7 := hid (HP.out.erase j)
              obtain ⟨L7, hL7⟩ : ∃ L7, L.eraseIdx j = L7 := ⟨_, rfl⟩
              rw [hL7] at hq7 HP7
              have HQ7 := hid hq7
              obtain ⟨nx7, rfl⟩ : ∃ nx7, nx7 = nx := ⟨_, rfl⟩
              clear hf7 hq7 hb7 hL7
              go_wp2_with fail
              refine (qnext_any HQ7.out).mono ?_
              rintro e w8 ⟨rfl, rfl⟩
              go_wp2_with fail
              go_roundw
              case rel => exact ⟨k + 1, lv7, L7, nx7, by omega, by go_num, rfl, HQ7, HF7, HP7⟩
              case measure => simp [intOf]; omega
      · obtain rfl : k = l.length := by omega
        go_wp2_with fail
        go_ret
        exact ⟨rfl, HFw.out⟩
end Go.Proofs.YtdcfidefkoamnaaDoor
