/- Package disk: slices.Contains of files; the closure of Crash. -/
import Derived.Test.YtlhbgobjhddhlaaGreatDoorDiskI
import Derived.LaidEqlPtr
namespace Go.Proofs.YtlhbgobjhddhlaaGreatDoor
open Go.RowKit
variable {base : Nat} {w w' : World} {s : DS}

/-- A block that holds a file. -/
def FBk (w : World) (k : Nat) : Prop := ∃ cs, w.heap[k]? = some (.cells cs 78 (0, 0))
theorem FileAt.fbk {k : Nat} {f : FS} (h : FileAt w k f) : FBk w k := by
  obtain ⟨v, hm, -⟩ := h
  exact ⟨_, hm⟩
theorem info_file : ∃ j, Tryz.prog.info? 78 = some j ∧ j.size ≠ 0 := by
  have h : (Tryz.prog.info? 78).map (fun j => j.size != 0) = some true := by kernel_rfl
  cases hh : Tryz.prog.info? 78 with
  | none => rw [hh] at h; cases h
  | some i => rw [hh] at h; exact ⟨i, rfl, by simpa using h⟩
theorem ptr_eql {a b : Nat} (ha : FBk w a) (hb : FBk w b) : (binOp .eql 76 (.pointer (some ⟨a, 0, none⟩)) (.pointer (some ⟨b, 0, none⟩))).run Tryz.prog w = .ok (.bool (decide (a = b))) w := by
  obtain ⟨j, hj, hs⟩ := info_file
  by_cases e : a = b
  · subst e
    rw [decide_eq_true rfl]
    exact run_eql_ptr_same w _ Tryz.underlying76 hj
  · rw [decide_eq_false e]
    obtain ⟨ca, ha⟩ := ha
    obtain ⟨cb, hb⟩ := hb
    exact run_eql_ptr_other w Tryz.underlying76 hj hs (fun h => e (Addr.mk.inj h).1) ha hb
/-- A slice of files. -/
def Ps (D : Nat → Prop) (w : World) (v : Value) (l : List Nat) : Prop := Sl D w v l.length fun k u => u = .pointer (some ⟨l.getD k 0, 0, none⟩)
theorem Ps.frame {D S : Nat → Prop} {v : Value} {l : List Nat} (h : Ps D w v l) (hf : Fr S w w') (hd : ∀ k, D k → ¬ S k) : Ps D w' v l := Sl.frame h hf hd fun _ _ _ h => h
set_option maxRecDepth 100000 in
set_option maxHeartbeats 1600000 in
/-- slices.Index: at least 0 where it is among them. -/
theorem index_any (D : Nat → Prop) (v : Value) (l : List Nat) (f : Nat) (h : Ps D w v l) (hl : l.length ≤ 1000000) (hb : ∀ k ∈ l, FBk w k) (hf : FBk w f) :
    Calls Tryz.prog 70 #[v, .pointer (some ⟨f, 0, none⟩)] w fun e w' => w = w' ∧ ∃ i : Int, e = .returned (.int .i64 i) ∧ -1 ≤ i ∧ i ≤ 1000000 ∧ (0 ≤ i ↔ f ∈ l) := by
  obtain ⟨a, c, rfl, h1, h2, hc⟩ := h
  have HC := hid hc; have HB := hid hb; have HFB := hid hf
  clear hc hb hf
  go_enter Tryz.func70, Tryz.ntmps70
  go_wp2_with fail
  go_loopw [8] (fun iv wr => ∃ k : Nat, k ≤ l.length ∧ iv = .int .i64 k ∧ w = wr ∧ Hid (∀ j, j < k → l.getD j 0 ≠ f)) (fun iv _ => l.length - (intOf iv).toNat)
  case atStart => exact ⟨0, Nat.zero_le _, rfl, rfl, hid (fun j hj => by omega)⟩
  case round =>
    obtain ⟨k, hk, rfl, rfl, HN⟩ := hrel
    by_cases hlt : k < l.length
    · have hkI : (k : Int) < l.length := by omega
      obtain ⟨b, o, u, rfl, -, hcell, rfl⟩ := HC.out k hlt
      obtain ⟨q, hq⟩ : ∃ q, l.getD k 0 = q := ⟨_, rfl⟩
      rw [hq] at hcell
      have hql : q ∈ l := by
        rw [← hq, List.getD_eq_getElem?_getD, List.getElem?_eq_getElem hlt]
        exact List.getElem_mem hlt
      have hpe := ptr_eql HFB.out (HB.out q hql)
      have HQL := hid hql; have HQ := hid hq
      clear hql hq
      by_cases e : f = q
      · rw [decide_eq_true e] at hpe
        have HE := hid e
        clear e
        go_wp2_with fail
        go_ret
        exact ⟨rfl, k, rfl, by omega, by omega, fun _ => by rw [HE.out]; exact HQL.out, fun _ => by omega⟩
      · rw [decide_eq_false e] at hpe
        have HE := hid e
        have hw1 : IntKind.i64.wrap ((k : Int) + 1) = (k : Int) + 1 := IntWalk.i64_in _ (by omega)
        clear e
        go_wp2_with fail
        go_roundw
        case rel => exact ⟨k + 1, by omega, by go_num, by trivial, hid (fun j hj => by
          by_cases e : j = k
          · rw [e, HQ.out]; exact fun h => HE.out h.symm
          · exact HN.out j (by omega))⟩
        case measure => simp [intOf]; omega
    · have hkI : ¬ (k : Int) < l.length := by omega
      go_wp2_with fail
      go_ret
      refine ⟨rfl, -1, rfl, by omega, by omega, fun h => by omega, fun h => ?_⟩
      obtain ⟨j, hj, e⟩ := List.getElem_of_mem h
      exact absurd (show l.getD j 0 = f by rw [List.getD_eq_getElem?_getD, List.getElem?_eq_getElem hj]; exact e) (HN.out j (by omega))
set_option maxRecDepth 100000 in
theorem contains_any (D : Nat → Prop) (v : Value) (l : List Nat) (f : Nat) (h : Ps D w v l) (hl : l.length ≤ 1000000) (hb : ∀ k ∈ l, FBk w k) (hf : FBk w f) :
    Calls Tryz.prog 54 #[v, .pointer (some ⟨f, 0, none⟩)] w fun e w' => e = .returned (.bool (decide (f ∈ l))) ∧ w = w' := by
  have HC := hid (index_any D v l f h hl hb hf)
  obtain ⟨a, c, rfl, -⟩ := id h
  clear h hl hb hf
  go_enter Tryz.func54, Tryz.ntmps54
  go_wp2_with fail
  refine HC.out.mono ?_
  rintro e w2 ⟨rfl, i, rfl, -, -, hi⟩
  have HI := hid hi
  clear hi
  go_wp2_with fail
  go_ret
  exact ⟨ret_bool (decide_eq_decide.2 HI.out), rfl⟩
end Go.Proofs.YtlhbgobjhddhlaaGreatDoor
