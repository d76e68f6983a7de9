import Derived.Test.YtbegahbagnflnaaGreatDoorMn10
import Derived.Test.YtbegahbagnflnaaGreatDoorMn01
import Derived.Shelf.Strings.OnBuilder
import Derived.Shelf.SlicesQ.Reverse
import Derived.Ground.NamesProg
import Derived.Ground.SlgnProg
import Derived.Test.YtbegahbagnflnaaGreatDoorMn04
set_option linter.unusedSimpArgs false
set_option linter.unusedVariables false
set_option linter.unnecessarySimpa false
namespace Go.Proofs.YtbegahbagnflnaaGreatDoor
section
open Go.RowKit
variable {W V w w' : World} {X C : Nat} {sv : Value} {m : MS}
theorem MW.cast {L L' : List J} {nb : Nat} {ln : Int} (h : MW W V w X C sv ⟨L, nb, ln⟩) (e : L = L') : MW W V w X C sv ⟨L', nb, ln⟩ := e ▸ h
theorem here_mid {L A B : List J} {j : J} {nb : Nat} {ln : Int} (h : MW W V w X C sv ⟨L, nb, ln⟩) (hL : L = A ++ j :: B) {k : Nat} (hk : k = A.length) (hb : L.length ≤ 1073741824) :
  Calls Tryz.prog 118 #[.pointer (some ⟨X, 0, none⟩), .int .i64 (k : Int)] w fun e w' => e = .returned (.tuple #[]) ∧ MW W V w' X C sv ⟨A ++ ⟨j.op, (L.length : Int), j.b, j.s, j.ln⟩ :: B, nb, ln⟩ := by
 subst hk
 refine (here_any h A.length (j := j) (by dsimp only; rw [hL, List.getElem?_append_right (Nat.le_refl _), Nat.sub_self]; rfl) hb).mono ?_
 rintro e w1 ⟨rfl, hw⟩
 refine ⟨rfl, hw.cast ?_⟩
 dsimp only
 conv => lhs; rw [hL]
 rw [List.set_append_right _ _ (Nat.le_refl _), Nat.sub_self, ← hL]
 rfl
theorem put0 {L : List J} {nb : Nat} {ln : Int} (h : MW W V w X C sv ⟨L, nb, ln⟩) (op a b : Int) (s : ByteArray) (hL : L.length ≤ 1073741824) : Calls Tryz.prog 51 #[.pointer (some ⟨X, 0, none⟩), .agg #[.int .i64 op, .int .i64 a, .int .i64 b, .string s, .int .i64 0, .int .i64 0, .string ⟨#[]⟩, .slice none 0 0]] w fun e w' => e = .returned (.int .i64 (L.length : Int)) ∧ MW W V w' X C sv ⟨L ++ [⟨op, a, b, s, ln⟩], nb, ln⟩ :=
 put_any h op a b s _ _ _ _ ⟨rfl, rfl, rfl, rfl⟩ hL
def catLen (a b : Nd) (r : List Nd) : Nat := lenR a 0 + 3 + lenR b 9 + (match r with | [] => 2 | z :: _ => lenR z 0 + 1)
def CatchTo (N : Nat) : Prop := ∀ (a b : Nd) (r : List Nd), cntL (a :: b :: r) < N → szL (a :: b :: r) ≤ 1048576 → Rt 0 a → Rt 5 b → r.length ≤ 1 → (∀ y ∈ r, Rt 0 y) → ∀ (D : Nat → Prop) (W V w : World) (v : Value) (X C : Nat) (sv : Value) (m : MS), NL D W (a :: b :: r) v → MW W V w X C sv m → m.L.length + catLen a b r ≤ 1073741824 →
 Calls Tryz.prog 139 #[.pointer (some ⟨X, 0, none⟩), v] w (LayPost W V X C sv m (catLen a b r) 1)
set_option maxRecDepth 100000 in
set_option maxHeartbeats 12800000 in
theorem catch_of (N : Nat) (ih : ExprTo N) : CatchTo N := by
 intro a b r hcN hsN hra hrb hr1 hrr D W V w v X C sv m hv hm hL
 obtain ⟨la, lc, us, rfl, -⟩ := id hv
 have ha := hv.at (k := 0) (y := a) rfl
 obtain ⟨b2, o, ava, ac1, aa, ac2, rfl, -, hva, a0, a1, a2, a3, a4, a5, a6, a7⟩ := ha
 obtain ⟨b2', o', bva, bc1, ba, bc2, e2, -, hvb, z0, z1, z2, z3, z4, z5, z6, z7⟩ := hv.at (k := 1) (y := b) rfl
 simp only [Option.some.injEq, Addr.mk.injEq] at e2
 obtain ⟨rfl, rfl, -⟩ := e2
 simp only [Nat.zero_mul, Nat.add_zero, Nat.one_mul] at a0 a1 a2 a3 a4 a5 a6 a7 z0 z1 z2 z3 z4 z5 z6 z7
 have hca : a.cnt < N ∧ a.sz ≤ 1048576 ∧ b.cnt < N ∧ b.sz ≤ 1048576 := by simp only [cntL, szL] at hcN hsN; omega
 have HCE := hid (codes_of N ih)
 obtain ⟨-, -, hl5, hl9⟩ := hrb.codes
 have HL9 := hid hl9; have HL5 := hid hl5
 have HA := hid (And.intro (And.intro a0 a1) (And.intro (And.intro a2 a3) (And.intro (And.intro a4 a5) (And.intro a6 a7))))
 have HZ := hid (And.intro (And.intro z0 z1) (And.intro (And.intro z2 z3) (And.intro (And.intro z4 z5) (And.intro z6 z7))))
 have HVA := hid hva; have HVB := hid hvb; have HCN := hid hca; have HIH := hid ih; have HRA := hid hra; have HRB := hid hrb; have HLL := hid hL
 have hn0 : m.L.length ≤ 1073741824 := by omega
 have HP := hid (put0 (L := m.L) (nb := m.nb) (ln := m.ln) hm 24 0 0 ⟨#[]⟩ hn0)
 have HS := hid (And.intro hcN hsN)
 have HV := hid hv
 clear a0 a1 a2 a3 a4 a5 a6 a7 z0 z1 z2 z3 z4 z5 z6 z7 hva hvb hca ih hra hrb hL hl5 hl9 hn0 hcN hsN
 match r, hr1, hrr with
 | [], _, hrr =>
  go_enter Tryz.func139, Tryz.ntmps139
  go_wp2_with fail
  refine HP.out.mono ?_
  rintro e1 w1 ⟨rfl, hw⟩
  have HW1 := hid hw
  clear hw HP
  have hll : m.L.length + catLen a b [] ≤ 1073741824 := HLL.out
  unfold catLen at hll
  try dsimp only at hll
  have HK := hid hll
  clear hll
  obtain ⟨⟨q0, q1⟩, ⟨q2, q3⟩, ⟨q4, q5⟩, q6, q7⟩ := HA.out
  replace q0 := HW1.out.f.cell q0 not_false
  replace q1 := HW1.out.f.cell q1 not_false
  replace q2 := HW1.out.f.cell q2 not_false
  replace q3 := HW1.out.f.cell q3 not_false
  replace q4 := HW1.out.f.cell q4 not_false
  replace q5 := HW1.out.f.cell q5 not_false
  replace q6 := HW1.out.f.cell q6 not_false
  replace q7 := HW1.out.f.cell q7 not_false
  have HC := hid (HIH.out a HCN.out.1 HCN.out.2.1 HRA.out D W V _ _ X C sv _ HVA.out HW1.out (by dsimp only; rw [List.length_append]; have := HK.out; simp only [List.length_cons, List.length_nil]; omega))
  go_wp2_with fail
  refine HC.out.mono ?_
  rintro e2 w2 ⟨rfl, c0, hc0, hw⟩
  clear q0 q1 q2 q3 q4 q5 q6 q7
  have HC0 := hid (show FC (fun z => z = m.ln) m.nb (m.L.length + 1) (lenR a 0) c0 1 by have h := hc0; dsimp only at h; rw [List.length_append] at h; exact h)
  have hl2 : (m.L ++ [((J.mk 24 0 0 ⟨#[]⟩ m.ln) : J)] ++ c0).length = m.L.length + 1 + lenR a 0 := by rw [List.length_append, List.length_append, hc0.1]; rfl
  have HL2 := hid hl2
  have HP := hid (put0 hw 26 0 0 ⟨#[]⟩ (by rw [hl2]; have := HK.out; omega))
  clear hw hc0 hl2 HC HW1
  go_wp2_with fail
  refine HP.out.mono ?_
  rintro e3 w3 ⟨rfl, hw⟩
  have hl3 : (m.L ++ [((J.mk 24 0 0 ⟨#[]⟩ m.ln) : J)] ++ c0 ++ [((J.mk 26 0 0 ⟨#[]⟩ m.ln) : J)]).length = m.L.length + lenR a 0 + 2 := by rw [List.length_append, HL2.out]; simp only [List.length_cons, List.length_nil]; omega
  have HL3 := hid hl3
  have HP := hid (put0 hw 6 0 0 ⟨#[]⟩ (by rw [hl3]; have := HK.out; omega))
  clear hw hl3
  go_wp2_with fail
  refine HP.out.mono ?_
  rintro e4 w4 ⟨rfl, hw⟩
  rw [HL3.out]
  have hl4 : (m.L ++ [((J.mk 24 0 0 ⟨#[]⟩ m.ln) : J)] ++ c0 ++ [((J.mk 26 0 0 ⟨#[]⟩ m.ln) : J)] ++ [((J.mk 6 0 0 ⟨#[]⟩ m.ln) : J)]).length = m.L.length + lenR a 0 + 3 := by rw [List.length_append, HL3.out]; rfl
  have HHE := hid (here_mid hw (A := m.L) (j := (J.mk 24 0 0 ⟨#[]⟩ m.ln)) (B := c0 ++ (J.mk 26 0 0 ⟨#[]⟩ m.ln) :: [(J.mk 6 0 0 ⟨#[]⟩ m.ln)]) (by simp) (k := m.L.length) rfl (by rw [hl4]; have := HK.out; omega))
  have HL4 := hid hl4
  clear hw hl4 HP
  go_wp2_with fail
  refine HHE.out.mono ?_
  rintro e5 w5 ⟨rfl, hw⟩
  try dsimp only at hw
  rw [HL4.out] at hw
  have HW5 := hid hw
  clear hw HHE
  have hl5 : (m.L ++ (J.mk 24 ((m.L.length + lenR a 0 + 3 : Nat) : Int) 0 ⟨#[]⟩ m.ln) :: (c0 ++ (J.mk 26 0 0 ⟨#[]⟩ m.ln) :: [(J.mk 6 0 0 ⟨#[]⟩ m.ln)]) : List J).length = m.L.length + lenR a 0 + 3 := by simp [HC0.out.1]; omega
  have HN5 := hid hl5
  have h95 : lenR b 5 ≤ lenR b 9 := by rw [HL5.out, HL9.out]; split <;> omega
  have HCD := hid (HCE.out b HCN.out.2.2.1 HCN.out.2.2.2 HRB.out D W V _ _ X C sv _ HVB.out HW5.out (by dsimp only; rw [hl5]; have := HK.out; omega))
  clear hl5 h95
  obtain ⟨⟨q0, q1⟩, ⟨q2, q3⟩, ⟨q4, q5⟩, q6, q7⟩ := HZ.out
  replace q0 := HW5.out.f.cell q0 not_false
  replace q1 := HW5.out.f.cell q1 not_false
  replace q2 := HW5.out.f.cell q2 not_false
  replace q3 := HW5.out.f.cell q3 not_false
  replace q4 := HW5.out.f.cell q4 not_false
  replace q5 := HW5.out.f.cell q5 not_false
  replace q6 := HW5.out.f.cell q6 not_false
  replace q7 := HW5.out.f.cell q7 not_false
  go_wp2_with fail
  refine HCD.out.mono ?_
  rintro e6 w6 ⟨hno, hyes⟩
  clear q0 q1 q2 q3 q4 q5 q6 q7
  clear HCD HW5
  by_cases hnil : b.l = []
  ·obtain ⟨rfl, hw⟩ := hno hnil
   have hz9 : lenR b 9 = 0 := by rw [HL9.out, hnil]; rfl
   have HBB := hid hz9
   have HW6 := hid hw
   clear hw hno hyes
   have HP := hid (put0 HW6.out 28 0 0 ⟨#[]⟩ (by rw [HN5.out]; have := HK.out; have := HBB.out; omega))
   go_wp2_with fail
   refine HP.out.mono ?_
   rintro e7 w7 ⟨rfl, hw⟩
   have hl7 : ((m.L ++ (J.mk 24 ((m.L.length + lenR a 0 + 3 : Nat) : Int) 0 ⟨#[]⟩ m.ln) :: (c0 ++ (J.mk 26 0 0 ⟨#[]⟩ m.ln) :: [(J.mk 6 0 0 ⟨#[]⟩ m.ln)])) ++ [((J.mk 28 0 0 ⟨#[]⟩ m.ln) : J)]).length = (m.L.length + lenR a 0 + 3) + 1 := by rw [List.length_append, HN5.out]; rfl
   have HP2 := hid (put0 hw 30 0 0 ⟨#[]⟩ (by rw [hl7]; have := HK.out; have := HBB.out; omega))
   clear hw HP HW6 hl7
   go_wp2_with fail
   refine HP2.out.mono ?_
   rintro e8 w8 ⟨rfl, hw⟩
   have HH := hid (show FC (fun z => z = m.ln) m.nb ((m.L.length + lenR a 0 + 3)) 2 ([(J.mk 28 0 0 ⟨#[]⟩ m.ln)] ++ [(J.mk 30 0 0 ⟨#[]⟩ m.ln)]) 1 from
    ((FC.put (PL := fun z => z = m.ln) (nb := m.nb) (n := (m.L.length + lenR a 0 + 3)) (j := (J.mk 28 0 0 ⟨#[]⟩ m.ln)) 0 1 FC.nil (fun m => by simp [goesJ]) (by simp) (fun e => by simp at e) (by simp [ndT]) (by simp [ndG]) (by simp [ndTB, ndGB]) (by omega) (by omega) rfl (d' := 1) (by omega)).put
     (j := (J.mk 30 0 0 ⟨#[]⟩ m.ln)) 0 0 (fun m => by simp [goesJ]) (by simp) (fun e => by simp at e) (by simp [ndT]) (by simp [ndG]) (by simp [ndTB, ndGB]) (by omega) (by omega) rfl (d' := 1) (by omega)))
   have HW9 := hid (hw.cast (L' := (m.L ++ (J.mk 24 ((m.L.length + lenR a 0 + 3 : Nat) : Int) 0 ⟨#[]⟩ m.ln) :: (c0 ++ (J.mk 26 0 0 ⟨#[]⟩ m.ln) :: [(J.mk 6 0 0 ⟨#[]⟩ m.ln)])) ++ ([(J.mk 28 0 0 ⟨#[]⟩ m.ln)] ++ [(J.mk 30 0 0 ⟨#[]⟩ m.ln)])) (by simp only [List.append_assoc]))
   clear hw HP2
   have HHE := hid (here_mid HW9.out (A := m.L ++ (J.mk 24 ((m.L.length + lenR a 0 + 3 : Nat) : Int) 0 ⟨#[]⟩ m.ln) :: (c0 ++ [(J.mk 26 0 0 ⟨#[]⟩ m.ln)])) (j := (J.mk 6 0 0 ⟨#[]⟩ m.ln)) (B := ([(J.mk 28 0 0 ⟨#[]⟩ m.ln)] ++ [(J.mk 30 0 0 ⟨#[]⟩ m.ln)])) (by simp) (k := m.L.length + lenR a 0 + 2) (by simp [HC0.out.1]; omega) (by rw [List.length_append, HN5.out, HH.out.1]; have := HK.out; have := HBB.out; omega))
   clear HW9
   go_wp2_with fail
   refine HHE.out.mono ?_
   rintro e9 w9 ⟨rfl, hw⟩
   try dsimp only at hw
   rw [List.length_append, HN5.out, HH.out.1] at hw
   have HW := hid hw
   clear hw HHE
   go_wp2_with fail
   go_end0
   refine ⟨rfl, _, ?_, HW.out.cast (L' := m.L ++ ([(J.mk 24 ((m.L.length + lenR a 0 + 3 : Nat) : Int) 0 ⟨#[]⟩ m.ln)] ++ c0 ++ [(J.mk 26 0 0 ⟨#[]⟩ m.ln)] ++ [(J.mk 6 ((m.L.length + lenR a 0 + 3 + 2 : Nat) : Int) 0 ⟨#[]⟩ m.ln)] ++ ([(J.mk 28 0 0 ⟨#[]⟩ m.ln)] ++ [(J.mk 30 0 0 ⟨#[]⟩ m.ln)]))) (by simp)⟩
   have h := FC.catch (t := 0) (l3 := m.ln) HC0.out (show FC _ _ (m.L.length + (lenR a 0 + 3)) _ _ _ from HH.out) (a1 := ((m.L.length + lenR a 0 + 3 : Nat) : Int)) (a2 := ((m.L.length + lenR a 0 + 3 + 2 : Nat) : Int)) (b1 := 0) (b2 := 0) (b3 := 0) (a3 := 0) (z1 := ⟨#[]⟩) (z2 := ⟨#[]⟩) (z3 := ⟨#[]⟩) (by omega) (by omega) rfl rfl rfl
   have hz := HBB.out
   rw [show catLen a b [] = lenR a 0 + 3 + 2 by unfold catLen; rw [hz]; (try dsimp only); (try omega)]
   exact h
  ·obtain ⟨cc, hcc, rfl, hw⟩ := hyes hnil
   try dsimp only at hcc hw
   rw [HN5.out] at hcc
   try dsimp only
   rw [HN5.out]
   have HCC := hid hcc
   have hz9 : lenR b 9 = sumR 1 b.l + 6 := by rw [HL9.out, if_neg (fun h => hnil (List.eq_nil_of_length_eq_zero h))]
   have HBB := hid hz9
   have hlc : ((m.L ++ (J.mk 24 ((m.L.length + lenR a 0 + 3 : Nat) : Int) 0 ⟨#[]⟩ m.ln) :: (c0 ++ (J.mk 26 0 0 ⟨#[]⟩ m.ln) :: [(J.mk 6 0 0 ⟨#[]⟩ m.ln)])) ++ cc ++ [(J.mk 27 0 0 ⟨#[]⟩ m.ln)] ++ [(J.mk 7 0 0 ⟨#[]⟩ m.ln)]).length = m.L.length + lenR a 0 + 3 + sumR 1 b.l + 4 := by rw [List.length_append, List.length_append, List.length_append, HN5.out, hcc.1]; simp only [List.length_cons, List.length_nil]; omega
   have HNC := hid hlc
   clear hcc hlc hz9 hnil
   have HW6 := hid hw
   clear hw hno hyes
   have HP := hid (put0 HW6.out 28 0 0 ⟨#[]⟩ (by rw [HNC.out]; have := HK.out; have := HBB.out; omega))
   go_wp2_with fail
   refine HP.out.mono ?_
   rintro e7 w7 ⟨rfl, hw⟩
   have hl7 : (((m.L ++ (J.mk 24 ((m.L.length + lenR a 0 + 3 : Nat) : Int) 0 ⟨#[]⟩ m.ln) :: (c0 ++ (J.mk 26 0 0 ⟨#[]⟩ m.ln) :: [(J.mk 6 0 0 ⟨#[]⟩ m.ln)])) ++ cc ++ [(J.mk 27 0 0 ⟨#[]⟩ m.ln)] ++ [(J.mk 7 0 0 ⟨#[]⟩ m.ln)]) ++ [((J.mk 28 0 0 ⟨#[]⟩ m.ln) : J)]).length = (m.L.length + lenR a 0 + 3 + sumR 1 b.l + 4) + 1 := by rw [List.length_append, HNC.out]; rfl
   have HP2 := hid (put0 hw 30 0 0 ⟨#[]⟩ (by rw [hl7]; have := HK.out; have := HBB.out; omega))
   clear hw HP HW6 hl7
   go_wp2_with fail
   refine HP2.out.mono ?_
   rintro e8 w8 ⟨rfl, hw⟩
   have HH := hid (show FC (fun z => z = m.ln) m.nb ((m.L.length + lenR a 0 + 3 + sumR 1 b.l + 4)) 2 ([(J.mk 28 0 0 ⟨#[]⟩ m.ln)] ++ [(J.mk 30 0 0 ⟨#[]⟩ m.ln)]) 1 from
    ((FC.put (PL := fun z => z = m.ln) (nb := m.nb) (n := (m.L.length + lenR a 0 + 3 + sumR 1 b.l + 4)) (j := (J.mk 28 0 0 ⟨#[]⟩ m.ln)) 0 1 FC.nil (fun m => by simp [goesJ]) (by simp) (fun e => by simp at e) (by simp [ndT]) (by simp [ndG]) (by simp [ndTB, ndGB]) (by omega) (by omega) rfl (d' := 1) (by omega)).put
     (j := (J.mk 30 0 0 ⟨#[]⟩ m.ln)) 0 0 (fun m => by simp [goesJ]) (by simp) (fun e => by simp at e) (by simp [ndT]) (by simp [ndG]) (by simp [ndTB, ndGB]) (by omega) (by omega) rfl (d' := 1) (by omega)))
   have HW9 := hid (hw.cast (L' := ((m.L ++ (J.mk 24 ((m.L.length + lenR a 0 + 3 : Nat) : Int) 0 ⟨#[]⟩ m.ln) :: (c0 ++ (J.mk 26 0 0 ⟨#[]⟩ m.ln) :: [(J.mk 6 0 0 ⟨#[]⟩ m.ln)])) ++ cc ++ [(J.mk 27 0 0 ⟨#[]⟩ m.ln)] ++ [(J.mk 7 0 0 ⟨#[]⟩ m.ln)]) ++ ([(J.mk 28 0 0 ⟨#[]⟩ m.ln)] ++ [(J.mk 30 0 0 ⟨#[]⟩ m.ln)])) (by simp only [List.append_assoc]))
   clear hw HP2
   have hneg : (0 : Int) ≤ ((m.L.length + lenR a 0 + 3 + (sumR 1 b.l + 3) : Nat) : Int) := by omega
   have hl9 : ((m.L ++ (J.mk 24 ((m.L.length + lenR a 0 + 3 : Nat) : Int) 0 ⟨#[]⟩ m.ln) :: (c0 ++ (J.mk 26 0 0 ⟨#[]⟩ m.ln) :: [(J.mk 6 0 0 ⟨#[]⟩ m.ln)])) ++ cc ++ [(J.mk 27 0 0 ⟨#[]⟩ m.ln)] ++ [(J.mk 7 0 0 ⟨#[]⟩ m.ln)] ++ ([(J.mk 28 0 0 ⟨#[]⟩ m.ln)] ++ [(J.mk 30 0 0 ⟨#[]⟩ m.ln)])).length = (m.L.length + lenR a 0 + 3 + sumR 1 b.l + 4 + 2) := by rw [List.length_append, HNC.out, HH.out.1]
   have HN9 := hid hl9
   have HP := hid (put0 HW9.out 6 0 0 ⟨#[]⟩ (by rw [hl9]; have := HK.out; have := HBB.out; omega))
   clear hl9 HW9
   go_wp2_with fail
   refine HP.out.mono ?_
   rintro e9 w9 ⟨rfl, hw⟩
   rw [HN9.out]
   have hl10 : ((m.L ++ (J.mk 24 ((m.L.length + lenR a 0 + 3 : Nat) : Int) 0 ⟨#[]⟩ m.ln) :: (c0 ++ (J.mk 26 0 0 ⟨#[]⟩ m.ln) :: [(J.mk 6 0 0 ⟨#[]⟩ m.ln)])) ++ cc ++ [(J.mk 27 0 0 ⟨#[]⟩ m.ln)] ++ [(J.mk 7 0 0 ⟨#[]⟩ m.ln)] ++ ([(J.mk 28 0 0 ⟨#[]⟩ m.ln)] ++ [(J.mk 30 0 0 ⟨#[]⟩ m.ln)]) ++ [((J.mk 6 0 0 ⟨#[]⟩ m.ln) : J)]).length = (m.L.length + lenR a 0 + 3 + sumR 1 b.l + 4 + 2) + 1 := by rw [List.length_append, HN9.out]; rfl
   have HHE := hid (here_mid hw (A := (m.L ++ (J.mk 24 ((m.L.length + lenR a 0 + 3 : Nat) : Int) 0 ⟨#[]⟩ m.ln) :: (c0 ++ (J.mk 26 0 0 ⟨#[]⟩ m.ln) :: [(J.mk 6 0 0 ⟨#[]⟩ m.ln)])) ++ cc ++ [(J.mk 27 0 0 ⟨#[]⟩ m.ln)]) (j := (J.mk 7 0 0 ⟨#[]⟩ m.ln)) (B := ([(J.mk 28 0 0 ⟨#[]⟩ m.ln)] ++ [(J.mk 30 0 0 ⟨#[]⟩ m.ln)]) ++ [(J.mk 6 0 0 ⟨#[]⟩ m.ln)]) (by simp) (k := m.L.length + lenR a 0 + 3 + (sumR 1 b.l + 3)) (by rw [List.length_append, List.length_append, HN5.out, HCC.out.1]; simp only [List.length_cons, List.length_nil]; omega) (by rw [hl10]; have := HK.out; have := HBB.out; omega))
   have HN10 := hid hl10
   clear hw hl10 HP
   go_wp2_with fail
   refine HHE.out.mono ?_
   rintro e10 w10 ⟨rfl, hw⟩
   try dsimp only at hw
   rw [HN10.out] at hw
   have hl11 : ((m.L ++ (J.mk 24 ((m.L.length + lenR a 0 + 3 : Nat) : Int) 0 ⟨#[]⟩ m.ln) :: (c0 ++ (J.mk 26 0 0 ⟨#[]⟩ m.ln) :: [(J.mk 6 0 0 ⟨#[]⟩ m.ln)])) ++ cc ++ [(J.mk 27 0 0 ⟨#[]⟩ m.ln)] ++ (J.mk 7 (((m.L.length + lenR a 0 + 3 + sumR 1 b.l + 4 + 2) + 1 : Nat) : Int) 0 ⟨#[]⟩ m.ln) :: (([(J.mk 28 0 0 ⟨#[]⟩ m.ln)] ++ [(J.mk 30 0 0 ⟨#[]⟩ m.ln)]) ++ [(J.mk 6 0 0 ⟨#[]⟩ m.ln)])).length = (m.L.length + lenR a 0 + 3 + sumR 1 b.l + 4 + 2) + 1 := by rw [← HN10.out]; simp
   have HP := hid (put0 hw 31 0 0 ⟨#[]⟩ (by rw [hl11]; have := HK.out; have := HBB.out; omega))
   have HN11 := hid hl11
   clear hw hl11 HHE
   go_wp2_with fail
   refine HP.out.mono ?_
   rintro e11 w11 ⟨rfl, hw⟩
   have hl12 : ((m.L ++ (J.mk 24 ((m.L.length + lenR a 0 + 3 : Nat) : Int) 0 ⟨#[]⟩ m.ln) :: (c0 ++ (J.mk 26 0 0 ⟨#[]⟩ m.ln) :: [(J.mk 6 0 0 ⟨#[]⟩ m.ln)])) ++ cc ++ [(J.mk 27 0 0 ⟨#[]⟩ m.ln)] ++ (J.mk 7 (((m.L.length + lenR a 0 + 3 + sumR 1 b.l + 4 + 2) + 1 : Nat) : Int) 0 ⟨#[]⟩ m.ln) :: (([(J.mk 28 0 0 ⟨#[]⟩ m.ln)] ++ [(J.mk 30 0 0 ⟨#[]⟩ m.ln)]) ++ [(J.mk 6 0 0 ⟨#[]⟩ m.ln)]) ++ [((J.mk 31 0 0 ⟨#[]⟩ m.ln) : J)]).length = (m.L.length + lenR a 0 + 3 + sumR 1 b.l + 4 + 2) + 2 := by rw [List.length_append, HN11.out]; rfl
   have HHE := hid (here_mid hw (A := (m.L ++ (J.mk 24 ((m.L.length + lenR a 0 + 3 : Nat) : Int) 0 ⟨#[]⟩ m.ln) :: (c0 ++ (J.mk 26 0 0 ⟨#[]⟩ m.ln) :: [(J.mk 6 0 0 ⟨#[]⟩ m.ln)])) ++ cc ++ [(J.mk 27 0 0 ⟨#[]⟩ m.ln)] ++ (J.mk 7 (((m.L.length + lenR a 0 + 3 + sumR 1 b.l + 4 + 2) + 1 : Nat) : Int) 0 ⟨#[]⟩ m.ln) :: ([(J.mk 28 0 0 ⟨#[]⟩ m.ln)] ++ [(J.mk 30 0 0 ⟨#[]⟩ m.ln)])) (j := (J.mk 6 0 0 ⟨#[]⟩ m.ln)) (B := [(J.mk 31 0 0 ⟨#[]⟩ m.ln)]) (by simp) (k := (m.L.length + lenR a 0 + 3 + sumR 1 b.l + 4 + 2)) (by rw [← HN9.out]; simp) (by rw [hl12]; have := HK.out; have := HBB.out; omega))
   have HN12 := hid hl12
   clear hw hl12 HP
   go_wp2_with fail
   refine HHE.out.mono ?_
   rintro e12 w12 ⟨rfl, hw⟩
   try dsimp only at hw
   rw [HN12.out] at hw
   have hl13 : ((m.L ++ (J.mk 24 ((m.L.length + lenR a 0 + 3 : Nat) : Int) 0 ⟨#[]⟩ m.ln) :: (c0 ++ (J.mk 26 0 0 ⟨#[]⟩ m.ln) :: [(J.mk 6 0 0 ⟨#[]⟩ m.ln)])) ++ cc ++ [(J.mk 27 0 0 ⟨#[]⟩ m.ln)] ++ (J.mk 7 (((m.L.length + lenR a 0 + 3 + sumR 1 b.l + 4 + 2) + 1 : Nat) : Int) 0 ⟨#[]⟩ m.ln) :: ([(J.mk 28 0 0 ⟨#[]⟩ m.ln)] ++ [(J.mk 30 0 0 ⟨#[]⟩ m.ln)]) ++ (J.mk 6 (((m.L.length + lenR a 0 + 3 + sumR 1 b.l + 4 + 2) + 2 : Nat) : Int) 0 ⟨#[]⟩ m.ln) :: [((J.mk 31 0 0 ⟨#[]⟩ m.ln) : J)]).length = (m.L.length + lenR a 0 + 3 + sumR 1 b.l + 4 + 2) + 2 := by rw [← HN12.out]; simp
   have HHE := hid (here_mid hw (A := m.L ++ (J.mk 24 ((m.L.length + lenR a 0 + 3 : Nat) : Int) 0 ⟨#[]⟩ m.ln) :: (c0 ++ [(J.mk 26 0 0 ⟨#[]⟩ m.ln)])) (j := (J.mk 6 0 0 ⟨#[]⟩ m.ln)) (B := cc ++ [(J.mk 27 0 0 ⟨#[]⟩ m.ln)] ++ (J.mk 7 (((m.L.length + lenR a 0 + 3 + sumR 1 b.l + 4 + 2) + 1 : Nat) : Int) 0 ⟨#[]⟩ m.ln) :: ([(J.mk 28 0 0 ⟨#[]⟩ m.ln)] ++ [(J.mk 30 0 0 ⟨#[]⟩ m.ln)]) ++ (J.mk 6 (((m.L.length + lenR a 0 + 3 + sumR 1 b.l + 4 + 2) + 2 : Nat) : Int) 0 ⟨#[]⟩ m.ln) :: [(J.mk 31 0 0 ⟨#[]⟩ m.ln)]) (by simp) (k := m.L.length + lenR a 0 + 2) (by simp [HC0.out.1]; omega) (by rw [hl13]; have := HK.out; have := HBB.out; omega))
   have HN13 := hid hl13
   clear hw hl13
   go_wp2_with fail
   refine HHE.out.mono ?_
   rintro e13 w13 ⟨rfl, hw⟩
   try dsimp only at hw
   rw [HN13.out] at hw
   have HW := hid hw
   clear hw HHE
   go_wp2_with fail
   go_end0
   refine ⟨rfl, _, ?_, HW.out.cast (L' := m.L ++ ([(J.mk 24 ((m.L.length + lenR a 0 + 3 : Nat) : Int) 0 ⟨#[]⟩ m.ln)] ++ c0 ++ [(J.mk 26 0 0 ⟨#[]⟩ m.ln)] ++ [(J.mk 6 (((m.L.length + lenR a 0 + 3 + sumR 1 b.l + 4 + 2) + 2 : Nat) : Int) 0 ⟨#[]⟩ m.ln)] ++ (cc ++ [(J.mk 27 0 0 ⟨#[]⟩ m.ln)] ++ [(J.mk 7 (((m.L.length + lenR a 0 + 3 + sumR 1 b.l + 4 + 2) + 1 : Nat) : Int) 0 ⟨#[]⟩ m.ln)] ++ ([(J.mk 28 0 0 ⟨#[]⟩ m.ln)] ++ [(J.mk 30 0 0 ⟨#[]⟩ m.ln)]) ++ [(J.mk 6 (((m.L.length + lenR a 0 + 3 + sumR 1 b.l + 4 + 2) + 2 : Nat) : Int) 0 ⟨#[]⟩ m.ln)] ++ [(J.mk 31 0 0 ⟨#[]⟩ m.ln)]))) (by simp)⟩
   have hx := FC.codes (t := (((m.L.length + lenR a 0 + 3 + sumR 1 b.l + 4 + 2) + 1 : Nat) : Int)) (a1 := 0) (b1 := 0) (b2 := 0) (z1 := ⟨#[]⟩) (z2 := ⟨#[]⟩) HCC.out (l1 := m.ln) (l2 := m.ln) rfl rfl
   have hh := hx.handler (show FC _ _ (m.L.length + lenR a 0 + 3 + (sumR 1 b.l + 2 + 2)) _ _ _ from HH.out) (a1 := (((m.L.length + lenR a 0 + 3 + sumR 1 b.l + 4 + 2) + 2 : Nat) : Int)) (b1 := 0) (a2 := 0) (b2 := 0) (z1 := ⟨#[]⟩) (z2 := ⟨#[]⟩) (l1 := m.ln) (l2 := m.ln) (by omega) (by omega) rfl rfl
   have h := FC.catch (t := 0) (l3 := m.ln) HC0.out (show FC _ _ (m.L.length + (lenR a 0 + 3)) _ _ _ from hh) (a1 := ((m.L.length + lenR a 0 + 3 : Nat) : Int)) (a2 := (((m.L.length + lenR a 0 + 3 + sumR 1 b.l + 4 + 2) + 2 : Nat) : Int)) (b1 := 0) (b2 := 0) (b3 := 0) (a3 := 0) (z1 := ⟨#[]⟩) (z2 := ⟨#[]⟩) (z3 := ⟨#[]⟩) (by omega) (by omega) rfl rfl rfl
   have hz := HBB.out
   rw [show catLen a b [] = lenR a 0 + 3 + (sumR 1 b.l + 2 + 2 + 2 + 2) by unfold catLen; rw [hz]; (try dsimp only); (try omega)]
   exact h
 | [e], _, hrr =>
  go_enter Tryz.func139, Tryz.ntmps139
  go_wp2_with fail
  refine HP.out.mono ?_
  rintro e1 w1 ⟨rfl, hw⟩
  have HW1 := hid hw
  clear hw HP
  obtain ⟨b3, o3, eva, ec1, ea, ec2, e3, -, hve, x0, x1, x2, x3, x4, x5, x6, x7⟩ := HV.out.at (k := 2) (y := e) rfl
  simp only [Option.some.injEq, Addr.mk.injEq] at e3
  obtain ⟨rfl, rfl, -⟩ := e3
  have HX := hid (And.intro (And.intro x0 x1) (And.intro (And.intro x2 x3) (And.intro (And.intro x4 x5) (And.intro x6 x7))))
  have HVE := hid hve
  have HRE := hid (hrr e (List.mem_cons_self ..))
  clear x0 x1 x2 x3 x4 x5 x6 x7 hve
  have hll : m.L.length + catLen a b [e] ≤ 1073741824 := HLL.out
  unfold catLen at hll
  try dsimp only at hll
  have HK := hid hll
  clear hll
  obtain ⟨⟨q0, q1⟩, ⟨q2, q3⟩, ⟨q4, q5⟩, q6, q7⟩ := HA.out
  replace q0 := HW1.out.f.cell q0 not_false
  replace q1 := HW1.out.f.cell q1 not_false
  replace q2 := HW1.out.f.cell q2 not_false
  replace q3 := HW1.out.f.cell q3 not_false
  replace q4 := HW1.out.f.cell q4 not_false
  replace q5 := HW1.out.f.cell q5 not_false
  replace q6 := HW1.out.f.cell q6 not_false
  replace q7 := HW1.out.f.cell q7 not_false
  have HC := hid (HIH.out a HCN.out.1 HCN.out.2.1 HRA.out D W V _ _ X C sv _ HVA.out HW1.out (by dsimp only; rw [List.length_append]; have := HK.out; simp only [List.length_cons, List.length_nil]; omega))
  go_wp2_with fail
  refine HC.out.mono ?_
  rintro e2 w2 ⟨rfl, c0, hc0, hw⟩
  clear q0 q1 q2 q3 q4 q5 q6 q7
  have HC0 := hid (show FC (fun z => z = m.ln) m.nb (m.L.length + 1) (lenR a 0) c0 1 by have h := hc0; dsimp only at h; rw [List.length_append] at h; exact h)
  have hl2 : (m.L ++ [((J.mk 24 0 0 ⟨#[]⟩ m.ln) : J)] ++ c0).length = m.L.length + 1 + lenR a 0 := by rw [List.length_append, List.length_append, hc0.1]; rfl
  have HL2 := hid hl2
  have HP := hid (put0 hw 26 0 0 ⟨#[]⟩ (by rw [hl2]; have := HK.out; omega))
  clear hw hc0 hl2 HC HW1
  go_wp2_with fail
  refine HP.out.mono ?_
  rintro e3 w3 ⟨rfl, hw⟩
  have hl3 : (m.L ++ [((J.mk 24 0 0 ⟨#[]⟩ m.ln) : J)] ++ c0 ++ [((J.mk 26 0 0 ⟨#[]⟩ m.ln) : J)]).length = m.L.length + lenR a 0 + 2 := by rw [List.length_append, HL2.out]; simp only [List.length_cons, List.length_nil]; omega
  have HL3 := hid hl3
  have HP := hid (put0 hw 6 0 0 ⟨#[]⟩ (by rw [hl3]; have := HK.out; omega))
  clear hw hl3
  go_wp2_with fail
  refine HP.out.mono ?_
  rintro e4 w4 ⟨rfl, hw⟩
  rw [HL3.out]
  have hl4 : (m.L ++ [((J.mk 24 0 0 ⟨#[]⟩ m.ln) : J)] ++ c0 ++ [((J.mk 26 0 0 ⟨#[]⟩ m.ln) : J)] ++ [((J.mk 6 0 0 ⟨#[]⟩ m.ln) : J)]).length = m.L.length + lenR a 0 + 3 := by rw [List.length_append, HL3.out]; rfl
  have HHE := hid (here_mid hw (A := m.L) (j := (J.mk 24 0 0 ⟨#[]⟩ m.ln)) (B := c0 ++ (J.mk 26 0 0 ⟨#[]⟩ m.ln) :: [(J.mk 6 0 0 ⟨#[]⟩ m.ln)]) (by simp) (k := m.L.length) rfl (by rw [hl4]; have := HK.out; omega))
  have HL4 := hid hl4
  clear hw hl4 HP
  go_wp2_with fail
  refine HHE.out.mono ?_
  rintro e5 w5 ⟨rfl, hw⟩
  try dsimp only at hw
  rw [HL4.out] at hw
  have HW5 := hid hw
  clear hw HHE
  have hl5 : (m.L ++ (J.mk 24 ((m.L.length + lenR a 0 + 3 : Nat) : Int) 0 ⟨#[]⟩ m.ln) :: (c0 ++ (J.mk 26 0 0 ⟨#[]⟩ m.ln) :: [(J.mk 6 0 0 ⟨#[]⟩ m.ln)]) : List J).length = m.L.length + lenR a 0 + 3 := by simp [HC0.out.1]; omega
  have HN5 := hid hl5
  have h95 : lenR b 5 ≤ lenR b 9 := by rw [HL5.out, HL9.out]; split <;> omega
  have HCD := hid (HCE.out b HCN.out.2.2.1 HCN.out.2.2.2 HRB.out D W V _ _ X C sv _ HVB.out HW5.out (by dsimp only; rw [hl5]; have := HK.out; omega))
  clear hl5 h95
  obtain ⟨⟨q0, q1⟩, ⟨q2, q3⟩, ⟨q4, q5⟩, q6, q7⟩ := HZ.out
  replace q0 := HW5.out.f.cell q0 not_false
  replace q1 := HW5.out.f.cell q1 not_false
  replace q2 := HW5.out.f.cell q2 not_false
  replace q3 := HW5.out.f.cell q3 not_false
  replace q4 := HW5.out.f.cell q4 not_false
  replace q5 := HW5.out.f.cell q5 not_false
  replace q6 := HW5.out.f.cell q6 not_false
  replace q7 := HW5.out.f.cell q7 not_false
  go_wp2_with fail
  refine HCD.out.mono ?_
  rintro e6 w6 ⟨hno, hyes⟩
  clear q0 q1 q2 q3 q4 q5 q6 q7
  clear HCD HW5
  by_cases hnil : b.l = []
  ·obtain ⟨rfl, hw⟩ := hno hnil
   have hz9 : lenR b 9 = 0 := by rw [HL9.out, hnil]; rfl
   have HBB := hid hz9
   have HW6 := hid hw
   clear hw hno hyes
   have HP := hid (put0 HW6.out 30 0 0 ⟨#[]⟩ (by rw [HN5.out]; have := HK.out; have := HBB.out; omega))
   go_wp2_with fail
   refine HP.out.mono ?_
   rintro e7 w7 ⟨rfl, hw⟩
   have hl7 : ((m.L ++ (J.mk 24 ((m.L.length + lenR a 0 + 3 : Nat) : Int) 0 ⟨#[]⟩ m.ln) :: (c0 ++ (J.mk 26 0 0 ⟨#[]⟩ m.ln) :: [(J.mk 6 0 0 ⟨#[]⟩ m.ln)])) ++ [((J.mk 30 0 0 ⟨#[]⟩ m.ln) : J)]).length = (m.L.length + lenR a 0 + 3) + 1 := by rw [List.length_append, HN5.out]; rfl
   have HW7 := hid hw
   have hx := Nd.cnt_eq e
   have hcne : e.cnt < N ∧ e.sz ≤ 1048576 := by have h := HS.out; simp only [cntL, szL] at h; omega
   have HC := hid (HIH.out e hcne.1 hcne.2 HRE.out D W V _ _ X C sv _ HVE.out HW7.out (by dsimp only; rw [hl7]; have := HK.out; have := HBB.out; omega))
   clear hw HP hx hcne HW6
   obtain ⟨⟨q0, q1⟩, ⟨q2, q3⟩, ⟨q4, q5⟩, q6, q7⟩ := HX.out
   replace q0 := HW7.out.f.cell q0 not_false
   replace q1 := HW7.out.f.cell q1 not_false
   replace q2 := HW7.out.f.cell q2 not_false
   replace q3 := HW7.out.f.cell q3 not_false
   replace q4 := HW7.out.f.cell q4 not_false
   replace q5 := HW7.out.f.cell q5 not_false
   replace q6 := HW7.out.f.cell q6 not_false
   replace q7 := HW7.out.f.cell q7 not_false
   go_wp2_with fail
   refine HC.out.mono ?_
   rintro e8 w8 ⟨rfl, c3, hc3, hw⟩
   clear q0 q1 q2 q3 q4 q5 q6 q7
   try dsimp only at hc3 hw
   rw [hl7] at hc3
   have HH := hid (show FC (fun z => z = m.ln) m.nb ((m.L.length + lenR a 0 + 3)) (lenR e 0 + 1) ([(J.mk 30 0 0 ⟨#[]⟩ m.ln)] ++ c3) 1 by
    have h := (FC.put (PL := fun z => z = m.ln) (nb := m.nb) (n := (m.L.length + lenR a 0 + 3)) (j := (J.mk 30 0 0 ⟨#[]⟩ m.ln)) 0 0 FC.nil (fun m => by simp [goesJ]) (by simp) (fun e => by simp at e) (by simp [ndT]) (by simp [ndG]) (by simp [ndTB, ndGB]) (by omega) (by omega) rfl (d' := 0) (by omega)).cat hc3
    rw [show lenR e 0 + 1 = 0 + 1 + lenR e 0 by omega]
    exact h)
   have HW9 := hid (hw.cast (L' := (m.L ++ (J.mk 24 ((m.L.length + lenR a 0 + 3 : Nat) : Int) 0 ⟨#[]⟩ m.ln) :: (c0 ++ (J.mk 26 0 0 ⟨#[]⟩ m.ln) :: [(J.mk 6 0 0 ⟨#[]⟩ m.ln)])) ++ ([(J.mk 30 0 0 ⟨#[]⟩ m.ln)] ++ c3)) (by simp only [List.append_assoc]))
   clear hw hc3 hl7 HC HW7
   have HHE := hid (here_mid HW9.out (A := m.L ++ (J.mk 24 ((m.L.length + lenR a 0 + 3 : Nat) : Int) 0 ⟨#[]⟩ m.ln) :: (c0 ++ [(J.mk 26 0 0 ⟨#[]⟩ m.ln)])) (j := (J.mk 6 0 0 ⟨#[]⟩ m.ln)) (B := ([(J.mk 30 0 0 ⟨#[]⟩ m.ln)] ++ c3)) (by simp) (k := m.L.length + lenR a 0 + 2) (by simp [HC0.out.1]; omega) (by rw [List.length_append, HN5.out, HH.out.1]; have := HK.out; have := HBB.out; omega))
   clear HW9
   go_wp2_with fail
   refine HHE.out.mono ?_
   rintro e9 w9 ⟨rfl, hw⟩
   try dsimp only at hw
   rw [List.length_append, HN5.out, HH.out.1] at hw
   have HW := hid hw
   clear hw HHE
   go_wp2_with fail
   go_end0
   refine ⟨rfl, _, ?_, HW.out.cast (L' := m.L ++ ([(J.mk 24 ((m.L.length + lenR a 0 + 3 : Nat) : Int) 0 ⟨#[]⟩ m.ln)] ++ c0 ++ [(J.mk 26 0 0 ⟨#[]⟩ m.ln)] ++ [(J.mk 6 ((m.L.length + lenR a 0 + 3 + (lenR e 0 + 1) : Nat) : Int) 0 ⟨#[]⟩ m.ln)] ++ ([(J.mk 30 0 0 ⟨#[]⟩ m.ln)] ++ c3))) (by simp)⟩
   have h := FC.catch (t := 0) (l3 := m.ln) HC0.out (show FC _ _ (m.L.length + (lenR a 0 + 3)) _ _ _ from HH.out) (a1 := ((m.L.length + lenR a 0 + 3 : Nat) : Int)) (a2 := ((m.L.length + lenR a 0 + 3 + (lenR e 0 + 1) : Nat) : Int)) (b1 := 0) (b2 := 0) (b3 := 0) (a3 := 0) (z1 := ⟨#[]⟩) (z2 := ⟨#[]⟩) (z3 := ⟨#[]⟩) (by omega) (by omega) rfl rfl rfl
   have hz := HBB.out
   rw [show catLen a b [e] = lenR a 0 + 3 + (lenR e 0 + 1) by unfold catLen; rw [hz]; (try dsimp only); (try omega)]
   exact h
  ·obtain ⟨cc, hcc, rfl, hw⟩ := hyes hnil
   try dsimp only at hcc hw
   rw [HN5.out] at hcc
   try dsimp only
   rw [HN5.out]
   have HCC := hid hcc
   have hz9 : lenR b 9 = sumR 1 b.l + 6 := by rw [HL9.out, if_neg (fun h => hnil (List.eq_nil_of_length_eq_zero h))]
   have HBB := hid hz9
   have hlc : ((m.L ++ (J.mk 24 ((m.L.length + lenR a 0 + 3 : Nat) : Int) 0 ⟨#[]⟩ m.ln) :: (c0 ++ (J.mk 26 0 0 ⟨#[]⟩ m.ln) :: [(J.mk 6 0 0 ⟨#[]⟩ m.ln)])) ++ cc ++ [(J.mk 27 0 0 ⟨#[]⟩ m.ln)] ++ [(J.mk 7 0 0 ⟨#[]⟩ m.ln)]).length = m.L.length + lenR a 0 + 3 + sumR 1 b.l + 4 := by rw [List.length_append, List.length_append, List.length_append, HN5.out, hcc.1]; simp only [List.length_cons, List.length_nil]; omega
   have HNC := hid hlc
   clear hcc hlc hz9 hnil
   have HW6 := hid hw
   clear hw hno hyes
   have HP := hid (put0 HW6.out 30 0 0 ⟨#[]⟩ (by rw [HNC.out]; have := HK.out; have := HBB.out; omega))
   go_wp2_with fail
   refine HP.out.mono ?_
   rintro e7 w7 ⟨rfl, hw⟩
   have hl7 : (((m.L ++ (J.mk 24 ((m.L.length + lenR a 0 + 3 : Nat) : Int) 0 ⟨#[]⟩ m.ln) :: (c0 ++ (J.mk 26 0 0 ⟨#[]⟩ m.ln) :: [(J.mk 6 0 0 ⟨#[]⟩ m.ln)])) ++ cc ++ [(J.mk 27 0 0 ⟨#[]⟩ m.ln)] ++ [(J.mk 7 0 0 ⟨#[]⟩ m.ln)]) ++ [((J.mk 30 0 0 ⟨#[]⟩ m.ln) : J)]).length = (m.L.length + lenR a 0 + 3 + sumR 1 b.l + 4) + 1 := by rw [List.length_append, HNC.out]; rfl
   have HW7 := hid hw
   have hx := Nd.cnt_eq e
   have hcne : e.cnt < N ∧ e.sz ≤ 1048576 := by have h := HS.out; simp only [cntL, szL] at h; omega
   have HC := hid (HIH.out e hcne.1 hcne.2 HRE.out D W V _ _ X C sv _ HVE.out HW7.out (by dsimp only; rw [hl7]; have := HK.out; have := HBB.out; omega))
   clear hw HP hx hcne HW6
   obtain ⟨⟨q0, q1⟩, ⟨q2, q3⟩, ⟨q4, q5⟩, q6, q7⟩ := HX.out
   replace q0 := HW7.out.f.cell q0 not_false
   replace q1 := HW7.out.f.cell q1 not_false
   replace q2 := HW7.out.f.cell q2 not_false
   replace q3 := HW7.out.f.cell q3 not_false
   replace q4 := HW7.out.f.cell q4 not_false
   replace q5 := HW7.out.f.cell q5 not_false
   replace q6 := HW7.out.f.cell q6 not_false
   replace q7 := HW7.out.f.cell q7 not_false
   go_wp2_with fail
   refine HC.out.mono ?_
   rintro e8 w8 ⟨rfl, c3, hc3, hw⟩
   clear q0 q1 q2 q3 q4 q5 q6 q7
   try dsimp only at hc3 hw
   rw [hl7] at hc3
   have HH := hid (show FC (fun z => z = m.ln) m.nb ((m.L.length + lenR a 0 + 3 + sumR 1 b.l + 4)) (lenR e 0 + 1) ([(J.mk 30 0 0 ⟨#[]⟩ m.ln)] ++ c3) 1 by
    have h := (FC.put (PL := fun z => z = m.ln) (nb := m.nb) (n := (m.L.length + lenR a 0 + 3 + sumR 1 b.l + 4)) (j := (J.mk 30 0 0 ⟨#[]⟩ m.ln)) 0 0 FC.nil (fun m => by simp [goesJ]) (by simp) (fun e => by simp at e) (by simp [ndT]) (by simp [ndG]) (by simp [ndTB, ndGB]) (by omega) (by omega) rfl (d' := 0) (by omega)).cat hc3
    rw [show lenR e 0 + 1 = 0 + 1 + lenR e 0 by omega]
    exact h)
   have HW9 := hid (hw.cast (L' := ((m.L ++ (J.mk 24 ((m.L.length + lenR a 0 + 3 : Nat) : Int) 0 ⟨#[]⟩ m.ln) :: (c0 ++ (J.mk 26 0 0 ⟨#[]⟩ m.ln) :: [(J.mk 6 0 0 ⟨#[]⟩ m.ln)])) ++ cc ++ [(J.mk 27 0 0 ⟨#[]⟩ m.ln)] ++ [(J.mk 7 0 0 ⟨#[]⟩ m.ln)]) ++ ([(J.mk 30 0 0 ⟨#[]⟩ m.ln)] ++ c3)) (by simp only [List.append_assoc]))
   clear hw hc3 hl7 HC HW7
   have hneg : (0 : Int) ≤ ((m.L.length + lenR a 0 + 3 + (sumR 1 b.l + 3) : Nat) : Int) := by omega
   have hl9 : ((m.L ++ (J.mk 24 ((m.L.length + lenR a 0 + 3 : Nat) : Int) 0 ⟨#[]⟩ m.ln) :: (c0 ++ (J.mk 26 0 0 ⟨#[]⟩ m.ln) :: [(J.mk 6 0 0 ⟨#[]⟩ m.ln)])) ++ cc ++ [(J.mk 27 0 0 ⟨#[]⟩ m.ln)] ++ [(J.mk 7 0 0 ⟨#[]⟩ m.ln)] ++ ([(J.mk 30 0 0 ⟨#[]⟩ m.ln)] ++ c3)).length = (m.L.length + lenR a 0 + 3 + sumR 1 b.l + 4 + (lenR e 0 + 1)) := by rw [List.length_append, HNC.out, HH.out.1]
   have HN9 := hid hl9
   have HP := hid (put0 HW9.out 6 0 0 ⟨#[]⟩ (by rw [hl9]; have := HK.out; have := HBB.out; omega))
   clear hl9 HW9
   go_wp2_with fail
   refine HP.out.mono ?_
   rintro e9 w9 ⟨rfl, hw⟩
   rw [HN9.out]
   have hl10 : ((m.L ++ (J.mk 24 ((m.L.length + lenR a 0 + 3 : Nat) : Int) 0 ⟨#[]⟩ m.ln) :: (c0 ++ (J.mk 26 0 0 ⟨#[]⟩ m.ln) :: [(J.mk 6 0 0 ⟨#[]⟩ m.ln)])) ++ cc ++ [(J.mk 27 0 0 ⟨#[]⟩ m.ln)] ++ [(J.mk 7 0 0 ⟨#[]⟩ m.ln)] ++ ([(J.mk 30 0 0 ⟨#[]⟩ m.ln)] ++ c3) ++ [((J.mk 6 0 0 ⟨#[]⟩ m.ln) : J)]).length = (m.L.length + lenR a 0 + 3 + sumR 1 b.l + 4 + (lenR e 0 + 1)) + 1 := by rw [List.length_append, HN9.out]; rfl
   have HHE := hid (here_mid hw (A := (m.L ++ (J.mk 24 ((m.L.length + lenR a 0 + 3 : Nat) : Int) 0 ⟨#[]⟩ m.ln) :: (c0 ++ (J.mk 26 0 0 ⟨#[]⟩ m.ln) :: [(J.mk 6 0 0 ⟨#[]⟩ m.ln)])) ++ cc ++ [(J.mk 27 0 0 ⟨#[]⟩ m.ln)]) (j := (J.mk 7 0 0 ⟨#[]⟩ m.ln)) (B := ([(J.mk 30 0 0 ⟨#[]⟩ m.ln)] ++ c3) ++ [(J.mk 6 0 0 ⟨#[]⟩ m.ln)]) (by simp) (k := m.L.length + lenR a 0 + 3 + (sumR 1 b.l + 3)) (by rw [List.length_append, List.length_append, HN5.out, HCC.out.1]; simp only [List.length_cons, List.length_nil]; omega) (by rw [hl10]; have := HK.out; have := HBB.out; omega))
   have HN10 := hid hl10
   clear hw hl10 HP
   go_wp2_with fail
   refine HHE.out.mono ?_
   rintro e10 w10 ⟨rfl, hw⟩
   try dsimp only at hw
   rw [HN10.out] at hw
   have hl11 : ((m.L ++ (J.mk 24 ((m.L.length + lenR a 0 + 3 : Nat) : Int) 0 ⟨#[]⟩ m.ln) :: (c0 ++ (J.mk 26 0 0 ⟨#[]⟩ m.ln) :: [(J.mk 6 0 0 ⟨#[]⟩ m.ln)])) ++ cc ++ [(J.mk 27 0 0 ⟨#[]⟩ m.ln)] ++ (J.mk 7 (((m.L.length + lenR a 0 + 3 + sumR 1 b.l + 4 + (lenR e 0 + 1)) + 1 : Nat) : Int) 0 ⟨#[]⟩ m.ln) :: (([(J.mk 30 0 0 ⟨#[]⟩ m.ln)] ++ c3) ++ [(J.mk 6 0 0 ⟨#[]⟩ m.ln)])).length = (m.L.length + lenR a 0 + 3 + sumR 1 b.l + 4 + (lenR e 0 + 1)) + 1 := by rw [← HN10.out]; simp
   have HP := hid (put0 hw 31 0 0 ⟨#[]⟩ (by rw [hl11]; have := HK.out; have := HBB.out; omega))
   have HN11 := hid hl11
   clear hw hl11 HHE
   go_wp2_with fail
   refine HP.out.mono ?_
   rintro e11 w11 ⟨rfl, hw⟩
   have hl12 : ((m.L ++ (J.mk 24 ((m.L.length + lenR a 0 + 3 : Nat) : Int) 0 ⟨#[]⟩ m.ln) :: (c0 ++ (J.mk 26 0 0 ⟨#[]⟩ m.ln) :: [(J.mk 6 0 0 ⟨#[]⟩ m.ln)])) ++ cc ++ [(J.mk 27 0 0 ⟨#[]⟩ m.ln)] ++ (J.mk 7 (((m.L.length + lenR a 0 + 3 + sumR 1 b.l + 4 + (lenR e 0 + 1)) + 1 : Nat) : Int) 0 ⟨#[]⟩ m.ln) :: (([(J.mk 30 0 0 ⟨#[]⟩ m.ln)] ++ c3) ++ [(J.mk 6 0 0 ⟨#[]⟩ m.ln)]) ++ [((J.mk 31 0 0 ⟨#[]⟩ m.ln) : J)]).length = (m.L.length + lenR a 0 + 3 + sumR 1 b.l + 4 + (lenR e 0 + 1)) + 2 := by rw [List.length_append, HN11.out]; rfl
   have HHE := hid (here_mid hw (A := (m.L ++ (J.mk 24 ((m.L.length + lenR a 0 + 3 : Nat) : Int) 0 ⟨#[]⟩ m.ln) :: (c0 ++ (J.mk 26 0 0 ⟨#[]⟩ m.ln) :: [(J.mk 6 0 0 ⟨#[]⟩ m.ln)])) ++ cc ++ [(J.mk 27 0 0 ⟨#[]⟩ m.ln)] ++ (J.mk 7 (((m.L.length + lenR a 0 + 3 + sumR 1 b.l + 4 + (lenR e 0 + 1)) + 1 : Nat) : Int) 0 ⟨#[]⟩ m.ln) :: ([(J.mk 30 0 0 ⟨#[]⟩ m.ln)] ++ c3)) (j := (J.mk 6 0 0 ⟨#[]⟩ m.ln)) (B := [(J.mk 31 0 0 ⟨#[]⟩ m.ln)]) (by simp) (k := (m.L.length + lenR a 0 + 3 + sumR 1 b.l + 4 + (lenR e 0 + 1))) (by rw [← HN9.out]; simp) (by rw [hl12]; have := HK.out; have := HBB.out; omega))
   have HN12 := hid hl12
   clear hw hl12 HP
   go_wp2_with fail
   refine HHE.out.mono ?_
   rintro e12 w12 ⟨rfl, hw⟩
   try dsimp only at hw
   rw [HN12.out] at hw
   have hl13 : ((m.L ++ (J.mk 24 ((m.L.length + lenR a 0 + 3 : Nat) : Int) 0 ⟨#[]⟩ m.ln) :: (c0 ++ (J.mk 26 0 0 ⟨#[]⟩ m.ln) :: [(J.mk 6 0 0 ⟨#[]⟩ m.ln)])) ++ cc ++ [(J.mk 27 0 0 ⟨#[]⟩ m.ln)] ++ (J.mk 7 (((m.L.length + lenR a 0 + 3 + sumR 1 b.l + 4 + (lenR e 0 + 1)) + 1 : Nat) : Int) 0 ⟨#[]⟩ m.ln) :: ([(J.mk 30 0 0 ⟨#[]⟩ m.ln)] ++ c3) ++ (J.mk 6 (((m.L.length + lenR a 0 + 3 + sumR 1 b.l + 4 + (lenR e 0 + 1)) + 2 : Nat) : Int) 0 ⟨#[]⟩ m.ln) :: [((J.mk 31 0 0 ⟨#[]⟩ m.ln) : J)]).length = (m.L.length + lenR a 0 + 3 + sumR 1 b.l + 4 + (lenR e 0 + 1)) + 2 := by rw [← HN12.out]; simp
   have HHE := hid (here_mid hw (A := m.L ++ (J.mk 24 ((m.L.length + lenR a 0 + 3 : Nat) : Int) 0 ⟨#[]⟩ m.ln) :: (c0 ++ [(J.mk 26 0 0 ⟨#[]⟩ m.ln)])) (j := (J.mk 6 0 0 ⟨#[]⟩ m.ln)) (B := cc ++ [(J.mk 27 0 0 ⟨#[]⟩ m.ln)] ++ (J.mk 7 (((m.L.length + lenR a 0 + 3 + sumR 1 b.l + 4 + (lenR e 0 + 1)) + 1 : Nat) : Int) 0 ⟨#[]⟩ m.ln) :: ([(J.mk 30 0 0 ⟨#[]⟩ m.ln)] ++ c3) ++ (J.mk 6 (((m.L.length + lenR a 0 + 3 + sumR 1 b.l + 4 + (lenR e 0 + 1)) + 2 : Nat) : Int) 0 ⟨#[]⟩ m.ln) :: [(J.mk 31 0 0 ⟨#[]⟩ m.ln)]) (by simp) (k := m.L.length + lenR a 0 + 2) (by simp [HC0.out.1]; omega) (by rw [hl13]; have := HK.out; have := HBB.out; omega))
   have HN13 := hid hl13
   clear hw hl13
   go_wp2_with fail
   refine HHE.out.mono ?_
   rintro e13 w13 ⟨rfl, hw⟩
   try dsimp only at hw
   rw [HN13.out] at hw
   have HW := hid hw
   clear hw HHE
   go_wp2_with fail
   go_end0
   refine ⟨rfl, _, ?_, HW.out.cast (L' := m.L ++ ([(J.mk 24 ((m.L.length + lenR a 0 + 3 : Nat) : Int) 0 ⟨#[]⟩ m.ln)] ++ c0 ++ [(J.mk 26 0 0 ⟨#[]⟩ m.ln)] ++ [(J.mk 6 (((m.L.length + lenR a 0 + 3 + sumR 1 b.l + 4 + (lenR e 0 + 1)) + 2 : Nat) : Int) 0 ⟨#[]⟩ m.ln)] ++ (cc ++ [(J.mk 27 0 0 ⟨#[]⟩ m.ln)] ++ [(J.mk 7 (((m.L.length + lenR a 0 + 3 + sumR 1 b.l + 4 + (lenR e 0 + 1)) + 1 : Nat) : Int) 0 ⟨#[]⟩ m.ln)] ++ ([(J.mk 30 0 0 ⟨#[]⟩ m.ln)] ++ c3) ++ [(J.mk 6 (((m.L.length + lenR a 0 + 3 + sumR 1 b.l + 4 + (lenR e 0 + 1)) + 2 : Nat) : Int) 0 ⟨#[]⟩ m.ln)] ++ [(J.mk 31 0 0 ⟨#[]⟩ m.ln)]))) (by simp)⟩
   have hx := FC.codes (t := (((m.L.length + lenR a 0 + 3 + sumR 1 b.l + 4 + (lenR e 0 + 1)) + 1 : Nat) : Int)) (a1 := 0) (b1 := 0) (b2 := 0) (z1 := ⟨#[]⟩) (z2 := ⟨#[]⟩) HCC.out (l1 := m.ln) (l2 := m.ln) rfl rfl
   have hh := hx.handler (show FC _ _ (m.L.length + lenR a 0 + 3 + (sumR 1 b.l + 2 + 2)) _ _ _ from HH.out) (a1 := (((m.L.length + lenR a 0 + 3 + sumR 1 b.l + 4 + (lenR e 0 + 1)) + 2 : Nat) : Int)) (b1 := 0) (a2 := 0) (b2 := 0) (z1 := ⟨#[]⟩) (z2 := ⟨#[]⟩) (l1 := m.ln) (l2 := m.ln) (by omega) (by omega) rfl rfl
   have h := FC.catch (t := 0) (l3 := m.ln) HC0.out (show FC _ _ (m.L.length + (lenR a 0 + 3)) _ _ _ from hh) (a1 := ((m.L.length + lenR a 0 + 3 : Nat) : Int)) (a2 := (((m.L.length + lenR a 0 + 3 + sumR 1 b.l + 4 + (lenR e 0 + 1)) + 2 : Nat) : Int)) (b1 := 0) (b2 := 0) (b3 := 0) (a3 := 0) (z1 := ⟨#[]⟩) (z2 := ⟨#[]⟩) (z3 := ⟨#[]⟩) (by omega) (by omega) rfl rfl rfl
   have hz := HBB.out
   rw [show catLen a b [e] = lenR a 0 + 3 + (sumR 1 b.l + 2 + 2 + (lenR e 0 + 1) + 2) by unfold catLen; rw [hz]; (try dsimp only); (try omega)]
   exact h
end
section
open Go.Shelf
def Tryz.lays156_ren : Go.Shelf.Ren := ⟨fun | 156 => 148 | 165 => 151 | 166 => 152 | 169 => 153 | 240 => 155 | 241 => 156 | 276 => 157 | 277 => 158 | n => n, fun | 31 => 50 | 9 => 9 | 3 => 3 | 4 => 4 | 0 => 0 | 20 => 20 | 72 => 192 | 76 => 193 | 70 => 190 | 37 => 30 | 75 => 27 | 127 => 196 | 164 => 197 | 5 => 5 | 80 => 195 | n => n, fun | n => n⟩
theorem Tryz.lays156 : Go.Proofs.Lays.n156 Tryz.prog Tryz.lays156_ren := {
 mixed := by kernel_rfl
 f156 := Tryz.func148.trans (congrArg some (by kernel_rfl))
 f165 := Tryz.func151.trans (congrArg some (by kernel_rfl))
 f166 := Tryz.func152.trans (congrArg some (by kernel_rfl))
 f169 := Tryz.func153.trans (congrArg some (by kernel_rfl))
 f240 := Tryz.func155.trans (congrArg some (by kernel_rfl))
 f241 := Tryz.func156.trans (congrArg some (by kernel_rfl))
 f276 := Tryz.func157.trans (congrArg some (by kernel_rfl))
 f277 := Tryz.func158.trans (congrArg some (by kernel_rfl))
 t0 := Tryz.underlying0
 a0 := Tryz.isAgg0
 z0 := Tryz.sizeOf0
 v0 := Tryz.zeroValue0
 t3 := Tryz.underlying3
 a3 := Tryz.isAgg3
 z3 := Tryz.sizeOf3
 v3 := Tryz.zeroValue3
 t4 := Tryz.underlying4
 a4 := Tryz.isAgg4
 z4 := Tryz.sizeOf4
 v4 := Tryz.zeroValue4
 t9 := Tryz.underlying9
 a9 := Tryz.isAgg9
 z9 := Tryz.sizeOf9
 v9 := Tryz.zeroValue9
 t20 := Tryz.underlying20
 a20 := Tryz.isAgg20
 z20 := Tryz.sizeOf20
 v20 := Tryz.zeroValue20
 t31 := Tryz.underlying50
 a31 := Tryz.isAgg50
 z31 := Tryz.sizeOf50
 v31 := Tryz.zeroValue50
 t37 := Tryz.underlying30
 a37 := Tryz.isAgg30
 z37 := Tryz.sizeOf30
 v37 := Tryz.zeroValue30
 t70 := Tryz.underlying190
 a70 := Tryz.isAgg190
 z70 := Tryz.sizeOf190
 v70 := Tryz.zeroValue190
 t72 := Tryz.underlying192
 a72 := Tryz.isAgg192
 z72 := Tryz.sizeOf192
 v72 := Tryz.zeroValue192
 t75 := Tryz.underlying27
 a75 := Tryz.isAgg27
 z75 := Tryz.sizeOf27
 v75 := Tryz.zeroValue27
 t76 := Tryz.underlying193
 a76 := Tryz.isAgg193
 z76 := Tryz.sizeOf193
 v76 := Tryz.zeroValue193
 t127 := Tryz.underlying196
 a127 := Tryz.isAgg196
 z127 := Tryz.sizeOf196
 v127 := Tryz.zeroValue196
 t164 := Tryz.underlying197
 a164 := Tryz.isAgg197
 z164 := Tryz.sizeOf197
 v164 := Tryz.zeroValue197 }
theorem Tryz.extra156 : Builder.Extra Tryz.prog Tryz.lays156_ren := {
 sizeBuilder := by kernel_rfl
 liesBuilder := by kernel_rfl
 t5 := Tryz.underlying5
 a5 := Tryz.isAgg5
 z5 := Tryz.sizeOf5
 v5 := Tryz.zeroValue5
 infoByte := by kernel_rfl
 cellsByte := by kernel_rfl
 sizeByte := by kernel_rfl
 neB5 := by decide }
def Tryz.reverseN_ren : Go.Shelf.Ren := ⟨fun | 35 => 147 | n => n, fun | 22 => 22 | 23 => 75 | 3 => 3 | 4 => 4 | 0 => 0 | n => n, fun | n => n⟩
theorem Tryz.reverseN : Go.Proofs.SlLaysE0.n35 Tryz.prog Tryz.reverseN_ren := {
 mixed := by kernel_rfl
 f35 := ⟨Tryz.f147.name, by decide, Tryz.func147.trans (congrArg some (by kernel_rfl))⟩
 t0 := Tryz.underlying0
 a0 := Tryz.isAgg0
 z0 := Tryz.sizeOf0
 v0 := Tryz.zeroValue0
 t3 := Tryz.underlying3
 a3 := Tryz.isAgg3
 z3 := Tryz.sizeOf3
 v3 := Tryz.zeroValue3
 t4 := Tryz.underlying4
 a4 := Tryz.isAgg4
 z4 := Tryz.sizeOf4
 v4 := Tryz.zeroValue4
 t22 := Tryz.underlying22
 a22 := Tryz.isAgg22
 z22 := Tryz.sizeOf22
 v22 := Tryz.zeroValue22 }
end
section
open Go.RowKit
variable {W V w w' : World} {X C : Nat} {sv : Value} {m : MS}
theorem Fr.of_below {w w' : World} (h : Below w.heap.size w w') : Fr (fun _ => False) w w' := ⟨h.os, h.tape, h.output, h.size, fun k hk _ => h.block k hk⟩
theorem Tryz.info_text : (Tryz.prog.info? 9).map (fun i => (i.zero, i.size, i.bytes)) = some (some (.string ⟨#[]⟩), 1, 16) := by kernel_rfl
theorem lens_le (B : Nat) : ∀ (l : List ByteArray), (∀ s ∈ l, s.size ≤ B) → Lib.lens (l.map (·.data.toList)) ≤ l.length * B
 | [], _ => Nat.zero_le _
 | y :: t, hl => by
  have h1 := lens_le B t fun s hs => hl s (List.mem_cons_of_mem _ hs)
  have h2 := hl y (List.mem_cons_self ..)
  have h3 : y.data.toList.length = y.size := by rw [Array.length_toList]; rfl
  rw [List.length_cons, Nat.succ_mul]
  show Lib.lens (y.data.toList :: t.map (·.data.toList)) ≤ _
  rw [show Lib.lens (y.data.toList :: t.map (·.data.toList)) = y.data.toList.length + Lib.lens (t.map (·.data.toList)) from rfl, h3]
  omega
theorem join_small (B : Nat) (sep : List UInt8) (hs : sep.length ≤ 1) (L : List ByteArray) (h : ∀ s ∈ L, s.size ≤ B) : (Lib.join (L.map (·.data.toList)) sep).length ≤ L.length * B + L.length := by
 cases L with
 | nil => exact Nat.zero_le _
 | cons x r =>
  have h1 := lens_le B (x :: r) h
  rw [List.map_cons] at h1 ⊢
  rw [Lib.join_length]
  have h2 : sep.length * (r.map (·.data.toList)).length ≤ 1 * r.length := by rw [List.length_map]; exact Nat.mul_le_mul_right _ hs
  rw [List.length_cons] at h1 ⊢
  omega
theorem set8 {w : World} {B : Nat} {t : TypeId} {fz : Nat × Nat} {a0 a1 a2 a3 a4 a5 a6 a7 u0 u1 u2 u3 u4 u5 u6 u7 : Value} (h : w.heap[B]? = some (.cells #[a0, a1, a2, a3, a4, a5, a6, a7] t fz)) :
  ((((((((w.setCell ⟨B, 0, none⟩ u0).setCell ⟨B, 1, none⟩ u1).setCell ⟨B, 2, none⟩ u2).setCell ⟨B, 3, none⟩ u3).setCell ⟨B, 4, none⟩ u4).setCell ⟨B, 5, none⟩ u5).setCell ⟨B, 6, none⟩ u6).setCell ⟨B, 7, none⟩ u7).heap[B]? = some (.cells #[u0, u1, u2, u3, u4, u5, u6, u7] t fz) ∧
  Fr (fun q => q = B) w ((((((((w.setCell ⟨B, 0, none⟩ u0).setCell ⟨B, 1, none⟩ u1).setCell ⟨B, 2, none⟩ u2).setCell ⟨B, 3, none⟩ u3).setCell ⟨B, 4, none⟩ u4).setCell ⟨B, 5, none⟩ u5).setCell ⟨B, 6, none⟩ u6).setCell ⟨B, 7, none⟩ u7) := by
 constructor
 ·have h0 := setCell_row 0 u0 h
  simp only [List.setIfInBounds_toArray, List.set_cons_zero, List.set_cons_succ] at h0
  have h1 := setCell_row 1 u1 h0
  simp only [List.setIfInBounds_toArray, List.set_cons_zero, List.set_cons_succ] at h1
  have h2 := setCell_row 2 u2 h1
  simp only [List.setIfInBounds_toArray, List.set_cons_zero, List.set_cons_succ] at h2
  have h3 := setCell_row 3 u3 h2
  simp only [List.setIfInBounds_toArray, List.set_cons_zero, List.set_cons_succ] at h3
  have h4 := setCell_row 4 u4 h3
  simp only [List.setIfInBounds_toArray, List.set_cons_zero, List.set_cons_succ] at h4
  have h5 := setCell_row 5 u5 h4
  simp only [List.setIfInBounds_toArray, List.set_cons_zero, List.set_cons_succ] at h5
  have h6 := setCell_row 6 u6 h5
  simp only [List.setIfInBounds_toArray, List.set_cons_zero, List.set_cons_succ] at h6
  have h7 := setCell_row 7 u7 h6
  simp only [List.setIfInBounds_toArray, List.set_cons_zero, List.set_cons_succ] at h7
  exact h7
 ·exact ((((((((Fr.refl (fun q => q = B) w).setCell (p := ⟨B, 0, none⟩) (.inl rfl) u0).setCell (p := ⟨B, 1, none⟩) (.inl rfl) u1).setCell (p := ⟨B, 2, none⟩) (.inl rfl) u2).setCell (p := ⟨B, 3, none⟩) (.inl rfl) u3).setCell (p := ⟨B, 4, none⟩) (.inl rfl) u4).setCell (p := ⟨B, 5, none⟩) (.inl rfl) u5).setCell (p := ⟨B, 6, none⟩) (.inl rfl) u6).setCell (p := ⟨B, 7, none⟩) (.inl rfl) u7
def ScatterTo (N : Nat) : Prop := ∀ (q : List Nd) (e : Nd), cntL (q ++ [e]) < N → szL (q ++ [e]) ≤ 1048576 → Rt 0 e → (∀ y ∈ q, y.op = 26 → ∃ z, y.l = [z]) → 1 ≤ q.length → ∀ (D : Nat → Prop) (W V w : World) (v : Value) (X C : Nat) (sv : Value) (m : MS), NL D W (q ++ [e]) v → MW W V w X C sv m → m.L.length + lenR e 0 + 1 ≤ 1073741824 →
 Calls Tryz.prog 138 #[.pointer (some ⟨X, 0, none⟩), v] w (LayPost W V X C sv m (lenR e 0 + 1) 1)
set_option maxRecDepth 100000 in
set_option maxHeartbeats 12800000 in
theorem scatter_of (N : Nat) (ih : ExprTo N) : ScatterTo N := by
 intro q e hcN hsN hre hq hq1 D W V w v X C sv m hv hm hL
 obtain ⟨l, hl⟩ : ∃ l, q ++ [e] = l := ⟨_, rfl⟩
 have hel : l[q.length]? = some e := by rw [← hl]; simp
 have hll : l.length = q.length + 1 := by rw [← hl]; simp
 have hql : ∀ k y, k < q.length → l[k]? = some y → y ∈ q := fun k y hk hy => by
  rw [← hl, List.getElem?_append_left hk] at hy
  exact List.mem_of_getElem? hy
 rw [hl] at hcN hsN hv
 clear hl
 obtain ⟨la, lc, us, rfl, hc, hcm, hn, hb, hi⟩ := id hv
 obtain ⟨b0, o0, eva, ec1, ea, ec2, rfl, -, hve, x0, x1, x2, x3, x4, x5, x6, x7⟩ := hv.at hel
 have hcs := cntL_szL l
 have hle := len_le_cnt l
 have hem := cntL_mem hel; have hes := szL_mem hel
 have hlm : q.length + 1 ≤ 1048576 := by omega
 have HX := hid (And.intro (And.intro x0 x1) (And.intro (And.intro x2 x3) (And.intro (And.intro x4 x5) (And.intro x6 x7))))
 have HC := hid (ih e (by omega) (by omega) hre D W V _ _ X C sv m hve hm (by omega))
 have HM := hid hm; have HV := hid hv; have HLL := hid hL; have HQ := hid hq; have HQL := hid hql; have HS := hid hsN
 have hf := hm.f
 replace x0 := hf.cell x0 not_false
 replace x1 := hf.cell x1 not_false
 replace x2 := hf.cell x2 not_false
 replace x3 := hf.cell x3 not_false
 replace x4 := hf.cell x4 not_false
 replace x5 := hf.cell x5 not_false
 replace x6 := hf.cell x6 not_false
 replace x7 := hf.cell x7 not_false
 rw [hll] at hc ⊢
 obtain ⟨n, hn⟩ : ∃ n, q.length = n := ⟨_, rfl⟩
 rw [hn] at hq1
 have HQ1 := hid hq1
 clear hq1
 rw [hn] at x0 x1 x2 x3 x4 x5 x6 x7 hc hlm ⊢
 have hnk : IntKind.i64.wrap (((n + 1 : Nat) : Int) - 1) = (n : Int) := by rw [IntWalk.i64_in _ (by omega)]; omega
 have HN := hid hn; have HLN := hid hll
 clear hm hb hi hL hq hql hve hcN hsN hf hcs hle hem hes hv ih hre hel hll hn
 go_enter Tryz.func138, Tryz.ntmps138
 go_wp2_with fail
 refine HC.out.mono ?_
 rintro e1 w3 ⟨rfl, c, hcc, hw⟩
 have HCC := hid hcc; have HW := hid hw
 clear hcc hw HC x0 x1 x2 x3 x4 x5 x6 x7
 have hFB := (Fr.refl (fun _ => False) w3).alloc (.cells #[.int .i64 23, .int .i64 0, .int .i64 0, .string ⟨#[]⟩, .int .i64 0, .int .i64 0, .string ⟨#[]⟩, .slice none 0 0] 93)
 have HG5 := hid (heap_alloc_new w3 (.cells #[.int .i64 23, .int .i64 0, .int .i64 0, .string ⟨#[]⟩, .int .i64 0, .int .i64 0, .string ⟨#[]⟩, .slice none 0 0] 93))
 have HFB := hid hFB
 clear hFB
 go_upto_region 3 with fail
 generalize w3.alloc (.cells #[.int .i64 23, .int .i64 0, .int .i64 0, .string ⟨#[]⟩, .int .i64 0, .int .i64 0, .string ⟨#[]⟩, .slice none 0 0] 93) = w4 at *
 obtain ⟨B5, hB5⟩ : ∃ B, w3.heap.size = B := ⟨_, rfl⟩
 have HB5 := hid hB5
 rw [hB5] at HG5 ⊢
 clear hB5
 go_wp2_with fail
 go_loopw [6, 8, 23] (fun nv _ i wr => ∃ (k : Nat) (a : Int) (ns : List ByteArray), k ≤ n ∧ ns.length = k ∧ i = .int .i64 k ∧ Hid (Fr (fun _ => False) w3 wr) ∧ Hid (wr.heap[B5]? = some (.cells #[.int .i64 23, .int .i64 a, .int .i64 0, .string ⟨#[]⟩, .int .i64 0, .int .i64 0, .string ⟨#[]⟩, .slice none 0 0] 93 (0, 0))) ∧
  Hid (wr.ownsRow B5 9 1 nv ns.length (sV ns)) ∧ Hid (∀ s ∈ ns, s.size ≤ 1048576)) (fun _ _ i _ => n - (intOf i).toNat)
 case atStart => exact ⟨0, 0, [], Nat.zero_le _, rfl, rfl, HFB, HG5, World.ownsRow_nil _ _ _ _, fun s hs => by cases hs⟩
 case round =>
  clear HFB HG5
  obtain ⟨k, a, ns, hk, hns, rfl, HF, HG, HO, HSM⟩ := hrel
  have HNS := hid hns
  clear hns
  by_cases hlt : k < n
  ·obtain ⟨y, hy⟩ : ∃ y, l[k]? = some y := ⟨_, List.getElem?_eq_getElem (by rw [HLN.out, HN.out]; omega)⟩
   obtain ⟨b, o, yva, c1, a', c', e9, -, hv9, e0, e1, e2, e3, e4, e5, e6, e7⟩ := HV.out.at hy
   simp only [Option.some.injEq, Addr.mk.injEq] at e9
   obtain ⟨rfl, rfl, -⟩ := e9
   have hyq := HQL.out k y (by rw [HN.out]; exact hlt) hy
   have hysz : y.sz ≤ 1048576 := by have h1 := szL_mem hy; have := HS.out; omega
   have hys : y.s.size ≤ 1048576 := by have h2 := Nd.sz_eq y; omega
   have hlt' : (k : Int) < n := by omega
   have hlt2 : (k : Int) < ((n + 1 : Nat) : Int) := by omega
   have hf := HW.out.f.trans' HF.out
   replace e0 := hf.cell e0 not_false
   replace e1 := hf.cell e1 not_false
   replace e2 := hf.cell e2 not_false
   replace e3 := hf.cell e3 not_false
   replace e4 := hf.cell e4 not_false
   replace e5 := hf.cell e5 not_false
   replace e6 := hf.cell e6 not_false
   replace e7 := hf.cell e7 not_false
   have hfY := (Fr.refl (fun _ => False) wr).alloc (.cells #[.int .i64 y.op, .int .i64 y.ln, .string y.s, .int .i64 y.v.k, .int .i64 y.v.n, .string y.v.s, .slice yva y.v.l.length c1, .slice a' y.l.length c'] 75)
   have HGY := hid (heap_alloc_new wr (.cells #[.int .i64 y.op, .int .i64 y.ln, .string y.s, .int .i64 y.v.k, .int .i64 y.v.n, .string y.v.s, .slice yva y.v.l.length c1, .slice a' y.l.length c'] 75))
   have HFY := hid (HF.out.trans' hfY); have HGG := hid (hfY.heap HG.out not_false); have HOO := hid (hfY.own HO.out fun _ _ => id)
   have HYQ := hid hyq; have HYS := hid hys; have HYZ := hid hysz; have HVY := hid hv9; have HLT := hid hlt; have HFW := hid hf
   have HB8 := hid (show B5 ≤ wr.heap.size by have := HF.out.size; have := HB5.out; omega)
   clear hfY hyq hys hysz hv9 hy hf HF HG HO
   go_upto_region 7 with fail
   generalize wr.alloc (.cells #[.int .i64 y.op, .int .i64 y.ln, .string y.s, .int .i64 y.v.k, .int .i64 y.v.n, .string y.v.s, .slice yva y.v.l.length c1, .slice a' y.l.length c'] 75) = w5 at *
   generalize wr.heap.size = B8 at *
   obtain ⟨y0, y1, y2, y3, y4, y5, y6, y7⟩ := node_cells HGY.out
   clear e0 e1 e2 e3 e4 e5 e6 e7
   by_cases h26 : y.op = 26
   ·have y0' : w5.cell? ⟨B8, 0, none⟩ = some (.int .i64 26) := by rw [← h26]; exact y0
    clear y0
    obtain ⟨z, hz⟩ := HQ.out y HYQ.out h26
    have g0 : w5.cell? ⟨B5, 1, none⟩ = some (.int .i64 a) := by rw [cell_of_row _ _ _ _ _ _ HGG.out]; rfl
    have g1 : w5.frozen? ⟨B5, 1, none⟩ = false := frozen_of_row _ _ _ _ _ HGG.out
    go_upto_region 9 with fail
    have hs6 : Fr (fun q => q = B5) w5 (w5.setCell ⟨B5, 1, none⟩ (.int .i64 1)) := Fr.setCell (S := fun q => q = B5) (Fr.refl _ _) (p := ⟨B5, 1, none⟩) (.inl rfl) _
    have h58 : ¬ B8 = B5 := fun e => by
     have h1 := HGY.out
     rw [e, HGG.out] at h1
     simp only [Option.some.injEq, Obj.cells.injEq] at h1
     exact absurd h1.2.1 (by decide)
    have hg6 := setCell_row 1 (.int .i64 1) HGG.out
    simp only [List.setIfInBounds_toArray, List.set_cons_zero, List.set_cons_succ] at hg6
    have hy6 := hs6.heap HGY.out h58
    have ho6 := hs6.own HOO.out (own_ne_cells HOO.out HGG.out (by decide))
    have hf6 : Fr (fun _ => False) w3 (w5.setCell ⟨B5, 1, none⟩ (.int .i64 1)) := HFY.out.trans (U := fun _ => False) hs6 (fun _ _ h => h) (fun k hk e => by have := HB5.out; omega)
    have HG6 := hid hg6; have HY6 := hid hy6; have HO6 := hid ho6; have HF6 := hid hf6; have H58 := hid h58
    clear hs6 hg6 hy6 ho6 hf6 h58 y0' y1 y2 y3 y4 y5 y6 y7 g0 g1 HFY HGG HOO HGY
    generalize w5.setCell ⟨B5, 1, none⟩ (.int .i64 1) = w6 at *
    obtain ⟨va9, v9, e9, -, hnl⟩ := HVY.out.open
    obtain rfl : v9 = .slice a' y.l.length c' := by simp at e9; exact e9.2.symm
    obtain ⟨b2, o2, zva, d1, za, d2, rfl, -, -, z0, z1, z2, z3, z4, z5, z6, z7⟩ := hnl.at (k := 0) (y := z) (by rw [hz]; rfl)
    have hl1 : y.l.length = 1 := by rw [hz]; rfl
    have hzs : z.s.size ≤ 1048576 := by
     have h1 := Nd.sz_eq y; have h2 := Nd.sz_eq z
     rw [hz] at h1
     simp only [szL] at h1
     have h3 := HYZ.out
     omega
    have HZS := hid hzs
    clear hzs
    have hfw := HW.out.f.trans' HF6.out
    replace z0 := hfw.cell z0 not_false
    replace z1 := hfw.cell z1 not_false
    replace z2 := hfw.cell z2 not_false
    replace z3 := hfw.cell z3 not_false
    replace z4 := hfw.cell z4 not_false
    replace z5 := hfw.cell z5 not_false
    replace z6 := hfw.cell z6 not_false
    replace z7 := hfw.cell z7 not_false
    obtain ⟨y0, y1, y2, y3, y4, y5, y6, y7⟩ := node_cells HY6.out
    rw [hl1] at y7
    simp only [Nat.zero_mul, Nat.add_zero] at z0 z1 z2 z3 z4 z5 z6 z7
    have fz : ∀ i, w6.frozen? ⟨B8, i, none⟩ = false := fun i => frozen_of_row _ _ _ _ _ HY6.out
    have f0 := fz 0; have f1 := fz 1; have f2 := fz 2; have f3 := fz 3; have f4 := fz 4; have f5 := fz 5; have f6 := fz 6; have f7 := fz 7
    clear hnl e9 hz hl1 hfw fz
    go_upto_region 10 with fail
    have h8 := set8 (u0 := .int .i64 z.op) (u1 := .int .i64 z.ln) (u2 := .string z.s) (u3 := .int .i64 z.v.k) (u4 := .int .i64 z.v.n) (u5 := .string z.v.s) (u6 := .slice zva z.v.l.length d1) (u7 := .slice za z.l.length d2) HY6.out
    generalize ((((((((w6.setCell ⟨B8, 0, none⟩ (.int .i64 z.op)).setCell ⟨B8, 1, none⟩ (.int .i64 z.ln)).setCell ⟨B8, 2, none⟩ (.string z.s)).setCell ⟨B8, 3, none⟩ (.int .i64 z.v.k)).setCell ⟨B8, 4, none⟩ (.int .i64 z.v.n)).setCell ⟨B8, 5, none⟩ (.string z.v.s)).setCell ⟨B8, 6, none⟩ (.slice zva z.v.l.length d1)).setCell ⟨B8, 7, none⟩ (.slice za z.l.length d2)) = w7 at *
    obtain ⟨hy7, hs7⟩ := h8
    have HO7 := hid (hs7.own HO6.out (own_ne_cells HO6.out HY6.out (by decide)))
    have HG7 := hid (hs7.heap HG6.out fun e => H58.out e.symm)
    have HF7 := hid (show Fr (fun _ => False) w3 w7 from HF6.out.trans (U := fun _ => False) hs7 (fun _ _ h => h) (fun k hk e => by have := HB5.out; have := HB8.out; omega))
    have p2 : w7.cell? ⟨B8, 2, none⟩ = some (.string z.s) := by rw [cell_of_row _ _ _ _ _ _ hy7]; rfl
    clear hy7 hs7 z0 z1 z2 z3 z4 z5 z6 z7 y0 y1 y2 y3 y4 y5 y6 y7 f0 f1 f2 f3 f4 f5 f6 f7 HG6 HY6 HO6 HF6
    have HLB := hid (show ns.length + 1 ≤ 1099511627776 by have := HNS.out; omega)
    have HFA := hid (HF7.out.alloc (.cells #[.string z.s] 9))
    have HGA := hid (((Fr.refl (fun _ => False) w7).alloc (.cells #[.string z.s] 9)).heap HG7.out not_false)
    have HOA := hid (World.ownsRow.alloc HO7.out (.cells #[.string z.s] 9))
    have HCE := hid (cell_new1 w7 (.string z.s) 9 (0, 0))
    have HBS := hid (show B5 ≤ (w7.alloc (.cells #[.string z.s] 9)).heap.size by have h1 := HB5.out; have h2 := HFA.out.size; omega)
    have HSV := hid (show sV (ns ++ [z.s]) = sV ns ++ [Value.string z.s] by simp [sV])
    have HLN2 := hid (show (ns ++ [z.s]).length = ns.length + 1 by simp)
    have HSM2 := hid (show ∀ s ∈ ns ++ [z.s], s.size ≤ 1048576 from fun s hs => (List.mem_append.1 hs).elim (HSM.out s) fun h => by rw [List.mem_singleton.1 h]; exact HZS.out)
    go_wp2_with (at_builtin; go_must (refine wpList_append1 rfl (.tmp 35) (.tmp 38) 50 rfl 9 (.string ⟨#[]⟩) 16 Tryz.underlying50 Tryz.info_text rfl _ rfl B5 ns.length (sV ns) HOA.out w7.heap.size 1 (.string z.s) rfl HCE.out rfl HLB.out (by decide) HBS.out ?_; intro g9 cap9 w9 ho9 hf9 hn9))
    have HF9 := hid (show Fr (fun _ => False) w3 w9 from HFA.out.trans (U := fun _ => False) hf9 (fun _ _ h => h) (fun k hk e => by have h1 := (HOA.out.lt k e.symm).1; have := HB5.out; omega))
    have HG9 := hid (hf9.heap HGA.out (fun e => own_ne_cells HOA.out HGA.out (by decide) B5 e.symm rfl))
    have HO9 := hid (show w9.ownsRow B5 9 1 (.slice (some ⟨g9, 0, none⟩) (ns.length + 1) cap9) (ns ++ [z.s]).length (sV (ns ++ [z.s])) by rw [HSV.out, HLN2.out]; exact ho9)
    clear ho9 hf9 hn9 HFA HGA HOA HCE HBS p2
    go_wp2_with fail
    go_roundw
    case rel => exact ⟨k + 1, _, ns ++ [z.s], by have := HLT.out; omega, by rw [HLN2.out, HNS.out], by go_num, HF9, HG9, HO9, HSM2⟩
    case measure => simp [intOf]; have := HLT.out; omega
   ·have hz26 : (y.op == 26) = false := by simpa using h26
    have HZS := HYS
    have HO7 := HOO; have HG7 := HGG; have HF7 := HFY
    have p2 : w5.cell? ⟨B8, 2, none⟩ = some (.string y.s) := y2
    have HLB := hid (show ns.length + 1 ≤ 1099511627776 by have := HNS.out; omega)
    have HFA := hid (HF7.out.alloc (.cells #[.string y.s] 9))
    have HGA := hid (((Fr.refl (fun _ => False) w5).alloc (.cells #[.string y.s] 9)).heap HG7.out not_false)
    have HOA := hid (World.ownsRow.alloc HO7.out (.cells #[.string y.s] 9))
    have HCE := hid (cell_new1 w5 (.string y.s) 9 (0, 0))
    have HBS := hid (show B5 ≤ (w5.alloc (.cells #[.string y.s] 9)).heap.size by have h1 := HB5.out; have h2 := HFA.out.size; omega)
    have HSV := hid (show sV (ns ++ [y.s]) = sV ns ++ [Value.string y.s] by simp [sV])
    have HLN2 := hid (show (ns ++ [y.s]).length = ns.length + 1 by simp)
    have HSM2 := hid (show ∀ s ∈ ns ++ [y.s], s.size ≤ 1048576 from fun s hs => (List.mem_append.1 hs).elim (HSM.out s) fun h => by rw [List.mem_singleton.1 h]; exact HZS.out)
    go_wp2_with (at_builtin; go_must (refine wpList_append1 rfl (.tmp 35) (.tmp 38) 50 rfl 9 (.string ⟨#[]⟩) 16 Tryz.underlying50 Tryz.info_text rfl _ rfl B5 ns.length (sV ns) HOA.out w5.heap.size 1 (.string y.s) rfl HCE.out rfl HLB.out (by decide) HBS.out ?_; intro g9 cap9 w9 ho9 hf9 hn9))
    have HF9 := hid (show Fr (fun _ => False) w3 w9 from HFA.out.trans (U := fun _ => False) hf9 (fun _ _ h => h) (fun k hk e => by have h1 := (HOA.out.lt k e.symm).1; have := HB5.out; omega))
    have HG9 := hid (hf9.heap HGA.out (fun e => own_ne_cells HOA.out HGA.out (by decide) B5 e.symm rfl))
    have HO9 := hid (show w9.ownsRow B5 9 1 (.slice (some ⟨g9, 0, none⟩) (ns.length + 1) cap9) (ns ++ [y.s]).length (sV (ns ++ [y.s])) by rw [HSV.out, HLN2.out]; exact ho9)
    clear ho9 hf9 hn9 HFA HGA HOA HCE HBS p2 y0 y1 y2 y3 y4 y5 y6 y7
    go_wp2_with fail
    go_roundw
    case rel => exact ⟨k + 1, _, ns ++ [y.s], by have := HLT.out; omega, by rw [HLN2.out, HNS.out], by go_num, HF9, HG9, HO9, HSM2⟩
    case measure => simp [intOf]; have := HLT.out; omega
  ·obtain rfl : k = n := by omega
   have hlt' : ¬ (k : Int) < k := by omega
   have hq1 := HQ1.out
   have hns := HNS.out
   rcases HO.out.2 with ⟨-, h0⟩ | ⟨g, cap, cur, rfl, hbg, hgg, hcap, hcm, -⟩
   ·omega
   have hcells : ∀ (j : Nat) x, ns[j]? = some x → wr.cell? ⟨g, 0 + j, none⟩ = some (.string x) := fun j x hj => by
    have h1 := HO.out.cells (g := g) rfl j (.string x) (by unfold sV; rw [List.getElem?_map, hj]; rfl)
    rwa [show (⟨g, 0, none⟩ : Addr).add j = ⟨g, 0 + j, none⟩ by unfold Addr.add; split <;> simp_all] at h1
   have hblk : g < wr.heap.size := (HO.out.lt g rfl).2
   have hjl : (Lib.join (ns.map (·.data.toList)) (⟨#[32]⟩ : ByteArray).data.toList).length ≤ 140737488355328 := by
    have h1 := join_small 1048576 (⟨#[32]⟩ : ByteArray).data.toList (by decide) ns HSM.out
    have h2 : ns.length * 1048576 ≤ 1048576 * 1048576 := Nat.mul_le_mul_right _ (by omega)
    omega
   have CJ : Calls Tryz.prog 148 #[.slice (some ⟨g, 0, none⟩) ns.length cap, .string ⟨#[32]⟩] wr fun e w' => e = .returned (.string ⟨(Lib.join (ns.map (·.data.toList)) (⟨#[32]⟩ : ByteArray).data.toList).toArray⟩) ∧ Below wr.heap.size wr w' := Go.Proofs.Any.strings_Join Tryz.lays156 Tryz.extra156 g 0 cap ns ⟨#[32]⟩ wr hcells hblk (by omega) hcap hjl
   have HCJ := hid CJ
   generalize (⟨(Lib.join (ns.map (·.data.toList)) (⟨#[32]⟩ : ByteArray).data.toList).toArray⟩ : ByteArray) = js at *
   clear hcells hblk hjl CJ hbg hgg hcm hcap hns hq1
   go_wp2_with fail
   refine HCJ.out.mono ?_
   rintro e2 w5 ⟨rfl, hbw⟩
   have hfj := Fr.of_below hbw
   have HG5 := hid (hfj.heap HG.out not_false)
   have HF5 := hid (HF.out.trans' hfj)
   have c3 : w5.cell? ⟨B5, 3, none⟩ = some (.string ⟨#[]⟩) := by rw [cell_of_row _ _ _ _ _ _ HG5.out]; rfl
   have f3 : w5.frozen? ⟨B5, 3, none⟩ = false := frozen_of_row _ _ _ _ _ HG5.out
   clear hbw hfj HCJ
   go_upto_region 13 with fail
   have hg6 := setCell_row 3 (.string js) HG5.out
   simp only [List.setIfInBounds_toArray, List.set_cons_zero, List.set_cons_succ] at hg6
   have hs6 : Fr (fun q => q = B5) w5 (w5.setCell ⟨B5, 3, none⟩ (.string js)) := Fr.setCell (S := fun q => q = B5) (Fr.refl _ _) (p := ⟨B5, 3, none⟩) (.inl rfl) _
   have HW6 := hid (HW.out.fr (HF5.out.trans (U := fun _ => False) hs6 (fun _ _ h => h) (fun k hk e => by have := HB5.out; omega)))
   clear c3 f3 hs6 HG5 HF5
   generalize w5.setCell ⟨B5, 3, none⟩ (.string js) = w6 at *
   have y0 : w6.cell? ⟨B5, 0, none⟩ = some (.int .i64 23) := by rw [cell_of_row _ _ _ _ _ _ hg6]; rfl
   have y1 : w6.cell? ⟨B5, 1, none⟩ = some (.int .i64 a) := by rw [cell_of_row _ _ _ _ _ _ hg6]; rfl
   have y2 : w6.cell? ⟨B5, 2, none⟩ = some (.int .i64 0) := by rw [cell_of_row _ _ _ _ _ _ hg6]; rfl
   have y3 : w6.cell? ⟨B5, 3, none⟩ = some (.string js) := by rw [cell_of_row _ _ _ _ _ _ hg6]; rfl
   have y4 : w6.cell? ⟨B5, 4, none⟩ = some (.int .i64 0) := by rw [cell_of_row _ _ _ _ _ _ hg6]; rfl
   have y5 : w6.cell? ⟨B5, 5, none⟩ = some (.int .i64 0) := by rw [cell_of_row _ _ _ _ _ _ hg6]; rfl
   have y6 : w6.cell? ⟨B5, 6, none⟩ = some (.string ⟨#[]⟩) := by rw [cell_of_row _ _ _ _ _ _ hg6]; rfl
   have y7 : w6.cell? ⟨B5, 7, none⟩ = some (.slice none 0 0) := by rw [cell_of_row _ _ _ _ _ _ hg6]; rfl
   have HP := hid (put0 HW6.out 23 a 0 js (by rw [List.length_append, HCC.out.1]; have := HLL.out; omega))
   clear hg6
   go_wp2_with fail
   refine HP.out.mono ?_
   rintro e3 w7 ⟨rfl, hw7⟩
   have HW7 := hid hw7
   clear hw7 HP y0 y1 y2 y3 y4 y5 y6 y7
   go_wp2_with fail
   go_end0
   refine ⟨rfl, c ++ [⟨23, a, 0, js, m.ln⟩], HCC.out.put 1 1 (fun m => by simp [goesJ]) (by simp) (fun e => by simp at e) (by simp [ndT]) (by simp [ndG]) (by simp [ndTB, ndGB]) (by omega) (by omega) rfl (by omega), HW7.out.cast (by simp only [List.append_assoc])⟩
end
section
open Go.RowKit
open Go.Sort (flatK putRowK HoldsK get_flatK size_flatK putRow mapBlock)
abbrev Oct := { u : Array Value // u.size = 8 ∧ ∀ v ∈ u.toList, v.oneCell' = true }
instance octInhabited : Inhabited Oct := ⟨⟨#[.int .i64 0, .int .i64 0, .int .i64 0, .int .i64 0, .int .i64 0, .int .i64 0, .int .i64 0, .int .i64 0], rfl, fun v hv => by simp at hv; subst hv; rfl⟩⟩
def octL (u : Oct) : List Value := u.1.toList
theorem octL_len (u : Oct) : (octL u).length = 8 := by unfold octL; rw [Array.length_toList]; exact u.2.1
theorem fr_putK {α : Type} [Inhabited α] (enc : α → List Value) (k : Nat) (w : World) (n blk off : Nat) (d : Array α) : Fr (fun q => q = blk) w (putRowK enc k (Sort.ahead w n) blk off d) := by
 refine ⟨rfl, rfl, rfl, by simp [putRowK, putRow, mapBlock, Sort.ahead], fun q hq hne => ?_⟩
 have : ¬ blk = q := fun e => hne e.symm
 simp [putRowK, putRow, mapBlock, Sort.ahead, Array.getElem?_modify, this]
theorem reverse_any {W w : World} {D : Nat → Prop} {base blk cap n : Nat} {xs : List Value} {idx : List Nd} {U : List Oct} (ho : w.ownsRow base 75 8 (.slice (some ⟨blk, 0, none⟩) n cap) n xs) (hn : n = idx.length) (hU : U.length = n)
  (hx : ∀ (i : Nat) (u : Oct), U[i]? = some u → ∀ j, j < 8 → xs[i * 8 + j]? = u.1[j]?) (hN : ∀ (i : Nat) (z : Nd), idx[i]? = some z → ∃ u : Oct, U[i]? = some u ∧ NIn D W z u.1) (hnm : n ≤ 9223372036854775807) :
  Calls Tryz.prog 147 #[.slice (some ⟨blk, 0, none⟩) n cap] w fun e w' => e = .returned (.tuple #[]) ∧ Fr (fun k => k = blk) w w' ∧ NV D W w' idx.reverse (.slice (some ⟨blk, 0, none⟩) n cap) := by
 obtain ⟨hbl, hfz, hcl, cs0, fz0, hg0⟩ := mcells8 ho
 have hcap : n ≤ cap ∧ cap ≤ maxLen := by
  rcases ho.2 with ⟨e, -⟩ | ⟨g, cap', cur, e, -, -, h1, h2, -⟩
  ·cases e
  ·simp only [Value.slice.injEq, Option.some.injEq, Addr.mk.injEq] at e
   obtain ⟨-, -, rfl⟩ := e
   exact ⟨h1, h2⟩
 have hds : U.toArray.size = n := by simpa using hU
 have hH : HoldsK octL 8 w blk 0 U.toArray := by
  intro t ht
  rw [size_flatK, hds] at ht
  refine ⟨?_, by rw [Nat.zero_add]; exact hfz t⟩
  rw [get_flatK _ _ _ _ (by rw [hds]; exact ht), Nat.zero_add, hcl t ht]
  have hi : t / 8 < U.length := by omega
  have h1 := hx (t / 8) U[t / 8] (List.getElem?_eq_getElem hi) (t % 8) (by omega)
  rw [show t / 8 * 8 + t % 8 = t by omega] at h1
  have hu8 := (U[t / 8]).2.1
  have h2 : U.toArray[t / 8]! = U[t / 8] := by rw [getElem!_pos U.toArray (t / 8) (by simpa using hi)]; simp
  rw [h2]
  unfold octL
  have h3 : t % 8 < (U[t / 8]).1.toList.length := by rw [Array.length_toList, hu8]; omega
  rw [getElem!_pos (U[t / 8]).1.toList (t % 8) h3]
  rw [h1, Array.getElem?_eq_getElem (by rw [hu8]; omega)]
  simp
 have hc := AnyQ.slices_Reverse Tryz.reverseN 8 Tryz.isAgg75 Tryz.sizeOf75 octL octL_len (fun x v hv => x.2.2 v hv) blk 0 cap U.toArray w hH (by rw [hds]; exact hnm)
 rw [hds] at hc
 refine Calls.mono hc ?_
 rintro e w' ⟨rfl, q, rfl⟩
 have hfr := fr_putK octL 8 w q blk 0 U.toArray.reverse
 have hH' := Go.Sort.holdsK_putRowK octL 8 (Sort.ahead w q) blk 0 U.toArray U.toArray.reverse (Go.Sort.holdsK_ahead octL 8 w q blk 0 U.toArray hH) (by simp)
 have hg1 : ∃ cs, (putRowK octL 8 (Sort.ahead w q) blk 0 U.toArray.reverse).heap[blk]? = some (.cells cs 75 fz0) := by
  refine ⟨Go.Sort.putCells id 0 (flatK octL 8 U.toArray.reverse) cs0, ?_⟩
  simp [putRowK, putRow, mapBlock, Sort.ahead, Array.getElem?_modify, hg0, Go.Sort.onCells]
 refine ⟨rfl, hfr, ?_⟩
 generalize putRowK octL 8 (Sort.ahead w q) blk 0 U.toArray.reverse = w' at *
 obtain ⟨cs1, hg1⟩ := hg1
 have hrs : U.toArray.reverse.size = n := by simpa using hU
 refine ⟨some ⟨blk, 0, none⟩, cap, by rw [List.length_reverse, hn], by rw [List.length_reverse, ← hn]; exact hcap.1, hcap.2, fun h => (by cases h), fun i z hz => ?_⟩
 have hil := (List.getElem?_eq_some_iff.1 hz).1
 rw [List.length_reverse] at hil
 rw [List.getElem?_reverse hil] at hz
 obtain ⟨u, hu, hNu⟩ := hN _ z hz
 have h2 : U.toArray.reverse[i]! = u := by
  rw [getElem!_pos U.toArray.reverse i (by rw [hrs, hn]; exact hil), Array.getElem_reverse]
  have h3 : U.toArray.size - 1 - i < U.length := by rw [hds]; omega
  have : U[U.toArray.size - 1 - i]? = some u := by rw [hds, hn]; exact hu
  rw [List.getElem?_eq_getElem h3] at this
  simpa using this
 refine ⟨blk, 0, u.1, rfl, u.2.1, hNu, fun w2 _ hk j hj => ?_⟩
 have h1 := (hH'.cell (i := i) (c := j) (by rw [hrs, hn]; exact hil) hj).1
 have h4 : w2.cell? ⟨blk, 0 + i * 8 + j, none⟩ = w'.cell? ⟨blk, 0 + i * 8 + j, none⟩ := by
  rw [cell_of_row _ _ _ _ _ _ (hk _ _ _ hg1), cell_of_row _ _ _ _ _ _ hg1]
 rw [h4, h1, h2]
 unfold octL
 rw [getElem!_pos u.1.toList j (by rw [Array.length_toList, u.2.1]; exact hj), Array.getElem?_eq_getElem (by rw [u.2.1]; exact hj)]
 simp
end
section
open Go.RowKit
theorem wp_appendR8 {P : Program} {o : Oper} {a : Act} {w : World} {K : Act → World → Prop} {Q : Exit → Act → World → Prop} (s x : Operand) (t : TypeId)
  (ho : o.op = .call { callee := .builtin .append, args := #[s, x], argTypes := #[t, t] })
  (e : TypeId) (z : Value) (sz bytes : Nat) (ht : P.underlying t = some (.slice e)) (hrow : (P.info? e).map (fun i => (i.zero, i.size, i.bytes)) = some (some z, sz, bytes)) (hzs : z.cells.size = sz) (hsz0 : 0 < sz)
  (v : Value) (hs : a.eval s = v) (base n : Nat) (xs : List Value) (hown : w.ownsRow base e sz v n xs)
  (g0 c : Nat) (us : List Value) (hus : us.length = sz) (hx : a.eval x = .slice (some ⟨g0, 0, none⟩) 1 c) (hu : ∀ j y, us[j]? = some y → w.cell? ⟨g0, j, none⟩ = some y) (h1 : ∀ y ∈ us, y.oneCell' = true)
  (h63 : n + 1 ≤ 1099511627776) (hby : bytes ≤ 128) (hbase : base ≤ w.heap.size)
  (h : ∀ g cap w', w'.ownsRow base e sz (.slice (some ⟨g, 0, none⟩) (n + 1) cap) (n + 1) (xs ++ us) → Fr (fun k => some k = v.ownBlock) w w' → (v.ownBlock = some g ∨ w.heap.size ≤ g) → K (a.put o.dst (.slice (some ⟨g, 0, none⟩) (n + 1) cap)) w') : o.wp P a w K Q := by
 obtain ⟨i, hi, hz, hsz, hbt⟩ := info_parts hrow
 have hb2 : (n + 1) * bytes ≤ 140737488355328 := by
  have := Nat.mul_le_mul h63 hby
  omega
 have key : ∃ g cap w', (Builtin.append_ #[t, t] o.type #[v, .slice (some ⟨g0, 0, none⟩) 1 c]).run P w = .ok (.slice (some ⟨g, 0, none⟩) (n + 1) cap) w' ∧ w'.ownsRow base e sz (.slice (some ⟨g, 0, none⟩) (n + 1) cap) (n + 1) (xs ++ us) ∧ w.grownBy w' v.ownBlock ∧ (v.ownBlock = some g ∨ w.heap.size ≤ g) := by
  have hcells : ∀ j y, us[j]? = some y → w.cell? ((⟨g0, 0, none⟩ : Addr).add j) = some y := by
   intro j y hy
   have : (⟨g0, 0, none⟩ : Addr).add j = ⟨g0, j, none⟩ := by unfold Addr.add; split <;> simp_all
   rw [this]
   exact hu j y hy
  have hmx : n + 1 ≤ maxLen := by unfold maxLen; omega
  obtain ⟨v', w', hr, ho', hg, hn⟩ := run_append_own (P := P) w base t o.type e i z sz bytes ht hi hz hsz hbt hzs hsz0 v n xs hown ⟨g0, 0, none⟩ 1 c us (by rw [hus, Nat.one_mul]) hcells h1 hmx hb2 hbase
  rcases ho'.2 with ⟨_, h0⟩ | ⟨g, cap, cur, rfl, hbg, hgg, _⟩
  ·omega
  ·refine ⟨g, cap, w', hr, ho', hg, ?_⟩
   rcases hown.2 with ⟨rfl, rfl⟩ | ⟨g1, cap1, cur1, rfl, hb1, hg1, hnc, hcm, hcs, htk⟩
   ·refine .inr (Nat.le_of_not_lt fun hlt => ?_)
    have e1 := run_append_nil (P := P) w t o.type e i z ht hi hz ⟨g0, 0, none⟩ 1 c us (by rw [hus, hsz, Nat.one_mul]) hcells (by decide) (by decide) (by rw [hbt]; simp; omega)
    rw [hr] at e1
    simp only [Result.ok.injEq, Value.slice.injEq, Option.some.injEq, Addr.mk.injEq] at e1
    omega
   ·by_cases hroom : n + 1 ≤ cap1
    ·have e1 := run_append_room (P := P) w t o.type e i ht hi g1 n cap1 cur1 hg1 ⟨g0, 0, none⟩ 1 c us (by rw [hus, hsz, Nat.one_mul]) hcells h1 hroom (by rw [hcs, hus, hsz]; have := Nat.mul_le_mul_right sz hroom; rw [Nat.add_mul, Nat.one_mul] at this; exact this)
     rw [hr] at e1
     simp only [Result.ok.injEq, Value.slice.injEq, Option.some.injEq, Addr.mk.injEq] at e1
     left; simp [Value.ownBlock]; omega
    ·have holds : ∀ j u, xs[j]? = some u → w.cell? ((⟨g1, 0, none⟩ : Addr).add j) = some u := hown.cells (g := g1) rfl
     have e1 := run_append_grow (P := P) w t o.type e i z ht hi hz ⟨g1, 0, none⟩ n cap1 xs (by rw [hsz]; exact hown.1) holds ⟨g0, 0, none⟩ 1 c us (by rw [hus, hsz, Nat.one_mul]) hcells (by unfold maxLen at hmx; omega) (by omega) (growslice_fits (by omega) (by rw [hbt]; exact hb2))
     rw [hr] at e1
     simp only [Result.ok.injEq, Value.slice.injEq, Option.some.injEq, Addr.mk.injEq] at e1
     right; simp at e1; omega
 obtain ⟨g, cap, w', hr, ho', hg, hw⟩ := key
 unfold Oper.wp execOp
 simp only [ho, resolve, invoke, builtin, Sem.run_bind, Sem.run_pure, Result.andThen_ok, List.map_toArray, List.map_cons, List.map_nil, hs, hx, hr]
 exact h g cap w' ho' (Fr.of_grownBy hg) hw
theorem wpList_appendR8 {P : Program} {ops : Array Oper} {rest : List Oper} {o : Oper} {a : Act} {w : World} {Q : Exit → Act → World → Prop} (hgd : o.guard = none) (s x : Operand) (t : TypeId)
  (ho : o.op = .call { callee := .builtin .append, args := #[s, x], argTypes := #[t, t] })
  (e : TypeId) (z : Value) (sz bytes : Nat) (ht : P.underlying t = some (.slice e)) (hrow : (P.info? e).map (fun i => (i.zero, i.size, i.bytes)) = some (some z, sz, bytes)) (hzs : z.cells.size = sz) (hsz0 : 0 < sz)
  (v : Value) (hs : a.eval s = v) (base n : Nat) (xs : List Value) (hown : w.ownsRow base e sz v n xs)
  (g0 c : Nat) (us : List Value) (hus : us.length = sz) (hx : a.eval x = .slice (some ⟨g0, 0, none⟩) 1 c) (hu : ∀ j y, us[j]? = some y → w.cell? ⟨g0, j, none⟩ = some y) (h1 : ∀ y ∈ us, y.oneCell' = true)
  (h63 : n + 1 ≤ 1099511627776) (hby : bytes ≤ 128) (hbase : base ≤ w.heap.size)
  (h : ∀ g cap w', w'.ownsRow base e sz (.slice (some ⟨g, 0, none⟩) (n + 1) cap) (n + 1) (xs ++ us) → Fr (fun k => some k = v.ownBlock) w w' → (v.ownBlock = some g ∨ w.heap.size ≤ g) → wpList P ops Q rest (a.put o.dst (.slice (some ⟨g, 0, none⟩) (n + 1) cap)) w') : wpList P ops Q (o :: rest) a w :=
 wpList_plain hgd fun _ hK => wp_appendR8 s x t ho e z sz bytes ht hrow hzs hsz0 v hs base n xs hown g0 c us hus hx hu h1 h63 hby hbase fun g cap w' h1 h2 h3 => hK _ _ (h g cap w' h1 h2 h3)
theorem NIn.soft {B : Nat → Prop} {S : Nat → Prop} {w w' : World} {x : Nd} {u : Array Value} (h : NIn (fun b => B b ∧ Soft w b) w x u) (hf : Fr S w w') (hS : ∀ k, B k → ¬ S k) : NIn (fun b => B b ∧ Soft w' b) w' x u :=
 ((h.mono (E := fun b => (B b ∧ b < w.heap.size) ∧ Soft w b) fun k hk hd => ⟨⟨hd.1, hk⟩, hd.2⟩).frame hf fun k hk => hS k hk.1.1).mono fun k _ hk => ⟨hk.1.1, hf.soft hk.1.2 (hS k hk.1.1) hk.2⟩
def NOwn (e base : Nat) (w : World) (l : List Nd) (v : Value) : Prop :=
 ∃ xs : List Value, w.ownsRow base e 8 v l.length xs ∧ ∀ i x, l[i]? = some x → ∃ u, NIn (fun b => base ≤ b ∧ b < w.heap.size ∧ v.ownBlock ≠ some b ∧ Soft w b) w x u ∧ u.size = 8 ∧ ∀ j, j < 8 → xs[i * 8 + j]? = u[j]?
theorem NOwn.nil (e base : Nat) (w : World) : NOwn e base w [] (.slice none 0 0) := ⟨[], World.ownsRow_nil _ _ _ _, fun i x h => by simp at h⟩
theorem NOwn.snoc {e base : Nat} {w w' : World} {l : List Nd} {v v' : Value} {xs : List Value} {x : Nd} {u : Array Value}
  (ho : w.ownsRow base e 8 v l.length xs) (hx : ∀ i x, l[i]? = some x → ∃ u, NIn (fun b => base ≤ b ∧ b < w.heap.size ∧ v.ownBlock ≠ some b ∧ Soft w b) w x u ∧ u.size = 8 ∧ ∀ j, j < 8 → xs[i * 8 + j]? = u[j]?)
  (ho' : w'.ownsRow base e 8 v' (l.length + 1) (xs ++ u.toList)) (hf : Fr (fun k => some k = v.ownBlock) w w') (hn : ∀ k, v'.ownBlock = some k → v.ownBlock = some k ∨ w.heap.size ≤ k)
  (hv : NIn (fun b => base ≤ b ∧ b < w.heap.size ∧ v.ownBlock ≠ some b ∧ Soft w b) w x u) (h4 : u.size = 8) : NOwn e base w' (l ++ [x]) v' := by
 have hlen : xs.length = l.length * 8 := ho.1
 have key : ∀ {y : Nd} {c : Array Value}, NIn (fun b => base ≤ b ∧ b < w.heap.size ∧ v.ownBlock ≠ some b ∧ Soft w b) w y c → NIn (fun b => base ≤ b ∧ b < w'.heap.size ∧ v'.ownBlock ≠ some b ∧ Soft w' b) w' y c := fun h =>
  (h.frame hf fun k hk e => hk.2.2.1 e.symm).mono fun k _ hk => ⟨hk.1, Nat.lt_of_lt_of_le hk.2.1 hf.size, fun e => by
   rcases hn k e with h1 | h1
   ·exact hk.2.2.1 h1
   ·have := hk.2.1; omega, hf.soft hk.2.1 (fun e => hk.2.2.1 e.symm) hk.2.2.2⟩
 refine ⟨xs ++ u.toList, by simpa using ho', fun i y hi => ?_⟩
 by_cases hlt : i < l.length
 ·rw [List.getElem?_append_left hlt] at hi
  obtain ⟨c, hc, h4c, hj⟩ := hx i y hi
  refine ⟨c, key hc, h4c, fun j hj4 => ?_⟩
  rw [List.getElem?_append_left (by omega)]
  exact hj j hj4
 ·have hil := (List.getElem?_eq_some_iff.1 hi).1
  have : i = l.length := by simp at hil; omega
  subst this
  rw [List.getElem?_append_right (Nat.le_refl _)] at hi
  simp at hi
  subst hi
  refine ⟨u, key hv, h4, fun j hj4 => ?_⟩
  rw [List.getElem?_append_right (by omega)]
  simp [hlen]
theorem NOwn.close {e base : Nat} {w : World} {l : List Nd} {v : Value} (h : NOwn e base w l v) : NL (fun b => base ≤ b ∧ Soft w b) w l v := by
 obtain ⟨xs, ho, hx⟩ := h
 have hmono : ∀ {y : Nd} {c : Array Value}, NIn (fun b => base ≤ b ∧ b < w.heap.size ∧ v.ownBlock ≠ some b ∧ Soft w b) w y c → NIn (fun b => base ≤ b ∧ Soft w b) w y c := fun h => h.mono fun k _ hk => ⟨hk.1, hk.2.2.2⟩
 obtain ⟨us, hus⟩ : ∃ us : Nat → Array Value, ∀ i x, l[i]? = some x → NIn (fun b => base ≤ b ∧ Soft w b) w x (us i) ∧ (us i).size = 8 ∧ ∀ j, j < 8 → xs[i * 8 + j]? = (us i)[j]? := by
  classical
  refine ⟨fun i => if h : ∃ u, ∀ x, l[i]? = some x → NIn (fun b => base ≤ b ∧ Soft w b) w x u ∧ u.size = 8 ∧ ∀ j, j < 8 → xs[i * 8 + j]? = u[j]? then h.choose else #[], fun i x hi => ?_⟩
  have h : ∃ u, ∀ x, l[i]? = some x → NIn (fun b => base ≤ b ∧ Soft w b) w x u ∧ u.size = 8 ∧ ∀ j, j < 8 → xs[i * 8 + j]? = u[j]? := by
   obtain ⟨u, h1, h2⟩ := hx i x hi
   exact ⟨u, fun x' hx' => by rw [hi] at hx'; obtain rfl := Option.some.inj hx'; exact ⟨hmono h1, h2⟩⟩
  simp only [dif_pos h]
  exact h.choose_spec x hi
 rcases ho.2 with ⟨rfl, h0⟩ | ⟨g, cap, cur, rfl, hb, hg, h1, h2, h3, ht⟩
 ·exact ⟨none, 0, us, by rw [h0], by omega, by simp, fun _ => rfl, fun i hi => by omega, fun i x hi => (hus i x hi).1⟩
 ·refine ⟨some ⟨g, 0, none⟩, cap, us, rfl, h1, h2, (fun h => by cases h), fun i hi => ?_, fun i x hi => (hus i x hi).1⟩
  obtain ⟨_, h4, hj⟩ := hus i _ (List.getElem?_eq_getElem hi)
  refine ⟨g, 0, rfl, ⟨hb, fun i => frozen_of_row w g i _ _ hg⟩, h4, fun j hj4 => ?_⟩
  rw [← hj j hj4]
  have hc := ho.cells (g := g) rfl
  have hlen : xs.length = l.length * 8 := ho.1
  have hlt : i * 8 + j < xs.length := by omega
  have h5 := hc (i * 8 + j) _ (List.getElem?_eq_getElem hlt)
  have : (⟨g, 0, none⟩ : Addr).add (i * 8 + j) = ⟨g, 0 + i * 8 + j, none⟩ := by unfold Addr.add; split <;> simp_all [Nat.add_assoc]
  rw [← this, h5, List.getElem?_eq_getElem hlt]
end
end Go.Proofs.YtbegahbagnflnaaGreatDoor
