/- Package tree: roles, of any; own: what is amiss with what a node itself has. -/
import Derived.Test.YteihmagldhmjgaaDoorTreeD
import Derived.Test.YteihmagldhmjgaaDoorTreeN
import Derived.Test.YteihmagldhmjgaaDoorVValid
import Derived.Test.YteihmagldhmjgaaDoorSee
import Derived.Deep.CutRange
namespace Go.Proofs.YteihmagldhmjgaaDoor
open Go.RowKit

/-- Has a node as many as it has to have? -/
def pCounts (op : Int) (n : Nat) : Bool :=
  if op = 1 ∨ op = 2 ∨ op = 45 ∨ op = 46 then decide (n = 0) else if op = 3 ∨ op = 4 ∨ op = 26 ∨ op = 40 then decide (n = 1) else if (5 ≤ op ∧ op ≤ 18) ∨ op = 20 ∨ op = 22 then decide (n = 2)
  else if op = 19 ∨ op = 21 ∨ op = 43 then decide (n = 3) else if op = 23 ∨ op = 28 ∨ op = 41 ∨ op = 49 then decide (2 ≤ n) else if op = 24 ∨ op = 25 ∨ op = 52 then true
  else if op = 27 ∨ op = 42 ∨ op = 44 ∨ op = 48 ∨ op = 50 ∨ op = 51 then decide (n = 2) else if op = 29 then decide (n = 2) || decide (n = 3) else if op = 47 then decide (n ≤ 1) else false
/-- What has to stand in a node. -/
def pRoles (op : Int) (n : Nat) : List Int :=
  if op = 1 ∨ op = 2 ∨ op = 45 ∨ op = 46 then [] else if op = 3 ∨ op = 4 ∨ op = 26 ∨ op = 40 then List.replicate 1 0 else if (5 ≤ op ∧ op ≤ 18) ∨ op = 20 ∨ op = 22 then List.replicate 2 0
  else if op = 19 ∨ op = 21 then List.replicate 3 0 else if op = 43 then [0, 0, 6] else if op = 23 then List.replicate 2 0 ++ List.replicate (n - 2) 1 else if op = 28 then (List.replicate (n - 1) 3).set (n - 2) 4 ++ [0]
  else if op = 41 then ifL n else if op = 49 then 6 :: List.replicate (n - 1) 8 else if op = 24 ∨ op = 25 then List.replicate n 1 else if op = 52 then List.replicate n 7
  else if op = 27 then [2, 0] else if op = 42 ∨ op = 44 ∨ op = 48 then [0, 6] else if op = 50 then [5, 6] else if op = 51 then [6, 6] else if op = 29 then [0, 5, 0].take n else if op = 47 then List.replicate n 0 else []
set_option maxRecDepth 100000 in
set_option maxHeartbeats 3200000 in
theorem roles_any (op ln vk vn : Int) (s vs : ByteArray) (va : Value) (la : Option Addr) (n lc : Nat) (hn : n ≤ 1048576) (w : World) : Calls Tryd.prog 71 #[.agg #[.int .i64 op, .int .i64 ln, .string s, .int .i64 vk, .int .i64 vn, .string vs, va, .slice la n lc]] w (RolesPostC w (pRoles op n) (pCounts op n)) := by
  have hop : op < 1 ∨ 29 < op ∧ op < 40 ∨ 52 < op ∨ op = 1 ∨ op = 2 ∨ op = 3 ∨ op = 4 ∨ op = 5 ∨ op = 6 ∨ op = 7 ∨ op = 8 ∨ op = 9 ∨ op = 10 ∨ op = 11 ∨ op = 12 ∨ op = 13 ∨ op = 14 ∨ op = 15 ∨ op = 16 ∨ op = 17 ∨ op = 18 ∨ op = 19 ∨ op = 20 ∨ op = 21 ∨ op = 22 ∨ op = 23 ∨ op = 24 ∨ op = 25 ∨ op = 26 ∨ op = 27 ∨ op = 28 ∨ op = 29 ∨ op = 40 ∨ op = 41 ∨ op = 42 ∨ op = 43 ∨ op = 44 ∨ op = 45 ∨ op = 46 ∨ op = 47 ∨ op = 48 ∨ op = 49 ∨ op = 50 ∨ op = 51 ∨ op = 52 := by omega
  rcases hop with h | h | h | rfl | rfl | rfl | rfl | rfl | rfl | rfl | rfl | rfl | rfl | rfl | rfl | rfl | rfl | rfl | rfl | rfl | rfl | rfl | rfl | rfl | rfl | rfl | rfl | rfl | rfl | rfl | rfl | rfl | rfl | rfl | rfl | rfl | rfl | rfl | rfl | rfl | rfl | rfl | rfl | rfl | rfl
  · have hc : pCounts op n = false := by unfold pCounts; repeat rw [if_neg (by omega)]
    rw [hc]
    exact (rolesD_any op ln vk vn s vs va la n lc (by omega) hn w).mono fun e w' h => by obtain ⟨v, h1, h2, h3⟩ := h; exact ⟨v, h1, h2, fun h => by cases h⟩
  · have hc : pCounts op n = false := by unfold pCounts; repeat rw [if_neg (by omega)]
    rw [hc]
    exact (rolesD_any op ln vk vn s vs va la n lc (by omega) hn w).mono fun e w' h => by obtain ⟨v, h1, h2, h3⟩ := h; exact ⟨v, h1, h2, fun h => by cases h⟩
  · have hc : pCounts op n = false := by unfold pCounts; repeat rw [if_neg (by omega)]
    rw [hc]
    exact (rolesD_any op ln vk vn s vs va la n lc (by omega) hn w).mono fun e w' h => by obtain ⟨v, h1, h2, h3⟩ := h; exact ⟨v, h1, h2, fun h => by cases h⟩
  · exact (roles0_any 1 ln vk vn s vs va la n lc (by decide) hn w).mono fun e w' h => h.weak
  · exact (roles0_any 2 ln vk vn s vs va la n lc (by decide) hn w).mono fun e w' h => h.weak
  · exact (roles1_any 3 ln vk vn s vs va la n lc (by decide) hn w).mono fun e w' h => h.weak
  · exact (roles1_any 4 ln vk vn s vs va la n lc (by decide) hn w).mono fun e w' h => h.weak
  · exact (roles2_any 5 ln vk vn s vs va la n lc (by decide) hn w).mono fun e w' h => h.weak
  · exact (roles2_any 6 ln vk vn s vs va la n lc (by decide) hn w).mono fun e w' h => h.weak
  · exact (roles2_any 7 ln vk vn s vs va la n lc (by decide) hn w).mono fun e w' h => h.weak
  · exact (roles2_any 8 ln vk vn s vs va la n lc (by decide) hn w).mono fun e w' h => h.weak
  · exact (roles2_any 9 ln vk vn s vs va la n lc (by decide) hn w).mono fun e w' h => h.weak
  · exact (roles2_any 10 ln vk vn s vs va la n lc (by decide) hn w).mono fun e w' h => h.weak
  · exact (roles2_any 11 ln vk vn s vs va la n lc (by decide) hn w).mono fun e w' h => h.weak
  · exact (roles2_any 12 ln vk vn s vs va la n lc (by decide) hn w).mono fun e w' h => h.weak
  · exact (roles2_any 13 ln vk vn s vs va la n lc (by decide) hn w).mono fun e w' h => h.weak
  · exact (roles2_any 14 ln vk vn s vs va la n lc (by decide) hn w).mono fun e w' h => h.weak
  · exact (roles2_any 15 ln vk vn s vs va la n lc (by decide) hn w).mono fun e w' h => h.weak
  · exact (roles2_any 16 ln vk vn s vs va la n lc (by decide) hn w).mono fun e w' h => h.weak
  · exact (roles2_any 17 ln vk vn s vs va la n lc (by decide) hn w).mono fun e w' h => h.weak
  · exact (roles2_any 18 ln vk vn s vs va la n lc (by decide) hn w).mono fun e w' h => h.weak
  · exact (roles3_any 19 ln vk vn s vs va la n lc (by decide) hn w).mono fun e w' h => h.weak
  · exact (roles2_any 20 ln vk vn s vs va la n lc (by decide) hn w).mono fun e w' h => h.weak
  · exact (roles3_any 21 ln vk vn s vs va la n lc (by decide) hn w).mono fun e w' h => h.weak
  · exact (roles2_any 22 ln vk vn s vs va la n lc (by decide) hn w).mono fun e w' h => h.weak
  · exact (roles23_any 23 ln vk vn s vs va la n lc (by decide) hn w)
  · exact (roles24_any 24 ln vk vn s vs va la n lc (by decide) hn w)
  · exact (roles24_any 25 ln vk vn s vs va la n lc (by decide) hn w)
  · exact (roles1_any 26 ln vk vn s vs va la n lc (by decide) hn w).mono fun e w' h => h.weak
  · exact (roles27_any 27 ln vk vn s vs va la n lc (by decide) hn w).mono fun e w' h => h.weak
  · exact (roles28_any 28 ln vk vn s vs va la n lc (by decide) hn w)
  · exact (roles29_any 29 ln vk vn s vs va la n lc (by decide) hn w)
  · exact (roles1_any 40 ln vk vn s vs va la n lc (by decide) hn w).mono fun e w' h => h.weak
  · exact (roles41_any 41 ln vk vn s vs va la n lc (by decide) hn w)
  · exact (roles42_any 42 ln vk vn s vs va la n lc (by decide) hn w).mono fun e w' h => h.weak
  · exact (roles43_any 43 ln vk vn s vs va la n lc (by decide) hn w).mono fun e w' h => h.weak
  · exact (roles42_any 44 ln vk vn s vs va la n lc (by decide) hn w).mono fun e w' h => h.weak
  · exact (roles0_any 45 ln vk vn s vs va la n lc (by decide) hn w).mono fun e w' h => h.weak
  · exact (roles0_any 46 ln vk vn s vs va la n lc (by decide) hn w).mono fun e w' h => h.weak
  · exact (roles47_any 47 ln vk vn s vs va la n lc (by decide) hn w)
  · exact (roles42_any 48 ln vk vn s vs va la n lc (by decide) hn w).mono fun e w' h => h.weak
  · exact (roles49_any 49 ln vk vn s vs va la n lc (by decide) hn w)
  · exact (roles50_any 50 ln vk vn s vs va la n lc (by decide) hn w).mono fun e w' h => h.weak
  · exact (roles51_any 51 ln vk vn s vs va la n lc (by decide) hn w).mono fun e w' h => h.weak
  · exact (roles52_any 52 ln vk vn s vs va la n lc (by decide) hn w)

def fair1 (st loop : Bool) (op : Int) : Bool := st && (loop || (op != 45 && op != 46))
/-- May a node have this value? -/
def litOk (v : V) : Bool := v.k != 4 && decide (v.valid = 0) && (v.k != 0 || v.n != -9223372036854775808)
def noV (v : V) : Bool := v.k == 0 && v.n == 0 && v.s.toList.isEmpty && decide (v.l.length = 0)
def fairV (op : Int) (v : V) : Bool := if op = 1 then litOk v else noV v
def ownBad (f full is e : Bool) : Bool := !f || !full || (!is && !e)
def ownBad2 (is nm em e : Bool) : Bool := is && !nm && !(em && e)
/-- What is amiss with what a node itself has: a number of api's errors; 0: nothing. -/
def pOwn (x : Nd) (role : Int) (loop : Bool) : Nat :=
  if ownBad (fair1 (pStands x.op role) loop x.op && fairV x.op x.v) (pCounts x.op x.l.length) (pNamed x.op).1 x.s.toList.isEmpty then 103 else if ownBad2 (pNamed x.op).1 (pName x.s) (pNamed x.op).2 x.s.toList.isEmpty then 106 else 0
theorem ev_nil {pa : Nat → Addr} {n : Int} : (n = 0 → ev (errV pa 112) (errV pa 104) (errV pa 105) (errV pa 103) n = .nilIface) ∧ (n ≠ 0 → ∃ a, ev (errV pa 112) (errV pa 104) (errV pa 105) (errV pa 103) n = .iface 140 (.pointer (some a))) := by
  constructor
  · rintro rfl; rfl
  · intro h
    unfold ev
    rw [if_neg h]
    split
    · exact ⟨_, rfl⟩
    split
    · exact ⟨_, rfl⟩
    split
    · exact ⟨_, rfl⟩
    exact ⟨_, rfl⟩
theorem Sent17.errs {w : World} {pa : Nat → Addr} (h : Sent17 w pa) : Errs w (errV pa 112) (errV pa 104) (errV pa 105) (errV pa 103) :=
  ⟨h.s 11 (by decide), h.s 3 (by decide), h.s 4 (by decide), h.s 2 (by decide)⟩

set_option maxRecDepth 100000 in
set_option maxHeartbeats 6400000 in
theorem own_any (pa : Nat → Addr) (x : Nd) (role : Int) (hr0 : 0 ≤ role) (hr8 : role ≤ 8) (loop : Bool) (D : Nat → Prop) (w : World) (u : Array Value) (h : NIn D w x u) (hl : x.l.length ≤ 1048576) (hv : x.v.size ≤ 1099511627776) (hs : x.s.size ≤ 1099511627776) (hE : Sent17 w pa) (hg : 7 ≤ w.heap.size) :
    Calls Tryd.prog 70 #[.agg u, .int .i64 role, .bool loop] w fun e w' => e = .returned (errV pa (pOwn x role loop)) ∧ Fr (fun _ => False) w w' := by
  obtain ⟨va', la', rfl, ⟨va, vc, us1, rfl, hvr⟩, ⟨la, lc, us2, rfl, hlc, hlm, -⟩⟩ := h.open
  have hvl : VL D w x.v.l (.slice va x.v.l.length vc) := ⟨va, vc, us1, rfl, hvr⟩
  have hvx := hvl.close x.v.k x.v.n x.v.s
  have hvlen : x.v.l.length ≤ 9223372036854775807 := Nat.le_trans hvr.1 hvr.2.1
  have hSX := fun w => stands_any x role hr0 hr8 (.slice va x.v.l.length vc) (.slice la x.l.length lc) w
  obtain ⟨op, ln, s, v, l⟩ := x
  simp only [Nd.op, Nd.ln, Nd.s, Nd.v, Nd.l] at *
  have hvx' : VIn D w v #[.int .i64 v.k, .int .i64 v.n, .string v.s, .slice va v.l.length vc] := by
    obtain ⟨k, n, s, l⟩ := v
    exact hvx
  have hf0 := (Fr.refl (fun _ => False) w).alloc (.cells #[.int .i64 op, .int .i64 ln, .string s, .int .i64 v.k, .int .i64 v.n, .string v.s, .slice va v.l.length vc, .slice la l.length lc] 29)
  have hg0 := heap_alloc_new w (.cells #[.int .i64 op, .int .i64 ln, .string s, .int .i64 v.k, .int .i64 v.n, .string v.s, .slice va v.l.length vc, .slice la l.length lc] 29)
  have hE0 := hE.frame hf0
  have hVV : ∀ w2, Fr (fun _ => False) (w.alloc (.cells #[.int .i64 op, .int .i64 ln, .string s, .int .i64 v.k, .int .i64 v.n, .string v.s, .slice va v.l.length vc, .slice la l.length lc] 29)) w2 → Calls Tryd.prog 93 #[.agg #[.int .i64 v.k, .int .i64 v.n, .string v.s, .slice va v.l.length vc]] w2 fun e w' => e = .returned (ev (errV pa 112) (errV pa 104) (errV pa 105) (errV pa 103) v.valid) ∧ Fr (fun _ => False) w2 w' := fun w2 hf =>
    vvalid_any _ _ _ _ ⟨_, _, rfl⟩ ⟨_, _, rfl⟩ ⟨_, _, rfl⟩ ⟨_, _, rfl⟩ v hv D w2 _ ((hvx'.frame hf0 fun _ _ => not_false).frame hf fun _ _ => not_false) (hE0.frame hf).errs (by have := hf0.size; have := hf.size; omega)
  have HSX := hid hSX; have HF0 := hid hf0; have HG0 := hid hg0; have HE0 := hid hE0; have HVV := hid hVV
  have HRO := hid (roles_any op ln v.k v.n s v.s (.slice va v.l.length vc) la l.length lc hl)
  have HNM := hid (fun w => name_any s hs w)
  have HL := hid hl; have HS := hid hs
  have hp : pOwn (.mk op ln s v l) role loop = if ownBad (fair1 (pStands op role) loop op && fairV op v) (pCounts op l.length) (pNamed op).1 s.toList.isEmpty then 103 else if ownBad2 (pNamed op).1 (pName s) (pNamed op).2 s.toList.isEmpty then 106 else 0 := rfl
  have HP := hid hp
  have HLIT := hid (show litOk v = (v.k != 4 && decide (v.valid = 0) && (v.k != 0 || v.n != -9223372036854775808)) from rfl)
  have HNOV := hid (show noV v = (v.k == 0 && v.n == 0 && v.s.toList.isEmpty && decide (v.l.length = 0)) from rfl)
  have HFV := hid (show fairV op v = if op = 1 then litOk v else noV v from rfl)
  have hvs : v.s.size ≤ 9223372036854775807 := by have := V.size_eq v; omega
  generalize fairV op v = fv at *
  generalize litOk v = lo at *
  generalize noV v = nv at *
  generalize v.valid = vv at *
  generalize v.k = vk at *
  generalize v.n = vn at *
  generalize v.s = vs at *
  generalize v.l.length = vlen at *
  generalize pOwn (.mk op ln s v l) role loop = r0 at *
  clear h hvl hvx hvx' hf0 hg0 hE0 hVV hSX hE hvr us1 us2 hv hlc hlm hp
  generalize l.length = n at *
  generalize pStands op role = st at *
  generalize pCounts op n = full at *
  generalize hnm : pNamed op = nm at *
  obtain ⟨is, em⟩ := nm
  have HNMD := hid (named_any op)
  rw [hnm] at HNMD
  simp only at HNMD ⊢
  clear hnm
  generalize pName s = pn at *
  generalize hse : s.toList.isEmpty = se at *
  have HSE := hid hse
  go_enter Tryd.func70, Tryd.ntmps70
  go_upto_region 1 with fail
  generalize w.alloc (.cells #[.int .i64 op, .int .i64 ln, .string s, .int .i64 vk, .int .i64 vn, .string vs, .slice va vlen vc, .slice la n lc] 29) = W0 at *
  go_cut [7] from 12 to 27 (fun c wx => c = .bool (fair1 st loop op) ∧ Hid (Fr (fun _ => False) W0 wx))
  case first =>
    have d0 : W0.cell? ⟨w.heap.size, 0, none⟩ = some (.int .i64 op) := by rw [cell_of_row _ _ 0 _ _ _ HG0.out]; rfl
    have d1 : W0.cell? ⟨w.heap.size, 1, none⟩ = some (.int .i64 ln) := by rw [cell_of_row _ _ 1 _ _ _ HG0.out]; rfl
    have d2 : W0.cell? ⟨w.heap.size, 2, none⟩ = some (.string s) := by rw [cell_of_row _ _ 2 _ _ _ HG0.out]; rfl
    have d3 : W0.cell? ⟨w.heap.size, 3, none⟩ = some (.int .i64 vk) := by rw [cell_of_row _ _ 3 _ _ _ HG0.out]; rfl
    have d4 : W0.cell? ⟨w.heap.size, 4, none⟩ = some (.int .i64 vn) := by rw [cell_of_row _ _ 4 _ _ _ HG0.out]; rfl
    have d5 : W0.cell? ⟨w.heap.size, 5, none⟩ = some (.string vs) := by rw [cell_of_row _ _ 5 _ _ _ HG0.out]; rfl
    have d6 : W0.cell? ⟨w.heap.size, 6, none⟩ = some (.slice va vlen vc) := by rw [cell_of_row _ _ 6 _ _ _ HG0.out]; rfl
    have d7 : W0.cell? ⟨w.heap.size, 7, none⟩ = some (.slice la n lc) := by rw [cell_of_row _ _ 7 _ _ _ HG0.out]; rfl
    go_wp2_with fail
    refine (HSX.out _).mono ?_
    rintro e w2 ⟨rfl, hf2⟩
    replace d0 := hf2.cell d0 not_false
    have HFA := hid hf2
    clear hf2 d1 d2 d3 d4 d5 d6 d7
    have HFR := hid (show fair1 st loop op = (st && (loop || (op != 45 && op != 46))) from rfl)
    generalize fair1 st loop op = fr at *
    cases st
    · go_wp2_with fail
      go_meet
      exact ⟨by rw [HFR.out]; rfl, HFA⟩
    · cases loop
      · by_cases h1 : op = 45
        · subst h1
          go_wp2_with fail
          go_meet
          exact ⟨by rw [HFR.out]; rfl, HFA⟩
        · have q1 : (op != 45) = true := by simpa using h1
          by_cases h2 : op = 46
          · subst h2
            go_wp2_with fail
            go_meet
            exact ⟨by rw [HFR.out]; rfl, HFA⟩
          · have q2 : (op != 46) = true := by simpa using h2
            have HQ := hid (show fr = true by rw [HFR.out, q1, q2]; rfl)
            clear h1 h2
            go_wp2_with fail
            go_meet
            exact ⟨by rw [HQ.out], HFA⟩
      · go_wp2_with fail
        go_meet
        exact ⟨by rw [HFR.out]; rfl, HFA⟩
  case rest =>
  obtain ⟨rfl, HF1⟩ := hcut
  generalize fair1 st loop op = f1 at *
  obtain ⟨W1, hW1⟩ : ∃ W, W = wc := ⟨wc, rfl⟩
  rw [← hW1] at HF1 ⊢
  clear hW1 wc
  have hg1 := HF1.out.heap HG0.out not_false
  have d0 : W1.cell? ⟨w.heap.size, 0, none⟩ = some (.int .i64 op) := by rw [cell_of_row _ _ 0 _ _ _ hg1]; rfl
  have d3 : W1.cell? ⟨w.heap.size, 3, none⟩ = some (.int .i64 vk) := by rw [cell_of_row _ _ 3 _ _ _ hg1]; rfl
  have d4 : W1.cell? ⟨w.heap.size, 4, none⟩ = some (.int .i64 vn) := by rw [cell_of_row _ _ 4 _ _ _ hg1]; rfl
  have d5 : W1.cell? ⟨w.heap.size, 5, none⟩ = some (.string vs) := by rw [cell_of_row _ _ 5 _ _ _ hg1]; rfl
  have d6 : W1.cell? ⟨w.heap.size, 6, none⟩ = some (.slice va vlen vc) := by rw [cell_of_row _ _ 6 _ _ _ hg1]; rfl
  have HG1 := hid hg1
  clear hg1
  obtain ⟨o1, ho1⟩ : ∃ b, (op == 1) = b := ⟨_, rfl⟩
  go_upto_if 30 with fail
  go_cut [7] from 31 to 81 (fun c wx => c = .bool (f1 && fv) ∧ Hid (Fr (fun _ => False) W1 wx))
  case first =>
    have HR1 := hid (Fr.refl (fun _ => False) W1)
    cases o1
    case true =>
      obtain rfl : op = 1 := by simpa using ho1
      clear ho1
      have HFV2 := hid (show fv = lo by rw [HFV.out, if_pos rfl])
      cases f1
      · go_wp2_with fail
        go_meet
        exact ⟨rfl, HR1⟩
      by_cases h4 : vk = 4
      · subst h4
        have HX := hid (show fv = false by rw [HFV2.out, HLIT.out]; rfl)
        go_wp2_with fail
        go_meet
        exact ⟨by rw [HX.out]; rfl, HR1⟩
      have q4 : (vk != 4) = true := by simpa using h4
      have hcell : ∀ j, j < 4 → W1.cell? ⟨w.heap.size, 3 + j, none⟩ = #[.int .i64 vk, .int .i64 vn, .string vs, .slice va vlen vc][j]? := by
        intro j hj
        rcases j with _ | _ | _ | _ | j
        · exact d3
        · exact d4
        · exact d5
        · exact d6
        · omega
      go_wp2_with fail
      refine (HVV.out _ HF1.out).mono ?_
      rintro e w2 ⟨rfl, hf2⟩
      replace d0 := hf2.cell d0 not_false
      replace d3 := hf2.cell d3 not_false
      replace d4 := hf2.cell d4 not_false
      have HFA := hid hf2
      clear hf2 hcell d5 d6
      by_cases h5 : vv = 0
      · have hev := hid (ev_nil (pa := pa).1 h5)
        rw [hev.out]
        by_cases h6 : vk = 0
        · subst h6
          by_cases h7 : vn = -9223372036854775808
          · subst h7
            have HX := hid (show fv = false by rw [HFV2.out, HLIT.out, h5]; rfl)
            go_wp2_with fail
            go_meet
            exact ⟨by rw [HX.out]; rfl, HFA⟩
          · have q7 : (vn != -9223372036854775808) = true := by simpa using h7
            have HX := hid (show fv = true by rw [HFV2.out, HLIT.out, h5, q7]; rfl)
            go_wp2_with fail
            go_meet
            exact ⟨by rw [HX.out]; rfl, HFA⟩
        · have q6 : (vk != 0) = true := by simpa using h6
          have HX := hid (show fv = true by rw [HFV2.out, HLIT.out, h5, q4, q6]; rfl)
          go_wp2_with fail
          go_meet
          exact ⟨by rw [HX.out]; rfl, HFA⟩
      · obtain ⟨a, ha⟩ := (ev_nil (pa := pa)).2 h5
        rw [ha]
        have HX := hid (show fv = false by rw [HFV2.out, HLIT.out, decide_eq_false h5, Bool.and_false, Bool.false_and])
        go_wp2_with fail
        go_meet
        exact ⟨by rw [HX.out]; rfl, HFA⟩
    case false =>
      have ho : op ≠ 1 := by simpa using ho1
      have HFV2 := hid (show fv = nv by rw [HFV.out, if_neg ho])
      clear ho
      cases f1
      · go_wp2_with fail
        go_meet
        exact ⟨rfl, HR1⟩
      by_cases h1 : vk = 0
      · by_cases h2 : vn = 0
        · subst h1 h2
          have HX := hid (show fv = (vs.toList.isEmpty && decide (vlen = 0)) by rw [HFV2.out, HNOV.out]; simp)
          have hvl0 : ((vlen : Int) == 0) = decide (vlen = 0) := by
            by_cases h : vlen = 0
            · subst h; rfl
            · rw [decide_eq_false h, beq_eq_false_iff_ne]; omega
          cases he9 : vs.toList.isEmpty
          · have HX2 := hid (show fv = false by rw [HX.out, he9]; rfl)
            go_wp2_with fail
            go_meet
            exact ⟨by rw [HX2.out]; rfl, HR1⟩
          · have HX2 := hid (show fv = decide (vlen = 0) by rw [HX.out, he9]; rfl)
            generalize decide (vlen = 0) = l9 at *
            go_wp2_with fail
            go_meet
            exact ⟨by rw [HX2.out]; rfl, HR1⟩
        · have q2 : (vn == 0) = false := by simpa using h2
          have HX := hid (show fv = false by rw [HFV2.out, HNOV.out, q2]; simp)
          subst h1
          clear h2
          go_wp2_with fail
          go_meet
          exact ⟨by rw [HX.out]; rfl, HR1⟩
      · have q2 : (vk == 0) = false := by simpa using h1
        have HX := hid (show fv = false by rw [HFV2.out, HNOV.out, q2]; simp)
        clear h1
        go_wp2_with fail
        go_meet
        exact ⟨by rw [HX.out]; rfl, HR1⟩
  case rest =>
  obtain ⟨rfl, HF2⟩ := hcut
  generalize (f1 && fv) = f2 at *
  obtain ⟨W2, hW2⟩ : ∃ W, W = wc := ⟨wc, rfl⟩
  rw [← hW2] at HF2 ⊢
  clear hW2 wc
  have HF02 := hid (HF1.out.trans' HF2.out)
  have hg2 := HF02.out.heap HG0.out not_false
  clear d0 d3 d4 d5 d6 HVV HSX HLIT HNOV HFV
  have d0 : W2.cell? ⟨w.heap.size, 0, none⟩ = some (.int .i64 op) := by rw [cell_of_row _ _ 0 _ _ _ hg2]; rfl
  have d1 : W2.cell? ⟨w.heap.size, 1, none⟩ = some (.int .i64 ln) := by rw [cell_of_row _ _ 1 _ _ _ hg2]; rfl
  have d2 : W2.cell? ⟨w.heap.size, 2, none⟩ = some (.string s) := by rw [cell_of_row _ _ 2 _ _ _ hg2]; rfl
  have d3 : W2.cell? ⟨w.heap.size, 3, none⟩ = some (.int .i64 vk) := by rw [cell_of_row _ _ 3 _ _ _ hg2]; rfl
  have d4 : W2.cell? ⟨w.heap.size, 4, none⟩ = some (.int .i64 vn) := by rw [cell_of_row _ _ 4 _ _ _ hg2]; rfl
  have d5 : W2.cell? ⟨w.heap.size, 5, none⟩ = some (.string vs) := by rw [cell_of_row _ _ 5 _ _ _ hg2]; rfl
  have d6 : W2.cell? ⟨w.heap.size, 6, none⟩ = some (.slice va vlen vc) := by rw [cell_of_row _ _ 6 _ _ _ hg2]; rfl
  have d7 : W2.cell? ⟨w.heap.size, 7, none⟩ = some (.slice la n lc) := by rw [cell_of_row _ _ 7 _ _ _ hg2]; rfl
  go_wp2_with fail
  refine (HRO.out _).mono ?_
  rintro e w3 ⟨v3, rfl, hf3, -⟩
  replace d0 := hf3.cell d0 not_false
  replace d2 := hf3.cell d2 not_false
  have HF03 := hid (HF02.out.trans' hf3)
  clear hf3 d1 d3 d4 d5 d6 d7 hg2
  go_wp2_with fail
  refine (HNMD.out _).mono ?_
  rintro e w4 ⟨rfl, rfl⟩
  go_upto_region 7 with fail
  go_cut [107] from 93 to 107 (fun c wx => c = .bool (ownBad f2 full is se) ∧ w3 = wx)
  case first =>
    have HB := hid (show ownBad f2 full is se = (!f2 || !full || (!is && !se)) from rfl)
    generalize ownBad f2 full is se = bad at *
    cases f2
    · go_wp2_with fail
      go_meet
      exact ⟨by rw [HB.out]; rfl, rfl⟩
    cases full
    · go_wp2_with fail
      go_meet
      exact ⟨by rw [HB.out]; rfl, rfl⟩
    cases is
    · go_wp2_with fail
      go_meet
      exact ⟨by rw [HB.out]; simp, rfl⟩
    · go_wp2_with fail
      go_meet
      exact ⟨by rw [HB.out]; rfl, rfl⟩
  case rest =>
  obtain ⟨rfl, rfl⟩ := hcut
  generalize ownBad f2 full is se = bad at *
  have HB2 := hid (show ownBad2 is pn em se = (is && !pn && !(em && se)) from rfl)
  generalize ownBad2 is pn em se = bad2 at *
  have s2 : w3.cell? ⟨2, 0, none⟩ = some (errV pa 103) := HF03.out.cell (HE0.out.s 2 (by decide)) not_false
  have s5 : w3.cell? ⟨3, 0, none⟩ = some (errV pa 106) := HF03.out.cell (HE0.out.s 5 (by decide)) not_false
  have HFW := hid (HF0.out.trans' HF03.out)
  have HN0 := hid (show errV pa 0 = .nilIface from rfl)
  have HE3 := hid (show ∀ n, n = 103 ∨ n = 106 → ∃ a, errV pa n = .iface 140 (.pointer (some a)) from fun n h => by rcases h with rfl | rfl <;> exact ⟨_, rfl⟩)
  cases bad
  · cases is
    · have HX := hid (show bad2 = false by rw [HB2.out]; rfl)
      clear s2 s5
      go_wp2_with fail
      go_ret
      exact ⟨by rw [HP.out, HX.out]; rfl, HFW.out⟩
    · have HS5 := hid s5
      clear s2 s5
      go_wp2_with fail
      refine (HNM.out _).mono ?_
      rintro e w5 ⟨rfl, hf5⟩
      have HFW5 := hid (HFW.out.trans' hf5)
      have s5 := hf5.cell HS5.out not_false
      replace d2 := hf5.cell d2 not_false
      clear hf5
      cases pn
      · cases em
        · have HX := hid (show bad2 = true by rw [HB2.out]; rfl)
          go_wp2_with fail
          go_ret
          exact ⟨by rw [HP.out, HX.out]; rfl, HFW5.out⟩
        · have HX := hid (show bad2 = !se by rw [HB2.out]; simp)
          cases se
          · go_wp2_with fail
            go_ret
            exact ⟨by rw [HP.out, HX.out]; rfl, HFW5.out⟩
          · go_wp2_with fail
            go_ret
            exact ⟨by rw [HP.out, HX.out]; rfl, HFW5.out⟩
      · have HX := hid (show bad2 = false by rw [HB2.out]; simp)
        go_wp2_with fail
        go_ret
        exact ⟨by rw [HP.out, HX.out]; rfl, HFW5.out⟩
  · clear s5
    go_wp2_with fail
    go_ret
    exact ⟨by rw [HP.out]; rfl, HFW.out⟩
end Go.Proofs.YteihmagldhmjgaaDoor
