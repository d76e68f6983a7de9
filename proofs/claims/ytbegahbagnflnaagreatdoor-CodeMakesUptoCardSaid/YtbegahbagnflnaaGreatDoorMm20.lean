/- Names, Slay, SaysC, CodeVa, CodeLi, SaysA, SaysD, SaysE, RefSame, NodSame: several texts in one: a claim has at most 60 files -/
import Derived.Test.YtbegahbagnflnaaGreatDoorMm09
import Derived.Test.YtbegahbagnflnaaGreatDoorMm08
import Derived.Lib.SlicesCompact
import Derived.Sort.EncStr
import Derived.Ground.NamesProg
import Derived.Shelf.Sort.Plain
import Derived.Shelf.Slices.CompactS
import Derived.Shelf.Slices.In.SortNone
import Derived.Sort.OwnSorted
import Derived.Lib.OwnBridge
import Derived.Deep.CutRange
import Derived.Deep.CutBlock
import Derived.Test.YtbegahbagnflnaaGreatDoorMm19
import Derived.Test.YtbegahbagnflnaaGreatDoorMm10
import Derived.Test.YtbegahbagnflnaaGreatDoorMm02
import Derived.Test.YtbegahbagnflnaaGreatDoorRegion
namespace Go.Proofs
open Go.Shelf
def Tryz.laysSort_ren : Go.Shelf.Ren := ⟨fun | 190 => 47 | 125 => 78 | 258 => 77 | 128 => 108 | 129 => 109 | 302 => 99 | 303 => 100 | 304 => 101 | 305 => 102 | 306 => 103 | 307 => 104 | 308 => 105 | 309 => 106 | 310 => 107 | 333 => 124 | 329 => 125 | 330 => 126 | 334 => 127 | 335 => 128 | 336 => 129 | 344 => 143 | n => n, fun | 31 => 50 | 9 => 9 | 3 => 3 | 46 => 129 | 0 => 0 | 51 => 95 | 53 => 98 | 4 => 4 | 183 => 152 | 182 => 151 | 131 => 156 | 5 => 5 | 218 => 173 | 222 => 105 | 228 => 184 | 229 => 185 | n => n, fun | n => n⟩
theorem Tryz.laysSort : Go.Proofs.Lays.n190 Tryz.prog Tryz.laysSort_ren := {
  mixed := by kernel_rfl
  f125 := Tryz.func78.trans (congrArg some (by kernel_rfl))
  f128 := Tryz.func108.trans (congrArg some (by kernel_rfl))
  f129 := Tryz.func109.trans (congrArg some (by kernel_rfl))
  f190 := Tryz.func47.trans (congrArg some (by kernel_rfl))
  f258 := Tryz.func77.trans (congrArg some (by kernel_rfl))
  f302 := Tryz.func99.trans (congrArg some (by kernel_rfl))
  f303 := Tryz.func100.trans (congrArg some (by kernel_rfl))
  f304 := Tryz.func101.trans (congrArg some (by kernel_rfl))
  f305 := Tryz.func102.trans (congrArg some (by kernel_rfl))
  f306 := Tryz.func103.trans (congrArg some (by kernel_rfl))
  f307 := Tryz.func104.trans (congrArg some (by kernel_rfl))
  f308 := Tryz.func105.trans (congrArg some (by kernel_rfl))
  f309 := Tryz.func106.trans (congrArg some (by kernel_rfl))
  f310 := Tryz.func107.trans (congrArg some (by kernel_rfl))
  f329 := Tryz.func125.trans (congrArg some (by kernel_rfl))
  f330 := Tryz.func126.trans (congrArg some (by kernel_rfl))
  f333 := Tryz.func124.trans (congrArg some (by kernel_rfl))
  f334 := Tryz.func127.trans (congrArg some (by kernel_rfl))
  f335 := Tryz.func128.trans (congrArg some (by kernel_rfl))
  f336 := Tryz.func129.trans (congrArg some (by kernel_rfl))
  f344 := Tryz.func143.trans (congrArg some (by kernel_rfl))
  t0 := Tryz.underlying0
  a0 := Tryz.isAgg0
  z0 := Tryz.sizeOf0
  v0 := Tryz.zeroValue0
  t3 := Tryz.underlying3
  a3 := Tryz.isAgg3
  z3 := Tryz.sizeOf3
  v3 := Tryz.zeroValue3
  t4 := Tryz.underlying4
  a4 := Tryz.isAgg4
  z4 := Tryz.sizeOf4
  v4 := Tryz.zeroValue4
  t5 := Tryz.underlying5
  a5 := Tryz.isAgg5
  z5 := Tryz.sizeOf5
  v5 := Tryz.zeroValue5
  t9 := Tryz.underlying9
  a9 := Tryz.isAgg9
  z9 := Tryz.sizeOf9
  v9 := Tryz.zeroValue9
  t31 := Tryz.underlying50
  a31 := Tryz.isAgg50
  z31 := Tryz.sizeOf50
  v31 := Tryz.zeroValue50
  t46 := Tryz.underlying129
  a46 := Tryz.isAgg129
  z46 := Tryz.sizeOf129
  v46 := Tryz.zeroValue129
  t51 := Tryz.underlying95
  a51 := Tryz.isAgg95
  z51 := Tryz.sizeOf95
  v51 := Tryz.zeroValue95
  t53 := Tryz.underlying98
  a53 := Tryz.isAgg98
  z53 := Tryz.sizeOf98
  v53 := Tryz.zeroValue98
  t131 := Tryz.underlying156
  a131 := Tryz.isAgg156
  z131 := Tryz.sizeOf156
  v131 := Tryz.zeroValue156
  t182 := Tryz.underlying151
  a182 := Tryz.isAgg151
  z182 := Tryz.sizeOf151
  v182 := Tryz.zeroValue151
  t183 := Tryz.underlying152
  a183 := Tryz.isAgg152
  z183 := Tryz.sizeOf152
  v183 := Tryz.zeroValue152
  t218 := Tryz.underlying173
  a218 := Tryz.isAgg173
  z218 := Tryz.sizeOf173
  v218 := Tryz.zeroValue173
  t222 := Tryz.underlying105
  a222 := Tryz.isAgg105
  z222 := Tryz.sizeOf105
  v222 := Tryz.zeroValue105
  t228 := Tryz.underlying184
  a228 := Tryz.isAgg184
  z228 := Tryz.sizeOf184
  v228 := Tryz.zeroValue184
  t229 := Tryz.underlying185
  a229 := Tryz.isAgg185
  z229 := Tryz.sizeOf185
  v229 := Tryz.zeroValue185 }

def Tryz.laysCompact_ren : Go.Shelf.Ren := ⟨fun | 194 => 48 | n => n, fun | 31 => 50 | 9 => 9 | 3 => 3 | 4 => 4 | 0 => 0 | n => n, fun | n => n⟩
theorem Tryz.laysCompact : Go.Proofs.Lays.n194 Tryz.prog Tryz.laysCompact_ren := {
  mixed := by kernel_rfl
  f194 := Tryz.func48.trans (congrArg some (by kernel_rfl))
  t0 := Tryz.underlying0
  a0 := Tryz.isAgg0
  z0 := Tryz.sizeOf0
  v0 := Tryz.zeroValue0
  t3 := Tryz.underlying3
  a3 := Tryz.isAgg3
  z3 := Tryz.sizeOf3
  v3 := Tryz.zeroValue3
  t4 := Tryz.underlying4
  a4 := Tryz.isAgg4
  z4 := Tryz.sizeOf4
  v4 := Tryz.zeroValue4
  t9 := Tryz.underlying9
  a9 := Tryz.isAgg9
  z9 := Tryz.sizeOf9
  v9 := Tryz.zeroValue9
  t31 := Tryz.underlying50
  a31 := Tryz.isAgg50
  z31 := Tryz.sizeOf50
  v31 := Tryz.zeroValue50 }
end Go.Proofs
set_option linter.unusedSimpArgs false
set_option linter.unusedVariables false
set_option linter.unnecessarySimpa false
namespace Go.Proofs.YtbegahbagnflnaaGreatDoor
section
open Go.RowKit

theorem bf_lt : ∀ (a b : List UInt8), bf a b = decide (a < b)
  | [], [] => by rw [bf]; simp
  | [], y :: t => by rw [bf]; simp
  | _ :: _, [] => by rw [bf]; simp
  | x :: r, y :: t => by
    rw [bf, bf_lt r t]
    by_cases e : x = y
    · subst e
      rw [if_pos rfl]
      simp [List.cons_lt_cons_iff]
    · rw [if_neg e]
      simp [List.cons_lt_cons_iff, e, UInt8.lt_iff_toNat_lt]
theorem bf_le {a b : List UInt8} : bf b a = false ↔ a ≤ b := by
  rw [bf_lt, decide_eq_false_iff_not, List.not_lt]
def StrictB (L : List (List UInt8)) : Prop := L.Pairwise fun a b => bf a b = true
theorem strict_unique : ∀ {L M : List (List UInt8)}, StrictB L → StrictB M → (∀ s, s ∈ L ↔ s ∈ M) → L = M
  | [], [], _, _, _ => rfl
  | [], b :: M, _, _, h => absurd ((h b).2 (List.mem_cons_self ..)) (by simp)
  | a :: L, [], _, _, h => absurd ((h a).1 (List.mem_cons_self ..)) (by simp)
  | a :: L, b :: M, hL, hM, h => by
    obtain ⟨h1, h2⟩ := List.pairwise_cons.1 hL
    obtain ⟨h3, h4⟩ := List.pairwise_cons.1 hM
    have hab : a = b := by
      rcases List.mem_cons.1 ((h a).1 (List.mem_cons_self ..)) with e | e
      · exact e
      rcases List.mem_cons.1 ((h b).2 (List.mem_cons_self ..)) with e' | e'
      · exact e'.symm
      · have := bf_trans (h1 b e') (h3 a e)
        rw [bf_irr] at this
        cases this
    subst hab
    rw [strict_unique h2 h4 fun s => ?_]
    constructor
    · intro hs
      rcases List.mem_cons.1 ((h s).1 (List.mem_cons_of_mem _ hs)) with e | e
      · have := h1 s hs
        rw [e, bf_irr] at this
        cases this
      · exact e
    · intro hs
      rcases List.mem_cons.1 ((h s).2 (List.mem_cons_of_mem _ hs)) with e | e
      · have := h3 s hs
        rw [e, bf_irr] at this
        cases this
      · exact e
theorem strictT_B {L : List ByteArray} : StrictT L ↔ StrictB (L.map (·.data.toList)) := by
  unfold StrictT StrictB
  rw [List.pairwise_map]
theorem map_bytes_inj : ∀ {L M : List ByteArray}, L.map (·.data.toList) = M.map (·.data.toList) → L = M
  | [], [], _ => rfl
  | [], _ :: _, h => by simp at h
  | _ :: _, [], h => by simp at h
  | a :: L, b :: M, h => by
    simp only [List.map_cons, List.cons.injEq] at h
    rw [ba_ext h.1, map_bytes_inj h.2]
theorem strictT_unique {L M : List ByteArray} (h1 : StrictT L) (h2 : StrictT M) (h : ∀ s, s ∈ L ↔ s ∈ M) : L = M :=
  map_bytes_inj (strict_unique (strictT_B.1 h1) (strictT_B.1 h2) fun s => by
    simp only [List.mem_map]
    constructor
    · rintro ⟨a, ha, rfl⟩; exact ⟨a, (h a).1 ha, rfl⟩
    · rintro ⟨a, ha, rfl⟩; exact ⟨a, (h a).2 ha, rfl⟩)

theorem compactUpTo_strict (d : Array (List UInt8)) (hd : ∀ i j, i ≤ j → j < d.size → bf d[j]! d[i]! = false) : ∀ m, m ≤ d.size → StrictB (Lib.compactUpTo d m) ∧ (∀ x, x ∈ Lib.compactUpTo d m ↔ ∃ j, j < m ∧ x = d[j]!)
  | 0, _ => ⟨List.Pairwise.nil, fun x => ⟨fun h => by simp [Lib.compactUpTo] at h, fun ⟨j, h, _⟩ => absurd h (Nat.not_lt_zero j)⟩⟩
  | m + 1, hm => by
    obtain ⟨h1, h2⟩ := compactUpTo_strict d hd m (by omega)
    rw [Lib.compactUpTo_succ]
    by_cases hk : Lib.keeps d m = true
    · rw [if_pos hk]
      refine ⟨?_, fun x => ?_⟩
      · unfold StrictB
        rw [List.pairwise_append]
        refine ⟨h1, List.pairwise_singleton _ _, fun a ha b hb => ?_⟩
        rw [List.mem_singleton.1 hb]
        obtain ⟨j, hj, rfl⟩ := (h2 a).1 ha
        have hne : d[m]! ≠ d[m - 1]! := by
          have := of_decide_eq_true hk
          rcases this with h | h
          · omega
          · exact h
        have h3 : bf d[m - 1]! d[m]! = true := bf_tri (hd (m - 1) m (by omega) (by omega)) hne
        by_cases e : d[j]! = d[m - 1]!
        · rw [e]; exact h3
        · exact bf_trans (bf_tri (hd j (m - 1) (by omega) (by omega)) fun h => e h.symm) h3
      · rw [List.mem_append, h2, List.mem_singleton]
        constructor
        · rintro (⟨j, hj, rfl⟩ | rfl)
          · exact ⟨j, by omega, rfl⟩
          · exact ⟨m, by omega, rfl⟩
        · rintro ⟨j, hj, rfl⟩
          by_cases e : j = m
          · exact .inr (by rw [e])
          · exact .inl ⟨j, by omega, rfl⟩
    · rw [if_neg hk, List.append_nil]
      refine ⟨h1, fun x => ?_⟩
      rw [h2]
      have hm0 : m ≠ 0 ∧ d[m]! = d[m - 1]! := by
        have h3 := of_decide_eq_false (Bool.eq_false_iff.2 hk)
        by_cases e : m = 0
        · exact absurd (.inl e) h3
        · exact ⟨e, Classical.byContradiction fun h => h3 (.inr h)⟩
      constructor
      · rintro ⟨j, hj, rfl⟩; exact ⟨j, by omega, rfl⟩
      · rintro ⟨j, hj, rfl⟩
        by_cases e : j = m
        · subst e; exact ⟨j - 1, by omega, hm0.2⟩
        · exact ⟨j, by omega, rfl⟩
/-- Sorted and compacted: strictly rising, and the same texts. -/
theorem rise_of (ss : List (List UInt8)) : StrictB (Lib.compact (ss.mergeSort fun x y => decide (x ≤ y))) ∧ (∀ x, x ∈ Lib.compact (ss.mergeSort fun x y => decide (x ≤ y)) ↔ x ∈ ss) := by
  have hp : (ss.mergeSort fun x y => decide (x ≤ y)).Pairwise fun x y => decide (x ≤ y) = true := by
    refine List.pairwise_mergeSort (fun a b c h1 h2 => ?_) (fun a b => ?_) ss
    · simp only [decide_eq_true_eq] at *; exact List.le_trans h1 h2
    · simp only [Bool.or_eq_true, decide_eq_true_eq]; exact List.le_total a b
  have hm : ∀ x, x ∈ (ss.mergeSort fun x y => decide (x ≤ y)) ↔ x ∈ ss := fun x => List.mem_mergeSort
  generalize (ss.mergeSort fun x y => decide (x ≤ y)) = zs at *
  obtain ⟨h1, h2⟩ := compactUpTo_strict zs.toArray (fun i j hij hj => by
    have hj' : j < zs.length := by simpa using hj
    have e1 : zs.toArray[j]! = zs[j] := by simp [hj']
    have e2 : zs.toArray[i]! = zs[i] := by simp [show i < zs.length by omega]
    rw [e1, e2]
    by_cases e : i = j
    · subst e; exact bf_irr _
    · exact bf_le.2 (of_decide_eq_true (List.pairwise_iff_getElem.1 hp i j (by omega) hj' (by omega)))) zs.length (by simp)
  refine ⟨h1, fun x => ?_⟩
  rw [← hm]
  unfold Lib.compact
  rw [h2, List.mem_iff_getElem]
  constructor
  · rintro ⟨j, hj, rfl⟩; exact ⟨j, hj, by simp [hj]⟩
  · rintro ⟨j, hj, rfl⟩; exact ⟨j, hj, by simp [hj]⟩

def isVar (op : Int) : Bool := op == 2 || op == 42 || op == 43 || op == 50
/-- The name of a node alone. -/
def ownName (op : Int) (s : ByteArray) : List ByteArray := if isVar op && !s.toList.isEmpty then [s] else []
mutual
def Nd.names : Nd → List ByteArray
  | .mk op _ s _ l => ownName op s ++ namesL l
/-- The names of variables in programs. -/
def namesL : List Nd → List ByteArray
  | [] => []
  | x :: r => Nd.names x ++ namesL r
end
theorem Nd.names_eq (x : Nd) : x.names = ownName x.op x.s ++ namesL x.l := by cases x; rw [Nd.names]; rfl
theorem namesL_append (a b : List Nd) : namesL (a ++ b) = namesL a ++ namesL b := by
  induction a with
  | nil => simp [namesL]
  | cons x r ih => rw [List.cons_append, namesL, namesL, ih, List.append_assoc]
theorem namesL_take {l : List Nd} {k : Nat} {y : Nd} (h : l[k]? = some y) : namesL (l.take (k + 1)) = namesL (l.take k) ++ (ownName y.op y.s ++ namesL y.l) := by
  rw [List.take_add_one, h, namesL_append]
  simp [namesL, Nd.names_eq]
theorem ownName_length (op : Int) (s : ByteArray) : (ownName op s).length ≤ 1 := by unfold ownName; split <;> simp
mutual
theorem Nd.names_size : ∀ (x : Nd) (s : ByteArray), s ∈ x.names → s.size ≤ x.sz
  | .mk op ln t v l, s, h => by
    rw [Nd.names, List.mem_append] at h
    rw [Nd.sz]
    rcases h with h | h
    · unfold ownName at h
      split at h
      · rw [List.mem_singleton.1 h]; omega
      · cases h
    · have := namesL_size l s h; omega
theorem namesL_size : ∀ (l : List Nd) (s : ByteArray), s ∈ namesL l → s.size ≤ szL l
  | [], s, h => by rw [namesL] at h; cases h
  | x :: r, s, h => by
    rw [namesL, List.mem_append] at h
    rw [szL]
    rcases h with h | h
    · have := Nd.names_size x s h; omega
    · have := namesL_size r s h; omega
end
end
section
open Go.RowKit Go.Shelf Go.Sort

def unB (ts : List (List UInt8)) : List ByteArray := ts.map fun b => ⟨b.toArray⟩
theorem unB_map (ts : List (List UInt8)) : (unB ts).map (·.data.toList) = ts := by
  unfold unB
  rw [List.map_map]
  exact List.map_id'' (fun _ => rfl) ts
theorem unB_sV (ts : List (List UInt8)) : sV (unB ts) = ts.map encStr := by
  unfold sV
  rw [← Lib.map_encStr, unB_map]
theorem unB_length (ts : List (List UInt8)) : (unB ts).length = ts.length := by simp [unB]
theorem sV_enc (L : List ByteArray) : sV L = (L.map (·.data.toList)).map encStr := by rw [Lib.map_encStr]; rfl

theorem tsort_own (L : List ByteArray) (hL : L.length ≤ 1099511627776) (base : Nat) (v : Value) (w : World) (h : w.ownsRow base 9 1 v L.length (sV L)) :
    Calls Tryz.prog 47 #[v] w fun e w' => e = .returned (.tuple #[]) ∧ w'.ownsRow base 9 1 v L.length (sV (unB ((L.map (·.data.toList)).mergeSort fun x y => decide (x ≤ y)))) ∧ Fr (fun k => some k = v.ownBlock) w w' := by
  rcases h.2 with ⟨rfl, h0⟩ | ⟨g, cap, cur, rfl, hbase, hb, h1, h2, h3, h4⟩
  · obtain rfl := List.eq_nil_of_length_eq_zero h0
    refine (Any.slices_Sort_string_none Tryz.laysSort none 0 w).mono ?_
    rintro e w' ⟨rfl, rfl⟩
    exact ⟨rfl, by simpa [unB, sV] using h, Fr.refl _ _⟩
  · have hlen : (L.map (·.data.toList)).length = L.length := by simp
    have hH : Holds encStr w g 0 (L.map (·.data.toList)).toArray := Go.holds_of_block hb (by rw [hlen, ← sV_enc]; simpa using h4)
    have hc := Any.slices_Sort_string Tryz.laysSort g 0 cap (L.map (·.data.toList)) w hH (heap_lt hb) (by omega)
    rw [hlen] at hc
    refine hc.mono ?_
    rintro e w' ⟨rfl, n, os, rfl⟩
    have hl : ((L.map (·.data.toList)).mergeSort fun x y => decide (x ≤ y)).length = L.length := by rw [List.length_mergeSort, hlen]
    have hs := Go.ownsRow_sorted (w := w) (base := base) (e := 9) (g := g) (cap := cap) (n := n) (os := os) (ss := L.map (·.data.toList)) (ts := (L.map (·.data.toList)).mergeSort fun x y => decide (x ≤ y)) (by rw [hl, hlen]) hbase hb (by omega) h2 (by simpa using h3)
    rw [unB_sV]
    refine ⟨rfl, ?_, (Fr.of_grownBy (Go.grownBy_sorted _)).mono fun k _ hk => hk⟩
    rw [hlen] at hs
    exact hs
theorem grownBy_put {w : World} {g n : Nat} (d : Array (List UInt8)) : w.grownBy (putRow encStr (Sort.ahead w n) g 0 d) (some g) := by
  refine ⟨rfl, rfl, rfl, by simp [putRow, mapBlock, Sort.ahead], fun k hk hne => ?_⟩
  have : g ≠ k := fun e => hne (by rw [e])
  simp [putRow, mapBlock, Sort.ahead, Array.getElem?_modify, this]
theorem tcompact_own (L : List ByteArray) (hL : L.length ≤ 1099511627776) (base : Nat) (v : Value) (w : World) (h : w.ownsRow base 9 1 v L.length (sV L)) :
    Calls Tryz.prog 48 #[v] w fun e w' => ∃ v', e = .returned v' ∧ w'.ownsRow base 9 1 v' (unB (Lib.compact (L.map (·.data.toList)))).length (sV (unB (Lib.compact (L.map (·.data.toList))))) ∧ (unB (Lib.compact (L.map (·.data.toList)))).length ≤ L.length ∧ Fr (fun k => some k = v.ownBlock) w w' := by
  rcases h.2 with ⟨rfl, h0⟩ | ⟨g, cap, cur, rfl, hbase, hb, h1, h2, h3, h4⟩
  · obtain rfl := List.eq_nil_of_length_eq_zero h0
    refine (Any.slices_Compact_string_empty Tryz.laysCompact none 0 w).mono ?_
    rintro e w' ⟨rfl, rfl⟩
    have e0 : unB (Lib.compact (List.map (fun x : ByteArray => x.data.toList) [])) = [] := rfl
    rw [e0]
    exact ⟨_, rfl, h, Nat.le_refl _, Fr.refl _ _⟩
  · have hlen : (L.map (·.data.toList)).length = L.length := by simp
    have hH : Holds encStr w g 0 (L.map (·.data.toList)).toArray := Go.holds_of_block hb (by rw [hlen, ← sV_enc]; simpa using h4)
    have hc := Any.slices_Compact_string Tryz.laysCompact g 0 cap (L.map (·.data.toList)) w hH (by omega) (by omega)
    rw [hlen] at hc
    refine hc.mono ?_
    rintro e w' ⟨rfl, q, rfl⟩
    have hle := Lib.compact_length_le (L.map (·.data.toList))
    rw [hlen] at hle
    rw [sV_enc] at h
    have hs := Lib.ownsRow_putRow (q := q) (k := (Lib.compact (L.map (·.data.toList))).length) (ys := Lib.compact (L.map (·.data.toList)) ++ List.replicate (L.length - (Lib.compact (L.map (·.data.toList))).length) []) h (by simp; omega) hle
    rw [List.take_left] at hs
    rw [unB_sV, unB_length]
    exact ⟨_, rfl, hs, hle, (Fr.of_grownBy (grownBy_put _)).mono fun k _ hk => hk⟩
end
section
open Go.RowKit

theorem sv_append (L M : List ByteArray) : sV (L ++ M) = sV L ++ sV M := by simp [sV]
theorem ownName_yes {op : Int} {s : ByteArray} (h : isVar op = true) (hs : (s.toList == []) = false) : ownName op s = [s] := by
  unfold ownName
  have : s.toList.isEmpty = false := by cases h2 : s.toList with | nil => rw [h2] at hs; cases hs | cons a t => rfl
  rw [h, this]; rfl
theorem ownName_no {op : Int} {s : ByteArray} (h : isVar op = false ∨ (s.toList == []) = true) : ownName op s = [] := by
  unfold ownName
  rcases h with h | h
  · rw [h]; rfl
  · have : s.toList = [] := by simpa using h
    rw [this]; simp
theorem isVar_no {op : Int} (h : isVar op = false) : (op == 2) = false ∧ (op == 42) = false ∧ (op == 43) = false ∧ (op == 50) = false := by
  unfold isVar at h
  simp only [Bool.or_eq_false_iff] at h
  exact ⟨h.1.1.1, h.1.1.2, h.1.2, h.2⟩
theorem isVar_yes {op : Int} (h : isVar op = true) : (op == 2) = true ∨ ((op == 2) = false ∧ (op == 42) = true) ∨ ((op == 2) = false ∧ (op == 42) = false ∧ (op == 43) = true) ∨ ((op == 2) = false ∧ (op == 42) = false ∧ (op == 43) = false ∧ (op == 50) = true) := by
  unfold isVar at h
  cases h1 : (op == 2)
  · cases h2 : (op == 42)
    · cases h3 : (op == 43)
      · exact .inr (.inr (.inr ⟨rfl, rfl, rfl, by rw [h1, h2, h3] at h; exact h⟩))
      · exact .inr (.inr (.inl ⟨rfl, rfl, rfl⟩))
    · exact .inr (.inl ⟨rfl, rfl⟩)
  · exact .inl rfl
/-- The contract of Vars up to a count. -/
def VarsTo (f : FuncId) (N : Nat) : Prop := ∀ (l : List Nd), cntL l < N → szL l ≤ 1048576 → ∀ (D : Nat → Prop) (w : World) (v : Value), NL D w l v →
    Calls Tryz.prog f #[v] w fun e w' => ∃ (R : List ByteArray) (v' : Value), e = .returned v' ∧ w'.ownsRow w.heap.size 9 1 v' R.length (sV R) ∧ (∀ s, s ∈ R ↔ s ∈ namesL l) ∧ StrictT R ∧ R.length ≤ cntL l ∧ Fr (fun _ => False) w w'
set_option maxRecDepth 100000 in
set_option maxHeartbeats 3200000 in
theorem tvars_of (N : Nat) (ih : VarsTo 23 N) : VarsTo 23 (N + 1) := by
  intro l hN hM D w v h
  have hcs := cntL_szL l
  have hll := len_le_cnt l
  obtain ⟨a, cap, us, rfl, hc, hm, hn, hb, hi⟩ := h
  have hlI : (l.length : Int) ≤ 1048576 := by omega
  have HB := hid hb; have HI := hid hi; have HN := hid hN; have HM := hid hM; have HIH := hid ih; have HCS := hid hcs
  clear hb hi hN hM hn hc hm ih hcs hll
  go_enter Tryz.func23, Tryz.ntmps23
  go_wp2_with fail
  go_loopw [3, 8] (fun ov i wr => ∃ (k : Nat) (L : List ByteArray), k ≤ l.length ∧ i = .int .i64 k ∧ Hid (wr.ownsRow w.heap.size 9 1 ov L.length (sV L)) ∧ Hid (∀ s, s ∈ L ↔ s ∈ namesL (l.take k)) ∧ Hid (L.length ≤ cntL (l.take k)) ∧ Fr (fun _ => False) w wr) (fun _ i _ => l.length - (intOf i).toNat)
  case atStart => exact ⟨0, [], Nat.zero_le _, rfl, hid (World.ownsRow_nil _ _ _ _), hid (fun s => by simp [namesL]), hid (Nat.zero_le _), Fr.refl _ _⟩
  case round =>
    obtain ⟨k, L, hk, rfl, HO, HME, HLK, hf⟩ := hrel
    obtain ⟨ao, oc, rfl, -⟩ := own_len HO.out
    by_cases hlt : k < l.length
    · obtain ⟨b, o, y, va, c1, a', c', rfl, -, hy, hv, e0, e1, e2, e3, e4, e5, e6, e7⟩ := NL.elem HB.out HI.out k hlt
      have hlt' : (k : Int) < l.length := by omega
      have t1 := cntL_take l k y hy
      have t2 := cntL_mem hy
      have t3 := cntL_take_le l (k + 1)
      have t4 := Nd.cnt_eq y
      have t5 := szL_mem hy
      have t6 := Nd.sz_eq y
      replace e0 := hf.cell e0 not_false
      replace e1 := hf.cell e1 not_false
      replace e2 := hf.cell e2 not_false
      replace e3 := hf.cell e3 not_false
      replace e4 := hf.cell e4 not_false
      replace e5 := hf.cell e5 not_false
      replace e6 := hf.cell e6 not_false
      replace e7 := hf.cell e7 not_false
      obtain ⟨va2, vl, he, -, hyl⟩ := hv.open
      obtain rfl : vl = .slice a' y.l.length c' := by simpa using (congrArg (fun q => q.getD 7 undef) he).symm
      have HC := hid (fun (w2 : World) (hf2 : Fr (fun _ => False) w w2) => HIH.out y.l (by have := HN.out; omega) (by have := HM.out; omega) D w2 _ (hyl.frame hf2 fun _ _ => not_false))
      have HNT := hid (namesL_take hy)
      have HCN := hid (show cntL (l.take (k + 1)) = cntL (l.take k) + 1 + cntL y.l by omega)
      have HCM := hid (show cntL (l.take (k + 1)) ≤ 1048576 by have := HM.out; have := HCS.out; omega)
      have HFA := hid (hf.alloc (.cells #[.int .i64 y.op, .int .i64 y.ln, .string y.s, .int .i64 y.v.k, .int .i64 y.v.n, .string y.v.s, .slice va y.v.l.length c1, .slice a' y.l.length c'] 75))
      have HG := hid (heap_alloc_new wr (.cells #[.int .i64 y.op, .int .i64 y.ln, .string y.s, .int .i64 y.v.k, .int .i64 y.v.n, .string y.v.s, .slice va y.v.l.length c1, .slice a' y.l.length c'] 75))
      have HOA := hid (World.ownsRow.alloc HO.out (.cells #[.int .i64 y.op, .int .i64 y.ln, .string y.s, .int .i64 y.v.k, .int .i64 y.v.n, .string y.v.s, .slice va y.v.l.length c1, .slice a' y.l.length c'] 75))
      have HOLT := hid (show ∀ r, Value.ownBlock (.slice ao L.length oc) = some r → r < wr.heap.size from fun r hr => (HO.out.lt r hr).2)
      have HSZ := hid (show w.heap.size ≤ wr.heap.size from hf.size)
      clear t1 t2 t3 t4 t5 t6 hv hyl he hy hf HO
      go_upto_region 5 with fail
      generalize hW : wr.alloc (.cells #[.int .i64 y.op, .int .i64 y.ln, .string y.s, .int .i64 y.v.k, .int .i64 y.v.n, .string y.v.s, .slice va y.v.l.length c1, .slice a' y.l.length c'] 75) = W at *
      clear hW
      obtain ⟨B, hB⟩ : ∃ B, wr.heap.size = B := ⟨_, rfl⟩
      rw [hB] at HG HOLT HSZ ⊢
      clear hB e0 e1 e2 e3 e4 e5 e6 e7
      have d0 : W.cell? ⟨B, 0, none⟩ = some (.int .i64 y.op) := by rw [cell_of_row _ _ 0 _ _ _ HG.out]; rfl
      have d2 : W.cell? ⟨B, 2, none⟩ = some (.string y.s) := by rw [cell_of_row _ _ 2 _ _ _ HG.out]; rfl
      have d7 : W.cell? ⟨B, 7, none⟩ = some (.slice a' y.l.length c') := by rw [cell_of_row _ _ 7 _ _ _ HG.out]; rfl
      have HBB := hid (World.block_lt_of_cell? _ _ d0)
      have HD7 := hid d7
      clear d7
      go_upto_block 2 with fail
      go_cut [3] from 14 to 26 (fun ov2 wx => Hid (wx.ownsRow w.heap.size 9 1 ov2 (L ++ ownName y.op y.s).length (sV (L ++ ownName y.op y.s))) ∧ Hid (Fr (fun _ => False) w wx) ∧ Hid (wx.cell? ⟨B, 7, none⟩ = some (.slice a' y.l.length c')))
      case first =>
        generalize y.op = op at *
        generalize y.s = s at *
        have hno : ownName op s = [] → (W.ownsRow w.heap.size 9 1 (.slice ao L.length oc) (L ++ ownName op s).length (sV (L ++ ownName op s))) := fun e => by
          rw [e, List.append_nil]; exact HOA.out
        have HNO := hid hno
        clear hno
        cases hv : isVar op
        · obtain ⟨q1, q2, q3, q4⟩ := isVar_no hv
          have HX := hid (HNO.out (ownName_no (.inl hv)))
          clear hv
          go_wp2_with fail
          go_meet
          exact ⟨HX, HFA, HD7⟩
        cases hs : (s.toList == [])
        rotate_left
        · have HX := hid (HNO.out (ownName_no (.inr hs)))
          have q5 : (s.toList == ([] : List UInt8)) = true := hs
          rcases isVar_yes hv with q1 | ⟨q1, q2⟩ | ⟨q1, q2, q3⟩ | ⟨q1, q2, q3, q4⟩
          all_goals
            clear hv
            go_wp2_with fail
            go_meet
            exact ⟨HX, HFA, HD7⟩
        have HXX := hid (ownName_yes hv hs)
        have q5 : (s.toList == ([] : List UInt8)) = false := hs
        have HOW := hid (World.ownsRow.alloc HOA.out (.cells #[.string s] 9))
        have HCE := hid (cell_new1 W (.string s) 9 (0, 0))
        have HFW := hid (HFA.out.alloc (.cells #[.string s] 9))
        have HLB := hid (show L.length + 1 ≤ 1099511627776 by have := HLK.out; have := HCN.out; have := HCM.out; omega)
        have HD8 := hid (((Fr.refl (fun _ => False) W).alloc (.cells #[.string s] 9)).cell HD7.out not_false)
        have HSV := hid (show sV (L ++ [s]) = sV L ++ [Value.string s] by simp [sV])
        have HLN := hid (show (L ++ [s]).length = L.length + 1 by simp)
        rcases isVar_yes hv with q1 | ⟨q1, q2⟩ | ⟨q1, q2, q3⟩ | ⟨q1, q2, q3, q4⟩
        all_goals
          clear hv hs
          go_wp2_with (at_builtin; go_must (refine wpList_append1 rfl (.tmp 22) (.tmp 25) 50 rfl 9 (.string ⟨#[]⟩) 16 Tryz.underlying50 Tryz.info_st rfl _ rfl w.heap.size L.length (sV L) HOW.out W.heap.size 1 (.string s) rfl HCE.out rfl HLB.out (by decide) HFW.out.size ?_; intro g9 cap9 w9 ho9 hf9 hn9))
          have HF9 := hid (HFW.out.trans hf9 (U := fun _ => False) (fun _ _ h => h) (fun r hr e => by have := (HOA.out.lt r e.symm).1; omega))
          have HD9 := hid (hf9.cell HD8.out (fun e => by have := HOLT.out _ e.symm; simp only at *; omega))
          have HO9 := hid (show w9.ownsRow w.heap.size 9 1 (.slice (some ⟨g9, 0, none⟩) (L.length + 1) cap9) (L ++ [s]).length (sV (L ++ [s])) by rw [HSV.out, HLN.out]; exact ho9)
          clear ho9 hf9 hn9
          go_wp2_with fail
          go_meet
          exact ⟨by rw [HXX.out]; exact HO9, HF9, HD9⟩
      case rest =>
      obtain ⟨HO5, HF5, HD5⟩ := hcut
      obtain ⟨w5, hw5⟩ : ∃ W, W = wc := ⟨wc, rfl⟩
      rw [← hw5] at HO5 HF5 HD5 ⊢
      clear hw5
      obtain ⟨ao5, oc5, rfl, -⟩ := own_len HO5.out
      have d7 := HD5.out
      have HCC := hid (HC.out w5 HF5.out)
      have HML := hid (show (L ++ ownName y.op y.s).length ≤ cntL (l.take k) + 1 by
        rw [List.length_append]
        have := ownName_length y.op y.s
        have := HLK.out
        omega)
      have HME5 := hid (show ∀ s, s ∈ L ++ ownName y.op y.s ↔ s ∈ namesL (l.take k) ++ ownName y.op y.s from fun s => by rw [List.mem_append, List.mem_append, HME.out s])
      generalize L ++ ownName y.op y.s = M at *
      go_upto_region 12 with fail
      go_wp2_with fail
      refine HCC.out.mono ?_
      rintro e w6 ⟨R, v6, rfl, ho6, hm6, -, hl6, hf6⟩
      have HF6 := hid (HF5.out.trans' hf6)
      have HOM := hid (hf6.own HO5.out (fun _ _ => id))
      obtain ⟨ar, cr, rfl, hr1, hr2, hr3⟩ := own_src ho6
      have HR1 := hid hr1; have HR2 := hid hr2; have HR3 := hid hr3; have HM6 := hid hm6
      have HLR := hid (show M.length + R.length ≤ cntL (l.take (k + 1)) by have := HML.out; have := HCN.out; omega)
      have HONE := hid (show ∀ u ∈ sV R, u.oneCell' = true from fun u hu => by
        obtain ⟨x, -, rfl⟩ := List.mem_map.1 hu
        rfl)
      have HMS := hid (show ∀ s, s ∈ M ++ R ↔ s ∈ namesL (l.take (k + 1)) from fun s => by rw [HNT.out, List.mem_append, HME5.out s, hm6 s, List.mem_append, List.mem_append, List.mem_append, or_assoc])
      have HLB2 := hid (show M.length + R.length ≤ 1099511627776 by have := HLR.out; have := HCM.out; omega)
      clear ho6 hm6 hl6 hf6 hr1 hr2 hr3 d7
      go_wp2_with (at_builtin; go_must (refine wpList_appendN rfl (.tmp 27) (.tmp 30) 50 rfl 9 (.string ⟨#[]⟩) 16 Tryz.underlying50 Tryz.info_st rfl _ rfl w.heap.size M.length (sV M) HOM.out _ _ _ (sV R) rfl HR1.out HR2.out HR3.out HONE.out HLB2.out (by decide) HF6.out.size ?_))
      intro v7 w7 ho7 hf7 hn7
      have HF7 := hid (HF6.out.trans hf7 (U := fun _ => False) (fun _ _ h => h) (fun r hr e => by have := (HOM.out.lt r e.symm).1; omega))
      have HO7 := hid (show w7.ownsRow w.heap.size 9 1 v7 (M ++ R).length (sV (M ++ R)) by rw [List.length_append, sv_append]; exact ho7)
      have HL7 := hid (show (M ++ R).length ≤ cntL (l.take (k + 1)) by rw [List.length_append]; exact HLR.out)
      clear ho7 hf7 hn7
      go_wp2_with fail
      go_roundw
      case rel => exact ⟨k + 1, M ++ R, by omega, by go_num, HO7, HMS, HL7, HF7.out⟩
      case measure => simp [intOf]; omega
    · obtain rfl : k = l.length := by omega
      have HF := hid hf
      rw [List.take_length] at HME HLK
      clear hf
      have HSORT := hid (tsort_own L (by have := HLK.out; have := HM.out; have := HCS.out; omega) w.heap.size _ wr HO.out)
      have HLL := hid (show L.length ≤ 1099511627776 by have := HLK.out; have := HM.out; have := HCS.out; omega)
      go_wp2_with fail
      refine HSORT.out.mono ?_
      rintro e w2 ⟨rfl, ho2, hf2⟩
      have hl2 : (unB ((L.map (·.data.toList)).mergeSort fun x y => decide (x ≤ y))).length = L.length := by rw [unB_length, List.length_mergeSort, List.length_map]
      have hmm := unB_map ((L.map (·.data.toList)).mergeSort fun x y => decide (x ≤ y))
      have hrise := rise_of (L.map (·.data.toList))
      rw [← hl2] at ho2
      have hcmp := tcompact_own (unB ((L.map (·.data.toList)).mergeSort fun x y => decide (x ≤ y))) (by rw [hl2]; exact HLL.out) w.heap.size _ w2 (by rw [hl2] at ho2 ⊢; exact ho2)
      rw [hmm] at hcmp
      have HF2 := hid (HF.out.trans hf2 (U := fun _ => False) (fun _ _ h => h) (fun r hr e => by have := (HO.out.lt r e.symm).1; omega))
      have HCMP := hid hcmp; have HRI := hid hrise; have HL2 := hid hl2
      clear hcmp hrise hl2 hmm ho2 hf2
      go_wp2_with fail
      refine HCMP.out.mono ?_
      rintro e w3 ⟨v3, rfl, ho3, hl3, hf3⟩
      have HF3 := hid (HF2.out.trans hf3 (U := fun _ => False) (fun _ _ h => h) (fun r hr e => by have := (HO.out.lt r e.symm).1; omega))
      have HO3 := hid ho3; have HL3 := hid hl3
      clear ho3 hl3 hf3
      go_wp2_with fail
      go_ret
      refine ⟨_, _, rfl, HO3.out, fun s => ?_, ?_, ?_, HF3.out⟩
      · rw [← HME.out s]
        have h2 := HRI.out.2 s.data.toList
        constructor
        · intro h
          obtain ⟨b, hb, rfl⟩ := List.mem_map.1 h
          have := (HRI.out.2 b).1 hb
          obtain ⟨c, hc, rfl⟩ := List.mem_map.1 this
          exact hc
        · intro h
          have := h2.2 (List.mem_map.2 ⟨s, h, rfl⟩)
          exact List.mem_map.2 ⟨_, this, rfl⟩
      · rw [strictT_B, unB_map]
        exact HRI.out.1
      · have := HL3.out; have := HL2.out; have := HLK.out; omega
theorem tvars_to : ∀ N, VarsTo 23 N
  | 0 => fun l h => by omega
  | N + 1 => tvars_of N (tvars_to N)
end
section
open Go.RowKit

theorem csource_any {base K : Nat} {w : World} {l : List Nd} (h : CodeBox base w l K) (hz : szL l ≤ 1099511627776) :
    Calls Tryz.prog 13 #[.pointer (some ⟨K, 0, none⟩)] w fun e w' => ∃ v', e = .returned v' ∧ NL (fun _ => True) w' l v' ∧ Fr (fun _ => False) w w' := by
  obtain ⟨C, h1, sv, L, nb, T, ⟨lv, nv, bv, xs, zs, h2, -⟩, -, -, -, -, hn⟩ := h
  have c0 : w.cell? ⟨K, 0, none⟩ = some (.pointer (some ⟨C, 0, none⟩)) := by rw [cell_of_row _ _ _ _ _ _ h1]; rfl
  have d3 : w.cell? ⟨C, 3, none⟩ = some sv := by rw [cell_of_row _ _ _ _ _ _ h2]; rfl
  have HC := hid (tclone_any l hz _ w sv hn)
  obtain ⟨a, c, us, rfl, -⟩ := id hn
  clear h1 h2 hn hz
  go_enter Tryz.func13, Tryz.ntmps13
  go_wp2_with fail
  refine HC.out.mono ?_
  rintro e w2 ⟨v2, rfl, hf, hc⟩
  have HN := hid (hc.own.close.mono (E := fun _ => True) fun _ _ _ => trivial)
  have HF := hid hf
  obtain ⟨a2, c2, us2, rfl, -⟩ := id HN.out
  clear hc hf HC
  go_wp2_with fail
  go_ret
  exact ⟨_, rfl, HN.out, HF.out⟩
/-- The names that every verb has. -/
def five : List ByteArray := [⟨#[116, 104, 105, 115]⟩, ⟨#[112, 108, 97, 121, 101, 114]⟩, ⟨#[99, 97, 108, 108, 101, 114]⟩, ⟨#[118, 101, 114, 98]⟩, ⟨#[97, 114, 103, 115]⟩]
def fiveO : Obj := .cells #[.string ⟨#[116, 104, 105, 115]⟩, .string ⟨#[112, 108, 97, 121, 101, 114]⟩, .string ⟨#[99, 97, 108, 108, 101, 114]⟩, .string ⟨#[118, 101, 114, 98]⟩, .string ⟨#[97, 114, 103, 115]⟩] 9
theorem five_cell (w : World) : ∀ j, j < 5 → ∃ b o, (some ⟨w.heap.size, 0, none⟩ : Option Addr) = some ⟨b, o, none⟩ ∧ (w.alloc fiveO).cell? ⟨b, o + j, none⟩ = (sV five)[j]? := fun j hj => ⟨_, _, rfl, by
  unfold fiveO
  rw [Nat.zero_add, cell_of_row _ _ _ _ _ _ (heap_alloc_new w _)]
  simp [sV, five]⟩
theorem five_one : ∀ u ∈ sV five, u.oneCell' = true := by
  intro u hu
  simp only [sV, List.mem_map] at hu
  obtain ⟨s, -, rfl⟩ := hu
  rfl
set_option maxRecDepth 100000 in
set_option maxHeartbeats 1600000 in
theorem cvars_any {base K : Nat} {w : World} {l : List Nd} (h : CodeBox base w l K) (hz : szL l ≤ 1048576) :
    Calls Tryz.prog 25 #[.pointer (some ⟨K, 0, none⟩)] w fun e w' => ∃ (R : List ByteArray) (v' : Value), e = .returned v' ∧ w'.ownsRow w.heap.size 9 1 v' R.length (sV R) ∧ (∀ s, s ∈ R ↔ s ∈ namesL l ∨ s ∈ five) ∧ StrictT R ∧ Fr (fun _ => False) w w' := by
  obtain ⟨C, h1, sv, L, nb, T, ⟨lv, nv, bv, xs, zs, h2, -⟩, -, -, -, -, hn⟩ := h
  have c0 : w.cell? ⟨K, 0, none⟩ = some (.pointer (some ⟨C, 0, none⟩)) := by rw [cell_of_row _ _ _ _ _ _ h1]; rfl
  have d3 : w.cell? ⟨C, 3, none⟩ = some sv := by rw [cell_of_row _ _ _ _ _ _ h2]; rfl
  have HV := hid (tvars_to (cntL l + 1) l (by omega) hz _ w sv hn)
  have HCL := hid (show cntL l ≤ 1048576 by have := cntL_szL l; omega)
  obtain ⟨a, c, us, rfl, -⟩ := id hn
  clear h1 h2 hn hz
  go_enter Tryz.func25, Tryz.ntmps25
  go_wp2_with (at_builtin; fail)
  refine HV.out.mono ?_
  rintro e w2 ⟨R0, v2, rfl, ho, hm, -, hl, hf⟩
  have HM := hid hm
  have HO := hid ho
  have HF := hid hf
  have HLN := hid (show R0.length ≤ 1048576 by have := HCL.out; omega)
  obtain ⟨a2, c2, rfl, -⟩ := own_len ho
  have hfa := (Fr.refl (fun _ => False) w2).alloc fiveO
  have HOA := hid (hfa.own ho fun _ _ => not_false)
  have HFA := hid (hf.trans' hfa)
  have HCE := hid (five_cell w2)
  clear ho hm hl hf HV hfa
  go_wp2_with (at_builtin; go_must (refine wpList_appendN rfl (.tmp 11) (.tmp 12) 50 rfl 9 (.string ⟨#[]⟩) 16 Tryz.underlying50 Tryz.info_st rfl _ rfl w.heap.size R0.length (sV R0) HOA.out (some ⟨w2.heap.size, 0, none⟩) 5 5 (sV five) rfl (by simp [five]) (fun h => by cases h) HCE.out five_one (by have := HLN.out; omega) (by decide) HFA.out.size ?_))
  intro v3 w3 ho3 hf3 hk3
  have hlen5 : (R0 ++ five).length = R0.length + 5 := by rw [List.length_append]; rfl
  have HO3 := hid (show w3.ownsRow w.heap.size 9 1 v3 (R0 ++ five).length (sV (R0 ++ five)) by rw [hlen5, sv_append]; exact ho3)
  have HF3 := hid (HFA.out.trans hf3 (U := fun _ => False) (fun _ _ h => h) (fun r hr e => by have := (HO.out.lt r e.symm).1; omega))
  have HMF := hid (show ∀ s, s ∈ R0 ++ five ↔ s ∈ namesL l ∨ s ∈ five from fun s => by rw [List.mem_append, HM.out s])
  have HLL := hid (show (R0 ++ five).length ≤ 1099511627776 by rw [hlen5]; have := HLN.out; omega)
  clear ho3 hf3 hk3 hlen5
  generalize R0 ++ five = L at *
  obtain ⟨a3, c3, rfl, -⟩ := own_len HO3.out
  have HSORT := hid (tsort_own L HLL.out w.heap.size _ w3 HO3.out)
  go_wp2_with fail
  refine HSORT.out.mono ?_
  rintro e w4 ⟨rfl, ho2, hf2⟩
  have hl2 : (unB ((L.map (·.data.toList)).mergeSort fun x y => decide (x ≤ y))).length = L.length := by rw [unB_length, List.length_mergeSort, List.length_map]
  have hmm := unB_map ((L.map (·.data.toList)).mergeSort fun x y => decide (x ≤ y))
  have hrise := rise_of (L.map (·.data.toList))
  rw [← hl2] at ho2
  have hcmp := tcompact_own (unB ((L.map (·.data.toList)).mergeSort fun x y => decide (x ≤ y))) (by rw [hl2]; exact HLL.out) w.heap.size _ w4 (by rw [hl2] at ho2 ⊢; exact ho2)
  rw [hmm] at hcmp
  have HF4 := hid (HF3.out.trans hf2 (U := fun _ => False) (fun _ _ h => h) (fun r hr e => by have := (HO3.out.lt r e.symm).1; omega))
  have HCMP := hid hcmp; have HRI := hid hrise
  clear hcmp hrise hl2 hmm ho2 hf2 HSORT
  go_wp2_with fail
  refine HCMP.out.mono ?_
  rintro e w5 ⟨v5, rfl, ho5, -, hf5⟩
  have HF5 := hid (HF4.out.trans hf5 (U := fun _ => False) (fun _ _ h => h) (fun r hr e => by have := (HO3.out.lt r e.symm).1; omega))
  have HO5 := hid ho5
  clear ho5 hf5
  go_wp2_with fail
  go_ret
  refine ⟨_, _, rfl, HO5.out, fun s => ?_, ?_, HF5.out⟩
  · rw [← HMF.out s]
    have h2 := HRI.out.2 s.data.toList
    constructor
    · intro h
      obtain ⟨b, hb, rfl⟩ := List.mem_map.1 h
      have := (HRI.out.2 b).1 hb
      obtain ⟨c, hc, rfl⟩ := List.mem_map.1 this
      exact hc
    · intro h
      have := h2.2 (List.mem_map.2 ⟨s, h, rfl⟩)
      exact List.mem_map.2 ⟨_, this, rfl⟩
  · rw [strictT_B, unB_map]
    exact HRI.out.1
end
section
open Go.RowKit

theorem clen_any {base K : Nat} {w : World} {l : List Nd} (h : CodeBox base w l K) :
    Calls Tryz.prog 11 #[.pointer (some ⟨K, 0, none⟩)] w fun e w' => e = .returned (.int .i64 ((sumR 7 l + 2 : Nat) : Int)) ∧ Fr (fun _ => False) w w' := by
  obtain ⟨C, h1, sv, L, nb, T, ⟨lv, nv, bv, xs, zs, h2, ho1, -, -, -⟩, -, hL, -⟩ := h
  obtain ⟨a, c, rfl, -⟩ := own_len ho1
  have c0 : w.cell? ⟨K, 0, none⟩ = some (.pointer (some ⟨C, 0, none⟩)) := by rw [cell_of_row _ _ _ _ _ _ h1]; rfl
  have d0 : w.cell? ⟨C, 0, none⟩ = some (.slice a L.length c) := by rw [cell_of_row _ _ _ _ _ _ h2]; rfl
  rw [← hL]
  clear h1 h2 ho1 hL
  go_enter Tryz.func11, Tryz.ntmps11
  go_wp2_with fail
  go_ret
  exact ⟨rfl, Fr.refl _ _⟩
theorem ccheck_any {base K : Nat} {w : World} {l : List Nd} (h : CodeBox base w l K) (hs : sumR 7 l ≤ 1073741800) :
    Calls Tryz.prog 14 #[.pointer (some ⟨K, 0, none⟩)] w fun e w' => e = .returned .nilIface ∧ Fr (fun _ => False) w w' := by
  obtain ⟨C, h1, sv, L, nb, T, hat, ht, hL, hnb, -⟩ := h
  have HC := hid (mcheck_any w hat ht (by omega) (by omega))
  have c0 : w.cell? ⟨K, 0, none⟩ = some (.pointer (some ⟨C, 0, none⟩)) := by rw [cell_of_row _ _ _ _ _ _ h1]; rfl
  clear h1 hat ht hL hnb hs
  go_enter Tryz.func14, Tryz.ntmps14
  go_wp2_with fail
  refine HC.out.mono ?_
  rintro e w2 ⟨rfl, hf⟩
  have HF := hid hf
  clear hf HC
  go_wp2_with fail
  go_ret
  exact ⟨rfl, HF.out⟩
/-- What Line says at z. -/
def LineSays (l : List Nd) (N : Nat) (z n : Int) : Prop := (n = 0 ∨ LnOf l n) ∧ (z < 0 ∨ (N : Int) ≤ z → n = 0)
theorem cline_any {base K : Nat} {w : World} {l : List Nd} (h : CodeBox base w l K) (hs : sumR 7 l ≤ 1073741800) (z : Int) :
    Calls Tryz.prog 26 #[.pointer (some ⟨K, 0, none⟩), .int .i64 z] w fun e w' => ∃ n : Int, e = .returned (.int .i64 n) ∧ LineSays l (sumR 7 l + 2) z n ∧ Fr (fun _ => False) w w' := by
  obtain ⟨C, h1, sv, L, nb, T, ⟨lv, nv, bv, xs, zs, h2, ho1, -, ho2, -⟩, -, hL, -, hln, -⟩ := h
  have HO := hid (own_heap ho2)
  obtain ⟨a, c, rfl, -⟩ := own_len ho2
  have c0 : w.cell? ⟨K, 0, none⟩ = some (.pointer (some ⟨C, 0, none⟩)) := by rw [cell_of_row _ _ _ _ _ _ h1]; rfl
  have d0 : w.cell? ⟨C, 1, none⟩ = some (.slice a L.length c) := by rw [cell_of_row _ _ _ _ _ _ h2]; rfl
  have HLN := hid hln
  have hLI : (L.length : Int) ≤ 1073741802 := by omega
  rw [← hL]
  clear h1 h2 ho1 ho2 hln hL hs
  by_cases hz0 : z < 0
  · go_enter Tryz.func26, Tryz.ntmps26
    go_wp2_with fail
    go_ret
    exact ⟨0, rfl, ⟨.inl rfl, fun _ => rfl⟩, Fr.refl _ _⟩
  by_cases hz1 : (L.length : Int) ≤ z
  · go_enter Tryz.func26, Tryz.ntmps26
    go_wp2_with fail
    go_ret
    exact ⟨0, rfl, ⟨.inl rfl, fun _ => rfl⟩, Fr.refl _ _⟩
  obtain ⟨k, rfl⟩ : ∃ k : Nat, z = k := ⟨z.toNat, by omega⟩
  have hk : k < L.length := by omega
  rcases HO.out with ⟨e, h0, -⟩ | ⟨g, cap, e, -, -, hc⟩
  · omega
  simp only [Value.slice.injEq] at e
  obtain ⟨rfl, -, rfl⟩ := e
  have hcc := hc k (by omega)
  obtain ⟨j, hj⟩ : ∃ j, L[k]? = some j := ⟨_, List.getElem?_eq_getElem hk⟩
  rw [show (lnV L)[k]? = some (.int .i64 j.ln) by simp [lnV, hj]] at hcc
  have HJ := hid (HLN.out j (List.mem_of_getElem? hj))
  have HZ := hid (show ¬ ((k : Int) < 0 ∨ (L.length : Int) ≤ k) by omega)
  clear hc hj HO HLN
  go_enter Tryz.func26, Tryz.ntmps26
  go_wp2_with fail
  go_ret
  exact ⟨j.ln, rfl, ⟨HJ.out, fun h => absurd h HZ.out⟩, Fr.refl _ _⟩

def iV (l : List Int) : List Value := l.map fun z => .int .i64 z
set_option maxRecDepth 100000 in
theorem cfirst_any (pa : Nat → Addr) (w : World) (hE : Sent5 w pa) (hg : 7 ≤ w.heap.size) : Calls Tryz.prog 5 #[] w fun e w' => e = .returned (.bool true) ∧ Fr (fun _ => False) w w' := by
  have h0 : (pValid [] 7).c = 0 := rfl
  have HC := hid (compile_any pa [] (by simp [szL]) (fun _ => False) w (.slice none 0 0) (NL.nil _ _) hE hg)
  clear hE hg
  go_enter Tryz.func5, Tryz.ntmps5
  go_wp2_with fail
  refine HC.out.mono ?_
  rintro e w2 ⟨r, ev, rfl, hf, -, ⟨-, rfl, K, rfl, hb⟩ | ⟨hc, -⟩⟩
  · have HF := hid hf
    have HB := hid (ccheck_any hb (by simp [sumR]))
    clear hf hb HC
    go_wp2_with fail
    refine HB.out.mono ?_
    rintro e w3 ⟨rfl, hf3⟩
    have HF3 := hid (HF.out.trans' hf3)
    clear hf3 HB
    go_wp2_with fail
    go_ret
    exact ⟨rfl, HF3.out⟩
  · exact absurd h0 hc
end
section
open Go.RowKit

set_option maxRecDepth 100000 in
set_option maxHeartbeats 1600000 in
theorem dcount_any : ∀ (N : Nat) (l : List Nd), cntL l < N → cntL l ≤ 4611686018427387904 → ∀ (D : Nat → Prop) (w : World) (v : Value), NL D w l v →
    Calls Tryz.prog 21 #[v] w fun e w' => e = .returned (.int .i64 (cntL l)) ∧ Fr (fun _ => False) w w' := by
  intro N
  induction N with
  | zero =>
    intro l hN hM D w v h
    omega
  | succ N ih =>
    intro l hN hM D w v h
    have hll := len_le_cnt l
    obtain ⟨a, cap, us, rfl, hc, hm, hn, hb, hi⟩ := h
    have hlI : (l.length : Int) ≤ 4611686018427387904 := by omega
    have HB := hid hb; have HI := hid hi; have HM := hid hM; have HN := hid hN
    clear hb hi hM hN hn hll hc hm
    go_enter Tryz.func21, Tryz.ntmps21
    go_wp2
    go_loopw [3, 4] (fun n i wr => ∃ k : Nat, k ≤ l.length ∧ i = .int .i64 k ∧ n = .int .i64 (cntL (l.take k)) ∧ Fr (fun _ => False) w wr) (fun _ i _ => l.length - (intOf i).toNat)
    case atStart => exact ⟨0, Nat.zero_le _, rfl, by simp [cntL], Fr.refl _ _⟩
    case round =>
      obtain ⟨k, hk, rfl, rfl, hf⟩ := hrel
      by_cases hlt : k < l.length
      · obtain ⟨b, o, y, va, c1, a', c', rfl, -, hy, hv, e0, e1, e2, e3, e4, e5, e6, e7⟩ := NL.elem HB.out HI.out k hlt
        have hlt' : (k : Int) < l.length := by omega
        replace e7 := hf.cell e7 not_false
        have t1 := cntL_take l k y hy
        have t2 := cntL_mem hy
        have t3 := cntL_take_le l (k + 1)
        have t4 := Nd.cnt_eq y
        obtain ⟨va2, vl, he, -, hyl⟩ := hv.open
        obtain rfl : vl = .slice a' y.l.length c' := by simpa using (congrArg (fun q => q.getD 7 undef) he).symm
        have hcl := ih y.l (by have := HN.out; omega) (by have := HM.out; omega) D wr _ (hyl.frame hf fun _ _ => not_false)
        have hsum : (cntL (l.take (k + 1)) : Int) = cntL (l.take k) + 1 + cntL y.l := by omega
        have hsb : (cntL (l.take k) : Int) + 1 + cntL y.l ≤ 4611686018427387904 := by have := HM.out; omega
        have HSUM := hid hsum; have HF := hid hf; have HC := hid hcl
        clear hsum e0 e1 e2 e3 e4 e5 e6
        clear t1 t2 t3 t4 hv hyl he hcl hf hy
        go_wp2_with fail
        refine HC.out.mono ?_
        rintro e w2 ⟨rfl, hf2⟩
        have HF2 := hid (HF.out.trans' hf2); clear hf2
        generalize cntL (l.take k) = p at *
        generalize cntL y.l = q at *
        go_wp2
        go_roundw
        case rel => exact ⟨k + 1, by omega, by go_num, int_eq (by rw [HSUM.out]), HF2.out⟩
        case measure => simp [intOf]; omega
      · obtain rfl : k = l.length := by omega
        go_wp2
        go_ret
        exact ⟨ret_int (by rw [List.take_length]), hf⟩
end
section
open Go.RowKit

end
section
open Go.RowKit

set_option maxRecDepth 100000 in
set_option maxHeartbeats 1600000 in
theorem sametexts_refl (L : List ByteArray) (D E : Nat → Prop) (w : World) (v v' : Value) (h : Ss D w v L) (h' : Ss E w v' L) : Calls Tryz.prog 24 #[v, v'] w fun e w' => e = .returned (.bool true) ∧ Fr (fun _ => False) w w' := by
  obtain ⟨a, c, rfl, h1, h2, hk⟩ := h
  obtain ⟨a', c', rfl, h1', h2', hk'⟩ := h'
  have hlm : L.length ≤ 9223372036854775807 := Nat.le_trans h1 h2
  have q4 : ((L.length : Int) != (L.length : Int)) = false := by simp
  have HK := hid hk; have HK' := hid hk'
  clear hk hk' h1 h2 h1' h2'
  go_enter Tryz.func24, Tryz.ntmps24
  go_wp2_with fail
  clear q4
  go_loopw [5] (fun i wr => ∃ k : Nat, k ≤ L.length ∧ i = .int .i64 k ∧ Fr (fun _ => False) w wr) (fun i _ => L.length - (intOf i).toNat)
  case atStart => exact ⟨0, Nat.zero_le _, rfl, Fr.refl _ _⟩
  case round =>
    obtain ⟨k, hkl, rfl, hf⟩ := hrel
    by_cases hlt : k < L.length
    · have hlt' : (k : Int) < L.length := by omega
      obtain ⟨b, o, rfl, -, hc⟩ := HK.out k hlt
      obtain ⟨b', o', rfl, -, hc'⟩ := HK'.out k hlt
      have HC := hid hc; have HC' := hid hc'; have HF := hid hf
      clear hc hc' hf
      generalize L.getD k ByteArray.empty = s at *
      have q5 : (s.toList == s.toList) = true := beq_self_eq_true _
      go_upto_region 6 with fail
      refine wp_region_cls (fun w' => Fr (fun _ => False) wr w') (by kernel_rfl) (by kernel_rfl) (Fr.refl _ _).drew ?_
      iterate 3 (refine q_take ?_ (by kernel_rfl) ?_ ?_; rotate_left; (· intro w' hS; go_simp; try with_reducible rfl); (try simp only [Act.put, List.setIfInBounds_toArray, List.set_cons_zero, List.set_cons_succ]))
      (refine q_take ?_ (by kernel_rfl) ?_ ?_; rotate_left; (· intro w' hS; have d0 := (HF.out.trans' hS).cell HC.out not_false; go_simp; try with_reducible rfl); try simp only [Act.put, List.setIfInBounds_toArray, List.set_cons_zero, List.set_cons_succ])
      iterate 3 (refine q_take ?_ (by kernel_rfl) ?_ ?_; rotate_left; (· intro w' hS; go_simp; try with_reducible rfl); (try simp only [Act.put, List.setIfInBounds_toArray, List.set_cons_zero, List.set_cons_succ]))
      (refine q_take ?_ (by kernel_rfl) ?_ ?_; rotate_left; (· intro w' hS; have d0 := (HF.out.trans' hS).cell HC'.out not_false; go_simp; try with_reducible rfl); try simp only [Act.put, List.setIfInBounds_toArray, List.set_cons_zero, List.set_cons_succ])
      iterate 2 (refine q_take ?_ (by kernel_rfl) ?_ ?_; rotate_left; (· intro w' hS; go_simp; try with_reducible rfl); (try simp only [Act.put, List.setIfInBounds_toArray, List.set_cons_zero, List.set_cons_succ]))
      refine q_end (fun w' hw => ?_)
      have HF2 := hid (HF.out.trans' hw)
      clear hw
      go_wp2_with fail
      go_roundw
      case rel => exact ⟨k + 1, by omega, by go_num, HF2.out⟩
      case measure => simp [intOf]; omega
    · obtain rfl : k = L.length := by omega
      have HF := hid hf
      go_wp2_with fail
      go_ret
      exact ⟨rfl, HF.out⟩
end
section
open Go.RowKit

set_option maxHeartbeats 1600000 in
theorem rsames_of (N : Nat) (ih : ∀ (x : V), x.size ≤ N → ∀ (D E : Nat → Prop) (w : World) (u u' : Array Value), VIn D w x u → VIn E w x u' →
      Calls Tryz.prog 63 #[.agg u, .agg u'] w fun e w' => e = .returned (.bool true) ∧ Fr (fun _ => False) w w')
    (l : List V) (hl : sizeL l ≤ N) (D E : Nat → Prop) (w : World) (v v' : Value) (h : VL D w l v) (h' : VL E w l v') :
    Calls Tryz.prog 90 #[v, v'] w fun e w' => e = .returned (.bool true) ∧ Fr (fun _ => False) w w' := by
  obtain ⟨a, cap, us, rfl, hc, hm, hn, hb, hi⟩ := h
  obtain ⟨a', cap', us', rfl, hc', hm', hn', hb', hi'⟩ := h'
  have hlm : l.length ≤ 9223372036854775807 := Nat.le_trans hc hm
  have q4 : ((l.length : Int) != (l.length : Int)) = false := by simp
  have HB := hid hb; have HI := hid hi; have HN := hid hl
  have HB' := hid hb'; have HI' := hid hi'
  clear hb hi hl hn hb' hi' hn' hc' hm'
  go_enter Tryz.func90, Tryz.ntmps90
  go_wp2
  clear q4
  go_loopw [5] (fun i wr => ∃ k : Nat, k ≤ l.length ∧ i = .int .i64 k ∧ Fr (fun _ => False) w wr) (fun i _ => l.length - (intOf i).toNat)
  case atStart => exact ⟨0, Nat.zero_le _, rfl, Fr.refl _ _⟩
  case round =>
    obtain ⟨k, hk, rfl, hf⟩ := hrel
    by_cases hlt : k < l.length
    · obtain ⟨b, o, y, a2, c2, rfl, -, hy, hv, e0, e1, e2, e3⟩ := VL.elem HB.out HI.out k hlt
      obtain ⟨b', o', y', a2', c2', rfl, -, hy', hv', f0, f1, f2, f3⟩ := VL.elem HB'.out HI'.out k hlt
      rw [hy] at hy'
      obtain rfl := Option.some.inj hy'
      have t2 := sizeL_mem hy
      have hy1 : y.size ≤ N := by have := HN.out; omega
      have hc := ih y hy1 D E
      clear t2 hy1 hy
      have HFr := hid hf; have HV := hid hv; have HV' := hid hv'; have HC := hid hc
      have E0 := hid e0; have E1 := hid e1; have E2 := hid e2; have E3 := hid e3
      have G0 := hid f0; have G1 := hid f1; have G2 := hid f2; have G3 := hid f3
      clear hf hv hv' hc hy' f0 f1 f2 f3 e0 e1 e2 e3
      go_upto_region 6 with fail
      refine wp_region_cls (fun w' => Fr (fun _ => False) wr w') (by kernel_rfl) (by kernel_rfl) (Fr.refl _ _).drew ?_
      iterate 3 (refine q_take ?_ (by kernel_rfl) ?_ ?_; rotate_left; (· intro w' hS; go_simp; try with_reducible rfl); (try simp only [Act.put, List.setIfInBounds_toArray, List.set_cons_zero, List.set_cons_succ]))
      (refine q_take ?_ (by kernel_rfl) ?_ ?_; rotate_left; (· intro w' hS; have d0 := (HFr.out.trans' hS).cell E0.out not_false; have d1 := (HFr.out.trans' hS).cell E1.out not_false; have d2 := (HFr.out.trans' hS).cell E2.out not_false; have d3 := (HFr.out.trans' hS).cell E3.out not_false; go_simp; try with_reducible rfl); try simp only [Act.put, List.setIfInBounds_toArray, List.set_cons_zero, List.set_cons_succ])
      iterate 3 (refine q_take ?_ (by kernel_rfl) ?_ ?_; rotate_left; (· intro w' hS; go_simp; try with_reducible rfl); (try simp only [Act.put, List.setIfInBounds_toArray, List.set_cons_zero, List.set_cons_succ]))
      (refine q_take ?_ (by kernel_rfl) ?_ ?_; rotate_left; (· intro w' hS; have d0 := (HFr.out.trans' hS).cell G0.out not_false; have d1 := (HFr.out.trans' hS).cell G1.out not_false; have d2 := (HFr.out.trans' hS).cell G2.out not_false; have d3 := (HFr.out.trans' hS).cell G3.out not_false; go_simp; try with_reducible rfl); try simp only [Act.put, List.setIfInBounds_toArray, List.set_cons_zero, List.set_cons_succ])
      (refine q_call ?_ ?_ (by kernel_rfl) ?_ ?_; rotate_left 2; (· intro w' hS; go_simp; first | with_reducible rfl | (constructor <;> with_reducible rfl)); (refine ⟨_, fun w' hw => (HC.out w' _ _ (HV.out.frame (HFr.out.trans' hw) (fun _ _ => id)) (HV'.out.frame (HFr.out.trans' hw) (fun _ _ => id))).mono fun _ _ h => ⟨h.1, hw.trans' h.2⟩, ?_⟩); (try simp only [Act.put, List.setIfInBounds_toArray, List.set_cons_zero, List.set_cons_succ]))
      (refine q_take ?_ (by kernel_rfl) ?_ ?_; rotate_left; (· intro w' hS; go_simp; try with_reducible rfl); (try simp only [Act.put, List.setIfInBounds_toArray, List.set_cons_zero, List.set_cons_succ]))
      refine q_end (fun w' hw => ?_)
      have HE := hid (HFr.out.trans' hw)
      clear hw
      go_wp2
      go_roundw
      case rel => exact ⟨k + 1, by omega, by go_num, HE.out⟩
      case measure => simp [intOf]; omega
    · go_wp2
      go_ret
      exact ⟨rfl, hf⟩

set_option maxHeartbeats 1600000 in
theorem rsame_refl : ∀ (N : Nat) (x : V), x.size ≤ N → ∀ (D E : Nat → Prop) (w : World) (u u' : Array Value), VIn D w x u → VIn E w x u' →
    Calls Tryz.prog 63 #[.agg u, .agg u'] w fun e w' => e = .returned (.bool true) ∧ Fr (fun _ => False) w w' := by
  intro N
  induction N with
  | zero =>
    intro x h
    rw [V.size_eq] at h
    omega
  | succ N ih =>
    intro x hN D E w u u' h h'
    have hs := V.size_eq x
    obtain ⟨v, rfl, hL⟩ := h.open
    obtain ⟨v', rfl, hL'⟩ := h'.open
    have hcall := rsames_of N ih x.l (by omega) D E
    obtain ⟨a, cap, us, rfl, -⟩ := id hL
    obtain ⟨a', cap', us', rfl, -⟩ := id hL'
    generalize x.k = kk at *
    generalize x.n = nn at *
    generalize x.s = ss at *
    generalize x.l = l at *
    have q1 : (kk == kk) = true := by simp
    have q2 : (nn == nn) = true := by simp
    have q3 : (ss.toList == ss.toList) = true := by simp
    have HL := hid hL; have HL' := hid hL'; have HC := hid hcall
    clear hL hL' hcall hs hN h h'
    go_enter Tryz.func63, Tryz.ntmps63
    go_wp2_with fail
    have hF : Fr (fun _ => False) w ((w.alloc (.cells #[.int .i64 kk, .int .i64 nn, .string ss, .slice a l.length cap] 44)).alloc (.cells #[.int .i64 kk, .int .i64 nn, .string ss, .slice a' l.length cap'] 44)) := ((Fr.refl _ _).alloc _).alloc _
    have hb2 : ((w.alloc (.cells #[.int .i64 kk, .int .i64 nn, .string ss, .slice a l.length cap] 44)).alloc (.cells #[.int .i64 kk, .int .i64 nn, .string ss, .slice a' l.length cap'] 44)).heap[w.heap.size]? = some (.cells #[.int .i64 kk, .int .i64 nn, .string ss, .slice a l.length cap] 44) := ((Fr.refl (fun _ => False) _).alloc _).heap (heap_alloc_new w _) not_false
    have hb3 : ((w.alloc (.cells #[.int .i64 kk, .int .i64 nn, .string ss, .slice a l.length cap] 44)).alloc (.cells #[.int .i64 kk, .int .i64 nn, .string ss, .slice a' l.length cap'] 44)).heap[w.heap.size + 1]? = some (.cells #[.int .i64 kk, .int .i64 nn, .string ss, .slice a' l.length cap'] 44) := by
      have := heap_alloc_new (w.alloc (.cells #[.int .i64 kk, .int .i64 nn, .string ss, .slice a l.length cap] 44)) (.cells #[.int .i64 kk, .int .i64 nn, .string ss, .slice a' l.length cap'] 44)
      simpa using this
    refine (HC.out _ _ _ (HL.out.frame hF fun _ _ => id) (HL'.out.frame hF fun _ _ => id)).mono ?_
    rintro e w2 ⟨rfl, hf2⟩
    replace hb2 := hf2.heap hb2 not_false
    replace hb3 := hf2.heap hb3 not_false
    have d0 : w2.cell? ⟨w.heap.size, 0, none⟩ = some (.int .i64 kk) := by rw [cell_of_row w2 _ 0 _ _ _ hb2]; rfl
    have d1 : w2.cell? ⟨w.heap.size, 1, none⟩ = some (.int .i64 nn) := by rw [cell_of_row w2 _ 1 _ _ _ hb2]; rfl
    have d2 : w2.cell? ⟨w.heap.size, 2, none⟩ = some (.string ss) := by rw [cell_of_row w2 _ 2 _ _ _ hb2]; rfl
    have g0 : w2.cell? ⟨w.heap.size + 1, 0, none⟩ = some (.int .i64 kk) := by rw [cell_of_row w2 _ 0 _ _ _ hb3]; rfl
    have g1 : w2.cell? ⟨w.heap.size + 1, 1, none⟩ = some (.int .i64 nn) := by rw [cell_of_row w2 _ 1 _ _ _ hb3]; rfl
    have g2 : w2.cell? ⟨w.heap.size + 1, 2, none⟩ = some (.string ss) := by rw [cell_of_row w2 _ 2 _ _ _ hb3]; rfl
    have HE := hid (hF.trans' hf2)
    clear hF hf2 hb2 hb3
    go_wp2
    go_ret
    exact ⟨rfl, HE.out⟩
end
section
open Go.RowKit

set_option maxHeartbeats 1600000 in
theorem nsames_of (N : Nat) (ih : ∀ (x : Nd), x.sz ≤ N → ∀ (D E : Nat → Prop) (w : World) (u u' : Array Value), NIn D w x u → NIn E w x u' →
      Calls Tryz.prog 35 #[.agg u, .agg u'] w fun e w' => e = .returned (.bool true) ∧ Fr (fun _ => False) w w')
    (l : List Nd) (hl : szL l ≤ N) (D E : Nat → Prop) (w : World) (v v' : Value) (h : NL D w l v) (h' : NL E w l v') :
    Calls Tryz.prog 12 #[v, v'] w fun e w' => e = .returned (.bool true) ∧ Fr (fun _ => False) w w' := by
  obtain ⟨a, cap, us, rfl, hc, hm, hn, hb, hi⟩ := h
  obtain ⟨a', cap', us', rfl, hc', hm', hn', hb', hi'⟩ := h'
  have hlm : l.length ≤ 9223372036854775807 := Nat.le_trans hc hm
  have q4 : ((l.length : Int) != (l.length : Int)) = false := by simp
  have HB := hid hb; have HI := hid hi; have HN := hid hl
  have HB' := hid hb'; have HI' := hid hi'
  clear hb hi hl hn hb' hi' hn' hc' hm'
  go_enter Tryz.func12, Tryz.ntmps12
  go_wp2
  clear q4
  go_loopw [5] (fun i wr => ∃ k : Nat, k ≤ l.length ∧ i = .int .i64 k ∧ Fr (fun _ => False) w wr) (fun i _ => l.length - (intOf i).toNat)
  case atStart => exact ⟨0, Nat.zero_le _, rfl, Fr.refl _ _⟩
  case round =>
    obtain ⟨k, hk, rfl, hf⟩ := hrel
    by_cases hlt : k < l.length
    · obtain ⟨b, o, y, yva, c1, a2, c2, rfl, -, hy, hv, e0, e1, e2, e3, e4, e5, e6, e7⟩ := NL.elem HB.out HI.out k hlt
      obtain ⟨b', o', y', yva', c1', a2', c2', rfl, -, hy', hv', f0, f1, f2, f3, f4, f5, f6, f7⟩ := NL.elem HB'.out HI'.out k hlt
      rw [hy] at hy'
      obtain rfl := Option.some.inj hy'
      have t2 := szL_mem hy
      have hy1 : y.sz ≤ N := by have := HN.out; omega
      have hc := ih y hy1 D E
      clear t2 hy1 hy
      have HFr := hid hf; have HV := hid hv; have HV' := hid hv'; have HC := hid hc
      have E0 := hid e0; have E1 := hid e1; have E2 := hid e2; have E3 := hid e3; have E4 := hid e4; have E5 := hid e5; have E6 := hid e6; have E7 := hid e7
      have G0 := hid f0; have G1 := hid f1; have G2 := hid f2; have G3 := hid f3; have G4 := hid f4; have G5 := hid f5; have G6 := hid f6; have G7 := hid f7
      clear hf hv hv' hc hy' f0 e0 f1 e1 f2 e2 f3 e3 f4 e4 f5 e5 f6 e6 f7 e7
      go_upto_region 6 with fail
      refine wp_region_cls (fun w' => Fr (fun _ => False) wr w') (by kernel_rfl) (by kernel_rfl) (Fr.refl _ _).drew ?_
      iterate 3 (refine q_take ?_ (by kernel_rfl) ?_ ?_; rotate_left; (· intro w' hS; go_simp; try with_reducible rfl); (try simp only [Act.put, List.setIfInBounds_toArray, List.set_cons_zero, List.set_cons_succ]))
      (refine q_take ?_ (by kernel_rfl) ?_ ?_; rotate_left; (· intro w' hS; have d0 := (HFr.out.trans' hS).cell E0.out not_false; have d1 := (HFr.out.trans' hS).cell E1.out not_false; have d2 := (HFr.out.trans' hS).cell E2.out not_false; have d3 := (HFr.out.trans' hS).cell E3.out not_false; have d4 := (HFr.out.trans' hS).cell E4.out not_false; have d5 := (HFr.out.trans' hS).cell E5.out not_false; have d6 := (HFr.out.trans' hS).cell E6.out not_false; have d7 := (HFr.out.trans' hS).cell E7.out not_false; go_simp; try with_reducible rfl); try simp only [Act.put, List.setIfInBounds_toArray, List.set_cons_zero, List.set_cons_succ])
      iterate 3 (refine q_take ?_ (by kernel_rfl) ?_ ?_; rotate_left; (· intro w' hS; go_simp; try with_reducible rfl); (try simp only [Act.put, List.setIfInBounds_toArray, List.set_cons_zero, List.set_cons_succ]))
      (refine q_take ?_ (by kernel_rfl) ?_ ?_; rotate_left; (· intro w' hS; have d0 := (HFr.out.trans' hS).cell G0.out not_false; have d1 := (HFr.out.trans' hS).cell G1.out not_false; have d2 := (HFr.out.trans' hS).cell G2.out not_false; have d3 := (HFr.out.trans' hS).cell G3.out not_false; have d4 := (HFr.out.trans' hS).cell G4.out not_false; have d5 := (HFr.out.trans' hS).cell G5.out not_false; have d6 := (HFr.out.trans' hS).cell G6.out not_false; have d7 := (HFr.out.trans' hS).cell G7.out not_false; go_simp; try with_reducible rfl); try simp only [Act.put, List.setIfInBounds_toArray, List.set_cons_zero, List.set_cons_succ])
      (refine q_call ?_ ?_ (by kernel_rfl) ?_ ?_; rotate_left 2; (· intro w' hS; go_simp; first | with_reducible rfl | (constructor <;> with_reducible rfl)); (refine ⟨_, fun w' hw => (HC.out w' _ _ (HV.out.frame (HFr.out.trans' hw) (fun _ _ => id)) (HV'.out.frame (HFr.out.trans' hw) (fun _ _ => id))).mono fun _ _ h => ⟨h.1, hw.trans' h.2⟩, ?_⟩); (try simp only [Act.put, List.setIfInBounds_toArray, List.set_cons_zero, List.set_cons_succ]))
      (refine q_take ?_ (by kernel_rfl) ?_ ?_; rotate_left; (· intro w' hS; go_simp; try with_reducible rfl); (try simp only [Act.put, List.setIfInBounds_toArray, List.set_cons_zero, List.set_cons_succ]))
      refine q_end (fun w' hw => ?_)
      have HE := hid (HFr.out.trans' hw)
      clear hw
      go_wp2
      go_roundw
      case rel => exact ⟨k + 1, by omega, by go_num, HE.out⟩
      case measure => simp [intOf]; omega
    · go_wp2
      go_ret
      exact ⟨rfl, hf⟩


set_option maxHeartbeats 1600000 in
theorem nsame_refl : ∀ (N : Nat) (x : Nd), x.sz ≤ N → ∀ (D E : Nat → Prop) (w : World) (u u' : Array Value), NIn D w x u → NIn E w x u' →
    Calls Tryz.prog 35 #[.agg u, .agg u'] w fun e w' => e = .returned (.bool true) ∧ Fr (fun _ => False) w w' := by
  intro N
  induction N with
  | zero =>
    intro x h
    rw [Nd.sz_eq] at h
    omega
  | succ N ih =>
    intro x hN D E w u u' h h'
    have hs := Nd.sz_eq x
    obtain ⟨va, v, rfl, hX, hL⟩ := h.open
    obtain ⟨va', v', rfl, hX', hL'⟩ := h'.open
    have hcall := nsames_of N ih x.l (by omega) D E
    obtain ⟨a1, c1, us1, rfl, -⟩ := id hX
    obtain ⟨a1', c1', us1', rfl, -⟩ := id hX'
    obtain ⟨a, cap, us, rfl, -⟩ := id hL
    obtain ⟨a', cap', us', rfl, -⟩ := id hL'
    have hval := rsame_refl x.v.size x.v (Nat.le_refl _) D E
    have hxv : VIn D w x.v #[.int .i64 x.v.k, .int .i64 x.v.n, .string x.v.s, .slice a1 x.v.l.length c1] := by
      have := hX.close x.v.k x.v.n x.v.s
      have e : x.v = .mk x.v.k x.v.n x.v.s x.v.l := by cases x.v; rfl
      rw [← e] at this; exact this
    have hxv' : VIn E w x.v #[.int .i64 x.v.k, .int .i64 x.v.n, .string x.v.s, .slice a1' x.v.l.length c1'] := by
      have := hX'.close x.v.k x.v.n x.v.s
      have e : x.v = .mk x.v.k x.v.n x.v.s x.v.l := by cases x.v; rfl
      rw [← e] at this; exact this
    have HV := hid hval; have HX := hid hxv; have HX' := hid hxv'
    clear hval hxv hxv' hX hX'
    generalize x.op = oo at *
    generalize x.ln = nn at *
    generalize x.s = ss at *
    generalize x.v.k = vk at *
    generalize x.v.n = vn at *
    generalize x.v.s = vs at *
    generalize x.v.l.length = vl at *
    generalize x.l = l at *
    have q1 : (oo == oo) = true := by simp
    have q2 : (nn == nn) = true := by simp
    have q3 : (ss.toList == ss.toList) = true := by simp
    have HL := hid hL; have HL' := hid hL'; have HC := hid hcall
    clear hL hL' hcall hs hN h h'
    have hF : Fr (fun _ => False) w ((w.alloc (.cells #[.int .i64 oo, .int .i64 nn, .string ss, .int .i64 vk, .int .i64 vn, .string vs, .slice a1 vl c1, .slice a l.length cap] 75)).alloc (.cells #[.int .i64 oo, .int .i64 nn, .string ss, .int .i64 vk, .int .i64 vn, .string vs, .slice a1' vl c1', .slice a' l.length cap'] 75)) := ((Fr.refl _ _).alloc _).alloc _
    have hb2 : ((w.alloc (.cells #[.int .i64 oo, .int .i64 nn, .string ss, .int .i64 vk, .int .i64 vn, .string vs, .slice a1 vl c1, .slice a l.length cap] 75)).alloc (.cells #[.int .i64 oo, .int .i64 nn, .string ss, .int .i64 vk, .int .i64 vn, .string vs, .slice a1' vl c1', .slice a' l.length cap'] 75)).heap[w.heap.size]? = some (.cells #[.int .i64 oo, .int .i64 nn, .string ss, .int .i64 vk, .int .i64 vn, .string vs, .slice a1 vl c1, .slice a l.length cap] 75) := ((Fr.refl (fun _ => False) _).alloc _).heap (heap_alloc_new w _) not_false
    have hb3 : ((w.alloc (.cells #[.int .i64 oo, .int .i64 nn, .string ss, .int .i64 vk, .int .i64 vn, .string vs, .slice a1 vl c1, .slice a l.length cap] 75)).alloc (.cells #[.int .i64 oo, .int .i64 nn, .string ss, .int .i64 vk, .int .i64 vn, .string vs, .slice a1' vl c1', .slice a' l.length cap'] 75)).heap[w.heap.size + 1]? = some (.cells #[.int .i64 oo, .int .i64 nn, .string ss, .int .i64 vk, .int .i64 vn, .string vs, .slice a1' vl c1', .slice a' l.length cap'] 75) := by
      have := heap_alloc_new (w.alloc (.cells #[.int .i64 oo, .int .i64 nn, .string ss, .int .i64 vk, .int .i64 vn, .string vs, .slice a1 vl c1, .slice a l.length cap] 75)) (.cells #[.int .i64 oo, .int .i64 nn, .string ss, .int .i64 vk, .int .i64 vn, .string vs, .slice a1' vl c1', .slice a' l.length cap'] 75)
      simpa using this
    go_enter Tryz.func35, Tryz.ntmps35
    go_upto_region 1 with fail
    generalize (w.alloc (.cells #[.int .i64 oo, .int .i64 nn, .string ss, .int .i64 vk, .int .i64 vn, .string vs, .slice a1 vl c1, .slice a l.length cap] 75)).alloc (.cells #[.int .i64 oo, .int .i64 nn, .string ss, .int .i64 vk, .int .i64 vn, .string vs, .slice a1' vl c1', .slice a' l.length cap'] 75) = W at *
    have d0 : W.cell? ⟨w.heap.size, 0, none⟩ = some (.int .i64 oo) := by rw [cell_of_row W _ 0 _ _ _ hb2]; rfl
    have d1 : W.cell? ⟨w.heap.size, 1, none⟩ = some (.int .i64 nn) := by rw [cell_of_row W _ 1 _ _ _ hb2]; rfl
    have d2 : W.cell? ⟨w.heap.size, 2, none⟩ = some (.string ss) := by rw [cell_of_row W _ 2 _ _ _ hb2]; rfl
    have d3 : W.cell? ⟨w.heap.size, 3, none⟩ = some (.int .i64 vk) := by rw [cell_of_row W _ 3 _ _ _ hb2]; rfl
    have d4 : W.cell? ⟨w.heap.size, 4, none⟩ = some (.int .i64 vn) := by rw [cell_of_row W _ 4 _ _ _ hb2]; rfl
    have d5 : W.cell? ⟨w.heap.size, 5, none⟩ = some (.string vs) := by rw [cell_of_row W _ 5 _ _ _ hb2]; rfl
    have d6 : W.cell? ⟨w.heap.size, 6, none⟩ = some (.slice a1 vl c1) := by rw [cell_of_row W _ 6 _ _ _ hb2]; rfl
    have d7 : W.cell? ⟨w.heap.size, 7, none⟩ = some (.slice a l.length cap) := by rw [cell_of_row W _ 7 _ _ _ hb2]; rfl
    have g0 : W.cell? ⟨w.heap.size + 1, 0, none⟩ = some (.int .i64 oo) := by rw [cell_of_row W _ 0 _ _ _ hb3]; rfl
    have g1 : W.cell? ⟨w.heap.size + 1, 1, none⟩ = some (.int .i64 nn) := by rw [cell_of_row W _ 1 _ _ _ hb3]; rfl
    have g2 : W.cell? ⟨w.heap.size + 1, 2, none⟩ = some (.string ss) := by rw [cell_of_row W _ 2 _ _ _ hb3]; rfl
    have g3 : W.cell? ⟨w.heap.size + 1, 3, none⟩ = some (.int .i64 vk) := by rw [cell_of_row W _ 3 _ _ _ hb3]; rfl
    have g4 : W.cell? ⟨w.heap.size + 1, 4, none⟩ = some (.int .i64 vn) := by rw [cell_of_row W _ 4 _ _ _ hb3]; rfl
    have g5 : W.cell? ⟨w.heap.size + 1, 5, none⟩ = some (.string vs) := by rw [cell_of_row W _ 5 _ _ _ hb3]; rfl
    have g6 : W.cell? ⟨w.heap.size + 1, 6, none⟩ = some (.slice a1' vl c1') := by rw [cell_of_row W _ 6 _ _ _ hb3]; rfl
    have g7 : W.cell? ⟨w.heap.size + 1, 7, none⟩ = some (.slice a' l.length cap') := by rw [cell_of_row W _ 7 _ _ _ hb3]; rfl
    have HF := hid hF; have H2 := hid hb2; have H3 := hid hb3
    clear hF hb2 hb3
    go_wp2_with fail
    refine (HC.out _ _ _ (HL.out.frame HF.out fun _ _ => id) (HL'.out.frame HF.out fun _ _ => id)).mono ?_
    rintro e w2 ⟨rfl, hf2⟩
    replace d0 := hf2.cell d0 not_false
    replace d1 := hf2.cell d1 not_false
    replace d2 := hf2.cell d2 not_false
    replace d3 := hf2.cell d3 not_false
    replace d4 := hf2.cell d4 not_false
    replace d5 := hf2.cell d5 not_false
    replace d6 := hf2.cell d6 not_false
    replace d7 := hf2.cell d7 not_false
    replace g0 := hf2.cell g0 not_false
    replace g1 := hf2.cell g1 not_false
    replace g2 := hf2.cell g2 not_false
    replace g3 := hf2.cell g3 not_false
    replace g4 := hf2.cell g4 not_false
    replace g5 := hf2.cell g5 not_false
    replace g6 := hf2.cell g6 not_false
    replace g7 := hf2.cell g7 not_false
    have HF2 := hid (HF.out.trans' hf2)
    clear hf2
    go_wp2_with fail
    refine (HV.out _ _ _ (HX.out.frame HF2.out fun _ _ => id) (HX'.out.frame HF2.out fun _ _ => id)).mono ?_
    rintro e w3 ⟨rfl, hf3⟩
    replace d0 := hf3.cell d0 not_false
    replace d1 := hf3.cell d1 not_false
    replace d2 := hf3.cell d2 not_false
    replace d3 := hf3.cell d3 not_false
    replace d4 := hf3.cell d4 not_false
    replace d5 := hf3.cell d5 not_false
    replace d6 := hf3.cell d6 not_false
    replace d7 := hf3.cell d7 not_false
    replace g0 := hf3.cell g0 not_false
    replace g1 := hf3.cell g1 not_false
    replace g2 := hf3.cell g2 not_false
    replace g3 := hf3.cell g3 not_false
    replace g4 := hf3.cell g4 not_false
    replace g5 := hf3.cell g5 not_false
    replace g6 := hf3.cell g6 not_false
    replace g7 := hf3.cell g7 not_false
    have HF3 := hid (HF2.out.trans' hf3)
    clear hf3
    go_wp2
    go_ret
    exact ⟨rfl, HF3.out⟩
theorem nsames_refl (l : List Nd) (D E : Nat → Prop) (w : World) (v v' : Value) (h : NL D w l v) (h' : NL E w l v') : Calls Tryz.prog 12 #[v, v'] w fun e w' => e = .returned (.bool true) ∧ Fr (fun _ => False) w w' :=
  nsames_of (szL l) (nsame_refl (szL l)) l (Nat.le_refl _) D E w v v' h h'
end
end Go.Proofs.YtbegahbagnflnaaGreatDoor
