/- ValRow, NodRow: several texts in one: a claim has at most 60 files -/
import Derived.Test.YtbegahbagnflnaaDoorMg02
import Derived.Test.YtbegahbagnflnaaDoorRow
import Derived.Test.YtbegahbagnflnaaDoorRows
import Derived.ChangeArms
import Derived.Test.YtbegahbagnflnaaDoorMg07
namespace Go.Proofs.YtbegahbagnflnaaDoor
section
open Go.ChangeShapes Go.WideShapes Go.ChangeAt Go.RowKit

def in64 (n : Int) : Prop := -9223372036854775808 ≤ n ∧ n ≤ 9223372036854775807
mutual
def V.wf : V → Prop
  | .mk k n _ l => in64 k ∧ in64 n ∧ wfL l
def wfL : List V → Prop
  | [] => True
  | x :: r => V.wf x ∧ wfL r
end
theorem wfL_of : ∀ (l : List V), (∀ (i : Nat) (x : V), l[i]? = some x → x.wf) → wfL l
  | [], _ => trivial
  | x :: r, h => ⟨h 0 x rfl, wfL_of r fun i y hy => h (i + 1) y (by simpa using hy)⟩
theorem wfL_get : ∀ {l : List V}, wfL l → ∀ {i : Nat} {x : V}, l[i]? = some x → x.wf
  | [], _, i, x, h => by simp at h
  | y :: r, hw, 0, x, h => by simp at h; subst h; exact hw.1
  | y :: r, hw, i + 1, x, h => wfL_get hw.2 (by simpa using h)
section
variable {H : Type} {enc : TypeId × Value → H}

theorem bulkAll_le : ∀ (l : List V) (ds : List (DataW H)), l.length = ds.length → (∀ (i : Nat) (x : V) (d : DataW H), l[i]? = some x → ds[i]? = some d → x.size ≤ Rows.uptoBulk d) → sizeL l ≤ Rows.uptoBulkAll ds
  | [], [], _, _ => by simp [sizeL]
  | [], _ :: _, h, _ => by simp at h
  | _ :: _, [], h, _ => by simp at h
  | x :: r, d :: ds, h, hp => by
    have h1 := hp 0 x d rfl rfl
    have h2 := bulkAll_le r ds (by simpa using h) (fun i y e hy he => hp (i + 1) y e (by simpa using hy) (by simpa using he))
    simp only [sizeL, Rows.uptoBulkAll]
    omega

/-- What a reading of a value gives. -/
def ValueOpen (enc : TypeId × Value → H) (W : World) (fuel : Nat) : Prop :=
  ∀ (cs : List Value) (y : DataW H × List MemPlace), DataW.trod enc Tryd.prog W 0 (fun _ => true) true fuel 34 cs = some y →
    ∃ (x : V) (u : Array Value), cs = u.toList ∧ VIn (fun _ => True) W x u ∧ x.size ≤ Rows.uptoBulk y.1 ∧ x.wf

theorem cells_api : Tryd.prog.cellsOf 34 = 4 := by kernel_rfl

theorem vin_size {D : Nat → Prop} {w : World} {x : V} {u : Array Value} (h : VIn D w x u) : u.size = 4 := by
  obtain ⟨v, rfl, _⟩ := h.open
  rfl
set_option maxRecDepth 100000 in
theorem open_slice {W : World} {fuel : Nat} (ih : ∀ m, m < fuel → ValueOpen enc W m) {cs : List Value} {y : DataW H × List MemPlace} (h : DataW.trod enc Tryd.prog W 0 (fun _ => true) true fuel 32 cs = some y) :
    ∃ (l : List V) (v : Value), cs = [v] ∧ VL (fun _ => True) W l v ∧ sizeL l ≤ Rows.uptoBulk y.1 ∧ wfL l := by
  rcases DataW.trod_slice Tryd.underlying32 h with ⟨rfl, rfl⟩ | ⟨a, len, cap, elems, rest, n, rfl, rfl, rfl, -, hl, hm, hel, hin, -⟩
  · exact ⟨[], _, rfl, VL.nil _ _, by simp [sizeL], trivial⟩
  · have hspot : 0 < len → a.spot = none := by
      intro h0
      have h1 := hin 0 h0
      rw [List.getElem?_eq_getElem (by omega), cells_api] at h1
      obtain ⟨cs', hcells, -⟩ := Option.bind_eq_some_iff.1 h1
      obtain ⟨-, hcl, hcell⟩ := World.cells?_some hcells
      have h2 := hcell 0 (by omega)
      rw [List.getElem?_eq_getElem (by omega)] at h2
      simpa [Addr.add] using World.cell?_spot h2
    have key : ∀ i, i < len → ∃ (x : V) (u : Array Value) (e : DataW H × List MemPlace), elems[i]? = some e ∧ (∃ b o, some a = some (⟨b, o, none⟩ : Addr) ∧ ∀ j, j < 4 → W.cell? ⟨b, o + i * 4 + j, none⟩ = u[j]?) ∧ VIn (fun _ => True) W x u ∧ x.size ≤ Rows.uptoBulk e.1 ∧ x.wf := by
      intro i hi
      have h1 := hin i hi
      have h2 : elems[i]? = some elems[i] := List.getElem?_eq_getElem (by omega)
      rw [h2, cells_api] at h1
      obtain ⟨cs', hcells, htr⟩ := Option.bind_eq_some_iff.1 h1
      obtain ⟨-, hcl, hcell⟩ := World.cells?_some hcells
      obtain ⟨x, u, rfl, hv, hs, hw⟩ := ih n (by omega) cs' _ htr
      obtain ⟨b, o, sp⟩ := a
      have hsp : sp = none := hspot (by omega)
      subst hsp
      refine ⟨x, u, elems[i], h2, ⟨b, o, rfl, fun j hj => ?_⟩, hv, hs, hw⟩
      have := hcell j hj
      rw [addr_add, addr_add] at this
      simpa using this
    obtain ⟨f, us, es, hf⟩ : ∃ (f : Nat → V) (us : Nat → Array Value) (es : Nat → DataW H × List MemPlace), ∀ i, i < len → elems[i]? = some (es i) ∧ (∃ b o, some a = some (⟨b, o, none⟩ : Addr) ∧ ∀ j, j < 4 → W.cell? ⟨b, o + i * 4 + j, none⟩ = (us i)[j]?) ∧ VIn (fun _ => True) W (f i) (us i) ∧ (f i).size ≤ Rows.uptoBulk (es i).1 ∧ (f i).wf := by
      classical
      refine ⟨fun i => if h : i < len then (key i h).choose else .mk 0 0 ⟨#[]⟩ [], fun i => if h : i < len then (key i h).choose_spec.choose else #[], fun i => if h : i < len then (key i h).choose_spec.choose_spec.choose else (.nil, []), fun i hi => ?_⟩
      simp only [dif_pos hi]
      exact (key i hi).choose_spec.choose_spec.choose_spec
    have hlen : ((List.range len).map f).length = len := by simp
    have hget : ∀ i x, ((List.range len).map f)[i]? = some x → i < len ∧ x = f i := by
      intro i x hx
      have hi : i < len := by simpa using (List.getElem?_eq_some_iff.1 hx).1
      rw [List.getElem?_map, List.getElem?_range hi] at hx
      exact ⟨hi, (Option.some.inj hx).symm⟩
    refine ⟨(List.range len).map f, _, rfl, ⟨some a, cap, us, by rw [hlen], by rw [hlen]; exact hl, hm, (fun h => by cases h), fun i hi => ?_, fun i x hx => ?_⟩, ?_, ?_⟩
    · rw [hlen] at hi
      obtain ⟨-, ⟨b, o, e, hc⟩, hv, -⟩ := hf i hi
      exact ⟨b, o, e, trivial, vin_size hv, hc⟩
    · obtain ⟨hi, rfl⟩ := hget i x hx
      exact (hf i hi).2.2.1
    · have := bulkAll_le ((List.range len).map f) (elems.map (·.1)) (by simp [hel]) (fun i x d hx hd => by
        obtain ⟨hi, rfl⟩ := hget i x hx
        obtain ⟨he, -, -, hs, -⟩ := hf i hi
        rw [List.getElem?_map, he] at hd
        simp at hd
        subst hd
        exact hs)
      simp only [Rows.uptoBulk]
      omega
    · exact wfL_of _ fun i x hx => by
        obtain ⟨hi, rfl⟩ := hget i x hx
        exact (hf i hi).2.2.2.2

theorem i64_wf {n : Int} (h : (Lit.int .i64 n).wf = true) : in64 n := i64_of_wf h

set_option maxRecDepth 100000 in
theorem open_value (W : World) : ∀ fuel, ValueOpen enc W fuel := by
  intro fuel
  induction fuel using Nat.strongRecOn with
  | _ fuel ih =>
    intro cs y h
    obtain ⟨xs, m, rfl, rfl, hl, hlen, hf⟩ := DataW.trod_struct Tryd.underlying34 h
    rw [cells_api] at hl
    match xs, hlen, cs, hl with
    | [y0, y1, y2, y3], _, [v0, v1, v2, v3], _ =>
      have g0 := hf 0 _ rfl
      have g1 := hf 1 _ rfl
      have g2 := hf 2 _ rfl
      have g3 := hf 3 _ rfl
      have g0 : DataW.trod enc Tryd.prog W 0 (fun _ => true) true m 3 [v0] = some y0 := g0
      have g1 : DataW.trod enc Tryd.prog W 0 (fun _ => true) true m 2 [v1] = some y1 := g1
      have g2 : DataW.trod enc Tryd.prog W 0 (fun _ => true) true m 9 [v2] = some y2 := g2
      have g3 : DataW.trod enc Tryd.prog W 0 (fun _ => true) true m 32 [v3] = some y3 := g3
      obtain ⟨k, e0, rfl, w0⟩ := DataW.trod_int Tryd.underlying3 g0
      obtain ⟨n, e1, rfl, w1⟩ := DataW.trod_int Tryd.underlying2 g1
      obtain ⟨s, e2, rfl, -⟩ := DataW.trod_string Tryd.underlying9 g2
      obtain ⟨l, v, e3, hv, hs, hw⟩ := open_slice (fun j hj => ih j (by omega)) g3
      obtain rfl : v0 = Value.int .i64 k := (List.cons.inj (show [v0] = [Value.int .i64 k] from e0)).1
      obtain rfl : v1 = Value.int .i64 n := (List.cons.inj (show [v1] = [Value.int .i64 n] from e1)).1
      obtain rfl : v2 = Value.string s := (List.cons.inj (show [v2] = [Value.string s] from e2)).1
      obtain rfl : v3 = v := (List.cons.inj (show [v3] = [v] from e3)).1
      refine ⟨.mk k n s l, _, rfl, hv.close k n s, ?_, i64_wf w0, i64_wf w1, hw⟩
      simp only [List.map_cons, List.map_nil, Rows.uptoBulk, Rows.uptoBulkAll, V.size]
      have : s.data.toList.length = s.size := by rw [Array.length_toList]; rfl
      omega
end
end
section
open Go.ChangeShapes Go.WideShapes Go.ChangeAt Go.RowKit

mutual
def Nd.wf : Nd → Prop
  | .mk op ln _ v l => in64 op ∧ in64 ln ∧ v.wf ∧ nwfL l
def nwfL : List Nd → Prop
  | [] => True
  | x :: r => Nd.wf x ∧ nwfL r
end
theorem nwfL_of : ∀ (l : List Nd), (∀ (i : Nat) (x : Nd), l[i]? = some x → x.wf) → nwfL l
  | [], _ => trivial
  | x :: r, h => ⟨h 0 x rfl, nwfL_of r fun i y hy => h (i + 1) y (by simpa using hy)⟩
theorem nwfL_get : ∀ {l : List Nd}, nwfL l → ∀ {i : Nat} {x : Nd}, l[i]? = some x → x.wf
  | [], _, i, x, h => by simp at h
  | y :: r, hw, 0, x, h => by simp at h; subst h; exact hw.1
  | y :: r, hw, i + 1, x, h => nwfL_get hw.2 (by simpa using h)
section
variable {H : Type} {enc : TypeId × Value → H}

theorem bulkAllN_le : ∀ (l : List Nd) (ds : List (DataW H)), l.length = ds.length → (∀ (i : Nat) (x : Nd) (d : DataW H), l[i]? = some x → ds[i]? = some d → x.sz ≤ Rows.uptoBulk d) → szL l ≤ Rows.uptoBulkAll ds
  | [], [], _, _ => by simp [szL]
  | [], _ :: _, h, _ => by simp at h
  | _ :: _, [], h, _ => by simp at h
  | x :: r, d :: ds, h, hp => by
    have h1 := hp 0 x d rfl rfl
    have h2 := bulkAllN_le r ds (by simpa using h) (fun i y e hy he => hp (i + 1) y e (by simpa using hy) (by simpa using he))
    simp only [szL, Rows.uptoBulkAll]
    omega

/-- What a reading of a node gives. -/
def NodeOpen (enc : TypeId × Value → H) (W : World) (fuel : Nat) : Prop :=
  ∀ (cs : List Value) (y : DataW H × List MemPlace), DataW.trod enc Tryd.prog W 0 (fun _ => true) true fuel 36 cs = some y →
    ∃ (x : Nd) (u : Array Value), cs = u.toList ∧ NIn (fun _ => True) W x u ∧ x.sz ≤ Rows.uptoBulk y.1 ∧ x.wf

theorem cells_node : Tryd.prog.cellsOf 36 = 8 := by kernel_rfl

theorem nin_size {D : Nat → Prop} {w : World} {x : Nd} {u : Array Value} (h : NIn D w x u) : u.size = 8 := by
  obtain ⟨va, v, rfl, _⟩ := h.open
  rfl
set_option maxRecDepth 100000 in
theorem open_nodes {W : World} {fuel : Nat} (ih : ∀ m, m < fuel → NodeOpen enc W m) {cs : List Value} {y : DataW H × List MemPlace} (h : DataW.trod enc Tryd.prog W 0 (fun _ => true) true fuel 22 cs = some y) :
    ∃ (l : List Nd) (v : Value), cs = [v] ∧ NL (fun _ => True) W l v ∧ szL l ≤ Rows.uptoBulk y.1 ∧ nwfL l := by
  rcases DataW.trod_slice Tryd.underlying22 h with ⟨rfl, rfl⟩ | ⟨a, len, cap, elems, rest, n, rfl, rfl, rfl, -, hl, hm, hel, hin, -⟩
  · exact ⟨[], _, rfl, NL.nil _ _, by simp [szL], trivial⟩
  · have hspot : 0 < len → a.spot = none := by
      intro h0
      have h1 := hin 0 h0
      rw [List.getElem?_eq_getElem (by omega), cells_node] at h1
      obtain ⟨cs', hcells, -⟩ := Option.bind_eq_some_iff.1 h1
      obtain ⟨-, hcl, hcell⟩ := World.cells?_some hcells
      have h2 := hcell 0 (by omega)
      rw [List.getElem?_eq_getElem (by omega)] at h2
      simpa [Addr.add] using World.cell?_spot h2
    have key : ∀ i, i < len → ∃ (x : Nd) (u : Array Value) (e : DataW H × List MemPlace), elems[i]? = some e ∧ (∃ b o, some a = some (⟨b, o, none⟩ : Addr) ∧ ∀ j, j < 8 → W.cell? ⟨b, o + i * 8 + j, none⟩ = u[j]?) ∧ NIn (fun _ => True) W x u ∧ x.sz ≤ Rows.uptoBulk e.1 ∧ x.wf := by
      intro i hi
      have h1 := hin i hi
      have h2 : elems[i]? = some elems[i] := List.getElem?_eq_getElem (by omega)
      rw [h2, cells_node] at h1
      obtain ⟨cs', hcells, htr⟩ := Option.bind_eq_some_iff.1 h1
      obtain ⟨-, hcl, hcell⟩ := World.cells?_some hcells
      obtain ⟨x, u, rfl, hv, hs, hw⟩ := ih n (by omega) cs' _ htr
      obtain ⟨b, o, sp⟩ := a
      have hsp : sp = none := hspot (by omega)
      subst hsp
      refine ⟨x, u, elems[i], h2, ⟨b, o, rfl, fun j hj => ?_⟩, hv, hs, hw⟩
      have := hcell j hj
      rw [addr_add, addr_add] at this
      simpa using this
    obtain ⟨f, us, es, hf⟩ : ∃ (f : Nat → Nd) (us : Nat → Array Value) (es : Nat → DataW H × List MemPlace), ∀ i, i < len → elems[i]? = some (es i) ∧ (∃ b o, some a = some (⟨b, o, none⟩ : Addr) ∧ ∀ j, j < 8 → W.cell? ⟨b, o + i * 8 + j, none⟩ = (us i)[j]?) ∧ NIn (fun _ => True) W (f i) (us i) ∧ (f i).sz ≤ Rows.uptoBulk (es i).1 ∧ (f i).wf := by
      classical
      refine ⟨fun i => if h : i < len then (key i h).choose else .mk 0 0 ⟨#[]⟩ (.mk 0 0 ⟨#[]⟩ []) [], fun i => if h : i < len then (key i h).choose_spec.choose else #[], fun i => if h : i < len then (key i h).choose_spec.choose_spec.choose else (.nil, []), fun i hi => ?_⟩
      simp only [dif_pos hi]
      exact (key i hi).choose_spec.choose_spec.choose_spec
    have hlen : ((List.range len).map f).length = len := by simp
    have hget : ∀ i x, ((List.range len).map f)[i]? = some x → i < len ∧ x = f i := by
      intro i x hx
      have hi : i < len := by simpa using (List.getElem?_eq_some_iff.1 hx).1
      rw [List.getElem?_map, List.getElem?_range hi] at hx
      exact ⟨hi, (Option.some.inj hx).symm⟩
    refine ⟨(List.range len).map f, _, rfl, ⟨some a, cap, us, by rw [hlen], by rw [hlen]; exact hl, hm, (fun h => by cases h), fun i hi => ?_, fun i x hx => ?_⟩, ?_, ?_⟩
    · rw [hlen] at hi
      obtain ⟨-, ⟨b, o, e, hc⟩, hv, -⟩ := hf i hi
      exact ⟨b, o, e, trivial, nin_size hv, hc⟩
    · obtain ⟨hi, rfl⟩ := hget i x hx
      exact (hf i hi).2.2.1
    · have := bulkAllN_le ((List.range len).map f) (elems.map (·.1)) (by simp [hel]) (fun i x d hx hd => by
        obtain ⟨hi, rfl⟩ := hget i x hx
        obtain ⟨he, -, -, hs, -⟩ := hf i hi
        rw [List.getElem?_map, he] at hd
        simp at hd
        subst hd
        exact hs)
      simp only [Rows.uptoBulk]
      omega
    · exact nwfL_of _ fun i x hx => by
        obtain ⟨hi, rfl⟩ := hget i x hx
        exact (hf i hi).2.2.2.2

set_option maxRecDepth 100000 in
theorem open_node (W : World) : ∀ fuel, NodeOpen enc W fuel := by
  intro fuel
  induction fuel using Nat.strongRecOn with
  | _ fuel ih =>
    intro cs y h
    obtain ⟨xs, m, rfl, rfl, hl, hlen, hf⟩ := DataW.trod_struct Tryd.underlying36 h
    rw [cells_node] at hl
    match xs, hlen, cs, hl with
    | [y0, y1, y2, y3, y4], _, [v0, v1, v2, v3, v4, v5, v6, v7], _ =>
      have g0 := hf 0 _ rfl
      have g1 := hf 1 _ rfl
      have g2 := hf 2 _ rfl
      have g3 := hf 3 _ rfl
      have g4 := hf 4 _ rfl
      have g0 : DataW.trod enc Tryd.prog W 0 (fun _ => true) true m 3 [v0] = some y0 := g0
      have g1 : DataW.trod enc Tryd.prog W 0 (fun _ => true) true m 3 [v1] = some y1 := g1
      have g2 : DataW.trod enc Tryd.prog W 0 (fun _ => true) true m 9 [v2] = some y2 := g2
      have g3 : DataW.trod enc Tryd.prog W 0 (fun _ => true) true m 34 [v3, v4, v5, v6] = some y3 := g3
      have g4 : DataW.trod enc Tryd.prog W 0 (fun _ => true) true m 22 [v7] = some y4 := g4
      obtain ⟨k, e0, rfl, w0⟩ := DataW.trod_int Tryd.underlying3 g0
      obtain ⟨n, e1, rfl, w1⟩ := DataW.trod_int Tryd.underlying3 g1
      obtain ⟨s, e2, rfl, -⟩ := DataW.trod_string Tryd.underlying9 g2
      obtain ⟨xv, u, e3, hv, hs, hw⟩ := open_value W m _ _ g3
      obtain ⟨l, vl, e4, hnl, hsl, hwl⟩ := open_nodes (fun j hj => ih j (by omega)) g4
      obtain rfl : v0 = Value.int .i64 k := (List.cons.inj (show [v0] = [Value.int .i64 k] from e0)).1
      obtain rfl : v1 = Value.int .i64 n := (List.cons.inj (show [v1] = [Value.int .i64 n] from e1)).1
      obtain rfl : v2 = Value.string s := (List.cons.inj (show [v2] = [Value.string s] from e2)).1
      obtain rfl : v7 = vl := (List.cons.inj (show [v7] = [vl] from e4)).1
      obtain ⟨vv, rfl, hvl⟩ := hv.open
      simp at e3
      obtain ⟨rfl, rfl, rfl, rfl⟩ := e3
      refine ⟨.mk k n s xv l, _, rfl, hnl.close k n s xv hvl, ?_, i64_wf w0, i64_wf w1, hw, hwl⟩
      simp only [List.map_cons, List.map_nil, Rows.uptoBulk, Rows.uptoBulkAll, Nd.sz]
      have : s.data.toList.length = s.size := by rw [Array.length_toList]; rfl
      omega
end
end
end Go.Proofs.YtbegahbagnflnaaDoor
