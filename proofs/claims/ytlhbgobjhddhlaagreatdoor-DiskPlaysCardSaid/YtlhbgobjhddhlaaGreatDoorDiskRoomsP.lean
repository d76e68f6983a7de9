/- DiskRooms: the plain part; what laws on disks share. -/
import Derived.Test.YtlhbgobjhddhlaaGreatDoorDiskFirst
import Derived.Test.YtlhbgobjhddhlaaGreatDoorNumber
namespace Go.Proofs.YtlhbgobjhddhlaaGreatDoor
open Go.RowKit
variable {w0 w w' : World} {pa : Nat → Addr} {nm : ByteArray} {X : Nat}

theorem sumF_congr {g h : Nat → Nat} : ∀ {L : Nm}, (∀ q ∈ L, g q.2 = h q.2) → sumF g L = sumF h L
  | [], _ => rfl
  | q :: r, H => by rw [sumF, sumF, H q (by simp), sumF_congr fun x hx => H x (by simp [hx])]
theorem dl_none {M : Nm} (h : lk M nm = none) : dl M nm = M := by
  unfold dl
  rw [List.filter_eq_self]
  intro q hq
  have := lk_none.1 h q hq
  simp [this]
theorem PS.used_create {p : PS} {F : Nat} (hl : lk p.names nm = none) (hF : ∀ k, PFl p k → k ≠ F) : (p.create nm F).used = p.used := by
  unfold PS.used PS.create
  dsimp only
  unfold pt
  rw [sumF, dl_none hl, upd_same]
  simp only [List.length_nil, Nat.zero_add]
  refine sumF_congr fun q hq => ?_
  rw [upd_ne _ _ (hF q.2 (.inl ⟨q.1, hq⟩))]
theorem PS.used_put {p : PS} {F : Nat} {f : FS} (hk : Ks p.names) (hl : lk p.names nm = some F) (hu : ∀ q ∈ p.names, q.2 = F → q.1 = nm) : (p.put F f).used + (p.fs F).by_.length = p.used + f.by_.length := by
  have hm := (lk_mem hk).1 hl
  have h1 := sumF_dl (fun k => (p.fs k).by_.length) hk hm
  have h2 := sumF_dl (fun k => (upd p.fs F f k).by_.length) hk hm
  have h3 : sumF (fun k => (upd p.fs F f k).by_.length) (dl p.names nm) = sumF (fun k => (p.fs k).by_.length) (dl p.names nm) := sumF_congr fun q hq => by
    have h4 := mem_dl.1 hq
    rw [upd_ne _ _ fun e => h4.2 (hu q h4.1 e)]
  rw [upd_same] at h2
  unfold PS.used PS.put
  dsimp only at *
  omega
theorem PS.used_rm {p : PS} {F : Nat} (hk : Ks p.names) (hl : lk p.names nm = some F) (hn : nm ≠ ⟨#[]⟩) : (p.change ⟨⟨#[]⟩, nm, none⟩).used + (p.fs F).by_.length = p.used := by
  have hm := (lk_mem hk).1 hl
  have h1 := sumF_dl (fun k => (p.fs k).by_.length) hk hm
  unfold PS.used PS.change applyM
  dsimp only at *
  rw [if_neg hn]
  omega
/-- What a disk has beside. -/
theorem PS.used_le {p : PS} (h : p.Ok) : p.used ≤ 4194304 * p.calls := by
  have h1 := sumF_le (fun k => (p.fs k).by_.length) 4194304 p.names fun q hq => (h.bd q.2 ⟨q.1, hq⟩).1
  have h2 := Nat.mul_le_mul_left 4194304 h.cn
  unfold PS.used
  omega
/-- A text of one letter. -/
def nm1 (c : Nat) : ByteArray := ⟨#[UInt8.ofNat c]⟩
theorem nm1_inj {a b : Nat} (ha : a < 256) (hb : b < 256) (h : nm1 a = nm1 b) : a = b := by
  unfold nm1 at h
  simp only [ByteArray.mk.injEq, Array.mk.injEq, List.cons.injEq, and_true] at h
  have := congrArg UInt8.toNat h
  simp only [UInt8.toNat_ofNat'] at this
  omega
theorem nm1_ok {a : Nat} (h1 : 97 ≤ a) (h2 : a ≤ 122) : okN (nm1 a) = true := by
  have : (UInt8.ofNat a).toNat = a := by rw [UInt8.toNat_ofNat']; omega
  simp only [okN, nm1, okB, this, ByteArray.size, List.size_toArray, List.length_cons, List.length_nil, List.all_cons, List.all_nil, Bool.and_true]
  rw [decide_eq_true (by omega), decide_eq_true (by omega)]
  rfl
theorem nm1_ne (a : Nat) : nm1 a ≠ ⟨#[]⟩ := by unfold nm1; simp
theorem made_get1 (n k : Nat) (hk : k < n) : (madeCells (Value.int .u8 0).cells n)[0 + k]? = some (.int .u8 0) := by
  unfold madeCells
  have hz : (0 + k) % (Value.int .u8 0).cells.size = 0 := Nat.mod_one _
  rw [Array.getElem?_map, Array.getElem?_range]
  rw [if_pos (by omega)]
  simp only [Option.map_some, hz]
  rfl
/-- make([]byte, n). -/
theorem mk_bytes (n : Nat) (hn : n ≤ 1048576) (u : World) (C : Int) (hC : C = (n : Int)) : ∃ w', (Instr.makeSlice 32 (.int .i64 C) (.int .i64 C)).run Tryz.prog u = .ok (.slice (some ⟨u.heap.size, 0, none⟩) n n) w' ∧ Fr (fun _ => False) u w' ∧
    Bs (fun k => k = u.heap.size) w' (.slice (some ⟨u.heap.size, 0, none⟩) n n) (List.replicate n 0) ∧ BB w' u.heap.size := by
  subst hC
  obtain ⟨i0, hi, hz0, hz1, hz2⟩ := info_parts Tryz.info_byte
  have h := run_make (P := Tryz.prog) u 32 5 i0 (.int .u8 0) Tryz.underlying32 hi hz0 .i64 .i64 n n (by omega) (Int.le_refl _) (by rw [hz2]; omega) (by omega)
  rw [Int.toNat_natCast, hz1] at h
  refine ⟨_, h, (Fr.refl _ _).alloc _, ?_, ⟨_, _, heap_alloc_new u _⟩⟩
  have hlen : (List.replicate n (0 : UInt8)).length = n := by simp
  refine ⟨_, n, by rw [hlen], by rw [hlen]; exact Nat.le_refl _, by unfold maxLen; omega, fun k hk => ⟨u.heap.size, 0, rfl, rfl, ?_⟩⟩
  rw [hlen] at hk
  rw [cell_of_row _ _ _ _ _ _ (heap_alloc_new u _), made_get1 _ _ (by omega)]
  simp [List.getD, hk]
/-- A slice of ints that came in. -/
theorem isl_split {D : Nat → Prop} {v : Value} {l : List Int} (h : Sl D w v l.length (fun k u => u = .int .i64 (l.getD k 0) ∧ -9223372036854775808 ≤ l.getD k 0 ∧ l.getD k 0 ≤ 9223372036854775807)) :
    Is D w v l ∧ ∀ k, -9223372036854775808 ≤ l.getD k 0 ∧ l.getD k 0 ≤ 9223372036854775807 := by
  obtain ⟨a, c, rfl, h1, h2, h3⟩ := h
  refine ⟨⟨a, c, rfl, h1, h2, fun k hk => ?_⟩, fun k => ?_⟩
  · obtain ⟨b, o, u, e, hd, hc, hu⟩ := h3 k hk
    exact ⟨b, o, u, e, hd, hc, hu.1⟩
  · by_cases hk : k < l.length
    · obtain ⟨b, o, u, e, hd, hc, hu⟩ := h3 k hk
      exact hu.2
    · rw [List.getD_eq_getElem?_getD, List.getElem?_eq_none (by omega)]
      exact ⟨by decide, by decide⟩
end Go.Proofs.YtlhbgobjhddhlaaGreatDoor
