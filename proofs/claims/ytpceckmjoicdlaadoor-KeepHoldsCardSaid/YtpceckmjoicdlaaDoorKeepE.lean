/- Package keep: Load, Save on a calm disk. -/
import Derived.Test.YtpceckmjoicdlaaDoorKeepD
namespace Go.Proofs.YtpceckmjoicdlaaDoor
open Go.RowKit
variable {w0 w w' : World} {pa : Nat → Addr} {nm : ByteArray} {X : Nat}

/-- What is older than w0, or no part of a disk, stays. -/
def FT (w0 w w' : World) : Prop := Fr (fun k => Tk w k ∧ w0.heap.size ≤ k) w w'
theorem FT.of (h : Fr (Tk w) w w') (h0 : Fr (fun _ => False) w0 w) (h1 : Fr (fun _ => False) w0 w') : FT w0 w w' :=
  ⟨h.os, h.tape, h.output, h.size, fun k hk hn => by
    by_cases hlt : k < w0.heap.size
    · exact (h1.block k hlt not_false).trans (h0.block k hlt not_false).symm
    · exact h.block k hk fun ht => hn ⟨ht, by omega⟩⟩
theorem FT.of0 (h : Fr (fun _ => False) w w') : FT w0 w w' := h.mono fun _ _ h => h.elim
theorem FT.trans {w2 : World} (h : FT w0 w w') (k : FT w0 w' w2) : FT w0 w w2 := Fr.trans (U := fun k => Tk w k ∧ w0.heap.size ≤ k) h k (fun _ _ h => h) fun q hq ⟨ht, hl⟩ => by
  refine ⟨fun ⟨cs, t, fz, hc, h1, h2, h3⟩ => ht ⟨cs, t, fz, ?_, h1, h2, h3⟩, hl⟩
  exact (h.block q hq fun hx => hx.1 ⟨cs, t, fz, hc, h1, h2, h3⟩).trans hc
/-- Bytes that a call on a disk leaves alone. -/
def KB (w0 w : World) (v : Value) (b : List UInt8) : Prop := ∀ w2, FT w0 w w2 → ∃ D, Bs D w2 v b
theorem KB.to {v : Value} {b : List UInt8} (h : KB w0 w v b) (hf : FT w0 w w') : KB w0 w' v b := fun w2 h2 => h w2 (hf.trans h2)
theorem KB.arg {v : Value} {b : List UInt8} (h : Bs (fun k => k < w0.heap.size) w0 v b) (hf : Fr (fun _ => False) w0 w) : KB w0 w v b := fun w2 h2 => ⟨_, (h.frame hf fun _ _ => id).frame h2 fun k hk hx => by have := hx.2; omega⟩
theorem KB.own {v : Value} {b : List UInt8} (h : Bs (BB w) w v b) : KB w0 w v b := fun w2 h2 => ⟨_, h.frame h2 fun k hk hx => Tk.bytes hk hx.1⟩
theorem newP_code (g0 g1 : Option (Option (List UInt8 × Int))) : (newP g0 g1).2.2.2 = 0 ∨ (newP g0 g1).2.2.2 = 102 ∨ (newP g0 g1).2.2.2 = 107 := by
  rcases g0 with _ | _ | ⟨b0, n0⟩ <;> rcases g1 with _ | _ | ⟨b1, n1⟩
  all_goals first
    | exact .inl rfl
    | exact .inr (.inl rfl)
    | exact .inr (.inr rfl)
    | (by_cases hlt : n0 < n1
       · exact .inl (by unfold newP; simp only [if_pos hlt])
       · exact .inl (by unfold newP; simp only [if_neg hlt]))
theorem newP_name (g0 g1 : Option (Option (List UInt8 × Int))) : (newP g0 g1).1 = ⟨#[]⟩ ∨ (newP g0 g1).1 = kW0 ∨ (newP g0 g1).1 = kW1 := by
  rcases g0 with _ | _ | ⟨b0, n0⟩ <;> rcases g1 with _ | _ | ⟨b1, n1⟩
  all_goals first
    | exact .inl rfl
    | exact .inr (.inl rfl)
    | exact .inr (.inr rfl)
    | (by_cases hlt : n0 < n1
       · exact .inr (.inr (by unfold newP; simp only [if_pos hlt]))
       · exact .inr (.inl (by unfold newP; simp only [if_neg hlt])))
/-- Load. -/
theorem load_any {p : PS} (h : PW w0 w X p) (hE : Sent17 w0 pa) (hd : p.down = false) :
    Calls Tryd.prog 11 #[.pointer (some ⟨X, 0, none⟩)] w fun e w' => Fr (fun _ => False) w w' ∧
      ∃ v, e = .returned (.tuple #[v, .int .i64 (newP (gst p kW0) (gst p kW1)).2.2.1, errV pa (newP (gst p kW0) (gst p kW1)).2.2.2]) ∧ OB w.heap.size w' v (newP (gst p kW0) (gst p kW1)).2.1 := by
  have HN := hid (newest_any h hE hd)
  generalize newP (gst p kW0) (gst p kW1) = np at *
  clear h hE hd
  go_enter Tryd.func11, Tryd.ntmps11
  go_wp2_with fail
  refine HN.out.mono ?_
  rintro e w1 ⟨hf, v, rfl, ho⟩
  have HF := hid hf; have HO := hid ho
  obtain ⟨a, c, hv, -⟩ := own_len ho
  subst hv
  clear hf ho
  go_wp2_with fail
  go_ret3
  exact ⟨HF.out, _, rfl, HO.out⟩
/-- A saved disk. -/
structure Saved (p p' : PS) (nt : ByteArray) (F : Nat) (bytes : List UInt8) : Prop where
  calm : p'.calm
  room : p'.room = p.room
  calls : p'.calls ≤ p.calls + 6
  files : p'.files = p.files + 1
  kept : p'.kept = p'.names
  ch : p'.ch = []
  lk : ∀ t, lk p'.names t = if t = nt then some F else if t = kNew then none else lk p.names t
  new : ∀ t k, t ≠ kNew → Go.Proofs.YtpceckmjoicdlaaDoor.lk p.names t = some k → k ≠ F
  fF : ∃ n, p'.fs F = ⟨n, bytes, bytes.length⟩
  fs : ∀ k, k ≠ F → p'.fs k = p.fs k
def saveTo (n : ByteArray) : ByteArray := if n = kW0 then kW1 else kW0
end Go.Proofs.YtpceckmjoicdlaaDoor
