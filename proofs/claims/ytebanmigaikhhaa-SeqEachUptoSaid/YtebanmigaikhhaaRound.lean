/- Walks of a round's body, and of a region that calls yield: what is shown of a region in the plain calculus holds in a round's frame. No function of the program stands here. -/
import Derived.Test.YtebanmigaikhhaaRegion
import Derived.RangeFuncLeaves
import Derived.RangeFuncSeq
import Derived.OrdersIn
import Derived.TacticsIn
namespace Go.Proofs.Ytebanmigaikhhaa
open Go.RowKit

/-- The wide fence, of activations of functions (none) or of the rounds of the loop l (some l). -/
abbrev Wd (ro : Option Nat) : Fence := { Fence.wide with round := ro }
theorem wd_none : Wd none = Fence.wide := rfl
theorem calls_wd {ro : Option Nat} {n : Nat} {P : Program} {f : FuncId} {args : Array Value} {w : World} {R : Ending → World → Prop} (h : Calls P f args w R) : CallsIn (Wd ro) n P f args w R := (callsIn_wide (n := n)).2 h
theorem rows_wd {ro : Option Nat} {n : Nat} {P : Program} {row : String} {args : Array Value} {w : World} {R : Value → World → Prop} (h : Rows P row args w R) : RowsIn (Wd ro) n P row args w R :=
  fun c cs _ => let ⟨v, w', r, s⟩ := h c cs; ⟨v, w', r, stepsIn_wide.2 s⟩
def noDefer (o : Oper) : Bool := match o.op with | .defer _ => false | _ => true
theorem noDefer_spec {o : Oper} (h : noDefer o = true) : ∀ c, o.op ≠ .defer c := fun c e => by unfold noDefer at h; rw [e] at h; cases h
theorem opIn_of {ro : Option Nat} {n : Nat} {P : Program} {o : Oper} {a : Act} {w : World} {K : Act → World → Prop} {Q : Exit → Act → World → Prop} (hd : noDefer o = true) (h : o.wp P a w K Q) : o.wpIn (Wd ro) n P a w K Q := by
  unfold Oper.wpIn
  refine ⟨fun _ _ => trivial, ?_⟩
  have e : o.semAt (Wd ro).round a.eval = execOp a.eval o := Oper.semAt_eq _ _ _ (noDefer_spec hd)
  rw [e]
  unfold Oper.wp at h
  generalize (execOp a.eval o).run P w = r at *
  cases r with
  | ok x w' =>
    cases x <;> simp only [Oper.upon, Oper.uponIn] at h ⊢ <;>
      first
        | exact h
        | exact ⟨fun h => by simp [Wd, Fence.wide] at h, calls_wd h⟩
        | exact ⟨fun h => by simp [Wd, Fence.wide] at h, rows_wd h⟩
  | halt x w' => cases x <;> simp only [Oper.upon, Oper.uponIn] at h ⊢ <;> exact h
section
variable {ro : Option Nat} {n : Nat} {P : Program} {ops : Array Oper} {Q : Exit → Act → World → Prop}
theorem wpOpIn_of (hQ : ∀ a w, ¬ Q .outgrown a w) (hd : ∀ (i : Nat) (o : Oper), ops[i]? = some o → noDefer o = true) {i : Nat} {K : Act → World → Prop} {a : Act} {w : World} (h : wpOp P ops Q i K a w) : wpOpIn (Wd ro) n P ops Q i K a w := by
  unfold wpOp at h
  unfold wpOpIn
  cases ho : ops[i]? with
  | none => rw [ho] at h; exact h
  | some o =>
    rw [ho] at h
    simp only at h ⊢
    split
    · rename_i hw
      rw [if_pos hw] at h
      rcases h with h | ⟨-, a', w', h⟩
      · exact opIn_of (hd i o ho) h
      · exact absurd h (hQ a' w')
    · rename_i hw
      rw [if_neg hw] at h
      exact ⟨fun _ _ => trivial, h⟩
theorem wpAnyIn_of (hQ : ∀ a w, ¬ Q .outgrown a w) (hd : ∀ (i : Nat) (o : Oper), ops[i]? = some o → noDefer o = true) : ∀ (fuel : Nat) (listed : Array Bool) (a : Act) (w : World), wpAny P .any ops Q fuel listed a w → wpAnyIn (Wd ro) n P .any ops Q fuel listed a w
  | 0, _, _, _, h => h
  | fuel + 1, _, _, _, h => ⟨h.1, fun i hi => wpOpIn_mono (fun a' w' h' => wpAnyIn_of hQ hd fuel _ a' w' h') (wpOpIn_of hQ hd (h.2 i hi))⟩
theorem wpListIn_of (hQ : ∀ a w, ¬ Q .outgrown a w) : ∀ (r : List Oper) (a : Act) (w : World), r.all noDefer = true → wpList P ops Q r a w → wpListIn (Wd ro) n P ops Q r a w
  | [], _, _, _, h => h
  | o :: r, a, w, hd, h => by
    rw [List.all_cons, Bool.and_eq_true] at hd
    unfold wpList at h
    unfold wpListIn
    split
    · rename_i hw
      rw [if_pos hw] at h
      rcases h with h | ⟨-, a', w', h⟩
      · exact Oper.wpIn_mono (fun a' w' h' => wpListIn_of hQ r a' w' hd.2 h') (opIn_of hd.1 h)
      · exact absurd h (hQ a' w')
    · rename_i hw
      rw [if_neg hw] at h
      exact ⟨fun _ _ => trivial, wpListIn_of hQ r _ w hd.2 h⟩
theorem allOps_spec {l : List Oper} (h : l.all noDefer = true) : ∀ (i : Nat) (o : Oper), l.toArray[i]? = some o → noDefer o = true := fun i o hi => by
  rw [List.getElem?_toArray] at hi
  exact List.all_eq_true.1 h o (List.mem_of_getElem? hi)
/-- A region of a round's body that does not draw: it is walked in the plain calculus. -/
theorem rd_region {id : Nat} {l : List Oper} {a : Act} {w : World} (hQ : ∀ a w, ¬ Q .outgrown a w) (hd : l.all noDefer = true) (h : wpList P l.toArray Q l a w) : (Code.region id l.toArray false).wpIn (Wd ro) n P Q a w :=
  wpIn_region_lit (wpListIn_of hQ l a w hd h)
/-- One that draws, all of it quiet. -/
theorem rd_region_cls {id : Nat} {l : List Oper} {a : Act} {w : World} (C : World → Prop) (hm : P.follows .mixedOrders = true) (hB : Region.lexB .any l.toArray = true) (hC : C w.drew) (hQ : ∀ a w, ¬ Q .outgrown a w) (hd : l.all noDefer = true)
    (h : wpQuiet P l.toArray C (fun a' => ∀ w', C w' → Q .normal a' w') l a) : (Code.region id l.toArray true).wpIn (Wd ro) n P Q a w := by
  refine wpIn_region_any hm (wpAnyIn_of hQ (allOps_spec hd) _ _ _ _ ?_)
  simp only [Region.lexB, Bool.and_eq_true] at hB
  refine wpAny_of_quiet (Q := fun a' => ∀ w', C w' → Q .normal a' w') (fun _ w' hw' h => h w' hw') _ _ _ _ hC ?_
  have := wpAnyQ_lex (C := C) (md := .any) hB.1 l 0 (Array.replicate l.toArray.size false) a (by simp) (by simpa using hB.2) h
  simpa using this
/-- One that draws, in the order that is told. -/
theorem rd_region_ord {id : Nat} {a : Act} {w : World} {l : List Oper} (ord : List (Nat × Nat)) (S : World → Prop) (hm : P.follows .mixedOrders = true) (hs : Region.noSelect l.toArray = true)
    (hc : okO ((ord.filter fun p => p.2 == 0).map Prod.fst) l.toArray ord (Array.replicate l.length false) = true) (hn : lenO ord = l.length) (hQ : ∀ c a d v w, Q (.panic c) (Act.put a d v) w → Q (.panic c) a w)
    (hS : S w.drew) (hO : ∀ a w, ¬ Q .outgrown a w) (hd : l.all noDefer = true) (h : wpO P ((ord.filter fun p => p.2 == 0).map Prod.fst) l.toArray Q ord S a w.drew) : (Code.region id l.toArray true).wpIn (Wd ro) n P Q a w := by
  refine wpIn_region_any hm (wpAnyIn_of hO (allOps_spec hd) _ _ _ _ (wpAny_of_F (tk := (ord.filter fun p => p.2 == 0).map Prod.fst) (S := S) _ _ _ _ ?_))
  have := wpO_sound hs hQ ord S (Array.replicate l.length false) a w.drew hc (.inl hS) h
  rw [hn] at this
  simpa using this
end
end Go.Proofs.Ytebanmigaikhhaa
