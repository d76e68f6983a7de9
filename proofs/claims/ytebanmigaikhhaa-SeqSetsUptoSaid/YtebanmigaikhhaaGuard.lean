/- Operations under a guard that is not decided: the guard is a Bool variable c; the value is known where c is true. -/
import Derived.Test.YtebanmigaikhhaaRegion
namespace Go.Proofs.Ytebanmigaikhhaa
section
variable {P : Program} {ops : Array Oper} {C : World → Prop} {Q1 : Act → Prop} {a : Act} {o : Oper} {r : List Oper}
theorem q_gtake (c : Bool) (v : Value) (hg : Region.wanted o (yielded ops a.tmps) = c) (hy : c = true → ∀ w, C w → (execOp a.eval o).run P w = .ok (.value v) w)
    (h : ∀ u : Value, (c = true → u = v) → wpQuiet P ops C Q1 r (a.put o.dst u)) : wpQuiet P ops C Q1 (o :: r) a := by
  cases c
  · exact q_pass hg (h undef (fun e => by cases e))
  · exact q_take v hg (hy rfl) (h v fun _ => rfl)
theorem q_gcall (c : Bool) (f : FuncId) (args : Array Value) (hg : Region.wanted o (yielded ops a.tmps) = c)
    (hr : c = true → ∀ w, C w → (execOp a.eval o).run P w = .ok (.enter f args) w) (h : ∃ v, (c = true → ∀ w, C w → Calls P f args w fun e w' => e = .returned v ∧ C w') ∧ ∀ u : Value, (c = true → u = v) → wpQuiet P ops C Q1 r (a.put o.dst u)) : wpQuiet P ops C Q1 (o :: r) a := by
  obtain ⟨v, h1, h2⟩ := h
  cases c
  · exact q_pass hg (h2 undef (fun e => by cases e))
  · exact q_call f args hg (hr rfl) ⟨v, h1 rfl, h2 v fun _ => rfl⟩
theorem q_gload (c : Bool) {ty : TypeId} {x : Operand} {b t : Nat} {cs : Array Value} {fr : Nat × Nat} (hg : Region.wanted o (yielded ops a.tmps) = c) (ho : o.op = .load ty x)
    (hx : a.eval x = .pointer (some ⟨b, 0, none⟩)) (hb : ∀ w, C w → w.heap[b]? = some (.cells cs t fr)) (hd : (P.underlying ty).any rowDesc = true) (hi : (P.info? ty).map (·.size) = some cs.size)
    (h : ∀ u : Value, (c = true → u = .agg cs) → wpQuiet P ops C Q1 r (a.put o.dst u)) : wpQuiet P ops C Q1 (o :: r) a := by
  cases c
  · exact q_pass hg (h undef (fun e => by cases e))
  · exact q_load hg ho hx hb hd hi (h _ fun _ => rfl)
/-- Under a guard that is the Bool c: the value, or none. -/
theorem q_sym (c : Bool) (v : Value) (hg : Region.wanted o (yielded ops a.tmps) = c) (hy : c = true → ∀ w, C w → (execOp a.eval o).run P w = .ok (.value v) w)
    (h : wpQuiet P ops C Q1 r (a.put o.dst (cond c v undef))) : wpQuiet P ops C Q1 (o :: r) a := by
  cases c
  · exact q_pass hg h
  · exact q_take v hg (hy rfl) h
theorem q_symcall (c : Bool) (v : Value) (f : FuncId) (args : Array Value) (hg : Region.wanted o (yielded ops a.tmps) = c)
    (hr : c = true → ∀ w, C w → (execOp a.eval o).run P w = .ok (.enter f args) w) (hv : c = true → ∀ w, C w → Calls P f args w fun e w' => e = .returned v ∧ C w') (h : wpQuiet P ops C Q1 r (a.put o.dst (cond c v undef))) : wpQuiet P ops C Q1 (o :: r) a := by
  cases c
  · exact q_pass hg h
  · exact q_call f args hg (hr rfl) ⟨v, hv rfl, h⟩
end
end Go.Proofs.Ytebanmigaikhhaa
