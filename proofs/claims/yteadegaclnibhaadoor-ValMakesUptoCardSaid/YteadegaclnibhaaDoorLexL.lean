/- The lexical order of a region's operations serves every order: asked of the list, each pair once. -/
import Derived.Test.YteadegaclnibhaaDoorRegion
namespace Go.Proofs.YteadegaclnibhaaDoor

def depsOK (k : Nat) (o : Oper) : Bool := o.after.all fun e => !Region.binds .any e || decide (e.on < k)
def restOK (ops : Array Oper) (k : Nat) (o : Oper) (r : List Oper) : Bool := r.all fun q => q.after.any (fun e => Region.binds .any e && e.on == k) || o.apart ops q
def lexL (ops : Array Oper) : Nat → List Oper → Bool
  | _, [] => true
  | k, o :: r => depsOK k o && restOK ops k o r && lexL ops (k + 1) r

theorem lexFrom_of (ops : Array Oper) : ∀ (r : List Oper) (k : Nat) (listed : Array Bool), ops.toList.drop k = r → k + r.length = ops.size → listed.size = ops.size → (∀ j d, j < ops.size → listed.getD j d = decide (j < k)) → lexL ops k r = true →
    Region.lexFrom .any ops r.length k listed = true
  | [], k, listed, _, hn, hsz, hl, _ => by
    simp only [List.length_nil, Nat.add_zero] at hn
    simp only [List.length_nil, Region.lexFrom, List.isEmpty_iff]
    rw [List.eq_nil_iff_forall_not_mem]
    intro j hj
    obtain ⟨h1, o, ho, _⟩ := mem_ready.1 hj
    have hlt := (Array.getElem?_eq_some_iff.1 ho).1
    rw [hl j true hlt] at h1
    simp at h1
    omega
  | o :: r, k, listed, hd, hn, hsz, hl, h => by
    simp only [List.length_cons] at hn
    have hk : k < ops.size := by omega
    have hok : ops[k]? = some o := by
      have : (ops.toList.drop k)[0]? = some o := by rw [hd]; rfl
      rw [List.getElem?_drop] at this
      simpa using this
    simp only [lexL, Bool.and_eq_true] at h
    obtain ⟨⟨h1, h2⟩, h3⟩ := h
    simp only [List.length_cons, Region.lexFrom, Bool.and_eq_true]
    refine ⟨⟨?_, ?_⟩, ?_⟩
    · rw [List.contains_iff_mem]
      refine mem_ready.2 ⟨by rw [hl k true hk]; simp, o, hok, fun e he hb => ?_⟩
      have := Array.all_eq_true_iff_forall_mem.1 h1 e he
      simp only [hb, Bool.not_true, Bool.false_or, decide_eq_true_eq] at this
      rw [hl e.on false (by omega)]
      simpa using this
    · simp only [Region.free, hok, List.all_eq_true, List.mem_range, Bool.or_eq_true]
      intro j hj
      by_cases hjk : j ≤ k
      · left
        rcases Nat.lt_or_eq_of_le hjk with h' | h'
        · right; rw [hl j true hj]; simpa using h'
        · left; simpa using h'
      · right
        obtain ⟨q, hq⟩ : ∃ q, ops[j]? = some q := ⟨_, Array.getElem?_eq_getElem hj⟩
        simp only [hq]
        have hm : q ∈ r := by
          have : (ops.toList.drop k)[j - k]? = some q := by
            rw [List.getElem?_drop]
            have e : k + (j - k) = j := by omega
            rw [e]
            simpa using hq
          rw [hd] at this
          obtain ⟨m, hm⟩ : ∃ m, j - k = m + 1 := ⟨j - k - 1, by omega⟩
          rw [hm] at this
          exact List.mem_of_getElem? (by simpa using this)
        have := List.all_eq_true.1 h2 q hm
        simpa using this
    · refine lexFrom_of ops r (k + 1) _ ?_ (by omega) (by simpa using hsz) (fun j d hj => ?_) h3
      · have : ops.toList.drop (k + 1) = (ops.toList.drop k).drop 1 := by rw [List.drop_drop]
        rw [this, hd]
        rfl
      · by_cases hjk : j = k
        · subst hjk
          simp [Array.getD, hsz, hj]
        · have h0 := hl j d hj
          simp only [Array.getD, hsz, hj, Array.size_setIfInBounds, dite_true] at h0 ⊢
          have e : (listed.setIfInBounds k true)[j]'(by simpa [hsz] using hj) = listed[j]'(by omega) := by
            rw [Array.getElem_setIfInBounds_ne]
            omega
          simp only [Array.getInternal_eq_getElem] at h0 ⊢
          rw [e, h0]
          have : (j < k) = (j < k + 1) := propext ⟨fun h => by omega, fun h => by omega⟩
          simp only [this]

theorem lexB_of (l : List Oper) (hs : Region.noSelect l.toArray = true) (h : lexL l.toArray 0 l = true) : Region.lexB .any l.toArray = true := by
  unfold Region.lexB
  rw [hs, Bool.true_and]
  refine lexFrom_of l.toArray l 0 _ (by simp) (by simp) (by simp) (fun j d hj => ?_) h
  simp at hj
  simp [Array.getD, hj]
end Go.Proofs.YteadegaclnibhaaDoor
