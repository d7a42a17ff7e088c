/- A region that draws its order, walked step by step: an operation that yields and is taken first, one whose guard is off, a call that alone may come up. The operation is laid out by its fields, so that the frame behind it can be laid out too. -/
import Derived.Test.YtajkmlejklgbbaaBase
import Derived.Deep.RegionHeld3
namespace Go.Proofs.Ytajkmlejklgbbaa
open Go.RowKit

section
variable {P : Program} {ops : Array Oper} {Q : Exit → Act → World → Prop} {md : Region.Mode} {S : World → Prop}
variable {i : Nat} {dst : Option Tmp} {op : Op} {type : TypeId} {pos : String} {after : Array Edge} {guard : Option (Nat × Bool)} {v : Value} {fuel : Nat} {listed : Array Bool} {a : Act} {w : World}

theorem hand_yes (hi : ops[i]? = some ⟨dst, op, type, pos, after, guard⟩) (hs : Region.noSelect ops = true) (hf : Region.free md ops listed i = true) (hr : (Region.ready md ops listed).contains i = true)
    (hQ : ∀ c a w, Q (.panic c) a w → False) (hw : Region.wanted ⟨dst, op, type, pos, after, guard⟩ (yielded ops a.tmps) = true)
    (hy : ∀ w, S w → (execOp a.eval ⟨dst, op, type, pos, after, guard⟩).run P w = .ok (.value v) w) (hS : S w)
    (h : wpAnyH P md ops Q S fuel (listed.setIfInBounds i true) (a.put dst v) w) : wpAnyH P md ops Q S (fuel + 1) listed a w :=
  wpAnyH_take hi hs hf hr (fun _ _ _ h => (hQ _ _ _ h).elim) (Or.inl ⟨hw, hy⟩) hS h

theorem hand_no (hi : ops[i]? = some ⟨dst, op, type, pos, after, guard⟩) (hs : Region.noSelect ops = true) (hf : Region.free md ops listed i = true) (hr : (Region.ready md ops listed).contains i = true)
    (hQ : ∀ c a w, Q (.panic c) a w → False) (hw : Region.wanted ⟨dst, op, type, pos, after, guard⟩ (yielded ops a.tmps) = false) (hS : S w)
    (h : wpAnyH P md ops Q S fuel (listed.setIfInBounds i true) (a.put dst undef) w) : wpAnyH P md ops Q S (fuel + 1) listed a w :=
  wpAnyH_take hi hs hf hr (fun _ _ _ h => (hQ _ _ _ h).elim) (Or.inr ⟨hw, rfl⟩) hS h

theorem hand_call (hi : ops[i]? = some ⟨dst, op, type, pos, after, guard⟩) (hr : Region.ready md ops listed = [i])
    (h : ∀ K' : Act → World → Prop, Shut (∀ a w, S w → (S w → wpAnyH P md ops Q S fuel (listed.setIfInBounds i true) a w) → K' a w) →
      if Region.wanted ⟨dst, op, type, pos, after, guard⟩ (yielded ops a.tmps) = true then Oper.wp P ⟨dst, op, type, pos, after, guard⟩ a w K' Q else K' (a.put dst undef) w) : wpAnyH P md ops Q S (fuel + 1) listed a w :=
  wpAnyH_ready hr (by simp) (AllReadyH.cons hi h AllReadyH.nil)
theorem hand_two {i' : Nat} {dst' : Option Tmp} {op' : Op} {type' : TypeId} {pos' : String} {after' : Array Edge} {guard' : Option (Nat × Bool)}
    (hi : ops[i]? = some ⟨dst, op, type, pos, after, guard⟩) (hi' : ops[i']? = some ⟨dst', op', type', pos', after', guard'⟩) (hr : Region.ready md ops listed = [i, i'])
    (h : ∀ K' : Act → World → Prop, Shut (∀ a w, S w → (S w → wpAnyH P md ops Q S fuel (listed.setIfInBounds i true) a w) → K' a w) →
      if Region.wanted ⟨dst, op, type, pos, after, guard⟩ (yielded ops a.tmps) = true then Oper.wp P ⟨dst, op, type, pos, after, guard⟩ a w K' Q else K' (a.put dst undef) w)
    (h' : ∀ K' : Act → World → Prop, Shut (∀ a w, S w → (S w → wpAnyH P md ops Q S fuel (listed.setIfInBounds i' true) a w) → K' a w) →
      if Region.wanted ⟨dst', op', type', pos', after', guard'⟩ (yielded ops a.tmps) = true then Oper.wp P ⟨dst', op', type', pos', after', guard'⟩ a w K' Q else K' (a.put dst' undef) w) : wpAnyH P md ops Q S (fuel + 1) listed a w :=
  wpAnyH_ready hr (by simp) (AllReadyH.cons hi h (AllReadyH.cons hi' h' AllReadyH.nil))
end

end Go.Proofs.Ytajkmlejklgbbaa
