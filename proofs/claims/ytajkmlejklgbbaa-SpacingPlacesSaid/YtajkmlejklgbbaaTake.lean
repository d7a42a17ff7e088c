/- A reading cut at a length. -/
import Derived.Test.YtajkmlejklgbbaaBase
namespace Go.Proofs.Ytajkmlejklgbbaa
open Go.RowKit

theorem Rds.tk {w : World} {B : Nat} {A : Option Addr} {α : Type} {f : α → List Value} {l : List α} (h : Rds w B A (l.flatMap f)) (k : Nat) : Rds w B A ((l.take k).flatMap f) := by
  rcases h with h | ⟨b, off, e, hb, hc⟩
  · refine .inl ?_
    rw [List.flatMap_eq_nil_iff] at *
    exact fun x hx => h x (List.mem_of_mem_take hx)
  · refine .inr ⟨b, off, e, hb, fun j u hu => hc j u ?_⟩
    have e : l.flatMap f = (l.take k).flatMap f ++ (l.drop k).flatMap f := by rw [← List.flatMap_append, List.take_append_drop]
    rw [e, List.getElem?_append_left (List.getElem?_eq_some_iff.1 hu).1]
    exact hu

end Go.Proofs.Ytajkmlejklgbbaa
