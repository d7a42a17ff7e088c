/- append inside a region that draws its order; readings carried on. -/
import Derived.Test.YtajkmlejklgbbaaJoinW
namespace Go.Proofs.Ytajkmlejklgbbaa
open Go.RowKit

theorem step_app {P : Program} {w : World} {ops : Array Oper} {o : Oper} {a : Act} {K : Act → World → Prop} {Q : Exit → Act → World → Prop} {E : Prop} (hgd : o.guard = none) (s x : Operand) (t : TypeId)
    (ho : o.op = .call { callee := .builtin .append, args := #[s, x], argTypes := #[t, t] })
    (base : Nat) {e : TypeId} {size bytes : Nat} (T : ElemTy P t e size bytes) (v : Value) (n : Nat) (xs : List Value) (hs : a.eval s = v)
    (hown : w.ownsRow base e size v n xs) (B : Nat) (A : Option Addr) (m c : Nat) (news : List Value) (hx : a.eval x = .slice A m c) (hl : news.length = m * size) (hr : Rds w B A news)
    (h1 : ∀ u ∈ news, u.oneCell' = true) (h63 : n + m ≤ maxLen) (hbytes : (n + m) * bytes ≤ 140737488355328) (hbase : base ≤ w.heap.size)
    (h : ∀ v' w', w'.ownsRow base e size v' (n + m) (xs ++ news) → w.grownBy w' v.ownBlock → (v'.ownBlock = v.ownBlock ∨ v'.ownBlock = some w.heap.size) → K (a.put o.dst v') w') :
    if Region.wanted o (yielded ops a.tmps) = true then Oper.wp P o a w K Q else E := by
  have hw : Region.wanted o (yielded ops a.tmps) = true := by simp [Region.wanted, hgd]
  rw [if_pos hw]
  exact wp_app s x t ho base T v n xs hs hown B A m c news hx hl hr h1 h63 hbytes hbase h

theorem Sl.Good.up {α : Type} {f : α → List Value} {ok : World → α → Prop} {w w' : World} {s : Sl α} (h : Sl.Good f ok w s) (hb : Below w.heap.size w w') (hok : ∀ a, ok w a → ok w' a) : Sl.Good f ok w' s :=
  ⟨h.len, h.cap, h.max, h.nil, (h.rds.below hb).more hb.size, fun a ha => hok a (h.all a ha)⟩
theorem Rds.take' {w : World} {B : Nat} {A : Option Addr} {α : Type} {f : α → List Value} {l : List α} (h : Rds w B A (l.flatMap f)) (k : Nat) : Rds w B A ((l.take k).flatMap f) := by
  rcases h with h | ⟨b, off, e, hb, hc⟩
  · refine .inl ?_
    rw [List.flatMap_eq_nil_iff] at *
    exact fun x hx => h x (List.mem_of_mem_take hx)
  · refine .inr ⟨b, off, e, hb, fun j u hu => hc j u ?_⟩
    have e : l.flatMap f = (l.take k).flatMap f ++ (l.drop k).flatMap f := by rw [← List.flatMap_append, List.take_append_drop]
    rw [e, List.getElem?_append_left (List.getElem?_eq_some_iff.1 hu).1]
    exact hu
/-- a slice cut at a length -/
def Sl.cut {α : Type} (m : Nat) (s : Sl α) : Sl α := ⟨s.A, min s.n m, s.c, s.l.take (min s.n m)⟩
theorem Sl.Good.cut {α : Type} {f : α → List Value} {ok : World → α → Prop} {w : World} {s : Sl α} (h : Sl.Good f ok w s) (m : Nat) : Sl.Good f ok w (s.cut m) := by
  have h1 := h.len
  have h2 := h.cap
  refine ⟨?_, ?_, h.max, h.nil, h.rds.take' _, fun a ha => h.all a (List.mem_of_mem_take ha)⟩
  · simp only [Sl.cut, List.length_take]; omega
  · simp only [Sl.cut]; omega

end Go.Proofs.Ytajkmlejklgbbaa
