/- Columns, least distances and springs in memory. -/
import Derived.Test.YtajkmlejklgbbaaBase
namespace Go.Proofs.Ytajkmlejklgbbaa
open Go.RowKit

structure Col where
  l : Int
  r : Int
  t : Int
def Col.cells (c : Col) : List Value := [.int .i64 c.l, .int .i64 c.r, .int .i64 c.t]
def cols (l : List Col) : List Value := l.flatMap Col.cells
theorem cols_length (l : List Col) : (cols l).length = l.length * 3 := flat_length _ 3 (fun _ => rfl) l

theorem Rds.col {w : World} {B : Nat} {A : Option Addr} {l : List Col} (h : Rds w B A (cols l)) {k : Nat} {c : Col} (hk : l[k]? = some c) :
    ∃ b off, A = some ⟨b, off, none⟩ ∧ b < B ∧ w.cell? ⟨b, off + k * 3, none⟩ = some (.int .i64 c.l) ∧
      w.cell? ⟨b, off + k * 3 + 1, none⟩ = some (.int .i64 c.r) ∧ w.cell? ⟨b, off + k * 3 + 2, none⟩ = some (.int .i64 c.t) := by
  obtain ⟨hlt, -⟩ := List.getElem?_eq_some_iff.1 hk
  obtain ⟨b, off, e, hb, hc⟩ := h.get (k := k * 3) (by rw [cols_length]; omega)
  have g := fun j hj => flat_get Col.cells 3 (fun _ => rfl) l k j c hk hj
  refine ⟨b, off, e, hb, hc _ _ (g 0 (by omega)), ?_, ?_⟩
  · have := hc _ _ (g 1 (by omega)); rw [Nat.add_assoc]; exact this
  · have := hc _ _ (g 2 (by omega)); rw [Nat.add_assoc]; exact this

def Col.ok (c : Col) : Prop := 0 ≤ c.l ∧ c.l ≤ 65536 ∧ 0 ≤ c.r ∧ c.r ≤ 65536 ∧ 0 ≤ c.t ∧ c.t ≤ 15482880
instance (c : Col) : Decidable c.ok := by unfold Col.ok; exact inferInstance
def colErr (l : List Col) : Int := if l.length > 4096 then 9 else if ∀ c ∈ l, c.ok then 0 else 2

end Go.Proofs.Ytajkmlejklgbbaa
