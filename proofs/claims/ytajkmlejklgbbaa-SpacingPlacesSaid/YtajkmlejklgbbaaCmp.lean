/- cmp.Compare, cmp.Or and the comparison of two least distances. -/
import Derived.Test.YtajkmlejklgbbaaCol
import Derived.Deep.RegionHeld3
import Derived.Deep.RegionWith
namespace Go.Proofs.Ytajkmlejklgbbaa
open Go.RowKit

def cmpI (x y : Int) : Int := if x < y then -1 else if y < x then 1 else 0

set_option maxHeartbeats 400000 in
theorem Compare_any (x y : Int) (w : World) :
    Calls Try.prog 37 #[.int .i64 x, .int .i64 y] w fun e w' => e = .returned (.int .i64 (cmpI x y)) ∧ w = w' := by
  go_enter Try.func37, Try.ntmps37
  go_wp2
  all_goals (go_ret; exact ⟨ret_int (by unfold cmpI; repeat (split <;> try omega)), rfl⟩)

def or2 (x y : Int) : Int := if x = 0 then y else x

set_option maxHeartbeats 400000 in
theorem Or2_any (x y : Int) (b : Nat) (w : World) (h0 : w.cell? ⟨b, 0, none⟩ = some (.int .i64 x)) (h1 : w.cell? ⟨b, 1, none⟩ = some (.int .i64 y)) :
    Calls Try.prog 36 #[.slice (some ⟨b, 0, none⟩) 2 2] w fun e w' => e = .returned (.int .i64 (or2 x y)) ∧ w = w' := by
  go_enter Try.func36, Try.ntmps36
  go_wp2
  go_rounds 3
  · go_ret
    have hx : (x != 0) = true := by assumption
    exact ⟨ret_int (by rw [or2, if_neg (by simpa using hx)]), rfl⟩
  · go_ret
    have hx : (x != 0) = false := by assumption
    exact ⟨ret_int (by rw [or2, if_pos (by simpa using hx)]), rfl⟩
  · go_ret
    have hx : (x != 0) = false := by assumption
    have hy : (y != 0) = false := by assumption
    exact ⟨ret_int (by rw [or2, if_pos (by simpa using hx)]; exact (show y = 0 by simpa using hy).symm), rfl⟩

structure Lst where
  f : Int
  l : Int
  d : Int
def Lst.cells (c : Lst) : List Value := [.int .i64 c.f, .int .i64 c.l, .int .i64 c.d]
def lsts (l : List Lst) : List Value := l.flatMap Lst.cells
theorem lsts_length (l : List Lst) : (lsts l).length = l.length * 3 := flat_length _ 3 (fun _ => rfl) l
def cmpL (a b : Lst) : Int := or2 (cmpI a.l b.l) (cmpI b.f a.f)

set_option maxHeartbeats 400000 in
theorem cmpL_any (a b : Lst) (w : World) :
    Calls Try.prog 35 #[.agg #[.int .i64 a.f, .int .i64 a.l, .int .i64 a.d], .agg #[.int .i64 b.f, .int .i64 b.l, .int .i64 b.d]] w
      fun e w' => e = .returned (.int .i64 (cmpL a b)) ∧ Below w.heap.size w w' := by
  go_enter Try.func35, Try.ntmps35
  go_wp2
  go_region_held3 (fun w' => w'.cell? ⟨w.heap.size, 0, none⟩ = some (.int .i64 a.f) ∧ w'.cell? ⟨w.heap.size, 1, none⟩ = some (.int .i64 a.l) ∧
      w'.cell? ⟨w.heap.size + 1, 0, none⟩ = some (.int .i64 b.f) ∧ w'.cell? ⟨w.heap.size + 1, 1, none⟩ = some (.int .i64 b.l))
    (go_keep)
    (first | (go_at_call 37; refine (Compare_any _ _ _).mono ?_; rintro e w' ⟨rfl, rfl⟩) | (go_at_call 36; refine (Or2_any (cmpI a.l b.l) (cmpI b.f a.f) _ _ ?_ ?_).mono ?_; (simp [go_sem]); (simp [go_sem]); rintro e w' ⟨rfl, rfl⟩))
  go_wp2
  go_ret
  refine ⟨rfl, ?_⟩
  go_grown

end Go.Proofs.Ytajkmlejklgbbaa
