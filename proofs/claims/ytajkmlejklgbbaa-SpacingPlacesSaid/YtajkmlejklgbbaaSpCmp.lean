/- cmp.Compare at integers (the springs' seat bears no others of the spacing's). -/
import Derived.Test.YtajkmlejklgbbaaBase
namespace Go.Proofs.Ytajkmlejklgbbaa
open Go.RowKit

def cmpS (x y : Int) : Int := if x < y then -1 else if y < x then 1 else 0

set_option maxHeartbeats 400000 in
theorem CompareS_any (x y : Int) (w : World) :
    Calls Try.prog 37 #[.int .i64 x, .int .i64 y] w fun e w' => e = .returned (.int .i64 (cmpS x y)) ∧ w = w' := by
  go_enter Try.func37, Try.ntmps37
  go_wp2
  all_goals (go_ret; exact ⟨ret_int (by unfold cmpS; repeat (split <;> try omega)), rfl⟩)

end Go.Proofs.Ytajkmlejklgbbaa
