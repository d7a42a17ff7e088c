/- SpacingExtents' walk over opened arguments. -/
import Derived.Test.YtajkmlejklgbbaaWExt
namespace Go.Proofs.Ytajkmlejklgbbaa
open Go.RowKit

theorem spacingExtents_walk {w : World} (a : Sl Int) (ha : Sl.Good (fun x : Int => [Value.int .i64 x]) (fun _ x => in64 x) w a) (s : Sl Mk) (hs : Sl.Good Mk.cells Mk.wf w s) :
    Calls Try.prog 9 #[.slice a.A a.n a.c, .slice s.A s.n s.c] w fun e w' => e = .returned (.bool true) ∧ Below w.heap.size w w' :=
  extents_law a.A s.A a.n a.c s.n s.c a.l s.l w ha.len ha.cap ha.rds hs.len hs.cap hs.rds hs.all

end Go.Proofs.Ytajkmlejklgbbaa
