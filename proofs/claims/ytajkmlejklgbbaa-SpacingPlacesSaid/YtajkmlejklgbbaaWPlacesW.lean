/- SpacingPlaces' walk over opened arguments. -/
import Derived.Test.YtajkmlejklgbbaaWPlaces
namespace Go.Proofs.Ytajkmlejklgbbaa
open Go.RowKit

theorem spacingPlaces_walk {w : World} (a : Sl Col) (ha : Sl.Good Col.cells Col.wf w a) (s : Sl Lst) (hs : Sl.Good Lst.cells Lst.wf w s) (x : Int) (_ : (Lit.int .i64 x).wf = true) :
    Calls Try.prog 12 #[.slice a.A a.n a.c, .slice s.A s.n s.c, .int .i64 x] w fun e w' => e = .returned (.bool true) ∧ Below w.heap.size w w' :=
  places_law a.A s.A a.n a.c s.n s.c a.l s.l x w ha.len ha.cap ha.rds hs.len hs.cap hs.rds

end Go.Proofs.Ytajkmlejklgbbaa
