/- The law SpacingSprings over the opened arguments. -/
import Derived.Test.YtajkmlejklgbbaaSprLaw
import Derived.Test.YtajkmlejklgbbaaDec
namespace Go.Proofs.Ytajkmlejklgbbaa
open Go.RowKit

theorem spacingSprings_walk {w : World} (a : Sl Col) (ha : Sl.Good Col.cells Col.wf w a) (s : Int) (_ : (Lit.int .i64 s).wf = true) (b : Sl Lst) (hb : Sl.Good Lst.cells Lst.wf w b) :
    Calls Try.prog 4 #[.slice a.A a.n a.c, .int .i64 s, .slice b.A b.n b.c] w fun e w' => e = .returned (.bool true) ∧ Below w.heap.size w w' :=
  springs_law a.A b.A a.n a.c b.n b.c a.l s b.l w ha.len ha.cap (len63 ha.max) ha.rds hb.len hb.cap (len63 hb.max) hb.rds

end Go.Proofs.Ytajkmlejklgbbaa
