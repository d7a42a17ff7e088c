/- The walk of RationalField, put together. -/
import Derived.Test.YtfappkhohddcjaaDoorWFieldA
import Derived.Test.YtfappkhohddcjaaDoorWFieldB
import Derived.Test.YtfappkhohddcjaaDoorWFieldC
import Derived.Test.YtfappkhohddcjaaDoorWFieldD
namespace Go.Proofs.YtfappkhohddcjaaDoor
open Go.RowKit

set_option maxRecDepth 100000 in
theorem rationalField_walk (a0 b0 : Int) (_ : i64r a0) (_ : i64r b0) (a1 b1 : Int) (_ : i64r a1) (_ : i64r b1) (a2 b2 : Int) (_ : i64r a2) (_ : i64r b2) (w : World) (ht : Tab w) :
    Calls Tryd.prog 8 #[.agg #[.int .i64 a0, .int .i64 b0], .agg #[.int .i64 a1, .int .i64 b1], .agg #[.int .i64 a2, .int .i64 b2]] w fun e w' => e = .returned (.bool true) ∧ Below w.heap.size w w' := by
  by_cases hB : (addF (ofF (clN a1) (clD b1)) (ofF (clN a2) (clD b2))).e = 0
  · by_cases hA : (addF (ofF (clN a0) (clD b0)) (ofF (clN a1) (clD b1))).e = 0
    · by_cases hL : (addF (addF (ofF (clN a0) (clD b0)) (ofF (clN a1) (clD b1))) (ofF (clN a2) (clD b2))).e = 0
      · exact field_D a0 b0 a1 b1 a2 b2 hB hA hL w ht
      · exact field_C a0 b0 a1 b1 a2 b2 hB hA hL w ht
    · exact field_B a0 b0 a1 b1 a2 b2 hB hA w ht
  · exact field_A a0 b0 a1 b1 a2 b2 hB w ht

end Go.Proofs.YtfappkhohddcjaaDoor
