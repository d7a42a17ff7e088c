/-
  NARROWER THAN 'FOR EVERY INPUT', by the rows' own cells (each row's printed sentence says how): RationalRounds: laid · RationalBest: laid · RationalTexts: laid · RationalParses: laid · RationalOf: laid · RationalField: laid · RationalArithmetic: laid · RationalZero: laid · RationalOrders: laid · RationalSums: laid · RationalBack: laid.
  DERIVED. THE GIVEN ROWS OF THIS SEAT. 11 by the template 'for every input the law returns true; each argument reads behind the call as it read before'; 0 by the template 'total and deterministic' (their statements: YtfappkhohddcjaaDoorTotals.lean).
  GIVEN WITH THE SEED: the statements are not yours to turn. If you find one false, say at which input.
  Laid BY PROGRAM, IN A SANDBOX (cutbox-rows.mjs): the forced cells as the released guide's own fill.sh prints them over the translation 611a01e844594f36… (all of the seat's roots in one cut). By AI agents, Wed Nov 11 2026. No macro, syntax, notation, axiom, sorry.
-/
import Derived.Test.YtfappkhohddcjaaDoorChecked
import GoSem.Claim
import GoSem.ClaimJoined
import GoSem.ClaimMapViews
import Derived.JoinedTies
import Derived.KernelRfl
namespace Go.Proofs.YtfappkhohddcjaaDoor
/- THE CELL 'sum', in the pinned program and in every row, IS THE sha256 OF THE DUMP (.gsa) THAT YtfappkhohddcjaaDoorProg.lean LOADS. Nothing in Lean hashes anything: it is a label: what it is worth is what the hold of that sum in a sandbox is worth. -/
noncomputable def Tryd.pinned : Pinned := { name := "ytfappkhohddcjaadoor", sum := "611a01e844594f3697f6bb29197cab33fbc88ffa0a8f372456301a4ca4b42a32", checked := Tryd.checked }
namespace Rows
def none {H : Type} : Left H := { results := [], args := [] }

/- WHAT THE LISTED PACKAGE-LEVEL VARIABLES READ AS WHEN THE CALL BEGINS. Each datum BY PROGRAM (the guide's laid-datum.mjs) off the statement by which the dump's own 'gosem.cut.vars' lays the variable. In a bare row this is a premise. The card (YtfappkhohddcjaaDoorCards.lean) ties it to the program's text. -/
def laid_math_bits_deBruijn32tab {H : Type} : DataW H := .agg [.lit (.int .u8 0), .lit (.int .u8 1), .lit (.int .u8 28), .lit (.int .u8 2), .lit (.int .u8 29), .lit (.int .u8 14), .lit (.int .u8 24), .lit (.int .u8 3), .lit (.int .u8 30), .lit (.int .u8 22), .lit (.int .u8 20), .lit (.int .u8 15), .lit (.int .u8 25), .lit (.int .u8 17), .lit (.int .u8 4), .lit (.int .u8 8), .lit (.int .u8 31), .lit (.int .u8 27), .lit (.int .u8 13), .lit (.int .u8 23), .lit (.int .u8 21), .lit (.int .u8 19), .lit (.int .u8 16), .lit (.int .u8 7), .lit (.int .u8 26), .lit (.int .u8 12), .lit (.int .u8 18), .lit (.int .u8 6), .lit (.int .u8 11), .lit (.int .u8 5), .lit (.int .u8 10), .lit (.int .u8 9)]
def laid_math_bits_deBruijn64tab {H : Type} : DataW H := .agg [.lit (.int .u8 0), .lit (.int .u8 1), .lit (.int .u8 56), .lit (.int .u8 2), .lit (.int .u8 57), .lit (.int .u8 49), .lit (.int .u8 28), .lit (.int .u8 3), .lit (.int .u8 61), .lit (.int .u8 58), .lit (.int .u8 42), .lit (.int .u8 50), .lit (.int .u8 38), .lit (.int .u8 29), .lit (.int .u8 17), .lit (.int .u8 4), .lit (.int .u8 62), .lit (.int .u8 47), .lit (.int .u8 59), .lit (.int .u8 36), .lit (.int .u8 45), .lit (.int .u8 43), .lit (.int .u8 51), .lit (.int .u8 22), .lit (.int .u8 53), .lit (.int .u8 39), .lit (.int .u8 33), .lit (.int .u8 30), .lit (.int .u8 24), .lit (.int .u8 18), .lit (.int .u8 12), .lit (.int .u8 5), .lit (.int .u8 63), .lit (.int .u8 55), .lit (.int .u8 48), .lit (.int .u8 27), .lit (.int .u8 60), .lit (.int .u8 41), .lit (.int .u8 37), .lit (.int .u8 16), .lit (.int .u8 46), .lit (.int .u8 35), .lit (.int .u8 44), .lit (.int .u8 21), .lit (.int .u8 52), .lit (.int .u8 32), .lit (.int .u8 23), .lit (.int .u8 11), .lit (.int .u8 54), .lit (.int .u8 26), .lit (.int .u8 40), .lit (.int .u8 15), .lit (.int .u8 34), .lit (.int .u8 20), .lit (.int .u8 31), .lit (.int .u8 10), .lit (.int .u8 25), .lit (.int .u8 14), .lit (.int .u8 19), .lit (.int .u8 9), .lit (.int .u8 13), .lit (.int .u8 8), .lit (.int .u8 7), .lit (.int .u8 6)]
def laid_internal_strconv_uint64pow10 {H : Type} : DataW H := .agg [.lit (.int .u64 1), .lit (.int .u64 10), .lit (.int .u64 100), .lit (.int .u64 1000), .lit (.int .u64 10000), .lit (.int .u64 100000), .lit (.int .u64 1000000), .lit (.int .u64 10000000), .lit (.int .u64 100000000), .lit (.int .u64 1000000000), .lit (.int .u64 10000000000), .lit (.int .u64 100000000000), .lit (.int .u64 1000000000000), .lit (.int .u64 10000000000000), .lit (.int .u64 100000000000000), .lit (.int .u64 1000000000000000), .lit (.int .u64 10000000000000000), .lit (.int .u64 100000000000000000), .lit (.int .u64 1000000000000000000), .lit (.int .u64 10000000000000000000)]

/-- 'hemiolalaw01.RationalRounds': WHATEVER THE INPUT: true; the input reads as it did. -/
def rationalRoundsSpec : ChangeSpec := { name := "rationalRounds", fn := fun _ => fun
  | [d] => { results := [.lit (.bool true)], args := [d] }
  | _ => none }
def rationalRoundsRow : OpenClaim := { program := "ytfappkhohddcjaadoor", sum := "611a01e844594f3697f6bb29197cab33fbc88ffa0a8f372456301a4ca4b42a32", func := "hemiola/hemiolalaw01.RationalRounds", spec := "rationalRounds", named := ["internal/strconv.uint64pow10", "math/bits.deBruijn32tab", "math/bits.deBruijn64tab"], apart := false, laid := [("math/bits.deBruijn32tab", laid_math_bits_deBruijn32tab), ("math/bits.deBruijn64tab", laid_math_bits_deBruijn64tab), ("internal/strconv.uint64pow10", laid_internal_strconv_uint64pow10)] }
def RationalRoundsSaid : Prop := rationalRoundsRow.holds Tryd.pinned (OpenSpec.ofChange rationalRoundsSpec)

/-- ITS FALSE NEIGHBOUR: 'it returns false'. Refute it at one input. -/
def rationalRoundsWrong : ChangeSpec := { name := "rationalRounds", fn := fun _ => fun
  | [d] => { results := [.lit (.bool false)], args := [d] }
  | _ => none }
def RationalRoundsWrongFalsely : Prop := rationalRoundsRow.holds Tryd.pinned (OpenSpec.ofChange rationalRoundsWrong)

/-- 'hemiolalaw01.RationalBest': WHATEVER THE INPUT: true; the input reads as it did. -/
def rationalBestSpec : ChangeSpec := { name := "rationalBest", fn := fun _ => fun
  | [d1, d2] => { results := [.lit (.bool true)], args := [d1, d2] }
  | _ => none }
def rationalBestRow : OpenClaim := { program := "ytfappkhohddcjaadoor", sum := "611a01e844594f3697f6bb29197cab33fbc88ffa0a8f372456301a4ca4b42a32", func := "hemiola/hemiolalaw01.RationalBest", spec := "rationalBest", named := ["internal/strconv.uint64pow10", "math/bits.deBruijn32tab", "math/bits.deBruijn64tab"], apart := false, laid := [("math/bits.deBruijn32tab", laid_math_bits_deBruijn32tab), ("math/bits.deBruijn64tab", laid_math_bits_deBruijn64tab), ("internal/strconv.uint64pow10", laid_internal_strconv_uint64pow10)] }
def RationalBestSaid : Prop := rationalBestRow.holds Tryd.pinned (OpenSpec.ofChange rationalBestSpec)

/-- ITS FALSE NEIGHBOUR: 'it returns false'. Refute it at one input. -/
def rationalBestWrong : ChangeSpec := { name := "rationalBest", fn := fun _ => fun
  | [d1, d2] => { results := [.lit (.bool false)], args := [d1, d2] }
  | _ => none }
def RationalBestWrongFalsely : Prop := rationalBestRow.holds Tryd.pinned (OpenSpec.ofChange rationalBestWrong)

/-- 'hemiolalaw01.RationalTexts': WHATEVER THE INPUT: true; the input reads as it did. -/
def rationalTextsSpec : ChangeSpec := { name := "rationalTexts", fn := fun _ => fun
  | [d] => { results := [.lit (.bool true)], args := [d] }
  | _ => none }
def rationalTextsRow : OpenClaim := { program := "ytfappkhohddcjaadoor", sum := "611a01e844594f3697f6bb29197cab33fbc88ffa0a8f372456301a4ca4b42a32", func := "hemiola/hemiolalaw01.RationalTexts", spec := "rationalTexts", recurses := true, named := ["internal/strconv.uint64pow10", "math/bits.deBruijn32tab", "math/bits.deBruijn64tab"], apart := false, laid := [("math/bits.deBruijn32tab", laid_math_bits_deBruijn32tab), ("math/bits.deBruijn64tab", laid_math_bits_deBruijn64tab), ("internal/strconv.uint64pow10", laid_internal_strconv_uint64pow10)] }
def RationalTextsSaid : Prop := rationalTextsRow.holds Tryd.pinned (OpenSpec.ofChange rationalTextsSpec)

/-- ITS FALSE NEIGHBOUR: 'it returns false'. Refute it at one input. -/
def rationalTextsWrong : ChangeSpec := { name := "rationalTexts", fn := fun _ => fun
  | [d] => { results := [.lit (.bool false)], args := [d] }
  | _ => none }
def RationalTextsWrongFalsely : Prop := rationalTextsRow.holds Tryd.pinned (OpenSpec.ofChange rationalTextsWrong)

/-- 'hemiolalaw01.RationalParses': WHATEVER THE INPUT: true; the input reads as it did. -/
def rationalParsesSpec : ChangeSpec := { name := "rationalParses", fn := fun _ => fun
  | [d] => { results := [.lit (.bool true)], args := [d] }
  | _ => none }
def rationalParsesRow : OpenClaim := { program := "ytfappkhohddcjaadoor", sum := "611a01e844594f3697f6bb29197cab33fbc88ffa0a8f372456301a4ca4b42a32", func := "hemiola/hemiolalaw01.RationalParses", spec := "rationalParses", recurses := true, named := ["internal/strconv.uint64pow10", "math/bits.deBruijn32tab", "math/bits.deBruijn64tab"], apart := false, laid := [("math/bits.deBruijn32tab", laid_math_bits_deBruijn32tab), ("math/bits.deBruijn64tab", laid_math_bits_deBruijn64tab), ("internal/strconv.uint64pow10", laid_internal_strconv_uint64pow10)] }
def RationalParsesSaid : Prop := rationalParsesRow.holds Tryd.pinned (OpenSpec.ofChange rationalParsesSpec)

/-- ITS FALSE NEIGHBOUR: 'it returns false'. Refute it at one input. -/
def rationalParsesWrong : ChangeSpec := { name := "rationalParses", fn := fun _ => fun
  | [d] => { results := [.lit (.bool false)], args := [d] }
  | _ => none }
def RationalParsesWrongFalsely : Prop := rationalParsesRow.holds Tryd.pinned (OpenSpec.ofChange rationalParsesWrong)

/-- 'hemiolalaw01.RationalOf': WHATEVER THE INPUT: true; the input reads as it did. -/
def rationalOfSpec : ChangeSpec := { name := "rationalOf", fn := fun _ => fun
  | [d1, d2] => { results := [.lit (.bool true)], args := [d1, d2] }
  | _ => none }
def rationalOfRow : OpenClaim := { program := "ytfappkhohddcjaadoor", sum := "611a01e844594f3697f6bb29197cab33fbc88ffa0a8f372456301a4ca4b42a32", func := "hemiola/hemiolalaw01.RationalOf", spec := "rationalOf", named := ["internal/strconv.uint64pow10", "math/bits.deBruijn32tab", "math/bits.deBruijn64tab"], apart := false, laid := [("math/bits.deBruijn32tab", laid_math_bits_deBruijn32tab), ("math/bits.deBruijn64tab", laid_math_bits_deBruijn64tab), ("internal/strconv.uint64pow10", laid_internal_strconv_uint64pow10)] }
def RationalOfSaid : Prop := rationalOfRow.holds Tryd.pinned (OpenSpec.ofChange rationalOfSpec)

/-- ITS FALSE NEIGHBOUR: 'it returns false'. Refute it at one input. -/
def rationalOfWrong : ChangeSpec := { name := "rationalOf", fn := fun _ => fun
  | [d1, d2] => { results := [.lit (.bool false)], args := [d1, d2] }
  | _ => none }
def RationalOfWrongFalsely : Prop := rationalOfRow.holds Tryd.pinned (OpenSpec.ofChange rationalOfWrong)

/-- 'hemiolalaw01.RationalField': WHATEVER THE INPUT: true; the input reads as it did. -/
def rationalFieldSpec : ChangeSpec := { name := "rationalField", fn := fun _ => fun
  | [d1, d2, d3] => { results := [.lit (.bool true)], args := [d1, d2, d3] }
  | _ => none }
def rationalFieldRow : OpenClaim := { program := "ytfappkhohddcjaadoor", sum := "611a01e844594f3697f6bb29197cab33fbc88ffa0a8f372456301a4ca4b42a32", func := "hemiola/hemiolalaw01.RationalField", spec := "rationalField", named := ["internal/strconv.uint64pow10", "math/bits.deBruijn32tab", "math/bits.deBruijn64tab"], apart := false, laid := [("math/bits.deBruijn32tab", laid_math_bits_deBruijn32tab), ("math/bits.deBruijn64tab", laid_math_bits_deBruijn64tab), ("internal/strconv.uint64pow10", laid_internal_strconv_uint64pow10)] }
def RationalFieldSaid : Prop := rationalFieldRow.holds Tryd.pinned (OpenSpec.ofChange rationalFieldSpec)

/-- ITS FALSE NEIGHBOUR: 'it returns false'. Refute it at one input. -/
def rationalFieldWrong : ChangeSpec := { name := "rationalField", fn := fun _ => fun
  | [d1, d2, d3] => { results := [.lit (.bool false)], args := [d1, d2, d3] }
  | _ => none }
def RationalFieldWrongFalsely : Prop := rationalFieldRow.holds Tryd.pinned (OpenSpec.ofChange rationalFieldWrong)

/-- 'hemiolalaw01.RationalArithmetic': WHATEVER THE INPUT: true; the input reads as it did. -/
def rationalArithmeticSpec : ChangeSpec := { name := "rationalArithmetic", fn := fun _ => fun
  | [d1, d2] => { results := [.lit (.bool true)], args := [d1, d2] }
  | _ => none }
def rationalArithmeticRow : OpenClaim := { program := "ytfappkhohddcjaadoor", sum := "611a01e844594f3697f6bb29197cab33fbc88ffa0a8f372456301a4ca4b42a32", func := "hemiola/hemiolalaw01.RationalArithmetic", spec := "rationalArithmetic", named := ["internal/strconv.uint64pow10", "math/bits.deBruijn32tab", "math/bits.deBruijn64tab"], apart := false, laid := [("math/bits.deBruijn32tab", laid_math_bits_deBruijn32tab), ("math/bits.deBruijn64tab", laid_math_bits_deBruijn64tab), ("internal/strconv.uint64pow10", laid_internal_strconv_uint64pow10)] }
def RationalArithmeticSaid : Prop := rationalArithmeticRow.holds Tryd.pinned (OpenSpec.ofChange rationalArithmeticSpec)

/-- ITS FALSE NEIGHBOUR: 'it returns false'. Refute it at one input. -/
def rationalArithmeticWrong : ChangeSpec := { name := "rationalArithmetic", fn := fun _ => fun
  | [d1, d2] => { results := [.lit (.bool false)], args := [d1, d2] }
  | _ => none }
def RationalArithmeticWrongFalsely : Prop := rationalArithmeticRow.holds Tryd.pinned (OpenSpec.ofChange rationalArithmeticWrong)

/-- 'hemiolalaw01.RationalZero': WHATEVER THE INPUT: true; the input reads as it did. -/
def rationalZeroSpec : ChangeSpec := { name := "rationalZero", fn := fun _ => fun
  | [d] => { results := [.lit (.bool true)], args := [d] }
  | _ => none }
def rationalZeroRow : OpenClaim := { program := "ytfappkhohddcjaadoor", sum := "611a01e844594f3697f6bb29197cab33fbc88ffa0a8f372456301a4ca4b42a32", func := "hemiola/hemiolalaw01.RationalZero", spec := "rationalZero", named := ["internal/strconv.uint64pow10", "math/bits.deBruijn32tab", "math/bits.deBruijn64tab"], apart := false, laid := [("math/bits.deBruijn32tab", laid_math_bits_deBruijn32tab), ("math/bits.deBruijn64tab", laid_math_bits_deBruijn64tab), ("internal/strconv.uint64pow10", laid_internal_strconv_uint64pow10)] }
def RationalZeroSaid : Prop := rationalZeroRow.holds Tryd.pinned (OpenSpec.ofChange rationalZeroSpec)

/-- ITS FALSE NEIGHBOUR: 'it returns false'. Refute it at one input. -/
def rationalZeroWrong : ChangeSpec := { name := "rationalZero", fn := fun _ => fun
  | [d] => { results := [.lit (.bool false)], args := [d] }
  | _ => none }
def RationalZeroWrongFalsely : Prop := rationalZeroRow.holds Tryd.pinned (OpenSpec.ofChange rationalZeroWrong)

/-- 'hemiolalaw01.RationalOrders': WHATEVER THE INPUT: true; the input reads as it did. -/
def rationalOrdersSpec : ChangeSpec := { name := "rationalOrders", fn := fun _ => fun
  | [d1, d2, d3] => { results := [.lit (.bool true)], args := [d1, d2, d3] }
  | _ => none }
def rationalOrdersRow : OpenClaim := { program := "ytfappkhohddcjaadoor", sum := "611a01e844594f3697f6bb29197cab33fbc88ffa0a8f372456301a4ca4b42a32", func := "hemiola/hemiolalaw01.RationalOrders", spec := "rationalOrders", named := ["internal/strconv.uint64pow10", "math/bits.deBruijn32tab", "math/bits.deBruijn64tab"], apart := false, laid := [("math/bits.deBruijn32tab", laid_math_bits_deBruijn32tab), ("math/bits.deBruijn64tab", laid_math_bits_deBruijn64tab), ("internal/strconv.uint64pow10", laid_internal_strconv_uint64pow10)] }
def RationalOrdersSaid : Prop := rationalOrdersRow.holds Tryd.pinned (OpenSpec.ofChange rationalOrdersSpec)

/-- ITS FALSE NEIGHBOUR: 'it returns false'. Refute it at one input. -/
def rationalOrdersWrong : ChangeSpec := { name := "rationalOrders", fn := fun _ => fun
  | [d1, d2, d3] => { results := [.lit (.bool false)], args := [d1, d2, d3] }
  | _ => none }
def RationalOrdersWrongFalsely : Prop := rationalOrdersRow.holds Tryd.pinned (OpenSpec.ofChange rationalOrdersWrong)

/-- 'hemiolalaw01.RationalSums': WHATEVER THE INPUT: true; the input reads as it did. -/
def rationalSumsSpec : ChangeSpec := { name := "rationalSums", fn := fun _ => fun
  | [d] => { results := [.lit (.bool true)], args := [d] }
  | _ => none }
def rationalSumsRow : OpenClaim := { program := "ytfappkhohddcjaadoor", sum := "611a01e844594f3697f6bb29197cab33fbc88ffa0a8f372456301a4ca4b42a32", func := "hemiola/hemiolalaw01.RationalSums", spec := "rationalSums", named := ["internal/strconv.uint64pow10", "math/bits.deBruijn32tab", "math/bits.deBruijn64tab"], apart := false, laid := [("math/bits.deBruijn32tab", laid_math_bits_deBruijn32tab), ("math/bits.deBruijn64tab", laid_math_bits_deBruijn64tab), ("internal/strconv.uint64pow10", laid_internal_strconv_uint64pow10)] }
def RationalSumsSaid : Prop := rationalSumsRow.holds Tryd.pinned (OpenSpec.ofChange rationalSumsSpec)

/-- ITS FALSE NEIGHBOUR: 'it returns false'. Refute it at one input. -/
def rationalSumsWrong : ChangeSpec := { name := "rationalSums", fn := fun _ => fun
  | [d] => { results := [.lit (.bool false)], args := [d] }
  | _ => none }
def RationalSumsWrongFalsely : Prop := rationalSumsRow.holds Tryd.pinned (OpenSpec.ofChange rationalSumsWrong)

/-- 'hemiolalaw01.RationalBack': WHATEVER THE INPUT: true; the input reads as it did. -/
def rationalBackSpec : ChangeSpec := { name := "rationalBack", fn := fun _ => fun
  | [d1, d2] => { results := [.lit (.bool true)], args := [d1, d2] }
  | _ => none }
def rationalBackRow : OpenClaim := { program := "ytfappkhohddcjaadoor", sum := "611a01e844594f3697f6bb29197cab33fbc88ffa0a8f372456301a4ca4b42a32", func := "hemiola/hemiolalaw01.RationalBack", spec := "rationalBack", named := ["internal/strconv.uint64pow10", "math/bits.deBruijn32tab", "math/bits.deBruijn64tab"], apart := false, laid := [("math/bits.deBruijn32tab", laid_math_bits_deBruijn32tab), ("math/bits.deBruijn64tab", laid_math_bits_deBruijn64tab), ("internal/strconv.uint64pow10", laid_internal_strconv_uint64pow10)] }
def RationalBackSaid : Prop := rationalBackRow.holds Tryd.pinned (OpenSpec.ofChange rationalBackSpec)

/-- ITS FALSE NEIGHBOUR: 'it returns false'. Refute it at one input. -/
def rationalBackWrong : ChangeSpec := { name := "rationalBack", fn := fun _ => fun
  | [d1, d2] => { results := [.lit (.bool false)], args := [d1, d2] }
  | _ => none }
def RationalBackWrongFalsely : Prop := rationalBackRow.holds Tryd.pinned (OpenSpec.ofChange rationalBackWrong)

/- THE SECOND FORM. 'bulk': how many values and letters a reading holds, each counted each time it is reached (what is shared counts as often as it is met; a slice's spare places count too). A statement '..UptoSaid' is the law's where the arguments, and the package variables that the reading takes, are together of bulk at most 1048576: NARROWER than '..Said'. Prove '..Said' where nothing that the law and all that it calls make is longer than what came in: it says more and counts as full. Else prove '..UptoSaid'. A law counts once. -/
mutual
def uptoBulk {H : Type} : DataW H → Nat
  | .lit (.string bytes) => bytes.length + 1
  | .lit _ => 1
  | .nil => 1
  | .ptr d => uptoBulk d + 1
  | .slice elems spare => uptoBulkAll elems + uptoBulkAll spare + 1
  | .agg parts => uptoBulkAll parts + 1
  | .iface _ d => uptoBulk d + 1
  | .map entries => uptoBulkEntries entries + 1
  | .held _ => 1
def uptoBulkAll {H : Type} : List (DataW H) → Nat
  | [] => 0
  | d :: r => uptoBulk d + uptoBulkAll r
def uptoBulkEntries {H : Type} : List (Lit × DataW H) → Nat
  | [] => 0
  | x :: r => uptoBulkEntry x + uptoBulkEntries r
def uptoBulkEntry {H : Type} : Lit × DataW H → Nat
  | (.string bytes, d) => bytes.length + uptoBulk d + 1
  | (_, d) => uptoBulk d + 1
 end
def uptoSmall : (H : Type) → List (DataW H) → Bool := fun _ ds => decide (uptoBulkAll ds ≤ 1048576)
def OpenSpec.upto (s : _root_.Go.ChangeSpec) : _root_.Go.OpenSpec := { _root_.Go.OpenSpec.ofChange s with cond := some uptoSmall }

/-- 'hemiolalaw01.RationalRounds', WHERE WHAT IT READS IS OF BULK AT MOST 1048576: true; the input reads as it did. -/
def rationalRoundsUptoRow : OpenClaim := { program := "ytfappkhohddcjaadoor", sum := "611a01e844594f3697f6bb29197cab33fbc88ffa0a8f372456301a4ca4b42a32", func := "hemiola/hemiolalaw01.RationalRounds", spec := "rationalRounds", named := ["internal/strconv.uint64pow10", "math/bits.deBruijn32tab", "math/bits.deBruijn64tab"], apart := false, laid := [("math/bits.deBruijn32tab", laid_math_bits_deBruijn32tab), ("math/bits.deBruijn64tab", laid_math_bits_deBruijn64tab), ("internal/strconv.uint64pow10", laid_internal_strconv_uint64pow10)], narrowed := true }
def RationalRoundsUptoSaid : Prop := rationalRoundsUptoRow.holds Tryd.pinned (OpenSpec.upto rationalRoundsSpec)

/-- 'hemiolalaw01.RationalBest', WHERE WHAT IT READS IS OF BULK AT MOST 1048576: true; the input reads as it did. -/
def rationalBestUptoRow : OpenClaim := { program := "ytfappkhohddcjaadoor", sum := "611a01e844594f3697f6bb29197cab33fbc88ffa0a8f372456301a4ca4b42a32", func := "hemiola/hemiolalaw01.RationalBest", spec := "rationalBest", named := ["internal/strconv.uint64pow10", "math/bits.deBruijn32tab", "math/bits.deBruijn64tab"], apart := false, laid := [("math/bits.deBruijn32tab", laid_math_bits_deBruijn32tab), ("math/bits.deBruijn64tab", laid_math_bits_deBruijn64tab), ("internal/strconv.uint64pow10", laid_internal_strconv_uint64pow10)], narrowed := true }
def RationalBestUptoSaid : Prop := rationalBestUptoRow.holds Tryd.pinned (OpenSpec.upto rationalBestSpec)

/-- 'hemiolalaw01.RationalTexts', WHERE WHAT IT READS IS OF BULK AT MOST 1048576: true; the input reads as it did. -/
def rationalTextsUptoRow : OpenClaim := { program := "ytfappkhohddcjaadoor", sum := "611a01e844594f3697f6bb29197cab33fbc88ffa0a8f372456301a4ca4b42a32", func := "hemiola/hemiolalaw01.RationalTexts", spec := "rationalTexts", recurses := true, named := ["internal/strconv.uint64pow10", "math/bits.deBruijn32tab", "math/bits.deBruijn64tab"], apart := false, laid := [("math/bits.deBruijn32tab", laid_math_bits_deBruijn32tab), ("math/bits.deBruijn64tab", laid_math_bits_deBruijn64tab), ("internal/strconv.uint64pow10", laid_internal_strconv_uint64pow10)], narrowed := true }
def RationalTextsUptoSaid : Prop := rationalTextsUptoRow.holds Tryd.pinned (OpenSpec.upto rationalTextsSpec)

/-- 'hemiolalaw01.RationalParses', WHERE WHAT IT READS IS OF BULK AT MOST 1048576: true; the input reads as it did. -/
def rationalParsesUptoRow : OpenClaim := { program := "ytfappkhohddcjaadoor", sum := "611a01e844594f3697f6bb29197cab33fbc88ffa0a8f372456301a4ca4b42a32", func := "hemiola/hemiolalaw01.RationalParses", spec := "rationalParses", recurses := true, named := ["internal/strconv.uint64pow10", "math/bits.deBruijn32tab", "math/bits.deBruijn64tab"], apart := false, laid := [("math/bits.deBruijn32tab", laid_math_bits_deBruijn32tab), ("math/bits.deBruijn64tab", laid_math_bits_deBruijn64tab), ("internal/strconv.uint64pow10", laid_internal_strconv_uint64pow10)], narrowed := true }
def RationalParsesUptoSaid : Prop := rationalParsesUptoRow.holds Tryd.pinned (OpenSpec.upto rationalParsesSpec)

/-- 'hemiolalaw01.RationalOf', WHERE WHAT IT READS IS OF BULK AT MOST 1048576: true; the input reads as it did. -/
def rationalOfUptoRow : OpenClaim := { program := "ytfappkhohddcjaadoor", sum := "611a01e844594f3697f6bb29197cab33fbc88ffa0a8f372456301a4ca4b42a32", func := "hemiola/hemiolalaw01.RationalOf", spec := "rationalOf", named := ["internal/strconv.uint64pow10", "math/bits.deBruijn32tab", "math/bits.deBruijn64tab"], apart := false, laid := [("math/bits.deBruijn32tab", laid_math_bits_deBruijn32tab), ("math/bits.deBruijn64tab", laid_math_bits_deBruijn64tab), ("internal/strconv.uint64pow10", laid_internal_strconv_uint64pow10)], narrowed := true }
def RationalOfUptoSaid : Prop := rationalOfUptoRow.holds Tryd.pinned (OpenSpec.upto rationalOfSpec)

/-- 'hemiolalaw01.RationalField', WHERE WHAT IT READS IS OF BULK AT MOST 1048576: true; the input reads as it did. -/
def rationalFieldUptoRow : OpenClaim := { program := "ytfappkhohddcjaadoor", sum := "611a01e844594f3697f6bb29197cab33fbc88ffa0a8f372456301a4ca4b42a32", func := "hemiola/hemiolalaw01.RationalField", spec := "rationalField", named := ["internal/strconv.uint64pow10", "math/bits.deBruijn32tab", "math/bits.deBruijn64tab"], apart := false, laid := [("math/bits.deBruijn32tab", laid_math_bits_deBruijn32tab), ("math/bits.deBruijn64tab", laid_math_bits_deBruijn64tab), ("internal/strconv.uint64pow10", laid_internal_strconv_uint64pow10)], narrowed := true }
def RationalFieldUptoSaid : Prop := rationalFieldUptoRow.holds Tryd.pinned (OpenSpec.upto rationalFieldSpec)

/-- 'hemiolalaw01.RationalArithmetic', WHERE WHAT IT READS IS OF BULK AT MOST 1048576: true; the input reads as it did. -/
def rationalArithmeticUptoRow : OpenClaim := { program := "ytfappkhohddcjaadoor", sum := "611a01e844594f3697f6bb29197cab33fbc88ffa0a8f372456301a4ca4b42a32", func := "hemiola/hemiolalaw01.RationalArithmetic", spec := "rationalArithmetic", named := ["internal/strconv.uint64pow10", "math/bits.deBruijn32tab", "math/bits.deBruijn64tab"], apart := false, laid := [("math/bits.deBruijn32tab", laid_math_bits_deBruijn32tab), ("math/bits.deBruijn64tab", laid_math_bits_deBruijn64tab), ("internal/strconv.uint64pow10", laid_internal_strconv_uint64pow10)], narrowed := true }
def RationalArithmeticUptoSaid : Prop := rationalArithmeticUptoRow.holds Tryd.pinned (OpenSpec.upto rationalArithmeticSpec)

/-- 'hemiolalaw01.RationalZero', WHERE WHAT IT READS IS OF BULK AT MOST 1048576: true; the input reads as it did. -/
def rationalZeroUptoRow : OpenClaim := { program := "ytfappkhohddcjaadoor", sum := "611a01e844594f3697f6bb29197cab33fbc88ffa0a8f372456301a4ca4b42a32", func := "hemiola/hemiolalaw01.RationalZero", spec := "rationalZero", named := ["internal/strconv.uint64pow10", "math/bits.deBruijn32tab", "math/bits.deBruijn64tab"], apart := false, laid := [("math/bits.deBruijn32tab", laid_math_bits_deBruijn32tab), ("math/bits.deBruijn64tab", laid_math_bits_deBruijn64tab), ("internal/strconv.uint64pow10", laid_internal_strconv_uint64pow10)], narrowed := true }
def RationalZeroUptoSaid : Prop := rationalZeroUptoRow.holds Tryd.pinned (OpenSpec.upto rationalZeroSpec)

/-- 'hemiolalaw01.RationalOrders', WHERE WHAT IT READS IS OF BULK AT MOST 1048576: true; the input reads as it did. -/
def rationalOrdersUptoRow : OpenClaim := { program := "ytfappkhohddcjaadoor", sum := "611a01e844594f3697f6bb29197cab33fbc88ffa0a8f372456301a4ca4b42a32", func := "hemiola/hemiolalaw01.RationalOrders", spec := "rationalOrders", named := ["internal/strconv.uint64pow10", "math/bits.deBruijn32tab", "math/bits.deBruijn64tab"], apart := false, laid := [("math/bits.deBruijn32tab", laid_math_bits_deBruijn32tab), ("math/bits.deBruijn64tab", laid_math_bits_deBruijn64tab), ("internal/strconv.uint64pow10", laid_internal_strconv_uint64pow10)], narrowed := true }
def RationalOrdersUptoSaid : Prop := rationalOrdersUptoRow.holds Tryd.pinned (OpenSpec.upto rationalOrdersSpec)

/-- 'hemiolalaw01.RationalSums', WHERE WHAT IT READS IS OF BULK AT MOST 1048576: true; the input reads as it did. -/
def rationalSumsUptoRow : OpenClaim := { program := "ytfappkhohddcjaadoor", sum := "611a01e844594f3697f6bb29197cab33fbc88ffa0a8f372456301a4ca4b42a32", func := "hemiola/hemiolalaw01.RationalSums", spec := "rationalSums", named := ["internal/strconv.uint64pow10", "math/bits.deBruijn32tab", "math/bits.deBruijn64tab"], apart := false, laid := [("math/bits.deBruijn32tab", laid_math_bits_deBruijn32tab), ("math/bits.deBruijn64tab", laid_math_bits_deBruijn64tab), ("internal/strconv.uint64pow10", laid_internal_strconv_uint64pow10)], narrowed := true }
def RationalSumsUptoSaid : Prop := rationalSumsUptoRow.holds Tryd.pinned (OpenSpec.upto rationalSumsSpec)

/-- 'hemiolalaw01.RationalBack', WHERE WHAT IT READS IS OF BULK AT MOST 1048576: true; the input reads as it did. -/
def rationalBackUptoRow : OpenClaim := { program := "ytfappkhohddcjaadoor", sum := "611a01e844594f3697f6bb29197cab33fbc88ffa0a8f372456301a4ca4b42a32", func := "hemiola/hemiolalaw01.RationalBack", spec := "rationalBack", named := ["internal/strconv.uint64pow10", "math/bits.deBruijn32tab", "math/bits.deBruijn64tab"], apart := false, laid := [("math/bits.deBruijn32tab", laid_math_bits_deBruijn32tab), ("math/bits.deBruijn64tab", laid_math_bits_deBruijn64tab), ("internal/strconv.uint64pow10", laid_internal_strconv_uint64pow10)], narrowed := true }
def RationalBackUptoSaid : Prop := rationalBackUptoRow.holds Tryd.pinned (OpenSpec.upto rationalBackSpec)

end Rows
end Go.Proofs.YtfappkhohddcjaaDoor
