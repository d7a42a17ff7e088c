/- From the door's condition to the table; the arguments of this seat's laws, opened. -/
import Derived.Test.YtfappkhohddcjaaDoorLaw
import Derived.Test.YtfappkhohddcjaaDoorKn01
import Derived.Test.YtfappkhohddcjaaDoorTie
import Derived.Test.YtfappkhohddcjaaDoorCards
import Derived.LaidMore
import Derived.LaidSub
import Derived.Stop.Joined
import Derived.MakeChecks
import Derived.LaidHandle
import Derived.SevenTiedAt
namespace Go.Proofs.YtfappkhohddcjaaDoor
open Go.RowKit Go.ChangeShapes Go.WideShapes Go.ChangeAt Go.Deep

/-- the listed variables -/
def laid3 : List (String × DataW Unit) := [("math/bits.deBruijn32tab", Rows.laid_math_bits_deBruijn32tab), ("math/bits.deBruijn64tab", Rows.laid_math_bits_deBruijn64tab), ("internal/strconv.uint64pow10", Rows.laid_internal_strconv_uint64pow10)]
theorem gPow : Tryd.prog.globalNamed "internal/strconv.uint64pow10" = some 0 := by kernel_rfl
theorem tPow : (Tryd.prog.globals[0]?).map (·.type) = some 83 := by kernel_rfl
theorem tab_of_laid {W : World} (h : laidMetH Tryd.prog laid3 W) : Tab W := by
  rw [MakeChecks.laidMetH_plain _ _ _ (by kernel_rfl)] at h
  have h2 := h.filter fun x => x.1 == "internal/strconv.uint64pow10"
  exact Lib.tabIs_of_head gPow tPow Tryd.underlying83 Tryd.underlying63 (by kernel_rfl) (by kernel_rfl) (show laidMet Tryd.prog (("internal/strconv.uint64pow10", Lib.tabData .u64 Lib.pow10Tab) :: []) W from h2)
theorem door_met (os : Os) (args : Array Value) : laidMetH Tryd.prog laid3 ((World.doorLaid Tryd.prog 2000 os).forCall (fun _ _ => 0) ⟨#[], args, []⟩).memory :=
  laidMetH_of_parts3 (fuel := 8) (laidMet_of_run' 8 (by kernel_rfl) (by kernel_rfl)) (by kernel_rfl) (by kernel_rfl)

def in64 (x : Int) : Prop := (Lit.int .i64 x).wf = true
theorem in64_of {x : Int} (h : in64 x) : i64r x := by
  unfold in64 at h
  have h2 : IntKind.i64.min ≤ x ∧ x ≤ 9223372036854775807 := by simpa [Lit.wf, IntKind.wrap_i64] using h
  exact h2
def pairC (p : Int × Int) : List Value := [.int .i64 p.1, .int .i64 p.2]
def pairOk (_ : World) (p : Int × Int) : Prop := i64r p.1 ∧ i64r p.2
theorem dec_pair : Dec Tryd.prog 22 pairC pairOk := by
  intro H enc w fuel cs x h
  obtain ⟨xs, m, _, _, hl, hn, hg⟩ := DataW.trod_array Tryd.underlying22 h
  have c1 : Tryd.prog.cellsOf 3 = 1 := by kernel_rfl
  have c2 : Tryd.prog.cellsOf 22 = 2 := by kernel_rfl
  rw [c2] at hl
  match cs, hl, xs, hn with
  | [a0, a1], _, [z0, z1], _ =>
    have g0 := hg 0 (by omega)
    have g1 := hg 1 (by omega)
    rw [c1] at g0 g1
    obtain ⟨n0, e0, _, w0⟩ := DataW.trod_int Tryd.underlying3 g0
    obtain ⟨n1, e1, _, w1⟩ := DataW.trod_int Tryd.underlying3 g1
    simp at e0 e1
    exact ⟨(n0, n1), by rw [e0, e1]; rfl, in64_of w0, in64_of w1⟩
theorem dec_pairs : Dec Tryd.prog 59 (fun s : Sl (Int × Int) => [s.val]) (Sl.Good pairC pairOk) :=
  Dec.slice Tryd.underlying59 (sz := 2) dec_pair (by kernel_rfl) (fun _ => rfl) (by omega)
section
variable {H : Type} {enc : TypeId × Value → H} {w : World}
theorem open_pair {r : Reach} {b0 : Nat} {v : Value} {d : DataW H} {p : List MemPlace} (hv : Value.okWide Tryd.prog w r b0 22 v) (h : DataW.Trod enc Tryd.prog w 0 (fun _ => true) true 22 v d p) :
    ∃ a : Int × Int, v = .agg #[.int .i64 a.1, .int .i64 a.2] ∧ i64r a.1 ∧ i64r a.2 := by
  simp only [Value.okWide, Tryd.underlying22] at hv
  obtain ⟨cs, rfl, _⟩ := hv
  obtain ⟨fuel, hf⟩ := h
  obtain ⟨a, ha, hok⟩ := dec_pair _ _ _ _ _ _ hf
  refine ⟨a, ?_, hok⟩
  have : cs.toList = pairC a := ha
  rw [show cs = (pairC a).toArray from by rw [← this]]
  rfl
end

end Go.Proofs.YtfappkhohddcjaaDoor
