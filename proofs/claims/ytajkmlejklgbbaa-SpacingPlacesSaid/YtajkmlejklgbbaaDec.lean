/- The types of this seat's arguments, as data of our own. -/
import Derived.Test.YtajkmlejklgbbaaLaw
import Derived.Test.YtajkmlejklgbbaaSprA
namespace Go.Proofs.Ytajkmlejklgbbaa
open Go.RowKit

def in64 (x : Int) : Prop := (Lit.int .i64 x).wf = true
def Col.wf (_ : World) (c : Col) : Prop := in64 c.l ∧ in64 c.r ∧ in64 c.t
def Lst.wf (_ : World) (c : Lst) : Prop := in64 c.f ∧ in64 c.l ∧ in64 c.d
def Spr.wf (_ : World) (c : Spr) : Prop := in64 c.n ∧ in64 c.m

theorem dec_col : Dec Try.prog 41 Col.cells Col.wf :=
  Dec.ints3 Try.underlying41 (by kernel_rfl) (by kernel_rfl) Try.underlying3 Try.underlying3 Try.underlying3 fun _ x y z hx hy hz => ⟨⟨x, y, z⟩, rfl, hx, hy, hz⟩
theorem dec_lst : Dec Try.prog 73 Lst.cells Lst.wf :=
  Dec.ints3 Try.underlying73 (by kernel_rfl) (by kernel_rfl) Try.underlying3 Try.underlying3 Try.underlying3 fun _ x y z hx hy hz => ⟨⟨x, y, z⟩, rfl, hx, hy, hz⟩
theorem dec_spr : Dec Try.prog 38 Spr.cells Spr.wf :=
  Dec.ints2 Try.underlying38 (by kernel_rfl) (by kernel_rfl) Try.underlying3 Try.underlying3 fun _ x y hx hy => ⟨⟨x, y⟩, rfl, hx, hy⟩
theorem dec_cols : Dec Try.prog 29 (fun s : Sl Col => [s.val]) (Sl.Good Col.cells Col.wf) :=
  Dec.slice Try.underlying29 (sz := 3) dec_col (by kernel_rfl) (fun _ => rfl) (by omega)
theorem dec_lsts : Dec Try.prog 30 (fun s : Sl Lst => [s.val]) (Sl.Good Lst.cells Lst.wf) :=
  Dec.slice Try.underlying30 (sz := 3) dec_lst (by kernel_rfl) (fun _ => rfl) (by omega)
theorem dec_sprs : Dec Try.prog 31 (fun s : Sl Spr => [s.val]) (Sl.Good Spr.cells Spr.wf) :=
  Dec.slice Try.underlying31 (sz := 2) dec_spr (by kernel_rfl) (fun _ => rfl) (by omega)
theorem len63 {n : Nat} (h : n ≤ maxLen) : n ≤ 9223372036854775807 := by unfold maxLen at h; omega

end Go.Proofs.Ytajkmlejklgbbaa
