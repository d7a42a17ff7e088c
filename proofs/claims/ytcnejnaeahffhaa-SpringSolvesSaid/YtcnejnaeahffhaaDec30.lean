/- The types of this seat's arguments, as data of our own. -/
import Derived.Test.YtcnejnaeahffhaaLaw
import Derived.Test.YtcnejnaeahffhaaSp
namespace Go.Proofs.Ytcnejnaeahffhaa
open Go.RowKit

def in64 (x : Int) : Prop := (Lit.int .i64 x).wf = true
def Spr.wf (_ : World) (c : Spr) : Prop := in64 c.n ∧ in64 c.m
theorem dec_rs : Dec Try.prog 45 Spr.cells Spr.wf :=
  Dec.ints2 Try.underlying45 (by kernel_rfl) (by kernel_rfl) Try.underlying3 Try.underlying3 fun _ x y hx hy => ⟨⟨x, y⟩, rfl, hx, hy⟩
theorem dec_rss : Dec Try.prog 24 (fun s : Sl Spr => [s.val]) (Sl.Good Spr.cells Spr.wf) :=
  Dec.slice Try.underlying24 (sz := 2) dec_rs (by kernel_rfl) (fun _ => rfl) (by omega)
theorem dec_int : Dec Try.prog 3 (fun x : Int => [.int .i64 x]) (fun _ x => (Lit.int .i64 x).wf = true) := Dec.int Try.underlying3
theorem dec_ints : Dec Try.prog 36 (fun s : Sl Int => [s.val]) (Sl.Good (fun x : Int => [.int .i64 x]) (fun _ x => (Lit.int .i64 x).wf = true)) :=
  Dec.slice Try.underlying36 (sz := 1) dec_int (by kernel_rfl) (fun _ => rfl) (by omega)
theorem len63 {n : Nat} (h : n ≤ maxLen) : n ≤ 9223372036854775807 := by unfold maxLen at h; omega
theorem flat_ints (l : List Int) : l.flatMap (fun x : Int => [Value.int .i64 x]) = l.map (Value.int .i64) := by
  induction l with
  | nil => rfl
  | cons a l ih => simp [ih]
theorem in64_of {x : Int} (h : in64 x) : -9223372036854775808 ≤ x ∧ x ≤ 9223372036854775807 := by
  unfold in64 at h
  have h2 : IntKind.i64.min ≤ x ∧ x ≤ 9223372036854775807 := by simpa [Lit.wf, IntKind.wrap_i64] using h
  exact h2

end Go.Proofs.Ytcnejnaeahffhaa
