/- The law's own check of the examples: it returns true. -/
import Derived.Test.YtajkmlejklgbbaaSprB
namespace Go.Proofs.Ytajkmlejklgbbaa
open Go.RowKit

theorem nat_a : nat 483840 241920 = 144 := by
  rw [nat, if_neg (by omega), natR_go _ _ _ (by omega) (by omega), natR_end _ _ _ (by omega)]; omega
theorem nat_b : nat 725760 241920 = 168 := by
  rw [nat, if_neg (by omega), natR_go _ _ _ (by omega) (by omega), natR_end _ _ _ (by omega)]; omega

def exCols : List Col := [⟨0, 76, 483840⟩, ⟨20, 76, 483840⟩]
theorem exErr : colErr exCols = 0 := by decide
theorem exBase : baseS 241920 10 exCols = [⟨144, 106⟩] := by
  simp [baseS, exCols, sprOf, nat_a, Col.nz]

set_option maxHeartbeats 1000000 in
theorem known_any (w : World) : Calls Try.prog 14 #[] w fun e w' => e = .returned (.bool true) ∧ Below w.heap.size w w' := by
  go_enter Try.func14, Try.ntmps14
  go_wp2_with fail
  refine (Natural_ok _ _ _ (by omega) (by omega) (by omega) (by omega)).mono ?_
  rw [nat_a]
  rintro e w1 ⟨rfl, rfl⟩
  go_wp2_with fail
  refine (Natural_ok _ _ _ (by omega) (by omega) (by omega) (by omega)).mono ?_
  rw [nat_b]
  rintro e w1 ⟨rfl, rfl⟩
  go_wp2_with fail
  refine (Springs_ok _ none 2 2 0 0 exCols 241920 10 [] _ rfl (by omega) ((Rds.new w _ _).more (by simp)) exErr (by omega) rfl (by omega) .nil (fun x hx => by cases hx)).mono ?_
  rintro e w1 ⟨v, rfl, o, hb⟩
  have hr : adjs (srt []) (baseS 241920 10 exCols) = [⟨144, 106⟩] := exBase
  rw [hr] at o
  obtain ⟨g, cap, rfl, hg, hgw⟩ := o.form (by omega)
  have c0 := o.cellAt 0 (by omega)
  have c1 := o.cellAt 1 (by omega)
  simp only [sprs, List.flatMap_cons, List.flatMap_nil, Spr.cells, List.append_nil, List.getElem?_cons_zero, List.getElem?_cons_succ] at c0 c1
  have HB := hide hb
  clear hr o hb
  go_wp2_with fail
  go_ret
  exact ⟨rfl, (((Below.refl _ w).alloc (Nat.le_refl _) _).trans (HB.out.mono (by simp)))⟩

end Go.Proofs.Ytajkmlejklgbbaa
