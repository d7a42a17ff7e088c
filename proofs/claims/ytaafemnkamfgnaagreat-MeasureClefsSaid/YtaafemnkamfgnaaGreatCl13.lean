/- The statements measureClefs_holds hold: no condition beyond the rows' own. -/
import Derived.Test.YtaafemnkamfgnaaGreatCl12
set_option linter.unusedVariables false
set_option linter.unusedSimpArgs false
set_option linter.unusedSectionVars false
namespace Go.Proofs.YtaafemnkamfgnaaGreat
open Go.RowKit
open Go.ChangeShapes Go.WideShapes Go.ChangeAt Go.RowKit
theorem O3:joinedFacts Tryz.pinned.checked.prog 8 Tryz.f8 Rows.measureClefsSpec Rows.measureClefsRow=true:=by
 unfold joinedFacts
 simp only [Bool.and_eq_true]
 exact ⟨⟨⟨⟨⟨⟨⟨⟨⟨⟨⟨⟨⟨⟨⟨⟨⟨⟨⟨⟨⟨⟨⟨⟨⟨⟨⟨⟨⟨⟨⟨T6,Yp⟩,T5⟩,T4⟩,T3⟩,T2⟩,T1⟩,T0⟩,Tz⟩,Ty⟩,Sq⟩,Sp⟩,So⟩,Sn⟩,Sm⟩,Sk⟩,Sj⟩,Si⟩,Sh⟩,Sg⟩,Sf⟩,Se⟩,Sd⟩,Sc⟩,Sb⟩,Sa⟩,R9⟩,R8⟩,(by kernel_rfl)⟩,R7⟩,R6⟩,R5⟩
theorem measureClefs_holds:Rows.MeasureClefsSaid:=
 OpenClaim.holds_of_wide 8 Tryz.f8 rfl rfl rfl rfl rfl rfl rfl ⟨rfl,rfl,rfl,rfl,rfl⟩ rfl rfl rfl rfl rfl (by kernel_rfl) Tryz.func8 O3
  (of_decide_eq_true (by kernel_rfl)) (by unfold Func.isWrapper;first|(rw [if_pos (by decide+kernel)];kernel_rfl)|(rw [if_neg (by decide+kernel)];exact ⟨rfl,rfl⟩))
  (fun os started H enc _=>O2 os started H enc)
end Go.Proofs.YtaafemnkamfgnaaGreat
