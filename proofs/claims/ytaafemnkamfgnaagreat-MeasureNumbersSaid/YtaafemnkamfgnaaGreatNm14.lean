/- The statements measureNumbers_holds hold: no condition beyond the rows' own. -/
import Derived.Test.YtaafemnkamfgnaaGreatNm13
set_option linter.unusedVariables false
set_option linter.unusedSimpArgs false
set_option linter.unusedSectionVars false
namespace Go.Proofs.YtaafemnkamfgnaaGreat
open Go.RowKit
open Go.ChangeShapes Go.WideShapes Go.ChangeAt Go.RowKit
theorem O1:joinedFacts Tryz.pinned.checked.prog 11 Tryz.f11 Rows.measureNumbersSpec Rows.measureNumbersRow=true:=by
 unfold joinedFacts
 simp only [Bool.and_eq_true]
 exact ⟨⟨⟨⟨⟨⟨⟨⟨⟨⟨⟨⟨⟨⟨⟨⟨⟨⟨⟨⟨⟨⟨⟨⟨⟨⟨⟨⟨⟨⟨⟨S4,Z5⟩,S3⟩,S2⟩,S1⟩,S0⟩,Sz⟩,Sx⟩,Sw⟩,Sv⟩,Rc⟩,Rb⟩,Ra⟩,Q9⟩,Q8⟩,Q7⟩,Q6⟩,Q5⟩,Q4⟩,Q3⟩,Q2⟩,Q1⟩,Q0⟩,Qz⟩,Qy⟩,Qx⟩,Qw⟩,Qv⟩,(by kernel_rfl)⟩,Qu⟩,Qt⟩,Qr⟩
theorem measureNumbers_holds:Rows.MeasureNumbersSaid:=
 OpenClaim.holds_of_wide 11 Tryz.f11 rfl rfl rfl rfl rfl rfl rfl ⟨rfl,rfl,rfl,rfl,rfl⟩ rfl rfl rfl rfl rfl (by kernel_rfl) Tryz.func11 O1
  (of_decide_eq_true (by kernel_rfl)) (by unfold Func.isWrapper;first|(rw [if_pos (by decide+kernel)];kernel_rfl)|(rw [if_neg (by decide+kernel)];exact ⟨rfl,rfl⟩))
  (fun os started H enc _=>O0 os started H enc)
end Go.Proofs.YtaafemnkamfgnaaGreat
