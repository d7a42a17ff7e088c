/- The statements measureLengths_holds hold: no condition beyond the rows' own. -/
import Derived.Test.YtaafemnkamfgnaaGreatLn12
set_option linter.unusedVariables false
set_option linter.unusedSimpArgs false
set_option linter.unusedSectionVars false
namespace Go.Proofs.YtaafemnkamfgnaaGreat
open Go.RowKit
open Go.ChangeShapes Go.WideShapes Go.ChangeAt Go.RowKit
theorem Nt:joinedFacts Tryz.pinned.checked.prog 3 Tryz.f3 Rows.measureLengthsSpec Rows.measureLengthsRow=true:=by
 unfold joinedFacts
 simp only [Bool.and_eq_true]
 exact ⟨⟨⟨⟨⟨⟨⟨⟨⟨⟨⟨⟨⟨⟨⟨⟨⟨⟨⟨⟨⟨⟨⟨⟨⟨⟨⟨⟨⟨⟨⟨Ry,Ym⟩,Rx⟩,Rw⟩,Rv⟩,Ru⟩,Rt⟩,Rs⟩,Rr⟩,Rq⟩,P6⟩,P5⟩,P4⟩,P3⟩,P2⟩,P1⟩,P0⟩,Pz⟩,Py⟩,Px⟩,Pw⟩,Pv⟩,Pu⟩,Pt⟩,Ps⟩,Pr⟩,Pq⟩,Pp⟩,(by kernel_rfl)⟩,Po⟩,Pn⟩,Pm⟩
theorem measureLengths_holds:Rows.MeasureLengthsSaid:=
 OpenClaim.holds_of_wide 3 Tryz.f3 rfl rfl rfl rfl rfl rfl rfl ⟨rfl,rfl,rfl,rfl,rfl⟩ rfl rfl rfl rfl rfl (by kernel_rfl) Tryz.func3 Nt
  (of_decide_eq_true (by kernel_rfl)) (by unfold Func.isWrapper;first|(rw [if_pos (by decide+kernel)];kernel_rfl)|(rw [if_neg (by decide+kernel)];exact ⟨rfl,rfl⟩))
  (fun os started H enc _=>Ns os started H enc)
end Go.Proofs.YtaafemnkamfgnaaGreat
