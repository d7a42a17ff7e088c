/- The statements measureFits_holds hold: no condition beyond the rows' own. -/
import Derived.Test.YtaafemnkamfgnaaGreatFt13
set_option linter.unusedVariables false
set_option linter.unusedSimpArgs false
set_option linter.unusedSectionVars false
namespace Go.Proofs.YtaafemnkamfgnaaGreat
open Go.RowKit
open Go.ChangeShapes Go.WideShapes Go.ChangeAt Go.RowKit
theorem Qw:joinedFacts Tryz.pinned.checked.prog 7 Tryz.f7 Rows.measureFitsSpec Rows.measureFitsRow=true:=by
 unfold joinedFacts
 simp only [Bool.and_eq_true]
 exact ⟨⟨⟨⟨⟨⟨⟨⟨⟨⟨⟨⟨⟨⟨⟨⟨⟨⟨⟨⟨⟨⟨⟨⟨⟨⟨⟨⟨⟨⟨⟨Vy,Zv⟩,Vx⟩,Vw⟩,Vv⟩,Vu⟩,Vt⟩,Vs⟩,Vr⟩,Vq⟩,Ut⟩,Us⟩,Ur⟩,Uq⟩,Up⟩,Uo⟩,Un⟩,Um⟩,Ul⟩,Uk⟩,Uj⟩,Ui⟩,Uh⟩,Ug⟩,Uf⟩,Ue⟩,Ud⟩,Uc⟩,(by kernel_rfl)⟩,Ub⟩,Ua⟩,T9⟩
theorem measureFits_holds:Rows.MeasureFitsSaid:=
 OpenClaim.holds_of_wide 7 Tryz.f7 rfl rfl rfl rfl rfl rfl rfl ⟨rfl,rfl,rfl,rfl,rfl⟩ rfl rfl rfl rfl rfl (by kernel_rfl) Tryz.func7 Qw
  (of_decide_eq_true (by kernel_rfl)) (by unfold Func.isWrapper;first|(rw [if_pos (by decide+kernel)];kernel_rfl)|(rw [if_neg (by decide+kernel)];exact ⟨rfl,rfl⟩))
  (fun os started H enc _=>Qv os started H enc)
end Go.Proofs.YtaafemnkamfgnaaGreat
