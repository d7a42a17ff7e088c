/- The statements measureFinds_holds hold: no condition beyond the rows' own. -/
import Derived.Test.YtaafemnkamfgnaaGreatFd12
set_option linter.unusedVariables false
set_option linter.unusedSimpArgs false
set_option linter.unusedSectionVars false
namespace Go.Proofs.YtaafemnkamfgnaaGreat
open Go.RowKit
open Go.ChangeShapes Go.WideShapes Go.ChangeAt Go.RowKit
theorem Pd:joinedFacts Tryz.pinned.checked.prog 5 Tryz.f5 Rows.measureFindsSpec Rows.measureFindsRow=true:=by
 unfold joinedFacts
 simp only [Bool.and_eq_true]
 exact ⟨⟨⟨⟨⟨⟨⟨⟨⟨⟨⟨⟨⟨⟨⟨⟨⟨⟨⟨⟨⟨⟨⟨⟨⟨⟨⟨⟨⟨⟨⟨Uh,Yw⟩,Ug⟩,Uf⟩,Ue⟩,Ud⟩,Uc⟩,Ub⟩,Ua⟩,T9⟩,S1⟩,S0⟩,Sz⟩,Sx⟩,Sw⟩,Sv⟩,Su⟩,St⟩,Ss⟩,Sr⟩,Sq⟩,Sp⟩,So⟩,Sn⟩,Sm⟩,Sk⟩,Sj⟩,Si⟩,(by kernel_rfl)⟩,Sh⟩,Sg⟩,Sf⟩
theorem measureFinds_holds:Rows.MeasureFindsSaid:=
 OpenClaim.holds_of_wide 5 Tryz.f5 rfl rfl rfl rfl rfl rfl rfl ⟨rfl,rfl,rfl,rfl,rfl⟩ rfl rfl rfl rfl rfl (by kernel_rfl) Tryz.func5 Pd
  (of_decide_eq_true (by kernel_rfl)) (by unfold Func.isWrapper;first|(rw [if_pos (by decide+kernel)];kernel_rfl)|(rw [if_neg (by decide+kernel)];exact ⟨rfl,rfl⟩))
  (fun os started H enc _=>Pc os started H enc)
end Go.Proofs.YtaafemnkamfgnaaGreat
