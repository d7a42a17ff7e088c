/- The statements measureChecks_holds hold: no condition beyond the rows' own. -/
import Derived.Test.YtaafemnkamfgnaaGreatCh12
set_option linter.unusedVariables false
set_option linter.unusedSimpArgs false
set_option linter.unusedSectionVars false
namespace Go.Proofs.YtaafemnkamfgnaaGreat
open Go.RowKit
open Go.ChangeShapes Go.WideShapes Go.ChangeAt Go.RowKit
theorem O4:joinedFacts Tryz.pinned.checked.prog 13 Tryz.f13 Rows.measureChecksSpec Rows.measureChecksRow=true:=by
 unfold joinedFacts
 simp only [Bool.and_eq_true]
 exact ⟨⟨⟨⟨⟨⟨⟨⟨⟨⟨⟨⟨⟨⟨⟨⟨⟨⟨⟨⟨⟨⟨⟨⟨⟨⟨⟨⟨⟨⟨⟨Td,Y9⟩,Tc⟩,Tb⟩,Ta⟩,S9⟩,S8⟩,S7⟩,S6⟩,S5⟩,R9⟩,R8⟩,R7⟩,R6⟩,R5⟩,R4⟩,R3⟩,R2⟩,R1⟩,R0⟩,Rz⟩,Ry⟩,Rx⟩,Rw⟩,Rv⟩,Ru⟩,Rt⟩,Rs⟩,(by kernel_rfl)⟩,Rr⟩,Rq⟩,Rp⟩
theorem measureChecks_holds:Rows.MeasureChecksSaid:=
 OpenClaim.holds_of_wide 13 Tryz.f13 rfl rfl rfl rfl rfl rfl rfl ⟨rfl,rfl,rfl,rfl,rfl⟩ rfl rfl rfl rfl rfl (by kernel_rfl) Tryz.func13 O4
  (of_decide_eq_true (by kernel_rfl)) (by unfold Func.isWrapper;first|(rw [if_pos (by decide+kernel)];kernel_rfl)|(rw [if_neg (by decide+kernel)];exact ⟨rfl,rfl⟩))
  (fun os started H enc _=>O3 os started H enc)
end Go.Proofs.YtaafemnkamfgnaaGreat
