/- The statements measureSlots_holds hold: no condition beyond the rows' own. -/
import Derived.Test.YtaafemnkamfgnaaGreatSl12
set_option linter.unusedVariables false
set_option linter.unusedSimpArgs false
set_option linter.unusedSectionVars false
namespace Go.Proofs.YtaafemnkamfgnaaGreat
open Go.RowKit
open Go.ChangeShapes Go.WideShapes Go.ChangeAt Go.RowKit
theorem Pj:joinedFacts Tryz.pinned.checked.prog 4 Tryz.f4 Rows.measureSlotsSpec Rows.measureSlotsRow=true:=by
 unfold joinedFacts
 simp only [Bool.and_eq_true]
 exact ⟨⟨⟨⟨⟨⟨⟨⟨⟨⟨⟨⟨⟨⟨⟨⟨⟨⟨⟨⟨⟨⟨⟨⟨⟨⟨⟨⟨⟨⟨⟨Uq,Zd⟩,Up⟩,Uo⟩,Un⟩,Um⟩,Ul⟩,Uk⟩,Uj⟩,Ui⟩,S8⟩,S7⟩,S6⟩,S5⟩,S4⟩,S3⟩,S2⟩,S1⟩,S0⟩,Sz⟩,Sx⟩,Sw⟩,Sv⟩,Su⟩,St⟩,Ss⟩,Sr⟩,Sq⟩,(by kernel_rfl)⟩,Sp⟩,So⟩,Sn⟩
theorem measureSlots_holds:Rows.MeasureSlotsSaid:=
 OpenClaim.holds_of_wide 4 Tryz.f4 rfl rfl rfl rfl rfl rfl rfl ⟨rfl,rfl,rfl,rfl,rfl⟩ rfl rfl rfl rfl rfl (by kernel_rfl) Tryz.func4 Pj
  (of_decide_eq_true (by kernel_rfl)) (by unfold Func.isWrapper;first|(rw [if_pos (by decide+kernel)];kernel_rfl)|(rw [if_neg (by decide+kernel)];exact ⟨rfl,rfl⟩))
  (fun os started H enc _=>Pi os started H enc)
end Go.Proofs.YtaafemnkamfgnaaGreat
