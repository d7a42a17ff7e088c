/- The statements measureVoices_holds hold: no condition beyond the rows' own. -/
import Derived.Test.YtaafemnkamfgnaaGreatVc13
set_option linter.unusedVariables false
set_option linter.unusedSimpArgs false
set_option linter.unusedSectionVars false
namespace Go.Proofs.YtaafemnkamfgnaaGreat
open Go.RowKit
open Go.ChangeShapes Go.WideShapes Go.ChangeAt Go.RowKit
theorem Pq:joinedFacts Tryz.pinned.checked.prog 10 Tryz.f10 Rows.measureVoicesSpec Rows.measureVoicesRow=true:=by
 unfold joinedFacts
 simp only [Bool.and_eq_true]
 exact ⟨⟨⟨⟨⟨⟨⟨⟨⟨⟨⟨⟨⟨⟨⟨⟨⟨⟨⟨⟨⟨⟨⟨⟨⟨⟨⟨⟨⟨⟨⟨Tz,Zr⟩,Ty⟩,Tx⟩,Tw⟩,Tv⟩,Tu⟩,Tt⟩,Ts⟩,Tr⟩,Sq⟩,Sp⟩,So⟩,Sn⟩,Sm⟩,Sk⟩,Sj⟩,Si⟩,Sh⟩,Sg⟩,Sf⟩,Se⟩,Sd⟩,Sc⟩,Sb⟩,Sa⟩,R9⟩,R8⟩,(by kernel_rfl)⟩,R7⟩,R6⟩,R5⟩
theorem measureVoices_holds:Rows.MeasureVoicesSaid:=
 OpenClaim.holds_of_wide 10 Tryz.f10 rfl rfl rfl rfl rfl rfl rfl ⟨rfl,rfl,rfl,rfl,rfl⟩ rfl rfl rfl rfl rfl (by kernel_rfl) Tryz.func10 Pq
  (of_decide_eq_true (by kernel_rfl)) (by unfold Func.isWrapper;first|(rw [if_pos (by decide+kernel)];kernel_rfl)|(rw [if_neg (by decide+kernel)];exact ⟨rfl,rfl⟩))
  (fun os started H enc _=>Pp os started H enc)
end Go.Proofs.YtaafemnkamfgnaaGreat
