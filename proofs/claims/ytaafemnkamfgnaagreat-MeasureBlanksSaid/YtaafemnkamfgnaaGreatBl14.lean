/- The statements measureBlanks_holds hold: no condition beyond the rows' own. -/
import Derived.Test.YtaafemnkamfgnaaGreatBl13
set_option linter.unusedVariables false
set_option linter.unusedSimpArgs false
set_option linter.unusedSectionVars false
namespace Go.Proofs.YtaafemnkamfgnaaGreat
open Go.RowKit
open Go.ChangeShapes Go.WideShapes Go.ChangeAt Go.RowKit
theorem Ov:joinedFacts Tryz.pinned.checked.prog 12 Tryz.f12 Rows.measureBlanksSpec Rows.measureBlanksRow=true:=by
 unfold joinedFacts
 simp only [Bool.and_eq_true]
 exact ⟨⟨⟨⟨⟨⟨⟨⟨⟨⟨⟨⟨⟨⟨⟨⟨⟨⟨⟨⟨⟨⟨⟨⟨⟨⟨⟨⟨⟨⟨⟨Sw,Ys⟩,Sv⟩,Su⟩,St⟩,Ss⟩,Sr⟩,Sq⟩,Sp⟩,So⟩,Rr⟩,Rq⟩,Rp⟩,Ro⟩,Rn⟩,Rm⟩,Rl⟩,Rk⟩,Rj⟩,Ri⟩,Rh⟩,Rg⟩,Rf⟩,Re⟩,Rd⟩,Rc⟩,Rb⟩,Ra⟩,(by kernel_rfl)⟩,Q9⟩,Q8⟩,Q7⟩
theorem measureBlanks_holds:Rows.MeasureBlanksSaid:=
 OpenClaim.holds_of_wide 12 Tryz.f12 rfl rfl rfl rfl rfl rfl rfl ⟨rfl,rfl,rfl,rfl,rfl⟩ rfl rfl rfl rfl rfl (by kernel_rfl) Tryz.func12 Ov
  (of_decide_eq_true (by kernel_rfl)) (by unfold Func.isWrapper;first|(rw [if_pos (by decide+kernel)];kernel_rfl)|(rw [if_neg (by decide+kernel)];exact ⟨rfl,rfl⟩))
  (fun os started H enc _=>Ou os started H enc)
end Go.Proofs.YtaafemnkamfgnaaGreat
