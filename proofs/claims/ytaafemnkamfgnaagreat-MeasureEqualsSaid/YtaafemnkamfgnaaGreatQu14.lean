/- The statements measureEquals_holds hold: no condition beyond the rows' own. -/
import Derived.Test.YtaafemnkamfgnaaGreatQu13
set_option linter.unusedVariables false
set_option linter.unusedSimpArgs false
set_option linter.unusedSectionVars false
namespace Go.Proofs.YtaafemnkamfgnaaGreat
open Go.RowKit
open Go.ChangeShapes Go.WideShapes Go.ChangeAt Go.RowKit
theorem Pp:joinedFacts Tryz.pinned.checked.prog 9 Tryz.f9 Rows.measureEqualsSpec Rows.measureEqualsRow=true:=by
 unfold joinedFacts
 simp only [Bool.and_eq_true]
 exact ⟨⟨⟨⟨⟨⟨⟨⟨⟨⟨⟨⟨⟨⟨⟨⟨⟨⟨⟨⟨⟨⟨⟨⟨⟨⟨⟨⟨⟨⟨⟨Tu,Zx⟩,Tt⟩,Ts⟩,Tr⟩,Tq⟩,To⟩,Tn⟩,Tl⟩,Tk⟩,Sp⟩,So⟩,Sn⟩,Sm⟩,Sk⟩,Sj⟩,Si⟩,Sh⟩,Sg⟩,Sf⟩,Se⟩,Sd⟩,Sc⟩,Sb⟩,Sa⟩,R9⟩,R8⟩,R7⟩,(by kernel_rfl)⟩,R6⟩,R5⟩,R4⟩
theorem measureEquals_holds:Rows.MeasureEqualsSaid:=
 OpenClaim.holds_of_wide 9 Tryz.f9 rfl rfl rfl rfl rfl rfl rfl ⟨rfl,rfl,rfl,rfl,rfl⟩ rfl rfl rfl rfl rfl (by kernel_rfl) Tryz.func9 Pp
  (of_decide_eq_true (by kernel_rfl)) (by unfold Func.isWrapper;first|(rw [if_pos (by decide+kernel)];kernel_rfl)|(rw [if_neg (by decide+kernel)];exact ⟨rfl,rfl⟩))
  (fun os started H enc _=>Po os started H enc)
end Go.Proofs.YtaafemnkamfgnaaGreat
