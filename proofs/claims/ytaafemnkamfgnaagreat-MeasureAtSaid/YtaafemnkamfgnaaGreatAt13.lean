/- The statements measureAt_holds hold: no condition beyond the rows' own. -/
import Derived.Test.YtaafemnkamfgnaaGreatAt12
set_option linter.unusedVariables false
set_option linter.unusedSimpArgs false
set_option linter.unusedSectionVars false
namespace Go.Proofs.YtaafemnkamfgnaaGreat
open Go.RowKit
open Go.ChangeShapes Go.WideShapes Go.ChangeAt Go.RowKit
theorem R2:joinedFacts Tryz.pinned.checked.prog 6 Tryz.f6 Rows.measureAtSpec Rows.measureAtRow=true:=by
 unfold joinedFacts
 simp only [Bool.and_eq_true]
 exact ⟨⟨⟨⟨⟨⟨⟨⟨⟨⟨⟨⟨⟨⟨⟨⟨⟨⟨⟨⟨⟨⟨⟨⟨⟨⟨⟨⟨⟨⟨⟨Yn,Yt⟩,Ym⟩,Yl⟩,Yk⟩,Yj⟩,Yi⟩,Yh⟩,Yg⟩,Yf⟩,Wn⟩,Wm⟩,Wl⟩,Wk⟩,Wj⟩,Wi⟩,Wh⟩,Wg⟩,Wf⟩,We⟩,Wd⟩,Wc⟩,Wb⟩,Wa⟩,V9⟩,V8⟩,V7⟩,V6⟩,(by kernel_rfl)⟩,V5⟩,V4⟩,V3⟩
theorem measureAt_holds:Rows.MeasureAtSaid:=
 OpenClaim.holds_of_wide 6 Tryz.f6 rfl rfl rfl rfl rfl rfl rfl ⟨rfl,rfl,rfl,rfl,rfl⟩ rfl rfl rfl rfl rfl (by kernel_rfl) Tryz.func6 R2
  (of_decide_eq_true (by kernel_rfl)) (by unfold Func.isWrapper;first|(rw [if_pos (by decide+kernel)];kernel_rfl)|(rw [if_neg (by decide+kernel)];exact ⟨rfl,rfl⟩))
  (fun os started H enc _=>R1 os started H enc)
end Go.Proofs.YtaafemnkamfgnaaGreat
