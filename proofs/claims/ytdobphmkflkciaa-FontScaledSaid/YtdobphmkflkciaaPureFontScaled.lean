/- Scaled and Height of the program return what the reference returns, for any glyph and percentage: the plain law behind FontScaled. -/
import Derived.Test.YtdobphmkflkciaaPScale
import Derived.Test.YtdobphmkflkciaaPAwake
import Derived.Test.YtdobphmkflkciaaQx2
import Derived.Test.YtdobphmkflkciaaQx3
import Derived.Test.YtdobphmkflkciaaQx4
import Derived.Test.YtdobphmkflkciaaPreFontScaled
namespace Go.Proofs.Ytdobphmkflkciaa.Pure
open Go.RowKit Go.Proofs.Ytdobphmkflkciaa.X Go.Proofs.YtdobphmkflkciaaW.PrintWords Go.Proofs.YtdobphmkflkciaaW.PrintLast Go.Proofs.YtdobphmkflkciaaW.PrintMore Go.Proofs.Ytdobphmkflkciaa.Q
set_option linter.unusedVariables false
set_option linter.unusedSimpArgs false
theorem FontScaled : vinculumlaw05_FontScaled.Pure := by
  intro x p _ _
  refine ⟨6, ?_⟩
  unfold vinculumlaw05_FontScaled.f
  rw [awake_true, Option.bind_some, if_pos rfl, scaled_eq 0]
  have h : ∃ r, font_Scaled.f x.f0 x.f1 x.f2 x.f3 x.f4 x.f5 p = some r := by
    unfold font_Scaled.f
    split
    · exact ⟨_, rfl⟩
    split
    · exact ⟨_, rfl⟩
    split <;> exact ⟨_, rfl⟩
  obtain ⟨r, hr⟩ := h
  rw [hr]
  unfold font_Height.f
  simp
end Go.Proofs.Ytdobphmkflkciaa.Pure
