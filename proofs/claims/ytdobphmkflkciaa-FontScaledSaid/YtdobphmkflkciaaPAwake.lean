/- The example of the document holds of the program's scaling: by computation. -/
import Derived.Test.YtdobphmkflkciaaQx2
import Derived.Test.YtdobphmkflkciaaXWord
namespace Go.Proofs.Ytdobphmkflkciaa.Q
open Go.RowKit Go.Proofs.Ytdobphmkflkciaa.X Go.Proofs.YtdobphmkflkciaaW.PrintWords Go.Proofs.YtdobphmkflkciaaW.PrintLast Go.Proofs.YtdobphmkflkciaaW.PrintMore Go.Proofs.Ytdobphmkflkciaa.Q
set_option linter.unusedVariables false
set_option linter.unusedSimpArgs false
theorem awake_true : vinculumlaw05_awake.f = some true := by
  unfold vinculumlaw05_awake.f
  have e : font_Scaled.f (⟨#[120]⟩ : ByteArray) 500 431 (-11) 0 0 70 = some (⟨#[120]⟩, 350, 302, -8, 0, 0, 0) := by
    unfold font_Scaled.f
    rw [if_neg (by omega), if_neg (by omega), if_pos (by decide)]
    rw [scaleZ_eq _ _ (by omega) (by omega), scaleZ_eq _ _ (by omega) (by omega), scaleZ_eq _ _ (by omega) (by omega), scaleZ_eq _ _ (by omega) (by omega)]
    simp [rz]
  rw [e]
  simp
end Go.Proofs.Ytdobphmkflkciaa.Q
