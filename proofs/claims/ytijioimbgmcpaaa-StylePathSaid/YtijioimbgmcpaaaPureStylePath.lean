/- Path of the program returns what the reference returns: the plain law behind StylePath. -/
import Derived.Test.YtijioimbgmcpaaaPPath
import Derived.Test.YtijioimbgmcpaaaQx10
import Derived.Test.YtijioimbgmcpaaaPreStylePath
namespace Go.Proofs.Ytijioimbgmcpaaa.Pure
open Go.RowKit Go.Proofs.Ytijioimbgmcpaaa.X Go.Proofs.YtijioimbgmcpaaaW.PrintWords Go.Proofs.YtijioimbgmcpaaaW.PrintLast Go.Proofs.YtijioimbgmcpaaaW.PrintMore Go.Proofs.Ytijioimbgmcpaaa.Q
set_option linter.unusedVariables false
set_option linter.unusedSimpArgs false
theorem StylePath : vinculumlaw25_StylePath.Pure := by
  intro ks ss x _ _ _
  refine ⟨300, ?_⟩
  unfold vinculumlaw25_StylePath.f
  rw [sawake, Option.bind_some, if_pos rfl]
  simp only [vinculumlaw25_StylePath.j0]
  by_cases h : (ks.length : Int) > 30
  · rw [if_pos h]
    simp
  · rw [if_neg h]
    split
    · rfl
    · rw [path_f ks ss (by omega) _ _ _ (by omega), refpath_f ks ss (by omega) _ _ _ (by omega)]
      simp
end Go.Proofs.Ytijioimbgmcpaaa.Pure
