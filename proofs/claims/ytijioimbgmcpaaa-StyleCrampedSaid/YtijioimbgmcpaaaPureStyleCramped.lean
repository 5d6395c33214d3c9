/- A slot of the cramped item is the cramped slot: the plain law behind StyleCramped. -/
import Derived.Test.YtijioimbgmcpaaaPSlot
import Derived.Test.YtijioimbgmcpaaaQx2
import Derived.Test.YtijioimbgmcpaaaQx5
import Derived.Test.YtijioimbgmcpaaaQx7
import Derived.Test.YtijioimbgmcpaaaPreStyleCramped
namespace Go.Proofs.Ytijioimbgmcpaaa.Pure
open Go.RowKit Go.Proofs.Ytijioimbgmcpaaa.X Go.Proofs.YtijioimbgmcpaaaW.PrintWords Go.Proofs.YtijioimbgmcpaaaW.PrintLast Go.Proofs.YtijioimbgmcpaaaW.PrintMore Go.Proofs.Ytijioimbgmcpaaa.Q
set_option linter.unusedVariables false
set_option linter.unusedSimpArgs false
theorem StyleCramped : vinculumlaw25_StyleCramped.Pure := by
  intro a0 a1 x _ _ _
  unfold vinculumlaw25_StyleCramped.f style_Cramp.f
  rw [sawake, Option.bind_some, if_pos rfl]
  simp only [Option.bind_some]
  unfold style_Slot.f
  split
  · simp
  split
  · simp
  split
  · simp
  split
  · simp
  split
  · simp
  · simp
end Go.Proofs.Ytijioimbgmcpaaa.Pure
