/- Slot, Valid and Cramp of the program return what the reference says: the plain law behind StyleSlot. -/
import Derived.Test.YtijioimbgmcpaaaPSlot
import Derived.Test.YtijioimbgmcpaaaQx2
import Derived.Test.YtijioimbgmcpaaaQx3
import Derived.Test.YtijioimbgmcpaaaQx5
import Derived.Test.YtijioimbgmcpaaaQx6
import Derived.Test.YtijioimbgmcpaaaPreStyleSlot
namespace Go.Proofs.Ytijioimbgmcpaaa.Pure
open Go.RowKit Go.Proofs.Ytijioimbgmcpaaa.X Go.Proofs.YtijioimbgmcpaaaW.PrintWords Go.Proofs.YtijioimbgmcpaaaW.PrintLast Go.Proofs.YtijioimbgmcpaaaW.PrintMore Go.Proofs.Ytijioimbgmcpaaa.Q
set_option linter.unusedVariables false
set_option linter.unusedSimpArgs false
theorem StyleSlot : vinculumlaw25_StyleSlot.Pure := by
  intro a0 a1 x _ _ _
  refine ⟨5, ?_⟩
  unfold vinculumlaw25_StyleSlot.f
  rw [sawake, Option.bind_some, if_pos rfl, refSlot_eq 0]
  obtain ⟨r, hr, _⟩ := slot_some a0 a1 x.f0 x.f1
  rw [hr]
  simp only [Option.bind_some]
  unfold style_Valid.f vinculumref25_Valid.f style_Cramp.f
  by_cases h : x.f0 ≥ 0 <;> simp [h]
end Go.Proofs.Ytijioimbgmcpaaa.Pure
