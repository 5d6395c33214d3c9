/- No slot has a lower level than the item, and a slot of a cramped item is cramped: the plain law behind StyleDescends. -/
import Derived.Test.YtijioimbgmcpaaaPSlot
import Derived.Test.YtijioimbgmcpaaaQx2
import Derived.Test.YtijioimbgmcpaaaQx3
import Derived.Test.YtijioimbgmcpaaaPreStyleDescends
namespace Go.Proofs.Ytijioimbgmcpaaa.Pure
open Go.RowKit Go.Proofs.Ytijioimbgmcpaaa.X Go.Proofs.YtijioimbgmcpaaaW.PrintWords Go.Proofs.YtijioimbgmcpaaaW.PrintLast Go.Proofs.YtijioimbgmcpaaaW.PrintMore Go.Proofs.Ytijioimbgmcpaaa.Q
set_option linter.unusedVariables false
set_option linter.unusedSimpArgs false
theorem StyleDescends : vinculumlaw25_StyleDescends.Pure := by
  intro a0 a1 x _ _ _
  unfold vinculumlaw25_StyleDescends.f
  rw [sawake, Option.bind_some, if_pos rfl]
  obtain ⟨r, hr, hc⟩ := slot_some a0 a1 x.f0 x.f1
  rw [hr]
  simp only [Option.bind_some]
  have hv : ∀ (l : Int) (c : Bool), 0 ≤ l → l ≤ 3 → style_Valid.f l c = some true := fun l c h1 h2 => by
    unfold style_Valid.f; rw [if_pos h1]; simp [h2]
  rcases hc with (rfl | rfl) | ⟨h1, h2, h3, h4, h5, h6⟩
  · simp
  · simp
  · have h0 : r.2.2 = 0 := by rw [h3]
    have hb : r.2.1 = (x.f1 || (slotR a0 a1).2) := by rw [h3]
    rw [if_pos h0, hv _ _ h1 h2, Option.bind_some, if_pos rfl, hv _ _ h4 h5, Option.bind_some, if_pos rfl, if_pos h6, hb]
    cases x.f1 <;> cases (slotR a0 a1).2 <;> rfl
end Go.Proofs.Ytijioimbgmcpaaa.Pure
