/- Functions that compute what the Go functions compute, proofs that the machine's calls do so, or the row of a law over them. No further condition. Written by xp.py, a program of this session, over the kit's print. -/
import Derived.Test.YtijioimbgmcpaaaQx0
import Derived.Test.YtijioimbgmcpaaaXLib
namespace Go.Proofs.Ytijioimbgmcpaaa.Q
open Go.RowKit Go.Proofs.Ytijioimbgmcpaaa.X Go.Proofs.YtijioimbgmcpaaaW.PrintWords Go.Proofs.YtijioimbgmcpaaaW.PrintLast Go.Proofs.YtijioimbgmcpaaaW.PrintMore
set_option linter.unusedVariables false
attribute [local go_sem] max2_int min2_int max_two min_two max_three min_three max_four min_four
def ok23 (x : S23) : Prop := ((Lit.int .i64 x.f0).wf = true) ∧ (True)
theorem opn23 {H : Type} {enc : TypeId × Value → H} {W : World} (N : Nat) : Opn enc Try.prog W N 23 k23 ok23 :=
  Opn.le (M := N + 1) (Opn.iso (fun a : ((Int) × (Bool)) => (⟨a.1, a.2⟩ : S23)) (fun _ => rfl) (Opn.struct Try.underlying23 (show Try.prog.cellsOf 23 = _ by kernel_rfl) [(3, 0), (4, 1)] (by kernel_rfl) (OpnF.cons (show Try.prog.cellsOf 3 = _ by kernel_rfl) (Opn.int Try.underlying3) (OpnF.one (show Try.prog.cellsOf 4 = _ by kernel_rfl) (Opn.bool Try.underlying4)))) (fun _ h => h)) (Nat.le_succ _)
end Go.Proofs.Ytijioimbgmcpaaa.Q
