/- Functions that compute what the Go functions compute, proofs that the machine's calls do so, or the row of a law over them. No further condition. Written by xp.py, a program of this session, over the kit's print. -/
import Derived.Test.YtdobphmkflkciaaQx0
import Derived.Test.YtdobphmkflkciaaXLib
namespace Go.Proofs.Ytdobphmkflkciaa.Q
open Go.RowKit Go.Proofs.Ytdobphmkflkciaa.X Go.Proofs.YtdobphmkflkciaaW.PrintWords Go.Proofs.YtdobphmkflkciaaW.PrintLast Go.Proofs.YtdobphmkflkciaaW.PrintMore
set_option linter.unusedVariables false
attribute [local go_sem] max2_int min2_int max_two min_two max_three min_three max_four min_four
def ok23 (x : S23) : Prop := (x.f0.size ≤ maxLen) ∧ ((Lit.int .i64 x.f1).wf = true) ∧ ((Lit.int .i64 x.f2).wf = true) ∧ ((Lit.int .i64 x.f3).wf = true) ∧ ((Lit.int .i64 x.f4).wf = true) ∧ ((Lit.int .i64 x.f5).wf = true)
theorem opn23 {H : Type} {enc : TypeId × Value → H} {W : World} (N : Nat) : Opn enc Try.prog W N 23 k23 ok23 :=
  Opn.le (M := N + 1) (Opn.iso (fun a : ((ByteArray) × (Int) × (Int) × (Int) × (Int) × (Int)) => (⟨a.1, a.2.1, a.2.2.1, a.2.2.2.1, a.2.2.2.2.1, a.2.2.2.2.2⟩ : S23)) (fun _ => rfl) (Opn.struct Try.underlying23 (show Try.prog.cellsOf 23 = _ by kernel_rfl) [(9, 0), (3, 1), (3, 2), (3, 3), (3, 4), (3, 5)] (by kernel_rfl) (OpnF.cons (show Try.prog.cellsOf 9 = _ by kernel_rfl) (Opn.string Try.underlying9) (OpnF.cons (show Try.prog.cellsOf 3 = _ by kernel_rfl) (Opn.int Try.underlying3) (OpnF.cons (show Try.prog.cellsOf 3 = _ by kernel_rfl) (Opn.int Try.underlying3) (OpnF.cons (show Try.prog.cellsOf 3 = _ by kernel_rfl) (Opn.int Try.underlying3) (OpnF.cons (show Try.prog.cellsOf 3 = _ by kernel_rfl) (Opn.int Try.underlying3) (OpnF.one (show Try.prog.cellsOf 3 = _ by kernel_rfl) (Opn.int Try.underlying3)))))))) (fun _ h => h)) (Nat.le_succ _)
end Go.Proofs.Ytdobphmkflkciaa.Q
