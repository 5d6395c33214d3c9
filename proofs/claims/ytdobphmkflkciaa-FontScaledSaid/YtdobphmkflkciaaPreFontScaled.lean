/- Functions that compute what the Go functions compute, proofs that the machine's calls do so, or the row of a law over them. No further condition. Written by xp.py, a program of this session, over the kit's print. -/
import Derived.Test.YtdobphmkflkciaaQx4
import Derived.Test.YtdobphmkflkciaaOpn
namespace Go.Proofs.Ytdobphmkflkciaa.Q
open Go.RowKit Go.Proofs.Ytdobphmkflkciaa.X Go.Proofs.YtdobphmkflkciaaW.PrintWords Go.Proofs.YtdobphmkflkciaaW.PrintLast Go.Proofs.YtdobphmkflkciaaW.PrintMore
set_option linter.unusedVariables false
attribute [local go_sem] max2_int min2_int max_two min_two max_three min_three max_four min_four
/-- THE ONE PURE STATEMENT of vinculumlaw05_FontScaled. -/
def vinculumlaw05_FontScaled.Pure : Prop := ∀ (x0 : S23) (x1 : Int), (ok23 x0) → ((Lit.int .i64 x1).wf = true) → ∃ k, vinculumlaw05_FontScaled.f k x0.f0 x0.f1 x0.f2 x0.f3 x0.f4 x0.f5 x1 = some true
end Go.Proofs.Ytdobphmkflkciaa.Q
