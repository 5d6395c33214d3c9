/- Functions that compute what the Go functions compute, proofs that the machine's calls do so, or the row of a law over them. No further condition. Written by xp.py, a program of this session, over the kit's print. -/
import Derived.Test.YtijioimbgmcpaaaQx11
import Derived.Test.YtijioimbgmcpaaaOpn
namespace Go.Proofs.Ytijioimbgmcpaaa.Q
open Go.RowKit Go.Proofs.Ytijioimbgmcpaaa.X Go.Proofs.YtijioimbgmcpaaaW.PrintWords Go.Proofs.YtijioimbgmcpaaaW.PrintLast Go.Proofs.YtijioimbgmcpaaaW.PrintMore
set_option linter.unusedVariables false
attribute [local go_sem] max2_int min2_int max_two min_two max_three min_three max_four min_four
/-- THE ONE PURE STATEMENT of vinculumlaw25_StyleJoined. -/
def vinculumlaw25_StyleJoined.Pure : Prop := ∀ (x0 : List Int) (x1 : List Int) (x2 : S23), (x0.length ≤ maxLen ∧ ∀ y ∈ x0, (Lit.int .i64 y).wf = true) → (x1.length ≤ maxLen ∧ ∀ y ∈ x1, (Lit.int .i64 y).wf = true) → (ok23 x2) → ∃ k, vinculumlaw25_StyleJoined.f k x0 x1 x2.f0 x2.f1 = some true
end Go.Proofs.Ytijioimbgmcpaaa.Q
