/- What is defined here: where a loop stands within its function; a call that comes to a range over a function. -/
import Derived.Test.YtenfgjanbneaeaaEZ9
namespace Go.Proofs.Ytenfgjanbneaeaa.E
set_option autoImplicit false
set_option linter.unusedVariables false
def stackAt (id : Nat) : Nat → List Item → Option (List Item)
  | 0, _ => none
  | _ + 1, [] => none
  | n + 1, .code (.seq a b) :: k => stackAt id n (.code a :: .code b :: k)
  | n + 1, .code (.cond _ x y) :: k => match stackAt id n (.code x :: k) with
    | some r => some r
    | none => stackAt id n (.code y :: k)
  | n + 1, .code (.block i c) :: k => stackAt id n (.code c :: .inBlock i :: k)
  | n + 1, .code (.loop c) :: k => bif Nat.beq (firstReg c) id then some (.inLoop c :: k) else
    match stackAt id n (.code c :: .inLoop c :: k) with
    | some r => some r
    | none => stackAt id n k
  | n + 1, _ :: k => stackAt id n k
def lp (fn : Func) (id : Nat) : List Item := (stackAt id 100000 [.code (fn.body.getD .skip)]).getD []
end Go.Proofs.Ytenfgjanbneaeaa.E
