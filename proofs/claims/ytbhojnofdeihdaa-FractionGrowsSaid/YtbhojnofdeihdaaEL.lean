/- What is defined here: where a loop stands within its function; a call that comes to a range over a function. -/
import Derived.Test.YtbhojnofdeihdaaEZ9
namespace Go.Proofs.Ytbhojnofdeihdaa.E
set_option autoImplicit false
set_option linter.unusedVariables false
def stackAt (id : Nat) : Nat → List Item → Option (List Item)
  | 0, _ => none
  | _ + 1, [] => none
  | n + 1, .code (.seq a b) :: k => stackAt id n (.code a :: .code b :: k)
  | n + 1, .code (.cond _ x y) :: k => match stackAt id n (.code x :: k) with
    | some r => some r
    | none => stackAt id n (.code y :: k)
  | n + 1, .code (.block i c) :: k => stackAt id n (.code c :: .inBlock i :: k)
  | n + 1, .code (.loop c) :: k => bif Nat.beq (firstReg c) id then some (.inLoop c :: k) else
    match stackAt id n (.code c :: .inLoop c :: k) with
    | some r => some r
    | none => stackAt id n k
  | n + 1, _ :: k => stackAt id n k
def lp (fn : Func) (id : Nat) : List Item := (stackAt id 100000 [.code (fn.body.getD .skip)]).getD []
/-- What is left to do at the head of a loop. -/
def lpIn : List Item → List Item
  | .inLoop c :: k => .code c :: .inLoop c :: k
  | k => k
/-- The ranges over functions in a piece of code, each with what is behind it. -/
def rfs : Code → List Item → List (Code × List Item)
  | .seq a b, k => rfs a (.code b :: k) ++ rfs b k
  | .cond _ x y, k => rfs x k ++ rfs y k
  | .block i c, k => rfs c (.inBlock i :: k)
  | .loop c, k => rfs c (.inLoop c :: k)
  | .rangeFunc g ps a b, k => [(.rangeFunc g ps a b, k)]
  | _, _ => []
def rfF (fn : Func) (j : Nat) : Code × List Item := ((rfs (fn.body.getD .skip) [])[j]?).getD (.skip, [])
def rfA (fn : Func) (j : Nat) : Code := match (rfF fn j).1 with
  | .rangeFunc _ _ a _ => a
  | _ => .skip
def rfB (fn : Func) (j : Nat) : Code := match (rfF fn j).1 with
  | .rangeFunc _ _ _ b => b
  | _ => .skip
def rfK (fn : Func) (j : Nat) : List Item := (rfF fn j).2
/-- Behind a range over a function. -/
def rfGo (P : Program) (hs : Hints) (e : Eng) (m : Nat) (k : List Item) (st : St) (x : Option Res) : Option Res :=
  match x with
  | some (.ret _ (some r)) => match r.pend with
    | none => runIn P hs e m k { st with t := r.t, H := r.H }
    | some c => runIn P hs e m (.code c :: k) { st with t := r.t, H := r.H }
  | _ => none
/-- What a round comes to. -/
def yDone (r : Rnd) (x : Option Res) : Option (Bool × Rnd) :=
  match x with
  | some (.rnd pend H) => some (pend.isNone, { r with H := freeH [] r.t (keysH H) (freeH [] r.t (keysH H) H), pend })
  | _ => none
end Go.Proofs.Ytbhojnofdeihdaa.E
