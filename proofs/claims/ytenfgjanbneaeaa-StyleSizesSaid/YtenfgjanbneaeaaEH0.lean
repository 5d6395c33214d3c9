/- What is defined here: advice for the evaluator at this program: what lives at the heads of loops. -/
import Derived.Test.YtenfgjanbneaeaaChecked
import Derived.Test.YtenfgjanbneaeaaEN
namespace Go.Proofs.Ytenfgjanbneaeaa.E
set_option autoImplicit false
def live5 : List (Nat × List Nat) := [(11, [2, 5, 6, 7, 8, 9]), (14, [2, 5, 6, 7, 8, 9, 10]), (18, [2, 5, 6, 7, 8, 9, 11])]
def live7 : List (Nat × List Nat) := [(8, [1, 2, 5, 6]), (12, [1, 2, 5, 7])]
def live11 : List (Nat × List Nat) := [(4, [1, 3])]
def live12 : List (Nat × List Nat) := [(2, [1, 4, 9, 10, 11])]
def live13 : List (Nat × List Nat) := [(2, [1, 2, 4, 6])]
def live14 : List (Nat × List Nat) := [(2, [1, 4, 9, 10, 11])]
def live15 : List (Nat × List Nat) := [(2, [1, 2, 4, 6])]
def live16 : List (Nat × List Nat) := [(2, [1, 2, 4, 10, 11])]
def live18 : List (Nat × List Nat) := [(4, [2, 3, 5]), (9, [2, 3, 6])]
def live19 : List (Nat × List Nat) := [(3, [1, 3, 13, 14, 15]), (12, [1, 3, 8, 51, 52, 53])]
def live20 : List (Nat × List Nat) := [(4, [1, 3]), (9, [1, 3, 4])]
def live28 : List (Nat × List Nat) := [(6, [1, 2, 4, 24, 25])]
def live32 : List (Nat × List Nat) := [(2, [15, 16])]
def live34 : List (Nat × List Nat) := [(5, [1, 2, 5, 38, 39, 40]), (16, [1, 2, 10, 72, 73, 74])]
def live36 : List (Nat × List Nat) := [(2, [1, 13, 14]), (8, [58, 59])]
def live37 : List (Nat × List Nat) := [(3, [1, 3, 4])]
def live38 : List (Nat × List Nat) := [(2, [0, 3]), (7, [0, 3, 4])]
def live39 : List (Nat × List Nat) := [(5, [2, 3, 5, 6]), (15, [2, 3, 9, 10])]
def live50 : List (Nat × List Nat) := [(2, [0, 3])]
def live51 : List (Nat × List Nat) := [(3, [3, 4])]
def live61 : List (Nat × List Nat) := [(2, [0, 1, 7, 8])]
def clones : List Nat := [29, 30]
def liveTab : List (Nat × List (Nat × List Nat)) := [(5, live5), (7, live7), (11, live11), (12, live12), (13, live13), (14, live14), (15, live15), (16, live16), (18, live18), (19, live19), (20, live20), (28, live28), (32, live32), (34, live34), (36, live36), (37, live37), (38, live38), (39, live39), (50, live50), (51, live51), (61, live61)]
def hs : Hints := { live := fun f r => (get liveTab f).bind fun l => get l r, fresh := fun f => [].any (Nat.beq f), orc := cloneOrc clones }
end Go.Proofs.Ytenfgjanbneaeaa.E
