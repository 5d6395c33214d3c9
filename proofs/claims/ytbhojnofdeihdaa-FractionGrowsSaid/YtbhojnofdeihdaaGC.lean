/- What is shown here: what functions of the program come to, read off by the evaluator (printed by a program of this session's, checked by the kernel). -/
import Derived.Test.YtbhojnofdeihdaaEH0
import Derived.WalkKit
import Derived.ProofKit
namespace Go.Proofs.Ytbhojnofdeihdaa.E
open Go.Proofs
set_option autoImplicit false
set_option linter.unusedVariables false
set_option maxRecDepth 100000
noncomputable def R33 (e : Eng) (g0 : List C) (g1 : List C) : Option Res :=
  (callD e 58 [A.agg 2 g1] [Sh.bool]).bind fun (x : Bool) =>
  bif !x then some (Res.ret [A.one (C.int Go.IntKind.i64 0), A.one (C.int Go.IntKind.i64 1)] none)
  else
    (callD e 59 [A.agg 22 g0] [Sh.bool]).bind fun (x : Bool) =>
      bif !x then some (Res.ret [A.one (C.int Go.IntKind.i64 0), A.one (C.int Go.IntKind.i64 1)] none)
      else
        (asI Go.IntKind.i64 g1[0]?).bind fun (n : Int) =>
          bif n == 2 then (asI Go.IntKind.i64 g0[17]?).bind fun (n : Int) => some (Res.ret [A.one (C.int Go.IntKind.i64 n), A.one (C.int Go.IntKind.i64 0)] none)
          else
            bif n == 3 then (asI Go.IntKind.i64 g0[18]?).bind fun (n : Int) => some (Res.ret [A.one (C.int Go.IntKind.i64 n), A.one (C.int Go.IntKind.i64 0)] none)
            else some (Res.ret [A.one (C.int Go.IntKind.i64 100), A.one (C.int Go.IntKind.i64 0)] none)
theorem R33_eq (n : Nat) (g0 : List C) (g1 : List C) : (eng Try.prog hs (n + 1)).call 33 [A.agg 22 g0, A.agg 2 g1] none = R33 (eng Try.prog hs n) g0 g1 := by kernel_rfl
noncomputable def R58 (e : Eng) (g0 : List C) : Option Res :=
  (asI Go.IntKind.i64 g0[0]?).bind fun (n : Int) =>
  bif decide (n ≥ 0) then (asI Go.IntKind.i64 g0[0]?).bind fun (n : Int) => some (Res.ret [A.one (C.bool (decide (n ≤ 3)))] none) else some (Res.ret [A.one (C.bool false)] none)
theorem R58_eq (n : Nat) (g0 : List C) : (eng Try.prog hs (n + 1)).call 58 [A.agg 2 g0] none = R58 (eng Try.prog hs n) g0 := by kernel_rfl
noncomputable def R65 (e : Eng) (g0 : List C) : Option Res :=
  (asI Go.IntKind.i64 g0[0]?).bind fun (n : Int) =>
  bif decide (n ≥ 0) then (asI Go.IntKind.i64 g0[0]?).bind fun (n : Int) => some (Res.ret [A.one (C.bool (decide (n ≤ 3)))] none) else some (Res.ret [A.one (C.bool false)] none)
theorem R65_eq (n : Nat) (g0 : List C) : (eng Try.prog hs (n + 1)).call 65 [A.agg 2 g0] none = R65 (eng Try.prog hs n) g0 := by kernel_rfl
noncomputable def R48 (e : Eng) (g0 : List C) (g1 : List C) : Option Res :=
  (callD e 65 [A.agg 2 g1] [Sh.bool]).bind fun (x : Bool) =>
  bif !x then some (Res.ret [A.one (C.int Go.IntKind.i64 0)] none)
  else
    (asI Go.IntKind.i64 g0[17]?).bind fun (n : Int) =>
      (asI Go.IntKind.i64 g0[18]?).bind fun (n_1 : Int) =>
        (asI Go.IntKind.i64 g1[0]?).bind fun (n_2 : Int) =>
          bif true && decide (0 ≤ n_2) && decide (n_2 < (↑4 : Int)) then
            [[C.int Go.IntKind.i64 100], [C.int Go.IntKind.i64 100], [C.int Go.IntKind.i64 n], [C.int Go.IntKind.i64 n_1]][n_2.toNat]?.bind fun (cs : List C) =>
              (asI Go.IntKind.i64 cs[0]?).bind fun (n : Int) => some (Res.ret [A.one (C.int Go.IntKind.i64 n)] none)
          else none
theorem R48_eq (n : Nat) (g0 : List C) (g1 : List C) : (eng Try.prog hs (n + 1)).call 48 [A.agg 22 g0, A.agg 2 g1] none = R48 (eng Try.prog hs n) g0 g1 := by kernel_rfl
end Go.Proofs.Ytbhojnofdeihdaa.E
