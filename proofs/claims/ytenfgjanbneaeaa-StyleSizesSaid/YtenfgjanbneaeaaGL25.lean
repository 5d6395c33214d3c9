/- What is shown here: what functions of the program come to, read off by the evaluator (printed by a program of this session's, checked by the kernel). -/
import Derived.Test.YtenfgjanbneaeaaEH0
import Derived.WalkKit
import Derived.ProofKit
namespace Go.Proofs.Ytenfgjanbneaeaa.E
open Go.Proofs
set_option autoImplicit false
set_option linter.unusedVariables false
set_option maxRecDepth 100000
noncomputable def R24 (e : Eng) : Option Res :=
  (callD e 27 [A.one (C.int Go.IntKind.i64 5), A.one (C.int Go.IntKind.i64 1), A.agg 2 [C.int Go.IntKind.i64 0, C.bool false]] [Sh.agg 2, Sh.int Go.IntKind.i64]).bind
  fun (x : List C × Int) =>
  bif x.snd == 0 then (eqCs [Bk.i, Bk.b] x.1 [C.int Go.IntKind.i64 1, C.bool true]).bind fun (b : Bool) => some (Res.ret [A.one (C.bool b)] none)
  else some (Res.ret [A.one (C.bool false)] none)
theorem R24_eq (n : Nat) : (eng Try.prog hs (n + 1)).call 24 [] none = R24 (eng Try.prog hs n) := by kernel_rfl
noncomputable def R8 (e : Eng) (g0 : List C) (g1 : List C) : Option Res :=
  (callD e 24 [] [Sh.bool]).bind fun (x : Bool) =>
  bif !x then some (Res.ret [A.one (C.bool false)] none)
  else
    (callD e 11 [A.agg 22 g0] [Sh.bool]).bind fun (x : Bool) =>
      bif !x then some (Res.ret [A.one (C.bool true)] none)
      else
        (callD e 25 [A.agg 22 g0, A.agg 2 g1] [Sh.int Go.IntKind.i64, Sh.int Go.IntKind.i64]).bind fun (x : Int × Int) =>
          (callD e 26 [A.agg 22 g0, A.agg 2 g1] [Sh.int Go.IntKind.i64, Sh.int Go.IntKind.i64]).bind fun (x_1 : Int × Int) =>
            bif x.fst == x_1.fst then some (Res.ret [A.one (C.bool (x.snd == x_1.snd))] none) else some (Res.ret [A.one (C.bool false)] none)
theorem R8_eq (n : Nat) (g0 : List C) (g1 : List C) : (eng Try.prog hs (n + 1)).call 8 [A.agg 22 g0, A.agg 2 g1] none = R8 (eng Try.prog hs n) g0 g1 := by kernel_rfl
noncomputable def R9 (e : Eng) (g0 : List C) (g1 : List C) (g2 : List C) : Option Res :=
  (callD e 24 [] [Sh.bool]).bind fun (x : Bool) =>
  bif !x then some (Res.ret [A.one (C.bool false)] none)
  else
    (callD e 11 [A.agg 22 g0] [Sh.bool]).bind fun (x : Bool) =>
      bif !x then some (Res.ret [A.one (C.bool true)] none)
      else
        (asI Go.IntKind.i64 g0[18]?).bind fun (n : Int) =>
          (asI Go.IntKind.i64 g0[17]?).bind fun (n_1 : Int) =>
            bif decide (n > n_1) then some (Res.ret [A.one (C.bool true)] none)
            else
              (asI Go.IntKind.i64 g1[0]?).bind fun (n : Int) =>
                (asI Go.IntKind.i64 g1[1]?).bind fun (n_2 : Int) =>
                  (callD e 27 [A.one (C.int Go.IntKind.i64 n), A.one (C.int Go.IntKind.i64 n_2), A.agg 2 g2] [Sh.agg 2, Sh.int Go.IntKind.i64]).bind fun (x : List C × Int) =>
                    (callD e 25 [A.agg 22 g0, A.agg 2 g2] [Sh.int Go.IntKind.i64, Sh.int Go.IntKind.i64]).bind fun (x_1 : Int × Int) =>
                      (callD e 25 [A.agg 22 g0, A.agg 2 x.1] [Sh.int Go.IntKind.i64, Sh.int Go.IntKind.i64]).bind fun (x_2 : Int × Int) =>
                        bif x.snd != 0 then some (Res.ret [A.one (C.bool true)] none)
                        else
                          bif x_1.snd != 0 then some (Res.ret [A.one (C.bool true)] none)
                          else
                            bif x_2.snd == 0 then
                              bif decide (x_2.fst ≤ x_1.fst) then some (Res.ret [A.one (C.bool (decide (x_2.fst ≥ 1)))] none) else some (Res.ret [A.one (C.bool false)] none)
                            else some (Res.ret [A.one (C.bool false)] none)
theorem R9_eq (n : Nat) (g0 : List C) (g1 : List C) (g2 : List C) : (eng Try.prog hs (n + 1)).call 9 [A.agg 22 g0, A.agg 2 g1, A.agg 2 g2] none = R9 (eng Try.prog hs n) g0 g1 g2 := by kernel_rfl
end Go.Proofs.Ytenfgjanbneaeaa.E
