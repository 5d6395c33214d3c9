/- What is shown here: what functions of the program come to, read off by the evaluator (printed by a program of this session's, checked by the kernel). -/
import Derived.Test.YtenfgjanbneaeaaEH0
import Derived.WalkKit
import Derived.ProofKit
namespace Go.Proofs.Ytenfgjanbneaeaa.E
open Go.Proofs
set_option autoImplicit false
set_option linter.unusedVariables false
set_option maxRecDepth 100000
noncomputable def R10 (e : Eng) : Option Res :=
  (callD e 28
      [A.agg 6 [C.str (ByteArray.mk #[120]), C.int Go.IntKind.i64 500, C.int Go.IntKind.i64 431, C.int Go.IntKind.i64 (-11), C.int Go.IntKind.i64 0, C.int Go.IntKind.i64 0],
        A.one (C.int Go.IntKind.i64 70)]
      [Sh.agg 6, Sh.int Go.IntKind.i64]).bind
  fun (x : List C × Int) =>
  bif x.snd == 0 then
    (eqCs [Bk.s, Bk.i, Bk.i, Bk.i, Bk.i, Bk.i] x.1
          [C.str (ByteArray.mk #[120]), C.int Go.IntKind.i64 350, C.int Go.IntKind.i64 302, C.int Go.IntKind.i64 (-8), C.int Go.IntKind.i64 0, C.int Go.IntKind.i64 0]).bind
      fun (b : Bool) => some (Res.ret [A.one (C.bool b)] none)
  else some (Res.ret [A.one (C.bool false)] none)
theorem R10_eq (n : Nat) : (eng Try.prog hs (n + 1)).call 10 [] none = R10 (eng Try.prog hs n) := by kernel_rfl
noncomputable def R3 (e : Eng) (g0 : List C) (s1 : ByteArray) : Option Res :=
  (callD e 10 [] [Sh.bool]).bind fun (x : Bool) =>
  bif !x then some (Res.ret [A.one (C.bool false)] none)
  else
    (callD e 11 [A.agg 22 g0] [Sh.bool]).bind fun (x : Bool) =>
      bif !x then some (Res.ret [A.one (C.bool true)] none)
      else
        (callD e 12 [A.agg 22 g0, A.one (C.str s1)] [Sh.agg 6, Sh.bool]).bind fun (x : List C × Bool) =>
          (callD e 13 [A.agg 22 g0, A.one (C.str s1)] [Sh.agg 6, Sh.bool]).bind fun (x_1 : List C × Bool) =>
            (callD e 14 [A.agg 22 g0, A.one (C.str s1)] [Sh.agg 4, Sh.bool]).bind fun (x_2 : List C × Bool) =>
              (callD e 15 [A.agg 22 g0, A.one (C.str s1)] [Sh.agg 4, Sh.bool]).bind fun (x_3 : List C × Bool) =>
                bif x.snd == x_1.snd then
                  (eqCs [Bk.s, Bk.i, Bk.i, Bk.i, Bk.i, Bk.i] x.1 x_1.1).bind fun (b : Bool) =>
                    bif b then
                      (callD e 16 [A.agg 22 g0, A.one (C.str s1)] [Sh.agg 6]).bind fun (x : List C) =>
                        (callD e 17 [A.agg 22 g0, A.one (C.str s1)] [Sh.agg 6]).bind fun (x_4 : List C) =>
                          (eqCs [Bk.s, Bk.i, Bk.i, Bk.i, Bk.i, Bk.i] x x_4).bind fun (b : Bool) =>
                            bif b then
                              bif x_2.snd == x_3.snd then (callD e 18 [A.agg 4 x_2.1, A.agg 4 x_3.1] [Sh.bool]).bind fun (x : Bool) => some (Res.ret [A.one (C.bool x)] none)
                              else some (Res.ret [A.one (C.bool false)] none)
                            else some (Res.ret [A.one (C.bool false)] none)
                    else some (Res.ret [A.one (C.bool false)] none)
                else some (Res.ret [A.one (C.bool false)] none)
theorem R3_eq (n : Nat) (g0 : List C) (s1 : ByteArray) : (eng Try.prog hs (n + 1)).call 3 [A.agg 22 g0, A.one (C.str s1)] none = R3 (eng Try.prog hs n) g0 s1 := by kernel_rfl
noncomputable def R4 (e : Eng) (g0 : List C) : Option Res :=
  (callD e 10 [] [Sh.bool]).bind fun (x : Bool) =>
  bif !x then some (Res.ret [A.one (C.bool false)] none)
  else
    (callD e 11 [A.agg 22 g0] [Sh.bool]).bind fun (x : Bool) =>
      bif !x then some (Res.ret [A.one (C.bool true)] none)
      else (callD e 19 [A.agg 22 g0] [Sh.bool]).bind fun (x : Bool) => (callD e 20 [A.agg 22 g0] [Sh.bool]).bind fun (x_1 : Bool) => some (Res.ret [A.one (C.bool (x == x_1))] none)
theorem R4_eq (n : Nat) (g0 : List C) : (eng Try.prog hs (n + 1)).call 4 [A.agg 22 g0] none = R4 (eng Try.prog hs n) g0 := by kernel_rfl
noncomputable def R6 (e : Eng) (g0 : List C) (s1 : ByteArray) (n2 : Int) : Option Res :=
  (callD e 10 [] [Sh.bool]).bind fun (x : Bool) =>
  bif !x then some (Res.ret [A.one (C.bool false)] none)
  else
    (callD e 11 [A.agg 22 g0] [Sh.bool]).bind fun (x : Bool) =>
      bif !x then some (Res.ret [A.one (C.bool true)] none)
      else
        (callD e 21 [A.agg 22 g0, A.one (C.str s1), A.one (C.int Go.IntKind.i64 n2)] [Sh.agg 11, Sh.int Go.IntKind.i64]).bind fun (x : List C × Int) =>
          (callD e 22 [A.agg 22 g0, A.one (C.str s1), A.one (C.int Go.IntKind.i64 n2)] [Sh.agg 11, Sh.int Go.IntKind.i64]).bind fun (x_1 : List C × Int) =>
            bif x.snd == x_1.snd then (callD e 23 [A.agg 11 x.1, A.agg 11 x_1.1] [Sh.bool]).bind fun (x : Bool) => some (Res.ret [A.one (C.bool x)] none)
            else some (Res.ret [A.one (C.bool false)] none)
theorem R6_eq (n : Nat) (g0 : List C) (s1 : ByteArray) (n2 : Int) : (eng Try.prog hs (n + 1)).call 6 [A.agg 22 g0, A.one (C.str s1), A.one (C.int Go.IntKind.i64 n2)] none = R6 (eng Try.prog hs n) g0 s1 n2 := by kernel_rfl
noncomputable def R7 (e : Eng) (g0 : List C) (s1 : ByteArray) : Option Res :=
  (callD e 10 [] [Sh.bool]).bind fun (x : Bool) =>
  bif !x then some (Res.ret [A.one (C.bool false)] none)
  else
    (callD e 11 [A.agg 22 g0] [Sh.bool]).bind fun (x : Bool) =>
      bif !x then some (Res.ret [A.one (C.bool true)] none)
      else (callD e 19 [A.agg 22 g0] [Sh.bool]).bind fun (x : Bool) => bif !x then some (Res.ret [A.one (C.bool true)] none) else none
theorem R7_eq (n : Nat) (g0 : List C) (s1 : ByteArray) : (eng Try.prog hs (n + 1)).call 7 [A.agg 22 g0, A.one (C.str s1)] none = R7 (eng Try.prog hs n) g0 s1 := by kernel_rfl
end Go.Proofs.Ytenfgjanbneaeaa.E
