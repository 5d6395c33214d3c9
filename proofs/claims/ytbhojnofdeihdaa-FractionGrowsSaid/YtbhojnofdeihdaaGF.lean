/- What is shown here: what functions of the program come to, read off by the evaluator (printed by a program of this session's, checked by the kernel). -/
import Derived.Test.YtbhojnofdeihdaaEH0
import Derived.WalkKit
import Derived.ProofKit
namespace Go.Proofs.Ytbhojnofdeihdaa.E
open Go.Proofs
set_option autoImplicit false
set_option linter.unusedVariables false
set_option maxRecDepth 100000
noncomputable def R16 (e : Eng) (g0 : List C) (g1 : List C) (g2 : List C) (g3 : List C) : Option Res :=
  (callD e 33 [A.agg 22 g0, A.agg 2 g1] [Sh.int Go.IntKind.i64, Sh.int Go.IntKind.i64]).bind fun (x : Int × Int) =>
  bif x.snd != 0 then
    some
      (Res.ret
        [A.agg 11
            [C.int Go.IntKind.i64 0, C.str (ByteArray.mk #[]), C.int Go.IntKind.i64 0, C.int Go.IntKind.i64 0, C.int Go.IntKind.i64 0, C.int Go.IntKind.i64 0,
              C.int Go.IntKind.i64 0, C.int Go.IntKind.i64 0, C.sl [], C.int Go.IntKind.i64 0, C.sl []],
          A.one (C.int Go.IntKind.i64 1)]
        none)
  else
    (callD e 22 [A.agg 11 g2] [Sh.bool]).bind fun (x_1 : Bool) =>
      bif !x_1 then
        some
          (Res.ret
            [A.agg 11
                [C.int Go.IntKind.i64 0, C.str (ByteArray.mk #[]), C.int Go.IntKind.i64 0, C.int Go.IntKind.i64 0, C.int Go.IntKind.i64 0, C.int Go.IntKind.i64 0,
                  C.int Go.IntKind.i64 0, C.int Go.IntKind.i64 0, C.sl [], C.int Go.IntKind.i64 0, C.sl []],
              A.one (C.int Go.IntKind.i64 1)]
            none)
      else
        (callD e 22 [A.agg 11 g3] [Sh.bool]).bind fun (x_2 : Bool) =>
          bif !x_2 then
            some
              (Res.ret
                [A.agg 11
                    [C.int Go.IntKind.i64 0, C.str (ByteArray.mk #[]), C.int Go.IntKind.i64 0, C.int Go.IntKind.i64 0, C.int Go.IntKind.i64 0, C.int Go.IntKind.i64 0,
                      C.int Go.IntKind.i64 0, C.int Go.IntKind.i64 0, C.sl [], C.int Go.IntKind.i64 0, C.sl []],
                  A.one (C.int Go.IntKind.i64 1)]
                none)
          else
            (callD e 34 [A.agg 22 g0, A.agg 2 g1, A.one (C.int Go.IntKind.i64 x.fst)] [Sh.agg 5]).bind fun (x : List C) =>
              (asI Go.IntKind.i64 x[0]?).bind fun (n : Int) =>
                (asI Go.IntKind.i64 x[1]?).bind fun (n_1 : Int) =>
                  (callD e 35 [A.one (C.int Go.IntKind.i64 n_1)] [Sh.int Go.IntKind.i64]).bind fun (x_3 : Int) =>
                    (asI Go.IntKind.i64 x[1]?).bind fun (n_2 : Int) =>
                      (asI Go.IntKind.i64 x[3]?).bind fun (n_3 : Int) =>
                        (asI Go.IntKind.i64 x[4]?).bind fun (n_4 : Int) =>
                          (asI Go.IntKind.i64 g2[5]?).bind fun (n_5 : Int) =>
                            (asI Go.IntKind.i64 x[2]?).bind fun (n_6 : Int) =>
                              bif decide (Go.IntKind.i64.wrap (Go.IntKind.i64.wrap (n_3 - n_5) - Go.IntKind.i64.wrap (Go.IntKind.i64.wrap (n - x_3) + n_2)) < n_6) then
                                (asI Go.IntKind.i64 x[2]?).bind fun (n_7 : Int) =>
                                  (asI Go.IntKind.i64 g2[5]?).bind fun (n_8 : Int) =>
                                    (asI Go.IntKind.i64 g3[4]?).bind fun (n_9 : Int) =>
                                      (asI Go.IntKind.i64 x[2]?).bind fun (n_10 : Int) =>
                                        bif decide (Go.IntKind.i64.wrap (Go.IntKind.i64.wrap (n - x_3) - Go.IntKind.i64.wrap (Go.IntKind.i64.wrap (0 - n_4) + n_9)) < n_10) then
                                          (asI Go.IntKind.i64 x[2]?).bind fun (n_11 : Int) =>
                                            (asI Go.IntKind.i64 g3[4]?).bind fun (n_12 : Int) =>
                                              (asI Go.IntKind.i64 g2[3]?).bind fun (n_13 : Int) =>
                                                (asI Go.IntKind.i64 g3[3]?).bind fun (n_14 : Int) =>
                                                  (asI Go.IntKind.i64 x[1]?).bind fun (n_15 : Int) =>
                                                    (callD e 37
                                                          [A.one (C.int Go.IntKind.i64 (maxI Go.Builtin.max (maxI Go.Builtin.max 0 n_13) n_14)), A.one (C.int Go.IntKind.i64 n_15),
                                                            A.one (C.int Go.IntKind.i64 0)]
                                                          [Sh.agg 11]).bind
                                                      fun (x : List C) =>
                                                      (callD e 36 [A.agg 11 x, A.one (C.int Go.IntKind.i64 0), A.one (C.int Go.IntKind.i64 (Go.IntKind.i64.wrap (n - x_3)))]
                                                            [Sh.agg 11]).bind
                                                        fun (x : List C) =>
                                                        (asI Go.IntKind.i64 g2[4]?).bind fun (n_16 : Int) =>
                                                          (asI Go.IntKind.i64 g3[5]?).bind fun (n_17 : Int) =>
                                                            (callD e 39
                                                                  [A.agg 11 g2, A.one (C.int Go.IntKind.i64 (maxI Go.Builtin.max (maxI Go.Builtin.max 0 n_13) n_14)),
                                                                    A.one
                                                                      (C.int Go.IntKind.i64
                                                                        (Go.IntKind.i64.wrap
                                                                          (Go.IntKind.i64.wrap (Go.IntKind.i64.wrap (Go.IntKind.i64.wrap (n - x_3) + n_2) + n_7) + n_8)))]
                                                                  [Sh.agg 11]).bind
                                                              fun (x_4 : List C) =>
                                                              (callD e 39
                                                                    [A.agg 11 g3, A.one (C.int Go.IntKind.i64 (maxI Go.Builtin.max (maxI Go.Builtin.max 0 n_13) n_14)),
                                                                      A.one
                                                                        (C.int Go.IntKind.i64
                                                                          (Go.IntKind.i64.wrap (Go.IntKind.i64.wrap (Go.IntKind.i64.wrap (n - x_3) - n_11) - n_12)))]
                                                                    [Sh.agg 11]).bind
                                                                fun (x_5 : List C) =>
                                                                (callD e 38
                                                                      [A.one (C.int Go.IntKind.i64 (maxI Go.Builtin.max (maxI Go.Builtin.max 0 n_13) n_14)),
                                                                        A.one
                                                                          (C.int Go.IntKind.i64
                                                                            (maxI Go.Builtin.max
                                                                              (Go.IntKind.i64.wrap
                                                                                (Go.IntKind.i64.wrap
                                                                                    (Go.IntKind.i64.wrap (Go.IntKind.i64.wrap (Go.IntKind.i64.wrap (n - x_3) + n_2) + n_7) + n_8) +
                                                                                  n_16))
                                                                              (Go.IntKind.i64.wrap (Go.IntKind.i64.wrap (n - x_3) + n_2)))),
                                                                        A.one
                                                                          (C.int Go.IntKind.i64
                                                                            (maxI Go.Builtin.max
                                                                              (Go.IntKind.i64.wrap
                                                                                (n_17 - Go.IntKind.i64.wrap (Go.IntKind.i64.wrap (Go.IntKind.i64.wrap (n - x_3) - n_11) - n_12)))
                                                                              (Go.IntKind.i64.wrap (0 - Go.IntKind.i64.wrap (n - x_3))))),
                                                                        A.one (C.sl [x_4, x, x_5])]
                                                                      [Sh.agg 11]).bind
                                                                  fun (x : List C) =>
                                                                  (callD e 22 [A.agg 11 x] [Sh.bool]).bind fun (x_6 : Bool) =>
                                                                    bif !x_6 then
                                                                      some
                                                                        (Res.ret
                                                                          [A.agg 11
                                                                              [C.int Go.IntKind.i64 0, C.str (ByteArray.mk #[]), C.int Go.IntKind.i64 0, C.int Go.IntKind.i64 0,
                                                                                C.int Go.IntKind.i64 0, C.int Go.IntKind.i64 0, C.int Go.IntKind.i64 0, C.int Go.IntKind.i64 0,
                                                                                C.sl [], C.int Go.IntKind.i64 0, C.sl []],
                                                                            A.one (C.int Go.IntKind.i64 6)]
                                                                          none)
                                                                    else some (Res.ret [A.agg 11 x, A.one (C.int Go.IntKind.i64 0)] none)
                                        else
                                          (asI Go.IntKind.i64 g2[3]?).bind fun (n_11 : Int) =>
                                            (asI Go.IntKind.i64 g3[3]?).bind fun (n_12 : Int) =>
                                              (asI Go.IntKind.i64 x[1]?).bind fun (n_13 : Int) =>
                                                (callD e 37
                                                      [A.one (C.int Go.IntKind.i64 (maxI Go.Builtin.max (maxI Go.Builtin.max 0 n_11) n_12)), A.one (C.int Go.IntKind.i64 n_13),
                                                        A.one (C.int Go.IntKind.i64 0)]
                                                      [Sh.agg 11]).bind
                                                  fun (x : List C) =>
                                                  (callD e 36 [A.agg 11 x, A.one (C.int Go.IntKind.i64 0), A.one (C.int Go.IntKind.i64 (Go.IntKind.i64.wrap (n - x_3)))]
                                                        [Sh.agg 11]).bind
                                                    fun (x : List C) =>
                                                    (asI Go.IntKind.i64 g2[4]?).bind fun (n_14 : Int) =>
                                                      (asI Go.IntKind.i64 g3[5]?).bind fun (n_15 : Int) =>
                                                        (callD e 39
                                                              [A.agg 11 g2, A.one (C.int Go.IntKind.i64 (maxI Go.Builtin.max (maxI Go.Builtin.max 0 n_11) n_12)),
                                                                A.one
                                                                  (C.int Go.IntKind.i64
                                                                    (Go.IntKind.i64.wrap
                                                                      (Go.IntKind.i64.wrap (Go.IntKind.i64.wrap (Go.IntKind.i64.wrap (n - x_3) + n_2) + n_7) + n_8)))]
                                                              [Sh.agg 11]).bind
                                                          fun (x_4 : List C) =>
                                                          (callD e 39
                                                                [A.agg 11 g3, A.one (C.int Go.IntKind.i64 (maxI Go.Builtin.max (maxI Go.Builtin.max 0 n_11) n_12)),
                                                                  A.one (C.int Go.IntKind.i64 (Go.IntKind.i64.wrap (0 - n_4)))]
                                                                [Sh.agg 11]).bind
                                                            fun (x_5 : List C) =>
                                                            (callD e 38
                                                                  [A.one (C.int Go.IntKind.i64 (maxI Go.Builtin.max (maxI Go.Builtin.max 0 n_11) n_12)),
                                                                    A.one
                                                                      (C.int Go.IntKind.i64
                                                                        (maxI Go.Builtin.max
                                                                          (Go.IntKind.i64.wrap
                                                                            (Go.IntKind.i64.wrap
                                                                                (Go.IntKind.i64.wrap (Go.IntKind.i64.wrap (Go.IntKind.i64.wrap (n - x_3) + n_2) + n_7) + n_8) +
                                                                              n_14))
                                                                          (Go.IntKind.i64.wrap (Go.IntKind.i64.wrap (n - x_3) + n_2)))),
                                                                    A.one
                                                                      (C.int Go.IntKind.i64
                                                                        (maxI Go.Builtin.max (Go.IntKind.i64.wrap (n_15 - Go.IntKind.i64.wrap (0 - n_4)))
                                                                          (Go.IntKind.i64.wrap (0 - Go.IntKind.i64.wrap (n - x_3))))),
                                                                    A.one (C.sl [x_4, x, x_5])]
                                                                  [Sh.agg 11]).bind
                                                              fun (x : List C) =>
                                                              (callD e 22 [A.agg 11 x] [Sh.bool]).bind fun (x_6 : Bool) =>
                                                                bif !x_6 then
                                                                  some
                                                                    (Res.ret
                                                                      [A.agg 11
                                                                          [C.int Go.IntKind.i64 0, C.str (ByteArray.mk #[]), C.int Go.IntKind.i64 0, C.int Go.IntKind.i64 0,
                                                                            C.int Go.IntKind.i64 0, C.int Go.IntKind.i64 0, C.int Go.IntKind.i64 0, C.int Go.IntKind.i64 0, C.sl [],
                                                                            C.int Go.IntKind.i64 0, C.sl []],
                                                                        A.one (C.int Go.IntKind.i64 6)]
                                                                      none)
                                                                else some (Res.ret [A.agg 11 x, A.one (C.int Go.IntKind.i64 0)] none)
                              else
                                (asI Go.IntKind.i64 g3[4]?).bind fun (n_7 : Int) =>
                                  (asI Go.IntKind.i64 x[2]?).bind fun (n_8 : Int) =>
                                    bif decide (Go.IntKind.i64.wrap (Go.IntKind.i64.wrap (n - x_3) - Go.IntKind.i64.wrap (Go.IntKind.i64.wrap (0 - n_4) + n_7)) < n_8) then
                                      (asI Go.IntKind.i64 x[2]?).bind fun (n_9 : Int) =>
                                        (asI Go.IntKind.i64 g3[4]?).bind fun (n_10 : Int) =>
                                          (asI Go.IntKind.i64 g2[3]?).bind fun (n_11 : Int) =>
                                            (asI Go.IntKind.i64 g3[3]?).bind fun (n_12 : Int) =>
                                              (asI Go.IntKind.i64 x[1]?).bind fun (n_13 : Int) =>
                                                (callD e 37
                                                      [A.one (C.int Go.IntKind.i64 (maxI Go.Builtin.max (maxI Go.Builtin.max 0 n_11) n_12)), A.one (C.int Go.IntKind.i64 n_13),
                                                        A.one (C.int Go.IntKind.i64 0)]
                                                      [Sh.agg 11]).bind
                                                  fun (x : List C) =>
                                                  (callD e 36 [A.agg 11 x, A.one (C.int Go.IntKind.i64 0), A.one (C.int Go.IntKind.i64 (Go.IntKind.i64.wrap (n - x_3)))]
                                                        [Sh.agg 11]).bind
                                                    fun (x : List C) =>
                                                    (asI Go.IntKind.i64 g2[4]?).bind fun (n_14 : Int) =>
                                                      (asI Go.IntKind.i64 g3[5]?).bind fun (n_15 : Int) =>
                                                        (callD e 39
                                                              [A.agg 11 g2, A.one (C.int Go.IntKind.i64 (maxI Go.Builtin.max (maxI Go.Builtin.max 0 n_11) n_12)),
                                                                A.one (C.int Go.IntKind.i64 n_3)]
                                                              [Sh.agg 11]).bind
                                                          fun (x_4 : List C) =>
                                                          (callD e 39
                                                                [A.agg 11 g3, A.one (C.int Go.IntKind.i64 (maxI Go.Builtin.max (maxI Go.Builtin.max 0 n_11) n_12)),
                                                                  A.one
                                                                    (C.int Go.IntKind.i64 (Go.IntKind.i64.wrap (Go.IntKind.i64.wrap (Go.IntKind.i64.wrap (n - x_3) - n_9) - n_10)))]
                                                                [Sh.agg 11]).bind
                                                            fun (x_5 : List C) =>
                                                            (callD e 38
                                                                  [A.one (C.int Go.IntKind.i64 (maxI Go.Builtin.max (maxI Go.Builtin.max 0 n_11) n_12)),
                                                                    A.one
                                                                      (C.int Go.IntKind.i64
                                                                        (maxI Go.Builtin.max (Go.IntKind.i64.wrap (n_3 + n_14))
                                                                          (Go.IntKind.i64.wrap (Go.IntKind.i64.wrap (n - x_3) + n_2)))),
                                                                    A.one
                                                                      (C.int Go.IntKind.i64
                                                                        (maxI Go.Builtin.max
                                                                          (Go.IntKind.i64.wrap
                                                                            (n_15 - Go.IntKind.i64.wrap (Go.IntKind.i64.wrap (Go.IntKind.i64.wrap (n - x_3) - n_9) - n_10)))
                                                                          (Go.IntKind.i64.wrap (0 - Go.IntKind.i64.wrap (n - x_3))))),
                                                                    A.one (C.sl [x_4, x, x_5])]
                                                                  [Sh.agg 11]).bind
                                                              fun (x : List C) =>
                                                              (callD e 22 [A.agg 11 x] [Sh.bool]).bind fun (x_6 : Bool) =>
                                                                bif !x_6 then
                                                                  some
                                                                    (Res.ret
                                                                      [A.agg 11
                                                                          [C.int Go.IntKind.i64 0, C.str (ByteArray.mk #[]), C.int Go.IntKind.i64 0, C.int Go.IntKind.i64 0,
                                                                            C.int Go.IntKind.i64 0, C.int Go.IntKind.i64 0, C.int Go.IntKind.i64 0, C.int Go.IntKind.i64 0, C.sl [],
                                                                            C.int Go.IntKind.i64 0, C.sl []],
                                                                        A.one (C.int Go.IntKind.i64 6)]
                                                                      none)
                                                                else some (Res.ret [A.agg 11 x, A.one (C.int Go.IntKind.i64 0)] none)
                                    else
                                      (asI Go.IntKind.i64 g2[3]?).bind fun (n_9 : Int) =>
                                        (asI Go.IntKind.i64 g3[3]?).bind fun (n_10 : Int) =>
                                          (asI Go.IntKind.i64 x[1]?).bind fun (n_11 : Int) =>
                                            (callD e 37
                                                  [A.one (C.int Go.IntKind.i64 (maxI Go.Builtin.max (maxI Go.Builtin.max 0 n_9) n_10)), A.one (C.int Go.IntKind.i64 n_11),
                                                    A.one (C.int Go.IntKind.i64 0)]
                                                  [Sh.agg 11]).bind
                                              fun (x : List C) =>
                                              (callD e 36 [A.agg 11 x, A.one (C.int Go.IntKind.i64 0), A.one (C.int Go.IntKind.i64 (Go.IntKind.i64.wrap (n - x_3)))]
                                                    [Sh.agg 11]).bind
                                                fun (x : List C) =>
                                                (asI Go.IntKind.i64 g2[4]?).bind fun (n_12 : Int) =>
                                                  (asI Go.IntKind.i64 g3[5]?).bind fun (n_13 : Int) =>
                                                    (callD e 39
                                                          [A.agg 11 g2, A.one (C.int Go.IntKind.i64 (maxI Go.Builtin.max (maxI Go.Builtin.max 0 n_9) n_10)),
                                                            A.one (C.int Go.IntKind.i64 n_3)]
                                                          [Sh.agg 11]).bind
                                                      fun (x_4 : List C) =>
                                                      (callD e 39
                                                            [A.agg 11 g3, A.one (C.int Go.IntKind.i64 (maxI Go.Builtin.max (maxI Go.Builtin.max 0 n_9) n_10)),
                                                              A.one (C.int Go.IntKind.i64 (Go.IntKind.i64.wrap (0 - n_4)))]
                                                            [Sh.agg 11]).bind
                                                        fun (x_5 : List C) =>
                                                        (callD e 38
                                                              [A.one (C.int Go.IntKind.i64 (maxI Go.Builtin.max (maxI Go.Builtin.max 0 n_9) n_10)),
                                                                A.one
                                                                  (C.int Go.IntKind.i64
                                                                    (maxI Go.Builtin.max (Go.IntKind.i64.wrap (n_3 + n_12))
                                                                      (Go.IntKind.i64.wrap (Go.IntKind.i64.wrap (n - x_3) + n_2)))),
                                                                A.one
                                                                  (C.int Go.IntKind.i64
                                                                    (maxI Go.Builtin.max (Go.IntKind.i64.wrap (n_13 - Go.IntKind.i64.wrap (0 - n_4)))
                                                                      (Go.IntKind.i64.wrap (0 - Go.IntKind.i64.wrap (n - x_3))))),
                                                                A.one (C.sl [x_4, x, x_5])]
                                                              [Sh.agg 11]).bind
                                                          fun (x : List C) =>
                                                          (callD e 22 [A.agg 11 x] [Sh.bool]).bind fun (x_6 : Bool) =>
                                                            bif !x_6 then
                                                              some
                                                                (Res.ret
                                                                  [A.agg 11
                                                                      [C.int Go.IntKind.i64 0, C.str (ByteArray.mk #[]), C.int Go.IntKind.i64 0, C.int Go.IntKind.i64 0,
                                                                        C.int Go.IntKind.i64 0, C.int Go.IntKind.i64 0, C.int Go.IntKind.i64 0, C.int Go.IntKind.i64 0, C.sl [],
                                                                        C.int Go.IntKind.i64 0, C.sl []],
                                                                    A.one (C.int Go.IntKind.i64 6)]
                                                                  none)
                                                            else some (Res.ret [A.agg 11 x, A.one (C.int Go.IntKind.i64 0)] none)
theorem R16_eq (n : Nat) (g0 : List C) (g1 : List C) (g2 : List C) (g3 : List C) : (eng Try.prog hs (n + 1)).call 16 [A.agg 22 g0, A.agg 2 g1, A.agg 11 g2, A.agg 11 g3] none = R16 (eng Try.prog hs n) g0 g1 g2 g3 := by kernel_rfl
noncomputable def R34 (e : Eng) (g0 : List C) (g1 : List C) (n2 : Int) : Option Res :=
  (asI Go.IntKind.i64 g0[4]?).bind fun (n : Int) =>
  (callD e 60 [A.one (C.int Go.IntKind.i64 n), A.one (C.rp [C.int Go.IntKind.i64 n2] 0)] [Sh.int Go.IntKind.i64]).bind fun (x : Int) =>
    (asI Go.IntKind.i64 g0[5]?).bind fun (n : Int) =>
      (callD e 60 [A.one (C.int Go.IntKind.i64 n), A.one (C.rp [C.int Go.IntKind.i64 n2] 0)] [Sh.int Go.IntKind.i64]).bind fun (x_1 : Int) =>
        (asI Go.IntKind.i64 g0[7]?).bind fun (n : Int) =>
          (callD e 60 [A.one (C.int Go.IntKind.i64 n), A.one (C.rp [C.int Go.IntKind.i64 n2] 0)] [Sh.int Go.IntKind.i64]).bind fun (x_2 : Int) =>
            (asI Go.IntKind.i64 g0[9]?).bind fun (n : Int) =>
              (callD e 60 [A.one (C.int Go.IntKind.i64 n), A.one (C.rp [C.int Go.IntKind.i64 n2] 0)] [Sh.int Go.IntKind.i64]).bind fun (x_3 : Int) =>
                (asI Go.IntKind.i64 g1[0]?).bind fun (n : Int) =>
                  bif n == 0 then
                    (asI Go.IntKind.i64 g0[6]?).bind fun (n : Int) =>
                      (callD e 60 [A.one (C.int Go.IntKind.i64 n), A.one (C.rp [C.int Go.IntKind.i64 n2] 0)] [Sh.int Go.IntKind.i64]).bind fun (x_4 : Int) =>
                        (asI Go.IntKind.i64 g0[8]?).bind fun (n : Int) =>
                          (callD e 60 [A.one (C.int Go.IntKind.i64 n), A.one (C.rp [C.int Go.IntKind.i64 n2] 0)] [Sh.int Go.IntKind.i64]).bind fun (x_5 : Int) =>
                            some
                              (Res.ret
                                [A.agg 5
                                    [C.int Go.IntKind.i64 x, C.int Go.IntKind.i64 x_1, C.int Go.IntKind.i64 (Go.IntKind.i64.wrap (3 * x_1)), C.int Go.IntKind.i64 x_4,
                                      C.int Go.IntKind.i64 x_5]]
                                none)
                  else
                    some (Res.ret [A.agg 5 [C.int Go.IntKind.i64 x, C.int Go.IntKind.i64 x_1, C.int Go.IntKind.i64 x_1, C.int Go.IntKind.i64 x_2, C.int Go.IntKind.i64 x_3]] none)
theorem R34_eq (n : Nat) (g0 : List C) (g1 : List C) (n2 : Int) : (eng Try.prog hs (n + 1)).call 34 [A.agg 22 g0, A.agg 2 g1, A.one (C.int Go.IntKind.i64 n2)] none = R34 (eng Try.prog hs n) g0 g1 n2 := by kernel_rfl
noncomputable def R60 (e : Eng) (n0 : Int) (p1 : List C) : Option Res :=
  (asI Go.IntKind.i64 p1[0]?).bind fun (n : Int) =>
  (callD e 52 [A.one (C.int Go.IntKind.i64 n0), A.one (C.int Go.IntKind.i64 n)] [Sh.int Go.IntKind.i64]).bind fun (x : Int) => some (Res.ret [A.one (C.int Go.IntKind.i64 x)] none)
theorem R60_eq (n : Nat) (n0 : Int) (p1 : List C) : (eng Try.prog hs (n + 1)).call 60 [A.one (C.int Go.IntKind.i64 n0), A.one (C.rp p1 0)] none = R60 (eng Try.prog hs n) n0 p1 := by kernel_rfl
noncomputable def R39 (e : Eng) (g0 : List C) (n1 : Int) (n2 : Int) : Option Res :=
  (asI Go.IntKind.i64 g0[3]?).bind fun (n : Int) =>
  (callD e 35 [A.one (C.int Go.IntKind.i64 (Go.IntKind.i64.wrap (n1 - n)))] [Sh.int Go.IntKind.i64]).bind fun (x : Int) =>
    (callD e 36 [A.agg 11 g0, A.one (C.int Go.IntKind.i64 x), A.one (C.int Go.IntKind.i64 n2)] [Sh.agg 11]).bind fun (x : List C) => some (Res.ret [A.agg 11 x] none)
theorem R39_eq (n : Nat) (g0 : List C) (n1 : Int) (n2 : Int) : (eng Try.prog hs (n + 1)).call 39 [A.agg 11 g0, A.one (C.int Go.IntKind.i64 n1), A.one (C.int Go.IntKind.i64 n2)] none = R39 (eng Try.prog hs n) g0 n1 n2 := by kernel_rfl
end Go.Proofs.Ytbhojnofdeihdaa.E
