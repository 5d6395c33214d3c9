/- What is shown here: what functions of the program come to, read off by the evaluator (printed by a program of this session's, checked by the kernel). -/
import Derived.Test.YtbhojnofdeihdaaEH0
import Derived.WalkKit
import Derived.ProofKit
namespace Go.Proofs.Ytbhojnofdeihdaa.E
open Go.Proofs
set_option autoImplicit false
set_option linter.unusedVariables false
set_option maxRecDepth 100000
noncomputable def R17 (e : Eng) (g0 : List C) (g1 : List C) (g2 : List C) (g3 : List C) : Option Res :=
  (callD e 40 [A.agg 22 g0, A.agg 2 g1, A.one (C.sl [g2, g3])] [Sh.int Go.IntKind.i64]).bind fun (x : Int) =>
  bif x != 0 then
    some
      (Res.ret
        [A.agg 11
            [C.int Go.IntKind.i64 0, C.str (ByteArray.mk #[]), C.int Go.IntKind.i64 0, C.int Go.IntKind.i64 0, C.int Go.IntKind.i64 0, C.int Go.IntKind.i64 0,
              C.int Go.IntKind.i64 0, C.int Go.IntKind.i64 0, C.sl [], C.int Go.IntKind.i64 0, C.sl []],
          A.one (C.int Go.IntKind.i64 x)]
        none)
  else
    (asI Go.IntKind.i64 g0[5]?).bind fun (n : Int) =>
      (callD e 21 [A.agg 22 g0, A.agg 2 g1, A.one (C.int Go.IntKind.i64 n)] [Sh.int Go.IntKind.i64]).bind fun (x : Int) =>
        (callD e 20 [A.agg 22 g0, A.agg 2 g1] [Sh.int Go.IntKind.i64, Sh.int Go.IntKind.i64]).bind fun (x_1 : Int × Int) =>
          (asI Go.IntKind.i64 g0[7]?).bind fun (n : Int) =>
            (callD e 21 [A.agg 22 g0, A.agg 2 g1, A.one (C.int Go.IntKind.i64 n)] [Sh.int Go.IntKind.i64]).bind fun (x_2 : Int) =>
              (asI Go.IntKind.i64 g0[9]?).bind fun (n : Int) =>
                (callD e 21 [A.agg 22 g0, A.agg 2 g1, A.one (C.int Go.IntKind.i64 n)] [Sh.int Go.IntKind.i64]).bind fun (x_3 : Int) =>
                  (asI Go.IntKind.i64 g1[0]?).bind fun (n : Int) =>
                    bif n == 0 then
                      (asI Go.IntKind.i64 g0[6]?).bind fun (n : Int) =>
                        (callD e 21 [A.agg 22 g0, A.agg 2 g1, A.one (C.int Go.IntKind.i64 n)] [Sh.int Go.IntKind.i64]).bind fun (x_4 : Int) =>
                          (asI Go.IntKind.i64 g0[8]?).bind fun (n : Int) =>
                            (callD e 21 [A.agg 22 g0, A.agg 2 g1, A.one (C.int Go.IntKind.i64 n)] [Sh.int Go.IntKind.i64]).bind fun (x_5 : Int) =>
                              (asI Go.IntKind.i64 g2[5]?).bind fun (n : Int) =>
                                bif decide (Go.IntKind.i64.wrap (Go.IntKind.i64.wrap (x_4 - n) - Go.IntKind.i64.wrap (x_1.snd + x)) < x_1.fst) then
                                  (asI Go.IntKind.i64 g2[5]?).bind fun (n : Int) =>
                                    (asI Go.IntKind.i64 g3[4]?).bind fun (n_1 : Int) =>
                                      bif decide (Go.IntKind.i64.wrap (x_1.snd - Go.IntKind.i64.wrap (Go.IntKind.i64.wrap (0 - x_5) + n_1)) < x_1.fst) then
                                        (asI Go.IntKind.i64 g3[4]?).bind fun (n_2 : Int) =>
                                          (asI Go.IntKind.i64 g2[3]?).bind fun (n_3 : Int) =>
                                            (asI Go.IntKind.i64 g3[3]?).bind fun (n_4 : Int) =>
                                              (callD e 41
                                                    [A.one (C.int Go.IntKind.i64 (maxI Go.Builtin.max (maxI Go.Builtin.max 0 n_3) n_4)), A.one (C.int Go.IntKind.i64 x),
                                                      A.one (C.int Go.IntKind.i64 0)]
                                                    [Sh.agg 11]).bind
                                                fun (x_6 : List C) =>
                                                (callD e 23 [A.agg 11 x_6, A.one (C.int Go.IntKind.i64 0), A.one (C.int Go.IntKind.i64 x_1.snd)] [Sh.agg 11]).bind
                                                  fun (x_7 : List C) =>
                                                  (asI Go.IntKind.i64 g2[3]?).bind fun (n_5 : Int) =>
                                                    (callD e 42 [A.one (C.int Go.IntKind.i64 (Go.IntKind.i64.wrap (maxI Go.Builtin.max (maxI Go.Builtin.max 0 n_3) n_4 - n_5)))]
                                                          [Sh.int Go.IntKind.i64]).bind
                                                      fun (x_8 : Int) =>
                                                      (callD e 23
                                                            [A.agg 11 g2, A.one (C.int Go.IntKind.i64 x_8),
                                                              A.one
                                                                (C.int Go.IntKind.i64
                                                                  (Go.IntKind.i64.wrap (Go.IntKind.i64.wrap (Go.IntKind.i64.wrap (x_1.snd + x) + x_1.fst) + n)))]
                                                            [Sh.agg 11]).bind
                                                        fun (x_9 : List C) =>
                                                        (asI Go.IntKind.i64 g3[3]?).bind fun (n_6 : Int) =>
                                                          (callD e 42
                                                                [A.one (C.int Go.IntKind.i64 (Go.IntKind.i64.wrap (maxI Go.Builtin.max (maxI Go.Builtin.max 0 n_3) n_4 - n_6)))]
                                                                [Sh.int Go.IntKind.i64]).bind
                                                            fun (x_10 : Int) =>
                                                            (callD e 23
                                                                  [A.agg 11 g3, A.one (C.int Go.IntKind.i64 x_10),
                                                                    A.one (C.int Go.IntKind.i64 (Go.IntKind.i64.wrap (Go.IntKind.i64.wrap (x_1.snd - x_1.fst) - n_2)))]
                                                                  [Sh.agg 11]).bind
                                                              fun (x_11 : List C) =>
                                                              (asI Go.IntKind.i64 g2[4]?).bind fun (n_7 : Int) =>
                                                                (asI Go.IntKind.i64 g3[5]?).bind fun (n_8 : Int) =>
                                                                  (callD e 44
                                                                        [A.one (C.int Go.IntKind.i64 (maxI Go.Builtin.max (maxI Go.Builtin.max 0 n_3) n_4)),
                                                                          A.one
                                                                            (C.int Go.IntKind.i64
                                                                              (maxI Go.Builtin.max
                                                                                (Go.IntKind.i64.wrap
                                                                                  (Go.IntKind.i64.wrap (Go.IntKind.i64.wrap (Go.IntKind.i64.wrap (x_1.snd + x) + x_1.fst) + n) +
                                                                                    n_7))
                                                                                (Go.IntKind.i64.wrap (x_1.snd + x)))),
                                                                          A.one
                                                                            (C.int Go.IntKind.i64
                                                                              (maxI Go.Builtin.max
                                                                                (Go.IntKind.i64.wrap (n_8 - Go.IntKind.i64.wrap (Go.IntKind.i64.wrap (x_1.snd - x_1.fst) - n_2)))
                                                                                (Go.IntKind.i64.wrap (0 - x_1.snd)))),
                                                                          A.one (C.sl [x_9, x_7, x_11])]
                                                                        [Sh.agg 11]).bind
                                                                    fun (x : List C) =>
                                                                    (callD e 43 [A.agg 11 x] [Sh.agg 11, Sh.int Go.IntKind.i64]).bind fun (x : List C × Int) =>
                                                                      some (Res.ret [A.agg 11 x.1, A.one (C.int Go.IntKind.i64 x.snd)] none)
                                      else
                                        (asI Go.IntKind.i64 g2[3]?).bind fun (n_2 : Int) =>
                                          (asI Go.IntKind.i64 g3[3]?).bind fun (n_3 : Int) =>
                                            (callD e 41
                                                  [A.one (C.int Go.IntKind.i64 (maxI Go.Builtin.max (maxI Go.Builtin.max 0 n_2) n_3)), A.one (C.int Go.IntKind.i64 x),
                                                    A.one (C.int Go.IntKind.i64 0)]
                                                  [Sh.agg 11]).bind
                                              fun (x_6 : List C) =>
                                              (callD e 23 [A.agg 11 x_6, A.one (C.int Go.IntKind.i64 0), A.one (C.int Go.IntKind.i64 x_1.snd)] [Sh.agg 11]).bind
                                                fun (x_7 : List C) =>
                                                (asI Go.IntKind.i64 g2[3]?).bind fun (n_4 : Int) =>
                                                  (callD e 42 [A.one (C.int Go.IntKind.i64 (Go.IntKind.i64.wrap (maxI Go.Builtin.max (maxI Go.Builtin.max 0 n_2) n_3 - n_4)))]
                                                        [Sh.int Go.IntKind.i64]).bind
                                                    fun (x_8 : Int) =>
                                                    (callD e 23
                                                          [A.agg 11 g2, A.one (C.int Go.IntKind.i64 x_8),
                                                            A.one
                                                              (C.int Go.IntKind.i64 (Go.IntKind.i64.wrap (Go.IntKind.i64.wrap (Go.IntKind.i64.wrap (x_1.snd + x) + x_1.fst) + n)))]
                                                          [Sh.agg 11]).bind
                                                      fun (x_9 : List C) =>
                                                      (asI Go.IntKind.i64 g3[3]?).bind fun (n_5 : Int) =>
                                                        (callD e 42 [A.one (C.int Go.IntKind.i64 (Go.IntKind.i64.wrap (maxI Go.Builtin.max (maxI Go.Builtin.max 0 n_2) n_3 - n_5)))]
                                                              [Sh.int Go.IntKind.i64]).bind
                                                          fun (x_10 : Int) =>
                                                          (callD e 23 [A.agg 11 g3, A.one (C.int Go.IntKind.i64 x_10), A.one (C.int Go.IntKind.i64 (Go.IntKind.i64.wrap (0 - x_5)))]
                                                                [Sh.agg 11]).bind
                                                            fun (x_11 : List C) =>
                                                            (asI Go.IntKind.i64 g2[4]?).bind fun (n_6 : Int) =>
                                                              (asI Go.IntKind.i64 g3[5]?).bind fun (n_7 : Int) =>
                                                                (callD e 44
                                                                      [A.one (C.int Go.IntKind.i64 (maxI Go.Builtin.max (maxI Go.Builtin.max 0 n_2) n_3)),
                                                                        A.one
                                                                          (C.int Go.IntKind.i64
                                                                            (maxI Go.Builtin.max
                                                                              (Go.IntKind.i64.wrap
                                                                                (Go.IntKind.i64.wrap (Go.IntKind.i64.wrap (Go.IntKind.i64.wrap (x_1.snd + x) + x_1.fst) + n) + n_6))
                                                                              (Go.IntKind.i64.wrap (x_1.snd + x)))),
                                                                        A.one
                                                                          (C.int Go.IntKind.i64
                                                                            (maxI Go.Builtin.max (Go.IntKind.i64.wrap (n_7 - Go.IntKind.i64.wrap (0 - x_5)))
                                                                              (Go.IntKind.i64.wrap (0 - x_1.snd)))),
                                                                        A.one (C.sl [x_9, x_7, x_11])]
                                                                      [Sh.agg 11]).bind
                                                                  fun (x : List C) =>
                                                                  (callD e 43 [A.agg 11 x] [Sh.agg 11, Sh.int Go.IntKind.i64]).bind fun (x : List C × Int) =>
                                                                    some (Res.ret [A.agg 11 x.1, A.one (C.int Go.IntKind.i64 x.snd)] none)
                                else
                                  (asI Go.IntKind.i64 g3[4]?).bind fun (n : Int) =>
                                    bif decide (Go.IntKind.i64.wrap (x_1.snd - Go.IntKind.i64.wrap (Go.IntKind.i64.wrap (0 - x_5) + n)) < x_1.fst) then
                                      (asI Go.IntKind.i64 g3[4]?).bind fun (n : Int) =>
                                        (asI Go.IntKind.i64 g2[3]?).bind fun (n_1 : Int) =>
                                          (asI Go.IntKind.i64 g3[3]?).bind fun (n_2 : Int) =>
                                            (callD e 41
                                                  [A.one (C.int Go.IntKind.i64 (maxI Go.Builtin.max (maxI Go.Builtin.max 0 n_1) n_2)), A.one (C.int Go.IntKind.i64 x),
                                                    A.one (C.int Go.IntKind.i64 0)]
                                                  [Sh.agg 11]).bind
                                              fun (x_6 : List C) =>
                                              (callD e 23 [A.agg 11 x_6, A.one (C.int Go.IntKind.i64 0), A.one (C.int Go.IntKind.i64 x_1.snd)] [Sh.agg 11]).bind
                                                fun (x_7 : List C) =>
                                                (asI Go.IntKind.i64 g2[3]?).bind fun (n_3 : Int) =>
                                                  (callD e 42 [A.one (C.int Go.IntKind.i64 (Go.IntKind.i64.wrap (maxI Go.Builtin.max (maxI Go.Builtin.max 0 n_1) n_2 - n_3)))]
                                                        [Sh.int Go.IntKind.i64]).bind
                                                    fun (x_8 : Int) =>
                                                    (callD e 23 [A.agg 11 g2, A.one (C.int Go.IntKind.i64 x_8), A.one (C.int Go.IntKind.i64 x_4)] [Sh.agg 11]).bind
                                                      fun (x_9 : List C) =>
                                                      (asI Go.IntKind.i64 g3[3]?).bind fun (n_4 : Int) =>
                                                        (callD e 42 [A.one (C.int Go.IntKind.i64 (Go.IntKind.i64.wrap (maxI Go.Builtin.max (maxI Go.Builtin.max 0 n_1) n_2 - n_4)))]
                                                              [Sh.int Go.IntKind.i64]).bind
                                                          fun (x_10 : Int) =>
                                                          (callD e 23
                                                                [A.agg 11 g3, A.one (C.int Go.IntKind.i64 x_10),
                                                                  A.one (C.int Go.IntKind.i64 (Go.IntKind.i64.wrap (Go.IntKind.i64.wrap (x_1.snd - x_1.fst) - n)))]
                                                                [Sh.agg 11]).bind
                                                            fun (x_11 : List C) =>
                                                            (asI Go.IntKind.i64 g2[4]?).bind fun (n_5 : Int) =>
                                                              (asI Go.IntKind.i64 g3[5]?).bind fun (n_6 : Int) =>
                                                                (callD e 44
                                                                      [A.one (C.int Go.IntKind.i64 (maxI Go.Builtin.max (maxI Go.Builtin.max 0 n_1) n_2)),
                                                                        A.one
                                                                          (C.int Go.IntKind.i64
                                                                            (maxI Go.Builtin.max (Go.IntKind.i64.wrap (x_4 + n_5)) (Go.IntKind.i64.wrap (x_1.snd + x)))),
                                                                        A.one
                                                                          (C.int Go.IntKind.i64
                                                                            (maxI Go.Builtin.max
                                                                              (Go.IntKind.i64.wrap (n_6 - Go.IntKind.i64.wrap (Go.IntKind.i64.wrap (x_1.snd - x_1.fst) - n)))
                                                                              (Go.IntKind.i64.wrap (0 - x_1.snd)))),
                                                                        A.one (C.sl [x_9, x_7, x_11])]
                                                                      [Sh.agg 11]).bind
                                                                  fun (x : List C) =>
                                                                  (callD e 43 [A.agg 11 x] [Sh.agg 11, Sh.int Go.IntKind.i64]).bind fun (x : List C × Int) =>
                                                                    some (Res.ret [A.agg 11 x.1, A.one (C.int Go.IntKind.i64 x.snd)] none)
                                    else
                                      (asI Go.IntKind.i64 g2[3]?).bind fun (n : Int) =>
                                        (asI Go.IntKind.i64 g3[3]?).bind fun (n_1 : Int) =>
                                          (callD e 41
                                                [A.one (C.int Go.IntKind.i64 (maxI Go.Builtin.max (maxI Go.Builtin.max 0 n) n_1)), A.one (C.int Go.IntKind.i64 x),
                                                  A.one (C.int Go.IntKind.i64 0)]
                                                [Sh.agg 11]).bind
                                            fun (x_6 : List C) =>
                                            (callD e 23 [A.agg 11 x_6, A.one (C.int Go.IntKind.i64 0), A.one (C.int Go.IntKind.i64 x_1.snd)] [Sh.agg 11]).bind fun (x_7 : List C) =>
                                              (asI Go.IntKind.i64 g2[3]?).bind fun (n_2 : Int) =>
                                                (callD e 42 [A.one (C.int Go.IntKind.i64 (Go.IntKind.i64.wrap (maxI Go.Builtin.max (maxI Go.Builtin.max 0 n) n_1 - n_2)))]
                                                      [Sh.int Go.IntKind.i64]).bind
                                                  fun (x_8 : Int) =>
                                                  (callD e 23 [A.agg 11 g2, A.one (C.int Go.IntKind.i64 x_8), A.one (C.int Go.IntKind.i64 x_4)] [Sh.agg 11]).bind
                                                    fun (x_9 : List C) =>
                                                    (asI Go.IntKind.i64 g3[3]?).bind fun (n_3 : Int) =>
                                                      (callD e 42 [A.one (C.int Go.IntKind.i64 (Go.IntKind.i64.wrap (maxI Go.Builtin.max (maxI Go.Builtin.max 0 n) n_1 - n_3)))]
                                                            [Sh.int Go.IntKind.i64]).bind
                                                        fun (x_10 : Int) =>
                                                        (callD e 23 [A.agg 11 g3, A.one (C.int Go.IntKind.i64 x_10), A.one (C.int Go.IntKind.i64 (Go.IntKind.i64.wrap (0 - x_5)))]
                                                              [Sh.agg 11]).bind
                                                          fun (x_11 : List C) =>
                                                          (asI Go.IntKind.i64 g2[4]?).bind fun (n_4 : Int) =>
                                                            (asI Go.IntKind.i64 g3[5]?).bind fun (n_5 : Int) =>
                                                              (callD e 44
                                                                    [A.one (C.int Go.IntKind.i64 (maxI Go.Builtin.max (maxI Go.Builtin.max 0 n) n_1)),
                                                                      A.one
                                                                        (C.int Go.IntKind.i64
                                                                          (maxI Go.Builtin.max (Go.IntKind.i64.wrap (x_4 + n_4)) (Go.IntKind.i64.wrap (x_1.snd + x)))),
                                                                      A.one
                                                                        (C.int Go.IntKind.i64
                                                                          (maxI Go.Builtin.max (Go.IntKind.i64.wrap (n_5 - Go.IntKind.i64.wrap (0 - x_5)))
                                                                            (Go.IntKind.i64.wrap (0 - x_1.snd)))),
                                                                      A.one (C.sl [x_9, x_7, x_11])]
                                                                    [Sh.agg 11]).bind
                                                                fun (x : List C) =>
                                                                (callD e 43 [A.agg 11 x] [Sh.agg 11, Sh.int Go.IntKind.i64]).bind fun (x : List C × Int) =>
                                                                  some (Res.ret [A.agg 11 x.1, A.one (C.int Go.IntKind.i64 x.snd)] none)
                    else
                      (asI Go.IntKind.i64 g2[5]?).bind fun (n : Int) =>
                        bif decide (Go.IntKind.i64.wrap (Go.IntKind.i64.wrap (x_2 - n) - Go.IntKind.i64.wrap (x_1.snd + x)) < x_1.fst) then
                          (asI Go.IntKind.i64 g2[5]?).bind fun (n : Int) =>
                            (asI Go.IntKind.i64 g3[4]?).bind fun (n_1 : Int) =>
                              bif decide (Go.IntKind.i64.wrap (x_1.snd - Go.IntKind.i64.wrap (Go.IntKind.i64.wrap (0 - x_3) + n_1)) < x_1.fst) then
                                (asI Go.IntKind.i64 g3[4]?).bind fun (n_2 : Int) =>
                                  (asI Go.IntKind.i64 g2[3]?).bind fun (n_3 : Int) =>
                                    (asI Go.IntKind.i64 g3[3]?).bind fun (n_4 : Int) =>
                                      (callD e 41
                                            [A.one (C.int Go.IntKind.i64 (maxI Go.Builtin.max (maxI Go.Builtin.max 0 n_3) n_4)), A.one (C.int Go.IntKind.i64 x),
                                              A.one (C.int Go.IntKind.i64 0)]
                                            [Sh.agg 11]).bind
                                        fun (x_4 : List C) =>
                                        (callD e 23 [A.agg 11 x_4, A.one (C.int Go.IntKind.i64 0), A.one (C.int Go.IntKind.i64 x_1.snd)] [Sh.agg 11]).bind fun (x_5 : List C) =>
                                          (asI Go.IntKind.i64 g2[3]?).bind fun (n_5 : Int) =>
                                            (callD e 42 [A.one (C.int Go.IntKind.i64 (Go.IntKind.i64.wrap (maxI Go.Builtin.max (maxI Go.Builtin.max 0 n_3) n_4 - n_5)))]
                                                  [Sh.int Go.IntKind.i64]).bind
                                              fun (x_6 : Int) =>
                                              (callD e 23
                                                    [A.agg 11 g2, A.one (C.int Go.IntKind.i64 x_6),
                                                      A.one (C.int Go.IntKind.i64 (Go.IntKind.i64.wrap (Go.IntKind.i64.wrap (Go.IntKind.i64.wrap (x_1.snd + x) + x_1.fst) + n)))]
                                                    [Sh.agg 11]).bind
                                                fun (x_7 : List C) =>
                                                (asI Go.IntKind.i64 g3[3]?).bind fun (n_6 : Int) =>
                                                  (callD e 42 [A.one (C.int Go.IntKind.i64 (Go.IntKind.i64.wrap (maxI Go.Builtin.max (maxI Go.Builtin.max 0 n_3) n_4 - n_6)))]
                                                        [Sh.int Go.IntKind.i64]).bind
                                                    fun (x_8 : Int) =>
                                                    (callD e 23
                                                          [A.agg 11 g3, A.one (C.int Go.IntKind.i64 x_8),
                                                            A.one (C.int Go.IntKind.i64 (Go.IntKind.i64.wrap (Go.IntKind.i64.wrap (x_1.snd - x_1.fst) - n_2)))]
                                                          [Sh.agg 11]).bind
                                                      fun (x_9 : List C) =>
                                                      (asI Go.IntKind.i64 g2[4]?).bind fun (n_7 : Int) =>
                                                        (asI Go.IntKind.i64 g3[5]?).bind fun (n_8 : Int) =>
                                                          (callD e 44
                                                                [A.one (C.int Go.IntKind.i64 (maxI Go.Builtin.max (maxI Go.Builtin.max 0 n_3) n_4)),
                                                                  A.one
                                                                    (C.int Go.IntKind.i64
                                                                      (maxI Go.Builtin.max
                                                                        (Go.IntKind.i64.wrap
                                                                          (Go.IntKind.i64.wrap (Go.IntKind.i64.wrap (Go.IntKind.i64.wrap (x_1.snd + x) + x_1.fst) + n) + n_7))
                                                                        (Go.IntKind.i64.wrap (x_1.snd + x)))),
                                                                  A.one
                                                                    (C.int Go.IntKind.i64
                                                                      (maxI Go.Builtin.max
                                                                        (Go.IntKind.i64.wrap (n_8 - Go.IntKind.i64.wrap (Go.IntKind.i64.wrap (x_1.snd - x_1.fst) - n_2)))
                                                                        (Go.IntKind.i64.wrap (0 - x_1.snd)))),
                                                                  A.one (C.sl [x_7, x_5, x_9])]
                                                                [Sh.agg 11]).bind
                                                            fun (x : List C) =>
                                                            (callD e 43 [A.agg 11 x] [Sh.agg 11, Sh.int Go.IntKind.i64]).bind fun (x : List C × Int) =>
                                                              some (Res.ret [A.agg 11 x.1, A.one (C.int Go.IntKind.i64 x.snd)] none)
                              else
                                (asI Go.IntKind.i64 g2[3]?).bind fun (n_2 : Int) =>
                                  (asI Go.IntKind.i64 g3[3]?).bind fun (n_3 : Int) =>
                                    (callD e 41
                                          [A.one (C.int Go.IntKind.i64 (maxI Go.Builtin.max (maxI Go.Builtin.max 0 n_2) n_3)), A.one (C.int Go.IntKind.i64 x),
                                            A.one (C.int Go.IntKind.i64 0)]
                                          [Sh.agg 11]).bind
                                      fun (x_4 : List C) =>
                                      (callD e 23 [A.agg 11 x_4, A.one (C.int Go.IntKind.i64 0), A.one (C.int Go.IntKind.i64 x_1.snd)] [Sh.agg 11]).bind fun (x_5 : List C) =>
                                        (asI Go.IntKind.i64 g2[3]?).bind fun (n_4 : Int) =>
                                          (callD e 42 [A.one (C.int Go.IntKind.i64 (Go.IntKind.i64.wrap (maxI Go.Builtin.max (maxI Go.Builtin.max 0 n_2) n_3 - n_4)))]
                                                [Sh.int Go.IntKind.i64]).bind
                                            fun (x_6 : Int) =>
                                            (callD e 23
                                                  [A.agg 11 g2, A.one (C.int Go.IntKind.i64 x_6),
                                                    A.one (C.int Go.IntKind.i64 (Go.IntKind.i64.wrap (Go.IntKind.i64.wrap (Go.IntKind.i64.wrap (x_1.snd + x) + x_1.fst) + n)))]
                                                  [Sh.agg 11]).bind
                                              fun (x_7 : List C) =>
                                              (asI Go.IntKind.i64 g3[3]?).bind fun (n_5 : Int) =>
                                                (callD e 42 [A.one (C.int Go.IntKind.i64 (Go.IntKind.i64.wrap (maxI Go.Builtin.max (maxI Go.Builtin.max 0 n_2) n_3 - n_5)))]
                                                      [Sh.int Go.IntKind.i64]).bind
                                                  fun (x_8 : Int) =>
                                                  (callD e 23 [A.agg 11 g3, A.one (C.int Go.IntKind.i64 x_8), A.one (C.int Go.IntKind.i64 (Go.IntKind.i64.wrap (0 - x_3)))]
                                                        [Sh.agg 11]).bind
                                                    fun (x_9 : List C) =>
                                                    (asI Go.IntKind.i64 g2[4]?).bind fun (n_6 : Int) =>
                                                      (asI Go.IntKind.i64 g3[5]?).bind fun (n_7 : Int) =>
                                                        (callD e 44
                                                              [A.one (C.int Go.IntKind.i64 (maxI Go.Builtin.max (maxI Go.Builtin.max 0 n_2) n_3)),
                                                                A.one
                                                                  (C.int Go.IntKind.i64
                                                                    (maxI Go.Builtin.max
                                                                      (Go.IntKind.i64.wrap
                                                                        (Go.IntKind.i64.wrap (Go.IntKind.i64.wrap (Go.IntKind.i64.wrap (x_1.snd + x) + x_1.fst) + n) + n_6))
                                                                      (Go.IntKind.i64.wrap (x_1.snd + x)))),
                                                                A.one
                                                                  (C.int Go.IntKind.i64
                                                                    (maxI Go.Builtin.max (Go.IntKind.i64.wrap (n_7 - Go.IntKind.i64.wrap (0 - x_3)))
                                                                      (Go.IntKind.i64.wrap (0 - x_1.snd)))),
                                                                A.one (C.sl [x_7, x_5, x_9])]
                                                              [Sh.agg 11]).bind
                                                          fun (x : List C) =>
                                                          (callD e 43 [A.agg 11 x] [Sh.agg 11, Sh.int Go.IntKind.i64]).bind fun (x : List C × Int) =>
                                                            some (Res.ret [A.agg 11 x.1, A.one (C.int Go.IntKind.i64 x.snd)] none)
                        else
                          (asI Go.IntKind.i64 g3[4]?).bind fun (n : Int) =>
                            bif decide (Go.IntKind.i64.wrap (x_1.snd - Go.IntKind.i64.wrap (Go.IntKind.i64.wrap (0 - x_3) + n)) < x_1.fst) then
                              (asI Go.IntKind.i64 g3[4]?).bind fun (n : Int) =>
                                (asI Go.IntKind.i64 g2[3]?).bind fun (n_1 : Int) =>
                                  (asI Go.IntKind.i64 g3[3]?).bind fun (n_2 : Int) =>
                                    (callD e 41
                                          [A.one (C.int Go.IntKind.i64 (maxI Go.Builtin.max (maxI Go.Builtin.max 0 n_1) n_2)), A.one (C.int Go.IntKind.i64 x),
                                            A.one (C.int Go.IntKind.i64 0)]
                                          [Sh.agg 11]).bind
                                      fun (x_4 : List C) =>
                                      (callD e 23 [A.agg 11 x_4, A.one (C.int Go.IntKind.i64 0), A.one (C.int Go.IntKind.i64 x_1.snd)] [Sh.agg 11]).bind fun (x_5 : List C) =>
                                        (asI Go.IntKind.i64 g2[3]?).bind fun (n_3 : Int) =>
                                          (callD e 42 [A.one (C.int Go.IntKind.i64 (Go.IntKind.i64.wrap (maxI Go.Builtin.max (maxI Go.Builtin.max 0 n_1) n_2 - n_3)))]
                                                [Sh.int Go.IntKind.i64]).bind
                                            fun (x_6 : Int) =>
                                            (callD e 23 [A.agg 11 g2, A.one (C.int Go.IntKind.i64 x_6), A.one (C.int Go.IntKind.i64 x_2)] [Sh.agg 11]).bind fun (x_7 : List C) =>
                                              (asI Go.IntKind.i64 g3[3]?).bind fun (n_4 : Int) =>
                                                (callD e 42 [A.one (C.int Go.IntKind.i64 (Go.IntKind.i64.wrap (maxI Go.Builtin.max (maxI Go.Builtin.max 0 n_1) n_2 - n_4)))]
                                                      [Sh.int Go.IntKind.i64]).bind
                                                  fun (x_8 : Int) =>
                                                  (callD e 23
                                                        [A.agg 11 g3, A.one (C.int Go.IntKind.i64 x_8),
                                                          A.one (C.int Go.IntKind.i64 (Go.IntKind.i64.wrap (Go.IntKind.i64.wrap (x_1.snd - x_1.fst) - n)))]
                                                        [Sh.agg 11]).bind
                                                    fun (x_9 : List C) =>
                                                    (asI Go.IntKind.i64 g2[4]?).bind fun (n_5 : Int) =>
                                                      (asI Go.IntKind.i64 g3[5]?).bind fun (n_6 : Int) =>
                                                        (callD e 44
                                                              [A.one (C.int Go.IntKind.i64 (maxI Go.Builtin.max (maxI Go.Builtin.max 0 n_1) n_2)),
                                                                A.one
                                                                  (C.int Go.IntKind.i64
                                                                    (maxI Go.Builtin.max (Go.IntKind.i64.wrap (x_2 + n_5)) (Go.IntKind.i64.wrap (x_1.snd + x)))),
                                                                A.one
                                                                  (C.int Go.IntKind.i64
                                                                    (maxI Go.Builtin.max
                                                                      (Go.IntKind.i64.wrap (n_6 - Go.IntKind.i64.wrap (Go.IntKind.i64.wrap (x_1.snd - x_1.fst) - n)))
                                                                      (Go.IntKind.i64.wrap (0 - x_1.snd)))),
                                                                A.one (C.sl [x_7, x_5, x_9])]
                                                              [Sh.agg 11]).bind
                                                          fun (x : List C) =>
                                                          (callD e 43 [A.agg 11 x] [Sh.agg 11, Sh.int Go.IntKind.i64]).bind fun (x : List C × Int) =>
                                                            some (Res.ret [A.agg 11 x.1, A.one (C.int Go.IntKind.i64 x.snd)] none)
                            else
                              (asI Go.IntKind.i64 g2[3]?).bind fun (n : Int) =>
                                (asI Go.IntKind.i64 g3[3]?).bind fun (n_1 : Int) =>
                                  (callD e 41
                                        [A.one (C.int Go.IntKind.i64 (maxI Go.Builtin.max (maxI Go.Builtin.max 0 n) n_1)), A.one (C.int Go.IntKind.i64 x),
                                          A.one (C.int Go.IntKind.i64 0)]
                                        [Sh.agg 11]).bind
                                    fun (x_4 : List C) =>
                                    (callD e 23 [A.agg 11 x_4, A.one (C.int Go.IntKind.i64 0), A.one (C.int Go.IntKind.i64 x_1.snd)] [Sh.agg 11]).bind fun (x_5 : List C) =>
                                      (asI Go.IntKind.i64 g2[3]?).bind fun (n_2 : Int) =>
                                        (callD e 42 [A.one (C.int Go.IntKind.i64 (Go.IntKind.i64.wrap (maxI Go.Builtin.max (maxI Go.Builtin.max 0 n) n_1 - n_2)))]
                                              [Sh.int Go.IntKind.i64]).bind
                                          fun (x_6 : Int) =>
                                          (callD e 23 [A.agg 11 g2, A.one (C.int Go.IntKind.i64 x_6), A.one (C.int Go.IntKind.i64 x_2)] [Sh.agg 11]).bind fun (x_7 : List C) =>
                                            (asI Go.IntKind.i64 g3[3]?).bind fun (n_3 : Int) =>
                                              (callD e 42 [A.one (C.int Go.IntKind.i64 (Go.IntKind.i64.wrap (maxI Go.Builtin.max (maxI Go.Builtin.max 0 n) n_1 - n_3)))]
                                                    [Sh.int Go.IntKind.i64]).bind
                                                fun (x_8 : Int) =>
                                                (callD e 23 [A.agg 11 g3, A.one (C.int Go.IntKind.i64 x_8), A.one (C.int Go.IntKind.i64 (Go.IntKind.i64.wrap (0 - x_3)))]
                                                      [Sh.agg 11]).bind
                                                  fun (x_9 : List C) =>
                                                  (asI Go.IntKind.i64 g2[4]?).bind fun (n_4 : Int) =>
                                                    (asI Go.IntKind.i64 g3[5]?).bind fun (n_5 : Int) =>
                                                      (callD e 44
                                                            [A.one (C.int Go.IntKind.i64 (maxI Go.Builtin.max (maxI Go.Builtin.max 0 n) n_1)),
                                                              A.one
                                                                (C.int Go.IntKind.i64 (maxI Go.Builtin.max (Go.IntKind.i64.wrap (x_2 + n_4)) (Go.IntKind.i64.wrap (x_1.snd + x)))),
                                                              A.one
                                                                (C.int Go.IntKind.i64
                                                                  (maxI Go.Builtin.max (Go.IntKind.i64.wrap (n_5 - Go.IntKind.i64.wrap (0 - x_3)))
                                                                    (Go.IntKind.i64.wrap (0 - x_1.snd)))),
                                                              A.one (C.sl [x_7, x_5, x_9])]
                                                            [Sh.agg 11]).bind
                                                        fun (x : List C) =>
                                                        (callD e 43 [A.agg 11 x] [Sh.agg 11, Sh.int Go.IntKind.i64]).bind fun (x : List C × Int) =>
                                                          some (Res.ret [A.agg 11 x.1, A.one (C.int Go.IntKind.i64 x.snd)] none)
theorem R17_eq (n : Nat) (g0 : List C) (g1 : List C) (g2 : List C) (g3 : List C) : (eng Try.prog hs (n + 1)).call 17 [A.agg 22 g0, A.agg 2 g1, A.agg 11 g2, A.agg 11 g3] none = R17 (eng Try.prog hs n) g0 g1 g2 g3 := by kernel_rfl
noncomputable def R20 (e : Eng) (g0 : List C) (g1 : List C) : Option Res :=
  (asI Go.IntKind.i64 g0[5]?).bind fun (n : Int) =>
  (callD e 21 [A.agg 22 g0, A.agg 2 g1, A.one (C.int Go.IntKind.i64 n)] [Sh.int Go.IntKind.i64]).bind fun (x : Int) =>
    (asI Go.IntKind.i64 g0[4]?).bind fun (n : Int) =>
      (callD e 21 [A.agg 22 g0, A.agg 2 g1, A.one (C.int Go.IntKind.i64 n)] [Sh.int Go.IntKind.i64]).bind fun (x_1 : Int) =>
        (callD e 42 [A.one (C.int Go.IntKind.i64 x)] [Sh.int Go.IntKind.i64]).bind fun (x_2 : Int) =>
          (asI Go.IntKind.i64 g1[0]?).bind fun (n : Int) =>
            bif n == 0 then some (Res.ret [A.one (C.int Go.IntKind.i64 (Go.IntKind.i64.wrap (3 * x))), A.one (C.int Go.IntKind.i64 (Go.IntKind.i64.wrap (x_1 - x_2)))] none)
            else some (Res.ret [A.one (C.int Go.IntKind.i64 x), A.one (C.int Go.IntKind.i64 (Go.IntKind.i64.wrap (x_1 - x_2)))] none)
theorem R20_eq (n : Nat) (g0 : List C) (g1 : List C) : (eng Try.prog hs (n + 1)).call 20 [A.agg 22 g0, A.agg 2 g1] none = R20 (eng Try.prog hs n) g0 g1 := by kernel_rfl
noncomputable def R21 (e : Eng) (g0 : List C) (g1 : List C) (n2 : Int) : Option Res :=
  (callD e 48 [A.agg 22 g0, A.agg 2 g1] [Sh.int Go.IntKind.i64]).bind fun (x : Int) =>
  (callD e 47 [A.one (C.int Go.IntKind.i64 n2), A.one (C.int Go.IntKind.i64 x)] [Sh.int Go.IntKind.i64]).bind fun (x : Int) => some (Res.ret [A.one (C.int Go.IntKind.i64 x)] none)
theorem R21_eq (n : Nat) (g0 : List C) (g1 : List C) (n2 : Int) : (eng Try.prog hs (n + 1)).call 21 [A.agg 22 g0, A.agg 2 g1, A.one (C.int Go.IntKind.i64 n2)] none = R21 (eng Try.prog hs n) g0 g1 n2 := by kernel_rfl
noncomputable def S40_4 (x2 : List (List C)) (x7 : Int) : St :=
  St.mk 40 28 [(2, V.c (C.sl x2)), (7, V.c (C.int Go.IntKind.i64 x7))] [] none 0 []
noncomputable def R40 (e : Eng) (g0 : List C) (g1 : List C) (l2 : List (List C)) : Option Res :=
  (callD e 64 [A.agg 22 g0] [Sh.bool]).bind fun (x : Bool) =>
  bif !x then some (Res.ret [A.one (C.int Go.IntKind.i64 1)] none)
  else (callD e 65 [A.agg 2 g1] [Sh.bool]).bind fun (x : Bool) => bif !x then some (Res.ret [A.one (C.int Go.IntKind.i64 1)] none) else e.loop (lp Try.f40 4) (S40_4 l2 0)
theorem R40_eq (n : Nat) (g0 : List C) (g1 : List C) (l2 : List (List C)) : (eng Try.prog hs (n + 1)).call 40 [A.agg 22 g0, A.agg 2 g1, A.one (C.sl l2)] none = R40 (eng Try.prog hs n) g0 g1 l2 := by kernel_rfl
noncomputable def L40_4 (e : Eng) (x2 : List (List C)) (x7 : Int) : Option Res :=
  bif decide (x7 < (↑x2.length : Int)) then
  bif true && decide (0 ≤ x7) then
    x2[x7.toNat]?.bind fun (cs : List C) =>
      bif cs.length.beq 11 then
        bif cs.length.beq 11 then
          (callD e 66 [A.agg 11 cs] [Sh.bool]).bind fun (x : Bool) =>
            bif !x then some (Res.ret [A.one (C.int Go.IntKind.i64 1)] none) else e.loop (lp Try.f40 4) (S40_4 x2 (Go.IntKind.i64.wrap (x7 + 1)))
        else
          bif Nat.ble 11 cs.length then
            (callD e 66 [A.agg 11 (List.take 11 cs)] [Sh.bool]).bind fun (x : Bool) =>
              bif !x then some (Res.ret [A.one (C.int Go.IntKind.i64 1)] none) else e.loop (lp Try.f40 4) (S40_4 x2 (Go.IntKind.i64.wrap (x7 + 1)))
          else none
      else none
  else none
else some (Res.ret [A.one (C.int Go.IntKind.i64 0)] none)
theorem L40_4_eq (n : Nat) (x2 : List (List C)) (x7 : Int) : (eng Try.prog hs (n + 1)).loop (lp Try.f40 4) (S40_4 x2 x7) = L40_4 (eng Try.prog hs n) x2 x7 := by kernel_rfl
noncomputable def R42 (e : Eng) (n0 : Int) : Option Res :=
  (callD e 67 [A.one (C.int Go.IntKind.i64 n0)] [Sh.int Go.IntKind.i64]).bind fun (x : Int) => some (Res.ret [A.one (C.int Go.IntKind.i64 x)] none)
theorem R42_eq (n : Nat) (n0 : Int) : (eng Try.prog hs (n + 1)).call 42 [A.one (C.int Go.IntKind.i64 n0)] none = R42 (eng Try.prog hs n) n0 := by kernel_rfl
noncomputable def R43 (e : Eng) (g0 : List C) : Option Res :=
  (callD e 66 [A.agg 11 g0] [Sh.bool]).bind fun (x : Bool) =>
  bif !x then
    some
      (Res.ret
        [A.agg 11
            [C.int Go.IntKind.i64 0, C.str (ByteArray.mk #[]), C.int Go.IntKind.i64 0, C.int Go.IntKind.i64 0, C.int Go.IntKind.i64 0, C.int Go.IntKind.i64 0,
              C.int Go.IntKind.i64 0, C.int Go.IntKind.i64 0, C.sl [], C.int Go.IntKind.i64 0, C.sl []],
          A.one (C.int Go.IntKind.i64 6)]
        none)
  else some (Res.ret [A.agg 11 g0, A.one (C.int Go.IntKind.i64 0)] none)
theorem R43_eq (n : Nat) (g0 : List C) : (eng Try.prog hs (n + 1)).call 43 [A.agg 11 g0] none = R43 (eng Try.prog hs n) g0 := by kernel_rfl
noncomputable def S46_3 (x3 : Nat) (x4 : Int) (h1001 : List C) (h1015 : List (List C)) : St :=
  St.mk 46 36 [(1, V.ptr 1001 0), (3, V.own 1015 x3 1), (4, V.c (C.int Go.IntKind.i64 x4))] [(1001, Slot.live (Blk.pc 11 h1001) false), (1015, Slot.live (Blk.arr 1 h1015) false)]
  none 0 []
noncomputable def R46 (e : Eng) (g0 : List C) : Option Res :=
  (asI Go.IntKind.i64 g0[3]?).bind fun (n : Int) =>
  (asI Go.IntKind.i64 g0[4]?).bind fun (n_1 : Int) =>
    (asI Go.IntKind.i64 g0[5]?).bind fun (n_2 : Int) =>
      (asI Go.IntKind.i64 g0[6]?).bind fun (n_3 : Int) =>
        (asI Go.IntKind.i64 g0[7]?).bind fun (n_4 : Int) =>
          e.loop (lp Try.f46 3)
            (S46_3 5 0 g0 [[C.int Go.IntKind.i64 n], [C.int Go.IntKind.i64 n_1], [C.int Go.IntKind.i64 n_2], [C.int Go.IntKind.i64 n_3], [C.int Go.IntKind.i64 n_4]])
theorem R46_eq (n : Nat) (g0 : List C) : (eng Try.prog hs (n + 1)).call 46 [A.agg 11 g0] none = R46 (eng Try.prog hs n) g0 := by kernel_rfl
noncomputable def L46_3 (e : Eng) (x3 : Nat) (x4 : Int) (h1001 : List C) (h1015 : List (List C)) : Option Res :=
  bif decide (x4 < (↑x3 : Int)) then
  bif true && decide (0 ≤ x4) && decide (x4 < (↑x3 : Int)) then
    h1015[x4.toNat]?.bind fun (cs : List C) =>
      (asI Go.IntKind.i64 cs[0]?).bind fun (n : Int) =>
        bif decide (n < -100000000) then some (Res.ret [A.one (C.bool false)] none)
        else
          bif true && decide (0 ≤ x4) && decide (x4 < (↑x3 : Int)) then
            h1015[x4.toNat]?.bind fun (cs : List C) =>
              (asI Go.IntKind.i64 cs[0]?).bind fun (n : Int) =>
                bif decide (n > 100000000) then some (Res.ret [A.one (C.bool false)] none) else e.loop (lp Try.f46 3) (S46_3 x3 (Go.IntKind.i64.wrap (x4 + 1)) h1001 h1015)
          else none
  else none
else (callD e 32 [A.agg 11 h1001, A.one (C.int Go.IntKind.i64 200)] [Sh.bool]).bind fun (x : Bool) => some (Res.ret [A.one (C.bool x)] none)
theorem L46_3_eq (n : Nat) (x3 : Nat) (x4 : Int) (h1001 : List C) (h1015 : List (List C)) : (eng Try.prog hs (n + 1)).loop (lp Try.f46 3) (S46_3 x3 x4 h1001 h1015) = L46_3 (eng Try.prog hs n) x3 x4 h1001 h1015 := by kernel_rfl
end Go.Proofs.Ytbhojnofdeihdaa.E
