/- What is shown here: what functions of the program come to, read off by the evaluator (printed by a program of this session's, checked by the kernel). -/
import Derived.Test.YtbhojnofdeihdaaEH0
import Derived.WalkKit
import Derived.ProofKit
namespace Go.Proofs.Ytbhojnofdeihdaa.E
open Go.Proofs
set_option autoImplicit false
set_option linter.unusedVariables false
set_option maxRecDepth 100000
noncomputable def R14 (e : Eng) : Option Res :=
  (callD e 16
      [A.agg 22
          [C.sl [], C.sl [], C.int Go.IntKind.i64 0, C.int Go.IntKind.i64 0, C.int Go.IntKind.i64 250, C.int Go.IntKind.i64 40, C.int Go.IntKind.i64 677, C.int Go.IntKind.i64 0,
            C.int Go.IntKind.i64 686, C.int Go.IntKind.i64 0, C.int Go.IntKind.i64 0, C.int Go.IntKind.i64 0, C.int Go.IntKind.i64 0, C.int Go.IntKind.i64 0,
            C.int Go.IntKind.i64 0, C.int Go.IntKind.i64 0, C.int Go.IntKind.i64 0, C.int Go.IntKind.i64 70, C.int Go.IntKind.i64 50, C.int Go.IntKind.i64 90,
            C.int Go.IntKind.i64 0, C.int Go.IntKind.i64 0],
        A.agg 2 [C.int Go.IntKind.i64 0, C.bool false],
        A.agg 11
          [C.int Go.IntKind.i64 2, C.str (ByteArray.mk #[]), C.int Go.IntKind.i64 0, C.int Go.IntKind.i64 10, C.int Go.IntKind.i64 0, C.int Go.IntKind.i64 300,
            C.int Go.IntKind.i64 0, C.int Go.IntKind.i64 0, C.sl [], C.int Go.IntKind.i64 0, C.sl []],
        A.agg 11
          [C.int Go.IntKind.i64 2, C.str (ByteArray.mk #[]), C.int Go.IntKind.i64 0, C.int Go.IntKind.i64 0, C.int Go.IntKind.i64 0, C.int Go.IntKind.i64 0, C.int Go.IntKind.i64 0,
            C.int Go.IntKind.i64 0, C.sl [], C.int Go.IntKind.i64 0, C.sl []]]
      [Sh.agg 11, Sh.int Go.IntKind.i64]).bind
  fun (x : List C × Int) =>
  bif x.snd == 0 then
    (asL x.1[8]?).bind fun (l : List (List C)) =>
      bif (↑l.length : Int) == 3 then
        (asL x.1[8]?).bind fun (l : List (List C)) =>
          l[0]?.bind fun (cs : List C) =>
            bif cs.length.beq 11 then
              (asI Go.IntKind.i64 cs[7]?).bind fun (n : Int) =>
                bif n == 690 then
                  (asL x.1[8]?).bind fun (l : List (List C)) =>
                    l[1]?.bind fun (cs : List C) =>
                      bif cs.length.beq 11 then
                        (asI Go.IntKind.i64 cs[7]?).bind fun (n : Int) =>
                          bif n == 230 then (asI Go.IntKind.i64 x.1[3]?).bind fun (n : Int) => some (Res.ret [A.one (C.bool (n == 10))] none)
                          else some (Res.ret [A.one (C.bool false)] none)
                      else none
                else some (Res.ret [A.one (C.bool false)] none)
            else none
      else some (Res.ret [A.one (C.bool false)] none)
  else some (Res.ret [A.one (C.bool false)] none)
theorem R14_eq (n : Nat) : (eng Try.prog hs (n + 1)).call 14 [] (none) = R14 (eng Try.prog hs n) := by kernel_rfl
noncomputable def R15 (e : Eng) (g0 : List C) : Option Res :=
  (callD e 31 [A.agg 22 (List.take 22 g0)] [Sh.bool]).bind fun (x : Bool) =>
  bif x then
    (callD e 32 [A.agg 11 (List.take 11 (List.drop 24 g0)), A.one (C.int Go.IntKind.i64 200)] [Sh.bool]).bind fun (x : Bool) =>
      bif x then (callD e 32 [A.agg 11 (List.take 11 (List.drop 35 g0)), A.one (C.int Go.IntKind.i64 200)] [Sh.bool]).bind fun (x : Bool) => some (Res.ret [A.one (C.bool x)] none)
      else some (Res.ret [A.one (C.bool false)] none)
  else some (Res.ret [A.one (C.bool false)] none)
theorem R15_eq (n : Nat) (g0 : List C) : (eng Try.prog hs (n + 1)).call 15 [A.agg 46 g0] (none) = R15 (eng Try.prog hs n) g0 := by kernel_rfl
noncomputable def R19 (e : Eng) (g0 : List C) : Option Res :=
  (callD e 15 [A.agg 46 g0] [Sh.bool]).bind fun (x : Bool) =>
  bif !x then
    some
      (Res.ret
        [A.agg 11
            [C.int Go.IntKind.i64 0, C.str (ByteArray.mk #[]), C.int Go.IntKind.i64 0, C.int Go.IntKind.i64 0, C.int Go.IntKind.i64 0, C.int Go.IntKind.i64 0,
              C.int Go.IntKind.i64 0, C.int Go.IntKind.i64 0, C.sl [], C.int Go.IntKind.i64 0, C.sl []],
          A.one (C.bool false)]
        none)
  else
    (callD e 46 [A.agg 11 (List.take 11 (List.drop 24 g0))] [Sh.bool]).bind fun (x : Bool) =>
      bif !x then
        some
          (Res.ret
            [A.agg 11
                [C.int Go.IntKind.i64 0, C.str (ByteArray.mk #[]), C.int Go.IntKind.i64 0, C.int Go.IntKind.i64 0, C.int Go.IntKind.i64 0, C.int Go.IntKind.i64 0,
                  C.int Go.IntKind.i64 0, C.int Go.IntKind.i64 0, C.sl [], C.int Go.IntKind.i64 0, C.sl []],
              A.one (C.bool false)]
            none)
      else
        (callD e 46 [A.agg 11 (List.take 11 (List.drop 35 g0))] [Sh.bool]).bind fun (x : Bool) =>
          bif !x then
            some
              (Res.ret
                [A.agg 11
                    [C.int Go.IntKind.i64 0, C.str (ByteArray.mk #[]), C.int Go.IntKind.i64 0, C.int Go.IntKind.i64 0, C.int Go.IntKind.i64 0, C.int Go.IntKind.i64 0,
                      C.int Go.IntKind.i64 0, C.int Go.IntKind.i64 0, C.sl [], C.int Go.IntKind.i64 0, C.sl []],
                  A.one (C.bool false)]
                none)
          else
            (callD e 16 [A.agg 22 (List.take 22 g0), A.agg 2 (List.take 2 (List.drop 22 g0)), A.agg 11 (List.take 11 (List.drop 24 g0)), A.agg 11 (List.take 11 (List.drop 35 g0))]
                  [Sh.agg 11, Sh.int Go.IntKind.i64]).bind
              fun (x : List C × Int) =>
              bif x.snd == 0 then (asL x.1[8]?).bind fun (l : List (List C)) => some (Res.ret [A.agg 11 x.1, A.one (C.bool ((↑l.length : Int) == 3))] none)
              else some (Res.ret [A.agg 11 x.1, A.one (C.bool false)] none)
theorem R19_eq (n : Nat) (g0 : List C) : (eng Try.prog hs (n + 1)).call 19 [A.agg 46 g0] (none) = R19 (eng Try.prog hs n) g0 := by kernel_rfl
noncomputable def R3 (e : Eng) (g0 : List C) : Option Res :=
  (callD e 14 [] [Sh.bool]).bind fun (x : Bool) =>
  bif !x then some (Res.ret [A.one (C.bool false)] none)
  else
    (callD e 15 [A.agg 46 g0] [Sh.bool]).bind fun (x : Bool) =>
      bif !x then some (Res.ret [A.one (C.bool true)] none)
      else
        (callD e 16 [A.agg 22 (List.take 22 g0), A.agg 2 (List.take 2 (List.drop 22 g0)), A.agg 11 (List.take 11 (List.drop 24 g0)), A.agg 11 (List.take 11 (List.drop 35 g0))]
              [Sh.agg 11, Sh.int Go.IntKind.i64]).bind
          fun (x : List C × Int) =>
          (callD e 17 [A.agg 22 (List.take 22 g0), A.agg 2 (List.take 2 (List.drop 22 g0)), A.agg 11 (List.take 11 (List.drop 24 g0)), A.agg 11 (List.take 11 (List.drop 35 g0))]
                [Sh.agg 11, Sh.int Go.IntKind.i64]).bind
            fun (x_1 : List C × Int) =>
            bif x.snd == x_1.snd then (callD e 18 [A.agg 11 x.1, A.agg 11 x_1.1] [Sh.bool]).bind fun (x : Bool) => some (Res.ret [A.one (C.bool x)] none)
            else some (Res.ret [A.one (C.bool false)] none)
theorem R3_eq (n : Nat) (g0 : List C) : (eng Try.prog hs (n + 1)).call 3 [A.agg 46 g0] (none) = R3 (eng Try.prog hs n) g0 := by kernel_rfl
noncomputable def R4 (e : Eng) (g0 : List C) : Option Res :=
  (callD e 14 [] [Sh.bool]).bind fun (x : Bool) =>
  bif !x then some (Res.ret [A.one (C.bool false)] none)
  else
    (callD e 19 [A.agg 46 g0] [Sh.agg 11, Sh.bool]).bind fun (x : List C × Bool) =>
      bif !x.snd then some (Res.ret [A.one (C.bool true)] none)
      else
        (asL x.1[8]?).bind fun (l : List (List C)) =>
          l[0]?.bind fun (cs : List C) =>
            bif cs.length.beq 11 then
              bif cs.length.beq 11 then
                (asL x.1[8]?).bind fun (l : List (List C)) =>
                  l[1]?.bind fun (cs_1 : List C) =>
                    bif cs_1.length.beq 11 then
                      bif cs_1.length.beq 11 then
                        (asL x.1[8]?).bind fun (l : List (List C)) =>
                          l[2]?.bind fun (cs_2 : List C) =>
                            bif cs_2.length.beq 11 then
                              bif cs_2.length.beq 11 then
                                (callD e 20 [A.agg 22 (List.take 22 g0), A.agg 2 (List.take 2 (List.drop 22 g0))] [Sh.int Go.IntKind.i64, Sh.int Go.IntKind.i64]).bind
                                  fun (x : Int × Int) =>
                                  (asI Go.IntKind.i64 cs_1[7]?).bind fun (n : Int) =>
                                    bif n == x.snd then
                                      (asI Go.IntKind.i64 cs[7]?).bind fun (n : Int) =>
                                        (asI Go.IntKind.i64 cs[5]?).bind fun (n_1 : Int) =>
                                          (asI Go.IntKind.i64 cs_1[7]?).bind fun (n_2 : Int) =>
                                            (asI Go.IntKind.i64 cs_1[4]?).bind fun (n_3 : Int) =>
                                              bif decide (Go.IntKind.i64.wrap (Go.IntKind.i64.wrap (n - n_1) - Go.IntKind.i64.wrap (n_2 + n_3)) ≥ x.fst) then
                                                (asI Go.IntKind.i64 cs_1[7]?).bind fun (n : Int) =>
                                                  (asI Go.IntKind.i64 cs_2[7]?).bind fun (n_4 : Int) =>
                                                    (asI Go.IntKind.i64 cs_2[4]?).bind fun (n_5 : Int) =>
                                                      some (Res.ret [A.one (C.bool (decide (Go.IntKind.i64.wrap (n - Go.IntKind.i64.wrap (n_4 + n_5)) ≥ x.fst)))] none)
                                              else some (Res.ret [A.one (C.bool false)] none)
                                    else some (Res.ret [A.one (C.bool false)] none)
                              else
                                bif Nat.ble 11 cs_2.length then
                                  (callD e 20 [A.agg 22 (List.take 22 g0), A.agg 2 (List.take 2 (List.drop 22 g0))] [Sh.int Go.IntKind.i64, Sh.int Go.IntKind.i64]).bind
                                    fun (x : Int × Int) =>
                                    (asI Go.IntKind.i64 cs_1[7]?).bind fun (n : Int) =>
                                      bif n == x.snd then
                                        (asI Go.IntKind.i64 cs[7]?).bind fun (n : Int) =>
                                          (asI Go.IntKind.i64 cs[5]?).bind fun (n_1 : Int) =>
                                            (asI Go.IntKind.i64 cs_1[7]?).bind fun (n_2 : Int) =>
                                              (asI Go.IntKind.i64 cs_1[4]?).bind fun (n_3 : Int) =>
                                                bif decide (Go.IntKind.i64.wrap (Go.IntKind.i64.wrap (n - n_1) - Go.IntKind.i64.wrap (n_2 + n_3)) ≥ x.fst) then
                                                  (asI Go.IntKind.i64 cs_1[7]?).bind fun (n : Int) =>
                                                    (asI Go.IntKind.i64 (List.take 11 cs_2)[7]?).bind fun (n_4 : Int) =>
                                                      (asI Go.IntKind.i64 (List.take 11 cs_2)[4]?).bind fun (n_5 : Int) =>
                                                        some (Res.ret [A.one (C.bool (decide (Go.IntKind.i64.wrap (n - Go.IntKind.i64.wrap (n_4 + n_5)) ≥ x.fst)))] none)
                                                else some (Res.ret [A.one (C.bool false)] none)
                                      else some (Res.ret [A.one (C.bool false)] none)
                                else none
                            else none
                      else
                        bif Nat.ble 11 cs_1.length then
                          (asL x.1[8]?).bind fun (l : List (List C)) =>
                            l[2]?.bind fun (cs_2 : List C) =>
                              bif cs_2.length.beq 11 then
                                bif cs_2.length.beq 11 then
                                  (callD e 20 [A.agg 22 (List.take 22 g0), A.agg 2 (List.take 2 (List.drop 22 g0))] [Sh.int Go.IntKind.i64, Sh.int Go.IntKind.i64]).bind
                                    fun (x : Int × Int) =>
                                    (asI Go.IntKind.i64 (List.take 11 cs_1)[7]?).bind fun (n : Int) =>
                                      bif n == x.snd then
                                        (asI Go.IntKind.i64 cs[7]?).bind fun (n : Int) =>
                                          (asI Go.IntKind.i64 cs[5]?).bind fun (n_1 : Int) =>
                                            (asI Go.IntKind.i64 (List.take 11 cs_1)[7]?).bind fun (n_2 : Int) =>
                                              (asI Go.IntKind.i64 (List.take 11 cs_1)[4]?).bind fun (n_3 : Int) =>
                                                bif decide (Go.IntKind.i64.wrap (Go.IntKind.i64.wrap (n - n_1) - Go.IntKind.i64.wrap (n_2 + n_3)) ≥ x.fst) then
                                                  (asI Go.IntKind.i64 (List.take 11 cs_1)[7]?).bind fun (n : Int) =>
                                                    (asI Go.IntKind.i64 cs_2[7]?).bind fun (n_4 : Int) =>
                                                      (asI Go.IntKind.i64 cs_2[4]?).bind fun (n_5 : Int) =>
                                                        some (Res.ret [A.one (C.bool (decide (Go.IntKind.i64.wrap (n - Go.IntKind.i64.wrap (n_4 + n_5)) ≥ x.fst)))] none)
                                                else some (Res.ret [A.one (C.bool false)] none)
                                      else some (Res.ret [A.one (C.bool false)] none)
                                else
                                  bif Nat.ble 11 cs_2.length then
                                    (callD e 20 [A.agg 22 (List.take 22 g0), A.agg 2 (List.take 2 (List.drop 22 g0))] [Sh.int Go.IntKind.i64, Sh.int Go.IntKind.i64]).bind
                                      fun (x : Int × Int) =>
                                      (asI Go.IntKind.i64 (List.take 11 cs_1)[7]?).bind fun (n : Int) =>
                                        bif n == x.snd then
                                          (asI Go.IntKind.i64 cs[7]?).bind fun (n : Int) =>
                                            (asI Go.IntKind.i64 cs[5]?).bind fun (n_1 : Int) =>
                                              (asI Go.IntKind.i64 (List.take 11 cs_1)[7]?).bind fun (n_2 : Int) =>
                                                (asI Go.IntKind.i64 (List.take 11 cs_1)[4]?).bind fun (n_3 : Int) =>
                                                  bif decide (Go.IntKind.i64.wrap (Go.IntKind.i64.wrap (n - n_1) - Go.IntKind.i64.wrap (n_2 + n_3)) ≥ x.fst) then
                                                    (asI Go.IntKind.i64 (List.take 11 cs_1)[7]?).bind fun (n : Int) =>
                                                      (asI Go.IntKind.i64 (List.take 11 cs_2)[7]?).bind fun (n_4 : Int) =>
                                                        (asI Go.IntKind.i64 (List.take 11 cs_2)[4]?).bind fun (n_5 : Int) =>
                                                          some (Res.ret [A.one (C.bool (decide (Go.IntKind.i64.wrap (n - Go.IntKind.i64.wrap (n_4 + n_5)) ≥ x.fst)))] none)
                                                  else some (Res.ret [A.one (C.bool false)] none)
                                        else some (Res.ret [A.one (C.bool false)] none)
                                  else none
                              else none
                        else none
                    else none
              else
                bif Nat.ble 11 cs.length then
                  (asL x.1[8]?).bind fun (l : List (List C)) =>
                    l[1]?.bind fun (cs_1 : List C) =>
                      bif cs_1.length.beq 11 then
                        bif cs_1.length.beq 11 then
                          (asL x.1[8]?).bind fun (l : List (List C)) =>
                            l[2]?.bind fun (cs_2 : List C) =>
                              bif cs_2.length.beq 11 then
                                bif cs_2.length.beq 11 then
                                  (callD e 20 [A.agg 22 (List.take 22 g0), A.agg 2 (List.take 2 (List.drop 22 g0))] [Sh.int Go.IntKind.i64, Sh.int Go.IntKind.i64]).bind
                                    fun (x : Int × Int) =>
                                    (asI Go.IntKind.i64 cs_1[7]?).bind fun (n : Int) =>
                                      bif n == x.snd then
                                        (asI Go.IntKind.i64 (List.take 11 cs)[7]?).bind fun (n : Int) =>
                                          (asI Go.IntKind.i64 (List.take 11 cs)[5]?).bind fun (n_1 : Int) =>
                                            (asI Go.IntKind.i64 cs_1[7]?).bind fun (n_2 : Int) =>
                                              (asI Go.IntKind.i64 cs_1[4]?).bind fun (n_3 : Int) =>
                                                bif decide (Go.IntKind.i64.wrap (Go.IntKind.i64.wrap (n - n_1) - Go.IntKind.i64.wrap (n_2 + n_3)) ≥ x.fst) then
                                                  (asI Go.IntKind.i64 cs_1[7]?).bind fun (n : Int) =>
                                                    (asI Go.IntKind.i64 cs_2[7]?).bind fun (n_4 : Int) =>
                                                      (asI Go.IntKind.i64 cs_2[4]?).bind fun (n_5 : Int) =>
                                                        some (Res.ret [A.one (C.bool (decide (Go.IntKind.i64.wrap (n - Go.IntKind.i64.wrap (n_4 + n_5)) ≥ x.fst)))] none)
                                                else some (Res.ret [A.one (C.bool false)] none)
                                      else some (Res.ret [A.one (C.bool false)] none)
                                else
                                  bif Nat.ble 11 cs_2.length then
                                    (callD e 20 [A.agg 22 (List.take 22 g0), A.agg 2 (List.take 2 (List.drop 22 g0))] [Sh.int Go.IntKind.i64, Sh.int Go.IntKind.i64]).bind
                                      fun (x : Int × Int) =>
                                      (asI Go.IntKind.i64 cs_1[7]?).bind fun (n : Int) =>
                                        bif n == x.snd then
                                          (asI Go.IntKind.i64 (List.take 11 cs)[7]?).bind fun (n : Int) =>
                                            (asI Go.IntKind.i64 (List.take 11 cs)[5]?).bind fun (n_1 : Int) =>
                                              (asI Go.IntKind.i64 cs_1[7]?).bind fun (n_2 : Int) =>
                                                (asI Go.IntKind.i64 cs_1[4]?).bind fun (n_3 : Int) =>
                                                  bif decide (Go.IntKind.i64.wrap (Go.IntKind.i64.wrap (n - n_1) - Go.IntKind.i64.wrap (n_2 + n_3)) ≥ x.fst) then
                                                    (asI Go.IntKind.i64 cs_1[7]?).bind fun (n : Int) =>
                                                      (asI Go.IntKind.i64 (List.take 11 cs_2)[7]?).bind fun (n_4 : Int) =>
                                                        (asI Go.IntKind.i64 (List.take 11 cs_2)[4]?).bind fun (n_5 : Int) =>
                                                          some (Res.ret [A.one (C.bool (decide (Go.IntKind.i64.wrap (n - Go.IntKind.i64.wrap (n_4 + n_5)) ≥ x.fst)))] none)
                                                  else some (Res.ret [A.one (C.bool false)] none)
                                        else some (Res.ret [A.one (C.bool false)] none)
                                  else none
                              else none
                        else
                          bif Nat.ble 11 cs_1.length then
                            (asL x.1[8]?).bind fun (l : List (List C)) =>
                              l[2]?.bind fun (cs_2 : List C) =>
                                bif cs_2.length.beq 11 then
                                  bif cs_2.length.beq 11 then
                                    (callD e 20 [A.agg 22 (List.take 22 g0), A.agg 2 (List.take 2 (List.drop 22 g0))] [Sh.int Go.IntKind.i64, Sh.int Go.IntKind.i64]).bind
                                      fun (x : Int × Int) =>
                                      (asI Go.IntKind.i64 (List.take 11 cs_1)[7]?).bind fun (n : Int) =>
                                        bif n == x.snd then
                                          (asI Go.IntKind.i64 (List.take 11 cs)[7]?).bind fun (n : Int) =>
                                            (asI Go.IntKind.i64 (List.take 11 cs)[5]?).bind fun (n_1 : Int) =>
                                              (asI Go.IntKind.i64 (List.take 11 cs_1)[7]?).bind fun (n_2 : Int) =>
                                                (asI Go.IntKind.i64 (List.take 11 cs_1)[4]?).bind fun (n_3 : Int) =>
                                                  bif decide (Go.IntKind.i64.wrap (Go.IntKind.i64.wrap (n - n_1) - Go.IntKind.i64.wrap (n_2 + n_3)) ≥ x.fst) then
                                                    (asI Go.IntKind.i64 (List.take 11 cs_1)[7]?).bind fun (n : Int) =>
                                                      (asI Go.IntKind.i64 cs_2[7]?).bind fun (n_4 : Int) =>
                                                        (asI Go.IntKind.i64 cs_2[4]?).bind fun (n_5 : Int) =>
                                                          some (Res.ret [A.one (C.bool (decide (Go.IntKind.i64.wrap (n - Go.IntKind.i64.wrap (n_4 + n_5)) ≥ x.fst)))] none)
                                                  else some (Res.ret [A.one (C.bool false)] none)
                                        else some (Res.ret [A.one (C.bool false)] none)
                                  else
                                    bif Nat.ble 11 cs_2.length then
                                      (callD e 20 [A.agg 22 (List.take 22 g0), A.agg 2 (List.take 2 (List.drop 22 g0))] [Sh.int Go.IntKind.i64, Sh.int Go.IntKind.i64]).bind
                                        fun (x : Int × Int) =>
                                        (asI Go.IntKind.i64 (List.take 11 cs_1)[7]?).bind fun (n : Int) =>
                                          bif n == x.snd then
                                            (asI Go.IntKind.i64 (List.take 11 cs)[7]?).bind fun (n : Int) =>
                                              (asI Go.IntKind.i64 (List.take 11 cs)[5]?).bind fun (n_1 : Int) =>
                                                (asI Go.IntKind.i64 (List.take 11 cs_1)[7]?).bind fun (n_2 : Int) =>
                                                  (asI Go.IntKind.i64 (List.take 11 cs_1)[4]?).bind fun (n_3 : Int) =>
                                                    bif decide (Go.IntKind.i64.wrap (Go.IntKind.i64.wrap (n - n_1) - Go.IntKind.i64.wrap (n_2 + n_3)) ≥ x.fst) then
                                                      (asI Go.IntKind.i64 (List.take 11 cs_1)[7]?).bind fun (n : Int) =>
                                                        (asI Go.IntKind.i64 (List.take 11 cs_2)[7]?).bind fun (n_4 : Int) =>
                                                          (asI Go.IntKind.i64 (List.take 11 cs_2)[4]?).bind fun (n_5 : Int) =>
                                                            some (Res.ret [A.one (C.bool (decide (Go.IntKind.i64.wrap (n - Go.IntKind.i64.wrap (n_4 + n_5)) ≥ x.fst)))] none)
                                                    else some (Res.ret [A.one (C.bool false)] none)
                                          else some (Res.ret [A.one (C.bool false)] none)
                                    else none
                                else none
                          else none
                      else none
                else none
            else none
theorem R4_eq (n : Nat) (g0 : List C) : (eng Try.prog hs (n + 1)).call 4 [A.agg 46 g0] (none) = R4 (eng Try.prog hs n) g0 := by kernel_rfl
noncomputable def S5_7 (x5 : Int) (h1001 : List C) (h1003 : List C) : St :=
  St.mk 5 87 [(1, V.ptr 1001 0), (3, V.ptr 1003 0), (5, V.c (C.int Go.IntKind.i64 x5))] [(1001, Slot.live (Blk.pc 46 h1001) false), (1003, Slot.live (Blk.pc 11 h1003) false)] none 0
  []
noncomputable def R5 (e : Eng) (g0 : List C) : Option Res :=
  (callD e 14 [] [Sh.bool]).bind fun (x : Bool) =>
  bif !x then some (Res.ret [A.one (C.bool false)] none)
  else
    (callD e 19 [A.agg 46 g0] [Sh.agg 11, Sh.bool]).bind fun (x : List C × Bool) =>
      bif !x.snd then some (Res.ret [A.one (C.bool true)] none) else e.loop (lp Try.f5 7) (S5_7 0 g0 x.1)
theorem R5_eq (n : Nat) (g0 : List C) : (eng Try.prog hs (n + 1)).call 5 [A.agg 46 g0] (none) = R5 (eng Try.prog hs n) g0 := by kernel_rfl
noncomputable def L5_7 (e : Eng) (x5 : Int) (h1001 : List C) (h1003 : List C) : Option Res :=
  bif decide (x5 < 3) then
  (asL h1003[8]?).bind fun (l : List (List C)) =>
    bif true && decide (0 ≤ x5) then
      l[x5.toNat]?.bind fun (cs : List C) =>
        bif cs.length.beq 11 then
          bif cs.length.beq 11 then
            (asI Go.IntKind.i64 cs[6]?).bind fun (n : Int) =>
              (asI Go.IntKind.i64 cs[3]?).bind fun (n_1 : Int) =>
                (asI Go.IntKind.i64 h1003[3]?).bind fun (n_2 : Int) =>
                  bif decide (Go.IntKind.i64.wrap (Go.IntKind.i64.wrap (Go.IntKind.i64.wrap (2 * n) + n_1) - n_2) < -1) then some (Res.ret [A.one (C.bool false)] none)
                  else
                    bif decide (Go.IntKind.i64.wrap (Go.IntKind.i64.wrap (Go.IntKind.i64.wrap (2 * n) + n_1) - n_2) > 1) then some (Res.ret [A.one (C.bool false)] none)
                    else e.loop (lp Try.f5 7) (S5_7 (Go.IntKind.i64.wrap (x5 + 1)) h1001 h1003)
          else
            bif Nat.ble 11 cs.length then
              (asI Go.IntKind.i64 (List.take 11 cs)[6]?).bind fun (n : Int) =>
                (asI Go.IntKind.i64 (List.take 11 cs)[3]?).bind fun (n_1 : Int) =>
                  (asI Go.IntKind.i64 h1003[3]?).bind fun (n_2 : Int) =>
                    bif decide (Go.IntKind.i64.wrap (Go.IntKind.i64.wrap (Go.IntKind.i64.wrap (2 * n) + n_1) - n_2) < -1) then some (Res.ret [A.one (C.bool false)] none)
                    else
                      bif decide (Go.IntKind.i64.wrap (Go.IntKind.i64.wrap (Go.IntKind.i64.wrap (2 * n) + n_1) - n_2) > 1) then some (Res.ret [A.one (C.bool false)] none)
                      else e.loop (lp Try.f5 7) (S5_7 (Go.IntKind.i64.wrap (x5 + 1)) h1001 h1003)
            else none
        else none
    else none
else
  (asL h1003[8]?).bind fun (l : List (List C)) =>
    l[1]?.bind fun (cs : List C) =>
      bif cs.length.beq 11 then
        bif cs.length.beq 11 then
          (asI Go.IntKind.i64 cs[7]?).bind fun (n : Int) =>
            (asI Go.IntKind.i64 cs[4]?).bind fun (n_1 : Int) =>
              (asI Go.IntKind.i64 h1001[4]?).bind fun (n_2 : Int) =>
                (callD e 21 [A.agg 22 (List.take 22 h1001), A.agg 2 (List.take 2 (List.drop 22 h1001)), A.one (C.int Go.IntKind.i64 n_2)] [Sh.int Go.IntKind.i64]).bind
                  fun (x : Int) =>
                  (asI Go.IntKind.i64 cs[6]?).bind fun (n_3 : Int) =>
                    bif n_3 == 0 then
                      (asI Go.IntKind.i64 cs[3]?).bind fun (n_4 : Int) =>
                        (asI Go.IntKind.i64 h1003[3]?).bind fun (n_5 : Int) =>
                          bif n_4 == n_5 then
                            (asI Go.IntKind.i64 cs[5]?).bind fun (n_6 : Int) =>
                              bif n_6 == 0 then
                                bif decide (Go.IntKind.i64.wrap (Go.IntKind.i64.wrap (Go.IntKind.i64.wrap (2 * n) + n_1) - Go.IntKind.i64.wrap (2 * x)) ≥ -1) then
                                  some
                                    (Res.ret
                                      [A.one (C.bool (decide (Go.IntKind.i64.wrap (Go.IntKind.i64.wrap (Go.IntKind.i64.wrap (2 * n) + n_1) - Go.IntKind.i64.wrap (2 * x)) ≤ 1)))]
                                      none)
                                else some (Res.ret [A.one (C.bool false)] none)
                              else some (Res.ret [A.one (C.bool false)] none)
                          else some (Res.ret [A.one (C.bool false)] none)
                    else some (Res.ret [A.one (C.bool false)] none)
        else
          bif Nat.ble 11 cs.length then
            (asI Go.IntKind.i64 (List.take 11 cs)[7]?).bind fun (n : Int) =>
              (asI Go.IntKind.i64 (List.take 11 cs)[4]?).bind fun (n_1 : Int) =>
                (asI Go.IntKind.i64 h1001[4]?).bind fun (n_2 : Int) =>
                  (callD e 21 [A.agg 22 (List.take 22 h1001), A.agg 2 (List.take 2 (List.drop 22 h1001)), A.one (C.int Go.IntKind.i64 n_2)] [Sh.int Go.IntKind.i64]).bind
                    fun (x : Int) =>
                    (asI Go.IntKind.i64 (List.take 11 cs)[6]?).bind fun (n_3 : Int) =>
                      bif n_3 == 0 then
                        (asI Go.IntKind.i64 (List.take 11 cs)[3]?).bind fun (n_4 : Int) =>
                          (asI Go.IntKind.i64 h1003[3]?).bind fun (n_5 : Int) =>
                            bif n_4 == n_5 then
                              (asI Go.IntKind.i64 (List.take 11 cs)[5]?).bind fun (n_6 : Int) =>
                                bif n_6 == 0 then
                                  bif decide (Go.IntKind.i64.wrap (Go.IntKind.i64.wrap (Go.IntKind.i64.wrap (2 * n) + n_1) - Go.IntKind.i64.wrap (2 * x)) ≥ -1) then
                                    some
                                      (Res.ret
                                        [A.one (C.bool (decide (Go.IntKind.i64.wrap (Go.IntKind.i64.wrap (Go.IntKind.i64.wrap (2 * n) + n_1) - Go.IntKind.i64.wrap (2 * x)) ≤ 1)))]
                                        none)
                                  else some (Res.ret [A.one (C.bool false)] none)
                                else some (Res.ret [A.one (C.bool false)] none)
                            else some (Res.ret [A.one (C.bool false)] none)
                      else some (Res.ret [A.one (C.bool false)] none)
          else none
      else none
theorem L5_7_eq (n : Nat) (x5 : Int) (h1001 : List C) (h1003 : List C) : (eng Try.prog hs (n + 1)).loop (lp Try.f5 7) (S5_7 x5 h1001 h1003) = L5_7 (eng Try.prog hs n) x5 h1001 h1003 := by kernel_rfl
noncomputable def S6_7 (x5 : Int) (h1003 : List C) : St :=
  St.mk 6 105 [(3, V.ptr 1003 0), (5, V.c (C.int Go.IntKind.i64 x5))] [(1003, Slot.live (Blk.pc 11 h1003) false)] none 0 []
noncomputable def R6 (e : Eng) (g0 : List C) : Option Res :=
  (callD e 14 [] [Sh.bool]).bind fun (x : Bool) =>
  bif !x then some (Res.ret [A.one (C.bool false)] none)
  else
    (callD e 19 [A.agg 46 g0] [Sh.agg 11, Sh.bool]).bind fun (x : List C × Bool) => bif !x.snd then some (Res.ret [A.one (C.bool true)] none) else e.loop (lp Try.f6 7) (S6_7 0 x.1)
theorem R6_eq (n : Nat) (g0 : List C) : (eng Try.prog hs (n + 1)).call 6 [A.agg 46 g0] (none) = R6 (eng Try.prog hs n) g0 := by kernel_rfl
noncomputable def L6_7 (e : Eng) (x5 : Int) (h1003 : List C) : Option Res :=
  bif decide (x5 < 3) then
  (asL h1003[8]?).bind fun (l : List (List C)) =>
    bif true && decide (0 ≤ x5) then
      l[x5.toNat]?.bind fun (cs : List C) =>
        bif cs.length.beq 11 then
          bif cs.length.beq 11 then
            (asI Go.IntKind.i64 cs[3]?).bind fun (n : Int) =>
              bif decide (n ≥ 0) then
                (asI Go.IntKind.i64 cs[6]?).bind fun (n : Int) =>
                  bif decide (n < 0) then some (Res.ret [A.one (C.bool false)] none)
                  else
                    (asI Go.IntKind.i64 cs[6]?).bind fun (n : Int) =>
                      (asI Go.IntKind.i64 cs[3]?).bind fun (n_1 : Int) =>
                        (asI Go.IntKind.i64 h1003[3]?).bind fun (n_2 : Int) =>
                          bif decide (Go.IntKind.i64.wrap (n + n_1) > n_2) then some (Res.ret [A.one (C.bool false)] none)
                          else e.loop (lp Try.f6 7) (S6_7 (Go.IntKind.i64.wrap (x5 + 1)) h1003)
              else e.loop (lp Try.f6 7) (S6_7 (Go.IntKind.i64.wrap (x5 + 1)) h1003)
          else
            bif Nat.ble 11 cs.length then
              (asI Go.IntKind.i64 (List.take 11 cs)[3]?).bind fun (n : Int) =>
                bif decide (n ≥ 0) then
                  (asI Go.IntKind.i64 (List.take 11 cs)[6]?).bind fun (n : Int) =>
                    bif decide (n < 0) then some (Res.ret [A.one (C.bool false)] none)
                    else
                      (asI Go.IntKind.i64 (List.take 11 cs)[6]?).bind fun (n : Int) =>
                        (asI Go.IntKind.i64 (List.take 11 cs)[3]?).bind fun (n_1 : Int) =>
                          (asI Go.IntKind.i64 h1003[3]?).bind fun (n_2 : Int) =>
                            bif decide (Go.IntKind.i64.wrap (n + n_1) > n_2) then some (Res.ret [A.one (C.bool false)] none)
                            else e.loop (lp Try.f6 7) (S6_7 (Go.IntKind.i64.wrap (x5 + 1)) h1003)
                else e.loop (lp Try.f6 7) (S6_7 (Go.IntKind.i64.wrap (x5 + 1)) h1003)
            else none
        else none
    else none
else
  (asL h1003[8]?).bind fun (l : List (List C)) =>
    l[0]?.bind fun (cs : List C) =>
      bif cs.length.beq 11 then
        (asI Go.IntKind.i64 cs[7]?).bind fun (n : Int) =>
          (asL h1003[8]?).bind fun (l : List (List C)) =>
            l[0]?.bind fun (cs : List C) =>
              bif cs.length.beq 11 then
                (asI Go.IntKind.i64 cs[4]?).bind fun (n_1 : Int) =>
                  (asI Go.IntKind.i64 h1003[4]?).bind fun (n_2 : Int) =>
                    bif decide (Go.IntKind.i64.wrap (n + n_1) ≤ n_2) then
                      (asL h1003[8]?).bind fun (l : List (List C)) =>
                        l[1]?.bind fun (cs : List C) =>
                          bif cs.length.beq 11 then
                            (asI Go.IntKind.i64 cs[7]?).bind fun (n : Int) =>
                              (asL h1003[8]?).bind fun (l : List (List C)) =>
                                l[1]?.bind fun (cs : List C) =>
                                  bif cs.length.beq 11 then
                                    (asI Go.IntKind.i64 cs[4]?).bind fun (n_3 : Int) =>
                                      (asI Go.IntKind.i64 h1003[4]?).bind fun (n_4 : Int) =>
                                        bif decide (Go.IntKind.i64.wrap (n + n_3) ≤ n_4) then
                                          (asL h1003[8]?).bind fun (l : List (List C)) =>
                                            l[2]?.bind fun (cs : List C) =>
                                              bif cs.length.beq 11 then
                                                (asI Go.IntKind.i64 cs[5]?).bind fun (n : Int) =>
                                                  (asL h1003[8]?).bind fun (l : List (List C)) =>
                                                    l[2]?.bind fun (cs : List C) =>
                                                      bif cs.length.beq 11 then
                                                        (asI Go.IntKind.i64 cs[7]?).bind fun (n_5 : Int) =>
                                                          (asI Go.IntKind.i64 h1003[5]?).bind fun (n_6 : Int) =>
                                                            bif decide (Go.IntKind.i64.wrap (n - n_5) ≤ n_6) then
                                                              (asL h1003[8]?).bind fun (l : List (List C)) =>
                                                                l[1]?.bind fun (cs : List C) =>
                                                                  bif cs.length.beq 11 then
                                                                    (asI Go.IntKind.i64 cs[7]?).bind fun (n : Int) =>
                                                                      (asI Go.IntKind.i64 h1003[5]?).bind fun (n_7 : Int) =>
                                                                        bif decide (Go.IntKind.i64.wrap (0 - n) ≤ n_7) then
                                                                          (asI Go.IntKind.i64 h1003[3]?).bind fun (n : Int) => some (Res.ret [A.one (C.bool (decide (n ≥ 0)))] none)
                                                                        else some (Res.ret [A.one (C.bool false)] none)
                                                                  else none
                                                            else some (Res.ret [A.one (C.bool false)] none)
                                                      else none
                                              else none
                                        else some (Res.ret [A.one (C.bool false)] none)
                                  else none
                          else none
                    else some (Res.ret [A.one (C.bool false)] none)
              else none
      else none
theorem L6_7_eq (n : Nat) (x5 : Int) (h1003 : List C) : (eng Try.prog hs (n + 1)).loop (lp Try.f6 7) (S6_7 x5 h1003) = L6_7 (eng Try.prog hs n) x5 h1003 := by kernel_rfl
noncomputable def R7 (e : Eng) (g0 : List C) (n1 : Int) : Option Res :=
  (callD e 14 [] [Sh.bool]).bind fun (x : Bool) =>
  bif !x then some (Res.ret [A.one (C.bool false)] none)
  else
    (callD e 19 [A.agg 46 g0] [Sh.agg 11, Sh.bool]).bind fun (x : List C × Bool) =>
      bif !x.snd then some (Res.ret [A.one (C.bool true)] none)
      else
        (asI Go.IntKind.i64 g0[29]?).bind fun (n : Int) =>
          (asI Go.IntKind.i64 g0[39]?).bind fun (n_1 : Int) =>
            (callD e 16
                  [A.agg 22 (List.take 22 g0), A.agg 2 (List.take 2 (List.drop 22 g0)),
                    A.agg 11 (List.take 11 (List.drop 24 (g0.set 29 (C.int Go.IntKind.i64 (Go.IntKind.i64.wrap (n + Go.IntKind.i64.wrap n1)))))),
                    A.agg 11 (List.take 11 (List.drop 35 g0))]
                  [Sh.agg 11, Sh.int Go.IntKind.i64]).bind
              fun (x_1 : List C × Int) =>
              (callD e 16
                    [A.agg 22 (List.take 22 g0), A.agg 2 (List.take 2 (List.drop 22 g0)), A.agg 11 (List.take 11 (List.drop 24 g0)),
                      A.agg 11 (List.take 11 (List.drop 35 (g0.set 39 (C.int Go.IntKind.i64 (Go.IntKind.i64.wrap (n_1 + Go.IntKind.i64.wrap n1))))))]
                    [Sh.agg 11, Sh.int Go.IntKind.i64]).bind
                fun (x_2 : List C × Int) =>
                bif x_1.snd != 0 then some (Res.ret [A.one (C.bool false)] none)
                else
                  bif x_2.snd != 0 then some (Res.ret [A.one (C.bool false)] none)
                  else
                    (asL x_1.1[8]?).bind fun (l : List (List C)) =>
                      bif (↑l.length : Int) != 3 then some (Res.ret [A.one (C.bool false)] none)
                      else
                        (asL x_2.1[8]?).bind fun (l : List (List C)) =>
                          bif (↑l.length : Int) != 3 then some (Res.ret [A.one (C.bool false)] none)
                          else
                            (asL x_1.1[8]?).bind fun (l : List (List C)) =>
                              l[0]?.bind fun (cs : List C) =>
                                bif cs.length.beq 11 then
                                  (asI Go.IntKind.i64 cs[7]?).bind fun (n : Int) =>
                                    (asL x.1[8]?).bind fun (l : List (List C)) =>
                                      l[0]?.bind fun (cs : List C) =>
                                        bif cs.length.beq 11 then
                                          (asI Go.IntKind.i64 cs[7]?).bind fun (n_2 : Int) =>
                                            bif decide (n ≥ n_2) then
                                              (asL x_1.1[8]?).bind fun (l : List (List C)) =>
                                                l[1]?.bind fun (cs : List C) =>
                                                  bif cs.length.beq 11 then
                                                    (asI Go.IntKind.i64 cs[7]?).bind fun (n : Int) =>
                                                      (asL x.1[8]?).bind fun (l : List (List C)) =>
                                                        l[1]?.bind fun (cs : List C) =>
                                                          bif cs.length.beq 11 then
                                                            (asI Go.IntKind.i64 cs[7]?).bind fun (n_3 : Int) =>
                                                              bif n == n_3 then
                                                                (asL x_1.1[8]?).bind fun (l : List (List C)) =>
                                                                  l[2]?.bind fun (cs : List C) =>
                                                                    bif cs.length.beq 11 then
                                                                      (asI Go.IntKind.i64 cs[7]?).bind fun (n : Int) =>
                                                                        (asL x.1[8]?).bind fun (l : List (List C)) =>
                                                                          l[2]?.bind fun (cs : List C) =>
                                                                            bif cs.length.beq 11 then
                                                                              (asI Go.IntKind.i64 cs[7]?).bind fun (n_4 : Int) =>
                                                                                bif n == n_4 then
                                                                                  (asL x_2.1[8]?).bind fun (l : List (List C)) =>
                                                                                    l[2]?.bind fun (cs : List C) =>
                                                                                      bif cs.length.beq 11 then
                                                                                        (asI Go.IntKind.i64 cs[7]?).bind fun (n : Int) =>
                                                                                          (asL x.1[8]?).bind fun (l : List (List C)) =>
                                                                                            l[2]?.bind fun (cs : List C) =>
                                                                                              bif cs.length.beq 11 then
                                                                                                (asI Go.IntKind.i64 cs[7]?).bind fun (n_5 : Int) =>
                                                                                                  bif decide (n ≤ n_5) then
                                                                                                    (asL x_2.1[8]?).bind fun (l : List (List C)) =>
                                                                                                      l[1]?.bind fun (cs : List C) =>
                                                                                                        bif cs.length.beq 11 then
                                                                                                          (asI Go.IntKind.i64 cs[7]?).bind fun (n : Int) =>
                                                                                                            (asL x.1[8]?).bind fun (l : List (List C)) =>
                                                                                                              l[1]?.bind fun (cs : List C) =>
                                                                                                                bif cs.length.beq 11 then
                                                                                                                  (asI Go.IntKind.i64 cs[7]?).bind fun (n_6 : Int) =>
                                                                                                                    bif n == n_6 then
                                                                                                                      (asL x_2.1[8]?).bind fun (l : List (List C)) =>
                                                                                                                        l[0]?.bind fun (cs : List C) =>
                                                                                                                          bif cs.length.beq 11 then
                                                                                                                            (asI Go.IntKind.i64 cs[7]?).bind fun (n : Int) =>
                                                                                                                              (asL x.1[8]?).bind fun (l : List (List C)) =>
                                                                                                                                l[0]?.bind fun (cs : List C) =>
                                                                                                                                  bif cs.length.beq 11 then
                                                                                                                                    (asI Go.IntKind.i64 cs[7]?).bind
                                                                                                                                      fun (n_7 : Int) =>
                                                                                                                                      some
                                                                                                                                        (Res.ret [A.one (C.bool (n == n_7))] none)
                                                                                                                                  else none
                                                                                                                          else none
                                                                                                                    else some (Res.ret [A.one (C.bool false)] none)
                                                                                                                else none
                                                                                                        else none
                                                                                                  else some (Res.ret [A.one (C.bool false)] none)
                                                                                              else none
                                                                                      else none
                                                                                else some (Res.ret [A.one (C.bool false)] none)
                                                                            else none
                                                                    else none
                                                              else some (Res.ret [A.one (C.bool false)] none)
                                                          else none
                                                  else none
                                            else some (Res.ret [A.one (C.bool false)] none)
                                        else none
                                else none
theorem R7_eq (n : Nat) (g0 : List C) (n1 : Int) : (eng Try.prog hs (n + 1)).call 7 [A.agg 46 g0, A.one (C.int Go.IntKind.u16 n1)] (none) = R7 (eng Try.prog hs n) g0 n1 := by kernel_rfl
noncomputable def R8 (e : Eng) (g0 : List C) : Option Res :=
  (callD e 14 [] [Sh.bool]).bind fun (x : Bool) =>
  bif !x then some (Res.ret [A.one (C.bool false)] none)
  else
    (callD e 19 [A.agg 46 g0] [Sh.agg 11, Sh.bool]).bind fun (x : List C × Bool) =>
      bif !x.snd then some (Res.ret [A.one (C.bool true)] none)
      else
        (asL x.1[8]?).bind fun (l : List (List C)) =>
          l[0]?.bind fun (cs : List C) =>
            bif cs.length.beq 11 then
              bif cs.length.beq 11 then
                (asL x.1[8]?).bind fun (l : List (List C)) =>
                  l[2]?.bind fun (cs_1 : List C) =>
                    bif cs_1.length.beq 11 then
                      bif cs_1.length.beq 11 then
                        (asI Go.IntKind.i64 x.1[0]?).bind fun (n : Int) =>
                          bif n == 3 then
                            (callD e 22 [A.agg 11 x.1] [Sh.bool]).bind fun (x : Bool) =>
                              bif x then
                                (asI Go.IntKind.i64 g0[30]?).bind fun (n : Int) =>
                                  (asI Go.IntKind.i64 g0[31]?).bind fun (n_1 : Int) =>
                                    (callD e 23 [A.agg 11 cs, A.one (C.int Go.IntKind.i64 n), A.one (C.int Go.IntKind.i64 n_1)] [Sh.agg 11]).bind fun (x : List C) =>
                                      (callD e 18 [A.agg 11 x, A.agg 11 (List.take 11 (List.drop 24 g0))] [Sh.bool]).bind fun (x : Bool) =>
                                        bif x then
                                          (asI Go.IntKind.i64 g0[41]?).bind fun (n : Int) =>
                                            (asI Go.IntKind.i64 g0[42]?).bind fun (n_2 : Int) =>
                                              (callD e 23 [A.agg 11 cs_1, A.one (C.int Go.IntKind.i64 n), A.one (C.int Go.IntKind.i64 n_2)] [Sh.agg 11]).bind fun (x : List C) =>
                                                (callD e 18 [A.agg 11 x, A.agg 11 (List.take 11 (List.drop 35 g0))] [Sh.bool]).bind fun (x : Bool) =>
                                                  some (Res.ret [A.one (C.bool x)] none)
                                        else some (Res.ret [A.one (C.bool false)] none)
                              else some (Res.ret [A.one (C.bool false)] none)
                          else some (Res.ret [A.one (C.bool false)] none)
                      else
                        bif Nat.ble 11 cs_1.length then
                          (asI Go.IntKind.i64 x.1[0]?).bind fun (n : Int) =>
                            bif n == 3 then
                              (callD e 22 [A.agg 11 x.1] [Sh.bool]).bind fun (x : Bool) =>
                                bif x then
                                  (asI Go.IntKind.i64 g0[30]?).bind fun (n : Int) =>
                                    (asI Go.IntKind.i64 g0[31]?).bind fun (n_1 : Int) =>
                                      (callD e 23 [A.agg 11 cs, A.one (C.int Go.IntKind.i64 n), A.one (C.int Go.IntKind.i64 n_1)] [Sh.agg 11]).bind fun (x : List C) =>
                                        (callD e 18 [A.agg 11 x, A.agg 11 (List.take 11 (List.drop 24 g0))] [Sh.bool]).bind fun (x : Bool) =>
                                          bif x then
                                            (asI Go.IntKind.i64 g0[41]?).bind fun (n : Int) =>
                                              (asI Go.IntKind.i64 g0[42]?).bind fun (n_2 : Int) =>
                                                (callD e 23 [A.agg 11 (List.take 11 cs_1), A.one (C.int Go.IntKind.i64 n), A.one (C.int Go.IntKind.i64 n_2)] [Sh.agg 11]).bind
                                                  fun (x : List C) =>
                                                  (callD e 18 [A.agg 11 x, A.agg 11 (List.take 11 (List.drop 35 g0))] [Sh.bool]).bind fun (x : Bool) =>
                                                    some (Res.ret [A.one (C.bool x)] none)
                                          else some (Res.ret [A.one (C.bool false)] none)
                                else some (Res.ret [A.one (C.bool false)] none)
                            else some (Res.ret [A.one (C.bool false)] none)
                        else none
                    else none
              else
                bif Nat.ble 11 cs.length then
                  (asL x.1[8]?).bind fun (l : List (List C)) =>
                    l[2]?.bind fun (cs_1 : List C) =>
                      bif cs_1.length.beq 11 then
                        bif cs_1.length.beq 11 then
                          (asI Go.IntKind.i64 x.1[0]?).bind fun (n : Int) =>
                            bif n == 3 then
                              (callD e 22 [A.agg 11 x.1] [Sh.bool]).bind fun (x : Bool) =>
                                bif x then
                                  (asI Go.IntKind.i64 g0[30]?).bind fun (n : Int) =>
                                    (asI Go.IntKind.i64 g0[31]?).bind fun (n_1 : Int) =>
                                      (callD e 23 [A.agg 11 (List.take 11 cs), A.one (C.int Go.IntKind.i64 n), A.one (C.int Go.IntKind.i64 n_1)] [Sh.agg 11]).bind
                                        fun (x : List C) =>
                                        (callD e 18 [A.agg 11 x, A.agg 11 (List.take 11 (List.drop 24 g0))] [Sh.bool]).bind fun (x : Bool) =>
                                          bif x then
                                            (asI Go.IntKind.i64 g0[41]?).bind fun (n : Int) =>
                                              (asI Go.IntKind.i64 g0[42]?).bind fun (n_2 : Int) =>
                                                (callD e 23 [A.agg 11 cs_1, A.one (C.int Go.IntKind.i64 n), A.one (C.int Go.IntKind.i64 n_2)] [Sh.agg 11]).bind fun (x : List C) =>
                                                  (callD e 18 [A.agg 11 x, A.agg 11 (List.take 11 (List.drop 35 g0))] [Sh.bool]).bind fun (x : Bool) =>
                                                    some (Res.ret [A.one (C.bool x)] none)
                                          else some (Res.ret [A.one (C.bool false)] none)
                                else some (Res.ret [A.one (C.bool false)] none)
                            else some (Res.ret [A.one (C.bool false)] none)
                        else
                          bif Nat.ble 11 cs_1.length then
                            (asI Go.IntKind.i64 x.1[0]?).bind fun (n : Int) =>
                              bif n == 3 then
                                (callD e 22 [A.agg 11 x.1] [Sh.bool]).bind fun (x : Bool) =>
                                  bif x then
                                    (asI Go.IntKind.i64 g0[30]?).bind fun (n : Int) =>
                                      (asI Go.IntKind.i64 g0[31]?).bind fun (n_1 : Int) =>
                                        (callD e 23 [A.agg 11 (List.take 11 cs), A.one (C.int Go.IntKind.i64 n), A.one (C.int Go.IntKind.i64 n_1)] [Sh.agg 11]).bind
                                          fun (x : List C) =>
                                          (callD e 18 [A.agg 11 x, A.agg 11 (List.take 11 (List.drop 24 g0))] [Sh.bool]).bind fun (x : Bool) =>
                                            bif x then
                                              (asI Go.IntKind.i64 g0[41]?).bind fun (n : Int) =>
                                                (asI Go.IntKind.i64 g0[42]?).bind fun (n_2 : Int) =>
                                                  (callD e 23 [A.agg 11 (List.take 11 cs_1), A.one (C.int Go.IntKind.i64 n), A.one (C.int Go.IntKind.i64 n_2)] [Sh.agg 11]).bind
                                                    fun (x : List C) =>
                                                    (callD e 18 [A.agg 11 x, A.agg 11 (List.take 11 (List.drop 35 g0))] [Sh.bool]).bind fun (x : Bool) =>
                                                      some (Res.ret [A.one (C.bool x)] none)
                                            else some (Res.ret [A.one (C.bool false)] none)
                                  else some (Res.ret [A.one (C.bool false)] none)
                              else some (Res.ret [A.one (C.bool false)] none)
                          else none
                      else none
                else none
            else none
theorem R8_eq (n : Nat) (g0 : List C) : (eng Try.prog hs (n + 1)).call 8 [A.agg 46 g0] (none) = R8 (eng Try.prog hs n) g0 := by kernel_rfl
end Go.Proofs.Ytbhojnofdeihdaa.E
