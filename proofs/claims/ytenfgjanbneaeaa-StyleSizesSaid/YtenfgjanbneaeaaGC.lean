/- What is shown here: what functions of the program come to, read off by the evaluator (printed by a program of this session's, checked by the kernel). -/
import Derived.Test.YtenfgjanbneaeaaEH0
import Derived.WalkKit
import Derived.ProofKit
namespace Go.Proofs.Ytenfgjanbneaeaa.E
open Go.Proofs
set_option autoImplicit false
set_option linter.unusedVariables false
set_option maxRecDepth 100000
noncomputable def R25 (e : Eng) (g0 : List C) (g1 : List C) : Option Res :=
  (callD e 41 [A.agg 2 g1] [Sh.bool]).bind fun (x : Bool) =>
  bif !x then some (Res.ret [A.one (C.int Go.IntKind.i64 0), A.one (C.int Go.IntKind.i64 1)] none)
  else
    (callD e 19 [A.agg 22 g0] [Sh.bool]).bind fun (x : Bool) =>
      bif !x then some (Res.ret [A.one (C.int Go.IntKind.i64 0), A.one (C.int Go.IntKind.i64 1)] none)
      else
        (asI Go.IntKind.i64 g1[0]?).bind fun (n : Int) =>
          bif n == 2 then (asI Go.IntKind.i64 g0[17]?).bind fun (n : Int) => some (Res.ret [A.one (C.int Go.IntKind.i64 n), A.one (C.int Go.IntKind.i64 0)] none)
          else
            bif n == 3 then (asI Go.IntKind.i64 g0[18]?).bind fun (n : Int) => some (Res.ret [A.one (C.int Go.IntKind.i64 n), A.one (C.int Go.IntKind.i64 0)] none)
            else some (Res.ret [A.one (C.int Go.IntKind.i64 100), A.one (C.int Go.IntKind.i64 0)] none)
theorem R25_eq (n : Nat) (g0 : List C) (g1 : List C) : (eng Try.prog hs (n + 1)).call 25 [A.agg 22 g0, A.agg 2 g1] none = R25 (eng Try.prog hs n) g0 g1 := by kernel_rfl
noncomputable def R26 (e : Eng) (g0 : List C) (g1 : List C) : Option Res :=
  (callD e 42 [A.agg 2 g1] [Sh.bool]).bind fun (x : Bool) =>
  bif !x then some (Res.ret [A.one (C.int Go.IntKind.i64 0), A.one (C.int Go.IntKind.i64 1)] none)
  else
    (callD e 20 [A.agg 22 g0] [Sh.bool]).bind fun (x : Bool) =>
      bif !x then some (Res.ret [A.one (C.int Go.IntKind.i64 0), A.one (C.int Go.IntKind.i64 1)] none)
      else (callD e 43 [A.agg 22 g0, A.agg 2 g1] [Sh.int Go.IntKind.i64]).bind fun (x : Int) => some (Res.ret [A.one (C.int Go.IntKind.i64 x), A.one (C.int Go.IntKind.i64 0)] none)
theorem R26_eq (n : Nat) (g0 : List C) (g1 : List C) : (eng Try.prog hs (n + 1)).call 26 [A.agg 22 g0, A.agg 2 g1] none = R26 (eng Try.prog hs n) g0 g1 := by kernel_rfl
noncomputable def R27 (e : Eng) (n0 : Int) (n1 : Int) (g2 : List C) : Option Res :=
  (callD e 44 [A.one (C.int Go.IntKind.i64 n0)] [Sh.sl]).bind fun (x : List (List C)) =>
  (callD e 41 [A.agg 2 g2] [Sh.bool]).bind fun (x_1 : Bool) =>
    bif !x_1 then some (Res.ret [A.agg 2 [C.int Go.IntKind.i64 0, C.bool false], A.one (C.int Go.IntKind.i64 1)] none)
    else
      bif (↑x.length : Int) == 0 then some (Res.ret [A.agg 2 [C.int Go.IntKind.i64 0, C.bool false], A.one (C.int Go.IntKind.i64 1)] none)
      else
        bif n0 == 12 then
          bif decide (n1 < 0) then some (Res.ret [A.agg 2 [C.int Go.IntKind.i64 0, C.bool false], A.one (C.int Go.IntKind.i64 2)] none)
          else
            bif decide (n1 ≥ 256) then some (Res.ret [A.agg 2 [C.int Go.IntKind.i64 0, C.bool false], A.one (C.int Go.IntKind.i64 2)] none)
            else
              bif true && decide (0 ≤ maxI Go.Builtin.min n1 (Go.IntKind.i64.wrap ((↑x.length : Int) - 1))) then
                x[(maxI Go.Builtin.min n1 (Go.IntKind.i64.wrap ((↑x.length : Int) - 1))).toNat]?.bind fun (cs : List C) =>
                  bif cs.length.beq 2 then
                    bif cs.length.beq 2 then
                      (asF cs[0]?).bind fun (p : Nat × List C) =>
                        (asI Go.IntKind.i64 g2[0]?).bind fun (n : Int) =>
                          (callD e p.fst (A.one (C.int Go.IntKind.i64 n) :: [].append (List.map A.one p.2)) [Sh.int Go.IntKind.i64]).bind fun (x : Int) =>
                            (asB g2[1]?).bind fun (b : Bool) =>
                              bif b then some (Res.ret [A.agg 2 [C.int Go.IntKind.i64 x, C.bool true], A.one (C.int Go.IntKind.i64 0)] none)
                              else (asB cs[1]?).bind fun (b : Bool) => some (Res.ret [A.agg 2 [C.int Go.IntKind.i64 x, C.bool b], A.one (C.int Go.IntKind.i64 0)] none)
                    else
                      bif Nat.ble 2 cs.length then
                        (asF (List.take 2 cs)[0]?).bind fun (p : Nat × List C) =>
                          (asI Go.IntKind.i64 g2[0]?).bind fun (n : Int) =>
                            (callD e p.fst (A.one (C.int Go.IntKind.i64 n) :: [].append (List.map A.one p.2)) [Sh.int Go.IntKind.i64]).bind fun (x : Int) =>
                              (asB g2[1]?).bind fun (b : Bool) =>
                                bif b then some (Res.ret [A.agg 2 [C.int Go.IntKind.i64 x, C.bool true], A.one (C.int Go.IntKind.i64 0)] none)
                                else
                                  (asB (List.take 2 cs)[1]?).bind fun (b : Bool) => some (Res.ret [A.agg 2 [C.int Go.IntKind.i64 x, C.bool b], A.one (C.int Go.IntKind.i64 0)] none)
                      else none
                  else none
              else none
        else
          bif decide (n1 < 0) then some (Res.ret [A.agg 2 [C.int Go.IntKind.i64 0, C.bool false], A.one (C.int Go.IntKind.i64 2)] none)
          else
            bif decide (n1 ≥ (↑x.length : Int)) then some (Res.ret [A.agg 2 [C.int Go.IntKind.i64 0, C.bool false], A.one (C.int Go.IntKind.i64 2)] none)
            else
              bif true && decide (0 ≤ maxI Go.Builtin.min n1 (Go.IntKind.i64.wrap ((↑x.length : Int) - 1))) then
                x[(maxI Go.Builtin.min n1 (Go.IntKind.i64.wrap ((↑x.length : Int) - 1))).toNat]?.bind fun (cs : List C) =>
                  bif cs.length.beq 2 then
                    bif cs.length.beq 2 then
                      (asF cs[0]?).bind fun (p : Nat × List C) =>
                        (asI Go.IntKind.i64 g2[0]?).bind fun (n : Int) =>
                          (callD e p.fst (A.one (C.int Go.IntKind.i64 n) :: [].append (List.map A.one p.2)) [Sh.int Go.IntKind.i64]).bind fun (x : Int) =>
                            (asB g2[1]?).bind fun (b : Bool) =>
                              bif b then some (Res.ret [A.agg 2 [C.int Go.IntKind.i64 x, C.bool true], A.one (C.int Go.IntKind.i64 0)] none)
                              else (asB cs[1]?).bind fun (b : Bool) => some (Res.ret [A.agg 2 [C.int Go.IntKind.i64 x, C.bool b], A.one (C.int Go.IntKind.i64 0)] none)
                    else
                      bif Nat.ble 2 cs.length then
                        (asF (List.take 2 cs)[0]?).bind fun (p : Nat × List C) =>
                          (asI Go.IntKind.i64 g2[0]?).bind fun (n : Int) =>
                            (callD e p.fst (A.one (C.int Go.IntKind.i64 n) :: [].append (List.map A.one p.2)) [Sh.int Go.IntKind.i64]).bind fun (x : Int) =>
                              (asB g2[1]?).bind fun (b : Bool) =>
                                bif b then some (Res.ret [A.agg 2 [C.int Go.IntKind.i64 x, C.bool true], A.one (C.int Go.IntKind.i64 0)] none)
                                else
                                  (asB (List.take 2 cs)[1]?).bind fun (b : Bool) => some (Res.ret [A.agg 2 [C.int Go.IntKind.i64 x, C.bool b], A.one (C.int Go.IntKind.i64 0)] none)
                      else none
                  else none
              else none
theorem R27_eq (n : Nat) (n0 : Int) (n1 : Int) (g2 : List C) : (eng Try.prog hs (n + 1)).call 27 [A.one (C.int Go.IntKind.i64 n0), A.one (C.int Go.IntKind.i64 n1), A.agg 2 g2] none = R27 (eng Try.prog hs n) n0 n1 g2 := by kernel_rfl
noncomputable def R41 (e : Eng) (g0 : List C) : Option Res :=
  (asI Go.IntKind.i64 g0[0]?).bind fun (n : Int) =>
  bif decide (n ≥ 0) then (asI Go.IntKind.i64 g0[0]?).bind fun (n : Int) => some (Res.ret [A.one (C.bool (decide (n ≤ 3)))] none) else some (Res.ret [A.one (C.bool false)] none)
theorem R41_eq (n : Nat) (g0 : List C) : (eng Try.prog hs (n + 1)).call 41 [A.agg 2 g0] none = R41 (eng Try.prog hs n) g0 := by kernel_rfl
noncomputable def R42 (e : Eng) (g0 : List C) : Option Res :=
  (asI Go.IntKind.i64 g0[0]?).bind fun (n : Int) =>
  bif decide (n ≥ 0) then (asI Go.IntKind.i64 g0[0]?).bind fun (n : Int) => some (Res.ret [A.one (C.bool (decide (n ≤ 3)))] none) else some (Res.ret [A.one (C.bool false)] none)
theorem R42_eq (n : Nat) (g0 : List C) : (eng Try.prog hs (n + 1)).call 42 [A.agg 2 g0] none = R42 (eng Try.prog hs n) g0 := by kernel_rfl
noncomputable def R43 (e : Eng) (g0 : List C) (g1 : List C) : Option Res :=
  (callD e 42 [A.agg 2 g1] [Sh.bool]).bind fun (x : Bool) =>
  bif !x then some (Res.ret [A.one (C.int Go.IntKind.i64 0)] none)
  else
    (asI Go.IntKind.i64 g0[17]?).bind fun (n : Int) =>
      (asI Go.IntKind.i64 g0[18]?).bind fun (n_1 : Int) =>
        (asI Go.IntKind.i64 g1[0]?).bind fun (n_2 : Int) =>
          bif true && decide (0 ≤ n_2) && decide (n_2 < (↑4 : Int)) then
            [[C.int Go.IntKind.i64 100], [C.int Go.IntKind.i64 100], [C.int Go.IntKind.i64 n], [C.int Go.IntKind.i64 n_1]][n_2.toNat]?.bind fun (cs : List C) =>
              (asI Go.IntKind.i64 cs[0]?).bind fun (n : Int) => some (Res.ret [A.one (C.int Go.IntKind.i64 n)] none)
          else none
theorem R43_eq (n : Nat) (g0 : List C) (g1 : List C) : (eng Try.prog hs (n + 1)).call 43 [A.agg 22 g0, A.agg 2 g1] none = R43 (eng Try.prog hs n) g0 g1 := by kernel_rfl
noncomputable def R44 (e : Eng) (n0 : Int) : Option Res :=
  bif decide (n0 < 0) then some (Res.ret [A.one (C.sl [])] none)
else
  bif decide (n0 ≥ 13) then some (Res.ret [A.one (C.sl [])] none)
  else
    bif true && decide (0 ≤ n0) && decide (n0 < (↑13 : Int)) then
      match Try.prog.underlying 83,
        [V.nsl, V.nsl, V.nsl, V.nsl, V.nsl, V.own 6 2 2, V.own 9 2 2, V.own 12 2 2, V.own 15 2 2, V.own 19 3 2, V.own 21 1 2, V.own 23 1 2, V.own 25 1 2][0 + n0.toNat * 1]? with
      | some val, some v =>
        (fun (v : V) (r : List Rd) =>
            (fun (v : V) (r : List Rd) (l : List Dl) =>
                (fun (v : V) (r : List Rd) (d : List Dl) (s : Option Rnd) (y : Bool) =>
                    seqK Try.prog hs e
                      #[Go.Oper.mk (some 33) (Go.Op.move (Go.Operand.tmp 0)) 3 "style.go:58" #[] none,
                        Go.Oper.mk (some 34) (Go.Op.indexAddr 99 (Go.Operand.tmp 3) (Go.Operand.tmp 33)) 0 "style.go:58" #[Go.Edge.mk 0 Go.Ground.data] none,
                        Go.Oper.mk (some 35) (Go.Op.load 83 (Go.Operand.tmp 34)) 83 "style.go:58" #[Go.Edge.mk 1 Go.Ground.data] none,
                        Go.Oper.mk (some 2) (Go.Op.assign (Go.Operand.tmp 35)) 83 "style.go:58"
                          #[Go.Edge.mk 2 Go.Ground.data, Go.Edge.mk 0 Go.Ground.phase, Go.Edge.mk 1 Go.Ground.phase, Go.Edge.mk 2 Go.Ground.phase] none]
                      [3]
                      (St.mk
                        (St.mk 44 36
                            [(0, V.c (C.int Go.IntKind.i64 n0)), (2, V.nsl), (3, V.ptr 3 0), (4, V.agg [V.c (C.fn 54 []), V.c (C.bool false)]),
                              (5, V.agg [V.c (C.fn 54 []), V.c (C.bool true)]), (6, V.own 6 2 2), (7, V.agg [V.c (C.fn 55 []), V.c (C.bool false)]),
                              (8, V.agg [V.c (C.fn 56 []), V.c (C.bool true)]), (9, V.own 9 2 2), (10, V.agg [V.c (C.fn 56 []), V.c (C.bool false)]),
                              (11, V.agg [V.c (C.fn 57 []), V.c (C.bool true)]), (12, V.own 12 2 2), (13, V.agg [V.c (C.fn 56 []), V.c (C.bool false)]),
                              (14, V.agg [V.c (C.fn 57 []), V.c (C.bool false)]), (15, V.own 15 2 2), (16, V.agg [V.c (C.fn 56 []), V.c (C.bool false)]),
                              (17, V.agg [V.c (C.fn 57 []), V.c (C.bool true)]), (18, V.agg [V.c (C.fn 57 []), V.c (C.bool false)]), (19, V.own 19 3 2),
                              (20, V.agg [V.c (C.fn 56 []), V.c (C.bool true)]), (21, V.own 21 1 2), (22, V.agg [V.c (C.fn 56 []), V.c (C.bool false)]), (23, V.own 23 1 2),
                              (24, V.agg [V.c (C.fn 58 []), V.c (C.bool false)]), (25, V.own 25 1 2),
                              (26,
                                V.agg
                                  [V.nsl, V.nsl, V.nsl, V.nsl, V.nsl, V.own 6 2 2, V.own 9 2 2, V.own 12 2 2, V.own 15 2 2, V.own 19 3 2, V.own 21 1 2, V.own 23 1 2,
                                    V.own 25 1 2]),
                              (27, V.c (C.int Go.IntKind.i64 n0)), (28, V.c (C.bool (decide (n0 < 0)))), (29, V.c (C.bool false)), (30, V.c (C.int Go.IntKind.i64 n0)),
                              (31, V.c (C.bool (decide (n0 ≥ 13)))), (32, V.c (C.bool (decide (n0 ≥ 13)))), (33, V.c (C.int Go.IntKind.i64 n0)), (34, V.ptr 3 (0 + n0.toNat * 1))]
                            [(3,
                                Slot.live
                                  (Blk.vs
                                    [V.nsl, V.nsl, V.nsl, V.nsl, V.nsl, V.own 6 2 2, V.own 9 2 2, V.own 12 2 2, V.own 15 2 2, V.own 19 3 2, V.own 21 1 2, V.own 23 1 2,
                                      V.own 25 1 2])
                                  false),
                              (6, Slot.live (Blk.arr 2 [[C.fn 54 [], C.bool false], [C.fn 54 [], C.bool true]]) false),
                              (9, Slot.live (Blk.arr 2 [[C.fn 55 [], C.bool false], [C.fn 56 [], C.bool true]]) false),
                              (12, Slot.live (Blk.arr 2 [[C.fn 56 [], C.bool false], [C.fn 57 [], C.bool true]]) false),
                              (15, Slot.live (Blk.arr 2 [[C.fn 56 [], C.bool false], [C.fn 57 [], C.bool false]]) false),
                              (19, Slot.live (Blk.arr 2 [[C.fn 56 [], C.bool false], [C.fn 57 [], C.bool true], [C.fn 57 [], C.bool false]]) false),
                              (21, Slot.live (Blk.arr 2 [[C.fn 56 [], C.bool true]]) false), (23, Slot.live (Blk.arr 2 [[C.fn 56 [], C.bool false]]) false),
                              (25, Slot.live (Blk.arr 2 [[C.fn 58 [], C.bool false]]) false)]
                            none 0 []).f
                        (St.mk 44 36
                            [(0, V.c (C.int Go.IntKind.i64 n0)), (2, V.nsl), (3, V.ptr 3 0), (4, V.agg [V.c (C.fn 54 []), V.c (C.bool false)]),
                              (5, V.agg [V.c (C.fn 54 []), V.c (C.bool true)]), (6, V.own 6 2 2), (7, V.agg [V.c (C.fn 55 []), V.c (C.bool false)]),
                              (8, V.agg [V.c (C.fn 56 []), V.c (C.bool true)]), (9, V.own 9 2 2), (10, V.agg [V.c (C.fn 56 []), V.c (C.bool false)]),
                              (11, V.agg [V.c (C.fn 57 []), V.c (C.bool true)]), (12, V.own 12 2 2), (13, V.agg [V.c (C.fn 56 []), V.c (C.bool false)]),
                              (14, V.agg [V.c (C.fn 57 []), V.c (C.bool false)]), (15, V.own 15 2 2), (16, V.agg [V.c (C.fn 56 []), V.c (C.bool false)]),
                              (17, V.agg [V.c (C.fn 57 []), V.c (C.bool true)]), (18, V.agg [V.c (C.fn 57 []), V.c (C.bool false)]), (19, V.own 19 3 2),
                              (20, V.agg [V.c (C.fn 56 []), V.c (C.bool true)]), (21, V.own 21 1 2), (22, V.agg [V.c (C.fn 56 []), V.c (C.bool false)]), (23, V.own 23 1 2),
                              (24, V.agg [V.c (C.fn 58 []), V.c (C.bool false)]), (25, V.own 25 1 2),
                              (26,
                                V.agg
                                  [V.nsl, V.nsl, V.nsl, V.nsl, V.nsl, V.own 6 2 2, V.own 9 2 2, V.own 12 2 2, V.own 15 2 2, V.own 19 3 2, V.own 21 1 2, V.own 23 1 2,
                                    V.own 25 1 2]),
                              (27, V.c (C.int Go.IntKind.i64 n0)), (28, V.c (C.bool (decide (n0 < 0)))), (29, V.c (C.bool false)), (30, V.c (C.int Go.IntKind.i64 n0)),
                              (31, V.c (C.bool (decide (n0 ≥ 13)))), (32, V.c (C.bool (decide (n0 ≥ 13)))), (33, V.c (C.int Go.IntKind.i64 n0)), (34, V.ptr 3 (0 + n0.toNat * 1))]
                            [(3,
                                Slot.live
                                  (Blk.vs
                                    [V.nsl, V.nsl, V.nsl, V.nsl, V.nsl, V.own 6 2 2, V.own 9 2 2, V.own 12 2 2, V.own 15 2 2, V.own 19 3 2, V.own 21 1 2, V.own 23 1 2,
                                      V.own 25 1 2])
                                  false),
                              (6, Slot.live (Blk.arr 2 [[C.fn 54 [], C.bool false], [C.fn 54 [], C.bool true]]) false),
                              (9, Slot.live (Blk.arr 2 [[C.fn 55 [], C.bool false], [C.fn 56 [], C.bool true]]) false),
                              (12, Slot.live (Blk.arr 2 [[C.fn 56 [], C.bool false], [C.fn 57 [], C.bool true]]) false),
                              (15, Slot.live (Blk.arr 2 [[C.fn 56 [], C.bool false], [C.fn 57 [], C.bool false]]) false),
                              (19, Slot.live (Blk.arr 2 [[C.fn 56 [], C.bool false], [C.fn 57 [], C.bool true], [C.fn 57 [], C.bool false]]) false),
                              (21, Slot.live (Blk.arr 2 [[C.fn 56 [], C.bool true]]) false), (23, Slot.live (Blk.arr 2 [[C.fn 56 [], C.bool false]]) false),
                              (25, Slot.live (Blk.arr 2 [[C.fn 58 [], C.bool false]]) false)]
                            none 0 []).nt
                        (putE
                          (St.mk 44 36
                              [(0, V.c (C.int Go.IntKind.i64 n0)), (2, V.nsl), (3, V.ptr 3 0), (4, V.agg [V.c (C.fn 54 []), V.c (C.bool false)]),
                                (5, V.agg [V.c (C.fn 54 []), V.c (C.bool true)]), (6, V.own 6 2 2), (7, V.agg [V.c (C.fn 55 []), V.c (C.bool false)]),
                                (8, V.agg [V.c (C.fn 56 []), V.c (C.bool true)]), (9, V.own 9 2 2), (10, V.agg [V.c (C.fn 56 []), V.c (C.bool false)]),
                                (11, V.agg [V.c (C.fn 57 []), V.c (C.bool true)]), (12, V.own 12 2 2), (13, V.agg [V.c (C.fn 56 []), V.c (C.bool false)]),
                                (14, V.agg [V.c (C.fn 57 []), V.c (C.bool false)]), (15, V.own 15 2 2), (16, V.agg [V.c (C.fn 56 []), V.c (C.bool false)]),
                                (17, V.agg [V.c (C.fn 57 []), V.c (C.bool true)]), (18, V.agg [V.c (C.fn 57 []), V.c (C.bool false)]), (19, V.own 19 3 2),
                                (20, V.agg [V.c (C.fn 56 []), V.c (C.bool true)]), (21, V.own 21 1 2), (22, V.agg [V.c (C.fn 56 []), V.c (C.bool false)]), (23, V.own 23 1 2),
                                (24, V.agg [V.c (C.fn 58 []), V.c (C.bool false)]), (25, V.own 25 1 2),
                                (26,
                                  V.agg
                                    [V.nsl, V.nsl, V.nsl, V.nsl, V.nsl, V.own 6 2 2, V.own 9 2 2, V.own 12 2 2, V.own 15 2 2, V.own 19 3 2, V.own 21 1 2, V.own 23 1 2,
                                      V.own 25 1 2]),
                                (27, V.c (C.int Go.IntKind.i64 n0)), (28, V.c (C.bool (decide (n0 < 0)))), (29, V.c (C.bool false)), (30, V.c (C.int Go.IntKind.i64 n0)),
                                (31, V.c (C.bool (decide (n0 ≥ 13)))), (32, V.c (C.bool (decide (n0 ≥ 13)))), (33, V.c (C.int Go.IntKind.i64 n0)), (34, V.ptr 3 (0 + n0.toNat * 1))]
                              [(3,
                                  Slot.live
                                    (Blk.vs
                                      [V.nsl, V.nsl, V.nsl, V.nsl, V.nsl, V.own 6 2 2, V.own 9 2 2, V.own 12 2 2, V.own 15 2 2, V.own 19 3 2, V.own 21 1 2, V.own 23 1 2,
                                        V.own 25 1 2])
                                    false),
                                (6, Slot.live (Blk.arr 2 [[C.fn 54 [], C.bool false], [C.fn 54 [], C.bool true]]) false),
                                (9, Slot.live (Blk.arr 2 [[C.fn 55 [], C.bool false], [C.fn 56 [], C.bool true]]) false),
                                (12, Slot.live (Blk.arr 2 [[C.fn 56 [], C.bool false], [C.fn 57 [], C.bool true]]) false),
                                (15, Slot.live (Blk.arr 2 [[C.fn 56 [], C.bool false], [C.fn 57 [], C.bool false]]) false),
                                (19, Slot.live (Blk.arr 2 [[C.fn 56 [], C.bool false], [C.fn 57 [], C.bool true], [C.fn 57 [], C.bool false]]) false),
                                (21, Slot.live (Blk.arr 2 [[C.fn 56 [], C.bool true]]) false), (23, Slot.live (Blk.arr 2 [[C.fn 56 [], C.bool false]]) false),
                                (25, Slot.live (Blk.arr 2 [[C.fn 58 [], C.bool false]]) false)]
                              none 0 []).t
                          #[Go.Oper.mk (some 33) (Go.Op.move (Go.Operand.tmp 0)) 3 "style.go:58" #[] none,
                                Go.Oper.mk (some 34) (Go.Op.indexAddr 99 (Go.Operand.tmp 3) (Go.Operand.tmp 33)) 0 "style.go:58" #[Go.Edge.mk 0 Go.Ground.data] none,
                                Go.Oper.mk (some 35) (Go.Op.load 83 (Go.Operand.tmp 34)) 83 "style.go:58" #[Go.Edge.mk 1 Go.Ground.data] none,
                                Go.Oper.mk (some 2) (Go.Op.assign (Go.Operand.tmp 35)) 83 "style.go:58"
                                  #[Go.Edge.mk 2 Go.Ground.data, Go.Edge.mk 0 Go.Ground.phase, Go.Edge.mk 1 Go.Ground.phase, Go.Edge.mk 2 Go.Ground.phase] none][2].dst
                          v)
                        (appAll d
                          (St.mk 44 36
                              [(0, V.c (C.int Go.IntKind.i64 n0)), (2, V.nsl), (3, V.ptr 3 0), (4, V.agg [V.c (C.fn 54 []), V.c (C.bool false)]),
                                (5, V.agg [V.c (C.fn 54 []), V.c (C.bool true)]), (6, V.own 6 2 2), (7, V.agg [V.c (C.fn 55 []), V.c (C.bool false)]),
                                (8, V.agg [V.c (C.fn 56 []), V.c (C.bool true)]), (9, V.own 9 2 2), (10, V.agg [V.c (C.fn 56 []), V.c (C.bool false)]),
                                (11, V.agg [V.c (C.fn 57 []), V.c (C.bool true)]), (12, V.own 12 2 2), (13, V.agg [V.c (C.fn 56 []), V.c (C.bool false)]),
                                (14, V.agg [V.c (C.fn 57 []), V.c (C.bool false)]), (15, V.own 15 2 2), (16, V.agg [V.c (C.fn 56 []), V.c (C.bool false)]),
                                (17, V.agg [V.c (C.fn 57 []), V.c (C.bool true)]), (18, V.agg [V.c (C.fn 57 []), V.c (C.bool false)]), (19, V.own 19 3 2),
                                (20, V.agg [V.c (C.fn 56 []), V.c (C.bool true)]), (21, V.own 21 1 2), (22, V.agg [V.c (C.fn 56 []), V.c (C.bool false)]), (23, V.own 23 1 2),
                                (24, V.agg [V.c (C.fn 58 []), V.c (C.bool false)]), (25, V.own 25 1 2),
                                (26,
                                  V.agg
                                    [V.nsl, V.nsl, V.nsl, V.nsl, V.nsl, V.own 6 2 2, V.own 9 2 2, V.own 12 2 2, V.own 15 2 2, V.own 19 3 2, V.own 21 1 2, V.own 23 1 2,
                                      V.own 25 1 2]),
                                (27, V.c (C.int Go.IntKind.i64 n0)), (28, V.c (C.bool (decide (n0 < 0)))), (29, V.c (C.bool false)), (30, V.c (C.int Go.IntKind.i64 n0)),
                                (31, V.c (C.bool (decide (n0 ≥ 13)))), (32, V.c (C.bool (decide (n0 ≥ 13)))), (33, V.c (C.int Go.IntKind.i64 n0)), (34, V.ptr 3 (0 + n0.toNat * 1))]
                              [(3,
                                  Slot.live
                                    (Blk.vs
                                      [V.nsl, V.nsl, V.nsl, V.nsl, V.nsl, V.own 6 2 2, V.own 9 2 2, V.own 12 2 2, V.own 15 2 2, V.own 19 3 2, V.own 21 1 2, V.own 23 1 2,
                                        V.own 25 1 2])
                                    false),
                                (6, Slot.live (Blk.arr 2 [[C.fn 54 [], C.bool false], [C.fn 54 [], C.bool true]]) false),
                                (9, Slot.live (Blk.arr 2 [[C.fn 55 [], C.bool false], [C.fn 56 [], C.bool true]]) false),
                                (12, Slot.live (Blk.arr 2 [[C.fn 56 [], C.bool false], [C.fn 57 [], C.bool true]]) false),
                                (15, Slot.live (Blk.arr 2 [[C.fn 56 [], C.bool false], [C.fn 57 [], C.bool false]]) false),
                                (19, Slot.live (Blk.arr 2 [[C.fn 56 [], C.bool false], [C.fn 57 [], C.bool true], [C.fn 57 [], C.bool false]]) false),
                                (21, Slot.live (Blk.arr 2 [[C.fn 56 [], C.bool true]]) false), (23, Slot.live (Blk.arr 2 [[C.fn 56 [], C.bool false]]) false),
                                (25, Slot.live (Blk.arr 2 [[C.fn 58 [], C.bool false]]) false)]
                              none 0 []).H)
                        s
                        (St.mk 44 36
                            [(0, V.c (C.int Go.IntKind.i64 n0)), (2, V.nsl), (3, V.ptr 3 0), (4, V.agg [V.c (C.fn 54 []), V.c (C.bool false)]),
                              (5, V.agg [V.c (C.fn 54 []), V.c (C.bool true)]), (6, V.own 6 2 2), (7, V.agg [V.c (C.fn 55 []), V.c (C.bool false)]),
                              (8, V.agg [V.c (C.fn 56 []), V.c (C.bool true)]), (9, V.own 9 2 2), (10, V.agg [V.c (C.fn 56 []), V.c (C.bool false)]),
                              (11, V.agg [V.c (C.fn 57 []), V.c (C.bool true)]), (12, V.own 12 2 2), (13, V.agg [V.c (C.fn 56 []), V.c (C.bool false)]),
                              (14, V.agg [V.c (C.fn 57 []), V.c (C.bool false)]), (15, V.own 15 2 2), (16, V.agg [V.c (C.fn 56 []), V.c (C.bool false)]),
                              (17, V.agg [V.c (C.fn 57 []), V.c (C.bool true)]), (18, V.agg [V.c (C.fn 57 []), V.c (C.bool false)]), (19, V.own 19 3 2),
                              (20, V.agg [V.c (C.fn 56 []), V.c (C.bool true)]), (21, V.own 21 1 2), (22, V.agg [V.c (C.fn 56 []), V.c (C.bool false)]), (23, V.own 23 1 2),
                              (24, V.agg [V.c (C.fn 58 []), V.c (C.bool false)]), (25, V.own 25 1 2),
                              (26,
                                V.agg
                                  [V.nsl, V.nsl, V.nsl, V.nsl, V.nsl, V.own 6 2 2, V.own 9 2 2, V.own 12 2 2, V.own 15 2 2, V.own 19 3 2, V.own 21 1 2, V.own 23 1 2,
                                    V.own 25 1 2]),
                              (27, V.c (C.int Go.IntKind.i64 n0)), (28, V.c (C.bool (decide (n0 < 0)))), (29, V.c (C.bool false)), (30, V.c (C.int Go.IntKind.i64 n0)),
                              (31, V.c (C.bool (decide (n0 ≥ 13)))), (32, V.c (C.bool (decide (n0 ≥ 13)))), (33, V.c (C.int Go.IntKind.i64 n0)), (34, V.ptr 3 (0 + n0.toNat * 1))]
                            [(3,
                                Slot.live
                                  (Blk.vs
                                    [V.nsl, V.nsl, V.nsl, V.nsl, V.nsl, V.own 6 2 2, V.own 9 2 2, V.own 12 2 2, V.own 15 2 2, V.own 19 3 2, V.own 21 1 2, V.own 23 1 2,
                                      V.own 25 1 2])
                                  false),
                              (6, Slot.live (Blk.arr 2 [[C.fn 54 [], C.bool false], [C.fn 54 [], C.bool true]]) false),
                              (9, Slot.live (Blk.arr 2 [[C.fn 55 [], C.bool false], [C.fn 56 [], C.bool true]]) false),
                              (12, Slot.live (Blk.arr 2 [[C.fn 56 [], C.bool false], [C.fn 57 [], C.bool true]]) false),
                              (15, Slot.live (Blk.arr 2 [[C.fn 56 [], C.bool false], [C.fn 57 [], C.bool false]]) false),
                              (19, Slot.live (Blk.arr 2 [[C.fn 56 [], C.bool false], [C.fn 57 [], C.bool true], [C.fn 57 [], C.bool false]]) false),
                              (21, Slot.live (Blk.arr 2 [[C.fn 56 [], C.bool true]]) false), (23, Slot.live (Blk.arr 2 [[C.fn 56 [], C.bool false]]) false),
                              (25, Slot.live (Blk.arr 2 [[C.fn 58 [], C.bool false]]) false)]
                            none 0 []).round
                        (St.mk 44 36
                            [(0, V.c (C.int Go.IntKind.i64 n0)), (2, V.nsl), (3, V.ptr 3 0), (4, V.agg [V.c (C.fn 54 []), V.c (C.bool false)]),
                              (5, V.agg [V.c (C.fn 54 []), V.c (C.bool true)]), (6, V.own 6 2 2), (7, V.agg [V.c (C.fn 55 []), V.c (C.bool false)]),
                              (8, V.agg [V.c (C.fn 56 []), V.c (C.bool true)]), (9, V.own 9 2 2), (10, V.agg [V.c (C.fn 56 []), V.c (C.bool false)]),
                              (11, V.agg [V.c (C.fn 57 []), V.c (C.bool true)]), (12, V.own 12 2 2), (13, V.agg [V.c (C.fn 56 []), V.c (C.bool false)]),
                              (14, V.agg [V.c (C.fn 57 []), V.c (C.bool false)]), (15, V.own 15 2 2), (16, V.agg [V.c (C.fn 56 []), V.c (C.bool false)]),
                              (17, V.agg [V.c (C.fn 57 []), V.c (C.bool true)]), (18, V.agg [V.c (C.fn 57 []), V.c (C.bool false)]), (19, V.own 19 3 2),
                              (20, V.agg [V.c (C.fn 56 []), V.c (C.bool true)]), (21, V.own 21 1 2), (22, V.agg [V.c (C.fn 56 []), V.c (C.bool false)]), (23, V.own 23 1 2),
                              (24, V.agg [V.c (C.fn 58 []), V.c (C.bool false)]), (25, V.own 25 1 2),
                              (26,
                                V.agg
                                  [V.nsl, V.nsl, V.nsl, V.nsl, V.nsl, V.own 6 2 2, V.own 9 2 2, V.own 12 2 2, V.own 15 2 2, V.own 19 3 2, V.own 21 1 2, V.own 23 1 2,
                                    V.own 25 1 2]),
                              (27, V.c (C.int Go.IntKind.i64 n0)), (28, V.c (C.bool (decide (n0 < 0)))), (29, V.c (C.bool false)), (30, V.c (C.int Go.IntKind.i64 n0)),
                              (31, V.c (C.bool (decide (n0 ≥ 13)))), (32, V.c (C.bool (decide (n0 ≥ 13)))), (33, V.c (C.int Go.IntKind.i64 n0)), (34, V.ptr 3 (0 + n0.toNat * 1))]
                            [(3,
                                Slot.live
                                  (Blk.vs
                                    [V.nsl, V.nsl, V.nsl, V.nsl, V.nsl, V.own 6 2 2, V.own 9 2 2, V.own 12 2 2, V.own 15 2 2, V.own 19 3 2, V.own 21 1 2, V.own 23 1 2,
                                      V.own 25 1 2])
                                  false),
                              (6, Slot.live (Blk.arr 2 [[C.fn 54 [], C.bool false], [C.fn 54 [], C.bool true]]) false),
                              (9, Slot.live (Blk.arr 2 [[C.fn 55 [], C.bool false], [C.fn 56 [], C.bool true]]) false),
                              (12, Slot.live (Blk.arr 2 [[C.fn 56 [], C.bool false], [C.fn 57 [], C.bool true]]) false),
                              (15, Slot.live (Blk.arr 2 [[C.fn 56 [], C.bool false], [C.fn 57 [], C.bool false]]) false),
                              (19, Slot.live (Blk.arr 2 [[C.fn 56 [], C.bool false], [C.fn 57 [], C.bool true], [C.fn 57 [], C.bool false]]) false),
                              (21, Slot.live (Blk.arr 2 [[C.fn 56 [], C.bool true]]) false), (23, Slot.live (Blk.arr 2 [[C.fn 56 [], C.bool false]]) false),
                              (25, Slot.live (Blk.arr 2 [[C.fn 58 [], C.bool false]]) false)]
                            none 0 []).keep)
                      [Rec.mk 2 r d y, Rec.mk 1 [] [] false, Rec.mk 0 [] [] false] fun (st' : St) (rs : List Rec) =>
                      bif false then
                        bif
                            drawOk
                              #[Go.Oper.mk (some 33) (Go.Op.move (Go.Operand.tmp 0)) 3 "style.go:58" #[] none,
                                Go.Oper.mk (some 34) (Go.Op.indexAddr 99 (Go.Operand.tmp 3) (Go.Operand.tmp 33)) 0 "style.go:58" #[Go.Edge.mk 0 Go.Ground.data] none,
                                Go.Oper.mk (some 35) (Go.Op.load 83 (Go.Operand.tmp 34)) 83 "style.go:58" #[Go.Edge.mk 1 Go.Ground.data] none,
                                Go.Oper.mk (some 2) (Go.Op.assign (Go.Operand.tmp 35)) 83 "style.go:58"
                                  #[Go.Edge.mk 2 Go.Ground.data, Go.Edge.mk 0 Go.Ground.phase, Go.Edge.mk 1 Go.Ground.phase, Go.Edge.mk 2 Go.Ground.phase] none]
                              rs then
                          runIn Try.prog hs e 99989 [Go.Item.code Go.Code.ret] st'
                        else none
                      else runIn Try.prog hs e 99989 [Go.Item.code Go.Code.ret] st')
                  v r l
                  (St.mk 44 36
                      [(0, V.c (C.int Go.IntKind.i64 n0)), (2, V.nsl), (3, V.ptr 3 0), (4, V.agg [V.c (C.fn 54 []), V.c (C.bool false)]),
                        (5, V.agg [V.c (C.fn 54 []), V.c (C.bool true)]), (6, V.own 6 2 2), (7, V.agg [V.c (C.fn 55 []), V.c (C.bool false)]),
                        (8, V.agg [V.c (C.fn 56 []), V.c (C.bool true)]), (9, V.own 9 2 2), (10, V.agg [V.c (C.fn 56 []), V.c (C.bool false)]),
                        (11, V.agg [V.c (C.fn 57 []), V.c (C.bool true)]), (12, V.own 12 2 2), (13, V.agg [V.c (C.fn 56 []), V.c (C.bool false)]),
                        (14, V.agg [V.c (C.fn 57 []), V.c (C.bool false)]), (15, V.own 15 2 2), (16, V.agg [V.c (C.fn 56 []), V.c (C.bool false)]),
                        (17, V.agg [V.c (C.fn 57 []), V.c (C.bool true)]), (18, V.agg [V.c (C.fn 57 []), V.c (C.bool false)]), (19, V.own 19 3 2),
                        (20, V.agg [V.c (C.fn 56 []), V.c (C.bool true)]), (21, V.own 21 1 2), (22, V.agg [V.c (C.fn 56 []), V.c (C.bool false)]), (23, V.own 23 1 2),
                        (24, V.agg [V.c (C.fn 58 []), V.c (C.bool false)]), (25, V.own 25 1 2),
                        (26,
                          V.agg [V.nsl, V.nsl, V.nsl, V.nsl, V.nsl, V.own 6 2 2, V.own 9 2 2, V.own 12 2 2, V.own 15 2 2, V.own 19 3 2, V.own 21 1 2, V.own 23 1 2, V.own 25 1 2]),
                        (27, V.c (C.int Go.IntKind.i64 n0)), (28, V.c (C.bool (decide (n0 < 0)))), (29, V.c (C.bool false)), (30, V.c (C.int Go.IntKind.i64 n0)),
                        (31, V.c (C.bool (decide (n0 ≥ 13)))), (32, V.c (C.bool (decide (n0 ≥ 13)))), (33, V.c (C.int Go.IntKind.i64 n0)), (34, V.ptr 3 (0 + n0.toNat * 1))]
                      [(3,
                          Slot.live
                            (Blk.vs
                              [V.nsl, V.nsl, V.nsl, V.nsl, V.nsl, V.own 6 2 2, V.own 9 2 2, V.own 12 2 2, V.own 15 2 2, V.own 19 3 2, V.own 21 1 2, V.own 23 1 2, V.own 25 1 2])
                            false),
                        (6, Slot.live (Blk.arr 2 [[C.fn 54 [], C.bool false], [C.fn 54 [], C.bool true]]) false),
                        (9, Slot.live (Blk.arr 2 [[C.fn 55 [], C.bool false], [C.fn 56 [], C.bool true]]) false),
                        (12, Slot.live (Blk.arr 2 [[C.fn 56 [], C.bool false], [C.fn 57 [], C.bool true]]) false),
                        (15, Slot.live (Blk.arr 2 [[C.fn 56 [], C.bool false], [C.fn 57 [], C.bool false]]) false),
                        (19, Slot.live (Blk.arr 2 [[C.fn 56 [], C.bool false], [C.fn 57 [], C.bool true], [C.fn 57 [], C.bool false]]) false),
                        (21, Slot.live (Blk.arr 2 [[C.fn 56 [], C.bool true]]) false), (23, Slot.live (Blk.arr 2 [[C.fn 56 [], C.bool false]]) false),
                        (25, Slot.live (Blk.arr 2 [[C.fn 58 [], C.bool false]]) false)]
                      none 0 []).σ
                  false)
              v r [])
          v [Rd.look 3]
      | x, x_1 => none
    else none
theorem R44_eq (n : Nat) (n0 : Int) : (eng Try.prog hs (n + 1)).call 44 [A.one (C.int Go.IntKind.i64 n0)] none = R44 (eng Try.prog hs n) n0 := by kernel_rfl
noncomputable def R54 (e : Eng) (n0 : Int) : Option Res :=
  some (Res.ret [A.one (C.int Go.IntKind.i64 (maxI Go.Builtin.min (Go.IntKind.i64.wrap (n0 + 1)) 3))] none)
theorem R54_eq (n : Nat) (n0 : Int) : (eng Try.prog hs (n + 1)).call 54 [A.one (C.int Go.IntKind.i64 n0)] none = R54 (eng Try.prog hs n) n0 := by kernel_rfl
noncomputable def R55 (e : Eng) (n0 : Int) : Option Res :=
  some (Res.ret [A.one (C.int Go.IntKind.i64 3)] none)
theorem R55_eq (n : Nat) (n0 : Int) : (eng Try.prog hs (n + 1)).call 55 [A.one (C.int Go.IntKind.i64 n0)] none = R55 (eng Try.prog hs n) n0 := by kernel_rfl
noncomputable def R56 (e : Eng) (n0 : Int) : Option Res :=
  some (Res.ret [A.one (C.int Go.IntKind.i64 n0)] none)
theorem R56_eq (n : Nat) (n0 : Int) : (eng Try.prog hs (n + 1)).call 56 [A.one (C.int Go.IntKind.i64 n0)] none = R56 (eng Try.prog hs n) n0 := by kernel_rfl
noncomputable def R57 (e : Eng) (n0 : Int) : Option Res :=
  bif decide (n0 ≤ 1) then some (Res.ret [A.one (C.int Go.IntKind.i64 2)] none) else some (Res.ret [A.one (C.int Go.IntKind.i64 3)] none)
theorem R57_eq (n : Nat) (n0 : Int) : (eng Try.prog hs (n + 1)).call 57 [A.one (C.int Go.IntKind.i64 n0)] none = R57 (eng Try.prog hs n) n0 := by kernel_rfl
noncomputable def R58 (e : Eng) (n0 : Int) : Option Res :=
  some (Res.ret [A.one (C.int Go.IntKind.i64 (maxI Go.Builtin.max n0 1))] none)
theorem R58_eq (n : Nat) (n0 : Int) : (eng Try.prog hs (n + 1)).call 58 [A.one (C.int Go.IntKind.i64 n0)] none = R58 (eng Try.prog hs n) n0 := by kernel_rfl
end Go.Proofs.Ytenfgjanbneaeaa.E
