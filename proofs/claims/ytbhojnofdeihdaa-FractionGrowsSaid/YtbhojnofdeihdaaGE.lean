/- What is shown here: what functions of the program come to, read off by the evaluator (printed by a program of this session's, checked by the kernel). -/
import Derived.Test.YtbhojnofdeihdaaEH0
import Derived.WalkKit
import Derived.ProofKit
namespace Go.Proofs.Ytbhojnofdeihdaa.E
open Go.Proofs
set_option autoImplicit false
set_option linter.unusedVariables false
set_option maxRecDepth 100000
noncomputable def S18_4 (x5 : Int) (h1002 : List C) (h1003 : List C) : St :=
  St.mk 18 103 [(2, V.ptr 1002 0), (3, V.ptr 1003 0), (5, V.c (C.int Go.IntKind.i64 x5))] [(1002, Slot.live (Blk.pc 11 h1002) false), (1003, Slot.live (Blk.pc 11 h1003) false)] none
  0 []
noncomputable def R18 (e : Eng) (g0 : List C) (g1 : List C) : Option Res :=
  (asI Go.IntKind.i64 g0[0]?).bind fun (n : Int) =>
  (asI Go.IntKind.i64 g1[0]?).bind fun (n_1 : Int) =>
    bif n != n_1 then some (Res.ret [A.one (C.bool false)] none)
    else
      (asS g0[1]?).bind fun (s : ByteArray) =>
        (asS g1[1]?).bind fun (s_1 : ByteArray) =>
          bif !s.toList == s_1.toList then some (Res.ret [A.one (C.bool false)] none)
          else
            (asI Go.IntKind.i64 g0[2]?).bind fun (n : Int) =>
              (asI Go.IntKind.i64 g1[2]?).bind fun (n_2 : Int) =>
                bif n != n_2 then some (Res.ret [A.one (C.bool false)] none)
                else
                  (asI Go.IntKind.i64 g0[3]?).bind fun (n : Int) =>
                    (asI Go.IntKind.i64 g1[3]?).bind fun (n_3 : Int) =>
                      bif n != n_3 then some (Res.ret [A.one (C.bool false)] none)
                      else
                        (asI Go.IntKind.i64 g0[4]?).bind fun (n : Int) =>
                          (asI Go.IntKind.i64 g1[4]?).bind fun (n_4 : Int) =>
                            bif n != n_4 then some (Res.ret [A.one (C.bool false)] none)
                            else
                              (asI Go.IntKind.i64 g0[5]?).bind fun (n : Int) =>
                                (asI Go.IntKind.i64 g1[5]?).bind fun (n_5 : Int) =>
                                  bif n != n_5 then some (Res.ret [A.one (C.bool false)] none)
                                  else
                                    (asI Go.IntKind.i64 g0[6]?).bind fun (n : Int) =>
                                      (asI Go.IntKind.i64 g1[6]?).bind fun (n_6 : Int) =>
                                        bif n != n_6 then some (Res.ret [A.one (C.bool false)] none)
                                        else
                                          (asI Go.IntKind.i64 g0[7]?).bind fun (n : Int) =>
                                            (asI Go.IntKind.i64 g1[7]?).bind fun (n_7 : Int) =>
                                              bif n != n_7 then some (Res.ret [A.one (C.bool false)] none)
                                              else
                                                (asI Go.IntKind.i64 g0[9]?).bind fun (n : Int) =>
                                                  (asI Go.IntKind.i64 g1[9]?).bind fun (n_8 : Int) =>
                                                    bif n != n_8 then some (Res.ret [A.one (C.bool false)] none)
                                                    else
                                                      (asL g0[10]?).bind fun (l : List (List C)) =>
                                                        (asL g1[10]?).bind fun (l_1 : List (List C)) =>
                                                          (callD e 45 [A.one (C.sl l), A.one (C.sl l_1)] [Sh.bool]).bind fun (x : Bool) =>
                                                            bif !x then some (Res.ret [A.one (C.bool false)] none)
                                                            else
                                                              (asL g0[8]?).bind fun (l : List (List C)) =>
                                                                (asL g1[8]?).bind fun (l_2 : List (List C)) =>
                                                                  bif (↑l.length : Int) != (↑l_2.length : Int) then some (Res.ret [A.one (C.bool false)] none)
                                                                  else e.loop (lp Try.f18 4) (S18_4 0 g0 g1)
theorem R18_eq (n : Nat) (g0 : List C) (g1 : List C) : (eng Try.prog hs (n + 1)).call 18 [A.agg 11 g0, A.agg 11 g1] none = R18 (eng Try.prog hs n) g0 g1 := by kernel_rfl
noncomputable def L18_4 (e : Eng) (x5 : Int) (h1002 : List C) (h1003 : List C) : Option Res :=
  (asL h1002[8]?).bind fun (l : List (List C)) =>
  bif decide (x5 < (↑l.length : Int)) then
    (asL h1002[8]?).bind fun (l : List (List C)) =>
      bif true && decide (0 ≤ x5) then
        l[x5.toNat]?.bind fun (cs : List C) =>
          bif cs.length.beq 11 then
            bif cs.length.beq 11 then
              (asL h1003[8]?).bind fun (l : List (List C)) =>
                bif true && decide (0 ≤ x5) then
                  l[x5.toNat]?.bind fun (cs_1 : List C) =>
                    bif cs_1.length.beq 11 then
                      bif cs_1.length.beq 11 then
                        (callD e 18 [A.agg 11 cs, A.agg 11 cs_1] [Sh.bool]).bind fun (x : Bool) =>
                          bif !x then some (Res.ret [A.one (C.bool false)] none) else e.loop (lp Try.f18 4) (S18_4 (Go.IntKind.i64.wrap (x5 + 1)) h1002 h1003)
                      else
                        bif Nat.ble 11 cs_1.length then
                          (callD e 18 [A.agg 11 cs, A.agg 11 (List.take 11 cs_1)] [Sh.bool]).bind fun (x : Bool) =>
                            bif !x then some (Res.ret [A.one (C.bool false)] none) else e.loop (lp Try.f18 4) (S18_4 (Go.IntKind.i64.wrap (x5 + 1)) h1002 h1003)
                        else none
                    else none
                else none
            else
              bif Nat.ble 11 cs.length then
                (asL h1003[8]?).bind fun (l : List (List C)) =>
                  bif true && decide (0 ≤ x5) then
                    l[x5.toNat]?.bind fun (cs_1 : List C) =>
                      bif cs_1.length.beq 11 then
                        bif cs_1.length.beq 11 then
                          (callD e 18 [A.agg 11 (List.take 11 cs), A.agg 11 cs_1] [Sh.bool]).bind fun (x : Bool) =>
                            bif !x then some (Res.ret [A.one (C.bool false)] none) else e.loop (lp Try.f18 4) (S18_4 (Go.IntKind.i64.wrap (x5 + 1)) h1002 h1003)
                        else
                          bif Nat.ble 11 cs_1.length then
                            (callD e 18 [A.agg 11 (List.take 11 cs), A.agg 11 (List.take 11 cs_1)] [Sh.bool]).bind fun (x : Bool) =>
                              bif !x then some (Res.ret [A.one (C.bool false)] none) else e.loop (lp Try.f18 4) (S18_4 (Go.IntKind.i64.wrap (x5 + 1)) h1002 h1003)
                          else none
                      else none
                  else none
              else none
          else none
      else none
  else some (Res.ret [A.one (C.bool true)] none)
theorem L18_4_eq (n : Nat) (x5 : Int) (h1002 : List C) (h1003 : List C) : (eng Try.prog hs (n + 1)).loop (lp Try.f18 4) (S18_4 x5 h1002 h1003) = L18_4 (eng Try.prog hs n) x5 h1002 h1003 := by kernel_rfl
noncomputable def R23 (e : Eng) (g0 : List C) (n1 : Int) (n2 : Int) : Option Res :=
  some (Res.ret [A.agg 11 ((g0.set 6 (C.int Go.IntKind.i64 n1)).set 7 (C.int Go.IntKind.i64 n2))] none)
theorem R23_eq (n : Nat) (g0 : List C) (n1 : Int) (n2 : Int) : (eng Try.prog hs (n + 1)).call 23 [A.agg 11 g0, A.one (C.int Go.IntKind.i64 n1), A.one (C.int Go.IntKind.i64 n2)] none = R23 (eng Try.prog hs n) g0 n1 n2 := by kernel_rfl
noncomputable def R32 (e : Eng) (g0 : List C) (n1 : Int) : Option Res :=
  (callD e 57 [A.agg 11 g0, A.one (C.int Go.IntKind.i64 (Go.IntKind.i64.wrap (n1 + 1)))] [Sh.int Go.IntKind.i64]).bind fun (x : Int) =>
  some (Res.ret [A.one (C.bool (decide (x ≤ n1)))] none)
theorem R32_eq (n : Nat) (g0 : List C) (n1 : Int) : (eng Try.prog hs (n + 1)).call 32 [A.agg 11 g0, A.one (C.int Go.IntKind.i64 n1)] none = R32 (eng Try.prog hs n) g0 n1 := by kernel_rfl
noncomputable def S57_3 (x1 : Int) (x5 : Int) (x6 : Int) (h1002 : List C) : St :=
  St.mk 57 31 [(1, V.c (C.int Go.IntKind.i64 x1)), (2, V.ptr 1002 0), (5, V.c (C.int Go.IntKind.i64 x5)), (6, V.c (C.int Go.IntKind.i64 x6))]
  [(1002, Slot.live (Blk.pc 11 h1002) false)] none 0 []
noncomputable def R57 (e : Eng) (g0 : List C) (n1 : Int) : Option Res :=
  e.loop (lp Try.f57 3) (S57_3 n1 1 0 g0)
theorem R57_eq (n : Nat) (g0 : List C) (n1 : Int) : (eng Try.prog hs (n + 1)).call 57 [A.agg 11 g0, A.one (C.int Go.IntKind.i64 n1)] none = R57 (eng Try.prog hs n) g0 n1 := by kernel_rfl
noncomputable def L57_3 (e : Eng) (x1 : Int) (x5 : Int) (x6 : Int) (h1002 : List C) : Option Res :=
  (asL h1002[8]?).bind fun (l : List (List C)) =>
  bif decide (x6 < (↑l.length : Int)) then
    bif decide (x5 < x1) then
      (asL h1002[8]?).bind fun (l : List (List C)) =>
        bif true && decide (0 ≤ x6) then
          l[x6.toNat]?.bind fun (cs : List C) =>
            bif cs.length.beq 11 then
              bif cs.length.beq 11 then
                (callD e 57 [A.agg 11 cs, A.one (C.int Go.IntKind.i64 (Go.IntKind.i64.wrap (x1 - x5)))] [Sh.int Go.IntKind.i64]).bind fun (x : Int) =>
                  e.loop (lp Try.f57 3) (S57_3 x1 (Go.IntKind.i64.wrap (x5 + x)) (Go.IntKind.i64.wrap (x6 + 1)) h1002)
              else
                bif Nat.ble 11 cs.length then
                  (callD e 57 [A.agg 11 (List.take 11 cs), A.one (C.int Go.IntKind.i64 (Go.IntKind.i64.wrap (x1 - x5)))] [Sh.int Go.IntKind.i64]).bind fun (x : Int) =>
                    e.loop (lp Try.f57 3) (S57_3 x1 (Go.IntKind.i64.wrap (x5 + x)) (Go.IntKind.i64.wrap (x6 + 1)) h1002)
                else none
            else none
        else none
    else some (Res.ret [A.one (C.int Go.IntKind.i64 x5)] none)
  else some (Res.ret [A.one (C.int Go.IntKind.i64 x5)] none)
theorem L57_3_eq (n : Nat) (x1 : Int) (x5 : Int) (x6 : Int) (h1002 : List C) : (eng Try.prog hs (n + 1)).loop (lp Try.f57 3) (S57_3 x1 x5 x6 h1002) = L57_3 (eng Try.prog hs n) x1 x5 x6 h1002 := by kernel_rfl
noncomputable def R41 (e : Eng) (n0 : Int) (n1 : Int) (n2 : Int) : Option Res :=
  some
  (Res.ret
    [A.agg 11
        [C.int Go.IntKind.i64 2, C.str (ByteArray.mk #[]), C.int Go.IntKind.i64 0, C.int Go.IntKind.i64 n0, C.int Go.IntKind.i64 n1, C.int Go.IntKind.i64 n2,
          C.int Go.IntKind.i64 0, C.int Go.IntKind.i64 0, C.sl [], C.int Go.IntKind.i64 0, C.sl []]]
    none)
theorem R41_eq (n : Nat) (n0 : Int) (n1 : Int) (n2 : Int) : (eng Try.prog hs (n + 1)).call 41 [A.one (C.int Go.IntKind.i64 n0), A.one (C.int Go.IntKind.i64 n1), A.one (C.int Go.IntKind.i64 n2)] none = R41 (eng Try.prog hs n) n0 n1 n2 := by kernel_rfl
noncomputable def R44 (e : Eng) (n0 : Int) (n1 : Int) (n2 : Int) (l3 : List (List C)) : Option Res :=
  bif true && allSz 11 l3 && true && true && decide ((0 + l3.length) * (bytesT Try.prog 33 + 1) ≤ most) then
  some
    (Res.ret
      [A.agg 11
          [C.int Go.IntKind.i64 3, C.str (ByteArray.mk #[]), C.int Go.IntKind.i64 0, C.int Go.IntKind.i64 n0, C.int Go.IntKind.i64 n1, C.int Go.IntKind.i64 n2,
            C.int Go.IntKind.i64 0, C.int Go.IntKind.i64 0, C.sl l3, C.int Go.IntKind.i64 0, C.sl []]]
      none)
else none
theorem R44_eq (n : Nat) (n0 : Int) (n1 : Int) (n2 : Int) (l3 : List (List C)) : (eng Try.prog hs (n + 1)).call 44 [A.one (C.int Go.IntKind.i64 n0), A.one (C.int Go.IntKind.i64 n1), A.one (C.int Go.IntKind.i64 n2), A.one (C.sl l3)] none = R44 (eng Try.prog hs n) n0 n1 n2 l3 := by kernel_rfl
noncomputable def S45_4 (x0 : List (List C)) (x1 : List (List C)) (x5 : Int) : St :=
  St.mk 45 26 [(0, V.c (C.sl x0)), (1, V.c (C.sl x1)), (5, V.c (C.int Go.IntKind.i64 x5))] [] none 0 []
noncomputable def R45 (e : Eng) (l0 : List (List C)) (l1 : List (List C)) : Option Res :=
  bif (↑l0.length : Int) != (↑l1.length : Int) then some (Res.ret [A.one (C.bool false)] none) else e.loop (lp Try.f45 4) (S45_4 l0 l1 0)
theorem R45_eq (n : Nat) (l0 : List (List C)) (l1 : List (List C)) : (eng Try.prog hs (n + 1)).call 45 [A.one (C.sl l0), A.one (C.sl l1)] none = R45 (eng Try.prog hs n) l0 l1 := by kernel_rfl
noncomputable def L45_4 (e : Eng) (x0 : List (List C)) (x1 : List (List C)) (x5 : Int) : Option Res :=
  bif decide (x5 < (↑x0.length : Int)) then
  bif true && decide (0 ≤ x5) then
    x0[x5.toNat]?.bind fun (cs : List C) =>
      bif cs.length.beq 1 then
        (asI Go.IntKind.i64 cs[0]?).bind fun (n : Int) =>
          bif true && decide (0 ≤ x5) then
            x1[x5.toNat]?.bind fun (cs : List C) =>
              bif cs.length.beq 1 then
                (asI Go.IntKind.i64 cs[0]?).bind fun (n_1 : Int) =>
                  bif n != n_1 then some (Res.ret [A.one (C.bool false)] none) else e.loop (lp Try.f45 4) (S45_4 x0 x1 (Go.IntKind.i64.wrap (x5 + 1)))
              else none
          else none
      else none
  else none
else some (Res.ret [A.one (C.bool true)] none)
theorem L45_4_eq (n : Nat) (x0 : List (List C)) (x1 : List (List C)) (x5 : Int) : (eng Try.prog hs (n + 1)).loop (lp Try.f45 4) (S45_4 x0 x1 x5) = L45_4 (eng Try.prog hs n) x0 x1 x5 := by kernel_rfl
noncomputable def R66 (e : Eng) (g0 : List C) : Option Res :=
  (callD e 87 [A.agg 11 g0] [Sh.bool]).bind fun (x : Bool) =>
  bif x then
    (callD e 88 [A.agg 11 g0] [Sh.int Go.IntKind.i64]).bind fun (x : Int) =>
      bif decide (x ≤ 20000) then (callD e 89 [A.agg 11 g0] [Sh.int Go.IntKind.i64]).bind fun (x : Int) => some (Res.ret [A.one (C.bool (decide (x ≤ 100)))] none)
      else some (Res.ret [A.one (C.bool false)] none)
  else some (Res.ret [A.one (C.bool false)] none)
theorem R66_eq (n : Nat) (g0 : List C) : (eng Try.prog hs (n + 1)).call 66 [A.agg 11 g0] none = R66 (eng Try.prog hs n) g0 := by kernel_rfl
noncomputable def S87_3 (x3 : Nat) (x4 : Int) (h1001 : List C) (h1016 : List (List C)) : St :=
  St.mk 87 97 [(1, V.ptr 1001 0), (3, V.own 1016 x3 1), (4, V.c (C.int Go.IntKind.i64 x4))] [(1001, Slot.live (Blk.pc 11 h1001) false), (1016, Slot.live (Blk.arr 1 h1016) false)]
  none 0 []
noncomputable def S87_17 (x5 : Int) (h1001 : List C) : St :=
  St.mk 87 97 [(1, V.ptr 1001 0), (5, V.c (C.int Go.IntKind.i64 x5))] [(1001, Slot.live (Blk.pc 11 h1001) false)] none 0 []
noncomputable def R87 (e : Eng) (g0 : List C) : Option Res :=
  (asI Go.IntKind.i64 g0[3]?).bind fun (n : Int) =>
  (asI Go.IntKind.i64 g0[4]?).bind fun (n_1 : Int) =>
    (asI Go.IntKind.i64 g0[5]?).bind fun (n_2 : Int) =>
      (asI Go.IntKind.i64 g0[6]?).bind fun (n_3 : Int) =>
        (asI Go.IntKind.i64 g0[7]?).bind fun (n_4 : Int) =>
          e.loop (lp Try.f87 3)
            (S87_3 5 0 g0 [[C.int Go.IntKind.i64 n], [C.int Go.IntKind.i64 n_1], [C.int Go.IntKind.i64 n_2], [C.int Go.IntKind.i64 n_3], [C.int Go.IntKind.i64 n_4]])
theorem R87_eq (n : Nat) (g0 : List C) : (eng Try.prog hs (n + 1)).call 87 [A.agg 11 g0] none = R87 (eng Try.prog hs n) g0 := by kernel_rfl
noncomputable def L87_3 (e : Eng) (x3 : Nat) (x4 : Int) (h1001 : List C) (h1016 : List (List C)) : Option Res :=
  bif decide (x4 < (↑x3 : Int)) then
  bif true && decide (0 ≤ x4) && decide (x4 < (↑x3 : Int)) then
    h1016[x4.toNat]?.bind fun (cs : List C) =>
      (asI Go.IntKind.i64 cs[0]?).bind fun (n : Int) =>
        bif decide (n < -1073741824) then some (Res.ret [A.one (C.bool false)] none)
        else
          bif true && decide (0 ≤ x4) && decide (x4 < (↑x3 : Int)) then
            h1016[x4.toNat]?.bind fun (cs : List C) =>
              (asI Go.IntKind.i64 cs[0]?).bind fun (n : Int) =>
                bif decide (n > 1073741824) then some (Res.ret [A.one (C.bool false)] none) else e.loop (lp Try.f87 3) (S87_3 x3 (Go.IntKind.i64.wrap (x4 + 1)) h1001 h1016)
          else none
  else none
else
  (asI Go.IntKind.i64 h1001[0]?).bind fun (n : Int) =>
    bif n == 1 then
      (asS h1001[1]?).bind fun (s : ByteArray) =>
        (callD e 98 [A.one (C.str s)] [Sh.bool]).bind fun (x : Bool) =>
          bif !x then some (Res.ret [A.one (C.bool false)] none)
          else
            (asI Go.IntKind.i64 h1001[2]?).bind fun (n : Int) =>
              bif decide (n < 1) then some (Res.ret [A.one (C.bool false)] none)
              else
                (asI Go.IntKind.i64 h1001[2]?).bind fun (n : Int) =>
                  bif decide (n > 1000) then some (Res.ret [A.one (C.bool false)] none)
                  else
                    (asL h1001[8]?).bind fun (l : List (List C)) =>
                      bif decide ((↑l.length : Int) > 0) then some (Res.ret [A.one (C.bool false)] none) else e.loop (lp Try.f87 17) (S87_17 0 h1001)
    else
      bif n == 2 then
        bif n == 2 then
          (asS h1001[1]?).bind fun (s : ByteArray) =>
            bif !s.toList == (ByteArray.mk #[]).toList then some (Res.ret [A.one (C.bool false)] none)
            else
              (asI Go.IntKind.i64 h1001[2]?).bind fun (n : Int) =>
                bif n != 0 then some (Res.ret [A.one (C.bool false)] none)
                else
                  (asI Go.IntKind.i64 h1001[0]?).bind fun (n : Int) =>
                    bif n == 2 then
                      (asL h1001[8]?).bind fun (l : List (List C)) =>
                        bif decide ((↑l.length : Int) > 0) then some (Res.ret [A.one (C.bool false)] none) else e.loop (lp Try.f87 17) (S87_17 0 h1001)
                    else e.loop (lp Try.f87 17) (S87_17 0 h1001)
        else some (Res.ret [A.one (C.bool false)] none)
      else
        bif n == 3 then
          (asS h1001[1]?).bind fun (s : ByteArray) =>
            bif !s.toList == (ByteArray.mk #[]).toList then some (Res.ret [A.one (C.bool false)] none)
            else
              (asI Go.IntKind.i64 h1001[2]?).bind fun (n : Int) =>
                bif n != 0 then some (Res.ret [A.one (C.bool false)] none)
                else
                  (asI Go.IntKind.i64 h1001[0]?).bind fun (n : Int) =>
                    bif n == 2 then
                      (asL h1001[8]?).bind fun (l : List (List C)) =>
                        bif decide ((↑l.length : Int) > 0) then some (Res.ret [A.one (C.bool false)] none) else e.loop (lp Try.f87 17) (S87_17 0 h1001)
                    else e.loop (lp Try.f87 17) (S87_17 0 h1001)
        else some (Res.ret [A.one (C.bool false)] none)
theorem L87_3_eq (n : Nat) (x3 : Nat) (x4 : Int) (h1001 : List C) (h1016 : List (List C)) : (eng Try.prog hs (n + 1)).loop (lp Try.f87 3) (S87_3 x3 x4 h1001 h1016) = L87_3 (eng Try.prog hs n) x3 x4 h1001 h1016 := by kernel_rfl
noncomputable def L87_17 (e : Eng) (x5 : Int) (h1001 : List C) : Option Res :=
  (asL h1001[8]?).bind fun (l : List (List C)) =>
  bif decide (x5 < (↑l.length : Int)) then
    (asL h1001[8]?).bind fun (l : List (List C)) =>
      bif true && decide (0 ≤ x5) then
        l[x5.toNat]?.bind fun (cs : List C) =>
          bif cs.length.beq 11 then
            bif cs.length.beq 11 then
              (callD e 87 [A.agg 11 cs] [Sh.bool]).bind fun (x : Bool) =>
                bif !x then some (Res.ret [A.one (C.bool false)] none) else e.loop (lp Try.f87 17) (S87_17 (Go.IntKind.i64.wrap (x5 + 1)) h1001)
            else
              bif Nat.ble 11 cs.length then
                (callD e 87 [A.agg 11 (List.take 11 cs)] [Sh.bool]).bind fun (x : Bool) =>
                  bif !x then some (Res.ret [A.one (C.bool false)] none) else e.loop (lp Try.f87 17) (S87_17 (Go.IntKind.i64.wrap (x5 + 1)) h1001)
              else none
          else none
      else none
  else (callD e 101 [A.agg 11 h1001] [Sh.bool]).bind fun (x : Bool) => some (Res.ret [A.one (C.bool x)] none)
theorem L87_17_eq (n : Nat) (x5 : Int) (h1001 : List C) : (eng Try.prog hs (n + 1)).loop (lp Try.f87 17) (S87_17 x5 h1001) = L87_17 (eng Try.prog hs n) x5 h1001 := by kernel_rfl
noncomputable def S88_3 (x3 : Int) (x4 : Int) (h1001 : List C) : St :=
  St.mk 88 21 [(1, V.ptr 1001 0), (3, V.c (C.int Go.IntKind.i64 x3)), (4, V.c (C.int Go.IntKind.i64 x4))] [(1001, Slot.live (Blk.pc 11 h1001) false)] none 0 []
noncomputable def R88 (e : Eng) (g0 : List C) : Option Res :=
  e.loop (lp Try.f88 3) (S88_3 1 0 g0)
theorem R88_eq (n : Nat) (g0 : List C) : (eng Try.prog hs (n + 1)).call 88 [A.agg 11 g0] none = R88 (eng Try.prog hs n) g0 := by kernel_rfl
noncomputable def L88_3 (e : Eng) (x3 : Int) (x4 : Int) (h1001 : List C) : Option Res :=
  (asL h1001[8]?).bind fun (l : List (List C)) =>
  bif decide (x4 < (↑l.length : Int)) then
    (asL h1001[8]?).bind fun (l : List (List C)) =>
      bif true && decide (0 ≤ x4) then
        l[x4.toNat]?.bind fun (cs : List C) =>
          bif cs.length.beq 11 then
            bif cs.length.beq 11 then
              (callD e 88 [A.agg 11 cs] [Sh.int Go.IntKind.i64]).bind fun (x : Int) =>
                e.loop (lp Try.f88 3) (S88_3 (Go.IntKind.i64.wrap (x3 + x)) (Go.IntKind.i64.wrap (x4 + 1)) h1001)
            else
              bif Nat.ble 11 cs.length then
                (callD e 88 [A.agg 11 (List.take 11 cs)] [Sh.int Go.IntKind.i64]).bind fun (x : Int) =>
                  e.loop (lp Try.f88 3) (S88_3 (Go.IntKind.i64.wrap (x3 + x)) (Go.IntKind.i64.wrap (x4 + 1)) h1001)
              else none
          else none
      else none
  else some (Res.ret [A.one (C.int Go.IntKind.i64 x3)] none)
theorem L88_3_eq (n : Nat) (x3 : Int) (x4 : Int) (h1001 : List C) : (eng Try.prog hs (n + 1)).loop (lp Try.f88 3) (S88_3 x3 x4 h1001) = L88_3 (eng Try.prog hs n) x3 x4 h1001 := by kernel_rfl
noncomputable def S89_3 (x3 : Int) (x4 : Int) (h1001 : List C) : St :=
  St.mk 89 22 [(1, V.ptr 1001 0), (3, V.c (C.int Go.IntKind.i64 x3)), (4, V.c (C.int Go.IntKind.i64 x4))] [(1001, Slot.live (Blk.pc 11 h1001) false)] none 0 []
noncomputable def R89 (e : Eng) (g0 : List C) : Option Res :=
  e.loop (lp Try.f89 3) (S89_3 0 0 g0)
theorem R89_eq (n : Nat) (g0 : List C) : (eng Try.prog hs (n + 1)).call 89 [A.agg 11 g0] none = R89 (eng Try.prog hs n) g0 := by kernel_rfl
noncomputable def L89_3 (e : Eng) (x3 : Int) (x4 : Int) (h1001 : List C) : Option Res :=
  (asL h1001[8]?).bind fun (l : List (List C)) =>
  bif decide (x4 < (↑l.length : Int)) then
    (asL h1001[8]?).bind fun (l : List (List C)) =>
      bif true && decide (0 ≤ x4) then
        l[x4.toNat]?.bind fun (cs : List C) =>
          bif cs.length.beq 11 then
            bif cs.length.beq 11 then
              (callD e 89 [A.agg 11 cs] [Sh.int Go.IntKind.i64]).bind fun (x : Int) => e.loop (lp Try.f89 3) (S89_3 (maxI Go.Builtin.max x3 x) (Go.IntKind.i64.wrap (x4 + 1)) h1001)
            else
              bif Nat.ble 11 cs.length then
                (callD e 89 [A.agg 11 (List.take 11 cs)] [Sh.int Go.IntKind.i64]).bind fun (x : Int) =>
                  e.loop (lp Try.f89 3) (S89_3 (maxI Go.Builtin.max x3 x) (Go.IntKind.i64.wrap (x4 + 1)) h1001)
              else none
          else none
      else none
  else some (Res.ret [A.one (C.int Go.IntKind.i64 (Go.IntKind.i64.wrap (x3 + 1)))] none)
theorem L89_3_eq (n : Nat) (x3 : Int) (x4 : Int) (h1001 : List C) : (eng Try.prog hs (n + 1)).loop (lp Try.f89 3) (S89_3 x3 x4 h1001) = L89_3 (eng Try.prog hs n) x3 x4 h1001 := by kernel_rfl
noncomputable def S101_2 (x3 : Int) (h1001 : List C) : St :=
  St.mk 101 51 [(1, V.ptr 1001 0), (3, V.c (C.int Go.IntKind.i64 x3))] [(1001, Slot.live (Blk.pc 11 h1001) false)] none 0 []
noncomputable def R101 (e : Eng) (g0 : List C) : Option Res :=
  e.loop (lp Try.f101 2) (S101_2 0 g0)
theorem R101_eq (n : Nat) (g0 : List C) : (eng Try.prog hs (n + 1)).call 101 [A.agg 11 g0] none = R101 (eng Try.prog hs n) g0 := by kernel_rfl
noncomputable def L101_2 (e : Eng) (x3 : Int) (h1001 : List C) : Option Res :=
  (asL h1001[10]?).bind fun (l : List (List C)) =>
  bif decide (x3 < (↑l.length : Int)) then
    (asL h1001[10]?).bind fun (l : List (List C)) =>
      bif true && decide (0 ≤ x3) then
        l[x3.toNat]?.bind fun (cs : List C) =>
          bif cs.length.beq 1 then
            (asI Go.IntKind.i64 cs[0]?).bind fun (n : Int) =>
              bif decide (n < 0) then some (Res.ret [A.one (C.bool false)] none) else e.loop (lp Try.f101 2) (S101_2 (Go.IntKind.i64.wrap (x3 + 1)) h1001)
          else none
      else none
  else
    (asI Go.IntKind.i64 h1001[9]?).bind fun (n : Int) =>
      bif n == 0 then (asL h1001[10]?).bind fun (l : List (List C)) => some (Res.ret [A.one (C.bool ((↑l.length : Int) == 0))] none)
      else
        bif n == 1 then
          (asL h1001[10]?).bind fun (l : List (List C)) =>
            bif (↑l.length : Int).tmod 2 == 0 then (asL h1001[10]?).bind fun (l : List (List C)) => some (Res.ret [A.one (C.bool (decide ((↑l.length : Int) ≤ 48)))] none)
            else some (Res.ret [A.one (C.bool false)] none)
        else
          bif n == 2 then
            (asL h1001[10]?).bind fun (l : List (List C)) =>
              bif (↑l.length : Int).tmod 2 == 1 then (asL h1001[10]?).bind fun (l : List (List C)) => some (Res.ret [A.one (C.bool (decide ((↑l.length : Int) ≤ 49)))] none)
              else some (Res.ret [A.one (C.bool false)] none)
          else some (Res.ret [A.one (C.bool false)] none)
theorem L101_2_eq (n : Nat) (x3 : Int) (h1001 : List C) : (eng Try.prog hs (n + 1)).loop (lp Try.f101 2) (S101_2 x3 h1001) = L101_2 (eng Try.prog hs n) x3 h1001 := by kernel_rfl
noncomputable def R47 (e : Eng) (n0 : Int) (n1 : Int) : Option Res :=
  (callD e 68 [A.one (C.int Go.IntKind.i64 n0)] [Sh.bool]).bind fun (x : Bool) =>
  bif !x then some (Res.ret [A.one (C.int Go.IntKind.i64 0)] none)
  else
    bif decide (n1 < 0) then some (Res.ret [A.one (C.int Go.IntKind.i64 0)] none)
    else
      bif decide (n1 > 10000) then some (Res.ret [A.one (C.int Go.IntKind.i64 0)] none)
      else
        (callD e 69 [A.one (C.int Go.IntKind.i64 (Go.IntKind.i64.wrap (n0 * n1))), A.one (C.int Go.IntKind.i64 100)] [Sh.int Go.IntKind.i64]).bind fun (x : Int) =>
          some (Res.ret [A.one (C.int Go.IntKind.i64 x)] none)
theorem R47_eq (n : Nat) (n0 : Int) (n1 : Int) : (eng Try.prog hs (n + 1)).call 47 [A.one (C.int Go.IntKind.i64 n0), A.one (C.int Go.IntKind.i64 n1)] none = R47 (eng Try.prog hs n) n0 n1 := by kernel_rfl
noncomputable def R67 (e : Eng) (n0 : Int) : Option Res :=
  (callD e 68 [A.one (C.int Go.IntKind.i64 n0)] [Sh.bool]).bind fun (x : Bool) =>
  bif !x then some (Res.ret [A.one (C.int Go.IntKind.i64 0)] none)
  else
    (callD e 69 [A.one (C.int Go.IntKind.i64 n0), A.one (C.int Go.IntKind.i64 2)] [Sh.int Go.IntKind.i64]).bind fun (x : Int) =>
      some (Res.ret [A.one (C.int Go.IntKind.i64 x)] none)
theorem R67_eq (n : Nat) (n0 : Int) : (eng Try.prog hs (n + 1)).call 67 [A.one (C.int Go.IntKind.i64 n0)] none = R67 (eng Try.prog hs n) n0 := by kernel_rfl
noncomputable def R68 (e : Eng) (n0 : Int) : Option Res :=
  bif decide (n0 ≥ -1073741824) then some (Res.ret [A.one (C.bool (decide (n0 ≤ 1073741824)))] none) else some (Res.ret [A.one (C.bool false)] none)
theorem R68_eq (n : Nat) (n0 : Int) : (eng Try.prog hs (n + 1)).call 68 [A.one (C.int Go.IntKind.i64 n0)] none = R68 (eng Try.prog hs n) n0 := by kernel_rfl
noncomputable def R69 (e : Eng) (n0 : Int) (n1 : Int) : Option Res :=
  (callD e 90 [A.one (C.int Go.IntKind.i64 n0)] [Sh.int Go.IntKind.i64]).bind fun (x : Int) =>
  (callD e 90 [A.one (C.int Go.IntKind.i64 n1)] [Sh.int Go.IntKind.i64]).bind fun (x_1 : Int) =>
    (callD e 90 [A.one (C.int Go.IntKind.i64 n1)] [Sh.int Go.IntKind.i64]).bind fun (x_2 : Int) =>
      bif Go.IntKind.i64.wrap (2 * x_2) == 0 then none
      else
        bif !decide (n0 < 0) == decide (n1 < 0) then
          some
            (Res.ret
              [A.one
                  (C.int Go.IntKind.i64
                    (Go.IntKind.i64.wrap (0 - Go.IntKind.i64.wrap ((Go.IntKind.i64.wrap (Go.IntKind.i64.wrap (2 * x) + x_1)).tdiv (Go.IntKind.i64.wrap (2 * x_2))))))]
              none)
        else
          some (Res.ret [A.one (C.int Go.IntKind.i64 (Go.IntKind.i64.wrap ((Go.IntKind.i64.wrap (Go.IntKind.i64.wrap (2 * x) + x_1)).tdiv (Go.IntKind.i64.wrap (2 * x_2)))))] none)
theorem R69_eq (n : Nat) (n0 : Int) (n1 : Int) : (eng Try.prog hs (n + 1)).call 69 [A.one (C.int Go.IntKind.i64 n0), A.one (C.int Go.IntKind.i64 n1)] none = R69 (eng Try.prog hs n) n0 n1 := by kernel_rfl
noncomputable def R90 (e : Eng) (n0 : Int) : Option Res :=
  bif decide (n0 < 0) then some (Res.ret [A.one (C.int Go.IntKind.i64 (Go.IntKind.i64.wrap (0 - n0)))] none) else some (Res.ret [A.one (C.int Go.IntKind.i64 n0)] none)
theorem R90_eq (n : Nat) (n0 : Int) : (eng Try.prog hs (n + 1)).call 90 [A.one (C.int Go.IntKind.i64 n0)] none = R90 (eng Try.prog hs n) n0 := by kernel_rfl
end Go.Proofs.Ytbhojnofdeihdaa.E
