/- What is shown here: what functions of the program come to, read off by the evaluator (printed by a program of this session's, checked by the kernel). -/
import Derived.Test.YtenfgjanbneaeaaEH0
import Derived.WalkKit
import Derived.ProofKit
namespace Go.Proofs.Ytenfgjanbneaeaa.E
open Go.Proofs
set_option autoImplicit false
set_option linter.unusedVariables false
set_option maxRecDepth 100000
noncomputable def S11_4 (x3 : Int) (h1001 : List C) : St :=
  St.mk 11 39 [(1, V.ptr 1001 0), (3, V.c (C.int Go.IntKind.i64 x3))] [(1001, Slot.live (Blk.pc 22 h1001) false)] none 0 []
noncomputable def R11 (e : Eng) (g0 : List C) : Option Res :=
  (asL g0[0]?).bind fun (l : List (List C)) =>
  bif decide ((↑l.length : Int) > 500) then some (Res.ret [A.one (C.bool false)] none)
  else (asL g0[1]?).bind fun (l : List (List C)) => bif decide ((↑l.length : Int) > 50) then some (Res.ret [A.one (C.bool false)] none) else e.loop (lp Try.f11 4) (S11_4 0 g0)
theorem R11_eq (n : Nat) (g0 : List C) : (eng Try.prog hs (n + 1)).call 11 [A.agg 22 g0] none = R11 (eng Try.prog hs n) g0 := by kernel_rfl
noncomputable def L11_4 (e : Eng) (x3 : Int) (h1001 : List C) : Option Res :=
  (asL h1001[1]?).bind fun (l : List (List C)) =>
  bif decide (x3 < (↑l.length : Int)) then
    (asL h1001[1]?).bind fun (l : List (List C)) =>
      bif true && decide (0 ≤ x3) then
        l[x3.toNat]?.bind fun (cs : List C) =>
          bif cs.length.beq 4 then
            (asL cs[1]?).bind fun (l : List (List C)) =>
              bif decide ((↑l.length : Int) > 50) then some (Res.ret [A.one (C.bool false)] none)
              else
                (asL h1001[1]?).bind fun (l : List (List C)) =>
                  bif true && decide (0 ≤ x3) then
                    l[x3.toNat]?.bind fun (cs : List C) =>
                      bif cs.length.beq 4 then
                        (asL cs[2]?).bind fun (l : List (List C)) =>
                          bif decide ((↑l.length : Int) > 50) then some (Res.ret [A.one (C.bool false)] none)
                          else e.loop (lp Try.f11 4) (S11_4 (Go.IntKind.i64.wrap (x3 + 1)) h1001)
                      else none
                  else none
          else none
      else none
  else some (Res.ret [A.one (C.bool true)] none)
theorem L11_4_eq (n : Nat) (x3 : Int) (h1001 : List C) : (eng Try.prog hs (n + 1)).loop (lp Try.f11 4) (S11_4 x3 h1001) = L11_4 (eng Try.prog hs n) x3 h1001 := by kernel_rfl
noncomputable def S13_2 (x1 : ByteArray) (x6 : Int) (h1002 : List C) (h1004 : ByteArray) (h1004a : Int) (h1004b : Int) (h1004c : Int) (h1004d : Int) (h1004e : Int) : St :=
  St.mk 13 28 [(1, V.c (C.str x1)), (2, V.ptr 1002 0), (4, V.ptr 1004 0), (6, V.c (C.int Go.IntKind.i64 x6))]
  [(1002, Slot.live (Blk.pc 22 h1002) false),
    (1004,
      Slot.live
        (Blk.vs
          [V.c (C.str h1004), V.c (C.int Go.IntKind.i64 h1004a), V.c (C.int Go.IntKind.i64 h1004b), V.c (C.int Go.IntKind.i64 h1004c), V.c (C.int Go.IntKind.i64 h1004d),
            V.c (C.int Go.IntKind.i64 h1004e)])
        false)]
  none 0 []
noncomputable def R13 (e : Eng) (g0 : List C) (s1 : ByteArray) : Option Res :=
  e.loop (lp Try.f13 2) (S13_2 s1 0 g0 (ByteArray.mk #[]) 0 0 0 0 0)
theorem R13_eq (n : Nat) (g0 : List C) (s1 : ByteArray) : (eng Try.prog hs (n + 1)).call 13 [A.agg 22 g0, A.one (C.str s1)] none = R13 (eng Try.prog hs n) g0 s1 := by kernel_rfl
noncomputable def L13_2 (e : Eng) (x1 : ByteArray) (x6 : Int) (h1002 : List C) (h1004 : ByteArray) (h1004a : Int) (h1004b : Int) (h1004c : Int) (h1004d : Int) (h1004e : Int) : Option Res :=
  (asL h1002[0]?).bind fun (l : List (List C)) =>
  bif decide (x6 < (↑l.length : Int)) then
    (asL h1002[0]?).bind fun (l : List (List C)) =>
      bif true && decide (0 ≤ x6) then
        l[x6.toNat]?.bind fun (cs : List C) =>
          bif cs.length.beq 6 then
            (asS cs[0]?).bind fun (s : ByteArray) =>
              bif s.toList == x1.toList then
                (asL h1002[0]?).bind fun (l : List (List C)) =>
                  bif true && decide (0 ≤ x6) then
                    l[x6.toNat]?.bind fun (cs : List C) =>
                      bif cs.length.beq 6 then
                        bif cs.length.beq 6 then some (Res.ret [A.agg 6 cs, A.one (C.bool true)] none)
                        else bif Nat.ble 6 cs.length then some (Res.ret [A.agg 6 (List.take 6 cs), A.one (C.bool true)] none) else none
                      else none
                  else none
              else e.loop (lp Try.f13 2) (S13_2 x1 (Go.IntKind.i64.wrap (x6 + 1)) h1002 h1004 h1004a h1004b h1004c h1004d h1004e)
          else none
      else none
  else
    some
      (Res.ret
        [A.agg 6 [C.str (ByteArray.mk #[]), C.int Go.IntKind.i64 0, C.int Go.IntKind.i64 0, C.int Go.IntKind.i64 0, C.int Go.IntKind.i64 0, C.int Go.IntKind.i64 0],
          A.one (C.bool false)]
        none)
theorem L13_2_eq (n : Nat) (x1 : ByteArray) (x6 : Int) (h1002 : List C) (h1004 : ByteArray) (h1004a : Int) (h1004b : Int) (h1004c : Int) (h1004d : Int) (h1004e : Int) : (eng Try.prog hs (n + 1)).loop (lp Try.f13 2) (S13_2 x1 x6 h1002 h1004 h1004a h1004b h1004c h1004d h1004e) = L13_2 (eng Try.prog hs n) x1 x6 h1002 h1004 h1004a h1004b h1004c h1004d h1004e := by kernel_rfl
noncomputable def S15_2 (x1 : ByteArray) (x6 : Int) (h1002 : List C) (h1004 : ByteArray) (h1004a : Int) : St :=
  St.mk 15 28 [(1, V.c (C.str x1)), (2, V.ptr 1002 0), (4, V.ptr 1004 0), (6, V.c (C.int Go.IntKind.i64 x6))]
  [(1002, Slot.live (Blk.pc 22 h1002) false), (1004, Slot.live (Blk.vs [V.c (C.str h1004), V.nsl, V.nsl, V.c (C.int Go.IntKind.i64 h1004a)]) false)] none 0 []
noncomputable def R15 (e : Eng) (g0 : List C) (s1 : ByteArray) : Option Res :=
  e.loop (lp Try.f15 2) (S15_2 s1 0 g0 (ByteArray.mk #[]) 0)
theorem R15_eq (n : Nat) (g0 : List C) (s1 : ByteArray) : (eng Try.prog hs (n + 1)).call 15 [A.agg 22 g0, A.one (C.str s1)] none = R15 (eng Try.prog hs n) g0 s1 := by kernel_rfl
noncomputable def L15_2 (e : Eng) (x1 : ByteArray) (x6 : Int) (h1002 : List C) (h1004 : ByteArray) (h1004a : Int) : Option Res :=
  (asL h1002[1]?).bind fun (l : List (List C)) =>
  bif decide (x6 < (↑l.length : Int)) then
    (asL h1002[1]?).bind fun (l : List (List C)) =>
      bif true && decide (0 ≤ x6) then
        l[x6.toNat]?.bind fun (cs : List C) =>
          bif cs.length.beq 4 then
            (asS cs[0]?).bind fun (s : ByteArray) =>
              bif s.toList == x1.toList then
                (asL h1002[1]?).bind fun (l : List (List C)) =>
                  bif true && decide (0 ≤ x6) then
                    l[x6.toNat]?.bind fun (cs : List C) =>
                      bif cs.length.beq 4 then
                        bif cs.length.beq 4 then some (Res.ret [A.agg 4 cs, A.one (C.bool true)] none)
                        else bif Nat.ble 4 cs.length then some (Res.ret [A.agg 4 (List.take 4 cs), A.one (C.bool true)] none) else none
                      else none
                  else none
              else e.loop (lp Try.f15 2) (S15_2 x1 (Go.IntKind.i64.wrap (x6 + 1)) h1002 h1004 h1004a)
          else none
      else none
  else some (Res.ret [A.agg 4 [C.str (ByteArray.mk #[]), C.sl [], C.sl [], C.int Go.IntKind.i64 0], A.one (C.bool false)] none)
theorem L15_2_eq (n : Nat) (x1 : ByteArray) (x6 : Int) (h1002 : List C) (h1004 : ByteArray) (h1004a : Int) : (eng Try.prog hs (n + 1)).loop (lp Try.f15 2) (S15_2 x1 x6 h1002 h1004 h1004a) = L15_2 (eng Try.prog hs n) x1 x6 h1002 h1004 h1004a := by kernel_rfl
noncomputable def R17 (e : Eng) (g0 : List C) (s1 : ByteArray) : Option Res :=
  (callD e 13 [A.agg 22 g0, A.one (C.str s1)] [Sh.agg 6, Sh.bool]).bind fun (x : List C × Bool) =>
  bif x.snd then some (Res.ret [A.agg 6 x.1] none)
  else
    (callD e 13 [A.agg 22 g0, A.one (C.str (ByteArray.mk #[63]))] [Sh.agg 6, Sh.bool]).bind fun (x : List C × Bool) =>
      bif x.snd then some (Res.ret [A.agg 6 x.1] none)
      else some (Res.ret [A.agg 6 [C.str s1, C.int Go.IntKind.i64 0, C.int Go.IntKind.i64 0, C.int Go.IntKind.i64 0, C.int Go.IntKind.i64 0, C.int Go.IntKind.i64 0]] none)
theorem R17_eq (n : Nat) (g0 : List C) (s1 : ByteArray) : (eng Try.prog hs (n + 1)).call 17 [A.agg 22 g0, A.one (C.str s1)] none = R17 (eng Try.prog hs n) g0 s1 := by kernel_rfl
noncomputable def S18_4 (x5 : Int) (h1002 : List C) (h1003 : List C) : St :=
  St.mk 18 73 [(2, V.ptr 1002 0), (3, V.ptr 1003 0), (5, V.c (C.int Go.IntKind.i64 x5))] [(1002, Slot.live (Blk.pc 4 h1002) false), (1003, Slot.live (Blk.pc 4 h1003) false)] none 0
  []
noncomputable def S18_9 (x6 : Int) (h1002 : List C) (h1003 : List C) : St :=
  St.mk 18 73 [(2, V.ptr 1002 0), (3, V.ptr 1003 0), (6, V.c (C.int Go.IntKind.i64 x6))] [(1002, Slot.live (Blk.pc 4 h1002) false), (1003, Slot.live (Blk.pc 4 h1003) false)] none 0
  []
noncomputable def R18 (e : Eng) (g0 : List C) (g1 : List C) : Option Res :=
  (asS g0[0]?).bind fun (s : ByteArray) =>
  (asS g1[0]?).bind fun (s_1 : ByteArray) =>
    bif !s.toList == s_1.toList then some (Res.ret [A.one (C.bool false)] none)
    else
      (asI Go.IntKind.i64 g0[3]?).bind fun (n : Int) =>
        (asI Go.IntKind.i64 g1[3]?).bind fun (n_1 : Int) =>
          bif n != n_1 then some (Res.ret [A.one (C.bool false)] none)
          else
            (asL g0[1]?).bind fun (l : List (List C)) =>
              (asL g1[1]?).bind fun (l_1 : List (List C)) =>
                bif (↑l.length : Int) != (↑l_1.length : Int) then some (Res.ret [A.one (C.bool false)] none)
                else
                  (asL g0[2]?).bind fun (l : List (List C)) =>
                    (asL g1[2]?).bind fun (l_2 : List (List C)) =>
                      bif (↑l.length : Int) != (↑l_2.length : Int) then some (Res.ret [A.one (C.bool false)] none) else e.loop (lp Try.f18 4) (S18_4 0 g0 g1)
theorem R18_eq (n : Nat) (g0 : List C) (g1 : List C) : (eng Try.prog hs (n + 1)).call 18 [A.agg 4 g0, A.agg 4 g1] none = R18 (eng Try.prog hs n) g0 g1 := by kernel_rfl
noncomputable def L18_4 (e : Eng) (x5 : Int) (h1002 : List C) (h1003 : List C) : Option Res :=
  (asL h1002[1]?).bind fun (l : List (List C)) =>
  bif decide (x5 < (↑l.length : Int)) then
    (asL h1002[1]?).bind fun (l : List (List C)) =>
      bif true && decide (0 ≤ x5) then
        l[x5.toNat]?.bind fun (cs : List C) =>
          bif cs.length.beq 1 then
            (asS cs[0]?).bind fun (s : ByteArray) =>
              (asL h1003[1]?).bind fun (l : List (List C)) =>
                bif true && decide (0 ≤ x5) then
                  l[x5.toNat]?.bind fun (cs : List C) =>
                    bif cs.length.beq 1 then
                      (asS cs[0]?).bind fun (s_1 : ByteArray) =>
                        bif !s.toList == s_1.toList then some (Res.ret [A.one (C.bool false)] none) else e.loop (lp Try.f18 4) (S18_4 (Go.IntKind.i64.wrap (x5 + 1)) h1002 h1003)
                    else none
                else none
          else none
      else none
  else e.loop (lp Try.f18 9) (S18_9 0 h1002 h1003)
theorem L18_4_eq (n : Nat) (x5 : Int) (h1002 : List C) (h1003 : List C) : (eng Try.prog hs (n + 1)).loop (lp Try.f18 4) (S18_4 x5 h1002 h1003) = L18_4 (eng Try.prog hs n) x5 h1002 h1003 := by kernel_rfl
noncomputable def L18_9 (e : Eng) (x6 : Int) (h1002 : List C) (h1003 : List C) : Option Res :=
  (asL h1002[2]?).bind fun (l : List (List C)) =>
  bif decide (x6 < (↑l.length : Int)) then
    (asL h1002[2]?).bind fun (l : List (List C)) =>
      bif true && decide (0 ≤ x6) then
        l[x6.toNat]?.bind fun (cs : List C) =>
          bif cs.length.beq 2 then
            bif cs.length.beq 2 then
              (asL h1003[2]?).bind fun (l : List (List C)) =>
                bif true && decide (0 ≤ x6) then
                  l[x6.toNat]?.bind fun (cs_1 : List C) =>
                    bif cs_1.length.beq 2 then
                      bif cs_1.length.beq 2 then
                        (eqCs [Bk.s, Bk.b] cs cs_1).bind fun (b : Bool) =>
                          bif !b then some (Res.ret [A.one (C.bool false)] none) else e.loop (lp Try.f18 9) (S18_9 (Go.IntKind.i64.wrap (x6 + 1)) h1002 h1003)
                      else
                        bif Nat.ble 2 cs_1.length then
                          (eqCs [Bk.s, Bk.b] cs (List.take 2 cs_1)).bind fun (b : Bool) =>
                            bif !b then some (Res.ret [A.one (C.bool false)] none) else e.loop (lp Try.f18 9) (S18_9 (Go.IntKind.i64.wrap (x6 + 1)) h1002 h1003)
                        else none
                    else none
                else none
            else
              bif Nat.ble 2 cs.length then
                (asL h1003[2]?).bind fun (l : List (List C)) =>
                  bif true && decide (0 ≤ x6) then
                    l[x6.toNat]?.bind fun (cs_1 : List C) =>
                      bif cs_1.length.beq 2 then
                        bif cs_1.length.beq 2 then
                          (eqCs [Bk.s, Bk.b] (List.take 2 cs) cs_1).bind fun (b : Bool) =>
                            bif !b then some (Res.ret [A.one (C.bool false)] none) else e.loop (lp Try.f18 9) (S18_9 (Go.IntKind.i64.wrap (x6 + 1)) h1002 h1003)
                        else
                          bif Nat.ble 2 cs_1.length then
                            (eqCs [Bk.s, Bk.b] (List.take 2 cs) (List.take 2 cs_1)).bind fun (b : Bool) =>
                              bif !b then some (Res.ret [A.one (C.bool false)] none) else e.loop (lp Try.f18 9) (S18_9 (Go.IntKind.i64.wrap (x6 + 1)) h1002 h1003)
                          else none
                      else none
                  else none
              else none
          else none
      else none
  else some (Res.ret [A.one (C.bool true)] none)
theorem L18_9_eq (n : Nat) (x6 : Int) (h1002 : List C) (h1003 : List C) : (eng Try.prog hs (n + 1)).loop (lp Try.f18 9) (S18_9 x6 h1002 h1003) = L18_9 (eng Try.prog hs n) x6 h1002 h1003 := by kernel_rfl
noncomputable def S20_4 (x3 : Int) (h1001 : List C) : St :=
  St.mk 20 60 [(1, V.ptr 1001 0), (3, V.c (C.int Go.IntKind.i64 x3))] [(1001, Slot.live (Blk.pc 22 h1001) false)] none 0 []
noncomputable def S20_9 (x3 : Int) (x4 : Int) (h1001 : List C) : St :=
  St.mk 20 60 [(1, V.ptr 1001 0), (3, V.c (C.int Go.IntKind.i64 x3)), (4, V.c (C.int Go.IntKind.i64 x4))] [(1001, Slot.live (Blk.pc 22 h1001) false)] none 0 []
noncomputable def R20 (e : Eng) (g0 : List C) : Option Res :=
  (asL g0[0]?).bind fun (l : List (List C)) =>
  bif decide ((↑l.length : Int) > 400) then some (Res.ret [A.one (C.bool false)] none)
  else
    (asL g0[1]?).bind fun (l : List (List C)) =>
      bif decide ((↑l.length : Int) > 40) then some (Res.ret [A.one (C.bool false)] none)
      else
        (callD e 37 [A.agg 20 (List.take 20 (List.drop 2 g0))] [Sh.bool]).bind fun (x : Bool) =>
          bif !x then some (Res.ret [A.one (C.bool false)] none)
          else
            (asL g0[0]?).bind fun (l : List (List C)) =>
              (callD e 38 [A.one (C.sl l)] [Sh.bool]).bind fun (x : Bool) => bif !x then some (Res.ret [A.one (C.bool false)] none) else e.loop (lp Try.f20 4) (S20_4 0 g0)
theorem R20_eq (n : Nat) (g0 : List C) : (eng Try.prog hs (n + 1)).call 20 [A.agg 22 g0] none = R20 (eng Try.prog hs n) g0 := by kernel_rfl
noncomputable def L20_4 (e : Eng) (x3 : Int) (h1001 : List C) : Option Res :=
  (asL h1001[1]?).bind fun (l : List (List C)) =>
  bif decide (x3 < (↑l.length : Int)) then
    (asL h1001[1]?).bind fun (l : List (List C)) =>
      bif true && decide (0 ≤ x3) then
        l[x3.toNat]?.bind fun (cs : List C) =>
          bif cs.length.beq 4 then
            bif cs.length.beq 4 then
              (callD e 39 [A.agg 22 h1001, A.agg 4 cs] [Sh.bool]).bind fun (x : Bool) =>
                bif !x then some (Res.ret [A.one (C.bool false)] none) else e.loop (lp Try.f20 9) (S20_9 x3 0 h1001)
            else
              bif Nat.ble 4 cs.length then
                (callD e 39 [A.agg 22 h1001, A.agg 4 (List.take 4 cs)] [Sh.bool]).bind fun (x : Bool) =>
                  bif !x then some (Res.ret [A.one (C.bool false)] none) else e.loop (lp Try.f20 9) (S20_9 x3 0 h1001)
              else none
          else none
      else none
  else some (Res.ret [A.one (C.bool true)] none)
theorem L20_4_eq (n : Nat) (x3 : Int) (h1001 : List C) : (eng Try.prog hs (n + 1)).loop (lp Try.f20 4) (S20_4 x3 h1001) = L20_4 (eng Try.prog hs n) x3 h1001 := by kernel_rfl
noncomputable def L20_9 (e : Eng) (x3 : Int) (x4 : Int) (h1001 : List C) : Option Res :=
  bif decide (x4 < x3) then
  (asL h1001[1]?).bind fun (l : List (List C)) =>
    bif true && decide (0 ≤ x4) then
      l[x4.toNat]?.bind fun (cs : List C) =>
        bif cs.length.beq 4 then
          (asS cs[0]?).bind fun (s : ByteArray) =>
            (asL h1001[1]?).bind fun (l : List (List C)) =>
              bif true && decide (0 ≤ x3) then
                l[x3.toNat]?.bind fun (cs : List C) =>
                  bif cs.length.beq 4 then
                    (asS cs[0]?).bind fun (s_1 : ByteArray) =>
                      bif s.toList == s_1.toList then some (Res.ret [A.one (C.bool false)] none) else e.loop (lp Try.f20 9) (S20_9 x3 (Go.IntKind.i64.wrap (x4 + 1)) h1001)
                  else none
              else none
        else none
    else none
else e.loop (lp Try.f20 4) (S20_4 (Go.IntKind.i64.wrap (x3 + 1)) h1001)
theorem L20_9_eq (n : Nat) (x3 : Int) (x4 : Int) (h1001 : List C) : (eng Try.prog hs (n + 1)).loop (lp Try.f20 9) (S20_9 x3 x4 h1001) = L20_9 (eng Try.prog hs n) x3 x4 h1001 := by kernel_rfl
noncomputable def R22 (e : Eng) (g0 : List C) (s1 : ByteArray) (n2 : Int) : Option Res :=
  (callD e 20 [A.agg 22 g0] [Sh.bool]).bind fun (x : Bool) =>
  bif !x then
    some
      (Res.ret
        [A.agg 11
            [C.int Go.IntKind.i64 0, C.str (ByteArray.mk #[]), C.int Go.IntKind.i64 0, C.int Go.IntKind.i64 0, C.int Go.IntKind.i64 0, C.int Go.IntKind.i64 0,
              C.int Go.IntKind.i64 0, C.int Go.IntKind.i64 0, C.sl [], C.int Go.IntKind.i64 0, C.sl []],
          A.one (C.int Go.IntKind.i64 1)]
        none)
  else
    (callD e 40 [A.agg 22 g0, A.one (C.str s1), A.one (C.int Go.IntKind.i64 n2)] [Sh.agg 11, Sh.int Go.IntKind.i64]).bind fun (x : List C × Int) =>
      some (Res.ret [A.agg 11 x.1, A.one (C.int Go.IntKind.i64 x.snd)] none)
theorem R22_eq (n : Nat) (g0 : List C) (s1 : ByteArray) (n2 : Int) : (eng Try.prog hs (n + 1)).call 22 [A.agg 22 g0, A.one (C.str s1), A.one (C.int Go.IntKind.i64 n2)] none = R22 (eng Try.prog hs n) g0 s1 n2 := by kernel_rfl
noncomputable def R23 (e : Eng) (g0 : List C) (g1 : List C) : Option Res :=
  (asI Go.IntKind.i64 g0[0]?).bind fun (n : Int) =>
  (asI Go.IntKind.i64 g1[0]?).bind fun (n_1 : Int) =>
    bif n == n_1 then
      (asS g0[1]?).bind fun (s : ByteArray) =>
        (asS g1[1]?).bind fun (s_1 : ByteArray) =>
          bif s.toList == s_1.toList then
            (asI Go.IntKind.i64 g0[2]?).bind fun (n : Int) =>
              (asI Go.IntKind.i64 g1[2]?).bind fun (n_2 : Int) =>
                bif n == n_2 then
                  (asI Go.IntKind.i64 g0[3]?).bind fun (n : Int) =>
                    (asI Go.IntKind.i64 g1[3]?).bind fun (n_3 : Int) =>
                      bif n == n_3 then
                        (asI Go.IntKind.i64 g0[4]?).bind fun (n : Int) =>
                          (asI Go.IntKind.i64 g1[4]?).bind fun (n_4 : Int) =>
                            bif n == n_4 then
                              (asI Go.IntKind.i64 g0[5]?).bind fun (n : Int) =>
                                (asI Go.IntKind.i64 g1[5]?).bind fun (n_5 : Int) =>
                                  bif n == n_5 then
                                    (asI Go.IntKind.i64 g0[6]?).bind fun (n : Int) =>
                                      (asI Go.IntKind.i64 g1[6]?).bind fun (n_6 : Int) =>
                                        bif n == n_6 then
                                          (asI Go.IntKind.i64 g0[7]?).bind fun (n : Int) =>
                                            (asI Go.IntKind.i64 g1[7]?).bind fun (n_7 : Int) =>
                                              bif n == n_7 then
                                                (asL g0[8]?).bind fun (l : List (List C)) =>
                                                  (asL g1[8]?).bind fun (l_1 : List (List C)) =>
                                                    bif (↑l.length : Int) == (↑l_1.length : Int) then
                                                      (asI Go.IntKind.i64 g0[9]?).bind fun (n : Int) =>
                                                        (asI Go.IntKind.i64 g1[9]?).bind fun (n_8 : Int) =>
                                                          bif n == n_8 then
                                                            (asL g0[10]?).bind fun (l : List (List C)) =>
                                                              (asL g1[10]?).bind fun (l_2 : List (List C)) =>
                                                                some (Res.ret [A.one (C.bool ((↑l.length : Int) == (↑l_2.length : Int)))] none)
                                                          else some (Res.ret [A.one (C.bool false)] none)
                                                    else some (Res.ret [A.one (C.bool false)] none)
                                              else some (Res.ret [A.one (C.bool false)] none)
                                        else some (Res.ret [A.one (C.bool false)] none)
                                  else some (Res.ret [A.one (C.bool false)] none)
                            else some (Res.ret [A.one (C.bool false)] none)
                      else some (Res.ret [A.one (C.bool false)] none)
                else some (Res.ret [A.one (C.bool false)] none)
          else some (Res.ret [A.one (C.bool false)] none)
    else some (Res.ret [A.one (C.bool false)] none)
theorem R23_eq (n : Nat) (g0 : List C) (g1 : List C) : (eng Try.prog hs (n + 1)).call 23 [A.agg 11 g0, A.agg 11 g1] none = R23 (eng Try.prog hs n) g0 g1 := by kernel_rfl
noncomputable def S37_3 (x3 : Nat) (x4 : Int) (h1001 : List C) (h1039 : List (List C)) : St :=
  St.mk 37 65 [(1, V.ptr 1001 0), (3, V.own 1039 x3 1), (4, V.c (C.int Go.IntKind.i64 x4))] [(1001, Slot.live (Blk.pc 20 h1001) false), (1039, Slot.live (Blk.arr 1 h1039) false)]
  none 0 []
noncomputable def R37 (e : Eng) (g0 : List C) : Option Res :=
  (asI Go.IntKind.i64 g0[0]?).bind fun (n : Int) =>
  (asI Go.IntKind.i64 g0[1]?).bind fun (n_1 : Int) =>
    (asI Go.IntKind.i64 g0[2]?).bind fun (n_2 : Int) =>
      (asI Go.IntKind.i64 g0[3]?).bind fun (n_3 : Int) =>
        (asI Go.IntKind.i64 g0[4]?).bind fun (n_4 : Int) =>
          (asI Go.IntKind.i64 g0[5]?).bind fun (n_5 : Int) =>
            (asI Go.IntKind.i64 g0[6]?).bind fun (n_6 : Int) =>
              (asI Go.IntKind.i64 g0[7]?).bind fun (n_7 : Int) =>
                (asI Go.IntKind.i64 g0[8]?).bind fun (n_8 : Int) =>
                  (asI Go.IntKind.i64 g0[9]?).bind fun (n_9 : Int) =>
                    (asI Go.IntKind.i64 g0[10]?).bind fun (n_10 : Int) =>
                      (asI Go.IntKind.i64 g0[11]?).bind fun (n_11 : Int) =>
                        (asI Go.IntKind.i64 g0[12]?).bind fun (n_12 : Int) =>
                          (asI Go.IntKind.i64 g0[13]?).bind fun (n_13 : Int) =>
                            (asI Go.IntKind.i64 g0[14]?).bind fun (n_14 : Int) =>
                              (asI Go.IntKind.i64 g0[18]?).bind fun (n_15 : Int) =>
                                (asI Go.IntKind.i64 g0[19]?).bind fun (n_16 : Int) =>
                                  e.loop (lp Try.f37 3)
                                    (S37_3 17 0 g0
                                      [[C.int Go.IntKind.i64 n], [C.int Go.IntKind.i64 n_1], [C.int Go.IntKind.i64 n_2], [C.int Go.IntKind.i64 n_3], [C.int Go.IntKind.i64 n_4],
                                        [C.int Go.IntKind.i64 n_5], [C.int Go.IntKind.i64 n_6], [C.int Go.IntKind.i64 n_7], [C.int Go.IntKind.i64 n_8], [C.int Go.IntKind.i64 n_9],
                                        [C.int Go.IntKind.i64 n_10], [C.int Go.IntKind.i64 n_11], [C.int Go.IntKind.i64 n_12], [C.int Go.IntKind.i64 n_13],
                                        [C.int Go.IntKind.i64 n_14], [C.int Go.IntKind.i64 n_15], [C.int Go.IntKind.i64 n_16]])
theorem R37_eq (n : Nat) (g0 : List C) : (eng Try.prog hs (n + 1)).call 37 [A.agg 20 g0] none = R37 (eng Try.prog hs n) g0 := by kernel_rfl
noncomputable def L37_3 (e : Eng) (x3 : Nat) (x4 : Int) (h1001 : List C) (h1039 : List (List C)) : Option Res :=
  bif decide (x4 < (↑x3 : Int)) then
  bif true && decide (0 ≤ x4) && decide (x4 < (↑x3 : Int)) then
    h1039[x4.toNat]?.bind fun (cs : List C) =>
      (asI Go.IntKind.i64 cs[0]?).bind fun (n : Int) =>
        (callD e 49 [A.one (C.int Go.IntKind.i64 n), A.one (C.int Go.IntKind.i64 0), A.one (C.int Go.IntKind.i64 20000)] [Sh.bool]).bind fun (x : Bool) =>
          bif !x then some (Res.ret [A.one (C.bool false)] none) else e.loop (lp Try.f37 3) (S37_3 x3 (Go.IntKind.i64.wrap (x4 + 1)) h1001 h1039)
  else none
else
  (asI Go.IntKind.i64 h1001[15]?).bind fun (n : Int) =>
    (callD e 49 [A.one (C.int Go.IntKind.i64 n), A.one (C.int Go.IntKind.i64 1), A.one (C.int Go.IntKind.i64 100)] [Sh.bool]).bind fun (x : Bool) =>
      bif x then
        (asI Go.IntKind.i64 h1001[16]?).bind fun (n : Int) =>
          (callD e 49 [A.one (C.int Go.IntKind.i64 n), A.one (C.int Go.IntKind.i64 1), A.one (C.int Go.IntKind.i64 100)] [Sh.bool]).bind fun (x : Bool) =>
            bif x then
              (asI Go.IntKind.i64 h1001[17]?).bind fun (n : Int) =>
                (callD e 49 [A.one (C.int Go.IntKind.i64 n), A.one (C.int Go.IntKind.i64 1), A.one (C.int Go.IntKind.i64 100)] [Sh.bool]).bind fun (x : Bool) =>
                  some (Res.ret [A.one (C.bool x)] none)
            else some (Res.ret [A.one (C.bool false)] none)
      else some (Res.ret [A.one (C.bool false)] none)
theorem L37_3_eq (n : Nat) (x3 : Nat) (x4 : Int) (h1001 : List C) (h1039 : List (List C)) : (eng Try.prog hs (n + 1)).loop (lp Try.f37 3) (S37_3 x3 x4 h1001 h1039) = L37_3 (eng Try.prog hs n) x3 x4 h1001 h1039 := by kernel_rfl
noncomputable def S38_2 (x0 : List (List C)) (x3 : Int) : St :=
  St.mk 38 50 [(0, V.c (C.sl x0)), (3, V.c (C.int Go.IntKind.i64 x3))] [] none 0 []
noncomputable def S38_7 (x0 : List (List C)) (x3 : Int) (x4 : Int) : St :=
  St.mk 38 50 [(0, V.c (C.sl x0)), (3, V.c (C.int Go.IntKind.i64 x3)), (4, V.c (C.int Go.IntKind.i64 x4))] [] none 0 []
noncomputable def R38 (e : Eng) (l0 : List (List C)) : Option Res :=
  e.loop (lp Try.f38 2) (S38_2 l0 0)
theorem R38_eq (n : Nat) (l0 : List (List C)) : (eng Try.prog hs (n + 1)).call 38 [A.one (C.sl l0)] none = R38 (eng Try.prog hs n) l0 := by kernel_rfl
noncomputable def L38_2 (e : Eng) (x0 : List (List C)) (x3 : Int) : Option Res :=
  bif decide (x3 < (↑x0.length : Int)) then
  bif true && decide (0 ≤ x3) then
    x0[x3.toNat]?.bind fun (cs : List C) =>
      bif cs.length.beq 6 then
        (asS cs[0]?).bind fun (s : ByteArray) =>
          (callD e 50 [A.one (C.str s)] [Sh.bool]).bind fun (x : Bool) =>
            bif !x then some (Res.ret [A.one (C.bool false)] none)
            else
              bif true && decide (0 ≤ x3) then
                x0[x3.toNat]?.bind fun (cs : List C) =>
                  bif cs.length.beq 6 then
                    bif cs.length.beq 6 then
                      (callD e 51 [A.agg 6 cs] [Sh.bool]).bind fun (x : Bool) =>
                        bif !x then some (Res.ret [A.one (C.bool false)] none)
                        else
                          bif true && decide (0 ≤ x3) then
                            x0[x3.toNat]?.bind fun (cs : List C) =>
                              bif cs.length.beq 6 then
                                (asI Go.IntKind.i64 cs[1]?).bind fun (n : Int) =>
                                  bif decide (n < 0) then some (Res.ret [A.one (C.bool false)] none) else e.loop (lp Try.f38 7) (S38_7 x0 x3 0)
                              else none
                          else none
                    else
                      bif Nat.ble 6 cs.length then
                        (callD e 51 [A.agg 6 (List.take 6 cs)] [Sh.bool]).bind fun (x : Bool) =>
                          bif !x then some (Res.ret [A.one (C.bool false)] none)
                          else
                            bif true && decide (0 ≤ x3) then
                              x0[x3.toNat]?.bind fun (cs : List C) =>
                                bif cs.length.beq 6 then
                                  (asI Go.IntKind.i64 cs[1]?).bind fun (n : Int) =>
                                    bif decide (n < 0) then some (Res.ret [A.one (C.bool false)] none) else e.loop (lp Try.f38 7) (S38_7 x0 x3 0)
                                else none
                            else none
                      else none
                  else none
              else none
      else none
  else none
else some (Res.ret [A.one (C.bool true)] none)
theorem L38_2_eq (n : Nat) (x0 : List (List C)) (x3 : Int) : (eng Try.prog hs (n + 1)).loop (lp Try.f38 2) (S38_2 x0 x3) = L38_2 (eng Try.prog hs n) x0 x3 := by kernel_rfl
noncomputable def L38_7 (e : Eng) (x0 : List (List C)) (x3 : Int) (x4 : Int) : Option Res :=
  bif decide (x4 < x3) then
  bif true && decide (0 ≤ x4) then
    x0[x4.toNat]?.bind fun (cs : List C) =>
      bif cs.length.beq 6 then
        (asS cs[0]?).bind fun (s : ByteArray) =>
          bif true && decide (0 ≤ x3) then
            x0[x3.toNat]?.bind fun (cs : List C) =>
              bif cs.length.beq 6 then
                (asS cs[0]?).bind fun (s_1 : ByteArray) =>
                  bif s.toList == s_1.toList then some (Res.ret [A.one (C.bool false)] none) else e.loop (lp Try.f38 7) (S38_7 x0 x3 (Go.IntKind.i64.wrap (x4 + 1)))
              else none
          else none
      else none
  else none
else e.loop (lp Try.f38 2) (S38_2 x0 (Go.IntKind.i64.wrap (x3 + 1)))
theorem L38_7_eq (n : Nat) (x0 : List (List C)) (x3 : Int) (x4 : Int) : (eng Try.prog hs (n + 1)).loop (lp Try.f38 7) (S38_7 x0 x3 x4) = L38_7 (eng Try.prog hs n) x0 x3 x4 := by kernel_rfl
noncomputable def S39_5 (x5 : Int) (x6 : Int) (h1002 : List C) (h1003 : List C) : St :=
  St.mk 39 115 [(2, V.ptr 1002 0), (3, V.ptr 1003 0), (5, V.c (C.int Go.IntKind.i64 x5)), (6, V.c (C.int Go.IntKind.i64 x6))]
  [(1002, Slot.live (Blk.pc 22 h1002) false), (1003, Slot.live (Blk.pc 4 h1003) false)] none 0 []
noncomputable def S39_15 (x9 : Bool) (x10 : Int) (h1002 : List C) (h1003 : List C) : St :=
  St.mk 39 115 [(2, V.ptr 1002 0), (3, V.ptr 1003 0), (9, V.c (C.bool x9)), (10, V.c (C.int Go.IntKind.i64 x10))]
  [(1002, Slot.live (Blk.pc 22 h1002) false), (1003, Slot.live (Blk.pc 4 h1003) false)] none 0 []
noncomputable def R39 (e : Eng) (g0 : List C) (g1 : List C) : Option Res :=
  (asS g1[0]?).bind fun (s : ByteArray) =>
  (callD e 50 [A.one (C.str s)] [Sh.bool]).bind fun (x : Bool) =>
    bif !x then some (Res.ret [A.one (C.bool false)] none)
    else
      (asL g1[1]?).bind fun (l : List (List C)) =>
        bif decide ((↑l.length : Int) < 1) then some (Res.ret [A.one (C.bool false)] none)
        else
          (asL g1[1]?).bind fun (l : List (List C)) =>
            bif decide ((↑l.length : Int) > 16) then some (Res.ret [A.one (C.bool false)] none)
            else
              (asL g1[2]?).bind fun (l : List (List C)) =>
                bif decide ((↑l.length : Int) > 8) then some (Res.ret [A.one (C.bool false)] none) else e.loop (lp Try.f39 5) (S39_5 0 0 g0 g1)
theorem R39_eq (n : Nat) (g0 : List C) (g1 : List C) : (eng Try.prog hs (n + 1)).call 39 [A.agg 22 g0, A.agg 4 g1] none = R39 (eng Try.prog hs n) g0 g1 := by kernel_rfl
noncomputable def L39_5 (e : Eng) (x5 : Int) (x6 : Int) (h1002 : List C) (h1003 : List C) : Option Res :=
  (asL h1003[1]?).bind fun (l : List (List C)) =>
  bif decide (x6 < (↑l.length : Int)) then
    (asL h1003[1]?).bind fun (l : List (List C)) =>
      bif true && decide (0 ≤ x6) then
        l[x6.toNat]?.bind fun (cs : List C) =>
          bif cs.length.beq 1 then
            (asS cs[0]?).bind fun (s : ByteArray) =>
              (callD e 13 [A.agg 22 h1002, A.one (C.str s)] [Sh.agg 6, Sh.bool]).bind fun (x : List C × Bool) =>
                bif !x.snd then some (Res.ret [A.one (C.bool false)] none)
                else
                  bif decide (x6 > 0) then
                    (callD e 52 [A.agg 6 x.1] [Sh.int Go.IntKind.i64]).bind fun (x_1 : Int) =>
                      bif decide (x_1 ≤ x5) then some (Res.ret [A.one (C.bool false)] none)
                      else (callD e 52 [A.agg 6 x.1] [Sh.int Go.IntKind.i64]).bind fun (x : Int) => e.loop (lp Try.f39 5) (S39_5 x (Go.IntKind.i64.wrap (x6 + 1)) h1002 h1003)
                  else (callD e 52 [A.agg 6 x.1] [Sh.int Go.IntKind.i64]).bind fun (x : Int) => e.loop (lp Try.f39 5) (S39_5 x (Go.IntKind.i64.wrap (x6 + 1)) h1002 h1003)
          else none
      else none
  else
    (asL h1003[2]?).bind fun (l : List (List C)) =>
      bif (↑l.length : Int) == 0 then (asI Go.IntKind.i64 h1003[3]?).bind fun (n : Int) => some (Res.ret [A.one (C.bool (n == 0))] none)
      else e.loop (lp Try.f39 15) (S39_15 false 0 h1002 h1003)
theorem L39_5_eq (n : Nat) (x5 : Int) (x6 : Int) (h1002 : List C) (h1003 : List C) : (eng Try.prog hs (n + 1)).loop (lp Try.f39 5) (S39_5 x5 x6 h1002 h1003) = L39_5 (eng Try.prog hs n) x5 x6 h1002 h1003 := by kernel_rfl
noncomputable def L39_15 (e : Eng) (x9 : Bool) (x10 : Int) (h1002 : List C) (h1003 : List C) : Option Res :=
  (asL h1003[2]?).bind fun (l : List (List C)) =>
  bif decide (x10 < (↑l.length : Int)) then
    (asL h1003[2]?).bind fun (l : List (List C)) =>
      bif true && decide (0 ≤ x10) then
        l[x10.toNat]?.bind fun (cs : List C) =>
          bif cs.length.beq 2 then
            (asS cs[0]?).bind fun (s : ByteArray) =>
              (callD e 13 [A.agg 22 h1002, A.one (C.str s)] [Sh.agg 6, Sh.bool]).bind fun (x : List C × Bool) =>
                bif !x.snd then some (Res.ret [A.one (C.bool false)] none)
                else
                  (asI Go.IntKind.i64 h1003[3]?).bind fun (n : Int) =>
                    (callD e 52 [A.agg 6 x.1] [Sh.int Go.IntKind.i64]).bind fun (x : Int) =>
                      bif decide (n ≥ x) then some (Res.ret [A.one (C.bool false)] none)
                      else
                        bif x9 then e.loop (lp Try.f39 15) (S39_15 true (Go.IntKind.i64.wrap (x10 + 1)) h1002 h1003)
                        else
                          (asL h1003[2]?).bind fun (l : List (List C)) =>
                            bif true && decide (0 ≤ x10) then
                              l[x10.toNat]?.bind fun (cs : List C) =>
                                bif cs.length.beq 2 then (asB cs[1]?).bind fun (b : Bool) => e.loop (lp Try.f39 15) (S39_15 b (Go.IntKind.i64.wrap (x10 + 1)) h1002 h1003) else none
                            else none
          else none
      else none
  else bif x9 then (asI Go.IntKind.i64 h1003[3]?).bind fun (n : Int) => some (Res.ret [A.one (C.bool (decide (n ≥ 0)))] none) else some (Res.ret [A.one (C.bool false)] none)
theorem L39_15_eq (n : Nat) (x9 : Bool) (x10 : Int) (h1002 : List C) (h1003 : List C) : (eng Try.prog hs (n + 1)).loop (lp Try.f39 15) (S39_15 x9 x10 h1002 h1003) = L39_15 (eng Try.prog hs n) x9 x10 h1002 h1003 := by kernel_rfl
noncomputable def R40 (e : Eng) (g0 : List C) (s1 : ByteArray) (n2 : Int) : Option Res :=
  (callD e 17 [A.agg 22 g0, A.one (C.str s1)] [Sh.agg 6]).bind fun (x : List C) =>
  (callD e 53 [A.agg 6 x, A.one (C.int Go.IntKind.i64 n2)] [Sh.agg 6, Sh.int Go.IntKind.i64]).bind fun (x : List C × Int) =>
    bif x.snd != 0 then
      some
        (Res.ret
          [A.agg 11
              [C.int Go.IntKind.i64 0, C.str (ByteArray.mk #[]), C.int Go.IntKind.i64 0, C.int Go.IntKind.i64 0, C.int Go.IntKind.i64 0, C.int Go.IntKind.i64 0,
                C.int Go.IntKind.i64 0, C.int Go.IntKind.i64 0, C.sl [], C.int Go.IntKind.i64 0, C.sl []],
            A.one (C.int Go.IntKind.i64 x.snd)]
          none)
    else
      (asS x.1[0]?).bind fun (s : ByteArray) =>
        (asI Go.IntKind.i64 x.1[1]?).bind fun (n : Int) =>
          (asI Go.IntKind.i64 x.1[4]?).bind fun (n_1 : Int) =>
            (asI Go.IntKind.i64 x.1[2]?).bind fun (n_2 : Int) =>
              (asI Go.IntKind.i64 x.1[3]?).bind fun (n_3 : Int) =>
                some
                  (Res.ret
                    [A.agg 11
                        [C.int Go.IntKind.i64 1, C.str s, C.int Go.IntKind.i64 n2, C.int Go.IntKind.i64 (Go.IntKind.i64.wrap (n + maxI Go.Builtin.max 0 n_1)),
                          C.int Go.IntKind.i64 n_2, C.int Go.IntKind.i64 n_3, C.int Go.IntKind.i64 0, C.int Go.IntKind.i64 0, C.sl [], C.int Go.IntKind.i64 0, C.sl []],
                      A.one (C.int Go.IntKind.i64 0)]
                    none)
theorem R40_eq (n : Nat) (g0 : List C) (s1 : ByteArray) (n2 : Int) : (eng Try.prog hs (n + 1)).call 40 [A.agg 22 g0, A.one (C.str s1), A.one (C.int Go.IntKind.i64 n2)] none = R40 (eng Try.prog hs n) g0 s1 n2 := by kernel_rfl
noncomputable def R49 (e : Eng) (n0 : Int) (n1 : Int) (n2 : Int) : Option Res :=
  bif decide (n0 ≥ n1) then some (Res.ret [A.one (C.bool (decide (n0 ≤ n2)))] none) else some (Res.ret [A.one (C.bool false)] none)
theorem R49_eq (n : Nat) (n0 : Int) (n1 : Int) (n2 : Int) : (eng Try.prog hs (n + 1)).call 49 [A.one (C.int Go.IntKind.i64 n0), A.one (C.int Go.IntKind.i64 n1), A.one (C.int Go.IntKind.i64 n2)] none = R49 (eng Try.prog hs n) n0 n1 n2 := by kernel_rfl
noncomputable def S50_2 (x0 : ByteArray) (x3 : Int) : St :=
  St.mk 50 28 [(0, V.c (C.str x0)), (3, V.c (C.int Go.IntKind.i64 x3))] [] none 0 []
noncomputable def R50 (e : Eng) (s0 : ByteArray) : Option Res :=
  e.loop (lp Try.f50 2) (S50_2 s0 0)
theorem R50_eq (n : Nat) (s0 : ByteArray) : (eng Try.prog hs (n + 1)).call 50 [A.one (C.str s0)] none = R50 (eng Try.prog hs n) s0 := by kernel_rfl
noncomputable def L50_2 (e : Eng) (x0 : ByteArray) (x3 : Int) : Option Res :=
  bif decide (x3 < (↑x0.size : Int)) then
  bif decide (0 ≤ x3) then
    x0.data.1[x3.toNat]?.bind fun (b : UInt8) =>
      bif decide ((↑b.toNat : Int) < 32) then some (Res.ret [A.one (C.bool false)] none)
      else
        bif decide (0 ≤ x3) then
          x0.data.1[x3.toNat]?.bind fun (b : UInt8) =>
            bif decide ((↑b.toNat : Int) > 126) then some (Res.ret [A.one (C.bool false)] none) else e.loop (lp Try.f50 2) (S50_2 x0 (Go.IntKind.i64.wrap (x3 + 1)))
        else none
  else none
else bif decide ((↑x0.size : Int) ≥ 1) then some (Res.ret [A.one (C.bool (decide ((↑x0.size : Int) ≤ 16)))] none) else some (Res.ret [A.one (C.bool false)] none)
theorem L50_2_eq (n : Nat) (x0 : ByteArray) (x3 : Int) : (eng Try.prog hs (n + 1)).loop (lp Try.f50 2) (S50_2 x0 x3) = L50_2 (eng Try.prog hs n) x0 x3 := by kernel_rfl
noncomputable def S51_3 (x3 : Nat) (x4 : Int) (h1015 : List (List C)) : St :=
  St.mk 51 28 [(3, V.own 1015 x3 1), (4, V.c (C.int Go.IntKind.i64 x4))] [(1015, Slot.live (Blk.arr 1 h1015) false)] none 0 []
noncomputable def R51 (e : Eng) (g0 : List C) : Option Res :=
  (asI Go.IntKind.i64 g0[1]?).bind fun (n : Int) =>
  (asI Go.IntKind.i64 g0[2]?).bind fun (n_1 : Int) =>
    (asI Go.IntKind.i64 g0[3]?).bind fun (n_2 : Int) =>
      (asI Go.IntKind.i64 g0[4]?).bind fun (n_3 : Int) =>
        (asI Go.IntKind.i64 g0[5]?).bind fun (n_4 : Int) =>
          e.loop (lp Try.f51 3)
            (S51_3 5 0 [[C.int Go.IntKind.i64 n], [C.int Go.IntKind.i64 n_1], [C.int Go.IntKind.i64 n_2], [C.int Go.IntKind.i64 n_3], [C.int Go.IntKind.i64 n_4]])
theorem R51_eq (n : Nat) (g0 : List C) : (eng Try.prog hs (n + 1)).call 51 [A.agg 6 g0] none = R51 (eng Try.prog hs n) g0 := by kernel_rfl
noncomputable def L51_3 (e : Eng) (x3 : Nat) (x4 : Int) (h1015 : List (List C)) : Option Res :=
  bif decide (x4 < (↑x3 : Int)) then
  bif true && decide (0 ≤ x4) && decide (x4 < (↑x3 : Int)) then
    h1015[x4.toNat]?.bind fun (cs : List C) =>
      (asI Go.IntKind.i64 cs[0]?).bind fun (n : Int) =>
        (callD e 49 [A.one (C.int Go.IntKind.i64 n), A.one (C.int Go.IntKind.i64 (-20000)), A.one (C.int Go.IntKind.i64 20000)] [Sh.bool]).bind fun (x : Bool) =>
          bif !x then some (Res.ret [A.one (C.bool false)] none) else e.loop (lp Try.f51 3) (S51_3 x3 (Go.IntKind.i64.wrap (x4 + 1)) h1015)
  else none
else some (Res.ret [A.one (C.bool true)] none)
theorem L51_3_eq (n : Nat) (x3 : Nat) (x4 : Int) (h1015 : List (List C)) : (eng Try.prog hs (n + 1)).loop (lp Try.f51 3) (S51_3 x3 x4 h1015) = L51_3 (eng Try.prog hs n) x3 x4 h1015 := by kernel_rfl
noncomputable def R52 (e : Eng) (g0 : List C) : Option Res :=
  (asI Go.IntKind.i64 g0[2]?).bind fun (n : Int) =>
  (asI Go.IntKind.i64 g0[3]?).bind fun (n_1 : Int) => some (Res.ret [A.one (C.int Go.IntKind.i64 (Go.IntKind.i64.wrap (n + n_1)))] none)
theorem R52_eq (n : Nat) (g0 : List C) : (eng Try.prog hs (n + 1)).call 52 [A.agg 6 g0] none = R52 (eng Try.prog hs n) g0 := by kernel_rfl
noncomputable def R53 (e : Eng) (g0 : List C) (n1 : Int) : Option Res :=
  (callD e 49 [A.one (C.int Go.IntKind.i64 n1), A.one (C.int Go.IntKind.i64 1), A.one (C.int Go.IntKind.i64 1000)] [Sh.bool]).bind fun (x : Bool) =>
  bif !x then
    some
      (Res.ret
        [A.agg 6 [C.str (ByteArray.mk #[]), C.int Go.IntKind.i64 0, C.int Go.IntKind.i64 0, C.int Go.IntKind.i64 0, C.int Go.IntKind.i64 0, C.int Go.IntKind.i64 0],
          A.one (C.int Go.IntKind.i64 2)]
        none)
  else
    (callD e 51 [A.agg 6 g0] [Sh.bool]).bind fun (x : Bool) =>
      bif !x then
        some
          (Res.ret
            [A.agg 6 [C.str (ByteArray.mk #[]), C.int Go.IntKind.i64 0, C.int Go.IntKind.i64 0, C.int Go.IntKind.i64 0, C.int Go.IntKind.i64 0, C.int Go.IntKind.i64 0],
              A.one (C.int Go.IntKind.i64 1)]
            none)
      else
        (asS g0[0]?).bind fun (s : ByteArray) =>
          (asI Go.IntKind.i64 g0[1]?).bind fun (n : Int) =>
            (callD e 62 [A.one (C.int Go.IntKind.i64 n), A.one (C.int Go.IntKind.i64 n1)] [Sh.int Go.IntKind.i64]).bind fun (x : Int) =>
              (asI Go.IntKind.i64 g0[2]?).bind fun (n : Int) =>
                (callD e 62 [A.one (C.int Go.IntKind.i64 n), A.one (C.int Go.IntKind.i64 n1)] [Sh.int Go.IntKind.i64]).bind fun (x_1 : Int) =>
                  (asI Go.IntKind.i64 g0[3]?).bind fun (n : Int) =>
                    (callD e 62 [A.one (C.int Go.IntKind.i64 n), A.one (C.int Go.IntKind.i64 n1)] [Sh.int Go.IntKind.i64]).bind fun (x_2 : Int) =>
                      (asI Go.IntKind.i64 g0[4]?).bind fun (n : Int) =>
                        (callD e 62 [A.one (C.int Go.IntKind.i64 n), A.one (C.int Go.IntKind.i64 n1)] [Sh.int Go.IntKind.i64]).bind fun (x_3 : Int) =>
                          (asI Go.IntKind.i64 g0[5]?).bind fun (n : Int) =>
                            (callD e 62 [A.one (C.int Go.IntKind.i64 n), A.one (C.int Go.IntKind.i64 n1)] [Sh.int Go.IntKind.i64]).bind fun (x_4 : Int) =>
                              some
                                (Res.ret
                                  [A.agg 6
                                      [C.str s, C.int Go.IntKind.i64 x, C.int Go.IntKind.i64 x_1, C.int Go.IntKind.i64 x_2, C.int Go.IntKind.i64 x_3, C.int Go.IntKind.i64 x_4],
                                    A.one (C.int Go.IntKind.i64 0)]
                                  none)
theorem R53_eq (n : Nat) (g0 : List C) (n1 : Int) : (eng Try.prog hs (n + 1)).call 53 [A.agg 6 g0, A.one (C.int Go.IntKind.i64 n1)] none = R53 (eng Try.prog hs n) g0 n1 := by kernel_rfl
noncomputable def R62 (e : Eng) (n0 : Int) (n1 : Int) : Option Res :=
  bif decide (n0 < 0) then
  (callD e 62 [A.one (C.int Go.IntKind.i64 (Go.IntKind.i64.wrap (0 - n0))), A.one (C.int Go.IntKind.i64 n1)] [Sh.int Go.IntKind.i64]).bind fun (x : Int) =>
    some (Res.ret [A.one (C.int Go.IntKind.i64 (Go.IntKind.i64.wrap (0 - x)))] none)
else some (Res.ret [A.one (C.int Go.IntKind.i64 (Go.IntKind.i64.wrap ((Go.IntKind.i64.wrap (Go.IntKind.i64.wrap (Go.IntKind.i64.wrap (2 * n0) * n1) + 100)).tdiv 200)))] none)
theorem R62_eq (n : Nat) (n0 : Int) (n1 : Int) : (eng Try.prog hs (n + 1)).call 62 [A.one (C.int Go.IntKind.i64 n0), A.one (C.int Go.IntKind.i64 n1)] none = R62 (eng Try.prog hs n) n0 n1 := by kernel_rfl
end Go.Proofs.Ytenfgjanbneaeaa.E
