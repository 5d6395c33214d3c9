/- What is shown here: what functions of the program come to, read off by the evaluator (printed by a program of this session's, checked by the kernel). -/
import Derived.Test.YtbhojnofdeihdaaEH0
import Derived.WalkKit
import Derived.ProofKit
namespace Go.Proofs.Ytbhojnofdeihdaa.E
open Go.Proofs
set_option autoImplicit false
set_option linter.unusedVariables false
set_option maxRecDepth 100000
noncomputable def S31_4 (x3 : Int) (h1001 : List C) : St :=
  St.mk 31 39 [(1, V.ptr 1001 0), (3, V.c (C.int Go.IntKind.i64 x3))] [(1001, Slot.live (Blk.pc 22 h1001) false)] none 0 []
noncomputable def R31 (e : Eng) (g0 : List C) : Option Res :=
  (asL g0[0]?).bind fun (l : List (List C)) =>
  bif decide ((↑l.length : Int) > 500) then some (Res.ret [A.one (C.bool false)] none)
  else (asL g0[1]?).bind fun (l : List (List C)) => bif decide ((↑l.length : Int) > 50) then some (Res.ret [A.one (C.bool false)] none) else e.loop (lp Try.f31 4) (S31_4 0 g0)
theorem R31_eq (n : Nat) (g0 : List C) : (eng Try.prog hs (n + 1)).call 31 [A.agg 22 g0] none = R31 (eng Try.prog hs n) g0 := by kernel_rfl
noncomputable def L31_4 (e : Eng) (x3 : Int) (h1001 : List C) : Option Res :=
  (asL h1001[1]?).bind fun (l : List (List C)) =>
  bif decide (x3 < (↑l.length : Int)) then
    (asL h1001[1]?).bind fun (l : List (List C)) =>
      bif true && decide (0 ≤ x3) then
        l[x3.toNat]?.bind fun (cs : List C) =>
          bif cs.length.beq 4 then
            (asL cs[1]?).bind fun (l : List (List C)) =>
              bif decide ((↑l.length : Int) > 50) then some (Res.ret [A.one (C.bool false)] none)
              else
                (asL h1001[1]?).bind fun (l : List (List C)) =>
                  bif true && decide (0 ≤ x3) then
                    l[x3.toNat]?.bind fun (cs : List C) =>
                      bif cs.length.beq 4 then
                        (asL cs[2]?).bind fun (l : List (List C)) =>
                          bif decide ((↑l.length : Int) > 50) then some (Res.ret [A.one (C.bool false)] none)
                          else e.loop (lp Try.f31 4) (S31_4 (Go.IntKind.i64.wrap (x3 + 1)) h1001)
                      else none
                  else none
          else none
      else none
  else some (Res.ret [A.one (C.bool true)] none)
theorem L31_4_eq (n : Nat) (x3 : Int) (h1001 : List C) : (eng Try.prog hs (n + 1)).loop (lp Try.f31 4) (S31_4 x3 h1001) = L31_4 (eng Try.prog hs n) x3 h1001 := by kernel_rfl
noncomputable def S77_2 (x1 : ByteArray) (x6 : Int) (h1002 : List C) (h1004 : ByteArray) (h1004a : Int) (h1004b : Int) (h1004c : Int) (h1004d : Int) (h1004e : Int) : St :=
  St.mk 77 28 [(1, V.c (C.str x1)), (2, V.ptr 1002 0), (4, V.ptr 1004 0), (6, V.c (C.int Go.IntKind.i64 x6))]
  [(1002, Slot.live (Blk.pc 22 h1002) false),
    (1004,
      Slot.live
        (Blk.vs
          [V.c (C.str h1004), V.c (C.int Go.IntKind.i64 h1004a), V.c (C.int Go.IntKind.i64 h1004b), V.c (C.int Go.IntKind.i64 h1004c), V.c (C.int Go.IntKind.i64 h1004d),
            V.c (C.int Go.IntKind.i64 h1004e)])
        false)]
  none 0 []
noncomputable def R77 (e : Eng) (g0 : List C) (s1 : ByteArray) : Option Res :=
  e.loop (lp Try.f77 2) (S77_2 s1 0 g0 (ByteArray.mk #[]) 0 0 0 0 0)
theorem R77_eq (n : Nat) (g0 : List C) (s1 : ByteArray) : (eng Try.prog hs (n + 1)).call 77 [A.agg 22 g0, A.one (C.str s1)] none = R77 (eng Try.prog hs n) g0 s1 := by kernel_rfl
noncomputable def L77_2 (e : Eng) (x1 : ByteArray) (x6 : Int) (h1002 : List C) (h1004 : ByteArray) (h1004a : Int) (h1004b : Int) (h1004c : Int) (h1004d : Int) (h1004e : Int) : Option Res :=
  (asL h1002[0]?).bind fun (l : List (List C)) =>
  bif decide (x6 < (↑l.length : Int)) then
    (asL h1002[0]?).bind fun (l : List (List C)) =>
      bif true && decide (0 ≤ x6) then
        l[x6.toNat]?.bind fun (cs : List C) =>
          bif cs.length.beq 6 then
            (asS cs[0]?).bind fun (s : ByteArray) =>
              bif s.toList == x1.toList then
                (asL h1002[0]?).bind fun (l : List (List C)) =>
                  bif true && decide (0 ≤ x6) then
                    l[x6.toNat]?.bind fun (cs : List C) =>
                      bif cs.length.beq 6 then
                        bif cs.length.beq 6 then some (Res.ret [A.agg 6 cs, A.one (C.bool true)] none)
                        else bif Nat.ble 6 cs.length then some (Res.ret [A.agg 6 (List.take 6 cs), A.one (C.bool true)] none) else none
                      else none
                  else none
              else e.loop (lp Try.f77 2) (S77_2 x1 (Go.IntKind.i64.wrap (x6 + 1)) h1002 h1004 h1004a h1004b h1004c h1004d h1004e)
          else none
      else none
  else
    some
      (Res.ret
        [A.agg 6 [C.str (ByteArray.mk #[]), C.int Go.IntKind.i64 0, C.int Go.IntKind.i64 0, C.int Go.IntKind.i64 0, C.int Go.IntKind.i64 0, C.int Go.IntKind.i64 0],
          A.one (C.bool false)]
        none)
theorem L77_2_eq (n : Nat) (x1 : ByteArray) (x6 : Int) (h1002 : List C) (h1004 : ByteArray) (h1004a : Int) (h1004b : Int) (h1004c : Int) (h1004d : Int) (h1004e : Int) : (eng Try.prog hs (n + 1)).loop (lp Try.f77 2) (S77_2 x1 x6 h1002 h1004 h1004a h1004b h1004c h1004d h1004e) = L77_2 (eng Try.prog hs n) x1 x6 h1002 h1004 h1004a h1004b h1004c h1004d h1004e := by kernel_rfl
noncomputable def R56 (e : Eng) (g0 : List C) (s1 : ByteArray) : Option Res :=
  (callD e 77 [A.agg 22 g0, A.one (C.str s1)] [Sh.agg 6, Sh.bool]).bind fun (x : List C × Bool) =>
  bif x.snd then some (Res.ret [A.agg 6 x.1] none)
  else
    (callD e 77 [A.agg 22 g0, A.one (C.str (ByteArray.mk #[63]))] [Sh.agg 6, Sh.bool]).bind fun (x : List C × Bool) =>
      bif x.snd then some (Res.ret [A.agg 6 x.1] none)
      else some (Res.ret [A.agg 6 [C.str s1, C.int Go.IntKind.i64 0, C.int Go.IntKind.i64 0, C.int Go.IntKind.i64 0, C.int Go.IntKind.i64 0, C.int Go.IntKind.i64 0]] none)
theorem R56_eq (n : Nat) (g0 : List C) (s1 : ByteArray) : (eng Try.prog hs (n + 1)).call 56 [A.agg 22 g0, A.one (C.str s1)] none = R56 (eng Try.prog hs n) g0 s1 := by kernel_rfl
noncomputable def S64_4 (x3 : Int) (h1001 : List C) : St :=
  St.mk 64 60 [(1, V.ptr 1001 0), (3, V.c (C.int Go.IntKind.i64 x3))] [(1001, Slot.live (Blk.pc 22 h1001) false)] none 0 []
noncomputable def S64_9 (x3 : Int) (x4 : Int) (h1001 : List C) : St :=
  St.mk 64 60 [(1, V.ptr 1001 0), (3, V.c (C.int Go.IntKind.i64 x3)), (4, V.c (C.int Go.IntKind.i64 x4))] [(1001, Slot.live (Blk.pc 22 h1001) false)] none 0 []
noncomputable def R64 (e : Eng) (g0 : List C) : Option Res :=
  (asL g0[0]?).bind fun (l : List (List C)) =>
  bif decide ((↑l.length : Int) > 400) then some (Res.ret [A.one (C.bool false)] none)
  else
    (asL g0[1]?).bind fun (l : List (List C)) =>
      bif decide ((↑l.length : Int) > 40) then some (Res.ret [A.one (C.bool false)] none)
      else
        (callD e 84 [A.agg 20 (List.take 20 (List.drop 2 g0))] [Sh.bool]).bind fun (x : Bool) =>
          bif !x then some (Res.ret [A.one (C.bool false)] none)
          else
            (asL g0[0]?).bind fun (l : List (List C)) =>
              (callD e 85 [A.one (C.sl l)] [Sh.bool]).bind fun (x : Bool) => bif !x then some (Res.ret [A.one (C.bool false)] none) else e.loop (lp Try.f64 4) (S64_4 0 g0)
theorem R64_eq (n : Nat) (g0 : List C) : (eng Try.prog hs (n + 1)).call 64 [A.agg 22 g0] none = R64 (eng Try.prog hs n) g0 := by kernel_rfl
noncomputable def L64_4 (e : Eng) (x3 : Int) (h1001 : List C) : Option Res :=
  (asL h1001[1]?).bind fun (l : List (List C)) =>
  bif decide (x3 < (↑l.length : Int)) then
    (asL h1001[1]?).bind fun (l : List (List C)) =>
      bif true && decide (0 ≤ x3) then
        l[x3.toNat]?.bind fun (cs : List C) =>
          bif cs.length.beq 4 then
            bif cs.length.beq 4 then
              (callD e 86 [A.agg 22 h1001, A.agg 4 cs] [Sh.bool]).bind fun (x : Bool) =>
                bif !x then some (Res.ret [A.one (C.bool false)] none) else e.loop (lp Try.f64 9) (S64_9 x3 0 h1001)
            else
              bif Nat.ble 4 cs.length then
                (callD e 86 [A.agg 22 h1001, A.agg 4 (List.take 4 cs)] [Sh.bool]).bind fun (x : Bool) =>
                  bif !x then some (Res.ret [A.one (C.bool false)] none) else e.loop (lp Try.f64 9) (S64_9 x3 0 h1001)
              else none
          else none
      else none
  else some (Res.ret [A.one (C.bool true)] none)
theorem L64_4_eq (n : Nat) (x3 : Int) (h1001 : List C) : (eng Try.prog hs (n + 1)).loop (lp Try.f64 4) (S64_4 x3 h1001) = L64_4 (eng Try.prog hs n) x3 h1001 := by kernel_rfl
noncomputable def L64_9 (e : Eng) (x3 : Int) (x4 : Int) (h1001 : List C) : Option Res :=
  bif decide (x4 < x3) then
  (asL h1001[1]?).bind fun (l : List (List C)) =>
    bif true && decide (0 ≤ x4) then
      l[x4.toNat]?.bind fun (cs : List C) =>
        bif cs.length.beq 4 then
          (asS cs[0]?).bind fun (s : ByteArray) =>
            (asL h1001[1]?).bind fun (l : List (List C)) =>
              bif true && decide (0 ≤ x3) then
                l[x3.toNat]?.bind fun (cs : List C) =>
                  bif cs.length.beq 4 then
                    (asS cs[0]?).bind fun (s_1 : ByteArray) =>
                      bif s.toList == s_1.toList then some (Res.ret [A.one (C.bool false)] none) else e.loop (lp Try.f64 9) (S64_9 x3 (Go.IntKind.i64.wrap (x4 + 1)) h1001)
                  else none
              else none
        else none
    else none
else e.loop (lp Try.f64 4) (S64_4 (Go.IntKind.i64.wrap (x3 + 1)) h1001)
theorem L64_9_eq (n : Nat) (x3 : Int) (x4 : Int) (h1001 : List C) : (eng Try.prog hs (n + 1)).loop (lp Try.f64 9) (S64_9 x3 x4 h1001) = L64_9 (eng Try.prog hs n) x3 x4 h1001 := by kernel_rfl
noncomputable def S84_3 (x3 : Nat) (x4 : Int) (h1001 : List C) (h1039 : List (List C)) : St :=
  St.mk 84 65 [(1, V.ptr 1001 0), (3, V.own 1039 x3 1), (4, V.c (C.int Go.IntKind.i64 x4))] [(1001, Slot.live (Blk.pc 20 h1001) false), (1039, Slot.live (Blk.arr 1 h1039) false)]
  none 0 []
noncomputable def R84 (e : Eng) (g0 : List C) : Option Res :=
  (asI Go.IntKind.i64 g0[0]?).bind fun (n : Int) =>
  (asI Go.IntKind.i64 g0[1]?).bind fun (n_1 : Int) =>
    (asI Go.IntKind.i64 g0[2]?).bind fun (n_2 : Int) =>
      (asI Go.IntKind.i64 g0[3]?).bind fun (n_3 : Int) =>
        (asI Go.IntKind.i64 g0[4]?).bind fun (n_4 : Int) =>
          (asI Go.IntKind.i64 g0[5]?).bind fun (n_5 : Int) =>
            (asI Go.IntKind.i64 g0[6]?).bind fun (n_6 : Int) =>
              (asI Go.IntKind.i64 g0[7]?).bind fun (n_7 : Int) =>
                (asI Go.IntKind.i64 g0[8]?).bind fun (n_8 : Int) =>
                  (asI Go.IntKind.i64 g0[9]?).bind fun (n_9 : Int) =>
                    (asI Go.IntKind.i64 g0[10]?).bind fun (n_10 : Int) =>
                      (asI Go.IntKind.i64 g0[11]?).bind fun (n_11 : Int) =>
                        (asI Go.IntKind.i64 g0[12]?).bind fun (n_12 : Int) =>
                          (asI Go.IntKind.i64 g0[13]?).bind fun (n_13 : Int) =>
                            (asI Go.IntKind.i64 g0[14]?).bind fun (n_14 : Int) =>
                              (asI Go.IntKind.i64 g0[18]?).bind fun (n_15 : Int) =>
                                (asI Go.IntKind.i64 g0[19]?).bind fun (n_16 : Int) =>
                                  e.loop (lp Try.f84 3)
                                    (S84_3 17 0 g0
                                      [[C.int Go.IntKind.i64 n], [C.int Go.IntKind.i64 n_1], [C.int Go.IntKind.i64 n_2], [C.int Go.IntKind.i64 n_3], [C.int Go.IntKind.i64 n_4],
                                        [C.int Go.IntKind.i64 n_5], [C.int Go.IntKind.i64 n_6], [C.int Go.IntKind.i64 n_7], [C.int Go.IntKind.i64 n_8], [C.int Go.IntKind.i64 n_9],
                                        [C.int Go.IntKind.i64 n_10], [C.int Go.IntKind.i64 n_11], [C.int Go.IntKind.i64 n_12], [C.int Go.IntKind.i64 n_13],
                                        [C.int Go.IntKind.i64 n_14], [C.int Go.IntKind.i64 n_15], [C.int Go.IntKind.i64 n_16]])
theorem R84_eq (n : Nat) (g0 : List C) : (eng Try.prog hs (n + 1)).call 84 [A.agg 20 g0] none = R84 (eng Try.prog hs n) g0 := by kernel_rfl
noncomputable def L84_3 (e : Eng) (x3 : Nat) (x4 : Int) (h1001 : List C) (h1039 : List (List C)) : Option Res :=
  bif decide (x4 < (↑x3 : Int)) then
  bif true && decide (0 ≤ x4) && decide (x4 < (↑x3 : Int)) then
    h1039[x4.toNat]?.bind fun (cs : List C) =>
      (asI Go.IntKind.i64 cs[0]?).bind fun (n : Int) =>
        (callD e 97 [A.one (C.int Go.IntKind.i64 n), A.one (C.int Go.IntKind.i64 0), A.one (C.int Go.IntKind.i64 20000)] [Sh.bool]).bind fun (x : Bool) =>
          bif !x then some (Res.ret [A.one (C.bool false)] none) else e.loop (lp Try.f84 3) (S84_3 x3 (Go.IntKind.i64.wrap (x4 + 1)) h1001 h1039)
  else none
else
  (asI Go.IntKind.i64 h1001[15]?).bind fun (n : Int) =>
    (callD e 97 [A.one (C.int Go.IntKind.i64 n), A.one (C.int Go.IntKind.i64 1), A.one (C.int Go.IntKind.i64 100)] [Sh.bool]).bind fun (x : Bool) =>
      bif x then
        (asI Go.IntKind.i64 h1001[16]?).bind fun (n : Int) =>
          (callD e 97 [A.one (C.int Go.IntKind.i64 n), A.one (C.int Go.IntKind.i64 1), A.one (C.int Go.IntKind.i64 100)] [Sh.bool]).bind fun (x : Bool) =>
            bif x then
              (asI Go.IntKind.i64 h1001[17]?).bind fun (n : Int) =>
                (callD e 97 [A.one (C.int Go.IntKind.i64 n), A.one (C.int Go.IntKind.i64 1), A.one (C.int Go.IntKind.i64 100)] [Sh.bool]).bind fun (x : Bool) =>
                  some (Res.ret [A.one (C.bool x)] none)
            else some (Res.ret [A.one (C.bool false)] none)
      else some (Res.ret [A.one (C.bool false)] none)
theorem L84_3_eq (n : Nat) (x3 : Nat) (x4 : Int) (h1001 : List C) (h1039 : List (List C)) : (eng Try.prog hs (n + 1)).loop (lp Try.f84 3) (S84_3 x3 x4 h1001 h1039) = L84_3 (eng Try.prog hs n) x3 x4 h1001 h1039 := by kernel_rfl
noncomputable def S85_2 (x0 : List (List C)) (x3 : Int) : St :=
  St.mk 85 50 [(0, V.c (C.sl x0)), (3, V.c (C.int Go.IntKind.i64 x3))] [] none 0 []
noncomputable def S85_7 (x0 : List (List C)) (x3 : Int) (x4 : Int) : St :=
  St.mk 85 50 [(0, V.c (C.sl x0)), (3, V.c (C.int Go.IntKind.i64 x3)), (4, V.c (C.int Go.IntKind.i64 x4))] [] none 0 []
noncomputable def R85 (e : Eng) (l0 : List (List C)) : Option Res :=
  e.loop (lp Try.f85 2) (S85_2 l0 0)
theorem R85_eq (n : Nat) (l0 : List (List C)) : (eng Try.prog hs (n + 1)).call 85 [A.one (C.sl l0)] none = R85 (eng Try.prog hs n) l0 := by kernel_rfl
noncomputable def L85_2 (e : Eng) (x0 : List (List C)) (x3 : Int) : Option Res :=
  bif decide (x3 < (↑x0.length : Int)) then
  bif true && decide (0 ≤ x3) then
    x0[x3.toNat]?.bind fun (cs : List C) =>
      bif cs.length.beq 6 then
        (asS cs[0]?).bind fun (s : ByteArray) =>
          (callD e 98 [A.one (C.str s)] [Sh.bool]).bind fun (x : Bool) =>
            bif !x then some (Res.ret [A.one (C.bool false)] none)
            else
              bif true && decide (0 ≤ x3) then
                x0[x3.toNat]?.bind fun (cs : List C) =>
                  bif cs.length.beq 6 then
                    bif cs.length.beq 6 then
                      (callD e 99 [A.agg 6 cs] [Sh.bool]).bind fun (x : Bool) =>
                        bif !x then some (Res.ret [A.one (C.bool false)] none)
                        else
                          bif true && decide (0 ≤ x3) then
                            x0[x3.toNat]?.bind fun (cs : List C) =>
                              bif cs.length.beq 6 then
                                (asI Go.IntKind.i64 cs[1]?).bind fun (n : Int) =>
                                  bif decide (n < 0) then some (Res.ret [A.one (C.bool false)] none) else e.loop (lp Try.f85 7) (S85_7 x0 x3 0)
                              else none
                          else none
                    else
                      bif Nat.ble 6 cs.length then
                        (callD e 99 [A.agg 6 (List.take 6 cs)] [Sh.bool]).bind fun (x : Bool) =>
                          bif !x then some (Res.ret [A.one (C.bool false)] none)
                          else
                            bif true && decide (0 ≤ x3) then
                              x0[x3.toNat]?.bind fun (cs : List C) =>
                                bif cs.length.beq 6 then
                                  (asI Go.IntKind.i64 cs[1]?).bind fun (n : Int) =>
                                    bif decide (n < 0) then some (Res.ret [A.one (C.bool false)] none) else e.loop (lp Try.f85 7) (S85_7 x0 x3 0)
                                else none
                            else none
                      else none
                  else none
              else none
      else none
  else none
else some (Res.ret [A.one (C.bool true)] none)
theorem L85_2_eq (n : Nat) (x0 : List (List C)) (x3 : Int) : (eng Try.prog hs (n + 1)).loop (lp Try.f85 2) (S85_2 x0 x3) = L85_2 (eng Try.prog hs n) x0 x3 := by kernel_rfl
noncomputable def L85_7 (e : Eng) (x0 : List (List C)) (x3 : Int) (x4 : Int) : Option Res :=
  bif decide (x4 < x3) then
  bif true && decide (0 ≤ x4) then
    x0[x4.toNat]?.bind fun (cs : List C) =>
      bif cs.length.beq 6 then
        (asS cs[0]?).bind fun (s : ByteArray) =>
          bif true && decide (0 ≤ x3) then
            x0[x3.toNat]?.bind fun (cs : List C) =>
              bif cs.length.beq 6 then
                (asS cs[0]?).bind fun (s_1 : ByteArray) =>
                  bif s.toList == s_1.toList then some (Res.ret [A.one (C.bool false)] none) else e.loop (lp Try.f85 7) (S85_7 x0 x3 (Go.IntKind.i64.wrap (x4 + 1)))
              else none
          else none
      else none
  else none
else e.loop (lp Try.f85 2) (S85_2 x0 (Go.IntKind.i64.wrap (x3 + 1)))
theorem L85_7_eq (n : Nat) (x0 : List (List C)) (x3 : Int) (x4 : Int) : (eng Try.prog hs (n + 1)).loop (lp Try.f85 7) (S85_7 x0 x3 x4) = L85_7 (eng Try.prog hs n) x0 x3 x4 := by kernel_rfl
noncomputable def S86_5 (x5 : Int) (x6 : Int) (h1002 : List C) (h1003 : List C) : St :=
  St.mk 86 115 [(2, V.ptr 1002 0), (3, V.ptr 1003 0), (5, V.c (C.int Go.IntKind.i64 x5)), (6, V.c (C.int Go.IntKind.i64 x6))]
  [(1002, Slot.live (Blk.pc 22 h1002) false), (1003, Slot.live (Blk.pc 4 h1003) false)] none 0 []
noncomputable def S86_15 (x9 : Bool) (x10 : Int) (h1002 : List C) (h1003 : List C) : St :=
  St.mk 86 115 [(2, V.ptr 1002 0), (3, V.ptr 1003 0), (9, V.c (C.bool x9)), (10, V.c (C.int Go.IntKind.i64 x10))]
  [(1002, Slot.live (Blk.pc 22 h1002) false), (1003, Slot.live (Blk.pc 4 h1003) false)] none 0 []
noncomputable def R86 (e : Eng) (g0 : List C) (g1 : List C) : Option Res :=
  (asS g1[0]?).bind fun (s : ByteArray) =>
  (callD e 98 [A.one (C.str s)] [Sh.bool]).bind fun (x : Bool) =>
    bif !x then some (Res.ret [A.one (C.bool false)] none)
    else
      (asL g1[1]?).bind fun (l : List (List C)) =>
        bif decide ((↑l.length : Int) < 1) then some (Res.ret [A.one (C.bool false)] none)
        else
          (asL g1[1]?).bind fun (l : List (List C)) =>
            bif decide ((↑l.length : Int) > 16) then some (Res.ret [A.one (C.bool false)] none)
            else
              (asL g1[2]?).bind fun (l : List (List C)) =>
                bif decide ((↑l.length : Int) > 8) then some (Res.ret [A.one (C.bool false)] none) else e.loop (lp Try.f86 5) (S86_5 0 0 g0 g1)
theorem R86_eq (n : Nat) (g0 : List C) (g1 : List C) : (eng Try.prog hs (n + 1)).call 86 [A.agg 22 g0, A.agg 4 g1] none = R86 (eng Try.prog hs n) g0 g1 := by kernel_rfl
noncomputable def L86_5 (e : Eng) (x5 : Int) (x6 : Int) (h1002 : List C) (h1003 : List C) : Option Res :=
  (asL h1003[1]?).bind fun (l : List (List C)) =>
  bif decide (x6 < (↑l.length : Int)) then
    (asL h1003[1]?).bind fun (l : List (List C)) =>
      bif true && decide (0 ≤ x6) then
        l[x6.toNat]?.bind fun (cs : List C) =>
          bif cs.length.beq 1 then
            (asS cs[0]?).bind fun (s : ByteArray) =>
              (callD e 77 [A.agg 22 h1002, A.one (C.str s)] [Sh.agg 6, Sh.bool]).bind fun (x : List C × Bool) =>
                bif !x.snd then some (Res.ret [A.one (C.bool false)] none)
                else
                  bif decide (x6 > 0) then
                    (callD e 100 [A.agg 6 x.1] [Sh.int Go.IntKind.i64]).bind fun (x_1 : Int) =>
                      bif decide (x_1 ≤ x5) then some (Res.ret [A.one (C.bool false)] none)
                      else (callD e 100 [A.agg 6 x.1] [Sh.int Go.IntKind.i64]).bind fun (x : Int) => e.loop (lp Try.f86 5) (S86_5 x (Go.IntKind.i64.wrap (x6 + 1)) h1002 h1003)
                  else (callD e 100 [A.agg 6 x.1] [Sh.int Go.IntKind.i64]).bind fun (x : Int) => e.loop (lp Try.f86 5) (S86_5 x (Go.IntKind.i64.wrap (x6 + 1)) h1002 h1003)
          else none
      else none
  else
    (asL h1003[2]?).bind fun (l : List (List C)) =>
      bif (↑l.length : Int) == 0 then (asI Go.IntKind.i64 h1003[3]?).bind fun (n : Int) => some (Res.ret [A.one (C.bool (n == 0))] none)
      else e.loop (lp Try.f86 15) (S86_15 false 0 h1002 h1003)
theorem L86_5_eq (n : Nat) (x5 : Int) (x6 : Int) (h1002 : List C) (h1003 : List C) : (eng Try.prog hs (n + 1)).loop (lp Try.f86 5) (S86_5 x5 x6 h1002 h1003) = L86_5 (eng Try.prog hs n) x5 x6 h1002 h1003 := by kernel_rfl
noncomputable def L86_15 (e : Eng) (x9 : Bool) (x10 : Int) (h1002 : List C) (h1003 : List C) : Option Res :=
  (asL h1003[2]?).bind fun (l : List (List C)) =>
  bif decide (x10 < (↑l.length : Int)) then
    (asL h1003[2]?).bind fun (l : List (List C)) =>
      bif true && decide (0 ≤ x10) then
        l[x10.toNat]?.bind fun (cs : List C) =>
          bif cs.length.beq 2 then
            (asS cs[0]?).bind fun (s : ByteArray) =>
              (callD e 77 [A.agg 22 h1002, A.one (C.str s)] [Sh.agg 6, Sh.bool]).bind fun (x : List C × Bool) =>
                bif !x.snd then some (Res.ret [A.one (C.bool false)] none)
                else
                  (asI Go.IntKind.i64 h1003[3]?).bind fun (n : Int) =>
                    (callD e 100 [A.agg 6 x.1] [Sh.int Go.IntKind.i64]).bind fun (x : Int) =>
                      bif decide (n ≥ x) then some (Res.ret [A.one (C.bool false)] none)
                      else
                        bif x9 then e.loop (lp Try.f86 15) (S86_15 true (Go.IntKind.i64.wrap (x10 + 1)) h1002 h1003)
                        else
                          (asL h1003[2]?).bind fun (l : List (List C)) =>
                            bif true && decide (0 ≤ x10) then
                              l[x10.toNat]?.bind fun (cs : List C) =>
                                bif cs.length.beq 2 then (asB cs[1]?).bind fun (b : Bool) => e.loop (lp Try.f86 15) (S86_15 b (Go.IntKind.i64.wrap (x10 + 1)) h1002 h1003) else none
                            else none
          else none
      else none
  else bif x9 then (asI Go.IntKind.i64 h1003[3]?).bind fun (n : Int) => some (Res.ret [A.one (C.bool (decide (n ≥ 0)))] none) else some (Res.ret [A.one (C.bool false)] none)
theorem L86_15_eq (n : Nat) (x9 : Bool) (x10 : Int) (h1002 : List C) (h1003 : List C) : (eng Try.prog hs (n + 1)).loop (lp Try.f86 15) (S86_15 x9 x10 h1002 h1003) = L86_15 (eng Try.prog hs n) x9 x10 h1002 h1003 := by kernel_rfl
noncomputable def R97 (e : Eng) (n0 : Int) (n1 : Int) (n2 : Int) : Option Res :=
  bif decide (n0 ≥ n1) then some (Res.ret [A.one (C.bool (decide (n0 ≤ n2)))] none) else some (Res.ret [A.one (C.bool false)] none)
theorem R97_eq (n : Nat) (n0 : Int) (n1 : Int) (n2 : Int) : (eng Try.prog hs (n + 1)).call 97 [A.one (C.int Go.IntKind.i64 n0), A.one (C.int Go.IntKind.i64 n1), A.one (C.int Go.IntKind.i64 n2)] none = R97 (eng Try.prog hs n) n0 n1 n2 := by kernel_rfl
noncomputable def S98_2 (x0 : ByteArray) (x3 : Int) : St :=
  St.mk 98 28 [(0, V.c (C.str x0)), (3, V.c (C.int Go.IntKind.i64 x3))] [] none 0 []
noncomputable def R98 (e : Eng) (s0 : ByteArray) : Option Res :=
  e.loop (lp Try.f98 2) (S98_2 s0 0)
theorem R98_eq (n : Nat) (s0 : ByteArray) : (eng Try.prog hs (n + 1)).call 98 [A.one (C.str s0)] none = R98 (eng Try.prog hs n) s0 := by kernel_rfl
noncomputable def L98_2 (e : Eng) (x0 : ByteArray) (x3 : Int) : Option Res :=
  bif decide (x3 < (↑x0.size : Int)) then
  bif decide (0 ≤ x3) then
    x0.data.1[x3.toNat]?.bind fun (b : UInt8) =>
      bif decide ((↑b.toNat : Int) < 32) then some (Res.ret [A.one (C.bool false)] none)
      else
        bif decide (0 ≤ x3) then
          x0.data.1[x3.toNat]?.bind fun (b : UInt8) =>
            bif decide ((↑b.toNat : Int) > 126) then some (Res.ret [A.one (C.bool false)] none) else e.loop (lp Try.f98 2) (S98_2 x0 (Go.IntKind.i64.wrap (x3 + 1)))
        else none
  else none
else bif decide ((↑x0.size : Int) ≥ 1) then some (Res.ret [A.one (C.bool (decide ((↑x0.size : Int) ≤ 16)))] none) else some (Res.ret [A.one (C.bool false)] none)
theorem L98_2_eq (n : Nat) (x0 : ByteArray) (x3 : Int) : (eng Try.prog hs (n + 1)).loop (lp Try.f98 2) (S98_2 x0 x3) = L98_2 (eng Try.prog hs n) x0 x3 := by kernel_rfl
noncomputable def S99_3 (x3 : Nat) (x4 : Int) (h1015 : List (List C)) : St :=
  St.mk 99 28 [(3, V.own 1015 x3 1), (4, V.c (C.int Go.IntKind.i64 x4))] [(1015, Slot.live (Blk.arr 1 h1015) false)] none 0 []
noncomputable def R99 (e : Eng) (g0 : List C) : Option Res :=
  (asI Go.IntKind.i64 g0[1]?).bind fun (n : Int) =>
  (asI Go.IntKind.i64 g0[2]?).bind fun (n_1 : Int) =>
    (asI Go.IntKind.i64 g0[3]?).bind fun (n_2 : Int) =>
      (asI Go.IntKind.i64 g0[4]?).bind fun (n_3 : Int) =>
        (asI Go.IntKind.i64 g0[5]?).bind fun (n_4 : Int) =>
          e.loop (lp Try.f99 3)
            (S99_3 5 0 [[C.int Go.IntKind.i64 n], [C.int Go.IntKind.i64 n_1], [C.int Go.IntKind.i64 n_2], [C.int Go.IntKind.i64 n_3], [C.int Go.IntKind.i64 n_4]])
theorem R99_eq (n : Nat) (g0 : List C) : (eng Try.prog hs (n + 1)).call 99 [A.agg 6 g0] none = R99 (eng Try.prog hs n) g0 := by kernel_rfl
noncomputable def L99_3 (e : Eng) (x3 : Nat) (x4 : Int) (h1015 : List (List C)) : Option Res :=
  bif decide (x4 < (↑x3 : Int)) then
  bif true && decide (0 ≤ x4) && decide (x4 < (↑x3 : Int)) then
    h1015[x4.toNat]?.bind fun (cs : List C) =>
      (asI Go.IntKind.i64 cs[0]?).bind fun (n : Int) =>
        (callD e 97 [A.one (C.int Go.IntKind.i64 n), A.one (C.int Go.IntKind.i64 (-20000)), A.one (C.int Go.IntKind.i64 20000)] [Sh.bool]).bind fun (x : Bool) =>
          bif !x then some (Res.ret [A.one (C.bool false)] none) else e.loop (lp Try.f99 3) (S99_3 x3 (Go.IntKind.i64.wrap (x4 + 1)) h1015)
  else none
else some (Res.ret [A.one (C.bool true)] none)
theorem L99_3_eq (n : Nat) (x3 : Nat) (x4 : Int) (h1015 : List (List C)) : (eng Try.prog hs (n + 1)).loop (lp Try.f99 3) (S99_3 x3 x4 h1015) = L99_3 (eng Try.prog hs n) x3 x4 h1015 := by kernel_rfl
noncomputable def R100 (e : Eng) (g0 : List C) : Option Res :=
  (asI Go.IntKind.i64 g0[2]?).bind fun (n : Int) =>
  (asI Go.IntKind.i64 g0[3]?).bind fun (n_1 : Int) => some (Res.ret [A.one (C.int Go.IntKind.i64 (Go.IntKind.i64.wrap (n + n_1)))] none)
theorem R100_eq (n : Nat) (g0 : List C) : (eng Try.prog hs (n + 1)).call 100 [A.agg 6 g0] none = R100 (eng Try.prog hs n) g0 := by kernel_rfl
noncomputable def R54 (e : Eng) (n0 : Int) (n1 : Int) : Option Res :=
  bif decide (n0 < 0) then
  (callD e 54 [A.one (C.int Go.IntKind.i64 (Go.IntKind.i64.wrap (0 - n0))), A.one (C.int Go.IntKind.i64 n1)] [Sh.int Go.IntKind.i64]).bind fun (x : Int) =>
    some (Res.ret [A.one (C.int Go.IntKind.i64 (Go.IntKind.i64.wrap (0 - x)))] none)
else some (Res.ret [A.one (C.int Go.IntKind.i64 (Go.IntKind.i64.wrap ((Go.IntKind.i64.wrap (Go.IntKind.i64.wrap (Go.IntKind.i64.wrap (2 * n0) * n1) + 100)).tdiv 200)))] none)
theorem R54_eq (n : Nat) (n0 : Int) (n1 : Int) : (eng Try.prog hs (n + 1)).call 54 [A.one (C.int Go.IntKind.i64 n0), A.one (C.int Go.IntKind.i64 n1)] none = R54 (eng Try.prog hs n) n0 n1 := by kernel_rfl
end Go.Proofs.Ytbhojnofdeihdaa.E
