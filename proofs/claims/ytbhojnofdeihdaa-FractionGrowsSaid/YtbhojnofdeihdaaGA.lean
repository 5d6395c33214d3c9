/- What is shown here: what functions of the program come to, read off by the evaluator (printed by a program of this session's, checked by the kernel). -/
import Derived.Test.YtbhojnofdeihdaaEH0
import Derived.WalkKit
import Derived.ProofKit
namespace Go.Proofs.Ytbhojnofdeihdaa.E
open Go.Proofs
set_option autoImplicit false
set_option linter.unusedVariables false
set_option maxRecDepth 100000
noncomputable def S94_2 (x1 : ByteArray) (x9 : List (List C)) (x10 : Int) (x11 : Int) (h1004 : ByteArray) (h1004a : Int) (h1004b : Int) (h1004c : Int) (h1004d : Int) (h1004e : Int) : St :=
  St.mk 94 22 [(1, V.c (C.str x1)), (4, V.ptr 1004 0), (9, V.c (C.sl x9)), (10, V.c (C.int Go.IntKind.i64 x10)), (11, V.c (C.int Go.IntKind.i64 x11))]
  [(1004,
      Slot.live
        (Blk.vs
          [V.c (C.str h1004), V.c (C.int Go.IntKind.i64 h1004a), V.c (C.int Go.IntKind.i64 h1004b), V.c (C.int Go.IntKind.i64 h1004c), V.c (C.int Go.IntKind.i64 h1004d),
            V.c (C.int Go.IntKind.i64 h1004e)])
        false)]
  none 0 []
noncomputable def R94 (e : Eng) (g0 : List C) (s1 : ByteArray) : Option Res :=
  (asL g0[0]?).bind fun (l : List (List C)) => e.loop (lp Try.f94 2) (S94_2 s1 l (↑l.length : Int) 0 (ByteArray.mk #[]) 0 0 0 0 0)
theorem R94_eq (n : Nat) (g0 : List C) (s1 : ByteArray) : (eng Try.prog hs (n + 1)).call 94 [A.agg 22 g0, A.one (C.str s1)] none = R94 (eng Try.prog hs n) g0 s1 := by kernel_rfl
noncomputable def L94_2 (e : Eng) (x1 : ByteArray) (x9 : List (List C)) (x10 : Int) (x11 : Int) (h1004 : ByteArray) (h1004a : Int) (h1004b : Int) (h1004c : Int) (h1004d : Int) (h1004e : Int) : Option Res :=
  bif decide (x11 < x10) then
  bif true && decide (0 ≤ x11) then
    x9[x11.toNat]?.bind fun (cs : List C) =>
      bif cs.length.beq 6 then
        bif cs.length.beq 6 then
          (asS cs[0]?).bind fun (s : ByteArray) =>
            bif s.toList == x1.toList then some (Res.ret [A.agg 6 cs, A.one (C.bool true)] none)
            else e.loop (lp Try.f94 2) (S94_2 x1 x9 x10 (Go.IntKind.i64.wrap (x11 + 1)) h1004 h1004a h1004b h1004c h1004d h1004e)
        else
          bif Nat.ble 6 cs.length then
            (asS (List.take 6 cs)[0]?).bind fun (s : ByteArray) =>
              bif s.toList == x1.toList then some (Res.ret [A.agg 6 (List.take 6 cs), A.one (C.bool true)] none)
              else e.loop (lp Try.f94 2) (S94_2 x1 x9 x10 (Go.IntKind.i64.wrap (x11 + 1)) h1004 h1004a h1004b h1004c h1004d h1004e)
          else none
      else none
  else none
else
  some
    (Res.ret
      [A.agg 6 [C.str (ByteArray.mk #[]), C.int Go.IntKind.i64 0, C.int Go.IntKind.i64 0, C.int Go.IntKind.i64 0, C.int Go.IntKind.i64 0, C.int Go.IntKind.i64 0],
        A.one (C.bool false)]
      none)
theorem L94_2_eq (n : Nat) (x1 : ByteArray) (x9 : List (List C)) (x10 : Int) (x11 : Int) (h1004 : ByteArray) (h1004a : Int) (h1004b : Int) (h1004c : Int) (h1004d : Int) (h1004e : Int) : (eng Try.prog hs (n + 1)).loop (lp Try.f94 2) (S94_2 x1 x9 x10 x11 h1004 h1004a h1004b h1004c h1004d h1004e) = L94_2 (eng Try.prog hs n) x1 x9 x10 x11 h1004 h1004a h1004b h1004c h1004d h1004e := by kernel_rfl
noncomputable def S76_2 (x1 : ByteArray) (x10 : ByteArray) (x10a : ByteArray) (h1002 : List C) (h1004 : ByteArray) : St :=
  St.mk 76 25 [(1, V.c (C.str x1)), (2, V.ptr 1002 0), (4, V.ptr 1004 0), (10, V.agg [V.c (C.str x10), V.c (C.str x10a)]), (11, V.c (C.int Go.IntKind.i64 0))]
  [(1002, Slot.live (Blk.pc 22 h1002) false),
    (1004,
      Slot.live
        (Blk.vs
          [V.c (C.str h1004), V.c (C.int Go.IntKind.i64 0), V.c (C.int Go.IntKind.i64 0), V.c (C.int Go.IntKind.i64 0), V.c (C.int Go.IntKind.i64 0), V.c (C.int Go.IntKind.i64 0)])
        false)]
  none 0 []
noncomputable def S76_2a (x1 : ByteArray) (x10 : ByteArray) (x10a : ByteArray) (h1002 : List C) (h1004 : ByteArray) : St :=
  St.mk 76 25 [(1, V.c (C.str x1)), (2, V.ptr 1002 0), (4, V.ptr 1004 0), (10, V.agg [V.c (C.str x10), V.c (C.str x10a)]), (11, V.c (C.int Go.IntKind.i64 1))]
  [(1002, Slot.live (Blk.pc 22 h1002) false),
    (1004,
      Slot.live
        (Blk.vs
          [V.c (C.str h1004), V.c (C.int Go.IntKind.i64 0), V.c (C.int Go.IntKind.i64 0), V.c (C.int Go.IntKind.i64 0), V.c (C.int Go.IntKind.i64 0), V.c (C.int Go.IntKind.i64 0)])
        false)]
  none 0 []
noncomputable def S76_2b (x1 : ByteArray) (x10 : ByteArray) (x10a : ByteArray) (h1002 : List C) (h1004 : ByteArray) : St :=
  St.mk 76 25 [(1, V.c (C.str x1)), (2, V.ptr 1002 0), (4, V.ptr 1004 0), (10, V.agg [V.c (C.str x10), V.c (C.str x10a)]), (11, V.c (C.int Go.IntKind.i64 2))]
  [(1002, Slot.live (Blk.pc 22 h1002) false),
    (1004,
      Slot.live
        (Blk.vs
          [V.c (C.str h1004), V.c (C.int Go.IntKind.i64 0), V.c (C.int Go.IntKind.i64 0), V.c (C.int Go.IntKind.i64 0), V.c (C.int Go.IntKind.i64 0), V.c (C.int Go.IntKind.i64 0)])
        false)]
  none 0 []
noncomputable def R76 (e : Eng) (g0 : List C) (s1 : ByteArray) : Option Res :=
  e.loop (lp Try.f76 2) (S76_2 s1 s1 (ByteArray.mk #[63]) g0 (ByteArray.mk #[]))
theorem R76_eq (n : Nat) (g0 : List C) (s1 : ByteArray) : (eng Try.prog hs (n + 1)).call 76 [A.agg 22 g0, A.one (C.str s1)] none = R76 (eng Try.prog hs n) g0 s1 := by kernel_rfl
noncomputable def L76_2 (e : Eng) (x1 : ByteArray) (x10 : ByteArray) (x10a : ByteArray) (h1002 : List C) (h1004 : ByteArray) : Option Res :=
  (callD e 94 [A.agg 22 h1002, A.one (C.str x10)] [Sh.agg 6, Sh.bool]).bind fun (x : List C × Bool) =>
  bif x.snd then some (Res.ret [A.agg 6 x.1] none) else e.loop (lp Try.f76 2) (S76_2a x1 x10 x10a h1002 h1004)
theorem L76_2_eq (n : Nat) (x1 : ByteArray) (x10 : ByteArray) (x10a : ByteArray) (h1002 : List C) (h1004 : ByteArray) : (eng Try.prog hs (n + 1)).loop (lp Try.f76 2) (S76_2 x1 x10 x10a h1002 h1004) = L76_2 (eng Try.prog hs n) x1 x10 x10a h1002 h1004 := by kernel_rfl
noncomputable def L76_2a (e : Eng) (x1 : ByteArray) (x10 : ByteArray) (x10a : ByteArray) (h1002 : List C) (h1004 : ByteArray) : Option Res :=
  (callD e 94 [A.agg 22 h1002, A.one (C.str x10a)] [Sh.agg 6, Sh.bool]).bind fun (x : List C × Bool) =>
  bif x.snd then some (Res.ret [A.agg 6 x.1] none) else e.loop (lp Try.f76 2) (S76_2b x1 x10 x10a h1002 h1004)
theorem L76_2a_eq (n : Nat) (x1 : ByteArray) (x10 : ByteArray) (x10a : ByteArray) (h1002 : List C) (h1004 : ByteArray) : (eng Try.prog hs (n + 1)).loop (lp Try.f76 2) (S76_2a x1 x10 x10a h1002 h1004) = L76_2a (eng Try.prog hs n) x1 x10 x10a h1002 h1004 := by kernel_rfl
noncomputable def L76_2b (e : Eng) (x1 : ByteArray) (x10 : ByteArray) (x10a : ByteArray) (h1002 : List C) (h1004 : ByteArray) : Option Res :=
  some (Res.ret [A.agg 6 [C.str x1, C.int Go.IntKind.i64 0, C.int Go.IntKind.i64 0, C.int Go.IntKind.i64 0, C.int Go.IntKind.i64 0, C.int Go.IntKind.i64 0]] none)
theorem L76_2b_eq (n : Nat) (x1 : ByteArray) (x10 : ByteArray) (x10a : ByteArray) (h1002 : List C) (h1004 : ByteArray) : (eng Try.prog hs (n + 1)).loop (lp Try.f76 2) (S76_2b x1 x10 x10a h1002 h1004) = L76_2b (eng Try.prog hs n) x1 x10 x10a h1002 h1004 := by kernel_rfl
noncomputable def S59_3 (x13 : List (List C)) (x14 : Int) (x15 : Int) (h1001 : List C) (h1011 : List (ByteArray × C)) : St :=
  St.mk 59 86 [(1, V.ptr 1001 0), (3, V.ptr 1003 0), (13, V.c (C.sl x13)), (14, V.c (C.int Go.IntKind.i64 x14)), (15, V.c (C.int Go.IntKind.i64 x15))]
  [(1001, Slot.live (Blk.pc 22 h1001) false), (1003, Slot.live (Blk.vs [V.mapv 1011]) false), (1011, Slot.live (Blk.map h1011) false)] none 0 []
noncomputable def S59_12 (x51 : List (List C)) (x52 : Int) (x53 : Int) (h1001 : List C) (h1011 : List (ByteArray × C)) (h1049 : List (ByteArray × C)) : St :=
  St.mk 59 86 [(1, V.ptr 1001 0), (3, V.ptr 1003 0), (8, V.mapv 1049), (51, V.c (C.sl x51)), (52, V.c (C.int Go.IntKind.i64 x52)), (53, V.c (C.int Go.IntKind.i64 x53))]
  [(1001, Slot.live (Blk.pc 22 h1001) false), (1003, Slot.live (Blk.vs [V.mapv 1011]) false), (1011, Slot.live (Blk.map h1011) false), (1049, Slot.live (Blk.map h1049) false)] none
  0 []
noncomputable def S59_12a (x51 : List (List C)) (x52 : Int) (x53 : Int) (h1001 : List C) (h1011 : List (ByteArray × C)) (h1049 : List (ByteArray × C)) : St :=
  St.mk 59 86 [(1, V.ptr 1001 0), (3, V.ptr 1003 0), (8, V.mapv 1049), (51, V.c (C.sl x51)), (52, V.c (C.int Go.IntKind.i64 x52)), (53, V.c (C.int Go.IntKind.i64 x53))]
  [(1001, Slot.live (Blk.pc 22 h1001) false), (1003, Slot.live (Blk.vs [V.mapv 1011]) true), (1011, Slot.live (Blk.map h1011) true), (1049, Slot.live (Blk.map h1049) false)] none 0
  []
noncomputable def R59 (e : Eng) (g0 : List C) : Option Res :=
  (asL g0[0]?).bind fun (l : List (List C)) => e.loop (lp Try.f59 3) (S59_3 l (↑l.length : Int) 0 g0 [])
theorem R59_eq (n : Nat) (g0 : List C) : (eng Try.prog hs (n + 1)).call 59 [A.agg 22 g0] none = R59 (eng Try.prog hs n) g0 := by kernel_rfl
noncomputable def L59_3 (e : Eng) (x13 : List (List C)) (x14 : Int) (x15 : Int) (h1001 : List C) (h1011 : List (ByteArray × C)) : Option Res :=
  bif decide (x15 < x14) then
  bif true && decide (0 ≤ x15) then
    x13[x15.toNat]?.bind fun (cs : List C) =>
      bif cs.length.beq 6 then
        bif cs.length.beq 6 then
          (asS cs[0]?).bind fun (s : ByteArray) =>
            (entI Go.IntKind.i64 h1011 s).bind fun (r : Int × Bool) =>
              bif r.snd then some (Res.ret [A.one (C.bool false)] none)
              else
                (asS cs[0]?).bind fun (s : ByteArray) =>
                  (callD e 78 [A.one (C.str s)] [Sh.bool]).bind fun (x : Bool) =>
                    bif !x then some (Res.ret [A.one (C.bool false)] none)
                    else
                      (callD e 79 [A.agg 6 cs] [Sh.bool]).bind fun (x : Bool) =>
                        bif !x then some (Res.ret [A.one (C.bool false)] none)
                        else
                          (asI Go.IntKind.i64 cs[1]?).bind fun (n : Int) =>
                            bif decide (n < 0) then some (Res.ret [A.one (C.bool false)] none)
                            else
                              (asS cs[0]?).bind fun (s : ByteArray) =>
                                (callD e 80 [A.agg 6 cs] [Sh.int Go.IntKind.i64]).bind fun (x : Int) =>
                                  e.loop (lp Try.f59 3) (S59_3 x13 x14 (Go.IntKind.i64.wrap (x15 + 1)) h1001 (mapSet h1011 s (C.int Go.IntKind.i64 x)))
        else
          bif Nat.ble 6 cs.length then
            (asS (List.take 6 cs)[0]?).bind fun (s : ByteArray) =>
              (entI Go.IntKind.i64 h1011 s).bind fun (r : Int × Bool) =>
                bif r.snd then some (Res.ret [A.one (C.bool false)] none)
                else
                  (asS (List.take 6 cs)[0]?).bind fun (s : ByteArray) =>
                    (callD e 78 [A.one (C.str s)] [Sh.bool]).bind fun (x : Bool) =>
                      bif !x then some (Res.ret [A.one (C.bool false)] none)
                      else
                        (callD e 79 [A.agg 6 (List.take 6 cs)] [Sh.bool]).bind fun (x : Bool) =>
                          bif !x then some (Res.ret [A.one (C.bool false)] none)
                          else
                            (asI Go.IntKind.i64 (List.take 6 cs)[1]?).bind fun (n : Int) =>
                              bif decide (n < 0) then some (Res.ret [A.one (C.bool false)] none)
                              else
                                (asS (List.take 6 cs)[0]?).bind fun (s : ByteArray) =>
                                  (callD e 80 [A.agg 6 (List.take 6 cs)] [Sh.int Go.IntKind.i64]).bind fun (x : Int) =>
                                    e.loop (lp Try.f59 3) (S59_3 x13 x14 (Go.IntKind.i64.wrap (x15 + 1)) h1001 (mapSet h1011 s (C.int Go.IntKind.i64 x)))
          else none
      else none
  else none
else (asL h1001[1]?).bind fun (l : List (List C)) => e.loop (lp Try.f59 12) (S59_12 l (↑l.length : Int) 0 h1001 h1011 [])
theorem L59_3_eq (n : Nat) (x13 : List (List C)) (x14 : Int) (x15 : Int) (h1001 : List C) (h1011 : List (ByteArray × C)) : (eng Try.prog hs (n + 1)).loop (lp Try.f59 3) (S59_3 x13 x14 x15 h1001 h1011) = L59_3 (eng Try.prog hs n) x13 x14 x15 h1001 h1011 := by kernel_rfl
noncomputable def L59_12 (e : Eng) (x51 : List (List C)) (x52 : Int) (x53 : Int) (h1001 : List C) (h1011 : List (ByteArray × C)) (h1049 : List (ByteArray × C)) : Option Res :=
  bif decide (x53 < x52) then
  bif true && decide (0 ≤ x53) then
    x51[x53.toNat]?.bind fun (cs : List C) =>
      bif cs.length.beq 4 then
        bif cs.length.beq 4 then
          (asS cs[0]?).bind fun (s : ByteArray) =>
            (entB h1049 s).bind fun (r : Bool × Bool) =>
              bif r.fst then some (Res.ret [A.one (C.bool false)] none)
              else
                (callD e 81 [A.agg 4 cs, A.one (C.fn 82 [C.rp [C.mp h1011] 0])] [Sh.bool]).bind fun (x : Bool) =>
                  bif !x then some (Res.ret [A.one (C.bool false)] none)
                  else (asS cs[0]?).bind fun (s : ByteArray) => e.loop (lp Try.f59 12) (S59_12a x51 x52 (Go.IntKind.i64.wrap (x53 + 1)) h1001 h1011 (mapSet h1049 s (C.bool true)))
        else
          bif Nat.ble 4 cs.length then
            (asS (List.take 4 cs)[0]?).bind fun (s : ByteArray) =>
              (entB h1049 s).bind fun (r : Bool × Bool) =>
                bif r.fst then some (Res.ret [A.one (C.bool false)] none)
                else
                  (callD e 81 [A.agg 4 (List.take 4 cs), A.one (C.fn 82 [C.rp [C.mp h1011] 0])] [Sh.bool]).bind fun (x : Bool) =>
                    bif !x then some (Res.ret [A.one (C.bool false)] none)
                    else
                      (asS (List.take 4 cs)[0]?).bind fun (s : ByteArray) =>
                        e.loop (lp Try.f59 12) (S59_12a x51 x52 (Go.IntKind.i64.wrap (x53 + 1)) h1001 h1011 (mapSet h1049 s (C.bool true)))
          else none
      else none
  else none
else
  (asL h1001[0]?).bind fun (l : List (List C)) =>
    bif decide ((↑l.length : Int) ≤ 400) then
      (asL h1001[1]?).bind fun (l : List (List C)) =>
        bif decide ((↑l.length : Int) ≤ 40) then (callD e 83 [A.agg 20 (List.take 20 (List.drop 2 h1001))] [Sh.bool]).bind fun (x : Bool) => some (Res.ret [A.one (C.bool x)] none)
        else some (Res.ret [A.one (C.bool false)] none)
    else some (Res.ret [A.one (C.bool false)] none)
theorem L59_12_eq (n : Nat) (x51 : List (List C)) (x52 : Int) (x53 : Int) (h1001 : List C) (h1011 : List (ByteArray × C)) (h1049 : List (ByteArray × C)) : (eng Try.prog hs (n + 1)).loop (lp Try.f59 12) (S59_12 x51 x52 x53 h1001 h1011 h1049) = L59_12 (eng Try.prog hs n) x51 x52 x53 h1001 h1011 h1049 := by kernel_rfl
noncomputable def L59_12a (e : Eng) (x51 : List (List C)) (x52 : Int) (x53 : Int) (h1001 : List C) (h1011 : List (ByteArray × C)) (h1049 : List (ByteArray × C)) : Option Res :=
  bif decide (x53 < x52) then
  bif true && decide (0 ≤ x53) then
    x51[x53.toNat]?.bind fun (cs : List C) =>
      bif cs.length.beq 4 then
        bif cs.length.beq 4 then
          (asS cs[0]?).bind fun (s : ByteArray) =>
            (entB h1049 s).bind fun (r : Bool × Bool) =>
              bif r.fst then some (Res.ret [A.one (C.bool false)] none)
              else
                (callD e 81 [A.agg 4 cs, A.one (C.fn 82 [C.rp [C.mp h1011] 0])] [Sh.bool]).bind fun (x : Bool) =>
                  bif !x then some (Res.ret [A.one (C.bool false)] none)
                  else (asS cs[0]?).bind fun (s : ByteArray) => e.loop (lp Try.f59 12) (S59_12a x51 x52 (Go.IntKind.i64.wrap (x53 + 1)) h1001 h1011 (mapSet h1049 s (C.bool true)))
        else
          bif Nat.ble 4 cs.length then
            (asS (List.take 4 cs)[0]?).bind fun (s : ByteArray) =>
              (entB h1049 s).bind fun (r : Bool × Bool) =>
                bif r.fst then some (Res.ret [A.one (C.bool false)] none)
                else
                  (callD e 81 [A.agg 4 (List.take 4 cs), A.one (C.fn 82 [C.rp [C.mp h1011] 0])] [Sh.bool]).bind fun (x : Bool) =>
                    bif !x then some (Res.ret [A.one (C.bool false)] none)
                    else
                      (asS (List.take 4 cs)[0]?).bind fun (s : ByteArray) =>
                        e.loop (lp Try.f59 12) (S59_12a x51 x52 (Go.IntKind.i64.wrap (x53 + 1)) h1001 h1011 (mapSet h1049 s (C.bool true)))
          else none
      else none
  else none
else
  (asL h1001[0]?).bind fun (l : List (List C)) =>
    bif decide ((↑l.length : Int) ≤ 400) then
      (asL h1001[1]?).bind fun (l : List (List C)) =>
        bif decide ((↑l.length : Int) ≤ 40) then (callD e 83 [A.agg 20 (List.take 20 (List.drop 2 h1001))] [Sh.bool]).bind fun (x : Bool) => some (Res.ret [A.one (C.bool x)] none)
        else some (Res.ret [A.one (C.bool false)] none)
    else some (Res.ret [A.one (C.bool false)] none)
theorem L59_12a_eq (n : Nat) (x51 : List (List C)) (x52 : Int) (x53 : Int) (h1001 : List C) (h1011 : List (ByteArray × C)) (h1049 : List (ByteArray × C)) : (eng Try.prog hs (n + 1)).loop (lp Try.f59 12) (S59_12a x51 x52 x53 h1001 h1011 h1049) = L59_12a (eng Try.prog hs n) x51 x52 x53 h1001 h1011 h1049 := by kernel_rfl
noncomputable def R78 (e : Eng) (s0 : ByteArray) : Option Res :=
  bif decide ((↑s0.size : Int) ≥ 1) then
  bif decide ((↑s0.size : Int) ≤ 16) then (callD e 72 [A.one (C.sl (bytesC s0)), A.one (C.fn 95 [])] [Sh.bool]).bind fun (x : Bool) => some (Res.ret [A.one (C.bool !x)] none)
  else some (Res.ret [A.one (C.bool false)] none)
else some (Res.ret [A.one (C.bool false)] none)
theorem R78_eq (n : Nat) (s0 : ByteArray) : (eng Try.prog hs (n + 1)).call 78 [A.one (C.str s0)] none = R78 (eng Try.prog hs n) s0 := by kernel_rfl
noncomputable def S79_2 (x15 : Int) (x15a : Int) (x15b : Int) (x15c : Int) (x15d : Int) : St :=
  St.mk 79 23
  [(15, V.agg [V.c (C.int Go.IntKind.i64 x15), V.c (C.int Go.IntKind.i64 x15a), V.c (C.int Go.IntKind.i64 x15b), V.c (C.int Go.IntKind.i64 x15c), V.c (C.int Go.IntKind.i64 x15d)]),
    (16, V.c (C.int Go.IntKind.i64 0))]
  [] none 0 []
noncomputable def S79_2a (x15 : Int) (x15a : Int) (x15b : Int) (x15c : Int) (x15d : Int) : St :=
  St.mk 79 23
  [(15, V.agg [V.c (C.int Go.IntKind.i64 x15), V.c (C.int Go.IntKind.i64 x15a), V.c (C.int Go.IntKind.i64 x15b), V.c (C.int Go.IntKind.i64 x15c), V.c (C.int Go.IntKind.i64 x15d)]),
    (16, V.c (C.int Go.IntKind.i64 1))]
  [] none 0 []
noncomputable def S79_2b (x15 : Int) (x15a : Int) (x15b : Int) (x15c : Int) (x15d : Int) : St :=
  St.mk 79 23
  [(15, V.agg [V.c (C.int Go.IntKind.i64 x15), V.c (C.int Go.IntKind.i64 x15a), V.c (C.int Go.IntKind.i64 x15b), V.c (C.int Go.IntKind.i64 x15c), V.c (C.int Go.IntKind.i64 x15d)]),
    (16, V.c (C.int Go.IntKind.i64 2))]
  [] none 0 []
noncomputable def S79_2c (x15 : Int) (x15a : Int) (x15b : Int) (x15c : Int) (x15d : Int) : St :=
  St.mk 79 23
  [(15, V.agg [V.c (C.int Go.IntKind.i64 x15), V.c (C.int Go.IntKind.i64 x15a), V.c (C.int Go.IntKind.i64 x15b), V.c (C.int Go.IntKind.i64 x15c), V.c (C.int Go.IntKind.i64 x15d)]),
    (16, V.c (C.int Go.IntKind.i64 3))]
  [] none 0 []
noncomputable def S79_2d (x15 : Int) (x15a : Int) (x15b : Int) (x15c : Int) (x15d : Int) : St :=
  St.mk 79 23
  [(15, V.agg [V.c (C.int Go.IntKind.i64 x15), V.c (C.int Go.IntKind.i64 x15a), V.c (C.int Go.IntKind.i64 x15b), V.c (C.int Go.IntKind.i64 x15c), V.c (C.int Go.IntKind.i64 x15d)]),
    (16, V.c (C.int Go.IntKind.i64 4))]
  [] none 0 []
noncomputable def S79_2e (x15 : Int) (x15a : Int) (x15b : Int) (x15c : Int) (x15d : Int) : St :=
  St.mk 79 23
  [(15, V.agg [V.c (C.int Go.IntKind.i64 x15), V.c (C.int Go.IntKind.i64 x15a), V.c (C.int Go.IntKind.i64 x15b), V.c (C.int Go.IntKind.i64 x15c), V.c (C.int Go.IntKind.i64 x15d)]),
    (16, V.c (C.int Go.IntKind.i64 5))]
  [] none 0 []
noncomputable def R79 (e : Eng) (g0 : List C) : Option Res :=
  (asI Go.IntKind.i64 g0[1]?).bind fun (n : Int) =>
  (asI Go.IntKind.i64 g0[2]?).bind fun (n_1 : Int) =>
    (asI Go.IntKind.i64 g0[3]?).bind fun (n_2 : Int) =>
      (asI Go.IntKind.i64 g0[4]?).bind fun (n_3 : Int) => (asI Go.IntKind.i64 g0[5]?).bind fun (n_4 : Int) => e.loop (lp Try.f79 2) (S79_2 n n_1 n_2 n_3 n_4)
theorem R79_eq (n : Nat) (g0 : List C) : (eng Try.prog hs (n + 1)).call 79 [A.agg 6 g0] none = R79 (eng Try.prog hs n) g0 := by kernel_rfl
noncomputable def L79_2 (e : Eng) (x15 : Int) (x15a : Int) (x15b : Int) (x15c : Int) (x15d : Int) : Option Res :=
  (callD e 96 [A.one (C.int Go.IntKind.i64 x15)] [Sh.bool]).bind fun (x : Bool) =>
  bif !x then some (Res.ret [A.one (C.bool false)] none) else e.loop (lp Try.f79 2) (S79_2a x15 x15a x15b x15c x15d)
theorem L79_2_eq (n : Nat) (x15 : Int) (x15a : Int) (x15b : Int) (x15c : Int) (x15d : Int) : (eng Try.prog hs (n + 1)).loop (lp Try.f79 2) (S79_2 x15 x15a x15b x15c x15d) = L79_2 (eng Try.prog hs n) x15 x15a x15b x15c x15d := by kernel_rfl
noncomputable def L79_2a (e : Eng) (x15 : Int) (x15a : Int) (x15b : Int) (x15c : Int) (x15d : Int) : Option Res :=
  (callD e 96 [A.one (C.int Go.IntKind.i64 x15a)] [Sh.bool]).bind fun (x : Bool) =>
  bif !x then some (Res.ret [A.one (C.bool false)] none) else e.loop (lp Try.f79 2) (S79_2b x15 x15a x15b x15c x15d)
theorem L79_2a_eq (n : Nat) (x15 : Int) (x15a : Int) (x15b : Int) (x15c : Int) (x15d : Int) : (eng Try.prog hs (n + 1)).loop (lp Try.f79 2) (S79_2a x15 x15a x15b x15c x15d) = L79_2a (eng Try.prog hs n) x15 x15a x15b x15c x15d := by kernel_rfl
noncomputable def L79_2b (e : Eng) (x15 : Int) (x15a : Int) (x15b : Int) (x15c : Int) (x15d : Int) : Option Res :=
  (callD e 96 [A.one (C.int Go.IntKind.i64 x15b)] [Sh.bool]).bind fun (x : Bool) =>
  bif !x then some (Res.ret [A.one (C.bool false)] none) else e.loop (lp Try.f79 2) (S79_2c x15 x15a x15b x15c x15d)
theorem L79_2b_eq (n : Nat) (x15 : Int) (x15a : Int) (x15b : Int) (x15c : Int) (x15d : Int) : (eng Try.prog hs (n + 1)).loop (lp Try.f79 2) (S79_2b x15 x15a x15b x15c x15d) = L79_2b (eng Try.prog hs n) x15 x15a x15b x15c x15d := by kernel_rfl
noncomputable def L79_2c (e : Eng) (x15 : Int) (x15a : Int) (x15b : Int) (x15c : Int) (x15d : Int) : Option Res :=
  (callD e 96 [A.one (C.int Go.IntKind.i64 x15c)] [Sh.bool]).bind fun (x : Bool) =>
  bif !x then some (Res.ret [A.one (C.bool false)] none) else e.loop (lp Try.f79 2) (S79_2d x15 x15a x15b x15c x15d)
theorem L79_2c_eq (n : Nat) (x15 : Int) (x15a : Int) (x15b : Int) (x15c : Int) (x15d : Int) : (eng Try.prog hs (n + 1)).loop (lp Try.f79 2) (S79_2c x15 x15a x15b x15c x15d) = L79_2c (eng Try.prog hs n) x15 x15a x15b x15c x15d := by kernel_rfl
noncomputable def L79_2d (e : Eng) (x15 : Int) (x15a : Int) (x15b : Int) (x15c : Int) (x15d : Int) : Option Res :=
  (callD e 96 [A.one (C.int Go.IntKind.i64 x15d)] [Sh.bool]).bind fun (x : Bool) =>
  bif !x then some (Res.ret [A.one (C.bool false)] none) else e.loop (lp Try.f79 2) (S79_2e x15 x15a x15b x15c x15d)
theorem L79_2d_eq (n : Nat) (x15 : Int) (x15a : Int) (x15b : Int) (x15c : Int) (x15d : Int) : (eng Try.prog hs (n + 1)).loop (lp Try.f79 2) (S79_2d x15 x15a x15b x15c x15d) = L79_2d (eng Try.prog hs n) x15 x15a x15b x15c x15d := by kernel_rfl
noncomputable def L79_2e (e : Eng) (x15 : Int) (x15a : Int) (x15b : Int) (x15c : Int) (x15d : Int) : Option Res :=
  some (Res.ret [A.one (C.bool true)] none)
theorem L79_2e_eq (n : Nat) (x15 : Int) (x15a : Int) (x15b : Int) (x15c : Int) (x15d : Int) : (eng Try.prog hs (n + 1)).loop (lp Try.f79 2) (S79_2e x15 x15a x15b x15c x15d) = L79_2e (eng Try.prog hs n) x15 x15a x15b x15c x15d := by kernel_rfl
noncomputable def R80 (e : Eng) (g0 : List C) : Option Res :=
  (asI Go.IntKind.i64 g0[2]?).bind fun (n : Int) =>
  (asI Go.IntKind.i64 g0[3]?).bind fun (n_1 : Int) => some (Res.ret [A.one (C.int Go.IntKind.i64 (Go.IntKind.i64.wrap (n + n_1)))] none)
theorem R80_eq (n : Nat) (g0 : List C) : (eng Try.prog hs (n + 1)).call 80 [A.agg 6 g0] none = R80 (eng Try.prog hs n) g0 := by kernel_rfl
noncomputable def S81_5 (f1 : Nat) (x1 : List C) (x5 : Int) (x38 : List (List C)) (x39 : Int) (x40 : Int) (h1002 : List C) : St :=
  St.mk 81 105
  [(1, V.c (C.fn f1 x1)), (2, V.ptr 1002 0), (5, V.c (C.int Go.IntKind.i64 x5)), (38, V.c (C.sl x38)), (39, V.c (C.int Go.IntKind.i64 x39)), (40, V.c (C.int Go.IntKind.i64 x40))]
  [(1002, Slot.live (Blk.pc 4 h1002) false)] none 0 []
noncomputable def S81_16 (f1 : Nat) (x1 : List C) (x10 : Int) (x72 : List (List C)) (x73 : Int) (x74 : Int) (h1002 : List C) : St :=
  St.mk 81 105
  [(1, V.c (C.fn f1 x1)), (2, V.ptr 1002 0), (10, V.c (C.int Go.IntKind.i64 x10)), (72, V.c (C.sl x72)), (73, V.c (C.int Go.IntKind.i64 x73)), (74, V.c (C.int Go.IntKind.i64 x74))]
  [(1002, Slot.live (Blk.pc 4 h1002) false)] none 0 []
noncomputable def R81 (e : Eng) (g0 : List C) (f1 : Nat) (c1 : List C) : Option Res :=
  (asS g0[0]?).bind fun (s : ByteArray) =>
  (callD e 78 [A.one (C.str s)] [Sh.bool]).bind fun (x : Bool) =>
    bif !x then some (Res.ret [A.one (C.bool false)] none)
    else
      (asL g0[1]?).bind fun (l : List (List C)) =>
        bif decide ((↑l.length : Int) < 1) then some (Res.ret [A.one (C.bool false)] none)
        else
          (asL g0[1]?).bind fun (l : List (List C)) =>
            bif decide ((↑l.length : Int) > 16) then some (Res.ret [A.one (C.bool false)] none)
            else
              (asL g0[2]?).bind fun (l : List (List C)) =>
                bif decide ((↑l.length : Int) > 8) then some (Res.ret [A.one (C.bool false)] none)
                else (asL g0[1]?).bind fun (l : List (List C)) => e.loop (lp Try.f81 5) (S81_5 f1 c1 0 l (↑l.length : Int) 0 g0)
theorem R81_eq (n : Nat) (g0 : List C) (f1 : Nat) (c1 : List C) : (eng Try.prog hs (n + 1)).call 81 [A.agg 4 g0, A.one (C.fn f1 c1)] none = R81 (eng Try.prog hs n) g0 f1 c1 := by kernel_rfl
noncomputable def L81_5 (e : Eng) (f1 : Nat) (x1 : List C) (x5 : Int) (x38 : List (List C)) (x39 : Int) (x40 : Int) (h1002 : List C) : Option Res :=
  bif decide (x40 < x39) then
  bif true && decide (0 ≤ x40) then
    x38[x40.toNat]?.bind fun (cs : List C) =>
      bif cs.length.beq 1 then
        (asS cs[0]?).bind fun (s : ByteArray) =>
          (callD e f1 (A.one (C.str s) :: [].append (List.map A.one x1)) [Sh.int Go.IntKind.i64, Sh.bool]).bind fun (x : Int × Bool) =>
            bif !x.snd then some (Res.ret [A.one (C.bool false)] none)
            else
              bif decide (x40 > 0) then
                bif decide (x.fst ≤ x5) then some (Res.ret [A.one (C.bool false)] none) else e.loop (lp Try.f81 5) (S81_5 f1 x1 x.fst x38 x39 (Go.IntKind.i64.wrap (x40 + 1)) h1002)
              else e.loop (lp Try.f81 5) (S81_5 f1 x1 x.fst x38 x39 (Go.IntKind.i64.wrap (x40 + 1)) h1002)
      else none
  else none
else
  (asL h1002[2]?).bind fun (l : List (List C)) =>
    bif (↑l.length : Int) == 0 then (asI Go.IntKind.i64 h1002[3]?).bind fun (n : Int) => some (Res.ret [A.one (C.bool (n == 0))] none)
    else (asL h1002[2]?).bind fun (l : List (List C)) => e.loop (lp Try.f81 16) (S81_16 f1 x1 0 l (↑l.length : Int) 0 h1002)
theorem L81_5_eq (n : Nat) (f1 : Nat) (x1 : List C) (x5 : Int) (x38 : List (List C)) (x39 : Int) (x40 : Int) (h1002 : List C) : (eng Try.prog hs (n + 1)).loop (lp Try.f81 5) (S81_5 f1 x1 x5 x38 x39 x40 h1002) = L81_5 (eng Try.prog hs n) f1 x1 x5 x38 x39 x40 h1002 := by kernel_rfl
noncomputable def L81_16 (e : Eng) (f1 : Nat) (x1 : List C) (x10 : Int) (x72 : List (List C)) (x73 : Int) (x74 : Int) (h1002 : List C) : Option Res :=
  bif decide (x74 < x73) then
  bif true && decide (0 ≤ x74) then
    x72[x74.toNat]?.bind fun (cs : List C) =>
      bif cs.length.beq 2 then
        bif cs.length.beq 2 then
          (asS cs[0]?).bind fun (s : ByteArray) =>
            (callD e f1 (A.one (C.str s) :: [].append (List.map A.one x1)) [Sh.int Go.IntKind.i64, Sh.bool]).bind fun (x : Int × Bool) =>
              bif !x.snd then some (Res.ret [A.one (C.bool false)] none)
              else
                (asI Go.IntKind.i64 h1002[3]?).bind fun (n : Int) =>
                  bif decide (n < 0) then some (Res.ret [A.one (C.bool false)] none)
                  else
                    (asI Go.IntKind.i64 h1002[3]?).bind fun (n : Int) =>
                      bif decide (n ≥ x.fst) then some (Res.ret [A.one (C.bool false)] none)
                      else
                        (asB cs[1]?).bind fun (b : Bool) =>
                          bif b then e.loop (lp Try.f81 16) (S81_16 f1 x1 (Go.IntKind.i64.wrap (x10 + 1)) x72 x73 (Go.IntKind.i64.wrap (x74 + 1)) h1002)
                          else e.loop (lp Try.f81 16) (S81_16 f1 x1 x10 x72 x73 (Go.IntKind.i64.wrap (x74 + 1)) h1002)
        else
          bif Nat.ble 2 cs.length then
            (asS (List.take 2 cs)[0]?).bind fun (s : ByteArray) =>
              (callD e f1 (A.one (C.str s) :: [].append (List.map A.one x1)) [Sh.int Go.IntKind.i64, Sh.bool]).bind fun (x : Int × Bool) =>
                bif !x.snd then some (Res.ret [A.one (C.bool false)] none)
                else
                  (asI Go.IntKind.i64 h1002[3]?).bind fun (n : Int) =>
                    bif decide (n < 0) then some (Res.ret [A.one (C.bool false)] none)
                    else
                      (asI Go.IntKind.i64 h1002[3]?).bind fun (n : Int) =>
                        bif decide (n ≥ x.fst) then some (Res.ret [A.one (C.bool false)] none)
                        else
                          (asB (List.take 2 cs)[1]?).bind fun (b : Bool) =>
                            bif b then e.loop (lp Try.f81 16) (S81_16 f1 x1 (Go.IntKind.i64.wrap (x10 + 1)) x72 x73 (Go.IntKind.i64.wrap (x74 + 1)) h1002)
                            else e.loop (lp Try.f81 16) (S81_16 f1 x1 x10 x72 x73 (Go.IntKind.i64.wrap (x74 + 1)) h1002)
          else none
      else none
  else none
else some (Res.ret [A.one (C.bool (decide (x10 > 0)))] none)
theorem L81_16_eq (n : Nat) (f1 : Nat) (x1 : List C) (x10 : Int) (x72 : List (List C)) (x73 : Int) (x74 : Int) (h1002 : List C) : (eng Try.prog hs (n + 1)).loop (lp Try.f81 16) (S81_16 f1 x1 x10 x72 x73 x74 h1002) = L81_16 (eng Try.prog hs n) f1 x1 x10 x72 x73 x74 h1002 := by kernel_rfl
noncomputable def R82 (e : Eng) (s0 : ByteArray) (p1 : List C) : Option Res :=
  (asM p1[0]?).bind fun (m : List (ByteArray × C)) =>
  (entI Go.IntKind.i64 m s0).bind fun (r : Int × Bool) => some (Res.ret [A.one (C.int Go.IntKind.i64 r.fst), A.one (C.bool r.snd)] none)
theorem R82_eq (n : Nat) (s0 : ByteArray) (p1 : List C) : (eng Try.prog hs (n + 1)).call 82 [A.one (C.str s0), A.one (C.rp p1 0)] none = R82 (eng Try.prog hs n) s0 p1 := by kernel_rfl
noncomputable def S83_2 (x13 : Int) (x13a : Int) (x13b : Int) (h1001 : List C) : St :=
  St.mk 83 69 [(1, V.ptr 1001 0), (13, V.agg [V.c (C.int Go.IntKind.i64 x13), V.c (C.int Go.IntKind.i64 x13a), V.c (C.int Go.IntKind.i64 x13b)]), (14, V.c (C.int Go.IntKind.i64 0))]
  [(1001, Slot.live (Blk.pc 20 h1001) false)] none 0 []
noncomputable def S83_2a (x13 : Int) (x13a : Int) (x13b : Int) (h1001 : List C) : St :=
  St.mk 83 69 [(1, V.ptr 1001 0), (13, V.agg [V.c (C.int Go.IntKind.i64 x13), V.c (C.int Go.IntKind.i64 x13a), V.c (C.int Go.IntKind.i64 x13b)]), (14, V.c (C.int Go.IntKind.i64 1))]
  [(1001, Slot.live (Blk.pc 20 h1001) false)] none 0 []
noncomputable def S83_2b (x13 : Int) (x13a : Int) (x13b : Int) (h1001 : List C) : St :=
  St.mk 83 69 [(1, V.ptr 1001 0), (13, V.agg [V.c (C.int Go.IntKind.i64 x13), V.c (C.int Go.IntKind.i64 x13a), V.c (C.int Go.IntKind.i64 x13b)]), (14, V.c (C.int Go.IntKind.i64 2))]
  [(1001, Slot.live (Blk.pc 20 h1001) false)] none 0 []
noncomputable def S83_2c (x13 : Int) (x13a : Int) (x13b : Int) (h1001 : List C) : St :=
  St.mk 83 69 [(1, V.ptr 1001 0), (13, V.agg [V.c (C.int Go.IntKind.i64 x13), V.c (C.int Go.IntKind.i64 x13a), V.c (C.int Go.IntKind.i64 x13b)]), (14, V.c (C.int Go.IntKind.i64 3))]
  [(1001, Slot.live (Blk.pc 20 h1001) false)] none 0 []
noncomputable def S83_8 (x58 : Int) (x58a : Int) (x58b : Int) (x58c : Int) (x58d : Int) (x58e : Int) (x58f : Int) (x58g : Int) (x58h : Int) (x58i : Int) (x58j : Int) (x58k : Int) (x58l : Int) (x58m : Int) (x58n : Int) (x58o : Int) (x58p : Int) : St :=
  St.mk 83 69
  [(58,
      V.agg
        [V.c (C.int Go.IntKind.i64 x58), V.c (C.int Go.IntKind.i64 x58a), V.c (C.int Go.IntKind.i64 x58b), V.c (C.int Go.IntKind.i64 x58c), V.c (C.int Go.IntKind.i64 x58d),
          V.c (C.int Go.IntKind.i64 x58e), V.c (C.int Go.IntKind.i64 x58f), V.c (C.int Go.IntKind.i64 x58g), V.c (C.int Go.IntKind.i64 x58h), V.c (C.int Go.IntKind.i64 x58i),
          V.c (C.int Go.IntKind.i64 x58j), V.c (C.int Go.IntKind.i64 x58k), V.c (C.int Go.IntKind.i64 x58l), V.c (C.int Go.IntKind.i64 x58m), V.c (C.int Go.IntKind.i64 x58n),
          V.c (C.int Go.IntKind.i64 x58o), V.c (C.int Go.IntKind.i64 x58p)]),
    (59, V.c (C.int Go.IntKind.i64 0))]
  [] none 0 []
noncomputable def S83_8a (x58 : Int) (x58a : Int) (x58b : Int) (x58c : Int) (x58d : Int) (x58e : Int) (x58f : Int) (x58g : Int) (x58h : Int) (x58i : Int) (x58j : Int) (x58k : Int) (x58l : Int) (x58m : Int) (x58n : Int) (x58o : Int) (x58p : Int) : St :=
  St.mk 83 69
  [(58,
      V.agg
        [V.c (C.int Go.IntKind.i64 x58), V.c (C.int Go.IntKind.i64 x58a), V.c (C.int Go.IntKind.i64 x58b), V.c (C.int Go.IntKind.i64 x58c), V.c (C.int Go.IntKind.i64 x58d),
          V.c (C.int Go.IntKind.i64 x58e), V.c (C.int Go.IntKind.i64 x58f), V.c (C.int Go.IntKind.i64 x58g), V.c (C.int Go.IntKind.i64 x58h), V.c (C.int Go.IntKind.i64 x58i),
          V.c (C.int Go.IntKind.i64 x58j), V.c (C.int Go.IntKind.i64 x58k), V.c (C.int Go.IntKind.i64 x58l), V.c (C.int Go.IntKind.i64 x58m), V.c (C.int Go.IntKind.i64 x58n),
          V.c (C.int Go.IntKind.i64 x58o), V.c (C.int Go.IntKind.i64 x58p)]),
    (59, V.c (C.int Go.IntKind.i64 1))]
  [] none 0 []
noncomputable def S83_8b (x58 : Int) (x58a : Int) (x58b : Int) (x58c : Int) (x58d : Int) (x58e : Int) (x58f : Int) (x58g : Int) (x58h : Int) (x58i : Int) (x58j : Int) (x58k : Int) (x58l : Int) (x58m : Int) (x58n : Int) (x58o : Int) (x58p : Int) : St :=
  St.mk 83 69
  [(58,
      V.agg
        [V.c (C.int Go.IntKind.i64 x58), V.c (C.int Go.IntKind.i64 x58a), V.c (C.int Go.IntKind.i64 x58b), V.c (C.int Go.IntKind.i64 x58c), V.c (C.int Go.IntKind.i64 x58d),
          V.c (C.int Go.IntKind.i64 x58e), V.c (C.int Go.IntKind.i64 x58f), V.c (C.int Go.IntKind.i64 x58g), V.c (C.int Go.IntKind.i64 x58h), V.c (C.int Go.IntKind.i64 x58i),
          V.c (C.int Go.IntKind.i64 x58j), V.c (C.int Go.IntKind.i64 x58k), V.c (C.int Go.IntKind.i64 x58l), V.c (C.int Go.IntKind.i64 x58m), V.c (C.int Go.IntKind.i64 x58n),
          V.c (C.int Go.IntKind.i64 x58o), V.c (C.int Go.IntKind.i64 x58p)]),
    (59, V.c (C.int Go.IntKind.i64 2))]
  [] none 0 []
noncomputable def S83_8c (x58 : Int) (x58a : Int) (x58b : Int) (x58c : Int) (x58d : Int) (x58e : Int) (x58f : Int) (x58g : Int) (x58h : Int) (x58i : Int) (x58j : Int) (x58k : Int) (x58l : Int) (x58m : Int) (x58n : Int) (x58o : Int) (x58p : Int) : St :=
  St.mk 83 69
  [(58,
      V.agg
        [V.c (C.int Go.IntKind.i64 x58), V.c (C.int Go.IntKind.i64 x58a), V.c (C.int Go.IntKind.i64 x58b), V.c (C.int Go.IntKind.i64 x58c), V.c (C.int Go.IntKind.i64 x58d),
          V.c (C.int Go.IntKind.i64 x58e), V.c (C.int Go.IntKind.i64 x58f), V.c (C.int Go.IntKind.i64 x58g), V.c (C.int Go.IntKind.i64 x58h), V.c (C.int Go.IntKind.i64 x58i),
          V.c (C.int Go.IntKind.i64 x58j), V.c (C.int Go.IntKind.i64 x58k), V.c (C.int Go.IntKind.i64 x58l), V.c (C.int Go.IntKind.i64 x58m), V.c (C.int Go.IntKind.i64 x58n),
          V.c (C.int Go.IntKind.i64 x58o), V.c (C.int Go.IntKind.i64 x58p)]),
    (59, V.c (C.int Go.IntKind.i64 3))]
  [] none 0 []
noncomputable def S83_8d (x58 : Int) (x58a : Int) (x58b : Int) (x58c : Int) (x58d : Int) (x58e : Int) (x58f : Int) (x58g : Int) (x58h : Int) (x58i : Int) (x58j : Int) (x58k : Int) (x58l : Int) (x58m : Int) (x58n : Int) (x58o : Int) (x58p : Int) : St :=
  St.mk 83 69
  [(58,
      V.agg
        [V.c (C.int Go.IntKind.i64 x58), V.c (C.int Go.IntKind.i64 x58a), V.c (C.int Go.IntKind.i64 x58b), V.c (C.int Go.IntKind.i64 x58c), V.c (C.int Go.IntKind.i64 x58d),
          V.c (C.int Go.IntKind.i64 x58e), V.c (C.int Go.IntKind.i64 x58f), V.c (C.int Go.IntKind.i64 x58g), V.c (C.int Go.IntKind.i64 x58h), V.c (C.int Go.IntKind.i64 x58i),
          V.c (C.int Go.IntKind.i64 x58j), V.c (C.int Go.IntKind.i64 x58k), V.c (C.int Go.IntKind.i64 x58l), V.c (C.int Go.IntKind.i64 x58m), V.c (C.int Go.IntKind.i64 x58n),
          V.c (C.int Go.IntKind.i64 x58o), V.c (C.int Go.IntKind.i64 x58p)]),
    (59, V.c (C.int Go.IntKind.i64 4))]
  [] none 0 []
noncomputable def S83_8e (x58 : Int) (x58a : Int) (x58b : Int) (x58c : Int) (x58d : Int) (x58e : Int) (x58f : Int) (x58g : Int) (x58h : Int) (x58i : Int) (x58j : Int) (x58k : Int) (x58l : Int) (x58m : Int) (x58n : Int) (x58o : Int) (x58p : Int) : St :=
  St.mk 83 69
  [(58,
      V.agg
        [V.c (C.int Go.IntKind.i64 x58), V.c (C.int Go.IntKind.i64 x58a), V.c (C.int Go.IntKind.i64 x58b), V.c (C.int Go.IntKind.i64 x58c), V.c (C.int Go.IntKind.i64 x58d),
          V.c (C.int Go.IntKind.i64 x58e), V.c (C.int Go.IntKind.i64 x58f), V.c (C.int Go.IntKind.i64 x58g), V.c (C.int Go.IntKind.i64 x58h), V.c (C.int Go.IntKind.i64 x58i),
          V.c (C.int Go.IntKind.i64 x58j), V.c (C.int Go.IntKind.i64 x58k), V.c (C.int Go.IntKind.i64 x58l), V.c (C.int Go.IntKind.i64 x58m), V.c (C.int Go.IntKind.i64 x58n),
          V.c (C.int Go.IntKind.i64 x58o), V.c (C.int Go.IntKind.i64 x58p)]),
    (59, V.c (C.int Go.IntKind.i64 5))]
  [] none 0 []
noncomputable def S83_8f (x58 : Int) (x58a : Int) (x58b : Int) (x58c : Int) (x58d : Int) (x58e : Int) (x58f : Int) (x58g : Int) (x58h : Int) (x58i : Int) (x58j : Int) (x58k : Int) (x58l : Int) (x58m : Int) (x58n : Int) (x58o : Int) (x58p : Int) : St :=
  St.mk 83 69
  [(58,
      V.agg
        [V.c (C.int Go.IntKind.i64 x58), V.c (C.int Go.IntKind.i64 x58a), V.c (C.int Go.IntKind.i64 x58b), V.c (C.int Go.IntKind.i64 x58c), V.c (C.int Go.IntKind.i64 x58d),
          V.c (C.int Go.IntKind.i64 x58e), V.c (C.int Go.IntKind.i64 x58f), V.c (C.int Go.IntKind.i64 x58g), V.c (C.int Go.IntKind.i64 x58h), V.c (C.int Go.IntKind.i64 x58i),
          V.c (C.int Go.IntKind.i64 x58j), V.c (C.int Go.IntKind.i64 x58k), V.c (C.int Go.IntKind.i64 x58l), V.c (C.int Go.IntKind.i64 x58m), V.c (C.int Go.IntKind.i64 x58n),
          V.c (C.int Go.IntKind.i64 x58o), V.c (C.int Go.IntKind.i64 x58p)]),
    (59, V.c (C.int Go.IntKind.i64 6))]
  [] none 0 []
noncomputable def S83_8g (x58 : Int) (x58a : Int) (x58b : Int) (x58c : Int) (x58d : Int) (x58e : Int) (x58f : Int) (x58g : Int) (x58h : Int) (x58i : Int) (x58j : Int) (x58k : Int) (x58l : Int) (x58m : Int) (x58n : Int) (x58o : Int) (x58p : Int) : St :=
  St.mk 83 69
  [(58,
      V.agg
        [V.c (C.int Go.IntKind.i64 x58), V.c (C.int Go.IntKind.i64 x58a), V.c (C.int Go.IntKind.i64 x58b), V.c (C.int Go.IntKind.i64 x58c), V.c (C.int Go.IntKind.i64 x58d),
          V.c (C.int Go.IntKind.i64 x58e), V.c (C.int Go.IntKind.i64 x58f), V.c (C.int Go.IntKind.i64 x58g), V.c (C.int Go.IntKind.i64 x58h), V.c (C.int Go.IntKind.i64 x58i),
          V.c (C.int Go.IntKind.i64 x58j), V.c (C.int Go.IntKind.i64 x58k), V.c (C.int Go.IntKind.i64 x58l), V.c (C.int Go.IntKind.i64 x58m), V.c (C.int Go.IntKind.i64 x58n),
          V.c (C.int Go.IntKind.i64 x58o), V.c (C.int Go.IntKind.i64 x58p)]),
    (59, V.c (C.int Go.IntKind.i64 7))]
  [] none 0 []
noncomputable def S83_8h (x58 : Int) (x58a : Int) (x58b : Int) (x58c : Int) (x58d : Int) (x58e : Int) (x58f : Int) (x58g : Int) (x58h : Int) (x58i : Int) (x58j : Int) (x58k : Int) (x58l : Int) (x58m : Int) (x58n : Int) (x58o : Int) (x58p : Int) : St :=
  St.mk 83 69
  [(58,
      V.agg
        [V.c (C.int Go.IntKind.i64 x58), V.c (C.int Go.IntKind.i64 x58a), V.c (C.int Go.IntKind.i64 x58b), V.c (C.int Go.IntKind.i64 x58c), V.c (C.int Go.IntKind.i64 x58d),
          V.c (C.int Go.IntKind.i64 x58e), V.c (C.int Go.IntKind.i64 x58f), V.c (C.int Go.IntKind.i64 x58g), V.c (C.int Go.IntKind.i64 x58h), V.c (C.int Go.IntKind.i64 x58i),
          V.c (C.int Go.IntKind.i64 x58j), V.c (C.int Go.IntKind.i64 x58k), V.c (C.int Go.IntKind.i64 x58l), V.c (C.int Go.IntKind.i64 x58m), V.c (C.int Go.IntKind.i64 x58n),
          V.c (C.int Go.IntKind.i64 x58o), V.c (C.int Go.IntKind.i64 x58p)]),
    (59, V.c (C.int Go.IntKind.i64 8))]
  [] none 0 []
noncomputable def S83_8i (x58 : Int) (x58a : Int) (x58b : Int) (x58c : Int) (x58d : Int) (x58e : Int) (x58f : Int) (x58g : Int) (x58h : Int) (x58i : Int) (x58j : Int) (x58k : Int) (x58l : Int) (x58m : Int) (x58n : Int) (x58o : Int) (x58p : Int) : St :=
  St.mk 83 69
  [(58,
      V.agg
        [V.c (C.int Go.IntKind.i64 x58), V.c (C.int Go.IntKind.i64 x58a), V.c (C.int Go.IntKind.i64 x58b), V.c (C.int Go.IntKind.i64 x58c), V.c (C.int Go.IntKind.i64 x58d),
          V.c (C.int Go.IntKind.i64 x58e), V.c (C.int Go.IntKind.i64 x58f), V.c (C.int Go.IntKind.i64 x58g), V.c (C.int Go.IntKind.i64 x58h), V.c (C.int Go.IntKind.i64 x58i),
          V.c (C.int Go.IntKind.i64 x58j), V.c (C.int Go.IntKind.i64 x58k), V.c (C.int Go.IntKind.i64 x58l), V.c (C.int Go.IntKind.i64 x58m), V.c (C.int Go.IntKind.i64 x58n),
          V.c (C.int Go.IntKind.i64 x58o), V.c (C.int Go.IntKind.i64 x58p)]),
    (59, V.c (C.int Go.IntKind.i64 9))]
  [] none 0 []
noncomputable def S83_8j (x58 : Int) (x58a : Int) (x58b : Int) (x58c : Int) (x58d : Int) (x58e : Int) (x58f : Int) (x58g : Int) (x58h : Int) (x58i : Int) (x58j : Int) (x58k : Int) (x58l : Int) (x58m : Int) (x58n : Int) (x58o : Int) (x58p : Int) : St :=
  St.mk 83 69
  [(58,
      V.agg
        [V.c (C.int Go.IntKind.i64 x58), V.c (C.int Go.IntKind.i64 x58a), V.c (C.int Go.IntKind.i64 x58b), V.c (C.int Go.IntKind.i64 x58c), V.c (C.int Go.IntKind.i64 x58d),
          V.c (C.int Go.IntKind.i64 x58e), V.c (C.int Go.IntKind.i64 x58f), V.c (C.int Go.IntKind.i64 x58g), V.c (C.int Go.IntKind.i64 x58h), V.c (C.int Go.IntKind.i64 x58i),
          V.c (C.int Go.IntKind.i64 x58j), V.c (C.int Go.IntKind.i64 x58k), V.c (C.int Go.IntKind.i64 x58l), V.c (C.int Go.IntKind.i64 x58m), V.c (C.int Go.IntKind.i64 x58n),
          V.c (C.int Go.IntKind.i64 x58o), V.c (C.int Go.IntKind.i64 x58p)]),
    (59, V.c (C.int Go.IntKind.i64 10))]
  [] none 0 []
noncomputable def S83_8k (x58 : Int) (x58a : Int) (x58b : Int) (x58c : Int) (x58d : Int) (x58e : Int) (x58f : Int) (x58g : Int) (x58h : Int) (x58i : Int) (x58j : Int) (x58k : Int) (x58l : Int) (x58m : Int) (x58n : Int) (x58o : Int) (x58p : Int) : St :=
  St.mk 83 69
  [(58,
      V.agg
        [V.c (C.int Go.IntKind.i64 x58), V.c (C.int Go.IntKind.i64 x58a), V.c (C.int Go.IntKind.i64 x58b), V.c (C.int Go.IntKind.i64 x58c), V.c (C.int Go.IntKind.i64 x58d),
          V.c (C.int Go.IntKind.i64 x58e), V.c (C.int Go.IntKind.i64 x58f), V.c (C.int Go.IntKind.i64 x58g), V.c (C.int Go.IntKind.i64 x58h), V.c (C.int Go.IntKind.i64 x58i),
          V.c (C.int Go.IntKind.i64 x58j), V.c (C.int Go.IntKind.i64 x58k), V.c (C.int Go.IntKind.i64 x58l), V.c (C.int Go.IntKind.i64 x58m), V.c (C.int Go.IntKind.i64 x58n),
          V.c (C.int Go.IntKind.i64 x58o), V.c (C.int Go.IntKind.i64 x58p)]),
    (59, V.c (C.int Go.IntKind.i64 11))]
  [] none 0 []
noncomputable def S83_8l (x58 : Int) (x58a : Int) (x58b : Int) (x58c : Int) (x58d : Int) (x58e : Int) (x58f : Int) (x58g : Int) (x58h : Int) (x58i : Int) (x58j : Int) (x58k : Int) (x58l : Int) (x58m : Int) (x58n : Int) (x58o : Int) (x58p : Int) : St :=
  St.mk 83 69
  [(58,
      V.agg
        [V.c (C.int Go.IntKind.i64 x58), V.c (C.int Go.IntKind.i64 x58a), V.c (C.int Go.IntKind.i64 x58b), V.c (C.int Go.IntKind.i64 x58c), V.c (C.int Go.IntKind.i64 x58d),
          V.c (C.int Go.IntKind.i64 x58e), V.c (C.int Go.IntKind.i64 x58f), V.c (C.int Go.IntKind.i64 x58g), V.c (C.int Go.IntKind.i64 x58h), V.c (C.int Go.IntKind.i64 x58i),
          V.c (C.int Go.IntKind.i64 x58j), V.c (C.int Go.IntKind.i64 x58k), V.c (C.int Go.IntKind.i64 x58l), V.c (C.int Go.IntKind.i64 x58m), V.c (C.int Go.IntKind.i64 x58n),
          V.c (C.int Go.IntKind.i64 x58o), V.c (C.int Go.IntKind.i64 x58p)]),
    (59, V.c (C.int Go.IntKind.i64 12))]
  [] none 0 []
noncomputable def S83_8m (x58 : Int) (x58a : Int) (x58b : Int) (x58c : Int) (x58d : Int) (x58e : Int) (x58f : Int) (x58g : Int) (x58h : Int) (x58i : Int) (x58j : Int) (x58k : Int) (x58l : Int) (x58m : Int) (x58n : Int) (x58o : Int) (x58p : Int) : St :=
  St.mk 83 69
  [(58,
      V.agg
        [V.c (C.int Go.IntKind.i64 x58), V.c (C.int Go.IntKind.i64 x58a), V.c (C.int Go.IntKind.i64 x58b), V.c (C.int Go.IntKind.i64 x58c), V.c (C.int Go.IntKind.i64 x58d),
          V.c (C.int Go.IntKind.i64 x58e), V.c (C.int Go.IntKind.i64 x58f), V.c (C.int Go.IntKind.i64 x58g), V.c (C.int Go.IntKind.i64 x58h), V.c (C.int Go.IntKind.i64 x58i),
          V.c (C.int Go.IntKind.i64 x58j), V.c (C.int Go.IntKind.i64 x58k), V.c (C.int Go.IntKind.i64 x58l), V.c (C.int Go.IntKind.i64 x58m), V.c (C.int Go.IntKind.i64 x58n),
          V.c (C.int Go.IntKind.i64 x58o), V.c (C.int Go.IntKind.i64 x58p)]),
    (59, V.c (C.int Go.IntKind.i64 13))]
  [] none 0 []
noncomputable def S83_8n (x58 : Int) (x58a : Int) (x58b : Int) (x58c : Int) (x58d : Int) (x58e : Int) (x58f : Int) (x58g : Int) (x58h : Int) (x58i : Int) (x58j : Int) (x58k : Int) (x58l : Int) (x58m : Int) (x58n : Int) (x58o : Int) (x58p : Int) : St :=
  St.mk 83 69
  [(58,
      V.agg
        [V.c (C.int Go.IntKind.i64 x58), V.c (C.int Go.IntKind.i64 x58a), V.c (C.int Go.IntKind.i64 x58b), V.c (C.int Go.IntKind.i64 x58c), V.c (C.int Go.IntKind.i64 x58d),
          V.c (C.int Go.IntKind.i64 x58e), V.c (C.int Go.IntKind.i64 x58f), V.c (C.int Go.IntKind.i64 x58g), V.c (C.int Go.IntKind.i64 x58h), V.c (C.int Go.IntKind.i64 x58i),
          V.c (C.int Go.IntKind.i64 x58j), V.c (C.int Go.IntKind.i64 x58k), V.c (C.int Go.IntKind.i64 x58l), V.c (C.int Go.IntKind.i64 x58m), V.c (C.int Go.IntKind.i64 x58n),
          V.c (C.int Go.IntKind.i64 x58o), V.c (C.int Go.IntKind.i64 x58p)]),
    (59, V.c (C.int Go.IntKind.i64 14))]
  [] none 0 []
noncomputable def S83_8o (x58 : Int) (x58a : Int) (x58b : Int) (x58c : Int) (x58d : Int) (x58e : Int) (x58f : Int) (x58g : Int) (x58h : Int) (x58i : Int) (x58j : Int) (x58k : Int) (x58l : Int) (x58m : Int) (x58n : Int) (x58o : Int) (x58p : Int) : St :=
  St.mk 83 69
  [(58,
      V.agg
        [V.c (C.int Go.IntKind.i64 x58), V.c (C.int Go.IntKind.i64 x58a), V.c (C.int Go.IntKind.i64 x58b), V.c (C.int Go.IntKind.i64 x58c), V.c (C.int Go.IntKind.i64 x58d),
          V.c (C.int Go.IntKind.i64 x58e), V.c (C.int Go.IntKind.i64 x58f), V.c (C.int Go.IntKind.i64 x58g), V.c (C.int Go.IntKind.i64 x58h), V.c (C.int Go.IntKind.i64 x58i),
          V.c (C.int Go.IntKind.i64 x58j), V.c (C.int Go.IntKind.i64 x58k), V.c (C.int Go.IntKind.i64 x58l), V.c (C.int Go.IntKind.i64 x58m), V.c (C.int Go.IntKind.i64 x58n),
          V.c (C.int Go.IntKind.i64 x58o), V.c (C.int Go.IntKind.i64 x58p)]),
    (59, V.c (C.int Go.IntKind.i64 15))]
  [] none 0 []
noncomputable def S83_8p (x58 : Int) (x58a : Int) (x58b : Int) (x58c : Int) (x58d : Int) (x58e : Int) (x58f : Int) (x58g : Int) (x58h : Int) (x58i : Int) (x58j : Int) (x58k : Int) (x58l : Int) (x58m : Int) (x58n : Int) (x58o : Int) (x58p : Int) : St :=
  St.mk 83 69
  [(58,
      V.agg
        [V.c (C.int Go.IntKind.i64 x58), V.c (C.int Go.IntKind.i64 x58a), V.c (C.int Go.IntKind.i64 x58b), V.c (C.int Go.IntKind.i64 x58c), V.c (C.int Go.IntKind.i64 x58d),
          V.c (C.int Go.IntKind.i64 x58e), V.c (C.int Go.IntKind.i64 x58f), V.c (C.int Go.IntKind.i64 x58g), V.c (C.int Go.IntKind.i64 x58h), V.c (C.int Go.IntKind.i64 x58i),
          V.c (C.int Go.IntKind.i64 x58j), V.c (C.int Go.IntKind.i64 x58k), V.c (C.int Go.IntKind.i64 x58l), V.c (C.int Go.IntKind.i64 x58m), V.c (C.int Go.IntKind.i64 x58n),
          V.c (C.int Go.IntKind.i64 x58o), V.c (C.int Go.IntKind.i64 x58p)]),
    (59, V.c (C.int Go.IntKind.i64 16))]
  [] none 0 []
noncomputable def S83_8q (x58 : Int) (x58a : Int) (x58b : Int) (x58c : Int) (x58d : Int) (x58e : Int) (x58f : Int) (x58g : Int) (x58h : Int) (x58i : Int) (x58j : Int) (x58k : Int) (x58l : Int) (x58m : Int) (x58n : Int) (x58o : Int) (x58p : Int) : St :=
  St.mk 83 69
  [(58,
      V.agg
        [V.c (C.int Go.IntKind.i64 x58), V.c (C.int Go.IntKind.i64 x58a), V.c (C.int Go.IntKind.i64 x58b), V.c (C.int Go.IntKind.i64 x58c), V.c (C.int Go.IntKind.i64 x58d),
          V.c (C.int Go.IntKind.i64 x58e), V.c (C.int Go.IntKind.i64 x58f), V.c (C.int Go.IntKind.i64 x58g), V.c (C.int Go.IntKind.i64 x58h), V.c (C.int Go.IntKind.i64 x58i),
          V.c (C.int Go.IntKind.i64 x58j), V.c (C.int Go.IntKind.i64 x58k), V.c (C.int Go.IntKind.i64 x58l), V.c (C.int Go.IntKind.i64 x58m), V.c (C.int Go.IntKind.i64 x58n),
          V.c (C.int Go.IntKind.i64 x58o), V.c (C.int Go.IntKind.i64 x58p)]),
    (59, V.c (C.int Go.IntKind.i64 17))]
  [] none 0 []
noncomputable def R83 (e : Eng) (g0 : List C) : Option Res :=
  (asI Go.IntKind.i64 g0[15]?).bind fun (n : Int) =>
  (asI Go.IntKind.i64 g0[16]?).bind fun (n_1 : Int) => (asI Go.IntKind.i64 g0[17]?).bind fun (n_2 : Int) => e.loop (lp Try.f83 2) (S83_2 n n_1 n_2 g0)
theorem R83_eq (n : Nat) (g0 : List C) : (eng Try.prog hs (n + 1)).call 83 [A.agg 20 g0] none = R83 (eng Try.prog hs n) g0 := by kernel_rfl
noncomputable def L83_2 (e : Eng) (x13 : Int) (x13a : Int) (x13b : Int) (h1001 : List C) : Option Res :=
  bif decide (x13 < 1) then some (Res.ret [A.one (C.bool false)] none)
else bif decide (x13 > 100) then some (Res.ret [A.one (C.bool false)] none) else e.loop (lp Try.f83 2) (S83_2a x13 x13a x13b h1001)
theorem L83_2_eq (n : Nat) (x13 : Int) (x13a : Int) (x13b : Int) (h1001 : List C) : (eng Try.prog hs (n + 1)).loop (lp Try.f83 2) (S83_2 x13 x13a x13b h1001) = L83_2 (eng Try.prog hs n) x13 x13a x13b h1001 := by kernel_rfl
noncomputable def L83_2a (e : Eng) (x13 : Int) (x13a : Int) (x13b : Int) (h1001 : List C) : Option Res :=
  bif decide (x13a < 1) then some (Res.ret [A.one (C.bool false)] none)
else bif decide (x13a > 100) then some (Res.ret [A.one (C.bool false)] none) else e.loop (lp Try.f83 2) (S83_2b x13 x13a x13b h1001)
theorem L83_2a_eq (n : Nat) (x13 : Int) (x13a : Int) (x13b : Int) (h1001 : List C) : (eng Try.prog hs (n + 1)).loop (lp Try.f83 2) (S83_2a x13 x13a x13b h1001) = L83_2a (eng Try.prog hs n) x13 x13a x13b h1001 := by kernel_rfl
noncomputable def L83_2b (e : Eng) (x13 : Int) (x13a : Int) (x13b : Int) (h1001 : List C) : Option Res :=
  bif decide (x13b < 1) then some (Res.ret [A.one (C.bool false)] none)
else bif decide (x13b > 100) then some (Res.ret [A.one (C.bool false)] none) else e.loop (lp Try.f83 2) (S83_2c x13 x13a x13b h1001)
theorem L83_2b_eq (n : Nat) (x13 : Int) (x13a : Int) (x13b : Int) (h1001 : List C) : (eng Try.prog hs (n + 1)).loop (lp Try.f83 2) (S83_2b x13 x13a x13b h1001) = L83_2b (eng Try.prog hs n) x13 x13a x13b h1001 := by kernel_rfl
noncomputable def L83_2c (e : Eng) (x13 : Int) (x13a : Int) (x13b : Int) (h1001 : List C) : Option Res :=
  (asI Go.IntKind.i64 h1001[0]?).bind fun (n : Int) =>
  (asI Go.IntKind.i64 h1001[1]?).bind fun (n_1 : Int) =>
    (asI Go.IntKind.i64 h1001[2]?).bind fun (n_2 : Int) =>
      (asI Go.IntKind.i64 h1001[3]?).bind fun (n_3 : Int) =>
        (asI Go.IntKind.i64 h1001[4]?).bind fun (n_4 : Int) =>
          (asI Go.IntKind.i64 h1001[5]?).bind fun (n_5 : Int) =>
            (asI Go.IntKind.i64 h1001[6]?).bind fun (n_6 : Int) =>
              (asI Go.IntKind.i64 h1001[7]?).bind fun (n_7 : Int) =>
                (asI Go.IntKind.i64 h1001[8]?).bind fun (n_8 : Int) =>
                  (asI Go.IntKind.i64 h1001[9]?).bind fun (n_9 : Int) =>
                    (asI Go.IntKind.i64 h1001[10]?).bind fun (n_10 : Int) =>
                      (asI Go.IntKind.i64 h1001[11]?).bind fun (n_11 : Int) =>
                        (asI Go.IntKind.i64 h1001[12]?).bind fun (n_12 : Int) =>
                          (asI Go.IntKind.i64 h1001[13]?).bind fun (n_13 : Int) =>
                            (asI Go.IntKind.i64 h1001[14]?).bind fun (n_14 : Int) =>
                              (asI Go.IntKind.i64 h1001[18]?).bind fun (n_15 : Int) =>
                                (asI Go.IntKind.i64 h1001[19]?).bind fun (n_16 : Int) =>
                                  e.loop (lp Try.f83 8) (S83_8 n n_1 n_2 n_3 n_4 n_5 n_6 n_7 n_8 n_9 n_10 n_11 n_12 n_13 n_14 n_15 n_16)
theorem L83_2c_eq (n : Nat) (x13 : Int) (x13a : Int) (x13b : Int) (h1001 : List C) : (eng Try.prog hs (n + 1)).loop (lp Try.f83 2) (S83_2c x13 x13a x13b h1001) = L83_2c (eng Try.prog hs n) x13 x13a x13b h1001 := by kernel_rfl
noncomputable def L83_8 (e : Eng) (x58 : Int) (x58a : Int) (x58b : Int) (x58c : Int) (x58d : Int) (x58e : Int) (x58f : Int) (x58g : Int) (x58h : Int) (x58i : Int) (x58j : Int) (x58k : Int) (x58l : Int) (x58m : Int) (x58n : Int) (x58o : Int) (x58p : Int) : Option Res :=
  bif decide (x58 < 0) then some (Res.ret [A.one (C.bool false)] none)
else
  bif decide (x58 > 20000) then some (Res.ret [A.one (C.bool false)] none)
  else e.loop (lp Try.f83 8) (S83_8a x58 x58a x58b x58c x58d x58e x58f x58g x58h x58i x58j x58k x58l x58m x58n x58o x58p)
theorem L83_8_eq (n : Nat) (x58 : Int) (x58a : Int) (x58b : Int) (x58c : Int) (x58d : Int) (x58e : Int) (x58f : Int) (x58g : Int) (x58h : Int) (x58i : Int) (x58j : Int) (x58k : Int) (x58l : Int) (x58m : Int) (x58n : Int) (x58o : Int) (x58p : Int) : (eng Try.prog hs (n + 1)).loop (lp Try.f83 8) (S83_8 x58 x58a x58b x58c x58d x58e x58f x58g x58h x58i x58j x58k x58l x58m x58n x58o x58p) = L83_8 (eng Try.prog hs n) x58 x58a x58b x58c x58d x58e x58f x58g x58h x58i x58j x58k x58l x58m x58n x58o x58p := by kernel_rfl
noncomputable def L83_8a (e : Eng) (x58 : Int) (x58a : Int) (x58b : Int) (x58c : Int) (x58d : Int) (x58e : Int) (x58f : Int) (x58g : Int) (x58h : Int) (x58i : Int) (x58j : Int) (x58k : Int) (x58l : Int) (x58m : Int) (x58n : Int) (x58o : Int) (x58p : Int) : Option Res :=
  bif decide (x58a < 0) then some (Res.ret [A.one (C.bool false)] none)
else
  bif decide (x58a > 20000) then some (Res.ret [A.one (C.bool false)] none)
  else e.loop (lp Try.f83 8) (S83_8b x58 x58a x58b x58c x58d x58e x58f x58g x58h x58i x58j x58k x58l x58m x58n x58o x58p)
theorem L83_8a_eq (n : Nat) (x58 : Int) (x58a : Int) (x58b : Int) (x58c : Int) (x58d : Int) (x58e : Int) (x58f : Int) (x58g : Int) (x58h : Int) (x58i : Int) (x58j : Int) (x58k : Int) (x58l : Int) (x58m : Int) (x58n : Int) (x58o : Int) (x58p : Int) : (eng Try.prog hs (n + 1)).loop (lp Try.f83 8) (S83_8a x58 x58a x58b x58c x58d x58e x58f x58g x58h x58i x58j x58k x58l x58m x58n x58o x58p) = L83_8a (eng Try.prog hs n) x58 x58a x58b x58c x58d x58e x58f x58g x58h x58i x58j x58k x58l x58m x58n x58o x58p := by kernel_rfl
noncomputable def L83_8b (e : Eng) (x58 : Int) (x58a : Int) (x58b : Int) (x58c : Int) (x58d : Int) (x58e : Int) (x58f : Int) (x58g : Int) (x58h : Int) (x58i : Int) (x58j : Int) (x58k : Int) (x58l : Int) (x58m : Int) (x58n : Int) (x58o : Int) (x58p : Int) : Option Res :=
  bif decide (x58b < 0) then some (Res.ret [A.one (C.bool false)] none)
else
  bif decide (x58b > 20000) then some (Res.ret [A.one (C.bool false)] none)
  else e.loop (lp Try.f83 8) (S83_8c x58 x58a x58b x58c x58d x58e x58f x58g x58h x58i x58j x58k x58l x58m x58n x58o x58p)
theorem L83_8b_eq (n : Nat) (x58 : Int) (x58a : Int) (x58b : Int) (x58c : Int) (x58d : Int) (x58e : Int) (x58f : Int) (x58g : Int) (x58h : Int) (x58i : Int) (x58j : Int) (x58k : Int) (x58l : Int) (x58m : Int) (x58n : Int) (x58o : Int) (x58p : Int) : (eng Try.prog hs (n + 1)).loop (lp Try.f83 8) (S83_8b x58 x58a x58b x58c x58d x58e x58f x58g x58h x58i x58j x58k x58l x58m x58n x58o x58p) = L83_8b (eng Try.prog hs n) x58 x58a x58b x58c x58d x58e x58f x58g x58h x58i x58j x58k x58l x58m x58n x58o x58p := by kernel_rfl
noncomputable def L83_8c (e : Eng) (x58 : Int) (x58a : Int) (x58b : Int) (x58c : Int) (x58d : Int) (x58e : Int) (x58f : Int) (x58g : Int) (x58h : Int) (x58i : Int) (x58j : Int) (x58k : Int) (x58l : Int) (x58m : Int) (x58n : Int) (x58o : Int) (x58p : Int) : Option Res :=
  bif decide (x58c < 0) then some (Res.ret [A.one (C.bool false)] none)
else
  bif decide (x58c > 20000) then some (Res.ret [A.one (C.bool false)] none)
  else e.loop (lp Try.f83 8) (S83_8d x58 x58a x58b x58c x58d x58e x58f x58g x58h x58i x58j x58k x58l x58m x58n x58o x58p)
theorem L83_8c_eq (n : Nat) (x58 : Int) (x58a : Int) (x58b : Int) (x58c : Int) (x58d : Int) (x58e : Int) (x58f : Int) (x58g : Int) (x58h : Int) (x58i : Int) (x58j : Int) (x58k : Int) (x58l : Int) (x58m : Int) (x58n : Int) (x58o : Int) (x58p : Int) : (eng Try.prog hs (n + 1)).loop (lp Try.f83 8) (S83_8c x58 x58a x58b x58c x58d x58e x58f x58g x58h x58i x58j x58k x58l x58m x58n x58o x58p) = L83_8c (eng Try.prog hs n) x58 x58a x58b x58c x58d x58e x58f x58g x58h x58i x58j x58k x58l x58m x58n x58o x58p := by kernel_rfl
noncomputable def L83_8d (e : Eng) (x58 : Int) (x58a : Int) (x58b : Int) (x58c : Int) (x58d : Int) (x58e : Int) (x58f : Int) (x58g : Int) (x58h : Int) (x58i : Int) (x58j : Int) (x58k : Int) (x58l : Int) (x58m : Int) (x58n : Int) (x58o : Int) (x58p : Int) : Option Res :=
  bif decide (x58d < 0) then some (Res.ret [A.one (C.bool false)] none)
else
  bif decide (x58d > 20000) then some (Res.ret [A.one (C.bool false)] none)
  else e.loop (lp Try.f83 8) (S83_8e x58 x58a x58b x58c x58d x58e x58f x58g x58h x58i x58j x58k x58l x58m x58n x58o x58p)
theorem L83_8d_eq (n : Nat) (x58 : Int) (x58a : Int) (x58b : Int) (x58c : Int) (x58d : Int) (x58e : Int) (x58f : Int) (x58g : Int) (x58h : Int) (x58i : Int) (x58j : Int) (x58k : Int) (x58l : Int) (x58m : Int) (x58n : Int) (x58o : Int) (x58p : Int) : (eng Try.prog hs (n + 1)).loop (lp Try.f83 8) (S83_8d x58 x58a x58b x58c x58d x58e x58f x58g x58h x58i x58j x58k x58l x58m x58n x58o x58p) = L83_8d (eng Try.prog hs n) x58 x58a x58b x58c x58d x58e x58f x58g x58h x58i x58j x58k x58l x58m x58n x58o x58p := by kernel_rfl
noncomputable def L83_8e (e : Eng) (x58 : Int) (x58a : Int) (x58b : Int) (x58c : Int) (x58d : Int) (x58e : Int) (x58f : Int) (x58g : Int) (x58h : Int) (x58i : Int) (x58j : Int) (x58k : Int) (x58l : Int) (x58m : Int) (x58n : Int) (x58o : Int) (x58p : Int) : Option Res :=
  bif decide (x58e < 0) then some (Res.ret [A.one (C.bool false)] none)
else
  bif decide (x58e > 20000) then some (Res.ret [A.one (C.bool false)] none)
  else e.loop (lp Try.f83 8) (S83_8f x58 x58a x58b x58c x58d x58e x58f x58g x58h x58i x58j x58k x58l x58m x58n x58o x58p)
theorem L83_8e_eq (n : Nat) (x58 : Int) (x58a : Int) (x58b : Int) (x58c : Int) (x58d : Int) (x58e : Int) (x58f : Int) (x58g : Int) (x58h : Int) (x58i : Int) (x58j : Int) (x58k : Int) (x58l : Int) (x58m : Int) (x58n : Int) (x58o : Int) (x58p : Int) : (eng Try.prog hs (n + 1)).loop (lp Try.f83 8) (S83_8e x58 x58a x58b x58c x58d x58e x58f x58g x58h x58i x58j x58k x58l x58m x58n x58o x58p) = L83_8e (eng Try.prog hs n) x58 x58a x58b x58c x58d x58e x58f x58g x58h x58i x58j x58k x58l x58m x58n x58o x58p := by kernel_rfl
noncomputable def L83_8f (e : Eng) (x58 : Int) (x58a : Int) (x58b : Int) (x58c : Int) (x58d : Int) (x58e : Int) (x58f : Int) (x58g : Int) (x58h : Int) (x58i : Int) (x58j : Int) (x58k : Int) (x58l : Int) (x58m : Int) (x58n : Int) (x58o : Int) (x58p : Int) : Option Res :=
  bif decide (x58f < 0) then some (Res.ret [A.one (C.bool false)] none)
else
  bif decide (x58f > 20000) then some (Res.ret [A.one (C.bool false)] none)
  else e.loop (lp Try.f83 8) (S83_8g x58 x58a x58b x58c x58d x58e x58f x58g x58h x58i x58j x58k x58l x58m x58n x58o x58p)
theorem L83_8f_eq (n : Nat) (x58 : Int) (x58a : Int) (x58b : Int) (x58c : Int) (x58d : Int) (x58e : Int) (x58f : Int) (x58g : Int) (x58h : Int) (x58i : Int) (x58j : Int) (x58k : Int) (x58l : Int) (x58m : Int) (x58n : Int) (x58o : Int) (x58p : Int) : (eng Try.prog hs (n + 1)).loop (lp Try.f83 8) (S83_8f x58 x58a x58b x58c x58d x58e x58f x58g x58h x58i x58j x58k x58l x58m x58n x58o x58p) = L83_8f (eng Try.prog hs n) x58 x58a x58b x58c x58d x58e x58f x58g x58h x58i x58j x58k x58l x58m x58n x58o x58p := by kernel_rfl
noncomputable def L83_8g (e : Eng) (x58 : Int) (x58a : Int) (x58b : Int) (x58c : Int) (x58d : Int) (x58e : Int) (x58f : Int) (x58g : Int) (x58h : Int) (x58i : Int) (x58j : Int) (x58k : Int) (x58l : Int) (x58m : Int) (x58n : Int) (x58o : Int) (x58p : Int) : Option Res :=
  bif decide (x58g < 0) then some (Res.ret [A.one (C.bool false)] none)
else
  bif decide (x58g > 20000) then some (Res.ret [A.one (C.bool false)] none)
  else e.loop (lp Try.f83 8) (S83_8h x58 x58a x58b x58c x58d x58e x58f x58g x58h x58i x58j x58k x58l x58m x58n x58o x58p)
theorem L83_8g_eq (n : Nat) (x58 : Int) (x58a : Int) (x58b : Int) (x58c : Int) (x58d : Int) (x58e : Int) (x58f : Int) (x58g : Int) (x58h : Int) (x58i : Int) (x58j : Int) (x58k : Int) (x58l : Int) (x58m : Int) (x58n : Int) (x58o : Int) (x58p : Int) : (eng Try.prog hs (n + 1)).loop (lp Try.f83 8) (S83_8g x58 x58a x58b x58c x58d x58e x58f x58g x58h x58i x58j x58k x58l x58m x58n x58o x58p) = L83_8g (eng Try.prog hs n) x58 x58a x58b x58c x58d x58e x58f x58g x58h x58i x58j x58k x58l x58m x58n x58o x58p := by kernel_rfl
noncomputable def L83_8h (e : Eng) (x58 : Int) (x58a : Int) (x58b : Int) (x58c : Int) (x58d : Int) (x58e : Int) (x58f : Int) (x58g : Int) (x58h : Int) (x58i : Int) (x58j : Int) (x58k : Int) (x58l : Int) (x58m : Int) (x58n : Int) (x58o : Int) (x58p : Int) : Option Res :=
  bif decide (x58h < 0) then some (Res.ret [A.one (C.bool false)] none)
else
  bif decide (x58h > 20000) then some (Res.ret [A.one (C.bool false)] none)
  else e.loop (lp Try.f83 8) (S83_8i x58 x58a x58b x58c x58d x58e x58f x58g x58h x58i x58j x58k x58l x58m x58n x58o x58p)
theorem L83_8h_eq (n : Nat) (x58 : Int) (x58a : Int) (x58b : Int) (x58c : Int) (x58d : Int) (x58e : Int) (x58f : Int) (x58g : Int) (x58h : Int) (x58i : Int) (x58j : Int) (x58k : Int) (x58l : Int) (x58m : Int) (x58n : Int) (x58o : Int) (x58p : Int) : (eng Try.prog hs (n + 1)).loop (lp Try.f83 8) (S83_8h x58 x58a x58b x58c x58d x58e x58f x58g x58h x58i x58j x58k x58l x58m x58n x58o x58p) = L83_8h (eng Try.prog hs n) x58 x58a x58b x58c x58d x58e x58f x58g x58h x58i x58j x58k x58l x58m x58n x58o x58p := by kernel_rfl
noncomputable def L83_8i (e : Eng) (x58 : Int) (x58a : Int) (x58b : Int) (x58c : Int) (x58d : Int) (x58e : Int) (x58f : Int) (x58g : Int) (x58h : Int) (x58i : Int) (x58j : Int) (x58k : Int) (x58l : Int) (x58m : Int) (x58n : Int) (x58o : Int) (x58p : Int) : Option Res :=
  bif decide (x58i < 0) then some (Res.ret [A.one (C.bool false)] none)
else
  bif decide (x58i > 20000) then some (Res.ret [A.one (C.bool false)] none)
  else e.loop (lp Try.f83 8) (S83_8j x58 x58a x58b x58c x58d x58e x58f x58g x58h x58i x58j x58k x58l x58m x58n x58o x58p)
theorem L83_8i_eq (n : Nat) (x58 : Int) (x58a : Int) (x58b : Int) (x58c : Int) (x58d : Int) (x58e : Int) (x58f : Int) (x58g : Int) (x58h : Int) (x58i : Int) (x58j : Int) (x58k : Int) (x58l : Int) (x58m : Int) (x58n : Int) (x58o : Int) (x58p : Int) : (eng Try.prog hs (n + 1)).loop (lp Try.f83 8) (S83_8i x58 x58a x58b x58c x58d x58e x58f x58g x58h x58i x58j x58k x58l x58m x58n x58o x58p) = L83_8i (eng Try.prog hs n) x58 x58a x58b x58c x58d x58e x58f x58g x58h x58i x58j x58k x58l x58m x58n x58o x58p := by kernel_rfl
noncomputable def L83_8j (e : Eng) (x58 : Int) (x58a : Int) (x58b : Int) (x58c : Int) (x58d : Int) (x58e : Int) (x58f : Int) (x58g : Int) (x58h : Int) (x58i : Int) (x58j : Int) (x58k : Int) (x58l : Int) (x58m : Int) (x58n : Int) (x58o : Int) (x58p : Int) : Option Res :=
  bif decide (x58j < 0) then some (Res.ret [A.one (C.bool false)] none)
else
  bif decide (x58j > 20000) then some (Res.ret [A.one (C.bool false)] none)
  else e.loop (lp Try.f83 8) (S83_8k x58 x58a x58b x58c x58d x58e x58f x58g x58h x58i x58j x58k x58l x58m x58n x58o x58p)
theorem L83_8j_eq (n : Nat) (x58 : Int) (x58a : Int) (x58b : Int) (x58c : Int) (x58d : Int) (x58e : Int) (x58f : Int) (x58g : Int) (x58h : Int) (x58i : Int) (x58j : Int) (x58k : Int) (x58l : Int) (x58m : Int) (x58n : Int) (x58o : Int) (x58p : Int) : (eng Try.prog hs (n + 1)).loop (lp Try.f83 8) (S83_8j x58 x58a x58b x58c x58d x58e x58f x58g x58h x58i x58j x58k x58l x58m x58n x58o x58p) = L83_8j (eng Try.prog hs n) x58 x58a x58b x58c x58d x58e x58f x58g x58h x58i x58j x58k x58l x58m x58n x58o x58p := by kernel_rfl
noncomputable def L83_8k (e : Eng) (x58 : Int) (x58a : Int) (x58b : Int) (x58c : Int) (x58d : Int) (x58e : Int) (x58f : Int) (x58g : Int) (x58h : Int) (x58i : Int) (x58j : Int) (x58k : Int) (x58l : Int) (x58m : Int) (x58n : Int) (x58o : Int) (x58p : Int) : Option Res :=
  bif decide (x58k < 0) then some (Res.ret [A.one (C.bool false)] none)
else
  bif decide (x58k > 20000) then some (Res.ret [A.one (C.bool false)] none)
  else e.loop (lp Try.f83 8) (S83_8l x58 x58a x58b x58c x58d x58e x58f x58g x58h x58i x58j x58k x58l x58m x58n x58o x58p)
theorem L83_8k_eq (n : Nat) (x58 : Int) (x58a : Int) (x58b : Int) (x58c : Int) (x58d : Int) (x58e : Int) (x58f : Int) (x58g : Int) (x58h : Int) (x58i : Int) (x58j : Int) (x58k : Int) (x58l : Int) (x58m : Int) (x58n : Int) (x58o : Int) (x58p : Int) : (eng Try.prog hs (n + 1)).loop (lp Try.f83 8) (S83_8k x58 x58a x58b x58c x58d x58e x58f x58g x58h x58i x58j x58k x58l x58m x58n x58o x58p) = L83_8k (eng Try.prog hs n) x58 x58a x58b x58c x58d x58e x58f x58g x58h x58i x58j x58k x58l x58m x58n x58o x58p := by kernel_rfl
noncomputable def L83_8l (e : Eng) (x58 : Int) (x58a : Int) (x58b : Int) (x58c : Int) (x58d : Int) (x58e : Int) (x58f : Int) (x58g : Int) (x58h : Int) (x58i : Int) (x58j : Int) (x58k : Int) (x58l : Int) (x58m : Int) (x58n : Int) (x58o : Int) (x58p : Int) : Option Res :=
  bif decide (x58l < 0) then some (Res.ret [A.one (C.bool false)] none)
else
  bif decide (x58l > 20000) then some (Res.ret [A.one (C.bool false)] none)
  else e.loop (lp Try.f83 8) (S83_8m x58 x58a x58b x58c x58d x58e x58f x58g x58h x58i x58j x58k x58l x58m x58n x58o x58p)
theorem L83_8l_eq (n : Nat) (x58 : Int) (x58a : Int) (x58b : Int) (x58c : Int) (x58d : Int) (x58e : Int) (x58f : Int) (x58g : Int) (x58h : Int) (x58i : Int) (x58j : Int) (x58k : Int) (x58l : Int) (x58m : Int) (x58n : Int) (x58o : Int) (x58p : Int) : (eng Try.prog hs (n + 1)).loop (lp Try.f83 8) (S83_8l x58 x58a x58b x58c x58d x58e x58f x58g x58h x58i x58j x58k x58l x58m x58n x58o x58p) = L83_8l (eng Try.prog hs n) x58 x58a x58b x58c x58d x58e x58f x58g x58h x58i x58j x58k x58l x58m x58n x58o x58p := by kernel_rfl
noncomputable def L83_8m (e : Eng) (x58 : Int) (x58a : Int) (x58b : Int) (x58c : Int) (x58d : Int) (x58e : Int) (x58f : Int) (x58g : Int) (x58h : Int) (x58i : Int) (x58j : Int) (x58k : Int) (x58l : Int) (x58m : Int) (x58n : Int) (x58o : Int) (x58p : Int) : Option Res :=
  bif decide (x58m < 0) then some (Res.ret [A.one (C.bool false)] none)
else
  bif decide (x58m > 20000) then some (Res.ret [A.one (C.bool false)] none)
  else e.loop (lp Try.f83 8) (S83_8n x58 x58a x58b x58c x58d x58e x58f x58g x58h x58i x58j x58k x58l x58m x58n x58o x58p)
theorem L83_8m_eq (n : Nat) (x58 : Int) (x58a : Int) (x58b : Int) (x58c : Int) (x58d : Int) (x58e : Int) (x58f : Int) (x58g : Int) (x58h : Int) (x58i : Int) (x58j : Int) (x58k : Int) (x58l : Int) (x58m : Int) (x58n : Int) (x58o : Int) (x58p : Int) : (eng Try.prog hs (n + 1)).loop (lp Try.f83 8) (S83_8m x58 x58a x58b x58c x58d x58e x58f x58g x58h x58i x58j x58k x58l x58m x58n x58o x58p) = L83_8m (eng Try.prog hs n) x58 x58a x58b x58c x58d x58e x58f x58g x58h x58i x58j x58k x58l x58m x58n x58o x58p := by kernel_rfl
noncomputable def L83_8n (e : Eng) (x58 : Int) (x58a : Int) (x58b : Int) (x58c : Int) (x58d : Int) (x58e : Int) (x58f : Int) (x58g : Int) (x58h : Int) (x58i : Int) (x58j : Int) (x58k : Int) (x58l : Int) (x58m : Int) (x58n : Int) (x58o : Int) (x58p : Int) : Option Res :=
  bif decide (x58n < 0) then some (Res.ret [A.one (C.bool false)] none)
else
  bif decide (x58n > 20000) then some (Res.ret [A.one (C.bool false)] none)
  else e.loop (lp Try.f83 8) (S83_8o x58 x58a x58b x58c x58d x58e x58f x58g x58h x58i x58j x58k x58l x58m x58n x58o x58p)
theorem L83_8n_eq (n : Nat) (x58 : Int) (x58a : Int) (x58b : Int) (x58c : Int) (x58d : Int) (x58e : Int) (x58f : Int) (x58g : Int) (x58h : Int) (x58i : Int) (x58j : Int) (x58k : Int) (x58l : Int) (x58m : Int) (x58n : Int) (x58o : Int) (x58p : Int) : (eng Try.prog hs (n + 1)).loop (lp Try.f83 8) (S83_8n x58 x58a x58b x58c x58d x58e x58f x58g x58h x58i x58j x58k x58l x58m x58n x58o x58p) = L83_8n (eng Try.prog hs n) x58 x58a x58b x58c x58d x58e x58f x58g x58h x58i x58j x58k x58l x58m x58n x58o x58p := by kernel_rfl
noncomputable def L83_8o (e : Eng) (x58 : Int) (x58a : Int) (x58b : Int) (x58c : Int) (x58d : Int) (x58e : Int) (x58f : Int) (x58g : Int) (x58h : Int) (x58i : Int) (x58j : Int) (x58k : Int) (x58l : Int) (x58m : Int) (x58n : Int) (x58o : Int) (x58p : Int) : Option Res :=
  bif decide (x58o < 0) then some (Res.ret [A.one (C.bool false)] none)
else
  bif decide (x58o > 20000) then some (Res.ret [A.one (C.bool false)] none)
  else e.loop (lp Try.f83 8) (S83_8p x58 x58a x58b x58c x58d x58e x58f x58g x58h x58i x58j x58k x58l x58m x58n x58o x58p)
theorem L83_8o_eq (n : Nat) (x58 : Int) (x58a : Int) (x58b : Int) (x58c : Int) (x58d : Int) (x58e : Int) (x58f : Int) (x58g : Int) (x58h : Int) (x58i : Int) (x58j : Int) (x58k : Int) (x58l : Int) (x58m : Int) (x58n : Int) (x58o : Int) (x58p : Int) : (eng Try.prog hs (n + 1)).loop (lp Try.f83 8) (S83_8o x58 x58a x58b x58c x58d x58e x58f x58g x58h x58i x58j x58k x58l x58m x58n x58o x58p) = L83_8o (eng Try.prog hs n) x58 x58a x58b x58c x58d x58e x58f x58g x58h x58i x58j x58k x58l x58m x58n x58o x58p := by kernel_rfl
noncomputable def L83_8p (e : Eng) (x58 : Int) (x58a : Int) (x58b : Int) (x58c : Int) (x58d : Int) (x58e : Int) (x58f : Int) (x58g : Int) (x58h : Int) (x58i : Int) (x58j : Int) (x58k : Int) (x58l : Int) (x58m : Int) (x58n : Int) (x58o : Int) (x58p : Int) : Option Res :=
  bif decide (x58p < 0) then some (Res.ret [A.one (C.bool false)] none)
else
  bif decide (x58p > 20000) then some (Res.ret [A.one (C.bool false)] none)
  else e.loop (lp Try.f83 8) (S83_8q x58 x58a x58b x58c x58d x58e x58f x58g x58h x58i x58j x58k x58l x58m x58n x58o x58p)
theorem L83_8p_eq (n : Nat) (x58 : Int) (x58a : Int) (x58b : Int) (x58c : Int) (x58d : Int) (x58e : Int) (x58f : Int) (x58g : Int) (x58h : Int) (x58i : Int) (x58j : Int) (x58k : Int) (x58l : Int) (x58m : Int) (x58n : Int) (x58o : Int) (x58p : Int) : (eng Try.prog hs (n + 1)).loop (lp Try.f83 8) (S83_8p x58 x58a x58b x58c x58d x58e x58f x58g x58h x58i x58j x58k x58l x58m x58n x58o x58p) = L83_8p (eng Try.prog hs n) x58 x58a x58b x58c x58d x58e x58f x58g x58h x58i x58j x58k x58l x58m x58n x58o x58p := by kernel_rfl
noncomputable def L83_8q (e : Eng) (x58 : Int) (x58a : Int) (x58b : Int) (x58c : Int) (x58d : Int) (x58e : Int) (x58f : Int) (x58g : Int) (x58h : Int) (x58i : Int) (x58j : Int) (x58k : Int) (x58l : Int) (x58m : Int) (x58n : Int) (x58o : Int) (x58p : Int) : Option Res :=
  some (Res.ret [A.one (C.bool true)] none)
theorem L83_8q_eq (n : Nat) (x58 : Int) (x58a : Int) (x58b : Int) (x58c : Int) (x58d : Int) (x58e : Int) (x58f : Int) (x58g : Int) (x58h : Int) (x58i : Int) (x58j : Int) (x58k : Int) (x58l : Int) (x58m : Int) (x58n : Int) (x58o : Int) (x58p : Int) : (eng Try.prog hs (n + 1)).loop (lp Try.f83 8) (S83_8q x58 x58a x58b x58c x58d x58e x58f x58g x58h x58i x58j x58k x58l x58m x58n x58o x58p) = L83_8q (eng Try.prog hs n) x58 x58a x58b x58c x58d x58e x58f x58g x58h x58i x58j x58k x58l x58m x58n x58o x58p := by kernel_rfl
noncomputable def R52 (e : Eng) (n0 : Int) (n1 : Int) : Option Res :=
  (callD e 61 [A.one (C.int Go.IntKind.i64 n0)] [Sh.bool]).bind fun (x : Bool) =>
  bif !x then some (Res.ret [A.one (C.int Go.IntKind.i64 0)] none)
  else
    bif decide (n1 < 0) then some (Res.ret [A.one (C.int Go.IntKind.i64 0)] none)
    else
      bif decide (n1 > 10000) then some (Res.ret [A.one (C.int Go.IntKind.i64 0)] none)
      else
        (callD e 62 [A.one (C.int Go.IntKind.i64 (Go.IntKind.i64.wrap (n0 * n1))), A.one (C.int Go.IntKind.i64 100)] [Sh.int Go.IntKind.i64]).bind fun (x : Int) =>
          some (Res.ret [A.one (C.int Go.IntKind.i64 x)] none)
theorem R52_eq (n : Nat) (n0 : Int) (n1 : Int) : (eng Try.prog hs (n + 1)).call 52 [A.one (C.int Go.IntKind.i64 n0), A.one (C.int Go.IntKind.i64 n1)] none = R52 (eng Try.prog hs n) n0 n1 := by kernel_rfl
noncomputable def R72 (e : Eng) (l0 : List (List C)) (f1 : Nat) (c1 : List C) : Option Res :=
  (callD e 91 [A.one (C.sl l0), A.one (C.fn f1 c1)] [Sh.int Go.IntKind.i64]).bind fun (x : Int) => some (Res.ret [A.one (C.bool (decide (x ≥ 0)))] none)
theorem R72_eq (n : Nat) (l0 : List (List C)) (f1 : Nat) (c1 : List C) : (eng Try.prog hs (n + 1)).call 72 [A.one (C.sl l0), A.one (C.fn f1 c1)] none = R72 (eng Try.prog hs n) l0 f1 c1 := by kernel_rfl
noncomputable def R95 (e : Eng) (n0 : Int) : Option Res :=
  bif decide (n0 < 32) then some (Res.ret [A.one (C.bool true)] none) else some (Res.ret [A.one (C.bool (decide (n0 > 126)))] none)
theorem R95_eq (n : Nat) (n0 : Int) : (eng Try.prog hs (n + 1)).call 95 [A.one (C.int Go.IntKind.u8 n0)] none = R95 (eng Try.prog hs n) n0 := by kernel_rfl
noncomputable def R96 (e : Eng) (n0 : Int) : Option Res :=
  bif decide (n0 ≥ -20000) then some (Res.ret [A.one (C.bool (decide (n0 ≤ 20000)))] none) else some (Res.ret [A.one (C.bool false)] none)
theorem R96_eq (n : Nat) (n0 : Int) : (eng Try.prog hs (n + 1)).call 96 [A.one (C.int Go.IntKind.i64 n0)] none = R96 (eng Try.prog hs n) n0 := by kernel_rfl
noncomputable def R61 (e : Eng) (n0 : Int) : Option Res :=
  bif decide (n0 ≥ -1073741824) then some (Res.ret [A.one (C.bool (decide (n0 ≤ 1073741824)))] none) else some (Res.ret [A.one (C.bool false)] none)
theorem R61_eq (n : Nat) (n0 : Int) : (eng Try.prog hs (n + 1)).call 61 [A.one (C.int Go.IntKind.i64 n0)] none = R61 (eng Try.prog hs n) n0 := by kernel_rfl
noncomputable def R62 (e : Eng) (n0 : Int) (n1 : Int) : Option Res :=
  bif decide (n1 < 0) then
  bif Go.IntKind.i64.wrap (0 - n1) == 0 then none
  else
    bif Go.IntKind.i64.wrap (0 - n1) == 0 then none
    else
      bif decide (Go.IntKind.i64.wrap (2 * (Go.IntKind.i64.wrap (0 - n0)).tmod (Go.IntKind.i64.wrap (0 - n1))) ≥ Go.IntKind.i64.wrap (0 - n1)) then
        some (Res.ret [A.one (C.int Go.IntKind.i64 (Go.IntKind.i64.wrap (Go.IntKind.i64.wrap ((Go.IntKind.i64.wrap (0 - n0)).tdiv (Go.IntKind.i64.wrap (0 - n1))) + 1)))] none)
      else
        bif decide (Go.IntKind.i64.wrap (-2 * (Go.IntKind.i64.wrap (0 - n0)).tmod (Go.IntKind.i64.wrap (0 - n1))) ≥ Go.IntKind.i64.wrap (0 - n1)) then
          some (Res.ret [A.one (C.int Go.IntKind.i64 (Go.IntKind.i64.wrap (Go.IntKind.i64.wrap ((Go.IntKind.i64.wrap (0 - n0)).tdiv (Go.IntKind.i64.wrap (0 - n1))) - 1)))] none)
        else some (Res.ret [A.one (C.int Go.IntKind.i64 (Go.IntKind.i64.wrap ((Go.IntKind.i64.wrap (0 - n0)).tdiv (Go.IntKind.i64.wrap (0 - n1)))))] none)
else
  bif n1 == 0 then none
  else
    bif n1 == 0 then none
    else
      bif decide (Go.IntKind.i64.wrap (2 * n0.tmod n1) ≥ n1) then some (Res.ret [A.one (C.int Go.IntKind.i64 (Go.IntKind.i64.wrap (Go.IntKind.i64.wrap (n0.tdiv n1) + 1)))] none)
      else
        bif decide (Go.IntKind.i64.wrap (-2 * n0.tmod n1) ≥ n1) then some (Res.ret [A.one (C.int Go.IntKind.i64 (Go.IntKind.i64.wrap (Go.IntKind.i64.wrap (n0.tdiv n1) - 1)))] none)
        else some (Res.ret [A.one (C.int Go.IntKind.i64 (Go.IntKind.i64.wrap (n0.tdiv n1)))] none)
theorem R62_eq (n : Nat) (n0 : Int) (n1 : Int) : (eng Try.prog hs (n + 1)).call 62 [A.one (C.int Go.IntKind.i64 n0), A.one (C.int Go.IntKind.i64 n1)] none = R62 (eng Try.prog hs n) n0 n1 := by kernel_rfl
noncomputable def S91_2 (f1 : Nat) (x0 : List (List C)) (x1 : List C) (x7 : Int) (x8 : Int) : St :=
  St.mk 91 19 [(0, V.c (C.sl x0)), (1, V.c (C.fn f1 x1)), (7, V.c (C.int Go.IntKind.i64 x7)), (8, V.c (C.int Go.IntKind.i64 x8))] [] none 0 []
noncomputable def R91 (e : Eng) (l0 : List (List C)) (f1 : Nat) (c1 : List C) : Option Res :=
  e.loop (lp Try.f91 2) (S91_2 f1 l0 c1 (↑l0.length : Int) 0)
theorem R91_eq (n : Nat) (l0 : List (List C)) (f1 : Nat) (c1 : List C) : (eng Try.prog hs (n + 1)).call 91 [A.one (C.sl l0), A.one (C.fn f1 c1)] none = R91 (eng Try.prog hs n) l0 f1 c1 := by kernel_rfl
noncomputable def L91_2 (e : Eng) (f1 : Nat) (x0 : List (List C)) (x1 : List C) (x7 : Int) (x8 : Int) : Option Res :=
  bif decide (x8 < x7) then
  bif true && decide (0 ≤ x8) then
    x0[x8.toNat]?.bind fun (cs : List C) =>
      bif cs.length.beq 1 then
        (asI Go.IntKind.u8 cs[0]?).bind fun (n : Int) =>
          (callD e f1 (A.one (C.int Go.IntKind.u8 n) :: [].append (List.map A.one x1)) [Sh.bool]).bind fun (x : Bool) =>
            bif x then some (Res.ret [A.one (C.int Go.IntKind.i64 x8)] none) else e.loop (lp Try.f91 2) (S91_2 f1 x0 x1 x7 (Go.IntKind.i64.wrap (x8 + 1)))
      else none
  else none
else some (Res.ret [A.one (C.int Go.IntKind.i64 (-1))] none)
theorem L91_2_eq (n : Nat) (f1 : Nat) (x0 : List (List C)) (x1 : List C) (x7 : Int) (x8 : Int) : (eng Try.prog hs (n + 1)).loop (lp Try.f91 2) (S91_2 f1 x0 x1 x7 x8) = L91_2 (eng Try.prog hs n) f1 x0 x1 x7 x8 := by kernel_rfl
end Go.Proofs.Ytbhojnofdeihdaa.E
