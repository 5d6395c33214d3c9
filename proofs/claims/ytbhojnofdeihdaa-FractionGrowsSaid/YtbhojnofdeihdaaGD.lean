/- What is shown here: what functions of the program come to, read off by the evaluator (printed by a program of this session's, checked by the kernel). -/
import Derived.Test.YtbhojnofdeihdaaEH0
import Derived.WalkKit
import Derived.ProofKit
namespace Go.Proofs.Ytbhojnofdeihdaa.E
open Go.Proofs
set_option autoImplicit false
set_option linter.unusedVariables false
set_option maxRecDepth 100000
noncomputable def Y22_0 (x : Nat × List C) (x0 : List C) (x5 : List C) (h1 : List C) (h2 : Bool) (h3 : Int) : Rnd :=
  Rnd.mk 22 19 [(0, V.pagg 11 x0), (1, V.ptr 1 0), (2, V.ptr 2 0), (3, V.ptr 3 0), (5, V.c (C.fn x.fst x5))]
  [(1, Slot.live (Blk.pc 11 h1) true), (2, Slot.live (Blk.vs [V.c (C.bool h2)]) false), (3, Slot.live (Blk.vs [V.c (C.int Go.IntKind.i64 h3)]) false)] [6, 7] (rfA Try.f22 0)
  (rfB Try.f22 0) none
noncomputable def R22 (m : Nat) (e : Eng) (g0 : List C) : Option Res :=
  (callD e 49 [A.one (C.rp g0 0), A.one (C.int Go.IntKind.i64 0), A.one (C.int Go.IntKind.i64 0)] [Sh.fn]).bind fun (x : Nat × List C) =>
  rfGo Try.prog hs e m (rfK Try.f22 0) (St.mk 22 19 [] [] none 0 []) (e.call x.1 (A.yld :: List.map A.one x.2) (some (Y22_0 x g0 x.2 g0 false 0)))
theorem R22_run (n : Nat) (g0 : List C) : (eng Try.prog hs (n + 1)).call 22 [A.agg 11 g0] (none) = runIn Try.prog hs (eng Try.prog hs n) steps [Go.Item.code (Try.f22.body.getD Go.Code.skip)] (enter 22 19 [A.agg 11 g0] (none)) := by kernel_rfl
theorem R22_go (m : Nat) (e : Eng) (g0 : List C) : runIn Try.prog hs e (m + 9) [Go.Item.code (Try.f22.body.getD Go.Code.skip)] (enter 22 19 [A.agg 11 g0] (none)) = R22 m e g0 := by kernel_rfl
theorem R22_eq (n : Nat) (g0 : List C) : (eng Try.prog hs (n + 1)).call 22 [A.agg 11 g0] (none) = R22 99991 (eng Try.prog hs n) g0 := (R22_run n g0).trans (R22_go 99991 _ g0)
noncomputable def Z22_0 (e : Eng) (x : Nat × List C) (x0 : List C) (x5 : List C) (h1 : List C) (h2 : Bool) (h3 : Int) : Option Res :=
  (callD e 51 [A.one (C.rp h1 0), A.one (C.int Go.IntKind.i64 100)] [Sh.int Go.IntKind.i64]).bind fun (x : Int) => some (Res.ret [A.one (C.bool (decide (x ≤ 100)))] none)
theorem Z22_0_eq (e : Eng) (rs : List A) (x : Nat × List C) (x0 : List C) (x5 : List C) (h1 : List C) (h2 : Bool) (h3 : Int) : rfGo Try.prog hs e 99991 (rfK Try.f22 0) (St.mk 22 19 [] [] none 0 []) (some (Res.ret rs (some (Y22_0 x x0 x5 h1 h2 h3)))) = Z22_0 e x x0 x5 h1 h2 h3 := by kernel_rfl
noncomputable def W22_0 (e : Eng) (x : Nat × List C) (x0 : List C) (x5 : List C) (h1 : List C) (h2 : Bool) (h3 : Int) : Option Res :=
  some (Res.ret [A.one (C.bool h2)] none)
theorem W22_0_eq (e : Eng) (rs : List A) (x : Nat × List C) (x0 : List C) (x5 : List C) (h1 : List C) (h2 : Bool) (h3 : Int) : rfGo Try.prog hs e 99991 (rfK Try.f22 0) (St.mk 22 19 [] [] none 0 []) (some (Res.ret rs (some { Y22_0 x x0 x5 h1 h2 h3 with pend := some Go.Code.ret }))) = W22_0 e x x0 x5 h1 h2 h3 := by kernel_rfl
noncomputable def V22_0 (e : Eng) (x : Nat × List C) (x0 : List C) (x5 : List C) (h1 : List C) (h2 : Bool) (h3 : Int) (yp0 : List C) (yg1 : List C) : Option Res :=
  bif decide (Go.IntKind.i64.wrap (h3 + 1) > 20000) then
  some
    (Res.rnd (some Go.Code.ret)
      [(1, Slot.live (Blk.pc 11 h1) true), (2, Slot.live (Blk.vs [V.c (C.bool false)]) false),
        (3, Slot.live (Blk.vs [V.c (C.int Go.IntKind.i64 (Go.IntKind.i64.wrap (h3 + 1)))]) false)])
else
  (callD e 50 [A.one (C.rp yp0 0)] [Sh.bool]).bind fun (x : Bool) =>
    bif !x then
      some
        (Res.rnd (some Go.Code.ret)
          [(1, Slot.live (Blk.pc 11 h1) true), (2, Slot.live (Blk.vs [V.c (C.bool false)]) false),
            (3, Slot.live (Blk.vs [V.c (C.int Go.IntKind.i64 (Go.IntKind.i64.wrap (h3 + 1)))]) false)])
    else
      some
        (Res.rnd none
          [(1, Slot.live (Blk.pc 11 h1) true), (2, Slot.live (Blk.vs [V.c (C.bool h2)]) false),
            (3, Slot.live (Blk.vs [V.c (C.int Go.IntKind.i64 (Go.IntKind.i64.wrap (h3 + 1)))]) false)])
theorem V22_0_eq (n : Nat) (x : Nat × List C) (x0 : List C) (x5 : List C) (h1 : List C) (h2 : Bool) (h3 : Int) (yp0 : List C) (yg1 : List C) : (eng Try.prog hs (n + 1)).yield (Y22_0 x x0 x5 h1 h2 h3) [A.one (C.rp yp0 0), A.agg 2 yg1] = yDone (Y22_0 x x0 x5 h1 h2 h3) (V22_0 (eng Try.prog hs n) x x0 x5 h1 h2 h3 yp0 yg1) := by kernel_rfl
noncomputable def R49 (e : Eng) (p0 : List C) (n1 : Int) (n2 : Int) : Option Res :=
  some (Res.ret [A.one (C.fn 70 [C.rp [C.rp p0 0] 0, C.rp [C.int Go.IntKind.i64 n1] 0, C.rp [C.int Go.IntKind.i64 n2] 0])] none)
theorem R49_eq (n : Nat) (p0 : List C) (n1 : Int) (n2 : Int) : (eng Try.prog hs (n + 1)).call 49 [A.one (C.rp p0 0), A.one (C.int Go.IntKind.i64 n1), A.one (C.int Go.IntKind.i64 n2)] (none) = R49 (eng Try.prog hs n) p0 n1 n2 := by kernel_rfl
noncomputable def R70 (e : Eng) (p1 : List C) (p2 : List C) (p3 : List C) (r : Rnd) : Option Res :=
  (asP p1[0]?).bind fun (p : List C × Nat) =>
  (asI Go.IntKind.i64 p2[0]?).bind fun (n : Int) =>
    (asI Go.IntKind.i64 p3[0]?).bind fun (n_1 : Int) =>
      (callS e 71 [A.one (C.rp p.1 p.snd), A.one (C.int Go.IntKind.i64 n), A.one (C.int Go.IntKind.i64 n_1), A.yld] r [Sh.bool]).bind fun (x : Bool × Rnd) =>
        some (Res.ret [] (some x.2))
theorem R70_eq (n : Nat) (p1 : List C) (p2 : List C) (p3 : List C) (r : Rnd) : (eng Try.prog hs (n + 1)).call 70 [A.yld, A.one (C.rp p1 0), A.one (C.rp p2 0), A.one (C.rp p3 0)] (some r) = R70 (eng Try.prog hs n) p1 p2 p3 r := by kernel_rfl
noncomputable def S71_4 (x : Bool × Rnd) (x0 : List C) (x1 : Int) (x2 : Int) (x22 : Int) (x23 : Int) : St :=
  St.mk 71 49
  [(0, V.c (C.rp x0 0)), (1, V.c (C.int Go.IntKind.i64 x1)), (2, V.c (C.int Go.IntKind.i64 x2)), (3, V.yld), (22, V.c (C.int Go.IntKind.i64 x22)),
    (23, V.c (C.int Go.IntKind.i64 x23))]
  [] (some x.2) 0 []
noncomputable def R71 (e : Eng) (p0 : List C) (n1 : Int) (n2 : Int) (r : Rnd) : Option Res :=
  (e.yield r [A.one (C.rp p0 0), A.agg 2 [C.int Go.IntKind.i64 n1, C.int Go.IntKind.i64 n2]]).bind fun (x : Bool × Rnd) =>
  bif !x.fst then some (Res.ret [A.one (C.bool false)] (some x.2)) else (asL p0[8]?).bind fun (l : List (List C)) => e.loop (lp Try.f71 4) (S71_4 x p0 n1 n2 (↑l.length : Int) 0)
theorem R71_eq (n : Nat) (p0 : List C) (n1 : Int) (n2 : Int) (r : Rnd) : (eng Try.prog hs (n + 1)).call 71 [A.one (C.rp p0 0), A.one (C.int Go.IntKind.i64 n1), A.one (C.int Go.IntKind.i64 n2), A.yld] (some r) = R71 (eng Try.prog hs n) p0 n1 n2 r := by kernel_rfl
noncomputable def L71_4 (e : Eng) (x : Bool × Rnd) (x0 : List C) (x1 : Int) (x2 : Int) (x22 : Int) (x23 : Int) : Option Res :=
  bif decide (x23 < x22) then
  (asL x0[8]?).bind fun (l : List (List C)) =>
    bif true && decide (0 ≤ x23) then
      l[x23.toNat]?.bind fun (cs : List C) =>
        bif cs.length.beq 11 then
          (asI Go.IntKind.i64 cs[6]?).bind fun (n : Int) =>
            (asI Go.IntKind.i64 cs[7]?).bind fun (n_1 : Int) =>
              (callS e 71 [A.one (C.rp cs 0), A.one (C.int Go.IntKind.i64 (Go.IntKind.i64.wrap (x1 + n))), A.one (C.int Go.IntKind.i64 (Go.IntKind.i64.wrap (x2 + n_1))), A.yld] x.2
                    [Sh.bool]).bind
                fun (x : Bool × Rnd) =>
                bif !x.fst then some (Res.ret [A.one (C.bool false)] (some x.2)) else e.loop (lp Try.f71 4) (S71_4 x x0 x1 x2 x22 (Go.IntKind.i64.wrap (x23 + 1)))
        else none
    else none
else some (Res.ret [A.one (C.bool true)] (some x.2))
theorem L71_4_eq (n : Nat) (x : Bool × Rnd) (x0 : List C) (x1 : Int) (x2 : Int) (x22 : Int) (x23 : Int) : (eng Try.prog hs (n + 1)).loop (lp Try.f71 4) (S71_4 x x0 x1 x2 x22 x23) = L71_4 (eng Try.prog hs n) x x0 x1 x2 x22 x23 := by kernel_rfl
noncomputable def S50_2 (x0 : List C) (x25 : Int) (x25a : Int) (x25b : Int) (x25c : Int) (x25d : Int) : St :=
  St.mk 50 118
  [(0, V.c (C.rp x0 0)),
    (25,
      V.agg [V.c (C.int Go.IntKind.i64 x25), V.c (C.int Go.IntKind.i64 x25a), V.c (C.int Go.IntKind.i64 x25b), V.c (C.int Go.IntKind.i64 x25c), V.c (C.int Go.IntKind.i64 x25d)]),
    (26, V.c (C.int Go.IntKind.i64 0))]
  [] none 0 []
noncomputable def S50_2a (x0 : List C) (x25 : Int) (x25a : Int) (x25b : Int) (x25c : Int) (x25d : Int) : St :=
  St.mk 50 118
  [(0, V.c (C.rp x0 0)),
    (25,
      V.agg [V.c (C.int Go.IntKind.i64 x25), V.c (C.int Go.IntKind.i64 x25a), V.c (C.int Go.IntKind.i64 x25b), V.c (C.int Go.IntKind.i64 x25c), V.c (C.int Go.IntKind.i64 x25d)]),
    (26, V.c (C.int Go.IntKind.i64 1))]
  [] none 0 []
noncomputable def S50_2b (x0 : List C) (x25 : Int) (x25a : Int) (x25b : Int) (x25c : Int) (x25d : Int) : St :=
  St.mk 50 118
  [(0, V.c (C.rp x0 0)),
    (25,
      V.agg [V.c (C.int Go.IntKind.i64 x25), V.c (C.int Go.IntKind.i64 x25a), V.c (C.int Go.IntKind.i64 x25b), V.c (C.int Go.IntKind.i64 x25c), V.c (C.int Go.IntKind.i64 x25d)]),
    (26, V.c (C.int Go.IntKind.i64 2))]
  [] none 0 []
noncomputable def S50_2c (x0 : List C) (x25 : Int) (x25a : Int) (x25b : Int) (x25c : Int) (x25d : Int) : St :=
  St.mk 50 118
  [(0, V.c (C.rp x0 0)),
    (25,
      V.agg [V.c (C.int Go.IntKind.i64 x25), V.c (C.int Go.IntKind.i64 x25a), V.c (C.int Go.IntKind.i64 x25b), V.c (C.int Go.IntKind.i64 x25c), V.c (C.int Go.IntKind.i64 x25d)]),
    (26, V.c (C.int Go.IntKind.i64 3))]
  [] none 0 []
noncomputable def S50_2d (x0 : List C) (x25 : Int) (x25a : Int) (x25b : Int) (x25c : Int) (x25d : Int) : St :=
  St.mk 50 118
  [(0, V.c (C.rp x0 0)),
    (25,
      V.agg [V.c (C.int Go.IntKind.i64 x25), V.c (C.int Go.IntKind.i64 x25a), V.c (C.int Go.IntKind.i64 x25b), V.c (C.int Go.IntKind.i64 x25c), V.c (C.int Go.IntKind.i64 x25d)]),
    (26, V.c (C.int Go.IntKind.i64 4))]
  [] none 0 []
noncomputable def S50_2e (x0 : List C) (x25 : Int) (x25a : Int) (x25b : Int) (x25c : Int) (x25d : Int) : St :=
  St.mk 50 118
  [(0, V.c (C.rp x0 0)),
    (25,
      V.agg [V.c (C.int Go.IntKind.i64 x25), V.c (C.int Go.IntKind.i64 x25a), V.c (C.int Go.IntKind.i64 x25b), V.c (C.int Go.IntKind.i64 x25c), V.c (C.int Go.IntKind.i64 x25d)]),
    (26, V.c (C.int Go.IntKind.i64 5))]
  [] none 0 []
noncomputable def R50 (e : Eng) (p0 : List C) : Option Res :=
  (asI Go.IntKind.i64 p0[3]?).bind fun (n : Int) =>
  (asI Go.IntKind.i64 p0[4]?).bind fun (n_1 : Int) =>
    (asI Go.IntKind.i64 p0[5]?).bind fun (n_2 : Int) =>
      (asI Go.IntKind.i64 p0[6]?).bind fun (n_3 : Int) => (asI Go.IntKind.i64 p0[7]?).bind fun (n_4 : Int) => e.loop (lp Try.f50 2) (S50_2 p0 n n_1 n_2 n_3 n_4)
theorem R50_eq (n : Nat) (p0 : List C) : (eng Try.prog hs (n + 1)).call 50 [A.one (C.rp p0 0)] (none) = R50 (eng Try.prog hs n) p0 := by kernel_rfl
noncomputable def L50_2 (e : Eng) (x0 : List C) (x25 : Int) (x25a : Int) (x25b : Int) (x25c : Int) (x25d : Int) : Option Res :=
  bif decide (x25 < -1073741824) then some (Res.ret [A.one (C.bool false)] none)
else bif decide (x25 > 1073741824) then some (Res.ret [A.one (C.bool false)] none) else e.loop (lp Try.f50 2) (S50_2a x0 x25 x25a x25b x25c x25d)
theorem L50_2_eq (n : Nat) (x0 : List C) (x25 : Int) (x25a : Int) (x25b : Int) (x25c : Int) (x25d : Int) : (eng Try.prog hs (n + 1)).loop (lp Try.f50 2) (S50_2 x0 x25 x25a x25b x25c x25d) = L50_2 (eng Try.prog hs n) x0 x25 x25a x25b x25c x25d := by kernel_rfl
noncomputable def L50_2a (e : Eng) (x0 : List C) (x25 : Int) (x25a : Int) (x25b : Int) (x25c : Int) (x25d : Int) : Option Res :=
  bif decide (x25a < -1073741824) then some (Res.ret [A.one (C.bool false)] none)
else bif decide (x25a > 1073741824) then some (Res.ret [A.one (C.bool false)] none) else e.loop (lp Try.f50 2) (S50_2b x0 x25 x25a x25b x25c x25d)
theorem L50_2a_eq (n : Nat) (x0 : List C) (x25 : Int) (x25a : Int) (x25b : Int) (x25c : Int) (x25d : Int) : (eng Try.prog hs (n + 1)).loop (lp Try.f50 2) (S50_2a x0 x25 x25a x25b x25c x25d) = L50_2a (eng Try.prog hs n) x0 x25 x25a x25b x25c x25d := by kernel_rfl
noncomputable def L50_2b (e : Eng) (x0 : List C) (x25 : Int) (x25a : Int) (x25b : Int) (x25c : Int) (x25d : Int) : Option Res :=
  bif decide (x25b < -1073741824) then some (Res.ret [A.one (C.bool false)] none)
else bif decide (x25b > 1073741824) then some (Res.ret [A.one (C.bool false)] none) else e.loop (lp Try.f50 2) (S50_2c x0 x25 x25a x25b x25c x25d)
theorem L50_2b_eq (n : Nat) (x0 : List C) (x25 : Int) (x25a : Int) (x25b : Int) (x25c : Int) (x25d : Int) : (eng Try.prog hs (n + 1)).loop (lp Try.f50 2) (S50_2b x0 x25 x25a x25b x25c x25d) = L50_2b (eng Try.prog hs n) x0 x25 x25a x25b x25c x25d := by kernel_rfl
noncomputable def L50_2c (e : Eng) (x0 : List C) (x25 : Int) (x25a : Int) (x25b : Int) (x25c : Int) (x25d : Int) : Option Res :=
  bif decide (x25c < -1073741824) then some (Res.ret [A.one (C.bool false)] none)
else bif decide (x25c > 1073741824) then some (Res.ret [A.one (C.bool false)] none) else e.loop (lp Try.f50 2) (S50_2d x0 x25 x25a x25b x25c x25d)
theorem L50_2c_eq (n : Nat) (x0 : List C) (x25 : Int) (x25a : Int) (x25b : Int) (x25c : Int) (x25d : Int) : (eng Try.prog hs (n + 1)).loop (lp Try.f50 2) (S50_2c x0 x25 x25a x25b x25c x25d) = L50_2c (eng Try.prog hs n) x0 x25 x25a x25b x25c x25d := by kernel_rfl
noncomputable def L50_2d (e : Eng) (x0 : List C) (x25 : Int) (x25a : Int) (x25b : Int) (x25c : Int) (x25d : Int) : Option Res :=
  bif decide (x25d < -1073741824) then some (Res.ret [A.one (C.bool false)] none)
else bif decide (x25d > 1073741824) then some (Res.ret [A.one (C.bool false)] none) else e.loop (lp Try.f50 2) (S50_2e x0 x25 x25a x25b x25c x25d)
theorem L50_2d_eq (n : Nat) (x0 : List C) (x25 : Int) (x25a : Int) (x25b : Int) (x25c : Int) (x25d : Int) : (eng Try.prog hs (n + 1)).loop (lp Try.f50 2) (S50_2d x0 x25 x25a x25b x25c x25d) = L50_2d (eng Try.prog hs n) x0 x25 x25a x25b x25c x25d := by kernel_rfl
noncomputable def L50_2e (e : Eng) (x0 : List C) (x25 : Int) (x25a : Int) (x25b : Int) (x25c : Int) (x25d : Int) : Option Res :=
  (asI Go.IntKind.i64 x0[0]?).bind fun (n : Int) =>
  bif n == 1 then
    (asS x0[1]?).bind fun (s : ByteArray) =>
      bif decide ((↑s.size : Int) < 1) then some (Res.ret [A.one (C.bool false)] none)
      else
        (asS x0[1]?).bind fun (s : ByteArray) =>
          bif decide ((↑s.size : Int) > 16) then some (Res.ret [A.one (C.bool false)] none)
          else
            (asS x0[1]?).bind fun (s : ByteArray) =>
              (callD e 72 [A.one (C.sl (bytesC s)), A.one (C.fn 73 [])] [Sh.bool]).bind fun (x : Bool) =>
                bif x then some (Res.ret [A.one (C.bool false)] none)
                else
                  (asI Go.IntKind.i64 x0[2]?).bind fun (n : Int) =>
                    bif decide (n < 1) then some (Res.ret [A.one (C.bool false)] none)
                    else
                      (asI Go.IntKind.i64 x0[2]?).bind fun (n : Int) =>
                        bif decide (n > 1000) then some (Res.ret [A.one (C.bool false)] none)
                        else
                          (asL x0[8]?).bind fun (l : List (List C)) =>
                            bif decide ((↑l.length : Int) > 0) then some (Res.ret [A.one (C.bool false)] none)
                            else (callD e 74 [A.one (C.rp x0 0)] [Sh.bool]).bind fun (x : Bool) => some (Res.ret [A.one (C.bool x)] none)
  else
    bif n == 2 then
      bif n == 2 then
        (asS x0[1]?).bind fun (s : ByteArray) =>
          bif !s.toList == (ByteArray.mk #[]).toList then some (Res.ret [A.one (C.bool false)] none)
          else
            (asI Go.IntKind.i64 x0[2]?).bind fun (n : Int) =>
              bif n != 0 then some (Res.ret [A.one (C.bool false)] none)
              else
                (asI Go.IntKind.i64 x0[0]?).bind fun (n : Int) =>
                  bif n == 2 then
                    (asL x0[8]?).bind fun (l : List (List C)) =>
                      bif decide ((↑l.length : Int) > 0) then some (Res.ret [A.one (C.bool false)] none)
                      else (callD e 74 [A.one (C.rp x0 0)] [Sh.bool]).bind fun (x : Bool) => some (Res.ret [A.one (C.bool x)] none)
                  else (callD e 74 [A.one (C.rp x0 0)] [Sh.bool]).bind fun (x : Bool) => some (Res.ret [A.one (C.bool x)] none)
      else some (Res.ret [A.one (C.bool false)] none)
    else
      bif n == 3 then
        (asS x0[1]?).bind fun (s : ByteArray) =>
          bif !s.toList == (ByteArray.mk #[]).toList then some (Res.ret [A.one (C.bool false)] none)
          else
            (asI Go.IntKind.i64 x0[2]?).bind fun (n : Int) =>
              bif n != 0 then some (Res.ret [A.one (C.bool false)] none)
              else
                (asI Go.IntKind.i64 x0[0]?).bind fun (n : Int) =>
                  bif n == 2 then
                    (asL x0[8]?).bind fun (l : List (List C)) =>
                      bif decide ((↑l.length : Int) > 0) then some (Res.ret [A.one (C.bool false)] none)
                      else (callD e 74 [A.one (C.rp x0 0)] [Sh.bool]).bind fun (x : Bool) => some (Res.ret [A.one (C.bool x)] none)
                  else (callD e 74 [A.one (C.rp x0 0)] [Sh.bool]).bind fun (x : Bool) => some (Res.ret [A.one (C.bool x)] none)
      else some (Res.ret [A.one (C.bool false)] none)
theorem L50_2e_eq (n : Nat) (x0 : List C) (x25 : Int) (x25a : Int) (x25b : Int) (x25c : Int) (x25d : Int) : (eng Try.prog hs (n + 1)).loop (lp Try.f50 2) (S50_2e x0 x25 x25a x25b x25c x25d) = L50_2e (eng Try.prog hs n) x0 x25 x25a x25b x25c x25d := by kernel_rfl
noncomputable def S51_3 (x0 : List C) (x1 : Int) (x5 : Int) (x11 : Int) (x12 : Int) : St :=
  St.mk 51 31
  [(0, V.c (C.rp x0 0)), (1, V.c (C.int Go.IntKind.i64 x1)), (5, V.c (C.int Go.IntKind.i64 x5)), (11, V.c (C.int Go.IntKind.i64 x11)), (12, V.c (C.int Go.IntKind.i64 x12))] [] none
  0 []
noncomputable def R51 (e : Eng) (p0 : List C) (n1 : Int) : Option Res :=
  (asL p0[8]?).bind fun (l : List (List C)) => e.loop (lp Try.f51 3) (S51_3 p0 n1 0 (↑l.length : Int) 0)
theorem R51_eq (n : Nat) (p0 : List C) (n1 : Int) : (eng Try.prog hs (n + 1)).call 51 [A.one (C.rp p0 0), A.one (C.int Go.IntKind.i64 n1)] (none) = R51 (eng Try.prog hs n) p0 n1 := by kernel_rfl
noncomputable def L51_3 (e : Eng) (x0 : List C) (x1 : Int) (x5 : Int) (x11 : Int) (x12 : Int) : Option Res :=
  bif decide (x12 < x11) then
  bif decide (x1 > 0) then
    (asL x0[8]?).bind fun (l : List (List C)) =>
      bif true && decide (0 ≤ x12) then
        l[x12.toNat]?.bind fun (cs : List C) =>
          bif cs.length.beq 11 then
            (callD e 51 [A.one (C.rp cs 0), A.one (C.int Go.IntKind.i64 (Go.IntKind.i64.wrap (x1 - 1)))] [Sh.int Go.IntKind.i64]).bind fun (x : Int) =>
              e.loop (lp Try.f51 3) (S51_3 x0 x1 (maxI Go.Builtin.max x5 x) x11 (Go.IntKind.i64.wrap (x12 + 1)))
          else none
      else none
  else e.loop (lp Try.f51 3) (S51_3 x0 x1 x5 x11 (Go.IntKind.i64.wrap (x12 + 1)))
else some (Res.ret [A.one (C.int Go.IntKind.i64 (Go.IntKind.i64.wrap (x5 + 1)))] none)
theorem L51_3_eq (n : Nat) (x0 : List C) (x1 : Int) (x5 : Int) (x11 : Int) (x12 : Int) : (eng Try.prog hs (n + 1)).loop (lp Try.f51 3) (S51_3 x0 x1 x5 x11 x12) = L51_3 (eng Try.prog hs n) x0 x1 x5 x11 x12 := by kernel_rfl
noncomputable def R36 (e : Eng) (g0 : List C) (n1 : Int) (n2 : Int) : Option Res :=
  some (Res.ret [A.agg 11 ((g0.set 6 (C.int Go.IntKind.i64 n1)).set 7 (C.int Go.IntKind.i64 n2))] none)
theorem R36_eq (n : Nat) (g0 : List C) (n1 : Int) (n2 : Int) : (eng Try.prog hs (n + 1)).call 36 [A.agg 11 g0, A.one (C.int Go.IntKind.i64 n1), A.one (C.int Go.IntKind.i64 n2)] (none) = R36 (eng Try.prog hs n) g0 n1 n2 := by kernel_rfl
noncomputable def R37 (e : Eng) (n0 : Int) (n1 : Int) (n2 : Int) : Option Res :=
  some
  (Res.ret
    [A.agg 11
        [C.int Go.IntKind.i64 2, C.str (ByteArray.mk #[]), C.int Go.IntKind.i64 0, C.int Go.IntKind.i64 n0, C.int Go.IntKind.i64 n1, C.int Go.IntKind.i64 n2,
          C.int Go.IntKind.i64 0, C.int Go.IntKind.i64 0, C.sl [], C.int Go.IntKind.i64 0, C.sl []]]
    none)
theorem R37_eq (n : Nat) (n0 : Int) (n1 : Int) (n2 : Int) : (eng Try.prog hs (n + 1)).call 37 [A.one (C.int Go.IntKind.i64 n0), A.one (C.int Go.IntKind.i64 n1), A.one (C.int Go.IntKind.i64 n2)] (none) = R37 (eng Try.prog hs n) n0 n1 n2 := by kernel_rfl
noncomputable def R38 (e : Eng) (n0 : Int) (n1 : Int) (n2 : Int) (l3 : List (List C)) : Option Res :=
  (callD e 63 [A.one (C.sl l3)] [Sh.sl]).bind fun (x : List (List C)) =>
  some
    (Res.ret
      [A.agg 11
          [C.int Go.IntKind.i64 3, C.str (ByteArray.mk #[]), C.int Go.IntKind.i64 0, C.int Go.IntKind.i64 n0, C.int Go.IntKind.i64 n1, C.int Go.IntKind.i64 n2,
            C.int Go.IntKind.i64 0, C.int Go.IntKind.i64 0, C.sl x, C.int Go.IntKind.i64 0, C.sl []]]
      none)
theorem R38_eq (n : Nat) (n0 : Int) (n1 : Int) (n2 : Int) (l3 : List (List C)) : (eng Try.prog hs (n + 1)).call 38 [A.one (C.int Go.IntKind.i64 n0), A.one (C.int Go.IntKind.i64 n1), A.one (C.int Go.IntKind.i64 n2), A.one (C.sl l3)] (none) = R38 (eng Try.prog hs n) n0 n1 n2 l3 := by kernel_rfl
noncomputable def R74 (e : Eng) (p0 : List C) : Option Res :=
  (asL p0[10]?).bind fun (l : List (List C)) =>
  (asL p0[10]?).bind fun (l_1 : List (List C)) =>
    (callD e 92 [A.one (C.sl l_1), A.one (C.fn 93 [])] [Sh.bool]).bind fun (x : Bool) =>
      bif x then some (Res.ret [A.one (C.bool false)] none)
      else
        (asI Go.IntKind.i64 p0[9]?).bind fun (n : Int) =>
          bif n == 0 then some (Res.ret [A.one (C.bool ((↑l.length : Int) == 0))] none)
          else
            bif n == 1 then
              bif (↑l.length : Int).tmod 2 == 0 then some (Res.ret [A.one (C.bool (decide ((↑l.length : Int) ≤ 48)))] none) else some (Res.ret [A.one (C.bool false)] none)
            else
              bif n == 2 then
                bif (↑l.length : Int).tmod 2 == 1 then some (Res.ret [A.one (C.bool (decide ((↑l.length : Int) ≤ 49)))] none) else some (Res.ret [A.one (C.bool false)] none)
              else some (Res.ret [A.one (C.bool false)] none)
theorem R74_eq (n : Nat) (p0 : List C) : (eng Try.prog hs (n + 1)).call 74 [A.one (C.rp p0 0)] (none) = R74 (eng Try.prog hs n) p0 := by kernel_rfl
noncomputable def R93 (e : Eng) (n0 : Int) : Option Res :=
  some (Res.ret [A.one (C.bool (decide (n0 < 0)))] none)
theorem R93_eq (n : Nat) (n0 : Int) : (eng Try.prog hs (n + 1)).call 93 [A.one (C.int Go.IntKind.i64 n0)] (none) = R93 (eng Try.prog hs n) n0 := by kernel_rfl
noncomputable def R73 (e : Eng) (n0 : Int) : Option Res :=
  bif decide (n0 < 32) then some (Res.ret [A.one (C.bool true)] none) else some (Res.ret [A.one (C.bool (decide (n0 > 126)))] none)
theorem R73_eq (n : Nat) (n0 : Int) : (eng Try.prog hs (n + 1)).call 73 [A.one (C.int Go.IntKind.u8 n0)] (none) = R73 (eng Try.prog hs n) n0 := by kernel_rfl
noncomputable def R92 (e : Eng) (l0 : List (List C)) (f1 : Nat) (c1 : List C) : Option Res :=
  (callD e 102 [A.one (C.sl l0), A.one (C.fn f1 c1)] [Sh.int Go.IntKind.i64]).bind fun (x : Int) => some (Res.ret [A.one (C.bool (decide (x ≥ 0)))] none)
theorem R92_eq (n : Nat) (l0 : List (List C)) (f1 : Nat) (c1 : List C) : (eng Try.prog hs (n + 1)).call 92 [A.one (C.sl l0), A.one (C.fn f1 c1)] (none) = R92 (eng Try.prog hs n) l0 f1 c1 := by kernel_rfl
noncomputable def S102_2 (f1 : Nat) (x0 : List (List C)) (x1 : List C) (x7 : Int) (x8 : Int) : St :=
  St.mk 102 19 [(0, V.c (C.sl x0)), (1, V.c (C.fn f1 x1)), (7, V.c (C.int Go.IntKind.i64 x7)), (8, V.c (C.int Go.IntKind.i64 x8))] [] none 0 []
noncomputable def R102 (e : Eng) (l0 : List (List C)) (f1 : Nat) (c1 : List C) : Option Res :=
  e.loop (lp Try.f102 2) (S102_2 f1 l0 c1 (↑l0.length : Int) 0)
theorem R102_eq (n : Nat) (l0 : List (List C)) (f1 : Nat) (c1 : List C) : (eng Try.prog hs (n + 1)).call 102 [A.one (C.sl l0), A.one (C.fn f1 c1)] (none) = R102 (eng Try.prog hs n) l0 f1 c1 := by kernel_rfl
noncomputable def L102_2 (e : Eng) (f1 : Nat) (x0 : List (List C)) (x1 : List C) (x7 : Int) (x8 : Int) : Option Res :=
  bif decide (x8 < x7) then
  bif true && decide (0 ≤ x8) then
    x0[x8.toNat]?.bind fun (cs : List C) =>
      bif cs.length.beq 1 then
        (asI Go.IntKind.i64 cs[0]?).bind fun (n : Int) =>
          (callD e f1 (A.one (C.int Go.IntKind.i64 n) :: [].append (List.map A.one x1)) [Sh.bool]).bind fun (x : Bool) =>
            bif x then some (Res.ret [A.one (C.int Go.IntKind.i64 x8)] none) else e.loop (lp Try.f102 2) (S102_2 f1 x0 x1 x7 (Go.IntKind.i64.wrap (x8 + 1)))
      else none
  else none
else some (Res.ret [A.one (C.int Go.IntKind.i64 (-1))] none)
theorem L102_2_eq (n : Nat) (f1 : Nat) (x0 : List (List C)) (x1 : List C) (x7 : Int) (x8 : Int) : (eng Try.prog hs (n + 1)).loop (lp Try.f102 2) (S102_2 f1 x0 x1 x7 x8) = L102_2 (eng Try.prog hs n) f1 x0 x1 x7 x8 := by kernel_rfl
noncomputable def R35 (e : Eng) (n0 : Int) : Option Res :=
  (callD e 61 [A.one (C.int Go.IntKind.i64 n0)] [Sh.bool]).bind fun (x : Bool) =>
  bif !x then some (Res.ret [A.one (C.int Go.IntKind.i64 0)] none)
  else
    (callD e 62 [A.one (C.int Go.IntKind.i64 n0), A.one (C.int Go.IntKind.i64 2)] [Sh.int Go.IntKind.i64]).bind fun (x : Int) =>
      some (Res.ret [A.one (C.int Go.IntKind.i64 x)] none)
theorem R35_eq (n : Nat) (n0 : Int) : (eng Try.prog hs (n + 1)).call 35 [A.one (C.int Go.IntKind.i64 n0)] (none) = R35 (eng Try.prog hs n) n0 := by kernel_rfl
noncomputable def R63 (e : Eng) (c0 : List C) (l0 : List (List C)) : Option Res :=
  bif true && allSz 11 (c0 :: l0) && true && true && decide ((0 + (c0 :: l0).length) * (bytesT Try.prog 33 + 1) ≤ most) then some (Res.ret [A.one (C.sl (c0 :: l0))] none) else none
theorem R63_eq (n : Nat) (c0 : List C) (l0 : List (List C)) : (eng Try.prog hs (n + 1)).call 63 [A.one (C.sl (c0 :: l0))] (none) = R63 (eng Try.prog hs n) c0 l0 := by kernel_rfl
end Go.Proofs.Ytbhojnofdeihdaa.E
