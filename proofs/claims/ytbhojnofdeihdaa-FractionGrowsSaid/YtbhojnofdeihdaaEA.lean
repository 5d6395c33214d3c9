/- What is defined here: how the evaluator carries out one operation. Nothing is assumed. -/
import Derived.Test.YtbhojnofdeihdaaED
namespace Go.Proofs.Ytbhojnofdeihdaa.E
set_option autoImplicit false
set_option linter.unusedVariables false
section
variable {α : Type}

/-- The cells of a value, where they are known one by one. -/
def cellsV : V → Option (List V)
  | .agg l => some l
  | .pagg _ _ => none
  | .tup _ => none
  | .undef => none
  | v => some [v]
def one? : V → Bool
  | .agg _ | .pagg _ _ | .tup _ | .undef => false
  | _ => true
/-- A block that holds a value. -/
def blkOf : V → Option Blk
  | .pagg n cs => some (.pc n cs)
  | v => (cellsV v).map .vs
/-- Put the parts of a struct or an array in their places. -/
def fillV (place : Nat → Option (Nat × Nat)) (cells : List V) : List (Nat × V) → Option (List V)
  | [] => some cells
  | (i, v) :: rest =>
    match place i, cellsV v with
    | some (off, size), some l =>
      bif Nat.beq l.length size && Nat.ble (off + size) cells.length then
        fillV place (cells.take off ++ l ++ cells.drop (off + size)) rest
      else none
    | _, _ => none
def placeS (P : Program) (t : TypeId) (i : Nat) : Option (Nat × Nat) :=
  match P.underlying t with
  | some (.struct fs) => (fs[i]?).map fun f => (f.offset, szT P f.type)
  | some (.array n e) => some (i * szT P e, szT P e)
  | _ => none
def buildT (P : Program) (t : TypeId) : Bool :=
  match P.underlying t with
  | some (.struct fs) => fs.toList.all fun f => Nat.blt 0 (szT P f.type)
  | some (.array n e) => Nat.blt 0 (szT P e)
  | _ => false
def fieldOff (P : Program) (t : TypeId) (f : Nat) : Option (Nat × TypeId) :=
  match P.underlying t with
  | some (.struct fs) => (fs[f]?).map fun g => (g.offset, g.type)
  | _ => none
/-- Read n cells from off on out of opaque cells of known number. -/
def part (n : Nat) (cs : List C) (off sz : Nat) : List C := bif Nat.beq off 0 && Nat.beq sz n then cs else (cs.drop off).take sz

def loadK (P : Program) (H : Heap) (t : TypeId) (a : V) (K : V → List Rd → Option α) : Option α :=
  match a with
  | .ptr h off =>
    match get H h with
    | some (.live (.pc n cs) _) =>
      bif isAggT P t then (bif Nat.ble (off + szT P t) n then K (.pagg (szT P t) (part n cs off (szT P t))) [.look h] else none)
      else bif Nat.blt off n then decT P t (cs[off]?) fun v => K v [.look h] else none
    | some (.live (.vs l) _) =>
      bif isAggT P t then (bif Nat.ble (off + szT P t) l.length then K (.agg ((l.drop off).take (szT P t))) [.look h] else none)
      else match P.underlying t, l[off]? with
        | some _, some v => K v [.look h]
        | _, _ => none
    | _ => none
  | .eptr h i off =>
    match get H h with
    | some (.live (.arr sz es) _) =>
      (es[i]?).bind fun cs =>
        bif isAggT P t then (bif Nat.ble (off + szT P t) sz then K (.pagg (szT P t) (part sz cs off (szT P t))) [.look h] else none)
        else bif Nat.blt off sz then decT P t (cs[off]?) fun v => K v [.look h] else none
    | _ => none
  | .c (.rp cs off) =>
    bif isAggT P t then
      (bif Nat.beq off 0 then (bif Nat.beq cs.length (szT P t) then K (.pagg (szT P t) cs) [] else bif Nat.ble (szT P t) cs.length then K (.pagg (szT P t) (cs.take (szT P t))) [] else none)
       else bif Nat.ble (off + szT P t) cs.length then K (.pagg (szT P t) ((cs.drop off).take (szT P t))) [] else none)
    else decT P t (cs[off]?) fun v => K v []
  | _ => none

/-- A store: the way the block is changed, and what is frozen for it. -/
def storeK (P : Program) (H : Heap) (t : TypeId) (a x : V) (K : List Rd → List Dl → Option α) : Option α :=
  match a with
  | .ptr h off =>
    match get H h with
    | some (.live (.pc n cs) false) =>
      match x with
      | .pagg m ds => bif Nat.blt 0 (szT P t) && Nat.beq m (szT P t) && Nat.beq off 0 && Nat.beq m n then K [.stat h] [.wr h (.all (.pc m ds))] else none
      | .agg l => bif Nat.blt 0 (szT P t) && Nat.beq l.length (szT P t) && Nat.beq off 0 && Nat.beq l.length n then K [.stat h] [.wr h (.all (.vs l))] else none
      | v => bif one? v && Nat.beq 1 (szT P t) && Nat.blt off n then
          (pur H 40 v).bind fun r => bif r.2.any (Nat.beq h) then none else K (.stat h :: looks r.2) (frzs r.2 ++ [.wr h (.pcell off r.1)])
        else none
    | some (.live (.vs l) false) =>
      match x with
      | .pagg m ds => bif Nat.blt 0 (szT P t) && Nat.beq m (szT P t) && Nat.beq off 0 && Nat.beq m l.length then K [.stat h] [.wr h (.all (.pc m ds))] else none
      | .agg l' => bif Nat.blt 0 (szT P t) && Nat.beq l'.length (szT P t) && Nat.beq off 0 && Nat.beq l'.length l.length then K [.stat h] [.wr h (.all (.vs l'))] else none
      | v => bif one? v && Nat.beq 1 (szT P t) && Nat.blt off l.length then K [.stat h] [.wr h (.cell off v)] else none
    | _ => none
  | .eptr h i off =>
    match get H h with
    | some (.live (.arr sz es) false) =>
      bif one? x && Nat.beq 1 (szT P t) && Nat.blt off sz then
        (es[i]?).bind fun _ => (pur H 40 x).bind fun r => bif r.2.any (Nat.beq h) then none else K (.stat h :: looks r.2) (frzs r.2 ++ [.wr h (.elem i off r.1)])
      else none
    | _ => none
  | _ => none

/-! ### operations on values -/
inductive Bk where
  | i | b | s
def bkT (P : Program) (t : TypeId) : Option Bk :=
  match P.underlying t with
  | some (.int _) => some .i
  | some .bool => some .b
  | some .string => some .s
  | _ => none
def eqC1 : Bk → C → C → Option Bool
  | .i, .int k a, .int j b => if k = j then some (a == b) else none
  | .b, .bool a, .bool b => some (a == b)
  | .s, .str a, .str b => some (a.toList == b.toList)
  | _, _, _ => none
/-- Equality of cells, one by one. -/
def eqCs : List Bk → List C → List C → Option Bool
  | [], [], [] => some true
  | k :: ks, x :: l, y :: m => (eqC1 k x y).bind fun b => (eqCs ks l m).bind fun r => some (b && r)
  | _, _, _ => none
def pureC : V → Option C
  | .c x => some x
  | _ => none
def pureCs : V → Option (List C)
  | .pagg _ cs => some cs
  | .agg l => l.mapM pureC
  | _ => none
/-- Structs of whole numbers, bools and strings: the kinds of their fields. -/
def plainT (P : Program) (t : TypeId) : Option (List Bk) :=
  match P.underlying t with
  | some (.struct fs) =>
    bif !P.stoodInHeld t && !P.eqGuardType P.depth t && fs.toList.all (fun f => f.name != "_") && (fs.toList.map (·.offset) == List.range fs.size) then fs.toList.mapM (fun f => bkT P f.type) else none
  | _ => none
/-- Whether a slice is nil, where that is known. -/
def isNil : V → Option Bool
  | .nsl => some true
  | .own _ _ _ => some false
  | .c (.sl (_ :: _)) => some false
  | _ => none
def binK (P : Program) (op : BinOp) (t : TypeId) (x y : V) (K : V → Option α) : Option α :=
  match x, y with
  | .c (.int k a), .c (.int j b) =>
    if k = j then
      match op with
      | .add => K (.c (.int k (k.wrap (a + b))))
      | .sub => K (.c (.int k (k.wrap (a - b))))
      | .mul => K (.c (.int k (k.wrap (a * b))))
      | .quo => bif b == 0 then none else K (.c (.int k (k.wrap (a.tdiv b))))
      | .rem => bif b == 0 then none else K (.c (.int k (a.tmod b)))
      | .eql => K (.c (.bool (a == b)))
      | .neq => K (.c (.bool (a != b)))
      | .lss => K (.c (.bool (decide (a < b))))
      | .leq => K (.c (.bool (decide (a ≤ b))))
      | .gtr => K (.c (.bool (decide (a > b))))
      | .geq => K (.c (.bool (decide (a ≥ b))))
      | _ => none
    else none
  | .c (.str a), .c (.str b) =>
    match op with
    | .eql => K (.c (.bool (a.toList == b.toList)))
    | .neq => K (.c (.bool (!(a.toList == b.toList))))
    | .add => bif decide (((a.size + b.size : Nat) : Int) > IntKind.i64.max) then none else K (.c (.str (a ++ b)))
    | _ => none
  | .c (.bool a), .c (.bool b) =>
    match op, P.underlying t with
    | .eql, some .bool => K (.c (.bool (a == b)))
    | .neq, some .bool => K (.c (.bool (!(a == b))))
    | _, _ => none
  | x, .nsl =>
    match op, P.underlying t with
    | .eql, some (.slice _) => (isNil x).bind fun b => K (.c (.bool b))
    | .neq, some (.slice _) => (isNil x).bind fun b => K (.c (.bool (!b)))
    | _, _ => none
  | x, y =>
    match op, plainT P t, pureCs x, pureCs y with
    | .eql, some ks, some l, some m => (eqCs ks l m).bind fun b => K (.c (.bool b))
    | .neq, some ks, some l, some m => (eqCs ks l m).bind fun b => K (.c (.bool (!b)))
    | _, _, _, _ => none
def unK (op : UnOp) (x : V) (K : V → Option α) : Option α :=
  match op, x with
  | .neg, .c (.int k n) => K (.c (.int k (k.wrap (0 - n))))
  | .not, .c (.bool b) => K (.c (.bool (!b)))
  | _, _ => none
def bytesC (s : ByteArray) : List (List C) := s.data.toList.map fun b => [.int .u8 b.toNat]
def convK (P : Program) (src dst : TypeId) (x : V) (K : V → Option α) : Option α :=
  match P.underlying src, P.underlying dst, x with
  | some _, some (.int k), .c (.int _ n) => K (.c (.int k (k.wrap n)))
  | some _, some .string, .c (.str s) => K (.c (.str s))
  | some _, some (.slice e), .c (.str s) =>
    match P.underlying e with
    | some (.int .u8) => K (.c (.sl (bytesC s)))
    | _ => none
  | _, _, _ => none
def allSz (sz : Nat) (es : List (List C)) : Bool := es.all fun e => Nat.beq e.length sz
def loI : Option V → Option Int
  | none => some 0
  | some (.c (.int _ n)) => some n
  | _ => none
def hiI (len : Nat) : Option V → Option Int
  | none => some len
  | some (.c (.int _ n)) => some n
  | _ => none
def sliceK (P : Program) (H : Heap) (t : TypeId) (x : V) (lo hi : Option V) (K : V → List Rd → List Dl → Option α) : Option α :=
  match P.underlying t, x with
  | some .string, .c (.str s) =>
    match loI lo, hiI s.size hi with
    | some l, some h => bif decide (0 ≤ l) && decide (l ≤ h) && decide (h ≤ (s.size : Int)) then K (.c (.str (s.extract l.toNat h.toNat))) [] [] else none
    | _, _ => none
  | some (.slice e), .c (.sl es) =>
    match loI lo, hiI es.length hi with
    | some l, some h => bif Nat.blt 0 (szT P e) && allSz (szT P e) es && decide (0 ≤ l) && decide (l ≤ h) && decide (h ≤ (es.length : Int)) then K (.c (.sl ((es.take h.toNat).drop l.toNat))) [] [] else none
    | _, _ => none
  | some (.array n e), .ptr h off =>
    match lo, hi, get H h with
    | none, none, some (.live (.vs l) _) =>
      bif Nat.beq off 0 && Nat.beq (szT P e) 1 && Nat.beq n l.length then
        (purs H 40 l).bind fun r => K (.c (.sl (r.1.map fun x => [x]))) (looks (h :: r.2)) (frzs (h :: r.2))
      else none
    | _, _, _ => none
  | _, _ => none
def fieldAddrK (P : Program) (s : TypeId) (x : V) (f : Nat) (K : V → Option α) : Option α :=
  match fieldOff P s f with
  | some (o, ft) =>
    bif Nat.beq (szT P ft) 0 then none else
    match x with
    | .ptr h off => K (.ptr h (off + o))
    | .eptr h i off => K (.eptr h i (off + o))
    | .c (.rp cs off) => K (.c (.rp cs (off + o)))
    | _ => none
  | none => none
def fieldK (P : Program) (s : TypeId) (x : V) (f : Nat) (K : V → Option α) : Option α :=
  match fieldOff P s f with
  | some (o, ft) =>
    match x with
    | .agg l => bif isAggT P ft then (bif Nat.ble (o + szT P ft) l.length then K (.agg ((l.drop o).take (szT P ft))) else none)
        else match P.underlying ft, l[o]? with
          | some _, some v => K v
          | _, _ => none
    | .pagg n cs => bif isAggT P ft then (bif Nat.ble (o + szT P ft) n then K (.pagg (szT P ft) (part n cs o (szT P ft))) else none)
        else bif Nat.blt o n then decT P ft (cs[o]?) K else none
    | _ => none
  | none => none
def indexAddrK (P : Program) (t : TypeId) (x i : V) (K : V → Option α) : Option α :=
  match P.underlying t, x, i with
  | some (.slice e), .c (.sl es), .c (.int _ n) =>
    bif Nat.blt 0 (szT P e) && decide (0 ≤ n) then (es[n.toNat]?).bind fun cs => bif Nat.beq cs.length (szT P e) then K (.c (.rp cs 0)) else none else none
  | some (.slice e), .own h m z, .c (.int _ n) =>
    bif Nat.blt 0 (szT P e) && Nat.beq z (szT P e) && decide (0 ≤ n) && decide (n < (m : Int)) then K (.eptr h n.toNat 0) else none
  | some (.array m e), .ptr h off, .c (.int _ n) =>
    bif Nat.blt 0 (szT P e) && decide (0 ≤ n) && decide (n < (m : Int)) then K (.ptr h (off + n.toNat * szT P e)) else none
  | some (.array m e), .c (.rp cs off), .c (.int _ n) =>
    bif Nat.blt 0 (szT P e) && decide (0 ≤ n) && decide (n < (m : Int)) then K (.c (.rp cs (off + n.toNat * szT P e))) else none
  | _, _, _ => none
def indexK (P : Program) (t : TypeId) (x i : V) (K : V → Option α) : Option α :=
  match P.underlying t, x, i with
  | some .string, .c (.str s), .c (.int _ n) =>
    bif decide (0 ≤ n) then (s.data.toList[n.toNat]?).bind fun b => K (.c (.int .u8 b.toNat)) else none
  | some (.array m e), .agg l, .c (.int _ n) =>
    bif decide (0 ≤ n) && decide (n < (m : Int)) && !isAggT P e then
      match P.underlying e, l[n.toNat * szT P e]? with
      | some _, some v => K v
      | _, _ => none
    else none
  | some (.array m e), .pagg k cs, .c (.int _ n) =>
    bif decide (0 ≤ n) && decide (n < (m : Int)) && !isAggT P e && Nat.ble (m * szT P e) k then decT P e (cs[n.toNat * szT P e]?) K else none
  | _, _, _ => none
def entI (k : IntKind) (es : List (ByteArray × C)) (key : ByteArray) : Option (Int × Bool) :=
  match mapGet es key with
  | none => some (0, false)
  | some x => (asI k (some x)).bind fun n => some (n, true)
def entB (es : List (ByteArray × C)) (key : ByteArray) : Option (Bool × Bool) :=
  match mapGet es key with
  | none => some (false, false)
  | some x => (asB (some x)).bind fun n => some (n, true)
def zI (P : Program) (e : TypeId) (k : IntKind) : Bool := match (P.info? e).bind (·.zero) with
  | some (.int j z) => decide (j = k) && z == 0
  | _ => false
def zB (P : Program) (e : TypeId) : Bool := match (P.info? e).bind (·.zero) with
  | some (.bool z) => !z
  | _ => false
def lookupIn (P : Program) (e : TypeId) (es : List (ByteArray × C)) (key : ByteArray) (ok : Bool) (K : V → Option α) : Option α :=
  match P.underlying e with
  | some (.int k) => bif zI P e k then (entI k es key).bind fun r => bif ok then K (.tup [.c (.int k r.1), .c (.bool r.2)]) else K (.c (.int k r.1)) else none
  | some .bool => bif zB P e then (entB es key).bind fun r => bif ok then K (.tup [.c (.bool r.1), .c (.bool r.2)]) else K (.c (.bool r.1)) else none
  | _ => none
def lookupK (P : Program) (H : Heap) (t : TypeId) (m k : V) (ok : Bool) (K : V → List Rd → Option α) : Option α :=
  match P.underlying t, m, k with
  | some (.map kt e), .mapv h, .c (.str s) =>
    match get H h, P.underlying kt with
    | some (.live (.map es) _), some .string => lookupIn P e es s ok fun v => K v [.look h]
    | _, _ => none
  | some (.map kt e), .c (.mp es), .c (.str s) =>
    match P.underlying kt with
    | some .string => lookupIn P e es s ok fun v => K v []
    | _ => none
  | _, _, _ => none
def mapUpdateK (P : Program) (H : Heap) (t : TypeId) (m k x : V) (K : List Rd → List Dl → Option α) : Option α :=
  match P.underlying t, m, k, x with
  | some (.map kt e), .mapv h, .c (.str s), .c y =>
    match get H h, P.underlying kt with
    | some (.live (.map es) false), some .string => K [.stat h] [.wr h (.mset s y)]
    | _, _ => none
  | _, _, _, _ => none

/-! ### slices that are made -/
/-- The cells of an element, as plain data. -/
def elemC (H : Heap) (v : V) : Option (List C × List Nat) :=
  match v with
  | .pagg n cs => some (cs, [])
  | .agg l => purs H 40 l
  | v => (pur H 40 v).bind fun r => some ([r.1], r.2)
def elemN : V → Nat
  | .pagg n _ => n
  | .agg l => l.length
  | _ => 1
def elemsC (H : Heap) (sz : Nat) : Nat → List (Nat × V) → Option (List (List C) × List Nat)
  | _, [] => some ([], [])
  | i, (j, v) :: l => bif Nat.beq i j && Nat.beq (elemN v) sz then
      (elemC H v).bind fun a => (elemsC H sz (i + 1) l).bind fun b => some (a.1 :: b.1, a.2 ++ b.2)
    else none
/-- What an append takes from its second operand. -/
def srcC (H : Heap) : V → Option (List (List C) × List Nat)
  | .c (.sl es) => some (es, [])
  | .nsl => some ([], [])
  | .own h _ _ => match get H h with
    | some (.live (.arr _ es) _) => some (es, [h])
    | _ => none
  | _ => none
def most : Nat := 70368744177664
def bytesT (P : Program) (t : TypeId) : Nat := ((P.info? t).map (·.bytes)).getD 0
def appendK (P : Program) (H : Heap) (d : Nat) (st : TypeId) (s x : V) (K : V → List Rd → List Dl → Option α) : Option α :=
  match P.underlying st with
  | some (.slice e) =>
    (srcC H x).bind fun src =>
      match s with
      | .own h n _ =>
        match get H h, get H d with
        | some (.live (.arr sz es) false), none =>
          bif Nat.beq sz (szT P e) && Nat.blt 0 sz && allSz sz src.1 && (zeroT P e).isSome && Nat.beq ((zeroT P e).getD []).length sz && decide ((n + src.1.length) * (bytesT P e + 1) ≤ most) then
            K (.own d (n + src.1.length) sz) (.look h :: .stat h :: .free d :: looks src.2) [.kill h, .new d (.arr sz (es ++ src.1))]
          else none
        | _, _ => none
      | .nsl =>
        match get H d with
        | none =>
          bif Nat.blt 0 (szT P e) && allSz (szT P e) src.1 && (zeroT P e).isSome && Nat.beq ((zeroT P e).getD []).length (szT P e) && decide (0 < src.1.length) && decide (src.1.length * (bytesT P e + 1) ≤ most) then
            K (.own d src.1.length (szT P e)) (.free d :: looks src.2) [.new d (.arr (szT P e) src.1)]
          else none
        | some _ => none
      | _ => none
  | _ => none
def maxI (op : Builtin) (a b : Int) : Int := match op with
  | .max => if b > a then b else a
  | _ => if b < a then b else a
def foldMax (op : Builtin) : V → List V → Option V
  | v, [] => some v
  | .c (.int k a), .c (.int j b) :: l => if k = j then foldMax op (.c (.int k (maxI op a b))) l else none
  | _, _ => none
def builtinK (P : Program) (H : Heap) (d : Nat) (b : Builtin) (ts : Array TypeId) (vs : List V) (K : V → List Rd → List Dl → Option α) : Option α :=
  match b, vs with
  | .len, [x] =>
    match ts.toList with
    | [t] => match P.underlying t, x with
      | some .string, .c (.str s) => K (.c (.int .i64 s.size)) [] []
      | some (.slice _), .c (.sl es) => K (.c (.int .i64 es.length)) [] []
      | some (.slice _), .own _ n _ => K (.c (.int .i64 n)) [] []
      | some (.slice _), .nsl => K (.c (.int .i64 0)) [] []
      | _, _ => none
    | _ => none
  | .append, [s, x] =>
    match ts.toList with
    | [t, tx] => match P.underlying tx with
      | some (.slice _) => appendK P H d t s x K
      | _ => none
    | _ => none
  | .max, v :: l => (foldMax .max v l).bind fun r => K r [] []
  | .min, v :: l => (foldMax .min v l).bind fun r => K r [] []
  | _, _ => none

/-- One operation that is no call of a Go function. -/
def opK (P : Program) (H : Heap) (ρ : Operand → V) (d : Nat) (o : Op) (K : V → List Rd → List Dl → Option α) : Option α :=
  match o with
  | .move x | .assign x => K (ρ x) [] []
  | .pick c a b => match ρ c with
    | .c (.bool p) => bif p then K (ρ a) [] [] else K (ρ b) [] []
    | _ => none
  | .alloc t => match get H d with
    | none => (zeroT P t).bind fun l => K (.ptr d 0) [.free d] [.new d (.vs l)]
    | some _ => none
  | .box t x => match get H d with
    | none => (blkOf (ρ x)).bind fun b => K (.ptr d 0) [.free d] [.new d b]
    | some _ => none
  | .build t parts => bif buildT P t then (zeroT P t).bind fun z => (fillV (placeS P t) z (parts.toList.map fun p => (p.1, ρ p.2))).bind fun l => K (.agg l) [] [] else none
  | .buildSlice t len parts =>
    match P.underlying t with
    | some (.slice e) =>
      match get H d with
      | none =>
        bif Nat.beq len parts.size && Nat.ble (len * szT P e) 16777216 && Nat.blt 0 (szT P e) && (zeroT P e).isSome then
          (elemsC H (szT P e) 0 (parts.toList.map fun p => (p.1, ρ p.2))).bind fun r => K (.own d len (szT P e)) (.free d :: looks r.2) (frzs r.2 ++ [.new d (.arr (szT P e) r.1)])
        else none
      | some _ => none
    | _ => none
  | .load t a => loadK P H t (ρ a) fun v r => K v r []
  | .store t a x => storeK P H t (ρ a) (ρ x) fun r l => K .undef r l
  | .nilCheck x => match ρ x with
    | .ptr h off => K (.ptr h off) [] []
    | .eptr h i off => K (.eptr h i off) [] []
    | .c (.rp cs off) => K (.c (.rp cs off)) [] []
    | _ => none
  | .binOp op t x y _ => binK P op t (ρ x) (ρ y) fun v => K v [] []
  | .unOp op _ x => unK op (ρ x) fun v => K v [] []
  | .convert s t x => convK P s t (ρ x) fun v => K v [] []
  | .makeFunc (.func f) first caps => bif first.isEmpty then K (.clo f (caps.toList.map ρ)) [] [] else none
  | .makeMap t none => match get H d with
    | none => K (.mapv d) [.free d] [.new d (.map [])]
    | some _ => none
  | .slice t x lo hi none => sliceK P H t (ρ x) (lo.map ρ) (hi.map ρ) K
  | .fieldAddr s x f => fieldAddrK P s (ρ x) f fun v => K v [] []
  | .field s x f => fieldK P s (ρ x) f fun v => K v [] []
  | .indexAddr t x i => indexAddrK P t (ρ x) (ρ i) fun v => K v [] []
  | .index t x i => indexK P t (ρ x) (ρ i) fun v => K v [] []
  | .lookup t m k ok => lookupK P H t (ρ m) (ρ k) ok fun v r => K v r []
  | .mapUpdate t m k x => mapUpdateK P H t (ρ m) (ρ k) (ρ x) fun r l => K .undef r l
  | .extract t i => match ρ t with
    | .tup l => match l[i]? with
      | some v => K v [] []
      | none => none
    | _ => none
  | .call { callee := .builtin b, args, argTypes } => builtinK P H d b argTypes (args.toList.map ρ) K
  | _ => none
end
end Go.Proofs.Ytbhojnofdeihdaa.E
