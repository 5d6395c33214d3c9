/- What is defined here: an evaluator of Go functions over plain data (numbers, strings, lists), with a small memory of its own. Nothing is assumed. -/
import Derived.RangeFuncLeaves
import Derived.RangeFuncRecord
import Derived.OrdersIn
import Derived.Below
import Derived.Laws.StructEq
namespace Go.Proofs.Ytbhojnofdeihdaa.E
set_option autoImplicit false
set_option linter.unusedVariables false

inductive C where
  | bool (b : Bool)
  | int (k : IntKind) (n : Int)
  | str (s : ByteArray)
  | sl (es : List (List C))
  | rp (cs : List C) (off : Nat)
  | fn (f : Nat) (cs : List C)
  | mp (es : List (ByteArray × C))

inductive V where
  | c (x : C)
  | ptr (h off : Nat)
  | eptr (h i off : Nat)
  | own (h n z : Nat)
  | nsl
  | mapv (h : Nat)
  | clo (f : Nat) (caps : List V)
  | yld
  | agg (vs : List V)
  | pagg (n : Nat) (cs : List C)
  | tup (vs : List V)
  | undef

inductive Blk where
  | pc (n : Nat) (cs : List C)
  | vs (l : List V)
  | arr (sz : Nat) (es : List (List C))
  | map (es : List (ByteArray × C))

inductive Slot where
  | live (b : Blk) (frz : Bool)
  | dead

/-- Association lists in order of their keys. -/
def get {α : Type} : List (Nat × α) → Nat → Option α
  | [], _ => none
  | (i, v) :: l, j => bif Nat.beq i j then some v else get l j
def ins {α : Type} (j : Nat) (u : α) : List (Nat × α) → List (Nat × α)
  | [] => [(j, u)]
  | (i, v) :: l => bif Nat.beq i j then (j, u) :: l else bif Nat.ble j i then (j, u) :: (i, v) :: l else (i, v) :: ins j u l

abbrev Env := List (Nat × V)
abbrev Heap := List (Nat × Slot)

/-- A way to change one block. -/
inductive Wop where
  | all (b : Blk)
  | cell (off : Nat) (v : V)
  | pcell (off : Nat) (x : C)
  | elem (i off : Nat) (x : C)
  | mset (k : ByteArray) (x : C)
/-- What an operation looks at. -/
inductive Rd where
  | look (h : Nat)
  | stat (h : Nat)
  | free (h : Nat)
/-- What an operation does to the memory. -/
inductive Dl where
  | new (h : Nat) (b : Blk)
  | wr (h : Nat) (w : Wop)
  | frz (h : Nat)
  | kill (h : Nat)

def mapSet : List (ByteArray × C) → ByteArray → C → List (ByteArray × C)
  | [], k, x => [(k, x)]
  | (j, y) :: l, k, x => bif k == j then (k, x) :: l else (j, y) :: mapSet l k x
def mapGet : List (ByteArray × C) → ByteArray → Option C
  | [], _ => none
  | (j, y) :: l, k => bif k == j then some y else mapGet l k

def Wop.app : Wop → Blk → Blk
  | .all b, _ => b
  | .cell o v, .vs l => .vs (l.set o v)
  | .pcell o x, .pc n cs => .pc n (cs.set o x)
  | .elem i o x, .arr sz es => .arr sz (es.modify i fun cs => cs.set o x)
  | .mset k x, .map es => .map (mapSet es k x)
  | _, b => b
def Slot.wr (w : Wop) : Slot → Slot
  | .live b z => .live (w.app b) z
  | .dead => .dead
def Slot.frz : Slot → Slot
  | .live b _ => .live b true
  | .dead => .dead
def upd (h : Nat) (f : Slot → Slot) (H : Heap) : Heap :=
  match get H h with
  | some s => ins h (f s) H
  | none => H
def Dl.app : Dl → Heap → Heap
  | .new h b, H => ins h (.live b false) H
  | .wr h w, H => upd h (Slot.wr w) H
  | .frz h, H => upd h Slot.frz H
  | .kill h, H => upd h (fun _ => .dead) H
def appAll : List Dl → Heap → Heap
  | [], H => H
  | d :: l, H => appAll l (d.app H)

/-! ### single cells -/
def asI (k : IntKind) : Option C → Option Int
  | some (.int j n) => if j = k then some n else none
  | _ => none
def asB : Option C → Option Bool
  | some (.bool b) => some b
  | _ => none
def asS : Option C → Option ByteArray
  | some (.str s) => some s
  | _ => none
def asL : Option C → Option (List (List C))
  | some (.sl l) => some l
  | _ => none
def asP : Option C → Option (List C × Nat)
  | some (.rp cs o) => some (cs, o)
  | _ => none
def asF : Option C → Option (Nat × List C)
  | some (.fn f cs) => some (f, cs)
  | _ => none
def asM : Option C → Option (List (ByteArray × C))
  | some (.mp es) => some es
  | _ => none
section
variable {α : Type}
def decT (P : Program) (t : TypeId) (x : Option C) (K : V → Option α) : Option α :=
  match P.underlying t with
  | some (.int k) => (asI k x).bind fun n => K (.c (.int k n))
  | some .bool => (asB x).bind fun b => K (.c (.bool b))
  | some .string => (asS x).bind fun s => K (.c (.str s))
  | some (.slice _) => (asL x).bind fun l => K (.c (.sl l))
  | some (.pointer _) => (asP x).bind fun p => K (.c (.rp p.1 p.2))
  | some (.func ..) => (asF x).bind fun p => K (.c (.fn p.1 p.2))
  | some (.map ..) => (asM x).bind fun m => K (.c (.mp m))
  | _ => none
def isAggT (P : Program) (t : TypeId) : Bool :=
  match P.underlying t with
  | some (.struct _) | some (.array _ _) => true
  | _ => false
def szT (P : Program) (t : TypeId) : Nat := ((P.info? t).map (·.size)).getD 0

/-! ### constants and zero values -/
def ofValue : Value → V
  | .bool b => .c (.bool b)
  | .int k n => .c (.int k n)
  | .string s => .c (.str s)
  | .slice none 0 0 => .nsl
  | _ => .undef
def ofConst : Value → V
  | .agg cs => bif cs.toList.all Value.oneCell' then .agg (cs.toList.map ofValue) else .undef
  | v => ofValue v
def zeroT (P : Program) (t : TypeId) : Option (List V) :=
  ((P.info? t).bind (·.zero)).bind fun z => bif z.cells.toList.all Value.oneCell' then some (z.cells.toList.map ofValue) else none

/-! ### what may leave a function: plain data; the memory that it stands in is frozen -/
mutual
def pur (H : Heap) : Nat → V → Option (C × List Nat)
  | 0, _ => none
  | k + 1, v =>
    match v with
    | .c x => some (x, [])
    | .nsl => some (.sl [], [])
    | .ptr h off => match get H h with
      | some (.live (.pc n cs) _) => some (.rp cs off, [h])
      | some (.live (.vs l) _) => (purs H k l).bind fun r => some (.rp r.1 off, h :: r.2)
      | _ => none
    | .own h n _ => match get H h with
      | some (.live (.arr sz es) _) => some (.sl es, [h])
      | _ => none
    | .mapv h => match get H h with
      | some (.live (.map es) _) => some (.mp es, [h])
      | _ => none
    | .clo f caps => (purs H k caps).bind fun r => some (.fn f r.1, r.2)
    | _ => none
def purs (H : Heap) : Nat → List V → Option (List C × List Nat)
  | 0, _ => none
  | _ + 1, [] => some ([], [])
  | k + 1, v :: l => (pur H k v).bind fun a => (purs H k l).bind fun b => some (a.1 :: b.1, a.2 ++ b.2)
end
def frzs (l : List Nat) : List Dl := l.map Dl.frz
def looks (l : List Nat) : List Rd := l.map Rd.look
/-- Plain data as argument, result or part. -/
inductive A where
  | one (x : C)
  | agg (n : Nat) (cs : List C)
  | arr (sz : Nat) (es : List (List C))
  | yld
def purA (H : Heap) (v : V) : Option (A × List Nat) :=
  match v with
  | .pagg n cs => some (.agg n cs, [])
  | .agg l => (purs H 40 l).bind fun r => some (.agg l.length r.1, r.2)
  | .yld => some (.yld, [])
  | v => (pur H 40 v).bind fun r => some (.one r.1, r.2)
def purAs (H : Heap) : List V → Option (List A × List Nat)
  | [] => some ([], [])
  | v :: l => (purA H v).bind fun a => (purAs H l).bind fun b => some (a.1 :: b.1, a.2 ++ b.2)
def A.v : A → V
  | .one x => .c x
  | .agg n cs => .pagg n cs
  | .arr _ _ => .undef
  | .yld => .yld

/-! ### typed results -/
inductive Sh where
  | int (k : IntKind) | bool | str | sl | fn | ptr
  | agg (n : Nat)
def Sh.T : Sh → Type
  | .int _ => Int
  | .bool => Bool
  | .str => ByteArray
  | .sl => List (List C)
  | .fn => Nat × List C
  | .ptr => List C × Nat
  | .agg _ => List C
def shT (P : Program) (t : TypeId) : Option Sh :=
  match P.underlying t with
  | some (.int k) => some (.int k)
  | some .bool => some .bool
  | some .string => some .str
  | some (.slice _) => some .sl
  | some (.func ..) => some .fn
  | some (.pointer _) => some .ptr
  | some (.struct _) | some (.array _ _) => some (.agg (szT P t))
  | _ => none
def Sh.dec : (s : Sh) → A → Option s.T
  | .int k, .one x => asI k (some x)
  | .bool, .one x => asB (some x)
  | .str, .one x => asS (some x)
  | .sl, .one x => asL (some x)
  | .fn, .one x => asF (some x)
  | .ptr, .one x => asP (some x)
  | .agg n, .agg m cs => if m = n then some cs else none
  | _, _ => none
def Sh.v : (s : Sh) → s.T → V
  | .int k, n => .c (.int k n)
  | .bool, b => .c (.bool b)
  | .str, s => .c (.str s)
  | .sl, l => .c (.sl l)
  | .fn, p => .c (.fn p.1 p.2)
  | .ptr, p => .c (.rp p.1 p.2)
  | .agg n, cs => .pagg n cs
end
end Go.Proofs.Ytbhojnofdeihdaa.E
