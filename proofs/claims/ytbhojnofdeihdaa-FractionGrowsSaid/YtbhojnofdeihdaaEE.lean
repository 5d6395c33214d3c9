/- What is defined here: how the evaluator carries out a Go function. Nothing is assumed. -/
import Derived.Test.YtbhojnofdeihdaaEA
namespace Go.Proofs.Ytbhojnofdeihdaa.E
set_option autoImplicit false
set_option linter.unusedVariables false

/-- A range over a function under way: the frame that ranges. -/
structure Rnd where
  f : Nat
  nt : Nat
  t : Env
  H : Heap
  ps : List Nat
  assign : Code
  body : Code
  pend : Option Code
structure St where
  f : Nat
  nt : Nat
  t : Env
  H : Heap
  σ : Option Rnd
  /-- 0: a function's frame; 1, 2: a round's, ahead of its begin and behind it -/
  round : Nat
  /-- blocks that stay as they are called -/
  keep : List Nat := []
inductive Res where
  | ret (rs : List A) (σ : Option Rnd)
  | rnd (pend : Option Code) (H : Heap)
structure Eng where
  call : Nat → List A → Option Rnd → Option Res
  yield : Rnd → List A → Option (Bool × Rnd)
  loop : List Item → St → Option Res
/-- Advice: what lives at a loop's head (by function and first region); whose results are the caller's own; what is known from elsewhere. -/
structure Hints where
  live : Nat → Nat → Option (List Nat)
  fresh : Nat → Bool
  orc : Nat → List A → Option (List A)

def evalO (t : Env) : Operand → V
  | .tmp i => (get t i).getD .undef
  | .const v => ofConst v
  | .global _ => .undef
  | .func f => .c (.fn f [])

/-! ### typed results of calls -/
def TL : List Sh → Type
  | [] => Unit
  | [s] => s.T
  | s :: l => s.T × TL l
def decL : (l : List Sh) → List A → Option (TL l)
  | [], [] => some ()
  | [s], [a] => s.dec a
  | s :: s' :: l, a :: as => (s.dec a).bind fun x => (decL (s' :: l) as).bind fun y => some (x, y)
  | _, _ => none
def vL : (l : List Sh) → TL l → List V
  | [], _ => []
  | [s], x => [s.v x]
  | s :: s' :: l, x => s.v x.1 :: vL (s' :: l) x.2
def shL (P : Program) : List TypeId → Option (List Sh)
  | [] => some []
  | t :: ts => (shT P t).bind fun s => (shL P ts).bind fun l => some (s :: l)
/-- A call of a function on plain data, its results typed. -/
def callD (e : Eng) (f : Nat) (as : List A) (l : List Sh) : Option (TL l) :=
  match e.call f as none with
  | some (.ret rs none) => decL l rs
  | _ => none
/-- The same where the function may come to yield. -/
def callS (e : Eng) (f : Nat) (as : List A) (r : Rnd) (l : List Sh) : Option (TL l × Rnd) :=
  match e.call f as (some r) with
  | some (.ret rs (some r')) => (decL l rs).bind fun x => some (x, r')
  | _ => none
/-- A call whose one result is a slice of the caller's own from then on. -/
def callF (e : Eng) (f : Nat) (as : List A) (sz : Nat) : Option (List (List C)) :=
  match e.call f as none with
  | some (.ret [.arr z es] none) => if z = sz then some es else none
  | _ => none
def isYld : A → Bool
  | .yld => true
  | _ => false
def resTs (P : Program) (ty : TypeId) : Option (List TypeId) :=
  match P.underlying ty with
  | some (.tuple ts) => bif Nat.beq ts.toList.length 1 then none else some ts.toList
  | _ => some [ty]
def tupV (P : Program) (ty : TypeId) (l : List V) : V :=
  match P.underlying ty with
  | some (.tuple _) => .tup l
  | _ => (l.head?).getD .undef
def funcOf (H : Heap) : V → Option (Nat × List C × List Nat)
  | .c (.fn f cs) => some (f, cs, [])
  | .clo f caps => (purs H 40 caps).bind fun r => some (f, r.1, r.2)
  | _ => none

section
variable (P : Program) (hs : Hints) (e : Eng)
/-- One operation; K gets its value, what it has looked at, what it does to the memory, and the loop that is ranged over. -/
def operK {α : Type} (st : St) (o : Oper) (K : V → List Rd → List Dl → Option Rnd → Bool → Option α) : Option α :=
  match o.op with
  | .call { callee := .value g, args, .. } =>
    match evalO st.t g with
    | .yld =>
      match st.σ with
      | some r => (purAs st.H (args.toList.map (evalO st.t))).bind fun as =>
          bif as.1.any isYld then none else (e.yield r as.1).bind fun x => K (.c (.bool x.1)) (looks as.2) (frzs as.2) (some x.2) true
      | none => none
    | gv =>
      (funcOf st.H gv).bind fun f => (purAs st.H (args.toList.map (evalO st.t))).bind fun as =>
        bif (as.1.any isYld) then
          match st.σ with
          | some r => ((resTs P o.type).bind (shL P)).bind fun l =>
              (callS e f.1 (as.1 ++ f.2.1.map .one) r l).bind fun x => K (tupV P o.type (vL l x.1)) (looks (f.2.2 ++ as.2)) (frzs (f.2.2 ++ as.2)) (some x.2) true
          | none => none
        else bif hs.fresh f.1 then
          match P.underlying o.type, o.dst with
          | some (.slice el), some d =>
            match get st.H d with
            | none => (callF e f.1 (as.1 ++ f.2.1.map .one) (szT P el)).bind fun es =>
                K (.own d es.length (szT P el)) (.free d :: looks (f.2.2 ++ as.2)) (frzs (f.2.2 ++ as.2) ++ [.new d (.arr (szT P el) es)]) st.σ false
            | some _ => none
          | _, _ => none
        else ((resTs P o.type).bind (shL P)).bind fun l =>
          (callD e f.1 (as.1 ++ f.2.1.map .one) l).bind fun x => K (tupV P o.type (vL l x)) (looks (f.2.2 ++ as.2)) (frzs (f.2.2 ++ as.2)) st.σ false
  | op => opK P st.H (evalO st.t) (o.dst.getD 0) op fun v r l => K v r l st.σ false

structure Rec where
  i : Nat
  rd : List Rd
  dl : List Dl
  y : Bool
def putE (t : Env) : Option Nat → V → Env
  | some d, v => ins d v t
  | none, _ => t
def dstOk (nt : Nat) : Option Nat → Bool
  | some d => Nat.blt d nt
  | none => true
/-- The operations of a region, in the order of the text. -/
def seqK {α : Type} (ops : Array Oper) : List Nat → St → List Rec → (St → List Rec → Option α) → Option α
  | [], st, rs, K => K st rs
  | i :: l, st, rs, K =>
    match ops[i]? with
    | none => none
    | some o =>
      bif dstOk st.nt o.dst then
      match o.guard with
      | none => operK P hs e st o fun v r d s y => seqK ops l { st with t := putE st.t o.dst v, H := appAll d st.H, σ := s } (⟨i, r, d, y⟩ :: rs) K
      | some (j, want) =>
        match (ops[j]?).bind (·.dst) with
        | none => none
        | some dj =>
          match get st.t dj with
          | some (.tup []) => seqK ops l { st with t := putE (ins dj (.tup []) st.t) o.dst (.tup []) } rs K
          | some (.c (.bool p)) =>
            bif p then
              bif want then operK P hs e { st with t := ins dj (.c (.bool true)) st.t } o fun v r d s y => seqK ops l { st with t := putE (ins dj (.c (.bool true)) st.t) o.dst v, H := appAll d st.H, σ := s } (⟨i, r, d, y⟩ :: rs) K
              else seqK ops l { st with t := putE (ins dj (.c (.bool true)) st.t) o.dst (.tup []) } rs K
            else
              bif want then seqK ops l { st with t := putE (ins dj (.c (.bool false)) st.t) o.dst (.tup []) } rs K
              else operK P hs e { st with t := ins dj (.c (.bool false)) st.t } o fun v r d s y => seqK ops l { st with t := putE (ins dj (.c (.bool false)) st.t) o.dst v, H := appAll d st.H, σ := s } (⟨i, r, d, y⟩ :: rs) K
          | _ => none
      else none
end

/-! ### regions whose order is drawn -/
def rdH : Rd → Nat
  | .look h | .stat h | .free h => h
def dlH : Dl → Nat
  | .new h _ | .wr h _ | .frz h | .kill h => h
/-- What is looked at is not what is changed. -/
def rdDl (r : Rd) (d : Dl) : Bool :=
  !(Nat.beq (rdH r) (dlH d)) ||
  match r, d with
  | .look _, .frz _ => true
  | .stat _, .wr _ (.cell _ _) => true
  | .stat _, .wr _ (.pcell _ _) => true
  | _, _ => false
def dlDl (a b : Dl) : Bool :=
  !(Nat.beq (dlH a) (dlH b)) ||
  match a, b with
  | .frz _, .frz _ => true
  | .wr _ (.cell i _), .wr _ (.cell j _) => !(Nat.beq i j)
  | .wr _ (.pcell i _), .wr _ (.pcell j _) => !(Nat.beq i j)
  | _, _ => false
def recOk (a b : Rec) : Bool :=
  !(a.y && b.y) && a.rd.all (fun r => b.dl.all (rdDl r)) && b.rd.all (fun r => a.dl.all (rdDl r)) && a.dl.all (fun x => b.dl.all (dlDl x))
/-- For each operation the ones that come before it in any order: bits of a number. -/
def masks : List Oper → List Nat → List Nat
  | [], acc => acc
  | o :: l, acc => masks l (acc ++ [o.after.toList.foldl (fun s x => if Region.binds .any x then s ||| 2 ^ x.on ||| acc.getD x.on 0 else s) 0])
def apartAll (ops : Array Oper) (ms : List Nat) : Bool :=
  (List.range ops.size).all fun j => (List.range j).all fun i => (ms.getD j 0).testBit i || (match ops[i]?, ops[j]? with | some a, some b => Oper.apart ops a b | _, _ => false)
def recsOk (ms : List Nat) : List Rec → Bool
  | [] => true
  | b :: l => l.all (fun a => (ms.getD b.i 0).testBit a.i || recOk a b) && recsOk ms l
def forward (ops : Array Oper) : Bool := (List.range ops.size).all fun i => match ops[i]? with
  | some o => o.after.all fun x => !Region.binds .any x || Nat.blt x.on i
  | none => false
def drawOk (ops : Array Oper) (rs : List Rec) : Bool := forward ops && apartAll ops (masks ops.toList []) && recsOk (masks ops.toList []) rs

/-! ### the head of a loop -/
mutual
def refsV : V → List Nat
  | .ptr h _ | .eptr h _ _ | .own h _ _ | .mapv h => [h]
  | .clo _ l | .agg l | .tup l => refsL l
  | _ => []
def refsL : List V → List Nat
  | [] => []
  | v :: l => refsV v ++ refsL l
end
def refsS : Slot → List Nat
  | .live (.vs l) _ => refsL l
  | _ => []
def refsE : Env → List Nat
  | [] => []
  | (_, v) :: l => refsV v ++ refsE l
def refsH : Heap → List Nat
  | [] => []
  | (_, s) :: l => refsS s ++ refsH l
def del {α : Type} (d : Nat) (l : List (Nat × α)) : List (Nat × α) := l.filter fun x => !(Nat.beq x.1 d)
def keepE (ks : List Nat) (t : Env) : Env := t.filter fun x => ks.any (Nat.beq x.1)
def keysH (H : Heap) : List Nat := H.map fun x => x.1
def freeH (kp : List Nat) (t : Env) : List Nat → Heap → Heap
  | [], H => H
  | d :: ds, H => freeH kp t ds (bif kp.any (Nat.beq d) || ((refsE t).any (Nat.beq d) || (refsH (del d H)).any (Nat.beq d)) then H else del d H)
mutual
def renV (d m : Nat) : V → V
  | .ptr h o => .ptr (bif Nat.beq h d then m else h) o
  | .eptr h i o => .eptr (bif Nat.beq h d then m else h) i o
  | .own h n z => .own (bif Nat.beq h d then m else h) n z
  | .mapv h => .mapv (bif Nat.beq h d then m else h)
  | .clo f l => .clo f (renL d m l)
  | .agg l => .agg (renL d m l)
  | .tup l => .tup (renL d m l)
  | v => v
def renL (d m : Nat) : List V → List V
  | [] => []
  | v :: l => renV d m v :: renL d m l
end
def renS (d m : Nat) : Slot → Slot
  | .live (.vs l) z => .live (.vs (renL d m l)) z
  | s => s
def renOne (kp : List Nat) (d m : Nat) (t : Env) (H : Heap) : Env × Heap :=
  bif kp.any (Nat.beq d) then (t, H) else
  match get H d, get H m with
  | some s, none => (t.map fun x => (x.1, renV d m x.2), ins m (renS d m s) ((del d H).map fun x => (x.1, renS d m x.2)))
  | _, _ => (t, H)
def renAll (kp : List Nat) : List (Nat × Nat) → Env → Heap → Env × Heap
  | [], t, H => (t, H)
  | (d, m) :: l, t, H =>
    match get H m with
    | some .dead => let H' := freeH kp t [m] H; let r := renOne kp d m t H'; renAll kp l r.1 r.2
    | _ => let r := renOne kp d m t H; renAll kp l r.1 r.2
def firstReg : Code → Nat
  | .region id _ _ => id
  | .seq a _ => firstReg a
  | .cond _ a _ => firstReg a
  | .block _ c => firstReg c
  | .loop c => firstReg c
  | _ => 1000000
def later (d : Nat) : Option (Nat × Nat) := bif Nat.blt d 1000 then some (d, d + 1000) else none
def cleanAt (hs : Hints) (r0 : Nat) (st : St) : St :=
  let t1 := match hs.live st.f r0 with
    | some ks => keepE ks st.t
    | none => st.t
  let H1 := freeH st.keep t1 (keysH st.H) (freeH st.keep t1 (keysH st.H) st.H)
  let r := renAll st.keep ((keysH H1).filterMap later) t1 H1
  { st with t := r.1, H := r.2 }
def clean (hs : Hints) (c : Code) (st : St) : St := cleanAt hs (firstReg c) st

/-! ### code -/
section
variable (P : Program) (hs : Hints)
def resultsK (st : St) : List ResultVar → (List V → Option Res) → Option Res
  | [], K => K []
  | .tmp t :: l, K => resultsK st l fun vs => K (evalO st.t (.tmp t) :: vs)
  | .cell a t :: l, K => loadK P st.H t (evalO st.t (.tmp a)) fun v _ => resultsK st l fun vs => K (v :: vs)
def finish (st : St) (pend : Option Code) : Option Res :=
  match st.round, pend with
  | 2, _ => some (.rnd pend st.H)
  | 0, some (.exit _) => none
  | 0, _ =>
    match P.funcs[st.f]? with
    | none => none
    | some fn => resultsK P st fn.results.toList fun vs =>
        bif hs.fresh st.f then
          match vs with
          | [.own h n _] => match get st.H h with
            | some (.live (.arr sz es) false) => some (.ret [.arr sz es] st.σ)
            | _ => none
          | _ => none
        else (purAs st.H vs).bind fun r => bif r.1.any isYld then none else some (.ret r.1 st.σ)
  | _, _ => none
/-- What is left to do, in a state. The number bounds the steps between two heads of loops. -/
def runIn (e : Eng) : Nat → List Item → St → Option Res
  | 0, _, _ => none
  | n + 1, todo, st =>
    match todo with
    | [] => finish P hs st none
    | .code .ret :: _ => finish P hs st (some .ret)
    | .code .skip :: k | .inBlock _ :: k => runIn e n k st
    | .beginRound :: k => bif Nat.beq st.round 1 then runIn e n k { st with round := 2 } else none
    | .code (.seq a b) :: k => runIn e n (.code a :: .code b :: k) st
    | .code (.cond c x y) :: k => match evalO st.t c with
      | .c (.bool b) => bif b then runIn e n (.code x :: k) st else runIn e n (.code y :: k) st
      | _ => none
    | .code (.block id c) :: k => runIn e n (.code c :: .inBlock id :: k) st
    | .code (.loop c) :: k => e.loop (.inLoop c :: k) (clean hs c st)
    | .inLoop c :: k => e.loop (.inLoop c :: k) (clean hs c st)
    | .code (.exit id) :: k => match exitTo id k with
      | some k' => runIn e n k' st
      | none => finish P hs st (some (.exit id))
    | .code (.region id ops draw) :: k =>
      seqK P hs e ops (List.range ops.size) st [] fun st' rs => bif draw then (bif drawOk ops rs then runIn e n k st' else none) else runIn e n k st'
    | .code (.rangeFunc g ps assign body) :: k =>
      match st.σ, st.round with
      | none, 0 => (funcOf st.H (evalO st.t g)).bind fun f =>
          match e.call f.1 (.yld :: f.2.1.map .one) (some { f := st.f, nt := st.nt, t := st.t, H := appAll (frzs f.2.2) st.H, ps := ps.toList, assign, body, pend := none }) with
          | some (.ret _ (some r)) => match r.pend with
            | none => runIn e n k { st with t := r.t, H := r.H }
            | some c => runIn e n (.code c :: k) { st with t := r.t, H := r.H }
          | _ => none
      | _, _ => none
    | _ => none
def steps : Nat := 100000
def enter (f nt : Nat) (as : List A) (σ : Option Rnd) : St :=
  { f, nt, t := (as.map A.v).zipIdx.map fun x => (x.2, x.1), H := [], σ, round := 0 }
def putAll : List Nat → List V → Env → Env
  | p :: ps, v :: vs, t => putAll ps vs (ins p v t)
  | _, _, t => t
/-- The evaluator; the number bounds calls within calls and rounds of loops. -/
def eng : Nat → Eng
  | 0 => { call := fun _ _ _ => none, yield := fun _ _ => none, loop := fun _ _ => none }
  | n + 1 =>
    { call := fun f as σ =>
        match hs.orc f as, σ with
        | some rs, none => some (.ret rs none)
        | _, _ => match P.funcs[f]? with
          | some fn => match fn.body with
            | some c => runIn P hs (eng n) steps [.code c] (enter f fn.ntmps as σ)
            | none => none
          | none => none
      yield := fun r as =>
        bif r.pend.isSome || !(Nat.beq as.length r.ps.length) || as.any isYld || !(r.ps.all fun p => Nat.blt p r.nt) then none else
        match runIn P hs (eng n) steps [.code r.assign, .beginRound, .code r.body] { f := r.f, nt := r.nt, t := putAll r.ps (as.map A.v) r.t, H := r.H, σ := none, round := 1, keep := refsE r.t } with
        | some (.rnd pend H) => some (pend.isNone, { r with H := freeH [] r.t (keysH H) (freeH [] r.t (keysH H) H), pend })
        | _ => none
      loop := fun todo st =>
        match todo with
        | .inLoop c :: k => runIn P hs (eng n) steps (.code c :: .inLoop c :: k) st
        | _ => none }
end
end Go.Proofs.Ytbhojnofdeihdaa.E
