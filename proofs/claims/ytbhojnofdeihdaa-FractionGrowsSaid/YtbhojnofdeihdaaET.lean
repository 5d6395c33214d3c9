/- What is defined here: fonts, styles and boxes as plain data; what it means that a function comes to a result. -/
import Derived.Test.YtbhojnofdeihdaaEI
import Derived.IntWalk
namespace Go.Proofs.Ytbhojnofdeihdaa.E
open Go.RowKit
set_option autoImplicit false
set_option linter.unusedVariables false
set_option linter.unusedSimpArgs false

/-- A number of 64 bits. -/
def I64 (n : Int) : Prop := -9223372036854775808 ≤ n ∧ n ≤ 9223372036854775807
theorem I64.of_wf {n : Int} (h : (Lit.int .i64 n).wf = true) : I64 n := by
  have h1 : IntKind.i64.min = -9223372036854775808 := by decide
  have h2 : IntKind.i64.max = 9223372036854775807 := by decide
  simp only [Lit.wf, h1, h2, Bool.and_eq_true, decide_eq_true_eq] at h
  exact h
theorem wr_id {n : Int} (h : I64 n) : IntKind.i64.wrap n = n := Go.IntWalk.i64_in n h

structure Gl where
  name : ByteArray
  w : Int
  h : Int
  d : Int
  it : Int
  att : Int
def Gl.c (g : Gl) : List C := [.str g.name, .int .i64 g.w, .int .i64 g.h, .int .i64 g.d, .int .i64 g.it, .int .i64 g.att]
def Gl.ok (g : Gl) : Prop := I64 g.name.size ∧ I64 g.w ∧ I64 g.h ∧ I64 g.d ∧ I64 g.it ∧ I64 g.att
def Gl.zero : Gl := ⟨⟨#[]⟩, 0, 0, 0, 0, 0⟩
structure Pt where
  name : ByteArray
  ext : Bool
def Pt.c (p : Pt) : List C := [.str p.name, .bool p.ext]
structure Stc where
  name : ByteArray
  sizes : List ByteArray
  parts : List Pt
  over : Int
def strs (l : List ByteArray) : List (List C) := l.map fun s => [.str s]
def ints (l : List Int) : List (List C) := l.map fun n => [.int .i64 n]
def Stc.c (s : Stc) : List C := [.str s.name, .sl (strs s.sizes), .sl (s.parts.map Pt.c), .int .i64 s.over]
def Stc.ok (s : Stc) : Prop := I64 s.name.size ∧ I64 s.over
def Stc.zero : Stc := ⟨⟨#[]⟩, [], [], 0⟩
structure Par where
  quad : Int
  xh : Int
  axis : Int
  rule : Int
  num1 : Int
  num2 : Int
  den1 : Int
  den2 : Int
  sup1 : Int
  sup2 : Int
  sup3 : Int
  sub1 : Int
  sub2 : Int
  supd : Int
  subd : Int
  scr : Int
  sscr : Int
  dpc : Int
  dsh : Int
  acc : Int
def Par.l (p : Par) : List Int := [p.quad, p.xh, p.axis, p.rule, p.num1, p.num2, p.den1, p.den2, p.sup1, p.sup2, p.sup3, p.sub1, p.sub2, p.supd, p.subd, p.scr, p.sscr, p.dpc, p.dsh, p.acc]
def Par.c (p : Par) : List C := [.int .i64 p.quad, .int .i64 p.xh, .int .i64 p.axis, .int .i64 p.rule, .int .i64 p.num1, .int .i64 p.num2, .int .i64 p.den1, .int .i64 p.den2, .int .i64 p.sup1, .int .i64 p.sup2, .int .i64 p.sup3,
  .int .i64 p.sub1, .int .i64 p.sub2, .int .i64 p.supd, .int .i64 p.subd, .int .i64 p.scr, .int .i64 p.sscr, .int .i64 p.dpc, .int .i64 p.dsh, .int .i64 p.acc]
def Par.ok (p : Par) : Prop := ∀ n ∈ p.l, I64 n
structure Fnt where
  gl : List Gl
  st : List Stc
  par : Par
def Fnt.c (f : Fnt) : List C := .sl (f.gl.map Gl.c) :: .sl (f.st.map Stc.c) :: f.par.c
structure Fnt.ok (f : Fnt) : Prop where
  gl : ∀ g ∈ f.gl, g.ok
  st : ∀ s ∈ f.st, s.ok
  par : f.par.ok
structure Sty where
  lev : Int
  cr : Bool
def Sty.c (s : Sty) : List C := [.int .i64 s.lev, .bool s.cr]
def Sty.ok (s : Sty) : Prop := I64 s.lev
structure Bx where
  kind : Int
  name : ByteArray
  size : Int
  w : Int
  h : Int
  d : Int
  x : Int
  y : Int
  kids : List Bx
  of : Int
  src : List Int
mutual
def Bx.c : Bx → List C
  | ⟨k, nm, s, w, h, d, x, y, kids, o, src⟩ => [.int .i64 k, .str nm, .int .i64 s, .int .i64 w, .int .i64 h, .int .i64 d, .int .i64 x, .int .i64 y, .sl (Bx.cs kids), .int .i64 o, .sl (ints src)]
def Bx.cs : List Bx → List (List C)
  | [] => []
  | b :: l => b.c :: Bx.cs l
end
theorem Bx.cs_map (l : List Bx) : Bx.cs l = l.map Bx.c := by
  induction l with
  | nil => rfl
  | cons b l ih => simp [Bx.cs, ih]
theorem Bx.c_eq (b : Bx) : b.c = [.int .i64 b.kind, .str b.name, .int .i64 b.size, .int .i64 b.w, .int .i64 b.h, .int .i64 b.d, .int .i64 b.x, .int .i64 b.y, .sl (b.kids.map Bx.c), .int .i64 b.of, .sl (ints b.src)] := by
  rw [← Bx.cs_map]; cases b; rfl
def Bx.zero : Bx := ⟨0, ⟨#[]⟩, 0, 0, 0, 0, 0, 0, [], 0, []⟩
/-- All numbers of a box, but for those of its kids, have 64 bits. -/
def Bx.ok1 (b : Bx) : Prop := I64 b.kind ∧ I64 b.name.size ∧ I64 b.size ∧ I64 b.w ∧ I64 b.h ∧ I64 b.d ∧ I64 b.x ∧ I64 b.y ∧ I64 b.of ∧ (∀ n ∈ b.src, I64 n) ∧ I64 b.src.length ∧ I64 b.kids.length
mutual
def Bx.ok : Bx → Prop
  | ⟨k, nm, s, w, h, d, x, y, kids, o, src⟩ => Bx.ok1 ⟨k, nm, s, w, h, d, x, y, kids, o, src⟩ ∧ Bx.oks kids
def Bx.oks : List Bx → Prop
  | [] => True
  | b :: l => b.ok ∧ Bx.oks l
end
theorem Bx.oks_iff (l : List Bx) : Bx.oks l ↔ ∀ b ∈ l, b.ok := by
  induction l with
  | nil => simp [Bx.oks]
  | cons b l ih => simp [Bx.oks, ih]
theorem Bx.ok_iff (b : Bx) : b.ok ↔ b.ok1 ∧ ∀ k ∈ b.kids, k.ok := by
  rw [← Bx.oks_iff]; cases b; rfl

/-- What holds for all great numbers. -/
def Ev (p : Nat → Prop) : Prop := ∃ M, ∀ n, M ≤ n → p n
theorem Ev.all {p : Nat → Prop} (h : ∀ n, p n) : Ev p := ⟨0, fun n _ => h n⟩
theorem Ev.and {p q : Nat → Prop} (h : Ev p) (k : Ev q) : Ev fun n => p n ∧ q n := by
  obtain ⟨a, h⟩ := h
  obtain ⟨b, k⟩ := k
  exact ⟨max a b, fun n hn => ⟨h n (by omega), k n (by omega)⟩⟩
theorem Ev.mono {p q : Nat → Prop} (h : Ev p) (k : ∀ n, p n → q n) : Ev q := by
  obtain ⟨a, h⟩ := h
  exact ⟨a, fun n hn => k n (h n hn)⟩
/-- One step more. -/
theorem Ev.next {p q : Nat → Prop} (h : Ev p) (k : ∀ n, p n → q (n + 1)) : Ev q := by
  obtain ⟨a, h⟩ := h
  refine ⟨a + 1, fun n hn => ?_⟩
  obtain ⟨m, rfl⟩ : ∃ m, n = m + 1 := ⟨n - 1, by omega⟩
  exact k m (h m (by omega))
theorem Ev.step {q : Nat → Prop} (k : ∀ n, q (n + 1)) : Ev q := Ev.next (p := fun _ => True) ⟨0, fun _ _ => trivial⟩ fun n _ => k n
theorem Ev.const {p : Nat → Prop} {α : Prop} (h : α) (k : α → Ev p) : Ev p := k h
/-- Function f, called with as, comes to rs. -/
def Says (P : Program) (hs : Hints) (f : Nat) (as rs : List A) : Prop := Ev fun n => (eng P hs n).call f as none = some (.ret rs none)
end Go.Proofs.Ytbhojnofdeihdaa.E
