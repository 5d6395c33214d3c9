/- What is defined here: when a box is valid, how many boxes it has, in plain words. -/
import Derived.Test.YtbhojnofdeihdaaFM
namespace Go.Proofs.Ytbhojnofdeihdaa.E
open Go.RowKit
set_option autoImplicit false
set_option linter.unusedVariables false
set_option linter.unusedSimpArgs false

mutual
/-- All boxes of a box, itself first. -/
def flat : Bx → List Bx
  | ⟨k, nm, s, w, h, d, x, y, kids, o, src⟩ => ⟨k, nm, s, w, h, d, x, y, kids, o, src⟩ :: flats kids
def flats : List Bx → List Bx
  | [] => []
  | b :: l => flat b ++ flats l
end
theorem flat_eq (b : Bx) : flat b = b :: flats b.kids := by cases b; rfl
theorem flats_append (l m : List Bx) : flats (l ++ m) = flats l ++ flats m := by
  induction l with
  | nil => rfl
  | cons b l ih => simp [flats, ih]
mutual
/-- The number of boxes on a longest path. -/
def dep : Bx → Nat
  | ⟨k, nm, s, w, h, d, x, y, kids, o, src⟩ => deps kids + 1
def deps : List Bx → Nat
  | [] => 0
  | b :: l => max (dep b) (deps l)
end
theorem dep_eq (b : Bx) : dep b = deps b.kids + 1 := by cases b; rfl
def srcB (b : Bx) : Bool :=
  b.src.all (fun n => decide (0 ≤ n)) &&
  (if b.of = 0 then decide (b.src.length = 0) else if b.of = 1 then decide (b.src.length % 2 = 0) && decide (b.src.length ≤ 48) else if b.of = 2 then decide (b.src.length % 2 = 1) && decide (b.src.length ≤ 49) else false)
def dimB (b : Bx) : Bool := isLen b.w && isLen b.h && isLen b.d && isLen b.x && isLen b.y
def kindB (b : Bx) : Bool :=
  if b.kind = 1 then nameB b.name && (decide (1 ≤ b.size) && (decide (b.size ≤ 1000) && decide (b.kids.length = 0)))
  else if b.kind = 2 then decide (b.name = ⟨#[]⟩) && (decide (b.size = 0) && decide (b.kids.length = 0))
  else if b.kind = 3 then decide (b.name = ⟨#[]⟩) && decide (b.size = 0) else false
/-- A box without regard to its kids. -/
def prpB (b : Bx) : Bool := dimB b && (kindB b && srcB b)
def Bx.valid (b : Bx) : Bool := (decide ((flat b).length ≤ 20000) && (flat b).all prpB) && decide (dep b ≤ 100)
mutual
theorem dep_le : (b : Bx) → dep b ≤ (flat b).length
  | ⟨k, nm, s, w, h, d, x, y, kids, o, src⟩ => by
    have := deps_le kids
    simp only [dep, flat, List.length_cons]; omega
theorem deps_le : (l : List Bx) → deps l ≤ (flats l).length
  | [] => by simp [deps]
  | b :: l => by
    have h1 := dep_le b
    have h2 := deps_le l
    simp only [deps, flats, List.length_append]; omega
end
theorem valid_prp {b : Bx} (h : b.valid = true) : prpB b = true := by
  unfold Bx.valid at h
  rw [flat_eq] at h
  simp only [List.all_cons, Bool.and_eq_true] at h
  exact h.1.2.1
theorem valid_dim {b : Bx} (h : b.valid = true) : isLen b.w = true ∧ isLen b.h = true ∧ isLen b.d = true ∧ isLen b.x = true ∧ isLen b.y = true := by
  have := valid_prp h
  simp only [prpB, dimB, Bool.and_eq_true] at this
  obtain ⟨⟨⟨⟨⟨a, b⟩, c⟩, d⟩, e⟩, _⟩ := this
  exact ⟨a, b, c, d, e⟩
def Bx.at (b : Bx) (x y : Int) : Bx := { b with x := x, y := y }
def Bx.rule (w h d : Int) : Bx := ⟨2, ⟨#[]⟩, 0, w, h, d, 0, 0, [], 0, []⟩
def Bx.list (w h d : Int) (kids : List Bx) : Bx := ⟨3, ⟨#[]⟩, 0, w, h, d, 0, 0, kids, 0, []⟩
theorem at_c (b : Bx) (x y : Int) : (b.at x y).c = ((b.c).set 6 (.int .i64 x)).set 7 (.int .i64 y) := by
  rw [Bx.c_eq, Bx.c_eq]; rfl
theorem Bx.len11 (b : Bx) : b.c.length.beq 11 = true := by rw [Bx.c_eq]; rfl
section
variable (b : Bx)
theorem Bx.c0 : b.c[0]? = some (.int .i64 b.kind) := by rw [Bx.c_eq]; rfl
theorem Bx.c1 : b.c[1]? = some (.str b.name) := by rw [Bx.c_eq]; rfl
theorem Bx.c2 : b.c[2]? = some (.int .i64 b.size) := by rw [Bx.c_eq]; rfl
theorem Bx.c3 : b.c[3]? = some (.int .i64 b.w) := by rw [Bx.c_eq]; rfl
theorem Bx.c4 : b.c[4]? = some (.int .i64 b.h) := by rw [Bx.c_eq]; rfl
theorem Bx.c5 : b.c[5]? = some (.int .i64 b.d) := by rw [Bx.c_eq]; rfl
theorem Bx.c6 : b.c[6]? = some (.int .i64 b.x) := by rw [Bx.c_eq]; rfl
theorem Bx.c7 : b.c[7]? = some (.int .i64 b.y) := by rw [Bx.c_eq]; rfl
theorem Bx.c8 : b.c[8]? = some (.sl (b.kids.map Bx.c)) := by rw [Bx.c_eq]; rfl
theorem Bx.c9 : b.c[9]? = some (.int .i64 b.of) := by rw [Bx.c_eq]; rfl
theorem Bx.c10 : b.c[10]? = some (.sl (ints b.src)) := by rw [Bx.c_eq]; rfl
end
end Go.Proofs.Ytbhojnofdeihdaa.E
