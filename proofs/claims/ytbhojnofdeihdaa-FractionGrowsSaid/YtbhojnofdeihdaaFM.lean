/- What is defined here: when a font is valid, and what is looked up in it, in plain words; lemmas for reading the functions' residuals. -/
import Derived.Test.YtbhojnofdeihdaaET
namespace Go.Proofs.Ytbhojnofdeihdaa.E
open Go.RowKit
set_option autoImplicit false
set_option linter.unusedVariables false
set_option linter.unusedSimpArgs false

theorem ba_beq (a b : ByteArray) : (a == b) = decide (a = b) := by
  rw [Bool.eq_iff_iff, decide_eq_true_iff]
  cases a with | mk a => cases b with | mk b =>
    show ((a == b) = true) ↔ _
    rw [beq_iff_eq, ByteArray.mk.injEq]
theorem str_beq (a b : ByteArray) : (a.toList == b.toList) = decide (a = b) := by
  rw [← ba_beq]
  simp only [ByteArray.toList_eq]
  cases a with | mk a => cases b with | mk b =>
    show (a.toList == b.toList) = (a == b)
    rw [Bool.eq_iff_iff, beq_iff_eq, beq_iff_eq, Array.toList_inj]

theorem asI_i (k : IntKind) (n : Int) : asI k (some (.int k n)) = some n := by simp [asI]
theorem asB_b (b : Bool) : asB (some (.bool b)) = some b := rfl
theorem asS_s (s : ByteArray) : asS (some (.str s)) = some s := rfl
theorem asL_l (l : List (List C)) : asL (some (.sl l)) = some l := rfl
theorem asP_p (cs : List C) (o : Nat) : asP (some (.rp cs o)) = some (cs, o) := rfl
theorem asF_f (f : Nat) (cs : List C) : asF (some (.fn f cs)) = some (f, cs) := rfl
theorem asM_m (m : List (ByteArray × C)) : asM (some (.mp m)) = some m := rfl

/-- A call, and what is done with its results. -/
theorem cb_bool {α : Type} {e : Eng} {f : Nat} {as : List A} {b : Bool} {K : Bool → Option α} (h : e.call f as none = some (.ret [.one (.bool b)] none)) : (callD e f as [.bool]).bind K = K b := by
  unfold callD; rw [h]; rfl
theorem cb_int {α : Type} {e : Eng} {f : Nat} {as : List A} {k : IntKind} {n : Int} {K : Int → Option α} (h : e.call f as none = some (.ret [.one (.int k n)] none)) : (callD e f as [.int k]).bind K = K n := by
  unfold callD; rw [h]; show (if k = k then some n else none).bind K = _; rw [if_pos rfl]; rfl
theorem cb_str {α : Type} {e : Eng} {f : Nat} {as : List A} {n : ByteArray} {K : ByteArray → Option α} (h : e.call f as none = some (.ret [.one (.str n)] none)) : (callD e f as [.str]).bind K = K n := by
  unfold callD; rw [h]; rfl
theorem cb_sl {α : Type} {e : Eng} {f : Nat} {as : List A} {n : List (List C)} {K : List (List C) → Option α} (h : e.call f as none = some (.ret [.one (.sl n)] none)) : (callD e f as [.sl]).bind K = K n := by
  unfold callD; rw [h]; rfl
theorem cb_agg {α : Type} {e : Eng} {f : Nat} {as : List A} {m : Nat} {n : List C} {K : List C → Option α} (h : e.call f as none = some (.ret [.agg m n] none)) : (callD e f as [.agg m]).bind K = K n := by
  unfold callD; rw [h]; show (if m = m then some n else none).bind K = _; rw [if_pos rfl]; rfl
theorem cb_aggI {α : Type} {e : Eng} {f : Nat} {as : List A} {m : Nat} {n : List C} {k : IntKind} {i : Int} {K : List C × Int → Option α} (h : e.call f as none = some (.ret [.agg m n, .one (.int k i)] none)) : (callD e f as [.agg m, .int k]).bind K = K (n, i) := by
  unfold callD; rw [h]; show ((if m = m then some n else none).bind fun x => (if k = k then some i else none).bind fun y => some (x, y)).bind K = _; rw [if_pos rfl, if_pos rfl]; rfl
theorem cb_aggB {α : Type} {e : Eng} {f : Nat} {as : List A} {m : Nat} {n : List C} {b : Bool} {K : List C × Bool → Option α} (h : e.call f as none = some (.ret [.agg m n, .one (.bool b)] none)) : (callD e f as [.agg m, .bool]).bind K = K (n, b) := by
  unfold callD; rw [h]; show ((if m = m then some n else none).bind fun x => (some b).bind fun y => some (x, y)).bind K = _; rw [if_pos rfl]; rfl
theorem cb_II {α : Type} {e : Eng} {f : Nat} {as : List A} {k j : IntKind} {m n : Int} {K : Int × Int → Option α} (h : e.call f as none = some (.ret [.one (.int k m), .one (.int j n)] none)) : (callD e f as [.int k, .int j]).bind K = K (m, n) := by
  unfold callD; rw [h]; show ((if k = k then some m else none).bind fun x => (if j = j then some n else none).bind fun y => some (x, y)).bind K = _; rw [if_pos rfl, if_pos rfl]; rfl
theorem cb_IB {α : Type} {e : Eng} {f : Nat} {as : List A} {k : IntKind} {m : Int} {b : Bool} {K : Int × Bool → Option α} (h : e.call f as none = some (.ret [.one (.int k m), .one (.bool b)] none)) : (callD e f as [.int k, .bool]).bind K = K (m, b) := by
  unfold callD; rw [h]; show ((if k = k then some m else none).bind fun x => (some b).bind fun y => some (x, y)).bind K = _; rw [if_pos rfl]; rfl

/-- What is read at the head of a loop over the rest of a list. -/
theorem at_cons {α β : Type} (f : α → β) {l pre rest : List α} {a : α} (h : l = pre ++ a :: rest) (hb : I64 l.length) :
    decide ((pre.length : Int) < (l.length : Int)) = true ∧ decide ((0 : Int) ≤ (pre.length : Int)) = true ∧ (l.map f)[((pre.length : Nat) : Int).toNat]? = some (f a) ∧ IntKind.i64.wrap ((pre.length : Int) + 1) = ((pre ++ [a]).length : Int) := by
  subst h
  obtain ⟨h1, h2⟩ := hb
  simp only [List.length_append, List.length_cons] at h2
  refine ⟨by simp; omega, by simp, by simp, ?_⟩
  rw [wr_id ⟨by omega, by push_cast at h2 ⊢; omega⟩]; simp
theorem at_nil {α : Type} {l pre : List α} (h : l = pre ++ []) : decide ((pre.length : Int) < (l.length : Int)) = false := by
  subst h; simp

theorem maxI_eq (a b : Int) : maxI .max a b = max a b := by
  show (if b > a then b else a) = _
  rw [Int.max_def]; split <;> split <;> omega
theorem minI_eq (a b : Int) : maxI .min a b = min a b := by
  show (if b < a then b else a) = _
  rw [Int.min_def]; split <;> split <;> omega

/-! ### rounding -/
/-- A quotient, rounded half away from zero. -/
def rd (b a : Int) : Int := if 0 ≤ a then (2 * a + b) / (2 * b) else -((2 * (-a) + b) / (2 * b))
def isLen (n : Int) : Bool := decide (-1073741824 ≤ n) && decide (n ≤ 1073741824)
def scl (n p : Int) : Int := if isLen n = true ∧ 0 ≤ p ∧ p ≤ 10000 then rd 100 (n * p) else 0
def hlf (n : Int) : Int := if isLen n = true then rd 2 n else 0
theorem mul_bd {n p A B : Int} (h1 : -A ≤ n) (h2 : n ≤ A) (h3 : 0 ≤ p) (h4 : p ≤ B) : -(A * B) ≤ n * p ∧ n * p ≤ A * B := by
  have hA : 0 ≤ A := by omega
  have h5 : n * p ≤ A * p := Int.mul_le_mul_of_nonneg_right h2 h3
  have h6 : A * p ≤ A * B := Int.mul_le_mul_of_nonneg_left h4 hA
  have h7 : (-A) * p ≤ n * p := Int.mul_le_mul_of_nonneg_right h1 h3
  have h8 : (-A) * p = -(A * p) := Int.neg_mul A p
  omega
theorem tdivmod (a b : Int) (hb : 0 < b) : (0 ≤ a → a.tdiv b = a / b ∧ a.tmod b = a % b) ∧ (a < 0 → a.tdiv b = -((-a) / b) ∧ a.tmod b = -((-a) % b)) := by
  refine ⟨fun h => ⟨Int.tdiv_eq_ediv_of_nonneg h, Int.tmod_eq_emod_of_nonneg h⟩, fun h => ?_⟩
  have h1 : a = -(-a) := by omega
  have h2 : 0 ≤ -a := by omega
  refine ⟨?_, ?_⟩
  · conv => lhs; rw [h1]
    rw [Int.neg_tdiv, Int.tdiv_eq_ediv_of_nonneg h2]
  · conv => lhs; rw [h1]
    rw [Int.neg_tmod, Int.tmod_eq_emod_of_nonneg h2]

/-! ### fonts -/
def nameB (s : ByteArray) : Bool := decide (1 ≤ s.size) && decide (s.size ≤ 16) && s.data.toList.all fun c => decide (32 ≤ c.toNat) && decide (c.toNat ≤ 126)
def metB (n : Int) : Bool := decide (-20000 ≤ n) && decide (n ≤ 20000)
def Gl.metB (g : Gl) : Bool := E.metB g.w && E.metB g.h && E.metB g.d && E.metB g.it && E.metB g.att
def Gl.hgt (g : Gl) : Int := g.h + g.d
def Gl.okB (g : Gl) : Bool := nameB g.name && g.metB && decide (0 ≤ g.w)
def lenB (n : Int) : Bool := decide (0 ≤ n) && decide (n ≤ 20000)
def pctB (n : Int) : Bool := decide (1 ≤ n) && decide (n ≤ 100)
def Par.pcts (p : Par) : List Int := [p.scr, p.sscr, p.dpc]
def Par.lens (p : Par) : List Int := [p.quad, p.xh, p.axis, p.rule, p.num1, p.num2, p.den1, p.den2, p.sup1, p.sup2, p.sup3, p.sub1, p.sub2, p.supd, p.subd, p.dsh, p.acc]
def Par.okB (p : Par) : Bool := p.pcts.all pctB && p.lens.all lenB
def find (l : List Gl) (s : ByteArray) : Option Gl := l.find? fun g => decide (g.name = s)
def findSt (l : List Stc) (s : ByteArray) : Option Stc := l.find? fun g => decide (g.name = s)
def glB (l : List Gl) : Bool := l.all Gl.okB && decide ((l.map Gl.name).Nodup)
def sizesB (gl : List Gl) : Option Int → List ByteArray → Bool
  | _, [] => true
  | last, s :: l => match find gl s with
    | none => false
    | some g => (match last with | none => true | some h => decide (h < g.hgt)) && sizesB gl (some g.hgt) l
def partB (gl : List Gl) (o : Int) (p : Pt) : Bool := match find gl p.name with
  | none => false
  | some g => decide (0 ≤ o) && decide (o < g.hgt)
def Stc.okB (gl : List Gl) (s : Stc) : Bool :=
  nameB s.name && decide (1 ≤ s.sizes.length) && decide (s.sizes.length ≤ 16) && decide (s.parts.length ≤ 8) && sizesB gl none s.sizes &&
  (match s.parts with
    | [] => decide (s.over = 0)
    | p :: l => (p :: l).all (partB gl s.over) && (p :: l).any Pt.ext)
def stB (gl : List Gl) (l : List Stc) : Bool := l.all (Stc.okB gl) && decide ((l.map Stc.name).Nodup)
def Fnt.valid (f : Fnt) : Bool := glB f.gl && (stB f.gl f.st && (decide (f.gl.length ≤ 400) && (decide (f.st.length ≤ 40) && f.par.okB)))
/-- The fonts that the statements speak of. -/
structure Fnt.few (f : Fnt) : Prop where
  gl : f.gl.length ≤ 500
  st : f.st.length ≤ 50
  sz : ∀ s ∈ f.st, s.sizes.length ≤ 50 ∧ s.parts.length ≤ 50

theorem glB_bad {l pre rest : List Gl} {a : Gl} (h : l = pre ++ a :: rest) (hb : a.okB = false ∨ a.name ∈ pre.map Gl.name) : glB l = false := by
  subst h
  unfold glB
  rcases hb with hb | hb
  · simp [hb]
  · rw [Bool.and_eq_false_iff]; right
    simp only [List.map_append, List.map_cons, decide_eq_false_iff_not]
    intro hn
    rw [List.nodup_append] at hn
    exact hn.2.2 a.name hb a.name (by simp) rfl
theorem glB_snoc {pre : List Gl} {a : Gl} (h : glB pre = true) (ha : a.okB = true) (hn : a.name ∉ pre.map Gl.name) : glB (pre ++ [a]) = true := by
  unfold glB at *
  simp only [Bool.and_eq_true, decide_eq_true_eq] at h
  obtain ⟨h1, h2⟩ := h
  simp only [List.all_append, List.all_cons, List.all_nil, Bool.and_true, h1, ha, Bool.true_and, List.map_append, List.map_cons, List.map_nil, decide_eq_true_eq]
  rw [List.nodup_append]
  refine ⟨h2, by simp, fun x hx y hy => ?_⟩
  simp at hy; subst hy
  rintro rfl; exact hn hx
theorem stB_bad {gl : List Gl} {l pre rest : List Stc} {a : Stc} (h : l = pre ++ a :: rest) (hb : a.okB gl = false ∨ a.name ∈ pre.map Stc.name) : stB gl l = false := by
  subst h
  unfold stB
  rcases hb with hb | hb
  · simp [hb]
  · rw [Bool.and_eq_false_iff]; right
    simp only [List.map_append, List.map_cons, decide_eq_false_iff_not]
    intro hn
    rw [List.nodup_append] at hn
    exact hn.2.2 a.name hb a.name (by simp) rfl
theorem stB_snoc {gl : List Gl} {pre : List Stc} {a : Stc} (h : stB gl pre = true) (ha : a.okB gl = true) (hn : a.name ∉ pre.map Stc.name) : stB gl (pre ++ [a]) = true := by
  unfold stB at *
  simp only [Bool.and_eq_true, decide_eq_true_eq] at h
  obtain ⟨h1, h2⟩ := h
  simp only [List.all_append, List.all_cons, List.all_nil, Bool.and_true, h1, ha, Bool.true_and, List.map_append, List.map_cons, List.map_nil, decide_eq_true_eq]
  rw [List.nodup_append]
  refine ⟨h2, by simp, fun x hx y hy => ?_⟩
  simp at hy; subst hy
  rintro rfl; exact hn hx

/-- The map from names to heights. -/
def hts (l : List Gl) : List (ByteArray × C) := l.map fun g => (g.name, .int .i64 g.hgt)
theorem mapGet_hts (l : List Gl) (s : ByteArray) : mapGet (hts l) s = (find l s).map fun g => C.int .i64 g.hgt := by
  induction l with
  | nil => rfl
  | cons a l ih =>
    by_cases h : a.name = s
    · simp [hts, mapGet, find, List.find?_cons, ba_beq, h]
    · have := ih
      simp only [hts, find] at this
      simp [hts, mapGet, find, List.find?_cons, ba_beq, h, Ne.symm h, eq_comm, this]
theorem entI_hts (l : List Gl) (s : ByteArray) : entI .i64 (hts l) s = some (match find l s with | none => (0, false) | some g => (g.hgt, true)) := by
  unfold entI; rw [mapGet_hts]
  cases find l s with
  | none => rfl
  | some g => simp [asI]
theorem find_none {l : List Gl} {s : ByteArray} : find l s = none ↔ s ∉ l.map Gl.name := by
  unfold find
  rw [List.find?_eq_none]
  simp only [decide_eq_true_eq, List.mem_map, not_exists, not_and]
theorem mapSet_hts {l : List Gl} {a : Gl} (h : find l a.name = none) : mapSet (hts l) a.name (.int .i64 a.hgt) = hts (l ++ [a]) := by
  induction l with
  | nil => rfl
  | cons b l ih =>
    unfold find at h ih
    rw [List.find?_cons] at h
    split at h
    · cases h
    · next hb =>
      have hb' : ¬ b.name = a.name := by simpa using hb
      have := ih h
      simp only [hts] at this
      have hb2 : ¬ a.name = b.name := fun h => hb' h.symm
      simp [hts, mapSet, ba_beq, hb2, this]
/-- The set of names. -/
def nms (l : List Stc) : List (ByteArray × C) := l.map fun g => (g.name, .bool true)
theorem mapGet_nms (l : List Stc) (s : ByteArray) : mapGet (nms l) s = (findSt l s).map fun g => C.bool true := by
  induction l with
  | nil => rfl
  | cons a l ih =>
    by_cases h : a.name = s
    · simp [nms, mapGet, findSt, List.find?_cons, ba_beq, h]
    · have := ih
      simp only [nms, findSt] at this
      simp [nms, mapGet, findSt, List.find?_cons, ba_beq, h, Ne.symm h, eq_comm, this]
theorem entB_nms (l : List Stc) (s : ByteArray) : entB (nms l) s = some ((findSt l s).isSome, (findSt l s).isSome) := by
  unfold entB; rw [mapGet_nms]
  cases findSt l s with
  | none => rfl
  | some g => simp [asB]
theorem findSt_none {l : List Stc} {s : ByteArray} : findSt l s = none ↔ s ∉ l.map Stc.name := by
  unfold findSt
  rw [List.find?_eq_none]
  simp only [decide_eq_true_eq, List.mem_map, not_exists, not_and]
theorem mapSet_nms {l : List Stc} {a : Stc} (h : findSt l a.name = none) : mapSet (nms l) a.name (.bool true) = nms (l ++ [a]) := by
  induction l with
  | nil => rfl
  | cons b l ih =>
    unfold findSt at h ih
    rw [List.find?_cons] at h
    split at h
    · cases h
    · next hb =>
      have hb' : ¬ b.name = a.name := by simpa using hb
      have := ih h
      simp only [nms] at this
      have hb2 : ¬ a.name = b.name := fun h => hb' h.symm
      simp [nms, mapSet, ba_beq, hb2, this]
end Go.Proofs.Ytbhojnofdeihdaa.E
