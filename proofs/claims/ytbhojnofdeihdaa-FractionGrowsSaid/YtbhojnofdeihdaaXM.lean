/- What is defined here: the fraction of two boxes, in plain words; bounds of scaled lengths. -/
import Derived.Test.YtbhojnofdeihdaaBM
import Derived.Test.YtbhojnofdeihdaaSM
namespace Go.Proofs.Ytbhojnofdeihdaa.E
open Go.RowKit
set_option autoImplicit false
set_option linter.unusedVariables false
set_option linter.unusedSimpArgs false
theorem rd_le {a : Int} (h0 : 0 ≤ a) (h1 : a ≤ 2000000) : 0 ≤ rd 100 a ∧ rd 100 a ≤ 20000 := by
  unfold rd; rw [if_pos h0]; omega
theorem scl_par {n p : Int} (h : lenB n = true) (h1 : 1 ≤ p) (h2 : p ≤ 100) : 0 ≤ scl n p ∧ scl n p ≤ 20000 := by
  simp only [lenB, Bool.and_eq_true, decide_eq_true_eq] at h
  unfold scl
  split
  · have h3 : 0 ≤ n * p := Int.mul_nonneg h.1 (by omega)
    have h4 := mul_bd (n := n) (p := p) (A := 20000) (B := 100) (by omega) h.2 (by omega) h2
    exact rd_le h3 (by omega)
  · omega
theorem hlf_bd (n : Int) : -536870912 ≤ hlf n ∧ hlf n ≤ 536870912 := by
  unfold hlf
  split
  · next h =>
    simp only [isLen, Bool.and_eq_true, decide_eq_true_eq] at h
    unfold rd; split <;> omega
  · omega
theorem len_bd {n : Int} (h : isLen n = true) : -1073741824 ≤ n ∧ n ≤ 1073741824 := by
  simpa [isLen] using h
theorem valid_len {f : Fnt} (h : f.valid = true) : f.par.lens.all lenB = true := by
  unfold Fnt.valid Par.okB at h
  simp only [Bool.and_eq_true] at h
  exact h.2.2.2.2.2
structure ParOK (p : Par) : Prop where
  quad : lenB p.quad = true
  xh : lenB p.xh = true
  axis : lenB p.axis = true
  rule : lenB p.rule = true
  num1 : lenB p.num1 = true
  num2 : lenB p.num2 = true
  den1 : lenB p.den1 = true
  den2 : lenB p.den2 = true
  sup1 : lenB p.sup1 = true
  sup2 : lenB p.sup2 = true
  sup3 : lenB p.sup3 = true
  sub1 : lenB p.sub1 = true
  sub2 : lenB p.sub2 = true
  supd : lenB p.supd = true
  subd : lenB p.subd = true
  dsh : lenB p.dsh = true
  acc : lenB p.acc = true
theorem valid_par {f : Fnt} (h : f.valid = true) : ParOK f.par := by
  have := valid_len h
  simp only [Par.lens, List.all_cons, List.all_nil, Bool.and_true, Bool.and_eq_true] at this
  obtain ⟨h1, h2, h3, h4, h5, h6, h7, h8, h9, h10, h11, h12, h13, h14, h15, h16, h17⟩ := this
  exact ⟨h1, h2, h3, h4, h5, h6, h7, h8, h9, h10, h11, h12, h13, h14, h15, h16, h17⟩
/-- A parameter at the size of a style. -/
def parS (f : Fnt) (s : Sty) (n : Int) : Int := scl n (pctS f s)
theorem parS_bd {f : Fnt} (h : f.valid = true) (s : Sty) {n : Int} (hn : lenB n = true) : 0 ≤ parS f s n ∧ parS f s n ≤ 20000 := by
  have := valid_pct h s
  exact scl_par hn this.1 this.2

/-! ### fractions -/
def fGap (f : Fnt) (s : Sty) : Int := if s.lev = 0 then 3 * parS f s f.par.rule else parS f s f.par.rule
def fUp0 (f : Fnt) (s : Sty) : Int := if s.lev = 0 then parS f s f.par.num1 else parS f s f.par.num2
def fDown0 (f : Fnt) (s : Sty) : Int := if s.lev = 0 then parS f s f.par.den1 else parS f s f.par.den2
def fY (f : Fnt) (s : Sty) : Int := parS f s f.par.axis - hlf (parS f s f.par.rule)
def fTop (f : Fnt) (s : Sty) : Int := fY f s + parS f s f.par.rule
def fUp (f : Fnt) (s : Sty) (num : Bx) : Int := if fUp0 f s - num.d - fTop f s < fGap f s then fTop f s + fGap f s + num.d else fUp0 f s
def fLow (f : Fnt) (s : Sty) (den : Bx) : Int := if fY f s - (0 - fDown0 f s + den.h) < fGap f s then fY f s - fGap f s - den.h else 0 - fDown0 f s
def fW (num den : Bx) : Int := max (max 0 num.w) den.w
def fKids (f : Fnt) (s : Sty) (num den : Bx) : List Bx :=
  [num.at (hlf (fW num den - num.w)) (fUp f s num), (Bx.rule (fW num den) (parS f s f.par.rule) 0).at 0 (fY f s), den.at (hlf (fW num den - den.w)) (fLow f s den)]
def fOut (f : Fnt) (s : Sty) (num den : Bx) : Bx :=
  Bx.list (fW num den) (max (fUp f s num + num.h) (fTop f s)) (max (den.d - fLow f s den) (0 - fY f s)) (fKids f s num den)
def fracOK (f : Fnt) (s : Sty) (num den : Bx) : Bool := (f.valid && s.okB) && (num.valid && den.valid)
def frac (f : Fnt) (s : Sty) (num den : Bx) : Bx × Int :=
  if fracOK f s num den = true then (if (fOut f s num den).valid = true then (fOut f s num den, 0) else (Bx.zero, 6)) else (Bx.zero, 1)
/-- The numbers of a fraction are small. -/
theorem frac_bd {f : Fnt} {s : Sty} (hv : f.valid = true) : 0 ≤ parS f s f.par.rule ∧ parS f s f.par.rule ≤ 20000 ∧ 0 ≤ fGap f s ∧ fGap f s ≤ 60000 ∧ 0 ≤ fUp0 f s ∧ fUp0 f s ≤ 20000 ∧ 0 ≤ fDown0 f s ∧ fDown0 f s ≤ 20000 ∧
    0 ≤ parS f s f.par.axis ∧ parS f s f.par.axis ≤ 20000 ∧ -20000 ≤ fY f s ∧ fY f s ≤ 20000 := by
  have P := valid_par hv
  have h1 := parS_bd hv s P.rule
  have h2 := parS_bd hv s P.axis
  have h3 := parS_bd hv s P.num1
  have h4 := parS_bd hv s P.num2
  have h5 := parS_bd hv s P.den1
  have h6 := parS_bd hv s P.den2
  have h7 : 0 ≤ hlf (parS f s f.par.rule) ∧ hlf (parS f s f.par.rule) ≤ 20000 := by
    unfold hlf; split
    · unfold rd; rw [if_pos h1.1]; omega
    · omega
  refine ⟨h1.1, h1.2, ?_, ?_, ?_, ?_, ?_, ?_, h2.1, h2.2, ?_, ?_⟩
  · unfold fGap; split <;> omega
  · unfold fGap; split <;> omega
  · unfold fUp0; split <;> omega
  · unfold fUp0; split <;> omega
  · unfold fDown0; split <;> omega
  · unfold fDown0; split <;> omega
  · unfold fY; omega
  · unfold fY; omega
theorem at_flat (b : Bx) (x y : Int) : (flat (b.at x y)).length = (flat b).length := by
  rw [flat_eq, flat_eq]; rfl
theorem fOut_flat (f : Fnt) (s : Sty) (num den : Bx) : (flat (fOut f s num den)).length = (flat num).length + (flat den).length + 2 := by
  have h1 := at_flat num (hlf (fW num den - num.w)) (fUp f s num)
  have h2 := at_flat den (hlf (fW num den - den.w)) (fLow f s den)
  rw [flat_eq]
  show ((flats (fKids f s num den)).length + 1) = _
  unfold fKids
  simp only [flats, List.length_append, List.length_nil]
  have h3 : (flat ((Bx.rule (fW num den) (parS f s f.par.rule) 0).at 0 (fY f s))).length = 1 := by rw [flat_eq]; rfl
  omega
end Go.Proofs.Ytbhojnofdeihdaa.E
