/- What is shown here: what the functions on the sizes of styles come to. -/
import Derived.Test.YtbhojnofdeihdaaGC
import Derived.Test.YtbhojnofdeihdaaFV
namespace Go.Proofs.Ytbhojnofdeihdaa.E
open Go.RowKit Go.Proofs
set_option autoImplicit false
set_option linter.unusedVariables false
set_option linter.unusedSimpArgs false

def Sty.okB (s : Sty) : Bool := decide (0 ≤ s.lev) && decide (s.lev ≤ 3)
def Sty.zero : Sty := ⟨0, false⟩
/-- The size of a style, in percent. -/
def pctS (f : Fnt) (s : Sty) : Int := if s.lev = 2 then f.par.scr else if s.lev = 3 then f.par.sscr else 100
def percent (f : Fnt) (s : Sty) : Int × Int := if s.okB = true ∧ f.valid = true then (pctS f s, 0) else (0, 1)
theorem valid_pct {f : Fnt} (h : f.valid = true) (s : Sty) : 1 ≤ pctS f s ∧ pctS f s ≤ 100 := by
  unfold Fnt.valid Par.okB Par.pcts at h
  simp only [Bool.and_eq_true, List.all_cons, pctB, decide_eq_true_eq] at h
  unfold pctS
  split
  · omega
  · split
    · omega
    · omega
theorem styValid_says (s : Sty) : Says Try.prog hs 58 [.agg 2 s.c] [.one (.bool s.okB)] := Ev.step fun m => by
  rw [R58_eq]; unfold R58 Sty.c Sty.okB
  simp only [List.getElem?_cons_zero, asI_i, Option.bind_some]
  by_cases h1 : 0 ≤ s.lev
  · simp [h1]
  · simp [h1]
theorem rStyValid_says (s : Sty) : Says Try.prog hs 65 [.agg 2 s.c] [.one (.bool s.okB)] := Ev.step fun m => by
  rw [R65_eq]; unfold R65 Sty.c Sty.okB
  simp only [List.getElem?_cons_zero, asI_i, Option.bind_some]
  by_cases h1 : 0 ≤ s.lev
  · simp [h1]
  · simp [h1]
theorem Percent_says (f : Fnt) (hf : f.few) (s : Sty) : Says Try.prog hs 33 [.agg 22 f.c, .agg 2 s.c] [.one (.int .i64 (percent f s).1), .one (.int .i64 (percent f s).2)] := by
  refine ((styValid_says s).and (Valid_says f hf)).next fun m h => ?_
  rw [R33_eq]; unfold R33 percent
  rw [cb_bool h.1, cb_bool h.2]
  have e0 : s.c[0]? = some (C.int .i64 s.lev) := rfl
  have e1 : f.c[17]? = some (C.int .i64 f.par.scr) := rfl
  have e2 : f.c[18]? = some (C.int .i64 f.par.sscr) := rfl
  cases h1 : s.okB with
  | false => simp
  | true =>
    cases h2 : f.valid with
    | false => simp
    | true =>
      simp only [Bool.not_true, cond_false, e0, e1, e2, asI_i, Option.bind_some, and_self, if_true, pctS]
      by_cases a1 : s.lev = 2
      · simp [a1]
      · have : (s.lev == 2) = false := by simpa using a1
        by_cases a2 : s.lev = 3
        · simp [a2]
        · have h3 : (s.lev == 3) = false := by simpa using a2
          simp [a1, a2, this, h3]
theorem rSize_says (f : Fnt) (s : Sty) : Says Try.prog hs 48 [.agg 22 f.c, .agg 2 s.c] [.one (.int .i64 (if s.okB = true then pctS f s else 0))] := by
  refine (rStyValid_says s).next fun m h => ?_
  rw [R48_eq]; unfold R48
  rw [cb_bool h]
  have e0 : s.c[0]? = some (C.int .i64 s.lev) := rfl
  have e1 : f.c[17]? = some (C.int .i64 f.par.scr) := rfl
  have e2 : f.c[18]? = some (C.int .i64 f.par.sscr) := rfl
  cases h1 : s.okB with
  | false => simp
  | true =>
    simp only [Bool.not_true, cond_false, e0, e1, e2, asI_i, Option.bind_some, if_true, pctS]
    simp only [Sty.okB, Bool.and_eq_true, decide_eq_true_eq] at h1
    have : s.lev = 0 ∨ s.lev = 1 ∨ s.lev = 2 ∨ s.lev = 3 := by omega
    rcases this with e | e | e | e <;> rw [e] <;> simp [asI]
end Go.Proofs.Ytbhojnofdeihdaa.E
