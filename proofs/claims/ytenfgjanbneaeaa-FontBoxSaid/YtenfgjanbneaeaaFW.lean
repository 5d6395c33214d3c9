/- What is shown here: the statements on fonts, as what their functions come to. -/
import Derived.Test.YtenfgjanbneaeaaGL05
import Derived.Test.YtenfgjanbneaeaaFV
namespace Go.Proofs.Ytenfgjanbneaeaa.E
open Go.RowKit Go.Proofs
set_option autoImplicit false
set_option linter.unusedVariables false
set_option linter.unusedSimpArgs false

theorem eqGl (a : Gl) : eqCs [Bk.s, Bk.i, Bk.i, Bk.i, Bk.i, Bk.i] a.c a.c = some true := by
  simp [Gl.c, eqCs, eqC1]
theorem same_parts (a : Stc) (hb : I64 a.parts.length) : ∀ (rest pre : List Pt), a.parts = pre ++ rest →
    Ev fun m => (eng Try.prog hs m).loop (lp Try.f18 9) (S18_9 pre.length a.c a.c) = some (.ret [.one (.bool true)] none) := by
  have es : a.c[2]? = some (C.sl (a.parts.map Pt.c)) := rfl
  have el : ((a.parts.map Pt.c).length : Int) = a.parts.length := by simp
  intro rest
  induction rest with
  | nil =>
    intro pre h
    refine Ev.step fun m => ?_
    rw [L18_9_eq]; unfold L18_9
    simp only [es, asL_l, Option.bind_some, el, at_nil h, cond_false]
  | cons c rest ih =>
    intro pre h
    refine (ih (pre ++ [c]) (by rw [h]; simp)).next fun m hm => ?_
    obtain ⟨h1, h2, h3, h4⟩ := at_cons Pt.c h hb
    have e : eqCs [Bk.s, Bk.b] c.c c.c = some true := by simp [Pt.c, eqCs, eqC1]
    rw [L18_9_eq]; unfold L18_9
    simp only [es, asL_l, Option.bind_some, el, h1, h2, h3, h4, cond_true, Bool.true_and, Pt.len2, e, hm, Bool.not_true, cond_false]
theorem same_sizes (a : Stc) (hb : I64 a.sizes.length) (hb2 : I64 a.parts.length) : ∀ (rest pre : List ByteArray), a.sizes = pre ++ rest →
    Ev fun m => (eng Try.prog hs m).loop (lp Try.f18 4) (S18_4 pre.length a.c a.c) = some (.ret [.one (.bool true)] none) := by
  have es : a.c[1]? = some (C.sl (a.sizes.map fun s => [C.str s])) := rfl
  have el : ((a.sizes.map fun s => [C.str s]).length : Int) = a.sizes.length := by simp
  intro rest
  induction rest with
  | nil =>
    intro pre h
    refine (same_parts a hb2 a.parts [] rfl).next fun m hm => ?_
    rw [L18_4_eq]; unfold L18_4
    simp only [es, asL_l, Option.bind_some, el, at_nil h, cond_false]
    exact hm
  | cons c rest ih =>
    intro pre h
    refine (ih (pre ++ [c]) (by rw [h]; simp)).next fun m hm => ?_
    obtain ⟨h1, h2, h3, h4⟩ := at_cons (fun s : ByteArray => [C.str s]) h hb
    rw [L18_4_eq]; unfold L18_4
    simp only [es, asL_l, Option.bind_some, el, h1, h2, h3, h4, cond_true, Bool.true_and, strs_len1, List.getElem?_cons_zero, asS_s, hm, beq_self_eq_true, Bool.not_true, cond_false]
theorem SameStretch_says (a : Stc) (hb : I64 a.sizes.length) (hb2 : I64 a.parts.length) : Says Try.prog hs 18 [.agg 4 a.c, .agg 4 a.c] [.one (.bool true)] :=
  (same_sizes a hb hb2 a.sizes [] rfl).next fun m h => by
    rw [R18_eq]; unfold R18
    have e0 : a.c[0]? = some (C.str a.name) := rfl
    have e1 : a.c[1]? = some (C.sl (strs a.sizes)) := rfl
    have e2 : a.c[2]? = some (C.sl (a.parts.map Pt.c)) := rfl
    have e3 : a.c[3]? = some (C.int .i64 a.over) := rfl
    simp only [e0, e1, e2, e3, asS_s, asL_l, asI_i, Option.bind_some, beq_self_eq_true, bne_self_eq_false, Bool.not_true, cond_false]
    exact h
theorem SameGlyphBox_says (a : Bx) : Says Try.prog hs 23 [.agg 11 a.c, .agg 11 a.c] [.one (.bool true)] := Ev.step fun m => by
  rw [R23_eq]; unfold R23
  rw [Bx.c_eq]
  simp only [List.getElem?_cons_zero, List.getElem?_cons_succ, asS_s, asL_l, asI_i, Option.bind_some, beq_self_eq_true, cond_true]
theorem awake05_says : Says Try.prog hs 10 [] [.one (.bool true)] :=
  (Scaled_says ⟨⟨#[120]⟩, 500, 431, -11, 0, 0⟩ 70).next fun m h => by
    rw [R10_eq]; unfold R10
    have e : scaled ⟨⟨#[120]⟩, 500, 431, -11, 0, 0⟩ 70 = (⟨⟨#[120]⟩, 350, 302, -8, 0, 0⟩, 0) := by kernel_rfl
    rw [e] at h
    unfold Gl.c at h
    rw [cb_aggI h]
    simp [eqCs, eqC1]
theorem FontValid_true (f : Fnt) (hk : f.ok) : Says Try.prog hs 4 [.agg 22 f.c] [.one (.bool true)] := by
  cases hf : fewB f with
  | false =>
    refine (awake05_says.and (Few_says f)).next fun m h => ?_
    rw [R4_eq]; unfold R4
    rw [cb_bool h.1, cb_bool h.2, hf]; rfl
  | true =>
    refine ((awake05_says.and (Few_says f)).and ((Valid_says f (fewB_few hf)).and (rValid_says f (fewB_few hf) hk))).next fun m h => ?_
    rw [R4_eq]; unfold R4
    rw [cb_bool h.1.1, cb_bool h.1.2, hf, cb_bool h.2.1, cb_bool h.2.2]
    simp
theorem FontBox_true (f : Fnt) (hk : f.ok) (s : ByteArray) (p : Int) : Says Try.prog hs 6 [.agg 22 f.c, .one (.str s), .one (.int .i64 p)] [.one (.bool true)] := by
  cases hf : fewB f with
  | false =>
    refine (awake05_says.and (Few_says f)).next fun m h => ?_
    rw [R6_eq]; unfold R6
    rw [cb_bool h.1, cb_bool h.2, hf]; rfl
  | true =>
    refine ((awake05_says.and (Few_says f)).and ((Box_says f (fewB_few hf) s p).and ((rBox_says f (fewB_few hf) hk s p).and (SameGlyphBox_says (boxOf f s p).1)))).next fun m h => ?_
    rw [R6_eq]; unfold R6
    rw [cb_bool h.1.1, cb_bool h.1.2, hf, cb_aggI h.2.1, cb_aggI h.2.2.1, cb_bool h.2.2.2]
    simp
theorem findSt_len {f : Fnt} (hf : f.few) (s : ByteArray) : I64 ((findSt f.st s).getD Stc.zero).sizes.length ∧ I64 ((findSt f.st s).getD Stc.zero).parts.length := by
  cases h : findSt f.st s with
  | none => exact ⟨.le (by simp [Stc.zero]), .le (by simp [Stc.zero])⟩
  | some g => have := hf.sz g (findSt_mem h).1; exact ⟨.le (by simp; omega), .le (by simp; omega)⟩
theorem FontFinds_true (f : Fnt) (hk : f.ok) (s : ByteArray) : Says Try.prog hs 3 [.agg 22 f.c, .one (.str s)] [.one (.bool true)] := by
  cases hf : fewB f with
  | false =>
    refine (awake05_says.and (Few_says f)).next fun m h => ?_
    rw [R3_eq]; unfold R3
    rw [cb_bool h.1, cb_bool h.2, hf]; rfl
  | true =>
    have hw := fewB_few hf
    have hb : I64 f.gl.length := .le (by have := hw.gl; omega)
    have hb2 : I64 f.st.length := .le (by have := hw.st; omega)
    have hl := findSt_len hw s
    refine ((awake05_says.and (Few_says f)).and ((Find_says f hb s).and ((rFind_says f hb s).and ((Stretch_says f hw s).and ((rStretch_says f hb2 s).and ((Pick_says f hb s).and ((rPick_says f hb s).and (SameStretch_says ((findSt f.st s).getD Stc.zero) hl.1 hl.2)))))))).next fun m h => ?_
    obtain ⟨⟨a1, a2⟩, b1, b2, b3, b4, b5, b6, b7⟩ := h
    rw [R3_eq]; unfold R3
    rw [cb_bool a1, cb_bool a2, hf, cb_aggB b1, cb_aggB b2, cb_aggB b3, cb_aggB b4, cb_agg b5, cb_agg b6, cb_bool b7]
    simp [eqGl]
end Go.Proofs.Ytenfgjanbneaeaa.E
