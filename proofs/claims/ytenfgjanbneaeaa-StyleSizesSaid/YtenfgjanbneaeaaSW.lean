/- What is shown here: the statements on the sizes of styles, as what their functions come to. -/
import Derived.Test.YtenfgjanbneaeaaGL25
import Derived.Test.YtenfgjanbneaeaaSN
import Derived.Test.YtenfgjanbneaeaaEJ
namespace Go.Proofs.Ytenfgjanbneaeaa.E
open Go.RowKit Go.Proofs Go.ChangeShapes Go.WideShapes
set_option autoImplicit false
set_option linter.unusedVariables false
set_option linter.unusedSimpArgs false
structure Two where
  a : Int
  b : Int
def Two.c (t : Two) : List C := [.int .i64 t.a, .int .i64 t.b]
theorem reads_Two {H : Type} {enc : TypeId × Value → H} {W : World} (N : Nat) : Reads enc Try.prog W N 61 (fun cc => ∃ g : Two, cc = g.c ∧ I64 g.a ∧ I64 g.b) := by
  cases N with
  | zero => exact .zero
  | succ N =>
    refine (Reads.array (d := _) Try.underlying61 [(3, 0), (3, 1)] (by decide +kernel) (by decide +kernel) (by decide +kernel)
      (.cons (o' := 1) (by decide +kernel) (.i64 Try.underlying3) (.cons (o' := 2) (by decide +kernel) (.i64 Try.underlying3) .nil))).imp ?_
    rintro cc ⟨_, _, rfl, ⟨n, rfl, h0⟩, _, _, rfl, ⟨n1, rfl, h1⟩, rfl⟩
    exact ⟨⟨n, n1⟩, rfl, h0, h1⟩
theorem awake25_says : Says Try.prog hs 24 [] [.one (.bool true)] :=
  (Slot_says 5 1 ⟨0, false⟩).next fun m h => by
    rw [R24_eq]; unfold R24
    have e : slotM 5 1 ⟨0, false⟩ = (⟨1, true⟩, 0) := by kernel_rfl
    rw [e] at h
    unfold Sty.c at h
    rw [cb_aggI h]
    simp [eqCs, eqC1]
theorem StylePercent_true (f : Fnt) (hk : f.ok) (s : Sty) : Says Try.prog hs 8 [.agg 22 f.c, .agg 2 s.c] [.one (.bool true)] := by
  cases hf : fewB f with
  | false =>
    refine (awake25_says.and (Few_says f)).next fun m h => ?_
    rw [R8_eq]; unfold R8
    rw [cb_bool h.1, cb_bool h.2, hf]; rfl
  | true =>
    refine ((awake25_says.and (Few_says f)).and ((Percent_says f (fewB_few hf) s).and (rPercent_says f (fewB_few hf) hk s))).next fun m h => ?_
    rw [R8_eq]; unfold R8
    rw [cb_bool h.1.1, cb_bool h.1.2, hf, cb_II h.2.1, cb_II h.2.2]
    simp
theorem slot_lev {k i : Int} {s : Sty} (h : (slotM k i s).2 = 0) : s.okB = true ∧ s.lev ≤ (slotM k i s).1.lev ∧ (slotM k i s).1.lev ≤ 3 ∧ (s.lev ≤ 1 → (slotM k i s).1.lev = s.lev ∨ 1 ≤ (slotM k i s).1.lev) := by
  unfold slotM at h ⊢
  split at h
  · simp at h
  · next a =>
    rw [if_neg a]
    split at h
    · simp at h
    · next b =>
      rw [if_neg b]
      have h1 : s.okB = true := by
        cases h : s.okB with
        | true => rfl
        | false => exact absurd (.inl h) a
      have hok := h1
      simp only [Sty.okB, Bool.and_eq_true, decide_eq_true_eq] at hok
      refine ⟨h1, ?_⟩
      show s.lev ≤ (slotAt k i).1.ap s.lev ∧ (slotAt k i).1.ap s.lev ≤ 3 ∧ (s.lev ≤ 1 → (slotAt k i).1.ap s.lev = s.lev ∨ 1 ≤ (slotAt k i).1.ap s.lev)
      clear a b h
      generalize (slotAt k i).1 = v
      cases v with
      | next => simp only [Lv.ap]; rw [Int.min_def]; split <;> omega
      | degree => simp only [Lv.ap]; omega
      | same => exact ⟨Int.le_refl _, hok.2, fun _ => .inl rfl⟩
      | deep => simp only [Lv.ap]; by_cases q : s.lev ≤ 1 <;> simp only [q, if_true, if_false] <;> omega
      | inner => simp only [Lv.ap]; rw [Int.max_def]; split <;> omega
theorem StyleSizes_true (f : Fnt) (hk : f.ok) (t : Two) (s : Sty) : Says Try.prog hs 9 [.agg 22 f.c, .agg 2 t.c, .agg 2 s.c] [.one (.bool true)] := by
  have e1 : f.c[17]? = some (C.int .i64 f.par.scr) := rfl
  have e2 : f.c[18]? = some (C.int .i64 f.par.sscr) := rfl
  have e3 : t.c[0]? = some (C.int .i64 t.a) := rfl
  have e4 : t.c[1]? = some (C.int .i64 t.b) := rfl
  cases hf : fewB f with
  | false =>
    refine (awake25_says.and (Few_says f)).next fun m h => ?_
    rw [R9_eq]; unfold R9
    rw [cb_bool h.1, cb_bool h.2, hf]; rfl
  | true =>
    have hw := fewB_few hf
    refine ((awake25_says.and (Few_says f)).and ((Slot_says t.a t.b s).and ((Percent_says f hw s).and (Percent_says f hw (slotM t.a t.b s).1)))).next fun m h => ?_
    obtain ⟨⟨a1, a2⟩, b1, b2, b3⟩ := h
    rw [R9_eq]; unfold R9
    rw [cb_bool a1, cb_bool a2, hf]
    simp only [Bool.not_true, cond_false, e1, e2, e3, e4, asI_i, Option.bind_some]
    by_cases hd : f.par.sscr > f.par.scr
    · simp [hd]
    · simp only [hd, decide_false, cond_false]
      rw [cb_aggI b1, cb_II b2, cb_II b3]
      by_cases hz : (slotM t.a t.b s).2 = 0
      · have z1 : ((slotM t.a t.b s).2 != 0) = false := by rw [hz]; rfl
        simp only [z1, cond_false]
        obtain ⟨h1, h2, h3, h4⟩ := slot_lev hz
        cases hv : f.valid with
        | false =>
          have : (percent f s).2 = 1 := by unfold percent; simp [hv]
          simp [this]
        | true =>
          have hok := h1
          simp only [Sty.okB, Bool.and_eq_true, decide_eq_true_eq] at hok
          have p1 : percent f s = (pctS f s, 0) := by unfold percent; rw [if_pos ⟨h1, hv⟩]
          have p2 : percent f (slotM t.a t.b s).1 = (pctS f (slotM t.a t.b s).1, 0) := by
            unfold percent; rw [if_pos ⟨by simp only [Sty.okB, Bool.and_eq_true, decide_eq_true_eq]; omega, hv⟩]
          have q := valid_pct hv (slotM t.a t.b s).1
          have le : pctS f (slotM t.a t.b s).1 ≤ pctS f s := by
            have q2 := valid_pct hv ⟨2, false⟩
            have q3 := valid_pct hv ⟨3, false⟩
            have u2 : pctS f ⟨2, false⟩ = f.par.scr := rfl
            have u3 : pctS f ⟨3, false⟩ = f.par.sscr := rfl
            unfold pctS
            generalize (slotM t.a t.b s).1.lev = l at *
            split <;> split <;> (try split) <;> (try split) <;> omega
          rw [p1, p2]
          have : pctS f (slotM t.a t.b s).1 ≥ 1 := q.1
          simp [le, this]
      · have z1 : ((slotM t.a t.b s).2 != 0) = true := by simpa using hz
        simp [z1]
end Go.Proofs.Ytenfgjanbneaeaa.E
