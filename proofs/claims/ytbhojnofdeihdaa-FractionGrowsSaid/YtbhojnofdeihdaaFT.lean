/- What is shown here: what the functions of the package font come to: stretches, validity, boxes. -/
import Derived.Test.YtbhojnofdeihdaaFS
namespace Go.Proofs.Ytbhojnofdeihdaa.E
open Go.RowKit Go.Proofs
set_option autoImplicit false
set_option linter.unusedVariables false
set_option linter.unusedSimpArgs false

/-! ### font.Valid -/
/-- What the closure of font.Valid gives: the height of a glyph. -/
theorem heightOf_says (l : List Gl) (s : ByteArray) : Says Try.prog hs 82 [.one (.str s), .one (.rp [.mp (hts l)] 0)] [.one (.int .i64 (match find l s with | none => 0 | some g => g.hgt)), .one (.bool (find l s).isSome)] := Ev.step fun m => by
  rw [R82_eq]; unfold R82
  simp only [List.getElem?_cons_zero, asM_m, Option.bind_some, entI_hts]
  cases find l s <;> rfl
theorem str_args (s : ByteArray) (l : List Gl) : (A.one (C.str s) :: [].append (List.map A.one [C.rp [C.mp (hts l)] 0])) = [A.one (.str s), .one (.rp [.mp (hts l)] 0)] := rfl
theorem strs_len1 (s : ByteArray) : [C.str s].length.beq 1 = true := rfl

def partsB (gl : List Gl) (s : Stc) : Bool := match s.parts with
  | [] => decide (s.over = 0)
  | p :: l => (p :: l).all (partB gl s.over) && (p :: l).any Pt.ext

theorem parts_loop (gl : List Gl) (s : Stc) (hb : I64 s.parts.length) : ∀ (rest pre : List Pt) (n : Int), s.parts = pre ++ rest → 0 ≤ n → n ≤ pre.length →
    Ev fun m => (eng Try.prog hs m).loop (lp Try.f81 16) (S81_16 82 [.rp [.mp (hts gl)] 0] n (s.parts.map Pt.c) s.parts.length pre.length s.c) =
      some (.ret [.one (.bool (rest.all (partB gl s.over) && (decide (n > 0) || rest.any Pt.ext)))] none) := by
  intro rest
  induction rest with
  | nil =>
    intro pre n h _ _
    refine Ev.step fun m => ?_
    rw [L81_16_eq]; unfold L81_16
    rw [at_nil h]; simp
  | cons c rest ih =>
    intro pre n h hn0 hn1
    have i0 := ih (pre ++ [c]) n (by rw [h]; simp) hn0 (by simp; omega)
    have i1 := ih (pre ++ [c]) (n + 1) (by rw [h]; simp) (by omega) (by simp; omega)
    refine ((i0.and i1).and (heightOf_says gl c.name)).next fun m hm => ?_
    obtain ⟨⟨m0, m1⟩, m2⟩ := hm
    obtain ⟨h1, h2, h3, h4⟩ := at_cons Pt.c h hb
    have hlen : (pre.length : Int) < s.parts.length := by rw [h]; simp; omega
    have w1 : IntKind.i64.wrap (n + 1) = n + 1 := wr_id ⟨by omega, by have := hb.2; omega⟩
    rw [L81_16_eq]; unfold L81_16
    rw [h1, h2, h3, h4, w1, m0, m1]
    have e0 : c.c[0]? = some (C.str c.name) := rfl
    have e1 : c.c[1]? = some (C.bool c.ext) := rfl
    have e3 : s.c[3]? = some (C.int .i64 s.over) := rfl
    simp only [cond_true, Bool.true_and, Option.bind_some, Pt.len2, e0, e1, e3, asS_s, asB_b, asI_i, str_args]
    rw [cb_IB m2]
    simp only [List.all_cons, List.any_cons, partB]
    cases hf : find gl c.name with
    | none => simp
    | some g =>
      simp only [Option.isSome_some, Bool.not_true, cond_false]
      by_cases a1 : s.over < 0
      · have : ¬ 0 ≤ s.over := by omega
        simp [a1, this]
      · have a2 : 0 ≤ s.over := by omega
        by_cases a3 : s.over ≥ g.hgt
        · have : ¬ s.over < g.hgt := by omega
          simp [a1, a2, a3, this]
        · have a4 : s.over < g.hgt := by omega
          simp only [a1, a2, a3, a4, decide_true, decide_false, cond_false, Bool.true_and]
          cases hx : c.ext with
          | true =>
            have : n + 1 > 0 := by omega
            simp [this]
          | false => simp
theorem sizes_loop (gl : List Gl) (s : Stc) (hb : I64 s.sizes.length) (hb2 : I64 s.parts.length) : ∀ (rest pre : List ByteArray) (last : Option Int) (x : Int), s.sizes = pre ++ rest → (last = none → pre = []) → (∀ h, last = some h → pre ≠ [] ∧ x = h) →
    Ev fun m => (eng Try.prog hs m).loop (lp Try.f81 5) (S81_5 82 [.rp [.mp (hts gl)] 0] x (strs s.sizes) s.sizes.length pre.length s.c) =
      some (.ret [.one (.bool (sizesB gl last rest && partsB gl s))] none) := by
  intro rest
  induction rest with
  | nil =>
    intro pre last x h _ _
    refine (parts_loop gl s hb2 s.parts [] 0 rfl (by omega) (by simp)).next fun m hm => ?_
    rw [L81_5_eq]; unfold L81_5
    rw [at_nil h]
    have e2 : s.c[2]? = some (C.sl (s.parts.map Pt.c)) := rfl
    have e3 : s.c[3]? = some (C.int .i64 s.over) := rfl
    have e4 : ((s.parts.map Pt.c).length : Int) = s.parts.length := by simp
    have hm' : (eng Try.prog hs m).loop (lp Try.f81 16) (S81_16 82 [.rp [.mp (hts gl)] 0] 0 (s.parts.map Pt.c) s.parts.length 0 s.c) = _ := hm
    simp only [cond_false, e2, e3, asL_l, asI_i, Option.bind_some, e4, hm', sizesB, Bool.true_and]
    unfold partsB
    cases hp : s.parts with
    | nil =>
      simp only [List.length_nil]
      by_cases h0 : s.over = 0 <;> simp [h0]
    | cons p l =>
      have : (((p :: l).length : Int) == 0) = false := by rw [beq_eq_false_iff_ne]; simp; omega
      rw [this]; simp
  | cons c rest ih =>
    intro pre last x h hl0 hl1
    have hx : ∀ g, Ev fun m => (eng Try.prog hs m).loop (lp Try.f81 5) (S81_5 82 [.rp [.mp (hts gl)] 0] (Gl.hgt g) (strs s.sizes) s.sizes.length (pre ++ [c]).length s.c) =
      some (.ret [.one (.bool (sizesB gl (some g.hgt) rest && partsB gl s))] none) := fun g => ih (pre ++ [c]) (some g.hgt) g.hgt (by rw [h]; simp) (by simp) (by intro h e; cases e; simp)
    obtain ⟨h1, h2, h3, h4⟩ := at_cons (fun s : ByteArray => [C.str s]) h hb
    cases hf : find gl c with
    | none =>
      refine (heightOf_says gl c).next fun m hm => ?_
      rw [L81_5_eq]; unfold L81_5
      unfold strs; rw [h1, h2, h3]
      simp only [cond_true, Bool.true_and, Option.bind_some, strs_len1, List.getElem?_cons_zero, asS_s, str_args]
      rw [cb_IB hm]
      simp [hf, sizesB]
    | some g =>
      refine ((heightOf_says gl c).and (hx g)).next fun m hm => ?_
      rw [L81_5_eq]; unfold L81_5
      have hm2 := hm.2
      unfold strs at hm2 ⊢; rw [h1, h2, h3, h4]
      simp only [cond_true, Bool.true_and, Option.bind_some, strs_len1, List.getElem?_cons_zero, asS_s, str_args]
      rw [cb_IB hm.1]
      simp only [hf, Option.isSome_some, Bool.not_true, cond_false, hm2, sizesB]
      cases last with
      | none =>
        rw [hl0 rfl]; simp
      | some hh =>
        obtain ⟨p1, rfl⟩ := hl1 hh rfl
        have p2 : ((pre.length : Int) > 0) := by
          cases pre with
          | nil => exact absurd rfl p1
          | cons _ _ => simp
        simp only [p2, decide_true, cond_true]
        by_cases q : g.hgt ≤ x
        · have : ¬ x < g.hgt := by omega
          simp [q, this]
        · have : x < g.hgt := by omega
          simp [q, this]
theorem stretchOk_says (gl : List Gl) (s : Stc) (hb : I64 s.sizes.length) (hb2 : I64 s.parts.length) : Says Try.prog hs 81 [.agg 4 s.c, .one (.fn 82 [.rp [.mp (hts gl)] 0])] [.one (.bool (s.okB gl))] := by
  refine ((named_says s.name).and (sizes_loop gl s hb hb2 s.sizes [] none 0 rfl (fun _ => rfl) (by intro h e; cases e))).next fun m hm => ?_
  obtain ⟨h1, h2⟩ := hm
  rw [R81_eq]; unfold R81
  have e0 : s.c[0]? = some (C.str s.name) := rfl
  have e1 : s.c[1]? = some (C.sl (strs s.sizes)) := rfl
  have e2 : s.c[2]? = some (C.sl (s.parts.map Pt.c)) := rfl
  have e3 : ((s.parts.map Pt.c).length : Int) = s.parts.length := by simp
  have e4 : ((strs s.sizes).length : Int) = s.sizes.length := by simp [strs]
  have h2' : (eng Try.prog hs m).loop (lp Try.f81 5) (S81_5 82 [.rp [.mp (hts gl)] 0] 0 (strs s.sizes) s.sizes.length 0 s.c) = _ := h2
  simp only [e0, e1, e2, e3, e4, asS_s, asL_l, Option.bind_some]
  rw [cb_bool h1, h2']
  have hp : s.okB gl = (nameB s.name && decide (1 ≤ s.sizes.length) && decide (s.sizes.length ≤ 16) && decide (s.parts.length ≤ 8) && sizesB gl none s.sizes && partsB gl s) := by
    unfold Stc.okB partsB; rfl
  rw [hp]
  cases nameB s.name with
  | false => simp
  | true =>
    by_cases a1 : 1 ≤ s.sizes.length
    · have b1 : ¬ ((s.sizes.length : Int) < 1) := by omega
      by_cases a2 : s.sizes.length ≤ 16
      · have b2 : ¬ ((s.sizes.length : Int) > 16) := by omega
        by_cases a3 : s.parts.length ≤ 8
        · have b3 : ¬ ((s.parts.length : Int) > 8) := by omega
          simp [a1, a2, a3, b1, b2, b3]
        · have b3 : ((s.parts.length : Int) > 8) := by omega
          simp [a1, a2, a3, b1, b2, b3]
      · have b2 : ((s.sizes.length : Int) > 16) := by omega
        simp [a1, a2, b1, b2]
    · have b1 : ((s.sizes.length : Int) < 1) := by omega
      simp [a1, b1]
end Go.Proofs.Ytbhojnofdeihdaa.E
