/- What is shown here: what the functions of the reference of fractions come to. -/
import Derived.Test.YtbhojnofdeihdaaGR
import Derived.Test.YtbhojnofdeihdaaBT
import Derived.Test.YtbhojnofdeihdaaXS
namespace Go.Proofs.Ytbhojnofdeihdaa.E
open Go.RowKit Go.Proofs
set_option autoImplicit false
set_option linter.unusedVariables false
set_option linter.unusedSimpArgs false
theorem rhHalf_says (n : Int) : Says Try.prog hs 42 [.one (.int .i64 n)] [.one (.int .i64 (hlf n))] :=
  (rHalf_says n).next fun m h => by
    rw [R42_eq]; unfold R42
    rw [cb_int h]
theorem Par_says (f : Fnt) (s : Sty) (hs' : s.okB = true) (n : Int) : Says Try.prog hs 21 [.agg 22 f.c, .agg 2 s.c, .one (.int .i64 n)] [.one (.int .i64 (parS f s n))] :=
  ((rSize_says f s).and (rScl_says n (pctS f s))).next fun m h => by
    rw [R21_eq]; unfold R21
    have h1 := h.1
    rw [if_pos hs'] at h1
    rw [cb_int h1, cb_int h.2]; rfl
theorem Done_says (b : Bx) (hk : ∀ c ∈ flat b, c.ok1) (hn : (flat b).length ≤ 1000000) : Says Try.prog hs 43 [.agg 11 b.c] [.agg 11 (if b.valid = true then (b, (0 : Int)) else (Bx.zero, 6)).1.c, .one (.int .i64 (if b.valid = true then (b, (0 : Int)) else (Bx.zero, 6)).2)] :=
  (rbValid_says b hk hn).next fun m h => by
    rw [R43_eq]; unfold R43
    rw [cb_bool h, Bx.zero_c]
    cases b.valid <;> rfl
theorem check_loop (l : List Bx) (hb : I64 l.length) (hk : ∀ b ∈ l, (∀ c ∈ flat b, c.ok1) ∧ (flat b).length ≤ 1000000) : ∀ (rest pre : List Bx), l = pre ++ rest →
    Ev fun m => (eng Try.prog hs m).loop (lp Try.f40 4) (S40_4 (l.map Bx.c) pre.length) = some (.ret [.one (.int .i64 (if rest.all Bx.valid = true then 0 else 1))] none) := by
  have el : ((l.map Bx.c).length : Int) = l.length := by simp
  intro rest
  induction rest with
  | nil =>
    intro pre h
    refine Ev.step fun m => ?_
    rw [L40_4_eq]; unfold L40_4
    rw [el, at_nil h]; rfl
  | cons c rest ih =>
    intro pre h
    obtain ⟨k1, k2⟩ := hk c (by rw [h]; simp)
    refine ((rbValid_says c k1 k2).and (ih (pre ++ [c]) (by rw [h]; simp))).next fun m hm => ?_
    obtain ⟨h1, h2, h3, h4⟩ := at_cons Bx.c h hb
    rw [L40_4_eq]; unfold L40_4
    simp only [el, h1, h2, h3, h4, cond_true, Bool.true_and, Option.bind_some, Bx.len11]
    rw [cb_bool hm.1, hm.2, List.all_cons]
    cases c.valid <;> simp
theorem Check_says (f : Fnt) (hf : f.few) (hk : f.ok) (s : Sty) (l : List Bx) (hb : I64 l.length) (hl : ∀ b ∈ l, (∀ c ∈ flat b, c.ok1) ∧ (flat b).length ≤ 1000000) :
    Says Try.prog hs 40 [.agg 22 f.c, .agg 2 s.c, .one (.sl (l.map Bx.c))] [.one (.int .i64 (if ((f.valid && s.okB) && l.all Bx.valid) = true then 0 else 1))] :=
  ((rValid_says f hf hk).and ((rStyValid_says s).and (check_loop l hb hl l [] rfl))).next fun m h => by
    rw [R40_eq]; unfold R40
    have h3 : (eng Try.prog hs m).loop (lp Try.f40 4) (S40_4 (l.map Bx.c) 0) = _ := h.2.2
    rw [cb_bool h.1, cb_bool h.2.1, h3]
    cases f.valid with
    | false => simp
    | true => cases s.okB <;> simp
theorem Modest_loop (b : Bx) (hy : ∀ c ∈ flat b, I64 c.kids.length) (l : List Int) (hl : l.length ≤ 1000) : ∀ (rest pre : List Int), l = pre ++ rest →
    Ev fun m => (eng Try.prog hs m).loop (lp Try.f46 3) (S46_3 l.length pre.length b.c (ints l)) = some (.ret [.one (.bool (rest.all (fun n => decide (-100000000 ≤ n) && decide (n ≤ 100000000)) && decide ((flat b).length ≤ 200)))] none) := by
  intro rest
  induction rest with
  | nil =>
    intro pre h
    refine (bFew_says b hy 200 (by omega) (by omega)).next fun m hm => ?_
    rw [L46_3_eq]; unfold L46_3
    rw [at_nil h]
    simp only [cond_false]
    have hm' : (eng Try.prog hs m).call 32 [.agg 11 b.c, .one (.int .i64 200)] none = _ := hm
    rw [cb_bool hm']; simp
  | cons c rest ih =>
    intro pre h
    refine (ih (pre ++ [c]) (by rw [h]; simp)).next fun m hm => ?_
    obtain ⟨h1, h2, h3, h4⟩ := at_cons (fun n : Int => [C.int .i64 n]) h (.le (by omega))
    have h3' : (ints l)[((pre.length : Nat) : Int).toNat]? = some [C.int .i64 c] := h3
    rw [L46_3_eq]; unfold L46_3
    simp only [h1, h2, h3', h4, cond_true, Bool.true_and, Option.bind_some, List.getElem?_cons_zero, asI_i, hm, List.all_cons]
    by_cases a1 : c < -100000000
    · have : ¬ -100000000 ≤ c := by omega
      simp [a1, this]
    · have a0 : -100000000 ≤ c := by omega
      by_cases a2 : c > 100000000
      · have : ¬ c ≤ 100000000 := by omega
        simp [a1, a2, this]
      · have : c ≤ 100000000 := by omega
        simp [a1, a2, this, a0]
def modest (b : Bx) : Bool := [b.w, b.h, b.d, b.x, b.y].all (fun n => decide (-100000000 ≤ n) && decide (n ≤ 100000000)) && decide ((flat b).length ≤ 200)
theorem Modest_says (b : Bx) (hy : ∀ c ∈ flat b, I64 c.kids.length) : Says Try.prog hs 46 [.agg 11 b.c] [.one (.bool (modest b))] :=
  (Modest_loop b hy [b.w, b.h, b.d, b.x, b.y] (by simp) [b.w, b.h, b.d, b.x, b.y] [] rfl).next fun m h => by
    rw [R46_eq]; unfold R46
    simp only [Bx.c3, Bx.c4, Bx.c5, Bx.c6, Bx.c7, asI_i, Option.bind_some]
    exact h
theorem Gap_says (f : Fnt) (s : Sty) (hv : f.valid = true) (hs' : s.okB = true) : Says Try.prog hs 20 [.agg 22 f.c, .agg 2 s.c] [.one (.int .i64 (fGap f s)), .one (.int .i64 (fY f s))] := by
  have e4 : f.c[4]? = some (C.int .i64 f.par.axis) := rfl
  have e5 : f.c[5]? = some (C.int .i64 f.par.rule) := rfl
  have e0 : s.c[0]? = some (C.int .i64 s.lev) := rfl
  have b := frac_bd (s := s) hv
  refine ((Par_says f s hs' f.par.rule).and ((Par_says f s hs' f.par.axis).and (rhHalf_says (parS f s f.par.rule)))).next fun m h => ?_
  rw [R20_eq]; unfold R20
  simp only [e0, e4, e5, asI_i, Option.bind_some]
  rw [cb_int h.1, cb_int h.2.1, cb_int h.2.2]
  have w1 : IntKind.i64.wrap (3 * parS f s f.par.rule) = 3 * parS f s f.par.rule := wr_id ⟨by omega, by omega⟩
  have w2 : IntKind.i64.wrap (parS f s f.par.axis - hlf (parS f s f.par.rule)) = fY f s := wr_id (by unfold fY at b; exact ⟨by omega, by omega⟩)
  rw [w1, w2]
  unfold fGap
  by_cases q : s.lev = 0
  · have q2 : (s.lev == 0) = true := by simpa using q
    simp only [q2, cond_true, if_pos q]
  · have q2 : (s.lev == 0) = false := by simpa using q
    simp only [q2, cond_false, if_neg q]
set_option maxHeartbeats 4000000 in
theorem rFrac_says (f : Fnt) (hf : f.few) (hk : f.ok) (s : Sty) (num den : Bx) (kn : ∀ c ∈ flat num, c.ok1) (kd : ∀ c ∈ flat den, c.ok1) (ln : (flat num).length ≤ 400000) (ld : (flat den).length ≤ 400000) :
    Says Try.prog hs 17 [.agg 22 f.c, .agg 2 s.c, .agg 11 num.c, .agg 11 den.c] [.agg 11 (frac f s num den).1.c, .one (.int .i64 (frac f s num den).2)] := by
  have base := Check_says f hf hk s [num, den] (.le (by simp)) (by
    intro b hb
    simp only [List.mem_cons, List.not_mem_nil, or_false] at hb
    rcases hb with rfl | rfl
    · exact ⟨kn, by omega⟩
    · exact ⟨kd, by omega⟩)
  have hall : ((f.valid && s.okB) && [num, den].all Bx.valid) = fracOK f s num den := by simp [fracOK]
  rw [hall] at base
  cases hok : fracOK f s num den with
  | false =>
    refine base.next fun m h => ?_
    rw [hok] at h
    rw [R17_eq]; unfold R17
    have h' : (eng Try.prog hs m).call 40 [.agg 22 f.c, .agg 2 s.c, .one (.sl [num.c, den.c])] none = some (.ret [.one (.int .i64 1)] none) := h
    rw [cb_int h']
    have hr : frac f s num den = (Bx.zero, 1) := by unfold frac; rw [hok]; rfl
    rw [hr, Bx.zero_c]; rfl
  | true =>
    have hok' := hok
    unfold fracOK at hok'
    simp only [Bool.and_eq_true] at hok'
    obtain ⟨⟨hv, hs'⟩, hn, hd⟩ := hok'
    obtain ⟨b1, b2, b3, b4, b5, b6, b7, b8, b9, b10, b11, b12⟩ := frac_bd (s := s) hv
    obtain ⟨n1, n2, n3, _, _⟩ := valid_dim hn
    obtain ⟨d1, d2, d3, _, _⟩ := valid_dim hd
    have n1 := len_bd n1
    have n2 := len_bd n2
    have n3 := len_bd n3
    have d1 := len_bd d1
    have d2 := len_bd d2
    have d3 := len_bd d3
    have hw : 0 ≤ fW num den ∧ fW num den ≤ 1073741824 := by unfold fW; omega
    have e5 : f.c[5]? = some (C.int .i64 f.par.rule) := rfl
    have e6 : f.c[6]? = some (C.int .i64 f.par.num1) := rfl
    have e7 : f.c[7]? = some (C.int .i64 f.par.num2) := rfl
    have e8 : f.c[8]? = some (C.int .i64 f.par.den1) := rfl
    have e9 : f.c[9]? = some (C.int .i64 f.par.den2) := rfl
    have e0 : s.c[0]? = some (C.int .i64 s.lev) := rfl
    refine (base.and ((Par_says f s hs' f.par.rule).and ((Gap_says f s hv hs').and ((Par_says f s hs' f.par.num2).and ((Par_says f s hs' f.par.den2).and ((Par_says f s hs' f.par.num1).and ((Par_says f s hs' f.par.den1).and
      ((rRule_says (fW num den) (parS f s f.par.rule) 0).and ((rAt_says (Bx.rule (fW num den) (parS f s f.par.rule) 0) 0 (fY f s)).and ((rhHalf_says (fW num den - num.w)).and ((rAt_says num (hlf (fW num den - num.w)) (fUp f s num)).and
      ((rhHalf_says (fW num den - den.w)).and ((rAt_says den (hlf (fW num den - den.w)) (fLow f s den)).and
      ((rList_says (fW num den) (max (fUp f s num + num.h) (fTop f s)) (max (den.d - fLow f s den) (0 - fY f s)) (fKids f s num den) (by simp [fKids])).and (Done_says (fOut f s num den) (fOut_ok hv hn hd kn kd) (by rw [fOut_flat]; omega)))))))))))))))).next fun m h => ?_
    obtain ⟨h0, h1, h2, h3, h4, h5, h6, h7, h8, h9, h10, h11, h12, h13, h14⟩ := h
    rw [hok] at h0
    have h0' : (eng Try.prog hs m).call 40 [.agg 22 f.c, .agg 2 s.c, .one (.sl [num.c, den.c])] none = some (.ret [.one (.int .i64 0)] none) := h0
    have hr : frac f s num den = if (fOut f s num den).valid = true then (fOut f s num den, 0) else (Bx.zero, 6) := by unfold frac; rw [if_pos hok]
    rw [hr]
    rw [R17_eq]; unfold R17
    rw [cb_int h0']
    simp only [bne_self_eq_false, cond_false, e0, e5, e6, e7, e8, e9, asI_i, Option.bind_some, Bx.c3, Bx.c4, Bx.c5]
    rw [cb_int h1, cb_II h2, cb_int h3, cb_int h4]
    have eW : max (max 0 num.w) den.w = fW num den := rfl
    have eT : IntKind.i64.wrap (fY f s + parS f s f.par.rule) = fTop f s := wr_id ⟨by omega, by omega⟩
    have eK : [(num.at (hlf (fW num den - num.w)) (fUp f s num)).c, ((Bx.rule (fW num den) (parS f s f.par.rule) 0).at 0 (fY f s)).c, (den.at (hlf (fW num den - den.w)) (fLow f s den)).c] = (fKids f s num den).map Bx.c := rfl
    have tb : -40000 ≤ fTop f s ∧ fTop f s ≤ 40000 := by unfold fTop; omega
    have wn : IntKind.i64.wrap (fW num den - num.w) = fW num den - num.w := wr_id ⟨by omega, by omega⟩
    have wd : IntKind.i64.wrap (fW num den - den.w) = fW num den - den.w := wr_id ⟨by omega, by omega⟩
    have w1 : IntKind.i64.wrap (fUp0 f s - num.d) = fUp0 f s - num.d := wr_id ⟨by omega, by omega⟩
    have w2 : IntKind.i64.wrap (fUp0 f s - num.d - fTop f s) = fUp0 f s - num.d - fTop f s := wr_id ⟨by omega, by omega⟩
    have w3 : IntKind.i64.wrap (0 - fDown0 f s) = 0 - fDown0 f s := wr_id ⟨by omega, by omega⟩
    have w4 : IntKind.i64.wrap (0 - fDown0 f s + den.h) = 0 - fDown0 f s + den.h := wr_id ⟨by omega, by omega⟩
    have w5 : IntKind.i64.wrap (fY f s - (0 - fDown0 f s + den.h)) = fY f s - (0 - fDown0 f s + den.h) := wr_id ⟨by omega, by omega⟩
    have w6 : IntKind.i64.wrap (fTop f s + fGap f s) = fTop f s + fGap f s := wr_id ⟨by omega, by omega⟩
    have w7 : IntKind.i64.wrap (fTop f s + fGap f s + num.d) = fTop f s + fGap f s + num.d := wr_id ⟨by omega, by omega⟩
    have w8 : IntKind.i64.wrap (fY f s - fGap f s) = fY f s - fGap f s := wr_id ⟨by omega, by omega⟩
    have w9 : IntKind.i64.wrap (fY f s - fGap f s - den.h) = fY f s - fGap f s - den.h := wr_id ⟨by omega, by omega⟩
    have w10 : IntKind.i64.wrap (0 - fY f s) = 0 - fY f s := wr_id ⟨by omega, by omega⟩
    have ub : -1073741824 ≤ fUp f s num ∧ fUp f s num ≤ 1074000000 := by unfold fUp; split <;> omega
    have lb : -1074000000 ≤ fLow f s den ∧ fLow f s den ≤ 1074000000 := by unfold fLow; split <;> omega
    have w11 : IntKind.i64.wrap (fUp f s num + num.h) = fUp f s num + num.h := wr_id ⟨by omega, by omega⟩
    have w12 : IntKind.i64.wrap (den.d - fLow f s den) = den.d - fLow f s den := wr_id ⟨by omega, by omega⟩
    have tail : fTop f s + fGap f s + num.d = fUp f s num ∨ fUp0 f s = fUp f s num := by
      unfold fUp; split
      · exact .inl rfl
      · exact .inr rfl
    have eO : (Bx.list (fW num den) (max (fUp f s num + num.h) (fTop f s)) (max (den.d - fLow f s den) (0 - fY f s)) (fKids f s num den)) = fOut f s num den := rfl
    by_cases q : s.lev = 0
    · have q2 : (s.lev == 0) = true := by simpa using q
      have u0 : parS f s f.par.num1 = fUp0 f s := by unfold fUp0; rw [if_pos q]
      have v0 : parS f s f.par.den1 = fDown0 f s := by unfold fDown0; rw [if_pos q]
      simp only [q2, cond_true]
      rw [cb_int h5, cb_int h6, u0, v0]
      simp only [maxI_eq, eW, eT, wn, wd, w1, w2, w3, w4, w5, w6, w7, w8, w9, w10]
      by_cases c1 : fUp0 f s - num.d - fTop f s < fGap f s
      · have eU : fTop f s + fGap f s + num.d = fUp f s num := by unfold fUp; rw [if_pos c1]
        by_cases c2 : fY f s - (0 - fDown0 f s + den.h) < fGap f s
        · have eL : fY f s - fGap f s - den.h = fLow f s den := by unfold fLow; rw [if_pos c2]
          simp only [c1, c2, decide_true, cond_true]
          simp only [eL, eU, w11, w12]
          rw [cb_agg h7, cb_agg h8, cb_int h9, cb_agg h10, cb_int h11, cb_agg h12, eK, cb_agg h13, eO, cb_aggI h14]
        · have eL : 0 - fDown0 f s = fLow f s den := by unfold fLow; rw [if_neg c2]
          simp only [c1, c2, decide_true, decide_false, cond_true, cond_false]
          simp only [eL, eU, w11, w12]
          rw [cb_agg h7, cb_agg h8, cb_int h9, cb_agg h10, cb_int h11, cb_agg h12, eK, cb_agg h13, eO, cb_aggI h14]
      · have eU : fUp0 f s = fUp f s num := by unfold fUp; rw [if_neg c1]
        by_cases c2 : fY f s - (0 - fDown0 f s + den.h) < fGap f s
        · have eL : fY f s - fGap f s - den.h = fLow f s den := by unfold fLow; rw [if_pos c2]
          simp only [c1, c2, decide_true, decide_false, cond_true, cond_false]
          simp only [eL]
          simp only [eU, w11, w12]
          rw [cb_agg h7, cb_agg h8, cb_int h9, cb_agg h10, cb_int h11, cb_agg h12, eK, cb_agg h13, eO, cb_aggI h14]
        · have eL : 0 - fDown0 f s = fLow f s den := by unfold fLow; rw [if_neg c2]
          simp only [c1, c2, decide_false, cond_false]
          simp only [eL]
          simp only [eU, w11, w12]
          rw [cb_agg h7, cb_agg h8, cb_int h9, cb_agg h10, cb_int h11, cb_agg h12, eK, cb_agg h13, eO, cb_aggI h14]
    · have q2 : (s.lev == 0) = false := by simpa using q
      have u0 : parS f s f.par.num2 = fUp0 f s := by unfold fUp0; rw [if_neg q]
      have v0 : parS f s f.par.den2 = fDown0 f s := by unfold fDown0; rw [if_neg q]
      simp only [q2, cond_false]
      rw [u0, v0]
      simp only [maxI_eq, eW, eT, wn, wd, w1, w2, w3, w4, w5, w6, w7, w8, w9, w10]
      by_cases c1 : fUp0 f s - num.d - fTop f s < fGap f s
      · have eU : fTop f s + fGap f s + num.d = fUp f s num := by unfold fUp; rw [if_pos c1]
        by_cases c2 : fY f s - (0 - fDown0 f s + den.h) < fGap f s
        · have eL : fY f s - fGap f s - den.h = fLow f s den := by unfold fLow; rw [if_pos c2]
          simp only [c1, c2, decide_true, cond_true]
          simp only [eL, eU, w11, w12]
          rw [cb_agg h7, cb_agg h8, cb_int h9, cb_agg h10, cb_int h11, cb_agg h12, eK, cb_agg h13, eO, cb_aggI h14]
        · have eL : 0 - fDown0 f s = fLow f s den := by unfold fLow; rw [if_neg c2]
          simp only [c1, c2, decide_true, decide_false, cond_true, cond_false]
          simp only [eL, eU, w11, w12]
          rw [cb_agg h7, cb_agg h8, cb_int h9, cb_agg h10, cb_int h11, cb_agg h12, eK, cb_agg h13, eO, cb_aggI h14]
      · have eU : fUp0 f s = fUp f s num := by unfold fUp; rw [if_neg c1]
        by_cases c2 : fY f s - (0 - fDown0 f s + den.h) < fGap f s
        · have eL : fY f s - fGap f s - den.h = fLow f s den := by unfold fLow; rw [if_pos c2]
          simp only [c1, c2, decide_true, decide_false, cond_true, cond_false]
          simp only [eL]
          simp only [eU, w11, w12]
          rw [cb_agg h7, cb_agg h8, cb_int h9, cb_agg h10, cb_int h11, cb_agg h12, eK, cb_agg h13, eO, cb_aggI h14]
        · have eL : 0 - fDown0 f s = fLow f s den := by unfold fLow; rw [if_neg c2]
          simp only [c1, c2, decide_false, cond_false]
          simp only [eL]
          simp only [eU, w11, w12]
          rw [cb_agg h7, cb_agg h8, cb_int h9, cb_agg h10, cb_int h11, cb_agg h12, eK, cb_agg h13, eO, cb_aggI h14]
end Go.Proofs.Ytbhojnofdeihdaa.E
