/- What is shown here: what fraction.Make comes to. -/
import Derived.Test.YtbhojnofdeihdaaGF
import Derived.Test.YtbhojnofdeihdaaBV
import Derived.Test.YtbhojnofdeihdaaXM
namespace Go.Proofs.Ytbhojnofdeihdaa.E
open Go.RowKit Go.Proofs
set_option autoImplicit false
set_option linter.unusedVariables false
set_option linter.unusedSimpArgs false
theorem ok1_at {b : Bx} (h : b.ok1) {x y : Int} (hx : I64 x) (hy : I64 y) : (b.at x y).ok1 := by
  obtain ⟨h0, h1, h2, h3, h4, h5, h6, h7, h8⟩ := h
  exact ⟨h0, h1, h2, h3, h4, h5, hx, hy, h8⟩
theorem ok1s_at {b : Bx} (h : ∀ c ∈ flat b, c.ok1) {x y : Int} (hx : I64 x) (hy : I64 y) : ∀ c ∈ flat (b.at x y), c.ok1 := by
  intro c hc
  rw [flat_eq, List.mem_cons] at hc
  rcases hc with e | hc
  · rw [e]; exact ok1_at (h b (by rw [flat_eq]; simp)) hx hy
  · exact h c (by rw [flat_eq]; exact List.mem_cons_of_mem _ hc)
theorem I64_lits : I64 0 ∧ I64 2 ∧ I64 3 ∧ I64 ((⟨#[]⟩ : ByteArray).size) := by
  refine ⟨⟨by omega, by omega⟩, ⟨by omega, by omega⟩, ⟨by omega, by omega⟩, ⟨by decide, by decide⟩⟩
theorem ok1s_rule {w h d : Int} (h1 : I64 w) (h2 : I64 h) (h3 : I64 d) : ∀ c ∈ flat (Bx.rule w h d), c.ok1 := by
  intro c hc
  rw [flat_eq, List.mem_cons] at hc
  rcases hc with e | hc
  · rw [e]
    obtain ⟨z, z2, z3, zn⟩ := I64_lits
    exact ⟨z2, zn, z, h1, h2, h3, z, z, z, by simp [Bx.rule], ⟨by simp [Bx.rule], by simp [Bx.rule]⟩, ⟨by simp [Bx.rule], by simp [Bx.rule]⟩⟩
  · simp [Bx.rule, flats] at hc
theorem ok1s_list {w h d : Int} {l : List Bx} (h1 : I64 w) (h2 : I64 h) (h3 : I64 d) (hl : I64 l.length) (hk : ∀ b ∈ l, ∀ c ∈ flat b, c.ok1) : ∀ c ∈ flat (Bx.list w h d l), c.ok1 := by
  intro c hc
  rw [flat_eq, List.mem_cons] at hc
  rcases hc with e | hc
  · rw [e]
    obtain ⟨z, z2, z3, zn⟩ := I64_lits
    exact ⟨z3, zn, z, h1, h2, h3, z, z, z, by simp [Bx.list], ⟨by simp [Bx.list], by simp [Bx.list]⟩, hl⟩
  · have : ∀ l : List Bx, c ∈ flats l → ∃ b ∈ l, c ∈ flat b := by
      intro l
      induction l with
      | nil => simp [flats]
      | cons a l ih =>
        intro h
        simp only [flats, List.mem_append] at h
        rcases h with h | h
        · exact ⟨a, by simp, h⟩
        · obtain ⟨b, hb, hcb⟩ := ih h; exact ⟨b, by simp [hb], hcb⟩
    obtain ⟨b, hb, hcb⟩ := this _ hc
    exact hk b hb c hcb
theorem isLen_I64 {n : Int} (h : isLen n = true) : I64 n := by have := len_bd h; exact ⟨by omega, by omega⟩
theorem fOut_ok {f : Fnt} {s : Sty} {num den : Bx} (hv : f.valid = true) (hn : num.valid = true) (hd : den.valid = true) (kn : ∀ c ∈ flat num, c.ok1) (kd : ∀ c ∈ flat den, c.ok1) : ∀ c ∈ flat (fOut f s num den), c.ok1 := by
  obtain ⟨b1, b2, b3, b4, b5, b6, b7, b8, b9, b10, b11, b12⟩ := frac_bd (s := s) hv
  obtain ⟨n1, n2, n3, _, _⟩ := valid_dim hn
  obtain ⟨d1, d2, d3, _, _⟩ := valid_dim hd
  have n1 := len_bd n1
  have n2 := len_bd n2
  have n3 := len_bd n3
  have d1 := len_bd d1
  have d2 := len_bd d2
  have d3 := len_bd d3
  have u : -1073741824 ≤ fUp f s num ∧ fUp f s num ≤ 1074000000 := by unfold fUp fTop; split <;> omega
  have l : -1074000000 ≤ fLow f s den ∧ fLow f s den ≤ 1074000000 := by unfold fLow; split <;> omega
  have w : 0 ≤ fW num den ∧ fW num den ≤ 1073741824 := by unfold fW; omega
  refine ok1s_list ⟨by omega, by omega⟩ ⟨by unfold fTop; omega, by unfold fTop; omega⟩ ⟨by omega, by omega⟩ (.le (by simp [fKids])) fun b hb => ?_
  unfold fKids at hb
  simp only [List.mem_cons, List.not_mem_nil, or_false] at hb
  have h1 := hlf_bd (fW num den - num.w)
  have h2 := hlf_bd (fW num den - den.w)
  rcases hb with rfl | rfl | rfl
  · exact ok1s_at kn ⟨by omega, by omega⟩ ⟨by omega, by omega⟩
  · exact ok1s_at (ok1s_rule ⟨by omega, by omega⟩ ⟨by omega, by omega⟩ ⟨by omega, by omega⟩) ⟨by omega, by omega⟩ ⟨by omega, by omega⟩
  · exact ok1s_at kd ⟨by omega, by omega⟩ ⟨by omega, by omega⟩
theorem fp_says (n p : Int) : Says Try.prog hs 60 [.one (.int .i64 n), .one (.rp [.int .i64 p] 0)] [.one (.int .i64 (scl n p))] :=
  (Scale_says n p).next fun m h => by
    rw [R60_eq]; unfold R60
    simp only [List.getElem?_cons_zero, asI_i, Option.bind_some]
    rw [cb_int h]
theorem read_says (f : Fnt) (s : Sty) (hv : f.valid = true) : Says Try.prog hs 34 [.agg 22 f.c, .agg 2 s.c, .one (.int .i64 (pctS f s))] [.agg 5 [.int .i64 (parS f s f.par.axis), .int .i64 (parS f s f.par.rule), .int .i64 (fGap f s), .int .i64 (fUp0 f s), .int .i64 (fDown0 f s)]] := by
  have e4 : f.c[4]? = some (C.int .i64 f.par.axis) := rfl
  have e5 : f.c[5]? = some (C.int .i64 f.par.rule) := rfl
  have e6 : f.c[6]? = some (C.int .i64 f.par.num1) := rfl
  have e7 : f.c[7]? = some (C.int .i64 f.par.num2) := rfl
  have e8 : f.c[8]? = some (C.int .i64 f.par.den1) := rfl
  have e9 : f.c[9]? = some (C.int .i64 f.par.den2) := rfl
  have e0 : s.c[0]? = some (C.int .i64 s.lev) := rfl
  refine ((fp_says f.par.axis (pctS f s)).and ((fp_says f.par.rule (pctS f s)).and ((fp_says f.par.num2 (pctS f s)).and ((fp_says f.par.den2 (pctS f s)).and ((fp_says f.par.num1 (pctS f s)).and (fp_says f.par.den1 (pctS f s))))))).next fun m h => ?_
  obtain ⟨h1, h2, h3, h4, h5, h6⟩ := h
  have hb := frac_bd (s := s) hv
  have w : IntKind.i64.wrap (3 * parS f s f.par.rule) = 3 * parS f s f.par.rule := wr_id ⟨by omega, by omega⟩
  unfold parS at w
  rw [R34_eq]; unfold R34
  simp only [e0, e4, e5, e6, e7, e8, e9, asI_i, Option.bind_some]
  rw [cb_int h1, cb_int h2, cb_int h3, cb_int h4]
  unfold fGap fUp0 fDown0 parS
  by_cases q : s.lev = 0
  · have q2 : (s.lev == 0) = true := by simpa using q
    simp only [q2, cond_true, if_pos q]
    rw [cb_int h5, cb_int h6, w]
  · have q2 : (s.lev == 0) = false := by simpa using q
    simp only [q2, cond_false, if_neg q]
theorem centred_says (b : Bx) (w y : Int) (hw : I64 (w - b.w)) : Says Try.prog hs 39 [.agg 11 b.c, .one (.int .i64 w), .one (.int .i64 y)] [.agg 11 (b.at (hlf (w - b.w)) y).c] :=
  ((half_says (w - b.w)).and (At_says b (hlf (w - b.w)) y)).next fun m h => by
    rw [R39_eq]; unfold R39
    simp only [Bx.c3, asI_i, Option.bind_some, wr_id hw]
    rw [cb_int h.1, cb_agg h.2]
theorem Bx.zero_c : [C.int .i64 0, C.str ⟨#[]⟩, C.int .i64 0, C.int .i64 0, C.int .i64 0, C.int .i64 0, C.int .i64 0, C.int .i64 0, C.sl [], C.int .i64 0, C.sl []] = Bx.zero.c := by rw [Bx.c_eq]; rfl
set_option maxHeartbeats 1000000 in
theorem frac_says (f : Fnt) (hf : f.few) (s : Sty) (num den : Bx) (kn : ∀ c ∈ flat num, c.ok1) (kd : ∀ c ∈ flat den, c.ok1) :
    Says Try.prog hs 16 [.agg 22 f.c, .agg 2 s.c, .agg 11 num.c, .agg 11 den.c] [.agg 11 (frac f s num den).1.c, .one (.int .i64 (frac f s num den).2)] := by
  have base := (Percent_says f hf s).and ((boxValid_says num kn).and (boxValid_says den kd))
  cases hok : fracOK f s num den with
  | false =>
    refine base.next fun m h => ?_
    obtain ⟨h1, h2, h3⟩ := h
    rw [R16_eq]; unfold R16
    rw [cb_II h1, cb_bool h2, cb_bool h3]
    have hr : frac f s num den = (Bx.zero, 1) := by unfold frac; rw [hok]; rfl
    rw [hr, Bx.zero_c]
    unfold fracOK at hok
    unfold percent
    cases a1 : f.valid with
    | false => simp
    | true =>
      cases a2 : s.okB with
      | false => simp
      | true =>
        rw [a1, a2] at hok
        simp only [Bool.true_and] at hok
        cases a3 : num.valid with
        | false => simp
        | true =>
          rw [a3] at hok
          simp only [Bool.true_and] at hok
          simp [hok]
  | true =>
    have hok' := hok
    unfold fracOK at hok'
    simp only [Bool.and_eq_true] at hok'
    obtain ⟨⟨hv, hs'⟩, hn, hd⟩ := hok'
    obtain ⟨b1, b2, b3, b4, b5, b6, b7, b8, b9, b10, b11, b12⟩ := frac_bd (s := s) hv
    obtain ⟨n1, n2, n3, _, _⟩ := valid_dim hn
    obtain ⟨d1, d2, d3, _, _⟩ := valid_dim hd
    have n1 := len_bd n1
    have n2 := len_bd n2
    have n3 := len_bd n3
    have d1 := len_bd d1
    have d2 := len_bd d2
    have d3 := len_bd d3
    have hw : 0 ≤ fW num den ∧ fW num den ≤ 1073741824 := by unfold fW; omega
    have hp : percent f s = (pctS f s, 0) := by unfold percent; rw [if_pos ⟨hs', hv⟩]
    refine (base.and ((read_says f s hv).and ((half_says (parS f s f.par.rule)).and ((Rule_says (fW num den) (parS f s f.par.rule) 0).and ((At_says (Bx.rule (fW num den) (parS f s f.par.rule) 0) 0 (fY f s)).and
      ((centred_says num (fW num den) (fUp f s num) ⟨by omega, by omega⟩).and ((centred_says den (fW num den) (fLow f s den) ⟨by omega, by omega⟩).and
      ((List_says (fW num den) (max (fUp f s num + num.h) (fTop f s)) (max (den.d - fLow f s den) (0 - fY f s)) (fKids f s num den) (by simp [fKids])).and (boxValid_says (fOut f s num den) (fOut_ok hv hn hd kn kd)))))))))).next fun m h => ?_
    obtain ⟨⟨h1, h2, h3⟩, h4, h5, h6, h7, h8, h9, h10, h11⟩ := h
    rw [hp] at h1
    rw [R16_eq]; unfold R16
    rw [cb_II h1, cb_bool h2, cb_bool h3]
    simp only [hn, hd, Bool.not_true, cond_false, bne_self_eq_false]
    rw [cb_agg h4]
    simp only [List.getElem?_cons_zero, List.getElem?_cons_succ, asI_i, Option.bind_some, Bx.c3, Bx.c4, Bx.c5]
    rw [cb_int h5]
    have hr : frac f s num den = if (fOut f s num den).valid = true then (fOut f s num den, 0) else (Bx.zero, 6) := by unfold frac; rw [if_pos hok]
    rw [hr, Bx.zero_c]
    have eW : max (max 0 num.w) den.w = fW num den := rfl
    have eY : IntKind.i64.wrap (parS f s f.par.axis - hlf (parS f s f.par.rule)) = fY f s := wr_id (by unfold fY at b11 b12; exact ⟨by omega, by omega⟩)
    have eT : IntKind.i64.wrap (fY f s + parS f s f.par.rule) = fTop f s := wr_id ⟨by omega, by omega⟩
    have eK : [(num.at (hlf (fW num den - num.w)) (fUp f s num)).c, ((Bx.rule (fW num den) (parS f s f.par.rule) 0).at 0 (fY f s)).c, (den.at (hlf (fW num den - den.w)) (fLow f s den)).c] = (fKids f s num den).map Bx.c := rfl
    have tb : -40000 ≤ fTop f s ∧ fTop f s ≤ 40000 := by unfold fTop; omega
    simp only [maxI_eq, eW, eY, eT]
    have w1 : IntKind.i64.wrap (fUp0 f s - num.d) = fUp0 f s - num.d := wr_id ⟨by omega, by omega⟩
    have w2 : IntKind.i64.wrap (fUp0 f s - num.d - fTop f s) = fUp0 f s - num.d - fTop f s := wr_id ⟨by omega, by omega⟩
    have w3 : IntKind.i64.wrap (0 - fDown0 f s) = 0 - fDown0 f s := wr_id ⟨by omega, by omega⟩
    have w4 : IntKind.i64.wrap (0 - fDown0 f s + den.h) = 0 - fDown0 f s + den.h := wr_id ⟨by omega, by omega⟩
    have w5 : IntKind.i64.wrap (fY f s - (0 - fDown0 f s + den.h)) = fY f s - (0 - fDown0 f s + den.h) := wr_id ⟨by omega, by omega⟩
    have w6 : IntKind.i64.wrap (fTop f s + fGap f s) = fTop f s + fGap f s := wr_id ⟨by omega, by omega⟩
    have w7 : IntKind.i64.wrap (fTop f s + fGap f s + num.d) = fTop f s + fGap f s + num.d := wr_id ⟨by omega, by omega⟩
    have w8 : IntKind.i64.wrap (fY f s - fGap f s) = fY f s - fGap f s := wr_id ⟨by omega, by omega⟩
    have w9 : IntKind.i64.wrap (fY f s - fGap f s - den.h) = fY f s - fGap f s - den.h := wr_id ⟨by omega, by omega⟩
    have w10 : IntKind.i64.wrap (0 - fY f s) = 0 - fY f s := wr_id ⟨by omega, by omega⟩
    simp only [w1, w2, w3, w4, w5, w6, w7, w8, w9, w10]
    have w11 : ∀ u : Int, -2000000000 ≤ u → u ≤ 2000000000 → IntKind.i64.wrap (u + num.h) = u + num.h := fun u a b => wr_id ⟨by omega, by omega⟩
    have w12 : ∀ u : Int, -2000000000 ≤ u → u ≤ 2000000000 → IntKind.i64.wrap (den.d - u) = den.d - u := fun u a b => wr_id ⟨by omega, by omega⟩
    have fin : ∀ (u l : Int), u = fUp f s num → l = fLow f s den → -2000000000 ≤ u → u ≤ 2000000000 → -2000000000 ≤ l → l ≤ 2000000000 →
      ((callD (eng Try.prog hs m) 37 [.one (.int .i64 (fW num den)), .one (.int .i64 (parS f s f.par.rule)), .one (.int .i64 0)] [.agg 11]).bind fun (x : List C) =>
        (callD (eng Try.prog hs m) 36 [.agg 11 x, .one (.int .i64 0), .one (.int .i64 (fY f s))] [.agg 11]).bind fun (x : List C) =>
        (callD (eng Try.prog hs m) 39 [.agg 11 num.c, .one (.int .i64 (fW num den)), .one (.int .i64 u)] [.agg 11]).bind fun (x_4 : List C) =>
        (callD (eng Try.prog hs m) 39 [.agg 11 den.c, .one (.int .i64 (fW num den)), .one (.int .i64 l)] [.agg 11]).bind fun (x_5 : List C) =>
        (callD (eng Try.prog hs m) 38 [.one (.int .i64 (fW num den)), .one (.int .i64 (max (IntKind.i64.wrap (u + num.h)) (fTop f s))), .one (.int .i64 (max (IntKind.i64.wrap (den.d - l)) (0 - fY f s))), .one (.sl [x_4, x, x_5])] [.agg 11]).bind fun (x : List C) =>
        (callD (eng Try.prog hs m) 22 [.agg 11 x] [.bool]).bind fun (x_6 : Bool) =>
          bif !x_6 then some (Res.ret [A.agg 11 Bx.zero.c, A.one (C.int .i64 6)] none) else some (Res.ret [A.agg 11 x, A.one (C.int .i64 0)] none)) =
      some (Res.ret [A.agg 11 (if (fOut f s num den).valid = true then (fOut f s num den, (0 : Int)) else (Bx.zero, 6)).1.c, A.one (C.int .i64 (if (fOut f s num den).valid = true then (fOut f s num den, (0 : Int)) else (Bx.zero, 6)).2)] none) := by
      intro u l hu hl u1 u2 l1 l2
      rw [cb_agg h6, cb_agg h7, w11 u u1 u2, w12 l l1 l2, hu, hl, cb_agg h8, cb_agg h9, eK, cb_agg h10]
      have e : (Bx.list (fW num den) (max (fUp f s num + num.h) (fTop f s)) (max (den.d - fLow f s den) (0 - fY f s)) (fKids f s num den)) = fOut f s num den := rfl
      rw [e, cb_bool h11]
      cases (fOut f s num den).valid <;> rfl
    by_cases c1 : fUp0 f s - num.d - fTop f s < fGap f s
    · have eU : fTop f s + fGap f s + num.d = fUp f s num := by unfold fUp; rw [if_pos c1]
      by_cases c2 : fY f s - (0 - fDown0 f s + den.h) < fGap f s
      · have eL : fY f s - fGap f s - den.h = fLow f s den := by unfold fLow; rw [if_pos c2]
        simp only [c1, c2, decide_true, cond_true]
        exact fin _ _ eU eL (by omega) (by omega) (by omega) (by omega)
      · have eL : 0 - fDown0 f s = fLow f s den := by unfold fLow; rw [if_neg c2]
        simp only [c1, c2, decide_true, decide_false, cond_true, cond_false]
        exact fin _ _ eU eL (by omega) (by omega) (by omega) (by omega)
    · have eU : fUp0 f s = fUp f s num := by unfold fUp; rw [if_neg c1]
      by_cases c2 : fY f s - (0 - fDown0 f s + den.h) < fGap f s
      · have eL : fY f s - fGap f s - den.h = fLow f s den := by unfold fLow; rw [if_pos c2]
        simp only [c1, c2, decide_true, decide_false, cond_true, cond_false]
        exact fin _ _ eU eL (by omega) (by omega) (by omega) (by omega)
      · have eL : 0 - fDown0 f s = fLow f s den := by unfold fLow; rw [if_neg c2]
        simp only [c1, c2, decide_false, cond_false]
        exact fin _ _ eU eL (by omega) (by omega) (by omega) (by omega)
end Go.Proofs.Ytbhojnofdeihdaa.E
