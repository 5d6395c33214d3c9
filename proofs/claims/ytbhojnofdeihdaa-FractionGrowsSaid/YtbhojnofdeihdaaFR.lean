/- What is shown here: what the functions of the reference of fonts come to. -/
import Derived.Test.YtbhojnofdeihdaaGB
import Derived.Test.YtbhojnofdeihdaaFU
namespace Go.Proofs.Ytbhojnofdeihdaa.E
open Go.RowKit Go.Proofs
set_option autoImplicit false
set_option linter.unusedVariables false
set_option linter.unusedSimpArgs false

theorem I64.le {n : Nat} (h : n ≤ 1000000) : I64 n := ⟨by omega, by omega⟩
theorem within_says (n a b : Int) : Says Try.prog hs 97 [.one (.int .i64 n), .one (.int .i64 a), .one (.int .i64 b)] [.one (.bool (decide (a ≤ n) && decide (n ≤ b)))] := Ev.step fun m => by
  rw [R97_eq]; unfold R97
  by_cases h1 : a ≤ n
  · simp [h1]
  · simp [h1]
theorem rHeight_says (g : Gl) : Says Try.prog hs 100 [.agg 6 g.c] [.one (.int .i64 (IntKind.i64.wrap (g.h + g.d)))] := Ev.step fun m => by
  rw [R100_eq]; unfold R100 Gl.c
  simp only [List.getElem?_cons_zero, List.getElem?_cons_succ, asI_i, Option.bind_some]
theorem byte_at {l pre rest : List UInt8} {c : UInt8} (h : l = pre ++ c :: rest) : l[((pre.length : Nat) : Int).toNat]? = some c := by subst h; simp
theorem rName_loop (s : ByteArray) (hb : I64 s.size) : ∀ (rest pre : List UInt8), s.data.toList = pre ++ rest →
    Ev fun m => (eng Try.prog hs m).loop (lp Try.f98 2) (S98_2 s pre.length) = some (.ret [.one (.bool ((decide (1 ≤ s.size) && decide (s.size ≤ 16)) && rest.all fun c => decide (32 ≤ c.toNat) && decide (c.toNat ≤ 126)))] none) := by
  have hl : s.data.toList.length = s.size := rfl
  intro rest
  induction rest with
  | nil =>
    intro pre h
    refine Ev.step fun m => ?_
    rw [L98_2_eq]; unfold L98_2
    have h0 := at_nil h
    rw [hl] at h0
    rw [h0]
    by_cases h1 : 1 ≤ s.size
    · have e1 : ((s.size : Int) ≥ 1) := by omega
      by_cases h2 : s.size ≤ 16
      · have e2 : ((s.size : Int) ≤ 16) := by omega
        simp [h1, h2, e1, e2]
      · have e2 : ¬ ((s.size : Int) ≤ 16) := by omega
        simp [h1, h2, e1, e2]
    · have e1 : ¬ ((s.size : Int) ≥ 1) := by omega
      simp [h1, e1]
  | cons c rest ih =>
    intro pre h
    have i0 := ih (pre ++ [c]) (by rw [h]; simp)
    refine i0.next fun m hm => ?_
    obtain ⟨h1, h2, _, h4⟩ := at_cons (fun b : UInt8 => [C.int .u8 b.toNat]) h (by rw [hl]; exact hb)
    rw [hl] at h1
    have h3 : s.data.1[((pre.length : Nat) : Int).toNat]? = some c := byte_at h
    rw [L98_2_eq]; unfold L98_2
    rw [h1, h2, h3, h4, hm]
    simp only [cond_true, Option.bind_some, List.all_cons]
    by_cases a1 : c.toNat < 32
    · have e1 : ((c.toNat : Int) < 32) := by omega
      have e2 : ¬ (32 ≤ c.toNat) := by omega
      simp [e1, e2]
    · have e1 : ¬ ((c.toNat : Int) < 32) := by omega
      have e2 : 32 ≤ c.toNat := by omega
      by_cases a2 : c.toNat ≤ 126
      · have e3 : ¬ ((c.toNat : Int) > 126) := by omega
        simp [e1, e2, e3, a2]
      · have e3 : ((c.toNat : Int) > 126) := by omega
        simp [e1, e2, e3, a2]
theorem rName_says (s : ByteArray) (hb : I64 s.size) : Says Try.prog hs 98 [.one (.str s)] [.one (.bool (nameB s))] := by
  refine (rName_loop s hb s.data.toList [] rfl).next fun m h => ?_
  rw [R98_eq]; unfold R98
  exact h
theorem rMetrics_loop : ∀ (l rest pre : List Int), l = pre ++ rest → l.length ≤ 1000 →
    Ev fun m => (eng Try.prog hs m).loop (lp Try.f99 3) (S99_3 l.length pre.length (ints l)) = some (.ret [.one (.bool (rest.all metB))] none) := by
  intro l rest
  induction rest with
  | nil =>
    intro pre h _
    refine Ev.step fun m => ?_
    rw [L99_3_eq]; unfold L99_3
    rw [at_nil h]; rfl
  | cons c rest ih =>
    intro pre h hl
    refine ((ih (pre ++ [c]) (by rw [h]; simp) hl).and (within_says c (-20000) 20000)).next fun m hm => ?_
    obtain ⟨h1, h2, h3, h4⟩ := at_cons (fun n : Int => [C.int .i64 n]) h (.le (by omega))
    rw [L99_3_eq]; unfold L99_3
    have hm1 := hm.1
    unfold ints at hm1 ⊢
    rw [h1, h2, h3, h4]
    simp only [cond_true, Bool.true_and, Option.bind_some, List.getElem?_cons_zero, asI_i]
    rw [cb_bool hm.2, hm1]
    simp only [List.all_cons, metB]
    cases (decide (-20000 ≤ c) && decide (c ≤ 20000)) <;> rfl
theorem rMetrics_says (g : Gl) : Says Try.prog hs 99 [.agg 6 g.c] [.one (.bool g.metB)] :=
  (rMetrics_loop [g.w, g.h, g.d, g.it, g.att] [g.w, g.h, g.d, g.it, g.att] [] rfl (by simp)).next fun m h => by
    rw [R99_eq]; unfold R99 Gl.c
    simp only [List.getElem?_cons_zero, List.getElem?_cons_succ, asI_i, Option.bind_some]
    have e : Gl.metB g = [g.w, g.h, g.d, g.it, g.att].all metB := by simp [Gl.metB, Bool.and_assoc]
    rw [e]; exact h
theorem rParams_loop (p : Par) : ∀ (l rest pre : List Int), l = pre ++ rest → l.length ≤ 1000 →
    Ev fun m => (eng Try.prog hs m).loop (lp Try.f84 3) (S84_3 l.length pre.length p.c (ints l)) = some (.ret [.one (.bool (rest.all lenB && p.pcts.all pctB))] none) := by
  intro l rest
  induction rest with
  | nil =>
    intro pre h _
    refine (((within_says p.scr 1 100).and (within_says p.sscr 1 100)).and (within_says p.dpc 1 100)).next fun m hm => ?_
    rw [L84_3_eq]; unfold L84_3
    rw [at_nil h]
    have e1 : p.c[15]? = some (C.int .i64 p.scr) := rfl
    have e2 : p.c[16]? = some (C.int .i64 p.sscr) := rfl
    have e3 : p.c[17]? = some (C.int .i64 p.dpc) := rfl
    simp only [cond_false, e1, e2, e3, asI_i, Option.bind_some]
    rw [cb_bool hm.1.1, cb_bool hm.1.2, cb_bool hm.2]
    simp only [Par.pcts, List.all_cons, List.all_nil, Bool.and_true, Bool.true_and, pctB]
    cases (decide (1 ≤ p.scr) && decide (p.scr ≤ 100)) <;> cases (decide (1 ≤ p.sscr) && decide (p.sscr ≤ 100)) <;> rfl
  | cons c rest ih =>
    intro pre h hl
    refine ((ih (pre ++ [c]) (by rw [h]; simp) hl).and (within_says c 0 20000)).next fun m hm => ?_
    obtain ⟨h1, h2, h3, h4⟩ := at_cons (fun n : Int => [C.int .i64 n]) h (.le (by omega))
    rw [L84_3_eq]; unfold L84_3
    have hm1 := hm.1
    unfold ints at hm1 ⊢
    rw [h1, h2, h3, h4]
    simp only [cond_true, Bool.true_and, Option.bind_some, List.getElem?_cons_zero, asI_i]
    rw [cb_bool hm.2, hm1]
    simp only [List.all_cons, lenB]
    cases (decide (0 ≤ c) && decide (c ≤ 20000)) <;> rfl
theorem rParams_says (p : Par) : Says Try.prog hs 84 [.agg 20 p.c] [.one (.bool p.okB)] :=
  (rParams_loop p p.lens p.lens [] rfl (by simp [Par.lens])).next fun m h => by
    rw [R84_eq]; unfold R84
    have e0 : p.c[0]? = some (C.int .i64 p.quad) := rfl
    have e1 : p.c[1]? = some (C.int .i64 p.xh) := rfl
    have e2 : p.c[2]? = some (C.int .i64 p.axis) := rfl
    have e3 : p.c[3]? = some (C.int .i64 p.rule) := rfl
    have e4 : p.c[4]? = some (C.int .i64 p.num1) := rfl
    have e5 : p.c[5]? = some (C.int .i64 p.num2) := rfl
    have e6 : p.c[6]? = some (C.int .i64 p.den1) := rfl
    have e7 : p.c[7]? = some (C.int .i64 p.den2) := rfl
    have e8 : p.c[8]? = some (C.int .i64 p.sup1) := rfl
    have e9 : p.c[9]? = some (C.int .i64 p.sup2) := rfl
    have e10 : p.c[10]? = some (C.int .i64 p.sup3) := rfl
    have e11 : p.c[11]? = some (C.int .i64 p.sub1) := rfl
    have e12 : p.c[12]? = some (C.int .i64 p.sub2) := rfl
    have e13 : p.c[13]? = some (C.int .i64 p.supd) := rfl
    have e14 : p.c[14]? = some (C.int .i64 p.subd) := rfl
    have e18 : p.c[18]? = some (C.int .i64 p.dsh) := rfl
    have e19 : p.c[19]? = some (C.int .i64 p.acc) := rfl
    simp only [e0, e1, e2, e3, e4, e5, e6, e7, e8, e9, e10, e11, e12, e13, e14, e18, e19, asI_i, Option.bind_some]
    have e : p.okB = (p.lens.all lenB && p.pcts.all pctB) := by unfold Par.okB; rw [Bool.and_comm]
    rw [e]; exact h
theorem rFind_loop (f : Fnt) (s : ByteArray) (hb : I64 f.gl.length) : ∀ (rest pre : List Gl), f.gl = pre ++ rest →
    Ev fun m => (eng Try.prog hs m).loop (lp Try.f77 2) (S77_2 s pre.length f.c ⟨#[]⟩ 0 0 0 0 0) = some (.ret [.agg 6 ((find rest s).getD Gl.zero).c, .one (.bool (find rest s).isSome)] none) := by
  have ef : f.c[0]? = some (C.sl (f.gl.map Gl.c)) := rfl
  have el : ((f.gl.map Gl.c).length : Int) = f.gl.length := by simp
  intro rest
  induction rest with
  | nil =>
    intro pre h
    refine Ev.step fun m => ?_
    rw [L77_2_eq]; unfold L77_2
    simp only [ef, asL_l, Option.bind_some, el]
    rw [at_nil h]; rfl
  | cons c rest ih =>
    intro pre h
    have := ih (pre ++ [c]) (by rw [h]; simp)
    refine this.next fun m hm => ?_
    obtain ⟨h1, h2, h3, h4⟩ := at_cons Gl.c h hb
    rw [L77_2_eq]; unfold L77_2
    have e0 : c.c[0]? = some (C.str c.name) := rfl
    simp only [ef, asL_l, Option.bind_some, el, h1, h2, h3, h4, hm, cond_true, Bool.true_and, Gl.len6, e0, asS_s, str_beq]
    by_cases hc : c.name = s
    · simp [find, List.find?_cons, hc]
    · simp [find, List.find?_cons, hc]
theorem rFind_says (f : Fnt) (hb : I64 f.gl.length) (s : ByteArray) : Says Try.prog hs 77 [.agg 22 f.c, .one (.str s)] [.agg 6 ((find f.gl s).getD Gl.zero).c, .one (.bool (find f.gl s).isSome)] :=
  (rFind_loop f s hb f.gl [] rfl).next fun m h => by
    rw [R77_eq]; unfold R77
    exact h
theorem rPick_says (f : Fnt) (hb : I64 f.gl.length) (s : ByteArray) : Says Try.prog hs 56 [.agg 22 f.c, .one (.str s)] [.agg 6 (pick f.gl s).c] :=
  ((rFind_says f hb s).and (rFind_says f hb query)).next fun m h => by
    rw [R56_eq]; unfold R56 pick
    rw [cb_aggB h.1]
    cases find f.gl s with
    | some g => rfl
    | none =>
      simp only [Option.isSome_none, cond_false]
      have h2 := h.2
      unfold query at h2 ⊢
      rw [cb_aggB h2]
      cases find f.gl ⟨#[63]⟩ <;> rfl
theorem rd_neg (a : Int) : rd 100 (-a) = - rd 100 a := by
  unfold rd; split <;> split <;> omega
theorem rScale_pos (n p : Int) (h0 : 0 ≤ n) (h1 : n ≤ 1000000000000) (h2 : 0 ≤ p) (h3 : p ≤ 10000) : Says Try.prog hs 54 [.one (.int .i64 n), .one (.int .i64 p)] [.one (.int .i64 (rd 100 (n * p)))] := Ev.step fun m => by
  rw [R54_eq]; unfold R54
  have a0 : ¬ n < 0 := by omega
  have hb := mul_bd (n := n) (A := 1000000000000) (by omega) h1 h2 h3
  have hp : 0 ≤ n * p := Int.mul_nonneg h0 h2
  have hq : 2 * n * p = 2 * (n * p) := Int.mul_assoc 2 n p
  have w1 : IntKind.i64.wrap (2 * n) = 2 * n := wr_id ⟨by omega, by omega⟩
  have w2 : IntKind.i64.wrap (2 * n * p) = 2 * n * p := wr_id ⟨by omega, by omega⟩
  have w3 : IntKind.i64.wrap (2 * n * p + 100) = 2 * n * p + 100 := wr_id ⟨by omega, by omega⟩
  have w4 : (2 * n * p + 100).tdiv 200 = (2 * (n * p) + 100) / 200 := by rw [hq, Int.tdiv_eq_ediv_of_nonneg (by omega)]
  have w5 : IntKind.i64.wrap ((2 * (n * p) + 100) / 200) = (2 * (n * p) + 100) / 200 := wr_id ⟨by omega, by omega⟩
  simp only [a0, decide_false, cond_false, w1, w2, w3, w4, w5]
  unfold rd
  rw [if_pos hp]; rfl
theorem rScale_says (n p : Int) (h0 : -1000000000000 ≤ n) (h1 : n ≤ 1000000000000) (h2 : 0 ≤ p) (h3 : p ≤ 10000) : Says Try.prog hs 54 [.one (.int .i64 n), .one (.int .i64 p)] [.one (.int .i64 (rd 100 (n * p)))] := by
  by_cases hn : 0 ≤ n
  · exact rScale_pos n p hn h1 h2 h3
  · refine (rScale_pos (-n) p (by omega) (by omega) h2 h3).next fun m h => ?_
    rw [R54_eq]; unfold R54
    have a0 : n < 0 := by omega
    have w1 : IntKind.i64.wrap (0 - n) = -n := by rw [wr_id ⟨by omega, by omega⟩]; omega
    have hb := mul_bd (n := n) (A := 1000000000000) h0 h1 h2 h3
    have hr : -1000000000000000 ≤ rd 100 (n * p) ∧ rd 100 (n * p) ≤ 1000000000000000 := by unfold rd; split <;> omega
    have hneg : rd 100 (-n * p) = - rd 100 (n * p) := by rw [Int.neg_mul, rd_neg]
    have w2 : IntKind.i64.wrap (0 - - rd 100 (n * p)) = rd 100 (n * p) := by rw [wr_id ⟨by omega, by omega⟩]; omega
    simp only [a0, decide_true, cond_true, w1]
    rw [cb_int h, hneg, w2]
theorem scl_eq {n p : Int} (h0 : isLen n = true) (h2 : 0 ≤ p) (h3 : p ≤ 10000) : scl n p = rd 100 (n * p) := by
  unfold scl; rw [if_pos ⟨h0, h2, h3⟩]
theorem met_len {n : Int} (h : metB n = true) : isLen n = true := by
  simp only [metB, isLen, Bool.and_eq_true, decide_eq_true_eq] at *; omega
/-! ### validity -/
theorem rGlyphs_in (l pre rest : List Gl) (a : Gl) (hl : l = pre ++ a :: rest) (hb : I64 l.length) (hn : a.name ∉ pre.map Gl.name) (r : Res) (h0 : Ev fun m => (eng Try.prog hs m).loop (lp Try.f85 2) (S85_2 (l.map Gl.c) (pre.length + 1 : Int)) = some r) :
    ∀ (q p : List Gl), pre = p ++ q → Ev fun m => (eng Try.prog hs m).loop (lp Try.f85 7) (S85_7 (l.map Gl.c) pre.length p.length) = some r := by
  have hw : IntKind.i64.wrap ((pre.length : Int) + 1) = (pre.length : Int) + 1 := by
    refine wr_id ⟨by omega, ?_⟩
    have := hb.2; rw [hl] at this; simp at this; omega
  intro q
  induction q with
  | nil =>
    intro p hp
    refine h0.next fun m hm => ?_
    rw [L85_7_eq]; unfold L85_7
    have : decide ((p.length : Int) < (pre.length : Int)) = false := by subst hp; simp
    rw [this, hw]
    simp only [cond_false, hm]
  | cons c q ih =>
    intro p hp
    have i0 := ih (p ++ [c]) (by rw [hp]; simp)
    refine i0.next fun m hm => ?_
    have g1 := at_cons Gl.c (l := l) (pre := p) (rest := q ++ a :: rest) (a := c) (by rw [hl, hp]; simp) hb
    have g2 := at_cons Gl.c hl hb
    obtain ⟨_, k2, k3, k4⟩ := g1
    obtain ⟨_, j2, j3, _⟩ := g2
    have : decide ((p.length : Int) < (pre.length : Int)) = true := by subst hp; simp; omega
    rw [L85_7_eq]; unfold L85_7
    have e0 : ∀ c : Gl, c.c[0]? = some (C.str c.name) := fun _ => rfl
    simp only [this, k2, k3, k4, j2, j3, hm, cond_true, Bool.true_and, Option.bind_some, Gl.len6, e0, asS_s, str_beq]
    have hc : ¬ c.name = a.name := fun e => hn (by rw [hp, ← e]; simp)
    simp only [hc, decide_false, cond_false]
theorem rGlyphs_loop (l : List Gl) (hb : I64 l.length) (hk : ∀ g ∈ l, g.ok) : ∀ (rest pre : List Gl), l = pre ++ rest → glB pre = true →
    Ev fun m => (eng Try.prog hs m).loop (lp Try.f85 2) (S85_2 (l.map Gl.c) pre.length) = some (.ret [.one (.bool (glB l))] none) := by
  have el : ((l.map Gl.c).length : Int) = l.length := by simp
  intro rest
  induction rest with
  | nil =>
    intro pre h hg
    refine Ev.step fun m => ?_
    rw [L85_2_eq]; unfold L85_2
    rw [el, at_nil h]
    rw [h, List.append_nil, hg]; rfl
  | cons c rest ih =>
    intro pre h hg
    obtain ⟨h1, h2, h3, h4⟩ := at_cons Gl.c h hb
    have e0 : c.c[0]? = some (C.str c.name) := rfl
    have e1 : c.c[1]? = some (C.int .i64 c.w) := rfl
    have hnm := rName_says c.name (hk c (by rw [h]; simp)).1
    have hme := rMetrics_says c
    cases a1 : nameB c.name with
    | false =>
      refine hnm.next fun m hm => ?_
      rw [L85_2_eq]; unfold L85_2
      rw [el, glB_bad h (.inl (by simp [Gl.okB, a1]))]
      simp only [h1, h2, h3, cond_true, Bool.true_and, Option.bind_some, Gl.len6, e0, asS_s]
      rw [cb_bool hm, a1]; rfl
    | true =>
      cases a2 : c.metB with
      | false =>
        refine (hnm.and hme).next fun m hm => ?_
        rw [L85_2_eq]; unfold L85_2
        rw [el, glB_bad h (.inl (by simp [Gl.okB, a2]))]
        simp only [h1, h2, h3, cond_true, Bool.true_and, Option.bind_some, Gl.len6, e0, asS_s]
        rw [cb_bool hm.1, cb_bool hm.2, a1, a2]; rfl
      | true =>
        by_cases a3 : 0 ≤ c.w
        · have hok : c.okB = true := by simp [Gl.okB, a1, a2, a3]
          have a3' : ¬ c.w < 0 := by omega
          have hin : Ev fun m => (eng Try.prog hs m).loop (lp Try.f85 7) (S85_7 (l.map Gl.c) pre.length 0) = some (.ret [.one (.bool (glB l))] none) := by
            by_cases hseen : c.name ∈ pre.map Gl.name
            · rw [glB_bad h (.inr hseen)]
              -- a name that stood before
              have key : ∀ (q p : List Gl), pre = p ++ q → c.name ∈ q.map Gl.name → Ev fun m => (eng Try.prog hs m).loop (lp Try.f85 7) (S85_7 (l.map Gl.c) pre.length p.length) = some (.ret [.one (.bool false)] none) := by
                intro q
                induction q with
                | nil => intro p _ hq; simp at hq
                | cons d q ihq =>
                  intro p hp hq
                  have g1 := at_cons Gl.c (l := l) (pre := p) (rest := q ++ c :: rest) (a := d) (by rw [h, hp]; simp) hb
                  obtain ⟨_, k2, k3, k4⟩ := g1
                  have hlt : decide ((p.length : Int) < (pre.length : Int)) = true := by rw [hp]; simp; omega
                  have e0' : d.c[0]? = some (C.str d.name) := rfl
                  by_cases hd : d.name = c.name
                  · refine Ev.step fun m => ?_
                    rw [L85_7_eq]; unfold L85_7
                    simp only [hlt, k2, k3, h2, h3, cond_true, Bool.true_and, Option.bind_some, Gl.len6, e0, e0', asS_s, str_beq, hd, decide_true]
                  · have hq' : c.name ∈ q.map Gl.name := by
                      rw [List.map_cons, List.mem_cons] at hq
                      exact hq.resolve_left (fun e => hd e.symm)
                    refine (ihq (p ++ [d]) (by rw [hp]; simp) hq').next fun m hm => ?_
                    rw [L85_7_eq]; unfold L85_7
                    simp only [hlt, k2, k3, k4, h2, h3, cond_true, Bool.true_and, Option.bind_some, Gl.len6, e0, e0', asS_s, str_beq, hd, decide_false, cond_false, hm]
              exact key pre [] rfl hseen
            · have i0 := ih (pre ++ [c]) (by rw [h]; simp) (glB_snoc hg hok hseen)
              exact rGlyphs_in l pre rest c h hb hseen (.ret [.one (.bool (glB l))] none) (i0.mono fun m hm => by
                have e : ((pre ++ [c]).length : Int) = (pre.length : Int) + 1 := by simp
                rw [e] at hm; exact hm) pre [] rfl
          refine ((hnm.and hme).and hin).next fun m hm => ?_
          rw [L85_2_eq]; unfold L85_2
          rw [el]
          simp only [h1, h2, h3, cond_true, Bool.true_and, Option.bind_some, Gl.len6, e0, e1, asS_s, asI_i]
          rw [cb_bool hm.1.1, cb_bool hm.1.2, a1, a2]
          simp [a3', hm.2]
        · refine (hnm.and hme).next fun m hm => ?_
          have a3' : c.w < 0 := by omega
          rw [L85_2_eq]; unfold L85_2
          rw [el, glB_bad h (.inl (by simp [Gl.okB, a3]))]
          simp only [h1, h2, h3, cond_true, Bool.true_and, Option.bind_some, Gl.len6, e0, e1, asS_s, asI_i]
          rw [cb_bool hm.1, cb_bool hm.2, a1, a2]; simp [a3']
end Go.Proofs.Ytbhojnofdeihdaa.E
