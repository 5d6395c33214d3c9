/- What is shown here: what the functions of the reference of fonts come to: validity, boxes, comparisons. -/
import Derived.Test.YtbhojnofdeihdaaFR
namespace Go.Proofs.Ytbhojnofdeihdaa.E
open Go.RowKit Go.Proofs
set_option autoImplicit false
set_option linter.unusedVariables false
set_option linter.unusedSimpArgs false

theorem glB_met {l : List Gl} (h : glB l = true) {g : Gl} (hg : g ∈ l) : g.metB = true := by
  unfold glB at h
  simp only [Bool.and_eq_true, List.all_eq_true] at h
  have := h.1 g hg
  simp only [Gl.okB, Bool.and_eq_true] at this
  exact this.1.2
theorem met_hgt {g : Gl} (h : g.metB = true) : IntKind.i64.wrap (g.h + g.d) = g.hgt := by
  simp only [Gl.metB, metB, Bool.and_eq_true, decide_eq_true_eq] at h
  exact wr_id ⟨by omega, by omega⟩
theorem rParts_loop (f : Fnt) (s : Stc) (hg : glB f.gl = true) (hb0 : I64 f.gl.length) (hb : I64 s.parts.length) : ∀ (rest pre : List Pt) (x : Bool), s.parts = pre ++ rest →
    Ev fun m => (eng Try.prog hs m).loop (lp Try.f86 15) (S86_15 x pre.length f.c s.c) =
      some (.ret [.one (.bool (rest.all (fun p => match find f.gl p.name with | none => false | some g => decide (s.over < g.hgt)) && ((x || rest.any Pt.ext) && decide (0 ≤ s.over))))] none) := by
  have ep : s.c[2]? = some (C.sl (s.parts.map Pt.c)) := rfl
  have e3 : s.c[3]? = some (C.int .i64 s.over) := rfl
  have el : ((s.parts.map Pt.c).length : Int) = s.parts.length := by simp
  intro rest
  induction rest with
  | nil =>
    intro pre x h
    refine Ev.step fun m => ?_
    rw [L86_15_eq]; unfold L86_15
    simp only [ep, e3, asL_l, asI_i, Option.bind_some, el, at_nil h, cond_false]
    cases x <;> simp
  | cons c rest ih =>
    intro pre x h
    have i0 := fun x => ih (pre ++ [c]) x (by rw [h]; simp)
    obtain ⟨h1, h2, h3, h4⟩ := at_cons Pt.c h hb
    have e0 : c.c[0]? = some (C.str c.name) := rfl
    have e1 : c.c[1]? = some (C.bool c.ext) := rfl
    cases hf : find f.gl c.name with
    | none =>
      refine (rFind_says f hb0 c.name).next fun m hm => ?_
      rw [L86_15_eq]; unfold L86_15
      simp only [ep, asL_l, Option.bind_some, el, h1, h2, h3, cond_true, Bool.true_and, Pt.len2, e0, asS_s]
      rw [cb_aggB hm]
      simp [hf]
    | some g =>
      have hw := met_hgt (glB_met hg (find_mem hf).1)
      refine ((rFind_says f hb0 c.name).and ((rHeight_says g).and ((i0 true).and ((i0 c.ext).and (i0 false))))).next fun m hm => ?_
      obtain ⟨m1, m2, m3, m4, m5⟩ := hm
      rw [hw] at m2
      rw [L86_15_eq]; unfold L86_15
      simp only [ep, asL_l, Option.bind_some, el, h1, h2, h3, h4, cond_true, Bool.true_and, Pt.len2, e0, e1, e3, asS_s, asI_i, asB_b]
      rw [cb_aggB m1]
      simp only [hf, Option.isSome_some, Bool.not_true, cond_false, Option.getD_some]
      rw [cb_int m2, m3, m4]
      simp only [List.all_cons, List.any_cons, hf]
      by_cases a1 : s.over < g.hgt
      · have a2 : ¬ s.over ≥ g.hgt := by omega
        cases x <;> simp [a1, a2]
      · have a2 : s.over ≥ g.hgt := by omega
        simp [a1, a2]
theorem partsB_ref (gl : List Gl) (s : Stc) : partsB gl s = match s.parts with
    | [] => decide (s.over = 0)
    | p :: l => (p :: l).all (fun p => match find gl p.name with | none => false | some g => decide (s.over < g.hgt)) && ((false || (p :: l).any Pt.ext) && decide (0 ≤ s.over)) := by
  unfold partsB
  cases s.parts with
  | nil => rfl
  | cons p l =>
    by_cases h0 : 0 ≤ s.over
    · have : ∀ q, partB gl s.over q = (match find gl q.name with | none => false | some g => decide (s.over < g.hgt)) := fun q => by
        unfold partB; cases find gl q.name <;> simp [h0]
      rw [show partB gl s.over = _ from funext this]
      simp only [h0, decide_true, Bool.and_true, Bool.false_or]
    · have : partB gl s.over p = false := by
        unfold partB; cases find gl p.name <;> simp [h0]
      simp [this, h0]
theorem rSizes_loop (f : Fnt) (s : Stc) (hg : glB f.gl = true) (hb0 : I64 f.gl.length) (hb : I64 s.sizes.length) (hb2 : I64 s.parts.length) : ∀ (rest pre : List ByteArray) (last : Option Int) (x : Int), s.sizes = pre ++ rest → (last = none → pre = []) → (∀ h, last = some h → pre ≠ [] ∧ x = h) →
    Ev fun m => (eng Try.prog hs m).loop (lp Try.f86 5) (S86_5 x pre.length f.c s.c) =
      some (.ret [.one (.bool (sizesB f.gl last rest && partsB f.gl s))] none) := by
  have e1 : s.c[1]? = some (C.sl (strs s.sizes)) := rfl
  have e2 : s.c[2]? = some (C.sl (s.parts.map Pt.c)) := rfl
  have e3 : s.c[3]? = some (C.int .i64 s.over) := rfl
  have e4 : ((s.parts.map Pt.c).length : Int) = s.parts.length := by simp
  have e5 : ((strs s.sizes).length : Int) = s.sizes.length := by simp [strs]
  intro rest
  induction rest with
  | nil =>
    intro pre last x h _ _
    refine (rParts_loop f s hg hb0 hb2 s.parts [] false rfl).next fun m hm => ?_
    rw [L86_5_eq]; unfold L86_5
    have hm' : (eng Try.prog hs m).loop (lp Try.f86 15) (S86_15 false 0 f.c s.c) = _ := hm
    simp only [e1, e2, e3, e4, e5, asL_l, asI_i, Option.bind_some, at_nil h, cond_false, hm', sizesB, Bool.true_and]
    rw [partsB_ref]
    cases hp : s.parts with
    | nil =>
      simp only [List.length_nil]
      by_cases h0 : s.over = 0 <;> simp [h0]
    | cons p l =>
      have : (((p :: l).length : Int) == 0) = false := by rw [beq_eq_false_iff_ne]; simp; omega
      rw [this]; rfl
  | cons c rest ih =>
    intro pre last x h hl0 hl1
    have hx : ∀ g, Ev fun m => (eng Try.prog hs m).loop (lp Try.f86 5) (S86_5 (Gl.hgt g) (pre ++ [c]).length f.c s.c) =
      some (.ret [.one (.bool (sizesB f.gl (some g.hgt) rest && partsB f.gl s))] none) := fun g => ih (pre ++ [c]) (some g.hgt) g.hgt (by rw [h]; simp) (by simp) (by intro h e; cases e; simp)
    obtain ⟨h1, h2, h3, h4⟩ := at_cons (fun s : ByteArray => [C.str s]) h hb
    cases hf : find f.gl c with
    | none =>
      refine (rFind_says f hb0 c).next fun m hm => ?_
      rw [L86_5_eq]; unfold L86_5
      simp only [e1, asL_l, Option.bind_some, e5]
      unfold strs; rw [h1, h2, h3]
      simp only [cond_true, Bool.true_and, Option.bind_some, strs_len1, List.getElem?_cons_zero, asS_s]
      rw [cb_aggB hm]
      simp [hf, sizesB]
    | some g =>
      have hw := met_hgt (glB_met hg (find_mem hf).1)
      refine ((rFind_says f hb0 c).and ((rHeight_says g).and (hx g))).next fun m hm => ?_
      obtain ⟨m1, m2, m3⟩ := hm
      rw [hw] at m2
      rw [L86_5_eq]; unfold L86_5
      simp only [e1, asL_l, Option.bind_some, e5]
      unfold strs; rw [h1, h2, h3, h4]
      simp only [cond_true, Bool.true_and, Option.bind_some, strs_len1, List.getElem?_cons_zero, asS_s]
      rw [cb_aggB m1]
      simp only [hf, Option.isSome_some, Bool.not_true, cond_false, Option.getD_some]
      rw [cb_int m2, cb_int m2, m3]
      simp only [sizesB, hf]
      cases last with
      | none =>
        rw [hl0 rfl]; simp
      | some hh =>
        obtain ⟨p1, rfl⟩ := hl1 hh rfl
        have p2 : ((pre.length : Int) > 0) := by
          cases pre with
          | nil => exact absurd rfl p1
          | cons _ _ => simp
        simp only [p2, decide_true, cond_true]
        by_cases q : g.hgt ≤ x
        · have : ¬ x < g.hgt := by omega
          simp [q, this]
        · have : x < g.hgt := by omega
          simp [q, this]
theorem rStretchOk_says (f : Fnt) (s : Stc) (hg : glB f.gl = true) (hn : I64 s.name.size) (hb0 : I64 f.gl.length) (hb : I64 s.sizes.length) (hb2 : I64 s.parts.length) : Says Try.prog hs 86 [.agg 22 f.c, .agg 4 s.c] [.one (.bool (s.okB f.gl))] := by
  refine ((rName_says s.name hn).and (rSizes_loop f s hg hb0 hb hb2 s.sizes [] none 0 rfl (fun _ => rfl) (by intro h e; cases e))).next fun m hm => ?_
  obtain ⟨h1, h2⟩ := hm
  rw [R86_eq]; unfold R86
  have e0 : s.c[0]? = some (C.str s.name) := rfl
  have e1 : s.c[1]? = some (C.sl (strs s.sizes)) := rfl
  have e2 : s.c[2]? = some (C.sl (s.parts.map Pt.c)) := rfl
  have e3 : ((s.parts.map Pt.c).length : Int) = s.parts.length := by simp
  have e4 : ((strs s.sizes).length : Int) = s.sizes.length := by simp [strs]
  have h2' : (eng Try.prog hs m).loop (lp Try.f86 5) (S86_5 0 0 f.c s.c) = _ := h2
  simp only [e0, e1, e2, e3, e4, asS_s, asL_l, Option.bind_some]
  rw [cb_bool h1, h2']
  have hp : s.okB f.gl = (nameB s.name && decide (1 ≤ s.sizes.length) && decide (s.sizes.length ≤ 16) && decide (s.parts.length ≤ 8) && sizesB f.gl none s.sizes && partsB f.gl s) := by
    unfold Stc.okB partsB; rfl
  rw [hp]
  cases nameB s.name with
  | false => simp
  | true =>
    by_cases a1 : 1 ≤ s.sizes.length
    · have b1 : ¬ ((s.sizes.length : Int) < 1) := by omega
      by_cases a2 : s.sizes.length ≤ 16
      · have b2 : ¬ ((s.sizes.length : Int) > 16) := by omega
        by_cases a3 : s.parts.length ≤ 8
        · have b3 : ¬ ((s.parts.length : Int) > 8) := by omega
          simp [a1, a2, a3, b1, b2, b3]
        · have b3 : ((s.parts.length : Int) > 8) := by omega
          simp [a1, a2, a3, b1, b2, b3]
      · have b2 : ((s.sizes.length : Int) > 16) := by omega
        simp [a1, a2, b1, b2]
    · have b1 : ((s.sizes.length : Int) < 1) := by omega
      simp [a1, b1]
theorem rValid_in (f : Fnt) (pre rest : List Stc) (a : Stc) (hl : f.st = pre ++ a :: rest) (hb : I64 f.st.length) (hn : a.name ∉ pre.map Stc.name) (r : Res)
    (h0 : Ev fun m => (eng Try.prog hs m).loop (lp Try.f64 4) (S64_4 (pre.length + 1 : Int) f.c) = some r) :
    ∀ (q p : List Stc), pre = p ++ q → Ev fun m => (eng Try.prog hs m).loop (lp Try.f64 9) (S64_9 pre.length p.length f.c) = some r := by
  have es : f.c[1]? = some (C.sl (f.st.map Stc.c)) := rfl
  have hw : IntKind.i64.wrap ((pre.length : Int) + 1) = (pre.length : Int) + 1 := by
    refine wr_id ⟨by omega, ?_⟩
    have := hb.2; rw [hl] at this; simp at this; omega
  intro q
  induction q with
  | nil =>
    intro p hp
    refine h0.next fun m hm => ?_
    rw [L64_9_eq]; unfold L64_9
    have : decide ((p.length : Int) < (pre.length : Int)) = false := by subst hp; simp
    rw [this, hw]
    simp only [cond_false, hm]
  | cons c q ih =>
    intro p hp
    have i0 := ih (p ++ [c]) (by rw [hp]; simp)
    refine i0.next fun m hm => ?_
    have g1 := at_cons Stc.c (l := f.st) (pre := p) (rest := q ++ a :: rest) (a := c) (by rw [hl, hp]; simp) hb
    have g2 := at_cons Stc.c hl hb
    obtain ⟨_, k2, k3, k4⟩ := g1
    obtain ⟨_, j2, j3, _⟩ := g2
    have : decide ((p.length : Int) < (pre.length : Int)) = true := by subst hp; simp; omega
    rw [L64_9_eq]; unfold L64_9
    have e0 : ∀ c : Stc, c.c[0]? = some (C.str c.name) := fun _ => rfl
    have hc : ¬ c.name = a.name := fun e => hn (by rw [hp, ← e]; simp)
    simp only [this, es, asL_l, k2, k3, k4, j2, j3, hm, cond_true, Bool.true_and, Option.bind_some, Stc.len4, e0, asS_s, str_beq, hc, decide_false, cond_false]
theorem rValid_seen (f : Fnt) (pre rest : List Stc) (a : Stc) (hl : f.st = pre ++ a :: rest) (hb : I64 f.st.length) :
    ∀ (q p : List Stc), pre = p ++ q → a.name ∈ q.map Stc.name → Ev fun m => (eng Try.prog hs m).loop (lp Try.f64 9) (S64_9 pre.length p.length f.c) = some (.ret [.one (.bool false)] none) := by
  have es : f.c[1]? = some (C.sl (f.st.map Stc.c)) := rfl
  have e0 : ∀ c : Stc, c.c[0]? = some (C.str c.name) := fun _ => rfl
  have g2 := at_cons Stc.c hl hb
  obtain ⟨_, j2, j3, _⟩ := g2
  intro q
  induction q with
  | nil => intro p _ hq; simp at hq
  | cons d q ihq =>
    intro p hp hq
    have g1 := at_cons Stc.c (l := f.st) (pre := p) (rest := q ++ a :: rest) (a := d) (by rw [hl, hp]; simp) hb
    obtain ⟨_, k2, k3, k4⟩ := g1
    have hlt : decide ((p.length : Int) < (pre.length : Int)) = true := by rw [hp]; simp; omega
    by_cases hd : d.name = a.name
    · refine Ev.step fun m => ?_
      rw [L64_9_eq]; unfold L64_9
      simp only [hlt, es, asL_l, k2, k3, j2, j3, cond_true, Bool.true_and, Option.bind_some, Stc.len4, e0, asS_s, str_beq, hd, decide_true]
    · have hq' : a.name ∈ q.map Stc.name := by
        rw [List.map_cons, List.mem_cons] at hq
        exact hq.resolve_left (fun e => hd e.symm)
      refine (ihq (p ++ [d]) (by rw [hp]; simp) hq').next fun m hm => ?_
      rw [L64_9_eq]; unfold L64_9
      simp only [hlt, es, asL_l, k2, k3, k4, j2, j3, cond_true, Bool.true_and, Option.bind_some, Stc.len4, e0, asS_s, str_beq, hd, decide_false, cond_false, hm]
theorem rValid_loop (f : Fnt) (hf : f.few) (hk : f.ok) (hg : glB f.gl = true) : ∀ (rest pre : List Stc), f.st = pre ++ rest → stB f.gl pre = true →
    Ev fun m => (eng Try.prog hs m).loop (lp Try.f64 4) (S64_4 pre.length f.c) = some (.ret [.one (.bool (stB f.gl f.st))] none) := by
  have hb : I64 f.st.length := .le (by have := hf.st; omega)
  have hb0 : I64 f.gl.length := .le (by have := hf.gl; omega)
  have es : f.c[1]? = some (C.sl (f.st.map Stc.c)) := rfl
  have el : ((f.st.map Stc.c).length : Int) = f.st.length := by simp
  intro rest
  induction rest with
  | nil =>
    intro pre h hst
    refine Ev.step fun m => ?_
    rw [L64_4_eq]; unfold L64_4
    simp only [es, asL_l, Option.bind_some, el, at_nil h, cond_false]
    rw [h, List.append_nil, hst]
  | cons c rest ih =>
    intro pre h hst
    have hmem : c ∈ f.st := by rw [h]; simp
    have hc := hf.sz c hmem
    obtain ⟨h1, h2, h3, h4⟩ := at_cons Stc.c h hb
    have hsays := rStretchOk_says f c hg (hk.st c hmem).1 hb0 (.le (by omega)) (.le (by omega))
    cases hok : c.okB f.gl with
    | false =>
      refine hsays.next fun m hm => ?_
      rw [L64_4_eq]; unfold L64_4
      simp only [es, asL_l, Option.bind_some, el, h1, h2, h3, cond_true, Bool.true_and, Stc.len4]
      rw [cb_bool hm, hok, stB_bad h (.inl hok)]; rfl
    | true =>
      have hin : Ev fun m => (eng Try.prog hs m).loop (lp Try.f64 9) (S64_9 pre.length 0 f.c) = some (.ret [.one (.bool (stB f.gl f.st))] none) := by
        by_cases hseen : c.name ∈ pre.map Stc.name
        · rw [stB_bad h (.inr hseen)]
          exact rValid_seen f pre rest c h hb pre [] rfl hseen
        · have i0 := ih (pre ++ [c]) (by rw [h]; simp) (stB_snoc hst hok hseen)
          exact rValid_in f pre rest c h hb hseen (.ret [.one (.bool (stB f.gl f.st))] none) (i0.mono fun m hm => by
            have e : ((pre ++ [c]).length : Int) = (pre.length : Int) + 1 := by simp
            rw [e] at hm; exact hm) pre [] rfl
      refine (hsays.and hin).next fun m hm => ?_
      rw [L64_4_eq]; unfold L64_4
      simp only [es, asL_l, Option.bind_some, el, h1, h2, h3, cond_true, Bool.true_and, Stc.len4]
      rw [cb_bool hm.1, hok, hm.2]; rfl
theorem rGlyphs_says (l : List Gl) (hb : I64 l.length) (hk : ∀ g ∈ l, g.ok) : Says Try.prog hs 85 [.one (.sl (l.map Gl.c))] [.one (.bool (glB l))] :=
  (rGlyphs_loop l hb hk l [] rfl rfl).next fun m h => by
    rw [R85_eq]; unfold R85; exact h
theorem rValid_says (f : Fnt) (hf : f.few) (hk : f.ok) : Says Try.prog hs 64 [.agg 22 f.c] [.one (.bool f.valid)] := by
  have es : f.c[1]? = some (C.sl (f.st.map Stc.c)) := rfl
  have eg : f.c[0]? = some (C.sl (f.gl.map Gl.c)) := rfl
  have e2 : List.take 20 (List.drop 2 f.c) = f.par.c := rfl
  have el : ((f.st.map Stc.c).length : Int) = f.st.length := by simp
  have el0 : ((f.gl.map Gl.c).length : Int) = f.gl.length := by simp
  by_cases a1 : f.gl.length ≤ 400
  · have b1 : ¬ ((f.gl.length : Int) > 400) := by omega
    by_cases a2 : f.st.length ≤ 40
    · have b2 : ¬ ((f.st.length : Int) > 40) := by omega
      have base := (rParams_says f.par).and (rGlyphs_says f.gl (.le (by omega)) hk.gl)
      have hv : f.valid = (glB f.gl && (stB f.gl f.st && f.par.okB)) := by unfold Fnt.valid; simp [a1, a2]
      cases hg : glB f.gl with
      | false =>
        refine base.next fun m h => ?_
        rw [R64_eq]; unfold R64
        simp only [es, eg, e2, el, el0, asL_l, Option.bind_some, b1, b2, decide_false, cond_false]
        rw [cb_bool h.1, cb_bool h.2, hv, hg]
        cases f.par.okB <;> rfl
      | true =>
        refine (base.and (rValid_loop f hf hk hg f.st [] rfl rfl)).next fun m h => ?_
        have h3 : (eng Try.prog hs m).loop (lp Try.f64 4) (S64_4 0 f.c) = _ := h.2
        rw [R64_eq]; unfold R64
        simp only [es, eg, e2, el, el0, asL_l, Option.bind_some, b1, b2, decide_false, cond_false]
        rw [cb_bool h.1.1, cb_bool h.1.2, hv, hg, h3]
        cases f.par.okB <;> simp
    · have b2 : ((f.st.length : Int) > 40) := by omega
      refine Ev.step fun m => ?_
      rw [R64_eq]; unfold R64
      simp only [es, eg, el, el0, asL_l, Option.bind_some, b1, b2, decide_false, decide_true, cond_false, cond_true]
      have hv : f.valid = false := by unfold Fnt.valid; simp [a2]
      rw [hv]
  · have b1 : ((f.gl.length : Int) > 400) := by omega
    refine Ev.step fun m => ?_
    rw [R64_eq]; unfold R64
    simp only [es, eg, el, el0, asL_l, Option.bind_some, b1, decide_true, cond_true]
    have hv : f.valid = false := by unfold Fnt.valid; simp [a1]
    rw [hv]
/-! ### few -/
def fewB (f : Fnt) : Bool := decide (f.gl.length ≤ 500) && (decide (f.st.length ≤ 50) && f.st.all fun s => decide (s.sizes.length ≤ 50) && decide (s.parts.length ≤ 50))
theorem fewB_few {f : Fnt} (h : fewB f = true) : f.few := by
  simp only [fewB, Bool.and_eq_true, decide_eq_true_eq, List.all_eq_true] at h
  exact ⟨h.1, h.2.1, h.2.2⟩
theorem Few_loop (f : Fnt) (hb : I64 f.st.length) : ∀ (rest pre : List Stc), f.st = pre ++ rest →
    Ev fun m => (eng Try.prog hs m).loop (lp Try.f31 4) (S31_4 pre.length f.c) = some (.ret [.one (.bool (rest.all fun s => decide (s.sizes.length ≤ 50) && decide (s.parts.length ≤ 50)))] none) := by
  have es : f.c[1]? = some (C.sl (f.st.map Stc.c)) := rfl
  have el : ((f.st.map Stc.c).length : Int) = f.st.length := by simp
  intro rest
  induction rest with
  | nil =>
    intro pre h
    refine Ev.step fun m => ?_
    rw [L31_4_eq]; unfold L31_4
    simp only [es, asL_l, Option.bind_some, el, at_nil h, cond_false]; rfl
  | cons c rest ih =>
    intro pre h
    refine (ih (pre ++ [c]) (by rw [h]; simp)).next fun m hm => ?_
    obtain ⟨h1, h2, h3, h4⟩ := at_cons Stc.c h hb
    have e1 : c.c[1]? = some (C.sl (strs c.sizes)) := rfl
    have e2 : c.c[2]? = some (C.sl (c.parts.map Pt.c)) := rfl
    have e3 : ((c.parts.map Pt.c).length : Int) = c.parts.length := by simp
    have e4 : ((strs c.sizes).length : Int) = c.sizes.length := by simp [strs]
    rw [L31_4_eq]; unfold L31_4
    simp only [es, asL_l, Option.bind_some, el, h1, h2, h3, h4, cond_true, Bool.true_and, Stc.len4, e1, e2, e3, e4, hm, List.all_cons]
    by_cases a1 : c.sizes.length ≤ 50
    · have b1 : ¬ ((c.sizes.length : Int) > 50) := by omega
      by_cases a2 : c.parts.length ≤ 50
      · have b2 : ¬ ((c.parts.length : Int) > 50) := by omega
        simp [a1, a2, b1, b2]
      · have b2 : ((c.parts.length : Int) > 50) := by omega
        simp [a1, a2, b1, b2]
    · have b1 : ((c.sizes.length : Int) > 50) := by omega
      simp [a1, b1]
theorem Few_says (f : Fnt) : Says Try.prog hs 31 [.agg 22 f.c] [.one (.bool (fewB f))] := by
  have es : f.c[1]? = some (C.sl (f.st.map Stc.c)) := rfl
  have eg : f.c[0]? = some (C.sl (f.gl.map Gl.c)) := rfl
  have el : ((f.st.map Stc.c).length : Int) = f.st.length := by simp
  have el0 : ((f.gl.map Gl.c).length : Int) = f.gl.length := by simp
  by_cases a1 : f.gl.length ≤ 500
  · have b1 : ¬ ((f.gl.length : Int) > 500) := by omega
    by_cases a2 : f.st.length ≤ 50
    · have b2 : ¬ ((f.st.length : Int) > 50) := by omega
      refine (Few_loop f (.le (by omega)) f.st [] rfl).next fun m h => ?_
      have h3 : (eng Try.prog hs m).loop (lp Try.f31 4) (S31_4 0 f.c) = _ := h
      rw [R31_eq]; unfold R31
      simp only [es, eg, el, el0, asL_l, Option.bind_some, b1, b2, decide_false, cond_false, h3, fewB, a1, a2, decide_true, Bool.true_and]
    · have b2 : ((f.st.length : Int) > 50) := by omega
      refine Ev.step fun m => ?_
      rw [R31_eq]; unfold R31
      simp only [es, eg, el, el0, asL_l, Option.bind_some, b1, b2, decide_false, decide_true, cond_false, cond_true, fewB, a1, a2, Bool.false_and, Bool.and_false]
  · have b1 : ((f.gl.length : Int) > 500) := by omega
    refine Ev.step fun m => ?_
    rw [R31_eq]; unfold R31
    simp only [es, eg, el, el0, asL_l, Option.bind_some, b1, decide_true, cond_true, fewB, a1, decide_false, Bool.false_and]
end Go.Proofs.Ytbhojnofdeihdaa.E
