/- What is shown here: what font.Valid, font.Scaled and font.Box come to. -/
import Derived.Test.YtbhojnofdeihdaaFT
namespace Go.Proofs.Ytbhojnofdeihdaa.E
open Go.RowKit Go.Proofs
set_option autoImplicit false
set_option linter.unusedVariables false
set_option linter.unusedSimpArgs false

def Fnt.rest (f : Fnt) : Bool := decide (f.gl.length ≤ 400) && (decide (f.st.length ≤ 40) && f.par.okB)
theorem valid2_loop (f : Fnt) (hf : f.few) : ∀ (rest pre : List Stc), f.st = pre ++ rest → stB f.gl pre = true →
    Ev fun m => (eng Try.prog hs m).loop (lp Try.f59 12) (S59_12a (f.st.map Stc.c) f.st.length pre.length f.c (hts f.gl) (nms pre)) = some (.ret [.one (.bool (stB f.gl f.st && f.rest))] none) := by
  have hb : I64 f.st.length := ⟨by omega, by have := hf.st; omega⟩
  intro rest
  induction rest with
  | nil =>
    intro pre h hst
    refine (params_says f.par).next fun m hm => ?_
    rw [L59_12a_eq]; unfold L59_12a
    rw [at_nil h]
    have e0 : f.c[0]? = some (C.sl (f.gl.map Gl.c)) := rfl
    have e1 : f.c[1]? = some (C.sl (f.st.map Stc.c)) := rfl
    have e2 : List.take 20 (List.drop 2 f.c) = f.par.c := rfl
    have e3 : ((f.gl.map Gl.c).length : Int) = f.gl.length := by simp
    have e4 : ((f.st.map Stc.c).length : Int) = f.st.length := by simp
    simp only [cond_false, e0, e1, e2, e3, e4, asL_l, Option.bind_some]
    rw [cb_bool hm]
    have hs' : stB f.gl f.st = true := by rw [h, List.append_nil]; exact hst
    rw [hs']
    unfold Fnt.rest
    by_cases a1 : f.gl.length ≤ 400
    · have b1 : ((f.gl.length : Int) ≤ 400) := by omega
      by_cases a2 : f.st.length ≤ 40
      · have b2 : ((f.st.length : Int) ≤ 40) := by omega
        simp [a1, a2, b1, b2]
      · have b2 : ¬ ((f.st.length : Int) ≤ 40) := by omega
        simp [a1, a2, b1, b2]
    · have b1 : ¬ ((f.gl.length : Int) ≤ 400) := by omega
      simp [a1, b1]
  | cons c rest ih =>
    intro pre h hst
    obtain ⟨h1, h2, h3, h4⟩ := at_cons Stc.c h hb
    have hc := hf.sz c (by rw [h]; simp)
    have e0 : c.c[0]? = some (C.str c.name) := rfl
    by_cases hseen : c.name ∈ pre.map Stc.name
    · refine Ev.step fun m => ?_
      rw [L59_12a_eq]; unfold L59_12a
      rw [h1, h2, h3]
      have : (findSt pre c.name).isSome = true := by
        cases hq : findSt pre c.name with
        | none => exact absurd hseen (findSt_none.1 hq)
        | some _ => rfl
      simp only [cond_true, Bool.true_and, Option.bind_some, Stc.len4, e0, asS_s, entB_nms, this]
      rw [stB_bad h (.inr hseen)]; rfl
    · have hnone := findSt_none.2 hseen
      have hsays := stretchOk_says f.gl c ⟨by omega, by omega⟩ ⟨by omega, by omega⟩
      cases hok : c.okB f.gl with
      | false =>
        refine hsays.next fun m hm => ?_
        rw [L59_12a_eq]; unfold L59_12a
        rw [h1, h2, h3]
        simp only [cond_true, Bool.true_and, Option.bind_some, Stc.len4, e0, asS_s, entB_nms, hnone]
        rw [cb_bool hm, hok, stB_bad h (.inl hok)]; rfl
      | true =>
        have i0 := ih (pre ++ [c]) (by rw [h]; simp) (stB_snoc hst hok hseen)
        refine (hsays.and i0).next fun m hm => ?_
        rw [L59_12a_eq]; unfold L59_12a
        rw [h1, h2, h3, h4]
        simp only [cond_true, Bool.true_and, Option.bind_some, Stc.len4, e0, asS_s, entB_nms, hnone]
        rw [cb_bool hm.1, hok]
        simp only [Option.isSome_none, Bool.not_true, cond_false, mapSet_nms hnone, hm.2]
theorem valid1_loop (f : Fnt) (hf : f.few) : ∀ (rest pre : List Gl), f.gl = pre ++ rest → glB pre = true →
    Ev fun m => (eng Try.prog hs m).loop (lp Try.f59 3) (S59_3 (f.gl.map Gl.c) f.gl.length pre.length f.c (hts pre)) = some (.ret [.one (.bool f.valid)] none) := by
  have hb : I64 f.gl.length := ⟨by omega, by have := hf.gl; omega⟩
  intro rest
  induction rest with
  | nil =>
    intro pre h hgl
    have hpre : f.gl = pre := by rw [h, List.append_nil]
    have l2 : Ev fun m => (eng Try.prog hs m).loop (lp Try.f59 12) (S59_12 (f.st.map Stc.c) f.st.length 0 f.c (hts f.gl) []) = some (.ret [.one (.bool (stB f.gl f.st && f.rest))] none) := by
      obtain ⟨M, hM⟩ := valid2_loop f hf f.st [] rfl rfl
      refine ⟨M + 1, fun n hn => ?_⟩
      obtain ⟨k, rfl⟩ : ∃ k, n = k + 1 := ⟨n - 1, by omega⟩
      have := hM (k + 1) (by omega)
      dsimp only at this ⊢
      rw [L59_12_eq]; rw [L59_12a_eq] at this; exact this
    refine l2.next fun m hm => ?_
    rw [L59_3_eq]; unfold L59_3
    rw [at_nil h]
    have e1 : f.c[1]? = some (C.sl (f.st.map Stc.c)) := rfl
    have e4 : ((f.st.map Stc.c).length : Int) = f.st.length := by simp
    simp only [cond_false, e1, e4, asL_l, Option.bind_some]
    rw [← hpre, hm]
    have : f.valid = (stB f.gl f.st && f.rest) := by unfold Fnt.valid Fnt.rest; rw [hpre] at *; rw [hgl]; simp
    rw [this]
  | cons c rest ih =>
    intro pre h hgl
    obtain ⟨h1, h2, h3, h4⟩ := at_cons Gl.c h hb
    have e0 : c.c[0]? = some (C.str c.name) := rfl
    have e1 : c.c[1]? = some (C.int .i64 c.w) := rfl
    have bad : glB f.gl = false → f.valid = false := fun q => by unfold Fnt.valid; rw [q]; rfl
    by_cases hseen : c.name ∈ pre.map Gl.name
    · refine Ev.step fun m => ?_
      rw [L59_3_eq]; unfold L59_3
      rw [h1, h2, h3, bad (glB_bad h (.inr hseen))]
      have : ∃ g, find pre c.name = some g := by
        cases hq : find pre c.name with
        | none => exact absurd hseen (find_none.1 hq)
        | some g => exact ⟨g, rfl⟩
      obtain ⟨g, hg⟩ := this
      simp only [cond_true, Bool.true_and, Option.bind_some, Gl.len6, e0, asS_s, entI_hts, hg]
    · have hnone := find_none.2 hseen
      have hnm := named_says c.name
      have hme := metrics_says c
      cases a1 : nameB c.name with
      | false =>
        refine hnm.next fun m hm => ?_
        rw [L59_3_eq]; unfold L59_3
        rw [h1, h2, h3, bad (glB_bad h (.inl (by simp [Gl.okB, a1])))]
        simp only [cond_true, Bool.true_and, Option.bind_some, Gl.len6, e0, asS_s, entI_hts, hnone]
        rw [cb_bool hm, a1]; rfl
      | true =>
        cases a2 : c.metB with
        | false =>
          refine (hnm.and hme).next fun m hm => ?_
          rw [L59_3_eq]; unfold L59_3
          rw [h1, h2, h3, bad (glB_bad h (.inl (by simp [Gl.okB, a2])))]
          simp only [cond_true, Bool.true_and, Option.bind_some, Gl.len6, e0, asS_s, entI_hts, hnone]
          rw [cb_bool hm.1, cb_bool hm.2, a1, a2]; rfl
        | true =>
          by_cases a3 : 0 ≤ c.w
          · have hok : c.okB = true := by simp [Gl.okB, a1, a2, a3]
            have i0 := ih (pre ++ [c]) (by rw [h]; simp) (glB_snoc hgl hok hseen)
            refine (((hnm.and hme).and (height_says c)).and i0).next fun m hm => ?_
            obtain ⟨⟨⟨m1, m2⟩, m3⟩, m4⟩ := hm
            have hw : IntKind.i64.wrap (c.h + c.d) = c.hgt := by
              simp only [Gl.metB, metB, Bool.and_eq_true, decide_eq_true_eq] at a2
              exact wr_id ⟨by omega, by omega⟩
            have a3' : ¬ c.w < 0 := by omega
            rw [L59_3_eq]; unfold L59_3
            rw [h1, h2, h3, h4]
            simp only [cond_true, Bool.true_and, Option.bind_some, Gl.len6, e0, e1, asS_s, asI_i, entI_hts, hnone]
            rw [cb_bool m1, cb_bool m2, cb_int m3, a1, a2, hw, mapSet_hts hnone, m4]
            simp [a3']
          · refine (hnm.and hme).next fun m hm => ?_
            have a3' : c.w < 0 := by omega
            rw [L59_3_eq]; unfold L59_3
            rw [h1, h2, h3, bad (glB_bad h (.inl (by simp [Gl.okB, a3])))]
            simp only [cond_true, Bool.true_and, Option.bind_some, Gl.len6, e0, e1, asS_s, asI_i, entI_hts, hnone]
            rw [cb_bool hm.1, cb_bool hm.2, a1, a2]; simp [a3']
theorem Valid_says (f : Fnt) (hf : f.few) : Says Try.prog hs 59 [.agg 22 f.c] [.one (.bool f.valid)] :=
  (valid1_loop f hf f.gl [] rfl rfl).next fun m h => by
    rw [R59_eq]; unfold R59
    have e0 : f.c[0]? = some (C.sl (f.gl.map Gl.c)) := rfl
    have e3 : ((f.gl.map Gl.c).length : Int) = f.gl.length := by simp
    simp only [e0, e3, asL_l, Option.bind_some]
    exact h
theorem Fnt.valid_gl {f : Fnt} (h : f.valid = true) {g : Gl} (hg : g ∈ f.gl) : g.okB = true := by
  unfold Fnt.valid glB at h
  simp only [Bool.and_eq_true, List.all_eq_true] at h
  exact h.1.1 g hg
theorem find_mem {l : List Gl} {s : ByteArray} {g : Gl} (h : find l s = some g) : g ∈ l ∧ g.name = s := by
  unfold find at h
  exact ⟨List.mem_of_find?_eq_some h, by simpa using List.find?_some h⟩
theorem findSt_mem {l : List Stc} {s : ByteArray} {g : Stc} (h : findSt l s = some g) : g ∈ l ∧ g.name = s := by
  unfold findSt at h
  exact ⟨List.mem_of_find?_eq_some h, by simpa using List.find?_some h⟩
theorem pick_met {f : Fnt} (h : f.valid = true) (s : ByteArray) : (pick f.gl s).metB = true := by
  unfold pick
  split
  · next g hg => have := Fnt.valid_gl h (find_mem hg).1; simp only [Gl.okB, Bool.and_eq_true] at this; exact this.1.2
  · split
    · next g hg => have := Fnt.valid_gl h (find_mem hg).1; simp only [Gl.okB, Bool.and_eq_true] at this; exact this.1.2
    · rfl

/-! ### scaling -/
def Gl.scl (g : Gl) (p : Int) : Gl := ⟨g.name, E.scl g.w p, E.scl g.h p, E.scl g.d p, E.scl g.it p, E.scl g.att p⟩
/-- Scaled: the glyph and the error. -/
def scaled (g : Gl) (p : Int) : Gl × Int := if p < 1 ∨ p > 1000 then (Gl.zero, 2) else if g.metB = true then (g.scl p, 0) else (Gl.zero, 1)
/-! ### boxes of glyphs -/
def glBox (g : Gl) (p : Int) : Bx := ⟨1, g.name, p, g.w + max 0 g.it, g.h, g.d, 0, 0, [], 0, []⟩
/-- Box, of a font that is valid. -/
def sized (f : Fnt) (s : ByteArray) (p : Int) : Bx × Int := match scaled (pick f.gl s) p with
  | (g, e) => if e = 0 then (glBox g p, 0) else (Bx.zero, e)
def boxOf (f : Fnt) (s : ByteArray) (p : Int) : Bx × Int := if f.valid = true then sized f s p else (Bx.zero, 1)
theorem rd_bd {a : Int} (h : -100000000000000 ≤ a) (h2 : a ≤ 100000000000000) : -1000000000001 ≤ rd 100 a ∧ rd 100 a ≤ 1000000000001 := by
  unfold rd; split <;> omega
theorem scl_bd {n p : Int} : -1000000000001 ≤ scl n p ∧ scl n p ≤ 1000000000001 := by
  unfold scl
  split
  · next h =>
    obtain ⟨h1, h2, h3⟩ := h
    simp only [isLen, Bool.and_eq_true, decide_eq_true_eq] at h1
    have := mul_bd h1.1 h1.2 h2 h3
    exact rd_bd (by omega) (by omega)
  · omega
theorem glBox_w {g : Gl} {p : Int} (h : (scaled g p).2 = 0) : IntKind.i64.wrap ((scaled g p).1.w + maxI .max 0 (scaled g p).1.it) = (scaled g p).1.w + max 0 (scaled g p).1.it := by
  rw [maxI_eq]
  unfold scaled at *
  split
  · simp_all
  · split
    · have h1 := @scl_bd g.w p
      have h2 := @scl_bd g.it p
      simp only [Gl.scl]
      exact wr_id ⟨by omega, by omega⟩
    · simp_all
end Go.Proofs.Ytbhojnofdeihdaa.E
