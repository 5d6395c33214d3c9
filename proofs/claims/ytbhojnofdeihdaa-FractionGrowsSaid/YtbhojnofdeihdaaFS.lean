/- What is shown here: what the functions of the package font come to. -/
import Derived.Test.YtbhojnofdeihdaaGA
import Derived.Test.YtbhojnofdeihdaaFM
namespace Go.Proofs.Ytbhojnofdeihdaa.E
open Go.RowKit Go.Proofs
set_option autoImplicit false
set_option linter.unusedVariables false
set_option linter.unusedSimpArgs false

theorem metric_says (n : Int) : Says Try.prog hs 96 [.one (.int .i64 n)] [.one (.bool (metB n))] := Ev.step fun m => by
  rw [R96_eq]; unfold R96 metB
  by_cases h1 : -20000 ≤ n
  · simp [h1]
  · simp [h1]
theorem metrics_says (g : Gl) : Says Try.prog hs 79 [.agg 6 g.c] [.one (.bool g.metB)] := by
  have e1 : ∀ m, (eng Try.prog hs m).call 79 [.agg 6 g.c] none = some (.ret [.one (.bool g.metB)] none) → True := fun _ _ => trivial
  have L : ∀ (a b c d e : Int), Ev fun m => (eng Try.prog hs m).loop (lp Try.f79 2) (S79_2 a b c d e) = some (.ret [.one (.bool (metB a && metB b && metB c && metB d && metB e))] none) := fun a b c d e => by
    have l5 : Ev fun m => (eng Try.prog hs m).loop (lp Try.f79 2) (S79_2e a b c d e) = some (.ret [.one (.bool true)] none) := Ev.step fun m => by rw [L79_2e_eq]; rfl
    have l4 := (l5.and (metric_says e)).next (q := fun m => (eng Try.prog hs m).loop (lp Try.f79 2) (S79_2d a b c d e) = some (.ret [.one (.bool (metB e))] none)) fun m h => by
      rw [L79_2d_eq]; unfold L79_2d; rw [cb_bool h.2, h.1]; cases metB e <;> rfl
    have l3 := (l4.and (metric_says d)).next (q := fun m => (eng Try.prog hs m).loop (lp Try.f79 2) (S79_2c a b c d e) = some (.ret [.one (.bool (metB d && metB e))] none)) fun m h => by
      rw [L79_2c_eq]; unfold L79_2c; rw [cb_bool h.2, h.1]; cases metB d <;> rfl
    have l2 := (l3.and (metric_says c)).next (q := fun m => (eng Try.prog hs m).loop (lp Try.f79 2) (S79_2b a b c d e) = some (.ret [.one (.bool (metB c && metB d && metB e))] none)) fun m h => by
      rw [L79_2b_eq]; unfold L79_2b; rw [cb_bool h.2, h.1]; cases metB c <;> rfl
    have l1 := (l2.and (metric_says b)).next (q := fun m => (eng Try.prog hs m).loop (lp Try.f79 2) (S79_2a a b c d e) = some (.ret [.one (.bool (metB b && metB c && metB d && metB e))] none)) fun m h => by
      rw [L79_2a_eq]; unfold L79_2a; rw [cb_bool h.2, h.1]; cases metB b <;> rfl
    exact (l1.and (metric_says a)).next fun m h => by
      rw [L79_2_eq]; unfold L79_2; rw [cb_bool h.2, h.1]; cases metB a <;> rfl
  refine (L g.w g.h g.d g.it g.att).next fun m h => ?_
  rw [R79_eq]; unfold R79 Gl.c
  simp only [List.getElem?_cons_zero, List.getElem?_cons_succ, asI_i, Option.bind_some, h]
  rfl
theorem height_says (g : Gl) : Says Try.prog hs 80 [.agg 6 g.c] [.one (.int .i64 (IntKind.i64.wrap (g.h + g.d)))] := Ev.step fun m => by
  rw [R80_eq]; unfold R80 Gl.c
  simp only [List.getElem?_cons_zero, List.getElem?_cons_succ, asI_i, Option.bind_some]
theorem len_step (a : Int) (l : List Int) : (bif decide (a < 0) then some (Res.ret [A.one (C.bool false)] none) else bif decide (a > 20000) then some (Res.ret [A.one (C.bool false)] none) else some (Res.ret [A.one (.bool (l.all lenB))] none)) = some (Res.ret [.one (.bool ((a :: l).all lenB))] none) := by
  simp only [List.all_cons, lenB]
  by_cases h1 : a < 0
  · have : ¬ 0 ≤ a := by omega
    simp [h1, this]
  · have h0 : 0 ≤ a := by omega
    by_cases h2 : a > 20000
    · have : ¬ a ≤ 20000 := by omega
      simp [h1, h2, this]
    · have : a ≤ 20000 := by omega
      simp [h1, h2, this, h0]
theorem pct_step (a : Int) (l : List Int) (b : Bool) : (bif decide (a < 1) then some (Res.ret [A.one (C.bool false)] none) else bif decide (a > 100) then some (Res.ret [A.one (C.bool false)] none) else some (Res.ret [A.one (.bool (l.all pctB && b))] none)) = some (Res.ret [.one (.bool ((a :: l).all pctB && b))] none) := by
  simp only [List.all_cons, pctB]
  by_cases h1 : a < 1
  · have : ¬ 1 ≤ a := by omega
    simp [h1, this]
  · have h0 : 1 ≤ a := by omega
    by_cases h2 : a > 100
    · have : ¬ a ≤ 100 := by omega
      simp [h1, h2, this]
    · have : a ≤ 100 := by omega
      simp [h1, h2, this, h0]
theorem params_says (p : Par) : Says Try.prog hs 83 [.agg 20 p.c] [.one (.bool p.okB)] := by
  have L : ∀ (a0 a1 a2 a3 a4 a5 a6 a7 a8 a9 a10 a11 a12 a13 a14 a15 a16 : Int), Ev fun m => (eng Try.prog hs m).loop (lp Try.f83 8) (S83_8 a0 a1 a2 a3 a4 a5 a6 a7 a8 a9 a10 a11 a12 a13 a14 a15 a16) = some (.ret [.one (.bool ([a0, a1, a2, a3, a4, a5, a6, a7, a8, a9, a10, a11, a12, a13, a14, a15, a16].all lenB))] none) := fun a0 a1 a2 a3 a4 a5 a6 a7 a8 a9 a10 a11 a12 a13 a14 a15 a16 => by
    have l17 : Ev fun m => (eng Try.prog hs m).loop (lp Try.f83 8) (S83_8q a0 a1 a2 a3 a4 a5 a6 a7 a8 a9 a10 a11 a12 a13 a14 a15 a16) = some (.ret [.one (.bool (([] : List Int).all lenB))] none) := Ev.step fun m => by rw [L83_8q_eq]; rfl
    have l16 := l17.next (q := fun m => (eng Try.prog hs m).loop (lp Try.f83 8) (S83_8p a0 a1 a2 a3 a4 a5 a6 a7 a8 a9 a10 a11 a12 a13 a14 a15 a16) = some (.ret [.one (.bool ([a16].all lenB))] none)) fun m h => by
      rw [L83_8p_eq]; unfold L83_8p; rw [h]; exact len_step a16 _
    have l15 := l16.next (q := fun m => (eng Try.prog hs m).loop (lp Try.f83 8) (S83_8o a0 a1 a2 a3 a4 a5 a6 a7 a8 a9 a10 a11 a12 a13 a14 a15 a16) = some (.ret [.one (.bool ([a15, a16].all lenB))] none)) fun m h => by
      rw [L83_8o_eq]; unfold L83_8o; rw [h]; exact len_step a15 _
    have l14 := l15.next (q := fun m => (eng Try.prog hs m).loop (lp Try.f83 8) (S83_8n a0 a1 a2 a3 a4 a5 a6 a7 a8 a9 a10 a11 a12 a13 a14 a15 a16) = some (.ret [.one (.bool ([a14, a15, a16].all lenB))] none)) fun m h => by
      rw [L83_8n_eq]; unfold L83_8n; rw [h]; exact len_step a14 _
    have l13 := l14.next (q := fun m => (eng Try.prog hs m).loop (lp Try.f83 8) (S83_8m a0 a1 a2 a3 a4 a5 a6 a7 a8 a9 a10 a11 a12 a13 a14 a15 a16) = some (.ret [.one (.bool ([a13, a14, a15, a16].all lenB))] none)) fun m h => by
      rw [L83_8m_eq]; unfold L83_8m; rw [h]; exact len_step a13 _
    have l12 := l13.next (q := fun m => (eng Try.prog hs m).loop (lp Try.f83 8) (S83_8l a0 a1 a2 a3 a4 a5 a6 a7 a8 a9 a10 a11 a12 a13 a14 a15 a16) = some (.ret [.one (.bool ([a12, a13, a14, a15, a16].all lenB))] none)) fun m h => by
      rw [L83_8l_eq]; unfold L83_8l; rw [h]; exact len_step a12 _
    have l11 := l12.next (q := fun m => (eng Try.prog hs m).loop (lp Try.f83 8) (S83_8k a0 a1 a2 a3 a4 a5 a6 a7 a8 a9 a10 a11 a12 a13 a14 a15 a16) = some (.ret [.one (.bool ([a11, a12, a13, a14, a15, a16].all lenB))] none)) fun m h => by
      rw [L83_8k_eq]; unfold L83_8k; rw [h]; exact len_step a11 _
    have l10 := l11.next (q := fun m => (eng Try.prog hs m).loop (lp Try.f83 8) (S83_8j a0 a1 a2 a3 a4 a5 a6 a7 a8 a9 a10 a11 a12 a13 a14 a15 a16) = some (.ret [.one (.bool ([a10, a11, a12, a13, a14, a15, a16].all lenB))] none)) fun m h => by
      rw [L83_8j_eq]; unfold L83_8j; rw [h]; exact len_step a10 _
    have l9 := l10.next (q := fun m => (eng Try.prog hs m).loop (lp Try.f83 8) (S83_8i a0 a1 a2 a3 a4 a5 a6 a7 a8 a9 a10 a11 a12 a13 a14 a15 a16) = some (.ret [.one (.bool ([a9, a10, a11, a12, a13, a14, a15, a16].all lenB))] none)) fun m h => by
      rw [L83_8i_eq]; unfold L83_8i; rw [h]; exact len_step a9 _
    have l8 := l9.next (q := fun m => (eng Try.prog hs m).loop (lp Try.f83 8) (S83_8h a0 a1 a2 a3 a4 a5 a6 a7 a8 a9 a10 a11 a12 a13 a14 a15 a16) = some (.ret [.one (.bool ([a8, a9, a10, a11, a12, a13, a14, a15, a16].all lenB))] none)) fun m h => by
      rw [L83_8h_eq]; unfold L83_8h; rw [h]; exact len_step a8 _
    have l7 := l8.next (q := fun m => (eng Try.prog hs m).loop (lp Try.f83 8) (S83_8g a0 a1 a2 a3 a4 a5 a6 a7 a8 a9 a10 a11 a12 a13 a14 a15 a16) = some (.ret [.one (.bool ([a7, a8, a9, a10, a11, a12, a13, a14, a15, a16].all lenB))] none)) fun m h => by
      rw [L83_8g_eq]; unfold L83_8g; rw [h]; exact len_step a7 _
    have l6 := l7.next (q := fun m => (eng Try.prog hs m).loop (lp Try.f83 8) (S83_8f a0 a1 a2 a3 a4 a5 a6 a7 a8 a9 a10 a11 a12 a13 a14 a15 a16) = some (.ret [.one (.bool ([a6, a7, a8, a9, a10, a11, a12, a13, a14, a15, a16].all lenB))] none)) fun m h => by
      rw [L83_8f_eq]; unfold L83_8f; rw [h]; exact len_step a6 _
    have l5 := l6.next (q := fun m => (eng Try.prog hs m).loop (lp Try.f83 8) (S83_8e a0 a1 a2 a3 a4 a5 a6 a7 a8 a9 a10 a11 a12 a13 a14 a15 a16) = some (.ret [.one (.bool ([a5, a6, a7, a8, a9, a10, a11, a12, a13, a14, a15, a16].all lenB))] none)) fun m h => by
      rw [L83_8e_eq]; unfold L83_8e; rw [h]; exact len_step a5 _
    have l4 := l5.next (q := fun m => (eng Try.prog hs m).loop (lp Try.f83 8) (S83_8d a0 a1 a2 a3 a4 a5 a6 a7 a8 a9 a10 a11 a12 a13 a14 a15 a16) = some (.ret [.one (.bool ([a4, a5, a6, a7, a8, a9, a10, a11, a12, a13, a14, a15, a16].all lenB))] none)) fun m h => by
      rw [L83_8d_eq]; unfold L83_8d; rw [h]; exact len_step a4 _
    have l3 := l4.next (q := fun m => (eng Try.prog hs m).loop (lp Try.f83 8) (S83_8c a0 a1 a2 a3 a4 a5 a6 a7 a8 a9 a10 a11 a12 a13 a14 a15 a16) = some (.ret [.one (.bool ([a3, a4, a5, a6, a7, a8, a9, a10, a11, a12, a13, a14, a15, a16].all lenB))] none)) fun m h => by
      rw [L83_8c_eq]; unfold L83_8c; rw [h]; exact len_step a3 _
    have l2 := l3.next (q := fun m => (eng Try.prog hs m).loop (lp Try.f83 8) (S83_8b a0 a1 a2 a3 a4 a5 a6 a7 a8 a9 a10 a11 a12 a13 a14 a15 a16) = some (.ret [.one (.bool ([a2, a3, a4, a5, a6, a7, a8, a9, a10, a11, a12, a13, a14, a15, a16].all lenB))] none)) fun m h => by
      rw [L83_8b_eq]; unfold L83_8b; rw [h]; exact len_step a2 _
    have l1 := l2.next (q := fun m => (eng Try.prog hs m).loop (lp Try.f83 8) (S83_8a a0 a1 a2 a3 a4 a5 a6 a7 a8 a9 a10 a11 a12 a13 a14 a15 a16) = some (.ret [.one (.bool ([a1, a2, a3, a4, a5, a6, a7, a8, a9, a10, a11, a12, a13, a14, a15, a16].all lenB))] none)) fun m h => by
      rw [L83_8a_eq]; unfold L83_8a; rw [h]; exact len_step a1 _
    have l0 := l1.next (q := fun m => (eng Try.prog hs m).loop (lp Try.f83 8) (S83_8 a0 a1 a2 a3 a4 a5 a6 a7 a8 a9 a10 a11 a12 a13 a14 a15 a16) = some (.ret [.one (.bool ([a0, a1, a2, a3, a4, a5, a6, a7, a8, a9, a10, a11, a12, a13, a14, a15, a16].all lenB))] none)) fun m h => by
      rw [L83_8_eq]; unfold L83_8; rw [h]; exact len_step a0 _
    exact l0
  have K : ∀ (b0 b1 b2 : Int), Ev fun m => (eng Try.prog hs m).loop (lp Try.f83 2) (S83_2 b0 b1 b2 p.c) = some (.ret [.one (.bool ([b0, b1, b2].all pctB && p.lens.all lenB))] none) := fun b0 b1 b2 => by
    have l3 := (L p.quad p.xh p.axis p.rule p.num1 p.num2 p.den1 p.den2 p.sup1 p.sup2 p.sup3 p.sub1 p.sub2 p.supd p.subd p.dsh p.acc).next (q := fun m => (eng Try.prog hs m).loop (lp Try.f83 2) (S83_2c b0 b1 b2 p.c) = some (.ret [.one (.bool (([] : List Int).all pctB && p.lens.all lenB))] none)) fun m h => by
      rw [L83_2c_eq]; unfold L83_2c Par.c
      simp only [List.getElem?_cons_zero, List.getElem?_cons_succ, asI_i, Option.bind_some, h]; rfl
    have l2 := l3.next (q := fun m => (eng Try.prog hs m).loop (lp Try.f83 2) (S83_2b b0 b1 b2 p.c) = some (.ret [.one (.bool ([b2].all pctB && p.lens.all lenB))] none)) fun m h => by
      rw [L83_2b_eq]; unfold L83_2b; rw [h]; exact pct_step b2 _ _
    have l1 := l2.next (q := fun m => (eng Try.prog hs m).loop (lp Try.f83 2) (S83_2a b0 b1 b2 p.c) = some (.ret [.one (.bool ([b1, b2].all pctB && p.lens.all lenB))] none)) fun m h => by
      rw [L83_2a_eq]; unfold L83_2a; rw [h]; exact pct_step b1 _ _
    have l0 := l1.next (q := fun m => (eng Try.prog hs m).loop (lp Try.f83 2) (S83_2 b0 b1 b2 p.c) = some (.ret [.one (.bool ([b0, b1, b2].all pctB && p.lens.all lenB))] none)) fun m h => by
      rw [L83_2_eq]; unfold L83_2; rw [h]; exact pct_step b0 _ _
    exact l0
  refine (K p.scr p.sscr p.dpc).next fun m h => ?_
  rw [R83_eq]; unfold R83
  have e1 : p.c[15]? = some (C.int .i64 p.scr) := rfl
  have e2 : p.c[16]? = some (C.int .i64 p.sscr) := rfl
  have e3 : p.c[17]? = some (C.int .i64 p.dpc) := rfl
  rw [e1, e2, e3]; simp only [asI_i, Option.bind_some]; rw [h]; rfl

/-! ### names -/
def badC (c : UInt8) : Bool := !(decide (32 ≤ c.toNat) && decide (c.toNat ≤ 126))
def idx : Nat → List UInt8 → Int
  | _, [] => -1
  | i, c :: l => if badC c = true then i else idx (i + 1) l
theorem idx_any (l : List UInt8) : ∀ i, decide (idx i l ≥ 0) = l.any badC := by
  induction l with
  | nil => intro i; rfl
  | cons c l ih =>
    intro i
    unfold idx
    by_cases h : badC c = true
    · simp [h]
    · rw [if_neg h, ih]; simp [h]
theorem badC_says (c : UInt8) : Says Try.prog hs 95 [.one (.int .u8 c.toNat)] [.one (.bool (badC c))] := Ev.step fun m => by
  rw [R95_eq]; unfold R95 badC
  by_cases h : c.toNat < 32
  · have h1 : ((c.toNat : Int) < 32) := by omega
    have h2 : ¬ (32 ≤ c.toNat) := by omega
    simp [h1, h2]
  · have h1 : ¬ ((c.toNat : Int) < 32) := by omega
    have h2 : 32 ≤ c.toNat := by omega
    simp only [h1, h2, decide_true, decide_false, cond_false, Bool.true_and]
    by_cases h3 : c.toNat ≤ 126
    · have : ¬ ((c.toNat : Int) > 126) := by omega
      simp [h3, this]
    · have : ((c.toNat : Int) > 126) := by omega
      simp [h3, this]
theorem index_loop (fb : Nat) (hfb : ∀ c, Says Try.prog hs fb [.one (.int .u8 (UInt8.toNat c))] [.one (.bool (badC c))]) (l : List UInt8) (hb : I64 l.length) : ∀ (rest pre : List UInt8), l = pre ++ rest →
    Ev fun m => (eng Try.prog hs m).loop (lp Try.f91 2) (S91_2 fb (l.map fun b => [C.int .u8 b.toNat]) [] l.length pre.length) = some (.ret [.one (.int .i64 (idx pre.length rest))] none) := by
  intro rest
  induction rest with
  | nil =>
    intro pre h
    refine Ev.step fun m => ?_
    rw [L91_2_eq]; unfold L91_2
    rw [at_nil h]; rfl
  | cons c rest ih =>
    intro pre h
    have := ih (pre ++ [c]) (by rw [h]; simp)
    refine (this.and (hfb c)).next fun m hm => ?_
    obtain ⟨h1, h2, h3, h4⟩ := at_cons (fun b : UInt8 => [C.int .u8 b.toNat]) h hb
    rw [L91_2_eq]; unfold L91_2
    have e1 : (A.one (C.int .u8 (c.toNat : Int)) :: [].append (List.map A.one ([] : List C))) = [A.one (.int .u8 c.toNat)] := rfl
    rw [h1, h2, h3, h4]
    simp only [cond_true, Bool.true_and, Option.bind_some, List.length_cons, List.length_nil, List.getElem?_cons_zero, asI_i, e1]
    rw [cb_bool hm.2, hm.1]
    simp only [idx]
    cases hc : badC c with
    | true => rfl
    | false => simp
theorem names_says (fb : Nat) (hfb : ∀ c, Says Try.prog hs fb [.one (.int .u8 (UInt8.toNat c))] [.one (.bool (badC c))]) (s : ByteArray) (hb : I64 s.data.toList.length) : Says Try.prog hs 72 [.one (.sl (bytesC s)), .one (.fn fb [])] [.one (.bool (s.data.toList.any badC))] := by
  refine (((index_loop fb hfb s.data.toList hb s.data.toList [] rfl).next (q := fun m => (eng Try.prog hs m).call 91 [.one (.sl (bytesC s)), .one (.fn fb [])] none = some (.ret [.one (.int .i64 (idx 0 s.data.toList))] none)) fun m h => ?_)).next fun m h => ?_
  · rw [R91_eq]; unfold R91
    have : ((bytesC s).length : Int) = (s.data.toList.length : Int) := by simp [bytesC]
    rw [this]; exact h
  · rw [R72_eq]; unfold R72
    rw [cb_int h, idx_any]
theorem named_says (s : ByteArray) : Says Try.prog hs 78 [.one (.str s)] [.one (.bool (nameB s))] := by
  by_cases h16 : s.size ≤ 16
  · have hl : s.data.toList.length = s.size := rfl
    refine (names_says 95 badC_says s ⟨by omega, by omega⟩).next fun m h => ?_
    rw [R78_eq]; unfold R78 nameB
    have hn : (!s.data.toList.any badC) = s.data.toList.all fun c => decide (32 ≤ c.toNat) && decide (c.toNat ≤ 126) := by
      rw [List.not_any_eq_all_not]; simp [badC]
    by_cases h1 : 1 ≤ s.size
    · have e1 : ((s.size : Int) ≥ 1) := by omega
      have e2 : ((s.size : Int) ≤ 16) := by omega
      simp only [e1, e2, h1, h16, decide_true, cond_true, Bool.true_and]
      rw [cb_bool h, ← hn]
    · have e1 : ¬ ((s.size : Int) ≥ 1) := by omega
      simp only [e1, h1, decide_false, cond_false, Bool.false_and]
  · refine Ev.step fun m => ?_
    rw [R78_eq]; unfold R78 nameB
    have e1 : ((s.size : Int) ≥ 1) := by omega
    have e2 : ¬ ((s.size : Int) ≤ 16) := by omega
    simp only [e1, e2, h16, decide_true, decide_false, cond_true, cond_false, Bool.false_and, Bool.and_false]

/-! ### lengths -/
theorem lenValid_says (n : Int) : Says Try.prog hs 61 [.one (.int .i64 n)] [.one (.bool (isLen n))] := Ev.step fun m => by
  rw [R61_eq]; unfold R61 isLen
  by_cases h1 : -1073741824 ≤ n
  · simp [h1]
  · simp [h1]
theorem round_pure {a b : Int} (hb : b = 100 ∨ b = 2) (ha : -1000000000000000000 ≤ a) (ha2 : a ≤ 1000000000000000000) :
    (if 2 * a.tmod b ≥ b then a.tdiv b + 1 else if -2 * a.tmod b ≥ b then a.tdiv b - 1 else a.tdiv b) = rd b a := by
  unfold rd
  rcases hb with rfl | rfl
  · obtain ⟨h1, h2⟩ := tdivmod a 100 (by omega)
    by_cases h : 0 ≤ a
    · obtain ⟨e1, e2⟩ := h1 h
      rw [e1, e2, if_pos h]; split
      · omega
      · split <;> omega
    · obtain ⟨e1, e2⟩ := h2 (by omega)
      rw [e1, e2, if_neg h]; split
      · omega
      · split <;> omega
  · obtain ⟨h1, h2⟩ := tdivmod a 2 (by omega)
    by_cases h : 0 ≤ a
    · obtain ⟨e1, e2⟩ := h1 h
      rw [e1, e2, if_pos h]; split
      · omega
      · split <;> omega
    · obtain ⟨e1, e2⟩ := h2 (by omega)
      rw [e1, e2, if_neg h]; split
      · omega
      · split <;> omega
theorem round_says {a b : Int} (hb : b = 100 ∨ b = 2) (ha : -1000000000000000000 ≤ a) (ha2 : a ≤ 1000000000000000000) : Says Try.prog hs 62 [.one (.int .i64 a), .one (.int .i64 b)] [.one (.int .i64 (rd b a))] := Ev.step fun m => by
  rw [R62_eq]; unfold R62
  rw [← round_pure hb ha ha2]
  have hb0 : ¬ b < 0 := by omega
  have hb1 : (b == 0) = false := by rw [beq_eq_false_iff_ne]; omega
  have hm : -100 ≤ a.tmod b ∧ a.tmod b ≤ 100 ∧ -1000000000000000000 ≤ a.tdiv b ∧ a.tdiv b ≤ 1000000000000000000 := by
    obtain ⟨h1, h2⟩ := tdivmod a b (by omega)
    by_cases h : 0 ≤ a
    · obtain ⟨e1, e2⟩ := h1 h
      rw [e1, e2]; rcases hb with rfl | rfl <;> omega
    · obtain ⟨e1, e2⟩ := h2 (by omega)
      rw [e1, e2]; rcases hb with rfl | rfl <;> omega
  obtain ⟨m1, m2, d1, d2⟩ := hm
  have w1 : IntKind.i64.wrap (2 * a.tmod b) = 2 * a.tmod b := wr_id ⟨by omega, by omega⟩
  have w2 : IntKind.i64.wrap (-2 * a.tmod b) = -2 * a.tmod b := wr_id ⟨by omega, by omega⟩
  have w3 : IntKind.i64.wrap (a.tdiv b) = a.tdiv b := wr_id ⟨by omega, by omega⟩
  have w4 : IntKind.i64.wrap (a.tdiv b + 1) = a.tdiv b + 1 := wr_id ⟨by omega, by omega⟩
  have w5 : IntKind.i64.wrap (a.tdiv b - 1) = a.tdiv b - 1 := wr_id ⟨by omega, by omega⟩
  simp only [hb0, hb1, decide_false, cond_false, w1, w2, w3, w4, w5]
  by_cases h1 : 2 * a.tmod b ≥ b
  · simp only [h1, decide_true, cond_true, if_true]
  · by_cases h2 : -2 * a.tmod b ≥ b
    · simp only [h1, h2, decide_true, decide_false, cond_true, cond_false, if_true, if_false]
    · simp only [h1, h2, decide_false, cond_false, if_false]
theorem Scale_says (n p : Int) : Says Try.prog hs 52 [.one (.int .i64 n), .one (.int .i64 p)] [.one (.int .i64 (scl n p))] := by
  by_cases hn : isLen n = true
  · by_cases hp : 0 ≤ p ∧ p ≤ 10000
    · simp only [isLen, Bool.and_eq_true, decide_eq_true_eq] at hn
      have hbd := mul_bd hn.1 hn.2 hp.1 hp.2
      refine ((lenValid_says n).and (round_says (a := n * p) (b := 100) (.inl rfl) (by omega) (by omega))).next fun m h => ?_
      rw [R52_eq]; unfold R52
      have h1 : isLen n = true := by simp [isLen, hn]
      have e1 : ¬ p < 0 := by omega
      have e2 : ¬ p > 10000 := by omega
      have w1 : IntKind.i64.wrap (n * p) = n * p := wr_id ⟨by omega, by omega⟩
      rw [cb_bool h.1, h1, w1, cb_int h.2]
      simp only [e1, e2, decide_false, cond_false, Bool.not_true, scl, h1, hp, and_self, if_true]
    · refine (lenValid_says n).next fun m h => ?_
      rw [R52_eq]; unfold R52
      rw [cb_bool h, hn]
      have e0 : ¬ (isLen n = true ∧ 0 ≤ p ∧ p ≤ 10000) := fun h => hp h.2
      simp only [Bool.not_true, cond_false, scl, if_neg e0]
      by_cases e1 : p < 0
      · simp only [e1, decide_true, cond_true]
      · have e2 : p > 10000 := by omega
        simp only [e1, e2, decide_true, decide_false, cond_true, cond_false]
  · refine (lenValid_says n).next fun m h => ?_
    rw [R52_eq]; unfold R52
    have h0 : isLen n = false := by simpa using hn
    rw [cb_bool h, h0]
    simp [scl, h0]

/-! ### looking up -/
theorem Gl.len6 (g : Gl) : g.c.length.beq 6 = true := rfl
theorem Stc.len4 (g : Stc) : g.c.length.beq 4 = true := rfl
theorem Pt.len2 (g : Pt) : g.c.length.beq 2 = true := rfl
theorem find_loop (s : ByteArray) (l : List Gl) (hb : I64 l.length) : ∀ (rest pre : List Gl), l = pre ++ rest →
    Ev fun m => (eng Try.prog hs m).loop (lp Try.f94 2) (S94_2 s (l.map Gl.c) l.length pre.length ⟨#[]⟩ 0 0 0 0 0) = some (.ret [.agg 6 ((find rest s).getD Gl.zero).c, .one (.bool (find rest s).isSome)] none) := by
  intro rest
  induction rest with
  | nil =>
    intro pre h
    refine Ev.step fun m => ?_
    rw [L94_2_eq]; unfold L94_2
    rw [at_nil h]; rfl
  | cons c rest ih =>
    intro pre h
    have := ih (pre ++ [c]) (by rw [h]; simp)
    refine this.next fun m hm => ?_
    obtain ⟨h1, h2, h3, h4⟩ := at_cons Gl.c h hb
    rw [L94_2_eq]; unfold L94_2
    rw [h1, h2, h3, h4, hm]
    have e0 : c.c[0]? = some (C.str c.name) := rfl
    simp only [cond_true, Bool.true_and, Option.bind_some, Gl.len6, e0, asS_s, str_beq]
    by_cases hc : c.name = s
    · simp [find, List.find?_cons, hc]
    · simp [find, List.find?_cons, hc]
theorem Find_says (f : Fnt) (hb : I64 f.gl.length) (s : ByteArray) : Says Try.prog hs 94 [.agg 22 f.c, .one (.str s)] [.agg 6 ((find f.gl s).getD Gl.zero).c, .one (.bool (find f.gl s).isSome)] :=
  (find_loop s f.gl hb f.gl [] rfl).next fun m h => by
    rw [R94_eq]; unfold R94 Fnt.c
    have e : ((f.gl.map Gl.c).length : Int) = f.gl.length := by simp
    simp only [List.getElem?_cons_zero, asL_l, Option.bind_some, e]
    exact h
def query : ByteArray := ⟨#[63]⟩
def pick (l : List Gl) (s : ByteArray) : Gl := match find l s with
  | some g => g
  | none => match find l query with
    | some g => g
    | none => ⟨s, 0, 0, 0, 0, 0⟩
theorem Pick_says (f : Fnt) (hb : I64 f.gl.length) (s : ByteArray) : Says Try.prog hs 76 [.agg 22 f.c, .one (.str s)] [.agg 6 (pick f.gl s).c] := by
  have l2 : Ev fun m => (eng Try.prog hs m).loop (lp Try.f76 2) (S76_2b s s query f.c ⟨#[]⟩) = some (.ret [.agg 6 (Gl.c ⟨s, 0, 0, 0, 0, 0⟩)] none) := Ev.step fun m => by rw [L76_2b_eq]; rfl
  have l1 := (l2.and (Find_says f hb query)).next (q := fun m => (eng Try.prog hs m).loop (lp Try.f76 2) (S76_2a s s query f.c ⟨#[]⟩) = some (.ret [.agg 6 (match find f.gl query with | some g => g | none => ⟨s, 0, 0, 0, 0, 0⟩ : Gl).c] none)) fun m h => by
    rw [L76_2a_eq]; unfold L76_2a; rw [cb_aggB h.2, h.1]; cases find f.gl query <;> rfl
  have l0 := (l1.and (Find_says f hb s)).next (q := fun m => (eng Try.prog hs m).loop (lp Try.f76 2) (S76_2 s s query f.c ⟨#[]⟩) = some (.ret [.agg 6 (pick f.gl s).c] none)) fun m h => by
    rw [L76_2_eq]; unfold L76_2 pick; rw [cb_aggB h.2, h.1]; cases find f.gl s <;> rfl
  exact l0.next fun m h => by rw [R76_eq]; unfold R76; exact h
end Go.Proofs.Ytbhojnofdeihdaa.E
