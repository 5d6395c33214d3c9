/- What is shown here: what the reference's Valid of boxes comes to. -/
import Derived.Test.YtbhojnofdeihdaaBR
namespace Go.Proofs.Ytbhojnofdeihdaa.E
open Go.RowKit Go.Proofs
set_option autoImplicit false
set_option linter.unusedVariables false
set_option linter.unusedSimpArgs false

theorem rSource_loop (b : Bx) (hb : I64 b.src.length) : ∀ (rest pre : List Int), b.src = pre ++ rest →
    Ev fun m => (eng Try.prog hs m).loop (lp Try.f101 2) (S101_2 pre.length b.c) = some (.ret [.one (.bool (rest.all (fun n => decide (0 ≤ n)) &&
      (if b.of = 0 then decide (b.src.length = 0) else if b.of = 1 then decide (b.src.length % 2 = 0) && decide (b.src.length ≤ 48) else if b.of = 2 then decide (b.src.length % 2 = 1) && decide (b.src.length ≤ 49) else false)))] none) := by
  have el : ((ints b.src).length : Int) = (b.src.length : Int) := by simp [ints]
  have e1 : ∀ n : Int, [C.int .i64 n].length.beq 1 = true := fun _ => rfl
  intro rest
  induction rest with
  | nil =>
    intro pre h
    refine Ev.step fun m => ?_
    rw [L101_2_eq]; unfold L101_2
    simp only [Bx.c10, Bx.c9, asL_l, asI_i, Option.bind_some, el, at_nil h, cond_false]
    have ht : ((b.src.length : Int)).tmod 2 = ((b.src.length % 2 : Nat) : Int) := by
      rw [Int.tmod_eq_emod_of_nonneg (by omega)]; omega
    rw [ht]
    simp only [List.all_nil, Bool.true_and]
    by_cases a0 : b.of = 0
    · have : (b.of == 0) = true := by simpa using a0
      simp only [this, cond_true, if_pos a0]
      by_cases q : b.src.length = 0
      · simp [q]
      · have : ¬ ((b.src.length : Int) = 0) := by omega
        simp [q]
    · have n0 : (b.of == 0) = false := by simpa using a0
      simp only [n0, cond_false, if_neg a0]
      by_cases a1 : b.of = 1
      · have : (b.of == 1) = true := by simpa using a1
        simp only [this, cond_true, if_pos a1]
        by_cases q : b.src.length % 2 = 0
        · have q2 : (((b.src.length % 2 : Nat) : Int) == 0) = true := by rw [q]; rfl
          simp only [q2, cond_true, q, decide_true, Bool.true_and]
          by_cases r : b.src.length ≤ 48
          · have : ((b.src.length : Int) ≤ 48) := by omega
            simp [r, this]
          · have : ¬ ((b.src.length : Int) ≤ 48) := by omega
            simp [r, this]
        · have q2 : (((b.src.length % 2 : Nat) : Int) == 0) = false := by rw [beq_eq_false_iff_ne]; omega
          simp only [q2, cond_false, q, decide_false, Bool.false_and]
      · have n1 : (b.of == 1) = false := by simpa using a1
        simp only [n1, cond_false, if_neg a1]
        by_cases a2 : b.of = 2
        · have : (b.of == 2) = true := by simpa using a2
          simp only [this, cond_true, if_pos a2]
          by_cases q : b.src.length % 2 = 1
          · have q2 : (((b.src.length % 2 : Nat) : Int) == 1) = true := by rw [q]; rfl
            simp only [q2, cond_true, q, decide_true, Bool.true_and]
            by_cases r : b.src.length ≤ 49
            · have : ((b.src.length : Int) ≤ 49) := by omega
              simp [r, this]
            · have : ¬ ((b.src.length : Int) ≤ 49) := by omega
              simp [r, this]
          · have q2 : (((b.src.length % 2 : Nat) : Int) == 1) = false := by rw [beq_eq_false_iff_ne]; omega
            simp only [q2, cond_false, q, decide_false, Bool.false_and]
        · have n2 : (b.of == 2) = false := by simpa using a2
          simp only [n2, cond_false, if_neg a2]
  | cons c rest ih =>
    intro pre h
    refine (ih (pre ++ [c]) (by rw [h]; simp)).next fun m hm => ?_
    obtain ⟨h1, h2, h3, h4⟩ := at_cons (fun n : Int => [C.int .i64 n]) h hb
    have h3' : (ints b.src)[((pre.length : Nat) : Int).toNat]? = some [C.int .i64 c] := h3
    rw [L101_2_eq]; unfold L101_2
    simp only [Bx.c10, asL_l, Option.bind_some, el, h1, h2, h3', h4, cond_true, Bool.true_and, e1, List.getElem?_cons_zero, asI_i, hm]
    by_cases q : c < 0
    · have : ¬ 0 ≤ c := by omega
      simp [q, this]
    · have : 0 ≤ c := by omega
      simp [q, this]
theorem rSource_says (b : Bx) (hb : I64 b.src.length) : Says Try.prog hs 101 [.agg 11 b.c] [.one (.bool (srcB b))] :=
  (rSource_loop b hb b.src [] rfl).next fun m h => by
    rw [R101_eq]; unfold R101 srcB; exact h
def allP (b : Bx) : Bool := (flat b).all prpB
theorem allP_eq (b : Bx) : allP b = (prpB b && b.kids.all allP) := by
  unfold allP; rw [flat_eq, List.all_cons]; congr 1
  have : ∀ l : List Bx, (flats l).all prpB = l.all fun k => (flat k).all prpB := by
    intro l
    induction l with
    | nil => rfl
    | cons c l ih => simp [flats, List.all_append, ih]
  exact this _
theorem rKids_loop (b : Bx) (hs' : I64 b.src.length) (hb : I64 b.kids.length) : ∀ (rest pre : List Bx), b.kids = pre ++ rest → (∀ k ∈ rest, Says Try.prog hs 87 [.agg 11 k.c] [.one (.bool (allP k))]) →
    Ev fun m => (eng Try.prog hs m).loop (lp Try.f87 17) (S87_17 pre.length b.c) = some (.ret [.one (.bool (rest.all allP && srcB b))] none) := by
  have el : ((b.kids.map Bx.c).length : Int) = b.kids.length := by simp
  intro rest
  induction rest with
  | nil =>
    intro pre h _
    refine (rSource_says b hs').next fun m hm => ?_
    rw [L87_17_eq]; unfold L87_17
    simp only [Bx.c8, asL_l, Option.bind_some, el, at_nil h, cond_false]
    rw [cb_bool hm]; simp
  | cons c rest ih =>
    intro pre h hk
    refine ((hk c (by simp)).and (ih (pre ++ [c]) (by rw [h]; simp) (fun k hk' => hk k (by simp [hk'])))).next fun m hm => ?_
    obtain ⟨h1, h2, h3, h4⟩ := at_cons Bx.c h hb
    rw [L87_17_eq]; unfold L87_17
    simp only [Bx.c8, asL_l, Option.bind_some, el, h1, h2, h3, h4, cond_true, Bool.true_and, Bx.len11]
    rw [cb_bool hm.1, hm.2, List.all_cons]
    cases allP c <;> rfl
theorem rProper_last (b : Bx) (hn : I64 b.name.size) (hs' : I64 b.src.length) (hb : I64 b.kids.length) (hk : ∀ k ∈ b.kids, Says Try.prog hs 87 [.agg 11 k.c] [.one (.bool (allP k))]) (l pre : List Int) (h : l = pre ++ []) :
    Ev fun m => (eng Try.prog hs m).loop (lp Try.f87 3) (S87_3 l.length pre.length b.c (ints l)) = some (.ret [.one (.bool (kindB b && (b.kids.all allP && srcB b)))] none) := by
  refine ((rName_says b.name hn).and (rKids_loop b hs' hb b.kids [] rfl hk)).next fun m hm => ?_
  have h17 : (eng Try.prog hs m).loop (lp Try.f87 17) (S87_17 0 b.c) = _ := hm.2
  rw [L87_3_eq]; unfold L87_3
  have ek : ((b.kids.map Bx.c).length : Int) = (b.kids.length : Int) := by simp
  simp only [at_nil h, cond_false, Bx.c0, Bx.c1, Bx.c2, Bx.c8, asI_i, asS_s, asL_l, Option.bind_some, ek, str_beq]
  rw [cb_bool hm.1, h17]
  unfold kindB
  have kl : (decide ((b.kids.length : Int) > 0)) = !decide (b.kids.length = 0) := by
    by_cases q : b.kids.length = 0
    · simp [q]
    · have : ((b.kids.length : Int) > 0) := by omega
      simp only [q, this, decide_true, decide_false, Bool.not_false]
  by_cases a1 : b.kind = 1
  · have e1 : (b.kind == 1) = true := by simpa using a1
    simp only [e1, cond_true, if_pos a1, kl]
    cases nameB b.name with
    | false => rfl
    | true =>
      simp only [Bool.not_true, cond_false, Bool.true_and]
      by_cases p3 : 1 ≤ b.size
      · have q3 : ¬ b.size < 1 := by omega
        by_cases p4 : b.size ≤ 1000
        · have q4 : ¬ b.size > 1000 := by omega
          simp only [q3, q4, p3, p4, decide_true, decide_false, cond_false, Bool.true_and]
          cases decide (b.kids.length = 0) <;> rfl
        · have q4 : b.size > 1000 := by omega
          simp [q3, q4, p3, p4]
      · have q3 : b.size < 1 := by omega
        simp [q3, p3]
  · have e1 : (b.kind == 1) = false := by simpa using a1
    simp only [e1, cond_false, if_neg a1, kl]
    by_cases a2 : b.kind = 2
    · have e2 : (b.kind == 2) = true := by simpa using a2
      simp only [e2, cond_true, if_pos a2]
      by_cases p1 : b.name = ⟨#[]⟩
      · by_cases p2 : b.size = 0
        · simp only [p1, p2, decide_true, Bool.not_true, cond_false, bne_self_eq_false, Bool.true_and]
          cases decide (b.kids.length = 0) <;> rfl
        · have : (b.size != 0) = true := by simpa using p2
          simp only [p1, p2, this, decide_true, decide_false, Bool.not_true, cond_false, cond_true, Bool.true_and, Bool.false_and]
      · simp [p1]
    · have e2 : (b.kind == 2) = false := by simpa using a2
      simp only [e2, cond_false, if_neg a2]
      by_cases a3 : b.kind = 3
      · have e3 : (b.kind == 3) = true := by simpa using a3
        simp only [e3, cond_true, if_pos a3]
        by_cases p1 : b.name = ⟨#[]⟩
        · by_cases p2 : b.size = 0
          · simp [p1, p2]
          · have : (b.size != 0) = true := by simpa using p2
            simp only [p1, p2, this, decide_true, decide_false, Bool.not_true, cond_false, cond_true, Bool.true_and, Bool.false_and]
        · simp [p1]
      · have e3 : (b.kind == 3) = false := by simpa using a3
        simp only [e3, cond_false, if_neg a3, Bool.false_and]
theorem rProper_loop (b : Bx) (hn : I64 b.name.size) (hs' : I64 b.src.length) (hb : I64 b.kids.length) (hk : ∀ k ∈ b.kids, Says Try.prog hs 87 [.agg 11 k.c] [.one (.bool (allP k))]) (l : List Int) (hl : l.length ≤ 1000) : ∀ (rest pre : List Int), l = pre ++ rest →
    Ev fun m => (eng Try.prog hs m).loop (lp Try.f87 3) (S87_3 l.length pre.length b.c (ints l)) = some (.ret [.one (.bool (rest.all isLen && (kindB b && (b.kids.all allP && srcB b))))] none) := by
  intro rest
  induction rest with
  | nil => intro pre h; exact (rProper_last b hn hs' hb hk l pre h).mono fun m h => by simpa using h
  | cons c rest ih =>
    intro pre h
    refine (ih (pre ++ [c]) (by rw [h]; simp)).next fun m hm => ?_
    obtain ⟨h1, h2, h3, h4⟩ := at_cons (fun n : Int => [C.int .i64 n]) h (.le (by omega))
    have h3' : (ints l)[((pre.length : Nat) : Int).toNat]? = some [C.int .i64 c] := h3
    rw [L87_3_eq]; unfold L87_3
    simp only [h1, h2, h3', h4, cond_true, Bool.true_and, Option.bind_some, List.getElem?_cons_zero, asI_i, hm, List.all_cons, isLen]
    by_cases a1 : c < -1073741824
    · have : ¬ -1073741824 ≤ c := by omega
      simp [a1, this]
    · have a0 : -1073741824 ≤ c := by omega
      by_cases a2 : c > 1073741824
      · have : ¬ c ≤ 1073741824 := by omega
        simp [a1, a2, this]
      · have : c ≤ 1073741824 := by omega
        simp [a1, a2, this, a0]
theorem rProper_one (b : Bx) (hn : I64 b.name.size) (hs' : I64 b.src.length) (hb : I64 b.kids.length) (hk : ∀ k ∈ b.kids, Says Try.prog hs 87 [.agg 11 k.c] [.one (.bool (allP k))]) : Says Try.prog hs 87 [.agg 11 b.c] [.one (.bool (allP b))] :=
  (rProper_loop b hn hs' hb hk [b.w, b.h, b.d, b.x, b.y] (by simp) [b.w, b.h, b.d, b.x, b.y] [] rfl).next fun m h => by
    rw [R87_eq]; unfold R87
    simp only [Bx.c3, Bx.c4, Bx.c5, Bx.c6, Bx.c7, asI_i, Option.bind_some]
    have : allP b = ([b.w, b.h, b.d, b.x, b.y].all isLen && (kindB b && (b.kids.all allP && srcB b))) := by
      rw [allP_eq]
      simp only [prpB, dimB, List.all_cons, List.all_nil, Bool.and_true]
      cases b.kids.all allP <;> simp [Bool.and_assoc]
    rw [this]; exact h
mutual
theorem rProper_says : (b : Bx) → (∀ c ∈ flat b, c.ok1) → Says Try.prog hs 87 [.agg 11 b.c] [.one (.bool (allP b))]
  | ⟨k, nm, s, w, h, d, x, y, kids, o, src⟩, hy => by
    have h0 := hy ⟨k, nm, s, w, h, d, x, y, kids, o, src⟩ (by simp [flat])
    exact rProper_one _ h0.2.1 h0.2.2.2.2.2.2.2.2.2.2.1 h0.2.2.2.2.2.2.2.2.2.2.2 (rPropers_says kids fun c hc => hy c (by simp [flat, hc]))
theorem rPropers_says : (l : List Bx) → (∀ c ∈ flats l, c.ok1) → ∀ k ∈ l, Says Try.prog hs 87 [.agg 11 k.c] [.one (.bool (allP k))]
  | [], _ => by simp
  | b :: l, hy => by
    intro k hk
    rcases List.mem_cons.1 hk with e | hk
    · rw [e]; exact rProper_says b fun c hc => hy c (by simp [flats, hc])
    · exact rPropers_says l (fun c hc => hy c (by simp [flats, hc])) k hk
end
theorem rbValid_says (b : Bx) (hk : ∀ c ∈ flat b, c.ok1) (hn : (flat b).length ≤ 1000000) : Says Try.prog hs 66 [.agg 11 b.c] [.one (.bool b.valid)] := by
  have hkids : ∀ c ∈ flat b, I64 c.kids.length := fun c hc => (hk c hc).2.2.2.2.2.2.2.2.2.2.2
  refine ((rProper_says b hk).and ((count_says b hkids hn).and (rNested_says b hkids hn))).next fun m h => ?_
  rw [R66_eq]; unfold R66 Bx.valid
  rw [cb_bool h.1, cb_int h.2.1, cb_int h.2.2]
  unfold allP
  cases (flat b).all prpB with
  | false => simp
  | true =>
    by_cases q : (flat b).length ≤ 20000
    · have q2 : (((flat b).length : Int) ≤ 20000) := by omega
      by_cases r : dep b ≤ 100
      · have r2 : (((dep b : Nat) : Int) ≤ 100) := by omega
        simp [q, q2, r, r2]
      · have r2 : ¬ (((dep b : Nat) : Int) ≤ 100) := by omega
        simp [q, q2, r, r2]
    · have q2 : ¬ (((flat b).length : Int) ≤ 20000) := by omega
      simp [q, q2]
end Go.Proofs.Ytbhojnofdeihdaa.E
