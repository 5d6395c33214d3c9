/- What is shown here: what the functions of the package box come to. -/
import Derived.Test.YtbhojnofdeihdaaGD
import Derived.Test.YtbhojnofdeihdaaFS
import Derived.Test.YtbhojnofdeihdaaBM
namespace Go.Proofs.Ytbhojnofdeihdaa.E
open Go.RowKit Go.Proofs
set_option autoImplicit false
set_option linter.unusedVariables false
set_option linter.unusedSimpArgs false

theorem badP_says (c : UInt8) : Says Try.prog hs 73 [.one (.int .u8 c.toNat)] [.one (.bool (badC c))] := Ev.step fun m => by
  rw [R73_eq]; unfold R73 badC
  by_cases h : c.toNat < 32
  · have h1 : ((c.toNat : Int) < 32) := by omega
    have h2 : ¬ (32 ≤ c.toNat) := by omega
    simp [h1, h2]
  · have h1 : ¬ ((c.toNat : Int) < 32) := by omega
    have h2 : 32 ≤ c.toNat := by omega
    simp only [h1, h2, decide_true, decide_false, cond_false, Bool.true_and]
    by_cases h3 : c.toNat ≤ 126
    · have : ¬ ((c.toNat : Int) > 126) := by omega
      simp [h3, this]
    · have : ((c.toNat : Int) > 126) := by omega
      simp [h3, this]
def idxN : Nat → List Int → Int
  | _, [] => -1
  | i, c :: l => if c < 0 then i else idxN (i + 1) l
theorem idxN_any (l : List Int) : ∀ i, decide (idxN i l ≥ 0) = l.any fun n => decide (n < 0) := by
  induction l with
  | nil => intro i; rfl
  | cons c l ih =>
    intro i
    unfold idxN
    by_cases h : c < 0
    · simp [h]
    · rw [if_neg h, ih]; simp [h]
theorem negInt_says (n : Int) : Says Try.prog hs 93 [.one (.int .i64 n)] [.one (.bool (decide (n < 0)))] := Ev.step fun m => by
  rw [R93_eq]; rfl
theorem int_len1 (n : Int) : [C.int .i64 n].length.beq 1 = true := rfl
theorem indexN_loop (l : List Int) (hb : I64 l.length) : ∀ (rest pre : List Int), l = pre ++ rest →
    Ev fun m => (eng Try.prog hs m).loop (lp Try.f102 2) (S102_2 93 (l.map fun n => [C.int .i64 n]) [] l.length pre.length) = some (.ret [.one (.int .i64 (idxN pre.length rest))] none) := by
  intro rest
  induction rest with
  | nil =>
    intro pre h
    refine Ev.step fun m => ?_
    rw [L102_2_eq]; unfold L102_2
    rw [at_nil h]; rfl
  | cons c rest ih =>
    intro pre h
    have := ih (pre ++ [c]) (by rw [h]; simp)
    refine (this.and (negInt_says c)).next fun m hm => ?_
    obtain ⟨h1, h2, h3, h4⟩ := at_cons (fun n : Int => [C.int .i64 n]) h hb
    rw [L102_2_eq]; unfold L102_2
    have e1 : (A.one (C.int .i64 c) :: [].append (List.map A.one ([] : List C))) = [A.one (.int .i64 c)] := rfl
    rw [h1, h2, h3, h4]
    simp only [cond_true, Bool.true_and, Option.bind_some, int_len1, List.getElem?_cons_zero, asI_i, e1]
    rw [cb_bool hm.2, hm.1]
    simp only [idxN]
    by_cases hc : c < 0
    · simp [hc]
    · simp [hc]
theorem negs_says (l : List Int) (hb : I64 l.length) : Says Try.prog hs 92 [.one (.sl (ints l)), .one (.fn 93 [])] [.one (.bool (l.any fun n => decide (n < 0)))] := by
  refine (((indexN_loop l hb l [] rfl).next (q := fun m => (eng Try.prog hs m).call 102 [.one (.sl (ints l)), .one (.fn 93 [])] none = some (.ret [.one (.int .i64 (idxN 0 l))] none)) fun m h => ?_)).next fun m h => ?_
  · rw [R102_eq]; unfold R102
    have : ((ints l).length : Int) = (l.length : Int) := by simp [ints]
    rw [this]; exact h
  · rw [R92_eq]; unfold R92
    rw [cb_int h, idxN_any]
theorem source_says (b : Bx) (hb : I64 b.src.length) : Says Try.prog hs 74 [.one (.rp b.c 0)] [.one (.bool (srcB b))] :=
  (negs_says b.src hb).next fun m h => by
    rw [R74_eq]; unfold R74
    have el : ((ints b.src).length : Int) = (b.src.length : Int) := by simp [ints]
    simp only [Bx.c10, Bx.c9, asL_l, asI_i, Option.bind_some, el]
    rw [cb_bool h]
    have hn : (b.src.any fun n => decide (n < 0)) = !(b.src.all fun n => decide (0 ≤ n)) := by
      rw [List.not_all_eq_any_not]; congr 1; funext n
      by_cases q : n < 0
      · have : ¬ 0 ≤ n := by omega
        simp [q, this]
      · have : 0 ≤ n := by omega
        simp [q, this]
    have ht : ((b.src.length : Int)).tmod 2 = ((b.src.length % 2 : Nat) : Int) := by
      rw [Int.tmod_eq_emod_of_nonneg (by omega)]; omega
    rw [hn, ht]
    unfold srcB
    cases b.src.all fun n => decide (0 ≤ n) with
    | false => rfl
    | true =>
      simp only [Bool.not_true, cond_false, Bool.true_and]
      by_cases a0 : b.of = 0
      · have : (b.of == 0) = true := by simpa using a0
        simp only [this, cond_true, if_pos a0]
        by_cases q : b.src.length = 0
        · simp [q]
        · have : ¬ ((b.src.length : Int) = 0) := by omega
          simp [q]
      · have n0 : (b.of == 0) = false := by simpa using a0
        simp only [n0, cond_false, if_neg a0]
        by_cases a1 : b.of = 1
        · have : (b.of == 1) = true := by simpa using a1
          simp only [this, cond_true, if_pos a1]
          by_cases q : b.src.length % 2 = 0
          · have q2 : (((b.src.length % 2 : Nat) : Int) == 0) = true := by rw [q]; rfl
            simp only [q2, cond_true, q, decide_true, Bool.true_and]
            by_cases r : b.src.length ≤ 48
            · have : ((b.src.length : Int) ≤ 48) := by omega
              simp [r, this]
            · have : ¬ ((b.src.length : Int) ≤ 48) := by omega
              simp [r, this]
          · have q2 : (((b.src.length % 2 : Nat) : Int) == 0) = false := by rw [beq_eq_false_iff_ne]; omega
            simp only [q2, cond_false, q, decide_false, Bool.false_and]
        · have n1 : (b.of == 1) = false := by simpa using a1
          simp only [n1, cond_false, if_neg a1]
          by_cases a2 : b.of = 2
          · have : (b.of == 2) = true := by simpa using a2
            simp only [this, cond_true, if_pos a2]
            by_cases q : b.src.length % 2 = 1
            · have q2 : (((b.src.length % 2 : Nat) : Int) == 1) = true := by rw [q]; rfl
              simp only [q2, cond_true, q, decide_true, Bool.true_and]
              by_cases r : b.src.length ≤ 49
              · have : ((b.src.length : Int) ≤ 49) := by omega
                simp [r, this]
              · have : ¬ ((b.src.length : Int) ≤ 49) := by omega
                simp [r, this]
            · have q2 : (((b.src.length % 2 : Nat) : Int) == 1) = false := by rw [beq_eq_false_iff_ne]; omega
              simp only [q2, cond_false, q, decide_false, Bool.false_and]
          · have n2 : (b.of == 2) = false := by simpa using a2
            simp only [n2, cond_false, if_neg a2]
theorem dim_step (a : Int) (r : Bool) : (bif decide (a < -1073741824) then some (Res.ret [A.one (C.bool false)] none) else bif decide (a > 1073741824) then some (Res.ret [A.one (C.bool false)] none) else some (Res.ret [A.one (.bool r)] none)) = some (Res.ret [.one (.bool (isLen a && r))] none) := by
  unfold isLen
  by_cases h1 : a < -1073741824
  · have : ¬ -1073741824 ≤ a := by omega
    simp [h1, this]
  · have h0 : -1073741824 ≤ a := by omega
    by_cases h2 : a > 1073741824
    · have : ¬ a ≤ 1073741824 := by omega
      simp [h1, h2, this]
    · have : a ≤ 1073741824 := by omega
      simp [h1, h2, this, h0]
theorem proper_says (b : Bx) (hn : I64 b.name.size) (hb : I64 b.src.length) : Says Try.prog hs 50 [.one (.rp b.c 0)] [.one (.bool (prpB b))] := by
  have last : Ev fun m => (eng Try.prog hs m).loop (lp Try.f50 2) (S50_2e b.c b.w b.h b.d b.x b.y) = some (.ret [.one (.bool (kindB b && srcB b))] none) := by
    have hl : b.name.data.toList.length = b.name.size := rfl
    refine ((source_says b hb).and (names_says 73 badP_says b.name (by rw [hl]; exact hn))).next fun m h => ?_
    rw [L50_2e_eq]; unfold L50_2e
    have ek : ((b.kids.map Bx.c).length : Int) = (b.kids.length : Int) := by simp
    simp only [Bx.c0, Bx.c1, Bx.c2, Bx.c8, asI_i, asS_s, asL_l, Option.bind_some, ek, str_beq]
    rw [cb_bool h.1, cb_bool h.2]
    unfold kindB
    have hnm : (!b.name.data.toList.any badC) = b.name.data.toList.all fun c => decide (32 ≤ c.toNat) && decide (c.toNat ≤ 126) := by
      rw [List.not_any_eq_all_not]; simp [badC]
    have kl : (decide ((b.kids.length : Int) > 0)) = !decide (b.kids.length = 0) := by
      by_cases q : b.kids.length = 0
      · simp [q]
      · have : ((b.kids.length : Int) > 0) := by omega
        simp only [q, this, decide_true, decide_false, Bool.not_false]
    by_cases a1 : b.kind = 1
    · have e1 : (b.kind == 1) = true := by simpa using a1
      simp only [e1, cond_true, if_pos a1, nameB, kl]
      rw [← hnm]
      by_cases p1 : 1 ≤ b.name.size
      · have q1 : ¬ ((b.name.size : Int) < 1) := by omega
        by_cases p2 : b.name.size ≤ 16
        · have q2 : ¬ ((b.name.size : Int) > 16) := by omega
          simp only [q1, q2, p1, p2, decide_true, decide_false, cond_false, Bool.true_and]
          cases b.name.data.toList.any badC with
          | true => simp
          | false =>
            simp only [cond_false, Bool.not_false, Bool.true_and]
            by_cases p3 : 1 ≤ b.size
            · have q3 : ¬ b.size < 1 := by omega
              by_cases p4 : b.size ≤ 1000
              · have q4 : ¬ b.size > 1000 := by omega
                simp only [q3, q4, p3, p4, decide_true, decide_false, cond_false, Bool.true_and]
                cases decide (b.kids.length = 0) <;> rfl
              · have q4 : b.size > 1000 := by omega
                simp [q3, q4, p3, p4]
            · have q3 : b.size < 1 := by omega
              simp [q3, p3]
        · have q2 : ((b.name.size : Int) > 16) := by omega
          simp [q1, q2, p1, p2]
      · have q1 : ((b.name.size : Int) < 1) := by omega
        simp [q1, p1]
    · have e1 : (b.kind == 1) = false := by simpa using a1
      simp only [e1, cond_false, if_neg a1, kl]
      by_cases a2 : b.kind = 2
      · have e2 : (b.kind == 2) = true := by simpa using a2
        simp only [e2, cond_true, if_pos a2]
        by_cases p1 : b.name = ⟨#[]⟩
        · by_cases p2 : b.size = 0
          · simp only [p1, p2, decide_true, Bool.not_true, cond_false, bne_self_eq_false, Bool.true_and]
            cases decide (b.kids.length = 0) <;> rfl
          · have : (b.size != 0) = true := by simpa using p2
            simp only [p1, p2, this, decide_true, decide_false, Bool.not_true, cond_false, cond_true, Bool.true_and, Bool.false_and]
        · simp [p1]
      · have e2 : (b.kind == 2) = false := by simpa using a2
        simp only [e2, cond_false, if_neg a2]
        by_cases a3 : b.kind = 3
        · have e3 : (b.kind == 3) = true := by simpa using a3
          simp only [e3, cond_true, if_pos a3]
          by_cases p1 : b.name = ⟨#[]⟩
          · by_cases p2 : b.size = 0
            · simp [p1, p2]
            · have : (b.size != 0) = true := by simpa using p2
              simp only [p1, p2, this, decide_true, decide_false, Bool.not_true, cond_false, cond_true, Bool.true_and, Bool.false_and]
          · simp [p1]
        · have e3 : (b.kind == 3) = false := by simpa using a3
          simp only [e3, cond_false, if_neg a3, Bool.false_and]
  have l4 := last.next (q := fun m => (eng Try.prog hs m).loop (lp Try.f50 2) (S50_2d b.c b.w b.h b.d b.x b.y) = some (.ret [.one (.bool (isLen b.y && (kindB b && srcB b)))] none)) fun m h => by
    rw [L50_2d_eq]; unfold L50_2d; rw [h]; exact dim_step _ _
  have l3 := l4.next (q := fun m => (eng Try.prog hs m).loop (lp Try.f50 2) (S50_2c b.c b.w b.h b.d b.x b.y) = some (.ret [.one (.bool (isLen b.x && (isLen b.y && (kindB b && srcB b))))] none)) fun m h => by
    rw [L50_2c_eq]; unfold L50_2c; rw [h]; exact dim_step _ _
  have l2 := l3.next (q := fun m => (eng Try.prog hs m).loop (lp Try.f50 2) (S50_2b b.c b.w b.h b.d b.x b.y) = some (.ret [.one (.bool (isLen b.d && (isLen b.x && (isLen b.y && (kindB b && srcB b)))))] none)) fun m h => by
    rw [L50_2b_eq]; unfold L50_2b; rw [h]; exact dim_step _ _
  have l1 := l2.next (q := fun m => (eng Try.prog hs m).loop (lp Try.f50 2) (S50_2a b.c b.w b.h b.d b.x b.y) = some (.ret [.one (.bool (isLen b.h && (isLen b.d && (isLen b.x && (isLen b.y && (kindB b && srcB b))))))] none)) fun m h => by
    rw [L50_2a_eq]; unfold L50_2a; rw [h]; exact dim_step _ _
  have l0 := l1.next (q := fun m => (eng Try.prog hs m).loop (lp Try.f50 2) (S50_2 b.c b.w b.h b.d b.x b.y) = some (.ret [.one (.bool (isLen b.w && (isLen b.h && (isLen b.d && (isLen b.x && (isLen b.y && (kindB b && srcB b)))))))] none)) fun m h => by
    rw [L50_2_eq]; unfold L50_2; rw [h]; exact dim_step _ _
  refine l0.next fun m h => ?_
  rw [R50_eq]; unfold R50
  simp only [Bx.c3, Bx.c4, Bx.c5, Bx.c6, Bx.c7, asI_i, Option.bind_some, h]
  have : prpB b = (isLen b.w && (isLen b.h && (isLen b.d && (isLen b.x && (isLen b.y && (kindB b && srcB b)))))) := by
    unfold prpB dimB; simp only [Bool.and_assoc]
  rw [this]
theorem half_says (n : Int) : Says Try.prog hs 35 [.one (.int .i64 n)] [.one (.int .i64 (hlf n))] := by
  by_cases hn : isLen n = true
  · simp only [isLen, Bool.and_eq_true, decide_eq_true_eq] at hn
    refine ((lenValid_says n).and (round_says (a := n) (b := 2) (.inr rfl) (by omega) (by omega))).next fun m h => ?_
    have h1 : isLen n = true := by simp [isLen, hn]
    rw [R35_eq]; unfold R35
    rw [cb_bool h.1, h1, cb_int h.2]
    simp only [Bool.not_true, cond_false, hlf, h1, if_true]
  · refine (lenValid_says n).next fun m h => ?_
    have h0 : isLen n = false := by simpa using hn
    rw [R35_eq]; unfold R35
    rw [cb_bool h, h0]
    simp [hlf, h0]
theorem At_says (b : Bx) (x y : Int) : Says Try.prog hs 36 [.agg 11 b.c, .one (.int .i64 x), .one (.int .i64 y)] [.agg 11 (b.at x y).c] := Ev.step fun m => by
  rw [R36_eq]; unfold R36; rw [at_c]
theorem Rule_says (w h d : Int) : Says Try.prog hs 37 [.one (.int .i64 w), .one (.int .i64 h), .one (.int .i64 d)] [.agg 11 (Bx.rule w h d).c] := Ev.step fun m => by
  rw [R37_eq]; unfold R37; rw [Bx.c_eq]; rfl
theorem cloneB_nil (f : Nat) (hf : clones.any (Nat.beq f) = true) (m : Nat) : (eng Try.prog hs (m + 1)).call f [.one (.sl [])] none = some (.ret [.one (.sl [])] none) := by
  simp only [eng, hs, cloneOrc, hf, cond_true]
theorem cloneB_says (l : List Bx) (h : l.length ≤ 1000000) : Says Try.prog hs 63 [.one (.sl (l.map Bx.c))] [.one (.sl (l.map Bx.c))] := Ev.step fun m => by
  cases l with
  | nil => exact cloneB_nil _ rfl m
  | cons a l =>
    show (eng Try.prog hs (m + 1)).call 63 [.one (.sl (a.c :: l.map Bx.c))] none = _
    rw [R63_eq]; unfold R63
    have h1 : allSz 11 (a.c :: l.map Bx.c) = true := by
      unfold allSz; rw [List.all_eq_true]
      intro x hx
      simp only [List.mem_cons, List.mem_map] at hx
      rcases hx with rfl | ⟨s, _, rfl⟩
      · exact Bx.len11 a
      · exact Bx.len11 s
    have h2 : bytesT Try.prog 33 ≤ 1000 := by decide +kernel
    have h3 : decide ((0 + (a.c :: l.map Bx.c).length) * (bytesT Try.prog 33 + 1) ≤ most) = true := by
      rw [decide_eq_true_iff]
      have h4 : (0 + (a.c :: l.map Bx.c).length) ≤ 1000001 := by simp only [List.length_cons, List.length_map] at h ⊢; omega
      have := Nat.mul_le_mul h4 (Nat.add_le_add_right h2 1)
      simp only [most]; omega
    rw [h1, h3]; rfl
theorem List_says (w h d : Int) (l : List Bx) (hl : l.length ≤ 1000000) : Says Try.prog hs 38 [.one (.int .i64 w), .one (.int .i64 h), .one (.int .i64 d), .one (.sl (l.map Bx.c))] [.agg 11 (Bx.list w h d l).c] :=
  (cloneB_says l hl).next fun m hm => by
    rw [R38_eq]; unfold R38; rw [cb_sl hm, Bx.c_eq]; rfl
end Go.Proofs.Ytbhojnofdeihdaa.E
