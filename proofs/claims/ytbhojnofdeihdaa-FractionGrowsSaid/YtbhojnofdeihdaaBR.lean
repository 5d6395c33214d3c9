/- What is shown here: what the functions of the references of boxes and lengths come to. -/
import Derived.Test.YtbhojnofdeihdaaGE
import Derived.Test.YtbhojnofdeihdaaGB
import Derived.Test.YtbhojnofdeihdaaFR
import Derived.Test.YtbhojnofdeihdaaBM
namespace Go.Proofs.Ytbhojnofdeihdaa.E
open Go.RowKit Go.Proofs
set_option autoImplicit false
set_option linter.unusedVariables false
set_option linter.unusedSimpArgs false

/-! ### lengths -/
theorem rLen_says (n : Int) : Says Try.prog hs 68 [.one (.int .i64 n)] [.one (.bool (isLen n))] := Ev.step fun m => by
  rw [R68_eq]; unfold R68 isLen
  by_cases h1 : -1073741824 ≤ n
  · simp [h1]
  · simp [h1]
theorem rAbs_says (n : Int) (h0 : -1000000000000000000 ≤ n) : Says Try.prog hs 90 [.one (.int .i64 n)] [.one (.int .i64 (if n < 0 then -n else n))] := Ev.step fun m => by
  rw [R90_eq]; unfold R90
  by_cases h : n < 0
  · have w : IntKind.i64.wrap (0 - n) = -n := by
      by_cases q : n = -9223372036854775808
      · omega
      · rw [show (0 : Int) - n = -n by omega, IntKind.wrap_i64]; omega
    simp only [h, decide_true, cond_true, if_true, w]
  · simp only [h, decide_false, cond_false, if_false]
theorem rRound_says {a b : Int} (hb : b = 100 ∨ b = 2) (ha : -1000000000000000000 ≤ a) (ha2 : a ≤ 1000000000000000000) : Says Try.prog hs 69 [.one (.int .i64 a), .one (.int .i64 b)] [.one (.int .i64 (rd b a))] := by
  refine ((rAbs_says a ha).and (rAbs_says b (by omega))).next fun m h => ?_
  rw [R69_eq]; unfold R69
  rw [cb_int h.1, cb_int h.2, cb_int h.2]
  have hb0 : ¬ b < 0 := by omega
  rw [if_neg hb0]
  have w0 : IntKind.i64.wrap (2 * b) = 2 * b := wr_id ⟨by omega, by omega⟩
  have z0 : (2 * b == 0) = false := by rw [beq_eq_false_iff_ne]; omega
  simp only [w0, z0, cond_false, hb0, decide_false]
  unfold rd
  by_cases h0 : a < 0
  · have h1 : ¬ 0 ≤ a := by omega
    have w1 : IntKind.i64.wrap (2 * -a) = 2 * -a := wr_id ⟨by omega, by omega⟩
    have w2 : IntKind.i64.wrap (2 * -a + b) = 2 * -a + b := wr_id ⟨by omega, by omega⟩
    have w3 : (2 * -a + b).tdiv (2 * b) = (2 * -a + b) / (2 * b) := Int.tdiv_eq_ediv_of_nonneg (by omega)
    have hq : 0 ≤ (2 * -a + b) / (2 * b) ∧ (2 * -a + b) / (2 * b) ≤ 4000000000000000000 := by rcases hb with rfl | rfl <;> omega
    have w4 : IntKind.i64.wrap ((2 * -a + b) / (2 * b)) = (2 * -a + b) / (2 * b) := wr_id ⟨by omega, by omega⟩
    have w5 : IntKind.i64.wrap (0 - (2 * -a + b) / (2 * b)) = -((2 * -a + b) / (2 * b)) := by rw [wr_id ⟨by omega, by omega⟩]; omega
    simp only [h0, h1, if_true, if_false, w1, w2, w3, w4, w5, decide_true]
    rfl
  · have h1 : 0 ≤ a := by omega
    have w1 : IntKind.i64.wrap (2 * a) = 2 * a := wr_id ⟨by omega, by omega⟩
    have w2 : IntKind.i64.wrap (2 * a + b) = 2 * a + b := wr_id ⟨by omega, by omega⟩
    have w3 : (2 * a + b).tdiv (2 * b) = (2 * a + b) / (2 * b) := Int.tdiv_eq_ediv_of_nonneg (by omega)
    have hq : 0 ≤ (2 * a + b) / (2 * b) ∧ (2 * a + b) / (2 * b) ≤ 4000000000000000000 := by rcases hb with rfl | rfl <;> omega
    have w4 : IntKind.i64.wrap ((2 * a + b) / (2 * b)) = (2 * a + b) / (2 * b) := wr_id ⟨by omega, by omega⟩
    simp only [h0, h1, if_true, if_false, w1, w2, w3, w4, decide_false]
    rfl
theorem rHalf_says (n : Int) : Says Try.prog hs 67 [.one (.int .i64 n)] [.one (.int .i64 (hlf n))] := by
  by_cases hn : isLen n = true
  · simp only [isLen, Bool.and_eq_true, decide_eq_true_eq] at hn
    refine ((rLen_says n).and (rRound_says (a := n) (b := 2) (.inr rfl) (by omega) (by omega))).next fun m h => ?_
    have h1 : isLen n = true := by simp [isLen, hn]
    rw [R67_eq]; unfold R67
    rw [cb_bool h.1, h1, cb_int h.2]
    simp only [Bool.not_true, cond_false, hlf, h1, if_true]
  · refine (rLen_says n).next fun m h => ?_
    have h0 : isLen n = false := by simpa using hn
    rw [R67_eq]; unfold R67
    rw [cb_bool h, h0]
    simp [hlf, h0]
theorem rScl_says (n p : Int) : Says Try.prog hs 47 [.one (.int .i64 n), .one (.int .i64 p)] [.one (.int .i64 (scl n p))] := by
  by_cases hn : isLen n = true
  · by_cases hp : 0 ≤ p ∧ p ≤ 10000
    · simp only [isLen, Bool.and_eq_true, decide_eq_true_eq] at hn
      have hbd := mul_bd hn.1 hn.2 hp.1 hp.2
      refine ((rLen_says n).and (rRound_says (a := n * p) (b := 100) (.inl rfl) (by omega) (by omega))).next fun m h => ?_
      rw [R47_eq]; unfold R47
      have h1 : isLen n = true := by simp [isLen, hn]
      have e1 : ¬ p < 0 := by omega
      have e2 : ¬ p > 10000 := by omega
      have w1 : IntKind.i64.wrap (n * p) = n * p := wr_id ⟨by omega, by omega⟩
      rw [cb_bool h.1, h1, w1, cb_int h.2]
      simp only [e1, e2, decide_false, cond_false, Bool.not_true, scl, h1, hp, and_self, if_true]
    · refine (rLen_says n).next fun m h => ?_
      rw [R47_eq]; unfold R47
      rw [cb_bool h, hn]
      have e0 : ¬ (isLen n = true ∧ 0 ≤ p ∧ p ≤ 10000) := fun h => hp h.2
      simp only [Bool.not_true, cond_false, scl, if_neg e0]
      by_cases e1 : p < 0
      · simp only [e1, decide_true, cond_true]
      · have e2 : p > 10000 := by omega
        simp only [e1, e2, decide_true, decide_false, cond_true, cond_false]
  · refine (rLen_says n).next fun m h => ?_
    rw [R47_eq]; unfold R47
    have h0 : isLen n = false := by simpa using hn
    rw [cb_bool h, h0]
    simp [scl, h0]

/-! ### boxes -/
theorem rAt_says (b : Bx) (x y : Int) : Says Try.prog hs 23 [.agg 11 b.c, .one (.int .i64 x), .one (.int .i64 y)] [.agg 11 (b.at x y).c] := Ev.step fun m => by
  rw [R23_eq]; unfold R23; rw [at_c]
theorem rRule_says (w h d : Int) : Says Try.prog hs 41 [.one (.int .i64 w), .one (.int .i64 h), .one (.int .i64 d)] [.agg 11 (Bx.rule w h d).c] := Ev.step fun m => by
  rw [R41_eq]; unfold R41; rw [Bx.c_eq]; rfl
theorem rList_says (w h d : Int) (l : List Bx) (hl : l.length ≤ 1000000) : Says Try.prog hs 44 [.one (.int .i64 w), .one (.int .i64 h), .one (.int .i64 d), .one (.sl (l.map Bx.c))] [.agg 11 (Bx.list w h d l).c] := Ev.step fun m => by
  rw [R44_eq]; unfold R44
  have h1 : allSz 11 (l.map Bx.c) = true := by
    unfold allSz; rw [List.all_eq_true]
    intro x hx
    obtain ⟨s, _, rfl⟩ := List.mem_map.1 hx
    exact Bx.len11 s
  have h2 : bytesT Try.prog 33 ≤ 1000 := by decide +kernel
  have h3 : decide ((0 + (l.map Bx.c).length) * (bytesT Try.prog 33 + 1) ≤ most) = true := by
    rw [decide_eq_true_iff]
    have h4 : (0 + (l.map Bx.c).length) ≤ 1000001 := by simp only [List.length_map] at hl ⊢; omega
    have := Nat.mul_le_mul h4 (Nat.add_le_add_right h2 1)
    simp only [most]; omega
  rw [h1, h3, Bx.c_eq]; rfl
theorem sameInts_loop (l : List Int) (hb : I64 l.length) : ∀ (rest pre : List Int), l = pre ++ rest →
    Ev fun m => (eng Try.prog hs m).loop (lp Try.f45 4) (S45_4 (l.map fun n => [C.int .i64 n]) (l.map fun n => [C.int .i64 n]) pre.length) = some (.ret [.one (.bool true)] none) := by
  have el : ((l.map fun n => [C.int .i64 n]).length : Int) = l.length := by simp
  have e1 : ∀ n : Int, [C.int .i64 n].length.beq 1 = true := fun _ => rfl
  intro rest
  induction rest with
  | nil =>
    intro pre h
    refine Ev.step fun m => ?_
    rw [L45_4_eq]; unfold L45_4
    rw [el, at_nil h]; rfl
  | cons c rest ih =>
    intro pre h
    refine (ih (pre ++ [c]) (by rw [h]; simp)).next fun m hm => ?_
    obtain ⟨h1, h2, h3, h4⟩ := at_cons (fun n : Int => [C.int .i64 n]) h hb
    rw [L45_4_eq]; unfold L45_4
    simp only [el, h1, h2, h3, h4, cond_true, Bool.true_and, Option.bind_some, e1, List.getElem?_cons_zero, asI_i, bne_self_eq_false, cond_false, hm]
theorem sameInts_says (l : List Int) (hb : I64 l.length) : Says Try.prog hs 45 [.one (.sl (ints l)), .one (.sl (ints l))] [.one (.bool true)] :=
  (sameInts_loop l hb l [] rfl).next fun m h => by
    rw [R45_eq]; unfold R45
    simp only [bne_self_eq_false, cond_false]
    exact h
theorem equal_loop (b : Bx) (hb : I64 b.kids.length) : ∀ (rest pre : List Bx), b.kids = pre ++ rest → (∀ k ∈ rest, Says Try.prog hs 18 [.agg 11 k.c, .agg 11 k.c] [.one (.bool true)]) →
    Ev fun m => (eng Try.prog hs m).loop (lp Try.f18 4) (S18_4 pre.length b.c b.c) = some (.ret [.one (.bool true)] none) := by
  have el : ((b.kids.map Bx.c).length : Int) = b.kids.length := by simp
  intro rest
  induction rest with
  | nil =>
    intro pre h _
    refine Ev.step fun m => ?_
    rw [L18_4_eq]; unfold L18_4
    simp only [Bx.c8, asL_l, Option.bind_some, el, at_nil h, cond_false]
  | cons c rest ih =>
    intro pre h hk
    refine ((hk c (by simp)).and (ih (pre ++ [c]) (by rw [h]; simp) (fun k hk' => hk k (by simp [hk'])))).next fun m hm => ?_
    obtain ⟨h1, h2, h3, h4⟩ := at_cons Bx.c h hb
    rw [L18_4_eq]; unfold L18_4
    simp only [Bx.c8, asL_l, Option.bind_some, el, h1, h2, h3, h4, cond_true, Bool.true_and, Bx.len11]
    rw [cb_bool hm.1]
    simp only [Bool.not_true, cond_false, hm.2]
theorem equal_one (b : Bx) (hs' : I64 b.src.length) (hb : I64 b.kids.length) (hk : ∀ k ∈ b.kids, Says Try.prog hs 18 [.agg 11 k.c, .agg 11 k.c] [.one (.bool true)]) : Says Try.prog hs 18 [.agg 11 b.c, .agg 11 b.c] [.one (.bool true)] := by
  refine ((sameInts_says b.src hs').and (equal_loop b hb b.kids [] rfl hk)).next fun m h => ?_
  rw [R18_eq]; unfold R18
  simp only [Bx.c0, Bx.c1, Bx.c2, Bx.c3, Bx.c4, Bx.c5, Bx.c6, Bx.c7, Bx.c8, Bx.c9, Bx.c10, asI_i, asS_s, asL_l, Option.bind_some, bne_self_eq_false, beq_self_eq_true, Bool.not_true, cond_false]
  rw [cb_bool h.1]
  exact h.2
mutual
theorem equal_says : (b : Bx) → (∀ c ∈ flat b, c.ok1) → Says Try.prog hs 18 [.agg 11 b.c, .agg 11 b.c] [.one (.bool true)]
  | ⟨k, nm, s, w, h, d, x, y, kids, o, src⟩, hy => by
    have h0 := hy ⟨k, nm, s, w, h, d, x, y, kids, o, src⟩ (by simp [flat])
    exact equal_one _ h0.2.2.2.2.2.2.2.2.2.2.1 h0.2.2.2.2.2.2.2.2.2.2.2 (equals_says kids fun c hc => hy c (by simp [flat, hc]))
theorem equals_says : (l : List Bx) → (∀ c ∈ flats l, c.ok1) → ∀ k ∈ l, Says Try.prog hs 18 [.agg 11 k.c, .agg 11 k.c] [.one (.bool true)]
  | [], _ => by simp
  | b :: l, hy => by
    intro k hk
    rcases List.mem_cons.1 hk with e | hk
    · rw [e]; exact equal_says b fun c hc => hy c (by simp [flats, hc])
    · exact equals_says l (fun c hc => hy c (by simp [flats, hc])) k hk
end

/-! ### counting -/
theorem count_loop (b : Bx) (hb : I64 b.kids.length) (hn : (flat b).length ≤ 1000000) : ∀ (rest pre : List Bx), b.kids = pre ++ rest → (∀ k ∈ rest, Says Try.prog hs 88 [.agg 11 k.c] [.one (.int .i64 (flat k).length)]) →
    Ev fun m => (eng Try.prog hs m).loop (lp Try.f88 3) (S88_3 (1 + (flats pre).length) pre.length b.c) = some (.ret [.one (.int .i64 (flat b).length)] none) := by
  have el : ((b.kids.map Bx.c).length : Int) = b.kids.length := by simp
  intro rest
  induction rest with
  | nil =>
    intro pre h _
    refine Ev.step fun m => ?_
    rw [L88_3_eq]; unfold L88_3
    simp only [Bx.c8, asL_l, Option.bind_some, el, at_nil h, cond_false]
    have : ((flat b).length : Int) = 1 + ((flats pre).length : Int) := by rw [flat_eq, h, List.append_nil]; simp; omega
    rw [this]
  | cons c rest ih =>
    intro pre h hk
    refine ((hk c (by simp)).and (ih (pre ++ [c]) (by rw [h]; simp) (fun k hk' => hk k (by simp [hk'])))).next fun m hm => ?_
    obtain ⟨h1, h2, h3, h4⟩ := at_cons Bx.c h hb
    have hle : (flats pre).length + (flat c).length ≤ 1000000 := by
      rw [flat_eq, h, flats_append] at hn; simp [flats] at hn; omega
    have e : (1 + ((flats pre).length : Int)) + ((flat c).length : Int) = 1 + ((flats (pre ++ [c])).length : Int) := by rw [flats_append]; simp [flats]; omega
    have w : IntKind.i64.wrap ((1 + ((flats pre).length : Int)) + ((flat c).length : Int)) = 1 + ((flats (pre ++ [c])).length : Int) := by rw [wr_id ⟨by omega, by omega⟩, e]
    rw [L88_3_eq]; unfold L88_3
    simp only [Bx.c8, asL_l, Option.bind_some, el, h1, h2, h3, h4, cond_true, Bool.true_and, Bx.len11]
    rw [cb_int hm.1, w, hm.2]
theorem count_one (b : Bx) (hb : I64 b.kids.length) (hn : (flat b).length ≤ 1000000) (hk : ∀ k ∈ b.kids, Says Try.prog hs 88 [.agg 11 k.c] [.one (.int .i64 (flat k).length)]) : Says Try.prog hs 88 [.agg 11 b.c] [.one (.int .i64 (flat b).length)] :=
  (count_loop b hb hn b.kids [] rfl hk).next fun m h => by
    rw [R88_eq]; unfold R88
    exact h
theorem flat_mem {b k : Bx} (h : k ∈ b.kids) : (flat k).length ≤ (flat b).length := by
  rw [flat_eq b]
  have : ∀ l : List Bx, k ∈ l → (flat k).length ≤ (flats l).length := by
    intro l
    induction l with
    | nil => simp
    | cons c l ih =>
      intro h
      rcases List.mem_cons.1 h with e | h
      · rw [e]; simp [flats]
      · have := ih h; simp [flats]; omega
  have := this _ h
  simp; omega
mutual
theorem count_says : (b : Bx) → (∀ c ∈ flat b, I64 c.kids.length) → (flat b).length ≤ 1000000 → Says Try.prog hs 88 [.agg 11 b.c] [.one (.int .i64 (flat b).length)]
  | ⟨k, nm, s, w, h, d, x, y, kids, o, src⟩, hy, hn => by
    have h0 := hy ⟨k, nm, s, w, h, d, x, y, kids, o, src⟩ (by simp [flat])
    exact count_one _ h0 hn (counts_says kids (fun c hc => hy c (by simp [flat, hc])) (fun c hc => by have := flat_mem (b := ⟨k, nm, s, w, h, d, x, y, kids, o, src⟩) hc; omega))
theorem counts_says : (l : List Bx) → (∀ c ∈ flats l, I64 c.kids.length) → (∀ k ∈ l, (flat k).length ≤ 1000000) → ∀ k ∈ l, Says Try.prog hs 88 [.agg 11 k.c] [.one (.int .i64 (flat k).length)]
  | [], _, _ => by simp
  | b :: l, hy, hn => by
    intro k hk
    rcases List.mem_cons.1 hk with e | hk
    · rw [e]; exact count_says b (fun c hc => hy c (by simp [flats, hc])) (hn b (by simp))
    · exact counts_says l (fun c hc => hy c (by simp [flats, hc])) (fun k hk => hn k (by simp [hk])) k hk
end
theorem rNested_loop (b : Bx) (hb : I64 b.kids.length) (hn : dep b ≤ 1000000) : ∀ (rest pre : List Bx) (x : Nat), b.kids = pre ++ rest → max x (deps rest) = deps b.kids → (∀ k ∈ rest, Says Try.prog hs 89 [.agg 11 k.c] [.one (.int .i64 (dep k))]) →
    Ev fun m => (eng Try.prog hs m).loop (lp Try.f89 3) (S89_3 x pre.length b.c) = some (.ret [.one (.int .i64 (dep b))] none) := by
  have el : ((b.kids.map Bx.c).length : Int) = b.kids.length := by simp
  intro rest
  induction rest with
  | nil =>
    intro pre x h hx _
    refine Ev.step fun m => ?_
    rw [L89_3_eq]; unfold L89_3
    simp only [Bx.c8, asL_l, Option.bind_some, el, at_nil h, cond_false]
    have hd := dep_eq b
    simp only [deps] at hx
    have w : IntKind.i64.wrap ((x : Int) + 1) = ((dep b : Nat) : Int) := by rw [wr_id ⟨by omega, by omega⟩]; omega
    rw [w]
  | cons c rest ih =>
    intro pre x h hx hk
    refine ((hk c (by simp)).and (ih (pre ++ [c]) (max x (dep c)) (by rw [h]; simp) (by simp only [deps] at hx; omega) (fun k hk' => hk k (by simp [hk'])))).next fun m hm => ?_
    obtain ⟨h1, h2, h3, h4⟩ := at_cons Bx.c h hb
    rw [L89_3_eq]; unfold L89_3
    simp only [Bx.c8, asL_l, Option.bind_some, el, h1, h2, h3, h4, cond_true, Bool.true_and, Bx.len11]
    have e : max (x : Int) ((dep c : Nat) : Int) = ((max x (dep c) : Nat) : Int) := by omega
    rw [cb_int hm.1, maxI_eq, e, hm.2]
theorem rNested_one (b : Bx) (hb : I64 b.kids.length) (hn : dep b ≤ 1000000) (hk : ∀ k ∈ b.kids, Says Try.prog hs 89 [.agg 11 k.c] [.one (.int .i64 (dep k))]) : Says Try.prog hs 89 [.agg 11 b.c] [.one (.int .i64 (dep b))] :=
  (rNested_loop b hb hn b.kids [] 0 rfl (by omega) hk).next fun m h => by
    rw [R89_eq]; unfold R89
    exact h
mutual
theorem rNested_says : (b : Bx) → (∀ c ∈ flat b, I64 c.kids.length) → (flat b).length ≤ 1000000 → Says Try.prog hs 89 [.agg 11 b.c] [.one (.int .i64 (dep b))]
  | ⟨k, nm, s, w, h, d, x, y, kids, o, src⟩, hy, hn => by
    have h0 := hy ⟨k, nm, s, w, h, d, x, y, kids, o, src⟩ (by simp [flat])
    exact rNested_one _ h0 (Nat.le_trans (dep_le _) hn) (rNesteds_says kids (fun c hc => hy c (by simp [flat, hc])) (fun c hc => by have := flat_mem (b := ⟨k, nm, s, w, h, d, x, y, kids, o, src⟩) hc; omega))
theorem rNesteds_says : (l : List Bx) → (∀ c ∈ flats l, I64 c.kids.length) → (∀ k ∈ l, (flat k).length ≤ 1000000) → ∀ k ∈ l, Says Try.prog hs 89 [.agg 11 k.c] [.one (.int .i64 (dep k))]
  | [], _, _ => by simp
  | b :: l, hy, hn => by
    intro k hk
    rcases List.mem_cons.1 hk with e | hk
    · rw [e]; exact rNested_says b (fun c hc => hy c (by simp [flats, hc])) (hn b (by simp))
    · exact rNesteds_says l (fun c hc => hy c (by simp [flats, hc])) (fun k hk => hn k (by simp [hk])) k hk
end
theorem size_loop (b : Bx) (hb : I64 b.kids.length) (M : Int) (hM1 : M ≤ 1000000) (hk : ∀ k ∈ b.kids, ∀ m : Int, 1 ≤ m → m ≤ 1000000 → Says Try.prog hs 57 [.agg 11 k.c, .one (.int .i64 m)] [.one (.int .i64 (min (flat k).length m))]) : ∀ (rest pre : List Bx) (x : Int), b.kids = pre ++ rest → 1 ≤ x → x ≤ M →
    Ev fun m => (eng Try.prog hs m).loop (lp Try.f57 3) (S57_3 M x pre.length b.c) = some (.ret [.one (.int .i64 (min (x + (flats rest).length) M))] none) := by
  have el : ((b.kids.map Bx.c).length : Int) = b.kids.length := by simp
  intro rest
  induction rest with
  | nil =>
    intro pre x h h0 h1
    refine Ev.step fun m => ?_
    rw [L57_3_eq]; unfold L57_3
    simp only [Bx.c8, asL_l, Option.bind_some, el, at_nil h, cond_false]
    have : min (x + ((flats []).length : Int)) M = x := by simp [flats]; omega
    rw [this]
  | cons c rest ih =>
    intro pre x h h0 h1
    obtain ⟨g1, g2, g3, g4⟩ := at_cons Bx.c h hb
    have hpos : 1 ≤ (flat c).length := by rw [flat_eq]; simp
    by_cases hx : x < M
    · have i0 := ih (pre ++ [c]) (x + min ((flat c).length : Int) (M - x)) (by rw [h]; simp) (by omega) (by omega)
      refine ((hk c (by rw [h]; simp) (M - x) (by omega) (by omega)).and i0).next fun m hm => ?_
      have w1 : IntKind.i64.wrap (M - x) = M - x := wr_id ⟨by omega, by omega⟩
      have w2 : IntKind.i64.wrap (x + min ((flat c).length : Int) (M - x)) = x + min ((flat c).length : Int) (M - x) := wr_id ⟨by omega, by omega⟩
      rw [L57_3_eq]; unfold L57_3
      simp only [Bx.c8, asL_l, Option.bind_some, el, g1, g2, g3, g4, hx, decide_true, cond_true, Bool.true_and, Bx.len11, w1]
      rw [cb_int hm.1, w2, hm.2]
      have : min (x + min ((flat c).length : Int) (M - x) + ((flats rest).length : Int)) M = min (x + ((flats (c :: rest)).length : Int)) M := by simp [flats]; omega
      rw [this]
    · refine Ev.step fun m => ?_
      rw [L57_3_eq]; unfold L57_3
      simp only [Bx.c8, asL_l, Option.bind_some, el, g1, hx, decide_false, cond_true, cond_false]
      have : min (x + ((flats (c :: rest)).length : Int)) M = x := by omega
      rw [this]
theorem size_one (b : Bx) (hb : I64 b.kids.length) (M : Int) (hM0 : 1 ≤ M) (hM1 : M ≤ 1000000) (hk : ∀ k ∈ b.kids, ∀ m : Int, 1 ≤ m → m ≤ 1000000 → Says Try.prog hs 57 [.agg 11 k.c, .one (.int .i64 m)] [.one (.int .i64 (min (flat k).length m))]) :
    Says Try.prog hs 57 [.agg 11 b.c, .one (.int .i64 M)] [.one (.int .i64 (min (flat b).length M))] :=
  (size_loop b hb M hM1 hk b.kids [] 1 rfl (by omega) hM0).next fun m h => by
    rw [R57_eq]; unfold R57
    have : min ((flat b).length : Int) M = min (1 + ((flats b.kids).length : Int)) M := by rw [flat_eq]; simp; omega
    rw [this]; exact h
mutual
theorem size_says : (b : Bx) → (∀ c ∈ flat b, I64 c.kids.length) → ∀ M : Int, 1 ≤ M → M ≤ 1000000 → Says Try.prog hs 57 [.agg 11 b.c, .one (.int .i64 M)] [.one (.int .i64 (min (flat b).length M))]
  | ⟨k, nm, s, w, h, d, x, y, kids, o, src⟩, hy => fun M h0 h1 => by
    have hb := hy ⟨k, nm, s, w, h, d, x, y, kids, o, src⟩ (by simp [flat])
    exact size_one _ hb M h0 h1 (sizes_says kids fun c hc => hy c (by simp [flat, hc]))
theorem sizes_says : (l : List Bx) → (∀ c ∈ flats l, I64 c.kids.length) → ∀ k ∈ l, ∀ M : Int, 1 ≤ M → M ≤ 1000000 → Says Try.prog hs 57 [.agg 11 k.c, .one (.int .i64 M)] [.one (.int .i64 (min (flat k).length M))]
  | [], _ => by simp
  | b :: l, hy => by
    intro k hk
    rcases List.mem_cons.1 hk with e | hk
    · rw [e]; exact size_says b fun c hc => hy c (by simp [flats, hc])
    · exact sizes_says l (fun c hc => hy c (by simp [flats, hc])) k hk
end
theorem bFew_says (b : Bx) (hy : ∀ c ∈ flat b, I64 c.kids.length) (M : Nat) (h0 : 1 ≤ M) (h1 : M ≤ 10000) : Says Try.prog hs 32 [.agg 11 b.c, .one (.int .i64 M)] [.one (.bool (decide ((flat b).length ≤ M)))] :=
  (size_says b hy (M + 1) (by omega) (by omega)).next fun m h => by
    rw [R32_eq]; unfold R32
    have w : IntKind.i64.wrap ((M : Int) + 1) = (M : Int) + 1 := wr_id ⟨by omega, by omega⟩
    rw [w, cb_int h]
    by_cases q : (flat b).length ≤ M
    · have : min ((flat b).length : Int) ((M : Int) + 1) ≤ M := by omega
      simp only [q, this]
    · have : ¬ min ((flat b).length : Int) ((M : Int) + 1) ≤ M := by omega
      simp only [q, this]
end Go.Proofs.Ytbhojnofdeihdaa.E
