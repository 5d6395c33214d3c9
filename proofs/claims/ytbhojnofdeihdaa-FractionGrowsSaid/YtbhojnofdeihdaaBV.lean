/- What is shown here: what box.Valid comes to: it walks through all boxes of a box. -/
import Derived.Test.YtbhojnofdeihdaaBS
namespace Go.Proofs.Ytbhojnofdeihdaa.E
open Go.RowKit Go.Proofs
set_option autoImplicit false
set_option linter.unusedVariables false
set_option linter.unusedSimpArgs false

/-- A run through a list: the states, and whether it goes on. -/
def runL {σ : Type} (step : σ → Bx → σ × Bool) : σ → List Bx → σ × Bool
  | s, [] => (s, true)
  | s, b :: l => bif (step s b).2 then runL step (step s b).1 l else ((step s b).1, false)
theorem runL_cons {σ : Type} (step : σ → Bx → σ × Bool) (s : σ) (b : Bx) (l : List Bx) : runL step s (b :: l) = bif (step s b).2 then runL step (step s b).1 l else ((step s b).1, false) := rfl
theorem runL_append {σ : Type} (step : σ → Bx → σ × Bool) (l m : List Bx) : ∀ s, runL step s (l ++ m) = bif (runL step s l).2 then runL step (runL step s l).1 m else runL step s l := by
  induction l with
  | nil => intro s; rfl
  | cons b l ih =>
    intro s
    rw [List.cons_append, runL_cons, runL_cons]
    cases h : (step s b).2 with
    | true => simp only [cond_true]; exact ih _
    | false => rfl
theorem cS_bool {α : Type} {e : Eng} {f : Nat} {az : List A} {r r' : Rnd} {b : Bool} {K : Bool × Rnd → Option α} (h : e.call f az (some r) = some (.ret [.one (.bool b)] (some r'))) : (callS e f az r [.bool]).bind K = K (b, r') := by
  unfold callS; rw [h]; rfl
section
variable {σ : Type} (Y T : σ → Rnd) (step : σ → Bx → σ × Bool)
/-- What a round says, and what the frame is then. -/
def outR (x : σ × Bool) : Rnd := bif x.2 then Y x.1 else T x.1
def YieldB (Y T : σ → Rnd) (step : σ → Bx → σ × Bool) (b : Bx) : Prop := ∀ (s : σ) (x y : Int), Ev fun n => (eng Try.prog hs n).yield (Y s) [.one (.rp b.c 0), .agg 2 [.int .i64 x, .int .i64 y]] = some ((step s b).2, outR Y T (step s b))
def VisitOK (b : Bx) : Prop := ∀ (s : σ) (x y : Int), Ev fun n => (eng Try.prog hs n).call 71 [.one (.rp b.c 0), .one (.int .i64 x), .one (.int .i64 y), .yld] (some (Y s)) = some (.ret [.one (.bool (runL step s (flat b)).2)] (some (outR Y T (runL step s (flat b)))))
theorem visit_loop (b : Bx) (hb : I64 b.kids.length) : ∀ (rest pre : List Bx), b.kids = pre ++ rest → (∀ k ∈ rest, VisitOK Y T step k) → ∀ (s : σ) (x y : Int),
    Ev fun n => (eng Try.prog hs n).loop (lp Try.f71 4) (S71_4 (true, Y s) b.c x y b.kids.length pre.length) = some (.ret [.one (.bool (runL step s (flats rest)).2)] (some (outR Y T (runL step s (flats rest))))) := by
  intro rest
  induction rest with
  | nil =>
    intro pre h _ s x y
    refine Ev.step fun n => ?_
    rw [L71_4_eq]; unfold L71_4
    rw [at_nil h]; rfl
  | cons c rest ih =>
    intro pre h hk s x y
    obtain ⟨h1, h2, h3, h4⟩ := at_cons Bx.c h hb
    have hv := hk c (by simp) s (IntKind.i64.wrap (x + c.x)) (IntKind.i64.wrap (y + c.y))
    have i0 := ih (pre ++ [c]) (by rw [h]; simp) (fun k hk' => hk k (by simp [hk'])) (runL step s (flat c)).1 x y
    refine (hv.and i0).next fun n hn => ?_
    rw [L71_4_eq]; unfold L71_4
    simp only [h1, h2, h3, h4, Bx.c8, Bx.c6, Bx.c7, asL_l, asI_i, cond_true, Bool.true_and, Option.bind_some, Bx.len11]
    rw [cS_bool hn.1]
    simp only [flats]
    rw [runL_append]
    cases hr : (runL step s (flat c)).2 with
    | false => simp only [Bool.not_false, cond_true, cond_false, hr]
    | true =>
      have : outR Y T (runL step s (flat c)) = Y (runL step s (flat c)).1 := by unfold outR; rw [hr]; rfl
      rw [this]
      simp only [Bool.not_true, cond_false, cond_true, hn.2]
theorem visit_one (b : Bx) (hb : I64 b.kids.length) (hy : YieldB Y T step b) (hk : ∀ k ∈ b.kids, VisitOK Y T step k) : VisitOK Y T step b := by
  intro s x y
  refine ((hy s x y).and (visit_loop Y T step b hb b.kids [] rfl hk (step s b).1 x y)).next fun n hn => ?_
  rw [R71_eq]; unfold R71
  rw [hn.1, flat_eq, runL_cons]
  simp only [Option.bind_some]
  cases hr : (step s b).2 with
  | false =>
    have : outR Y T (step s b) = T (step s b).1 := by unfold outR; rw [hr]; rfl
    rw [this]; rfl
  | true =>
    have : outR Y T (step s b) = Y (step s b).1 := by unfold outR; rw [hr]; rfl
    have el : ((b.kids.map Bx.c).length : Int) = b.kids.length := by simp
    rw [this]
    simp only [Bool.not_true, cond_false, cond_true, Bx.c8, asL_l, Option.bind_some, el]
    exact hn.2
end
mutual
theorem visit_says {σ : Type} (Y T : σ → Rnd) (step : σ → Bx → σ × Bool) : (b : Bx) → (∀ c ∈ flat b, I64 c.kids.length ∧ YieldB Y T step c) → VisitOK Y T step b
  | ⟨k, nm, s, w, h, d, x, y, kids, o, src⟩, hy => by
    have h0 := hy ⟨k, nm, s, w, h, d, x, y, kids, o, src⟩ (by simp [flat])
    exact visit_one Y T step _ h0.1 h0.2 (visits_says Y T step kids fun c hc => hy c (by simp [flat, hc]))
theorem visits_says {σ : Type} (Y T : σ → Rnd) (step : σ → Bx → σ × Bool) : (l : List Bx) → (∀ c ∈ flats l, I64 c.kids.length ∧ YieldB Y T step c) → ∀ k ∈ l, VisitOK Y T step k
  | [], _ => by simp
  | b :: l, hy => by
    intro k hk
    rcases List.mem_cons.1 hk with e | hk
    · rw [e]; exact visit_says Y T step b fun c hc => hy c (by simp [flats, hc])
    · exact visits_says Y T step l (fun c hc => hy c (by simp [flats, hc])) k hk
end

/-! ### how deep a box is -/
theorem nested_loop (b : Bx) (hb : I64 b.kids.length) (most : Int) (hm0 : 0 ≤ most) (hm1 : most ≤ 1000) (hk : 0 < most → ∀ k ∈ b.kids, Says Try.prog hs 51 [.one (.rp k.c 0), .one (.int .i64 (most - 1))] [.one (.int .i64 (min (dep k) most))]) : ∀ (rest pre : List Bx) (x : Int), b.kids = pre ++ rest → 0 ≤ x → x ≤ most →
    Ev fun n => (eng Try.prog hs n).loop (lp Try.f51 3) (S51_3 b.c most x b.kids.length pre.length) = some (.ret [.one (.int .i64 (min (max x (deps rest)) most + 1))] none) := by
  intro rest
  induction rest with
  | nil =>
    intro pre x h h0 h1
    refine Ev.step fun n => ?_
    rw [L51_3_eq]; unfold L51_3
    rw [at_nil h]
    have : min (max x ((deps [] : Nat) : Int)) most = x := by simp only [deps]; omega
    have w : IntKind.i64.wrap (x + 1) = x + 1 := wr_id ⟨by omega, by omega⟩
    rw [this, w]; rfl
  | cons c rest ih =>
    intro pre x h h0 h1
    obtain ⟨g1, g2, g3, g4⟩ := at_cons Bx.c h hb
    by_cases hp : 0 < most
    · have hx := hk hp c (by rw [h]; simp)
      have i0 := ih (pre ++ [c]) (max x (min (dep c) most)) (by rw [h]; simp) (by omega) (by omega)
      refine (hx.and i0).next fun n hn => ?_
      rw [L51_3_eq]; unfold L51_3
      have e1 : most > 0 := hp
      have w1 : IntKind.i64.wrap (most - 1) = most - 1 := wr_id ⟨by omega, by omega⟩
      simp only [g1, g2, g3, g4, e1, decide_true, Bx.c8, asL_l, cond_true, Bool.true_and, Option.bind_some, Bx.len11, w1]
      rw [cb_int hn.1, maxI_eq, hn.2]
      have : min (max (max x (min ((dep c : Nat) : Int) most)) ((deps rest : Nat) : Int)) most = min (max x ((deps (c :: rest) : Nat) : Int)) most := by simp only [deps]; omega
      rw [this]
    · have i0 := ih (pre ++ [c]) x (by rw [h]; simp) h0 h1
      refine i0.next fun n hn => ?_
      rw [L51_3_eq]; unfold L51_3
      have e1 : ¬ most > 0 := hp
      simp only [g1, g4, e1, decide_false, cond_true, cond_false, hn]
      have : min (max x ((deps rest : Nat) : Int)) most = min (max x ((deps (c :: rest) : Nat) : Int)) most := by omega
      rw [this]
theorem nested_one (b : Bx) (hb : I64 b.kids.length) (most : Int) (hm0 : 0 ≤ most) (hm1 : most ≤ 1000) (hk : 0 < most → ∀ k ∈ b.kids, Says Try.prog hs 51 [.one (.rp k.c 0), .one (.int .i64 (most - 1))] [.one (.int .i64 (min (dep k) most))]) :
    Says Try.prog hs 51 [.one (.rp b.c 0), .one (.int .i64 most)] [.one (.int .i64 (min (dep b) (most + 1)))] := by
  refine (nested_loop b hb most hm0 hm1 hk b.kids [] 0 rfl (by omega) hm0).next fun n hn => ?_
  rw [R51_eq]; unfold R51
  have el : ((b.kids.map Bx.c).length : Int) = b.kids.length := by simp
  simp only [Bx.c8, asL_l, Option.bind_some, el]
  have : min (max 0 ((deps b.kids : Nat) : Int)) most + 1 = min ((dep b : Nat) : Int) (most + 1) := by rw [dep_eq]; push_cast; omega
  rw [← this]; exact hn
mutual
theorem nested_says : (b : Bx) → (∀ c ∈ flat b, I64 c.kids.length) → ∀ most : Int, 0 ≤ most → most ≤ 1000 → Says Try.prog hs 51 [.one (.rp b.c 0), .one (.int .i64 most)] [.one (.int .i64 (min (dep b) (most + 1)))]
  | ⟨k, nm, s, w, h, d, x, y, kids, o, src⟩, hy => fun most h0 h1 => by
    have hb := hy ⟨k, nm, s, w, h, d, x, y, kids, o, src⟩ (by simp [flat])
    refine nested_one _ hb most h0 h1 fun hp c hc => ?_
    have := nesteds_says kids (fun c hc => hy c (by simp [flat, hc])) c hc (most - 1) (by omega) (by omega)
    rwa [show most - 1 + 1 = most by omega] at this
theorem nesteds_says : (l : List Bx) → (∀ c ∈ flats l, I64 c.kids.length) → ∀ k ∈ l, ∀ most : Int, 0 ≤ most → most ≤ 1000 → Says Try.prog hs 51 [.one (.rp k.c 0), .one (.int .i64 most)] [.one (.int .i64 (min (dep k) (most + 1)))]
  | [], _ => by simp
  | b :: l, hy => by
    intro k hk
    rcases List.mem_cons.1 hk with e | hk
    · rw [e]; exact nested_says b fun c hc => hy c (by simp [flats, hc])
    · exact nesteds_says l (fun c hc => hy c (by simp [flats, hc])) k hk
end

/-! ### box.Valid -/
def stepV (n : Int) (b : Bx) : Int × Bool := (IntKind.i64.wrap (n + 1), decide (IntKind.i64.wrap (n + 1) ≤ 20000) && prpB b)
theorem runV (l : List Bx) : ∀ n : Int, 0 ≤ n → n ≤ 20000 → (runL stepV n l).2 = (decide (n + l.length ≤ 20000) && l.all prpB) ∧ ((runL stepV n l).2 = true → (runL stepV n l).1 = n + l.length) := by
  induction l with
  | nil => intro n h0 h1; simp [runL, h1]
  | cons b l ih =>
    intro n h0 h1
    rw [runL_cons]
    have w1 : IntKind.i64.wrap (n + 1) = n + 1 := wr_id ⟨by omega, by omega⟩
    simp only [stepV, w1]
    by_cases h : n + 1 ≤ 20000
    · cases hp : prpB b with
      | true =>
        obtain ⟨i1, i2⟩ := ih (n + 1) (by omega) h
        simp only [h, decide_true, Bool.and_self, cond_true, List.all_cons, hp, Bool.true_and]
        rw [i1]
        have e : n + 1 + (l.length : Int) = n + ((b :: l).length : Int) := by simp; omega
        refine ⟨by rw [e], fun q => ?_⟩
        rw [i2 (by rw [i1]; exact q), e]
      | false => simp [hp]
    · have : ¬ n + ((b :: l).length : Int) ≤ 20000 := by simp; omega
      simp only [h, decide_false, Bool.false_and, cond_false, Bool.false_eq_true, this, false_implies, and_self]
def boxArgs (b : Bx) : List C := [.rp [.rp b.c 0] 0, .rp [.int .i64 0] 0, .rp [.int .i64 0] 0]
noncomputable def YV (b : Bx) (n : Int) : Rnd := Y22_0 (70, boxArgs b) b.c (boxArgs b) b.c false n
noncomputable def TV (b : Bx) (n : Int) : Rnd := { Y22_0 (70, boxArgs b) b.c (boxArgs b) b.c false n with pend := some Go.Code.ret }
theorem yieldV (b c : Bx) (hn : I64 c.name.size) (hb : I64 c.src.length) : YieldB (YV b) (TV b) stepV c := by
  intro n x y
  refine (proper_says c hn hb).next fun m h => ?_
  unfold YV
  rw [V22_0_eq]; unfold V22_0
  by_cases a1 : IntKind.i64.wrap (n + 1) ≤ 20000
  · have a2 : ¬ IntKind.i64.wrap (n + 1) > 20000 := by omega
    simp only [a2, decide_false, cond_false]
    rw [cb_bool h]
    simp only [stepV, a1, decide_true, Bool.true_and]
    cases prpB c with
    | true => rfl
    | false => rfl
  · have a2 : IntKind.i64.wrap (n + 1) > 20000 := by omega
    simp only [a2, decide_true, cond_true, stepV, a1, decide_false, Bool.false_and]
    rfl
mutual
theorem ok_flat : (b : Bx) → b.ok → ∀ c ∈ flat b, c.ok1
  | ⟨k, nm, s, w, h, d, x, y, kids, o, src⟩, hk => by
    intro c hc
    rw [flat_eq, List.mem_cons] at hc
    rcases hc with e | hc
    · rw [e]; exact hk.1
    · exact oks_flats kids hk.2 c hc
theorem oks_flats : (l : List Bx) → Bx.oks l → ∀ c ∈ flats l, c.ok1
  | [], _ => by simp [flats]
  | b :: l, hk => by
    intro c hc
    simp only [flats, List.mem_append] at hc
    rcases hc with hc | hc
    · exact ok_flat b hk.1 c hc
    · exact oks_flats l hk.2 c hc
end
theorem boxValid_says (b : Bx) (hk : ∀ c ∈ flat b, c.ok1) : Says Try.prog hs 22 [.agg 11 b.c] [.one (.bool b.valid)] := by
  have hkids : ∀ c ∈ flat b, I64 c.kids.length := fun c hc => (hk c hc).2.2.2.2.2.2.2.2.2.2.2
  have hv : VisitOK (YV b) (TV b) stepV b := visit_says (YV b) (TV b) stepV b fun c hc => ⟨hkids c hc, yieldV b c (hk c hc).2.1 (hk c hc).2.2.2.2.2.2.2.2.2.2.1⟩
  have hd := nested_says b hkids 100 (by omega) (by omega)
  have hr := runV (flat b) 0 (by omega) (by omega)
  have l1 : Ev fun m => (eng Try.prog hs m).call 70 [.yld, .one (.rp [.rp b.c 0] 0), .one (.rp [.int .i64 0] 0), .one (.rp [.int .i64 0] 0)] (some (YV b 0)) = some (.ret [] (some (outR (YV b) (TV b) (runL stepV 0 (flat b))))) :=
    (hv 0 0 0).next fun m h => by
      rw [R70_eq]; unfold R70
      simp only [List.getElem?_cons_zero, asP_p, asI_i, Option.bind_some]
      rw [cS_bool h]
  have l0 : Ev fun m => (eng Try.prog hs m).call 49 [.one (.rp b.c 0), .one (.int .i64 0), .one (.int .i64 0)] none = some (.ret [.one (.fn 70 (boxArgs b))] none) := Ev.step fun m => by
    rw [R49_eq]; rfl
  refine ((l0.and l1).and hd).next fun m h => ?_
  obtain ⟨⟨h0, h1⟩, h2⟩ := h
  rw [R22_eq]; unfold R22
  have hc : (callD (eng Try.prog hs m) 49 [.one (.rp b.c 0), .one (.int .i64 0), .one (.int .i64 0)] [.fn] : Option (Nat × List C)) = some (70, boxArgs b) := by
    unfold callD; rw [h0]; rfl
  rw [hc]
  show rfGo _ _ _ _ _ _ ((eng Try.prog hs m).call 70 [.yld, .one (.rp [.rp b.c 0] 0), .one (.rp [.int .i64 0] 0), .one (.rp [.int .i64 0] 0)] (some (YV b 0))) = _
  rw [h1]
  have hval : b.valid = ((decide ((flat b).length ≤ 20000) && (flat b).all prpB) && decide (dep b ≤ 100)) := rfl
  have hlen : decide ((0 : Int) + ((flat b).length : Int) ≤ 20000) = decide ((flat b).length ≤ 20000) := by
    by_cases q : (flat b).length ≤ 20000
    · have : (0 : Int) + ((flat b).length : Int) ≤ 20000 := by omega
      simp only [q, this]
    · have : ¬ (0 : Int) + ((flat b).length : Int) ≤ 20000 := by omega
      simp only [q, this]
  rw [hlen] at hr
  rw [hval, ← hr.1]
  unfold outR
  cases hq : (runL stepV 0 (flat b)).2 with
  | false =>
    simp only [cond_false, Bool.false_and]
    unfold TV
    rw [W22_0_eq]; rfl
  | true =>
    simp only [cond_true, Bool.true_and]
    unfold YV
    rw [Z22_0_eq]; unfold Z22_0
    rw [cb_int h2]
    by_cases q : dep b ≤ 100
    · have : min ((dep b : Nat) : Int) (100 + 1) ≤ 100 := by omega
      simp only [q, this]
    · have : ¬ min ((dep b : Nat) : Int) (100 + 1) ≤ 100 := by omega
      simp only [q, this]
end Go.Proofs.Ytbhojnofdeihdaa.E
