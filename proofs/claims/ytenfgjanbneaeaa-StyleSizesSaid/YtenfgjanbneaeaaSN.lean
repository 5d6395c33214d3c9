/- What is shown here: what style.Slot comes to. -/
import Derived.Test.YtenfgjanbneaeaaSM
namespace Go.Proofs.Ytenfgjanbneaeaa.E
open Go.RowKit Go.Proofs
set_option autoImplicit false
set_option linter.unusedVariables false
set_option linter.unusedSimpArgs false

/-- How a slot's level is found. -/
inductive Lv where
  | next | degree | same | deep | inner
def Lv.f : Lv → Nat
  | .next => 54
  | .degree => 55
  | .same => 56
  | .deep => 57
  | .inner => 58
def Lv.ap : Lv → Int → Int
  | .next, l => min (l + 1) 3
  | .degree, _ => 3
  | .same, l => l
  | .deep, l => if l ≤ 1 then 2 else 3
  | .inner, l => max l 1
def rulesM (k : Int) : List (Lv × Bool) :=
  if k = 5 then [(.next, false), (.next, true)] else if k = 6 then [(.degree, false), (.same, true)] else if k = 7 then [(.same, false), (.deep, true)] else if k = 8 then [(.same, false), (.deep, false)]
  else if k = 9 then [(.same, false), (.deep, true), (.deep, false)] else if k = 10 then [(.same, true)] else if k = 11 then [(.same, false)] else if k = 12 then [(.inner, false)] else []
def encR (x : Lv × Bool) : List C := [.fn x.1.f [], .bool x.2]
theorem lv_says (v : Lv) (l : Int) (h0 : 0 ≤ l) (h1 : l ≤ 3) : Says Try.prog hs v.f [.one (.int .i64 l)] [.one (.int .i64 (v.ap l))] := Ev.step fun m => by
  cases v with
  | next =>
    show (eng Try.prog hs (m + 1)).call 54 _ _ = _
    rw [R54_eq]; unfold R54
    rw [wr_id ⟨by omega, by omega⟩, minI_eq]; rfl
  | degree =>
    show (eng Try.prog hs (m + 1)).call 55 _ _ = _
    rw [R55_eq]; rfl
  | same =>
    show (eng Try.prog hs (m + 1)).call 56 _ _ = _
    rw [R56_eq]; rfl
  | deep =>
    show (eng Try.prog hs (m + 1)).call 57 _ _ = _
    rw [R57_eq]; unfold R57 Lv.ap
    by_cases a : l ≤ 1 <;> simp [a]
  | inner =>
    show (eng Try.prog hs (m + 1)).call 58 _ _ = _
    rw [R58_eq]; unfold R58
    rw [maxI_eq]; rfl
theorem rules_0 (n : Nat) : (eng Try.prog hs (n + 1)).call 44 [.one (.int .i64 0)] none = some (.ret [.one (.sl [])] none) := by kernel_rfl
theorem rules_1 (n : Nat) : (eng Try.prog hs (n + 1)).call 44 [.one (.int .i64 1)] none = some (.ret [.one (.sl [])] none) := by kernel_rfl
theorem rules_2 (n : Nat) : (eng Try.prog hs (n + 1)).call 44 [.one (.int .i64 2)] none = some (.ret [.one (.sl [])] none) := by kernel_rfl
theorem rules_3 (n : Nat) : (eng Try.prog hs (n + 1)).call 44 [.one (.int .i64 3)] none = some (.ret [.one (.sl [])] none) := by kernel_rfl
theorem rules_4 (n : Nat) : (eng Try.prog hs (n + 1)).call 44 [.one (.int .i64 4)] none = some (.ret [.one (.sl [])] none) := by kernel_rfl
theorem rules_5 (n : Nat) : (eng Try.prog hs (n + 1)).call 44 [.one (.int .i64 5)] none = some (.ret [.one (.sl [[.fn 54 [], .bool false], [.fn 54 [], .bool true]])] none) := by kernel_rfl
theorem rules_6 (n : Nat) : (eng Try.prog hs (n + 1)).call 44 [.one (.int .i64 6)] none = some (.ret [.one (.sl [[.fn 55 [], .bool false], [.fn 56 [], .bool true]])] none) := by kernel_rfl
theorem rules_7 (n : Nat) : (eng Try.prog hs (n + 1)).call 44 [.one (.int .i64 7)] none = some (.ret [.one (.sl [[.fn 56 [], .bool false], [.fn 57 [], .bool true]])] none) := by kernel_rfl
theorem rules_8 (n : Nat) : (eng Try.prog hs (n + 1)).call 44 [.one (.int .i64 8)] none = some (.ret [.one (.sl [[.fn 56 [], .bool false], [.fn 57 [], .bool false]])] none) := by kernel_rfl
theorem rules_9 (n : Nat) : (eng Try.prog hs (n + 1)).call 44 [.one (.int .i64 9)] none = some (.ret [.one (.sl [[.fn 56 [], .bool false], [.fn 57 [], .bool true], [.fn 57 [], .bool false]])] none) := by kernel_rfl
theorem rules_10 (n : Nat) : (eng Try.prog hs (n + 1)).call 44 [.one (.int .i64 10)] none = some (.ret [.one (.sl [[.fn 56 [], .bool true]])] none) := by kernel_rfl
theorem rules_11 (n : Nat) : (eng Try.prog hs (n + 1)).call 44 [.one (.int .i64 11)] none = some (.ret [.one (.sl [[.fn 56 [], .bool false]])] none) := by kernel_rfl
theorem rules_12 (n : Nat) : (eng Try.prog hs (n + 1)).call 44 [.one (.int .i64 12)] none = some (.ret [.one (.sl [[.fn 58 [], .bool false]])] none) := by kernel_rfl
theorem rules_says (k : Int) : Says Try.prog hs 44 [.one (.int .i64 k)] [.one (.sl ((rulesM k).map encR))] := Ev.step fun m => by
  by_cases h0 : k < 0
  · rw [R44_eq]; unfold R44
    have : rulesM k = [] := by unfold rulesM; repeat (rw [if_neg (by omega)])
    rw [this]; simp only [h0, decide_true, cond_true]; rfl
  · by_cases h1 : k ≥ 13
    · rw [R44_eq]; unfold R44
      have : rulesM k = [] := by unfold rulesM; repeat (rw [if_neg (by omega)])
      rw [this]; simp only [h0, h1, decide_true, decide_false, cond_true, cond_false]; rfl
    · have : k = 0 ∨ k = 1 ∨ k = 2 ∨ k = 3 ∨ k = 4 ∨ k = 5 ∨ k = 6 ∨ k = 7 ∨ k = 8 ∨ k = 9 ∨ k = 10 ∨ k = 11 ∨ k = 12 := by omega
      rcases this with rfl | rfl | rfl | rfl | rfl | rfl | rfl | rfl | rfl | rfl | rfl | rfl | rfl
      · exact rules_0 m
      · exact rules_1 m
      · exact rules_2 m
      · exact rules_3 m
      · exact rules_4 m
      · exact rules_5 m
      · exact rules_6 m
      · exact rules_7 m
      · exact rules_8 m
      · exact rules_9 m
      · exact rules_10 m
      · exact rules_11 m
      · exact rules_12 m
def slotMost (k : Int) : Int := if k = 12 then 256 else (rulesM k).length
def slotAt (k i : Int) : Lv × Bool := ((rulesM k)[(min i (((rulesM k).length : Int) - 1)).toNat]?).getD (.same, false)
def slotM (k i : Int) (s : Sty) : Sty × Int :=
  if s.okB = false ∨ rulesM k = [] then (Sty.zero, 1) else if i < 0 ∨ i ≥ slotMost k then (Sty.zero, 2) else (⟨(slotAt k i).1.ap s.lev, s.cr || (slotAt k i).2⟩, 0)
theorem rules_len (k : Int) : (rulesM k).length ≤ 3 := by
  unfold rulesM; repeat' split
  all_goals simp
theorem fn_args (n : Int) : (A.one (C.int .i64 n) :: [].append (List.map A.one ([] : List C))) = [A.one (.int .i64 n)] := rfl
theorem Slot_says (k i : Int) (s : Sty) : Says Try.prog hs 27 [.one (.int .i64 k), .one (.int .i64 i), .agg 2 s.c] [.agg 2 (slotM k i s).1.c, .one (.int .i64 (slotM k i s).2)] := by
  have hlen := rules_len k
  have e0 : s.c[0]? = some (C.int .i64 s.lev) := rfl
  have e1 : s.c[1]? = some (C.bool s.cr) := rfl
  have el : (((rulesM k).map encR).length : Int) = ((rulesM k).length : Int) := by simp
  cases h1 : s.okB with
  | false =>
    refine ((rules_says k).and (styValid_says s)).next fun m h => ?_
    rw [R27_eq]; unfold R27
    rw [cb_sl h.1, cb_bool h.2, h1]
    unfold slotM; rw [if_pos (.inl h1)]; rfl
  | true =>
    by_cases h2 : rulesM k = []
    · refine ((rules_says k).and (styValid_says s)).next fun m h => ?_
      rw [R27_eq]; unfold R27
      rw [cb_sl h.1, cb_bool h.2, h1]
      unfold slotM; rw [if_pos (.inr h2), h2]; rfl
    · have hpos : 0 < (rulesM k).length := List.length_pos_iff.2 h2
      have hn : ((((rulesM k).length : Int)) == 0) = false := by rw [beq_eq_false_iff_ne]; omega
      have hok := h1
      simp only [Sty.okB, Bool.and_eq_true, decide_eq_true_eq] at hok
      have hs : slotM k i s = if i < 0 ∨ i ≥ slotMost k then (Sty.zero, 2) else (⟨(slotAt k i).1.ap s.lev, s.cr || (slotAt k i).2⟩, 0) := by
        unfold slotM; rw [if_neg (by rw [h1]; simp [h2])]
      rw [hs]
      by_cases h3 : i < 0
      · refine ((rules_says k).and (styValid_says s)).next fun m h => ?_
        rw [R27_eq]; unfold R27
        rw [cb_sl h.1, cb_bool h.2, h1, if_pos (.inl h3)]
        simp only [Bool.not_true, cond_false, el, hn, h3, decide_true, cond_true]
        cases (k == 12) <;> rfl
      · have hw : IntKind.i64.wrap (((rulesM k).length : Int) - 1) = ((rulesM k).length : Int) - 1 := wr_id ⟨by omega, by omega⟩
        have hi0 : (0 : Int) ≤ min i (((rulesM k).length : Int) - 1) := by omega
        have hilt : (min i (((rulesM k).length : Int) - 1)).toNat < (rulesM k).length := by omega
        have hat : ((rulesM k).map encR)[(min i (((rulesM k).length : Int) - 1)).toNat]? = some (encR (slotAt k i)) := by
          unfold slotAt
          rw [List.getElem?_map, List.getElem?_eq_getElem hilt]; rfl
        have c0 : (encR (slotAt k i))[0]? = some (C.fn (slotAt k i).1.f []) := rfl
        have c1 : (encR (slotAt k i))[1]? = some (C.bool (slotAt k i).2) := rfl
        have c2 : (encR (slotAt k i)).length.beq 2 = true := rfl
        refine (((rules_says k).and (styValid_says s)).and (lv_says (slotAt k i).1 s.lev hok.1 hok.2)).next fun m h => ?_
        obtain ⟨⟨m1, m2⟩, m3⟩ := h
        rw [R27_eq]; unfold R27
        rw [cb_sl m1, cb_bool m2, h1]
        simp only [Bool.not_true, cond_false, el, hn, h3, decide_false, hw, minI_eq, hi0, decide_true, Bool.true_and, cond_true, hat, Option.bind_some, c0, c1, c2, e0, e1, asF_f, asI_i, asB_b, fn_args]
        rw [cb_int m3]
        unfold slotMost
        by_cases hk : k = 12
        · have : (k == 12) = true := by simpa using hk
          simp only [this, cond_true, if_pos hk]
          by_cases h4 : i ≥ 256
          · simp [h4, h3]; rfl
          · simp only [h4, decide_false, cond_false, h3, or_self, if_false]
            cases s.cr <;> rfl
        · have : (k == 12) = false := by simpa using hk
          simp only [this, cond_false, if_neg hk]
          by_cases h4 : i ≥ ((rulesM k).length : Int)
          · simp [h4, h3]; rfl
          · simp only [h4, decide_false, cond_false, h3, or_self, if_false]
            cases s.cr <;> rfl
end Go.Proofs.Ytenfgjanbneaeaa.E
