/- Functions that compute what the Go functions compute, proofs that the machine's calls do so, or the row of a law over them. No further condition. Written by xp.py, a program of this session, over the kit's print. -/
import Derived.Test.YtijioimbgmcpaaaQx0
import Derived.Test.YtijioimbgmcpaaaQx1
namespace Go.Proofs.Ytijioimbgmcpaaa.Q
open Go.RowKit Go.Proofs.YtijioimbgmcpaaaW.PrintWords Go.Proofs.YtijioimbgmcpaaaW.PrintLast Go.Proofs.YtijioimbgmcpaaaW.PrintMore
attribute [local go_sem] max2_int min2_int max_two min_two max_three min_three max_four min_four   -- for this text's walks alone
set_option linter.unusedVariables false
set_option linter.unusedSimpArgs false

attribute [local go_sem high] eqA23
/-! ### style_Valid: function 12 -/
def style_Valid.f (a0_0 : Int) (a0_1 : Bool) : Option (Bool) := if a0_0 ≥ 0 then (some (decide (a0_0 ≤ 3))) else (some false)
set_option maxHeartbeats 8000000 in
set_option maxRecDepth 100000 in
theorem style_Valid.calls (a0_0 : Int) (a0_1 : Bool) (r : Bool) (w : World) (h : style_Valid.f a0_0 a0_1 = some r) :
    Calls Try.prog 12 #[.agg #[.int .i64 a0_0, .bool a0_1]] w fun e w' => e = .returned (.bool r) ∧ Below w.heap.size w w' := by
  have hu23 := Try.underlying23
  have HB := Aside0.mk (Below.refl w.heap.size w)
  have H : (if a0_0 ≥ 0 then (some (decide (a0_0 ≤ 3))) else (some false)) = some r := h
  clear h
  by_cases c2 : a0_0 ≥ 0
  · rw [if_pos c2] at H
    have c2b0 : decide (0 ≤ a0_0) = true := decide_eq_true c2
    clear c2
    obtain rfl := Option.some.inj H
    go_enter Try.func12, Try.ntmps12
    go_wp2_with (first | ((with_reducible refine gate_dst (N := 1) rfl ?_); refine box_event ?hg (N := 1) ?hd (cs := #[.int .i64 a0_0, .bool a0_1]) (t := 23) ?hr ?_; (case hd => rfl); (case hg => rfl); (case hr => first | (go_simp; done) | (go_simp; rfl)); intro gb101 hg w3 hbox hb; have n0_ := Aside0.mk (below_step (by repeat (first | (with_reducible first | exact HB.out | apply below_alloc | apply pw_below_drewN | apply below_drew1) | exact HB.out)) hb); have n1_ := Aside0.mk (hbox); have n2_ := Aside0.mk ((by rw [hg]; exact (below_size (by repeat (first | (with_reducible first | exact HB.out | apply below_alloc | apply pw_below_drewN | apply below_drew1) | exact HB.out))) : w.heap.size ≤ gb101)); have n3_ := Aside0.mk ((by rw [hg]; exact (below_size (by repeat (first | (with_reducible first | exact HB.out | apply below_alloc | apply pw_below_drewN | apply below_drew1) | exact HB.out))) : w.heap.size ≤ gb101)); clear HB; have HB := n0_; have BK101 := n1_; have GW101 := n2_; have GE101 := n3_; clear n0_ n1_ n2_ n3_; clear hb hbox hg; have hcz4_0 : w3.cell? ⟨gb101, 0, none⟩ = some (.int .i64 a0_0) := (blk_cell BK101.out 0).trans rfl; have hcz4_1 : w3.cell? ⟨gb101, 1, none⟩ = some (.bool a0_1) := (blk_cell BK101.out 1).trans rfl; have hfz4_0 := blk_frozen BK101.out 0; have hfz4_1 := blk_frozen BK101.out 1))
    go_ret
    exact ⟨by first | rfl | (simp [errW_none, errW_some] <;> rfl) | (simp [*, errW_none, errW_some] <;> rfl), by repeat (first | (with_reducible first | exact HB.out | apply below_alloc | apply pw_below_drewN | apply below_drew1 | refine below_set ?_ GE101.out) | exact HB.out)⟩
  · rw [if_neg c2] at H
    have c2b0 : decide (0 ≤ a0_0) = false := decide_eq_false c2
    clear c2
    obtain rfl := Option.some.inj H
    go_enter Try.func12, Try.ntmps12
    go_wp2_with (first | ((with_reducible refine gate_dst (N := 1) rfl ?_); refine box_event ?hg (N := 1) ?hd (cs := #[.int .i64 a0_0, .bool a0_1]) (t := 23) ?hr ?_; (case hd => rfl); (case hg => rfl); (case hr => first | (go_simp; done) | (go_simp; rfl)); intro gb101 hg w5 hbox hb; have n0_ := Aside0.mk (below_step (by repeat (first | (with_reducible first | exact HB.out | apply below_alloc | apply pw_below_drewN | apply below_drew1) | exact HB.out)) hb); have n1_ := Aside0.mk (hbox); have n2_ := Aside0.mk ((by rw [hg]; exact (below_size (by repeat (first | (with_reducible first | exact HB.out | apply below_alloc | apply pw_below_drewN | apply below_drew1) | exact HB.out))) : w.heap.size ≤ gb101)); have n3_ := Aside0.mk ((by rw [hg]; exact (below_size (by repeat (first | (with_reducible first | exact HB.out | apply below_alloc | apply pw_below_drewN | apply below_drew1) | exact HB.out))) : w.heap.size ≤ gb101)); clear HB; have HB := n0_; have BK101 := n1_; have GW101 := n2_; have GE101 := n3_; clear n0_ n1_ n2_ n3_; clear hb hbox hg; have hcz6_0 : w5.cell? ⟨gb101, 0, none⟩ = some (.int .i64 a0_0) := (blk_cell BK101.out 0).trans rfl; have hcz6_1 : w5.cell? ⟨gb101, 1, none⟩ = some (.bool a0_1) := (blk_cell BK101.out 1).trans rfl; have hfz6_0 := blk_frozen BK101.out 0; have hfz6_1 := blk_frozen BK101.out 1))
    go_ret
    exact ⟨by first | rfl | (simp [errW_none, errW_some] <;> rfl) | (simp [*, errW_none, errW_some] <;> rfl), by repeat (first | (with_reducible first | exact HB.out | apply below_alloc | apply pw_below_drewN | apply below_drew1 | refine below_set ?_ GE101.out) | exact HB.out)⟩

/-! ### style_next: function 27 -/
def style_next.f (a0 : Int) : Option (Int) := some (mn (wrap64 (a0 + 1)) 3)
set_option maxHeartbeats 8000000 in
set_option maxRecDepth 100000 in
theorem style_next.calls (a0 : Int) (r : Int) (w : World) (h : style_next.f a0 = some r) :
    Calls Try.prog 27 #[.int .i64 a0] w fun e w' => e = .returned (.int .i64 r) ∧ Below w.heap.size w w' := by
  have HB := Aside0.mk (Below.refl w.heap.size w)
  have H : (some (mn (wrap64 (a0 + 1)) 3)) = some r := h
  clear h
  obtain ⟨ji2, hji2⟩ : ∃ j_ : Int, (mn (wrap64 (a0 + 1)) 3) = j_ := ⟨_, rfl⟩
  replace H : (some ji2) = some r := by first | (rw [hji2] at H; exact H) | (simp only [hji2] at H ⊢; exact H)
  (try (have hji2h : ji2 ≤ 3 := by (rw [← hji2]; unfold mn; (repeat' split) <;> omega)))
  (try (have hji2g : ji2 ≤ 64 := by omega))
  have hji2_ : (if 3 < (wrap64 (a0 + 1)) then 3 else (wrap64 (a0 + 1))) = ji2 := hji2
  obtain rfl := Option.some.inj H
  go_enter Try.func27, Try.ntmps27
  go_wp2
  go_ret
  exact ⟨by first | rfl | (simp [errW_none, errW_some] <;> rfl) | (simp only [← hji2]; first | rfl | (simp [errW_none, errW_some] <;> rfl)) | (simp [*, errW_none, errW_some] <;> rfl), by repeat (first | (with_reducible first | exact HB.out | apply below_alloc | apply pw_below_drewN | apply below_drew1) | exact HB.out)⟩

/-! ### style_degree: function 28 -/
def style_degree.f (a0 : Int) : Option (Int) := some 3
set_option maxHeartbeats 8000000 in
set_option maxRecDepth 100000 in
theorem style_degree.calls (a0 : Int) (r : Int) (w : World) (h : style_degree.f a0 = some r) :
    Calls Try.prog 28 #[.int .i64 a0] w fun e w' => e = .returned (.int .i64 r) ∧ Drawn0 w w' := by
  have H : (some 3) = some r := h
  clear h
  obtain rfl := Option.some.inj H
  go_enter Try.func28, Try.ntmps28
  go_wp2
  go_ret
  exact ⟨by first | rfl | (simp; done) | (simp [*]; done), by repeat (first | exact Drawn0.refl _ | apply Drawn0.step)⟩

/-! ### style_same: function 29 -/
def style_same.f (a0 : Int) : Option (Int) := some a0
set_option maxHeartbeats 8000000 in
set_option maxRecDepth 100000 in
theorem style_same.calls (a0 : Int) (r : Int) (w : World) (h : style_same.f a0 = some r) :
    Calls Try.prog 29 #[.int .i64 a0] w fun e w' => e = .returned (.int .i64 r) ∧ Drawn0 w w' := by
  have H : (some a0) = some r := h
  clear h
  obtain rfl := Option.some.inj H
  go_enter Try.func29, Try.ntmps29
  go_wp2
  go_ret
  exact ⟨by first | rfl | (simp; done) | (simp [*]; done), by repeat (first | exact Drawn0.refl _ | apply Drawn0.step)⟩

/-! ### style_deep: function 30 -/
def style_deep.f (a0 : Int) : Option (Int) := if a0 ≤ 1 then (some 2) else (some 3)
set_option maxHeartbeats 8000000 in
set_option maxRecDepth 100000 in
theorem style_deep.calls (a0 : Int) (r : Int) (w : World) (h : style_deep.f a0 = some r) :
    Calls Try.prog 30 #[.int .i64 a0] w fun e w' => e = .returned (.int .i64 r) ∧ Drawn0 w w' := by
  have H : (if a0 ≤ 1 then (some 2) else (some 3)) = some r := h
  clear h
  by_cases c2 : a0 ≤ 1
  · rw [if_pos c2] at H
    have c2b0 : decide (a0 ≤ 1) = true := decide_eq_true c2
    clear c2
    obtain rfl := Option.some.inj H
    go_enter Try.func30, Try.ntmps30
    go_wp2
    go_ret
    exact ⟨by first | rfl | (simp; done) | (simp [*]; done), by repeat (first | exact Drawn0.refl _ | apply Drawn0.step)⟩
  · rw [if_neg c2] at H
    have c2b0 : decide (a0 ≤ 1) = false := decide_eq_false c2
    clear c2
    obtain rfl := Option.some.inj H
    go_enter Try.func30, Try.ntmps30
    go_wp2
    go_ret
    exact ⟨by first | rfl | (simp; done) | (simp [*]; done), by repeat (first | exact Drawn0.refl _ | apply Drawn0.step)⟩

/-! ### style_inner: function 31 -/
def style_inner.f (a0 : Int) : Option (Int) := some (mx a0 1)
set_option maxHeartbeats 8000000 in
set_option maxRecDepth 100000 in
theorem style_inner.calls (a0 : Int) (r : Int) (w : World) (h : style_inner.f a0 = some r) :
    Calls Try.prog 31 #[.int .i64 a0] w fun e w' => e = .returned (.int .i64 r) ∧ Below w.heap.size w w' := by
  have HB := Aside0.mk (Below.refl w.heap.size w)
  have H : (some (mx a0 1)) = some r := h
  clear h
  obtain ⟨ji2, hji2⟩ : ∃ j_ : Int, (mx a0 1) = j_ := ⟨_, rfl⟩
  replace H : (some ji2) = some r := by first | (rw [hji2] at H; exact H) | (simp only [hji2] at H ⊢; exact H)
  (try (have hji2l : 1 ≤ ji2 := by (rw [← hji2]; unfold mx; (repeat' split) <;> omega)))
  (try (have hji2m : 0 ≤ ji2 := by omega))
  have hji2_ : (if a0 < 1 then 1 else a0) = ji2 := hji2
  obtain rfl := Option.some.inj H
  go_enter Try.func31, Try.ntmps31
  go_wp2
  go_ret
  exact ⟨by first | rfl | (simp [errW_none, errW_some] <;> rfl) | (simp only [← hji2]; first | rfl | (simp [errW_none, errW_some] <;> rfl)) | (simp [*, errW_none, errW_some] <;> rfl), by repeat (first | (with_reducible first | exact HB.out | apply below_alloc | apply pw_below_drewN | apply below_drew1) | exact HB.out)⟩

/-! ### style_rules: function 21 -/
def lvZ (c : Nat) (l : Int) : Int := if c = 0 then (if l + 1 ≤ 3 then l + 1 else 3) else if c = 1 then 3 else if c = 2 then l else if c = 3 then (if l ≤ 1 then 2 else 3) else (if l ≤ 1 then 1 else l)
def rfun (c : Nat) : Nat := if c = 0 then 27 else if c = 1 then 28 else if c = 2 then 29 else if c = 3 then 30 else 31
def rulesOf (kind : Int) : List (Nat × Bool) := if kind = 5 then [(0, false), (0, true)] else if kind = 6 then [(1, false), (2, true)] else if kind = 7 then [(2, false), (3, true)] else if kind = 8 then [(2, false), (3, false)] else if kind = 9 then [(2, false), (3, true), (3, false)] else if kind = 10 then [(2, true)] else if kind = 11 then [(2, false)] else if kind = 12 then [(4, false)] else []
def ruleCells (l : List (Nat × Bool)) : List Value := l.flatMap fun x => [.func (.func (rfun x.1)) #[] #[], .bool x.2]
def RulesPost (kind : Int) (w : World) (e : Ending) (w' : World) : Prop := Below w.heap.size w w' ∧ ((rulesOf kind = [] ∧ e = .returned (.slice none 0 0)) ∨ (rulesOf kind ≠ [] ∧ ∃ g, e = .returned (.slice (some ⟨g, 0, none⟩) (rulesOf kind).length (rulesOf kind).length) ∧ w'.heap[g]? = some (.cells (ruleCells (rulesOf kind)).toArray 50 (0, 0))))
theorem style_rules.at {W : World} {g : Nat} (h0 : W.heap[g]? = some (.cells #[.func (.func 27) #[] #[], .bool false, .func (.func 27) #[] #[], .bool true] 50 (0, 0))) (h1 : W.heap[g + 1]? = some (.cells #[.func (.func 28) #[] #[], .bool false, .func (.func 29) #[] #[], .bool true] 50 (0, 0))) (h2 : W.heap[g + 2]? = some (.cells #[.func (.func 29) #[] #[], .bool false, .func (.func 30) #[] #[], .bool true] 50 (0, 0))) (h3 : W.heap[g + 3]? = some (.cells #[.func (.func 29) #[] #[], .bool false, .func (.func 30) #[] #[], .bool false] 50 (0, 0))) (h4 : W.heap[g + 4]? = some (.cells #[.func (.func 29) #[] #[], .bool false, .func (.func 30) #[] #[], .bool true, .func (.func 30) #[] #[], .bool false] 50 (0, 0))) (h5 : W.heap[g + 5]? = some (.cells #[.func (.func 29) #[] #[], .bool true] 50 (0, 0))) (h6 : W.heap[g + 6]? = some (.cells #[.func (.func 29) #[] #[], .bool false] 50 (0, 0))) (h7 : W.heap[g + 7]? = some (.cells #[.func (.func 31) #[] #[], .bool false] 50 (0, 0))) (h8 : W.heap[g + 8]? = some (.cells #[.slice none 0 0, .slice none 0 0, .slice none 0 0, .slice none 0 0, .slice none 0 0, .slice (some ⟨g, 0, none⟩) 2 2, .slice (some ⟨g + 1, 0, none⟩) 2 2, .slice (some ⟨g + 2, 0, none⟩) 2 2, .slice (some ⟨g + 3, 0, none⟩) 2 2, .slice (some ⟨g + 4, 0, none⟩) 3 3, .slice (some ⟨g + 5, 0, none⟩) 1 1, .slice (some ⟨g + 6, 0, none⟩) 1 1, .slice (some ⟨g + 7, 0, none⟩) 1 1] 56 (0, 0))) (kind : Int) (hk0 : 0 ≤ kind) (hk1 : kind < 13) :
    ∃ v, W.cell? ⟨g + 8, kind.toNat, none⟩ = some v ∧ ((rulesOf kind = [] ∧ v = .slice none 0 0) ∨ (rulesOf kind ≠ [] ∧ ∃ g', v = .slice (some ⟨g', 0, none⟩) (rulesOf kind).length (rulesOf kind).length ∧ W.heap[g']? = some (.cells (ruleCells (rulesOf kind)).toArray 50 (0, 0)))) := by
  have hk : kind = 0 ∨ kind = 1 ∨ kind = 2 ∨ kind = 3 ∨ kind = 4 ∨ kind = 5 ∨ kind = 6 ∨ kind = 7 ∨ kind = 8 ∨ kind = 9 ∨ kind = 10 ∨ kind = 11 ∨ kind = 12 := by omega
  rcases hk with rfl | rfl | rfl | rfl | rfl | rfl | rfl | rfl | rfl | rfl | rfl | rfl | rfl
  · exact ⟨_, Joins.cell_of_block h8 0, .inl ⟨rfl, rfl⟩⟩
  · exact ⟨_, Joins.cell_of_block h8 1, .inl ⟨rfl, rfl⟩⟩
  · exact ⟨_, Joins.cell_of_block h8 2, .inl ⟨rfl, rfl⟩⟩
  · exact ⟨_, Joins.cell_of_block h8 3, .inl ⟨rfl, rfl⟩⟩
  · exact ⟨_, Joins.cell_of_block h8 4, .inl ⟨rfl, rfl⟩⟩
  · exact ⟨_, Joins.cell_of_block h8 5, .inr ⟨by decide, _, rfl, h0⟩⟩
  · exact ⟨_, Joins.cell_of_block h8 6, .inr ⟨by decide, _, rfl, h1⟩⟩
  · exact ⟨_, Joins.cell_of_block h8 7, .inr ⟨by decide, _, rfl, h2⟩⟩
  · exact ⟨_, Joins.cell_of_block h8 8, .inr ⟨by decide, _, rfl, h3⟩⟩
  · exact ⟨_, Joins.cell_of_block h8 9, .inr ⟨by decide, _, rfl, h4⟩⟩
  · exact ⟨_, Joins.cell_of_block h8 10, .inr ⟨by decide, _, rfl, h5⟩⟩
  · exact ⟨_, Joins.cell_of_block h8 11, .inr ⟨by decide, _, rfl, h6⟩⟩
  · exact ⟨_, Joins.cell_of_block h8 12, .inr ⟨by decide, _, rfl, h7⟩⟩
set_option maxHeartbeats 8000000 in
set_option maxRecDepth 100000 in
theorem style_rules.calls (kind : Int) (w : World) : Calls Try.prog 21 #[.int .i64 kind] w (RulesPost kind w) := by
  go_enter Try.func21, Try.ntmps21
  go_upto_region 2 with (fail)
  generalize hW : World.alloc _ _ = W
  have q : Aside0 (Below w.heap.size w W ∧ W.heap[w.heap.size]? = some (.cells #[.func (.func 27) #[] #[], .bool false, .func (.func 27) #[] #[], .bool true] 50 (0, 0)) ∧ W.heap[w.heap.size + 1]? = some (.cells #[.func (.func 28) #[] #[], .bool false, .func (.func 29) #[] #[], .bool true] 50 (0, 0)) ∧ W.heap[w.heap.size + 2]? = some (.cells #[.func (.func 29) #[] #[], .bool false, .func (.func 30) #[] #[], .bool true] 50 (0, 0)) ∧ W.heap[w.heap.size + 3]? = some (.cells #[.func (.func 29) #[] #[], .bool false, .func (.func 30) #[] #[], .bool false] 50 (0, 0)) ∧ W.heap[w.heap.size + 4]? = some (.cells #[.func (.func 29) #[] #[], .bool false, .func (.func 30) #[] #[], .bool true, .func (.func 30) #[] #[], .bool false] 50 (0, 0)) ∧ W.heap[w.heap.size + 5]? = some (.cells #[.func (.func 29) #[] #[], .bool true] 50 (0, 0)) ∧ W.heap[w.heap.size + 6]? = some (.cells #[.func (.func 29) #[] #[], .bool false] 50 (0, 0)) ∧ W.heap[w.heap.size + 7]? = some (.cells #[.func (.func 31) #[] #[], .bool false] 50 (0, 0)) ∧ W.heap[w.heap.size + 8]? = some (.cells #[.slice none 0 0, .slice none 0 0, .slice none 0 0, .slice none 0 0, .slice none 0 0, .slice (some ⟨w.heap.size, 0, none⟩) 2 2, .slice (some ⟨w.heap.size + 1, 0, none⟩) 2 2, .slice (some ⟨w.heap.size + 2, 0, none⟩) 2 2, .slice (some ⟨w.heap.size + 3, 0, none⟩) 2 2, .slice (some ⟨w.heap.size + 4, 0, none⟩) 3 3, .slice (some ⟨w.heap.size + 5, 0, none⟩) 1 1, .slice (some ⟨w.heap.size + 6, 0, none⟩) 1 1, .slice (some ⟨w.heap.size + 7, 0, none⟩) 1 1] 56 (0, 0))) := by
    subst hW
    exact ⟨X.al9 w _ _ _ _ _ _ _ _ _⟩
  clear hW
  by_cases h0 : kind < 0
  · have hr : rulesOf kind = [] := by unfold rulesOf; repeat (rw [if_neg (by omega)])
    have HR := Aside0.mk hr
    clear hr
    go_wp2
    go_ret
    exact ⟨q.out.1, .inl ⟨HR.out, rfl⟩⟩
  by_cases h1 : 13 ≤ kind
  · have hr : rulesOf kind = [] := by unfold rulesOf; repeat (rw [if_neg (by omega)])
    have HR := Aside0.mk hr
    clear hr
    go_wp2
    go_ret
    exact ⟨q.out.1, .inl ⟨HR.out, rfl⟩⟩
  obtain ⟨hb, q0, q1, q2, q3, q4, q5, q6, q7, q8⟩ := q.out
  obtain ⟨v, hv, hp⟩ := style_rules.at q0 q1 q2 q3 q4 q5 q6 q7 q8 kind (by omega) (by omega)
  have HP := Aside0.mk hp
  clear hp hb q0 q1 q2 q3 q4 q5 q6 q7 q8
  go_wp2
  go_ret
  refine ⟨q.out.1, ?_⟩
  rcases HP.out with ⟨a, rfl⟩ | ⟨a, g', rfl, c⟩
  · exact .inl ⟨a, rfl⟩
  · exact .inr ⟨a, g', rfl, c⟩


/-! ### style_Slot: function 11 -/
theorem rfun_still (c : Nat) (hc : c < 5) (l : Int) (hl : 0 ≤ l ∧ l ≤ 3) (w : World) : Calls Try.prog (rfun c) #[.int .i64 l] w fun e w' => e = .returned (.int .i64 (lvZ c l)) ∧ w' = w := by
  rcases c with _ | _ | _ | _ | _ | c
  · show Calls Try.prog 27 #[.int .i64 l] w fun e w' => e = .returned (.int .i64 (lvZ 0 l)) ∧ w' = w
    have e : lvZ 0 l = if l + 1 ≤ 3 then l + 1 else 3 := rfl
    rw [e]
    clear e
    by_cases h : l + 1 ≤ 3
    · rw [if_pos h]
      have h2 : ¬ (3 < l + 1) := by omega
      go_enter Try.func27, Try.ntmps27
      go_wp2
      go_ret
      exact ⟨rfl, rfl⟩
    · rw [if_neg h]
      have h2 : 3 < l + 1 := by omega
      go_enter Try.func27, Try.ntmps27
      go_wp2
      go_ret
      exact ⟨rfl, rfl⟩
  · show Calls Try.prog 28 #[.int .i64 l] w fun e w' => e = .returned (.int .i64 3) ∧ w' = w
    go_enter Try.func28, Try.ntmps28
    go_wp2
    go_ret
    exact ⟨rfl, rfl⟩
  · show Calls Try.prog 29 #[.int .i64 l] w fun e w' => e = .returned (.int .i64 l) ∧ w' = w
    go_enter Try.func29, Try.ntmps29
    go_wp2
    go_ret
    exact ⟨rfl, rfl⟩
  · show Calls Try.prog 30 #[.int .i64 l] w fun e w' => e = .returned (.int .i64 (lvZ 3 l)) ∧ w' = w
    have e : lvZ 3 l = if l ≤ 1 then 2 else 3 := rfl
    rw [e]
    clear e
    by_cases h : l ≤ 1
    · rw [if_pos h]
      go_enter Try.func30, Try.ntmps30
      go_wp2
      go_ret
      exact ⟨rfl, rfl⟩
    · rw [if_neg h]
      go_enter Try.func30, Try.ntmps30
      go_wp2
      go_ret
      exact ⟨rfl, rfl⟩
  · show Calls Try.prog 31 #[.int .i64 l] w fun e w' => e = .returned (.int .i64 (lvZ 4 l)) ∧ w' = w
    have e : lvZ 4 l = if l ≤ 1 then 1 else l := rfl
    rw [e]
    clear e
    by_cases h : l ≤ 1
    · rw [if_pos h]
      rcases (show l = 1 ∨ l < 1 by omega) with rfl | h2
      · go_enter Try.func31, Try.ntmps31
        go_wp2
        go_ret
        exact ⟨rfl, rfl⟩
      · go_enter Try.func31, Try.ntmps31
        go_wp2
        go_ret
        exact ⟨rfl, rfl⟩
    · rw [if_neg h]
      have h2 : ¬ (l < 1) := by omega
      go_enter Try.func31, Try.ntmps31
      go_wp2
      go_ret
      exact ⟨rfl, rfl⟩
  · omega
theorem rules_lt (kind : Int) (x : Nat × Bool) (hx : x ∈ rulesOf kind) : x.1 < 5 := by
  have : ∀ l : List (Nat × Bool), l ∈ [[(0, false), (0, true)], [(1, false), (2, true)], [(2, false), (3, true)], [(2, false), (3, false)], [(2, false), (3, true), (3, false)], [(2, true)], [(2, false)], [(4, false)], []] → ∀ x ∈ l, x.1 < 5 := by decide
  refine this _ ?_ x hx
  unfold rulesOf
  repeat' split
  all_goals simp
theorem rules_len (kind : Int) : (rulesOf kind).length ≤ 3 := by
  unfold rulesOf
  repeat' split
  all_goals simp
theorem ruleCells_at (l : List (Nat × Bool)) (i : Nat) (hi : i < l.length) : (ruleCells l)[i * 2]? = some (.func (.func (rfun (l.getD i (0, false)).1)) #[] #[]) ∧ (ruleCells l)[i * 2 + 1]? = some (.bool (l.getD i (0, false)).2) := by
  induction l generalizing i with
  | nil => simp at hi
  | cons x r ih =>
    rcases i with _ | i
    · exact ⟨rfl, rfl⟩
    · have := ih i (by simpa using hi)
      have e1 : (i + 1) * 2 = i * 2 + 2 := by omega
      rw [e1]
      have e2 : i * 2 + 2 + 1 = (i * 2 + 1) + 2 := by omega
      rw [e2]
      simpa [ruleCells] using this
def slotN (kind : Int) : Int := if kind = 12 then 256 else (rulesOf kind).length
def slotI (kind slot : Int) : Int := if slot < (rulesOf kind).length then slot else (rulesOf kind).length - 1
def slotR (kind slot : Int) : Nat × Bool := (rulesOf kind).getD (slotI kind slot).toNat (0, false)
def style_Slot.f (a0 : Int) (a1 : Int) (a2_0 : Int) (a2_1 : Bool) : Option (Int × Bool × Int) := if a2_0 < 0 then some (0, false, 1) else if a2_0 > 3 then some (0, false, 1) else if rulesOf a0 = [] then some (0, false, 1) else if a1 < 0 then some (0, false, 2) else if slotN a0 ≤ a1 then some (0, false, 2) else some (lvZ (slotR a0 a1).1 a2_0, a2_1 || (slotR a0 a1).2, 0)
set_option maxHeartbeats 8000000 in
set_option maxRecDepth 100000 in
theorem style_Slot.bad (a0 : Int) (a1 : Int) (a2_0 : Int) (a2_1 : Bool) (w : World) (h : a2_0 < 0 ∨ 3 < a2_0 ∨ rulesOf a0 = []) : Calls Try.prog 11 #[.int .i64 a0, .int .i64 a1, .agg #[.int .i64 a2_0, .bool a2_1]] w fun e w' => e = .returned (.tuple #[.agg #[.int .i64 0, .bool false], .int .i64 1]) ∧ Below w.heap.size w w' := by
  have hh := Aside0.mk h
  clear h
  have hv : ∃ b, style_Valid.f a2_0 a2_1 = some b := by
    unfold style_Valid.f
    split <;> exact ⟨_, rfl⟩
  obtain ⟨b, hv⟩ := hv
  have HV := Aside0.mk hv
  have hbad : b = true → Aside0 (rulesOf a0 = []) := by
    intro hb
    subst hb
    refine ⟨?_⟩
    rcases hh.out with h | h | h
    · unfold style_Valid.f at hv; rw [if_neg (by omega)] at hv; simp at hv
    · unfold style_Valid.f at hv; split at hv <;> simp at hv; omega
    · exact h
  clear hv hh
  go_enter Try.func11, Try.ntmps11
  go_wp2_with fail
  refine (style_rules.calls a0 _).mono ?_
  rintro e w1 ⟨hb, hp⟩
  obtain ⟨A, c, rfl, hne⟩ : ∃ A c, e = .returned (.slice A (rulesOf a0).length c) ∧ (rulesOf a0 ≠ [] → A ≠ none) := by
    rcases hp with ⟨h0, rfl⟩ | ⟨h0, g, rfl, _⟩
    · exact ⟨none, 0, by rw [h0]; rfl, fun h => absurd h0 h⟩
    · exact ⟨_, _, rfl, fun _ => by simp⟩
  clear hp hne
  have q1 := Aside0.mk (X.blk_call (X.blk_al (heap_alloc_new w (.cells #[.int .i64 a2_0, .bool a2_1] 23)) _) hb)
  have q2 := Aside0.mk (X.blk_call (X.new2 w (.cells #[.int .i64 a2_0, .bool a2_1] 23) (.cells #[.int .i64 0, .bool false] 23)) hb)
  have HB := Aside0.mk (X.bl_call (below_alloc (below_alloc (Below.refl _ _) _) _) hb)
  clear hb
  have e0 := Joins.cell_of_block q1.out 0
  have e1 := Joins.cell_of_block q1.out 1
  have f0 := Joins.cell_of_block q2.out 0
  have f1 := Joins.cell_of_block q2.out 1
  have g0 := Joins.unfrozen_of_block q2.out
  cases b
  · clear hbad
    go_wp2_with (go_at_call 12; refine (style_Valid.calls _ _ _ _ HV.out).mono ?_; rintro e w2 ⟨rfl, hb⟩; have p1 := Aside0.mk (X.blk_call q1.out hb); have p2 := Aside0.mk (X.blk_call q2.out hb); have PB := Aside0.mk (X.bl_call HB.out hb); clear hb e0 e1 f0 f1 g0; have e0 := Joins.cell_of_block p1.out 0; have e1 := Joins.cell_of_block p1.out 1; have f0 := Joins.cell_of_block p2.out 0; have f1 := Joins.cell_of_block p2.out 1; have g0 := Joins.unfrozen_of_block p2.out)
    exact bodyPost_ret (v := .tuple #[.agg #[.int .i64 0, .bool false], .int .i64 1]) (by simp [results, Try.results11, go_sem, f0, f1]) rfl ⟨rfl, X.bl_set (X.bl_set PB.out (Nat.le_succ _)) (Nat.le_succ _)⟩
  · have hr := hbad rfl
    clear hbad
    rw [hr.out]
    go_wp2_with (go_at_call 12; refine (style_Valid.calls _ _ _ _ HV.out).mono ?_; rintro e w2 ⟨rfl, hb⟩; have p1 := Aside0.mk (X.blk_call q1.out hb); have p2 := Aside0.mk (X.blk_call q2.out hb); have PB := Aside0.mk (X.bl_call HB.out hb); clear hb e0 e1 f0 f1 g0; have e0 := Joins.cell_of_block p1.out 0; have e1 := Joins.cell_of_block p1.out 1; have f0 := Joins.cell_of_block p2.out 0; have f1 := Joins.cell_of_block p2.out 1; have g0 := Joins.unfrozen_of_block p2.out)
    exact bodyPost_ret (v := .tuple #[.agg #[.int .i64 0, .bool false], .int .i64 1]) (by simp [results, Try.results11, go_sem, f0, f1]) rfl ⟨rfl, X.bl_set (X.bl_set PB.out (Nat.le_succ _)) (Nat.le_succ _)⟩
set_option maxHeartbeats 8000000 in
set_option maxRecDepth 100000 in
theorem style_Slot.good (a0 : Int) (a1 : Int) (a2_0 : Int) (a2_1 : Bool) (w : World) (h : 0 ≤ a2_0 ∧ a2_0 ≤ 3) (hr : rulesOf a0 ≠ []) (r1 : Int) (r2 : Bool) (r3 : Int) (hf : (if a1 < 0 then some (0, false, 2) else if slotN a0 ≤ a1 then some (0, false, 2) else some (lvZ (slotR a0 a1).1 a2_0, a2_1 || (slotR a0 a1).2, (0 : Int))) = some (r1, r2, r3)) : Calls Try.prog 11 #[.int .i64 a0, .int .i64 a1, .agg #[.int .i64 a2_0, .bool a2_1]] w fun e w' => e = .returned (.tuple #[.agg #[.int .i64 r1, .bool r2], .int .i64 r3]) ∧ Below w.heap.size w w' := by
  have HF := Aside0.mk hf
  clear hf
  have HV := Aside0.mk (show style_Valid.f a2_0 a2_1 = some true by unfold style_Valid.f; rw [if_pos h.1]; simp; exact h.2)
  have hl1 : 1 ≤ (rulesOf a0).length := by cases hq : rulesOf a0 <;> simp_all
  have hl3 := rules_len a0
  have HR := Aside0.mk hr
  clear hr
  go_enter Try.func11, Try.ntmps11
  go_wp2_with fail
  refine (style_rules.calls a0 _).mono ?_
  rintro e w1 ⟨hb, hp⟩
  obtain ⟨g, rfl, hg⟩ : ∃ g, e = .returned (.slice (some ⟨g, 0, none⟩) (rulesOf a0).length (rulesOf a0).length) ∧ w1.heap[g]? = some (.cells (ruleCells (rulesOf a0)).toArray 50 (0, 0)) := by
    rcases hp with ⟨h0, rfl⟩ | ⟨h0, g, rfl, h1⟩
    · exact absurd h0 HR.out
    · exact ⟨g, rfl, h1⟩
  clear hp
  have HG := Aside0.mk hg
  clear hg
  have q1 := Aside0.mk (X.blk_call (X.blk_al (heap_alloc_new w (.cells #[.int .i64 a2_0, .bool a2_1] 23)) _) hb)
  have q2 := Aside0.mk (X.blk_call (X.new2 w (.cells #[.int .i64 a2_0, .bool a2_1] 23) (.cells #[.int .i64 0, .bool false] 23)) hb)
  have HB := Aside0.mk (X.bl_call (below_alloc (below_alloc (Below.refl _ _) _) _) hb)
  clear hb
  have e0 := Joins.cell_of_block q1.out 0
  have e1 := Joins.cell_of_block q1.out 1
  have f0 := Joins.cell_of_block q2.out 0
  have f1 := Joins.cell_of_block q2.out 1
  have g0 := Joins.unfrozen_of_block q2.out
  have hl0 : (((rulesOf a0).length : Int) == 0) = false := by rw [beq_eq_false_iff_ne]; omega
  go_upto_region 4 with (go_at_call 12; refine (style_Valid.calls _ _ _ _ HV.out).mono ?_; rintro e w2 ⟨rfl, hb⟩; have p1 := Aside0.mk (X.blk_call q1.out hb); have p2 := Aside0.mk (X.blk_call q2.out hb); have PG := Aside0.mk (X.blk_call HG.out hb); have PB := Aside0.mk (X.bl_call HB.out hb); clear hb e0 e1 f0 f1 g0; have e0 := Joins.cell_of_block p1.out 0; have e1 := Joins.cell_of_block p1.out 1; have f0 := Joins.cell_of_block p2.out 0; have f1 := Joins.cell_of_block p2.out 1; have g0 := Joins.unfrozen_of_block p2.out)
  go_upto_if 25 with (fail)
  go_cut [9] (fun v9 wc => v9 = .int .i64 (slotN a0) ∧ wc = w2)
  case first =>
    by_cases ha : a0 = 12
    · subst ha
      go_wp2
      go_meet
      case rel => exact ⟨rfl, rfl⟩
    · have ha2 : (a0 == 12) = false := by rw [beq_eq_false_iff_ne]; exact ha
      have hN := Aside0.mk (show slotN a0 = (rulesOf a0).length by unfold slotN; rw [if_neg ha])
      clear ha
      go_wp2
      go_meet
      case rel => exact ⟨by rw [hN.out], rfl⟩
  case rest =>
  obtain ⟨rfl, rfl⟩ := hcut
  by_cases h1 : a1 < 0
  · have H := HF.out
    rw [if_pos h1] at H
    obtain ⟨rfl, rfl, rfl⟩ := Option.some.inj H
    clear H HF
    go_wp2
    exact bodyPost_ret (v := .tuple #[.agg #[.int .i64 0, .bool false], .int .i64 2]) (by simp [results, Try.results11, go_sem, f0, f1]) rfl ⟨rfl, X.bl_set (X.bl_set PB.out (Nat.le_succ _)) (Nat.le_succ _)⟩
  by_cases h2 : slotN a0 ≤ a1
  · have H := HF.out
    rw [if_neg h1, if_pos h2] at H
    obtain ⟨rfl, rfl, rfl⟩ := Option.some.inj H
    clear H HF
    go_wp2
    exact bodyPost_ret (v := .tuple #[.agg #[.int .i64 0, .bool false], .int .i64 2]) (by simp [results, Try.results11, go_sem, f0, f1]) rfl ⟨rfl, X.bl_set (X.bl_set PB.out (Nat.le_succ _)) (Nat.le_succ _)⟩
  have H := HF.out
  rw [if_neg h1, if_neg h2] at H
  obtain ⟨rfl, rfl, rfl⟩ := Option.some.inj H
  clear H HF
  have hI : 0 ≤ slotI a0 a1 ∧ slotI a0 a1 < (rulesOf a0).length := by unfold slotI; split <;> omega
  have hm : (if (((rulesOf a0).length : Int) - 1) < a1 then ((rulesOf a0).length : Int) - 1 else a1) = slotI a0 a1 := by unfold slotI; split <;> split <;> omega
  have HM := Aside0.mk hm
  clear hm
  generalize hi : slotI a0 a1 = I at *
  have hc := ruleCells_at (rulesOf a0) I.toNat (by omega)
  have hx : (rulesOf a0).getD I.toNat (0, false) = slotR a0 a1 := by unfold slotR; rw [hi]
  rw [hx] at hc
  have hx5 : (slotR a0 a1).1 < 5 := by
    have hlt : I.toNat < (rulesOf a0).length := by omega
    refine rules_lt a0 _ ?_
    rw [← hx, List.getD, List.getElem?_eq_getElem hlt]
    exact List.getElem_mem hlt
  have c0 := (Joins.cell_of_block PG.out (I.toNat * 2)).trans (by simpa using hc.1)
  have c1 := (Joins.cell_of_block PG.out (I.toNat * 2 + 1)).trans (by simpa using hc.2)
  have HX := Aside0.mk hx5
  have HI := Aside0.mk hI
  clear hx hx5 hc hi hI
  generalize hsx : slotR a0 a1 = x at *
  have HS := Aside0.mk hsx
  clear hsx
  obtain ⟨xc, xb⟩ := x
  simp only at *
  go_upto_region 9 with (fail)
  go_cut [10] (fun v10 wd => v10 = .pointer (some ⟨wc.heap.size, 0, none⟩) ∧ wd = wc.alloc (.cells #[.func (.func (rfun xc)) #[] #[], .bool xb] 50))
  case first =>
    have hI := HI.out
    by_cases hlt : ((rulesOf a0).length : Int) - 1 < a1
    · have HM := HM.out
      rw [if_pos hlt] at HM
      subst HM
      have b1 : 0 ≤ ((rulesOf a0).length : Int) - 1 := by omega
      have b2 : ((rulesOf a0).length : Int) - 1 < (rulesOf a0).length := by omega
      rw [show (((rulesOf a0).length : Int) - 1).toNat = (rulesOf a0).length - 1 by omega] at c0 c1
      clear hI
      go_wp2
      go_meet
      case rel => exact ⟨rfl, rfl⟩
    · have HM := HM.out
      rw [if_neg hlt] at HM
      subst HM
      have b1 : 0 ≤ a1 := by omega
      have b2 : a1 < (rulesOf a0).length := by omega
      clear hI
      go_wp2
      go_meet
      case rel => exact ⟨rfl, rfl⟩
  case rest =>
  obtain ⟨rfl, rfl⟩ := hcut
  have k1 := Aside0.mk (X.blk_al p1.out (.cells #[.func (.func (rfun xc)) #[] #[], .bool xb] 50))
  have k2 := Aside0.mk (X.blk_al p2.out (.cells #[.func (.func (rfun xc)) #[] #[], .bool xb] 50))
  have k3 := Aside0.mk (heap_alloc_new wc (.cells #[.func (.func (rfun xc)) #[] #[], .bool xb] 50))
  have KB := Aside0.mk (below_alloc PB.out (.cells #[.func (.func (rfun xc)) #[] #[], .bool xb] 50))
  clear e0 e1 f0 f1 g0 c0 c1 p1 p2 PG PB HM HI hl0 hl1 hl3 HR q1 q2 HB HG HV h1 h2
  generalize hgr : wc.heap.size = gr at *
  generalize hW0 : wc.alloc _ = W0 at *
  clear hgr hW0
  have e0 : W0.cell? ⟨w.heap.size, 0, none⟩ = some (.int .i64 a2_0) := Joins.cell_of_block k1.out 0
  have e1 : W0.cell? ⟨w.heap.size, 1, none⟩ = some (.bool a2_1) := Joins.cell_of_block k1.out 1
  have d0 : W0.cell? ⟨gr, 0, none⟩ = some (.func (.func (rfun xc)) #[] #[]) := Joins.cell_of_block k3.out 0
  have d1 : W0.cell? ⟨gr, 1, none⟩ = some (.bool xb) := Joins.cell_of_block k3.out 1
  have hxc : xc = 0 ∨ xc = 1 ∨ xc = 2 ∨ xc = 3 ∨ xc = 4 := by have := HX.out; omega
  rcases hxc with rfl | rfl | rfl | rfl | rfl
  · have HC : ∀ W : World, Calls Try.prog 27 #[.int .i64 a2_0] W fun e w' => e = .returned (.int .i64 (lvZ 0 a2_0)) ∧ w' = W := fun W => rfun_still 0 (by omega) a2_0 h W
    clear HX k1 k3
    replace d0 : W0.cell? ⟨gr, 0, none⟩ = some (.func (.func 27) #[] #[]) := d0
    have f0 := Joins.cell_of_block k2.out 0
    have f1 := Joins.cell_of_block k2.out 1
    have g0 := Joins.unfrozen_of_block k2.out
    cases a2_1
    · go_wp2_with fail
      go_still_tail 12, (by kernel_rfl)
      still_call (HC _)
      repeat still_step
      refine wpStill_nil ?_
      go_wp2
      exact bodyPost_ret (v := .tuple #[.agg #[.int .i64 (lvZ 0 a2_0), .bool (false || xb)], .int .i64 0]) (by simp [results, Try.results11, go_sem, f0, f1]) rfl ⟨by rw [HS.out], X.bl_set (X.bl_set (below_drew KB.out) (Nat.le_succ _)) (Nat.le_succ _)⟩
    · go_wp2_with fail
      go_still_tail 12, (by kernel_rfl)
      still_call (HC _)
      repeat still_step
      refine wpStill_nil ?_
      go_wp2
      exact bodyPost_ret (v := .tuple #[.agg #[.int .i64 (lvZ 0 a2_0), .bool (true || xb)], .int .i64 0]) (by simp [results, Try.results11, go_sem, f0, f1]) rfl ⟨by rw [HS.out], X.bl_set (X.bl_set (below_drew KB.out) (Nat.le_succ _)) (Nat.le_succ _)⟩
  · have HC : ∀ W : World, Calls Try.prog 28 #[.int .i64 a2_0] W fun e w' => e = .returned (.int .i64 (lvZ 1 a2_0)) ∧ w' = W := fun W => rfun_still 1 (by omega) a2_0 h W
    clear HX k1 k3
    replace d0 : W0.cell? ⟨gr, 0, none⟩ = some (.func (.func 28) #[] #[]) := d0
    have f0 := Joins.cell_of_block k2.out 0
    have f1 := Joins.cell_of_block k2.out 1
    have g0 := Joins.unfrozen_of_block k2.out
    cases a2_1
    · go_wp2_with fail
      go_still_tail 12, (by kernel_rfl)
      still_call (HC _)
      repeat still_step
      refine wpStill_nil ?_
      go_wp2
      exact bodyPost_ret (v := .tuple #[.agg #[.int .i64 (lvZ 1 a2_0), .bool (false || xb)], .int .i64 0]) (by simp [results, Try.results11, go_sem, f0, f1]) rfl ⟨by rw [HS.out], X.bl_set (X.bl_set (below_drew KB.out) (Nat.le_succ _)) (Nat.le_succ _)⟩
    · go_wp2_with fail
      go_still_tail 12, (by kernel_rfl)
      still_call (HC _)
      repeat still_step
      refine wpStill_nil ?_
      go_wp2
      exact bodyPost_ret (v := .tuple #[.agg #[.int .i64 (lvZ 1 a2_0), .bool (true || xb)], .int .i64 0]) (by simp [results, Try.results11, go_sem, f0, f1]) rfl ⟨by rw [HS.out], X.bl_set (X.bl_set (below_drew KB.out) (Nat.le_succ _)) (Nat.le_succ _)⟩
  · have HC : ∀ W : World, Calls Try.prog 29 #[.int .i64 a2_0] W fun e w' => e = .returned (.int .i64 (lvZ 2 a2_0)) ∧ w' = W := fun W => rfun_still 2 (by omega) a2_0 h W
    clear HX k1 k3
    replace d0 : W0.cell? ⟨gr, 0, none⟩ = some (.func (.func 29) #[] #[]) := d0
    have f0 := Joins.cell_of_block k2.out 0
    have f1 := Joins.cell_of_block k2.out 1
    have g0 := Joins.unfrozen_of_block k2.out
    cases a2_1
    · go_wp2_with fail
      go_still_tail 12, (by kernel_rfl)
      still_call (HC _)
      repeat still_step
      refine wpStill_nil ?_
      go_wp2
      exact bodyPost_ret (v := .tuple #[.agg #[.int .i64 (lvZ 2 a2_0), .bool (false || xb)], .int .i64 0]) (by simp [results, Try.results11, go_sem, f0, f1]) rfl ⟨by rw [HS.out], X.bl_set (X.bl_set (below_drew KB.out) (Nat.le_succ _)) (Nat.le_succ _)⟩
    · go_wp2_with fail
      go_still_tail 12, (by kernel_rfl)
      still_call (HC _)
      repeat still_step
      refine wpStill_nil ?_
      go_wp2
      exact bodyPost_ret (v := .tuple #[.agg #[.int .i64 (lvZ 2 a2_0), .bool (true || xb)], .int .i64 0]) (by simp [results, Try.results11, go_sem, f0, f1]) rfl ⟨by rw [HS.out], X.bl_set (X.bl_set (below_drew KB.out) (Nat.le_succ _)) (Nat.le_succ _)⟩
  · have HC : ∀ W : World, Calls Try.prog 30 #[.int .i64 a2_0] W fun e w' => e = .returned (.int .i64 (lvZ 3 a2_0)) ∧ w' = W := fun W => rfun_still 3 (by omega) a2_0 h W
    clear HX k1 k3
    replace d0 : W0.cell? ⟨gr, 0, none⟩ = some (.func (.func 30) #[] #[]) := d0
    have f0 := Joins.cell_of_block k2.out 0
    have f1 := Joins.cell_of_block k2.out 1
    have g0 := Joins.unfrozen_of_block k2.out
    cases a2_1
    · go_wp2_with fail
      go_still_tail 12, (by kernel_rfl)
      still_call (HC _)
      repeat still_step
      refine wpStill_nil ?_
      go_wp2
      exact bodyPost_ret (v := .tuple #[.agg #[.int .i64 (lvZ 3 a2_0), .bool (false || xb)], .int .i64 0]) (by simp [results, Try.results11, go_sem, f0, f1]) rfl ⟨by rw [HS.out], X.bl_set (X.bl_set (below_drew KB.out) (Nat.le_succ _)) (Nat.le_succ _)⟩
    · go_wp2_with fail
      go_still_tail 12, (by kernel_rfl)
      still_call (HC _)
      repeat still_step
      refine wpStill_nil ?_
      go_wp2
      exact bodyPost_ret (v := .tuple #[.agg #[.int .i64 (lvZ 3 a2_0), .bool (true || xb)], .int .i64 0]) (by simp [results, Try.results11, go_sem, f0, f1]) rfl ⟨by rw [HS.out], X.bl_set (X.bl_set (below_drew KB.out) (Nat.le_succ _)) (Nat.le_succ _)⟩
  · have HC : ∀ W : World, Calls Try.prog 31 #[.int .i64 a2_0] W fun e w' => e = .returned (.int .i64 (lvZ 4 a2_0)) ∧ w' = W := fun W => rfun_still 4 (by omega) a2_0 h W
    clear HX k1 k3
    replace d0 : W0.cell? ⟨gr, 0, none⟩ = some (.func (.func 31) #[] #[]) := d0
    have f0 := Joins.cell_of_block k2.out 0
    have f1 := Joins.cell_of_block k2.out 1
    have g0 := Joins.unfrozen_of_block k2.out
    cases a2_1
    · go_wp2_with fail
      go_still_tail 12, (by kernel_rfl)
      still_call (HC _)
      repeat still_step
      refine wpStill_nil ?_
      go_wp2
      exact bodyPost_ret (v := .tuple #[.agg #[.int .i64 (lvZ 4 a2_0), .bool (false || xb)], .int .i64 0]) (by simp [results, Try.results11, go_sem, f0, f1]) rfl ⟨by rw [HS.out], X.bl_set (X.bl_set (below_drew KB.out) (Nat.le_succ _)) (Nat.le_succ _)⟩
    · go_wp2_with fail
      go_still_tail 12, (by kernel_rfl)
      still_call (HC _)
      repeat still_step
      refine wpStill_nil ?_
      go_wp2
      exact bodyPost_ret (v := .tuple #[.agg #[.int .i64 (lvZ 4 a2_0), .bool (true || xb)], .int .i64 0]) (by simp [results, Try.results11, go_sem, f0, f1]) rfl ⟨by rw [HS.out], X.bl_set (X.bl_set (below_drew KB.out) (Nat.le_succ _)) (Nat.le_succ _)⟩
set_option maxHeartbeats 8000000 in
set_option maxRecDepth 100000 in
theorem style_Slot.calls (a0 : Int) (a1 : Int) (a2_0 : Int) (a2_1 : Bool) (r1 : Int) (r2 : Bool) (r3 : Int) (w : World) (h : style_Slot.f a0 a1 a2_0 a2_1 = some (r1, r2, r3)) :
    Calls Try.prog 11 #[.int .i64 a0, .int .i64 a1, .agg #[.int .i64 a2_0, .bool a2_1]] w fun e w' => e = .returned (.tuple #[.agg #[.int .i64 r1, .bool r2], .int .i64 r3]) ∧ Below w.heap.size w w' := by
  unfold style_Slot.f at h
  by_cases h1 : a2_0 < 0
  · rw [if_pos h1] at h
    obtain ⟨rfl, rfl, rfl⟩ := Option.some.inj h
    exact style_Slot.bad a0 a1 a2_0 a2_1 w (.inl h1)
  rw [if_neg h1] at h
  by_cases h2 : a2_0 > 3
  · rw [if_pos h2] at h
    obtain ⟨rfl, rfl, rfl⟩ := Option.some.inj h
    exact style_Slot.bad a0 a1 a2_0 a2_1 w (.inr (.inl h2))
  rw [if_neg h2] at h
  by_cases h3 : rulesOf a0 = []
  · rw [if_pos h3] at h
    obtain ⟨rfl, rfl, rfl⟩ := Option.some.inj h
    exact style_Slot.bad a0 a1 a2_0 a2_1 w (.inr (.inr h3))
  rw [if_neg h3] at h
  exact style_Slot.good a0 a1 a2_0 a2_1 w ⟨by omega, by omega⟩ h3 r1 r2 r3 h


/-! ### vinculumlaw25_awake: function 10 -/
def vinculumlaw25_awake.f  : Option (Bool) := (style_Slot.f 5 1 0 false).bind fun bt102 => (if bt102.2.2 = 0 then (some (bt102.1 == 1 && (bt102.2.1))) else (some false))
set_option maxHeartbeats 8000000 in
set_option maxRecDepth 100000 in
theorem vinculumlaw25_awake.calls  (r : Bool) (w : World) (h : vinculumlaw25_awake.f  = some r) :
    Calls Try.prog 10 #[] w fun e w' => e = .returned (.bool r) ∧ Below w.heap.size w w' := by
  have hu23 := Try.underlying23
  have HB := Aside0.mk (Below.refl w.heap.size w)
  have H : ((style_Slot.f 5 1 0 false).bind fun bt102 => (if bt102.2.2 = 0 then (some (bt102.1 == 1 && (bt102.2.1))) else (some false))) = some r := h
  clear h
  replace H := Option.bind_eq_some_iff.mp H
  obtain ⟨⟨t102, t103, t104⟩, A10, H⟩ := H
  replace H : (if t104 = 0 then (some (t102 == 1 && (t103))) else (some false)) = some r := H
  have A1 := Aside0.mk A10
  clear A10
  by_cases c2 : t104 = 0
  · rw [if_pos c2] at H
    have c2b0 : (t104 == 0) = true := beq_iff_eq.mpr c2
    have c2b1 : (t104 != 0) = false := bne_eq_false_iff_eq.mpr c2
    clear c2
    obtain rfl := Option.some.inj H
    go_enter Try.func10, Try.ntmps10
    go_wp2_with (first | ((with_reducible refine gate_callee (f := 11) rfl ?_); refine goesL_ (some 5) rfl rfl Try.func11 (by kernel_rfl) rfl #[.int .i64 5, .int .i64 1, .agg #[.int .i64 0, .bool false]] rfl (by (try simp only [List.map_toArray, List.map_cons, List.map_nil]); first | done | rfl | (simp only [List.length_drop, List.length_take]; rfl)) ?_; (with_reducible refine (style_Slot.calls 5 1 0 false t102 t103 t104 _ A1.out).mono ?_); rintro e w3 ⟨rfl, hb⟩; refine ⟨_, rfl, ?_⟩; have n0_ := Aside0.mk (below_step (by repeat (first | (with_reducible first | exact HB.out | apply below_alloc | apply pw_below_drewN | apply below_drew1) | exact HB.out)) hb); clear HB; have HB := n0_; clear n0_; (try clear hb); (try clear hb2); (try clear hk); (try clear hi)) | ((with_reducible refine gate_dst (N := 1) rfl ?_); refine box_event ?hg (N := 1) ?hd (cs := #[.int .i64 0, .bool false]) (t := 23) ?hr ?_; (case hd => rfl); (case hg => rfl); (case hr => first | (go_simp; done) | (go_simp; rfl)); intro gb105 hg w4 hbox hb; have n0_ := Aside0.mk (below_step (by repeat (first | (with_reducible first | exact HB.out | apply below_alloc | apply pw_below_drewN | apply below_drew1) | exact HB.out)) hb); have n1_ := Aside0.mk (hbox); have n2_ := Aside0.mk ((by rw [hg]; exact (below_size (by repeat (first | (with_reducible first | exact HB.out | apply below_alloc | apply pw_below_drewN | apply below_drew1) | exact HB.out))) : w.heap.size ≤ gb105)); have n3_ := Aside0.mk ((by rw [hg]; exact (below_size (by repeat (first | (with_reducible first | exact HB.out | apply below_alloc | apply pw_below_drewN | apply below_drew1) | exact HB.out))) : w.heap.size ≤ gb105)); clear HB; have HB := n0_; have BK105 := n1_; have GW105 := n2_; have GE105 := n3_; clear n0_ n1_ n2_ n3_; clear hb hbox hg; have hcz5_0 : w4.cell? ⟨gb105, 0, none⟩ = some (.int .i64 0) := (blk_cell BK105.out 0).trans rfl; have hcz5_1 : w4.cell? ⟨gb105, 1, none⟩ = some (.bool false) := (blk_cell BK105.out 1).trans rfl; have hfz5_0 := blk_frozen BK105.out 0; have hfz5_1 := blk_frozen BK105.out 1))
    go_ret
    exact ⟨by first | rfl | (simp [errW_none, errW_some] <;> rfl) | (simp [*, errW_none, errW_some] <;> rfl), by repeat (first | (with_reducible first | exact HB.out | apply below_alloc | apply pw_below_drewN | apply below_drew1 | refine below_set ?_ GE105.out) | exact HB.out)⟩
  · rw [if_neg c2] at H
    have c2b0 : (t104 == 0) = false := beq_eq_false_iff_ne.mpr c2
    have c2b1 : (t104 != 0) = true := bne_iff_ne.mpr c2
    obtain rfl := Option.some.inj H
    go_enter Try.func10, Try.ntmps10
    go_wp2_with (first | ((with_reducible refine gate_callee (f := 11) rfl ?_); refine goesL_ (some 5) rfl rfl Try.func11 (by kernel_rfl) rfl #[.int .i64 5, .int .i64 1, .agg #[.int .i64 0, .bool false]] rfl (by (try simp only [List.map_toArray, List.map_cons, List.map_nil]); first | done | rfl | (simp only [List.length_drop, List.length_take]; rfl)) ?_; (with_reducible refine (style_Slot.calls 5 1 0 false t102 t103 t104 _ A1.out).mono ?_); rintro e w6 ⟨rfl, hb⟩; refine ⟨_, rfl, ?_⟩; have n0_ := Aside0.mk (below_step (by repeat (first | (with_reducible first | exact HB.out | apply below_alloc | apply pw_below_drewN | apply below_drew1) | exact HB.out)) hb); clear HB; have HB := n0_; clear n0_; (try clear hb); (try clear hb2); (try clear hk); (try clear hi)) | ((with_reducible refine gate_dst (N := 1) rfl ?_); refine box_event ?hg (N := 1) ?hd (cs := #[.int .i64 0, .bool false]) (t := 23) ?hr ?_; (case hd => rfl); (case hg => rfl); (case hr => first | (go_simp; done) | (go_simp; rfl)); intro gb105 hg w7 hbox hb; have n0_ := Aside0.mk (below_step (by repeat (first | (with_reducible first | exact HB.out | apply below_alloc | apply pw_below_drewN | apply below_drew1) | exact HB.out)) hb); have n1_ := Aside0.mk (hbox); have n2_ := Aside0.mk ((by rw [hg]; exact (below_size (by repeat (first | (with_reducible first | exact HB.out | apply below_alloc | apply pw_below_drewN | apply below_drew1) | exact HB.out))) : w.heap.size ≤ gb105)); have n3_ := Aside0.mk ((by rw [hg]; exact (below_size (by repeat (first | (with_reducible first | exact HB.out | apply below_alloc | apply pw_below_drewN | apply below_drew1) | exact HB.out))) : w.heap.size ≤ gb105)); clear HB; have HB := n0_; have BK105 := n1_; have GW105 := n2_; have GE105 := n3_; clear n0_ n1_ n2_ n3_; clear hb hbox hg; have hcz8_0 : w7.cell? ⟨gb105, 0, none⟩ = some (.int .i64 0) := (blk_cell BK105.out 0).trans rfl; have hcz8_1 : w7.cell? ⟨gb105, 1, none⟩ = some (.bool false) := (blk_cell BK105.out 1).trans rfl; have hfz8_0 := blk_frozen BK105.out 0; have hfz8_1 := blk_frozen BK105.out 1))
    go_ret
    exact ⟨by first | rfl | (simp [errW_none, errW_some] <;> rfl) | (simp [*, errW_none, errW_some] <;> rfl), by repeat (first | (with_reducible first | exact HB.out | apply below_alloc | apply pw_below_drewN | apply below_drew1 | refine below_set ?_ GE105.out) | exact HB.out)⟩

end Go.Proofs.Ytijioimbgmcpaaa.Q
