/- Functions that compute what the Go functions compute, proofs that the machine's calls do so, or the row of a law over them. No further condition. Written by xp.py, a program of this session, over the kit's print. -/
import Derived.Test.YtdobphmkflkciaaQx0
import Derived.Test.YtdobphmkflkciaaQx1
namespace Go.Proofs.Ytdobphmkflkciaa.Q
open Go.RowKit Go.Proofs.YtdobphmkflkciaaW.PrintWords Go.Proofs.YtdobphmkflkciaaW.PrintLast Go.Proofs.YtdobphmkflkciaaW.PrintMore
attribute [local go_sem] max2_int min2_int max_two min_two max_three min_three max_four min_four   -- for this text's walks alone
set_option linter.unusedVariables false
set_option linter.unusedSimpArgs false

attribute [local go_sem high] eqA23
/-! ### font_metric: function 42 -/
def font_metric.f (a0 : Int) : Option (Bool) := if a0 ≥ (-20000) then (some (decide (a0 ≤ 20000))) else (some false)
set_option maxHeartbeats 8000000 in
set_option maxRecDepth 100000 in
theorem font_metric.calls (a0 : Int) (r : Bool) (w : World) (h : font_metric.f a0 = some r) :
    Calls Try.prog 42 #[.int .i64 a0] w fun e w' => e = .returned (.bool r) ∧ Drawn0 w w' := by
  have H : (if a0 ≥ (-20000) then (some (decide (a0 ≤ 20000))) else (some false)) = some r := h
  clear h
  by_cases c2 : a0 ≥ (-20000)
  · rw [if_pos c2] at H
    have c2b0 : decide ((-20000) ≤ a0) = true := decide_eq_true c2
    clear c2
    obtain rfl := Option.some.inj H
    go_enter Try.func42, Try.ntmps42
    go_wp2
    go_ret
    exact ⟨by first | rfl | (simp; done) | (simp [*]; done), by repeat (first | exact Drawn0.refl _ | apply Drawn0.step)⟩
  · rw [if_neg c2] at H
    have c2b0 : decide ((-20000) ≤ a0) = false := decide_eq_false c2
    clear c2
    obtain rfl := Option.some.inj H
    go_enter Try.func42, Try.ntmps42
    go_wp2
    go_ret
    exact ⟨by first | rfl | (simp; done) | (simp [*]; done), by repeat (first | exact Drawn0.refl _ | apply Drawn0.step)⟩

/-! ### font_metrics: function 27 -/
def mokB (x : Int) : Bool := decide (-20000 ≤ x ∧ x ≤ 20000)
theorem metric_mok (x : Int) (b : Bool) (h : mokB x = b) : font_metric.f x = some b := by
  subst h
  unfold font_metric.f mokB
  split <;> simp_all <;> omega
theorem font_metrics.idx (a b c d e : Int) (k : Nat) (hk : k < 5) : ∀ w, (Instr.index 78 (.agg #[.int .i64 a, .int .i64 b, .int .i64 c, .int .i64 d, .int .i64 e]) (.int .i64 k)).run Try.prog w = .ok (.int .i64 ([a, b, c, d, e].getD k 0)) w := by
  rcases k with _ | _ | _ | _ | _ | k
  · exact fun w => by kernel_rfl
  · exact fun w => by kernel_rfl
  · exact fun w => by kernel_rfl
  · exact fun w => by kernel_rfl
  · exact fun w => by kernel_rfl
  · omega
def font_metrics.f (a0_0 : ByteArray) (a0_1 : Int) (a0_2 : Int) (a0_3 : Int) (a0_4 : Int) (a0_5 : Int) : Option (Bool) := some ([a0_1, a0_2, a0_3, a0_4, a0_5].all mokB)
set_option maxHeartbeats 8000000 in
set_option maxRecDepth 100000 in
theorem font_metrics.calls (a0_0 : ByteArray) (a0_1 : Int) (a0_2 : Int) (a0_3 : Int) (a0_4 : Int) (a0_5 : Int) (r : Bool) (w : World) (h : font_metrics.f a0_0 a0_1 a0_2 a0_3 a0_4 a0_5 = some r) :
    Calls Try.prog 27 #[.agg #[.string a0_0, .int .i64 a0_1, .int .i64 a0_2, .int .i64 a0_3, .int .i64 a0_4, .int .i64 a0_5]] w fun e w' => e = .returned (.bool r) ∧ Below w.heap.size w w' := by
  have H := Aside0.mk h
  clear h
  go_enter Try.func27, Try.ntmps27
  go_wp2
  go_loopw [16] (fun i wr => ∃ k : Nat, k ≤ 5 ∧ i = .int .i64 k ∧ Aside0 ((([a0_1, a0_2, a0_3, a0_4, a0_5].take k).all mokB) = true) ∧ Aside0 (Below w.heap.size w wr)) (fun i _ => 5 - (intOf i).toNat)
  case atStart => exact ⟨0, by omega, rfl, ⟨rfl⟩, ⟨(Below.refl _ _).alloc (Nat.le_refl _) _⟩⟩
  case round =>
    obtain ⟨k, hk, rfl, HT, HB⟩ := hrel
    by_cases hlt : k < 5
    · have hix := font_metrics.idx a0_1 a0_2 a0_3 a0_4 a0_5 k hlt
      have HT2 := Aside0.mk (X.take_all mokB 0 [a0_1, a0_2, a0_3, a0_4, a0_5] k hlt HT.out)
      generalize hx : [a0_1, a0_2, a0_3, a0_4, a0_5].getD k 0 = x at hix HT2
      have HX := Aside0.mk hx
      clear hx
      cases hm : mokB x
      · have HM := Aside0.mk (metric_mok x _ hm)
        have HN := Aside0.mk hm
        clear hm
        go_wp2_with (go_at_call 42; refine (font_metric.calls _ _ _ HM.out).mono ?_; rintro e w' ⟨rfl, ⟨m, rfl⟩⟩)
        go_ret
        refine ⟨?_, pw_below_drewN HB.out m⟩
        have H := Option.some.inj H.out
        rw [← H, X.all_false_at mokB 0 [a0_1, a0_2, a0_3, a0_4, a0_5] k hlt (by rw [HX.out]; exact HN.out)]; rfl
      · have HM := Aside0.mk (metric_mok x _ hm)
        have HN := Aside0.mk hm
        clear hm
        go_wp2_with (go_at_call 42; refine (font_metric.calls _ _ _ HM.out).mono ?_; rintro e w' ⟨rfl, ⟨m, rfl⟩⟩)
        go_roundw
        case rel => exact ⟨k + 1, by omega, by go_num, ⟨by rw [HT2.out]; exact HN.out⟩, ⟨pw_below_drewN HB.out m⟩⟩
        case measure => simp [intOf]; omega
    · go_wp2
      go_ret
      refine ⟨?_, HB.out⟩
      have H := Option.some.inj H.out
      rw [← H]
      have := HT.out
      rw [List.take_of_length_le (by simp; omega)] at this
      rw [this]; rfl


/-! ### length_Valid: function 43 -/
def length_Valid.f (a0 : Int) : Option (Bool) := if a0 ≥ (-1073741824) then (some (decide (a0 ≤ 1073741824))) else (some false)
set_option maxHeartbeats 8000000 in
set_option maxRecDepth 100000 in
theorem length_Valid.calls (a0 : Int) (r : Bool) (w : World) (h : length_Valid.f a0 = some r) :
    Calls Try.prog 43 #[.int .i64 a0] w fun e w' => e = .returned (.bool r) ∧ Drawn0 w w' := by
  have H : (if a0 ≥ (-1073741824) then (some (decide (a0 ≤ 1073741824))) else (some false)) = some r := h
  clear h
  by_cases c2 : a0 ≥ (-1073741824)
  · rw [if_pos c2] at H
    have c2b0 : decide ((-1073741824) ≤ a0) = true := decide_eq_true c2
    clear c2
    obtain rfl := Option.some.inj H
    go_enter Try.func43, Try.ntmps43
    go_wp2
    go_ret
    exact ⟨by first | rfl | (simp; done) | (simp [*]; done), by repeat (first | exact Drawn0.refl _ | apply Drawn0.step)⟩
  · rw [if_neg c2] at H
    have c2b0 : decide ((-1073741824) ≤ a0) = false := decide_eq_false c2
    clear c2
    obtain rfl := Option.some.inj H
    go_enter Try.func43, Try.ntmps43
    go_wp2
    go_ret
    exact ⟨by first | rfl | (simp; done) | (simp [*]; done), by repeat (first | exact Drawn0.refl _ | apply Drawn0.step)⟩

/-! ### length_round: function 44 -/
def length_round.j0 : Nat → Int → Int → Option (Int)
  | 0, _, _ => none
  | k + 1, x0, x1 => if x1 = 0 then (none) else (if (wrap64 (2 * (Int.tmod x0 x1))) ≥ x1 then (some (wrap64 ((wrap64 (Int.tdiv x0 x1)) + 1))) else (if (wrap64 ((-2) * (Int.tmod x0 x1))) ≥ x1 then (some (wrap64 ((wrap64 (Int.tdiv x0 x1)) - 1))) else (some (wrap64 (Int.tdiv x0 x1)))))
def length_round.f (k : Nat) (a0 : Int) (a1 : Int) : Option (Int) := if a1 < 0 then (length_round.j0 k (wrap64 (-a0)) (wrap64 (-a1))) else (length_round.j0 k a0 a1)
theorem length_round.mono_l : ∀ k, (∀ y0 y1, LeO (length_round.j0 k y0 y1) (length_round.j0 (k + 1) y0 y1))
  | 0 => fun _ _ r h => by simp [length_round.j0] at h
  | k + 1 => by
    have ih0 := length_round.mono_l k
    · intro y0 y1
      unfold length_round.j0
      repeat' first
      | (with_reducible exact ih0 _ _)
      | (with_reducible exact LeO.refl _)
      | (with_reducible exact LeO.none _)
      | (with_reducible refine LeO.ite ?_ ?_)
      | (with_reducible refine LeO.bind ?_ (fun _ => ?_))
      | exact ih0 _ _
      | exact LeO.none _
      | refine LeO.ite ?_ ?_
      | refine LeO.bind ?_ (fun _ => ?_)
theorem length_round.mono : ∀ a0 a1 k, LeO (length_round.f k a0 a1) (length_round.f (k + 1) a0 a1) := by
  intro a0 a1 k
  have ih0 := length_round.mono_l k
  unfold length_round.f
  repeat' first
      | (with_reducible exact ih0 _ _)
      | (with_reducible exact LeO.refl _)
      | (with_reducible exact LeO.none _)
      | (with_reducible refine LeO.ite ?_ ?_)
      | (with_reducible refine LeO.bind ?_ (fun _ => ?_))
      | exact ih0 _ _
      | exact LeO.none _
      | refine LeO.ite ?_ ?_
      | refine LeO.bind ?_ (fun _ => ?_)
set_option maxHeartbeats 8000000 in
set_option maxRecDepth 100000 in
theorem length_round.calls (k : Nat) (a0 : Int) (a1 : Int) (r : Int) (w : World) (h : length_round.f k a0 a1 = some r) :
    Calls Try.prog 44 #[.int .i64 a0, .int .i64 a1] w fun e w' => e = .returned (.int .i64 r) ∧ Drawn0 w w' := by
  have H : (if a1 < 0 then (length_round.j0 k (wrap64 (-a0)) (wrap64 (-a1))) else (length_round.j0 k a0 a1)) = some r := h
  clear h
  have HC3 := Aside0.mk H
  clear H
  go_enter Try.func44, Try.ntmps44
  go_upto_if 8 with (fail)
  repeat (go_quiet (fail); go_upto_if 8 with (fail))
  go_cut [0, 1] (fun v0 v1 wc => ∃ (kq : Nat) (x0_2 : Int) (x1_2 : Int), v0 = .int .i64 x0_2 ∧ v1 = .int .i64 x1_2 ∧ Aside0 (length_round.j0 kq x0_2 x1_2 = some r) ∧ Aside0 (kq ≤ k) ∧ Drawn0 w wc)
  case first =>
    have H := HC3.out
    clear HC3
    by_cases c4 : a1 < 0
    · rw [if_pos c4] at H
      have c4b0 : decide (a1 < 0) = true := decide_eq_true c4
      clear c4
      (first | rw [c4b0] | (simp only [i64_w, i32_w]; rw [c4b0]) | skip)
      have H' := Aside0.mk H
      clear H
      go_wp2
      repeat (go_quiet (fail); try go_wp2)
      go_meet
      case rel => exact ⟨_, (wrap64 (-a0)), (wrap64 (-a1)), (by first | rfl | (simp; done) | (simp [*]; done)), (by first | rfl | (simp; done) | (simp [*]; done)), H', ⟨by first | omega | exact Nat.le_refl _⟩, by repeat (first | exact Drawn0.refl _ | apply Drawn0.step)⟩
    · rw [if_neg c4] at H
      have c4b0 : decide (a1 < 0) = false := decide_eq_false c4
      clear c4
      (first | rw [c4b0] | (simp only [i64_w, i32_w]; rw [c4b0]) | skip)
      have H' := Aside0.mk H
      clear H
      go_wp2
      repeat (go_quiet (fail); try go_wp2)
      go_meet
      case rel => exact ⟨_, (a0), (a1), (by first | rfl | (simp; done) | (simp [*]; done)), (by first | rfl | (simp; done) | (simp [*]; done)), H', ⟨by first | omega | exact Nat.le_refl _⟩, by repeat (first | exact Drawn0.refl _ | apply Drawn0.step)⟩
  case rest =>
    clear HC3
    try clear p2
    try clear c4
    try clear c4b0
    obtain ⟨kq, x0_2, x1_2, rfl, rfl, HA, HJ2, ⟨mc2, rfl⟩⟩ := hcut
    cases kq with
    | zero => exact absurd HA.out (by simp [length_round.j0])
    | succ kj2 =>
      have H := HA.out
      clear HA
      simp only [length_round.j0] at H
      by_cases c5 : x1_2 = 0
      · rw [if_pos c5] at H
        exact absurd H (by simp)
      · rw [if_neg c5] at H
        have c5b0 : (x1_2 == 0) = false := beq_eq_false_iff_ne.mpr c5
        have c5b1 : (x1_2 != 0) = true := bne_iff_ne.mpr c5
        by_cases c6 : (wrap64 (2 * (Int.tmod x0_2 x1_2))) ≥ x1_2
        · rw [if_pos c6] at H
          have c6b0 : decide (x1_2 ≤ (wrap64 (2 * (Int.tmod x0_2 x1_2)))) = true := decide_eq_true c6
          clear c6
          obtain rfl := Option.some.inj H
          go_wp2
          repeat (go_quiet (fail); try go_wp2)
          go_ret
          exact ⟨by first | rfl | (simp; done) | (simp [*]; done), by repeat (first | exact Drawn0.refl _ | apply Drawn0.step)⟩
        · rw [if_neg c6] at H
          have c6b0 : decide (x1_2 ≤ (wrap64 (2 * (Int.tmod x0_2 x1_2)))) = false := decide_eq_false c6
          clear c6
          by_cases c7 : (wrap64 ((-2) * (Int.tmod x0_2 x1_2))) ≥ x1_2
          · rw [if_pos c7] at H
            have c7b0 : decide (x1_2 ≤ (wrap64 ((-2) * (Int.tmod x0_2 x1_2)))) = true := decide_eq_true c7
            clear c7
            obtain rfl := Option.some.inj H
            go_wp2
            repeat (go_quiet (fail); try go_wp2)
            go_ret
            exact ⟨by first | rfl | (simp; done) | (simp [*]; done), by repeat (first | exact Drawn0.refl _ | apply Drawn0.step)⟩
          · rw [if_neg c7] at H
            have c7b0 : decide (x1_2 ≤ (wrap64 ((-2) * (Int.tmod x0_2 x1_2)))) = false := decide_eq_false c7
            clear c7
            obtain rfl := Option.some.inj H
            go_wp2
            repeat (go_quiet (fail); try go_wp2)
            go_ret
            exact ⟨by first | rfl | (simp; done) | (simp [*]; done), by repeat (first | exact Drawn0.refl _ | apply Drawn0.step)⟩

/-! ### length_Scale: function 28 -/
def length_Scale.f (k : Nat) (a0 : Int) (a1 : Int) : Option (Int) := (length_Valid.f a0).bind fun t101 => (if t101 = true then (if a1 < 0 then (some 0) else (if a1 > 10000 then (some 0) else ((length_round.f k (wrap64 (a0 * a1)) 100).bind fun t102 => (some t102)))) else (some 0))
theorem length_Scale.mono : ∀ a0 a1 k, LeO (length_Scale.f k a0 a1) (length_Scale.f (k + 1) a0 a1) := by
  intro a0 a1 k
  unfold length_Scale.f
  repeat' first
      | (with_reducible exact length_round.mono _ _ _)
      | (with_reducible exact LeO.refl _)
      | (with_reducible exact LeO.none _)
      | (with_reducible refine LeO.ite ?_ ?_)
      | (with_reducible refine LeO.bind ?_ (fun _ => ?_))
      | exact length_round.mono _ _ _
      | exact LeO.none _
      | refine LeO.ite ?_ ?_
      | refine LeO.bind ?_ (fun _ => ?_)
set_option maxHeartbeats 8000000 in
set_option maxRecDepth 100000 in
theorem length_Scale.calls (k : Nat) (a0 : Int) (a1 : Int) (r : Int) (w : World) (h : length_Scale.f k a0 a1 = some r) :
    Calls Try.prog 28 #[.int .i64 a0, .int .i64 a1] w fun e w' => e = .returned (.int .i64 r) ∧ Drawn0 w w' := by
  have H : ((length_Valid.f a0).bind fun t101 => (if t101 = true then (if a1 < 0 then (some 0) else (if a1 > 10000 then (some 0) else ((length_round.f k (wrap64 (a0 * a1)) 100).bind fun t102 => (some t102)))) else (some 0))) = some r := h
  clear h
  replace H := Option.bind_eq_some_iff.mp H
  obtain ⟨t101, A30, H⟩ := H
  replace H : (if t101 = true then (if a1 < 0 then (some 0) else (if a1 > 10000 then (some 0) else ((length_round.f k (wrap64 (a0 * a1)) 100).bind fun t102 => (some t102)))) else (some 0)) = some r := H
  have A3 := Aside0.mk A30
  clear A30
  by_cases c4 : t101 = true
  · subst c4
    have H1 : (if a1 < 0 then (some 0) else (if a1 > 10000 then (some 0) else ((length_round.f k (wrap64 (a0 * a1)) 100).bind fun t102 => (some t102)))) = some r := by rw [if_pos rfl] at H; exact H
    clear H
    have H := H1
    clear H1
    by_cases c5 : a1 < 0
    · rw [if_pos c5] at H
      have c5b0 : decide (a1 < 0) = true := decide_eq_true c5
      clear c5
      obtain rfl := Option.some.inj H
      go_enter Try.func28, Try.ntmps28
      go_wp2_with (first | ((with_reducible refine gate_callee (f := 43) rfl ?_); refine goesL_ (some 6) rfl rfl Try.func43 (by kernel_rfl) rfl #[.int .i64 a0] rfl (by (try simp only [List.map_toArray, List.map_cons, List.map_nil]); first | done | rfl | (simp only [List.length_drop, List.length_take]; rfl)) ?_; (with_reducible refine (length_Valid.calls a0 true _ A3.out).mono ?_); rintro e w' ⟨rfl, ⟨nd, rfl⟩⟩; refine ⟨_, rfl, ?_⟩))
      go_ret
      exact ⟨by first | rfl | (simp; done) | (simp [*]; done), by repeat (first | exact Drawn0.refl _ | apply Drawn0.step)⟩
    · rw [if_neg c5] at H
      have c5b0 : decide (a1 < 0) = false := decide_eq_false c5
      clear c5
      by_cases c6 : a1 > 10000
      · rw [if_pos c6] at H
        have c6b0 : decide (10000 < a1) = true := decide_eq_true c6
        clear c6
        obtain rfl := Option.some.inj H
        go_enter Try.func28, Try.ntmps28
        go_wp2_with (first | ((with_reducible refine gate_callee (f := 43) rfl ?_); refine goesL_ (some 6) rfl rfl Try.func43 (by kernel_rfl) rfl #[.int .i64 a0] rfl (by (try simp only [List.map_toArray, List.map_cons, List.map_nil]); first | done | rfl | (simp only [List.length_drop, List.length_take]; rfl)) ?_; (with_reducible refine (length_Valid.calls a0 true _ A3.out).mono ?_); rintro e w' ⟨rfl, ⟨nd, rfl⟩⟩; refine ⟨_, rfl, ?_⟩))
        go_ret
        exact ⟨by first | rfl | (simp; done) | (simp [*]; done), by repeat (first | exact Drawn0.refl _ | apply Drawn0.step)⟩
      · rw [if_neg c6] at H
        have c6b0 : decide (10000 < a1) = false := decide_eq_false c6
        clear c6
        replace H := Option.bind_eq_some_iff.mp H
        obtain ⟨t102, A70, H⟩ := H
        replace H : (some t102) = some r := H
        have A7 := Aside0.mk A70
        clear A70
        obtain rfl := Option.some.inj H
        go_enter Try.func28, Try.ntmps28
        go_wp2_with (first | ((with_reducible refine gate_callee (f := 43) rfl ?_); refine goesL_ (some 6) rfl rfl Try.func43 (by kernel_rfl) rfl #[.int .i64 a0] rfl (by (try simp only [List.map_toArray, List.map_cons, List.map_nil]); first | done | rfl | (simp only [List.length_drop, List.length_take]; rfl)) ?_; (with_reducible refine (length_Valid.calls a0 true _ A3.out).mono ?_); rintro e w' ⟨rfl, ⟨nd, rfl⟩⟩; refine ⟨_, rfl, ?_⟩) | ((with_reducible refine gate_callee (f := 44) rfl ?_); refine goesL_ (some 19) rfl rfl Try.func44 (by kernel_rfl) rfl #[.int .i64 (wrap64 (a0 * a1)), .int .i64 100] rfl (by (try simp only [List.map_toArray, List.map_cons, List.map_nil]); first | done | rfl | (simp only [List.length_drop, List.length_take]; rfl)) ?_; (with_reducible refine (length_round.calls k (wrap64 (a0 * a1)) 100 t102 _ A7.out).mono ?_); rintro e w' ⟨rfl, ⟨nd, rfl⟩⟩; refine ⟨_, rfl, ?_⟩))
        go_ret
        exact ⟨by first | rfl | (simp; done) | (simp [*]; done), by repeat (first | exact Drawn0.refl _ | apply Drawn0.step)⟩
  · replace c4 := Bool.eq_false_iff.mpr c4
    subst c4
    have H1 : (some 0) = some r := by rw [if_neg (show ¬ (false = true) by decide)] at H; exact H
    clear H
    have H := H1
    clear H1
    obtain rfl := Option.some.inj H
    go_enter Try.func28, Try.ntmps28
    go_wp2_with (first | ((with_reducible refine gate_callee (f := 43) rfl ?_); refine goesL_ (some 6) rfl rfl Try.func43 (by kernel_rfl) rfl #[.int .i64 a0] rfl (by (try simp only [List.map_toArray, List.map_cons, List.map_nil]); first | done | rfl | (simp only [List.length_drop, List.length_take]; rfl)) ?_; (with_reducible refine (length_Valid.calls a0 false _ A3.out).mono ?_); rintro e w' ⟨rfl, ⟨nd, rfl⟩⟩; refine ⟨_, rfl, ?_⟩))
    go_ret
    exact ⟨by first | rfl | (simp; done) | (simp [*]; done), by repeat (first | exact Drawn0.refl _ | apply Drawn0.step)⟩

/-! ### font_Scaled: function 11 -/
def scaleZ (n p : Int) : Int := (length_Scale.f 1 n p).getD 0
theorem scaleZ_some (n p : Int) : length_Scale.f 1 n p = some (scaleZ n p) := by
  have h : ∃ r, length_Scale.f 1 n p = some r := by
    unfold length_Scale.f length_Valid.f length_round.f length_round.j0
    repeat' split
    all_goals first | exact ⟨_, rfl⟩ | (simp only [Option.bind_some]; repeat' split) 
    all_goals first | exact ⟨_, rfl⟩ | omega
  obtain ⟨r, hr⟩ := h
  unfold scaleZ
  rw [hr]; rfl
theorem font_Scaled.idx (g : Nat) (k : Nat) (hk : k < 5) : ∀ w, (Instr.index 63 (.agg #[.pointer (some ⟨g, 1, none⟩), .pointer (some ⟨g, 2, none⟩), .pointer (some ⟨g, 3, none⟩), .pointer (some ⟨g, 4, none⟩), .pointer (some ⟨g, 5, none⟩)]) (.int .i64 k)).run Try.prog w = .ok (.pointer (some ⟨g, k + 1, none⟩)) w := by
  rcases k with _ | _ | _ | _ | _ | k
  · exact fun w => by kernel_rfl
  · exact fun w => by kernel_rfl
  · exact fun w => by kernel_rfl
  · exact fun w => by kernel_rfl
  · exact fun w => by kernel_rfl
  · omega
def font_Scaled.st (k j : Nat) (x p : Int) : Int := if j < k then scaleZ x p else x
def font_Scaled.f (a0_0 : ByteArray) (a0_1 : Int) (a0_2 : Int) (a0_3 : Int) (a0_4 : Int) (a0_5 : Int) (a1 : Int) : Option (ByteArray × Int × Int × Int × Int × Int × Int) := if a1 < 1 then some ((⟨#[]⟩ : ByteArray), 0, 0, 0, 0, 0, 2) else if a1 > 1000 then some ((⟨#[]⟩ : ByteArray), 0, 0, 0, 0, 0, 2) else if [a0_1, a0_2, a0_3, a0_4, a0_5].all mokB = true then some (a0_0, scaleZ a0_1 a1, scaleZ a0_2 a1, scaleZ a0_3 a1, scaleZ a0_4 a1, scaleZ a0_5 a1, 0) else some ((⟨#[]⟩ : ByteArray), 0, 0, 0, 0, 0, 1)
set_option maxHeartbeats 8000000 in
set_option maxRecDepth 100000 in
theorem font_Scaled.calls (a0_0 : ByteArray) (a0_1 : Int) (a0_2 : Int) (a0_3 : Int) (a0_4 : Int) (a0_5 : Int) (a1 : Int) (r1 : ByteArray) (r2 : Int) (r3 : Int) (r4 : Int) (r5 : Int) (r6 : Int) (r7 : Int) (w : World) (h : font_Scaled.f a0_0 a0_1 a0_2 a0_3 a0_4 a0_5 a1 = some (r1, r2, r3, r4, r5, r6, r7)) :
    Calls Try.prog 11 #[.agg #[.string a0_0, .int .i64 a0_1, .int .i64 a0_2, .int .i64 a0_3, .int .i64 a0_4, .int .i64 a0_5], .int .i64 a1] w fun e w' => e = .returned (.tuple #[.agg #[.string r1, .int .i64 r2, .int .i64 r3, .int .i64 r4, .int .i64 r5, .int .i64 r6], .int .i64 r7]) ∧ Below w.heap.size w w' := by
  unfold font_Scaled.f at h
  split at h
  · obtain ⟨rfl, rfl, rfl, rfl, rfl, rfl, rfl⟩ := Option.some.inj h
    clear h
    go_enter Try.func11, Try.ntmps11
    go_wp2_with fail
    · exact bodyPost_ret (v := .tuple #[.agg #[.string ⟨#[]⟩, .int .i64 0, .int .i64 0, .int .i64 0, .int .i64 0, .int .i64 0], .int .i64 2]) (by simp [results, Try.results11, go_sem]) rfl ⟨rfl, by first | exact (((Below.refl _ _).alloc (Nat.le_refl _) _).alloc (by simp) _) | exact ((((Below.refl _ _).alloc (Nat.le_refl _) _).alloc (by simp) _).setCell (by simp) _)⟩
  split at h
  · obtain ⟨rfl, rfl, rfl, rfl, rfl, rfl, rfl⟩ := Option.some.inj h
    clear h
    go_enter Try.func11, Try.ntmps11
    go_wp2_with fail
    · exact bodyPost_ret (v := .tuple #[.agg #[.string ⟨#[]⟩, .int .i64 0, .int .i64 0, .int .i64 0, .int .i64 0, .int .i64 0], .int .i64 2]) (by simp [results, Try.results11, go_sem]) rfl ⟨rfl, by first | exact (((Below.refl _ _).alloc (Nat.le_refl _) _).alloc (by simp) _) | exact ((((Below.refl _ _).alloc (Nat.le_refl _) _).alloc (by simp) _).setCell (by simp) _)⟩
  cases hm : [a0_1, a0_2, a0_3, a0_4, a0_5].all mokB
  · rw [hm] at h
    obtain ⟨rfl, rfl, rfl, rfl, rfl, rfl, rfl⟩ := Option.some.inj h
    clear h
    have HM := Aside0.mk hm
    clear hm
    go_enter Try.func11, Try.ntmps11
    go_wp2_with (go_at_call 27; refine (font_metrics.calls _ _ _ _ _ _ _ _ (congrArg some HM.out)).mono ?_; rintro e w1 ⟨rfl, hb⟩; obtain ⟨hc, hf⟩ := X.bcell hb; have hz : w.heap.size + 1 < w1.heap.size := by have := hb.size; simp at this; omega)
    exact bodyPost_ret (v := .tuple #[.agg #[.string ⟨#[]⟩, .int .i64 0, .int .i64 0, .int .i64 0, .int .i64 0, .int .i64 0], .int .i64 1]) (by simp [results, Try.results11, go_sem, hc, hz]) rfl ⟨rfl, by (iterate 6 refine X.bl_set ?_ (Nat.le_succ _)); exact X.bl_call (below_alloc (below_alloc (Below.refl _ _) _) _) hb⟩
  · rw [hm] at h
    obtain ⟨rfl, rfl, rfl, rfl, rfl, rfl, rfl⟩ := Option.some.inj h
    clear h
    have HM := Aside0.mk hm
    clear hm
    go_enter Try.func11, Try.ntmps11
    go_wp2_with (go_at_call 27; refine (font_metrics.calls _ _ _ _ _ _ _ _ (congrArg some HM.out)).mono ?_; rintro e w1 ⟨rfl, hb⟩; have HB := Aside0.mk hb; clear hb)
    have n_ := Aside0.mk ((X.heap_alloc_new2 HB.out).1)
    have n2_ := Aside0.mk ((X.heap_alloc_new2 HB.out).2)
    go_loopw [25] (fun i wr => ∃ k : Nat, k ≤ 5 ∧ i = .int .i64 k ∧ Aside0 (wr.heap[w.heap.size]? = some (.cells #[.string a0_0, .int .i64 (font_Scaled.st k 0 a0_1 a1), .int .i64 (font_Scaled.st k 1 a0_2 a1), .int .i64 (font_Scaled.st k 2 a0_3 a1), .int .i64 (font_Scaled.st k 3 a0_4 a1), .int .i64 (font_Scaled.st k 4 a0_5 a1)] 23 (0, 0))) ∧ Aside0 (wr.heap[w.heap.size + 1]? = some (.cells #[.string ⟨#[]⟩, .int .i64 0, .int .i64 0, .int .i64 0, .int .i64 0, .int .i64 0] 23 (0, 0))) ∧ Aside0 (Below w.heap.size w wr)) (fun i _ => 5 - (intOf i).toNat)
    case atStart => exact ⟨0, by omega, rfl, ⟨n_.out⟩, ⟨n2_.out⟩, ⟨X.bl_call (below_alloc (below_alloc (Below.refl _ _) _) _) HB.out⟩⟩
    clear HB n_ n2_
    case round =>
      obtain ⟨k, hk, rfl, H1, H2, HB⟩ := hrel
      by_cases hlt : k < 5
      · obtain ⟨x, hx, hfx, hx2⟩ : ∃ x : Int, wr.cell? ⟨w.heap.size, k + 1, none⟩ = some (.int .i64 x) ∧ wr.frozen? ⟨w.heap.size, k + 1, none⟩ = false ∧ ∀ m, Aside0 (((wr.drewN m).setCell ⟨w.heap.size, k + 1, none⟩ (.int .i64 (scaleZ x a1))).heap[w.heap.size]? = some (.cells #[.string a0_0, .int .i64 (font_Scaled.st (k + 1) 0 a0_1 a1), .int .i64 (font_Scaled.st (k + 1) 1 a0_2 a1), .int .i64 (font_Scaled.st (k + 1) 2 a0_3 a1), .int .i64 (font_Scaled.st (k + 1) 3 a0_4 a1), .int .i64 (font_Scaled.st (k + 1) 4 a0_5 a1)] 23 (0, 0))) := by
          rcases k with _ | _ | _ | _ | _ | k
          all_goals first | omega | skip
          · exact ⟨_, Joins.cell_of_block H1.out 1, Joins.unfrozen_of_block H1.out 1, fun m => ⟨(Joins.block_setCell (w := wr.drewN m) H1.out _).trans (by simp [font_Scaled.st])⟩⟩
          · exact ⟨_, Joins.cell_of_block H1.out 2, Joins.unfrozen_of_block H1.out 2, fun m => ⟨(Joins.block_setCell (w := wr.drewN m) H1.out _).trans (by simp [font_Scaled.st])⟩⟩
          · exact ⟨_, Joins.cell_of_block H1.out 3, Joins.unfrozen_of_block H1.out 3, fun m => ⟨(Joins.block_setCell (w := wr.drewN m) H1.out _).trans (by simp [font_Scaled.st])⟩⟩
          · exact ⟨_, Joins.cell_of_block H1.out 4, Joins.unfrozen_of_block H1.out 4, fun m => ⟨(Joins.block_setCell (w := wr.drewN m) H1.out _).trans (by simp [font_Scaled.st])⟩⟩
          · exact ⟨_, Joins.cell_of_block H1.out 5, Joins.unfrozen_of_block H1.out 5, fun m => ⟨(Joins.block_setCell (w := wr.drewN m) H1.out _).trans (by simp [font_Scaled.st])⟩⟩
        have HX := Aside0.mk hx2
        clear hx2
        have hix := font_Scaled.idx w.heap.size k hlt
        go_wp2_with (go_at_call 28; refine (length_Scale.calls 1 _ _ _ _ (scaleZ_some _ _)).mono ?_; rintro e w2 ⟨rfl, ⟨m1, rfl⟩⟩)
        go_roundw
        case rel => exact ⟨k + 1, by omega, by go_num, HX.out m1, ⟨(Below.heap_setCell (wr.drewN m1) ⟨w.heap.size, k + 1, none⟩ _ (w.heap.size + 1) (by simp)).trans H2.out⟩, ⟨X.bl_set (pw_below_drewN HB.out _) (Nat.le_refl _)⟩⟩
        case measure => simp [intOf]; omega
      · obtain rfl : k = 5 := by omega
        have H1 := Aside0.mk (show wr.heap[w.heap.size]? = some (.cells #[.string a0_0, .int .i64 (scaleZ a0_1 a1), .int .i64 (scaleZ a0_2 a1), .int .i64 (scaleZ a0_3 a1), .int .i64 (scaleZ a0_4 a1), .int .i64 (scaleZ a0_5 a1)] 23 (0, 0)) from H1.out)
        have e0 := Joins.cell_of_block H1.out 0
        have e1 := Joins.cell_of_block H1.out 1
        have e2 := Joins.cell_of_block H1.out 2
        have e3 := Joins.cell_of_block H1.out 3
        have e4 := Joins.cell_of_block H1.out 4
        have e5 := Joins.cell_of_block H1.out 5
        have f0 := Joins.cell_of_block H2.out 0
        have f1 := Joins.cell_of_block H2.out 1
        have f2 := Joins.cell_of_block H2.out 2
        have f3 := Joins.cell_of_block H2.out 3
        have f4 := Joins.cell_of_block H2.out 4
        have f5 := Joins.cell_of_block H2.out 5
        have g0 := Joins.unfrozen_of_block H2.out
        go_wp2
        exact bodyPost_ret (v := .tuple #[.agg #[.string a0_0, .int .i64 (scaleZ a0_1 a1), .int .i64 (scaleZ a0_2 a1), .int .i64 (scaleZ a0_3 a1), .int .i64 (scaleZ a0_4 a1), .int .i64 (scaleZ a0_5 a1)], .int .i64 0]) (by simp [results, Try.results11, go_sem, f0, f1, f2, f3, f4, f5]) rfl ⟨rfl, by (iterate 6 refine X.bl_set ?_ (Nat.le_succ _)); exact HB.out⟩
def rz (m : Int) : Int := if 0 ≤ m then (2 * m + 100) / 200 else -((2 * (-m) + 100) / 200)
theorem tdiv_neg_ (m : Int) (h : m < 0) (b : Int) : Int.tdiv m b = -((-m) / b) ∧ Int.tmod m b = -((-m) % b) := by
  have e : m = -(-m) := by omega
  constructor
  · rw [e, Int.neg_tdiv, Int.tdiv_eq_ediv_of_nonneg (by omega)]; simp
  · rw [e, Int.neg_tmod, Int.tmod_eq_emod_of_nonneg (by omega)]; simp
theorem round_some (m : Int) (hm : -20000000000000 ≤ m ∧ m ≤ 20000000000000) : length_round.f 1 m 100 = some (rz m) := by
  unfold length_round.f
  rw [if_neg (by omega)]
  simp only [length_round.j0]
  rw [if_neg (by omega)]
  unfold rz
  by_cases h : 0 ≤ m
  · rw [Int.tdiv_eq_ediv_of_nonneg h, Int.tmod_eq_emod_of_nonneg h, if_pos h]
    have e1 : wrap64 (2 * (m % 100)) = 2 * (m % 100) := by unfold wrap64; omega
    have e2 : wrap64 (m / 100) = m / 100 := by unfold wrap64; omega
    have e3 : wrap64 (-2 * (m % 100)) = -2 * (m % 100) := by unfold wrap64; omega
    have e4 : wrap64 (m / 100 + 1) = m / 100 + 1 := by unfold wrap64; omega
    rw [e1, e2, e3, e4]
    split
    · congr 1; omega
    · rw [if_neg (by omega)]; congr 1; omega
  · obtain ⟨h1, h2⟩ := tdiv_neg_ m (by omega) 100
    rw [h1, h2, if_neg h]
    have e1 : wrap64 (2 * -(-m % 100)) = 2 * -(-m % 100) := by unfold wrap64; omega
    have e2 : wrap64 (-(-m / 100)) = -(-m / 100) := by unfold wrap64; omega
    have e3 : wrap64 (-2 * -(-m % 100)) = -2 * -(-m % 100) := by unfold wrap64; omega
    have e4 : wrap64 (-(-m / 100) - 1) = -(-m / 100) - 1 := by unfold wrap64; omega
    rw [e1, e2, e3, e4, if_neg (by omega)]
    split
    · congr 1; omega
    · congr 1; omega
theorem scaleZ_eq (n p : Int) (hn : -1073741824 ≤ n ∧ n ≤ 1073741824) (hp : 0 ≤ p ∧ p ≤ 10000) : scaleZ n p = rz (n * p) := by
  have hv : length_Valid.f n = some true := by unfold length_Valid.f; rw [if_pos (by omega)]; simp; omega
  have hb : -20000000000000 ≤ n * p ∧ n * p ≤ 20000000000000 := by
    have h1 : n * p ≤ 1073741824 * 10000 := by
      rcases Int.le_total 0 n with h | h
      · exact Int.mul_le_mul hn.2 hp.2 hp.1 (by omega)
      · exact Int.le_trans (Int.mul_nonpos_of_nonpos_of_nonneg h hp.1) (by omega)
    have h2 : (-n) * p ≤ 1073741824 * 10000 := by
      rcases Int.le_total 0 n with h | h
      · exact Int.le_trans (Int.mul_nonpos_of_nonpos_of_nonneg (by omega) hp.1) (by omega)
      · exact Int.mul_le_mul (by omega) hp.2 hp.1 (by omega)
    rw [Int.neg_mul] at h2
    omega
  have e : wrap64 (n * p) = n * p := by unfold wrap64; omega
  have := scaleZ_some n p
  unfold length_Scale.f at this
  rw [hv] at this
  simp only [Option.bind_some, if_true] at this
  rw [if_neg (by omega), if_neg (by omega), e, round_some _ hb] at this
  simpa using this.symm
theorem rz_mono {a b : Int} (h : a ≤ b) : rz a ≤ rz b := by unfold rz; split <;> split <;> omega
theorem rz_neg (a : Int) : rz (-a) = -rz a := by unfold rz; split <;> split <;> omega
theorem rz_100 (n : Int) : rz (n * 100) = n := by unfold rz; split <;> omega
theorem mul_mono {n p q : Int} (h : p ≤ q) (hn : 0 ≤ n) : n * p ≤ n * q := Int.mul_le_mul_of_nonneg_left h hn


/-! ### vinculumlaw05_awake: function 10 -/
def vinculumlaw05_awake.f  : Option (Bool) := (font_Scaled.f (⟨#[120]⟩ : ByteArray) 500 431 (-11) 0 0 70).bind fun bt103 => (if bt103.2.2.2.2.2.2 = 0 then (some (bt103.1.toList == ([120] : List UInt8) && (bt103.2.1 == 350 && (bt103.2.2.1 == 302 && (bt103.2.2.2.1 == (-8) && (bt103.2.2.2.2.1 == 0 && (bt103.2.2.2.2.2.1 == 0))))))) else (some false))
set_option maxHeartbeats 8000000 in
set_option maxRecDepth 100000 in
theorem vinculumlaw05_awake.calls  (r : Bool) (w : World) (h : vinculumlaw05_awake.f  = some r) :
    Calls Try.prog 10 #[] w fun e w' => e = .returned (.bool r) ∧ Below w.heap.size w w' := by
  have hu23 := Try.underlying23
  have HB := Aside0.mk (Below.refl w.heap.size w)
  have H : ((font_Scaled.f (⟨#[120]⟩ : ByteArray) 500 431 (-11) 0 0 70).bind fun bt103 => (if bt103.2.2.2.2.2.2 = 0 then (some (bt103.1.toList == ([120] : List UInt8) && (bt103.2.1 == 350 && (bt103.2.2.1 == 302 && (bt103.2.2.2.1 == (-8) && (bt103.2.2.2.2.1 == 0 && (bt103.2.2.2.2.2.1 == 0))))))) else (some false))) = some r := h
  clear h
  replace H := Option.bind_eq_some_iff.mp H
  obtain ⟨⟨t103, t104, t105, t106, t107, t108, t109⟩, A10, H⟩ := H
  replace H : (if t109 = 0 then (some (t103.toList == ([120] : List UInt8) && (t104 == 350 && (t105 == 302 && (t106 == (-8) && (t107 == 0 && (t108 == 0))))))) else (some false)) = some r := H
  have A1 := Aside0.mk A10
  clear A10
  by_cases c2 : t109 = 0
  · rw [if_pos c2] at H
    have c2b0 : (t109 == 0) = true := beq_iff_eq.mpr c2
    have c2b1 : (t109 != 0) = false := bne_eq_false_iff_eq.mpr c2
    clear c2
    obtain rfl := Option.some.inj H
    go_enter Try.func10, Try.ntmps10
    go_wp2_with (first | ((with_reducible refine gate_callee (f := 11) rfl ?_); refine goesL_ (some 5) rfl rfl Try.func11 (by kernel_rfl) rfl #[.agg #[.string (⟨#[120]⟩ : ByteArray), .int .i64 500, .int .i64 431, .int .i64 (-11), .int .i64 0, .int .i64 0], .int .i64 70] rfl (by (try simp only [List.map_toArray, List.map_cons, List.map_nil]); first | done | rfl | (simp only [List.length_drop, List.length_take]; rfl)) ?_; (with_reducible refine (font_Scaled.calls (⟨#[120]⟩ : ByteArray) 500 431 (-11) 0 0 70 t103 t104 t105 t106 t107 t108 t109 _ A1.out).mono ?_); rintro e w3 ⟨rfl, hb⟩; refine ⟨_, rfl, ?_⟩; have n0_ := Aside0.mk (below_step (by repeat (first | (with_reducible first | exact HB.out | apply below_alloc | apply pw_below_drewN | apply below_drew1) | exact HB.out)) hb); clear HB; have HB := n0_; clear n0_; (try clear hb); (try clear hb2); (try clear hk); (try clear hi)) | ((with_reducible refine gate_dst (N := 1) rfl ?_); refine box_event ?hg (N := 1) ?hd (cs := #[.string (⟨#[]⟩ : ByteArray), .int .i64 0, .int .i64 0, .int .i64 0, .int .i64 0, .int .i64 0]) (t := 23) ?hr ?_; (case hd => rfl); (case hg => rfl); (case hr => first | (go_simp; done) | (go_simp; rfl)); intro gb110 hg w4 hbox hb; have n0_ := Aside0.mk (below_step (by repeat (first | (with_reducible first | exact HB.out | apply below_alloc | apply pw_below_drewN | apply below_drew1) | exact HB.out)) hb); have n1_ := Aside0.mk (hbox); have n2_ := Aside0.mk ((by rw [hg]; exact (below_size (by repeat (first | (with_reducible first | exact HB.out | apply below_alloc | apply pw_below_drewN | apply below_drew1) | exact HB.out))) : w.heap.size ≤ gb110)); have n3_ := Aside0.mk ((by rw [hg]; exact (below_size (by repeat (first | (with_reducible first | exact HB.out | apply below_alloc | apply pw_below_drewN | apply below_drew1) | exact HB.out))) : w.heap.size ≤ gb110)); clear HB; have HB := n0_; have BK110 := n1_; have GW110 := n2_; have GE110 := n3_; clear n0_ n1_ n2_ n3_; clear hb hbox hg; have hcz5_0 : w4.cell? ⟨gb110, 0, none⟩ = some (.string (⟨#[]⟩ : ByteArray)) := (blk_cell BK110.out 0).trans rfl; have hcz5_1 : w4.cell? ⟨gb110, 1, none⟩ = some (.int .i64 0) := (blk_cell BK110.out 1).trans rfl; have hcz5_2 : w4.cell? ⟨gb110, 2, none⟩ = some (.int .i64 0) := (blk_cell BK110.out 2).trans rfl; have hcz5_3 : w4.cell? ⟨gb110, 3, none⟩ = some (.int .i64 0) := (blk_cell BK110.out 3).trans rfl; have hcz5_4 : w4.cell? ⟨gb110, 4, none⟩ = some (.int .i64 0) := (blk_cell BK110.out 4).trans rfl; have hcz5_5 : w4.cell? ⟨gb110, 5, none⟩ = some (.int .i64 0) := (blk_cell BK110.out 5).trans rfl; have hfz5_0 := blk_frozen BK110.out 0; have hfz5_1 := blk_frozen BK110.out 1; have hfz5_2 := blk_frozen BK110.out 2; have hfz5_3 := blk_frozen BK110.out 3; have hfz5_4 := blk_frozen BK110.out 4; have hfz5_5 := blk_frozen BK110.out 5))
    go_ret
    exact ⟨by first | rfl | (simp [errW_none, errW_some] <;> rfl) | (simp [*, errW_none, errW_some] <;> rfl), by repeat (first | (with_reducible first | exact HB.out | apply below_alloc | apply pw_below_drewN | apply below_drew1 | refine below_set ?_ GE110.out) | exact HB.out)⟩
  · rw [if_neg c2] at H
    have c2b0 : (t109 == 0) = false := beq_eq_false_iff_ne.mpr c2
    have c2b1 : (t109 != 0) = true := bne_iff_ne.mpr c2
    obtain rfl := Option.some.inj H
    go_enter Try.func10, Try.ntmps10
    go_wp2_with (first | ((with_reducible refine gate_callee (f := 11) rfl ?_); refine goesL_ (some 5) rfl rfl Try.func11 (by kernel_rfl) rfl #[.agg #[.string (⟨#[120]⟩ : ByteArray), .int .i64 500, .int .i64 431, .int .i64 (-11), .int .i64 0, .int .i64 0], .int .i64 70] rfl (by (try simp only [List.map_toArray, List.map_cons, List.map_nil]); first | done | rfl | (simp only [List.length_drop, List.length_take]; rfl)) ?_; (with_reducible refine (font_Scaled.calls (⟨#[120]⟩ : ByteArray) 500 431 (-11) 0 0 70 t103 t104 t105 t106 t107 t108 t109 _ A1.out).mono ?_); rintro e w6 ⟨rfl, hb⟩; refine ⟨_, rfl, ?_⟩; have n0_ := Aside0.mk (below_step (by repeat (first | (with_reducible first | exact HB.out | apply below_alloc | apply pw_below_drewN | apply below_drew1) | exact HB.out)) hb); clear HB; have HB := n0_; clear n0_; (try clear hb); (try clear hb2); (try clear hk); (try clear hi)) | ((with_reducible refine gate_dst (N := 1) rfl ?_); refine box_event ?hg (N := 1) ?hd (cs := #[.string (⟨#[]⟩ : ByteArray), .int .i64 0, .int .i64 0, .int .i64 0, .int .i64 0, .int .i64 0]) (t := 23) ?hr ?_; (case hd => rfl); (case hg => rfl); (case hr => first | (go_simp; done) | (go_simp; rfl)); intro gb110 hg w7 hbox hb; have n0_ := Aside0.mk (below_step (by repeat (first | (with_reducible first | exact HB.out | apply below_alloc | apply pw_below_drewN | apply below_drew1) | exact HB.out)) hb); have n1_ := Aside0.mk (hbox); have n2_ := Aside0.mk ((by rw [hg]; exact (below_size (by repeat (first | (with_reducible first | exact HB.out | apply below_alloc | apply pw_below_drewN | apply below_drew1) | exact HB.out))) : w.heap.size ≤ gb110)); have n3_ := Aside0.mk ((by rw [hg]; exact (below_size (by repeat (first | (with_reducible first | exact HB.out | apply below_alloc | apply pw_below_drewN | apply below_drew1) | exact HB.out))) : w.heap.size ≤ gb110)); clear HB; have HB := n0_; have BK110 := n1_; have GW110 := n2_; have GE110 := n3_; clear n0_ n1_ n2_ n3_; clear hb hbox hg; have hcz8_0 : w7.cell? ⟨gb110, 0, none⟩ = some (.string (⟨#[]⟩ : ByteArray)) := (blk_cell BK110.out 0).trans rfl; have hcz8_1 : w7.cell? ⟨gb110, 1, none⟩ = some (.int .i64 0) := (blk_cell BK110.out 1).trans rfl; have hcz8_2 : w7.cell? ⟨gb110, 2, none⟩ = some (.int .i64 0) := (blk_cell BK110.out 2).trans rfl; have hcz8_3 : w7.cell? ⟨gb110, 3, none⟩ = some (.int .i64 0) := (blk_cell BK110.out 3).trans rfl; have hcz8_4 : w7.cell? ⟨gb110, 4, none⟩ = some (.int .i64 0) := (blk_cell BK110.out 4).trans rfl; have hcz8_5 : w7.cell? ⟨gb110, 5, none⟩ = some (.int .i64 0) := (blk_cell BK110.out 5).trans rfl; have hfz8_0 := blk_frozen BK110.out 0; have hfz8_1 := blk_frozen BK110.out 1; have hfz8_2 := blk_frozen BK110.out 2; have hfz8_3 := blk_frozen BK110.out 3; have hfz8_4 := blk_frozen BK110.out 4; have hfz8_5 := blk_frozen BK110.out 5))
    go_ret
    exact ⟨by first | rfl | (simp [errW_none, errW_some] <;> rfl) | (simp [*, errW_none, errW_some] <;> rfl), by repeat (first | (with_reducible first | exact HB.out | apply below_alloc | apply pw_below_drewN | apply below_drew1 | refine below_set ?_ GE110.out) | exact HB.out)⟩

/-! ### vinculumref05_within: function 29 -/
def vinculumref05_within.f (a0 : Int) (a1 : Int) (a2 : Int) : Option (Bool) := if a0 ≥ a1 then (some (decide (a0 ≤ a2))) else (some false)
set_option maxHeartbeats 8000000 in
set_option maxRecDepth 100000 in
theorem vinculumref05_within.calls (a0 : Int) (a1 : Int) (a2 : Int) (r : Bool) (w : World) (h : vinculumref05_within.f a0 a1 a2 = some r) :
    Calls Try.prog 29 #[.int .i64 a0, .int .i64 a1, .int .i64 a2] w fun e w' => e = .returned (.bool r) ∧ Drawn0 w w' := by
  have H : (if a0 ≥ a1 then (some (decide (a0 ≤ a2))) else (some false)) = some r := h
  clear h
  by_cases c4 : a0 ≥ a1
  · rw [if_pos c4] at H
    have c4b0 : decide (a1 ≤ a0) = true := decide_eq_true c4
    clear c4
    obtain rfl := Option.some.inj H
    go_enter Try.func29, Try.ntmps29
    go_wp2
    go_ret
    exact ⟨by first | rfl | (simp; done) | (simp [*]; done), by repeat (first | exact Drawn0.refl _ | apply Drawn0.step)⟩
  · rw [if_neg c4] at H
    have c4b0 : decide (a1 ≤ a0) = false := decide_eq_false c4
    clear c4
    obtain rfl := Option.some.inj H
    go_enter Try.func29, Try.ntmps29
    go_wp2
    go_ret
    exact ⟨by first | rfl | (simp; done) | (simp [*]; done), by repeat (first | exact Drawn0.refl _ | apply Drawn0.step)⟩

/-! ### vinculumref05_metrics: function 30 -/
def vinculumref05_metrics.l0 : Nat → List Int → Int → Option (Bool)
  | 0, _, _ => none
  | k + 1, x3, x4 => if x4 < (x3.length : Int) then (if 0 ≤ x4 then ((vinculumref05_within.f (rd x3 x4) (-20000) 20000).bind fun t116 => (if t116 = true then (vinculumref05_metrics.l0 k x3 (wrap64 (x4 + 1))) else (some false))) else (none)) else (some true)
def vinculumref05_metrics.f (k : Nat) (a0_0 : ByteArray) (a0_1 : Int) (a0_2 : Int) (a0_3 : Int) (a0_4 : Int) (a0_5 : Int) : Option (Bool) := vinculumref05_metrics.l0 k (([a0_1, a0_2, a0_3, a0_4, a0_5] : List Int)) 0
theorem vinculumref05_metrics.mono_l : ∀ k, (∀ y0 y1, LeO (vinculumref05_metrics.l0 k y0 y1) (vinculumref05_metrics.l0 (k + 1) y0 y1))
  | 0 => fun _ _ r h => by simp [vinculumref05_metrics.l0] at h
  | k + 1 => by
    have ih0 := vinculumref05_metrics.mono_l k
    · intro y0 y1
      unfold vinculumref05_metrics.l0
      repeat' first
      | (with_reducible exact ih0 _ _)
      | (with_reducible exact LeO.refl _)
      | (with_reducible exact LeO.none _)
      | (with_reducible refine LeO.ite ?_ ?_)
      | (with_reducible refine LeO.bind ?_ (fun _ => ?_))
      | exact ih0 _ _
      | exact LeO.none _
      | refine LeO.ite ?_ ?_
      | refine LeO.bind ?_ (fun _ => ?_)
theorem vinculumref05_metrics.mono : ∀ a0 a1 a2 a3 a4 a5 k, LeO (vinculumref05_metrics.f k a0 a1 a2 a3 a4 a5) (vinculumref05_metrics.f (k + 1) a0 a1 a2 a3 a4 a5) := by
  intro a0 a1 a2 a3 a4 a5 k
  have ih0 := vinculumref05_metrics.mono_l k
  unfold vinculumref05_metrics.f
  repeat' first
      | (with_reducible exact ih0 _ _)
      | (with_reducible exact LeO.refl _)
      | (with_reducible exact LeO.none _)
      | (with_reducible refine LeO.ite ?_ ?_)
      | (with_reducible refine LeO.bind ?_ (fun _ => ?_))
      | exact ih0 _ _
      | exact LeO.none _
      | refine LeO.ite ?_ ?_
      | refine LeO.bind ?_ (fun _ => ?_)
set_option maxHeartbeats 8000000 in
set_option maxRecDepth 100000 in
theorem vinculumref05_metrics.calls (k : Nat) (a0_0 : ByteArray) (a0_1 : Int) (a0_2 : Int) (a0_3 : Int) (a0_4 : Int) (a0_5 : Int) (r : Bool) (w : World) (h : vinculumref05_metrics.f k a0_0 a0_1 a0_2 a0_3 a0_4 a0_5 = some r) :
    Calls Try.prog 30 #[.agg #[.string a0_0, .int .i64 a0_1, .int .i64 a0_2, .int .i64 a0_3, .int .i64 a0_4, .int .i64 a0_5]] w fun e w' => e = .returned (.bool r) ∧ Below w.heap.size w w' := by
  have hu23 := Try.underlying23
  have HB := Aside0.mk (Below.refl w.heap.size w)
  have H : (vinculumref05_metrics.l0 k (([a0_1, a0_2, a0_3, a0_4, a0_5] : List Int)) 0) = some r := h
  clear h
  obtain ⟨y112, hy112⟩ : ∃ y_ : List Int, y_ = (([a0_1, a0_2, a0_3, a0_4, a0_5] : List Int)) := ⟨_, rfl⟩
  replace H : (vinculumref05_metrics.l0 k y112 0) = some r := by first | (rw [hy112]; with_reducible exact H) | (have H2_ := (Option.bind_some _ _).symm.trans H; rw [hy112]; with_reducible exact H2_) | (have H2_ := (Option.bind_some _ _).symm.trans H; with_reducible exact H2_) | with_reducible exact H | (rw [hy112]; exact H) | exact H
  have Ny112 := Aside0.mk hy112
  clear hy112
  have H' := Aside0.mk H
  clear H
  go_enter Try.func30, Try.ntmps30
  go_wp2_with (first | ((with_reducible refine gate_dst (N := 1) rfl ?_); refine box_event ?hg (N := 1) ?hd (cs := #[.string a0_0, .int .i64 a0_1, .int .i64 a0_2, .int .i64 a0_3, .int .i64 a0_4, .int .i64 a0_5]) (t := 23) ?hr ?_; (case hd => rfl); (case hg => rfl); (case hr => first | (go_simp; done) | (go_simp; rfl)); intro gb111 hg w2 hbox hb; have n0_ := Aside0.mk (below_step (by repeat (first | (with_reducible first | exact HB.out | apply below_alloc | apply pw_below_drewN | apply below_drew1) | exact HB.out)) hb); have n1_ := Aside0.mk (hbox); have n2_ := Aside0.mk ((by rw [hg]; exact (below_size (by repeat (first | (with_reducible first | exact HB.out | apply below_alloc | apply pw_below_drewN | apply below_drew1) | exact HB.out))) : w.heap.size ≤ gb111)); have n3_ := Aside0.mk ((by rw [hg]; exact (below_size (by repeat (first | (with_reducible first | exact HB.out | apply below_alloc | apply pw_below_drewN | apply below_drew1) | exact HB.out))) : w.heap.size ≤ gb111)); clear HB; have HB := n0_; have BK111 := n1_; have GW111 := n2_; have GE111 := n3_; clear n0_ n1_ n2_ n3_; clear hb hbox hg; have hcz3_0 : w2.cell? ⟨gb111, 0, none⟩ = some (.string a0_0) := (blk_cell BK111.out 0).trans rfl; have hcz3_1 : w2.cell? ⟨gb111, 1, none⟩ = some (.int .i64 a0_1) := (blk_cell BK111.out 1).trans rfl; have hcz3_2 : w2.cell? ⟨gb111, 2, none⟩ = some (.int .i64 a0_2) := (blk_cell BK111.out 2).trans rfl; have hcz3_3 : w2.cell? ⟨gb111, 3, none⟩ = some (.int .i64 a0_3) := (blk_cell BK111.out 3).trans rfl; have hcz3_4 : w2.cell? ⟨gb111, 4, none⟩ = some (.int .i64 a0_4) := (blk_cell BK111.out 4).trans rfl; have hcz3_5 : w2.cell? ⟨gb111, 5, none⟩ = some (.int .i64 a0_5) := (blk_cell BK111.out 5).trans rfl; have hfz3_0 := blk_frozen BK111.out 0; have hfz3_1 := blk_frozen BK111.out 1; have hfz3_2 := blk_frozen BK111.out 2; have hfz3_3 := blk_frozen BK111.out 3; have hfz3_4 := blk_frozen BK111.out 4; have hfz3_5 := blk_frozen BK111.out 5) | ((with_reducible refine gate_dst (N := 15) rfl ?_); refine Kd.R_lit (Kd.int .i64) _ 3 ?hg (N := 15) ?hd (xs := ([a0_1, a0_2, a0_3, a0_4, a0_5] : List Int)) (inner := [.int .i64 a0_1, .int .i64 a0_2, .int .i64 a0_3, .int .i64 a0_4, .int .i64 a0_5]) (ok := fun _ => True) (okp := fun _ => True) ?hr ?hp (fun _ hk => hk) trivial (Below.refl _ _) (Nat.le_refl _) (by simp) ?_; (case hd => rfl); (case hg => rfl); (case hr => first | (go_simp; done) | (go_simp; rfl)); (case hp => exact (Reps.one (show Kd.M (Kd.int .i64) _ _ _ a0_1 [.int .i64 a0_1] from rfl) (Reps.one (show Kd.M (Kd.int .i64) _ _ _ a0_2 [.int .i64 a0_2] from rfl) (Reps.one (show Kd.M (Kd.int .i64) _ _ _ a0_3 [.int .i64 a0_3] from rfl) (Reps.one (show Kd.M (Kd.int .i64) _ _ _ a0_4 [.int .i64 a0_4] from rfl) (Reps.one (show Kd.M (Kd.int .i64) _ _ _ a0_5 [.int .i64 a0_5] from rfl) (Reps.none _ _))))))); intro v113 w4 ho5 hb hg_ hnew_; clear hg_ hnew_; (first | rw [← Ny112.out] at ho5 | (simp only [Int.reduceToNat] at ho5; rw [← Ny112.out] at ho5)); have n0_ := Aside0.mk (Kd.R_lower ho5 (below_size (by repeat (first | (with_reducible first | exact HB.out | apply below_alloc | apply pw_below_drewN | apply below_drew1 | refine below_set ?_ GE111.out) | exact HB.out)))); have n1_ := Aside0.mk (blk_below (g := gb111) (o := .cells #[.string a0_0, .int .i64 a0_1, .int .i64 a0_2, .int .i64 a0_3, .int .i64 a0_4, .int .i64 a0_5] 23 (0, 0)) (by (with_reducible repeat (first | refine blk_drewN ?_ _ | refine blk_drew ?_ | refine blk_alloc ?_ _)); exact BK111.out) hb); have n2_ := Aside0.mk (below_step (by repeat (first | (with_reducible first | exact HB.out | apply below_alloc | apply pw_below_drewN | apply below_drew1 | refine below_set ?_ GE111.out) | exact HB.out)) hb); clear BK111; clear HB; have HO114 := n0_; have BK111 := n1_; have HB := n2_; clear n0_ n1_ n2_; clear hb ho5))
  go_loopg [4] k (fun kq v4 w' => ∃ (x4_1 : Int), v4 = .int .i64 x4_1 ∧ Aside0 (vinculumref05_metrics.l0 kq y112 x4_1 = some r) ∧ Aside0 (kq ≤ k) ∧ Aside0 (Kd.R (Kd.int .i64) 3 w' w.heap.size (fun _ => True) v113 y112) ∧ Aside0 (w'.heap[gb111]? = some (.cells #[.string a0_0, .int .i64 a0_1, .int .i64 a0_2, .int .i64 a0_3, .int .i64 a0_4, .int .i64 a0_5] 23 (0, 0))) ∧ Aside0 (Below w.heap.size w w'))
  case atStart => exact ⟨(0), (by first | rfl | (simp; done) | (simp [*]; done)), H', ⟨Nat.le_refl _⟩, ⟨by (with_reducible repeat (first | apply Kd.R_alloc | apply Kd.R_drewN | apply Kd.R_drew)); exact HO114.out⟩, ⟨by (with_reducible repeat (first | refine blk_drewN ?_ _ | refine blk_drew ?_ | refine blk_alloc ?_ _)); exact BK111.out⟩, ⟨by repeat (first | (with_reducible first | exact HB.out | apply below_alloc | apply pw_below_drewN | apply below_drew1 | refine below_set ?_ GE111.out) | exact HB.out)⟩⟩
  case round =>
    clear H'
    try clear p2
    try clear c3
    try clear hcz3_0
    try clear hcz3_1
    try clear hcz3_2
    try clear hcz3_3
    try clear hcz3_4
    try clear hcz3_5
    try clear hfz3_0
    try clear hfz3_1
    try clear hfz3_2
    try clear hfz3_3
    try clear hfz3_4
    try clear hfz3_5
    obtain ⟨x4_1, rfl, HA, HK1, HO_3, BK111, HB⟩ := hrel
    cases gk with
    | zero => exact absurd HA.out (by simp [vinculumref05_metrics.l0])
    | succ k1 =>
      have H := HA.out
      clear HA
      simp only [vinculumref05_metrics.l0] at H
      by_cases c6 : x4_1 < (y112.length : Int)
      · rw [if_pos c6] at H
        have c6b0 : decide (x4_1 < (y112.length : Int)) = true := decide_eq_true c6
        clear c6
        by_cases c7 : 0 ≤ x4_1
        · rw [if_pos c7] at H
          have c7b0 : decide (0 ≤ x4_1) = true := decide_eq_true c7
          clear c7
          replace H := Option.bind_eq_some_iff.mp H
          obtain ⟨t116, A80, H⟩ := H
          replace H : (if t116 = true then (vinculumref05_metrics.l0 k1 y112 (wrap64 (x4_1 + 1))) else (some false)) = some r := H
          have A8 := Aside0.mk A80
          clear A80
          by_cases c9 : t116 = true
          · subst c9
            have H1 : (vinculumref05_metrics.l0 k1 y112 (wrap64 (x4_1 + 1))) = some r := by rw [if_pos rfl] at H; exact H
            clear H
            have H := H1
            clear H1
            have H' := Aside0.mk H
            clear H
            obtain ⟨Ao10, co10, eo10⟩ := Kd.R_slice HO_3.out
            subst eo10
            have p115 : 0 ≤ (x4_1 : Int) := of_decide_eq_true (by first | (with_reducible assumption) | assumption)
            have q115 : x4_1 < (y112.length : Int) := of_decide_eq_true (by first | (with_reducible assumption) | assumption)
            obtain ⟨ad115, e115, hx115_0⟩ := Kd.at_int (Kd.R_reads' HO_3.out).2.2 x4_1 p115 q115
            cases e115
            replace p115 := eq_true p115
            replace q115 := eq_true q115
            go_wp2_with (first | ((with_reducible refine gate_callee (f := 29) rfl ?_); refine goesL_ (some 26) rfl rfl Try.func29 (by kernel_rfl) rfl #[.int .i64 (rd y112 x4_1), .int .i64 (-20000), .int .i64 20000] rfl (by (try simp only [List.map_toArray, List.map_cons, List.map_nil]); first | done | rfl | (simp only [List.length_drop, List.length_take]; rfl)) ?_; (with_reducible refine (vinculumref05_within.calls (rd y112 x4_1) (-20000) 20000 true _ A8.out).mono ?_); rintro e w' ⟨rfl, ⟨nd, rfl⟩⟩; refine ⟨_, rfl, ?_⟩))
            go_roundg k1
            case measure => have := HK1.out; omega
            case rel => exact ⟨(wrap64 (x4_1 + 1)), (by first | rfl | (simp; done) | (simp [*]; done)), H', ⟨by have := HK1.out; omega⟩, ⟨by (with_reducible repeat (first | apply Kd.R_alloc | apply Kd.R_drewN | apply Kd.R_drew)); exact HO_3.out⟩, ⟨by (with_reducible repeat (first | refine blk_drewN ?_ _ | refine blk_drew ?_ | refine blk_alloc ?_ _)); exact BK111.out⟩, ⟨by repeat (first | (with_reducible first | exact HB.out | apply below_alloc | apply pw_below_drewN | apply below_drew1 | refine below_set ?_ GE111.out) | exact HB.out)⟩⟩
          · replace c9 := Bool.eq_false_iff.mpr c9
            subst c9
            have H1 : (some false) = some r := by rw [if_neg (show ¬ (false = true) by decide)] at H; exact H
            clear H
            have H := H1
            clear H1
            obtain rfl := Option.some.inj H
            obtain ⟨Ao11, co11, eo11⟩ := Kd.R_slice HO_3.out
            subst eo11
            have p115 : 0 ≤ (x4_1 : Int) := of_decide_eq_true (by first | (with_reducible assumption) | assumption)
            have q115 : x4_1 < (y112.length : Int) := of_decide_eq_true (by first | (with_reducible assumption) | assumption)
            obtain ⟨ad115, e115, hx115_0⟩ := Kd.at_int (Kd.R_reads' HO_3.out).2.2 x4_1 p115 q115
            cases e115
            replace p115 := eq_true p115
            replace q115 := eq_true q115
            go_wp2_with (first | ((with_reducible refine gate_callee (f := 29) rfl ?_); refine goesL_ (some 26) rfl rfl Try.func29 (by kernel_rfl) rfl #[.int .i64 (rd y112 x4_1), .int .i64 (-20000), .int .i64 20000] rfl (by (try simp only [List.map_toArray, List.map_cons, List.map_nil]); first | done | rfl | (simp only [List.length_drop, List.length_take]; rfl)) ?_; (with_reducible refine (vinculumref05_within.calls (rd y112 x4_1) (-20000) 20000 false _ A8.out).mono ?_); rintro e w' ⟨rfl, ⟨nd, rfl⟩⟩; refine ⟨_, rfl, ?_⟩))
            go_ret
            exact ⟨by first | rfl | (simp [errW_none, errW_some] <;> rfl) | (simp [*, errW_none, errW_some] <;> rfl), by repeat (first | (with_reducible first | exact HB.out | apply below_alloc | apply pw_below_drewN | apply below_drew1 | refine below_set ?_ GE111.out) | exact HB.out)⟩
        · rw [if_neg c7] at H
          exact absurd H (by simp)
      · rw [if_neg c6] at H
        have c6b0 : decide (x4_1 < (y112.length : Int)) = false := decide_eq_false c6
        clear c6
        obtain rfl := Option.some.inj H
        obtain ⟨Ao12, co12, eo12⟩ := Kd.R_slice HO_3.out
        subst eo12
        go_wp2
        go_ret
        exact ⟨by first | rfl | (simp [errW_none, errW_some] <;> rfl) | (simp [*, errW_none, errW_some] <;> rfl), by repeat (first | (with_reducible first | exact HB.out | apply below_alloc | apply pw_below_drewN | apply below_drew1 | refine below_set ?_ GE111.out) | exact HB.out)⟩

end Go.Proofs.Ytdobphmkflkciaa.Q
