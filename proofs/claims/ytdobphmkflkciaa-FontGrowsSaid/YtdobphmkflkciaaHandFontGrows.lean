/- The law FontGrows returns true at every input that can be read; shown by a walk through its code over the contracts of what it calls. No further condition. -/
import Derived.Deep.RegionHeld3
import Derived.Test.YtdobphmkflkciaaQx2
import Derived.Test.YtdobphmkflkciaaOpn
import Derived.Test.YtdobphmkflkciaaXWord
namespace Go.Proofs.Ytdobphmkflkciaa.Q
open Go.RowKit Go.Proofs.Ytdobphmkflkciaa.X Go.Proofs.YtdobphmkflkciaaW.PrintWords Go.Proofs.YtdobphmkflkciaaW.PrintLast Go.Proofs.YtdobphmkflkciaaW.PrintMore
set_option linter.unusedVariables false
attribute [local go_sem] max2_int min2_int max_two min_two max_three min_three max_four min_four
set_option linter.unusedSimpArgs false
theorem vinculumlaw05_FontGrows.mono (n p q : Int) (h : p ≤ q) (hp : 1 ≤ p) (hq : q ≤ 1000) (hn : -20000 ≤ n ∧ n ≤ 20000) : (0 < scaleZ n p → scaleZ n p ≤ scaleZ n q) ∧ (scaleZ n p < 0 → scaleZ n q ≤ scaleZ n p) := by
  rw [scaleZ_eq n p (by omega) (by omega), scaleZ_eq n q (by omega) (by omega)]
  rcases Int.le_total 0 n with h0 | h0
  · have h1 := mul_mono h h0
    have h2 : 0 ≤ n * p := Int.mul_nonneg h0 (by omega)
    have h3 := rz_mono h1
    have h4 : 0 ≤ rz (n * p) := by unfold rz; split <;> omega
    exact ⟨fun _ => h3, fun _ => by omega⟩
  · have h1 := mul_mono (n := -n) h (by omega)
    have h2 : 0 ≤ -n * p := Int.mul_nonneg (by omega) (by omega)
    rw [Int.neg_mul] at h1 h2
    rw [Int.neg_mul] at h1
    have h3 : rz (n * q) ≤ rz (n * p) := rz_mono (by omega)
    have h4 : rz (n * p) ≤ 0 := by unfold rz; split <;> omega
    exact ⟨fun _ => by omega, fun _ => h3⟩
theorem vinculumlaw05_FontGrows.aw : vinculumlaw05_awake.f = some true := by
  unfold vinculumlaw05_awake.f
  have e : font_Scaled.f (⟨#[120]⟩ : ByteArray) 500 431 (-11) 0 0 70 = some (⟨#[120]⟩, 350, 302, -8, 0, 0, 0) := by
    unfold font_Scaled.f
    rw [if_neg (by omega), if_neg (by omega), if_pos (by decide)]
    rw [scaleZ_eq _ _ (by omega) (by omega), scaleZ_eq _ _ (by omega) (by omega), scaleZ_eq _ _ (by omega) (by omega), scaleZ_eq _ _ (by omega) (by omega)]
    simp [rz]
  rw [e]
  simp
set_option maxHeartbeats 8000000 in
set_option maxRecDepth 100000 in
theorem vinculumlaw05_FontGrows.law (x0 : S23) (x1 : Int) (x2 : Int)  (w : World) (ok0_ : ok23 x0) (ok1_ : (Lit.int .u16 x1).wf = true) (ok2_ : (Lit.int .u16 x2).wf = true) :
    Calls Try.prog 3 #[.agg #[.string x0.f0, .int .i64 x0.f1, .int .i64 x0.f2, .int .i64 x0.f3, .int .i64 x0.f4, .int .i64 x0.f5], .int .u16 x1, .int .u16 x2] w fun e w' => e = .returned (.bool true) ∧ Below w.heap.size w w' := by
  obtain ⟨nm, a1, a2, a3, a4, a5⟩ := x0
  obtain ⟨o0, o1, o2, o3, o4, o5⟩ := ok0_
  have b1 := bounds_u16 ok1_
  have b2 := bounds_u16 ok2_
  simp only at *
  go_enter Try.func3, Try.ntmps3
  go_upto_region 3 with (go_at_call 10; refine (vinculumlaw05_awake.calls _ _ vinculumlaw05_FontGrows.aw).mono ?_; rintro e w1 ⟨rfl, hb⟩; have q0 := Aside0.mk (blk_call (heap_alloc_new _ _) hb); have HB := Aside0.mk (bl_call (below_alloc (Below.refl _ _) _) hb); clear hb)
  go_cut [7, 8] (fun v7 v8 wc => ∃ p q : Int, v7 = .int .i64 p ∧ v8 = .int .i64 q ∧ Aside0 (1 ≤ p ∧ p ≤ 1000 ∧ 1 ≤ q ∧ q ≤ 1000) ∧ wc = w1)
  case first =>
    go_wp2
    all_goals (go_meet; case rel => exact ⟨_, _, rfl, rfl, ⟨by omega⟩, rfl⟩)
  case rest =>
  obtain ⟨p, q, rfl, rfl, HPQ, rfl⟩ := hcut
  go_upto_region 4 with (fail)
  go_cut [7, 8] (fun v7 v8 wd => ∃ p q : Int, v7 = .int .i64 p ∧ v8 = .int .i64 q ∧ Aside0 (1 ≤ p ∧ p ≤ q ∧ q ≤ 1000) ∧ wd = wc)
  case first =>
    have hpq := HPQ.out
    go_wp2
    all_goals (go_meet; case rel => exact ⟨_, _, rfl, rfl, ⟨by omega⟩, rfl⟩)
  case rest =>
  clear HPQ p q
  obtain ⟨p, q, rfl, rfl, HPQ, rfl⟩ := hcut
  obtain ⟨e0, e1, e2, e3, e4, e5⟩ := cells6 q0.out
  cases hm : [a1, a2, a3, a4, a5].all mokB
  · have bad : ∀ r : Int, 1 ≤ r → r ≤ 1000 → Aside0 (font_Scaled.f nm a1 a2 a3 a4 a5 r = some (⟨#[]⟩, 0, 0, 0, 0, 0, 1)) := fun r h1 h2 => ⟨by unfold font_Scaled.f; rw [if_neg (by omega), if_neg (by omega), hm]; rfl⟩
    clear hm
    have B1 := bad p HPQ.out.1 (by have := HPQ.out; omega)
    have B2 := bad q (by have := HPQ.out; omega) HPQ.out.2.2
    have B3 := bad 100 (by omega) (by omega)
    clear bad
    go_wp2_with fail
    refine (font_Scaled.calls _ _ _ _ _ _ _ _ _ _ _ _ _ _ _ B1.out).mono ?_
    rintro e w2 ⟨rfl, hb⟩
    have q2 := Aside0.mk (blk_al (blk_call q0.out hb) (.cells #[.string ⟨#[]⟩, .int .i64 0, .int .i64 0, .int .i64 0, .int .i64 0, .int .i64 0] 23))
    have HB2 := Aside0.mk (below_alloc (bl_call HB.out hb) (.cells #[.string ⟨#[]⟩, .int .i64 0, .int .i64 0, .int .i64 0, .int .i64 0, .int .i64 0] 23))
    clear hb e0 e1 e2 e3 e4 e5
    obtain ⟨e0, e1, e2, e3, e4, e5⟩ := cells6 q2.out
    go_wp2_with fail
    refine (font_Scaled.calls _ _ _ _ _ _ _ _ _ _ _ _ _ _ _ B2.out).mono ?_
    rintro e w3 ⟨rfl, hb⟩
    have q3 := Aside0.mk (blk_al (blk_call q2.out hb) (.cells #[.string ⟨#[]⟩, .int .i64 0, .int .i64 0, .int .i64 0, .int .i64 0, .int .i64 0] 23))
    have HB3 := Aside0.mk (below_alloc (bl_call HB2.out hb) (.cells #[.string ⟨#[]⟩, .int .i64 0, .int .i64 0, .int .i64 0, .int .i64 0, .int .i64 0] 23))
    clear hb e0 e1 e2 e3 e4 e5
    obtain ⟨e0, e1, e2, e3, e4, e5⟩ := cells6 q3.out
    go_wp2_with fail
    refine (font_Scaled.calls _ _ _ _ _ _ _ _ _ _ _ _ _ _ _ B3.out).mono ?_
    rintro e w4 ⟨rfl, hb⟩
    have q4 := Aside0.mk (blk_al (blk_call q3.out hb) (.cells #[.string ⟨#[]⟩, .int .i64 0, .int .i64 0, .int .i64 0, .int .i64 0, .int .i64 0] 23))
    have HB4 := Aside0.mk (below_alloc (bl_call HB3.out hb) (.cells #[.string ⟨#[]⟩, .int .i64 0, .int .i64 0, .int .i64 0, .int .i64 0, .int .i64 0] 23))
    clear hb e0 e1 e2 e3 e4 e5
    go_wp2
    go_ret
    exact ⟨rfl, HB4.out⟩
  · have ok : ∀ r : Int, 1 ≤ r → r ≤ 1000 → Aside0 (font_Scaled.f nm a1 a2 a3 a4 a5 r = some (nm, scaleZ a1 r, scaleZ a2 r, scaleZ a3 r, scaleZ a4 r, scaleZ a5 r, 0)) := fun r h1 h2 => ⟨by unfold font_Scaled.f; rw [if_neg (by omega), if_neg (by omega), if_pos hm]⟩
    have MO : ∀ n : Int, n ∈ [a1, a2, a3, a4, a5] → -20000 ≤ n ∧ n ≤ 20000 := fun n hn => by have := List.all_eq_true.mp hm n hn; simpa [mokB] using this
    have S1 := (scaleZ_eq a1 100 (by have := MO a1 (by simp); omega) (by omega)).trans (rz_100 a1)
    have S2 := (scaleZ_eq a2 100 (by have := MO a2 (by simp); omega) (by omega)).trans (rz_100 a2)
    have S3 := (scaleZ_eq a3 100 (by have := MO a3 (by simp); omega) (by omega)).trans (rz_100 a3)
    have S4 := (scaleZ_eq a4 100 (by have := MO a4 (by simp); omega) (by omega)).trans (rz_100 a4)
    have S5 := (scaleZ_eq a5 100 (by have := MO a5 (by simp); omega) (by omega)).trans (rz_100 a5)
    have MM : ∀ k : Nat, k < 5 → Aside0 ((0 < [scaleZ a1 p, scaleZ a2 p, scaleZ a3 p, scaleZ a4 p, scaleZ a5 p].getD k 0 → [scaleZ a1 p, scaleZ a2 p, scaleZ a3 p, scaleZ a4 p, scaleZ a5 p].getD k 0 ≤ [scaleZ a1 q, scaleZ a2 q, scaleZ a3 q, scaleZ a4 q, scaleZ a5 q].getD k 0) ∧ ([scaleZ a1 p, scaleZ a2 p, scaleZ a3 p, scaleZ a4 p, scaleZ a5 p].getD k 0 < 0 → [scaleZ a1 q, scaleZ a2 q, scaleZ a3 q, scaleZ a4 q, scaleZ a5 q].getD k 0 ≤ [scaleZ a1 p, scaleZ a2 p, scaleZ a3 p, scaleZ a4 p, scaleZ a5 p].getD k 0)) := by
      intro k hk
      have hpq := HPQ.out
      refine ⟨?_⟩
      rcases k with _ | _ | _ | _ | _ | k
      · exact vinculumlaw05_FontGrows.mono a1 p q hpq.2.1 hpq.1 hpq.2.2 (MO a1 (by simp))
      · exact vinculumlaw05_FontGrows.mono a2 p q hpq.2.1 hpq.1 hpq.2.2 (MO a2 (by simp))
      · exact vinculumlaw05_FontGrows.mono a3 p q hpq.2.1 hpq.1 hpq.2.2 (MO a3 (by simp))
      · exact vinculumlaw05_FontGrows.mono a4 p q hpq.2.1 hpq.1 hpq.2.2 (MO a4 (by simp))
      · exact vinculumlaw05_FontGrows.mono a5 p q hpq.2.1 hpq.1 hpq.2.2 (MO a5 (by simp))
      · omega
    clear hm MO
    have B1 := ok p HPQ.out.1 (by have := HPQ.out; omega)
    have B2 := ok q (by have := HPQ.out; omega) HPQ.out.2.2
    have B3 := ok 100 (by omega) (by omega)
    clear ok
    rw [S1, S2, S3, S4, S5] at B3
    clear S1 S2 S3 S4 S5
    go_wp2_with fail
    refine (font_Scaled.calls _ _ _ _ _ _ _ _ _ _ _ _ _ _ _ B1.out).mono ?_
    rintro e w2 ⟨rfl, hb⟩
    have q2 := Aside0.mk (blk_al (blk_call q0.out hb) (.cells #[.string nm, .int .i64 (scaleZ a1 p), .int .i64 (scaleZ a2 p), .int .i64 (scaleZ a3 p), .int .i64 (scaleZ a4 p), .int .i64 (scaleZ a5 p)] 23))
    have HB2 := Aside0.mk (below_alloc (bl_call HB.out hb) (.cells #[.string nm, .int .i64 (scaleZ a1 p), .int .i64 (scaleZ a2 p), .int .i64 (scaleZ a3 p), .int .i64 (scaleZ a4 p), .int .i64 (scaleZ a5 p)] 23))
    have r2 := Aside0.mk (heap_alloc_new w2 (.cells #[.string nm, .int .i64 (scaleZ a1 p), .int .i64 (scaleZ a2 p), .int .i64 (scaleZ a3 p), .int .i64 (scaleZ a4 p), .int .i64 (scaleZ a5 p)] 23))
    clear hb e0 e1 e2 e3 e4 e5
    obtain ⟨e0, e1, e2, e3, e4, e5⟩ := cells6 q2.out
    go_wp2_with fail
    refine (font_Scaled.calls _ _ _ _ _ _ _ _ _ _ _ _ _ _ _ B2.out).mono ?_
    rintro e w3 ⟨rfl, hb⟩
    have q3 := Aside0.mk (blk_al (blk_call q2.out hb) (.cells #[.string nm, .int .i64 (scaleZ a1 q), .int .i64 (scaleZ a2 q), .int .i64 (scaleZ a3 q), .int .i64 (scaleZ a4 q), .int .i64 (scaleZ a5 q)] 23))
    have HB3 := Aside0.mk (below_alloc (bl_call HB2.out hb) (.cells #[.string nm, .int .i64 (scaleZ a1 q), .int .i64 (scaleZ a2 q), .int .i64 (scaleZ a3 q), .int .i64 (scaleZ a4 q), .int .i64 (scaleZ a5 q)] 23))
    have r3 := Aside0.mk (blk_al (blk_call r2.out hb) (.cells #[.string nm, .int .i64 (scaleZ a1 q), .int .i64 (scaleZ a2 q), .int .i64 (scaleZ a3 q), .int .i64 (scaleZ a4 q), .int .i64 (scaleZ a5 q)] 23))
    have s3 := Aside0.mk (heap_alloc_new w3 (.cells #[.string nm, .int .i64 (scaleZ a1 q), .int .i64 (scaleZ a2 q), .int .i64 (scaleZ a3 q), .int .i64 (scaleZ a4 q), .int .i64 (scaleZ a5 q)] 23))
    clear hb e0 e1 e2 e3 e4 e5
    obtain ⟨e0, e1, e2, e3, e4, e5⟩ := cells6 q3.out
    go_wp2_with fail
    refine (font_Scaled.calls _ _ _ _ _ _ _ _ _ _ _ _ _ _ _ B3.out).mono ?_
    rintro e w4 ⟨rfl, hb⟩
    have q4 := Aside0.mk (blk_al (blk_call q3.out hb) (.cells #[.string nm, .int .i64 a1, .int .i64 a2, .int .i64 a3, .int .i64 a4, .int .i64 a5] 23))
    have HB4 := Aside0.mk (below_alloc (bl_call HB3.out hb) (.cells #[.string nm, .int .i64 a1, .int .i64 a2, .int .i64 a3, .int .i64 a4, .int .i64 a5] 23))
    have r4 := Aside0.mk (blk_al (blk_call r3.out hb) (.cells #[.string nm, .int .i64 a1, .int .i64 a2, .int .i64 a3, .int .i64 a4, .int .i64 a5] 23))
    have s4 := Aside0.mk (blk_al (blk_call s3.out hb) (.cells #[.string nm, .int .i64 a1, .int .i64 a2, .int .i64 a3, .int .i64 a4, .int .i64 a5] 23))
    have u4 := Aside0.mk (heap_alloc_new w4 (.cells #[.string nm, .int .i64 a1, .int .i64 a2, .int .i64 a3, .int .i64 a4, .int .i64 a5] 23))
    clear hb e0 e1 e2 e3 e4 e5
    obtain ⟨e0, e1, e2, e3, e4, e5⟩ := cells6 r4.out
    obtain ⟨f0, f1, f2, f3, f4, f5⟩ := cells6 s4.out
    go_upto_region 10 with (fail)
    generalize hW0 : w4.alloc _ = W0 at *
    clear hW0
    go_cut [15, 16] (fun v15 v16 wc => ∃ b1 b2 : Nat, v15 = .slice (some ⟨b1, 0, none⟩) 5 5 ∧ v16 = .slice (some ⟨b2, 0, none⟩) 5 5 ∧ Aside0 (wc.heap[b1]? = some (.cells #[.int .i64 (scaleZ a1 p), .int .i64 (scaleZ a2 p), .int .i64 (scaleZ a3 p), .int .i64 (scaleZ a4 p), .int .i64 (scaleZ a5 p)] 3 (0, 0))) ∧ Aside0 (wc.heap[b2]? = some (.cells #[.int .i64 (scaleZ a1 q), .int .i64 (scaleZ a2 q), .int .i64 (scaleZ a3 q), .int .i64 (scaleZ a4 q), .int .i64 (scaleZ a5 q)] 3 (0, 0))) ∧ Aside0 (wc.heap[w.heap.size]? = some (.cells #[.string nm, .int .i64 a1, .int .i64 a2, .int .i64 a3, .int .i64 a4, .int .i64 a5] 23 (0, 0))) ∧ Aside0 (wc.heap[w4.heap.size]? = some (.cells #[.string nm, .int .i64 a1, .int .i64 a2, .int .i64 a3, .int .i64 a4, .int .i64 a5] 23 (0, 0))) ∧ Aside0 (Below w.heap.size w wc))
    case first =>
      go_region_held3 (fun W' => W'.cell? ⟨w2.heap.size, 1, none⟩ = some (.int .i64 (scaleZ a1 p)) ∧ W'.cell? ⟨w2.heap.size, 2, none⟩ = some (.int .i64 (scaleZ a2 p)) ∧ W'.cell? ⟨w2.heap.size, 3, none⟩ = some (.int .i64 (scaleZ a3 p)) ∧ W'.cell? ⟨w2.heap.size, 4, none⟩ = some (.int .i64 (scaleZ a4 p)) ∧ W'.cell? ⟨w2.heap.size, 5, none⟩ = some (.int .i64 (scaleZ a5 p)) ∧ W'.cell? ⟨w3.heap.size, 1, none⟩ = some (.int .i64 (scaleZ a1 q)) ∧ W'.cell? ⟨w3.heap.size, 2, none⟩ = some (.int .i64 (scaleZ a2 q)) ∧ W'.cell? ⟨w3.heap.size, 3, none⟩ = some (.int .i64 (scaleZ a3 q)) ∧ W'.cell? ⟨w3.heap.size, 4, none⟩ = some (.int .i64 (scaleZ a4 q)) ∧ W'.cell? ⟨w3.heap.size, 5, none⟩ = some (.int .i64 (scaleZ a5 q))) (first | go_keep) (first | fail)
      · go_wp2
        go_meet
        case rel => exact ⟨_, _, rfl, rfl, ⟨blk_al (heap_alloc_new W0 _) _⟩, ⟨new2 W0 _ _⟩, ⟨blk_al (blk_al q4.out _) _⟩, ⟨blk_al (blk_al u4.out _) _⟩, ⟨below_drew (below_alloc (below_alloc HB4.out _) _)⟩⟩
      · go_wp2
        go_meet
        case rel => exact ⟨_, _, rfl, rfl, ⟨new2 W0 _ _⟩, ⟨blk_al (heap_alloc_new W0 _) _⟩, ⟨blk_al (blk_al q4.out _) _⟩, ⟨blk_al (blk_al u4.out _) _⟩, ⟨below_drew (below_alloc (below_alloc HB4.out _) _)⟩⟩
    case rest =>
      clear e0 e1 e2 e3 e4 e5 f0 f1 f2 f3 f4 f5 q4 r4 s4 u4 HB4 q2 HB2 r2 q3 HB3 r3 s3 q0 HB B1 B2 B3
      obtain ⟨d1, d2, rfl, rfl, K1, K2, K3, K4, HB⟩ := hcut
      generalize w4.heap.size = gc at K4 ⊢
      go_wp2_with fail
      go_loopw [17] (fun i wr => ∃ k : Nat, k ≤ 5 ∧ i = .int .i64 k ∧ Aside0 (wr.heap[d1]? = some (.cells #[.int .i64 (scaleZ a1 p), .int .i64 (scaleZ a2 p), .int .i64 (scaleZ a3 p), .int .i64 (scaleZ a4 p), .int .i64 (scaleZ a5 p)] 3 (0, 0))) ∧ Aside0 (wr.heap[d2]? = some (.cells #[.int .i64 (scaleZ a1 q), .int .i64 (scaleZ a2 q), .int .i64 (scaleZ a3 q), .int .i64 (scaleZ a4 q), .int .i64 (scaleZ a5 q)] 3 (0, 0))) ∧ Aside0 (wr.heap[w.heap.size]? = some (.cells #[.string nm, .int .i64 a1, .int .i64 a2, .int .i64 a3, .int .i64 a4, .int .i64 a5] 23 (0, 0))) ∧ Aside0 (wr.heap[gc]? = some (.cells #[.string nm, .int .i64 a1, .int .i64 a2, .int .i64 a3, .int .i64 a4, .int .i64 a5] 23 (0, 0))) ∧ Aside0 (Below w.heap.size w wr)) (fun i _ => 5 - (intOf i).toNat)
      case atStart => exact ⟨0, by omega, rfl, K1, K2, K3, K4, HB⟩
      case round =>
        clear K1 K2 K3 K4 HB
        obtain ⟨k, hk, rfl, Rc1, Rc2, K3, K4, HB⟩ := hrel
        by_cases hlt : k < 5
        · have MK := MM k hlt
          clear MM
          have c1 : ∀ j : Nat, j < 5 → wr.cell? ⟨d1, j, none⟩ = some (.int .i64 ([scaleZ a1 p, scaleZ a2 p, scaleZ a3 p, scaleZ a4 p, scaleZ a5 p].getD j 0)) := by
            intro j hj
            rcases j with _ | _ | _ | _ | _ | j
            all_goals first | omega | skip
            · exact Joins.cell_of_block Rc1.out 0
            · exact Joins.cell_of_block Rc1.out 1
            · exact Joins.cell_of_block Rc1.out 2
            · exact Joins.cell_of_block Rc1.out 3
            · exact Joins.cell_of_block Rc1.out 4
          have c2 : ∀ j : Nat, j < 5 → wr.cell? ⟨d2, j, none⟩ = some (.int .i64 ([scaleZ a1 q, scaleZ a2 q, scaleZ a3 q, scaleZ a4 q, scaleZ a5 q].getD j 0)) := by
            intro j hj
            rcases j with _ | _ | _ | _ | _ | j
            all_goals first | omega | skip
            · exact Joins.cell_of_block Rc2.out 0
            · exact Joins.cell_of_block Rc2.out 1
            · exact Joins.cell_of_block Rc2.out 2
            · exact Joins.cell_of_block Rc2.out 3
            · exact Joins.cell_of_block Rc2.out 4
          have c1k := c1 k hlt
          have c2k := c2 k hlt
          clear c1 c2
          generalize [scaleZ a1 p, scaleZ a2 p, scaleZ a3 p, scaleZ a4 p, scaleZ a5 p].getD k 0 = x at MK c1k
          generalize [scaleZ a1 q, scaleZ a2 q, scaleZ a3 q, scaleZ a4 q, scaleZ a5 q].getD k 0 = y at MK c2k
          have hk0 : (0 : Int) ≤ (k : Int) := by omega
          have hk5 : (k : Int) < 5 := by omega
          have hx : x < 0 ∨ x = 0 ∨ 0 < x := by omega
          rcases hx with hx | hx | hx
          · have m1 : decide (0 < x) = false := by simp; omega
            have m2 : decide (x < 0) = true := by simpa using hx
            have m3 : decide (x < y) = false := by have := MK.out.2 hx; simp; omega
            clear hx
            have MK2 := MK
            clear MK
            go_wp2_with fail
            go_quiet (fail)
            go_wp2
            go_roundw
            case rel => exact ⟨k + 1, by omega, by go_num, Rc1, Rc2, K3, K4, ⟨pw_below_drewN HB.out _⟩⟩
            case measure => simp [intOf]; omega
          · have m1 : decide (0 < x) = false := by simp; omega
            have m2 : decide (x < 0) = false := by simp; omega
            clear hx MK
            go_wp2_with fail
            go_quiet (fail)
            go_wp2
            go_roundw
            case rel => exact ⟨k + 1, by omega, by go_num, Rc1, Rc2, K3, K4, ⟨pw_below_drewN HB.out _⟩⟩
            case measure => simp [intOf]; omega
          · have m1 : decide (0 < x) = true := by simpa using hx
            have m2 : decide (x < 0) = false := by simp; omega
            have m3 : decide (y < x) = false := by have := MK.out.1 hx; simp; omega
            clear hx MK
            go_wp2_with fail
            go_quiet (fail)
            go_wp2
            go_roundw
            case rel => exact ⟨k + 1, by omega, by go_num, Rc1, Rc2, K3, K4, ⟨pw_below_drewN HB.out _⟩⟩
            case measure => simp [intOf]; omega
        · obtain ⟨e0, e1, e2, e3, e4, e5⟩ := cells6 K3.out
          obtain ⟨f0, f1, f2, f3, f4, f5⟩ := cells6 K4.out
          go_wp2
          go_ret
          exact ⟨rfl, HB.out⟩

end Go.Proofs.Ytdobphmkflkciaa.Q
