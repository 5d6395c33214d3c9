/- What is shown here: the statements on fractions, as what their functions come to. -/
import Derived.Test.YtbhojnofdeihdaaGL32
import Derived.Test.YtbhojnofdeihdaaXR
import Derived.Test.YtbhojnofdeihdaaEJ
namespace Go.Proofs.Ytbhojnofdeihdaa.E
open Go.RowKit Go.Proofs Go.ChangeShapes Go.WideShapes
set_option autoImplicit false
set_option linter.unusedVariables false
set_option linter.unusedSimpArgs false
structure Case32 where
  f : Fnt
  s : Sty
  num : Bx
  den : Bx
def Case32.c (x : Case32) : List C := x.f.c ++ (x.s.c ++ (x.num.c ++ x.den.c))
structure Case32.ok (x : Case32) : Prop where
  f : x.f.ok
  s : x.s.ok
  num : x.num.ok
  den : x.den.ok
theorem reads_Case32 {H : Type} {enc : TypeId × Value → H} {W : World} (N : Nat) : Reads enc Try.prog W N 35 (fun cc => ∃ g : Case32, cc = g.c ∧ g.ok) := by
  cases N with
  | zero => exact .zero
  | succ N =>
    refine (Reads.struct (d := _) Try.underlying35 [(27, 0), (29, 22), (33, 24), (33, 35)] rfl (by decide +kernel) (by decide +kernel)
      (.cons (o' := 22) (by decide +kernel) (reads_Font N) (.cons (o' := 24) (by decide +kernel) (reads_Style N) (.cons (o' := 35) (by decide +kernel) (reads_Box N) (.cons (o' := 46) (by decide +kernel) (reads_Box N) .nil))))).imp ?_
    rintro cc ⟨_, _, rfl, ⟨f, rfl, h0⟩, _, _, rfl, ⟨s, rfl, h1⟩, _, _, rfl, ⟨n, rfl, h2⟩, _, _, rfl, ⟨d, rfl, h3⟩, rfl⟩
    exact ⟨⟨f, s, n, d⟩, by simp [Case32.c], h0, h1, h2, h3⟩
theorem Fnt.c_len (f : Fnt) : f.c.length = 22 := rfl
theorem Sty.c_len (s : Sty) : s.c.length = 2 := rfl
theorem Bx.c_len (b : Bx) : b.c.length = 11 := by rw [Bx.c_eq]; rfl
section
variable (x : Case32)
theorem Case32.c_f : List.take 22 x.c = x.f.c := by
  unfold Case32.c; rw [List.take_append_of_le_length (by rw [Fnt.c_len]; exact Nat.le_refl _), List.take_of_length_le (by rw [Fnt.c_len]; exact Nat.le_refl _)]
theorem Case32.c_d22 : List.drop 22 x.c = x.s.c ++ (x.num.c ++ x.den.c) := by
  unfold Case32.c; rw [List.drop_append_of_le_length (by rw [Fnt.c_len]; exact Nat.le_refl _), List.drop_eq_nil_of_le (by rw [Fnt.c_len]; exact Nat.le_refl _)]; rfl
theorem Case32.c_s : List.take 2 (List.drop 22 x.c) = x.s.c := by
  rw [Case32.c_d22, List.take_append_of_le_length (by rw [Sty.c_len]; exact Nat.le_refl _), List.take_of_length_le (by rw [Sty.c_len]; exact Nat.le_refl _)]
theorem Case32.c_d24 : List.drop 24 x.c = x.num.c ++ x.den.c := by
  rw [show 24 = 22 + 2 from rfl, ← List.drop_drop, Case32.c_d22, List.drop_append_of_le_length (by rw [Sty.c_len]; exact Nat.le_refl _), List.drop_eq_nil_of_le (by rw [Sty.c_len]; exact Nat.le_refl _)]; rfl
theorem Case32.c_n : List.take 11 (List.drop 24 x.c) = x.num.c := by
  rw [Case32.c_d24, List.take_append_of_le_length (by rw [Bx.c_len]; exact Nat.le_refl _), List.take_of_length_le (by rw [Bx.c_len]; exact Nat.le_refl _)]
theorem Case32.c_den : List.take 11 (List.drop 35 x.c) = x.den.c := by
  rw [show 35 = 24 + 11 from rfl, ← List.drop_drop, Case32.c_d24, List.drop_append_of_le_length (by rw [Bx.c_len]; exact Nat.le_refl _), List.drop_eq_nil_of_le (by rw [Bx.c_len]; exact Nat.le_refl _)]
  show List.take 11 x.den.c = _
  rw [List.take_of_length_le (by rw [Bx.c_len]; exact Nat.le_refl _)]
end
def wakeF : Fnt := ⟨[], [], ⟨0, 0, 250, 40, 677, 0, 686, 0, 0, 0, 0, 0, 0, 0, 0, 70, 50, 90, 0, 0⟩⟩
theorem few_nil {f : Fnt} (h1 : f.gl = []) (h2 : f.st = []) : f.few := ⟨by simp [h1], by simp [h2], by simp [h2]⟩
theorem awake32_says : Says Try.prog hs 14 [] [.one (.bool true)] := by
  refine (frac_says wakeF (few_nil rfl rfl) ⟨0, false⟩ (Bx.rule 10 0 300) (Bx.rule 0 0 0) (ok1s_rule ⟨by omega, by omega⟩ ⟨by omega, by omega⟩ ⟨by omega, by omega⟩) (ok1s_rule ⟨by omega, by omega⟩ ⟨by omega, by omega⟩ ⟨by omega, by omega⟩)).next fun m h => ?_
  rw [R14_eq]; unfold R14
  have e : frac wakeF ⟨0, false⟩ (Bx.rule 10 0 300) (Bx.rule 0 0 0) = (fOut wakeF ⟨0, false⟩ (Bx.rule 10 0 300) (Bx.rule 0 0 0), 0) := by
    unfold frac
    rw [if_pos (by decide +kernel), if_pos (by decide +kernel)]
  rw [e] at h
  have r1 : (Bx.rule 10 0 300).c = [C.int .i64 2, C.str ⟨#[]⟩, C.int .i64 0, C.int .i64 10, C.int .i64 0, C.int .i64 300, C.int .i64 0, C.int .i64 0, C.sl [], C.int .i64 0, C.sl []] := by rw [Bx.c_eq]; rfl
  have r2 : (Bx.rule 0 0 0).c = [C.int .i64 2, C.str ⟨#[]⟩, C.int .i64 0, C.int .i64 0, C.int .i64 0, C.int .i64 0, C.int .i64 0, C.int .i64 0, C.sl [], C.int .i64 0, C.sl []] := by rw [Bx.c_eq]; rfl
  have r3 : wakeF.c = [C.sl [], C.sl [], C.int .i64 0, C.int .i64 0, C.int .i64 250, C.int .i64 40, C.int .i64 677, C.int .i64 0, C.int .i64 686, C.int .i64 0, C.int .i64 0, C.int .i64 0, C.int .i64 0, C.int .i64 0, C.int .i64 0, C.int .i64 0, C.int .i64 0, C.int .i64 70, C.int .i64 50, C.int .i64 90, C.int .i64 0, C.int .i64 0] := rfl
  rw [r1, r2, r3] at h
  unfold Sty.c at h
  rw [cb_aggI h]
  have k : (fOut wakeF ⟨0, false⟩ (Bx.rule 10 0 300) (Bx.rule 0 0 0)).kids = fKids wakeF ⟨0, false⟩ (Bx.rule 10 0 300) (Bx.rule 0 0 0) := rfl
  have y1 : fUp wakeF ⟨0, false⟩ (Bx.rule 10 0 300) = 690 := by decide +kernel
  have y2 : fY wakeF ⟨0, false⟩ = 230 := by decide +kernel
  have y3 : fW (Bx.rule 10 0 300) (Bx.rule 0 0 0) = 10 := by decide +kernel
  clear r1 r2 r3 e h
  generalize Bx.rule 10 0 300 = a at *
  generalize Bx.rule 0 0 0 = b at *
  simp [Bx.c8, Bx.c3, Bx.c7, asL_l, asI_i, k, fKids, Bx.len11, Bx.at, Bx.rule, y1, y2, y3, fOut, Bx.list]
def tame32 (x : Case32) : Bool := fewB x.f && (decide ((flat x.num).length ≤ 200) && decide ((flat x.den).length ≤ 200))
theorem kids_of {b : Bx} (h : ∀ c ∈ flat b, c.ok1) : ∀ c ∈ flat b, I64 c.kids.length := fun c hc => (h c hc).2.2.2.2.2.2.2.2.2.2.2
theorem tame32_says (x : Case32) (hk : x.ok) : Says Try.prog hs 15 [.agg 46 x.c] [.one (.bool (tame32 x))] :=
  ((Few_says x.f).and ((bFew_says x.num (kids_of (ok_flat _ hk.num)) 200 (by omega) (by omega)).and (bFew_says x.den (kids_of (ok_flat _ hk.den)) 200 (by omega) (by omega)))).next fun m h => by
    have h2 : (eng Try.prog hs m).call 32 [.agg 11 x.num.c, .one (.int .i64 200)] none = _ := h.2.1
    have h3 : (eng Try.prog hs m).call 32 [.agg 11 x.den.c, .one (.int .i64 200)] none = _ := h.2.2
    rw [R15_eq]; unfold R15 tame32
    rw [Case32.c_f, Case32.c_n, Case32.c_den, cb_bool h.1, cb_bool h2, cb_bool h3]
    cases fewB x.f <;> cases decide ((flat x.num).length ≤ 200) <;> rfl
theorem frac_ok1 {f : Fnt} {s : Sty} {num den : Bx} (kn : ∀ c ∈ flat num, c.ok1) (kd : ∀ c ∈ flat den, c.ok1) : ∀ c ∈ flat (frac f s num den).1, c.ok1 := by
  have hz : ∀ c ∈ flat Bx.zero, c.ok1 := by
    intro c hc
    rw [flat_eq, List.mem_cons] at hc
    rcases hc with e | hc
    · rw [e]
      obtain ⟨z, z2, z3, zn⟩ := I64_lits
      exact ⟨z, zn, z, z, z, z, z, z, z, by simp [Bx.zero], .le (by simp [Bx.zero]), .le (by simp [Bx.zero])⟩
    · simp [Bx.zero, flats] at hc
  unfold frac
  split
  · next h =>
    simp only [fracOK, Bool.and_eq_true] at h
    split
    · exact fOut_ok h.1.1 h.2.1 h.2.2 kn kd
    · exact hz
  · exact hz
theorem FractionMakes_true (x : Case32) (hk : x.ok) : Says Try.prog hs 3 [.agg 46 x.c] [.one (.bool true)] := by
  have kn := ok_flat _ hk.num
  have kd := ok_flat _ hk.den
  cases ht : tame32 x with
  | false =>
    refine (awake32_says.and (tame32_says x hk)).next fun m h => ?_
    rw [R3_eq]; unfold R3
    rw [cb_bool h.1, cb_bool h.2, ht]; rfl
  | true =>
    have ht' := ht
    simp only [tame32, Bool.and_eq_true, decide_eq_true_eq] at ht'
    have hf := fewB_few ht'.1
    refine ((awake32_says.and (tame32_says x hk)).and ((frac_says x.f hf x.s x.num x.den kn kd).and ((rFrac_says x.f hf hk.f x.s x.num x.den kn kd (by omega) (by omega)).and (equal_says (frac x.f x.s x.num x.den).1 (frac_ok1 kn kd))))).next fun m h => ?_
    rw [R3_eq]; unfold R3
    rw [cb_bool h.1.1, cb_bool h.1.2, ht, Case32.c_f, Case32.c_s, Case32.c_n, Case32.c_den, cb_aggI h.2.1, cb_aggI h.2.2.1, cb_bool h.2.2.2]
    simp
/-! ### made -/
section
variable (x : Case32)
theorem Case32.at_f {i : Nat} (h : i < 22) : x.c[i]? = x.f.c[i]? := by
  unfold Case32.c; rw [List.getElem?_append_left (by rw [Fnt.c_len]; exact h)]
theorem Case32.at_n {i : Nat} (h : i < 11) : x.c[24 + i]? = x.num.c[i]? := by
  have : x.c[24 + i]? = (List.drop 24 x.c)[i]? := by rw [List.getElem?_drop]
  rw [this, Case32.c_d24, List.getElem?_append_left (by rw [Bx.c_len]; exact h)]
theorem Case32.at_d {i : Nat} (h : i < 11) : x.c[35 + i]? = x.den.c[i]? := by
  have e : List.drop 35 x.c = x.den.c := by
    rw [show 35 = 24 + 11 from rfl, ← List.drop_drop, Case32.c_d24, List.drop_append_of_le_length (by rw [Bx.c_len]; exact Nat.le_refl _), List.drop_eq_nil_of_le (by rw [Bx.c_len]; exact Nat.le_refl _)]; rfl
  have : x.c[35 + i]? = (List.drop 35 x.c)[i]? := by rw [List.getElem?_drop]
  rw [this, e]
end
def made32 (x : Case32) : Bx × Bool := if (tame32 x && (modest x.num && modest x.den)) = true then ((frac x.f x.s x.num x.den).1, decide ((frac x.f x.s x.num x.den).2 = 0)) else (Bx.zero, false)
structure Made (x : Case32) : Prop where
  hv : x.f.valid = true
  hs : x.s.okB = true
  hn : x.num.valid = true
  hd : x.den.valid = true
  ho : (fOut x.f x.s x.num x.den).valid = true
  mn : modest x.num = true
  md : modest x.den = true
  few : x.f.few
theorem made32_of {x : Case32} (h : (made32 x).2 = true) : Made x ∧ (made32 x).1 = fOut x.f x.s x.num x.den := by
  unfold made32 at h ⊢
  split at h
  · next a =>
    rw [if_pos a]
    simp only [decide_eq_true_eq] at h ⊢
    simp only [Bool.and_eq_true] at a
    have hf := a.1
    simp only [tame32, Bool.and_eq_true] at hf
    unfold frac at h ⊢
    split at h
    · next b =>
      rw [if_pos b]
      split at h
      · next c =>
        rw [if_pos c]
        simp only [fracOK, Bool.and_eq_true] at b
        exact ⟨⟨b.1.1, b.1.2, b.2.1, b.2.2, c, a.2.1, a.2.2, fewB_few hf.1⟩, rfl⟩
      · simp at h
    · simp at h
  · simp at h
theorem made32_says (x : Case32) (hk : x.ok) : Says Try.prog hs 19 [.agg 46 x.c] [.agg 11 (made32 x).1.c, .one (.bool (made32 x).2)] := by
  have kn := ok_flat _ hk.num
  have kd := ok_flat _ hk.den
  have base := (tame32_says x hk).and ((Modest_says x.num (kids_of kn)).and (Modest_says x.den (kids_of kd)))
  cases ht : (tame32 x && (modest x.num && modest x.den)) with
  | false =>
    refine base.next fun m h => ?_
    rw [R19_eq]; unfold R19
    rw [Case32.c_n, Case32.c_den, cb_bool h.1, cb_bool h.2.1, cb_bool h.2.2]
    have hm : made32 x = (Bx.zero, false) := by unfold made32; rw [ht]; rfl
    rw [hm, Bx.zero_c]
    cases a : tame32 x with
    | false => rfl
    | true =>
      rw [a] at ht
      cases b : modest x.num with
      | false => rfl
      | true =>
        rw [b] at ht
        simp only [Bool.true_and] at ht
        rw [ht]; rfl
  | true =>
    have ht' := ht
    simp only [Bool.and_eq_true] at ht'
    have hf := ht'.1
    simp only [tame32, Bool.and_eq_true] at hf
    refine (base.and (frac_says x.f (fewB_few hf.1) x.s x.num x.den kn kd)).next fun m h => ?_
    rw [R19_eq]; unfold R19
    rw [Case32.c_n, Case32.c_den, Case32.c_f, Case32.c_s, cb_bool h.1.1, cb_bool h.1.2.1, cb_bool h.1.2.2, cb_aggI h.2, ht'.1, ht'.2.1, ht'.2.2]
    have hm : made32 x = ((frac x.f x.s x.num x.den).1, decide ((frac x.f x.s x.num x.den).2 = 0)) := by unfold made32; rw [if_pos ht]
    rw [hm]
    simp only [Bool.not_true, cond_false]
    by_cases q : (frac x.f x.s x.num x.den).2 = 0
    · have q2 : ((frac x.f x.s x.num x.den).2 == 0) = true := by simpa using q
      have hd2 : (made32 x).2 = true := by rw [hm]; simpa using q
      have hb := (made32_of hd2).2
      rw [hm] at hb
      simp only at hb
      have hk3 : ((((frac x.f x.s x.num x.den).1.kids.map Bx.c).length : Int) == 3) = true := by rw [hb]; rfl
      simp only [q2, cond_true, Bx.c8, asL_l, Option.bind_some, hk3, q, decide_true]
      rfl
    · have q2 : ((frac x.f x.s x.num x.den).2 == 0) = false := by simpa using q
      simp only [q2, cond_false, q, decide_false]
def kid0 (x : Case32) : Bx := x.num.at (hlf (fW x.num x.den - x.num.w)) (fUp x.f x.s x.num)
def kid1 (x : Case32) : Bx := (Bx.rule (fW x.num x.den) (parS x.f x.s x.f.par.rule) 0).at 0 (fY x.f x.s)
def kid2 (x : Case32) : Bx := x.den.at (hlf (fW x.num x.den - x.den.w)) (fLow x.f x.s x.den)
theorem out_kids (x : Case32) : (fOut x.f x.s x.num x.den).c[8]? = some (.sl [(kid0 x).c, (kid1 x).c, (kid2 x).c]) := Bx.c8 _
theorem modest_bd {b : Bx} (h : modest b = true) : (-100000000 ≤ b.w ∧ b.w ≤ 100000000) ∧ (-100000000 ≤ b.h ∧ b.h ≤ 100000000) ∧ (-100000000 ≤ b.d ∧ b.d ≤ 100000000) ∧ (-100000000 ≤ b.x ∧ b.x ≤ 100000000) ∧ (-100000000 ≤ b.y ∧ b.y ≤ 100000000) := by
  simp only [modest, List.all_cons, List.all_nil, Bool.and_true, Bool.and_eq_true, decide_eq_true_eq] at h
  exact ⟨h.1.1, h.1.2.1, h.1.2.2.1, h.1.2.2.2.1, h.1.2.2.2.2⟩
/-- What is known of the numbers of a fraction. -/
structure Nums (x : Case32) : Prop where
  up : -101000000 ≤ fUp x.f x.s x.num ∧ fUp x.f x.s x.num ≤ 101000000
  low : -101000000 ≤ fLow x.f x.s x.den ∧ fLow x.f x.s x.den ≤ 101000000
  y : -20000 ≤ fY x.f x.s ∧ fY x.f x.s ≤ 20000
  r : 0 ≤ parS x.f x.s x.f.par.rule ∧ parS x.f x.s x.f.par.rule ≤ 20000
  g : 0 ≤ fGap x.f x.s ∧ fGap x.f x.s ≤ 60000
  ax : 0 ≤ parS x.f x.s x.f.par.axis ∧ parS x.f x.s x.f.par.axis ≤ 20000
  w : 0 ≤ fW x.num x.den ∧ fW x.num x.den ≤ 100000000
  g1 : fUp x.f x.s x.num - x.num.d - (fY x.f x.s + parS x.f x.s x.f.par.rule) ≥ fGap x.f x.s
  g2 : fY x.f x.s - (fLow x.f x.s x.den + x.den.h) ≥ fGap x.f x.s
theorem Made.nums {x : Case32} (h : Made x) : Nums x := by
  obtain ⟨b1, b2, b3, b4, b5, b6, b7, b8, b9, b10, b11, b12⟩ := frac_bd (s := x.s) h.hv
  obtain ⟨n1, n2, n3, _, _⟩ := modest_bd h.mn
  obtain ⟨d1, d2, d3, _, _⟩ := modest_bd h.md
  refine ⟨?_, ?_, ⟨b11, b12⟩, ⟨b1, b2⟩, ⟨b3, b4⟩, ⟨b9, b10⟩, ?_, ?_, ?_⟩
  · unfold fUp fTop; split <;> omega
  · unfold fLow; split <;> omega
  · unfold fW; omega
  · unfold fUp fTop; split <;> omega
  · unfold fLow; split <;> omega
theorem FractionGaps_true (x : Case32) (hk : x.ok) : Says Try.prog hs 4 [.agg 46 x.c] [.one (.bool true)] := by
  have base := awake32_says.and (made32_says x hk)
  cases hm : (made32 x).2 with
  | false =>
    refine base.next fun m h => ?_
    rw [R4_eq]; unfold R4
    rw [cb_bool h.1, cb_aggB h.2, hm]; rfl
  | true =>
    obtain ⟨M, hb⟩ := made32_of hm
    have N := M.nums
    obtain ⟨n1, n2, n3, _, _⟩ := modest_bd M.mn
    obtain ⟨d1, d2, d3, _, _⟩ := modest_bd M.md
    refine (base.and (Gap_says x.f x.s M.hv M.hs)).next fun m h => ?_
    rw [R4_eq]; unfold R4
    rw [cb_bool h.1.1, cb_aggB h.1.2, hm, hb, Case32.c_f, Case32.c_s]
    simp only [Bool.not_true, cond_false, out_kids, asL_l, Option.bind_some, List.getElem?_cons_zero, List.getElem?_cons_succ, Bx.len11, cond_true]
    rw [cb_II h.2]
    simp only [Bx.c7, Bx.c5, Bx.c4, asI_i, Option.bind_some]
    have y1 : (kid1 x).y = fY x.f x.s := rfl
    have y0 : (kid0 x).y = fUp x.f x.s x.num := rfl
    have y2 : (kid2 x).y = fLow x.f x.s x.den := rfl
    have z0 : (kid0 x).d = x.num.d := rfl
    have z1 : (kid1 x).h = parS x.f x.s x.f.par.rule := rfl
    have z2 : (kid2 x).h = x.den.h := rfl
    rw [y0, y1, y2, z0, z1, z2]
    obtain ⟨⟨u1, u2⟩, ⟨l1, l2⟩, ⟨q1, q2⟩, ⟨r1, r2⟩, ⟨g1, g2⟩, _, _, G1, G2⟩ := N
    have w1 : IntKind.i64.wrap (fUp x.f x.s x.num - x.num.d) = fUp x.f x.s x.num - x.num.d := wr_id ⟨by omega, by omega⟩
    have w2 : IntKind.i64.wrap (fY x.f x.s + parS x.f x.s x.f.par.rule) = fY x.f x.s + parS x.f x.s x.f.par.rule := wr_id ⟨by omega, by omega⟩
    have w3 : IntKind.i64.wrap (fUp x.f x.s x.num - x.num.d - (fY x.f x.s + parS x.f x.s x.f.par.rule)) = fUp x.f x.s x.num - x.num.d - (fY x.f x.s + parS x.f x.s x.f.par.rule) := wr_id ⟨by omega, by omega⟩
    have w4 : IntKind.i64.wrap (fLow x.f x.s x.den + x.den.h) = fLow x.f x.s x.den + x.den.h := wr_id ⟨by omega, by omega⟩
    have w5 : IntKind.i64.wrap (fY x.f x.s - (fLow x.f x.s x.den + x.den.h)) = fY x.f x.s - (fLow x.f x.s x.den + x.den.h) := wr_id ⟨by omega, by omega⟩
    simp only [w1, w2, w3, w4, w5, beq_self_eq_true, cond_true, G1, G2, decide_true]
theorem hlf_mid {n : Int} (h : isLen n = true) : -1 ≤ 2 * hlf n - n ∧ 2 * hlf n - n ≤ 1 := by
  unfold hlf; rw [if_pos h]
  simp only [isLen, Bool.and_eq_true, decide_eq_true_eq] at h
  unfold rd; split <;> omega
theorem isLen_of {n : Int} (h : -1073741824 ≤ n) (h2 : n ≤ 1073741824) : isLen n = true := by simp [isLen, h, h2]
theorem FractionCentred_true (x : Case32) (hk : x.ok) : Says Try.prog hs 5 [.agg 46 x.c] [.one (.bool true)] := by
  have base := awake32_says.and (made32_says x hk)
  cases hm : (made32 x).2 with
  | false =>
    refine base.next fun m h => ?_
    rw [R5_eq]; unfold R5
    rw [cb_bool h.1, cb_aggB h.2, hm]; rfl
  | true =>
    obtain ⟨M, hb⟩ := made32_of hm
    obtain ⟨⟨u1, u2⟩, ⟨l1, l2⟩, ⟨q1, q2⟩, ⟨r1, r2⟩, ⟨g1, g2⟩, ⟨x1, x2⟩, ⟨v1, v2⟩, G1, G2⟩ := M.nums
    obtain ⟨n1, n2, n3, _, _⟩ := modest_bd M.mn
    obtain ⟨d1, d2, d3, _, _⟩ := modest_bd M.md
    have B : (fOut x.f x.s x.num x.den).w = fW x.num x.den := rfl
    have e4 : x.c[4]? = some (.int .i64 x.f.par.axis) := by rw [Case32.at_f x (by omega)]; rfl
    -- a kid in the middle
    have step : ∀ (k : Bx) (i : Nat), i < 3 → [(kid0 x).c, (kid1 x).c, (kid2 x).c][i]? = some k.c → -1 ≤ 2 * k.x + k.w - fW x.num x.den → 2 * k.x + k.w - fW x.num x.den ≤ 1 → -200000000 ≤ k.x → k.x ≤ 200000000 → -200000000 ≤ k.w → k.w ≤ 200000000 → ∀ (r : Res),
        (Ev fun m => (eng Try.prog hs m).loop (lp Try.f5 7) (S5_7 ((i : Int) + 1) x.c (fOut x.f x.s x.num x.den).c) = some r) →
        Ev fun m => (eng Try.prog hs m).loop (lp Try.f5 7) (S5_7 i x.c (fOut x.f x.s x.num x.den).c) = some r := by
      intro k i hi hki a1 a2 a3 a4 a5 a6 r h0
      refine h0.next fun m h => ?_
      rw [L5_7_eq]; unfold L5_7
      have c1 : ((i : Int) < 3) := by omega
      have c2 : ((0 : Int) ≤ (i : Int)) := by omega
      have c3 : ((i : Int)).toNat = i := by omega
      have w0 : IntKind.i64.wrap ((i : Int) + 1) = (i : Int) + 1 := wr_id ⟨by omega, by omega⟩
      have w1 : IntKind.i64.wrap (2 * k.x) = 2 * k.x := wr_id ⟨by omega, by omega⟩
      have w2 : IntKind.i64.wrap (2 * k.x + k.w) = 2 * k.x + k.w := wr_id ⟨by omega, by omega⟩
      have w3 : IntKind.i64.wrap (2 * k.x + k.w - fW x.num x.den) = 2 * k.x + k.w - fW x.num x.den := wr_id ⟨by omega, by omega⟩
      have z1 : ¬ (2 * k.x + k.w - fW x.num x.den < -1) := by omega
      have z2 : ¬ (2 * k.x + k.w - fW x.num x.den > 1) := by omega
      simp only [c1, c2, c3, decide_true, cond_true, Bool.true_and, out_kids, asL_l, Option.bind_some, hki, Bx.len11, Bx.c6, Bx.c3, asI_i, B, w0, w1, w2, w3, z1, z2, decide_false, cond_false, h]
    have h0 := hlf_mid (isLen_of (n := fW x.num x.den - x.num.w) (by omega) (by omega))
    have h2 := hlf_mid (isLen_of (n := fW x.num x.den - x.den.w) (by omega) (by omega))
    have hr := hlf_mid (isLen_of (n := parS x.f x.s x.f.par.rule) (by omega) (by omega))
    have l3 : Ev fun m => (eng Try.prog hs m).loop (lp Try.f5 7) (S5_7 3 x.c (fOut x.f x.s x.num x.den).c) = some (.ret [.one (.bool true)] none) := by
      refine (Par_says x.f x.s M.hs x.f.par.axis).next fun m h => ?_
      rw [L5_7_eq]; unfold L5_7
      have c1 : ¬ ((3 : Int) < 3) := by omega
      simp only [c1, decide_false, cond_false, out_kids, asL_l, Option.bind_some, List.getElem?_cons_zero, List.getElem?_cons_succ, Bx.len11, cond_true, Bx.c7, Bx.c4, asI_i, e4, Case32.c_f, Case32.c_s]
      rw [cb_int h]
      simp only [Bx.c6, Bx.c3, Bx.c5, asI_i, Option.bind_some, B]
      have y1 : (kid1 x).y = fY x.f x.s := rfl
      have z1 : (kid1 x).h = parS x.f x.s x.f.par.rule := rfl
      have z2 : (kid1 x).x = 0 := rfl
      have z3 : (kid1 x).w = fW x.num x.den := rfl
      have z4 : (kid1 x).d = 0 := rfl
      rw [y1, z1, z2, z3, z4]
      have w1 : IntKind.i64.wrap (2 * fY x.f x.s) = 2 * fY x.f x.s := wr_id ⟨by omega, by omega⟩
      have w2 : IntKind.i64.wrap (2 * fY x.f x.s + parS x.f x.s x.f.par.rule) = 2 * fY x.f x.s + parS x.f x.s x.f.par.rule := wr_id ⟨by omega, by omega⟩
      have w3 : IntKind.i64.wrap (2 * parS x.f x.s x.f.par.axis) = 2 * parS x.f x.s x.f.par.axis := wr_id ⟨by omega, by omega⟩
      have w4 : IntKind.i64.wrap (2 * fY x.f x.s + parS x.f x.s x.f.par.rule - 2 * parS x.f x.s x.f.par.axis) = 2 * fY x.f x.s + parS x.f x.s x.f.par.rule - 2 * parS x.f x.s x.f.par.axis := wr_id ⟨by omega, by omega⟩
      have t1 : 2 * fY x.f x.s + parS x.f x.s x.f.par.rule - 2 * parS x.f x.s x.f.par.axis ≥ -1 := by unfold fY; omega
      have t2 : 2 * fY x.f x.s + parS x.f x.s x.f.par.rule - 2 * parS x.f x.s x.f.par.axis ≤ 1 := by unfold fY; omega
      simp only [w1, w2, w3, w4, beq_self_eq_true, cond_true, t1, t2, decide_true]
    have k0x : (kid0 x).x = hlf (fW x.num x.den - x.num.w) := rfl
    have k0w : (kid0 x).w = x.num.w := rfl
    have k2x : (kid2 x).x = hlf (fW x.num x.den - x.den.w) := rfl
    have k2w : (kid2 x).w = x.den.w := rfl
    have k1x : (kid1 x).x = 0 := rfl
    have k1w : (kid1 x).w = fW x.num x.den := rfl
    have l2 := step (kid2 x) 2 (by omega) rfl (by rw [k2x, k2w]; omega) (by rw [k2x, k2w]; omega) (by rw [k2x]; omega) (by rw [k2x]; omega) (by rw [k2w]; omega) (by rw [k2w]; omega) _ l3
    have l1 := step (kid1 x) 1 (by omega) rfl (by rw [k1x, k1w]; omega) (by rw [k1x, k1w]; omega) (by rw [k1x]; omega) (by rw [k1x]; omega) (by rw [k1w]; omega) (by rw [k1w]; omega) _ l2
    have l0 := step (kid0 x) 0 (by omega) rfl (by rw [k0x, k0w]; omega) (by rw [k0x, k0w]; omega) (by rw [k0x]; omega) (by rw [k0x]; omega) (by rw [k0w]; omega) (by rw [k0w]; omega) _ l1
    refine (base.and l0).next fun m h => ?_
    rw [R5_eq]; unfold R5
    rw [cb_bool h.1.1, cb_aggB h.1.2, hm, hb]
    exact h.2
theorem FractionInside_true (x : Case32) (hk : x.ok) : Says Try.prog hs 6 [.agg 46 x.c] [.one (.bool true)] := by
  have base := awake32_says.and (made32_says x hk)
  cases hm : (made32 x).2 with
  | false =>
    refine base.next fun m h => ?_
    rw [R6_eq]; unfold R6
    rw [cb_bool h.1, cb_aggB h.2, hm]; rfl
  | true =>
    obtain ⟨M, hb⟩ := made32_of hm
    obtain ⟨⟨u1, u2⟩, ⟨l1, l2⟩, ⟨q1, q2⟩, ⟨r1, r2⟩, ⟨g1, g2⟩, ⟨x1, x2⟩, ⟨v1, v2⟩, G1, G2⟩ := M.nums
    obtain ⟨n1, n2, n3, _, _⟩ := modest_bd M.mn
    obtain ⟨d1, d2, d3, _, _⟩ := modest_bd M.md
    have B : (fOut x.f x.s x.num x.den).w = fW x.num x.den := rfl
    have BH : (fOut x.f x.s x.num x.den).h = max (fUp x.f x.s x.num + x.num.h) (fTop x.f x.s) := rfl
    have BD : (fOut x.f x.s x.num x.den).d = max (x.den.d - fLow x.f x.s x.den) (0 - fY x.f x.s) := rfl
    have step : ∀ (k : Bx) (i : Nat), i < 3 → [(kid0 x).c, (kid1 x).c, (kid2 x).c][i]? = some k.c → (k.w ≥ 0 → 0 ≤ k.x ∧ k.x + k.w ≤ fW x.num x.den) → -2000000000 ≤ k.x → k.x ≤ 2000000000 → -200000000 ≤ k.w → k.w ≤ 200000000 → ∀ (r : Res),
        (Ev fun m => (eng Try.prog hs m).loop (lp Try.f6 7) (S6_7 ((i : Int) + 1) (fOut x.f x.s x.num x.den).c) = some r) →
        Ev fun m => (eng Try.prog hs m).loop (lp Try.f6 7) (S6_7 i (fOut x.f x.s x.num x.den).c) = some r := by
      intro k i hi hki a1 a3 a4 a5 a6 r h0
      refine h0.next fun m h => ?_
      rw [L6_7_eq]; unfold L6_7
      have c1 : ((i : Int) < 3) := by omega
      have c2 : ((0 : Int) ≤ (i : Int)) := by omega
      have c3 : ((i : Int)).toNat = i := by omega
      have w0 : IntKind.i64.wrap ((i : Int) + 1) = (i : Int) + 1 := wr_id ⟨by omega, by omega⟩
      have w1 : IntKind.i64.wrap (k.x + k.w) = k.x + k.w := wr_id ⟨by omega, by omega⟩
      simp only [c1, c2, c3, decide_true, cond_true, Bool.true_and, out_kids, asL_l, Option.bind_some, hki, Bx.len11, Bx.c6, Bx.c3, asI_i, B, w0, w1, h]
      by_cases z : k.w ≥ 0
      · obtain ⟨a7, a8⟩ := a1 z
        have z1 : ¬ k.x < 0 := by omega
        have z2 : ¬ (k.x + k.w > fW x.num x.den) := by omega
        simp only [z, z1, z2, decide_true, decide_false, cond_true, cond_false]
      · simp only [z, decide_false, cond_false]
    have h0 := hlf_mid (isLen_of (n := fW x.num x.den - x.num.w) (by omega) (by omega))
    have h2 := hlf_mid (isLen_of (n := fW x.num x.den - x.den.w) (by omega) (by omega))
    have i0 : 0 ≤ fW x.num x.den - x.num.w := by unfold fW; omega
    have i2 : 0 ≤ fW x.num x.den - x.den.w := by unfold fW; omega
    have l3 : Ev fun m => (eng Try.prog hs m).loop (lp Try.f6 7) (S6_7 3 (fOut x.f x.s x.num x.den).c) = some (.ret [.one (.bool true)] none) := by
      refine Ev.step fun m => ?_
      rw [L6_7_eq]; unfold L6_7
      have c1 : ¬ ((3 : Int) < 3) := by omega
      have y0 : (kid0 x).y = fUp x.f x.s x.num := rfl
      have y1 : (kid1 x).y = fY x.f x.s := rfl
      have y2 : (kid2 x).y = fLow x.f x.s x.den := rfl
      have z0 : (kid0 x).h = x.num.h := rfl
      have z1 : (kid1 x).h = parS x.f x.s x.f.par.rule := rfl
      have z2 : (kid2 x).d = x.den.d := rfl
      have w1 : IntKind.i64.wrap (fUp x.f x.s x.num + x.num.h) = fUp x.f x.s x.num + x.num.h := wr_id ⟨by omega, by omega⟩
      have w2 : IntKind.i64.wrap (fY x.f x.s + parS x.f x.s x.f.par.rule) = fTop x.f x.s := by rw [wr_id ⟨by omega, by omega⟩]; rfl
      have w3 : IntKind.i64.wrap (x.den.d - fLow x.f x.s x.den) = x.den.d - fLow x.f x.s x.den := wr_id ⟨by omega, by omega⟩
      have w4 : IntKind.i64.wrap (0 - fY x.f x.s) = 0 - fY x.f x.s := wr_id ⟨by omega, by omega⟩
      have t1 : fUp x.f x.s x.num + x.num.h ≤ max (fUp x.f x.s x.num + x.num.h) (fTop x.f x.s) := by omega
      have t2 : fTop x.f x.s ≤ max (fUp x.f x.s x.num + x.num.h) (fTop x.f x.s) := by omega
      have t3 : x.den.d - fLow x.f x.s x.den ≤ max (x.den.d - fLow x.f x.s x.den) (0 - fY x.f x.s) := by omega
      have t4 : 0 - fY x.f x.s ≤ max (x.den.d - fLow x.f x.s x.den) (0 - fY x.f x.s) := by omega
      have t5 : fW x.num x.den ≥ 0 := v1
      simp only [c1, decide_false, cond_false, out_kids, asL_l, Option.bind_some, List.getElem?_cons_zero, List.getElem?_cons_succ, Bx.len11, cond_true, Bx.c7, Bx.c4, Bx.c5, Bx.c3, asI_i, B, BH, BD, y0, y1, y2, z0, z1, z2, w1, w2, w3, w4, t1, t2, t3, t4, t5, decide_true]
    have k0x : (kid0 x).x = hlf (fW x.num x.den - x.num.w) := rfl
    have k0w : (kid0 x).w = x.num.w := rfl
    have k2x : (kid2 x).x = hlf (fW x.num x.den - x.den.w) := rfl
    have k2w : (kid2 x).w = x.den.w := rfl
    have k1x : (kid1 x).x = 0 := rfl
    have k1w : (kid1 x).w = fW x.num x.den := rfl
    have l2 := step (kid2 x) 2 (by omega) rfl (by rw [k2x, k2w]; omega) (by rw [k2x]; omega) (by rw [k2x]; omega) (by rw [k2w]; omega) (by rw [k2w]; omega) _ l3
    have l1 := step (kid1 x) 1 (by omega) rfl (by rw [k1x, k1w]; omega) (by rw [k1x]; omega) (by rw [k1x]; omega) (by rw [k1w]; omega) (by rw [k1w]; omega) _ l2
    have l0 := step (kid0 x) 0 (by omega) rfl (by rw [k0x, k0w]; omega) (by rw [k0x]; omega) (by rw [k0x]; omega) (by rw [k0w]; omega) (by rw [k0w]; omega) _ l1
    refine (base.and l0).next fun m h => ?_
    rw [R6_eq]; unfold R6
    rw [cb_bool h.1.1, cb_aggB h.1.2, hm, hb]
    exact h.2
theorem at_at (b : Bx) (x y : Int) : (b.at x y).at b.x b.y = b := by cases b; rfl
theorem FractionKeeps_true (x : Case32) (hk : x.ok) : Says Try.prog hs 8 [.agg 46 x.c] [.one (.bool true)] := by
  have kn := ok_flat _ hk.num
  have kd := ok_flat _ hk.den
  have base := awake32_says.and (made32_says x hk)
  cases hm : (made32 x).2 with
  | false =>
    refine base.next fun m h => ?_
    rw [R8_eq]; unfold R8
    rw [cb_bool h.1, cb_aggB h.2, hm]; rfl
  | true =>
    obtain ⟨M, hb⟩ := made32_of hm
    refine (base.and ((boxValid_says (fOut x.f x.s x.num x.den) (fOut_ok M.hv M.hn M.hd kn kd)).and ((rAt_says (kid0 x) x.num.x x.num.y).and ((rAt_says (kid2 x) x.den.x x.den.y).and ((equal_says x.num kn).and (equal_says x.den kd)))))).next fun m h => ?_
    obtain ⟨⟨h1, h2⟩, h3, h4, h5, h6, h7⟩ := h
    rw [R8_eq]; unfold R8
    have e30 : x.c[30]? = some (.int .i64 x.num.x) := by rw [show 30 = 24 + 6 from rfl, Case32.at_n x (by omega), Bx.c6]
    have e31 : x.c[31]? = some (.int .i64 x.num.y) := by rw [show 31 = 24 + 7 from rfl, Case32.at_n x (by omega), Bx.c7]
    have e41 : x.c[41]? = some (.int .i64 x.den.x) := by rw [show 41 = 35 + 6 from rfl, Case32.at_d x (by omega), Bx.c6]
    have e42 : x.c[42]? = some (.int .i64 x.den.y) := by rw [show 42 = 35 + 7 from rfl, Case32.at_d x (by omega), Bx.c7]
    have a0 : (kid0 x).at x.num.x x.num.y = x.num := at_at x.num _ _
    have a2 : (kid2 x).at x.den.x x.den.y = x.den := at_at x.den _ _
    have kk : (fOut x.f x.s x.num x.den).kind = 3 := rfl
    rw [a0] at h4
    rw [a2] at h5
    rw [M.ho] at h3
    rw [cb_bool h1, cb_aggB h2, hm, hb]
    simp only [Bool.not_true, cond_false, out_kids, asL_l, Option.bind_some, List.getElem?_cons_zero, List.getElem?_cons_succ, Bx.len11, cond_true, Bx.c0, asI_i, kk, beq_self_eq_true, e30, e31, e41, e42, Case32.c_n, Case32.c_den]
    rw [cb_bool h3]
    simp only [cond_true]
    rw [cb_agg h4, cb_bool h6]
    simp only [cond_true]
    rw [cb_agg h5, cb_bool h7]
theorem Case32.c_len (x : Case32) : x.c.length = 46 := by
  unfold Case32.c; rw [List.length_append, List.length_append, List.length_append, Fnt.c_len, Sty.c_len, Bx.c_len, Bx.c_len]
def dn (b : Bx) (e : Int) : Bx := ⟨b.kind, b.name, b.size, b.w, b.h, b.d + e, b.x, b.y, b.kids, b.of, b.src⟩
def upw (b : Bx) (e : Int) : Bx := ⟨b.kind, b.name, b.size, b.w, b.h + e, b.d, b.x, b.y, b.kids, b.of, b.src⟩
theorem prp_dims {b : Bx} (h : prpB b = true) {w h' d x y : Int} (hd : (isLen w && isLen h' && isLen d && isLen x && isLen y) = true) : prpB ⟨b.kind, b.name, b.size, w, h', d, x, y, b.kids, b.of, b.src⟩ = true := by
  unfold prpB at h
  rw [Bool.and_eq_true] at h
  show (isLen w && isLen h' && isLen d && isLen x && isLen y && (kindB b && srcB b)) = true
  rw [hd, h.2]; rfl
theorem swap1 {b b' : Bx} (hv : b.valid = true) (hk : b'.kids = b.kids) (hp : prpB b' = true) : b'.valid = true := by
  unfold Bx.valid at hv ⊢
  rw [flat_eq, dep_eq] at hv ⊢
  rw [hk]
  simp only [List.all_cons, hp, Bool.true_and, List.length_cons, Bool.and_eq_true] at hv ⊢
  exact ⟨⟨hv.1.1, hv.1.2.2⟩, hv.2⟩
theorem flats3 (a b c : Bx) : flats [a, b, c] = (a :: flats a.kids) ++ ((b :: flats b.kids) ++ ((c :: flats c.kids) ++ [])) := by
  show flat a ++ (flat b ++ (flat c ++ [])) = _
  rw [flat_eq a, flat_eq b, flat_eq c]
theorem deps3 (a b c : Bx) : deps [a, b, c] = max (deps a.kids + 1) (max (deps b.kids + 1) (max (deps c.kids + 1) 0)) := by
  show max (dep a) (max (dep b) (max (dep c) 0)) = _
  rw [dep_eq a, dep_eq b, dep_eq c]
theorem swap3 {w h d w' h' d' : Int} {a b c a' b' c' : Bx} (hv : (Bx.list w h d [a, b, c]).valid = true) (ha : a'.kids = a.kids) (hb : b'.kids = b.kids) (hc : c'.kids = c.kids) (pa : prpB a = true → prpB a' = true) (pb : prpB b = true → prpB b' = true) (pc : prpB c = true → prpB c' = true)
    (hl : (isLen w' && isLen h' && isLen d' && isLen 0 && isLen 0) = true) : (Bx.list w' h' d' [a', b', c']).valid = true := by
  unfold Bx.valid at hv ⊢
  rw [flat_eq, dep_eq] at hv ⊢
  have k1 : (Bx.list w h d [a, b, c]).kids = [a, b, c] := rfl
  have k2 : (Bx.list w' h' d' [a', b', c']).kids = [a', b', c'] := rfl
  have p0 : prpB (Bx.list w h d [a, b, c]) = true → prpB (Bx.list w' h' d' [a', b', c']) = true := fun q => by
    unfold prpB at q ⊢
    rw [Bool.and_eq_true] at q
    rw [show dimB (Bx.list w' h' d' [a', b', c']) = (isLen w' && isLen h' && isLen d' && isLen 0 && isLen 0) from rfl, hl]
    exact q.2
  rw [k1, flats3, deps3] at hv
  rw [k2, flats3, deps3, ha, hb, hc]
  simp only [List.all_cons, List.all_append, List.length_cons, List.length_append, Bool.and_eq_true] at hv ⊢
  obtain ⟨⟨h1, h2, ⟨h3, h4⟩, ⟨h5, h6⟩, ⟨h7, h8⟩, h9⟩, h10⟩ := hv
  exact ⟨⟨h1, p0 h2, ⟨pa h3, h4⟩, ⟨pb h5, h6⟩, ⟨pc h7, h8⟩, h9⟩, h10⟩
theorem ok1s_dims {b : Bx} (hk : ∀ c ∈ flat b, c.ok1) {w h d : Int} (hw : I64 w) (hh : I64 h) (hd : I64 d) : ∀ c ∈ flat (⟨b.kind, b.name, b.size, w, h, d, b.x, b.y, b.kids, b.of, b.src⟩ : Bx), c.ok1 := by
  intro c hc
  rw [flat_eq, List.mem_cons] at hc
  rcases hc with e | hc
  · obtain ⟨z1, z2, z3, z4, z5, z6, z7, z8, z9, z10, z11, z12⟩ := hk b (by rw [flat_eq]; simp)
    rw [e]
    exact ⟨z1, z2, z3, hw, hh, hd, z7, z8, z9, z10, z11, z12⟩
  · exact hk c (by rw [flat_eq]; simp [hc])
theorem u16_of_wf {n : Int} (h : (Lit.int .u16 n).wf = true) : 0 ≤ n ∧ n ≤ 65535 := by
  have h1 : IntKind.u16.min = 0 := by decide
  have h2 : IntKind.u16.max = 65535 := by decide
  simp only [Lit.wf, h1, h2, Bool.and_eq_true, decide_eq_true_eq] at h
  exact h
theorem set_n (x : Case32) (v : C) : List.take 11 (List.drop 24 (x.c.set 29 v)) = x.num.c.set 5 v := by
  rw [List.drop_set, if_neg (by omega), List.take_set, Case32.c_n]
theorem set_d (x : Case32) (v : C) : List.take 11 (List.drop 35 (x.c.set 39 v)) = x.den.c.set 4 v := by
  rw [List.drop_set, if_neg (by omega), List.take_set, Case32.c_den]
theorem dn_c (b : Bx) (e : Int) : b.c.set 5 (.int .i64 (b.d + e)) = (dn b e).c := by rw [Bx.c_eq, Bx.c_eq]; rfl
theorem upw_c (b : Bx) (e : Int) : b.c.set 4 (.int .i64 (b.h + e)) = (upw b e).c := by rw [Bx.c_eq, Bx.c_eq]; rfl
theorem lens3 {w h d : Int} (hw : -1073741824 ≤ w ∧ w ≤ 1073741824) (hh : -1073741824 ≤ h ∧ h ≤ 1073741824) (hd : -1073741824 ≤ d ∧ d ≤ 1073741824) {x y : Int} (hx : -1073741824 ≤ x ∧ x ≤ 1073741824) (hy : -1073741824 ≤ y ∧ y ≤ 1073741824) : (isLen w && isLen h && isLen d && isLen x && isLen y) = true := by
  rw [isLen_of hw.1 hw.2, isLen_of hh.1 hh.2, isLen_of hd.1 hd.2, isLen_of hx.1 hx.2, isLen_of hy.1 hy.2]; rfl
theorem deep_frac {x : Case32} (M : Made x) {e : Int} (e0 : 0 ≤ e) (e1 : e ≤ 65535) : frac x.f x.s (dn x.num e) x.den = (fOut x.f x.s (dn x.num e) x.den, 0) := by
  obtain ⟨⟨u1, u2⟩, ⟨l1, l2⟩, ⟨q1, q2⟩, ⟨r1, r2⟩, ⟨g1, g2⟩, ⟨x1, x2⟩, ⟨v1, v2⟩, G1, G2⟩ := M.nums
  obtain ⟨b1, b2, b3, b4, b5, b6, b7, b8, b9, b10, b11, b12⟩ := frac_bd (s := x.s) M.hv
  obtain ⟨n1, n2, n3, n4, n5⟩ := modest_bd M.mn
  obtain ⟨d1, d2, d3, d4, d5⟩ := modest_bd M.md
  have hn : (dn x.num e).valid = true := swap1 M.hn rfl (prp_dims (valid_prp M.hn) (lens3 (by omega) (by omega) (by omega) (by omega) (by omega)))
  have ew : fW (dn x.num e) x.den = fW x.num x.den := rfl
  have hup : -101000000 ≤ fUp x.f x.s (dn x.num e) ∧ fUp x.f x.s (dn x.num e) ≤ 102000000 := by
    unfold fUp fTop
    show -101000000 ≤ (if fUp0 x.f x.s - (x.num.d + e) - (fY x.f x.s + parS x.f x.s x.f.par.rule) < fGap x.f x.s then fY x.f x.s + parS x.f x.s x.f.par.rule + fGap x.f x.s + (x.num.d + e) else fUp0 x.f x.s) ∧ (if fUp0 x.f x.s - (x.num.d + e) - (fY x.f x.s + parS x.f x.s x.f.par.rule) < fGap x.f x.s then fY x.f x.s + parS x.f x.s x.f.par.rule + fGap x.f x.s + (x.num.d + e) else fUp0 x.f x.s) ≤ 102000000
    split <;> omega
  have hh := hlf_bd (fW x.num x.den - x.num.w)
  have ho : (fOut x.f x.s (dn x.num e) x.den).valid = true := by
    refine swap3 M.ho (a := kid0 x) (b := kid1 x) (c := kid2 x) rfl rfl rfl (fun q => prp_dims (b := kid0 x) q (lens3 ?_ ?_ ?_ ?_ ?_)) id id (lens3 ?_ ?_ ?_ (by omega) (by omega))
    · exact (by omega : -1073741824 ≤ x.num.w ∧ x.num.w ≤ 1073741824)
    · exact (by omega : -1073741824 ≤ x.num.h ∧ x.num.h ≤ 1073741824)
    · exact (by omega : -1073741824 ≤ x.num.d + e ∧ x.num.d + e ≤ 1073741824)
    · rw [ew]; exact (by omega : -1073741824 ≤ hlf (fW x.num x.den - x.num.w) ∧ hlf (fW x.num x.den - x.num.w) ≤ 1073741824)
    · omega
    · rw [ew]; omega
    · show -1073741824 ≤ max (fUp x.f x.s (dn x.num e) + x.num.h) (fTop x.f x.s) ∧ max (fUp x.f x.s (dn x.num e) + x.num.h) (fTop x.f x.s) ≤ 1073741824
      unfold fTop; omega
    · omega
  unfold frac
  rw [if_pos (by unfold fracOK; rw [M.hv, M.hs, hn, M.hd]; rfl), if_pos ho]
theorem high_frac {x : Case32} (M : Made x) {e : Int} (e0 : 0 ≤ e) (e1 : e ≤ 65535) : frac x.f x.s x.num (upw x.den e) = (fOut x.f x.s x.num (upw x.den e), 0) := by
  obtain ⟨⟨u1, u2⟩, ⟨l1, l2⟩, ⟨q1, q2⟩, ⟨r1, r2⟩, ⟨g1, g2⟩, ⟨x1, x2⟩, ⟨v1, v2⟩, G1, G2⟩ := M.nums
  obtain ⟨b1, b2, b3, b4, b5, b6, b7, b8, b9, b10, b11, b12⟩ := frac_bd (s := x.s) M.hv
  obtain ⟨n1, n2, n3, n4, n5⟩ := modest_bd M.mn
  obtain ⟨d1, d2, d3, d4, d5⟩ := modest_bd M.md
  have hn : (upw x.den e).valid = true := swap1 M.hd rfl (prp_dims (valid_prp M.hd) (lens3 (by omega) (by omega) (by omega) (by omega) (by omega)))
  have ew : fW x.num (upw x.den e) = fW x.num x.den := rfl
  have hlow : -102000000 ≤ fLow x.f x.s (upw x.den e) ∧ fLow x.f x.s (upw x.den e) ≤ 102000000 := by
    unfold fLow
    show -102000000 ≤ (if fY x.f x.s - (0 - fDown0 x.f x.s + (x.den.h + e)) < fGap x.f x.s then fY x.f x.s - fGap x.f x.s - (x.den.h + e) else 0 - fDown0 x.f x.s) ∧ (if fY x.f x.s - (0 - fDown0 x.f x.s + (x.den.h + e)) < fGap x.f x.s then fY x.f x.s - fGap x.f x.s - (x.den.h + e) else 0 - fDown0 x.f x.s) ≤ 102000000
    split <;> omega
  have hh := hlf_bd (fW x.num x.den - x.den.w)
  have ho : (fOut x.f x.s x.num (upw x.den e)).valid = true := by
    refine swap3 M.ho (a := kid0 x) (b := kid1 x) (c := kid2 x) rfl rfl rfl id id (fun q => prp_dims (b := kid2 x) q (lens3 ?_ ?_ ?_ ?_ ?_)) (lens3 ?_ ?_ ?_ (by omega) (by omega))
    · exact (by omega : -1073741824 ≤ x.den.w ∧ x.den.w ≤ 1073741824)
    · exact (by omega : -1073741824 ≤ x.den.h + e ∧ x.den.h + e ≤ 1073741824)
    · exact (by omega : -1073741824 ≤ x.den.d ∧ x.den.d ≤ 1073741824)
    · rw [ew]; exact (by omega : -1073741824 ≤ hlf (fW x.num x.den - x.den.w) ∧ hlf (fW x.num x.den - x.den.w) ≤ 1073741824)
    · omega
    · rw [ew]; omega
    · unfold fTop; omega
    · show -1073741824 ≤ max (x.den.d - fLow x.f x.s (upw x.den e)) (0 - fY x.f x.s) ∧ max (x.den.d - fLow x.f x.s (upw x.den e)) (0 - fY x.f x.s) ≤ 1073741824
      omega
  unfold frac
  rw [if_pos (by unfold fracOK; rw [M.hv, M.hs, hn, M.hn]; rfl), if_pos ho]
theorem FractionGrows_true (x : Case32) (hk : x.ok) (n : Int) (hn : (Lit.int .u16 n).wf = true) : Says Try.prog hs 7 [.agg 46 x.c, .one (.int .u16 n)] [.one (.bool true)] := by
  obtain ⟨e0, e1⟩ := u16_of_wf hn
  have kn := ok_flat _ hk.num
  have kd := ok_flat _ hk.den
  have base := awake32_says.and (made32_says x hk)
  cases hm : (made32 x).2 with
  | false =>
    refine base.next fun m h => ?_
    rw [R7_eq]; unfold R7
    rw [cb_bool h.1, cb_aggB h.2, hm]; rfl
  | true =>
    obtain ⟨M, hb⟩ := made32_of hm
    obtain ⟨n1, n2, n3, n4, n5⟩ := modest_bd M.mn
    obtain ⟨d1, d2, d3, d4, d5⟩ := modest_bd M.md
    have kn' : ∀ c ∈ flat (dn x.num n), c.ok1 := ok1s_dims kn ⟨by omega, by omega⟩ ⟨by omega, by omega⟩ ⟨by omega, by omega⟩
    have kd' : ∀ c ∈ flat (upw x.den n), c.ok1 := ok1s_dims kd ⟨by omega, by omega⟩ ⟨by omega, by omega⟩ ⟨by omega, by omega⟩
    have s1 := frac_says x.f M.few x.s (dn x.num n) x.den kn' kd
    have s2 := frac_says x.f M.few x.s x.num (upw x.den n) kn kd'
    rw [deep_frac M e0 e1] at s1
    rw [high_frac M e0 e1] at s2
    refine (base.and (s1.and s2)).next fun m h => ?_
    obtain ⟨⟨h1, h2⟩, h3, h4⟩ := h
    rw [R7_eq]; unfold R7
    have e29 : x.c[29]? = some (.int .i64 x.num.d) := by rw [show 29 = 24 + 5 from rfl, Case32.at_n x (by omega), Bx.c5]
    have e39 : x.c[39]? = some (.int .i64 x.den.h) := by rw [show 39 = 35 + 4 from rfl, Case32.at_d x (by omega), Bx.c4]
    have w0 : IntKind.i64.wrap n = n := wr_id ⟨by omega, by omega⟩
    have w1 : IntKind.i64.wrap (x.num.d + n) = x.num.d + n := wr_id ⟨by omega, by omega⟩
    have w2 : IntKind.i64.wrap (x.den.h + n) = x.den.h + n := wr_id ⟨by omega, by omega⟩
    rw [cb_bool h1, cb_aggB h2, hm, hb]
    simp only [Bool.not_true, cond_false, e29, e39, asI_i, Option.bind_some, w0, w1, w2, set_n, set_d, dn_c, upw_c, Case32.c_f, Case32.c_s, Case32.c_n, Case32.c_den]
    rw [cb_aggI h3, cb_aggI h4]
    have k1 : (fOut x.f x.s (dn x.num n) x.den).kids = fKids x.f x.s (dn x.num n) x.den := rfl
    have k2 : (fOut x.f x.s x.num (upw x.den n)).kids = fKids x.f x.s x.num (upw x.den n) := rfl
    have k3 : (fOut x.f x.s x.num x.den).kids = fKids x.f x.s x.num x.den := rfl
    have t1 : fUp x.f x.s (dn x.num n) ≥ fUp x.f x.s x.num := by
      unfold fUp
      show (if fUp0 x.f x.s - (x.num.d + n) - fTop x.f x.s < fGap x.f x.s then fTop x.f x.s + fGap x.f x.s + (x.num.d + n) else fUp0 x.f x.s) ≥ (if fUp0 x.f x.s - x.num.d - fTop x.f x.s < fGap x.f x.s then fTop x.f x.s + fGap x.f x.s + x.num.d else fUp0 x.f x.s)
      split <;> split <;> omega
    have t2 : fLow x.f x.s (upw x.den n) ≤ fLow x.f x.s x.den := by
      unfold fLow
      show (if fY x.f x.s - (0 - fDown0 x.f x.s + (x.den.h + n)) < fGap x.f x.s then fY x.f x.s - fGap x.f x.s - (x.den.h + n) else 0 - fDown0 x.f x.s) ≤ (if fY x.f x.s - (0 - fDown0 x.f x.s + x.den.h) < fGap x.f x.s then fY x.f x.s - fGap x.f x.s - x.den.h else 0 - fDown0 x.f x.s)
      split <;> split <;> omega
    simp only [Bx.c8, k1, k2, k3, fKids, asL_l, Option.bind_some, List.map_cons, List.map_nil, List.length_cons, List.length_nil, List.getElem?_cons_zero, List.getElem?_cons_succ, Bx.len11, cond_true, Bx.c7, asI_i, Bx.at, t1, t2, decide_true, beq_self_eq_true]
    rfl
end Go.Proofs.Ytbhojnofdeihdaa.E
