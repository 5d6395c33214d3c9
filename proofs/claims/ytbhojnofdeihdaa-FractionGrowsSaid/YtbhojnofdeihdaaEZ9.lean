/- What is shown here: THE EVALUATOR IS SOUND. -/
import Derived.Test.YtbhojnofdeihdaaEZ8
namespace Go.Proofs.Ytbhojnofdeihdaa.E
open Go.RowKit
set_option autoImplicit false
set_option linter.unusedVariables false
set_option linter.unusedSimpArgs false
section
variable {P : Program} {hs : Hints}

/-- What is taken on trust of the functions that are not walked: it is proved elsewhere. -/
structure OrcOK (P : Program) (hs : Hints) : Prop where
  call : ∀ f as rs, hs.orc f as = some rs → CallOK P f as none rs none
  able : ∀ f as rs, hs.orc f as = some rs → ∃ fn, P.funcs[f]? = some fn ∧ fn.body.isSome = true

theorem get_zip {as : List A} (i : Nat) (v : V) : ∀ (k : Nat), get (((as.map A.v).zipIdx k).map fun x => (x.2, x.1)) i = some v → k ≤ i ∧ ∃ a, as[i - k]? = some a ∧ a.v = v := by
  induction as with
  | nil => intro k h; simp [get] at h
  | cons a as ih =>
    intro k h
    simp only [List.map_cons, List.zipIdx_cons, get] at h
    cases hk : Nat.beq k i with
    | true =>
      rw [hk, cond_true] at h; cases h
      have := Nat.eq_of_beq_eq_true hk; subst this
      exact ⟨Nat.le_refl _, a, by simp, rfl⟩
    | false =>
      rw [hk, cond_false] at h
      obtain ⟨h1, a', h2, h3⟩ := ih (k + 1) h
      refine ⟨by omega, a', ?_, h3⟩
      have : i - k = (i - (k + 1)) + 1 := by omega
      rw [this]; simpa using h2
theorem putAll_ok {ro : Set} {w : World} {β : Tab} {L : Option Nat} {nt : Nat} : ∀ (ps : List Nat) (vs : List Value) (as : List A) (tm : Array Value) (t : Env), ps.length = as.length → vs.length = as.length → (∀ p ∈ ps, p < nt) → nt ≤ tm.size →
    (∀ (j : Nat) (v : Value) (a : A), vs[j]? = some v → as[j]? = some a → RepV ro w β L v a.v) → (∀ i v, get t i = some v → ∃ u, tm[i]? = some u ∧ RepV ro w β L u v) →
    nt ≤ ((ps.zip vs).foldl (fun tm x => tm.setIfInBounds x.1 x.2) tm).size ∧ ∀ i v, get (putAll ps (as.map A.v) t) i = some v → ∃ u, ((ps.zip vs).foldl (fun tm x => tm.setIfInBounds x.1 x.2) tm)[i]? = some u ∧ RepV ro w β L u v := by
  intro ps
  induction ps with
  | nil => intro vs as tm t h1 h2 _ hn hr ht; cases as <;> cases vs <;> simp_all [putAll]
  | cons p ps ih =>
    intro vs as tm t h1 h2 hp hn hr ht
    cases as with
    | nil => simp at h1
    | cons a as =>
      cases vs with
      | nil => simp at h2
      | cons v vs =>
        simp only [List.zip_cons_cons, List.foldl_cons, List.map_cons, putAll]
        refine ih vs as _ _ (by simpa using h1) (by simpa using h2) (fun q hq => hp q (by simp [hq])) (by simpa using hn) (fun j v' a' h3 h4 => hr (j + 1) v' a' (by simpa using h3) (by simpa using h4)) (fun i x hi => ?_)
        rw [get_ins] at hi
        have hpl : p < tm.size := Nat.lt_of_lt_of_le (hp p (by simp)) hn
        split at hi
        · next e => cases hi; subst e; exact ⟨v, by rw [Array.getElem?_setIfInBounds_self_of_lt hpl], hr 0 v a rfl rfl⟩
        · next e => rw [Array.getElem?_setIfInBounds_ne (Ne.symm e)]; exact ht i x hi
theorem repV_any {ro : Set} {w : World} {u : Value} {a : A} {L L' : Option Nat} (hn : isYld a = false) (h : RepA ro w L u a) (β : Tab) : RepV ro w β L' u a.v := by
  obtain ⟨h1, h2⟩ := repA_noyld h hn L'
  cases a with
  | one x => exact .c _ _ (repC h2)
  | agg n cs => cases h2 with | pagg vs _ hs hr => exact .pagg vs _ hs hr
  | arr sz es => exact absurd rfl (h1 sz es)
  | yld => simp [isYld] at hn

theorem call_ok (hP : PG P) {e : Eng} (hE : ESound P e) (hLp : LoopsOK P e) {f : Nat} {fn : Func} {c : Code} (hf : P.funcs[f]? = some fn) (hc : fn.body = some c) {as : List A} {σ σ' : Option Rnd} {rs : List A} {m : Nat}
    (h : runIn P hs e m [.code c] (enter f fn.ntmps as σ) = some (.ret rs σ')) : CallOK P f as σ rs σ' := by
  intro ro w L M vargs hA hS hsz hargs cs
  have hrun := runIn_ok hP hE hLp _ _ _ _ h
  have hent : Frame.enter P f vargs .normal = (Frame.enter P f vargs .normal).atR { tmps := vargs ++ Array.replicate (fn.ntmps - vargs.size) undef, defers := [] } [.code c] := by
    unfold Frame.enter Frame.atR
    simp [hf, hc]
  have hEnd := hrun (Frame.enter P f vargs .normal) { tmps := vargs ++ Array.replicate (fn.ntmps - vargs.size) undef, defers := [] } cs ro w (fun _ => none) L (fun _ => False) M (fun _ => False)
    ⟨rfl, rfl, rfl, [], rfl, .nil, by simp, by simp⟩ ⟨?_, fun i v hi => ?_, ⟨fun _ _ => rfl, fun k b z hk => by simp [enter, get] at hk, fun k k' b z b' z' t t' _ hk => by simp [enter, get] at hk, fun b hb => hb.elim⟩, hA, hS⟩ ⟨fun x hx => hx.elim⟩
  · rw [← hent] at hEnd
    obtain ⟨_, w', fr, v, ro', Own', M', h1, h2, h3, h4, h5, h6, h7⟩ := hEnd
    refine ⟨.returned v, w', fr, ⟨v, ro', M', rfl, ⟨h5.os, h5.tape, h5.output, h5.size, h5.grow, h5.keep, fun b hb ho hm => h5.oth b hb (fun h => h.elim id id) hm, fun b hb => ?_, fun b hb => hb.elim, h5.newM, h5.loops⟩, ⟨h4.r, fun b hb => hb.elim, fun b hb => ⟨(h4.m b hb).1, (h4.m b hb).2.1, fun h => h⟩⟩, h6, ?_⟩, h1, h2, h3⟩
    · rcases h5.newro b hb with g | (g | g) | g | g
      · exact .inl g
      · exact g.elim
      · exact g.elim
      · exact .inr (.inr (.inl g))
      · exact .inr (.inr (.inr g))
    · clear h
      cases h7 with
      | one _ a h => exact .one v a h
      | fresh t es hB h1 => exact .fresh t es hB (h4.own _ h1).2 (fun hm => (h4.m _ hm).2.2 h1) ((h5.newown _ (.inl h1)).elim (fun g => g.elim False.elim False.elim) id)
      | many vs _ hn hs hr => exact .many vs rs hn hs hr
  · simp [enter]; omega
  · simp only [enter] at hi
    obtain ⟨_, a, h1, rfl⟩ := get_zip i v 0 hi
    simp only [Nat.sub_zero] at h1
    have hlt : i < vargs.size := by have := (List.getElem?_eq_some_iff.1 h1).1; omega
    exact ⟨vargs[i], by rw [Array.getElem?_append_left hlt, Array.getElem?_eq_getElem hlt], (hargs i _ a (Array.getElem?_eq_getElem hlt) h1).2⟩

/-- THE EVALUATOR IS SOUND. -/
theorem eng_ok (hP : PG P) (hO : OrcOK P hs) : ∀ n, ESound P (eng P hs n) ∧ LoopsOK P (eng P hs n) := by
  intro n
  induction n with
  | zero => exact ⟨⟨fun f as σ rs σ' h => by simp [eng] at h, fun f as σ r h => by simp [eng] at h, fun r as b r' h => by simp [eng] at h⟩, fun c k st res h => by simp [eng] at h⟩
  | succ n ih =>
    obtain ⟨hE, hLp⟩ := ih
    refine ⟨⟨fun f as σ rs σ' h => ?_, fun f as σ r h => ?_, fun r as b r' h => ?_⟩, fun c k st res h => ?_⟩
    · simp only [eng] at h
      split at h
      · rename_i rs0 ho
        cases h
        exact hO.call _ _ _ ho
      · split at h
        · rename_i fn hf
          split at h
          · rename_i c hc
            exact call_ok hP hE hLp hf hc h
          · simp at h
        · simp at h
    · simp only [eng] at h
      split at h
      · rename_i rs0 ho
        exact hO.able _ _ _ ho
      · split at h
        · rename_i fn hf
          split at h
          · rename_i c hc
            exact ⟨fn, hf, by rw [hc]; rfl⟩
          · simp at h
        · simp at h
    · simp only [eng] at h
      obtain ⟨hb, h⟩ := cond_none_some h
      simp only [Bool.or_eq_false_iff, Bool.not_eq_false', List.all_eq_true] at hb
      obtain ⟨⟨⟨hp, hlen⟩, hny⟩, hps⟩ := hb
      have hpn : r.pend = none := by cases q : r.pend with | none => rfl | some c => rw [q] at hp; simp at hp
      have hlen := Nat.eq_of_beq_eq_true hlen
      split at h
      · rename_i pend H hrun
        cases h
        intro ro w l M vargs hA hS hsz hargs
        obtain ⟨l', β, Own, tm, dB, e1, e2, e3, e4, e5, e6, e7, e8, e9, e10⟩ := hS
        cases e1
        have hargs' : ∀ (j : Nat) (v : Value) (a : A), vargs[j]? = some v → as[j]? = some a → RepV ro w β none v a.v := fun j v a h1 h2 => by
          refine repV_any ?_ (hargs j v a h1 h2) β
          rw [List.any_eq_false] at hny
          simpa using hny a (List.mem_of_getElem? h2)
        have hy := run_yield (P := P) (args := vargs) e6 (by simp [hsz, hlen])
        refine ⟨_, hy, trivial, fun c cs hroom => ?_⟩
        obtain ⟨q1, q2⟩ := putAll_ok (ro := ro) (w := w) (β := β) (L := none) (nt := r.nt) r.ps vargs.toList as tm r.t hlen.symm (by simp [hsz]) (fun p hp => Nat.le_of_ble_eq_true (hps p hp)) e7 (fun j v a h1 h2 => hargs' j v a (by simpa using h1) h2) e8
        have hfold : (r.ps.toArray.zip vargs).foldl (fun tmps (x : Nat × Value) => tmps.setIfInBounds x.1 x.2) tm = (r.ps.zip vargs.toList).foldl (fun tm x => tm.setIfInBounds x.1 x.2) tm := by
          rw [← Array.foldl_toList]; simp
        have hrnd := runIn_ok hP hE hLp _ _ _ _ hrun (Frame.round l r.f ((r.ps.toArray.zip vargs).foldl (fun tmps (x : Nat × Value) => tmps.setIfInBounds x.1 x.2) tm) r.assign r.body .normal) { tmps := (r.ps.toArray.zip vargs).foldl (fun tmps (x : Nat × Value) => tmps.setIfInBounds x.1 x.2) tm, defers := [] } (c :: cs) ro w β none Own (fun _ => False) (fun x => x = l)
          ⟨rfl, rfl, l, _, rfl, rfl, rfl, fun x => Iff.rfl, e6, fun _ => by simp [hpn]⟩
          ⟨by rw [hfold]; exact q1, by rw [hfold]; exact q2, e9, ⟨hA.r, fun b hb => ⟨(hA.m b ((e2 b).2 (.inr hb))).1, (hA.m b ((e2 b).2 (.inr hb))).2.1⟩, fun b hb => hb.elim⟩, ⟨fun _ h => h, rfl⟩⟩
          ⟨fun x hx => by subst hx; exact ⟨e5, e4, e3, fun h => h⟩⟩
        obtain ⟨_, hrnd⟩ := hrnd
        obtain ⟨w', ro', β', Own', k1, k2, k3, k4, k5, k6, k7, k8⟩ := hrnd c cs rfl l _ rfl e6
        -- what is not called any more is let go
        have hkt : ∀ i v, get r.t i = some v → ∃ u, tm[i]? = some u ∧ RepV ro' w' β' none u v := fun i v hi => by
          obtain ⟨u, g1, g2⟩ := e8 i v hi
          have g3 : RepV ro w β' none u v := g2.keep (fun h hh t ht => k8 h (refsE_mem hi hh) t ht)
          exact ⟨u, g1, g3.mono k7.grow k7.keep (fun _ _ h => h)⟩
        obtain ⟨β2, Own2, t1, t2, _⟩ := ((tidy_free [] r.t (keysH H) H).trans (tidy_free [] r.t (keysH H) _)) tm ro' w' none β' Own' ⟨hkt, k3⟩
        refine ⟨.returned (.bool pend.isNone), w', ⟨rfl, ro', fun x => x = l ∨ Own2 x, ⟨k7.os, k7.tape, k7.output, k7.size, k7.grow, k7.keep, fun b hb _ hm => k7.oth b hb (fun h => hm ((e2 b).2 (h.elim .inr .inl))) (fun h => h), fun b hb => ?_, fun b hb => hb.elim, fun b hb => ?_, k7.loops⟩, ⟨k4.r, fun b hb => hb.elim, fun b hb => ?_⟩, ?_⟩, comesIn_wide.2 ?_⟩
        · rcases k7.newro b hb with g | (g | g) | g | g
          · exact .inl g
          · exact .inr (.inr (.inl ((e2 b).2 (.inr g))))
          · exact .inr (.inr (.inl ((e2 b).2 (.inl g))))
          · exact g.elim
          · exact .inr (.inr (.inr g))
        · rcases hb with rfl | hb
          · exact .inl ((e2 _).2 (.inl rfl))
          · rcases k7.newown b (.inl (t2 b hb)) with (g | g) | g
            · exact .inl ((e2 b).2 (.inr g))
            · exact .inl ((e2 b).2 (.inl g))
            · exact .inr g
        · rcases hb with rfl | hb
          · exact ⟨(Array.getElem?_eq_some_iff.1 k2).1, k5, fun h => h⟩
          · exact ⟨(k4.own b (t2 b hb)).1, (k4.own b (t2 b hb)).2, fun h => h⟩
        · refine ⟨l, β2, Own2, tm, dB, rfl, fun b => Iff.rfl, fun h => k6 (t2 l h), k5, (Array.getElem?_eq_some_iff.1 k2).1, ?_, e7, t1.t, t1.h, ⟨fun b hb => ?_, fun b hb => (k4.own b (t2 b hb)).2⟩⟩
          · rw [k2]; cases pend <;> simp
          · rcases hb with hb | hb
            · exact k4.r b hb
            · exact (k4.own b (t2 b hb)).1
        · exact k1
      · simp at h
    · simp only [eng] at h
      exact runIn_ok hP hE hLp _ _ _ _ h
end
end Go.Proofs.Ytbhojnofdeihdaa.E
