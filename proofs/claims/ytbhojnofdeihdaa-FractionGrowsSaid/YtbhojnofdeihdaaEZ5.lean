/- What is shown here: how a frame ends. -/
import Derived.Test.YtbhojnofdeihdaaEZ4
namespace Go.Proofs.Ytbhojnofdeihdaa.E
open Go.RowKit
set_option autoImplicit false
set_option linter.unusedVariables false
set_option linter.unusedSimpArgs false
section
variable {P : Program} {hs : Hints} {e : Eng}

def oneRes (tm : Array Value) : ResultVar → Sem Value
  | .tmp t => pure (tm.getD t undef)
  | .cell a t => do loadVar t (← asAddr (tm.getD a undef))
theorem resultsK_ok {st : St} {a : Act} {ro : Set} {w : World} {β : Tab} {L : Option Nat} {Own M : Set} (hR : FR st a.tmps ro w β L Own M) : ∀ (rs : List ResultVar) (K : List V → Option Res) (res : Res), resultsK P st rs K = some res →
    ∃ (vs : List V) (us : List Value), K vs = some res ∧ vs.length = rs.length ∧ us.length = rs.length ∧ (rs.mapM (oneRes a.tmps)).run P w = .ok us w ∧ ∀ (j : Nat) (u : Value) (v : V), us[j]? = some u → vs[j]? = some v → RepV ro w β L u v := by
  intro rs
  induction rs with
  | nil => intro K res h; exact ⟨[], [], h, rfl, rfl, rfl, by simp⟩
  | cons r rs ih =>
    intro K res h
    cases r with
    | tmp t =>
      simp only [resultsK] at h
      obtain ⟨vs, us, h1, h2, h3, h4, h5⟩ := ih _ res h
      refine ⟨_, a.tmps.getD t undef :: us, h1, by simp [h2], by simp [h3], ?_, fun j u v hu hv => ?_⟩
      · rw [List.mapM_cons]
        simp only [oneRes, Sem.run_bind, Sem.run_pure, Result.andThen_ok, h4]
      · cases j with
        | zero => simp only [List.getElem?_cons_zero, Option.some.injEq] at hu hv; subst hu hv; exact evalO_ok hR (.tmp t)
        | succ j => exact h5 j u v (by simpa using hu) (by simpa using hv)
    | cell ad t =>
      simp only [resultsK] at h
      rw [loadK_bind] at h
      obtain ⟨x, hx, h⟩ := Option.bind_eq_some_iff.1 h
      obtain ⟨vs, us, h1, h2, h3, h4, h5⟩ := ih _ res h
      obtain ⟨addr, u0, g1, g2, g3⟩ := loadK_ok hR.heap (evalO_ok hR (.tmp ad)) hx
      refine ⟨_, u0 :: us, h1, by simp [h2], by simp [h3], ?_, fun j u v hu hv => ?_⟩
      · rw [List.mapM_cons]
        have g1' : a.tmps.getD ad undef = .pointer (some addr) := g1
        simp only [oneRes, g1', asAddr, Sem.run_bind, Sem.run_pure, Result.andThen_ok, g2, h4]
      · cases j with
        | zero => simp only [List.getElem?_cons_zero, Option.some.injEq] at hu hv; subst hu hv; exact g3
        | succ j => exact h5 j u v (by simpa using hu) (by simpa using hv)
theorem run_results {fn : Func} {tm : Array Value} {w : World} {us : List Value} (h : (fn.results.toList.mapM (oneRes tm)).run P w = .ok us w) : (results fn tm).run P w = .ok (if h : us.toArray.size = 1 then us.toArray[0] else .tuple us.toArray) w := by
  have key : ∀ f : ResultVar → Sem Value, (∀ x, f x = oneRes tm x) → (List.mapM f fn.results.toList).run P w = .ok us w := fun f hf => by rw [funext hf]; exact h
  unfold results
  rw [Array.mapM_eq_mapM_toList]
  simp only [Sem.run_bind, Sem.run_map]
  rw [key _ (fun x => by cases x <;> rfl)]
  rfl

/-- The value that a frame hands back, in terms of its own blocks. -/
inductive ResIn (ro : Set) (w : World) (Own : Set) : Value → List A → Prop
  | one (v : Value) (a : A) (h : RepA ro w none v a) : ResIn ro w Own v [a]
  | fresh (t : Bt) (es : List (List C)) (h : RepB ro w (fun _ => none) none t (.arr t.sz es)) (h1 : Own t.b) : ResIn ro w Own (.slice (some ⟨t.b, 0, none⟩) t.n t.cap) [.arr t.sz es]
  | many (vs : Array Value) (as : List A) (hn : as.length ≠ 1) (hs : vs.size = as.length) (hr : ∀ (j : Nat) (v : Value) (a : A), vs[j]? = some v → as[j]? = some a → RepA ro w none v a) : ResIn ro w Own (.tuple vs) as

/-- The marks of a function's frame. -/
def Marks (ds : List Deferred) (X : Set) (w : World) : Prop :=
  ∃ rs : List Nat, ds = rs.map (fun r => ({ target := .collected r, args := #[] } : Deferred)) ∧ rs.Nodup ∧ (∀ r, X r ↔ r ∈ rs) ∧ ∀ r ∈ rs, w.heap[r]? = some (.deferred (some []))
/-- What a frame is, beside its state: X: further blocks of its own. -/
def FrameOK (b : Frame) (st : St) (a : Act) (w : World) (X : Set) (L : Option Nat) : Prop :=
  b.kind = .normal ∧ b.fn = st.f ∧ match st.round with
    | 0 => b.roundOf = none ∧ Marks a.defers X w
    | k + 1 => ∃ l rec, b.roundOf = some l ∧ a.defers = [] ∧ L = none ∧ (∀ x, X x ↔ x = l) ∧ w.heap[l]? = some (.loop rec) ∧ (k = 0 → rec.state = .ready)
structure Extra (ro : Set) (w : World) (Own M X : Set) : Prop where
  out : ∀ x, X x → x < w.heap.size ∧ ¬ ro x ∧ ¬ Own x ∧ ¬ M x
theorem Extra.step {ro : Set} {w : World} {Own M X ro' : Set} {w' : World} {Own' M' : Set} (h : Extra ro w Own M X) (k : FStp ro w Own M ro' w' Own' M') : Extra ro' w' Own' M' X := ⟨fun x hx => by
  obtain ⟨h1, h2, h3, h4⟩ := h.out x hx
  refine ⟨Nat.lt_of_lt_of_le h1 k.size, fun hr => ?_, fun ho => ?_, fun hm => ?_⟩
  · rcases k.newro x hr with g | g | g | g
    · exact h2 g
    · exact h3 g
    · exact h4 g
    · omega
  · exact (k.newown x ho).elim h3 (fun g => by omega)
  · exact (k.newM x hm).elim h4 (fun g => by omega)⟩
theorem FStp.wide {ro : Set} {w : World} {Own M ro' : Set} {w' : World} {Own' M' : Set} (X : Set) (k : FStp ro w Own M ro' w' Own' M') : FStp ro w (fun x => Own x ∨ X x) M ro' w' (fun x => Own' x ∨ X x) M' :=
  ⟨k.os, k.tape, k.output, k.size, k.grow, k.keep, fun b hb ho hm => k.oth b hb (fun h => ho (.inl h)) hm, fun b hb => (k.newro b hb).elim .inl (fun g => g.elim (fun g => .inr (.inl (.inl g))) (fun g => .inr (.inr g))),
   fun b hb => hb.elim (fun g => (k.newown b g).elim (fun q => .inl (.inl q)) .inr) (fun g => .inl (.inr g)), k.newM, k.loops⟩
/-- A block beside those that count is turned. -/
theorem FR.putObj {st : St} {tm : Array Value} {ro : Set} {w : World} {β : Tab} {L : Option Nat} {Own M X : Set} (hR : FR st tm ro w β L Own M) (hX : Extra ro w Own M X) {r : Nat} (hr : X r) (o : Obj) (hlo : ∀ rec : Loop, w.heap[r]? = some (.loop rec) → ∃ rec' : Loop, o = .loop rec' ∧ rec'.tmps = rec.tmps) :
    FR st tm ro (w.putObj r o) β L Own M ∧ Extra ro (w.putObj r o) Own M X ∧ FStp ro w (fun x => Own x ∨ X x) M ro (w.putObj r o) (fun x => Own x ∨ X x) M := by
  obtain ⟨h1, h2, h3, h4⟩ := hX.out r hr
  have hz : (w.putObj r o).heap.size = w.heap.size := by simp [World.putObj]
  have ho : ∀ x, x ≠ r → (w.putObj r o).heap[x]? = w.heap[x]? := fun x hx => World.putObj_heap_other hx
  have kro : ∀ b, ro b → (w.putObj r o).heap[b]? = w.heap[b]? := fun b hb => ho b (fun e => h2 (e ▸ hb))
  refine ⟨⟨hR.nt, fun i v hi => ?_, hR.heap.step (fun _ h => h) kro (fun b hb => ho b (fun e => h3 (e ▸ hb))), ⟨fun b hb => by rw [hz]; exact hR.apart.r b hb, fun b hb => by rw [hz]; exact hR.apart.own b hb, fun b hb => by rw [hz]; exact hR.apart.m b hb⟩,
    hR.sig.mono (fun _ h => h) kro (fun b hb => ho b (fun e => h4 (e ▸ hb))) (fun b hb => (hR.apart.m b hb).2.1) (by omega) (fun b hb => by rw [hz]; exact hR.apart.r b hb)⟩, ⟨fun x hx => by rw [hz]; exact hX.out x hx⟩,
    ⟨rfl, rfl, rfl, by omega, fun _ h => h, kro, fun b hb hno _ => ho b (fun e => hno (.inr (e ▸ hr))), fun b hb => .inl hb, fun b hb => .inl hb, fun b hb => .inl hb, fun l rec hl => by
      by_cases e : l = r
      · subst e
        obtain ⟨rec', rfl, h6⟩ := hlo rec hl
        exact ⟨rec', World.putObj_heap_same h1, h6⟩
      · exact ⟨rec, by rw [ho l e]; exact hl, rfl⟩⟩⟩
  obtain ⟨u, g1, g2⟩ := hR.tmps i v hi
  exact ⟨u, g1, g2.mono (fun _ h => h) kro (fun _ _ h => h)⟩

/-- A frame on its way out takes its marks. -/
theorem take_marks {st : St} {ro : Set} {β : Tab} {L : Option Nat} {Own M X : Set} (cs : List Frame) : ∀ (rs : List Nat) (w : World) (fr : Frame), fr.mode = .returning → fr.defers = rs.map (fun r => ({ target := .collected r, args := #[] } : Deferred)) → rs.Nodup → (∀ r ∈ rs, X r) → (∀ r ∈ rs, w.heap[r]? = some (.deferred (some []))) →
    FR st fr.tmps ro w β L Own M → Extra ro w Own M X →
    ∃ w', Steps P (lone fr cs w) (lone { fr with defers := [] } cs w') ∧ FR st fr.tmps ro w' β L Own M ∧ Extra ro w' Own M X ∧ FStp ro w (fun x => Own x ∨ X x) M ro w' (fun x => Own x ∨ X x) M := by
  intro rs
  induction rs with
  | nil =>
    intro w fr hm hd _ _ _ hR hX
    have : { fr with defers := [] } = fr := by cases fr; simp at hd; subst hd; rfl
    rw [this]
    exact ⟨w, .refl _ _, hR, hX, .refl _ _ _ _⟩
  | cons r rs ih =>
    intro w fr hm hd hnd hx hh hR hX
    have h1 := step_collected (P := P) (fr := fr) (cs := cs) (w := w) (w' := w.putObj r (.deferred none)) (d := { target := .collected r, args := #[] }) (r := r) (ds := rs.map (fun r => ({ target := .collected r, args := #[] } : Deferred))) (calls := []) (by rw [hm]; simp) (by rw [hd]; rfl) rfl
      (run_takeDeferred (hh r (by simp)))
    obtain ⟨hR1, hX1, hF1⟩ := hR.putObj hX (hx r (by simp)) (.deferred none) (fun rec hl => by rw [hh r (by simp)] at hl; cases hl)
    simp only [List.nodup_cons] at hnd
    obtain ⟨w', s1, s2, s3, s4⟩ := ih (w.putObj r (.deferred none)) { fr with defers := rs.map (fun r => ({ target := .collected r, args := #[] } : Deferred)) } hm rfl hnd.2 (fun r' hr' => hx r' (by simp [hr'])) (fun r' hr' => by
      rw [World.putObj_heap_other (k := r') (r := r) (fun e => hnd.1 (by rw [← e]; exact hr'))]; exact hh r' (by simp [hr'])) hR1 hX1
    exact ⟨w', .head h1 s1, s2, s3, hF1.trans s4⟩

/-- How a run ends. -/
def Ends (P : Program) (b : Frame) (cs : List Frame) (m : Machine) (st : St) (ro : Set) (w : World) (β : Tab) (Own M X : Set) (L : Option Nat) : Res → Prop
  | .ret rs σ' => st.round = 0 ∧ ∃ w' fr v ro' Own' M', Steps P m (lone fr cs w') ∧ fr.fn = b.fn ∧ fr.leaving P w' (.returned v) ∧ Apart ro' w' Own' M' ∧ FStp ro w (fun x => Own x ∨ X x) M ro' w' (fun x => Own' x ∨ X x) M' ∧ SRel L M' σ' ro' w' ∧ ResIn ro' w' Own' v rs
  | .rnd pend H' => st.round ≠ 0 ∧ ∀ c cs', cs = c :: cs' → ∀ l rec, b.roundOf = some l → w.heap[l]? = some (.loop rec) → ∃ w' ro' β' Own', Steps P m (lone (c.finish (.bool pend.isNone)) cs' w') ∧
      w'.heap[l]? = some (.loop { rec with state := if pend.isNone then .ready else .done, pending := pend }) ∧ RepH ro' w' β' none H' Own' ∧ Apart ro' w' Own' (fun _ => False) ∧ ¬ ro' l ∧ ¬ Own' l ∧ FStp ro w (fun x => Own x ∨ X x) M ro' w' (fun x => Own' x ∨ X x) (fun _ => False) ∧ ∀ k ∈ st.keep, ∀ tt, β k = some tt → β' k = some tt
theorem Ends.of_steps {b : Frame} {cs : List Frame} {m m1 : Machine} {st : St} {ro : Set} {w : World} {β : Tab} {Own M X : Set} {L : Option Nat} {res : Res} (h : Steps P m m1) (k : Ends P b cs m1 st ro w β Own M X L res) : Ends P b cs m st ro w β Own M X L res := by
  cases res with
  | ret rs σ' => obtain ⟨h0, w', fr, v, ro', Own', M', h1, h2⟩ := k; exact ⟨h0, w', fr, v, ro', Own', M', h.trans h1, h2⟩
  | rnd pend H' => exact ⟨k.1, fun c cs' hc l rec hl hh => by obtain ⟨w', ro', β', Own', h1, h2⟩ := k.2 c cs' hc l rec hl hh; exact ⟨w', ro', β', Own', h.trans h1, h2⟩⟩

theorem RepB.strip {ro : Set} {w : World} {β : Tab} {L : Option Nat} {t : Bt} {sz : Nat} {es : List (List C)} (h : RepB ro w β L t (.arr sz es)) : sz = t.sz ∧ RepB ro w (fun _ => none) none t (.arr t.sz es) := by
  cases h with
  | arr _ c el hh hs hn hc hz hr => exact ⟨rfl, .arr _ c el hh hs hn hc hz hr⟩
theorem finish_ok {st : St} {pend : Option Code} {res : Res} (h : finish P hs st pend = some res) {b : Frame} {a : Act} {cs : List Frame} {ro : Set} {w : World} {β : Tab} {L : Option Nat} {Own M X : Set} (hO : FrameOK b st a w X L) (hR : FR st a.tmps ro w β L Own M) (hX : Extra ro w Own M X) {m : Machine}
    (h0 : st.round = 0 → (∀ id, pend ≠ some (.exit id)) → ∃ todo, Steps P m (lone { b.atR a todo with mode := .returning } cs w))
    (h2 : st.round ≠ 0 → ∀ c cs' l v w', cs = c :: cs' → b.roundOf = some l → (Instr.endRound l pend).run P w = .ok v w' → Steps P m (lone (c.finish v) cs' w')) : Ends P b cs m st ro w β Own M X L res := by
  unfold finish at h
  split at h
  · rename_i pd _ _ hrd
    cases h
    obtain ⟨hk, hfn, hO⟩ := hO
    rw [hrd] at hO
    obtain ⟨l, rec, hl, hd, hL, hXl, hh, _⟩ := hO
    subst hL
    refine ⟨by rw [hrd]; simp, fun c cs' hc l' rec' hl' hh' => ?_⟩
    rw [hl] at hl'; cases hl'
    rw [hh] at hh'; cases hh'
    have hσ : st.σ = none ∧ ∀ b, ¬ M b := by
      have := hR.sig
      cases hs : st.σ with
      | none => rw [hs] at this; exact ⟨rfl, this.1⟩
      | some r => rw [hs] at this; obtain ⟨l', _, _, _, _, h1, _⟩ := this; cases h1
    have hM : M = fun _ => False := funext fun b => propext ⟨hσ.2 b, fun h => h.elim⟩
    subst hM
    have hrun := run_endRound (P := P) pd hh
    obtain ⟨hR1, hX1, hF1⟩ := hR.putObj hX ((hXl l).2 rfl) (.loop { rec with state := if pd.isNone then .ready else .done, pending := pd }) (fun rec' hl => by rw [hh] at hl; cases hl; exact ⟨_, rfl, rfl⟩)
    have hlX := hX1.out l ((hXl l).2 rfl)
    exact ⟨_, ro, β, Own, h2 (by rw [hrd]; simp) c cs' l _ _ hc hl hrun, World.putObj_heap_same (Array.getElem?_eq_some_iff.1 hh).1, hR1.heap, hR1.apart, hlX.2.1, hlX.2.2.1, hF1, fun _ _ _ h => h⟩
  · simp at h
  · rename_i hrd hp
    obtain ⟨hk, hfn, hO⟩ := hO
    rw [hrd] at hO
    obtain ⟨hro, rs, hds, hnd, hXr, hmk⟩ := hO
    obtain ⟨todo, hsteps⟩ := h0 hrd (fun id e => by simp_all)
    obtain ⟨w1, s1, hR1, hX1, hF1⟩ := take_marks (P := P) (st := st) cs rs w { b.atR a todo with mode := .returning } rfl hds hnd (fun r hr => (hXr r).2 hr) hmk hR hX
    split at h
    · simp at h
    · rename_i fn hfn1
      obtain ⟨vs, us, g1, g2, g3, g4, g5⟩ := resultsK_ok (a := a) hR1 _ _ _ h
      have hres := run_results (P := P) (fn := fn) g4
      have hleave : ∀ v, (results fn a.tmps).run P w1 = .ok v w1 → ({ ({ b.atR a todo with mode := .returning } : Frame) with defers := [] } : Frame).leaving P w1 (.returned v) := fun v hv => ⟨rfl, rfl, hk, fn, by show P.funcs[b.fn]? = _; rw [hfn]; exact hfn1, hv⟩
      cases hfr : hs.fresh st.f with
      | true =>
        rw [hfr, cond_true] at g1
        split at g1
        · rename_i hh n z
          split at g1
          · rename_i sz es hg
            cases g1
            obtain ⟨u, rfl⟩ : ∃ u, us = [u] := by
              match us, g3, g2 with
              | [u], _, _ => exact ⟨u, rfl⟩
              | [], g3, g2 => simp at g2 g3; omega
              | _ :: _ :: _, g3, g2 => simp at g2 g3; omega
            have hu := g5 0 u _ rfl rfl
            obtain ⟨t0, ht0, hB, _, hown⟩ := hR1.heap.live _ _ _ hg
            cases hu with
            | own _ bt hbt =>
              rw [hbt] at ht0; cases ht0
              obtain ⟨e1, hB'⟩ := hB.strip
              subst e1
              exact ⟨hrd, w1, _, _, ro, Own, M, hsteps.trans s1, rfl, hleave _ hres, hR1.apart, hF1, hR1.sig, .fresh t0 es hB' (hown rfl)⟩
          · simp at g1
        · simp at g1
      | false =>
        rw [hfr, cond_false] at g1
        obtain ⟨r, hr, g1⟩ := Option.bind_eq_some_iff.1 g1
        obtain ⟨hny, g1⟩ := cond_none_some g1
        cases g1
        obtain ⟨p1, p2, p3⟩ := purAs_ok hR1.heap _ r hr
        obtain ⟨ro1, Own1, hH2, st2, k2⟩ := frzs_ok r.2 hR1.apart.sane hR1.heap p1
        have p3 := p3 ro1 st2.grow k2
        have hrep : ∀ (j : Nat) (u : Value) (a' : A), us[j]? = some u → r.1[j]? = some a' → RepA ro1 w1 none u a' := fun j u a' h1 h2 => by
          have hj : j < vs.length := by have := (List.getElem?_eq_some_iff.1 h2).1; omega
          refine repA_noyld (p3 j vs[j] a' u (List.getElem?_eq_getElem hj) h2 (g5 j u _ h1 (List.getElem?_eq_getElem hj))) ?_ none
          rw [List.any_eq_false] at hny
          simpa using hny a' (List.mem_of_getElem? h2)
        have hF2 : FStp ro w1 (fun x => Own x ∨ X x) M ro1 w1 (fun x => Own1 x ∨ X x) M := (FStp.of_ostp M st2).wide X
        have hsig2 := hR1.sig.of_ostp hR1.apart st2
        refine ⟨hrd, w1, _, _, ro1, Own1, M, hsteps.trans s1, rfl, hleave _ hres, hR1.apart.of_ostp st2, hF1.trans hF2, hsig2, ?_⟩
        by_cases hone : us.toArray.size = 1
        · rw [dif_pos hone]
          obtain ⟨u, rfl⟩ : ∃ u, us = [u] := by
            match us, hone with
            | [u], _ => exact ⟨u, rfl⟩
          obtain ⟨a', ha'⟩ : ∃ a', r.1 = [a'] := by
            have : r.1.length = 1 := by rw [p2, g2, ← g3]; rfl
            match hq : r.1, this with
            | [a'], _ => exact ⟨a', rfl⟩
          rw [ha']
          exact .one _ _ (hrep 0 u a' rfl (by rw [ha']; rfl))
        · rw [dif_neg hone]
          exact .many _ _ (fun e => hone (by rw [p2, g2, ← g3] at e; simpa using e)) (by simp [p2, g2, g3]) (fun j u a' h1 h2 => hrep j u a' (by simpa using h1) h2)
  · simp at h
end
end Go.Proofs.Ytbhojnofdeihdaa.E
