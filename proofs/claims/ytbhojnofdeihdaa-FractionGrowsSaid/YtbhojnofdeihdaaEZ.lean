/- What is shown here: what is asked of a call, a round, a state; how it lasts. -/
import Derived.Test.YtbhojnofdeihdaaEY
namespace Go.Proofs.Ytbhojnofdeihdaa.E
open Go.RowKit
set_option autoImplicit false
set_option linter.unusedVariables false
set_option linter.unusedSimpArgs false

/-- What a range over a function under way stands for. -/
def SRel (L : Option Nat) (M : Set) : Option Rnd → Set → World → Prop
  | none, _, _ => (∀ b, ¬ M b) ∧ L = none
  | some r, ro, w => ∃ (l : Nat) (β : Tab) (Own : Set) (tm : Array Value) (dB : Nat), L = some l ∧ (∀ b, M b ↔ b = l ∨ Own b) ∧ ¬ Own l ∧ ¬ ro l ∧ l < w.heap.size ∧
      w.heap[l]? = some (.loop { state := if r.pend.isSome then .done else .ready, pending := r.pend, fn := r.f, tmps := tm, params := r.ps.toArray, assign := r.assign, body := r.body, defers := dB }) ∧
      r.nt ≤ tm.size ∧ (∀ i v, get r.t i = some v → ∃ u, tm[i]? = some u ∧ RepV ro w β none u v) ∧ RepH ro w β none r.H Own ∧ Sane ro w Own

/-- From one world to a later one, for one that owns Own and lends M. -/
structure FStp (ro : Set) (w : World) (Own M : Set) (ro' : Set) (w' : World) (Own' M' : Set) : Prop where
  os : w'.os = w.os
  tape : w'.tape = w.tape
  output : w'.output = w.output
  size : w.heap.size ≤ w'.heap.size
  grow : ∀ b, ro b → ro' b
  keep : ∀ b, ro b → w'.heap[b]? = w.heap[b]?
  oth : ∀ b, b < w.heap.size → ¬ Own b → ¬ M b → w'.heap[b]? = w.heap[b]?
  newro : ∀ b, ro' b → ro b ∨ Own b ∨ M b ∨ w.heap.size ≤ b
  newown : ∀ b, Own' b → Own b ∨ w.heap.size ≤ b
  newM : ∀ b, M' b → M b ∨ w.heap.size ≤ b
  loops : ∀ (l : Nat) (rec : Loop), w.heap[l]? = some (.loop rec) → ∃ rec' : Loop, w'.heap[l]? = some (.loop rec') ∧ rec'.tmps = rec.tmps
/-- The sets of blocks lie apart, and in the heap. -/
structure Apart (ro : Set) (w : World) (Own M : Set) : Prop where
  r : ∀ b, ro b → b < w.heap.size
  own : ∀ b, Own b → b < w.heap.size ∧ ¬ ro b
  m : ∀ b, M b → b < w.heap.size ∧ ¬ ro b ∧ ¬ Own b
theorem Apart.sane {ro : Set} {w : World} {Own M : Set} (h : Apart ro w Own M) : Sane ro w Own := ⟨fun b hb => hb.elim (h.r b) (fun h' => (h.own b h').1), fun b hb => (h.own b hb).2⟩
theorem FStp.refl (ro : Set) (w : World) (Own M : Set) : FStp ro w Own M ro w Own M :=
  ⟨rfl, rfl, rfl, Nat.le_refl _, fun _ h => h, fun _ _ => rfl, fun _ _ _ _ => rfl, fun _ => .inl, fun _ => .inl, fun _ => .inl, fun l rec h => ⟨rec, h, rfl⟩⟩
theorem FStp.trans {ro : Set} {w : World} {Own M ro1 : Set} {w1 : World} {Own1 M1 ro2 : Set} {w2 : World} {Own2 M2 : Set} (h : FStp ro w Own M ro1 w1 Own1 M1) (k : FStp ro1 w1 Own1 M1 ro2 w2 Own2 M2) : FStp ro w Own M ro2 w2 Own2 M2 := by
  have hz := h.size
  refine ⟨k.os.trans h.os, k.tape.trans h.tape, k.output.trans h.output, Nat.le_trans h.size k.size, fun b hb => k.grow b (h.grow b hb), fun b hb => (k.keep b (h.grow b hb)).trans (h.keep b hb), fun b hb ho hm => ?_, fun b hb => ?_, fun b hb => ?_, fun b hb => ?_, fun l rec hl => by
    obtain ⟨r1, h1, h2⟩ := h.loops l rec hl
    obtain ⟨r2, g1, g2⟩ := k.loops l r1 h1
    exact ⟨r2, g1, g2.trans h2⟩⟩
  · exact (k.oth b (by omega) (fun h1 => (h.newown b h1).elim ho (fun h2 => by omega)) (fun h1 => (h.newM b h1).elim hm (fun h2 => by omega))).trans (h.oth b hb ho hm)
  · rcases k.newro b hb with h1 | h1 | h1 | h1
    · exact h.newro b h1
    · exact (h.newown b h1).elim (fun h2 => .inr (.inl h2)) (fun h2 => .inr (.inr (.inr h2)))
    · exact (h.newM b h1).elim (fun h2 => .inr (.inr (.inl h2))) (fun h2 => .inr (.inr (.inr h2)))
    · exact .inr (.inr (.inr (by omega)))
  · exact (k.newown b hb).elim (h.newown b) (fun h1 => .inr (by omega))
  · exact (k.newM b hb).elim (h.newM b) (fun h1 => .inr (by omega))
theorem SRel.mono {L : Option Nat} {M : Set} {σ : Option Rnd} {ro ro' : Set} {w w' : World} (h : SRel L M σ ro w) (hro : ∀ b, ro b → ro' b) (hk : ∀ b, ro b → w'.heap[b]? = w.heap[b]?) (hm : ∀ b, M b → w'.heap[b]? = w.heap[b]?)
    (hd : ∀ b, M b → ¬ ro' b) (hz : w.heap.size ≤ w'.heap.size) (hrz : ∀ b, ro' b → b < w'.heap.size) : SRel L M σ ro' w' := by
  cases σ with
  | none => exact h
  | some r =>
    obtain ⟨l, β, Own, tm, dB, h1, h2, h3, h4, h5, h6, h10, h7, h8, h9⟩ := h
    have hml : M l := (h2 l).2 (.inl rfl)
    have hmo : ∀ b, Own b → M b := fun b hb => (h2 b).2 (.inr hb)
    refine ⟨l, β, Own, tm, dB, h1, h2, h3, hd l hml, by omega, (hm l hml).trans h6, h10, fun i v hi => ?_, h8.step hro hk (fun b hb => hm b (hmo b hb)), ⟨fun b hb => ?_, fun b hb => hd b (hmo b hb)⟩⟩
    · obtain ⟨u, g1, g2⟩ := h7 i v hi
      exact ⟨u, g1, g2.mono hro hk (fun _ _ h => h)⟩
    · rcases hb with hb | hb
      · exact hrz b hb
      · have := h9.bound b (.inr hb); omega

/-- A frame's state and what it stands for. -/
structure FR (st : St) (tm : Array Value) (ro : Set) (w : World) (β : Tab) (L : Option Nat) (Own M : Set) : Prop where
  nt : st.nt ≤ tm.size
  tmps : ∀ i v, get st.t i = some v → ∃ u, tm[i]? = some u ∧ RepV ro w β L u v
  heap : RepH ro w β L st.H Own
  apart : Apart ro w Own M
  sig : SRel L M st.σ ro w

/-- Plain data handed over. -/
def RepA (ro : Set) (w : World) (L : Option Nat) (u : Value) (a : A) : Prop := (∀ sz es, a ≠ .arr sz es) ∧ RepV ro w (fun _ => none) L u a.v
inductive RepRes (B : Nat) (ro : Set) (w : World) (M : Set) : Value → List A → Prop
  | one (v : Value) (a : A) (h : RepA ro w none v a) : RepRes B ro w M v [a]
  | fresh (t : Bt) (es : List (List C)) (h : RepB ro w (fun _ => none) none t (.arr t.sz es)) (h1 : ¬ ro t.b) (h2 : ¬ M t.b) (h3 : B ≤ t.b) : RepRes B ro w M (.slice (some ⟨t.b, 0, none⟩) t.n t.cap) [.arr t.sz es]
  | many (vs : Array Value) (as : List A) (hn : as.length ≠ 1) (hs : vs.size = as.length) (hr : ∀ (j : Nat) (v : Value) (a : A), vs[j]? = some v → as[j]? = some a → RepA ro w none v a) : RepRes B ro w M (.tuple vs) as

/-- What a call of the evaluator's promises of the machine's call. -/
def CallOK (P : Program) (f : Nat) (as : List A) (σ : Option Rnd) (rs : List A) (σ' : Option Rnd) : Prop :=
  ∀ (ro : Set) (w : World) (L : Option Nat) (M : Set) (vargs : Array Value), Apart ro w (fun _ => False) M → SRel L M σ ro w → vargs.size = as.length →
    (∀ (j : Nat) (v : Value) (a : A), vargs[j]? = some v → as[j]? = some a → RepA ro w L v a) →
    Calls P f vargs w fun en w' => ∃ v ro' M', en = .returned v ∧ FStp ro w (fun _ => False) M ro' w' (fun _ => False) M' ∧ Apart ro' w' (fun _ => False) M' ∧ SRel L M' σ' ro' w' ∧ RepRes w.heap.size ro' w' M' v rs
/-- What a round promises. -/
def YieldOK (P : Program) (r : Rnd) (as : List A) (b : Bool) (r' : Rnd) : Prop :=
  ∀ (ro : Set) (w : World) (l : Nat) (M : Set) (vargs : Array Value), Apart ro w (fun _ => False) M → SRel (some l) M (some r) ro w → vargs.size = as.length →
    (∀ (j : Nat) (v : Value) (a : A), vargs[j]? = some v → as[j]? = some a → RepA ro w none v a) →
    ∃ tmps, (Instr.yield l vargs).run P w = .ok (.round l r.f tmps r.assign r.body) w ∧
      RoundIn Fence.wide 0 P l r.f tmps r.assign r.body w fun en w' => en = .returned (.bool b) ∧ ∃ ro' M', FStp ro w (fun _ => False) M ro' w' (fun _ => False) M' ∧ Apart ro' w' (fun _ => False) M' ∧ SRel (some l) M' (some r') ro' w'

theorem evalO_ok {st : St} {a : Act} {ro : Set} {w : World} {β : Tab} {L : Option Nat} {Own M : Set} (h : FR st a.tmps ro w β L Own M) (x : Operand) : RepV ro w β L (a.eval x) (evalO st.t x) := by
  cases x with
  | tmp i =>
    simp only [evalO, Act.eval]
    cases hg : get st.t i with
    | none => exact .undef _
    | some v =>
      obtain ⟨u, h1, h2⟩ := h.tmps i v hg
      simp only [Option.getD_some, Array.getD_eq_getD_getElem?, h1]
      exact h2
  | const v =>
    simp only [evalO, Act.eval]
    unfold ofConst
    split
    · rename_i cs
      cases hc : cs.toList.all Value.oneCell' with
      | false => exact .undef _
      | true =>
        simp only [cond_true]
        refine .agg cs _ (by simp) (fun j v x h1 h2 => ?_) (fun v hv => ?_)
        · rw [List.getElem?_map, Array.getElem?_toList, h1] at h2
          cases h2
          exact ofValue_rep _ _ _ _ _
        · rw [List.all_eq_true] at hc
          exact hc v (by simpa using hv)
    · exact ofValue_rep _ _ _ _ _
  | global g => exact .undef _
  | func f => exact .c _ _ (.fn f #[] [] rfl (by simp))
theorem get_del_self {α : Type} (d : Nat) (l : List (Nat × α)) : get (del d l) d = none := by
  induction l with
  | nil => rfl
  | cons a l ih =>
    obtain ⟨i, v⟩ := a
    unfold del at ih ⊢
    rw [List.filter_cons]
    split
    · rename_i h
      simp only [Bool.not_eq_true'] at h
      simp only [get, h, cond_false]
      exact ih
    · exact ih
theorem get_del_ne {α : Type} (d : Nat) (l : List (Nat × α)) (i : Nat) (h : i ≠ d) : get (del d l) i = get l i := by
  induction l with
  | nil => rfl
  | cons a l ih =>
    obtain ⟨k, v⟩ := a
    unfold del at ih ⊢
    rw [List.filter_cons]
    split
    · simp only [get]
      rw [ih]
    · rename_i hk
      have : k = d := by simpa using hk
      subst this
      simp only [get, nbf (Ne.symm h), cond_false]
      exact ih
theorem get_keepE (i : Nat) (v : V) (ks : List Nat) : ∀ (l : Env), get (keepE ks l) i = some v → get l i = some v := by
  intro l
  induction l with
  | nil => exact fun h => h
  | cons a l ih =>
    obtain ⟨k, u⟩ := a
    intro h
    unfold keepE at h ih
    rw [List.filter_cons] at h
    split at h
    · simp only [get] at h ⊢
      cases hk : Nat.beq k i with
      | true => rw [hk, cond_true] at h; exact h
      | false => rw [hk, cond_false] at h; exact ih h
    · next hn =>
      simp only [get]
      cases hk : Nat.beq k i with
      | true =>
        exfalso
        have := Nat.eq_of_beq_eq_true hk
        subst this
        have h1 := ih h
        -- what is found is kept
        have key : ∀ m : Env, get (m.filter fun x => ks.any (Nat.beq x.1)) k = some v → ks.any (Nat.beq k) = true := by
          intro m
          induction m with
          | nil => intro h; cases h
          | cons b m ihm =>
            obtain ⟨k2, u2⟩ := b
            intro h
            rw [List.filter_cons] at h
            split at h
            · next h2 =>
              simp only [get] at h
              cases hk2 : Nat.beq k2 k with
              | true => have := Nat.eq_of_beq_eq_true hk2; subst this; exact h2
              | false => rw [hk2, cond_false] at h; exact ihm h
            · exact ihm h
        exact hn (key l h)
      | false => rw [cond_false]; exact ih h
end Go.Proofs.Ytbhojnofdeihdaa.E
