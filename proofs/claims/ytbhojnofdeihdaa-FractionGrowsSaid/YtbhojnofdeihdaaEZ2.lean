/- What is shown here: an operation within a region, calls among them: the machine does what the evaluator does. -/
import Derived.Test.YtbhojnofdeihdaaEZ
namespace Go.Proofs.Ytbhojnofdeihdaa.E
open Go.RowKit
set_option autoImplicit false
set_option linter.unusedVariables false
set_option linter.unusedSimpArgs false
section
variable {α : Type} (P : Program) (hs : Hints) (e : Eng)
theorem operK_bind (st : St) (o : Oper) (K : V → List Rd → List Dl → Option Rnd → Bool → Option α) :
    operK P hs e st o K = (operK P hs e st o fun v r d s y => some (v, r, d, s, y)).bind fun x => K x.1 x.2.1 x.2.2.1 x.2.2.2.1 x.2.2.2.2 := by
  unfold operK
  split
  · split
    · split
      · simp only [bind_assoc3, cond_bind, Option.bind_some, Option.bind_none]
      · rfl
    · simp only [bind_assoc3]
      congr 1; funext f
      congr 1; funext as
      simp only [cond_bind]
      congr 1
      · split
        · simp only [bind_assoc3, Option.bind_some]
        · rfl
      · congr 1
        · split
          · split
            · simp only [bind_assoc3, Option.bind_some]
            · rfl
          · rfl
        · simp only [bind_assoc3, Option.bind_some]
  · rw [opK_bind]; conv => rhs; rw [opK_bind]
    simp only [bind_assoc3, Option.bind_some]
/-- One operation of a region, guard and all. -/
def opAt (ops : Array Oper) (i : Nat) (st : St) : Option (St × Option Rec) :=
  seqK P hs e ops [i] st [] fun st rs => some (st, rs.head?)
theorem seqK_one (ops : Array Oper) (i : Nat) (l : List Nat) (st : St) (rs : List Rec) (K : St → List Rec → Option α) :
    seqK P hs e ops (i :: l) st rs K = (opAt P hs e ops i st).bind fun x => seqK P hs e ops l x.1 (x.2.toList ++ rs) K := by
  unfold opAt
  simp only [seqK]
  split
  · rfl
  · simp only [cond_bind]
    congr 1
    split
    · rw [operK_bind]; conv => rhs; rw [operK_bind]
      simp only [bind_assoc3, Option.bind_some]
      rfl
    · split
      · rfl
      · split
        · rfl
        · simp only [cond_bind]
          congr 1
          · congr 1
            rw [operK_bind]; conv => rhs; rw [operK_bind]
            simp only [bind_assoc3, Option.bind_some]
            rfl
          · congr 1
            rw [operK_bind]; conv => rhs; rw [operK_bind]
            simp only [bind_assoc3, Option.bind_some]
            rfl
        · rfl
/-- All operations of a list. -/
def opsAt (ops : Array Oper) : List Nat → St → Option (St × List Rec)
  | [], st => some (st, [])
  | i :: l, st => (opAt P hs e ops i st).bind fun x => (opsAt ops l x.1).bind fun y => some (y.1, y.2 ++ x.2.toList)
theorem seqK_all (ops : Array Oper) : ∀ (l : List Nat) (st : St) (rs : List Rec) (K : St → List Rec → Option α), seqK P hs e ops l st rs K = (opsAt P hs e ops l st).bind fun x => K x.1 (x.2 ++ rs) := by
  intro l
  induction l with
  | nil => intro st rs K; rfl
  | cons i l ih =>
    intro st rs K
    rw [seqK_one]
    simp only [opsAt, bind_assoc3, Option.bind_some]
    congr 1; funext x
    rw [ih]
    congr 1; funext y
    rw [List.append_assoc]
end

/-- What is asked of the program as a whole. -/
structure PG (P : Program) : Prop where
  ng : ∀ (f : Nat) (fn : Func), P.funcs[f]? = some fn → fn.body.isSome = true → (fn.name == "runtime.NumGoroutine") = false
  mixed : P.follows .mixedOrders = true
structure ESound (P : Program) (e : Eng) : Prop where
  call : ∀ f as σ rs σ', e.call f as σ = some (.ret rs σ') → CallOK P f as σ rs σ'
  able : ∀ f as σ r, e.call f as σ = some r → ∃ fn, P.funcs[f]? = some fn ∧ fn.body.isSome = true
  yield : ∀ r as b r', e.yield r as = some (b, r') → YieldOK P r as b r'

section
variable {P : Program} {hs : Hints} {e : Eng}
theorem purA_ok {ro : Set} {w : World} {β : Tab} {L : Option Nat} {H : Heap} {Own : Set} (hH : RepH ro w β L H Own) {v : V} {a : A} {l : List Nat} (h : purA H v = some (a, l)) :
    (∀ h ∈ l, ∃ b z, get H h = some (.live b z)) ∧ ∀ u, RepV ro w β L u v → ∀ ro' : Set, (∀ b, ro b → ro' b) → (∀ h ∈ l, ∀ t, β h = some t → ro' t.b) → RepA ro' w L u a := by
  unfold purA at h
  split at h
  · cases h
    refine ⟨by simp, fun u hu ro' hr _ => ⟨by simp, ?_⟩⟩
    cases hu with
    | pagg vs _ hs hr0 => exact .pagg vs _ hs (fun j v x h1 h2 => (hr0 j v x h1 h2).mono hr (fun _ _ => rfl))
  · rename_i l'
    obtain ⟨r, hr0, h⟩ := Option.bind_eq_some_iff.1 h
    cases h
    obtain ⟨p1, p2⟩ := (pur_ok hH 40).2 _ _ _ hr0
    have hlen := purs_length 40 _ r hr0
    refine ⟨p1, fun u hu ro' hr hl => ⟨by simp, ?_⟩⟩
    cases hu with
    | agg vs _ hs hr1 hn =>
      show RepV ro' w _ L (.agg vs) (.pagg l'.length r.1)
      rw [← hlen]
      refine .pagg vs _ (by omega) (fun j v x h1 h2 => ?_)
      have hj : j < l'.length := by have := (List.getElem?_eq_some_iff.1 h2).1; omega
      exact p2 ro' hr hl j l'[j] x v (List.getElem?_eq_getElem hj) h2 (hr1 j v _ h1 (List.getElem?_eq_getElem hj))
  · cases h
    refine ⟨by simp, fun u hu ro' hr _ => ⟨by simp, ?_⟩⟩
    cases hu with
    | yld l hl => exact .yld l hl
  · obtain ⟨r, hr0, h⟩ := Option.bind_eq_some_iff.1 h
    cases h
    obtain ⟨p1, p2⟩ := (pur_ok hH 40).1 _ _ _ hr0
    exact ⟨p1, fun u hu ro' hr hl => ⟨by simp, .c _ _ (p2 u hu ro' hr hl)⟩⟩
theorem purAs_ok {ro : Set} {w : World} {β : Tab} {L : Option Nat} {H : Heap} {Own : Set} (hH : RepH ro w β L H Own) : ∀ (vs : List V) (r : List A × List Nat), purAs H vs = some r →
    (∀ h ∈ r.2, ∃ b z, get H h = some (.live b z)) ∧ r.1.length = vs.length ∧ ∀ ro' : Set, (∀ b, ro b → ro' b) → (∀ h ∈ r.2, ∀ t, β h = some t → ro' t.b) →
      ∀ (j : Nat) (v : V) (a : A) (u : Value), vs[j]? = some v → r.1[j]? = some a → RepV ro w β L u v → RepA ro' w L u a := by
  intro vs
  induction vs with
  | nil => intro r h; simp only [purAs] at h; cases h; exact ⟨by simp, rfl, by simp⟩
  | cons v vs ih =>
    intro r h
    simp only [purAs] at h
    obtain ⟨a, ha, h⟩ := Option.bind_eq_some_iff.1 h
    obtain ⟨b, hb, h⟩ := Option.bind_eq_some_iff.1 h
    cases h
    obtain ⟨a1, a2⟩ := purA_ok hH ha
    obtain ⟨b1, b2, b3⟩ := ih b hb
    refine ⟨fun i hi => (List.mem_append.1 hi).elim (a1 i) (b1 i), by simp [b2], fun ro' hr hl j v' x u h1 h2 hu => ?_⟩
    cases j with
    | zero => simp at h1 h2; subst h1 h2; exact a2 u hu ro' hr (fun i hi => hl i (by simp [hi]))
    | succ j => simp at h1 h2; exact b3 ro' hr (fun i hi => hl i (by simp [hi])) j v' x u h1 h2 hu
theorem funcOf_ok {ro : Set} {w : World} {β : Tab} {L : Option Nat} {H : Heap} {Own : Set} (hH : RepH ro w β L H Own) {v : V} {r : Nat × List C × List Nat} (h : funcOf H v = some r) {u : Value} (hu : RepV ro w β L u v) :
    (∀ h ∈ r.2.2, ∃ b z, get H h = some (.live b z)) ∧ ∃ caps : Array Value, u = .func (.func r.1) #[] caps ∧ caps.size = r.2.1.length ∧
      ∀ ro' : Set, (∀ b, ro b → ro' b) → (∀ h ∈ r.2.2, ∀ t, β h = some t → ro' t.b) → ∀ (j : Nat) (y : Value) (x : C), caps[j]? = some y → r.2.1[j]? = some x → Rep ro' w y x := by
  unfold funcOf at h
  split at h
  · cases h
    cases hu with
    | c _ _ hx =>
      cases hx with
      | fn f vs cs hs hr => exact ⟨by simp, vs, rfl, hs, fun ro' hro _ j y x h1 h2 => (hr j y x h1 h2).mono hro (fun _ _ => rfl)⟩
  · rename_i f caps
    obtain ⟨rr, hr0, h⟩ := Option.bind_eq_some_iff.1 h
    cases h
    obtain ⟨p1, p2⟩ := (pur_ok hH 40).2 _ _ _ hr0
    have hlen := purs_length 40 _ rr hr0
    cases hu with
    | clo _ vs _ hs hr =>
      refine ⟨p1, vs, rfl, by show vs.size = rr.1.length; omega, fun ro' hro hl j y x h1 h2 => ?_⟩
      have hj : j < caps.length := by have : j < rr.1.length := (List.getElem?_eq_some_iff.1 h2).1; omega
      exact p2 ro' hro hl j caps[j] x y (List.getElem?_eq_getElem hj) h2 (hr j y _ h1 (List.getElem?_eq_getElem hj))
  · simp at h
theorem dec_v (s : Sh) (a : A) (x : s.T) (h : s.dec a = some x) : (∀ sz es, a ≠ .arr sz es) ∧ s.v x = a.v := by
  cases a with
  | arr sz es => cases s <;> (change (none : Option _) = some _ at h; cases h)
  | yld => cases s <;> (change (none : Option _) = some _ at h; cases h)
  | agg m cs =>
    cases s with
    | agg n =>
      change (if m = n then some cs else none) = some x at h
      split at h
      · next e => cases h; subst e; exact ⟨by simp, rfl⟩
      · cases h
    | _ => change (none : Option _) = some _ at h; cases h
  | one y =>
    cases s with
    | agg n => change (none : Option _) = some _ at h; cases h
    | int k => have := asI_some (x := some y) h; cases this; exact ⟨by simp, rfl⟩
    | bool => have := asB_some (x := some y) h; cases this; exact ⟨by simp, rfl⟩
    | str => have := asS_some (x := some y) h; cases this; exact ⟨by simp, rfl⟩
    | sl => have := asL_some (x := some y) h; cases this; exact ⟨by simp, rfl⟩
    | fn => have := asF_some (x := some y) h; cases this; exact ⟨by simp, rfl⟩
    | ptr => have := asP_some (x := some y) h; cases this; exact ⟨by simp, rfl⟩
theorem decL_v : ∀ (l : List Sh) (as : List A) (x : TL l), decL l as = some x → (∀ a ∈ as, ∀ sz es, a ≠ .arr sz es) ∧ vL l x = as.map A.v ∧ l.length = as.length := by
  intro l
  induction l with
  | nil =>
    intro as x h
    cases as with
    | nil => exact ⟨by simp, rfl, rfl⟩
    | cons a as => change (none : Option _) = some _ at h; cases h
  | cons s l ih =>
    intro as x h
    cases l with
    | nil =>
      cases as with
      | nil => change (none : Option _) = some _ at h; cases h
      | cons a as =>
        cases as with
        | nil =>
          change s.dec a = some x at h
          obtain ⟨h1, h2⟩ := dec_v s a x h
          refine ⟨by simpa using h1, ?_, rfl⟩
          show [s.v x] = _
          rw [h2]; rfl
        | cons a' as => change (none : Option _) = some _ at h; cases h
    | cons s' l =>
      cases as with
      | nil => change (none : Option _) = some _ at h; cases h
      | cons a as =>
        change ((s.dec a).bind fun x => (decL (s' :: l) as).bind fun y => some (x, y)) = some x at h
        obtain ⟨x1, hx1, h⟩ := Option.bind_eq_some_iff.1 h
        obtain ⟨x2, hx2, h⟩ := Option.bind_eq_some_iff.1 h
        cases h
        obtain ⟨h1, h2⟩ := dec_v s a x1 hx1
        obtain ⟨g1, g2, g3⟩ := ih as x2 hx2
        refine ⟨fun b hb => ?_, ?_, by simpa using g3⟩
        · rcases List.mem_cons.1 hb with rfl | hb
          · exact h1
          · exact g1 b hb
        · show s.v x1 :: vL (s' :: l) x2 = _
          rw [h2, g2]; rfl
/-- The results of a call as the caller sees them. -/
theorem res_ok {ty : TypeId} {ts : List TypeId} {l : List Sh} (h1 : resTs P ty = some ts) (h2 : shL P ts = some l) {rs : List A} {x : TL l} (h3 : decL l rs = some x) {B : Nat} {ro : Set} {w : World} {M : Set} {v : Value} (h : RepRes B ro w M v rs) (β : Tab) (L : Option Nat) : RepV ro w β L v (tupV P ty (vL l x)) := by
  obtain ⟨g1, g2, g3⟩ := decL_v l rs x h3
  have lsh : ∀ (ts : List TypeId) (l : List Sh), shL P ts = some l → l.length = ts.length := by
    intro ts
    induction ts with
    | nil => intro l h; simp [shL] at h; subst h; rfl
    | cons t ts ih =>
      intro l h
      simp only [shL] at h
      obtain ⟨a, _, h⟩ := Option.bind_eq_some_iff.1 h
      obtain ⟨b, hb, h⟩ := Option.bind_eq_some_iff.1 h
      cases h
      simp [ih b hb]
  have hlen := lsh ts l h2
  have liftA : ∀ (y : Value) (a : A), RepA ro w none y a → RepV ro w β L y a.v := fun y a ha => by
    obtain ⟨k1, k2⟩ := ha
    cases a with
    | one x => exact .c _ _ (repC k2)
    | agg n cs => cases k2 with | pagg vs cs hs hr => exact .pagg vs cs hs hr
    | arr sz es => exact absurd rfl (k1 sz es)
    | yld => cases k2 with | yld l hl => cases hl
  unfold resTs at h1
  unfold tupV
  split at h1
  · rename_i tys hd
    obtain ⟨hne, h1⟩ := cond_none_some h1
    cases h1
    have hn1 : tys.toList.length ≠ 1 := fun e => by rw [e] at hne; simp at hne
    rw [g2]
    cases h with
    | one v a ha => simp at g3; omega
    | fresh t es hB k1 k2 k3 => simp at g3; omega
    | many vs as hn hs hr =>
      refine .tup vs _ (by simp [hs]) (fun j y z h1 h2 => ?_)
      rw [List.getElem?_map] at h2
      obtain ⟨a, ha, rfl⟩ := Option.map_eq_some_iff.1 h2
      exact liftA y a (hr j y a h1 ha)
  · rename_i hnt
    cases h1
    rw [g2]
    simp at hlen
    have hone : rs.length = 1 := by omega
    cases h with
    | one v a ha => exact liftA v a ha
    | fresh t es hB k1 k2 k3 => exact absurd rfl (g1 _ (by simp) t.sz es)
    | many vs as hn hs hr => exact absurd hone hn
end
end Go.Proofs.Ytbhojnofdeihdaa.E
