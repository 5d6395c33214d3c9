/- What is shown here: the operations of a region, in whatever order. -/
import Derived.Test.YtbhojnofdeihdaaEZ3
namespace Go.Proofs.Ytbhojnofdeihdaa.E
open Go.RowKit
set_option autoImplicit false
set_option linter.unusedVariables false
set_option linter.unusedSimpArgs false
section
variable {P : Program} {hs : Hints} {e : Eng}

theorem put_get {a : Act} {d : Nat} {u : Value} {nt : Nat} (hd : d < nt) (hn : nt ≤ a.tmps.size) (i : Nat) : (a.put (some d) u).tmps[i]? = if i = d then some u else a.tmps[i]? := by
  show (a.tmps.setIfInBounds d u)[i]? = _
  split
  · next h => subst h; rw [Array.getElem?_setIfInBounds_self_of_lt (by omega)]
  · next h => rw [Array.getElem?_setIfInBounds_ne (Ne.symm h)]
/-- A frame's state with one temporary put. -/
theorem FR.put {st : St} {a : Act} {ro : Set} {w : World} {β : Tab} {L : Option Nat} {Own M : Set} {o : Option Nat} {u : Value} {v : V} {st' : St} (hd : dstOk st.nt o = true)
    (hnt : st.nt ≤ a.tmps.size) (htm : ∀ i x, get st.t i = some x → ∃ y, a.tmps[i]? = some y ∧ RepV ro w β L y x) (hv : RepV ro w β L u v) (hH : RepH ro w β L st'.H Own) (ha : Apart ro w Own M) (hs : SRel L M st'.σ ro w) (ht : st'.t = putE st.t o v) (hn : st'.nt = st.nt) :
    FR st' (a.put o u).tmps ro w β L Own M := by
  refine ⟨?_, fun i x hi => ?_, hH, ha, hs⟩
  · rw [hn]
    cases o with
    | none => exact hnt
    | some d => show _ ≤ (a.tmps.setIfInBounds d u).size; simpa using hnt
  · rw [ht] at hi
    cases o with
    | none => exact htm i x hi
    | some d =>
      have hd' : d < st.nt := Nat.le_of_ble_eq_true hd
      rw [put_get hd' hnt]
      simp only [putE, get_ins] at hi
      split at hi
      · next e => cases hi; rw [if_pos e]; exact ⟨u, rfl, hv⟩
      · next e => rw [if_neg e]; exact htm i x hi
/-- A bool that is known is written in its place. -/
theorem FR.know0 {st : St} {tm : Array Value} {ro : Set} {w : World} {β : Tab} {L : Option Nat} {Own M : Set} (h : FR st tm ro w β L Own M) {dj : Nat} {v : V} (hg : get st.t dj = some v) : FR { st with t := ins dj v st.t } tm ro w β L Own M := by
  refine ⟨h.nt, fun i v hi => ?_, h.heap, h.apart, h.sig⟩
  simp only [get_ins] at hi
  split at hi
  · next e => cases hi; rw [e]; exact h.tmps dj _ hg
  · exact h.tmps i v hi
theorem FR.know {st : St} {tm : Array Value} {ro : Set} {w : World} {β : Tab} {L : Option Nat} {Own M : Set} (h : FR st tm ro w β L Own M) {dj : Nat} {p : Bool} (hg : get st.t dj = some (.c (.bool p))) : FR { st with t := ins dj (.c (.bool p)) st.t } tm ro w β L Own M := by
  refine ⟨h.nt, fun i v hi => ?_, h.heap, h.apart, h.sig⟩
  simp only [get_ins] at hi
  split at hi
  · next e => cases hi; rw [e]; exact h.tmps dj _ hg
  · exact h.tmps i v hi

theorem wanted_none {ops : Array Oper} {o : Oper} (h : o.guard = none) (tm : Array Value) : Region.wanted o (yielded ops tm) = true := by unfold Region.wanted; rw [h]
theorem wanted_some {ops : Array Oper} {o : Oper} {j : Nat} {want p : Bool} (h : o.guard = some (j, want)) {dj : Nat} (hj : (ops[j]?).bind (·.dst) = some dj) {st : St} {tm : Array Value} {ro : Set} {w : World} {β : Tab} {L : Option Nat} {Own M : Set} (hR : FR st tm ro w β L Own M) (hg : get st.t dj = some (.c (.bool p))) :
    Region.wanted o (yielded ops tm) = (p == want) := by
  unfold Region.wanted yielded
  rw [h]
  obtain ⟨u, h1, h2⟩ := hR.tmps dj _ hg
  obtain rfl := rep_bool h2
  simp only [hj, Option.bind_some, h1]
  cases p <;> cases want <;> rfl

theorem wanted_skip {ops : Array Oper} {o : Oper} {j : Nat} {want : Bool} (h : o.guard = some (j, want)) {dj : Nat} (hj : (ops[j]?).bind (·.dst) = some dj) {st : St} {tm : Array Value} {ro : Set} {w : World} {β : Tab} {L : Option Nat} {Own M : Set} (hR : FR st tm ro w β L Own M) (hg : get st.t dj = some (.tup [])) :
    Region.wanted o (yielded ops tm) = false := by
  unfold Region.wanted yielded
  rw [h]
  obtain ⟨u, h1, h2⟩ := hR.tmps dj _ hg
  have hu : ∃ vs, u = .tuple vs := by cases h2 with | tup vs _ _ _ => exact ⟨vs, rfl⟩
  obtain ⟨vs, rfl⟩ := hu
  simp only [hj, Option.bind_some, h1]
  rfl

/-- ONE OPERATION OF A REGION. -/
theorem opAt_ok (hP : PG P) (hE : ESound P e) {F : Fence} (hF : F.plain = Fence.wide) {ops : Array Oper} {i : Nat} {st st' : St} {rc : Option Rec} (h : opAt P hs e ops i st = some (st', rc))
    {a : Act} {ro : Set} {w : World} {β : Tab} {L : Option Nat} {Own M : Set} (hR : FR st a.tmps ro w β L Own M) {n : Nat} {K : Act → World → Prop} {Q : Exit → Act → World → Prop}
    (hK : ∀ a' ro' w' β' Own' M', a'.defers = a.defers → a'.tmps.size = a.tmps.size → FR st' a'.tmps ro' w' β' L Own' M' → FStp ro w Own M ro' w' Own' M' → (∀ h t, β h = some t → β' h = some t) → K a' w') : wpOpIn F n P ops Q i K a w := by
  have psize : ∀ (o : Option Nat) (u : Value), (a.put o u).tmps.size = a.tmps.size := fun o u => by cases o <;> simp [Act.put]
  have pdef : ∀ (o : Option Nat) (u : Value), (a.put o u).defers = a.defers := fun o u => by cases o <;> rfl
  unfold opAt at h
  simp only [seqK] at h
  unfold wpOpIn
  split at h
  · simp at h
  · rename_i o ho
    rw [ho]
    obtain ⟨hd, h⟩ := cond_some_none h
    simp only
    -- an operation that is carried out
    have exec : ∀ (st1 : St), FR st1 a.tmps ro w β L Own M → st1.nt = st.nt → (operK P hs e st1 o fun v r d s y => some (({ st1 with t := putE st1.t o.dst v, H := appAll d st1.H, σ := s } : St), ([⟨i, r, d, y⟩] : List Rec).head?)) = some (st', rc) →
        o.wpIn F n P a w K Q := fun st1 hR1 hnt h => by
      rw [operK_bind] at h
      obtain ⟨x, hx, h⟩ := Option.bind_eq_some_iff.1 h
      cases h
      refine operK_ok hP hE hF hx hR1 (fun u ro' w' β' Own' M' hL hβ => hK _ ro' w' β' Own' M' (pdef _ _) (psize _ _) ?_ hL.step hβ)
      exact FR.put (st := st1) (by rw [hnt]; exact hd) hR1.nt hL.tmps hL.val hL.heap hL.apart hL.sig rfl rfl
    -- an operation that is passed over
    have skip : ∀ (st1 : St), FR st1 a.tmps ro w β L Own M → st1.nt = st.nt → some (({ st1 with t := putE st1.t o.dst (.tup []) } : St), (none : Option Rec)) = some (st', rc) → K (a.put o.dst Go.undef) w := fun st1 hR1 hnt h => by
      cases h
      exact hK _ ro w β Own M (pdef _ _) (psize _ _) (FR.put (st := st1) (by rw [hnt]; exact hd) hR1.nt hR1.tmps (.tup #[] [] rfl (by simp)) hR1.heap hR1.apart hR1.sig rfl rfl) (.refl _ _ _ _) (fun _ _ h => h)
    split at h
    · rename_i hgd
      rw [if_pos (wanted_none hgd _)]
      exact exec st hR rfl h
    · rename_i j want hgd
      split at h
      · simp at h
      · rename_i dj hdj
        split at h
        · rename_i hg
          have hw := wanted_skip hgd hdj hR hg
          rw [if_neg (by rw [hw]; simp)]; exact ⟨fun f _ => fn_of hF f, skip _ (hR.know0 hg) rfl h⟩
        · rename_i p hg
          have hw := wanted_some hgd hdj hR hg
          have hR' := hR.know hg
          cases p with
          | true =>
            rw [cond_true] at h
            cases want with
            | true =>
              rw [cond_true] at h
              have hw1 : Region.wanted o (yielded ops a.tmps) = true := hw.trans rfl
              rw [if_pos hw1]; exact exec _ hR' rfl h
            | false => rw [cond_false] at h; rw [if_neg (by rw [hw]; simp)]; exact ⟨fun f _ => fn_of hF f, skip _ hR' rfl h⟩
          | false =>
            rw [cond_false] at h
            cases want with
            | true => rw [cond_true] at h; rw [if_neg (by rw [hw]; simp)]; exact ⟨fun f _ => fn_of hF f, skip _ hR' rfl h⟩
            | false =>
              rw [cond_false] at h
              have hw1 : Region.wanted o (yielded ops a.tmps) = true := hw.trans rfl
              rw [if_pos hw1]; exact exec _ hR' rfl h
        · simp at h
/-- THE OPERATIONS OF A REGION, ONE BEHIND THE OTHER. -/
theorem opsAt_ok (hP : PG P) (hE : ESound P e) {F : Fence} (hF : F.plain = Fence.wide) {ops : Array Oper} {n : Nat} {Q : Exit → Act → World → Prop} : ∀ (l : List Nat) (st st' : St) (rs : List Rec), opsAt P hs e ops l st = some (st', rs) →
    ∀ (a : Act) (ro : Set) (w : World) (β : Tab) (L : Option Nat) (Own M : Set), FR st a.tmps ro w β L Own M →
    (∀ a' ro' w' β' Own' M', a'.defers = a.defers → a'.tmps.size = a.tmps.size → FR st' a'.tmps ro' w' β' L Own' M' → FStp ro w Own M ro' w' Own' M' → (∀ h t, β h = some t → β' h = some t) → Q .normal a' w') → wpOpsIn F n P ops Q l a w := by
  intro l
  induction l with
  | nil =>
    intro st st' rs h a ro w β L Own M hR hQ
    simp only [opsAt] at h; cases h
    exact hQ a ro w β Own M rfl rfl hR (.refl _ _ _ _) (fun _ _ h => h)
  | cons i l ih =>
    intro st st' rs h a ro w β L Own M hR hQ
    simp only [opsAt] at h
    obtain ⟨x, hx, h⟩ := Option.bind_eq_some_iff.1 h
    obtain ⟨y, hy, h⟩ := Option.bind_eq_some_iff.1 h
    cases h
    rw [wpOpsIn_cons]
    refine opAt_ok hP hE hF hx hR (fun a' ro' w' β' Own' M' h1 h2 h3 h4 h5 => ?_)
    exact ih x.1 y.1 y.2 hy a' ro' w' β' L Own' M' h3 (fun a2 ro2 w2 β2 Own2 M2 g1 g2 g3 g4 g5 => hQ a2 ro2 w2 β2 Own2 M2 (g1.trans h1) (g2.trans h2) g3 (h4.trans g4) (fun h t ht => g5 h t (h5 h t ht)))
end
end Go.Proofs.Ytbhojnofdeihdaa.E
