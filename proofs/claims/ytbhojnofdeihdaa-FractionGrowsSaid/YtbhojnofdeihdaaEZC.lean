/- What is shown here: at the head of a loop the state may be tidied. -/
import Derived.Test.YtbhojnofdeihdaaEZD
namespace Go.Proofs.Ytbhojnofdeihdaa.E
open Go.RowKit
set_option autoImplicit false
set_option linter.unusedVariables false
set_option linter.unusedSimpArgs false

theorem refsL_mem {v : V} {l : List V} (h : v ∈ l) {d : Nat} (hd : d ∈ refsV v) : d ∈ refsL l := by
  induction l with
  | nil => cases h
  | cons a l ih =>
    simp only [refsL, List.mem_append]
    rcases List.mem_cons.1 h with rfl | h
    · exact .inl hd
    · exact .inr (ih h)
theorem refsE_mem {t : Env} {i : Nat} {v : V} (h : get t i = some v) {d : Nat} (hd : d ∈ refsV v) : d ∈ refsE t := by
  induction t with
  | nil => cases h
  | cons a l ih =>
    obtain ⟨k, u⟩ := a
    simp only [get] at h
    simp only [refsE, List.mem_append]
    cases hk : Nat.beq k i with
    | true => rw [hk, cond_true] at h; cases h; exact .inl hd
    | false => rw [hk, cond_false] at h; exact .inr (ih h)
theorem refsH_mem {H : Heap} {i : Nat} {s : Slot} (h : get H i = some s) {d : Nat} (hd : d ∈ refsS s) : d ∈ refsH H := by
  induction H with
  | nil => cases h
  | cons a l ih =>
    obtain ⟨k, u⟩ := a
    simp only [get] at h
    simp only [refsH, List.mem_append]
    cases hk : Nat.beq k i with
    | true => rw [hk, cond_true] at h; cases h; exact .inl hd
    | false => rw [hk, cond_false] at h; exact .inr (ih h)
section
variable {ro : Set} {w : World} {L : Option Nat}
theorem RepV.refs {β β' : Tab} {u : Value} {v : V} (h : RepV ro w β L u v) (hb : ∀ h ∈ refsV v, β' h = β h) : RepV ro w β' L u v := by
  induction h with
  | c v x h => exact .c v x h
  | ptr h off t ht => exact .ptr h off t ((hb h (by simp [refsV])).trans ht)
  | eptr h i off t ht => exact .eptr h i off t ((hb h (by simp [refsV])).trans ht)
  | own h t ht => exact .own h t ((hb h (by simp [refsV])).trans ht)
  | nsl => exact .nsl
  | mapv h t ht => exact .mapv h t ((hb h (by simp [refsV])).trans ht)
  | clo f vs cs hs hr ih => exact .clo f vs cs hs (fun j v x h1 h2 => ih j v x h1 h2 (fun h hh => hb h (refsL_mem (List.mem_of_getElem? h2) hh)))
  | yld l hl => exact .yld l hl
  | agg vs cs hs hr hn ih => exact .agg vs cs hs (fun j v x h1 h2 => ih j v x h1 h2 (fun h hh => hb h (refsL_mem (List.mem_of_getElem? h2) hh))) hn
  | pagg vs cs hs hr => exact .pagg vs cs hs hr
  | tup vs cs hs hr ih => exact .tup vs cs hs (fun j v x h1 h2 => ih j v x h1 h2 (fun h hh => hb h (refsL_mem (List.mem_of_getElem? h2) hh)))
  | undef v => exact .undef v
theorem RepB.refs {β β' : Tab} {t : Bt} {b : Blk} {z : Bool} (h : RepB ro w β L t b) (hb : ∀ h ∈ refsS (.live b z), β' h = β h) : RepB ro w β' L t b := by
  cases h with
  | pc cs c el hh hs hr => exact .pc cs c el hh hs hr
  | vs l c el hh hs hr hn => exact .vs l c el hh hs (fun j v x h1 h2 => (hr j v x h1 h2).refs (fun h hh => hb h (refsL_mem (List.mem_of_getElem? h2) hh))) hn
  | arr es c el hh hs hn hc hz hr => exact .arr es c el hh hs hn hc hz hr
  | map es ents clock hh hs hk hv => exact .map es ents clock hh hs hk hv

/-- Temporaries and memory together. -/
structure TH (tm : Array Value) (ro : Set) (w : World) (L : Option Nat) (β : Tab) (t : Env) (H : Heap) (Own : Set) : Prop where
  t : ∀ i v, get t i = some v → ∃ u, tm[i]? = some u ∧ RepV ro w β L u v
  h : RepH ro w β L H Own
def Tidy (kp : List Nat) (t : Env) (H : Heap) (t' : Env) (H' : Heap) : Prop := ∀ (tm : Array Value) (ro : Set) (w : World) (L : Option Nat) (β : Tab) (Own : Set), TH tm ro w L β t H Own → ∃ β' Own', TH tm ro w L β' t' H' Own' ∧ (∀ b, Own' b → Own b) ∧ ∀ k ∈ kp, ∀ tt, β k = some tt → β' k = some tt
theorem Tidy.refl (kp : List Nat) (t : Env) (H : Heap) : Tidy kp t H t H := fun tm ro w L β Own h => ⟨β, Own, h, fun _ h => h, fun _ _ _ h => h⟩
theorem Tidy.trans {kp : List Nat} {t : Env} {H : Heap} {t' : Env} {H' : Heap} {t2 : Env} {H2 : Heap} (h : Tidy kp t H t' H') (k : Tidy kp t' H' t2 H2) : Tidy kp t H t2 H2 := fun tm ro w L β Own h0 => by
  obtain ⟨β1, Own1, h1, h2, h5⟩ := h tm ro w L β Own h0
  obtain ⟨β2, Own2, h3, h4, h6⟩ := k tm ro w L β1 Own1 h1
  exact ⟨β2, Own2, h3, fun b hb => h2 b (h4 b hb), fun i hi tt ht => h6 i hi tt (h5 i hi tt ht)⟩
theorem tidy_keep (kp ks : List Nat) (t : Env) (H : Heap) : Tidy kp t H (keepE ks t) H := fun tm ro w L β Own h => ⟨β, Own, ⟨fun i v hi => h.t i v (get_keepE i v ks t hi), h.h⟩, fun _ h => h, fun _ _ _ h => h⟩
theorem tidy_free1 {kp : List Nat} {t : Env} {H : Heap} {d : Nat} (h0 : d ∉ kp) (h1 : d ∉ refsE t) (h2 : d ∉ refsH (del d H)) : Tidy kp t H t (del d H) := fun tm ro w L β Own h => by
  have hβ : ∀ k, k ≠ d → (fun k => if k = d then none else β k) k = β k := fun k hk => if_neg hk
  have hget : ∀ i s, get (del d H) i = some s → i ≠ d ∧ get H i = some s := fun i s hi => by
    by_cases e : i = d
    · subst e; rw [get_del_self] at hi; cases hi
    · exact ⟨e, by rwa [get_del_ne d H i e] at hi⟩
  refine ⟨fun k => if k = d then none else β k, fun b => Own b ∧ ∃ k bl tt, k ≠ d ∧ get H k = some (.live bl false) ∧ β k = some tt ∧ tt.b = b, ⟨fun i v hi => ?_, ?_, fun i b z hi => ?_, fun i i' b z b' z' tt tt' hne g1 g2 g3 g4 => ?_, fun b hb => ?_⟩, fun b hb => hb.1, fun k hk tt ht => by simp only [if_neg (show k ≠ d from fun e => h0 (e ▸ hk))]; exact ht⟩
  · obtain ⟨u, g1, g2⟩ := h.t i v hi
    exact ⟨u, g1, g2.refs (fun k hk => hβ k (fun e => h1 (e ▸ refsE_mem hi hk)))⟩
  · intro i hi
    by_cases e : i = d
    · simp [e]
    · rw [get_del_ne d H i e] at hi
      simp only [if_neg e]; exact h.h.free i hi
  · obtain ⟨e, g⟩ := hget i _ hi
    obtain ⟨tt, k1, k2, k3, k4⟩ := h.h.live i b z g
    exact ⟨tt, by simp only [if_neg e]; exact k1, k2.refs (fun k hk => hβ k (fun e' => h2 (e' ▸ refsH_mem (s := .live b z) hi hk))), k3, fun hz => ⟨k4 hz, i, b, tt, e, by rw [← hz]; exact g, k1, rfl⟩⟩
  · obtain ⟨e1, k1⟩ := hget i _ g1
    obtain ⟨e2, k2⟩ := hget i' _ g2
    simp only [if_neg e1] at g3
    simp only [if_neg e2] at g4
    exact h.h.inj i i' b z b' z' tt tt' hne k1 k2 g3 g4
  · obtain ⟨_, k, bl, tt, e, g1, g2, g3⟩ := hb
    exact ⟨k, bl, tt, by rw [get_del_ne d H k e]; exact g1, by simp only [if_neg e]; exact g2, g3⟩
theorem tidy_free (kp : List Nat) (t : Env) : ∀ (ds : List Nat) (H : Heap), Tidy kp t H t (freeH kp t ds H) := by
  intro ds
  induction ds with
  | nil => exact fun H => .refl kp t H
  | cons d ds ih =>
    intro H
    simp only [freeH]
    cases hb : kp.any (Nat.beq d) || ((refsE t).any (Nat.beq d) || (refsH (del d H)).any (Nat.beq d)) with
    | true => rw [cond_true]; exact ih H
    | false =>
      rw [cond_false]
      rw [Bool.or_eq_false_iff, Bool.or_eq_false_iff] at hb
      have no : ∀ l : List Nat, l.any (Nat.beq d) = false → d ∉ l := fun l hl hd => by
        rw [List.any_eq_false] at hl
        exact hl d hd (Nat.beq_refl d)
      exact (tidy_free1 (no _ hb.1) (no _ hb.2.1) (no _ hb.2.2)).trans (ih _)

/-! ### another name for a block -/
theorem get_map {α β : Type} (f : α → β) (l : List (Nat × α)) (i : Nat) : get (l.map fun x => (x.1, f x.2)) i = (get l i).map f := by
  induction l with
  | nil => rfl
  | cons a l ih =>
    obtain ⟨k, u⟩ := a
    simp only [List.map_cons, get]
    cases Nat.beq k i with
    | true => rfl
    | false => exact ih
theorem renL_map (d m : Nat) : ∀ l : List V, renL d m l = l.map (renV d m) := by
  intro l
  induction l with
  | nil => rfl
  | cons a l ih => simp only [renL, List.map_cons, ih]
def renTo (d m h : Nat) : Nat := bif Nat.beq h d then m else h
theorem RepV.ren {β β' : Tab} {d m : Nat} (hb : ∀ h t, β h = some t → β' (renTo d m h) = some t) {u : Value} {v : V} (h : RepV ro w β L u v) : RepV ro w β' L u (renV d m v) := by
  have lst : ∀ {vs : Array Value} {cs : List V}, (∀ (j : Nat) (v : Value) (x : V), vs[j]? = some v → cs[j]? = some x → RepV ro w β' L v (renV d m x)) → ∀ (j : Nat) (v : Value) (x : V), vs[j]? = some v → (renL d m cs)[j]? = some x → RepV ro w β' L v x := fun {vs cs} ih j v x h1 h2 => by
    rw [renL_map, List.getElem?_map] at h2
    obtain ⟨y, h3, rfl⟩ := Option.map_eq_some_iff.1 h2
    exact ih j v y h1 h3
  induction h with
  | c v x h => exact .c v x h
  | ptr h off t ht => exact .ptr _ off t (hb h t ht)
  | eptr h i off t ht => exact .eptr _ i off t (hb h t ht)
  | own h t ht => exact .own _ t (hb h t ht)
  | nsl => exact .nsl
  | mapv h t ht => exact .mapv _ t (hb h t ht)
  | clo f vs cs hs hr ih => exact .clo f vs _ (by rw [renL_map, List.length_map]; exact hs) (lst ih)
  | yld l hl => exact .yld l hl
  | agg vs cs hs hr hn ih => exact .agg vs _ (by rw [renL_map, List.length_map]; exact hs) (lst ih) hn
  | pagg vs cs hs hr => exact .pagg vs cs hs hr
  | tup vs cs hs hr ih => exact .tup vs _ (by rw [renL_map, List.length_map]; exact hs) (lst ih)
  | undef v => exact .undef v
def renB (d m : Nat) : Blk → Blk
  | .vs l => .vs (renL d m l)
  | b => b
theorem RepB.ren {β β' : Tab} {d m : Nat} (hb : ∀ h t, β h = some t → β' (renTo d m h) = some t) {t : Bt} {b : Blk} (h : RepB ro w β L t b) : RepB ro w β' L t (renB d m b) := by
  cases h with
  | pc cs c el hh hs hr => exact .pc cs c el hh hs hr
  | vs l c el hh hs hr hn =>
    refine .vs _ c el hh (by rw [renL_map, List.length_map]; exact hs) (fun j v x h1 h2 => ?_) hn
    rw [renL_map, List.getElem?_map] at h2
    obtain ⟨y, h3, rfl⟩ := Option.map_eq_some_iff.1 h2
    exact (hr j v y h1 h3).ren hb
  | arr es c el hh hs hn hc hz hr => exact .arr es c el hh hs hn hc hz hr
  | map es ents clock hh hs hk hv => exact .map es ents clock hh hs hk hv
theorem renS_live {d m : Nat} {s : Slot} {b : Blk} {z : Bool} (h : renS d m s = .live b z) : ∃ b0, s = .live b0 z ∧ b = renB d m b0 := by
  cases s with
  | dead => simp [renS] at h
  | live b0 z0 => cases b0 <;> simp only [renS, Slot.live.injEq] at h <;> obtain ⟨rfl, rfl⟩ := h <;> exact ⟨_, rfl, rfl⟩
theorem renS_of (d m : Nat) (b : Blk) (z : Bool) : renS d m (.live b z) = .live (renB d m b) z := by cases b <;> rfl
theorem tidy_ren1 (kp : List Nat) (d m : Nat) (t : Env) (H : Heap) : Tidy kp t H (renOne kp d m t H).1 (renOne kp d m t H).2 := by
  unfold renOne
  cases hkp : kp.any (Nat.beq d) with
  | true => rw [cond_true]; exact .refl kp t H
  | false =>
  rw [cond_false]
  split
  · rename_i s hd hm
    intro tm ro w L β Own h
    have hdm : m ≠ d := fun e => by rw [e, hd] at hm; cases hm
    have hβm : β m = none := h.h.free m hm
    have hb : ∀ k tt, β k = some tt → (fun k => if k = m then β d else if k = d then none else β k) (renTo d m k) = some tt := fun k tt hk => by
      have hkm : k ≠ m := fun e => by rw [e, hβm] at hk; cases hk
      unfold renTo
      cases e : Nat.beq k d with
      | true => have := Nat.eq_of_beq_eq_true e; subst this; simp only [cond_true, if_true]; exact hk
      | false =>
        have hkd : k ≠ d := fun e' => by subst e'; rw [show Nat.beq k k = true from Nat.beq_refl k] at e; cases e
        simp only [cond_false, if_neg hkm, if_neg hkd]; exact hk
    have hget : ∀ i, get (ins m (renS d m s) ((del d H).map fun x => (x.1, renS d m x.2))) i = if i = m then some (renS d m s) else if i = d then none else (get H i).map (renS d m) := fun i => by
      rw [get_ins, get_map]
      by_cases e : i = m
      · simp [e]
      · rw [if_neg e, if_neg e]
        by_cases e' : i = d
        · subst e'; rw [get_del_self]; simp
        · rw [if_neg e', get_del_ne d H i e']
    -- a slot of the new memory and the old one that it comes from
    have hfrom : ∀ i b z, get (ins m (renS d m s) ((del d H).map fun x => (x.1, renS d m x.2))) i = some (.live b z) → ∃ i0 b0, get H i0 = some (.live b0 z) ∧ b = renB d m b0 ∧ renTo d m i0 = i ∧ (fun k => if k = m then β d else if k = d then none else β k) i = β i0 := fun i b z hi => by
      rw [hget] at hi
      split at hi
      · next e =>
        simp only [Option.some.injEq] at hi
        obtain ⟨b0, rfl, rfl⟩ := renS_live hi
        refine ⟨d, b0, hd, rfl, ?_, by simp [e]⟩
        unfold renTo; rw [show Nat.beq d d = true from Nat.beq_refl d]; exact e.symm
      · next e =>
        split at hi
        · cases hi
        · next e' =>
          obtain ⟨s0, g1, g2⟩ := Option.map_eq_some_iff.1 hi
          obtain ⟨b0, rfl, rfl⟩ := renS_live g2
          refine ⟨i, b0, g1, rfl, ?_, by simp only [if_neg e, if_neg e']⟩
          unfold renTo; rw [nbf e']; rfl
    refine ⟨fun k => if k = m then β d else if k = d then none else β k, Own, ⟨fun i v hi => ?_, fun i hi => ?_, fun i b z hi => ?_, fun i i' b z b' z' tt tt' hne g1 g2 g3 g4 => ?_, fun b hb' => ?_⟩, fun _ h => h, fun k hk tt ht => ?_⟩
    · simp only [get_map] at hi
      obtain ⟨v0, g1, rfl⟩ := Option.map_eq_some_iff.1 hi
      obtain ⟨u, g2, g3⟩ := h.t i v0 g1
      exact ⟨u, g2, g3.ren hb⟩
    · rw [hget] at hi
      split at hi
      · cases hi
      · next e =>
        simp only [if_neg e]
        split at hi
        · next e' => simp [e']
        · next e' =>
          simp only [if_neg e']
          exact h.h.free i (Option.map_eq_none_iff.1 hi)
    · obtain ⟨i0, b0, g1, rfl, g2, g3⟩ := hfrom i b z hi
      obtain ⟨tt, k1, k2, k3, k4⟩ := h.h.live i0 b0 z g1
      exact ⟨tt, g3.trans k1, k2.ren hb, k3, k4⟩
    · obtain ⟨i0, b0, k1, rfl, k2, k3⟩ := hfrom i b z g1
      obtain ⟨j0, c0, q1, rfl, q2, q3⟩ := hfrom i' b' z' g2
      have g3 := k3.symm.trans g3
      have g4 := q3.symm.trans g4
      exact h.h.inj i0 j0 b0 z c0 z' tt tt' (fun e => hne (by rw [← k2, ← q2, e])) k1 q1 g3 g4
    · obtain ⟨k, bl, tt, g1, g2, g3⟩ := h.h.own b hb'
      refine ⟨renTo d m k, renB d m bl, tt, ?_, hb k tt g2, g3⟩
      have hkm : k ≠ m := fun e => by rw [e, hβm] at g2; cases g2
      rw [hget]
      unfold renTo
      cases e : Nat.beq k d with
      | true =>
        have := Nat.eq_of_beq_eq_true e; subst this
        rw [hd] at g1
        cases g1
        simp only [cond_true, if_true, renS_of]
      | false =>
        have hkd : k ≠ d := fun e' => by subst e'; rw [show Nat.beq k k = true from Nat.beq_refl k] at e; cases e
        simp only [cond_false, if_neg hkm, if_neg hkd, g1, Option.map_some, renS_of]
    · have hkm : k ≠ m := fun e => by rw [e, hβm] at ht; cases ht
      have hkd : k ≠ d := fun e => by
        rw [List.any_eq_false] at hkp
        exact hkp k hk (by rw [e]; exact Nat.beq_refl d)
      simp only [if_neg hkm, if_neg hkd]; exact ht
  · exact .refl kp t H
theorem tidy_ren (kp : List Nat) : ∀ (l : List (Nat × Nat)) (t : Env) (H : Heap), Tidy kp t H (renAll kp l t H).1 (renAll kp l t H).2 := by
  intro l
  induction l with
  | nil => exact fun t H => .refl kp t H
  | cons a l ih =>
    obtain ⟨d, m⟩ := a
    intro t H
    simp only [renAll]
    split
    · exact ((tidy_free kp t [m] H).trans (tidy_ren1 kp d m t _)).trans (ih _ _)
    · exact (tidy_ren1 kp d m t H).trans (ih _ _)
/-- THE HEAD OF A LOOP. -/
theorem clean_ok (hs : Hints) (c : Code) {st : St} {tm : Array Value} {β : Tab} {Own M : Set} (hR : FR st tm ro w β L Own M) :
    ∃ β' Own', FR (clean hs c st) tm ro w β' L Own' M ∧ FStp ro w Own M ro w Own' M ∧ ∀ k ∈ st.keep, ∀ tt, β k = some tt → β' k = some tt := by
  have h : Tidy st.keep st.t st.H (clean hs c st).t (clean hs c st).H := by
    have h0 : Tidy st.keep st.t st.H (match hs.live st.f (firstReg c) with | some ks => keepE ks st.t | none => st.t) st.H := by
      split
      · exact tidy_keep _ _ _ _
      · exact .refl _ _ _
    exact ((h0.trans (tidy_free _ _ _ _)).trans (tidy_free _ _ _ _)).trans (tidy_ren _ _ _ _)
  obtain ⟨β', Own', h1, h2, h3⟩ := h tm ro w L β Own ⟨hR.tmps, hR.heap⟩
  exact ⟨β', Own', ⟨hR.nt, h1.t, h1.h, ⟨hR.apart.r, fun b hb => hR.apart.own b (h2 b hb), fun b hb => ⟨(hR.apart.m b hb).1, (hR.apart.m b hb).2.1, fun hb' => (hR.apart.m b hb).2.2 (h2 b hb')⟩⟩, hR.sig⟩,
    ⟨rfl, rfl, rfl, Nat.le_refl _, fun _ h => h, fun _ _ => rfl, fun _ _ _ _ => rfl, fun _ => .inl, fun b hb => .inl (h2 b hb), fun _ => .inl, fun l rec h => ⟨rec, h, rfl⟩⟩, h3⟩
theorem RepV.keep {β β' : Tab} {u : Value} {v : V} (h : RepV ro w β L u v) (hb : ∀ h ∈ refsV v, ∀ t, β h = some t → β' h = some t) : RepV ro w β' L u v := by
  induction h with
  | c v x h => exact .c v x h
  | ptr h off t ht => exact .ptr h off t (hb h (by simp [refsV]) t ht)
  | eptr h i off t ht => exact .eptr h i off t (hb h (by simp [refsV]) t ht)
  | own h t ht => exact .own h t (hb h (by simp [refsV]) t ht)
  | nsl => exact .nsl
  | mapv h t ht => exact .mapv h t (hb h (by simp [refsV]) t ht)
  | clo f vs cs hs hr ih => exact .clo f vs cs hs (fun j v x h1 h2 => ih j v x h1 h2 (fun h hh => hb h (refsL_mem (List.mem_of_getElem? h2) hh)))
  | yld l hl => exact .yld l hl
  | agg vs cs hs hr hn ih => exact .agg vs cs hs (fun j v x h1 h2 => ih j v x h1 h2 (fun h hh => hb h (refsL_mem (List.mem_of_getElem? h2) hh))) hn
  | pagg vs cs hs hr => exact .pagg vs cs hs hr
  | tup vs cs hs hr ih => exact .tup vs cs hs (fun j v x h1 h2 => ih j v x h1 h2 (fun h hh => hb h (refsL_mem (List.mem_of_getElem? h2) hh)))
  | undef v => exact .undef v
end
end Go.Proofs.Ytbhojnofdeihdaa.E
