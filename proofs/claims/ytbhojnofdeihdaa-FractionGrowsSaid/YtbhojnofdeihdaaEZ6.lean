/- What is shown here: an operation sees no more of the memory than it records. -/
import Derived.Test.YtbhojnofdeihdaaEZ5
namespace Go.Proofs.Ytbhojnofdeihdaa.E
open Go.RowKit
set_option autoImplicit false
set_option linter.unusedVariables false
set_option linter.unusedSimpArgs false

def Blk.shape : Blk → Blk
  | .pc n _ => .pc n []
  | .vs l => .vs (List.replicate l.length .undef)
  | b => b
def Slot.bare : Slot → Option Blk
  | .live b _ => some b
  | .dead => none
def Slot.shape : Slot → Option (Blk × Bool)
  | .live b z => some (b.shape, z)
  | .dead => none
/-- Two memories that one and the same look sees alike. -/
def Agree (H H' : Heap) : Rd → Prop
  | .look h => (get H h).map Slot.bare = (get H' h).map Slot.bare
  | .stat h => (get H h).map Slot.shape = (get H' h).map Slot.shape
  | .free h => (get H h).isNone = (get H' h).isNone
theorem Agree.symm {H H' : Heap} {r : Rd} (h : Agree H H' r) : Agree H' H r := by cases r <;> exact Eq.symm h
theorem Agree.trans {H H' H2 : Heap} {r : Rd} (h : Agree H H' r) (k : Agree H' H2 r) : Agree H H2 r := by cases r <;> exact Eq.trans h k
theorem Agree.refl {H : Heap} (r : Rd) : Agree H H r := by cases r <;> rfl
theorem Agree.of_get {H H' : Heap} (h : ∀ i, get H i = get H' i) (r : Rd) : Agree H H' r := by cases r <;> simp only [Agree, h]
theorem Agree.live {H H' : Heap} {h : Nat} (k : Agree H H' (.look h)) {b : Blk} {z : Bool} (hg : get H h = some (.live b z)) : ∃ z', get H' h = some (.live b z') := by
  simp only [Agree, hg, Option.map_some, Slot.bare] at k
  cases hq : get H' h with
  | none => rw [hq] at k; simp at k
  | some s =>
    rw [hq] at k
    cases s with
    | live b' z' => simp only [Option.map_some, Slot.bare, Option.some.injEq] at k; subst k; exact ⟨z', rfl⟩
    | dead => simp [Slot.bare] at k
theorem Agree.stat {H H' : Heap} {h : Nat} (k : Agree H H' (.stat h)) {b : Blk} {z : Bool} (hg : get H h = some (.live b z)) : ∃ b', get H' h = some (.live b' z) ∧ b.shape = b'.shape := by
  simp only [Agree, hg, Option.map_some, Slot.shape] at k
  cases hq : get H' h with
  | none => rw [hq] at k; simp at k
  | some s =>
    rw [hq] at k
    cases s with
    | live b' z' => simp only [Option.map_some, Slot.shape, Option.some.injEq, Prod.mk.injEq] at k; obtain ⟨k1, rfl⟩ := k; exact ⟨b', rfl, k1⟩
    | dead => simp [Slot.shape] at k
theorem Agree.none {H H' : Heap} {h : Nat} (k : Agree H H' (.free h)) (hg : get H h = none) : get H' h = none := by
  simp only [Agree, hg, Option.isNone_none] at k
  cases hq : get H' h with
  | none => rfl
  | some s => rw [hq] at k; simp at k
theorem shape_pc {n : Nat} {cs : List C} {b : Blk} (h : (Blk.pc n cs).shape = b.shape) : ∃ cs', b = .pc n cs' := by
  cases b <;> simp [Blk.shape] at h ⊢; exact h.symm
theorem shape_vs {l : List V} {b : Blk} (h : (Blk.vs l).shape = b.shape) : ∃ l', b = .vs l' ∧ l'.length = l.length := by
  cases b with
  | vs l' => exact ⟨l', rfl, by simp only [Blk.shape, Blk.vs.injEq] at h; have := congrArg List.length h; simpa using this.symm⟩
  | _ => simp [Blk.shape] at h
theorem shape_arr {sz : Nat} {es : List (List C)} {b : Blk} (h : (Blk.arr sz es).shape = b.shape) : b = .arr sz es := by
  cases b <;> simp [Blk.shape] at h ⊢; exact ⟨h.1.symm, h.2.symm⟩
theorem shape_map {es : List (ByteArray × C)} {b : Blk} (h : (Blk.map es).shape = b.shape) : b = .map es := by
  cases b <;> simp [Blk.shape] at h ⊢; exact h.symm

section
variable {P : Program} {H H' : Heap}
theorem mem_looks {h : Nat} {l : List Nat} (k : h ∈ l) : Rd.look h ∈ looks l := List.mem_map_of_mem k
theorem pur_local : ∀ (k : Nat), (∀ (v : V) (x : C × List Nat), pur H k v = some x → (∀ h ∈ x.2, Agree H H' (.look h)) → pur H' k v = some x) ∧
    (∀ (vs : List V) (x : List C × List Nat), purs H k vs = some x → (∀ h ∈ x.2, Agree H H' (.look h)) → purs H' k vs = some x) := by
  intro k
  induction k with
  | zero => exact ⟨fun v x h => by simp [pur] at h, fun vs x h => by simp [purs] at h⟩
  | succ k ih =>
    refine ⟨fun v x h hA => ?_, fun vs x h hA => ?_⟩
    · cases v with
      | c _ | nsl => simpa only [pur] using h
      | ptr hh off =>
        simp only [pur] at h ⊢
        split at h
        · rename_i hg
          cases h
          obtain ⟨z', hg'⟩ := (hA hh (by simp)).live hg
          rw [hg']
        · rename_i hg
          obtain ⟨r, hr, h⟩ := Option.bind_eq_some_iff.1 h
          cases h
          obtain ⟨z', hg'⟩ := (hA hh (by simp)).live hg
          rw [hg']
          simp only [ih.2 _ r hr (fun i hi => hA i (by simp [hi])), Option.bind_some]
        · simp at h
      | own hh n z =>
        simp only [pur] at h ⊢
        split at h
        · rename_i hg
          cases h
          obtain ⟨z', hg'⟩ := (hA hh (by simp)).live hg
          rw [hg']
        · simp at h
      | mapv hh =>
        simp only [pur] at h ⊢
        split at h
        · rename_i hg
          cases h
          obtain ⟨z', hg'⟩ := (hA hh (by simp)).live hg
          rw [hg']
        · simp at h
      | clo f caps =>
        simp only [pur] at h ⊢
        obtain ⟨r, hr, h⟩ := Option.bind_eq_some_iff.1 h
        cases h
        simp only [ih.2 _ r hr hA, Option.bind_some]
      | _ => simp [pur] at h
    · cases vs with
      | nil => simpa only [purs] using h
      | cons v l =>
        simp only [purs] at h ⊢
        obtain ⟨a, ha, h⟩ := Option.bind_eq_some_iff.1 h
        obtain ⟨b, hb, h⟩ := Option.bind_eq_some_iff.1 h
        cases h
        simp only [ih.1 _ a ha (fun i hi => hA i (by simp [hi])), ih.2 _ b hb (fun i hi => hA i (by simp [hi])), Option.bind_some]
theorem purA_local {v : V} {x : A × List Nat} (h : purA H v = some x) (hA : ∀ h ∈ x.2, Agree H H' (.look h)) : purA H' v = some x := by
  unfold purA at h ⊢
  split at h
  · exact h
  · obtain ⟨r, hr, h⟩ := Option.bind_eq_some_iff.1 h
    cases h
    simp only [(pur_local 40).2 _ r hr hA, Option.bind_some]
  · exact h
  · obtain ⟨r, hr, h⟩ := Option.bind_eq_some_iff.1 h
    cases h
    simp only [(pur_local 40).1 _ r hr hA, Option.bind_some]
theorem purAs_local : ∀ {vs : List V} {x : List A × List Nat}, purAs H vs = some x → (∀ h ∈ x.2, Agree H H' (.look h)) → purAs H' vs = some x := by
  intro vs
  induction vs with
  | nil => intro x h _; exact h
  | cons v l ih =>
    intro x h hA
    simp only [purAs] at h ⊢
    obtain ⟨a, ha, h⟩ := Option.bind_eq_some_iff.1 h
    obtain ⟨b, hb, h⟩ := Option.bind_eq_some_iff.1 h
    cases h
    simp only [purA_local ha (fun i hi => hA i (by simp [hi])), ih hb (fun i hi => hA i (by simp [hi])), Option.bind_some]
theorem decT_rd {t : TypeId} {x : Option C} {R r : List Rd} {v : V} (h : decT P t x (fun v => some (v, R)) = some (v, r)) : r = R := by
  rw [decT_bind] at h
  obtain ⟨y, _, h⟩ := Option.bind_eq_some_iff.1 h
  cases h; rfl
theorem loadK_local {t : TypeId} {a v : V} {r : List Rd} (h : loadK P H t a (fun v r => some (v, r)) = some (v, r)) (hA : ∀ x ∈ r, Agree H H' x) : loadK P H' t a (fun v r => some (v, r)) = some (v, r) := by
  unfold loadK at h ⊢
  split at h
  · rename_i hh off
    simp only at h ⊢
    split at h
    · rename_i n cs z hg
      have hr : r = [.look hh] := by
        cases hb : isAggT P t with
        | true => rw [hb, cond_true] at h; obtain ⟨_, h⟩ := cond_some_none h; cases h; rfl
        | false => rw [hb, cond_false] at h; obtain ⟨_, h⟩ := cond_some_none h; exact decT_rd h
      obtain ⟨z', hg'⟩ := (hA (.look hh) (by rw [hr]; simp)).live hg
      rw [hg']; exact h
    · rename_i l z hg
      have hr : r = [.look hh] := by
        cases hb : isAggT P t with
        | true => rw [hb, cond_true] at h; obtain ⟨_, h⟩ := cond_some_none h; cases h; rfl
        | false =>
          rw [hb, cond_false] at h
          split at h
          · cases h; rfl
          · simp at h
      obtain ⟨z', hg'⟩ := (hA (.look hh) (by rw [hr]; simp)).live hg
      rw [hg']; exact h
    · simp at h
  · rename_i hh i off
    simp only at h ⊢
    split at h
    · rename_i sz es z hg
      have hr : r = [.look hh] := by
        obtain ⟨cs, _, h⟩ := Option.bind_eq_some_iff.1 h
        cases hb : isAggT P t with
        | true => rw [hb, cond_true] at h; obtain ⟨_, h⟩ := cond_some_none h; cases h; rfl
        | false => rw [hb, cond_false] at h; obtain ⟨_, h⟩ := cond_some_none h; exact decT_rd h
      obtain ⟨z', hg'⟩ := (hA (.look hh) (by rw [hr]; simp)).live hg
      rw [hg']; exact h
    · simp at h
  · exact h
  · simp at h
theorem storeK_local {t : TypeId} {a x : V} {r : List Rd} {l : List Dl} (h : storeK P H t a x (fun r l => some (r, l)) = some (r, l)) (hA : ∀ x ∈ r, Agree H H' x) : storeK P H' t a x (fun r l => some (r, l)) = some (r, l) := by
  unfold storeK at h ⊢
  split at h
  · rename_i hh off
    simp only at h ⊢
    split at h
    · rename_i n cs hg
      have hr : Rd.stat hh ∈ r := by
        split at h
        · obtain ⟨_, h⟩ := cond_some_none h; cases h; simp
        · obtain ⟨_, h⟩ := cond_some_none h; cases h; simp
        · obtain ⟨_, h⟩ := cond_some_none h
          obtain ⟨q, hq, h⟩ := Option.bind_eq_some_iff.1 h
          obtain ⟨_, h⟩ := cond_none_some h
          cases h; simp
      obtain ⟨b', hg', hs'⟩ := (hA _ hr).stat hg
      obtain ⟨cs', rfl⟩ := shape_pc hs'
      rw [hg']
      simp only
      split at h
      · exact h
      · exact h
      · obtain ⟨h0, h⟩ := cond_some_none h
        obtain ⟨q, hq, h⟩ := Option.bind_eq_some_iff.1 h
        obtain ⟨h1, h⟩ := cond_none_some h
        cases h
        rw [h0, cond_true, (pur_local 40).1 _ q hq (fun i hi => hA _ (List.mem_cons_of_mem _ (mem_looks hi)))]
        simp only [Option.bind_some, h1, cond_false]
    · rename_i vl hg
      have hr : Rd.stat hh ∈ r := by
        split at h
        · obtain ⟨_, h⟩ := cond_some_none h; cases h; simp
        · obtain ⟨_, h⟩ := cond_some_none h; cases h; simp
        · obtain ⟨_, h⟩ := cond_some_none h; cases h; simp
      obtain ⟨b', hg', hs'⟩ := (hA _ hr).stat hg
      obtain ⟨l', rfl, hl'⟩ := shape_vs hs'
      rw [hg']
      simp only [hl']
      exact h
    · simp at h
  · rename_i hh i off
    simp only at h ⊢
    split at h
    · rename_i sz es hg
      obtain ⟨h0, h⟩ := cond_some_none h
      obtain ⟨e0, he0, h⟩ := Option.bind_eq_some_iff.1 h
      obtain ⟨q, hq, h⟩ := Option.bind_eq_some_iff.1 h
      obtain ⟨h1, h⟩ := cond_none_some h
      cases h
      obtain ⟨b', hg', hs'⟩ := (hA (.stat hh) (by simp)).stat hg
      obtain rfl := shape_arr hs'
      rw [hg']
      simp only
      rw [h0, cond_true, he0, (pur_local 40).1 _ q hq (fun i hi => hA _ (List.mem_cons_of_mem _ (mem_looks hi)))]
      simp only [Option.bind_some, h1, cond_false]
    · simp at h
  · simp at h
theorem sliceK_local {t : TypeId} {x : V} {lo hi : Option V} {v : V} {r : List Rd} {l : List Dl} (h : sliceK P H t x lo hi (fun v r l => some (v, r, l)) = some (v, r, l)) (hA : ∀ x ∈ r, Agree H H' x) : sliceK P H' t x lo hi (fun v r l => some (v, r, l)) = some (v, r, l) := by
  unfold sliceK at h ⊢
  split at h
  · exact h
  · exact h
  · rename_i n e hh off hu
    simp only at h ⊢
    split at h
    · rename_i vl z hg
      obtain ⟨h0, h⟩ := cond_some_none h
      obtain ⟨q, hq, h⟩ := Option.bind_eq_some_iff.1 h
      cases h
      obtain ⟨z', hg'⟩ := (hA (.look hh) (by simp [looks])).live hg
      rw [hg']
      simp only
      rw [h0, cond_true, (pur_local 40).2 _ q hq (fun i hi => hA _ (mem_looks (List.mem_cons_of_mem _ hi)))]
      rfl
    · simp at h
  · simp at h
theorem lookupK_local {t : TypeId} {m k : V} {ok : Bool} {v : V} {r : List Rd} (h : lookupK P H t m k ok (fun v r => some (v, r)) = some (v, r)) (hA : ∀ x ∈ r, Agree H H' x) : lookupK P H' t m k ok (fun v r => some (v, r)) = some (v, r) := by
  unfold lookupK at h ⊢
  split at h
  · rename_i kt e hh s hu
    simp only at h ⊢
    split at h
    · rename_i es z hg hk
      have hr : r = [.look hh] := by
        rw [lookupIn_bind] at h
        obtain ⟨y, _, h⟩ := Option.bind_eq_some_iff.1 h
        cases h; rfl
      obtain ⟨z', hg'⟩ := (hA (.look hh) (by rw [hr]; simp)).live hg
      rw [hg', hk]; exact h
    · simp at h
  · exact h
  · simp at h
theorem mapUpdateK_local {t : TypeId} {m k x : V} {r : List Rd} {l : List Dl} (h : mapUpdateK P H t m k x (fun r l => some (r, l)) = some (r, l)) (hA : ∀ x ∈ r, Agree H H' x) : mapUpdateK P H' t m k x (fun r l => some (r, l)) = some (r, l) := by
  unfold mapUpdateK at h ⊢
  split at h
  · rename_i kt e hh s y hu
    simp only at h ⊢
    split at h
    · rename_i es hg hk
      cases h
      obtain ⟨b', hg', hs'⟩ := (hA (.stat hh) (by simp)).stat hg
      obtain rfl := shape_map hs'
      rw [hg', hk]
    · simp at h
  · simp at h
theorem elemC_local {v : V} {x : List C × List Nat} (h : elemC H v = some x) (hA : ∀ h ∈ x.2, Agree H H' (.look h)) : elemC H' v = some x := by
  unfold elemC at h ⊢
  split at h
  · exact h
  · exact (pur_local 40).2 _ x h hA
  · obtain ⟨r, hr, h⟩ := Option.bind_eq_some_iff.1 h
    cases h
    simp only [(pur_local 40).1 _ r hr hA, Option.bind_some]
theorem elemsC_local {sz : Nat} : ∀ {i : Nat} {vs : List (Nat × V)} {x : List (List C) × List Nat}, elemsC H sz i vs = some x → (∀ h ∈ x.2, Agree H H' (.look h)) → elemsC H' sz i vs = some x := by
  intro i vs
  induction vs generalizing i with
  | nil => intro x h _; simp only [elemsC] at h ⊢; exact h
  | cons v l ih =>
    intro x h hA
    obtain ⟨j, v⟩ := v
    simp only [elemsC] at h ⊢
    obtain ⟨h0, h⟩ := cond_some_none h
    obtain ⟨a, ha, h⟩ := Option.bind_eq_some_iff.1 h
    obtain ⟨b, hb, h⟩ := Option.bind_eq_some_iff.1 h
    cases h
    rw [h0, cond_true, elemC_local ha (fun i hi => hA i (by simp [hi])), Option.bind_some, ih hb (fun i hi => hA i (by simp [hi])), Option.bind_some]
theorem srcC_local {v : V} {x : List (List C) × List Nat} (h : srcC H v = some x) (hA : ∀ h ∈ x.2, Agree H H' (.look h)) : srcC H' v = some x := by
  unfold srcC at h ⊢
  split at h
  · exact h
  · exact h
  · rename_i hh _ _
    split at h
    · rename_i hg
      cases h
      obtain ⟨z', hg'⟩ := (hA hh (by simp)).live hg
      rw [hg']
    · simp at h
  · simp at h
theorem appendK_local {d : Nat} {st : TypeId} {s x v : V} {r : List Rd} {l : List Dl} (h : appendK P H d st s x (fun v r l => some (v, r, l)) = some (v, r, l)) (hA : ∀ x ∈ r, Agree H H' x) : appendK P H' d st s x (fun v r l => some (v, r, l)) = some (v, r, l) := by
  unfold appendK at h ⊢
  split at h
  · rename_i e hu
    obtain ⟨src, hsrc, h⟩ := Option.bind_eq_some_iff.1 h
    split at h
    · rename_i hh n z
      split at h
      · rename_i sz es hg hd
        obtain ⟨h0, h⟩ := cond_some_none h
        cases h
        obtain ⟨b', hg', hs'⟩ := (hA (.stat _) (by simp)).stat hg
        obtain rfl := shape_arr hs'
        have hd' := (hA (.free d) (by simp)).none hd
        rw [srcC_local hsrc (fun i hi => hA _ (by simp [mem_looks hi])), Option.bind_some]
        simp only
        rw [hg', hd']
        simp only
        rw [h0, cond_true]
      · simp at h
    · split at h
      · rename_i hd
        obtain ⟨h0, h⟩ := cond_some_none h
        cases h
        have hd' := (hA (.free d) (by simp)).none hd
        rw [srcC_local hsrc (fun i hi => hA _ (by simp [mem_looks hi])), Option.bind_some]
        simp only [hd']
        rw [h0, cond_true]
      · simp at h
    · simp at h
  · simp at h
theorem builtinK_local {d : Nat} {b : Builtin} {ts : Array TypeId} {vs : List V} {v : V} {r : List Rd} {l : List Dl} (h : builtinK P H d b ts vs (fun v r l => some (v, r, l)) = some (v, r, l)) (hA : ∀ x ∈ r, Agree H H' x) : builtinK P H' d b ts vs (fun v r l => some (v, r, l)) = some (v, r, l) := by
  unfold builtinK at h ⊢
  split at h
  · exact h
  · split at h
    · split at h
      · exact appendK_local h hA
      · simp at h
    · simp at h
  · exact h
  · exact h
  · simp at h
/-- AN OPERATION SEES NO MORE THAN IT RECORDS. -/
theorem opK_local {ρ : Operand → V} {d : Nat} {o : Op} {v : V} {r : List Rd} {l : List Dl} (h : opK P H ρ d o (fun v r l => some (v, r, l)) = some (v, r, l)) (hA : ∀ x ∈ r, Agree H H' x) : opK P H' ρ d o (fun v r l => some (v, r, l)) = some (v, r, l) := by
  unfold opK at h ⊢
  split at h
  any_goals exact h
  · simp only
    split at h
    · rename_i hg
      obtain ⟨l', hl, h⟩ := Option.bind_eq_some_iff.1 h
      cases h
      rw [(hA (.free d) (by simp)).none hg, hl]; rfl
    · simp at h
  · simp only
    split at h
    · rename_i hg
      obtain ⟨l', hl, h⟩ := Option.bind_eq_some_iff.1 h
      cases h
      rw [(hA (.free d) (by simp)).none hg, hl]; rfl
    · simp at h
  · simp only
    split at h
    · split at h
      · rename_i hg
        obtain ⟨h0, h⟩ := cond_some_none h
        obtain ⟨q, hq, h⟩ := Option.bind_eq_some_iff.1 h
        cases h
        rw [(hA (.free d) (by simp)).none hg]
        simp only
        rw [h0, cond_true, elemsC_local hq (fun i hi => hA _ (by simp [mem_looks hi]))]; rfl
      · simp at h
    · simp at h
  · simp only
    rw [loadK_bind] at h ⊢
    obtain ⟨x, hx, h⟩ := Option.bind_eq_some_iff.1 h
    cases h
    rw [loadK_local hx hA]; rfl
  · simp only
    rw [storeK_bind] at h ⊢
    obtain ⟨x, hx, h⟩ := Option.bind_eq_some_iff.1 h
    cases h
    rw [storeK_local hx hA]; rfl
  · simp only
    split at h
    · rename_i hg
      cases h
      rw [(hA (.free d) (by simp)).none hg]
    · simp at h
  · exact sliceK_local h hA
  · simp only
    rw [lookupK_bind] at h ⊢
    obtain ⟨x, hx, h⟩ := Option.bind_eq_some_iff.1 h
    cases h
    rw [lookupK_local hx hA]; rfl
  · simp only
    rw [mapUpdateK_bind] at h ⊢
    obtain ⟨x, hx, h⟩ := Option.bind_eq_some_iff.1 h
    cases h
    rw [mapUpdateK_local hx hA]; rfl
  · exact builtinK_local h hA
theorem funcOf_local {v : V} {x : Nat × List C × List Nat} (h : funcOf H v = some x) (hA : ∀ h ∈ x.2.2, Agree H H' (.look h)) : funcOf H' v = some x := by
  unfold funcOf at h ⊢
  split at h
  · exact h
  · obtain ⟨r, hr, h⟩ := Option.bind_eq_some_iff.1 h
    cases h
    simp only [(pur_local 40).2 _ r hr hA, Option.bind_some]
  · simp at h
end
end Go.Proofs.Ytbhojnofdeihdaa.E
