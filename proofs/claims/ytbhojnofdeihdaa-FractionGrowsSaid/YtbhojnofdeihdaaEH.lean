/- What is shown here: the evaluator's memory goes on to stand for Go's while blocks are made, written and frozen. -/
import Derived.Test.YtbhojnofdeihdaaEO
namespace Go.Proofs.Ytbhojnofdeihdaa.E
open Go.RowKit
set_option autoImplicit false
set_option linter.unusedVariables false
set_option linter.unusedSimpArgs false

theorem nbf {a b : Nat} (h : a ≠ b) : Nat.beq a b = false := by
  cases e : Nat.beq a b with
  | false => rfl
  | true => exact absurd (Nat.eq_of_beq_eq_true e) h
theorem get_ins {α : Type} (j : Nat) (u : α) : ∀ (l : List (Nat × α)) (i : Nat), get (ins j u l) i = if i = j then some u else get l i := by
  intro l
  induction l with
  | nil =>
    intro i
    simp only [ins, get]
    by_cases h : i = j
    · subst h; simp
    · rw [if_neg h]; have : Nat.beq j i = false := nbf (Ne.symm h)
      rw [this]; rfl
  | cons a l ih =>
    obtain ⟨k, v⟩ := a
    intro i
    simp only [ins]
    cases h1 : Nat.beq k j with
    | true =>
      have := Nat.eq_of_beq_eq_true h1
      subst this
      simp only [cond_true, get]
      by_cases h : i = k
      · subst h; simp
      · rw [if_neg h]; have h2 : Nat.beq k i = false := nbf (Ne.symm h)
        simp [h2]
    | false =>
      simp only [cond_false]
      cases h2 : Nat.ble j k with
      | true =>
        simp only [cond_true, get]
        by_cases h : i = j
        · subst h; simp
        · rw [if_neg h]; have h3 : Nat.beq j i = false := nbf (Ne.symm h)
          simp [h3]
      | false =>
        simp only [cond_false, get]
        cases h3 : Nat.beq k i with
        | true =>
          have := Nat.eq_of_beq_eq_true h3
          subst this
          have h4 : k ≠ j := fun e => by subst e; simp at h1
          rw [if_neg h4]; rfl
        | false => simp only [cond_false]; exact ih i
theorem get_upd (h : Nat) (f : Slot → Slot) (H : Heap) (i : Nat) : get (upd h f H) i = if i = h then (get H h).map f else get H i := by
  unfold upd
  cases hg : get H h with
  | none =>
    simp only
    split
    · next e => rw [e, hg]; rfl
    · rfl
  | some s => simp only [get_ins]; rfl

section
variable {P : Program} {ro : Set} {w : World} {β : Tab} {L : Option Nat} {H : Heap} {Own : Set}

theorem heap_alloc_new (w : World) (o : Obj) : (w.alloc o).heap[w.heap.size]? = some o := by show (w.heap.push o)[w.heap.size]? = some o; simp
theorem heap_alloc_old (w : World) (o : Obj) (b : Nat) (h : b < w.heap.size) : (w.alloc o).heap[b]? = w.heap[b]? := Below.heap_alloc w o b h

theorem RepH.bound (hH : RepH ro w β L H Own) {h : Nat} {b : Blk} {z : Bool} {t : Bt} (hg : get H h = some (.live b z)) (ht : β h = some t) : t.b < w.heap.size := by
  obtain ⟨t', ht', hB, _⟩ := hH.live _ _ _ hg
  rw [ht] at ht'; cases ht'
  cases hB <;> rename_i hh _ _ <;> first | exact (Array.getElem?_eq_some_iff.1 ‹w.heap[t.b]? = some _›).1

/-- A new world in which the blocks that count lie as they lay. -/
theorem RepH.step (hH : RepH ro w β L H Own) {ro' : Set} {w' : World} (hro : ∀ b, ro b → ro' b) (hk : ∀ b, ro b → w'.heap[b]? = w.heap[b]?)
    (ho : ∀ b, Own b → w'.heap[b]? = w.heap[b]?) : RepH ro' w' β L H Own := by
  refine ⟨hH.free, fun h b z hg => ?_, hH.inj, hH.own⟩
  obtain ⟨t, ht, hB, h1, h2⟩ := hH.live h b z hg
  refine ⟨t, ht, hB.mono hro hk (fun _ _ h => h) ?_, fun e => hro _ (h1 e), h2⟩
  cases z with
  | true => exact hk _ (h1 rfl)
  | false => exact ho _ (h2 rfl)

/-- A block is made. -/
theorem new_ok (hs : Sane ro w Own) (hH : RepH ro w β L H Own) {d : Nat} (hd : get H d = none) (o : Obj) (t : Bt) (htb : t.b = w.heap.size) (b : Blk) (w0 : World) (hw0 : w0.heap = w.heap) (hw1 : w0.os = w.os) (hw2 : w0.tape = w.tape) (hw3 : w0.output = w.output)
    (hB : ∀ β', (∀ h t, β h = some t → β' h = some t) → β' d = some t → RepB ro (w0.alloc o) β' L t b) :
    ∃ β' Own', RepH ro (w0.alloc o) β' L (ins d (.live b false) H) Own' ∧ OStp ro w β Own ro (w0.alloc o) β' Own' ∧ β' d = some t := by
  have hz : w0.heap.size = w.heap.size := by rw [hw0]
  have hold : ∀ b, b < w.heap.size → (w0.alloc o).heap[b]? = w.heap[b]? := fun b hb => by rw [heap_alloc_old _ _ _ (by omega), hw0]
  have hdn : β d = none := hH.free d hd
  have hsz : (w0.alloc o).heap.size = w.heap.size + 1 := by rw [World.size_alloc, hz]
  refine ⟨fun h => if h = d then some t else β h, fun x => Own x ∨ x = w.heap.size, ⟨fun h hh => ?_, fun h b' z hg => ?_, fun h h' b1 z b2 z' t1 t2 hne h1 h2 h3 h4 => ?_, fun x hx => ?_⟩,
    ⟨hw1, hw2, hw3, by omega, fun _ h => h, fun x hx => hold x (hs.bound x (.inl hx)), fun x hx _ => hold x hx, fun x hx => .inl hx, fun x hx => hx.elim .inl (fun e => .inr (by omega)), fun x hx => ?_, fun x hx hr => ?_, fun h t' ht' => ?_, fun l rec hl => ⟨rec, by rw [hold l (Array.getElem?_eq_some_iff.1 hl).1]; exact hl, rfl⟩⟩, if_pos rfl⟩
  · rw [get_ins] at hh
    split at hh
    · simp at hh
    · next e => simp only [e, if_false]; exact hH.free h hh
  · rw [get_ins] at hg
    split at hg
    · next e =>
      cases hg
      refine ⟨t, if_pos e, hB _ (fun h t' ht' => ?_) (if_pos rfl), fun e => by simp at e, fun _ => .inr htb⟩
      by_cases e : h = d
      · rw [e, hdn] at ht'; simp at ht'
      · simp only [e, if_false]; exact ht'
    · next e =>
      obtain ⟨t', ht', hB', h1, h2⟩ := hH.live h b' z hg
      refine ⟨t', by simp only [e, if_false]; exact ht', hB'.mono (fun _ h => h) (fun x hx => hold x (hs.bound x (.inl hx))) (fun h t' ht' => ?_) (hold _ (hH.bound hg ht')), h1, fun e => .inl (h2 e)⟩
      by_cases e : h = d
      · rw [e, hdn] at ht'; simp at ht'
      · simp only [e, if_false]; exact ht'
  · rw [get_ins] at h1 h2
    split at h1
    · next e =>
      rw [if_neg (fun e' => hne (e.trans e'.symm))] at h2
      simp only [e, if_true] at h3
      rw [if_neg (fun e' => hne (e.trans e'.symm))] at h4
      cases h3
      have := hH.bound h2 h4
      omega
    · next e =>
      simp only [e, if_false] at h3
      split at h2
      · next e' =>
        simp only [e', if_true] at h4
        cases h4
        have := hH.bound h1 h3
        omega
      · next e' =>
        simp only [e', if_false] at h4
        exact hH.inj h h' b1 z b2 z' t1 t2 hne h1 h2 h3 h4
  · rcases hx with hx | hx
    · obtain ⟨h, bl, t', h1, h2, h3⟩ := hH.own x hx
      have hne : h ≠ d := fun e => by rw [e, hd] at h1; simp at h1
      exact ⟨h, bl, t', by rw [get_ins, if_neg hne]; exact h1, by simp only [hne, if_false]; exact h2, h3⟩
    · exact ⟨d, b, t, by rw [get_ins, if_pos rfl], if_pos rfl, by omega⟩
  · rcases hx with hx | hx | hx
    · have := hs.bound x (.inl hx); omega
    · have := hs.bound x (.inr hx); omega
    · omega
  · rcases hx with hx | hx
    · exact hs.dis x hx hr
    · have := hs.bound x (.inl hr); omega
  · by_cases e : h = d
    · rw [e, hdn] at ht'; simp at ht'
    · simp only [e, if_false]; exact ht'

/-- A block is frozen. -/
theorem frz_ok (hs : Sane ro w Own) (hH : RepH ro w β L H Own) (h : Nat) :
    ∃ ro' Own', RepH ro' w β L (upd h Slot.frz H) Own' ∧ OStp ro w β Own ro' w β Own' ∧ (∀ b z, get H h = some (.live b z) → ∀ t, β h = some t → ro' t.b) := by
  cases hg : get H h with
  | none => exact ⟨ro, Own, by unfold upd; rw [hg]; exact hH, .refl hs, fun b z e => by cases e⟩
  | some s =>
    cases s with
    | dead =>
      refine ⟨ro, Own, ?_, .refl hs, fun b z e => by cases e⟩
      have hsame : ∀ i, get (upd h Slot.frz H) i = get H i := fun i => by
        rw [get_upd]; split
        · next e => rw [e, hg]; rfl
        · rfl
      exact ⟨fun i hi => hH.free i (by rw [← hsame]; exact hi), fun i b z hi => hH.live i b z (by rw [← hsame]; exact hi),
        fun i i' b z b' z' t t' hne h1 h2 => hH.inj i i' b z b' z' t t' hne (by rw [← hsame]; exact h1) (by rw [← hsame]; exact h2),
        fun x hx => by obtain ⟨i, bl, t, h1, h2, h3⟩ := hH.own x hx; exact ⟨i, bl, t, by rw [hsame]; exact h1, h2, h3⟩⟩
    | live b z =>
      obtain ⟨t, ht, hB, h1, h2⟩ := hH.live h b z hg
      have hlt := hH.bound hg ht
      refine ⟨fun x => ro x ∨ x = t.b, fun x => Own x ∧ x ≠ t.b, ⟨fun i hi => ?_, fun i b' z' hi => ?_, fun i i' b1 z1 b2 z2 t1 t2 hne g1 g2 => ?_, fun x hx => ?_⟩,
        ⟨rfl, rfl, rfl, Nat.le_refl _, fun _ => .inl, fun _ _ => rfl, fun _ _ _ => rfl, fun x hx => ?_, fun x hx => .inl hx.1, fun x hx => ?_, fun x hx hr => ?_, fun _ _ h => h, fun l rec hl => ⟨rec, hl, rfl⟩⟩, fun _ _ _ t' ht' => ?_⟩
      · rw [get_upd] at hi
        split at hi
        · rw [hg] at hi; simp at hi
        · exact hH.free i hi
      · rw [get_upd] at hi
        split at hi
        · next e =>
          subst e
          rw [hg] at hi
          simp only [Option.map_some, Slot.frz] at hi
          cases hi
          exact ⟨t, ht, hB.mono (fun _ => .inl) (fun _ _ => rfl) (fun _ _ h => h) rfl, fun _ => .inr rfl, fun e => by simp at e⟩
        · next e =>
          obtain ⟨t', ht', hB', g1, g2⟩ := hH.live i b' z' hi
          exact ⟨t', ht', hB'.mono (fun _ => .inl) (fun _ _ => rfl) (fun _ _ h => h) rfl, fun e => .inl (g1 e), fun e' => ⟨g2 e', hH.inj i h b' z' b z t' t e hi hg ht' ht⟩⟩
      · rw [get_upd] at g1 g2
        have conv : ∀ i b' z', (if i = h then Option.map Slot.frz (get H h) else get H i) = some (.live b' z') → ∃ z'', get H i = some (.live b' z'') := by
          intro i b' z' hi
          split at hi
          · next e => rw [hg] at hi; simp only [Option.map_some, Slot.frz] at hi; cases hi; exact ⟨z, by rw [e]; exact hg⟩
          · exact ⟨z', hi⟩
        obtain ⟨y1, k1⟩ := conv i b1 z1 g1
        obtain ⟨y2, k2⟩ := conv i' b2 z2 g2
        exact hH.inj i i' b1 y1 b2 y2 t1 t2 hne k1 k2
      · obtain ⟨i, bl, t', g1, g2, g3⟩ := hH.own x hx.1
        have hne : i ≠ h := fun e => by
          subst e
          rw [ht] at g2; cases g2
          exact hx.2 g3.symm
        exact ⟨i, bl, t', by rw [get_upd, if_neg hne]; exact g1, g2, g3⟩
      · rcases hx with hx | hx
        · exact .inl hx
        · subst hx
          cases z with
          | true => exact .inl (h1 rfl)
          | false => exact .inr (.inl (h2 rfl))
      · rcases hx with (hx | hx) | hx
        · exact hs.bound x (.inl hx)
        · omega
        · exact hs.bound x (.inr hx.1)
      · rcases hr with hr | hr
        · exact hs.dis x hx.1 hr
        · exact hx.2 hr
      · rw [ht] at ht'; cases ht'; exact .inr rfl
theorem get_frz_live (H : Heap) (h i : Nat) (b : Blk) (z : Bool) (hg : get H i = some (.live b z)) : ∃ z', get (upd h Slot.frz H) i = some (.live b z') := by
  rw [get_upd]
  split
  · next e => subst e; rw [hg]; exact ⟨true, rfl⟩
  · exact ⟨z, hg⟩
theorem frzs_ok (l : List Nat) : ∀ {ro : Set} {Own : Set} {H : Heap}, Sane ro w Own → RepH ro w β L H Own → (∀ h ∈ l, ∃ b z, get H h = some (.live b z)) →
    ∃ ro' Own', RepH ro' w β L (appAll (frzs l) H) Own' ∧ OStp ro w β Own ro' w β Own' ∧ (∀ h ∈ l, ∀ t, β h = some t → ro' t.b) := by
  induction l with
  | nil => exact fun hs hH _ => ⟨_, _, hH, .refl hs, by simp⟩
  | cons h l ih =>
    intro ro Own H hs hH hl
    obtain ⟨ro1, Own1, hH1, s1, k1⟩ := frz_ok hs hH h
    obtain ⟨b, z, hg⟩ := hl h (by simp)
    obtain ⟨ro2, Own2, hH2, s2, k2⟩ := ih s1.sane hH1 (fun i hi => by obtain ⟨b', z', hg'⟩ := hl i (by simp [hi]); obtain ⟨z'', h3⟩ := get_frz_live H h i b' z' hg'; exact ⟨b', z'', h3⟩)
    refine ⟨ro2, Own2, hH2, s1.trans hs s2, fun i hi t ht => ?_⟩
    rcases List.mem_cons.1 hi with rfl | hi
    · exact s2.grow _ (k1 b z hg t ht)
    · exact k2 i hi t ht

/-- A block of ours is written. -/
theorem wr_ok (hs : Sane ro w Own) (hH : RepH ro w β L H Own) {h : Nat} {b : Blk} {t : Bt} (hg : get H h = some (.live b false)) (ht : β h = some t) {w' : World}
    (h1 : w'.os = w.os) (h2 : w'.tape = w.tape) (h3 : w'.output = w.output) (h4 : w'.heap.size = w.heap.size) (h5 : ∀ x, x ≠ t.b → w'.heap[x]? = w.heap[x]?)
    {b' : Blk} (hB : RepB ro w' β L t b') {H' : Heap} (hH' : ∀ i, get H' i = if i = h then some (.live b' false) else get H i) :
    RepH ro w' β L H' Own ∧ OStp ro w β Own ro w' β Own := by
  obtain ⟨t0, ht0, _, _, hown⟩ := hH.live h b false hg
  rw [ht] at ht0; cases ht0
  have ho := hown rfl
  have hnl : ∀ rec : Loop, w.heap[t.b]? ≠ some (.loop rec) := fun rec hl => by
    obtain ⟨t1, ht1, hB1, _⟩ := hH.live h b false hg
    rw [ht] at ht1; cases ht1
    cases hB1 <;> simp_all
  have hk : ∀ x, ro x → w'.heap[x]? = w.heap[x]? := fun x hx => h5 x (fun e => by subst e; exact hs.dis _ ho hx)
  refine ⟨⟨fun i hi => ?_, fun i b1 z hi => ?_, fun i i' b1 z1 b2 z2 t1 t2 hne g1 g2 => ?_, fun x hx => ?_⟩,
    ⟨h1, h2, h3, by omega, fun _ h => h, hk, fun x hx hno => h5 x (fun e => by subst e; exact hno ho), fun x hx => .inl hx, fun x hx => .inl hx, fun x hx => by rw [h4]; exact hs.bound x hx, hs.dis, fun _ _ h => h, fun l rec hl => ⟨rec, by rw [h5 l (fun e => hnl rec (e ▸ hl))]; exact hl, rfl⟩⟩⟩
  · rw [hH'] at hi
    split at hi
    · simp at hi
    · exact hH.free i hi
  · rw [hH'] at hi
    split at hi
    · next e =>
      cases hi
      exact ⟨t, by rw [e]; exact ht, hB, fun e => by simp at e, fun _ => ho⟩
    · next e =>
      obtain ⟨t', ht', hB', g1, g2⟩ := hH.live i b1 z hi
      exact ⟨t', ht', hB'.mono (fun _ h => h) hk (fun _ _ h => h) (h5 _ (hH.inj i h b1 z b false t' t e hi hg ht' ht)), g1, g2⟩
  · have conv : ∀ i b1 z1, get H' i = some (.live b1 z1) → ∃ b2 z2, get H i = some (.live b2 z2) := by
      intro i b1 z1 hi
      rw [hH'] at hi
      split at hi
      · next e => exact ⟨b, false, by rw [e]; exact hg⟩
      · exact ⟨b1, z1, hi⟩
    obtain ⟨x1, y1, k1⟩ := conv i b1 z1 g1
    obtain ⟨x2, y2, k2⟩ := conv i' b2 z2 g2
    exact hH.inj i i' x1 y1 x2 y2 t1 t2 hne k1 k2
  · obtain ⟨i, bl, t', g1, g2, g3⟩ := hH.own x hx
    by_cases e : i = h
    · subst e
      exact ⟨i, b', t', by rw [hH', if_pos rfl], g2, g3⟩
    · exact ⟨i, bl, t', by rw [hH', if_neg e]; exact g1, g2, g3⟩
theorem get_wr {h : Nat} {b : Blk} {z : Bool} (hg : get H h = some (.live b z)) (wop : Wop) (i : Nat) : get (upd h (Slot.wr wop) H) i = if i = h then some (.live (wop.app b) z) else get H i := by
  rw [get_upd, hg]; rfl

/-- A handle is given up; its block may live on under another. -/
theorem kill_ok (hs : Sane ro w Own) (hH : RepH ro w β L H Own) {h : Nat} {b : Blk} {t : Bt} (hg : get H h = some (.live b false)) (ht : β h = some t) :
    RepH ro w β L (upd h (fun _ => .dead) H) (fun x => Own x ∧ x ≠ t.b) ∧ OStp ro w β Own ro w β (fun x => Own x ∧ x ≠ t.b) := by
  have hget : ∀ i, get (upd h (fun _ => .dead) H) i = if i = h then some .dead else get H i := fun i => by rw [get_upd, hg]; rfl
  refine ⟨⟨fun i hi => ?_, fun i b1 z hi => ?_, fun i i' b1 z1 b2 z2 t1 t2 hne g1 g2 => ?_, fun x hx => ?_⟩,
    ⟨rfl, rfl, rfl, Nat.le_refl _, fun _ h => h, fun _ _ => rfl, fun _ _ _ => rfl, fun x hx => .inl hx, fun x hx => .inl hx.1, fun x hx => hs.bound x (hx.imp id And.left), fun x hx => hs.dis x hx.1, fun _ _ h => h, fun l rec hl => ⟨rec, hl, rfl⟩⟩⟩
  · rw [hget] at hi
    split at hi
    · simp at hi
    · exact hH.free i hi
  · rw [hget] at hi
    split at hi
    · simp at hi
    · next e =>
      obtain ⟨t', ht', hB', g1, g2⟩ := hH.live i b1 z hi
      exact ⟨t', ht', hB', g1, fun e' => ⟨g2 e', hH.inj i h b1 z b false t' t e hi hg ht' ht⟩⟩
  · rw [hget] at g1 g2
    split at g1
    · simp at g1
    · split at g2
      · simp at g2
      · exact hH.inj i i' b1 z1 b2 z2 t1 t2 hne g1 g2
  · obtain ⟨i, bl, t', g1, g2, g3⟩ := hH.own x hx.1
    have hne : i ≠ h := fun e => by
      subst e
      rw [ht] at g2; cases g2
      exact hx.2 g3.symm
    exact ⟨i, bl, t', by rw [hget, if_neg hne]; exact g1, g2, g3⟩

/-! ### plain data out of values -/
theorem choose_fun {α : Type} {p : Nat → α → Prop} (a : α) (q : Nat → Prop) (h : ∀ j, q j → ∃ u, p j u) : ∃ f : Nat → α, ∀ j, q j → p j (f j) := by
  have : ∀ j, ∃ u, q j → p j u := fun j => by
    by_cases hq : q j
    · obtain ⟨u, hu⟩ := h j hq; exact ⟨u, fun _ => hu⟩
    · exact ⟨a, fun h => absurd h hq⟩
  exact Classical.axiomOfChoice this
theorem purs_length : ∀ (k : Nat) (l : List V) (r : List C × List Nat), purs H k l = some r → r.1.length = l.length := by
  intro k
  induction k with
  | zero => intro l r h; simp [purs] at h
  | succ k ih =>
    intro l r h
    cases l with
    | nil => simp only [purs] at h; cases h; rfl
    | cons v l =>
      simp only [purs] at h
      obtain ⟨a, _, h⟩ := Option.bind_eq_some_iff.1 h
      obtain ⟨b, hb, h⟩ := Option.bind_eq_some_iff.1 h
      cases h
      simp [ih l b hb]
theorem pur_ok (hH : RepH ro w β L H Own) : ∀ (k : Nat),
    (∀ (v : V) (x : C) (l : List Nat), pur H k v = some (x, l) → (∀ h ∈ l, ∃ b z, get H h = some (.live b z)) ∧
      ∀ (u : Value), RepV ro w β L u v → ∀ ro' : Set, (∀ b, ro b → ro' b) → (∀ h ∈ l, ∀ t, β h = some t → ro' t.b) → Rep ro' w u x) ∧
    (∀ (vs : List V) (xs : List C) (l : List Nat), purs H k vs = some (xs, l) → (∀ h ∈ l, ∃ b z, get H h = some (.live b z)) ∧
      ∀ ro' : Set, (∀ b, ro b → ro' b) → (∀ h ∈ l, ∀ t, β h = some t → ro' t.b) → ∀ (j : Nat) (v : V) (x : C) (u : Value), vs[j]? = some v → xs[j]? = some x → RepV ro w β L u v → Rep ro' w u x) := by
  intro k
  induction k with
  | zero => exact ⟨fun v x l h => by simp [pur] at h, fun vs xs l h => by simp [purs] at h⟩
  | succ k ih =>
    refine ⟨fun v x l h => ?_, fun vs xs l h => ?_⟩
    · simp only [pur] at h
      split at h
      · cases h
        exact ⟨by simp, fun u hu ro' hr _ => by cases hu with | c v x hx => exact hx.mono hr (fun _ _ => rfl)⟩
      · cases h
        refine ⟨by simp, fun u hu ro' hr _ => ?_⟩
        cases hu with
        | nsl => exact .sl none [] 0 0 (Nat.le_refl _) (fun h => absurd rfl h) (by simp) (fun _ _ => undef) (by simp) (by simp)
      · rename_i hh off
        split at h
        · rename_i n cs z hg
          cases h
          refine ⟨fun i hi => by simp at hi; subst hi; exact ⟨_, _, hg⟩, fun u hu ro' hr hl => ?_⟩
          cases hu with
          | ptr _ _ t ht =>
            obtain ⟨t', ht', hB, _⟩ := hH.live _ _ _ hg
            rw [ht] at ht'; cases ht'
            cases hB with
            | pc cs c el hh' hs hr' =>
              obtain ⟨val, hval⟩ := choose_fun (p := fun j u => c[j]? = some u) undef (fun j => j < cs.length) (fun j hj => ⟨c[j], Array.getElem?_eq_getElem (by omega)⟩)
              have := Rep.rp (ro := ro') (w := w) t.b 0 off cs (hl hh (by simp) t ht) val (fun j x hj => by rw [cells_cell hh', Nat.zero_add]; exact hval j (List.getElem?_eq_some_iff.1 hj).1)
                (fun j x hj => (hr' j _ x (hval j (List.getElem?_eq_some_iff.1 hj).1) hj).mono hr (fun _ _ => rfl))
              rwa [Nat.zero_add] at this
        · rename_i vl z hg
          obtain ⟨r, hr0, h⟩ := Option.bind_eq_some_iff.1 h
          cases h
          obtain ⟨ih1, ih2⟩ := ih.2 vl r.1 r.2 hr0
          refine ⟨fun i hi => ?_, fun u hu ro' hr hl => ?_⟩
          · rcases List.mem_cons.1 hi with rfl | hi
            · exact ⟨_, _, hg⟩
            · exact ih1 i hi
          cases hu with
          | ptr _ _ t ht =>
            obtain ⟨t', ht', hB, _⟩ := hH.live _ _ _ hg
            rw [ht] at ht'; cases ht'
            cases hB with
            | vs vl c el hh' hs hr' hn =>
              have hlen := purs_length k vl r hr0
              obtain ⟨val, hval⟩ := choose_fun (p := fun j u => c[j]? = some u) undef (fun j => j < vl.length) (fun j hj => ⟨c[j], Array.getElem?_eq_getElem (by omega)⟩)
              have := Rep.rp (ro := ro') (w := w) t.b 0 off r.1 (hl hh (by simp) t ht) val (fun j x hj => by rw [cells_cell hh', Nat.zero_add]; exact hval j (by have := (List.getElem?_eq_some_iff.1 hj).1; omega))
                (fun j x hj => by
                  have hj' : j < vl.length := by have := (List.getElem?_eq_some_iff.1 hj).1; omega
                  exact ih2 ro' hr (fun i hi => hl i (by simp [hi])) j vl[j] x _ (List.getElem?_eq_getElem hj') hj (hr' j _ _ (hval j hj') (List.getElem?_eq_getElem hj')))
              rwa [Nat.zero_add] at this
        · simp at h
      · rename_i hh n _
        split at h
        · rename_i sz es z hg
          cases h
          refine ⟨fun i hi => by simp at hi; subst hi; exact ⟨_, _, hg⟩, fun u hu ro' hr hl => ?_⟩
          cases hu with
          | own _ t ht =>
            obtain ⟨t', ht', hB, _⟩ := hH.live _ _ _ hg
            rw [ht] at ht'; cases ht'
            cases hB with
            | arr es c el hh' hs hn hc hz hr' =>
              have hbd : ∀ i j cs, es[i]? = some cs → j < cs.length → i * t.sz + j < c.size := fun i j cs hi hj => by
                have := hz i cs hi
                have hi' := (List.getElem?_eq_some_iff.1 hi).1
                rw [hs]
                have : (i + 1) * t.sz ≤ t.cap * t.sz := Nat.mul_le_mul_right _ (by omega)
                rw [Nat.add_mul] at this
                omega
              rw [hn]
              refine .sl (some ⟨t.b, 0, none⟩) es t.cap t.sz (by omega) (fun _ => ⟨t.b, 0, rfl, hl hh (by simp) t ht⟩) hz (fun i j => c.getD (i * t.sz + j) undef) (fun i j cs x h1 h2 b o hbo => ?_) (fun i j cs x h1 h2 => ?_)
              · cases hbo
                have h3 := hbd i j cs h1 (List.getElem?_eq_some_iff.1 h2).1
                rw [cells_cell hh', Nat.zero_add]
                simp [Array.getD, h3]
              · have h3 := hbd i j cs h1 (List.getElem?_eq_some_iff.1 h2).1
                refine (hr' i j cs _ x h1 h2 ?_).mono hr (fun _ _ => rfl)
                simp [Array.getD, h3]
        · simp at h
      · rename_i hh
        split at h
        · rename_i es z hg
          cases h
          refine ⟨fun i hi => by simp at hi; subst hi; exact ⟨_, _, hg⟩, fun u hu ro' hr hl => ?_⟩
          cases hu with
          | mapv _ t ht =>
            obtain ⟨t', ht', hB, _⟩ := hH.live _ _ _ hg
            rw [ht] at ht'; cases ht'
            cases hB with
            | map es ents clock hh' hs hk hv =>
              exact .mp t.b ents clock es (hl hh (by simp) t ht) hh' hs hk (fun j m p h1 h2 => (hv j m p h1 h2).mono hr (fun _ _ => rfl))
        · simp at h
      · rename_i f caps
        obtain ⟨r, hr0, h⟩ := Option.bind_eq_some_iff.1 h
        cases h
        obtain ⟨ih1, ih2⟩ := ih.2 caps r.1 r.2 hr0
        refine ⟨ih1, fun u hu ro' hr hl => ?_⟩
        cases hu with
        | clo _ vs cs hs hr' =>
          have hlen := purs_length k _ r hr0
          refine .fn f vs r.1 (by omega) (fun j v x h1 h2 => ?_)
          have hj : j < caps.length := by have := (List.getElem?_eq_some_iff.1 h2).1; omega
          exact ih2 ro' hr hl j caps[j] x v (List.getElem?_eq_getElem hj) h2 (hr' j v _ h1 (List.getElem?_eq_getElem hj))
      · simp at h
    · cases vs with
      | nil => simp only [purs] at h; cases h; exact ⟨by simp, fun _ _ _ j v x u h1 => by simp at h1⟩
      | cons v vs =>
        simp only [purs] at h
        obtain ⟨a, ha, h⟩ := Option.bind_eq_some_iff.1 h
        obtain ⟨b, hb, h⟩ := Option.bind_eq_some_iff.1 h
        cases h
        obtain ⟨a1, a2⟩ := ih.1 v a.1 a.2 ha
        obtain ⟨b1, b2⟩ := ih.2 vs b.1 b.2 hb
        refine ⟨fun i hi => (List.mem_append.1 hi).elim (a1 i) (b1 i), fun ro' hr hl j v' x u h1 h2 hu => ?_⟩
        cases j with
        | zero => simp at h1 h2; subst h1 h2; exact a2 u hu ro' hr (fun i hi => hl i (by simp [hi]))
        | succ j => simp at h1 h2; exact b2 ro' hr (fun i hi => hl i (by simp [hi])) j v' x u h1 h2 hu
end
end Go.Proofs.Ytbhojnofdeihdaa.E
