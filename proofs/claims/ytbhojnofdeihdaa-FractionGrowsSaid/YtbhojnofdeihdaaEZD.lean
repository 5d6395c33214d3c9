/- What is shown here: a region whose order is drawn does what it does in the order of the text. -/
import Derived.Test.YtbhojnofdeihdaaEZ7
namespace Go.Proofs.Ytbhojnofdeihdaa.E
open Go.RowKit
set_option autoImplicit false
set_option linter.unusedVariables false
set_option linter.unusedSimpArgs false
section
variable {P : Program} {hs : Hints} {e : Eng}

/-- The ones ahead of an operation are in a set that is closed downwards. -/
def Closed (ops : Array Oper) (S : Nat → Prop) : Prop := ∀ k o, ops[k]? = some o → S k → ∀ x ∈ o.after, Region.binds .any x = true → S x.on
theorem fold_bits (acc : List Nat) (S : Nat → Prop) : ∀ (l : List Edge) (s : Nat), (∀ i, s.testBit i = true → S i) → (∀ x ∈ l, Region.binds .any x = true → S x.on ∧ ∀ i, (acc.getD x.on 0).testBit i = true → S i) →
    ∀ i, (l.foldl (fun s x => if Region.binds .any x then s ||| 2 ^ x.on ||| acc.getD x.on 0 else s) s).testBit i = true → S i := by
  intro l
  induction l with
  | nil => exact fun s h _ i hi => h i hi
  | cons x l ih =>
    intro s hs hl i hi
    simp only [List.foldl_cons] at hi
    refine ih _ (fun k hk => ?_) (fun y hy => hl y (by simp [hy])) i hi
    split at hk
    · next hb =>
      obtain ⟨h1, h2⟩ := hl x (by simp) hb
      simp only [Nat.testBit_or, Bool.or_eq_true, Nat.testBit_two_pow, decide_eq_true_eq] at hk
      rcases hk with (hk | hk) | hk
      · exact hs k hk
      · exact hk ▸ h1
      · exact h2 k hk
    · exact hs k hk
theorem masks_ok (ops : Array Oper) (S : Nat → Prop) (hS : Closed ops S) : ∀ (l : List Oper) (pre : List Oper) (acc : List Nat), ops.toList = pre ++ l → acc.length = pre.length →
    (∀ k o, k < acc.length → ops[k]? = some o → (∀ x ∈ o.after, Region.binds .any x = true → S x.on) → ∀ i, (acc.getD k 0).testBit i = true → S i) →
    ∀ k o, ops[k]? = some o → (∀ x ∈ o.after, Region.binds .any x = true → S x.on) → ∀ i, ((masks l acc).getD k 0).testBit i = true → S i := by
  intro l
  induction l with
  | nil =>
    intro pre acc h1 h2 h3 k o ho hx
    refine h3 k o ?_ ho hx
    have := (Array.getElem?_eq_some_iff.1 ho).1
    rw [h2]; have h4 : ops.toList.length = pre.length := by rw [h1]; simp
    simpa [← h4] using this
  | cons o l ih =>
    intro pre acc h1 h2 h3
    simp only [masks]
    refine ih (pre ++ [o]) _ (by rw [h1]; simp) (by simp [h2]) (fun k o' hk ho hx i hi => ?_)
    simp only [List.length_append, List.length_singleton] at hk
    by_cases hlt : k < acc.length
    · rw [List.getD_eq_getElem?_getD, List.getElem?_append_left hlt, ← List.getD_eq_getElem?_getD] at hi
      exact h3 k o' hlt ho hx i hi
    · have hke : k = acc.length := by omega
      subst hke
      have hoo : o' = o := by
        have : ops.toList[acc.length]? = some o := by rw [h1, List.getElem?_append_right (by omega), h2]; simp
        rw [Array.getElem?_toList, ho] at this
        exact (Option.some.inj this)
      subst hoo
      rw [List.getD_eq_getElem?_getD, List.getElem?_append_right (Nat.le_refl _)] at hi
      simp only [Nat.sub_self, List.getElem?_cons_zero, Option.getD_some] at hi
      refine fold_bits acc S o'.after.toList 0 (by simp) (fun x hxm hb => ?_) i hi
      have hxS := hx x (by simpa using hxm) hb
      refine ⟨hxS, fun j hj => ?_⟩
      by_cases hlx : x.on < acc.length
      · have : x.on < ops.size := by
          have h4 : ops.toList.length = pre.length + (l.length + 1) := by rw [h1]; simp
          simp only [Array.length_toList] at h4
          omega
        exact h3 x.on ops[x.on] hlx (Array.getElem?_eq_getElem this) (hS x.on _ (Array.getElem?_eq_getElem this) hxS) j hj
      · simp only [List.getD_eq_getElem?_getD, List.getElem?_eq_none (Nat.le_of_not_lt hlx), Option.getD_none, Nat.zero_testBit] at hj
        cases hj

theorem recs_sorted {ops : Array Oper} : ∀ (l : List Nat) (st y : St) (rs : List Rec), opsAt P hs e ops l st = some (y, rs) → (∀ a ∈ rs, a.i ∈ l) ∧ (l.Pairwise (· < ·) → rs.Pairwise fun a b => b.i < a.i) := by
  intro l
  induction l with
  | nil => intro st y rs h; simp only [opsAt] at h; cases h; exact ⟨by simp, fun _ => .nil⟩
  | cons i l ih =>
    intro st y rs h
    simp only [opsAt] at h
    obtain ⟨x, hx, h⟩ := Option.bind_eq_some_iff.1 h
    obtain ⟨z, hz, h⟩ := Option.bind_eq_some_iff.1 h
    cases h
    obtain ⟨h1, h2⟩ := ih _ _ _ hz
    obtain ⟨_, _, _, _, hii, _, _⟩ := opAt_eff (rc := x.2) (st1 := x.1) hx
    have hm : ∀ b ∈ x.2.toList, b.i = i := fun b hb => hii b (by simpa using hb)
    refine ⟨fun a ha => ?_, fun hl => ?_⟩
    · rcases List.mem_append.1 ha with ha | ha
      · simp [h1 a ha]
      · simp [hm a ha]
    · rw [List.pairwise_cons] at hl
      refine List.pairwise_append.2 ⟨h2 hl.2, ?_, fun a ha b hb => by rw [hm b hb]; exact hl.1 _ (h1 a ha)⟩
      cases x.2 <;> simp
theorem recsOk_spec {ms : List Nat} : ∀ (rs : List Rec), recsOk ms rs = true → (rs.Pairwise fun a b => b.i < a.i) → ∀ a ∈ rs, ∀ b ∈ rs, a.i < b.i → (ms.getD b.i 0).testBit a.i = true ∨ recOk a b = true := by
  intro rs
  induction rs with
  | nil => intro _ _ a ha; cases ha
  | cons c l ih =>
    intro h hp a ha b hb hlt
    simp only [recsOk, Bool.and_eq_true, List.all_eq_true, Bool.or_eq_true] at h
    rw [List.pairwise_cons] at hp
    rcases List.mem_cons.1 ha with rfl | ha'
    · rcases List.mem_cons.1 hb with rfl | hb'
      · exact absurd hlt (Nat.lt_irrefl _)
      · have := hp.1 b hb'; omega
    · rcases List.mem_cons.1 hb with rfl | hb'
      · exact h.1 a ha'
      · exact ih h.2 hp.2 a ha' b hb' hlt
theorem FR.of_eqv {st st' : St} {tm : Array Value} {ro : Set} {w : World} {β : Tab} {L : Option Nat} {Own M : Set} (h : FR st tm ro w β L Own M) (q : Eqv st st') : FR st' tm ro w β L Own M :=
  ⟨q.nt ▸ h.nt, fun i v hi => h.tmps i v (by rw [q.t]; exact hi), ⟨fun k hk => h.heap.free k (by rw [q.H]; exact hk), fun k b z hk => h.heap.live k b z (by rw [q.H]; exact hk), fun k k' b z b' z' t t' hne h1 h2 => h.heap.inj k k' b z b' z' t t' hne (by rw [q.H]; exact h1) (by rw [q.H]; exact h2),
    fun b hb => by obtain ⟨k, bl, t, h1, h2⟩ := h.heap.own b hb; exact ⟨k, bl, t, by rw [← q.H]; exact h1, h2⟩⟩, h.apart, q.σ ▸ h.sig⟩
theorem FR.of_world {st : St} {tm : Array Value} {ro : Set} {w w' : World} {β : Tab} {L : Option Nat} {Own M : Set} (h : FR st tm ro w β L Own M) (hw : w'.heap = w.heap) : FR st tm ro w' β L Own M := by
  have hz : w'.heap.size = w.heap.size := by rw [hw]
  have hb : ∀ b : Nat, w'.heap[b]? = w.heap[b]? := fun b => by rw [hw]
  refine ⟨h.nt, fun i v hi => ?_, h.heap.step (fun _ h => h) (fun b _ => hb b) (fun b _ => hb b), ⟨fun b k => by rw [hz]; exact h.apart.r b k, fun b k => by rw [hz]; exact h.apart.own b k, fun b k => by rw [hz]; exact h.apart.m b k⟩,
    h.sig.mono (fun _ h => h) (fun b _ => hb b) (fun b _ => hb b) (fun b k => (h.apart.m b k).2.1) (by omega) (fun b k => by rw [hz]; exact h.apart.r b k)⟩
  obtain ⟨u, h1, h2⟩ := h.tmps i v hi
  exact ⟨u, h1, h2.mono (fun _ h => h) (fun b _ => hb b) (fun _ _ h => h)⟩

/-- What is still to come. -/
def left (n : Nat) (listed : Array Bool) : List Nat := (List.range n).filter fun i => !listed.getD i true
theorem split_at {l : List Nat} (hl : l.Pairwise (· < ·)) {i : Nat} (hi : i ∈ l) : ∃ l1 l2, l = l1 ++ i :: l2 ∧ (∀ k ∈ l1, k < i) ∧ l.filter (fun k => !(k == i)) = l1 ++ l2 := by
  induction l with
  | nil => cases hi
  | cons a l ih =>
    rw [List.pairwise_cons] at hl
    rcases List.mem_cons.1 hi with rfl | hi'
    · refine ⟨[], l, rfl, by simp, ?_⟩
      rw [List.filter_cons, if_neg (by simp)]
      simp only [List.nil_append]
      exact List.filter_eq_self.2 (fun k hk => by have := hl.1 k hk; simp; omega)
    · obtain ⟨l1, l2, h1, h2, h3⟩ := ih hl.2 hi'
      have hlt := hl.1 i hi'
      refine ⟨a :: l1, l2, by rw [h1]; rfl, fun k hk => ?_, ?_⟩
      · rcases List.mem_cons.1 hk with rfl | hk'
        · exact hlt
        · exact h2 k hk'
      · rw [List.filter_cons, if_pos (by simp; omega), h3]; rfl
theorem left_set {n : Nat} {listed : Array Bool} (hz : listed.size = n) {i : Nat} (hi : i < n) : left n (listed.setIfInBounds i true) = (left n listed).filter (fun k => !(k == i)) := by
  unfold left
  rw [List.filter_filter]
  refine List.filter_congr fun k hk => ?_
  by_cases e : k = i
  · subst e
    simp [Array.getElem?_setIfInBounds_self_of_lt (show k < listed.size by omega)]
  · rw [getD_set_ne true (Ne.symm e)]
    simp [e]
theorem anyOrder (hP : PG P) (hE : ESound P e) {F : Fence} (hF : F.plain = Fence.wide) {ops : Array Oper} {n : Nat} {Q : Exit → Act → World → Prop} {st' : St} {rs : List Rec} (hd : drawOk ops rs = true) (hsort : rs.Pairwise fun a b => b.i < a.i) :
    ∀ (m : Nat) (listed : Array Bool) (st y : St) (rs1 : List Rec), listed.size = ops.size → (left ops.size listed).length = m → Closed ops (fun k => listed.getD k false = true) →
    opsAt P hs e ops (left ops.size listed) st = some (y, rs1) → Eqv y st' → (∀ a ∈ rs1, a ∈ rs) → 
    ∀ (a : Act) (ro : Set) (w : World) (β : Tab) (L : Option Nat) (Own M : Set), FR st a.tmps ro w β L Own M →
    (∀ a' ro' w' β' Own' M', a'.defers = a.defers → a'.tmps.size = a.tmps.size → FR st' a'.tmps ro' w' β' L Own' M' → FStp ro w Own M ro' w' Own' M' → (∀ h t, β h = some t → β' h = some t) → Q .normal a' w') →
    wpAnyIn F n P .any ops Q m listed a w := by
  unfold drawOk at hd
  simp only [Bool.and_eq_true] at hd
  obtain ⟨⟨hfw, hap⟩, hrk⟩ := hd
  have hrk' := recsOk_spec rs hrk hsort
  have inLeft : ∀ (listed : Array Bool) (i : Nat), i ∈ Region.ready .any ops listed → i ∈ left ops.size listed := fun listed i hi => by
    rw [mem_ready] at hi
    obtain ⟨h0, o, ho, _⟩ := hi
    unfold left
    rw [List.mem_filter, List.mem_range]
    exact ⟨(Array.getElem?_eq_some_iff.1 ho).1, by simp only [h0]; rfl⟩
  intro m
  induction m with
  | zero =>
    intro listed st y rs1 hz hm hcl h hy hsub a ro w β L Own M hR hQ
    have hnil : left ops.size listed = [] := List.length_eq_zero_iff.1 hm
    refine ⟨?_, ?_⟩
    · cases hr : Region.ready .any ops listed with
      | nil => rfl
      | cons i l => have := inLeft listed i (by rw [hr]; simp); rw [hnil] at this; cases this
    · rw [hnil] at h
      simp only [opsAt] at h
      cases h
      exact hQ a ro w β Own M rfl rfl (hR.of_eqv hy) (.refl _ _ _ _) (fun _ _ h => h)
  | succ m ih =>
    intro listed st y rs1 hz hm hcl h hy hsub a ro w β L Own M hR hQ
    refine ⟨fun hr => ?_, fun j hj => ?_⟩
    · -- the first that is left may come up
      exfalso
      have hsl : (left ops.size listed).Pairwise (· < ·) := List.Pairwise.filter _ List.pairwise_lt_range
      cases hl : left ops.size listed with
      | nil => rw [hl] at hm; simp at hm
      | cons i l =>
        have hi : i ∈ left ops.size listed := by rw [hl]; simp
        have hi0 := hi
        unfold left at hi
        rw [List.mem_filter, List.mem_range] at hi
        have ho : ops[i]? = some ops[i] := Array.getElem?_eq_getElem hi.1
        have : i ∈ Region.ready .any ops listed := by
          rw [mem_ready]
          refine ⟨by simpa using hi.2, ops[i], ho, fun x hx hb => ?_⟩
          have h1 := (List.all_eq_true.1 hfw) i (List.mem_range.2 hi.1)
          rw [ho] at h1
          have hx1 := Array.all_eq_true_iff_forall_mem.1 h1 x hx
          rw [hb] at hx1
          have hxi : x.on < i := by simp only [Bool.not_true, Bool.false_or] at hx1; exact Nat.le_of_ble_eq_true hx1
          cases hq : listed.getD x.on true with
          | true =>
            have hlt : x.on < listed.size := by omega
            simp only [Array.getD_eq_getD_getElem?, Array.getElem?_eq_getElem hlt, Option.getD_some] at hq ⊢
            exact hq
          | false =>
            have hxl : x.on ∈ left ops.size listed := by
              unfold left; rw [List.mem_filter, List.mem_range]; exact ⟨by omega, by simp only [hq]; rfl⟩
            rw [hl] at hxl hsl
            rw [List.pairwise_cons] at hsl
            rcases List.mem_cons.1 hxl with e | e
            · omega
            · have := hsl.1 _ e; omega
        rw [hr] at this; cases this
    · have hjl := inLeft listed j hj
      rw [mem_ready] at hj
      obtain ⟨hj0, oj, hoj, hjx⟩ := hj
      have hsl : (left ops.size listed).Pairwise (· < ·) := List.Pairwise.filter _ List.pairwise_lt_range
      obtain ⟨l1, l2, e1, e2, e3⟩ := split_at hsl hjl
      have hjn : j < ops.size := (Array.getElem?_eq_some_iff.1 hoj).1
      have hbit : ∀ i ∈ l1, ¬ ((masks ops.toList []).getD j 0).testBit i = true := fun i hi hb => by
        have := masks_ok ops _ hcl ops.toList [] [] rfl rfl (fun k o hk => by simp at hk) j oj hoj hjx i hb
        have hil : i ∈ left ops.size listed := by rw [e1]; simp [hi]
        unfold left at hil
        rw [List.mem_filter, List.mem_range] at hil
        have hlt : i < listed.size := by omega
        simp only [Array.getD_eq_getD_getElem?, Array.getElem?_eq_getElem hlt, Option.getD_some] at hil this
        simp [this] at hil
      rw [e1] at h
      have hA : ∀ i ∈ l1, ∃ oi, ops[i]? = some oi ∧ Oper.apart ops oi oj = true := fun i hi => by
        have hin : i < j := e2 i hi
        have hoi : ops[i]? = some ops[i] := Array.getElem?_eq_getElem (by omega)
        refine ⟨ops[i], hoi, ?_⟩
        have h1 := (List.all_eq_true.1 ((List.all_eq_true.1 hap) j (List.mem_range.2 hjn))) i (List.mem_range.2 hin)
        rw [hoi, hoj] at h1
        rcases Bool.or_eq_true_iff.1 h1 with h1 | h1
        · exact absurd h1 (hbit i hi)
        · exact h1
      have hB : ∀ a ∈ rs1, ∀ b ∈ rs1, a.i ∈ l1 → b.i = j → recOk a b = true := fun a' ha b' hb h1 h2 => by
        rcases hrk' a' (hsub a' ha) b' (hsub b' hb) (by rw [h2]; exact e2 _ h1) with g | g
        · rw [h2] at g; exact absurd g (hbit _ h1)
        · exact g
      obtain ⟨x, rc, y', rs', g1, g2, g3, g4, g5⟩ := opsAt_front hoj l1 st y rs1 h hA hB
      refine opAt_ok hP hE hF g1 hR (fun a' ro' w' β' Own' M' k1 k2 k3 k4 k5 => ?_)
      have hls := left_set hz hjn
      rw [e3] at hls
      refine ih (listed.setIfInBounds j true) x y' rs' (by simpa using hz) ?_ ?_ (by rw [hls]; exact g2) (g3.symm.trans hy) (fun b hb => hsub b (g4 b hb)) a' ro' w' β' L Own' M' k3 (fun a2 ro2 w2 β2 Own2 M2 q1 q2 q3 q4 q5 => hQ a2 ro2 w2 β2 Own2 M2 (q1.trans k1) (q2.trans k2) q3 (k4.trans q4) (fun h t ht => q5 h t (k5 h t ht)))
      · rw [hls]; rw [e1] at hm; simp at hm ⊢; omega
      · intro k o hk hlk x' hx' hb'
        by_cases ekj : k = j
        · subst ekj
          rw [hoj] at hk; cases hk
          exact getD_set_true (hjx x' hx' hb')
        · rw [getD_set_ne false (Ne.symm ekj)] at hlk
          exact getD_set_true (hcl k o hk hlk x' hx' hb')
theorem opsAt_keep {ops : Array Oper} : ∀ (l : List Nat) (st y : St) (rs : List Rec), opsAt P hs e ops l st = some (y, rs) → y.f = st.f ∧ y.round = st.round ∧ y.nt = st.nt ∧ y.keep = st.keep := by
  intro l
  induction l with
  | nil => intro st y rs h; simp only [opsAt] at h; cases h; exact ⟨rfl, rfl, rfl, rfl⟩
  | cons i l ih =>
    intro st y rs h
    simp only [opsAt] at h
    obtain ⟨x, hx, h⟩ := Option.bind_eq_some_iff.1 h
    obtain ⟨z, hz, h⟩ := Option.bind_eq_some_iff.1 h
    cases h
    obtain ⟨_, _, _, _, _, h2, _⟩ := opAt_eff (rc := x.2) (st1 := x.1) hx
    obtain ⟨g1, g2, g3, g4⟩ := ih _ _ _ hz
    exact ⟨g1.trans h2.f, g2.trans h2.round, g3.trans h2.nt, g4.trans h2.keep⟩
theorem drawn_ok (hP : PG P) (hE : ESound P e) {F : Fence} (hF : F.plain = Fence.wide) {ops : Array Oper} {n : Nat} {Q : Exit → Act → World → Prop} {st st' : St} {rs : List Rec} (h : opsAt P hs e ops (List.range ops.size) st = some (st', rs)) (hd : drawOk ops rs = true)
    {a : Act} {ro : Set} {w : World} {β : Tab} {L : Option Nat} {Own M : Set} (hR : FR st a.tmps ro w β L Own M)
    (hQ : ∀ a' ro' w' β' Own' M', a'.defers = a.defers → a'.tmps.size = a.tmps.size → FR st' a'.tmps ro' w' β' L Own' M' → FStp ro w Own M ro' w' Own' M' → (∀ h t, β h = some t → β' h = some t) → Q .normal a' w') :
    wpAnyIn F n P .any ops Q ops.size (Array.replicate ops.size false) a { w with drawn := w.drawn + 1 } := by
  have hleft : left ops.size (Array.replicate ops.size false) = List.range ops.size := List.filter_eq_self.2 fun i hi => by
    rw [List.mem_range] at hi
    simp [hi]
  refine anyOrder hP hE hF hd ((recs_sorted _ _ _ _ h).2 List.pairwise_lt_range) ops.size _ st st' rs (by simp) (by rw [hleft]; simp) (fun k o hk hl => ?_) (by rw [hleft]; exact h) (.refl _) (fun _ h => h) a ro _ β L Own M (hR.of_world rfl)
    (fun a' ro' w' β' Own' M' h1 h2 h3 h4 h5 => hQ a' ro' w' β' Own' M' h1 h2 h3 (FStp.trans (ro1 := ro) (w1 := { w with drawn := w.drawn + 1 }) (Own1 := Own) (M1 := M) ⟨rfl, rfl, rfl, Nat.le_refl _, fun _ h => h, fun _ _ => rfl, fun _ _ _ _ => rfl, fun _ => .inl, fun _ => .inl, fun _ => .inl, fun l rec h => ⟨rec, h, rfl⟩⟩ h4) h5)
  have hk' := (Array.getElem?_eq_some_iff.1 hk).1
  simp [hk'] at hl
end
end Go.Proofs.Ytbhojnofdeihdaa.E
