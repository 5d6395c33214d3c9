/- What is shown here: operations that make or write memory. -/
import Derived.Test.YtbhojnofdeihdaaEQ3
namespace Go.Proofs.Ytbhojnofdeihdaa.E
open Go.RowKit
set_option autoImplicit false
set_option linter.unusedVariables false
set_option linter.unusedSimpArgs false
section
variable {P : Program} {ro : Set} {w : World} {β : Tab} {L : Option Nat} {H : Heap} {Own : Set}

/-! ### a block made for a value -/
theorem RepB.of_pc {ro : Set} {w : World} {β : Tab} {L : Option Nat} {t : Bt} {cs : List C} {c : Array Value} {el : TypeId} (hh : w.heap[t.b]? = some (.cells c el (0, 0))) (hs : c.size = cs.length)
    (hr : ∀ (j : Nat) (v : Value) (x : C), c[j]? = some v → cs[j]? = some x → Rep ro w v x) {n : Nat} (hn : cs.length = n) : RepB ro w β L t (.pc n cs) := by subst hn; exact .pc cs c el hh hs hr
theorem keepOld (hs : Sane ro w Own) {w0 : World} (hw : w0.heap = w.heap) (o : Obj) (b : Nat) (hb : ro b) : (w0.alloc o).heap[b]? = w.heap[b]? := by
  have := hs.bound b (.inl hb)
  rw [heap_alloc_old _ _ _ (by rw [hw]; exact this), hw]
theorem cellsV_ok {u : Value} {v : V} {l : List V} (hu : RepV ro w β L u v) (h : cellsV v = some l) :
    u.cells.size = l.length ∧ (∀ (j : Nat) (y : Value) (x : V), u.cells[j]? = some y → l[j]? = some x → RepV ro w β L y x) ∧ (∀ y ∈ u.cells, y.oneCell' = true) := by
  have single : ∀ (y : Value) (z : V), RepV ro w β L y z → y.oneCell' = true → y.cells = #[y] → y.cells.size = [z].length ∧ (∀ (j : Nat) (a : Value) (x : V), y.cells[j]? = some a → [z][j]? = some x → RepV ro w β L a x) ∧ (∀ a ∈ y.cells, a.oneCell' = true) := by
    intro y z hr h1 hc
    rw [hc]
    refine ⟨rfl, fun j a x ha hx => ?_, fun a ha => by simp at ha; subst ha; exact h1⟩
    cases j with
    | zero => simp at ha hx; subst ha hx; exact hr
    | succ j => simp at hx
  cases hu with
  | agg vs cs hs hr hn => simp only [cellsV] at h; cases h; exact ⟨hs, hr, hn⟩
  | c v x hx =>
    simp only [cellsV] at h; cases h
    have h1 := hx.one
    exact single _ _ (.c _ _ hx) h1 (by cases hx <;> rfl)
  | ptr hh off t ht => simp only [cellsV] at h; cases h; exact single _ _ (.ptr _ _ t ht) rfl rfl
  | eptr hh i off t ht => simp only [cellsV] at h; cases h; exact single _ _ (.eptr _ _ _ t ht) rfl rfl
  | own hh t ht => simp only [cellsV] at h; cases h; exact single _ _ (.own _ t ht) rfl rfl
  | nsl => simp only [cellsV] at h; cases h; exact single _ _ .nsl rfl rfl
  | mapv hh t ht => simp only [cellsV] at h; cases h; exact single _ _ (.mapv _ t ht) rfl rfl
  | clo f vs cs hs hr => simp only [cellsV] at h; cases h; exact single _ _ (.clo _ _ _ hs hr) rfl rfl
  | yld l hl => simp only [cellsV] at h; cases h; exact single _ _ (.yld _ hl) rfl rfl
  | pagg vs cs hs hr => simp [cellsV] at h
  | tup vs cs hs hr => simp [cellsV] at h
  | undef v => simp [cellsV] at h
theorem box_ok (hs : Sane ro w Own) (hH : RepH ro w β L H Own) {d : Nat} (hd : get H d = none) {u : Value} {v : V} {b : Blk} (hu : RepV ro w β L u v) (hb : blkOf v = some b) (t : TypeId) :
    OutOK ro w β L Own ((do pure (Next.value (← Instr.box t u)) : Sem Next).run P w) (.ptr d 0) (ins d (.live b false) H) := by
  have hrun : ((do pure (Next.value (← Instr.box t u)) : Sem Next).run P w) = .ok (.value (.pointer (some ⟨w.heap.size, 0, none⟩))) (w.alloc (.cells u.cells t (0, 0))) := by
    unfold Instr.box newVar newRow
    simp only [Sem.run_bind, run_newObj, Result.andThen_ok, Sem.run_pure]
    rfl
  have hnew := heap_alloc_new w (.cells u.cells t (0, 0))
  obtain ⟨β', Own', hH', hst, hβd⟩ := new_ok hs hH hd (.cells u.cells t (0, 0)) { b := w.heap.size } rfl b w rfl rfl rfl rfl (fun β' h1 h2 => by
    unfold blkOf at hb
    split at hb
    · cases hb
      cases hu with
      | pagg vs _ hs' hr => exact .pc _ vs t hnew hs' (fun j y x h1 h2 => (hr j y x h1 h2).mono (fun _ h => h) (fun b hb => keepOld hs rfl _ b hb))
    · obtain ⟨l, hl, rfl⟩ := Option.map_eq_some_iff.1 hb
      obtain ⟨c1, c2, c3⟩ := cellsV_ok hu hl
      exact .vs l u.cells t hnew c1 (fun j y x h3 h4 => (c2 j y x h3 h4).mono (fun _ h => h) (fun b hb => keepOld hs rfl _ b hb) h1) c3)
  exact ⟨_, _, ro, β', Own', hrun, .inl ⟨_, rfl, .ptr d 0 _ hβd⟩, hH', hst⟩
theorem zero_cells {t : TypeId} {l : List V} (h : zeroT P t = some l) : ∃ z : Value, (P.info? t).bind (·.zero) = some z ∧ z.cells.size = l.length ∧ (∀ y ∈ z.cells, y.oneCell' = true) ∧ ∀ (ro : Set) (w : World) (β : Tab) (L : Option Nat) (j : Nat) (y : Value) (x : V), z.cells[j]? = some y → l[j]? = some x → RepV ro w β L y x := by
  unfold zeroT at h
  obtain ⟨z, hz, h⟩ := Option.bind_eq_some_iff.1 h
  obtain ⟨h1, h⟩ := cond_some_none h
  cases h
  simp only [List.all_eq_true, Array.mem_toList_iff] at h1
  refine ⟨z, hz, by simp, h1, fun ro w β L j y x h1 h2 => ?_⟩
  rw [List.getElem?_map] at h2
  obtain ⟨y', h3, rfl⟩ := Option.map_eq_some_iff.1 h2
  rw [Array.getElem?_toList] at h3
  rw [h1] at h3; cases h3
  exact ofValue_rep ro w β L y
theorem alloc_ok (hs : Sane ro w Own) (hH : RepH ro w β L H Own) {d : Nat} (hd : get H d = none) {t : TypeId} {l : List V} (hz : zeroT P t = some l) :
    OutOK ro w β L Own ((do pure (Next.value (← Instr.alloc t true (.tuple #[]))) : Sem Next).run P w) (.ptr d 0) (ins d (.live (.vs l) false) H) := by
  obtain ⟨z, h1, h2, h3, h4⟩ := zero_cells hz
  have hrun : ((do pure (Next.value (← Instr.alloc t true (.tuple #[]))) : Sem Next).run P w) = .ok (.value (.pointer (some ⟨w.heap.size, 0, none⟩))) (w.alloc (.cells z.cells t (0, 0))) := by
    unfold Instr.alloc newVar newRow
    simp only [Sem.run_bind, run_zero h1, run_newObj, Result.andThen_ok, Sem.run_pure]
    rfl
  have hnew := heap_alloc_new w (.cells z.cells t (0, 0))
  obtain ⟨β', Own', hH', hst, hβd⟩ := new_ok hs hH hd (.cells z.cells t (0, 0)) { b := w.heap.size } rfl (.vs l) w rfl rfl rfl rfl (fun β' _ _ => .vs l z.cells t hnew h2 (fun j y x h5 h6 => h4 _ _ _ _ j y x h5 h6) h3)
  exact ⟨_, _, ro, β', Own', hrun, .inl ⟨_, rfl, .ptr d 0 _ hβd⟩, hH', hst⟩
theorem makeMap_ok (hs : Sane ro w Own) (hH : RepH ro w β L H Own) {d : Nat} (hd : get H d = none) (t : TypeId) :
    OutOK ro w β L Own ((do pure (Next.value (← Instr.makeMap t none)) : Sem Next).run P w) (.mapv d) (ins d (.live (.map []) false) H) := by
  have hrun : ((do pure (Next.value (← Instr.makeMap t none)) : Sem Next).run P w) = .ok (.value (.map (some w.heap.size))) (w.alloc (.map #[] 0)) := by
    unfold Instr.makeMap
    simp only [Sem.run_bind, run_newObj, Result.andThen_ok, Sem.run_pure]
    rfl
  have hnew := heap_alloc_new w (.map #[] 0)
  obtain ⟨β', Own', hH', hst, hβd⟩ := new_ok hs hH hd (.map #[] 0) { b := w.heap.size } rfl (.map []) w rfl rfl rfl rfl (fun β' _ _ => .map [] #[] 0 hnew rfl (fun j m p h => by simp at h) (fun j m p h => by simp at h))
  exact ⟨_, _, ro, β', Own', hrun, .inl ⟨_, rfl, .mapv d _ hβd⟩, hH', hst⟩

/-! ### stores -/
theorem frozen_no {b o : Nat} {c : Array Value} {el : TypeId} (h : w.heap[b]? = some (.cells c el (0, 0))) : w.frozen? ⟨b, o, none⟩ = false := by
  simp [World.frozen?, h]
/-- One cell of a block of ours is written. -/
theorem set_heap {b o : Nat} {c : Array Value} {el : TypeId} (h : w.heap[b]? = some (.cells c el (0, 0))) (v : Value) :
    (w.setCell ⟨b, o, none⟩ v).heap[b]? = some (.cells (c.setIfInBounds o v) el (0, 0)) ∧ (∀ x, x ≠ b → (w.setCell ⟨b, o, none⟩ v).heap[x]? = w.heap[x]?) ∧ (w.setCell ⟨b, o, none⟩ v).heap.size = w.heap.size := by
  refine ⟨?_, fun x hx => ?_, by simp⟩
  · simp only [World.setCell, Array.getElem?_modify, if_true, h]
    rfl
  · exact Below.heap_setCell w ⟨b, o, none⟩ v x hx
theorem run_storeVar_one {t : TypeId} (ht : 1 = szT P t) {b o : Nat} {c : Array Value} {el : TypeId} (h : w.heap[b]? = some (.cells c el (0, 0))) (ho : o < c.size) {v : Value} (h1 : v.oneCell' = true) :
    (storeVar t ⟨b, o, none⟩ v).run P w = .ok () (w.setCell ⟨b, o, none⟩ v) := by
  obtain ⟨i, hi⟩ := sz_info (P := P) (t := t) (by omega)
  have hc : v.cells = #[v] := by cases v <;> simp_all [Value.cells, Value.oneCell']
  unfold storeVar
  simp only [Sem.run_bind, run_sz hi, Result.andThen_ok, hc, ← ht]
  simp only [List.size_toArray, List.length_cons, List.length_nil, ne_eq, not_true_eq_false, if_false, Sem.run_bind, Sem.run_pure, Result.andThen_ok, Nat.zero_add]
  unfold storeCells
  have hcell : w.cell? ⟨b, o, none⟩ = some c[o] := by rw [cells_cell h]; exact Array.getElem?_eq_getElem ho
  have h0 : (⟨b, o, none⟩ : Addr).add 0 = ⟨b, o, none⟩ := add_none b o 0
  simp only [Sem.run_bind, h0, run_store P w _ _ _ h1, hcell, frozen_no h, Bool.false_eq_true, if_false, Result.andThen_ok]
  unfold storeCells
  rfl
theorem run_storeVar_all {t : TypeId} (hp : 0 < szT P t) {b : Nat} {c : Array Value} {el : TypeId} (h : w.heap[b]? = some (.cells c el (0, 0))) {vs : Array Value} (hs : vs.size = szT P t) (hc : c.size = vs.size) (h1 : ∀ v ∈ vs, v.oneCell' = true) :
    ∃ w', (storeVar t ⟨b, 0, none⟩ (.agg vs)).run P w = .ok () w' ∧ w'.heap[b]? = some (.cells vs el (0, 0)) ∧ (∀ x, x ≠ b → w'.heap[x]? = w.heap[x]?) ∧ w'.heap.size = w.heap.size ∧ w'.os = w.os ∧ w'.tape = w.tape ∧ w'.output = w.output := by
  obtain ⟨i, hi⟩ := sz_info hp
  have key : ∀ (l : List Value) (k : Nat) (W : World) (cc : Array Value), W.heap[b]? = some (.cells cc el (0, 0)) → k + l.length = cc.size → (∀ v ∈ l, v.oneCell' = true) →
      ∃ w' cc', (storeCells ⟨b, 0, none⟩ l k).run P W = .ok () w' ∧ w'.heap[b]? = some (.cells cc' el (0, 0)) ∧ cc'.size = cc.size ∧ (∀ j, j < k → cc'[j]? = cc[j]?) ∧ (∀ j, cc'[k + j]? = l[j]? ∨ l.length ≤ j) ∧ (∀ x, x ≠ b → w'.heap[x]? = W.heap[x]?) ∧ w'.heap.size = W.heap.size ∧ w'.os = W.os ∧ w'.tape = W.tape ∧ w'.output = W.output := by
    intro l
    induction l with
    | nil => exact fun k W cc hW hk _ => ⟨W, cc, by unfold storeCells; rfl, hW, rfl, fun _ _ => rfl, fun j => .inr (Nat.zero_le _), fun _ _ => rfl, rfl, rfl, rfl, rfl⟩
    | cons v l ih =>
      intro k W cc hW hk hl
      simp only [List.length_cons] at hk
      have hcell : W.cell? ⟨b, k, none⟩ = some cc[k] := by rw [cells_cell hW]; exact Array.getElem?_eq_getElem (by omega)
      obtain ⟨s1, s2, s3⟩ := set_heap (o := k) hW v
      obtain ⟨w', cc', r1, r2, r3, r4, r5, r6, r7, r8, r9, r10⟩ := ih (k + 1) (W.setCell ⟨b, k, none⟩ v) _ s1 (by simp; omega) (fun v hv => hl v (by simp [hv]))
      refine ⟨w', cc', ?_, r2, by simpa using r3, fun j hj => ?_, fun j => ?_, fun x hx => (r6 x hx).trans (s2 x hx), r7.trans s3, r8, r9, r10⟩
      · unfold storeCells
        simp only [Sem.run_bind, add_none, Nat.zero_add, run_store P W _ _ _ (hl v (by simp)), hcell, frozen_no hW, Bool.false_eq_true, if_false, Result.andThen_ok]
        exact r1
      · rw [r4 j (by omega), Array.getElem?_setIfInBounds_ne (by omega)]
      · cases j with
        | zero =>
          refine .inl ?_
          rw [Nat.add_zero, r4 k (by omega), Array.getElem?_setIfInBounds_self_of_lt (by omega)]
          rfl
        | succ j =>
          rcases r5 j with h | h
          · refine .inl ?_
            rw [show k + (j + 1) = k + 1 + j by omega, h]; rfl
          · exact .inr (by simp; omega)
  obtain ⟨w', cc', r1, r2, r3, r4, r5, r6, r7, r8, r9, r10⟩ := key vs.toList 0 w c h (by simp; omega) (fun v hv => h1 v (by simpa using hv))
  refine ⟨w', ?_, ?_, r6, r7, r8, r9, r10⟩
  · unfold storeVar
    simp only [Sem.run_bind, run_sz hi, Result.andThen_ok, Value.cells, hs, ne_eq, not_true_eq_false, if_false, Sem.run_pure]
    exact r1
  · have : cc' = vs := by
      apply Array.ext
      · omega
      · intro j hj1 hj2
        rcases r5 j with h' | h'
        · rw [Nat.zero_add] at h'
          rw [Array.getElem?_eq_getElem hj1, Array.getElem?_toList, Array.getElem?_eq_getElem hj2] at h'
          exact Option.some.inj h'
        · simp at h'; omega
    rw [r2, this]
theorem oneV {u : Value} {v : V} (h : one? v = true) (hu : RepV ro w β L u v) : u.oneCell' = true := by
  cases hu with
  | c v x hx => exact hx.one
  | agg => simp [one?] at h
  | pagg => simp [one?] at h
  | tup => simp [one?] at h
  | undef => simp [one?] at h
  | _ => rfl
theorem appAll_append (l m : List Dl) : ∀ H : Heap, appAll (l ++ m) H = appAll m (appAll l H) := by
  induction l with
  | nil => exact fun H => rfl
  | cons d l ih => exact fun H => ih _
theorem get_frzs (l : List Nat) (h : Nat) (hn : ∀ i ∈ l, i ≠ h) : ∀ H : Heap, get (appAll (frzs l) H) h = get H h := by
  induction l with
  | nil => exact fun H => rfl
  | cons i l ih =>
    intro H
    show get (appAll (frzs l) (upd i Slot.frz H)) h = _
    rw [ih (fun j hj => hn j (by simp [hj])), get_upd, if_neg (fun e => hn i (by simp) e.symm)]
theorem not_any {l : List Nat} {h : Nat} (hn : (l.any (Nat.beq h)) = false) : ∀ i ∈ l, i ≠ h := by
  intro i hi e
  subst e
  rw [List.any_eq_false] at hn
  exact hn _ hi (by simp)
/-- The step behind which a whole store has been made. -/
theorem OutOK.skip {run : Result Next} {w' : World} {ro' : Set} {β' : Tab} {Own' : Set} {H' : Heap} (h : run = .ok .skip w') (hH : RepH ro' w' β' L H' Own') (hst : OStp ro w β Own ro' w' β' Own') : OutOK ro w β L Own run .undef H' :=
  ⟨_, w', ro', β', Own', h, .inr ⟨rfl, rfl⟩, hH, hst⟩
theorem storeAt_skip {t : TypeId} {ad : Addr} {v : Value} {w' : World} (h : (storeVar t ad v).run P w = .ok () w') : ((do Instr.storeAt t (.pointer (some ad)) v; pure Next.skip : Sem Next).run P w) = .ok .skip w' := by
  unfold Instr.storeAt Instr.sureAddr
  simp only [Sem.run_bind, Sem.run_pure, Result.andThen_ok, h]
theorem storeK_ok (hs : Sane ro w Own) (hH : RepH ro w β L H Own) {t : TypeId} {a x : V} {r : List Rd} {l : List Dl} {ua ux : Value} (ha : RepV ro w β L ua a) (hx : RepV ro w β L ux x)
    (h : storeK P H t a x (fun r l => some (r, l)) = some (r, l)) : OutOK ro w β L Own ((do Instr.storeAt t ua ux; pure Next.skip : Sem Next).run P w) .undef (appAll l H) := by
  unfold storeK at h
  split at h
  · rename_i hh off
    cases ha with
    | ptr _ _ bt hbt =>
      -- a whole block
      have whole : ∀ (blk nb : Blk) (vs c : Array Value) (el : TypeId), get H hh = some (.live blk false) → ux = .agg vs → w.heap[bt.b]? = some (.cells c el (0, 0)) → 0 < szT P t → vs.size = szT P t → c.size = vs.size → off = 0 → (∀ v ∈ vs, v.oneCell' = true) →
          (∀ w' : World, (∀ b, ro b → w'.heap[b]? = w.heap[b]?) → w'.heap[bt.b]? = some (.cells vs el (0, 0)) → RepB ro w' β L bt nb) →
          OutOK ro w β L Own ((do Instr.storeAt t (.pointer (some ⟨bt.b, off, none⟩)) ux; pure Next.skip : Sem Next).run P w) .undef (appAll [.wr hh (.all nb)] H) := by
        intro blk nb vs c el hg hu hc hp hv hcs h0 h1 hB
        subst hu h0
        obtain ⟨w', r1, r2, r3, r4, r5, r6, r7⟩ := run_storeVar_all (P := P) hp hc hv hcs h1
        have hlive := hH.live _ _ _ hg
        obtain ⟨t0, ht0, _, _, hown⟩ := hlive
        rw [hbt] at ht0; cases ht0
        have hk : ∀ b, ro b → w'.heap[b]? = w.heap[b]? := fun b hb => r3 b (fun e => by subst e; exact hs.dis _ (hown rfl) hb)
        obtain ⟨k1, k2⟩ := wr_ok hs hH hg hbt r5 r6 r7 r4 r3 (hB w' hk r2) (H' := upd hh (Slot.wr (.all nb)) H) (fun i => get_wr hg _ i)
        exact .skip (storeAt_skip r1) k1 k2
      split at h
      · rename_i n cs hg
        obtain ⟨t0, ht0, hB0, _, hown⟩ := hH.live _ _ _ hg
        rw [hbt] at ht0; cases ht0
        cases hB0 with
        | pc _ c el hc hcs hcr =>
        split at h
        · rename_i m ds
          obtain ⟨h0, h⟩ := cond_some_none h
          cases h
          simp only [Bool.and_eq_true, nbeq] at h0
          obtain ⟨⟨⟨hp, hm⟩, ho⟩, hn⟩ := h0
          have hp := Nat.le_of_ble_eq_true hp
          cases hx with
          | pagg vs _ hs' hr =>
            refine whole _ _ vs c el hg rfl hc hp (by omega) (by omega) ho (fun v hv => ?_) (fun w' hk hw' => .pc ds vs el hw' hs' (fun j y x h1 h2 => (hr j y x h1 h2).mono (fun _ h => h) hk))
            obtain ⟨j, hj⟩ := Array.getElem?_of_mem hv
            have hj' := (Array.getElem?_eq_some_iff.1 hj).1
            exact (hr j v ds[j] hj (List.getElem?_eq_getElem (by omega))).one
        · rename_i l'
          obtain ⟨h0, h⟩ := cond_some_none h
          cases h
          simp only [Bool.and_eq_true, nbeq] at h0
          obtain ⟨⟨⟨hp, hm⟩, ho⟩, hn⟩ := h0
          have hp := Nat.le_of_ble_eq_true hp
          cases hx with
          | agg vs _ hs' hr h1 =>
            exact whole _ _ vs c el hg rfl hc hp (by omega) (by omega) ho h1 (fun w' hk hw' => .vs l' vs el hw' hs' (fun j y x h1 h2 => (hr j y x h1 h2).mono (fun _ h => h) hk (fun _ _ h => h)) h1)
        · obtain ⟨h0, h⟩ := cond_some_none h
          simp only [Bool.and_eq_true, nbeq] at h0
          obtain ⟨⟨h1, hz⟩, hlt⟩ := h0
          have hlt := Nat.le_of_ble_eq_true hlt
          obtain ⟨rr, hr0, h⟩ := Option.bind_eq_some_iff.1 h
          obtain ⟨hno, h⟩ := cond_none_some h
          cases h
          have hone := oneV h1 hx
          obtain ⟨p1, p2⟩ := (pur_ok hH 40).1 _ _ _ hr0
          obtain ⟨ro1, Own1, hH1, st1, k1⟩ := frzs_ok rr.2 hs hH p1
          have hrep := p2 ux hx ro1 st1.grow k1
          have hg1 : get (appAll (frzs rr.2) H) hh = some (.live (.pc cs.length cs) false) := by rw [get_frzs _ _ (not_any hno)]; exact hg
          obtain ⟨t1, ht1, hB1, _, hown1⟩ := hH1.live _ _ _ hg1
          rw [hbt] at ht1; cases ht1
          obtain ⟨s1, s2, s3⟩ := set_heap (o := off) hc ux
          have hk : ∀ b, ro1 b → (w.setCell ⟨bt.b, off, none⟩ ux).heap[b]? = w.heap[b]? := fun b hb => s2 b (fun e => by subst e; exact st1.dis _ (hown1 rfl) hb)
          obtain ⟨k1', k2⟩ := wr_ok st1.sane hH1 hg1 hbt (w' := w.setCell ⟨bt.b, off, none⟩ ux) rfl rfl rfl s3 s2 (b' := .pc cs.length (cs.set off rr.1))
            (RepB.of_pc s1 (by simp; omega) (fun j y x hy hx' => by
              by_cases e : j = off
              · subst e
                rw [Array.getElem?_setIfInBounds_self_of_lt (by omega)] at hy
                rw [List.getElem?_set_self (by omega)] at hx'
                cases hy; cases hx'
                exact hrep.mono (fun _ h => h) hk
              · rw [Array.getElem?_setIfInBounds_ne (Ne.symm e)] at hy
                rw [List.getElem?_set_ne (Ne.symm e)] at hx'
                exact ((hcr j y x hy hx').mono st1.grow (fun _ _ => rfl)).mono (fun _ h => h) hk) (by simp)) (H' := upd hh (Slot.wr (.pcell off rr.1)) (appAll (frzs rr.2) H)) (fun i => get_wr hg1 _ i)
          rw [appAll_append]
          exact .skip (storeAt_skip (run_storeVar_one hz hc (by omega) hone)) k1' (st1.trans hs k2)
      · rename_i vl hg
        obtain ⟨t0, ht0, hB0, _, hown⟩ := hH.live _ _ _ hg
        rw [hbt] at ht0; cases ht0
        cases hB0 with
        | vs _ c el hc hcs hcr hcn =>
        split at h
        · rename_i m ds
          obtain ⟨h0, h⟩ := cond_some_none h
          cases h
          simp only [Bool.and_eq_true, nbeq] at h0
          obtain ⟨⟨⟨hp, hm⟩, ho⟩, hn⟩ := h0
          have hp := Nat.le_of_ble_eq_true hp
          cases hx with
          | pagg vs _ hs' hr =>
            refine whole _ _ vs c el hg rfl hc hp (by omega) (by omega) ho (fun v hv => ?_) (fun w' hk hw' => .pc ds vs el hw' hs' (fun j y x h1 h2 => (hr j y x h1 h2).mono (fun _ h => h) hk))
            obtain ⟨j, hj⟩ := Array.getElem?_of_mem hv
            have hj' := (Array.getElem?_eq_some_iff.1 hj).1
            exact (hr j v ds[j] hj (List.getElem?_eq_getElem (by omega))).one
        · rename_i l'
          obtain ⟨h0, h⟩ := cond_some_none h
          cases h
          simp only [Bool.and_eq_true, nbeq] at h0
          obtain ⟨⟨⟨hp, hm⟩, ho⟩, hn⟩ := h0
          have hp := Nat.le_of_ble_eq_true hp
          cases hx with
          | agg vs _ hs' hr h1 =>
            exact whole _ _ vs c el hg rfl hc hp (by omega) (by omega) ho h1 (fun w' hk hw' => .vs l' vs el hw' hs' (fun j y x h1 h2 => (hr j y x h1 h2).mono (fun _ h => h) hk (fun _ _ h => h)) h1)
        · obtain ⟨h0, h⟩ := cond_some_none h
          simp only [Bool.and_eq_true, nbeq] at h0
          obtain ⟨⟨h1, hz⟩, hlt⟩ := h0
          have hlt := Nat.le_of_ble_eq_true hlt
          cases h
          have hone := oneV h1 hx
          obtain ⟨s1, s2, s3⟩ := set_heap (o := off) hc ux
          have hk : ∀ b, ro b → (w.setCell ⟨bt.b, off, none⟩ ux).heap[b]? = w.heap[b]? := fun b hb => s2 b (fun e => by subst e; exact hs.dis _ (hown rfl) hb)
          obtain ⟨k1', k2⟩ := wr_ok hs hH hg hbt (w' := w.setCell ⟨bt.b, off, none⟩ ux) rfl rfl rfl s3 s2 (b' := .vs (vl.set off x))
            (.vs _ _ el s1 (by simp; omega) (fun j y x' hy hx' => by
              by_cases e : j = off
              · subst e
                rw [Array.getElem?_setIfInBounds_self_of_lt (by omega)] at hy
                rw [List.getElem?_set_self (by omega)] at hx'
                cases hy; cases hx'
                exact hx.mono (fun _ h => h) hk (fun _ _ h => h)
              · rw [Array.getElem?_setIfInBounds_ne (Ne.symm e)] at hy
                rw [List.getElem?_set_ne (Ne.symm e)] at hx'
                exact (hcr j y x' hy hx').mono (fun _ h => h) hk (fun _ _ h => h))
              (fun y hy => by
                obtain ⟨j, hj⟩ := Array.getElem?_of_mem hy
                by_cases e : j = off
                · subst e
                  rw [Array.getElem?_setIfInBounds_self_of_lt (by omega)] at hj
                  cases hj; exact hone
                · rw [Array.getElem?_setIfInBounds_ne (Ne.symm e)] at hj
                  exact hcn _ (Array.mem_of_getElem? hj))) (H' := upd hh (Slot.wr (.cell off x)) H) (fun i => get_wr hg _ i)
          exact .skip (storeAt_skip (run_storeVar_one hz hc (by omega) hone)) k1' k2
      · simp at h
  · rename_i hh i off
    cases ha with
    | eptr _ _ _ bt hbt =>
      split at h
      · rename_i sz es hg
        obtain ⟨h0, h⟩ := cond_some_none h
        simp only [Bool.and_eq_true, nbeq] at h0
        obtain ⟨⟨h1, hz⟩, hlt⟩ := h0
        have hlt := Nat.le_of_ble_eq_true hlt
        obtain ⟨cs, hcs0, h⟩ := Option.bind_eq_some_iff.1 h
        obtain ⟨rr, hr0, h⟩ := Option.bind_eq_some_iff.1 h
        obtain ⟨hno, h⟩ := cond_none_some h
        cases h
        have hone := oneV h1 hx
        obtain ⟨p1, p2⟩ := (pur_ok hH 40).1 _ _ _ hr0
        obtain ⟨ro1, Own1, hH1, st1, k1⟩ := frzs_ok rr.2 hs hH p1
        have hrep := p2 ux hx ro1 st1.grow k1
        have hg1 : get (appAll (frzs rr.2) H) hh = some (.live (.arr sz es) false) := by rw [get_frzs _ _ (not_any hno)]; exact hg
        obtain ⟨t1, ht1, hB1, _, hown1⟩ := hH1.live _ _ _ hg1
        rw [hbt] at ht1; cases ht1
        cases hB1 with
        | arr _ c el hc hcs hn hcap hzz hcr =>
          have hi := (List.getElem?_eq_some_iff.1 hcs0).1
          have hlen := hzz i cs hcs0
          have hbd : i * bt.sz + off < c.size := by
            rw [hcs]
            have : (i + 1) * bt.sz ≤ bt.cap * bt.sz := Nat.mul_le_mul_right _ (by omega)
            rw [Nat.add_mul] at this
            omega
          obtain ⟨s1, s2, s3⟩ := set_heap (o := i * bt.sz + off) hc ux
          have hk : ∀ b, ro1 b → (w.setCell ⟨bt.b, i * bt.sz + off, none⟩ ux).heap[b]? = w.heap[b]? := fun b hb => s2 b (fun e => by subst e; exact st1.dis _ (hown1 rfl) hb)
          obtain ⟨k1', k2⟩ := wr_ok st1.sane hH1 hg1 hbt (w' := w.setCell ⟨bt.b, i * bt.sz + off, none⟩ ux) rfl rfl rfl s3 s2 (b' := .arr bt.sz (es.modify i fun cs => cs.set off rr.1))
            (.arr _ _ el s1 (by simp [hcs]) (by simp [hn]) hcap (fun i' cs' h' => by
              rw [List.getElem?_modify] at h'
              obtain ⟨cs2, h2, rfl⟩ := Option.map_eq_some_iff.1 h'
              have := hzz i' cs2 h2
              split <;> simp [this]) (fun i' j cs' y x' he hx' hy => by
              rw [List.getElem?_modify] at he
              obtain ⟨cs2, h2, rfl⟩ := Option.map_eq_some_iff.1 he
              have hl2 := hzz i' cs2 h2
              by_cases e : i = i'
              · subst e
                rw [hcs0] at h2; cases h2
                simp only [if_true] at hx'
                by_cases e2 : j = off
                · subst e2
                  rw [List.getElem?_set_self (by omega)] at hx'
                  rw [Array.getElem?_setIfInBounds_self_of_lt (by omega)] at hy
                  cases hy; cases hx'
                  exact hrep.mono (fun _ h => h) hk
                · rw [List.getElem?_set_ne (Ne.symm e2)] at hx'
                  rw [Array.getElem?_setIfInBounds_ne (by omega)] at hy
                  exact (hcr i j _ y x' hcs0 hx' hy).mono (fun _ h => h) hk
              · simp only [e, if_false] at hx'
                have hj := (List.getElem?_eq_some_iff.1 hx').1
                have hne : i * bt.sz + off ≠ i' * bt.sz + j := by
                  intro e3
                  have e4 : (i * bt.sz + off) / bt.sz = i := by
                    rw [Nat.mul_comm, Nat.mul_add_div (by omega), Nat.div_eq_of_lt (by omega)]; omega
                  have e5 : (i' * bt.sz + j) / bt.sz = i' := by
                    rw [Nat.mul_comm, Nat.mul_add_div (by omega), Nat.div_eq_of_lt (by omega)]; omega
                  rw [e3, e5] at e4
                  exact e e4.symm
                rw [Array.getElem?_setIfInBounds_ne hne] at hy
                exact (hcr i' j _ y x' h2 hx' hy).mono (fun _ h => h) hk)) (H' := upd hh (Slot.wr (.elem i off rr.1)) (appAll (frzs rr.2) H)) (fun i => get_wr hg1 _ i)
          rw [appAll_append]
          exact .skip (storeAt_skip (run_storeVar_one hz hc hbd hone)) k1' (st1.trans hs k2)
      · simp at h
  · simp at h
end
end Go.Proofs.Ytbhojnofdeihdaa.E
