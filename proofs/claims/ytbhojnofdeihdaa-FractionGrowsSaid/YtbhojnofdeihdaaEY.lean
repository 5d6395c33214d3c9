/- What is shown here: conversions, structs and slices built, appends, and so every operation that is no call. -/
import Derived.Test.YtbhojnofdeihdaaEX
import Derived.Deep.AppendSrc
import Derived.Laws.AppendOwn
import Derived.Great.FillDense
import Derived.Lib.ConvBytes
namespace Go.Proofs.Ytbhojnofdeihdaa.E
open Go.RowKit
set_option autoImplicit false
set_option linter.unusedVariables false
set_option linter.unusedSimpArgs false
section
variable {P : Program} {ro : Set} {w : World} {β : Tab} {L : Option Nat} {H : Heap} {Own : Set}

theorem OStp.ext_ro (hs : Sane ro w Own) {w' : World} (b : Nat) (hb : w.heap.size ≤ b) (hb' : b < w'.heap.size) (h1 : w'.os = w.os) (h2 : w'.tape = w.tape) (h3 : w'.output = w.output) (h4 : w.heap.size ≤ w'.heap.size)
    (h5 : ∀ x, x < w.heap.size → w'.heap[x]? = w.heap[x]?) : OStp ro w β Own (fun x => ro x ∨ x = b) w' β Own :=
  ⟨h1, h2, h3, h4, fun _ => .inl, fun x hx => h5 x (hs.bound x (.inl hx)), fun x hx _ => h5 x hx, fun x hx => hx.elim .inl (fun e => .inr (.inr (by omega))), fun x hx => .inl hx,
   fun x hx => by
    rcases hx with (hx | hx) | hx
    · have := hs.bound x (.inl hx); omega
    · omega
    · have := hs.bound x (.inr hx); omega,
   fun x hx hr => by
    rcases hr with hr | hr
    · exact hs.dis x hx hr
    · have := hs.bound x (.inr hx); omega, fun _ _ h => h, fun l rec hl => ⟨rec, by rw [h5 l (Array.getElem?_eq_some_iff.1 hl).1]; exact hl, rfl⟩⟩
theorem convK_ok (hs : Sane ro w Own) (hH : RepH ro w β L H Own) {s t : TypeId} {x v : V} {u : Value} (hu : RepV ro w β L u x) (h : convK P s t x some = some v) :
    OutOK ro w β L Own ((do pure (Next.value (← convert s t u)) : Sem Next).run P w) v H := by
  unfold convK at h
  split at h
  · rename_i d k j n hd1 hd2
    obtain rfl := rep_int hu
    cases h
    refine OutOK.pure hs hH (u := .int k (k.wrap n)) ?_ (.c _ _ (.int _ _))
    unfold convert
    simp only [Sem.run_bind, run_underlying hd1, run_underlying hd2, Result.andThen_ok]
    rfl
  · rename_i d s hd1 hd2
    obtain rfl := rep_str hu
    cases h
    refine OutOK.pure hs hH (u := .string s) ?_ (.c _ _ (.str _))
    unfold convert
    simp only [Sem.run_bind, run_underlying hd1, run_underlying hd2, Result.andThen_ok]
    cases d <;> rfl
  · rename_i d e s hd1 hd2
    obtain rfl := rep_str hu
    split at h
    · rename_i he
      cases h
      have hrun := Lib.run_convert_string_bytes (P := P) w _ t e s hd1 hd2 he
      have hst := OStp.ext_ro (β := β) hs (w' := Lib.bytesWorld w e s) w.heap.size (Nat.le_refl _) (by rw [Lib.bytesWorld_size]; omega) rfl rfl rfl (by rw [Lib.bytesWorld_size]; omega) (fun x hx => Lib.bytesWorld_at_old w e s x hx)
      refine ⟨_, _, _, β, Own, by simp only [Sem.run_bind, hrun, Result.andThen_ok, Sem.run_pure]; rfl, .inl ⟨_, rfl, .c _ _ ?_⟩, hH.step hst.grow hst.keep (fun x hx => Lib.bytesWorld_at_old w e s x (hs.bound x (.inr hx))), hst⟩
      have hlen : (bytesC s).length = s.size := by simp [bytesC]
      rw [← hlen]
      refine .sl _ _ _ 1 (by rw [hlen]; exact grownCap_ge w _ _ _) (fun _ => ⟨_, _, rfl, .inr rfl⟩) (fun i cs hi => ?_) (fun i j => .int .u8 (s.data.toList.getD i 0).toNat) (fun i j cs x hi hj b o hbo => ?_) (fun i j cs x hi hj => ?_)
      · unfold bytesC at hi
        rw [List.getElem?_map] at hi
        obtain ⟨y, _, rfl⟩ := Option.map_eq_some_iff.1 hi
        rfl
      · cases hbo
        have hil := (List.getElem?_eq_some_iff.1 hi).1
        unfold bytesC at hi
        rw [List.getElem?_map] at hi
        obtain ⟨y, hy, rfl⟩ := Option.map_eq_some_iff.1 hi
        have hj0 : j = 0 := by have := (List.getElem?_eq_some_iff.1 hj).1; simp at this; exact this
        subst hj0
        rw [show 0 + i * 1 + 0 = i by omega]
        exact Lib.bytesWorld_cell w e s i (by omega)
      · unfold bytesC at hi
        rw [List.getElem?_map] at hi
        obtain ⟨y, hy, rfl⟩ := Option.map_eq_some_iff.1 hi
        have hj0 : j = 0 := by have := (List.getElem?_eq_some_iff.1 hj).1; simp at this; exact this
        subst hj0
        cases hj
        simp only [List.getD, hy, Option.getD_some]
        exact .int _ _
    · simp at h
  · simp at h

/-! ### structs and arrays -/
theorem run_places {fs : Array Field} : ∀ (l : List Field), (∀ f ∈ l, ∃ i, P.info? f.type = some i) → (l.mapM (fun f => do pure (f.offset, ← sizeOf f.type) : Field → Sem (Nat × Nat))).run P w = .ok (l.map fun f => (f.offset, szT P f.type)) w := by
  intro l
  induction l with
  | nil => intro _; rfl
  | cons f l ih =>
    intro h
    obtain ⟨i, hi⟩ := h f (by simp)
    rw [List.mapM_cons]
    simp only [Sem.run_bind, run_sz hi, Result.andThen_ok, Sem.run_pure, ih (fun g hg => h g (by simp [hg])), List.map_cons]
theorem fillV_ok (place : Nat → Option (Nat × Nat)) : ∀ (ps : List (Nat × V)) (us : List (Nat × Value)) (cells l : List V) (cs : Array Value), ps.length = us.length →
    (∀ (j : Nat) (p : Nat × V) (u : Nat × Value), ps[j]? = some p → us[j]? = some u → u.1 = p.1 ∧ RepV ro w β L u.2 p.2) →
    cs.size = cells.length → (∀ (j : Nat) (y : Value) (x : V), cs[j]? = some y → cells[j]? = some x → RepV ro w β L y x) → (∀ y ∈ cs, y.oneCell' = true) → fillV place cells ps = some l →
    ∃ cs', Instr.fill place cs us = some cs' ∧ cs'.size = l.length ∧ (∀ (j : Nat) (y : Value) (x : V), cs'[j]? = some y → l[j]? = some x → RepV ro w β L y x) ∧ (∀ y ∈ cs', y.oneCell' = true) := by
  intro ps
  induction ps with
  | nil =>
    intro us cells l cs hl _ h1 h2 h3 h
    obtain rfl : us = [] := List.length_eq_zero_iff.1 hl.symm
    simp only [fillV] at h; cases h
    exact ⟨cs, rfl, h1, h2, h3⟩
  | cons p ps ih =>
    intro us cells l cs hl hr h1 h2 h3 h
    obtain ⟨i, v⟩ := p
    cases us with
    | nil => simp at hl
    | cons u us =>
      obtain ⟨i', uv⟩ := u
      obtain ⟨hi, hv⟩ := hr 0 _ _ rfl rfl
      simp only at hi hv
      subst hi
      simp only [fillV] at h
      split at h
      · rename_i off size vl hp hc
        obtain ⟨hb, h⟩ := cond_some_none h
        simp only [Bool.and_eq_true, nbeq] at hb
        obtain ⟨hb1, hb2⟩ := hb
        have hb2 := Nat.le_of_ble_eq_true hb2
        obtain ⟨c1, c2, c3⟩ := cellsV_ok hv hc
        obtain ⟨g1, g2⟩ := Great.foldl_set off uv.cells.toList 0 cs
        have hfold : (uv.cells.zipIdx.foldl (fun cs (c, j) => cs.setIfInBounds (off + j) c) cs) = ((uv.cells.toList.zipIdx 0).foldl (fun cs (x : Value × Nat) => cs.setIfInBounds (off + x.2) x.1) cs) := by
          rw [← Array.foldl_toList, Array.toList_zipIdx]
        have hlen : uv.cells.toList.length = vl.length := by simpa using c1
        have hnew : ∀ (j : Nat) (y : Value), ((uv.cells.toList.zipIdx 0).foldl (fun cs (x : Value × Nat) => cs.setIfInBounds (off + x.2) x.1) cs)[j]? = some y →
            (off ≤ j ∧ j < off + vl.length ∧ uv.cells[j - off]? = some y) ∨ ((j < off ∨ off + vl.length ≤ j) ∧ cs[j]? = some y) := fun j y hy => by
          rw [g2] at hy
          split at hy
          · rename_i hc'
            rw [Nat.add_zero, Array.getElem?_toList] at hy
            exact .inl ⟨by omega, by omega, hy⟩
          · rename_i hc'
            have := (Array.getElem?_eq_some_iff.1 hy).1
            exact .inr ⟨by omega, hy⟩
        obtain ⟨cs', k1, k2, k3, k4⟩ := ih us _ l (uv.cells.zipIdx.foldl (fun cs (c, j) => cs.setIfInBounds (off + j) c) cs) (by simpa using hl)
          (fun j p u hp hu => hr (j + 1) p u (by simpa using hp) (by simpa using hu))
          (by rw [hfold, g1]; simp; omega)
          (fun j y x hy hx => by
            rw [hfold] at hy
            rcases hnew j y hy with ⟨e1, e2, e3⟩ | ⟨e1, e3⟩
            · rw [List.append_assoc, List.getElem?_append_right (by simp; omega), List.length_take, List.getElem?_append_left (by omega), Nat.min_eq_left (by omega)] at hx
              exact c2 _ y x e3 hx
            · rcases e1 with e1 | e1
              · rw [List.append_assoc, List.getElem?_append_left (by simp; omega), List.getElem?_take, if_pos e1] at hx
                exact h2 j y x e3 hx
              · rw [List.getElem?_append_right (by simp; omega), List.length_append, List.length_take, List.getElem?_drop, Nat.min_eq_left (by omega)] at hx
                rw [show off + size + (j - (off + vl.length)) = j by omega] at hx
                exact h2 j y x e3 hx)
          (fun y hy => by
            rw [hfold] at hy
            obtain ⟨j, hj⟩ := Array.getElem?_of_mem hy
            rcases hnew j y hj with ⟨e1, e2, e3⟩ | ⟨e1, e3⟩
            · exact c3 y (Array.mem_of_getElem? e3)
            · exact h3 y (Array.mem_of_getElem? e3)) h
        refine ⟨cs', ?_, k2, k3, k4⟩
        unfold Instr.fill
        simp only [hp]
        rw [if_neg (by simp; omega)]
        exact k1
      · simp at h

theorem build_ok (hs : Sane ro w Own) (hH : RepH ro w β L H Own) {t : TypeId} {parts : Array (Nat × Operand)} {ρ : Operand → V} {ρr : Operand → Value} (hρ : ∀ x, RepV ro w β L (ρr x) (ρ x)) (hbt : buildT P t = true) {z l : List V} (hz : zeroT P t = some z)
    (hl : fillV (placeS P t) z (parts.toList.map fun p => (p.1, ρ p.2)) = some l) :
    OutOK ro w β L Own ((do pure (Next.value (← Instr.build t (parts.map fun (i, x) => (i, ρr x)))) : Sem Next).run P w) (.agg l) H := by
  obtain ⟨zv, z1, z2, z3, z4⟩ := zero_cells hz
  obtain ⟨cs', k1, k2, k3, k4⟩ := fillV_ok (ro := ro) (w := w) (β := β) (L := L) (placeS P t) _ (parts.map fun (i, x) => (i, ρr x)).toList z l zv.cells (by simp) (fun j p u hp hu => by
    rw [List.getElem?_map] at hp
    obtain ⟨q, hq, rfl⟩ := Option.map_eq_some_iff.1 hp
    rw [Array.getElem?_toList, Array.getElem?_map, ← Array.getElem?_toList, hq] at hu
    cases hu
    exact ⟨rfl, hρ _⟩) z2 (fun j y x h1 h2 => z4 _ _ _ _ j y x h1 h2) z3 hl
  refine OutOK.pure hs hH (u := .agg cs') ?_ (.agg _ _ k2 k3 k4)
  unfold buildT at hbt
  unfold Instr.build
  split at hbt
  · rename_i fs hd
    have hpl : placeS P t = ((fs.map fun f => (f.offset, szT P f.type))[·]?) := by
      funext i
      unfold placeS
      rw [hd]
      simp
    rw [hpl] at k1
    have hm := run_places (P := P) (w := w) (fs := fs) fs.toList (fun f hf => by
      rw [List.all_eq_true] at hbt
      exact sz_info (Nat.le_of_ble_eq_true (hbt f hf)))
    have hm' : (fs.mapM (fun f => do pure (f.offset, ← sizeOf f.type) : Field → Sem (Nat × Nat))).run P w = .ok (fs.map fun f => (f.offset, szT P f.type)) w := by
      rw [Array.mapM_eq_mapM_toList]
      simp only [Sem.run_map, hm, Result.andThen_ok]
      congr 1
      apply Array.ext'
      simp
    simp only [Sem.run_bind, run_zero z1, Result.andThen_ok, run_underlying hd, hm', k1, Sem.run_pure]
  · rename_i n e hd
    have hpl : placeS P t = fun i => some (i * szT P e, szT P e) := by
      funext i
      unfold placeS
      rw [hd]
    rw [hpl] at k1
    obtain ⟨ie, hie⟩ := sz_info (Nat.le_of_ble_eq_true hbt)
    simp only [Sem.run_bind, run_zero z1, Result.andThen_ok, run_underlying hd, run_sz hie, k1, Sem.run_pure]
  · simp at hbt
/-! ### slices -/
theorem Rep.cells1 {v : Value} {x : C} (h : Rep ro w v x) : v.cells = #[v] := by cases h <;> rfl
theorem elemC_ok (hH : RepH ro w β L H Own) {v : V} {r : List C × List Nat} (h : elemC H v = some r) : (∀ h ∈ r.2, ∃ b z, get H h = some (.live b z)) ∧
    ∀ (u : Value), RepV ro w β L u v → ∀ ro' : Set, (∀ b, ro b → ro' b) → (∀ h ∈ r.2, ∀ t, β h = some t → ro' t.b) → r.1.length = elemN v ∧ u.cells.size = r.1.length ∧ ∀ (j : Nat) (y : Value) (x : C), u.cells[j]? = some y → r.1[j]? = some x → Rep ro' w y x := by
  unfold elemC at h
  split at h
  · cases h
    refine ⟨by simp, fun u hu ro' hr _ => ?_⟩
    cases hu with
    | pagg vs cs hs hr0 => exact ⟨rfl, hs, fun j y x h1 h2 => (hr0 j y x h1 h2).mono hr (fun _ _ => rfl)⟩
  · rename_i l
    obtain ⟨p1, p2⟩ := (pur_ok hH 40).2 _ _ _ h
    have hlen := purs_length 40 l r h
    refine ⟨p1, fun u hu ro' hr hl => ?_⟩
    cases hu with
    | agg vs _ hs hr0 hn =>
      refine ⟨hlen, by show vs.size = _; omega, fun j y x h1 h2 => ?_⟩
      have hj := (List.getElem?_eq_some_iff.1 h2).1
      have hj' : j < l.length := by omega
      exact p2 ro' hr hl j l[j] x y (List.getElem?_eq_getElem hj') h2 (hr0 j y _ h1 (List.getElem?_eq_getElem hj'))
  · rename_i h1 h2
    obtain ⟨a, ha, h⟩ := Option.bind_eq_some_iff.1 h
    cases h
    obtain ⟨p1, p2⟩ := (pur_ok hH 40).1 _ _ _ ha
    refine ⟨p1, fun u hu ro' hr hl => ?_⟩
    have hrep := p2 u hu ro' hr hl
    have h1' := hrep.one
    have hc : u.cells = #[u] := hrep.cells1
    refine ⟨?_, by rw [hc]; rfl, fun j y x h1 h2 => ?_⟩
    · cases v <;> first | rfl | (exfalso; simp [pur] at ha)
    · rw [hc] at h1
      cases j with
      | zero => simp at h1 h2; subst h1 h2; exact hrep
      | succ j => simp at h2
theorem elemsC_ok (hH : RepH ro w β L H Own) {sz : Nat} : ∀ (ps : List (Nat × V)) (i0 : Nat) (r : List (List C) × List Nat), elemsC H sz i0 ps = some r → (∀ h ∈ r.2, ∃ b z, get H h = some (.live b z)) ∧ r.1.length = ps.length ∧ (∀ (j : Nat) (p : Nat × V), ps[j]? = some p → p.1 = i0 + j) ∧
    ∀ ro' : Set, (∀ b, ro b → ro' b) → (∀ h ∈ r.2, ∀ t, β h = some t → ro' t.b) → ∀ (i : Nat) (p : Nat × V) (cs : List C) (u : Value), ps[i]? = some p → r.1[i]? = some cs → RepV ro w β L u p.2 →
      cs.length = sz ∧ u.cells.size = sz ∧ ∀ (j : Nat) (y : Value) (x : C), u.cells[j]? = some y → cs[j]? = some x → Rep ro' w y x := by
  intro ps
  induction ps with
  | nil => intro i0 r h; simp only [elemsC] at h; cases h; exact ⟨by simp, rfl, by simp, by simp⟩
  | cons p ps ih =>
    intro i0 r h
    obtain ⟨j0, v⟩ := p
    simp only [elemsC] at h
    obtain ⟨hc, h⟩ := cond_some_none h
    simp only [Bool.and_eq_true, nbeq] at hc
    obtain ⟨a, ha, h⟩ := Option.bind_eq_some_iff.1 h
    obtain ⟨b, hb, h⟩ := Option.bind_eq_some_iff.1 h
    cases h
    obtain ⟨a1, a2⟩ := elemC_ok hH ha
    obtain ⟨b1, b2, b3, b4⟩ := ih _ _ hb
    refine ⟨fun h hh => (List.mem_append.1 hh).elim (a1 h) (b1 h), by simp [b2], fun j p hp => ?_, fun ro' hr hl i p cs u hp hcs hu => ?_⟩
    · cases j with
      | zero => simp at hp; subst hp; simp [← hc.1]
      | succ j => simp at hp; have := b3 j p hp; omega
    · cases i with
      | zero =>
        simp at hp hcs; subst hp hcs
        obtain ⟨e1, e2, e3⟩ := a2 u hu ro' hr (fun h hh => hl h (by simp [hh]))
        exact ⟨by rw [e1]; exact hc.2, by rw [e2, e1]; exact hc.2, e3⟩
      | succ i =>
        simp at hp hcs
        exact b4 ro' hr (fun h hh => hl h (by simp [hh])) i p cs u hp hcs hu
theorem buildSlice_ok (hs : Sane ro w Own) (hH : RepH ro w β L H Own) {d : Nat} (hdn : get H d = none) {t e : TypeId} (hd : P.underlying t = some (.slice e)) {parts : Array (Nat × Operand)} {ρ : Operand → V} {ρr : Operand → Value} (hρ : ∀ x, RepV ro w β L (ρr x) (ρ x))
    {len : Nat} (hn : len = parts.size) (h24 : len * szT P e ≤ 16777216) (hp : 0 < szT P e) (hz : (zeroT P e).isSome = true) {r : List (List C) × List Nat} (hr : elemsC H (szT P e) 0 (parts.toList.map fun p => (p.1, ρ p.2)) = some r) :
    OutOK ro w β L Own ((do pure (Next.value (← Instr.buildSlice t len (parts.map fun (i, x) => (i, ρr x)))) : Sem Next).run P w) (.own d len (szT P e)) (appAll (frzs r.2 ++ [.new d (.arr (szT P e) r.1)]) H) := by
  obtain ⟨p1, p2, p3, p4⟩ := elemsC_ok hH _ _ _ hr
  obtain ⟨ro1, Own1, hH1, st1, k1⟩ := frzs_ok r.2 hs hH p1
  have p4 := p4 ro1 st1.grow k1
  obtain ⟨zl, hzl⟩ := Option.isSome_iff_exists.1 hz
  obtain ⟨zv, z1, z2, z3, z4⟩ := zero_cells hzl
  obtain ⟨ie, hie⟩ := sz_info hp
  have plen : (parts.toList.map fun p => (p.1, ρ p.2)).length = len := by simp [hn]
  have hvs : (parts.map fun (i, x) => (i, ρr x)).toList = (((parts.toList.map fun p => ρr p.2).zipIdx 0).map fun x => (x.2, x.1)) := by
    apply List.ext_getElem?
    intro i
    simp only [Array.toList_map, List.getElem?_map, List.getElem?_zipIdx]
    cases hq : parts.toList[i]? with
    | none => rfl
    | some q =>
      have := p3 i (q.1, ρ q.2) (by rw [List.getElem?_map, hq]; rfl)
      simp only [Option.map_some, Nat.zero_add] at this ⊢
      rw [this]
  have hcs : ∀ v ∈ (parts.toList.map fun p => ρr p.2), v.cells.size = szT P e := fun v hv => by
    obtain ⟨q, hq, rfl⟩ := List.mem_map.1 hv
    obtain ⟨i, hi⟩ := List.getElem?_of_mem hq
    have hil := (List.getElem?_eq_some_iff.1 hi).1
    have hri : i < r.1.length := by rw [p2]; simp at hil ⊢; omega
    exact (p4 i (q.1, ρ q.2) r.1[i] (ρr q.2) (by rw [List.getElem?_map, hi]; rfl) (List.getElem?_eq_getElem hri) (hρ _)).2.1
  have hfill := Great.fill_whole hp (parts.toList.map fun p => ρr p.2) ((Array.range (len * szT P e)).map (fun i => (if len * szT P e = 0 then (#[] : Array Value) else zv.cells)[i % (if len * szT P e = 0 then (#[] : Array Value) else zv.cells).size]!)) hcs (by simp [hn])
  rw [← hvs] at hfill
  have hrun : ((do pure (Next.value (← Instr.buildSlice t len (parts.map fun (i, x) => (i, ρr x)))) : Sem Next).run P w) =
      .ok (.value (.slice (some ⟨w.heap.size, 0, none⟩) len len)) (w.alloc (.cells ((parts.toList.map fun p => ρr p.2).flatMap fun v => v.cells.toList).toArray e (0, 0))) := by
    unfold Instr.buildSlice newRow
    simp only [Sem.run_bind, run_underlying hd, Result.andThen_ok, run_sz hie]
    rw [if_neg (by omega)]
    by_cases h0 : len * szT P e = 0
    · simp only [h0, if_true] at hfill ⊢
      simp only [Sem.run_bind, Sem.run_pure, Result.andThen_ok, hfill, run_newObj]
      rfl
    · simp only [h0, if_false] at hfill ⊢
      simp only [Sem.run_bind, Sem.run_pure, Result.andThen_ok, run_zero z1, hfill, run_newObj]
      rfl
  have hnew := heap_alloc_new w (.cells ((parts.toList.map fun p => ρr p.2).flatMap fun v => v.cells.toList).toArray e (0, 0))
  have hd1 : get (appAll (frzs r.2) H) d = none := by
    have hne : ∀ i ∈ r.2, i ≠ d := fun i hi e => by subst e; obtain ⟨b, z, hg⟩ := p1 _ hi; rw [hdn] at hg; cases hg
    rw [get_frzs _ _ hne]; exact hdn
  have hlenr : r.1.length = len := by rw [p2]; exact plen
  obtain ⟨β', Own', hH', hst, hβd⟩ := new_ok st1.sane hH1 hd1 (.cells ((parts.toList.map fun p => ρr p.2).flatMap fun v => v.cells.toList).toArray e (0, 0)) { b := w.heap.size, n := len, cap := len, sz := szT P e } rfl (.arr (szT P e) r.1) w rfl rfl rfl rfl (fun β' _ _ => by
    refine .arr (t := { b := w.heap.size, n := len, cap := len, sz := szT P e }) r.1 _ e hnew ?_ hlenr.symm (Nat.le_refl _) (fun i cs hi => ?_) (fun i j cs v x hi hj hv => ?_)
    · have : ∀ l : List Value, (∀ v ∈ l, v.cells.size = szT P e) → (l.flatMap fun v => v.cells.toList).length = l.length * szT P e := by
        intro l
        induction l with
        | nil => intro _; simp
        | cons v l ih => intro h; simp only [List.flatMap_cons, List.length_append, Array.length_toList, h v (by simp), ih (fun u hu => h u (by simp [hu])), List.length_cons, Nat.add_mul]; omega
      simp only [List.size_toArray]
      rw [this _ hcs]
      simp [hn]
    · have hil := (List.getElem?_eq_some_iff.1 hi).1
      have hip : i < (parts.toList.map fun p => (p.1, ρ p.2)).length := by omega
      obtain ⟨q, hq⟩ : ∃ q, parts.toList[i]? = some q := ⟨_, List.getElem?_eq_getElem (by simpa using hip)⟩
      exact (p4 i (q.1, ρ q.2) cs (ρr q.2) (by rw [List.getElem?_map, hq]; rfl) hi (hρ _)).1
    · have hil := (List.getElem?_eq_some_iff.1 hi).1
      have hip : i < (parts.toList.map fun p => (p.1, ρ p.2)).length := by omega
      obtain ⟨q, hq⟩ : ∃ q, parts.toList[i]? = some q := ⟨_, List.getElem?_eq_getElem (by simpa using hip)⟩
      obtain ⟨g1, g2, g3⟩ := p4 i (q.1, ρ q.2) cs (ρr q.2) (by rw [List.getElem?_map, hq]; rfl) hi (hρ _)
      have hjl := (List.getElem?_eq_some_iff.1 hj).1
      simp only [List.getElem?_toArray] at hv
      rw [Great.flat_get hp _ hcs] at hv
      have e1 : (i * szT P e + j) / szT P e = i := by rw [Nat.mul_comm, Nat.mul_add_div hp, Nat.div_eq_of_lt (by omega)]; omega
      have e2 : (i * szT P e + j) % szT P e = j := by rw [Nat.mul_comm, Nat.mul_add_mod, Nat.mod_eq_of_lt (by omega)]
      rw [e1, e2, List.getElem?_map, hq] at hv
      exact (g3 j v x hv hj).mono (fun _ h => h) (fun b hb => keepOld st1.sane rfl _ b hb))
  rw [appAll_append]
  exact ⟨_, _, ro1, β', Own', hrun, .inl ⟨_, rfl, .own d _ hβd⟩, hH', st1.trans hs hst⟩

/-! ### appends -/
theorem setCells_heap {b : Nat} {el : TypeId} : ∀ (vs : List Value) (off : Nat) (w : World) (c : Array Value), w.heap[b]? = some (.cells c el (0, 0)) → off + vs.length ≤ c.size →
    ∃ c', (w.setCells b off vs).heap[b]? = some (.cells c' el (0, 0)) ∧ c'.size = c.size ∧ (∀ k, k < off → c'[k]? = c[k]?) ∧ (∀ k, k < vs.length → c'[off + k]? = vs[k]?) ∧ (∀ x, x ≠ b → (w.setCells b off vs).heap[x]? = w.heap[x]?) ∧
      (w.setCells b off vs).heap.size = w.heap.size ∧ (w.setCells b off vs).os = w.os ∧ (w.setCells b off vs).tape = w.tape ∧ (w.setCells b off vs).output = w.output := by
  intro vs
  induction vs with
  | nil => exact fun off w c h _ => ⟨c, h, rfl, fun _ _ => rfl, fun k hk => by simp at hk, fun _ _ => rfl, rfl, rfl, rfl, rfl⟩
  | cons v vs ih =>
    intro off w c h hle
    simp only [List.length_cons] at hle
    obtain ⟨s1, s2, s3⟩ := set_heap (o := off) h v
    obtain ⟨c', r1, r2, r3, r4, r5, r6, r7, r8, r9⟩ := ih (off + 1) (w.setCell ⟨b, off, none⟩ v) _ s1 (by simp; omega)
    refine ⟨c', r1, by simpa using r2, fun k hk => ?_, fun k hk => ?_, fun x hx => (r5 x hx).trans (s2 x hx), r6.trans s3, r7, r8, r9⟩
    · rw [r3 k (by omega), Array.getElem?_setIfInBounds_ne (by omega)]
    · cases k with
      | zero => rw [Nat.add_zero, r3 off (by omega), Array.getElem?_setIfInBounds_self_of_lt (by omega)]; rfl
      | succ k => rw [show off + (k + 1) = off + 1 + k by omega, r4 k (by simpa using hk)]; rfl
theorem src_cells {sz : Nat} (hp : 0 < sz) {es : List (List C)} (hall : ∀ (i : Nat) (cs : List C), es[i]? = some cs → cs.length = sz) (b o : Nat)
    (hc : ∀ (i j : Nat) (cs : List C) (x : C), es[i]? = some cs → cs[j]? = some x → ∃ u, w.cell? ⟨b, o + i * sz + j, none⟩ = some u ∧ Rep ro w u x) :
    ∃ news : List Value, news.length = es.length * sz ∧ (∀ j u, news[j]? = some u → w.cell? ((⟨b, o, none⟩ : Addr).add j) = some u) ∧ (∀ u ∈ news, u.oneCell' = true) ∧
      ∀ (i j : Nat) (cs : List C) (x : C), es[i]? = some cs → cs[j]? = some x → ∃ u, news[i * sz + j]? = some u ∧ Rep ro w u x := by
  have key : ∀ k, k < es.length * sz → ∃ u, w.cell? ⟨b, o + k, none⟩ = some u ∧ ∀ cs x, es[k / sz]? = some cs → cs[k % sz]? = some x → Rep ro w u x := fun k hk => by
    have hi : k / sz < es.length := (Nat.div_lt_iff_lt_mul hp).2 hk
    have hj : k % sz < sz := Nat.mod_lt _ hp
    have hl := hall _ _ (List.getElem?_eq_getElem hi)
    obtain ⟨u, h1, h2⟩ := hc (k / sz) (k % sz) _ _ (List.getElem?_eq_getElem hi) (List.getElem?_eq_getElem (by omega))
    have e : k / sz * sz + k % sz = k := by rw [Nat.mul_comm]; exact Nat.div_add_mod k sz
    rw [Nat.add_assoc, e] at h1
    refine ⟨u, h1, fun cs x h3 h4 => ?_⟩
    rw [List.getElem?_eq_getElem hi] at h3
    cases h3
    rw [List.getElem?_eq_getElem (by omega)] at h4
    cases h4
    exact h2
  obtain ⟨f, hf⟩ := choose_fun (p := fun k u => w.cell? ⟨b, o + k, none⟩ = some u ∧ ∀ cs x, es[k / sz]? = some cs → cs[k % sz]? = some x → Rep ro w u x) undef (fun k => k < es.length * sz) key
  have get : ∀ k u, ((List.range (es.length * sz)).map f)[k]? = some u → k < es.length * sz ∧ u = f k := fun k u h => by
    rw [List.getElem?_map] at h
    obtain ⟨k', hk', rfl⟩ := Option.map_eq_some_iff.1 h
    have := (List.getElem?_eq_some_iff.1 hk').1
    rw [List.getElem?_range (by simpa using this)] at hk'
    cases hk'
    exact ⟨by simpa using this, rfl⟩
  refine ⟨(List.range (es.length * sz)).map f, by simp, fun j u h => ?_, fun u hu => ?_, fun i j cs x hi hj => ?_⟩
  · obtain ⟨h1, rfl⟩ := get j u h
    rw [add_none]; exact (hf j h1).1
  · obtain ⟨k, hk⟩ := List.getElem?_of_mem hu
    obtain ⟨h1, rfl⟩ := get k u hk
    have hi : k / sz < es.length := (Nat.div_lt_iff_lt_mul hp).2 h1
    have hl := hall _ _ (List.getElem?_eq_getElem hi)
    have hj : k % sz < sz := Nat.mod_lt _ hp
    exact ((hf k h1).2 _ _ (List.getElem?_eq_getElem hi) (List.getElem?_eq_getElem (by omega))).one
  · have hil := (List.getElem?_eq_some_iff.1 hi).1
    have hl := hall i cs hi
    have hjl := (List.getElem?_eq_some_iff.1 hj).1
    have hk : i * sz + j < es.length * sz := by
      have : (i + 1) * sz ≤ es.length * sz := Nat.mul_le_mul_right _ (by omega)
      rw [Nat.add_mul] at this
      omega
    refine ⟨f (i * sz + j), by rw [List.getElem?_map, List.getElem?_range hk]; rfl, (hf _ hk).2 cs x ?_ ?_⟩
    · have e1 : (i * sz + j) / sz = i := by rw [Nat.mul_comm, Nat.mul_add_div hp, Nat.div_eq_of_lt (by omega)]; omega
      rw [e1]; exact hi
    · have e2 : (i * sz + j) % sz = j := by rw [Nat.mul_comm, Nat.mul_add_mod, Nat.mod_eq_of_lt (by omega)]
      rw [e2]; exact hj
theorem srcC_ok (hH : RepH ro w β L H Own) {x : V} {src : List (List C) × List Nat} (h : srcC H x = some src) {ux : Value} (hx : RepV ro w β L ux x) {sz : Nat} (hp : 0 < sz) (hall : allSz sz src.1 = true) {tx e' : TypeId} (hk : P.underlying tx = some (.slice e')) :
    ∃ news : List Value, Src P sz tx ux src.1.length news w ∧ ∀ (i j : Nat) (cs : List C) (x : C), src.1[i]? = some cs → cs[j]? = some x → ∃ u, news[i * sz + j]? = some u ∧ Rep ro w u x := by
  have nilSrc : ∀ (base : Option Addr) (cap : Nat), Src P sz tx (.slice base 0 cap) 0 [] w := fun base cap => by
    cases base with
    | none => exact Src.ofNil w hk cap
    | some a => exact Src.ofSlice w hk a 0 cap [] (by simp) (by simp) (by simp)
  unfold srcC at h
  split at h
  · rename_i es
    cases h
    have hx := repC hx
    cases hx with
    | sl base _ cap sz' hc hb hz val hv hr =>
      by_cases hne : es = []
      · subst hne
        exact ⟨[], nilSrc base cap, by simp⟩
      · obtain ⟨b, o, rfl, hro⟩ := hb hne
        have hsz : sz' = sz := by
          obtain ⟨y, ys, rfl⟩ := List.exists_cons_of_ne_nil hne
          exact (hz 0 y rfl).symm.trans (allSz_ok hall (i := 0) rfl)
        subst hsz
        obtain ⟨news, n1, n2, n3, n4⟩ := src_cells (w := w) (ro := ro) hp hz b o (fun i j cs x hi hj => ⟨_, hv i j cs x hi hj b o rfl, hr i j cs x hi hj⟩)
        exact ⟨news, Src.ofSlice w hk _ _ _ news n1 n2 n3, n4⟩
  · cases h
    cases hx with
    | nsl => exact ⟨[], nilSrc none 0, by simp⟩
  · split at h
    · rename_i hh _ _ _ es z hg
      cases h
      cases hx with
      | own _ bt hbt =>
        obtain ⟨t0, ht0, hB, _⟩ := hH.live _ _ _ hg
        rw [hbt] at ht0; cases ht0
        cases hB with
        | arr _ c el hc hcs hn hcap hz hr =>
          by_cases hne : es = []
          · subst hne
            have : bt.n = 0 := by simpa using hn
            rw [this]
            exact ⟨[], nilSrc _ _, by simp⟩
          · have hsz : bt.sz = sz := by
              obtain ⟨y, ys, rfl⟩ := List.exists_cons_of_ne_nil hne
              exact (hz 0 y rfl).symm.trans (allSz_ok hall (i := 0) rfl)
            obtain ⟨news, n1, n2, n3, n4⟩ := src_cells (w := w) (ro := ro) hp (fun i cs hi => (hz i cs hi).trans hsz) bt.b 0 (fun i j cs x hi hj => by
              have hlt : i * bt.sz + j < c.size := by
                have h1 := (List.getElem?_eq_some_iff.1 hi).1
                have h2 := (List.getElem?_eq_some_iff.1 hj).1
                have h3 := hz i cs hi
                have : (i + 1) * bt.sz ≤ bt.cap * bt.sz := Nat.mul_le_mul_right _ (by omega)
                rw [Nat.add_mul] at this
                omega
              obtain ⟨u, hu⟩ : ∃ u, c[i * bt.sz + j]? = some u := ⟨_, Array.getElem?_eq_getElem hlt⟩
              refine ⟨u, ?_, hr i j cs u x hi hj hu⟩
              rw [cells_cell hc, Nat.zero_add, ← hsz]; exact hu)
            rw [hn]
            exact ⟨news, Src.ofSlice w hk _ _ _ news n1 n2 n3, n4⟩
    · simp at h
  · simp at h
/-- A block that no live handle stands for is taken under a new one. -/
theorem adopt_ok (hs : Sane ro w Own) (hH : RepH ro w β L H Own) {d : Nat} (hd : get H d = none) (t : Bt) (b : Blk) (hno : ∀ h b' z t', get H h = some (.live b' z) → β h = some t' → t'.b ≠ t.b)
    (hB : ∀ β', (∀ h t, β h = some t → β' h = some t) → β' d = some t → RepB ro w β' L t b) :
    ∃ β', RepH ro w β' L (ins d (.live b false) H) (fun x => Own x ∨ x = t.b) ∧ (∀ h t, β h = some t → β' h = some t) ∧ β' d = some t := by
  have hdn : β d = none := hH.free d hd
  have hsub : ∀ h t', β h = some t' → (fun h => if h = d then some t else β h) h = some t' := fun h t' ht' => by
    by_cases e : h = d
    · rw [e, hdn] at ht'; simp at ht'
    · simp only [e, if_false]; exact ht'
  refine ⟨fun h => if h = d then some t else β h, ⟨fun h hh => ?_, fun h b' z hg => ?_, fun h h' b1 z b2 z' t1 t2 hne h1 h2 h3 h4 => ?_, fun x hx => ?_⟩, hsub, if_pos rfl⟩
  · rw [get_ins] at hh
    split at hh
    · simp at hh
    · next e => simp only [e, if_false]; exact hH.free h hh
  · rw [get_ins] at hg
    split at hg
    · next e => cases hg; exact ⟨t, if_pos e, hB _ hsub (if_pos rfl), fun e => by simp at e, fun _ => .inr rfl⟩
    · next e =>
      obtain ⟨t', ht', hB', h1, h2⟩ := hH.live h b' z hg
      exact ⟨t', by simp only [e, if_false]; exact ht', hB'.mono (fun _ h => h) (fun _ _ => rfl) hsub rfl, h1, fun e => .inl (h2 e)⟩
  · rw [get_ins] at h1 h2
    split at h1
    · next e =>
      rw [if_neg (fun e' => hne (e.trans e'.symm))] at h2
      simp only [e, if_true] at h3
      rw [if_neg (fun e' => hne (e.trans e'.symm))] at h4
      cases h3
      exact (hno h' b2 z' t2 h2 h4).symm
    · next e =>
      simp only [e, if_false] at h3
      split at h2
      · next e' =>
        simp only [e', if_true] at h4
        cases h4
        exact hno h b1 z t1 h1 h3
      · next e' =>
        simp only [e', if_false] at h4
        exact hH.inj h h' b1 z b2 z' t1 t2 hne h1 h2 h3 h4
  · rcases hx with hx | hx
    · obtain ⟨h, bl, t', h1, h2, h3⟩ := hH.own x hx
      have hne : h ≠ d := fun e => by rw [e, hd] at h1; simp at h1
      exact ⟨h, bl, t', by rw [get_ins, if_neg hne]; exact h1, by simp only [hne, if_false]; exact h2, h3⟩
    · exact ⟨d, b, t, by rw [get_ins, if_pos rfl], if_pos rfl, hx.symm⟩
theorem builtin_run {u : Value} {w' : World} {s : Sem Value} (h : s.run P w = .ok u w') : ((do pure (Next.value (← s)) : Sem Next).run P w) = .ok (.value u) w' := by
  simp only [Sem.run_bind, h, Result.andThen_ok, Sem.run_pure]
theorem appendK_ok (hs : Sane ro w Own) (hH : RepH ro w β L H Own) {d : Nat} {st tx ty e' : TypeId} (hkx : P.underlying tx = some (.slice e')) {s x v : V} {r : List Rd} {l : List Dl} {us ux : Value} (hus : RepV ro w β L us s) (hux : RepV ro w β L ux x)
    (h : appendK P H d st s x (fun v r l => some (v, r, l)) = some (v, r, l)) :
    OutOK ro w β L Own ((do pure (Next.value (← Builtin.append_ #[st, tx] ty #[us, ux])) : Sem Next).run P w) v (appAll l H) := by
  unfold appendK at h
  split at h
  · rename_i e hd
    obtain ⟨src, hsrc, h⟩ := Option.bind_eq_some_iff.1 h
    split at h
    · rename_i hh n z _
      split at h
      · rename_i sz es hg hgd
        obtain ⟨hc, h⟩ := cond_some_none h
        cases h
        simp only [Bool.and_eq_true, nbeq, decide_eq_true_eq] at hc
        obtain ⟨⟨⟨⟨⟨hsz, hp⟩, hall⟩, hzs⟩, hzl⟩, hmost⟩ := hc
        have hp := Nat.le_of_ble_eq_true hp
        have hmost : (n + src.1.length) * (bytesT P e + 1) ≤ 70368744177664 := hmost
        subst hsz
        obtain ⟨ie, hie⟩ := sz_info hp
        have hsize : ie.size = szT P e := by unfold szT; rw [hie]; rfl
        have hbytes : ie.bytes = bytesT P e := by unfold bytesT; rw [hie]; rfl
        obtain ⟨news, hS, hnews⟩ := srcC_ok hH hsrc hux hp hall hkx
        cases hus with
        | own _ bt hbt =>
          obtain ⟨t0, ht0, hB, _, hown⟩ := hH.live _ _ _ hg
          rw [hbt] at ht0; cases ht0
          have hob := hown rfl
          have hlt := hH.bound hg hbt
          generalize hzz : szT P e = sz at *
          cases hB with
          | arr _ c el hcc hcs hn hcap hz hr =>
            have hle1 : (bt.n + src.1.length) * 1 ≤ (bt.n + src.1.length) * (bytesT P e + 1) := Nat.mul_le_mul_left _ (by omega)
            have hle2 : (bt.n + src.1.length) * bytesT P e ≤ (bt.n + src.1.length) * (bytesT P e + 1) := Nat.mul_le_mul_left _ (by omega)
            obtain ⟨k1, k2⟩ := kill_ok hs hH hg hbt
            have hd1 : get (upd hh (fun _ => Slot.dead) H) d = none := by
              rw [get_upd]
              split
              · next e => rw [e, hg] at hgd; cases hgd
              · exact hgd
            have hoff : bt.n * bt.sz + news.length ≤ (bt.n + src.1.length) * bt.sz := by rw [hS.newsLen, Nat.add_mul]; exact Nat.le_refl _
            by_cases hroom : bt.n + src.1.length ≤ bt.cap
            · -- in place
              have hfit : bt.n * bt.sz + news.length ≤ c.size := by rw [hcs]; exact Nat.le_trans hoff (Nat.mul_le_mul_right _ hroom)
              have hcell : ∀ j, j < c.size → w.cell? ⟨bt.b, j, none⟩ = some (c.getD j undef) := fun j hj => by rw [cells_cell hcc]; simp [Array.getD, hj]
              have hrun := run_append_room_src (P := P) w st tx ty e ie hd hie bt.b 0 bt.n bt.cap ux src.1.length news (by rw [hsize]; exact hS) hroom
                (fun j hj => by rw [hsize, Nat.zero_add, hcell _ (by omega)]; rfl) (fun j hj => frozen_no hcc)
              rw [hsize, Nat.zero_add] at hrun
              obtain ⟨c', r1, r2, r3, r4, r5, r6, r7, r8, r9⟩ := setCells_heap news (bt.n * bt.sz) w c hcc hfit
              have hkro : ∀ b, ro b → (w.setCells bt.b (bt.n * bt.sz) news).heap[b]? = w.heap[b]? := fun b hb => r5 b (fun e => by subst e; exact hs.dis _ hob hb)
              have hH2 := k1.step (ro' := ro) (w' := w.setCells bt.b (bt.n * bt.sz) news) (fun _ h => h) hkro (fun b hb => r5 b hb.2)
              have hs2 : Sane ro (w.setCells bt.b (bt.n * bt.sz) news) (fun x => Own x ∧ x ≠ bt.b) := ⟨fun b hb => by rw [r6]; exact hs.bound b (hb.imp id And.left), fun b hb => hs.dis b hb.1⟩
              obtain ⟨β', a1, a2, a3⟩ := adopt_ok hs2 hH2 hd1 { b := bt.b, n := bt.n + src.1.length, cap := bt.cap, sz := bt.sz } (.arr bt.sz (es ++ src.1)) (fun h' b' z' t' g1 g2 => by
                have hne : h' ≠ hh := fun e => by rw [e, get_upd, if_pos rfl, hg] at g1; cases g1
                rw [get_upd, if_neg hne] at g1
                exact hH.inj h' hh b' z' _ _ t' bt hne g1 hg g2 hbt) (fun β' _ _ => by
                refine .arr (t := { b := bt.b, n := bt.n + src.1.length, cap := bt.cap, sz := bt.sz }) _ c' el r1 (by rw [r2]; exact hcs) (by simp [hn]) hroom (fun i cs hi => ?_) (fun i j cs v x hi hj hv => ?_)
                · by_cases hil : i < es.length
                  · rw [List.getElem?_append_left hil] at hi; exact hz i cs hi
                  · rw [List.getElem?_append_right (by omega)] at hi; exact allSz_ok hall hi
                · by_cases hil : i < es.length
                  · rw [List.getElem?_append_left hil] at hi
                    have hjl := (List.getElem?_eq_some_iff.1 hj).1
                    have hl := hz i cs hi
                    have hk : i * bt.sz + j < bt.n * bt.sz := by
                      have : (i + 1) * bt.sz ≤ bt.n * bt.sz := Nat.mul_le_mul_right _ (by omega)
                      rw [Nat.add_mul] at this
                      omega
                    simp only at hv
                    rw [r3 _ hk] at hv
                    exact (hr i j cs v x hi hj hv).mono (fun _ h => h) hkro
                  · rw [List.getElem?_append_right (by omega)] at hi
                    obtain ⟨u, hu1, hu2⟩ := hnews _ j cs x hi hj
                    have hk := (List.getElem?_eq_some_iff.1 hu1).1
                    simp only at hv
                    have e1 : i * bt.sz + j = bt.n * bt.sz + ((i - es.length) * bt.sz + j) := by
                      rw [hn]
                      have : i = es.length + (i - es.length) := by omega
                      conv => lhs; rw [this, Nat.add_mul]
                      omega
                    rw [e1, r4 _ hk, hu1] at hv
                    cases hv
                    exact hu2.mono (fun _ h => h) hkro)
              refine ⟨_, _, ro, β', _, builtin_run hrun, .inl ⟨_, rfl, .own d _ a3⟩, a1, ⟨r7, r8, r9, by omega, fun _ h => h, hkro, fun b hb hno => r5 b (fun e => by subst e; exact hno hob), fun b hb => .inl hb, fun b hb => .inl (hb.elim And.left (fun e => by rw [e]; exact hob)), fun b hb => ?_, fun b hb hrb => ?_, a2, fun l rec hl => ⟨rec, by rw [r5 l (fun e => by rw [e, hcc] at hl; cases hl)]; exact hl, rfl⟩⟩⟩
              · rw [r6]
                rcases hb with hb | hb | hb
                · exact hs.bound b (.inl hb)
                · exact hs.bound b (.inr hb.1)
                · rw [hb]; exact hlt
              · rcases hb with hb | hb
                · exact hs.dis b hb.1 hrb
                · rw [hb] at hrb; exact hs.dis _ hob hrb
            · -- a new row
              have holds : ∀ j v, (c.toList.take (bt.n * bt.sz))[j]? = some v → w.cell? ((⟨bt.b, 0, none⟩ : Addr).add j) = some v := fun j v hv => by
                rw [List.getElem?_take] at hv
                split at hv
                · rw [add_none, cells_cell hcc, Nat.zero_add]; simpa using hv
                · simp at hv
              have hnc : bt.n * bt.sz ≤ c.size := by rw [hcs]; exact Nat.mul_le_mul_right _ hcap
              have holdl : (c.toList.take (bt.n * bt.sz)).length = bt.n * bt.sz := by simp; omega
              have hf := run_firstCells_some (P := P) w.drew ie.size bt.n ⟨bt.b, 0, none⟩ bt.n bt.cap (c.toList.take (bt.n * bt.sz)) (by rw [hsize]; exact holdl) (by simpa using holds)
              obtain ⟨zl, hzl'⟩ := Option.isSome_iff_exists.1 hzs
              obtain ⟨zv, z1, z2, z3, z4⟩ := zero_cells hzl'
              rw [hzl'] at hzl
              simp only [Option.getD_some] at hzl
              have hzv : ie.zero = some zv := by rw [hie] at z1; exact z1
              have hrun := run_append_grow_src (P := P) w st tx ty e ie zv hd hie hzv (some ⟨bt.b, 0, none⟩) bt.n bt.cap _ hf ux src.1.length news (by rw [hsize]; exact hS) (by omega) (by omega) (growslice_fits (by omega) (by rw [hbytes]; omega))
              have hge := grownCap_ge w (bt.n + src.1.length) bt.cap e
              have hsz2 : (((c.toList.take (bt.n * bt.sz)) ++ news).toArray ++ Builtin.zeroCells zv.cells (grownCap w (bt.n + src.1.length) bt.cap e - (bt.n + src.1.length))).size = grownCap w (bt.n + src.1.length) bt.cap e * bt.sz := by
                simp only [Array.size_append, List.size_toArray, List.length_append, holdl, hS.newsLen, size_zeroCells, z2, hzl]
                rw [← Nat.add_mul, ← Nat.add_mul]
                congr 1
                omega
              have hnew := heap_alloc_new w.drew (.cells (((c.toList.take (bt.n * bt.sz)) ++ news).toArray ++ Builtin.zeroCells zv.cells (grownCap w (bt.n + src.1.length) bt.cap e - (bt.n + src.1.length))) e (0, 0))
              have hkeep : ∀ b, ro b → (w.drew.alloc (.cells (((c.toList.take (bt.n * bt.sz)) ++ news).toArray ++ Builtin.zeroCells zv.cells (grownCap w (bt.n + src.1.length) bt.cap e - (bt.n + src.1.length))) e (0, 0))).heap[b]? = w.heap[b]? := fun b hb => keepOld (w0 := w.drew) hs rfl _ b hb
              obtain ⟨β', Own', a1, a2, a3⟩ := new_ok k2.sane k1 hd1 (.cells (((c.toList.take (bt.n * bt.sz)) ++ news).toArray ++ Builtin.zeroCells zv.cells (grownCap w (bt.n + src.1.length) bt.cap e - (bt.n + src.1.length))) e (0, 0))
                { b := w.heap.size, n := bt.n + src.1.length, cap := grownCap w (bt.n + src.1.length) bt.cap e, sz := bt.sz } rfl (.arr bt.sz (es ++ src.1)) w.drew rfl rfl rfl rfl (fun β' _ _ => by
                refine .arr (t := { b := w.heap.size, n := bt.n + src.1.length, cap := grownCap w (bt.n + src.1.length) bt.cap e, sz := bt.sz }) _ _ e hnew hsz2 (by simp [hn]) hge (fun i cs hi => ?_) (fun i j cs v x hi hj hv => ?_)
                · by_cases hil : i < es.length
                  · rw [List.getElem?_append_left hil] at hi; exact hz i cs hi
                  · rw [List.getElem?_append_right (by omega)] at hi; exact allSz_ok hall hi
                · simp only at hv
                  by_cases hil : i < es.length
                  · rw [List.getElem?_append_left hil] at hi
                    have hjl := (List.getElem?_eq_some_iff.1 hj).1
                    have hl := hz i cs hi
                    have hk : i * bt.sz + j < bt.n * bt.sz := by
                      have : (i + 1) * bt.sz ≤ bt.n * bt.sz := Nat.mul_le_mul_right _ (by omega)
                      rw [Nat.add_mul] at this
                      omega
                    rw [Array.getElem?_append_left (by simp only [List.size_toArray, List.length_append, holdl]; omega), List.getElem?_toArray, List.getElem?_append_left (by omega), List.getElem?_take, if_pos hk, Array.getElem?_toList] at hv
                    exact (hr i j cs v x hi hj hv).mono (fun _ h => h) hkeep
                  · rw [List.getElem?_append_right (by omega)] at hi
                    obtain ⟨u, hu1, hu2⟩ := hnews _ j cs x hi hj
                    have hk := (List.getElem?_eq_some_iff.1 hu1).1
                    have e1 : i * bt.sz + j = bt.n * bt.sz + ((i - es.length) * bt.sz + j) := by
                      rw [hn]
                      have : i = es.length + (i - es.length) := by omega
                      conv => lhs; rw [this, Nat.add_mul]
                      omega
                    rw [e1, Array.getElem?_append_left (by simp only [List.size_toArray, List.length_append, holdl]; omega), List.getElem?_toArray, List.getElem?_append_right (by omega), holdl, Nat.add_sub_cancel_left, hu1] at hv
                    cases hv
                    exact hu2.mono (fun _ h => h) hkeep)
              exact ⟨_, _, ro, β', Own', builtin_run hrun, .inl ⟨_, rfl, .own d _ a3⟩, a1, k2.trans hs a2⟩
      · simp at h
    · split at h
      · rename_i hgd
        obtain ⟨hc, h⟩ := cond_some_none h
        cases h
        simp only [Bool.and_eq_true, nbeq, decide_eq_true_eq] at hc
        obtain ⟨⟨⟨⟨⟨hp, hall⟩, hzs⟩, hzl⟩, hm0⟩, hmost⟩ := hc
        have hp := Nat.le_of_ble_eq_true hp
        have hmost : src.1.length * (bytesT P e + 1) ≤ 70368744177664 := hmost
        obtain ⟨ie, hie⟩ := sz_info hp
        have hsize : ie.size = szT P e := by unfold szT; rw [hie]; rfl
        have hbytes : ie.bytes = bytesT P e := by unfold bytesT; rw [hie]; rfl
        obtain ⟨news, hS, hnews⟩ := srcC_ok hH hsrc hux hp hall hkx
        have hle1 : src.1.length * 1 ≤ src.1.length * (bytesT P e + 1) := Nat.mul_le_mul_left _ (by omega)
        have hle2 : src.1.length * bytesT P e ≤ src.1.length * (bytesT P e + 1) := Nat.mul_le_mul_left _ (by omega)
        cases hus with
        | nsl =>
          have hf := run_firstCells_none (P := P) w.drew ie.size 0 0 0
          obtain ⟨zl, hzl'⟩ := Option.isSome_iff_exists.1 hzs
          obtain ⟨zv, z1, z2, z3, z4⟩ := zero_cells hzl'
          rw [hzl'] at hzl
          simp only [Option.getD_some] at hzl
          have hzv : ie.zero = some zv := by rw [hie] at z1; exact z1
          have hrun := run_append_grow_src (P := P) w st tx ty e ie zv hd hie hzv none 0 0 [] hf ux src.1.length news (by rw [hsize]; exact hS) (by omega) (by omega) (growslice_fits (by omega) (by rw [hbytes, Nat.zero_add]; omega))
          simp only [Nat.zero_add, List.nil_append] at hrun
          have hge := grownCap_ge w src.1.length 0 e
          have hsz2 : (news.toArray ++ Builtin.zeroCells zv.cells (grownCap w src.1.length 0 e - src.1.length)).size = grownCap w src.1.length 0 e * szT P e := by
            simp only [Array.size_append, List.size_toArray, hS.newsLen, size_zeroCells, z2, hzl]
            rw [← Nat.add_mul]
            congr 1
            omega
          have hnew := heap_alloc_new w.drew (.cells (news.toArray ++ Builtin.zeroCells zv.cells (grownCap w src.1.length 0 e - src.1.length)) e (0, 0))
          have hkeep : ∀ b, ro b → (w.drew.alloc (.cells (news.toArray ++ Builtin.zeroCells zv.cells (grownCap w src.1.length 0 e - src.1.length)) e (0, 0))).heap[b]? = w.heap[b]? := fun b hb => keepOld (w0 := w.drew) hs rfl _ b hb
          obtain ⟨β', Own', a1, a2, a3⟩ := new_ok hs hH hgd (.cells (news.toArray ++ Builtin.zeroCells zv.cells (grownCap w src.1.length 0 e - src.1.length)) e (0, 0))
            { b := w.heap.size, n := src.1.length, cap := grownCap w src.1.length 0 e, sz := szT P e } rfl (.arr (szT P e) src.1) w.drew rfl rfl rfl rfl (fun β' _ _ => by
            refine .arr (t := { b := w.heap.size, n := src.1.length, cap := grownCap w src.1.length 0 e, sz := szT P e }) _ _ e hnew hsz2 rfl hge (fun i cs hi => allSz_ok hall hi) (fun i j cs v x hi hj hv => ?_)
            simp only at hv
            obtain ⟨u, hu1, hu2⟩ := hnews _ j cs x hi hj
            have hk := (List.getElem?_eq_some_iff.1 hu1).1
            rw [Array.getElem?_append_left (by simpa using hk), List.getElem?_toArray, hu1] at hv
            cases hv
            exact hu2.mono (fun _ h => h) hkeep)
          exact ⟨_, _, ro, β', Own', builtin_run hrun, .inl ⟨_, rfl, .own d _ a3⟩, a1, a2⟩
      · simp at h
    · simp at h
  · simp at h

/-! ### the other builtins -/
theorem run_len {t : TypeId} {u : Value} {d : TypeDesc} {n : Int} (ty : TypeId) (hd : P.underlying t = some d) (h : match d, u with
    | .string, .string s => n = s.size
    | .slice _, .slice _ m _ => n = m
    | _, _ => False) : (Builtin.len_ #[t] ty #[u]).run P w = .ok (.int .i64 n) w := by
  unfold Builtin.len_
  simp only [List.getElem?_toArray, List.getElem?_cons_zero, Sem.run_bind, run_underlying hd, Result.andThen_ok]
  split at h
  · subst h; rfl
  · subst h; rfl
  · exact h.elim
theorem foldMax_ok (op : Builtin) (f : Value → Value → Sem Value) (hf : ∀ (k : IntKind) (a b : Int) (w : World), (f (.int k a) (.int k b)).run P w = .ok (.int k (maxI op a b)) w) : ∀ (l : List V) (v r : V) (u : Value) (us : List Value), foldMax op v l = some r → RepV ro w β L u v → us.length = l.length →
    (∀ (j : Nat) (y : Value) (x : V), us[j]? = some y → l[j]? = some x → RepV ro w β L y x) → ∃ u', (us.foldlM f u).run P w = .ok u' w ∧ RepV ro w β L u' r := by
  intro l
  induction l with
  | nil =>
    intro v r u us h hu hl _
    obtain rfl : us = [] := List.length_eq_zero_iff.1 hl
    cases v <;> simp only [foldMax, Option.some.injEq] at h <;> subst h <;> exact ⟨u, rfl, hu⟩
  | cons x l ih =>
    intro v r u us h hu hl hr
    cases us with
    | nil => simp at hl
    | cons y us =>
      unfold foldMax at h
      split at h
      · rename_i heq; simp at heq
      · rename_i k a j b l' heq
        cases heq
        split at h
        · next e =>
          subst e
          obtain rfl := rep_int hu
          obtain rfl := rep_int (hr 0 y _ rfl rfl)
          obtain ⟨u', h1, h2⟩ := ih _ r (.int k (maxI op a b)) us h (.c _ _ (.int _ _)) (by simpa using hl) (fun j y x h1 h2 => hr (j + 1) y x (by simpa using h1) (by simpa using h2))
          refine ⟨u', ?_, h2⟩
          rw [List.foldlM_cons]
          simp only [Sem.run_bind, hf, Result.andThen_ok, h1]
        · simp at h
      · simp at h
theorem call_builtin (ρr : Operand → Value) (o : Oper) (b : Builtin) (args : Array Operand) (ts : Array TypeId) (ho : o.op = .call { callee := .builtin b, args, argTypes := ts }) :
    (execOp ρr o).run P w = (builtin b ts o.type (args.map fun | .const _ => true | _ => false) (args.map ρr)).run P w := by
  unfold execOp
  rw [ho]
  simp only [resolve, Sem.run_bind, Sem.run_pure, Result.andThen_ok, invoke]
  rfl
theorem builtinK_ok (hs : Sane ro w Own) (hH : RepH ro w β L H Own) {d : Nat} {b : Builtin} {ts : Array TypeId} {ty : TypeId} {cs : Array Bool} {vs : List V} {us : Array Value} {v : V} {r : List Rd} {l : List Dl} (hl : us.size = vs.length)
    (hr : ∀ (j : Nat) (y : Value) (x : V), us[j]? = some y → vs[j]? = some x → RepV ro w β L y x) (h : builtinK P H d b ts vs (fun v r l => some (v, r, l)) = some (v, r, l)) :
    OutOK ro w β L Own ((builtin b ts ty cs us).run P w) v (appAll l H) := by
  unfold builtinK at h
  split at h
  · rename_i x
    split at h
    · rename_i t hts
      obtain rfl : ts = #[t] := by apply Array.ext'; simpa using hts
      obtain ⟨u, rfl⟩ : ∃ u, us = #[u] := by
        obtain ⟨a, rfl⟩ : ∃ a : List Value, us = a.toArray := ⟨us.toList, by simp⟩
        match a, hl with
        | [u], _ => exact ⟨u, rfl⟩
      have hu := hr 0 u x rfl rfl
      split at h
      · rename_i s hd
        cases h
        obtain rfl := rep_str hu
        exact .pure hs hH (builtin_run (run_len ty hd rfl)) (.c _ _ (.int _ _))
      · rename_i e es hd
        cases h
        have hu := repC hu
        cases hu with
        | sl base _ cap sz hc hb hz val hv hr => exact .pure hs hH (builtin_run (run_len ty hd rfl)) (.c _ _ (.int _ _))
      · rename_i e hh n z hd
        cases h
        cases hu with
        | own _ bt hbt => exact .pure hs hH (builtin_run (run_len ty hd rfl)) (.c _ _ (.int _ _))
      · rename_i e hd
        cases h
        cases hu with
        | nsl => exact .pure hs hH (builtin_run (run_len ty hd rfl)) (.c _ _ (.int _ _))
      · simp at h
    · simp at h
  · rename_i s x
    split at h
    · rename_i t tx hts
      obtain rfl : ts = #[t, tx] := by apply Array.ext'; simpa using hts
      obtain ⟨u1, u2, rfl⟩ : ∃ u1 u2, us = #[u1, u2] := by
        obtain ⟨a, rfl⟩ : ∃ a : List Value, us = a.toArray := ⟨us.toList, by simp⟩
        match a, hl with
        | [u1, u2], _ => exact ⟨u1, u2, rfl⟩
      split at h
      · rename_i e' hkx
        exact appendK_ok hs hH hkx (hr 0 _ _ rfl rfl) (hr 1 _ _ rfl rfl) h
      · simp at h
    · simp at h
  · rename_i x xs
    obtain ⟨r', hr', h⟩ := Option.bind_eq_some_iff.1 h
    cases h
    obtain ⟨u1, us', rfl⟩ : ∃ u1 us', us = (u1 :: us').toArray := by
      obtain ⟨a, rfl⟩ : ∃ a : List Value, us = a.toArray := ⟨us.toList, by simp⟩
      match a, hl with
      | u1 :: us', _ => exact ⟨u1, us', rfl⟩
    obtain ⟨u', h1, h2⟩ := foldMax_ok (P := P) .max Builtin.max2 (fun k a b w => rfl) xs x v u1 us' hr' (hr 0 _ _ rfl rfl) (by simpa using hl) (fun j y x h1 h2 => hr (j + 1) y x (by simpa using h1) (by simpa using h2))
    exact .pure hs hH (builtin_run (s := Builtin.max_ ts ty (u1 :: us').toArray) h1) h2
  · rename_i x xs
    obtain ⟨r', hr', h⟩ := Option.bind_eq_some_iff.1 h
    cases h
    obtain ⟨u1, us', rfl⟩ : ∃ u1 us', us = (u1 :: us').toArray := by
      obtain ⟨a, rfl⟩ : ∃ a : List Value, us = a.toArray := ⟨us.toList, by simp⟩
      match a, hl with
      | u1 :: us', _ => exact ⟨u1, us', rfl⟩
    obtain ⟨u', h1, h2⟩ := foldMax_ok (P := P) .min Builtin.min2 (fun k a b w => rfl) xs x v u1 us' hr' (hr 0 _ _ rfl rfl) (by simpa using hl) (fun j y x h1 h2 => hr (j + 1) y x (by simpa using h1) (by simpa using h2))
    exact .pure hs hH (builtin_run (s := Builtin.min_ ts ty (u1 :: us').toArray) h1) h2
  · simp at h

/-- ONE OPERATION. -/
theorem opK_ok (hs : Sane ro w Own) (hH : RepH ro w β L H Own) {ρ : Operand → V} {ρr : Operand → Value} (hρ : ∀ x, RepV ro w β L (ρr x) (ρ x)) {d : Nat} (o : Oper) {v : V} {r : List Rd} {l : List Dl} (h : opK P H ρ d o.op (fun v r l => some (v, r, l)) = some (v, r, l)) :
    OutOK ro w β L Own ((execOp ρr o).run P w) v (appAll l H) := by
  cases hop : o.op with
  | move x => rw [hop] at h; simp only [opK] at h; cases h; exact .pure hs hH (by unfold execOp; rw [hop]; rfl) (hρ x)
  | assign x => rw [hop] at h; simp only [opK] at h; cases h; exact .pure hs hH (by unfold execOp; rw [hop]; rfl) (hρ x)
  | pick c a b =>
    rw [hop] at h; simp only [opK] at h
    split at h
    · rename_i p hp
      have hc := hρ c
      rw [hp] at hc
      have hc := rep_bool hc
      cases p with
      | true => simp only [cond_true] at h; cases h; exact .pure hs hH (by unfold execOp; rw [hop]; simp [hc, asBool]) (hρ a)
      | false => simp only [cond_false] at h; cases h; exact .pure hs hH (by unfold execOp; rw [hop]; simp [hc, asBool]) (hρ b)
    · simp at h
  | alloc t =>
    rw [hop] at h; simp only [opK] at h
    split at h
    · rename_i hg
      obtain ⟨l', hl, h⟩ := Option.bind_eq_some_iff.1 h
      cases h
      unfold execOp; rw [hop]
      exact alloc_ok hs hH hg hl
    · simp at h
  | box t x =>
    rw [hop] at h; simp only [opK] at h
    split at h
    · rename_i hg
      obtain ⟨b, hb, h⟩ := Option.bind_eq_some_iff.1 h
      cases h
      unfold execOp; rw [hop]
      exact box_ok hs hH hg (hρ x) hb t
    · simp at h
  | build t parts =>
    rw [hop] at h; simp only [opK] at h
    obtain ⟨hb, h⟩ := cond_some_none h
    obtain ⟨z, hz, h⟩ := Option.bind_eq_some_iff.1 h
    obtain ⟨l', hl, h⟩ := Option.bind_eq_some_iff.1 h
    cases h
    unfold execOp; rw [hop]
    exact build_ok hs hH hρ hb hz hl
  | buildSlice t len parts =>
    rw [hop] at h; simp only [opK] at h
    split at h
    · rename_i e hd
      split at h
      · rename_i hg
        obtain ⟨hb, h⟩ := cond_some_none h
        simp only [Bool.and_eq_true, nbeq] at hb
        obtain ⟨⟨⟨h1, h2⟩, h3⟩, h4⟩ := hb
        obtain ⟨rr, hr, h⟩ := Option.bind_eq_some_iff.1 h
        cases h
        unfold execOp; rw [hop]
        exact buildSlice_ok hs hH hg hd hρ h1 (Nat.le_of_ble_eq_true h2) (Nat.le_of_ble_eq_true h3) h4 hr
      · simp at h
    · simp at h
  | load t a =>
    rw [hop] at h; simp only [opK] at h
    rw [loadK_bind] at h
    obtain ⟨x, hx, h⟩ := Option.bind_eq_some_iff.1 h
    cases h
    obtain ⟨ad, u, h1, h2, h3⟩ := loadK_ok hH (hρ a) hx
    refine .pure hs hH ?_ h3
    unfold execOp; rw [hop]
    simp only [Instr.loadAt, h1, Instr.sureAddr, Sem.run_bind, Sem.run_pure, Result.andThen_ok, h2]
  | store t a x =>
    rw [hop] at h; simp only [opK] at h
    rw [storeK_bind] at h
    obtain ⟨y, hy, h⟩ := Option.bind_eq_some_iff.1 h
    cases h
    unfold execOp; rw [hop]
    exact storeK_ok hs hH (hρ a) (hρ x) hy
  | nilCheck x =>
    rw [hop] at h; simp only [opK] at h
    have hx := hρ x
    split at h
    · rename_i hp; rw [hp] at hx; cases h
      cases hr : ρr x <;> rw [hr] at hx <;> first | (cases hx; done) | skip
      rename_i a
      cases hx with
      | ptr hh off t ht => exact .pure hs hH (by unfold execOp; rw [hop]; simp only [hr]; rfl) (.ptr _ _ t ht)
    · rename_i hp; rw [hp] at hx; cases h
      cases hr : ρr x <;> rw [hr] at hx <;> first | (cases hx; done) | skip
      rename_i a
      cases hx with
      | eptr hh i off t ht => exact .pure hs hH (by unfold execOp; rw [hop]; simp only [hr]; rfl) (.eptr _ _ _ t ht)
    · rename_i hp; rw [hp] at hx; cases h
      have hx' := repC hx
      cases hr : ρr x <;> rw [hr] at hx' hx <;> first | (cases hx'; done) | skip
      rename_i a
      cases a with
      | none => cases hx'
      | some a => exact .pure hs hH (by unfold execOp; rw [hop]; simp only [hr]; rfl) hx
    · simp at h
  | binOp op t x y yt =>
    rw [hop] at h; simp only [opK] at h
    rw [binK_bind] at h
    obtain ⟨v', hv, h⟩ := Option.bind_eq_some_iff.1 h
    cases h
    obtain ⟨u, h1, h2⟩ := binK_ok x y (hρ x) (hρ y) hv
    refine .pure hs hH ?_ h2
    unfold execOp; rw [hop]
    exact builtin_run h1
  | unOp op t x =>
    rw [hop] at h; simp only [opK] at h
    rw [unK_bind] at h
    obtain ⟨v', hv, h⟩ := Option.bind_eq_some_iff.1 h
    cases h
    obtain ⟨u, h1, h2⟩ := unK_ok (P := P) (hρ x) hv
    refine .pure hs hH ?_ h2
    unfold execOp; rw [hop]
    exact builtin_run h1
  | convert s t x =>
    rw [hop] at h; simp only [opK] at h
    rw [convK_bind] at h
    obtain ⟨v', hv, h⟩ := Option.bind_eq_some_iff.1 h
    cases h
    unfold execOp; rw [hop]
    exact convK_ok hs hH (hρ x) hv
  | makeFunc fn first caps =>
    rw [hop] at h
    cases fn <;> simp only [opK] at h <;> try (simp at h; done)
    rename_i f
    obtain ⟨h0, h⟩ := cond_some_none h
    cases h
    obtain rfl : first = #[] := by simpa using h0
    refine .pure hs hH (u := .func (.func f) #[] (caps.map ρr)) (by unfold execOp; rw [hop]; simp [Instr.makeFunc]) (.clo f _ _ (by simp) (fun j v x h1 h2 => ?_))
    rw [List.getElem?_map] at h2
    obtain ⟨q, hq, rfl⟩ := Option.map_eq_some_iff.1 h2
    rw [Array.getElem?_map, ← Array.getElem?_toList, hq] at h1
    cases h1
    exact hρ q
  | makeMap t rs =>
    rw [hop] at h
    cases rs <;> simp only [opK] at h <;> try (simp at h; done)
    split at h
    · rename_i hg
      cases h
      unfold execOp; rw [hop]
      exact makeMap_ok hs hH hg t
    · simp at h
  | slice t x lo hi mx =>
    rw [hop] at h
    cases mx <;> simp only [opK] at h <;> try (simp at h; done)
    unfold execOp; rw [hop]
    exact sliceK_ok hs hH (hρ x) (ulo := lo.map ρr) (uhi := hi.map ρr) (fun v hv => by obtain ⟨q, rfl, rfl⟩ := Option.map_eq_some_iff.1 hv; exact ⟨_, rfl, hρ q⟩) (fun hv => by rw [Option.map_eq_none_iff] at hv; rw [hv]; rfl)
      (fun v hv => by obtain ⟨q, rfl, rfl⟩ := Option.map_eq_some_iff.1 hv; exact ⟨_, rfl, hρ q⟩) (fun hv => by rw [Option.map_eq_none_iff] at hv; rw [hv]; rfl) h
  | fieldAddr s x f =>
    rw [hop] at h; simp only [opK] at h
    rw [fieldAddrK_bind] at h
    obtain ⟨v', hv, h⟩ := Option.bind_eq_some_iff.1 h
    cases h
    obtain ⟨u, h1, h2⟩ := fieldAddrK_ok (hρ x) hv
    refine .pure hs hH ?_ h2
    unfold execOp; rw [hop]
    exact builtin_run h1
  | field s x f =>
    rw [hop] at h; simp only [opK] at h
    rw [fieldK_bind] at h
    obtain ⟨v', hv, h⟩ := Option.bind_eq_some_iff.1 h
    cases h
    obtain ⟨u, h1, h2⟩ := fieldK_ok (hρ x) hv
    refine .pure hs hH ?_ h2
    unfold execOp; rw [hop]
    exact builtin_run h1
  | indexAddr t x i =>
    rw [hop] at h; simp only [opK] at h
    rw [indexAddrK_bind] at h
    obtain ⟨v', hv, h⟩ := Option.bind_eq_some_iff.1 h
    cases h
    obtain ⟨u, h1, h2⟩ := indexAddrK_ok (hρ x) (hρ i) hv
    refine .pure hs hH ?_ h2
    unfold execOp; rw [hop]
    exact builtin_run h1
  | index t x i =>
    rw [hop] at h; simp only [opK] at h
    rw [indexK_bind] at h
    obtain ⟨v', hv, h⟩ := Option.bind_eq_some_iff.1 h
    cases h
    obtain ⟨u, h1, h2⟩ := indexK_ok (hρ x) (hρ i) hv
    refine .pure hs hH ?_ h2
    unfold execOp; rw [hop]
    exact builtin_run h1
  | lookup t m k ok =>
    rw [hop] at h; simp only [opK] at h
    rw [lookupK_bind] at h
    obtain ⟨x, hx, h⟩ := Option.bind_eq_some_iff.1 h
    cases h
    obtain ⟨u, h1, h2⟩ := lookupK_ok hH (hρ m) (hρ k) hx
    refine .pure hs hH ?_ h2
    unfold execOp; rw [hop]
    exact builtin_run h1
  | mapUpdate t m k x =>
    rw [hop] at h; simp only [opK] at h
    rw [mapUpdateK_bind] at h
    obtain ⟨y, hy, h⟩ := Option.bind_eq_some_iff.1 h
    cases h
    unfold execOp; rw [hop]
    exact mapUpdateK_ok hs hH (hρ m) (hρ k) (hρ x) hy
  | extract t i =>
    rw [hop] at h; simp only [opK] at h
    have ht := hρ t
    split at h
    · rename_i lv hp
      rw [hp] at ht
      split at h
      · rename_i x hx
        cases h
        cases hr : ρr t <;> rw [hr] at ht <;> first | (cases ht; done) | skip
        rename_i vs
        cases ht with
        | tup _ _ hs' hr' =>
          have hi := (List.getElem?_eq_some_iff.1 hx).1
          obtain ⟨u, hu⟩ : ∃ u, vs[i]? = some u := ⟨_, Array.getElem?_eq_getElem (by omega)⟩
          refine .pure hs hH (u := u) ?_ (hr' i u _ hu hx)
          unfold execOp; rw [hop]
          simp only [hr, Instr.extract, hu, Sem.run_bind, Sem.run_pure, Result.andThen_ok]
      · simp at h
    · simp at h
  | call c =>
    obtain ⟨callee, args, ts⟩ := c
    rw [hop] at h
    cases callee <;> simp only [opK] at h <;> try (simp at h; done)
    rename_i b
    rw [call_builtin ρr o b args ts hop]
    exact builtinK_ok hs hH (by simp) (fun j y x h1 h2 => by
      rw [List.getElem?_map] at h2
      obtain ⟨q, hq, rfl⟩ := Option.map_eq_some_iff.1 h2
      rw [Array.getElem?_map, ← Array.getElem?_toList, hq] at h1
      cases h1
      exact hρ q) h
  | _ => rw [hop] at h; simp [opK] at h
end
end Go.Proofs.Ytbhojnofdeihdaa.E
