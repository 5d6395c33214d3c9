/- What is shown here: addresses, parts, look-ups: the machine computes what the evaluator computes. -/
import Derived.Test.YtbhojnofdeihdaaEQ
namespace Go.Proofs.Ytbhojnofdeihdaa.E
open Go.RowKit
set_option autoImplicit false
set_option linter.unusedVariables false
set_option linter.unusedSimpArgs false
section
variable {P : Program} {ro : Set} {w : World} {β : Tab} {L : Option Nat} {H : Heap} {Own : Set}

theorem fieldOff_ok {s : TypeId} {f o : Nat} {ft : TypeId} (h : fieldOff P s f = some (o, ft)) : ∃ fs g, P.underlying s = some (.struct fs) ∧ fs[f]? = some g ∧ g.offset = o ∧ g.type = ft := by
  unfold fieldOff at h
  split at h
  · rename_i fs hd
    obtain ⟨g, hg, h⟩ := Option.map_eq_some_iff.1 h
    cases h
    exact ⟨fs, g, hd, hg, rfl, rfl⟩
  · simp at h
theorem fieldAddrK_ok {s : TypeId} {x v : V} {f : Nat} {u : Value} (hu : RepV ro w β L u x) (h : fieldAddrK P s x f some = some v) :
    ∃ u', (Instr.fieldAt s u f).run P w = .ok u' w ∧ RepV ro w β L u' v := by
  unfold fieldAddrK at h
  split at h
  · rename_i o ft hf
    obtain ⟨fs, g, hd, hg, rfl, rfl⟩ := fieldOff_ok hf
    obtain ⟨hb, h⟩ := cond_none_some h
    have hz : szT P g.type ≠ 0 := fun e => by rw [e] at hb; simp at hb
    obtain ⟨i, hi⟩ := sz_info (Nat.pos_of_ne_zero hz)
    have key : ∀ (b o : Nat), (Instr.fieldAt s (.pointer (some ⟨b, o, none⟩)) f).run P w = .ok (.pointer (some ⟨b, o + g.offset, none⟩)) w := fun b o => by
      unfold Instr.fieldAt
      simp only [Sem.run_bind, run_underlying hd, Result.andThen_ok, hg, Instr.sureAddr, Sem.run_pure]
      unfold fieldPlace
      simp only [Sem.run_bind, run_sz hi, Result.andThen_ok, hz, if_false, Sem.run_pure, add_none]
    split at h
    · cases h
      cases hu with
      | ptr hh off t ht => exact ⟨_, key _ _, .ptr _ _ t ht⟩
    · cases h
      cases hu with
      | eptr hh i off t ht => exact ⟨_, key _ _, by rw [Nat.add_assoc]; exact .eptr _ _ _ t ht⟩
    · cases h
      cases hu with
      | c _ _ hx =>
        cases hx with
        | rp b o _ _ hb' val hv hr => exact ⟨_, key _ _, .c _ _ (by rw [Nat.add_assoc]; exact .rp b o _ _ hb' val hv hr)⟩
    · simp at h
  · simp at h
theorem run_part_one {t : TypeId} {d : TypeDesc} (hd : P.underlying t = some d) (hag : isAggT P t = false) {cs : Array Value} {off : Nat} {v : Value} (h : cs[off]? = some v) : (Go.part t cs off).run P w = .ok v w := by
  unfold Go.part
  simp only [Sem.run_bind, run_isAggT hd, Result.andThen_ok, hag, Bool.false_eq_true, if_false, h]
  rfl
theorem run_part_agg {t : TypeId} (hag : isAggT P t = true) (cs : Array Value) (off : Nat) : (Go.part t cs off).run P w = .ok (.agg (cs.extract off (off + szT P t))) w := by
  obtain ⟨d, hd⟩ := agg_und hag
  obtain ⟨i, hi⟩ := und_info hd
  unfold Go.part
  simp only [Sem.run_bind, run_isAggT hd, Result.andThen_ok, hag, if_true, run_sz hi]
  rfl
theorem mem_extract {vs : Array Value} {i j : Nat} {v : Value} (h : v ∈ vs.extract i j) : v ∈ vs := by
  obtain ⟨k, hk⟩ := Array.getElem?_of_mem h
  rw [Array.getElem?_extract] at hk
  split at hk
  · exact Array.mem_of_getElem? hk
  · simp at hk
theorem fieldK_ok {s : TypeId} {x v : V} {f : Nat} {u : Value} (hu : RepV ro w β L u x) (h : fieldK P s x f some = some v) :
    ∃ u', (Instr.field s u f).run P w = .ok u' w ∧ RepV ro w β L u' v := by
  unfold fieldK at h
  split at h
  · rename_i o ft hf
    obtain ⟨fs, g, hd, hg, rfl, rfl⟩ := fieldOff_ok hf
    have key : ∀ (cs : Array Value) (r : Value), (Go.part g.type cs g.offset).run P w = .ok r w → (Instr.field s (.agg cs) f).run P w = .ok r w := fun cs r hr => by
      unfold Instr.field
      simp only [Sem.run_bind, run_underlying hd, Result.andThen_ok, hg, asAgg, Sem.run_pure]
      exact hr
    split at h
    · rename_i l
      cases hu with
      | agg vs _ hs hr hn =>
        cases hag : isAggT P g.type with
        | true =>
          simp only [hag, cond_true] at h
          obtain ⟨hle, h⟩ := cond_some_none h
          have hle := Nat.le_of_ble_eq_true hle
          cases h
          refine ⟨_, key vs _ (run_part_agg hag vs g.offset), .agg _ _ (by simp; omega) (fun j v x h1 h2 => ?_) (fun v hv => hn v (mem_extract hv))⟩
          rw [List.getElem?_take] at h2
          split at h2
          · rw [List.getElem?_drop] at h2
            rw [Array.getElem?_extract] at h1
            split at h1
            · exact hr _ v x h1 h2
            · simp at h1
          · simp at h2
        | false =>
          simp only [hag, cond_false] at h
          split at h
          · rename_i d y hd' hy
            cases h
            have hj := (List.getElem?_eq_some_iff.1 hy).1
            have h6 : vs[g.offset]? = some vs[g.offset] := Array.getElem?_eq_getElem (by omega)
            exact ⟨_, key vs _ (run_part_one hd' hag h6), hr _ _ _ h6 hy⟩
          · simp at h
    · rename_i n cs
      cases hu with
      | pagg vs _ hs hr =>
        cases hag : isAggT P g.type with
        | true =>
          simp only [hag, cond_true] at h
          obtain ⟨hle, h⟩ := cond_some_none h
          have hle := Nat.le_of_ble_eq_true hle
          cases h
          refine ⟨_, key vs _ (run_part_agg hag vs g.offset), ?_⟩
          have hlen := part_length (sz := szT P g.type) (off := g.offset) (rfl : cs.length = cs.length) hle
          have : RepV ro w β L (.agg (vs.extract g.offset (g.offset + szT P g.type))) (.pagg (part cs.length cs g.offset (szT P g.type)).length (part cs.length cs g.offset (szT P g.type))) := by
            refine .pagg _ _ (by rw [hlen]; simp; omega) (fun j v x h1 h2 => ?_)
            obtain ⟨h3, h4⟩ := part_get rfl h2 hle
            rw [Array.getElem?_extract] at h1
            split at h1
            · exact hr _ v x h1 h4
            · simp at h1
          rwa [hlen] at this
        | false =>
          simp only [hag, cond_false] at h
          obtain ⟨hle, h⟩ := cond_some_none h
          obtain ⟨y, hy, rfl, _, d, hd'⟩ := decT_some h
          have hj := (List.getElem?_eq_some_iff.1 hy).1
          have h6 : vs[g.offset]? = some vs[g.offset] := Array.getElem?_eq_getElem (by omega)
          exact ⟨_, key vs _ (run_part_one hd' hag h6), .c _ _ (hr _ _ _ h6 hy)⟩
    · simp at h
  · simp at h

theorem run_asIntOf (k : IntKind) (n : Int) : (asIntOf (.int k n)).run P w = .ok (k, n) w := rfl
theorem indexAddrK_ok {t : TypeId} {x i v : V} {u ui : Value} (hu : RepV ro w β L u x) (hi : RepV ro w β L ui i) (h : indexAddrK P t x i some = some v) :
    ∃ u', (Instr.indexAt t u ui).run P w = .ok u' w ∧ RepV ro w β L u' v := by
  unfold indexAddrK at h
  split at h
  · rename_i e es k n hd
    obtain rfl := rep_int hi
    obtain ⟨h0, h⟩ := cond_some_none h
    obtain ⟨cs, hcs, h⟩ := Option.bind_eq_some_iff.1 h
    obtain ⟨hl, h⟩ := cond_some_none h
    cases h
    have hl := Nat.eq_of_beq_eq_true hl
    simp only [Bool.and_eq_true, decide_eq_true_eq] at h0
    obtain ⟨hp, h0⟩ := h0
    obtain ⟨ie, hie⟩ := sz_info (Nat.le_of_ble_eq_true hp)
    have hlt := (List.getElem?_eq_some_iff.1 hcs).1
    cases hu with
    | c _ _ hx =>
      cases hx with
      | sl base _ cap sz hc hb hz val hv hr =>
        obtain ⟨b, o, rfl, hro⟩ := hb (fun e' => by rw [e'] at hcs; simp at hcs)
        have hsz : sz = szT P e := (hz _ _ hcs).symm.trans hl
        refine ⟨.pointer (some ⟨b, o + n.toNat * szT P e, none⟩), ?_, .c _ _ ?_⟩
        · unfold Instr.indexAt
          simp only [Sem.run_bind, run_asIntOf, run_underlying hd, Result.andThen_ok, Sem.run_pure]
          rw [if_pos ⟨h0, by omega⟩]
          simp only [Sem.run_bind, run_sz hie, Result.andThen_ok, Sem.run_pure, add_none]
        · have := Rep.rp (ro := ro) (w := w) b (o + n.toNat * szT P e) 0 cs hro (fun j => val n.toNat j) (fun j x hj => by rw [← hsz]; exact hv _ _ _ _ hcs hj _ _ rfl) (fun j x hj => hr _ _ _ _ hcs hj)
          rwa [Nat.add_zero] at this
  · rename_i e hh m z k n hd
    obtain rfl := rep_int hi
    obtain ⟨h0, h⟩ := cond_some_none h
    cases h
    simp only [Bool.and_eq_true, decide_eq_true_eq] at h0
    obtain ⟨⟨⟨hp, hz⟩, h0⟩, h1⟩ := h0
    obtain ⟨ie, hie⟩ := sz_info (Nat.le_of_ble_eq_true hp)
    have hz := Nat.eq_of_beq_eq_true hz
    cases hu with
    | own _ bt hbt =>
      refine ⟨.pointer (some ⟨bt.b, n.toNat * bt.sz + 0, none⟩), ?_, .eptr _ _ _ bt hbt⟩
      unfold Instr.indexAt
      simp only [Sem.run_bind, run_asIntOf, run_underlying hd, Result.andThen_ok, Sem.run_pure]
      rw [if_pos ⟨h0, h1⟩]
      simp only [Sem.run_bind, run_sz hie, Result.andThen_ok, Sem.run_pure, add_none, hz, Nat.zero_add, Nat.add_zero]
  · rename_i m e hh off k n hd
    obtain rfl := rep_int hi
    obtain ⟨h0, h⟩ := cond_some_none h
    cases h
    simp only [Bool.and_eq_true, decide_eq_true_eq] at h0
    obtain ⟨⟨hp, h0⟩, h1⟩ := h0
    obtain ⟨ie, hie⟩ := sz_info (Nat.le_of_ble_eq_true hp)
    cases hu with
    | ptr _ _ bt hbt =>
      refine ⟨.pointer (some ⟨bt.b, off + n.toNat * szT P e, none⟩), ?_, .ptr _ _ bt hbt⟩
      unfold Instr.indexAt
      simp only [Sem.run_bind, run_asIntOf, run_underlying hd, Result.andThen_ok, Sem.run_pure, Instr.sureAddr]
      rw [if_pos ⟨h0, h1⟩]
      simp only [Sem.run_bind, run_sz hie, Result.andThen_ok, Sem.run_pure, add_none]
  · rename_i m e cs off k n hd
    obtain rfl := rep_int hi
    obtain ⟨h0, h⟩ := cond_some_none h
    cases h
    simp only [Bool.and_eq_true, decide_eq_true_eq] at h0
    obtain ⟨⟨hp, h0⟩, h1⟩ := h0
    obtain ⟨ie, hie⟩ := sz_info (Nat.le_of_ble_eq_true hp)
    cases hu with
    | c _ _ hx =>
      cases hx with
      | rp b o _ _ hb' val hv hr =>
        refine ⟨.pointer (some ⟨b, o + off + n.toNat * szT P e, none⟩), ?_, .c _ _ (by rw [Nat.add_assoc]; exact .rp b o _ _ hb' val hv hr)⟩
        unfold Instr.indexAt
        simp only [Sem.run_bind, run_asIntOf, run_underlying hd, Result.andThen_ok, Sem.run_pure, Instr.sureAddr]
        rw [if_pos ⟨h0, h1⟩]
        simp only [Sem.run_bind, run_sz hie, Result.andThen_ok, Sem.run_pure, add_none]
  · simp at h
theorem indexK_ok {t : TypeId} {x i v : V} {u ui : Value} (hu : RepV ro w β L u x) (hi : RepV ro w β L ui i) (h : indexK P t x i some = some v) :
    ∃ u', (Instr.index t u ui).run P w = .ok u' w ∧ RepV ro w β L u' v := by
  unfold indexK at h
  split at h
  · rename_i s k n hd
    obtain rfl := rep_int hi
    obtain rfl := rep_str hu
    obtain ⟨h0, h⟩ := cond_some_none h
    have h0 := of_decide_eq_true h0
    obtain ⟨b, hb, h⟩ := Option.bind_eq_some_iff.1 h
    cases h
    refine ⟨_, ?_, .c _ _ (.int _ _)⟩
    unfold Instr.index
    simp only [Sem.run_bind, run_asIntOf, run_underlying hd, Result.andThen_ok, Sem.run_pure]
    rw [if_pos h0]
    have : s[n.toNat]? = some b := by
      have hl := (List.getElem?_eq_some_iff.1 hb)
      obtain ⟨h1, h2⟩ := hl
      have h1' : n.toNat < s.size := by simpa using h1
      rw [getElem?_pos s n.toNat h1']
      congr 1
    rw [this]
    rfl
  · rename_i m e l k n hd
    obtain rfl := rep_int hi
    obtain ⟨h0, h⟩ := cond_some_none h
    simp only [Bool.and_eq_true, decide_eq_true_eq, Bool.not_eq_true'] at h0
    obtain ⟨⟨h0, h1⟩, hag⟩ := h0
    split at h
    · rename_i d y hd' hy
      cases h
      cases hu with
      | agg vs _ hs hr hn =>
        have hj := (List.getElem?_eq_some_iff.1 hy).1
        obtain ⟨u6, h6⟩ : ∃ u6, vs[n.toNat * szT P e]? = some u6 := ⟨_, Array.getElem?_eq_getElem (by omega)⟩
        obtain ⟨ie, hie⟩ := und_info hd'
        refine ⟨u6, ?_, hr _ _ _ h6 hy⟩
        unfold Instr.index
        simp only [Sem.run_bind, run_asIntOf, run_underlying hd, Result.andThen_ok, Sem.run_pure]
        rw [if_pos ⟨h0, h1⟩]
        simp only [Sem.run_bind, run_sz hie, Result.andThen_ok, run_part_one hd' hag h6]
    · simp at h
  · rename_i m e kk cs k n hd
    obtain rfl := rep_int hi
    obtain ⟨h0, h⟩ := cond_some_none h
    simp only [Bool.and_eq_true, decide_eq_true_eq, Bool.not_eq_true'] at h0
    obtain ⟨⟨⟨h0, h1⟩, hag⟩, hle⟩ := h0
    obtain ⟨y, hy, rfl, _, d, hd'⟩ := decT_some h
    cases hu with
    | pagg vs _ hs hr =>
      have hj := (List.getElem?_eq_some_iff.1 hy).1
      obtain ⟨u6, h6⟩ : ∃ u6, vs[n.toNat * szT P e]? = some u6 := ⟨_, Array.getElem?_eq_getElem (by omega)⟩
      obtain ⟨ie, hie⟩ := und_info hd'
      refine ⟨u6, ?_, .c _ _ (hr _ _ _ h6 hy)⟩
      unfold Instr.index
      simp only [Sem.run_bind, run_asIntOf, run_underlying hd, Result.andThen_ok, Sem.run_pure]
      rw [if_pos ⟨h0, h1⟩]
      simp only [Sem.run_bind, run_sz hie, Result.andThen_ok, run_part_one hd' hag h6]
  · simp at h
end
end Go.Proofs.Ytbhojnofdeihdaa.E
