/- What is shown here: maps written, slices cut, structs and slices built, appends. -/
import Derived.Test.YtbhojnofdeihdaaEW
namespace Go.Proofs.Ytbhojnofdeihdaa.E
open Go.RowKit
set_option autoImplicit false
set_option linter.unusedVariables false
set_option linter.unusedSimpArgs false
section
variable {P : Program} {ro : Set} {w : World} {β : Tab} {L : Option Nat} {H : Heap} {Own : Set}

theorem putObj_heap {r : Nat} (hr : r < w.heap.size) (o : Obj) : ({ w with heap := w.heap.setIfInBounds r o } : World).heap[r]? = some o ∧ (∀ x, x ≠ r → ({ w with heap := w.heap.setIfInBounds r o } : World).heap[x]? = w.heap[x]?) ∧ ({ w with heap := w.heap.setIfInBounds r o } : World).heap.size = w.heap.size := by
  refine ⟨?_, fun x hx => ?_, by simp⟩
  · show (w.heap.setIfInBounds r o)[r]? = _
    rw [Array.getElem?_setIfInBounds_self_of_lt hr]
  · show (w.heap.setIfInBounds r o)[x]? = _
    rw [Array.getElem?_setIfInBounds_ne (Ne.symm hx)]
theorem run_setObj_map {r : Nat} {ents : Array MapEntry} {clock : Nat} (h : w.heap[r]? = some (.map ents clock)) (o : Obj) : (setObj r o).run P w = .ok () { w with heap := w.heap.setIfInBounds r o } := by
  simp [setObj, Sem.run, h]
theorem mapUpdateK_ok (hs : Sane ro w Own) (hH : RepH ro w β L H Own) {t : TypeId} {m k x : V} {r : List Rd} {l : List Dl} {um uk ux : Value} (hm : RepV ro w β L um m) (hk : RepV ro w β L uk k) (hx : RepV ro w β L ux x)
    (h : mapUpdateK P H t m k x (fun r l => some (r, l)) = some (r, l)) : OutOK ro w β L Own ((do Instr.mapUpdate t um uk ux; pure Next.skip : Sem Next).run P w) .undef (appAll l H) := by
  unfold mapUpdateK at h
  split at h
  · rename_i kt e hh s y hd
    obtain rfl := rep_str hk
    have hx := repC hx
    split at h
    · rename_i es hg hkt
      cases h
      cases hm with
      | mapv _ bt hbt =>
        obtain ⟨t0, ht0, hB0, _, hown⟩ := hH.live _ _ _ hg
        rw [hbt] at ht0; cases ht0
        have hlt := hH.bound hg hbt
        cases hB0 with
        | map _ ents clock hc hsz hk0 hv0 =>
          have fin : ∀ (ents' : Array MapEntry) (clock' : Nat), ents'.size = (mapSet es s y).length →
              (∀ (j : Nat) (m : MapEntry) (p : ByteArray × C), ents'[j]? = some m → (mapSet es s y)[j]? = some p → m.key = .string p.1) →
              (∀ (j : Nat) (m : MapEntry) (p : ByteArray × C), ents'[j]? = some m → (mapSet es s y)[j]? = some p → Rep ro w m.val p.2) →
              (Instr.mapUpdate t (.map (some bt.b)) (.string s) ux).run P w = .ok () { w with heap := w.heap.setIfInBounds bt.b (.map ents' clock') } →
              OutOK ro w β L Own ((do Instr.mapUpdate t (.map (some bt.b)) (.string s) ux; pure Next.skip : Sem Next).run P w) .undef (appAll [.wr hh (.mset s y)] H) := by
            intro ents' clock' h1 h2 h3 hrun
            obtain ⟨s1, s2, s3⟩ := putObj_heap hlt (.map ents' clock')
            have hkk : ∀ b, ro b → ({ w with heap := w.heap.setIfInBounds bt.b (.map ents' clock') } : World).heap[b]? = w.heap[b]? := fun b hb => s2 b (fun e => by subst e; exact hs.dis _ (hown rfl) hb)
            obtain ⟨k1, k2⟩ := wr_ok hs hH hg hbt (w' := { w with heap := w.heap.setIfInBounds bt.b (.map ents' clock') }) rfl rfl rfl s3 s2 (b' := .map (mapSet es s y))
              (.map _ ents' clock' s1 h1 h2 (fun j m p g1 g2 => (h3 j m p g1 g2).mono (fun _ h => h) hkk)) (H' := upd hh (Slot.wr (.mset s y)) H) (fun i => get_wr hg _ i)
            exact .skip (by simp only [Sem.run_bind, hrun, Result.andThen_ok, Sem.run_pure]) k1 k2
          have pre : ∀ (res : Option (Nat × Value)), Instr.findNow .string (.string s) ents.toList 0 = some res →
              (Instr.mapUpdate t (.map (some bt.b)) (.string s) ux).run P w = ((match res with
                | some (i, _) => (do let key ← Instr.keyThatStays (((ents[i]?).map MapEntry.key).getD (.string s)) (.string s); setObj bt.b (.map (ents.modify i fun e => { e with key, val := ux }) clock) : Sem Unit)
                | none => setObj bt.b (.map (ents.push { key := .string s, val := ux, born := clock }) (clock + 1)))).run P w := by
            intro res hres
            unfold Instr.mapUpdate
            simp only [Sem.run_bind, run_underlying hd, Result.andThen_ok, run_getObj_map hc, run_checkKey hkt, run_findKey hkt s _ _ hres]
            cases res <;> rfl
          rcases findNow_ok s ents.toList es 0 (by simpa using hsz) (fun j m p h1 h2 => hk0 j m p (by simpa using h1) h2) with ⟨h1, h2, h3⟩ | ⟨i, m0, p0, h1, hp0, h3, h4, h5, h6⟩
          · refine fin _ _ ?_ (fun j m p g1 g2 => ?_) (fun j m p g1 g2 => ?_) ((pre _ h2).trans (run_setObj_map hc _))
            · rw [h3]; simp [hsz]
            · rw [h3] at g2
              rw [Array.getElem?_push] at g1
              split at g1
              · next e => cases g1; rw [List.getElem?_append_right (by omega), e, hsz, Nat.sub_self] at g2; simp at g2; subst g2; rfl
              · have := (Array.getElem?_eq_some_iff.1 g1).1
                rw [List.getElem?_append_left (by omega)] at g2
                exact hk0 j m p g1 g2
            · rw [h3] at g2
              rw [Array.getElem?_push] at g1
              split at g1
              · next e => cases g1; rw [List.getElem?_append_right (by omega), e, hsz, Nat.sub_self] at g2; simp at g2; subst g2; exact hx
              · have := (Array.getElem?_eq_some_iff.1 g1).1
                rw [List.getElem?_append_left (by omega)] at g2
                exact hv0 j m p g1 g2
          · have hi4 : ents[i]? = some m0 := by simpa using h4
            have hkey := hk0 i m0 p0 hi4 h5
            have hstay : (Instr.keyThatStays (((ents[i]?).map MapEntry.key).getD (.string s)) (.string s)).run P w = .ok (.string s) w := by
              rw [hi4]
              simp only [Option.map_some, Option.getD_some, hkey, hp0]
              unfold Instr.keyThatStays Instr.sameBits
              simp [(beqBA_iff s s).2 rfl]
            have hi := (Array.getElem?_eq_some_iff.1 hi4).1
            have hi' : i < es.length := by omega
            refine fin (ents.modify i fun e => { e with key := .string s, val := ux }) clock ?_ (fun j m p g1 g2 => ?_) (fun j m p g1 g2 => ?_) ((pre _ h3).trans ?_)
            · rw [h6]; simp [hsz]
            · rw [h6] at g2
              rw [Array.getElem?_modify] at g1
              by_cases e : i = j
              · subst e
                rw [List.getElem?_set_self hi'] at g2
                simp only [if_true, hi4, Option.map_some] at g1
                cases g1; cases g2; rfl
              · simp only [e, if_false] at g1
                rw [List.getElem?_set_ne e] at g2
                exact hk0 j m p g1 g2
            · rw [h6] at g2
              rw [Array.getElem?_modify] at g1
              by_cases e : i = j
              · subst e
                rw [List.getElem?_set_self hi'] at g2
                simp only [if_true, hi4, Option.map_some] at g1
                cases g1; cases g2; exact hx
              · simp only [e, if_false] at g1
                rw [List.getElem?_set_ne e] at g2
                exact hv0 j m p g1 g2
            · simp only [Nat.zero_add, Sem.run_bind, hstay, Result.andThen_ok]
              exact run_setObj_map hc _
    · simp at h
  · simp at h

/-! ### cutting -/
theorem run_bound (i : Int) (k : IntKind) (y : Nat) (code : BoundsCode) (h0 : 0 ≤ i) (h1 : i ≤ y) : (Instr.sliceBound (.int k i) y code).run P w = .ok i.toNat w := by
  unfold Instr.sliceBound
  simp only [Sem.run_bind, run_asIntOf, Result.andThen_ok]
  rw [if_pos ⟨h0, h1⟩]
  rfl
theorem loI_ok {lo : Option V} {ulo : Option Value} {l : Int} (h : loI lo = some l) (hr : ∀ v, lo = some v → ∃ u, ulo = some u ∧ RepV ro w β L u v) (hn : lo = none → ulo = none) :
    (ulo = none ∧ l = 0) ∨ ∃ k, ulo = some (.int k l) := by
  unfold loI at h
  split at h
  · cases h; exact .inl ⟨hn rfl, rfl⟩
  · cases h
    obtain ⟨u, h1, h2⟩ := hr _ rfl
    obtain rfl := rep_int h2
    exact .inr ⟨_, h1⟩
  · simp at h
theorem hiI_ok {len : Nat} {hi : Option V} {uhi : Option Value} {l : Int} (h : hiI len hi = some l) (hr : ∀ v, hi = some v → ∃ u, uhi = some u ∧ RepV ro w β L u v) (hn : hi = none → uhi = none) :
    (uhi = none ∧ l = len) ∨ ∃ k, uhi = some (.int k l) := by
  unfold hiI at h
  split at h
  · cases h; exact .inl ⟨hn rfl, rfl⟩
  · cases h
    obtain ⟨u, h1, h2⟩ := hr _ rfl
    obtain rfl := rep_int h2
    exact .inr ⟨_, h1⟩
  · simp at h
theorem run_sliceBounds {b : Bool} {len cap : Nat} {ulo uhi : Option Value} {l h : Int} (hlo : (ulo = none ∧ l = 0) ∨ ∃ k, ulo = some (.int k l)) (hhi : (uhi = none ∧ h = len) ∨ ∃ k, uhi = some (.int k h))
    (h0 : 0 ≤ l) (h1 : l ≤ h) (h2 : h ≤ cap) : (Instr.sliceBounds b len cap ulo uhi none).run P w = .ok (l.toNat, h.toNat, cap) w := by
  unfold Instr.sliceBounds
  rcases hhi with ⟨rfl, rfl⟩ | ⟨k, rfl⟩
  · rcases hlo with ⟨rfl, rfl⟩ | ⟨k', rfl⟩
    · simp only [Sem.run_bind, Sem.run_pure, Result.andThen_ok]; simp
    · simp only [Sem.run_bind, Sem.run_pure, Result.andThen_ok, run_bound l k' len _ h0 h1, Int.toNat_natCast]
  · rcases hlo with ⟨rfl, rfl⟩ | ⟨k', rfl⟩
    · simp only [Sem.run_bind, Sem.run_pure, Result.andThen_ok, run_bound h k cap _ (by omega) h2]; simp
    · simp only [Sem.run_bind, Sem.run_pure, Result.andThen_ok, run_bound h k cap _ (by omega) h2, run_bound l k' h.toNat _ h0 (by omega)]
theorem allSz_ok {sz : Nat} {es : List (List C)} (h : allSz sz es = true) {i : Nat} {cs : List C} (hi : es[i]? = some cs) : cs.length = sz := by
  unfold allSz at h
  rw [List.all_eq_true] at h
  exact Nat.eq_of_beq_eq_true (h cs (List.mem_of_getElem? hi))
theorem sliceK_ok (hs : Sane ro w Own) (hH : RepH ro w β L H Own) {t : TypeId} {x v : V} {lo hi : Option V} {ulo uhi : Option Value} {r : List Rd} {l : List Dl} {ux : Value} (hx : RepV ro w β L ux x)
    (hlo : ∀ v, lo = some v → ∃ u, ulo = some u ∧ RepV ro w β L u v) (hlo' : lo = none → ulo = none) (hhi : ∀ v, hi = some v → ∃ u, uhi = some u ∧ RepV ro w β L u v) (hhi' : hi = none → uhi = none)
    (h : sliceK P H t x lo hi (fun v r l => some (v, r, l)) = some (v, r, l)) :
    OutOK ro w β L Own ((do pure (Next.value (← Instr.sliceAt t ux ulo uhi none)) : Sem Next).run P w) v (appAll l H) := by
  unfold sliceK at h
  split at h
  · rename_i s hd
    obtain rfl := rep_str hx
    split at h
    · rename_i ll hh h1 h2
      obtain ⟨hc, h⟩ := cond_some_none h
      cases h
      simp only [Bool.and_eq_true, decide_eq_true_eq] at hc
      obtain ⟨⟨c1, c2⟩, c3⟩ := hc
      have hb := run_sliceBounds (P := P) (w := w) (b := false) (len := s.size) (cap := s.size) (loI_ok h1 hlo hlo') (hiI_ok h2 hhi hhi') c1 c2 c3
      refine OutOK.pure hs hH (u := .string (s.extract ll.toNat hh.toNat)) ?_ (.c _ _ (.str _))
      unfold Instr.sliceAt Instr.slice
      simp only [Sem.run_bind, run_underlying hd, Result.andThen_ok, Option.isSome_none, Bool.false_eq_true, if_false, Sem.run_pure, hb]
    · simp at h
  · rename_i e es hd
    split at h
    · rename_i ll hh h1 h2
      obtain ⟨hc, h⟩ := cond_some_none h
      cases h
      simp only [Bool.and_eq_true, decide_eq_true_eq] at hc
      obtain ⟨⟨⟨⟨hp, hall⟩, c1⟩, c2⟩, c3⟩ := hc
      obtain ⟨ie, hie⟩ := sz_info (Nat.le_of_ble_eq_true hp)
      have hx := repC hx
      cases hx with
      | sl base _ cap sz hcap hb hz val hv hr =>
        have hbd := run_sliceBounds (P := P) (w := w) (b := true) (len := es.length) (cap := cap) (loI_ok h1 hlo hlo') (hiI_ok h2 hhi hhi') c1 c2 (by omega)
        refine OutOK.pure hs hH (u := .slice (if cap = ll.toNat then base else base.map (·.add (ll.toNat * szT P e))) (hh.toNat - ll.toNat) (cap - ll.toNat)) ?_ (.c _ _ ?_)
        · unfold Instr.sliceAt Instr.slice
          simp only [Sem.run_bind, run_underlying hd, Result.andThen_ok, Sem.run_pure, hbd, run_sz hie]
        · have hlen : ((es.take hh.toNat).drop ll.toNat).length = hh.toNat - ll.toNat := by simp; omega
          have hget : ∀ i, ((es.take hh.toNat).drop ll.toNat)[i]? = if ll.toNat + i < hh.toNat then es[ll.toNat + i]? else none := fun i => by
            rw [List.getElem?_drop, List.getElem?_take]
          have hsz : ∀ i cs, es[i]? = some cs → sz = szT P e := fun i cs hi => (hz i cs hi).symm.trans (allSz_ok hall hi)
          rw [← hlen]
          refine .sl _ _ _ sz (by omega) (fun hne => ?_) (fun i cs hi => ?_) (fun i j => val (ll.toNat + i) j) (fun i j cs x hi hj b o hbo => ?_) (fun i j cs x hi hj => ?_)
          · have hpos : 0 < ((es.take hh.toNat).drop ll.toNat).length := List.length_pos_iff.2 hne
            obtain ⟨b, o, hb1, hb2⟩ := hb (fun e' => by rw [e'] at hpos; simp at hpos)
            rw [if_neg (by omega), hb1]
            exact ⟨b, o + ll.toNat * szT P e, by simp [add_none], hb2⟩
          · rw [hget] at hi
            split at hi
            · exact hz _ _ hi
            · simp at hi
          · rw [hget] at hi
            split at hi
            · rename_i hlt
              obtain ⟨b', o', hb1, hb2⟩ := hb (fun e' => by rw [e'] at hi; simp at hi)
              rw [if_neg (by omega), hb1] at hbo
              simp only [Option.map_some, add_none, Option.some.injEq, Addr.mk.injEq] at hbo
              obtain ⟨rfl, rfl, _⟩ := hbo
              have := hv (ll.toNat + i) j cs x hi hj b' o' hb1
              rw [hsz _ _ hi] at this ⊢
              rw [Nat.add_mul] at this
              rw [Nat.add_assoc o' _ (i * szT P e)]
              exact this
            · simp at hi
          · rw [hget] at hi
            split at hi
            · exact hr _ j cs x hi hj
            · simp at hi
    · simp at h
  · rename_i n e hh off hd
    split at h
    · rename_i vl z hg
      obtain ⟨hc, h⟩ := cond_some_none h
      simp only [Bool.and_eq_true, nbeq] at hc
      obtain ⟨⟨c1, c2⟩, c3⟩ := hc
      obtain ⟨rr, hr0, h⟩ := Option.bind_eq_some_iff.1 h
      cases h
      subst c1
      obtain ⟨ie, hie⟩ := sz_info (P := P) (t := e) (by omega)
      obtain ⟨p1, p2⟩ := (pur_ok hH 40).2 _ _ _ hr0
      have hlen := purs_length 40 vl rr hr0
      have hul : ulo = none := hlo' rfl
      have huh : uhi = none := hhi' rfl
      subst hul huh
      cases hx with
      | ptr _ _ bt hbt =>
        obtain ⟨t0, ht0, hB0, _, hown⟩ := hH.live _ _ _ hg
        rw [hbt] at ht0; cases ht0
        cases hB0 with
        | vs _ c el hcc hcs hcr hcn =>
          obtain ⟨ro1, Own1, hH1, st1, k1⟩ := frzs_ok (hh :: rr.2) hs hH (fun i hi => by
            rcases List.mem_cons.1 hi with rfl | hi
            · exact ⟨_, _, hg⟩
            · exact p1 i hi)
          have hbd := run_sliceBounds (P := P) (w := w) (b := false) (len := n) (cap := n) (ulo := none) (uhi := none) (l := 0) (h := n) (.inl ⟨rfl, rfl⟩) (.inl ⟨rfl, rfl⟩) (by omega) (by omega) (by omega)
          refine ⟨_, w, ro1, β, Own1, ?_, .inl ⟨.slice (some ⟨bt.b, 0, none⟩) n n, rfl, .c _ _ ?_⟩, hH1, st1⟩
          · unfold Instr.sliceAt
            simp only [Sem.run_bind, run_underlying hd, Result.andThen_ok, Sem.run_pure, Instr.sureAddr, hbd, run_sz hie]
            congr 3
            simp [add_none]
          · have e1 : n = (rr.1.map fun x => [x]).length := by simp; omega
            have := Rep.sl (ro := ro1) (w := w) (some ⟨bt.b, 0, none⟩) (rr.1.map fun x => [x]) n 1 (by omega) (fun _ => ⟨bt.b, 0, rfl, k1 hh (by simp) bt hbt⟩)
              (fun i cs hi => by rw [List.getElem?_map] at hi; obtain ⟨x, _, rfl⟩ := Option.map_eq_some_iff.1 hi; rfl) (fun i j => c.getD i undef)
              (fun i j cs x hi hj b o hbo => by
                cases hbo
                rw [List.getElem?_map] at hi
                obtain ⟨x', hx', rfl⟩ := Option.map_eq_some_iff.1 hi
                have hil := (List.getElem?_eq_some_iff.1 hx').1
                have hj0 : j = 0 := by have := (List.getElem?_eq_some_iff.1 hj).1; simp at this; exact this
                subst hj0
                rw [cells_cell hcc]
                have : i < c.size := by omega
                simp [Array.getD, this])
              (fun i j cs x hi hj => by
                rw [List.getElem?_map] at hi
                obtain ⟨x', hx', rfl⟩ := Option.map_eq_some_iff.1 hi
                have hil := (List.getElem?_eq_some_iff.1 hx').1
                have hj0 : j = 0 := by have := (List.getElem?_eq_some_iff.1 hj).1; simp at this; exact this
                subst hj0
                cases hj
                have hlt : i < c.size := by omega
                have hlt2 : i < vl.length := by omega
                have hci : c[i]? = some (c.getD i undef) := by simp [Array.getD, hlt]
                exact p2 ro1 st1.grow (fun h' hh' => k1 h' (by simp [hh'])) i vl[i] x _ (List.getElem?_eq_getElem hlt2) hx' (hcr i _ _ hci (List.getElem?_eq_getElem hlt2)))
            rw [← e1] at this
            exact this
    · simp at h
  · simp at h
end
end Go.Proofs.Ytbhojnofdeihdaa.E
