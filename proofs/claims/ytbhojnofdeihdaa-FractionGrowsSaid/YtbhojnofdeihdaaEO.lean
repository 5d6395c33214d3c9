/- What is shown here: what Go's machine does at one operation is what the evaluator does. -/
import Derived.Test.YtbhojnofdeihdaaEP
import Derived.Test.YtbhojnofdeihdaaER
import Derived.Laws.StructEq
import Derived.Laws.CopyRow
import Derived.Laws.Cells
import Derived.ChangeKeysEq
namespace Go.Proofs.Ytbhojnofdeihdaa.E
open Go.RowKit
set_option autoImplicit false
set_option linter.unusedVariables false
set_option linter.unusedSimpArgs false

structure OStp (ro : Set) (w : World) (β : Tab) (Own : Set) (ro' : Set) (w' : World) (β' : Tab) (Own' : Set) : Prop where
  os : w'.os = w.os
  tape : w'.tape = w.tape
  output : w'.output = w.output
  size : w.heap.size ≤ w'.heap.size
  grow : ∀ b, ro b → ro' b
  keep : ∀ b, ro b → w'.heap[b]? = w.heap[b]?
  oth : ∀ b, b < w.heap.size → ¬ Own b → w'.heap[b]? = w.heap[b]?
  newro : ∀ b, ro' b → ro b ∨ Own b ∨ w.heap.size ≤ b
  newown : ∀ b, Own' b → Own b ∨ w.heap.size ≤ b
  bound : ∀ b, ro' b ∨ Own' b → b < w'.heap.size
  dis : ∀ b, Own' b → ¬ ro' b
  tab : ∀ h t, β h = some t → β' h = some t
  loops : ∀ (l : Nat) (rec : Loop), w.heap[l]? = some (.loop rec) → ∃ rec' : Loop, w'.heap[l]? = some (.loop rec') ∧ rec'.tmps = rec.tmps
structure Sane (ro : Set) (w : World) (Own : Set) : Prop where
  bound : ∀ b, ro b ∨ Own b → b < w.heap.size
  dis : ∀ b, Own b → ¬ ro b
theorem OStp.sane {ro : Set} {w : World} {β : Tab} {Own ro' : Set} {w' : World} {β' : Tab} {Own' : Set} (h : OStp ro w β Own ro' w' β' Own') : Sane ro' w' Own' := ⟨h.bound, h.dis⟩
theorem OStp.refl {ro : Set} {w : World} {β : Tab} {Own : Set} (h : Sane ro w Own) : OStp ro w β Own ro w β Own :=
  ⟨rfl, rfl, rfl, Nat.le_refl _, fun _ h => h, fun _ _ => rfl, fun _ _ _ => rfl, fun _ h => .inl h, fun _ h => .inl h, h.bound, h.dis, fun _ _ h => h, fun l rec h => ⟨rec, h, rfl⟩⟩
theorem OStp.trans {ro : Set} {w : World} {β : Tab} {Own ro1 : Set} {w1 : World} {β1 : Tab} {Own1 ro2 : Set} {w2 : World} {β2 : Tab} {Own2 : Set}
    (hs : Sane ro w Own) (h : OStp ro w β Own ro1 w1 β1 Own1) (k : OStp ro1 w1 β1 Own1 ro2 w2 β2 Own2) : OStp ro w β Own ro2 w2 β2 Own2 := by
  have hz := h.size
  refine ⟨k.os.trans h.os, k.tape.trans h.tape, k.output.trans h.output, Nat.le_trans h.size k.size, fun b hb => k.grow b (h.grow b hb), fun b hb => (k.keep b (h.grow b hb)).trans (h.keep b hb), fun b hb ho => ?_, fun b hb => ?_, fun b hb => ?_, k.bound, k.dis, fun a t ht => k.tab a t (h.tab a t ht), fun l rec hl => by
    obtain ⟨r1, h1, h2⟩ := h.loops l rec hl
    obtain ⟨r2, g1, g2⟩ := k.loops l r1 h1
    exact ⟨r2, g1, g2.trans h2⟩⟩
  · exact (k.oth b (by omega) (fun h1 => (h.newown b h1).elim ho (fun h2 => by omega))).trans (h.oth b hb ho)
  · rcases k.newro b hb with h1 | h1 | h1
    · exact h.newro b h1
    · rcases h.newown b h1 with h2 | h2
      · exact .inr (.inl h2)
      · exact .inr (.inr h2)
    · exact .inr (.inr (by omega))
  · rcases k.newown b hb with h1 | h1
    · exact h.newown b h1
    · exact .inr (by omega)

def OutOK (ro : Set) (w : World) (β : Tab) (L : Option Nat) (Own : Set) (run : Result Next) (v : V) (H' : Heap) : Prop :=
  ∃ nx w' ro' β' Own', run = .ok nx w' ∧ ((∃ u, nx = .value u ∧ RepV ro' w' β' L u v) ∨ (nx = .skip ∧ v = .undef)) ∧ RepH ro' w' β' L H' Own' ∧ OStp ro w β Own ro' w' β' Own'

theorem nbeq (a b : Nat) : (Nat.beq a b = true) = (a = b) := by simp
theorem und_info {P : Program} {t : TypeId} {d : TypeDesc} (h : P.underlying t = some d) : ∃ i, P.info? t = some i := by
  unfold Program.underlying at h
  cases hi : P.info? t with
  | none => rw [hi] at h; simp at h
  | some i => exact ⟨i, rfl⟩
theorem sz_info {P : Program} {t : TypeId} (h : 0 < szT P t) : ∃ i, P.info? t = some i := by
  unfold szT at h
  cases hi : P.info? t with
  | none => rw [hi] at h; simp at h
  | some i => exact ⟨i, rfl⟩
theorem run_sz {P : Program} {t : TypeId} {i : TypeInfo} (h : P.info? t = some i) (w : World) : (sizeOf t).run P w = .ok (szT P t) w := run_sizeOf w h
theorem agg_und {P : Program} {t : TypeId} (h : isAggT P t = true) : ∃ d, P.underlying t = some d := by
  unfold isAggT at h
  cases hu : P.underlying t with
  | none => rw [hu] at h; simp at h
  | some d => exact ⟨d, rfl⟩
theorem run_isAggT {P : Program} {t : TypeId} {d : TypeDesc} (h : P.underlying t = some d) (w : World) : (isAgg t).run P w = .ok (isAggT P t) w := by
  unfold isAgg isAggT
  rw [h]
  simp only [Sem.run_bind, run_underlying h, Result.andThen_ok]
  cases d <;> rfl
theorem add_none (b o i : Nat) : (⟨b, o, none⟩ : Addr).add i = ⟨b, o + i, none⟩ := by
  unfold Addr.add
  split
  · next h => subst h; rfl
  · rfl
theorem run_loadVar_agg {P : Program} {w : World} {t : TypeId} (ht : isAggT P t = true) (b o : Nat) (f : Nat → Value) (h : ∀ j, j < szT P t → w.cell? ⟨b, o + j, none⟩ = some (f j)) :
    (loadVar t ⟨b, o, none⟩).run P w = .ok (.agg ((List.range (szT P t)).map f).toArray) w := by
  obtain ⟨d, hd⟩ := agg_und ht
  obtain ⟨i, hi⟩ := und_info hd
  unfold loadVar
  simp only [Sem.run_bind, run_isAggT hd, Result.andThen_ok, ht, if_true, run_sz hi]
  rw [run_loadCells (w := w) ⟨b, o, none⟩ (szT P t) f (fun j hj => by rw [add_none]; exact h j hj)]
  rfl
theorem run_loadVar_one {P : Program} {w : World} {t : TypeId} {d : TypeDesc} (hd : P.underlying t = some d) (ht : isAggT P t = false) (a : Addr) (v : Value) (h : w.cell? a = some v) :
    (loadVar t a).run P w = .ok v w := by
  unfold loadVar
  simp only [Sem.run_bind, run_isAggT hd, Result.andThen_ok, ht, Bool.false_eq_true, if_false, run_load, h]

/-! ### constants -/
theorem ofValue_rep (ro : Set) (w : World) (β : Tab) (L : Option Nat) (v : Value) : RepV ro w β L v (ofValue v) := by
  unfold ofValue
  split
  · exact .c _ _ (.bool _)
  · exact .c _ _ (.int _ _)
  · exact .c _ _ (.str _)
  · exact .nsl
  · exact .undef _

section
variable {P : Program} {ro : Set} {w : World} {β : Tab} {L : Option Nat} {H : Heap} {Own : Set}

theorem OutOK.pure {run : Result Next} {v : V} {u : Value} (hs : Sane ro w Own) (hH : RepH ro w β L H Own) (h : run = .ok (.value u) w) (hr : RepV ro w β L u v) : OutOK ro w β L Own run v H :=
  ⟨_, _, ro, β, Own, h, .inl ⟨u, rfl, hr⟩, hH, .refl hs⟩

theorem asI_some {k : IntKind} {x : Option C} {n : Int} (h : asI k x = some n) : x = some (.int k n) := by
  unfold asI at h
  split at h
  · split at h
    · next e => cases h; subst e; rfl
    · simp at h
  · simp at h
theorem asB_some {x : Option C} {n : Bool} (h : asB x = some n) : x = some (.bool n) := by
  unfold asB at h; split at h <;> simp_all
theorem asS_some {x : Option C} {n : ByteArray} (h : asS x = some n) : x = some (.str n) := by
  unfold asS at h; split at h <;> simp_all
theorem asL_some {x : Option C} {n : List (List C)} (h : asL x = some n) : x = some (.sl n) := by
  unfold asL at h; split at h <;> simp_all
theorem asP_some {x : Option C} {n : List C × Nat} (h : asP x = some n) : x = some (.rp n.1 n.2) := by
  unfold asP at h; split at h <;> simp_all; rw [← h]; simp
theorem asF_some {x : Option C} {n : Nat × List C} (h : asF x = some n) : x = some (.fn n.1 n.2) := by
  unfold asF at h; split at h <;> simp_all; rw [← h]; simp
theorem asM_some {x : Option C} {n : List (ByteArray × C)} (h : asM x = some n) : x = some (.mp n) := by
  unfold asM at h; split at h <;> simp_all
/-- A cell read by its type is that cell. -/
theorem decT_some {t : TypeId} {x : Option C} {v : V} (h : decT P t x some = some v) : ∃ y, x = some y ∧ v = .c y ∧ isAggT P t = false ∧ ∃ d, P.underlying t = some d := by
  unfold decT at h
  unfold isAggT
  split at h <;> rename_i hd
  · obtain ⟨n, h1, h2⟩ := Option.bind_eq_some_iff.1 h; cases h2; exact ⟨_, asI_some h1, rfl, by rw [hd], _, hd⟩
  · obtain ⟨n, h1, h2⟩ := Option.bind_eq_some_iff.1 h; cases h2; exact ⟨_, asB_some h1, rfl, by rw [hd], _, hd⟩
  · obtain ⟨n, h1, h2⟩ := Option.bind_eq_some_iff.1 h; cases h2; exact ⟨_, asS_some h1, rfl, by rw [hd], _, hd⟩
  · obtain ⟨n, h1, h2⟩ := Option.bind_eq_some_iff.1 h; cases h2; exact ⟨_, asL_some h1, rfl, by rw [hd], _, hd⟩
  · obtain ⟨n, h1, h2⟩ := Option.bind_eq_some_iff.1 h; cases h2; exact ⟨_, asP_some h1, rfl, by rw [hd], _, hd⟩
  · obtain ⟨n, h1, h2⟩ := Option.bind_eq_some_iff.1 h; cases h2; exact ⟨_, asF_some h1, rfl, by rw [hd], _, hd⟩
  · obtain ⟨n, h1, h2⟩ := Option.bind_eq_some_iff.1 h; cases h2; exact ⟨_, asM_some h1, rfl, by rw [hd], _, hd⟩
  · simp at h

/-! ### a load -/
theorem part_get {n : Nat} {cs : List C} {off sz j : Nat} {x : C} (hn : cs.length = n) (h : (part n cs off sz)[j]? = some x) (hle : off + sz ≤ n) : j < sz ∧ cs[off + j]? = some x := by
  unfold part at h
  cases hc : (Nat.beq off 0 && Nat.beq sz n) with
  | true =>
    rw [hc] at h
    simp only [Bool.and_eq_true, nbeq] at hc
    simp only [cond_true] at h
    have := (List.getElem?_eq_some_iff.1 h).1
    exact ⟨by omega, by rw [hc.1, Nat.zero_add]; exact h⟩
  | false =>
    rw [hc] at h
    simp only [cond_false] at h
    rw [List.getElem?_take] at h
    split at h
    · next hj => rw [List.getElem?_drop] at h; exact ⟨hj, h⟩
    · simp at h
theorem part_length {n : Nat} {cs : List C} {off sz : Nat} (hn : cs.length = n) (hle : off + sz ≤ n) : (part n cs off sz).length = sz := by
  unfold part
  cases hc : (Nat.beq off 0 && Nat.beq sz n) with
  | true => simp only [Bool.and_eq_true, nbeq] at hc; simp only [cond_true]; omega
  | false => simp only [cond_false, List.length_take, List.length_drop]; omega
/-- An aggregate out of cells that stand for plain data. -/
theorem load_pagg {t : TypeId} (ht : isAggT P t = true) (b o : Nat) (ds : List C) (hl : ds.length = szT P t)
    (hc : ∀ j x, ds[j]? = some x → ∃ u, w.cell? ⟨b, o + j, none⟩ = some u ∧ Rep ro w u x) :
    ∃ u, (loadVar t ⟨b, o, none⟩).run P w = .ok u w ∧ RepV ro w β L u (.pagg (szT P t) ds) := by
  have hc' : ∀ j, ∃ u, j < szT P t → (w.cell? ⟨b, o + j, none⟩ = some u ∧ ∀ x, ds[j]? = some x → Rep ro w u x) := by
    intro j
    by_cases hj : j < szT P t
    · obtain ⟨u, h1, h2⟩ := hc j ds[j] (List.getElem?_eq_getElem (by omega))
      exact ⟨u, fun _ => ⟨h1, fun x hx => by rw [List.getElem?_eq_getElem (by omega)] at hx; cases hx; exact h2⟩⟩
    · exact ⟨undef, fun h => absurd h hj⟩
  obtain ⟨f, hf⟩ := Classical.axiomOfChoice hc'
  refine ⟨_, run_loadVar_agg ht b o f (fun j hj => (hf j hj).1), ?_⟩
  rw [← hl]
  refine .pagg _ ds (by simp) (fun j v x h1 h2 => ?_)
  have hj := (List.getElem?_eq_some_iff.1 h2).1
  simp only [List.getElem?_toArray, List.getElem?_map] at h1
  rw [List.getElem?_range hj] at h1
  cases h1
  exact (hf j (by omega)).2 x h2
theorem Rep.one {v : Value} {x : C} (h : Rep ro w v x) : v.oneCell' = true := by cases h <;> rfl
theorem load_agg {t : TypeId} (ht : isAggT P t = true) (b o : Nat) (ds : List V) (hl : ds.length = szT P t)
    (hc : ∀ j x, ds[j]? = some x → ∃ u, w.cell? ⟨b, o + j, none⟩ = some u ∧ RepV ro w β L u x ∧ u.oneCell' = true) :
    ∃ u, (loadVar t ⟨b, o, none⟩).run P w = .ok u w ∧ RepV ro w β L u (.agg ds) := by
  have hc' : ∀ j, ∃ u, j < szT P t → (w.cell? ⟨b, o + j, none⟩ = some u ∧ (∀ x, ds[j]? = some x → RepV ro w β L u x) ∧ u.oneCell' = true) := by
    intro j
    by_cases hj : j < szT P t
    · obtain ⟨u, h1, h2, h3⟩ := hc j ds[j] (List.getElem?_eq_getElem (by omega))
      exact ⟨u, fun _ => ⟨h1, fun x hx => by rw [List.getElem?_eq_getElem (by omega)] at hx; cases hx; exact h2, h3⟩⟩
    · exact ⟨undef, fun h => absurd h hj⟩
  obtain ⟨f, hf⟩ := Classical.axiomOfChoice hc'
  refine ⟨_, run_loadVar_agg ht b o f (fun j hj => (hf j hj).1), ?_⟩
  refine .agg _ ds (by simp [hl]) (fun j v x h1 h2 => ?_) (fun v hv => ?_)
  · have hj := (List.getElem?_eq_some_iff.1 h2).1
    simp only [List.getElem?_toArray, List.getElem?_map] at h1
    rw [List.getElem?_range (by omega)] at h1
    cases h1
    exact (hf j (by omega)).2.1 x h2
  · simp only [List.mem_toArray, List.mem_map, List.mem_range] at hv
    obtain ⟨j, hj, rfl⟩ := hv
    exact (hf j hj).2.2
theorem cells_cell {b : Nat} {c : Array Value} {el : TypeId} {fz : Nat × Nat} (h : w.heap[b]? = some (.cells c el fz)) (o : Nat) : w.cell? ⟨b, o, none⟩ = c[o]? := by
  simp [World.cell?, h]
theorem loadK_ok (hH : RepH ro w β L H Own) {t : TypeId} {a : V} {ar : Value} {v : V} {r : List Rd} (ha : RepV ro w β L ar a)
    (h : loadK P H t a (fun v r => some (v, r)) = some (v, r)) : ∃ ad u, ar = .pointer (some ad) ∧ (loadVar t ad).run P w = .ok u w ∧ RepV ro w β L u v := by
  unfold loadK at h
  split at h
  · rename_i hh off
    cases ha with
    | ptr _ _ bt hbt =>
      refine ⟨⟨bt.b, off, none⟩, ?_⟩
      split at h
      · rename_i n cs z hg
        obtain ⟨t', ht', hB, _⟩ := hH.live _ _ _ hg
        rw [hbt] at ht'; cases ht'
        cases hB with
        | pc cs c el hh' hs hr =>
          cases hag : isAggT P t with
          | true =>
            simp only [hag, cond_true] at h
            cases hle : Nat.ble (off + szT P t) cs.length with
            | false => rw [hle] at h; simp at h
            | true =>
              rw [hle] at h; simp only [cond_true] at h; cases h
              have hle' := Nat.le_of_ble_eq_true hle
              obtain ⟨u, h1, h2⟩ := load_pagg (P := P) (β := β) (L := L) (ro := ro) (w := w) hag bt.b off (part cs.length cs off (szT P t)) (part_length rfl hle') (fun j x hj => by
                obtain ⟨h3, h4⟩ := part_get rfl hj hle'
                have h5 := (List.getElem?_eq_some_iff.1 h4).1
                rw [cells_cell hh']
                exact ⟨c[off + j], Array.getElem?_eq_getElem (by omega), hr _ _ _ (Array.getElem?_eq_getElem (by omega)) h4⟩)
              exact ⟨u, rfl, h1, h2⟩
          | false =>
            simp only [hag, cond_false] at h
            cases hle : Nat.blt off cs.length with
            | false => rw [hle] at h; simp at h
            | true =>
              rw [hle, cond_true, decT_bind] at h
              obtain ⟨v', h1, h2⟩ := Option.bind_eq_some_iff.1 h
              cases h2
              obtain ⟨y, h3, rfl, _, d, hd⟩ := decT_some h1
              have h5 := (List.getElem?_eq_some_iff.1 h3).1
              have h6 : c[off]? = some c[off] := Array.getElem?_eq_getElem (by omega)
              exact ⟨c[off], rfl, run_loadVar_one hd hag _ _ (by rw [cells_cell hh']; exact h6), .c _ _ (hr _ _ _ h6 h3)⟩
      · rename_i l z hg
        obtain ⟨t', ht', hB, _⟩ := hH.live _ _ _ hg
        rw [hbt] at ht'; cases ht'
        cases hB with
        | vs l c el hh' hs hr hn =>
          cases hag : isAggT P t with
          | true =>
            simp only [hag, cond_true] at h
            cases hle : Nat.ble (off + szT P t) l.length with
            | false => rw [hle] at h; simp at h
            | true =>
              rw [hle] at h; simp only [cond_true] at h; cases h
              have hle' := Nat.le_of_ble_eq_true hle
              obtain ⟨u, h1, h2⟩ := load_agg (P := P) (β := β) (L := L) (ro := ro) (w := w) hag bt.b off ((l.drop off).take (szT P t)) (by simp; omega) (fun j x hj => by
                rw [List.getElem?_take] at hj
                split at hj
                · rw [List.getElem?_drop] at hj
                  have h5 := (List.getElem?_eq_some_iff.1 hj).1
                  rw [cells_cell hh']
                  exact ⟨c[off + j], Array.getElem?_eq_getElem (by omega), hr _ _ _ (Array.getElem?_eq_getElem (by omega)) hj, hn _ (Array.getElem_mem (by omega))⟩
                · simp at hj)
              exact ⟨u, rfl, h1, h2⟩
          | false =>
            simp only [hag, cond_false] at h
            split at h
            · rename_i d v' hd hv
              cases h
              have h5 := (List.getElem?_eq_some_iff.1 hv).1
              have h6 : c[off]? = some c[off] := Array.getElem?_eq_getElem (by omega)
              exact ⟨c[off], rfl, run_loadVar_one hd hag _ _ (by rw [cells_cell hh']; exact h6), hr _ _ _ h6 hv⟩
            · simp at h
      · simp at h
  · rename_i hh i off
    cases ha with
    | eptr _ _ _ bt hbt =>
      refine ⟨⟨bt.b, i * bt.sz + off, none⟩, ?_⟩
      split at h
      · rename_i sz es z hg
        obtain ⟨t', ht', hB, _⟩ := hH.live _ _ _ hg
        rw [hbt] at ht'; cases ht'
        cases hB with
        | arr es c el hh' hs hn hc hz hr =>
          obtain ⟨cs, hcs, h⟩ := Option.bind_eq_some_iff.1 h
          have hlen := hz i cs hcs
          have hi := (List.getElem?_eq_some_iff.1 hcs).1
          have hbd : ∀ j, j < bt.sz → i * bt.sz + j < c.size := fun j hj => by
            rw [hs]
            have : (i + 1) * bt.sz ≤ bt.cap * bt.sz := Nat.mul_le_mul_right _ (by omega)
            rw [Nat.add_mul] at this
            omega
          cases hag : isAggT P t with
          | true =>
            simp only [hag, cond_true] at h
            cases hle : Nat.ble (off + szT P t) bt.sz with
            | false => rw [hle] at h; simp at h
            | true =>
              rw [hle] at h; simp only [cond_true] at h; cases h
              have hle' := Nat.le_of_ble_eq_true hle
              obtain ⟨u, h1, h2⟩ := load_pagg (P := P) (β := β) (L := L) (ro := ro) (w := w) hag bt.b (i * bt.sz + off) (part bt.sz cs off (szT P t)) (part_length hlen hle') (fun j x hj => by
                obtain ⟨h3, h4⟩ := part_get hlen hj hle'
                rw [cells_cell hh', Nat.add_assoc]
                obtain ⟨u, h6⟩ : ∃ u, c[i * bt.sz + (off + j)]? = some u := ⟨_, Array.getElem?_eq_getElem (hbd _ (by omega))⟩
                exact ⟨_, h6, hr _ _ _ _ _ hcs h4 h6⟩)
              exact ⟨u, rfl, h1, h2⟩
          | false =>
            simp only [hag, cond_false] at h
            cases hle : Nat.blt off bt.sz with
            | false => rw [hle] at h; simp at h
            | true =>
              rw [hle, cond_true, decT_bind] at h
              obtain ⟨v', h1, h2⟩ := Option.bind_eq_some_iff.1 h
              cases h2
              obtain ⟨y, h3, rfl, _, d, hd⟩ := decT_some h1
              have h5 := (List.getElem?_eq_some_iff.1 h3).1
              obtain ⟨u, h6⟩ : ∃ u, c[i * bt.sz + off]? = some u := ⟨_, Array.getElem?_eq_getElem (hbd _ (by omega))⟩
              exact ⟨_, rfl, run_loadVar_one hd hag _ _ (by rw [cells_cell hh']; exact h6), .c _ _ (hr _ _ _ _ _ hcs h3 h6)⟩
      · simp at h
  · rename_i cs off
    cases ha with
    | c v x hx =>
      cases hx with
      | rp b o _ _ hb val hv hr =>
        refine ⟨⟨b, o + off, none⟩, ?_⟩
        cases hag : isAggT P t with
        | true =>
          simp only [hag, cond_true] at h
          have key : ∀ ds : List C, ds.length = szT P t → (∀ j x, ds[j]? = some x → cs[off + j]? = some x) → some (V.pagg (szT P t) ds, ([] : List Rd)) = some (v, r) →
              ∃ u, Value.pointer (some ⟨b, o + off, none⟩) = .pointer (some ⟨b, o + off, none⟩) ∧ (loadVar t ⟨b, o + off, none⟩).run P w = .ok u w ∧ RepV ro w β L u v := by
            intro ds hl hd he
            cases he
            obtain ⟨u, h1, h2⟩ := load_pagg (P := P) (β := β) (L := L) (ro := ro) (w := w) hag b (o + off) ds hl (fun j x hj => by
              have := hd j x hj
              rw [Nat.add_assoc]
              exact ⟨_, hv _ _ this, hr _ _ this⟩)
            exact ⟨u, rfl, h1, h2⟩
          cases h0 : Nat.beq off 0 with
          | true =>
            rw [h0, cond_true] at h
            have h0' := Nat.eq_of_beq_eq_true h0
            subst h0'
            cases h1 : Nat.beq cs.length (szT P t) with
            | true =>
              rw [h1, cond_true] at h
              exact key cs (Nat.eq_of_beq_eq_true h1) (fun j x hj => by rw [Nat.zero_add]; exact hj) h
            | false =>
              rw [h1, cond_false] at h
              cases h2 : Nat.ble (szT P t) cs.length with
              | true =>
                rw [h2, cond_true] at h
                refine key _ (by have := Nat.le_of_ble_eq_true h2; simp; omega) (fun j x hj => ?_) h
                rw [List.getElem?_take] at hj
                split at hj
                · rw [Nat.zero_add]; exact hj
                · simp at hj
              | false => rw [h2] at h; simp at h
          | false =>
            rw [h0, cond_false] at h
            cases h2 : Nat.ble (off + szT P t) cs.length with
            | true =>
              rw [h2, cond_true] at h
              refine key _ (by have := Nat.le_of_ble_eq_true h2; simp; omega) (fun j x hj => ?_) h
              rw [List.getElem?_take] at hj
              split at hj
              · rw [List.getElem?_drop] at hj; exact hj
              · simp at hj
            | false => rw [h2] at h; simp at h
        | false =>
          simp only [hag, cond_false] at h
          rw [decT_bind] at h
          obtain ⟨v', h1, h2⟩ := Option.bind_eq_some_iff.1 h
          cases h2
          obtain ⟨y, h3, rfl, _, d, hd⟩ := decT_some h1
          exact ⟨_, rfl, run_loadVar_one hd hag _ _ (hv _ _ h3), .c _ _ (hr _ _ h3)⟩
  · simp at h
end
end Go.Proofs.Ytbhojnofdeihdaa.E
