/- What is shown here: operations on values: the machine computes what the evaluator computes. -/
import Derived.Test.YtbhojnofdeihdaaEH
import Derived.Lib.LazyBuf
namespace Go.Proofs.Ytbhojnofdeihdaa.E
open Go.RowKit
set_option autoImplicit false
set_option linter.unusedVariables false
set_option linter.unusedSimpArgs false
section
variable {P : Program} {ro : Set} {w : World} {β : Tab} {L : Option Nat} {H : Heap} {Own : Set}

theorem cond_none_some {α : Type} {b : Bool} {x : Option α} {v : α} (h : (bif b then none else x) = some v) : b = false ∧ x = some v := by cases b <;> simp_all
theorem cond_some_none {α : Type} {b : Bool} {x : Option α} {v : α} (h : (bif b then x else none) = some v) : b = true ∧ x = some v := by cases b <;> simp_all
theorem repC {u : Value} {x : C} (h : RepV ro w β L u (.c x)) : Rep ro w u x := by cases h; assumption
theorem rep_int {u : Value} {k : IntKind} {n : Int} (h : RepV ro w β L u (.c (.int k n))) : u = .int k n := by cases h with | c _ _ h => cases h; rfl
theorem rep_bool {u : Value} {b : Bool} (h : RepV ro w β L u (.c (.bool b))) : u = .bool b := by cases h with | c _ _ h => cases h; rfl
theorem rep_str {u : Value} {s : ByteArray} (h : RepV ro w β L u (.c (.str s))) : u = .string s := by cases h with | c _ _ h => cases h; rfl

theorem pureC_mapM : ∀ (l : List V) (cs : List C), l.mapM pureC = some cs → l = cs.map .c := by
  intro l
  induction l with
  | nil => intro cs h; simp at h; subst h; rfl
  | cons v l ih =>
    intro cs h
    rw [List.mapM_cons] at h
    obtain ⟨x, hx, h⟩ := Option.bind_eq_some_iff.1 h
    obtain ⟨ys, hy, h⟩ := Option.bind_eq_some_iff.1 h
    cases h
    rw [ih ys hy]
    cases v <;> simp [pureC] at hx
    subst hx; rfl
theorem pureCs_ok {u : Value} {v : V} {cs : List C} (h : pureCs v = some cs) (hr : RepV ro w β L u v) :
    ∃ vs : Array Value, u = .agg vs ∧ vs.size = cs.length ∧ ∀ (j : Nat) (y : Value) (x : C), vs[j]? = some y → cs[j]? = some x → Rep ro w y x := by
  cases hr with
  | pagg vs ds hs hr => simp [pureCs] at h; subst h; exact ⟨vs, rfl, hs, hr⟩
  | agg vs l hs hr hn =>
    simp only [pureCs] at h
    have := pureC_mapM l cs h
    subst this
    refine ⟨vs, rfl, by simpa using hs, fun j y x h2 h3 => ?_⟩
    exact repC (hr j y (.c x) h2 (by simp [h3]))
  | _ => simp [pureCs] at h
theorem bkT_ok {t : TypeId} {k : Bk} (h : bkT P t = some k) : isAggT P t = false ∧ ∃ d, P.underlying t = some d := by
  unfold bkT at h
  unfold isAggT
  split at h <;> rename_i hd <;> first | (simp at h; done) | (rw [hd]; exact ⟨rfl, _, rfl⟩)
theorem eqC1_ok (d : Nat) {t : TypeId} {k : Bk} (hk : bkT P t = some k) {x y : C} {u v : Value} {b : Bool} (h : eqC1 k x y = some b) (hu : Rep ro w u x) (hv : Rep ro w v y) :
    (Op.equalIn (d + 1) t u v).run P w = .ok b w := by
  unfold bkT at hk
  unfold eqC1 at h
  split at h
  · cases hu; cases hv
    split at hk <;> simp at hk
    rename_i hd
    split at h <;> simp at h
    next e => subst e; subst h; exact run_equalIn_int w d t _ _ _ _ hd
  · cases hu; cases hv
    split at hk <;> simp at hk
    rename_i hd
    simp at h; subst h
    exact run_equalIn_bool' w d t _ _ hd
  · cases hu; cases hv
    split at hk <;> simp at hk
    rename_i hd
    simp at h; subst h
    exact run_equalIn_string w d t _ _ hd
  · simp at h
theorem eqFields_ok (d : Nat) (xs ys : Array Value) : ∀ (fs : List Field) (i : Nat) (ks : List Bk) (l m : List C) (b : Bool),
    (∀ f ∈ fs, f.name ≠ "_") → fs.mapM (fun f => bkT P f.type) = some ks → fs.map (·.offset) = List.range' i fs.length →
    (∀ (j : Nat) (x : C), l[j]? = some x → ∃ y, xs[i + j]? = some y ∧ Rep ro w y x) → (∀ (j : Nat) (x : C), m[j]? = some x → ∃ y, ys[i + j]? = some y ∧ Rep ro w y x) → eqCs ks l m = some b →
    (Op.eqFields (d + 1) xs ys fs).run P w = .ok b w := by
  intro fs
  induction fs with
  | nil =>
    intro i ks l m b _ hk _ _ _ h
    simp at hk; subst hk
    cases l <;> cases m <;> simp [eqCs] at h
    subst h
    simp [Op.eqFields]
  | cons f fs ih =>
    intro i ks l m b hf hk ho hx hy h
    rw [List.mapM_cons] at hk
    obtain ⟨k, hk1, hk⟩ := Option.bind_eq_some_iff.1 hk
    obtain ⟨ks', hk2, hk⟩ := Option.bind_eq_some_iff.1 hk
    cases hk
    cases l with
    | nil => simp [eqCs] at h
    | cons x l =>
      cases m with
      | nil => simp [eqCs] at h
      | cons y m =>
        simp only [eqCs] at h
        obtain ⟨b1, hb1, h⟩ := Option.bind_eq_some_iff.1 h
        obtain ⟨b2, hb2, h⟩ := Option.bind_eq_some_iff.1 h
        cases h
        have hname := hf f (by simp)
        have hoff : f.offset = i := by simp [List.range'_succ] at ho; exact ho.1
        obtain ⟨u, hu, hru⟩ := hx 0 x rfl
        obtain ⟨v, hv, hrv⟩ := hy 0 y rfl
        simp only [Nat.add_zero] at hu hv
        obtain ⟨hag, d0, hd0⟩ := bkT_ok hk1
        have hpart : ∀ (zs : Array Value) (z : Value), zs[i]? = some z → (Go.part f.type zs f.offset).run P w = .ok z w := fun zs z hz => by
          unfold Go.part
          simp only [Sem.run_bind, run_isAggT hd0, Result.andThen_ok, hag, Bool.false_eq_true, if_false, hoff, hz]
          rfl
        have heq := eqC1_ok (w := w) (ro := ro) d hk1 hb1 hru hrv
        simp only [Op.eqFields, hname, ne_eq, not_false_eq_true, if_true, Sem.run_bind, hpart xs u hu, hpart ys v hv, Result.andThen_ok, heq]
        cases b1 with
        | false => simp
        | true =>
          simp only [Bool.not_true, Bool.false_eq_true, if_false, Bool.true_and]
          exact ih (i + 1) ks' l m b2 (fun g hg => hf g (by simp [hg])) hk2 (by simp [List.range'_succ] at ho; exact ho.2)
            (fun j x hj => by have := hx (j + 1) x (by simpa using hj); rwa [Nat.add_comm j 1, ← Nat.add_assoc] at this)
            (fun j x hj => by have := hy (j + 1) x (by simpa using hj); rwa [Nat.add_comm j 1, ← Nat.add_assoc] at this) hb2

theorem equal_ok {t : TypeId} {ks : List Bk} (hp : plainT P t = some ks) {x y : V} {l m : List C} (hx : pureCs x = some l) (hy : pureCs y = some m) {u v : Value}
    (hu : RepV ro w β L u x) (hv : RepV ro w β L v y) {b : Bool} (h : eqCs ks l m = some b) :
    ∃ xs ys, u = .agg xs ∧ v = .agg ys ∧ P.eqGuardType P.depth t = false ∧ (Op.equalIn 10000 t u v).run P w = .ok b w := by
  obtain ⟨xs, rfl, hxs, hxr⟩ := pureCs_ok hx hu
  obtain ⟨ys, rfl, hys, hyr⟩ := pureCs_ok hy hv
  unfold plainT at hp
  split at hp
  · rename_i fs hd
    cases hc : (!P.stoodInHeld t && !P.eqGuardType P.depth t && fs.toList.all (fun f => f.name != "_") && (fs.toList.map (·.offset) == List.range fs.size)) with
    | false => rw [hc] at hp; simp at hp
    | true =>
      rw [hc, cond_true] at hp
      simp only [Bool.and_eq_true, Bool.not_eq_true', List.all_eq_true, bne_iff_ne, ne_eq, beq_iff_eq] at hc
      obtain ⟨⟨⟨h1, h2⟩, h3⟩, h4⟩ := hc
      refine ⟨xs, ys, rfl, rfl, h2, ?_⟩
      have hfo : P.fieldsOf t = fs := by unfold Program.fieldsOf; rw [hd]
      rw [run_equalIn_struct w 9999 t xs ys (by rw [hfo]; exact hd) h1, hfo]
      refine eqFields_ok (ro := ro) 9998 xs ys fs.toList 0 ks l m b (fun f hf => h3 f hf) hp (by rw [h4, List.range_eq_range']; simp) (fun j x hj => ?_) (fun j x hj => ?_) h
      · have := (List.getElem?_eq_some_iff.1 hj).1
        rw [Nat.zero_add]
        exact ⟨xs[j], Array.getElem?_eq_getElem (by omega), hxr j _ x (Array.getElem?_eq_getElem (by omega)) hj⟩
      · have := (List.getElem?_eq_some_iff.1 hj).1
        rw [Nat.zero_add]
        exact ⟨ys[j], Array.getElem?_eq_getElem (by omega), hyr j _ x (Array.getElem?_eq_getElem (by omega)) hj⟩
  · simp at hp

theorem isNil_ok {x : V} {u : Value} {b : Bool} (h : RepV ro w β L u x) (hb : isNil x = some b) : ∃ a l c, u = .slice a l c ∧ a.isNone = b := by
  cases h with
  | own h t ht => simp [isNil] at hb; subst hb; exact ⟨_, _, _, rfl, rfl⟩
  | nsl => simp [isNil] at hb; subst hb; exact ⟨_, _, _, rfl, rfl⟩
  | c v x h =>
    cases h with
    | sl base es cap sz hc hb' hz val hv hr =>
      cases es with
      | nil => simp [isNil] at hb
      | cons e es =>
        simp [isNil] at hb; subst hb
        obtain ⟨b, o, rfl, _⟩ := hb' (by simp)
        exact ⟨_, _, _, rfl, rfl⟩
    | _ => simp [isNil] at hb
  | _ => simp [isNil] at hb
theorem binK_ok {op : BinOp} {t : TypeId} {x y v : V} {u1 u2 : Value} (ox oy : Operand) (h1 : RepV ro w β L u1 x) (h2 : RepV ro w β L u2 y) (h : binK P op t x y some = some v) :
    ∃ u, (do eqGuard op t ox oy u1 u2; binOp op t u1 u2 : Sem Value).run P w = .ok u w ∧ RepV ro w β L u v := by
  unfold binK at h
  split at h
  · obtain rfl := rep_int h1
    obtain rfl := rep_int h2
    have hg : ∀ (k j : IntKind) (a b : Int), (eqGuard op t ox oy (.int k a) (.int j b)).run P w = .ok () w := fun k j a b => by
      cases op <;> rfl
    simp only [Sem.run_bind, hg, Result.andThen_ok]
    split at h
    · next e =>
      subst e
      split at h
      all_goals first
        | (cases h; exact ⟨_, by simp [binOp, Op.intArith, Op.intCmp], .c _ _ (.int _ _)⟩)
        | (cases h; exact ⟨_, by simp [binOp, Op.intArith, Op.intCmp], .c _ _ (.bool _)⟩)
        | (obtain ⟨hb, h⟩ := cond_none_some h
           cases h
           simp only [beq_eq_false_iff_ne, ne_eq] at hb
           exact ⟨_, by simp [binOp, Op.intDiv, hb], .c _ _ (.int _ _)⟩)
        | (simp at h; done)
    · simp at h
  · obtain rfl := rep_str h1
    obtain rfl := rep_str h2
    have hg : ∀ a b : ByteArray, (eqGuard op t ox oy (.string a) (.string b)).run P w = .ok () w := fun a b => by
      cases op <;> rfl
    simp only [Sem.run_bind, hg, Result.andThen_ok]
    split at h
    · cases h; exact ⟨_, by simp [binOp, Op.stringOp], .c _ _ (.bool _)⟩
    · cases h; exact ⟨_, by simp [binOp, Op.stringOp], .c _ _ (.bool _)⟩
    · obtain ⟨hb, h⟩ := cond_none_some h
      cases h
      have hb' := of_decide_eq_false hb
      exact ⟨_, by simp only [binOp, Op.stringOp]; rw [if_neg hb']; rfl, .c _ _ (.str _)⟩
    · simp at h
  · obtain rfl := rep_bool h1
    obtain rfl := rep_bool h2
    have hg : ∀ a b : Bool, (eqGuard op t ox oy (.bool a) (.bool b)).run P w = .ok () w := fun a b => by
      cases op <;> rfl
    simp only [Sem.run_bind, hg, Result.andThen_ok]
    split at h
    · rename_i hd
      cases h
      exact ⟨_, by simp [binOp, Op.equal, Op.maxDepth, run_equalIn_bool' w 9999 t _ _ hd], .c _ _ (.bool _)⟩
    · rename_i hd
      cases h
      exact ⟨_, by simp [binOp, Op.equal, Op.maxDepth, run_equalIn_bool' w 9999 t _ _ hd], .c _ _ (.bool _)⟩
    · simp at h
  · have hu2 : u2 = .slice none 0 0 := by cases h2; rfl
    subst hu2
    have hg : ∀ (a : Option Addr) (l c : Nat), (eqGuard op t ox oy (.slice a l c) (.slice none 0 0)).run P w = .ok () w := fun a l c => by
      cases op <;> rfl
    split at h
    · rename_i ht
      obtain ⟨b, hb, h⟩ := Option.bind_eq_some_iff.1 h
      cases h
      obtain ⟨a, l, c, rfl, rfl⟩ := isNil_ok h1 hb
      exact ⟨_, by simp only [Sem.run_bind, hg, Result.andThen_ok, Go.run_eql_slice_nil w t _ a l c ht], .c _ _ (.bool _)⟩
    · rename_i ht
      obtain ⟨b, hb, h⟩ := Option.bind_eq_some_iff.1 h
      cases h
      obtain ⟨a, l, c, rfl, rfl⟩ := isNil_ok h1 hb
      exact ⟨_, by simp only [Sem.run_bind, hg, Result.andThen_ok, Go.run_neq_slice_nil w t _ a l c ht], .c _ _ (.bool _)⟩
    · simp at h
  · split at h
    · rename_i hp hx hy
      obtain ⟨b, hb, h⟩ := Option.bind_eq_some_iff.1 h
      cases h
      obtain ⟨xs, ys, rfl, rfl, h3, h4⟩ := equal_ok hp hx hy h1 h2 hb
      exact ⟨.bool b, by simp only [Sem.run_bind, run_eqGuard_agg w _ t ox oy xs ys h3, Result.andThen_ok, run_eql_struct, h4], .c _ _ (.bool _)⟩
    · rename_i hp hx hy
      obtain ⟨b, hb, h⟩ := Option.bind_eq_some_iff.1 h
      cases h
      obtain ⟨xs, ys, rfl, rfl, h3, h4⟩ := equal_ok hp hx hy h1 h2 hb
      exact ⟨.bool (!b), by simp only [Sem.run_bind, run_eqGuard_agg w _ t ox oy xs ys h3, Result.andThen_ok, run_neq_struct, h4], .c _ _ (.bool _)⟩
    · simp at h
theorem unK_ok {op : UnOp} {x v : V} {u : Value} (hu : RepV ro w β L u x) (h : unK op x some = some v) : ∃ u', (Op.unary op u).run P w = .ok u' w ∧ RepV ro w β L u' v := by
  unfold unK at h
  split at h
  · obtain rfl := rep_int hu
    cases h; exact ⟨_, by simp [Op.unary, Op.intArith], .c _ _ (.int _ _)⟩
  · obtain rfl := rep_bool hu
    cases h; exact ⟨_, by simp [Op.unary], .c _ _ (.bool _)⟩
  · simp at h
end
end Go.Proofs.Ytbhojnofdeihdaa.E
