/- What is shown here: maps, slices, conversions: the machine computes what the evaluator computes. -/
import Derived.Test.YtbhojnofdeihdaaEQ2
namespace Go.Proofs.Ytbhojnofdeihdaa.E
open Go.RowKit
set_option autoImplicit false
set_option linter.unusedVariables false
set_option linter.unusedSimpArgs false
section
variable {P : Program} {ro : Set} {w : World} {β : Tab} {L : Option Nat} {H : Heap} {Own : Set}

theorem beqBA_iff (a b : ByteArray) : (a == b) = true ↔ a = b := by
  rw [beq_toListBytes, beq_iff_eq, ByteArray.toList_eq, ByteArray.toList_eq]
  obtain ⟨⟨x⟩⟩ := a
  obtain ⟨⟨y⟩⟩ := b
  simp
theorem findNow_ok (s : ByteArray) : ∀ (ents : List MapEntry) (es : List (ByteArray × C)) (i0 : Nat), ents.length = es.length →
    (∀ (j : Nat) (m : MapEntry) (p : ByteArray × C), ents[j]? = some m → es[j]? = some p → m.key = .string p.1) →
    (mapGet es s = none ∧ Instr.findNow .string (.string s) ents i0 = some none ∧ ∀ y, mapSet es s y = es ++ [(s, y)]) ∨
    (∃ i m p, mapGet es s = some p.2 ∧ p.1 = s ∧ Instr.findNow .string (.string s) ents i0 = some (some (i0 + i, m.val)) ∧ ents[i]? = some m ∧ es[i]? = some p ∧ ∀ y, mapSet es s y = es.set i (s, y)) := by
  intro ents
  induction ents with
  | nil =>
    intro es i0 hl _
    obtain rfl : es = [] := List.length_eq_zero_iff.1 hl.symm
    exact .inl ⟨rfl, rfl, fun _ => rfl⟩
  | cons m ents ih =>
    intro es i0 hl hk
    cases es with
    | nil => simp at hl
    | cons p es =>
      have hm : m.key = .string p.1 := hk 0 m p rfl rfl
      cases hb : s == p.1 with
      | true =>
        have := (beqBA_iff s p.1).1 hb
        exact .inr ⟨0, m, p, by simp [mapGet, hb], this.symm, by simp [Instr.findNow, hm, Instr.sameNow, hb], rfl, rfl, fun y => by simp [mapSet, hb]⟩
      | false =>
        have hf : Instr.findNow .string (.string s) (m :: ents) i0 = Instr.findNow .string (.string s) ents (i0 + 1) := by simp [Instr.findNow, hm, Instr.sameNow, hb]
        rcases ih es (i0 + 1) (by simpa using hl) (fun j m' p' h1 h2 => hk (j + 1) m' p' (by simpa using h1) (by simpa using h2)) with ⟨h1, h2, h3⟩ | ⟨i, m', p', h1, h2, h3, h4, h5, h6⟩
        · exact .inl ⟨by simp [mapGet, hb, h1], by rw [hf, h2], fun y => by simp [mapSet, hb, h3]⟩
        · exact .inr ⟨i + 1, m', p', by simp [mapGet, hb, h1], h2, by rw [hf, h3]; congr 3; omega, by simpa using h4, by simpa using h5, fun y => by simp [mapSet, hb, h6]⟩
theorem run_zero {e : TypeId} {z : Value} (h : (P.info? e).bind (·.zero) = some z) (w : World) : (zeroValue e).run P w = .ok z w := by
  obtain ⟨i, hi, hz⟩ := Option.bind_eq_some_iff.1 h
  unfold zeroValue
  simp only [Sem.run_bind, run_typeInfo w hi, Result.andThen_ok, hz]
  rfl
theorem run_checkKey {kt : TypeId} (hk : P.underlying kt = some .string) (b : Bool) (s : ByteArray) (w : World) : (Instr.checkKey b 10000 kt (.string s)).run P w = .ok () w := by
  unfold Instr.checkKey
  simp only [Sem.run_bind, run_underlying hk, Result.andThen_ok]
  rfl
theorem run_findKey {kt : TypeId} (hk : P.underlying kt = some .string) (s : ByteArray) (ents : List MapEntry) (r : Option (Nat × Value)) (h : Instr.findNow .string (.string s) ents 0 = some r) (w : World) :
    (Instr.findKey kt (.string s) ents).run P w = .ok r w := by
  unfold Instr.findKey
  simp only [Sem.run_bind, run_underlying hk, Result.andThen_ok, h]
  rfl
theorem run_getObj_map {r : Nat} {ents : Array MapEntry} {clock : Nat} (h : w.heap[r]? = some (.map ents clock)) : (getObj r).run P w = .ok (.map ents clock) w := by
  simp [getObj, Sem.run, h]
theorem lookup_ok {t kt e : TypeId} (hd : P.underlying t = some (.map kt e)) (hk : P.underlying kt = some .string) {r : Nat} {ents : Array MapEntry} {clock : Nat} (hh : w.heap[r]? = some (.map ents clock))
    {es : List (ByteArray × C)} (hs : ents.size = es.length) (hkey : ∀ (j : Nat) (m : MapEntry) (p : ByteArray × C), ents[j]? = some m → es[j]? = some p → m.key = .string p.1)
    (hval : ∀ (j : Nat) (m : MapEntry) (p : ByteArray × C), ents[j]? = some m → es[j]? = some p → Rep ro w m.val p.2) {s : ByteArray} {ok : Bool} {v : V} (h : lookupIn P e es s ok some = some v) :
    ∃ u', (Instr.lookup t (.map (some r)) (.string s) ok).run P w = .ok u' w ∧ RepV ro w β L u' v := by
  have hf := findNow_ok s ents.toList es 0 (by simpa using hs) (fun j m p h1 h2 => hkey j m p (by simpa using h1) h2)
  have pre : ∀ (z : Value), (P.info? e).bind (·.zero) = some z → ∀ res : Option (Nat × Value), Instr.findNow .string (.string s) ents.toList 0 = some res →
      (Instr.lookup t (.map (some r)) (.string s) ok).run P w = .ok (if ok then .tuple #[(match res with | some x => x.2 | none => z), .bool res.isSome] else (match res with | some x => x.2 | none => z)) w := by
    intro z hz res hres
    unfold Instr.lookup
    simp only [Sem.run_bind, run_underlying hd, Result.andThen_ok, run_getObj_map hh, Sem.run_pure, run_checkKey hk, run_findKey hk s _ _ hres]
    cases res with
    | none =>
      simp only [Sem.run_bind, run_zero hz, Result.andThen_ok, Sem.run_pure]
      cases ok <;> rfl
    | some x => cases ok <;> rfl
  have tup2 : ∀ (a b : Value) (x y : V), RepV ro w β L a x → RepV ro w β L b y → RepV ro w β L (.tuple #[a, b]) (.tup [x, y]) := fun a b x y h1 h2 => by
    refine .tup _ _ rfl (fun j v x' hv hx => ?_)
    rcases j with _ | _ | j
    · simp at hv hx; subst hv hx; exact h1
    · simp at hv hx; subst hv hx; exact h2
    · simp at hx
  unfold lookupIn at h
  split at h
  · rename_i k he
    obtain ⟨hz, h⟩ := cond_some_none h
    obtain ⟨rr, hrr, h⟩ := Option.bind_eq_some_iff.1 h
    have hz' : (P.info? e).bind (·.zero) = some (.int k 0) := by
      unfold zI at hz
      split at hz
      · rename_i j z hzz
        simp only [Bool.and_eq_true, decide_eq_true_eq, beq_iff_eq] at hz
        rw [hzz, hz.1, hz.2]
      · simp at hz
    unfold entI at hrr
    rcases hf with ⟨h1, h2, _⟩ | ⟨i, m, p, h1, _, h3, h4, h5, _⟩
    · rw [h1] at hrr
      simp only [Option.some.injEq] at hrr; subst hrr
      have := pre _ hz' _ h2
      cases ok with
      | true => simp only [cond_true] at h; cases h; exact ⟨_, this, tup2 _ _ _ _ (.c _ _ (.int _ _)) (.c _ _ (.bool _))⟩
      | false => simp only [cond_false] at h; cases h; exact ⟨_, this, .c _ _ (.int _ _)⟩
    · rw [h1] at hrr
      obtain ⟨n, hn, hrr⟩ := Option.bind_eq_some_iff.1 hrr
      cases hrr
      have hn := asI_some hn
      have hrep := hval i m p (by simpa using h4) h5
      have := pre _ hz' _ h3
      cases hn' : p.2 with
      | int kk nn =>
        rw [hn'] at hn hrep
        cases hn
        cases ok with
        | true => simp only [cond_true] at h; cases h; exact ⟨_, this, tup2 _ _ _ _ (.c _ _ hrep) (.c _ _ (.bool _))⟩
        | false => simp only [cond_false] at h; cases h; exact ⟨_, this, .c _ _ hrep⟩
      | _ => rw [hn'] at hn; simp at hn
  · rename_i he
    obtain ⟨hz, h⟩ := cond_some_none h
    obtain ⟨rr, hrr, h⟩ := Option.bind_eq_some_iff.1 h
    have hz' : (P.info? e).bind (·.zero) = some (.bool false) := by
      unfold zB at hz
      split at hz
      · rename_i z hzz
        simp only [Bool.not_eq_true'] at hz
        rw [hzz, hz]
      · simp at hz
    unfold entB at hrr
    rcases hf with ⟨h1, h2, _⟩ | ⟨i, m, p, h1, _, h3, h4, h5, _⟩
    · rw [h1] at hrr
      simp only [Option.some.injEq] at hrr; subst hrr
      have := pre _ hz' _ h2
      cases ok with
      | true => simp only [cond_true] at h; cases h; exact ⟨_, this, tup2 _ _ _ _ (.c _ _ (.bool _)) (.c _ _ (.bool _))⟩
      | false => simp only [cond_false] at h; cases h; exact ⟨_, this, .c _ _ (.bool _)⟩
    · rw [h1] at hrr
      obtain ⟨n, hn, hrr⟩ := Option.bind_eq_some_iff.1 hrr
      cases hrr
      have hn := asB_some hn
      have hrep := hval i m p (by simpa using h4) h5
      have := pre _ hz' _ h3
      cases hn' : p.2 with
      | bool nn =>
        rw [hn'] at hn hrep
        cases hn
        cases ok with
        | true => simp only [cond_true] at h; cases h; exact ⟨_, this, tup2 _ _ _ _ (.c _ _ hrep) (.c _ _ (.bool _))⟩
        | false => simp only [cond_false] at h; cases h; exact ⟨_, this, .c _ _ hrep⟩
      | _ => rw [hn'] at hn; simp at hn
  · simp at h
theorem lookupK_ok (hH : RepH ro w β L H Own) {t : TypeId} {m k v : V} {ok : Bool} {r : List Rd} {um uk : Value} (hm : RepV ro w β L um m) (hk : RepV ro w β L uk k)
    (h : lookupK P H t m k ok (fun v r => some (v, r)) = some (v, r)) : ∃ u', (Instr.lookup t um uk ok).run P w = .ok u' w ∧ RepV ro w β L u' v := by
  unfold lookupK at h
  split at h
  · rename_i kt e hh s hd
    obtain rfl := rep_str hk
    split at h
    · rename_i es z hg hkt
      rw [lookupIn_bind] at h
      obtain ⟨v', h1, h2⟩ := Option.bind_eq_some_iff.1 h
      cases h2
      cases hm with
      | mapv _ bt hbt =>
        obtain ⟨t', ht', hB, _⟩ := hH.live _ _ _ hg
        rw [hbt] at ht'; cases ht'
        cases hB with
        | map _ ents clock hh' hs hk' hv' => exact lookup_ok hd hkt hh' hs hk' hv' h1
    · simp at h
  · rename_i kt e es s hd
    obtain rfl := rep_str hk
    split at h
    · rename_i hkt
      rw [lookupIn_bind] at h
      obtain ⟨v', h1, h2⟩ := Option.bind_eq_some_iff.1 h
      cases h2
      cases hm with
      | c _ _ hx =>
        cases hx with
        | mp rr ents clock _ hr hh' hs hk' hv' => exact lookup_ok hd hkt hh' hs hk' hv' h1
    · simp at h
  · simp at h
end
end Go.Proofs.Ytbhojnofdeihdaa.E
