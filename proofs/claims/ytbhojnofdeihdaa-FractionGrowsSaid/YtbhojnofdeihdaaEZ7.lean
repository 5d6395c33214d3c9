/- What is shown here: the operations of a region may come in whatever order. -/
import Derived.Test.YtbhojnofdeihdaaEZ6
namespace Go.Proofs.Ytbhojnofdeihdaa.E
open Go.RowKit
set_option autoImplicit false
set_option linter.unusedVariables false
set_option linter.unusedSimpArgs false
section
variable {P : Program} {hs : Hints} {e : Eng}

theorem opK_congr {α : Type} {H : Heap} {ρ ρ' : Operand → V} {d : Nat} {o : Op} {K : V → List Rd → List Dl → Option α} (h : ∀ x ∈ o.operands, ρ x = ρ' x) : opK P H ρ d o K = opK P H ρ' d o K := by
  have pairs : ∀ ps : Array (Nat × Operand), (∀ x ∈ ps.map (·.2), ρ x = ρ' x) → ps.toList.map (fun p => (p.1, ρ p.2)) = ps.toList.map (fun p => (p.1, ρ' p.2)) := fun ps hp =>
    List.map_congr_left fun p hm => by rw [hp p.2 (Array.mem_map.2 ⟨p, by simpa using hm, rfl⟩)]
  cases o <;> simp only [Op.operands] at h
  case build t ps => simp only [opK]; rw [pairs ps fun x hx => h x (by simpa using hx)]
  case buildSlice t n ps => simp only [opK]; rw [pairs ps fun x hx => h x (by simpa using hx)]
  case makeFunc fn first captured =>
    cases fn <;> simp only [opK]
    rw [List.map_congr_left (l := captured.toList) fun x hx => h x (by simp at hx; simp [hx])]
  case call c =>
    obtain ⟨callee, args, ats⟩ := c
    cases callee with
    | builtin b =>
      simp only [opK]
      rw [List.map_congr_left (l := args.toList) fun x hx => h x (by simp at hx; simp [Call.operands, hx])]
    | _ => rfl
  case makeMap t r => cases r <;> rfl
  case slice t x lo hi mx => cases mx <;> cases lo <;> cases hi <;> simp_all [opK]
  all_goals (first | rfl | (simp only [opK]; simp_all; done))
theorem operK_local {st st' : St} {o : Oper} {x : V × List Rd × List Dl × Option Rnd × Bool} (h : operK P hs e st o (fun v r d s y => some (v, r, d, s, y)) = some x) (hρ : ∀ z ∈ o.op.operands, evalO st.t z = evalO st'.t z)
    (hA : ∀ r ∈ x.2.1, Agree st.H st'.H r) (hσ : x.2.2.2.2 = true → st'.σ = st.σ) :
    (x.2.2.2.2 = false → x.2.2.2.1 = st.σ) ∧ operK P hs e st' o (fun v r d s y => some (v, r, d, s, y)) = some (x.1, x.2.1, x.2.2.1, if x.2.2.2.2 then x.2.2.2.1 else st'.σ, x.2.2.2.2) := by
  unfold operK at h ⊢
  split at h
  · rename_i g args ats hop
    have hg : evalO st'.t g = evalO st.t g := (hρ g (by rw [hop]; simp [Op.operands, Call.operands])).symm
    have hargs : args.toList.map (evalO st'.t) = args.toList.map (evalO st.t) := List.map_congr_left fun z hz => (hρ z (by rw [hop]; simp at hz; simp [Op.operands, Call.operands, hz])).symm
    simp only [hg, hargs]
    split at h
    · split at h
      · rename_i r hr
        obtain ⟨as, has, h⟩ := Option.bind_eq_some_iff.1 h
        obtain ⟨hy, h⟩ := cond_none_some h
        obtain ⟨q, hq, h⟩ := Option.bind_eq_some_iff.1 h
        cases h
        rw [hσ rfl, hr]
        simp only
        rw [purAs_local has (fun i hi => hA _ (mem_looks hi)), Option.bind_some, hy, cond_false, hq]
        exact ⟨by simp, rfl⟩
      · simp at h
    · obtain ⟨f, hf, h⟩ := Option.bind_eq_some_iff.1 h
      obtain ⟨as, has, h⟩ := Option.bind_eq_some_iff.1 h
      have hl : (∀ i ∈ f.2.2, Agree st.H st'.H (.look i)) → (∀ i ∈ as.2, Agree st.H st'.H (.look i)) → funcOf st'.H (evalO st.t g) = some f ∧ purAs st'.H (args.toList.map (evalO st.t)) = some as := fun h1 h2 => ⟨funcOf_local hf h1, purAs_local has h2⟩
      cases hy : as.1.any isYld with
      | true =>
        rw [hy, cond_true] at h
        split at h
        · rename_i r hr
          obtain ⟨l, hl', h⟩ := Option.bind_eq_some_iff.1 h
          obtain ⟨q, hq, h⟩ := Option.bind_eq_some_iff.1 h
          cases h
          obtain ⟨h1, h2⟩ := hl (fun i hi => hA _ (mem_looks (List.mem_append_left _ hi))) (fun i hi => hA _ (mem_looks (List.mem_append_right _ hi)))
          rw [h1, Option.bind_some, h2, Option.bind_some, hy, cond_true, hσ rfl, hr]
          simp only
          rw [hl', Option.bind_some, hq]
          exact ⟨by simp, rfl⟩
        · simp at h
      | false =>
        rw [hy, cond_false] at h
        cases hfr : hs.fresh f.1 with
        | true =>
          rw [hfr, cond_true] at h
          split at h
          · rename_i el dd hu hdst
            split at h
            · rename_i hgd
              obtain ⟨q, hq, h⟩ := Option.bind_eq_some_iff.1 h
              cases h
              obtain ⟨h1, h2⟩ := hl (fun i hi => hA _ (List.mem_cons_of_mem _ (mem_looks (List.mem_append_left _ hi)))) (fun i hi => hA _ (List.mem_cons_of_mem _ (mem_looks (List.mem_append_right _ hi))))
              have hd' := (hA (.free dd) (by simp)).none hgd
              rw [h1, Option.bind_some, h2, Option.bind_some, hy, cond_false, hfr, cond_true]
              simp only [hd', hq]
              exact ⟨by simp, rfl⟩
            · simp at h
          · simp at h
        | false =>
          rw [hfr, cond_false] at h
          obtain ⟨l, hl', h⟩ := Option.bind_eq_some_iff.1 h
          obtain ⟨q, hq, h⟩ := Option.bind_eq_some_iff.1 h
          cases h
          obtain ⟨h1, h2⟩ := hl (fun i hi => hA _ (mem_looks (List.mem_append_left _ hi))) (fun i hi => hA _ (mem_looks (List.mem_append_right _ hi)))
          rw [h1, Option.bind_some, h2, Option.bind_some, hy, cond_false, hfr, cond_false, hl', Option.bind_some, hq]
          exact ⟨fun _ => rfl, rfl⟩
  · rename_i hn
    rw [opK_bind] at h
    obtain ⟨q, hq, h⟩ := Option.bind_eq_some_iff.1 h
    cases h
    refine ⟨fun _ => rfl, ?_⟩
    rw [opK_bind, ← opK_congr hρ, opK_local hq hA]
    rfl

/-! ### what an operation of a region does -/
structure Eqv (st st' : St) : Prop where
  f : st.f = st'.f
  nt : st.nt = st'.nt
  round : st.round = st'.round
  σ : st.σ = st'.σ
  keep : st.keep = st'.keep
  t : ∀ i, get st.t i = get st'.t i
  H : ∀ h, get st.H h = get st'.H h
theorem Eqv.refl (st : St) : Eqv st st := ⟨rfl, rfl, rfl, rfl, rfl, fun _ => rfl, fun _ => rfl⟩
theorem Eqv.symm {st st' : St} (h : Eqv st st') : Eqv st' st := ⟨h.f.symm, h.nt.symm, h.round.symm, h.σ.symm, h.keep.symm, fun i => (h.t i).symm, fun i => (h.H i).symm⟩
theorem Eqv.trans {st st' st2 : St} (h : Eqv st st') (k : Eqv st' st2) : Eqv st st2 := ⟨h.f.trans k.f, h.nt.trans k.nt, h.round.trans k.round, h.σ.trans k.σ, h.keep.trans k.keep, fun i => (h.t i).trans (k.t i), fun i => (h.H i).trans (k.H i)⟩
def dls : Option Rec → List Dl
  | some r => r.dl
  | none => []
def rds : Option Rec → List Rd
  | some r => r.rd
  | none => []
def yOf : Option Rec → Bool
  | some r => r.y
  | none => false
def eff (o : Oper) (v : V) (rc : Option Rec) (s : Option Rnd) (st : St) : St := { st with t := putE st.t o.dst v, H := appAll (dls rc) st.H, σ := if yOf rc then s else st.σ }
theorem get_putE (t : Env) (o : Option Nat) (v : V) (i : Nat) : get (putE t o v) i = if o = some i then some v else get t i := by
  cases o with
  | none => rfl
  | some d =>
    simp only [putE, get_ins, Option.some.injEq]
    by_cases h : i = d
    · subst h; simp
    · rw [if_neg h, if_neg (Ne.symm h)]
/-- What it does to one slot. -/
def Dl.at : Dl → Option Slot → Option Slot
  | .new _ b, _ => some (.live b false)
  | .wr _ w, s => s.map (Slot.wr w)
  | .frz _, s => s.map Slot.frz
  | .kill _, s => s.map fun _ => .dead
def stp (h : Nat) (s : Option Slot) (d : Dl) : Option Slot := if h = dlH d then d.at s else s
theorem get_app (d : Dl) (H : Heap) (h : Nat) : get (d.app H) h = stp h (get H h) d := by
  unfold stp
  cases d with
  | new k b => by_cases q : h = k <;> simp [Dl.app, get_ins, dlH, Dl.at, q]
  | wr k w => by_cases q : h = k <;> simp [Dl.app, get_upd, dlH, Dl.at, q]
  | frz k => by_cases q : h = k <;> simp [Dl.app, get_upd, dlH, Dl.at, q]
  | kill k => by_cases q : h = k <;> simp [Dl.app, get_upd, dlH, Dl.at, q]
theorem get_appAll (h : Nat) : ∀ (l : List Dl) (H : Heap), get (appAll l H) h = l.foldl (stp h) (get H h) := by
  intro l
  induction l with
  | nil => exact fun H => rfl
  | cons d l ih => intro H; simp only [appAll, List.foldl_cons]; rw [ih, get_app]
theorem stp_comm {a b : Dl} (hab : dlDl a b = true) (h : Nat) (s : Option Slot) : stp h (stp h s a) b = stp h (stp h s b) a := by
  unfold stp
  by_cases h1 : h = dlH a
  · by_cases h2 : h = dlH b
    · unfold dlDl at hab
      have he : Nat.beq (dlH a) (dlH b) = true := by rw [← h1, ← h2]; exact Nat.beq_refl h
      rw [he] at hab
      simp only [Bool.not_true, Bool.false_or] at hab
      rw [if_pos h1, if_pos h2, if_pos h1, if_pos h2]
      split at hab
      · rfl
      · rename_i i v _ j u
        cases s with
        | none => rfl
        | some s =>
          simp only [Bool.not_eq_true'] at hab
          have hne : i ≠ j := fun e => by subst e; rw [show Nat.beq i i = true from Nat.beq_refl i] at hab; cases hab
          cases s with
          | dead => rfl
          | live b z => cases b <;> simp [Dl.at, Slot.wr, Wop.app, List.set_comm _ _ hne]
      · rename_i i v _ j u
        cases s with
        | none => rfl
        | some s =>
          simp only [Bool.not_eq_true'] at hab
          have hne : i ≠ j := fun e => by subst e; rw [show Nat.beq i i = true from Nat.beq_refl i] at hab; cases hab
          cases s with
          | dead => rfl
          | live b z => cases b <;> simp [Dl.at, Slot.wr, Wop.app, List.set_comm _ _ hne]
      · cases hab
    · simp only [if_neg h2]
  · simp only [if_neg h1]
theorem fold_comm1 {a : Dl} (h : Nat) : ∀ (m : List Dl), (∀ b ∈ m, dlDl a b = true) → ∀ s, m.foldl (stp h) (stp h s a) = stp h (m.foldl (stp h) s) a := by
  intro m
  induction m with
  | nil => exact fun _ s => rfl
  | cons b m ih =>
    intro hm s
    simp only [List.foldl_cons]
    rw [stp_comm (hm b (by simp)), ih (fun b' hb => hm b' (by simp [hb]))]
theorem fold_comm (h : Nat) : ∀ (l m : List Dl), (∀ a ∈ l, ∀ b ∈ m, dlDl a b = true) → ∀ s, m.foldl (stp h) (l.foldl (stp h) s) = l.foldl (stp h) (m.foldl (stp h) s) := by
  intro l
  induction l with
  | nil => exact fun m _ s => rfl
  | cons a l ih =>
    intro m hm s
    simp only [List.foldl_cons]
    rw [ih m (fun a' ha => hm a' (by simp [ha])), fold_comm1 h m (hm a (by simp))]
theorem agree_app {r : Rd} {d : Dl} (h : rdDl r d = true) (H : Heap) : Agree H (d.app H) r := by
  by_cases he : rdH r = dlH d
  · unfold rdDl at h
    have hb : Nat.beq (rdH r) (dlH d) = true := by rw [he]; exact Nat.beq_refl _
    rw [hb] at h
    simp only [Bool.not_true, Bool.false_or] at h
    split at h
    · simp only [rdH, dlH] at he
      subst he
      rename_i i
      simp only [Agree, get_app, stp, dlH, if_true, Dl.at]
      cases get H i with
      | none => rfl
      | some s => cases s <;> rfl
    · simp only [rdH, dlH] at he
      subst he
      rename_i i j v
      simp only [Agree, get_app, stp, dlH, if_true, Dl.at]
      cases get H i with
      | none => rfl
      | some s => cases s with
        | dead => rfl
        | live b z => cases b <;> simp [Slot.wr, Wop.app, Slot.shape, Blk.shape]
    · simp only [rdH, dlH] at he
      subst he
      rename_i i j v
      simp only [Agree, get_app, stp, dlH, if_true, Dl.at]
      cases get H i with
      | none => rfl
      | some s => cases s with
        | dead => rfl
        | live b z => cases b <;> simp [Slot.wr, Wop.app, Slot.shape, Blk.shape]
    · cases h
  · have : ∀ k, k = rdH r → get (d.app H) k = get H k := fun k hk => by rw [get_app, stp, if_neg (by rw [hk]; exact he)]
    cases r <;> simp only [Agree, rdH] at this ⊢ <;> rw [this _ rfl]
theorem agree_appAll {r : Rd} : ∀ (l : List Dl), (∀ d ∈ l, rdDl r d = true) → ∀ H : Heap, Agree H (appAll l H) r := by
  intro l
  induction l with
  | nil => exact fun _ H => .refl r
  | cons d l ih => exact fun hl H => (agree_app (hl d (by simp)) H).trans (ih (fun d' hd => hl d' (by simp [hd])) _)

theorem eff_congr {o : Oper} {v : V} {rc : Option Rec} {s : Option Rnd} {st st' : St} (h : Eqv st st') : Eqv (eff o v rc s st) (eff o v rc s st') := by
  refine ⟨h.f, h.nt, h.round, ?_, h.keep, fun i => ?_, fun i => ?_⟩
  · simp only [eff, h.σ]
  · simp only [eff, get_putE, h.t]
  · simp only [eff, get_appAll, h.H]

theorem opAt_eff {ops : Array Oper} {i : Nat} {st st1 : St} {rc : Option Rec} (h : opAt P hs e ops i st = some (st1, rc)) :
    ∃ o v s, ops[i]? = some o ∧ (∀ r, rc = some r → r.i = i) ∧ Eqv st1 (eff o v rc s st) ∧ ∀ st' : St, st'.nt = st.nt → (∀ d ∈ o.looksAt ops, get st.t d = get st'.t d) → (∀ r ∈ rds rc, Agree st.H st'.H r) → (yOf rc = true → st'.σ = st.σ) →
      ∃ st1', opAt P hs e ops i st' = some (st1', rc) ∧ Eqv st1' (eff o v rc s st') := by
  unfold opAt at h
  simp only [seqK] at h
  split at h
  · simp at h
  · rename_i o ho
    obtain ⟨hd, h⟩ := cond_some_none h
    have ev : ∀ (t t' : Env), (∀ d ∈ o.looksAt ops, get t d = get t' d) → ∀ z ∈ o.op.operands, evalO t z = evalO t' z := fun t t' ht z hz => by
      cases z with
      | tmp d => simp only [evalO]; rw [ht d (List.mem_append_left _ (List.mem_filterMap.2 ⟨.tmp d, by simpa using hz, rfl⟩))]
      | _ => rfl
    split at h
    · rename_i hgd
      rw [operK_bind] at h
      obtain ⟨x, hx, h⟩ := Option.bind_eq_some_iff.1 h
      cases h
      refine ⟨o, x.1, x.2.2.2.1, ho, fun r hr => ?_, ?_, fun st' hn ht hA hσ => ?_⟩
      · cases hr; rfl
      · have := (operK_local hx (fun _ _ => rfl) (fun r _ => .refl r) (fun _ => rfl)).1
        refine ⟨rfl, rfl, rfl, ?_, rfl, fun _ => rfl, fun _ => rfl⟩
        show x.2.2.2.1 = if x.2.2.2.2 then x.2.2.2.1 else st.σ
        split
        · rfl
        · next q => exact this (by simpa using q)
      · have hk := (operK_local (st' := st') hx (ev _ _ ht) hA hσ).2
        refine ⟨{ st' with nt := st.nt, t := putE st'.t o.dst x.1, H := appAll x.2.2.1 st'.H, σ := if x.2.2.2.2 then x.2.2.2.1 else st'.σ }, ?_, ⟨rfl, hn.symm, rfl, rfl, rfl, fun _ => rfl, fun _ => rfl⟩⟩
        unfold opAt
        simp only [seqK, ho, hn, hd, cond_true, hgd]
        rw [operK_bind, hk]
        rfl
    · rename_i j want hgd
      split at h
      · simp at h
      · rename_i dj hdj
        have hjl : dj ∈ o.looksAt ops := List.mem_append_right _ (by rw [hgd]; simp [hdj])
        split at h
        · rename_i hg
          have gi : ∀ (t : Env), get t dj = some (.tup []) → ∀ k, get (ins dj (.tup []) t) k = get t k := fun t ht k => by
            rw [get_ins]; split
            · next q => rw [q, ht]
            · rfl
          cases h
          rw [ho]
          refine ⟨o, .tup [], none, rfl, by simp, ⟨rfl, rfl, rfl, rfl, rfl, fun k => ?_, fun _ => rfl⟩, fun st' hn ht hA hσ => ?_⟩
          · simp only [eff, get_putE, gi _ hg]
          · have hg' : get st'.t dj = some (.tup []) := by rw [← ht dj hjl]; exact hg
            refine ⟨{ st' with nt := st.nt, t := putE (ins dj (.tup []) st'.t) o.dst (.tup []) }, ?_, ⟨rfl, hn.symm, rfl, rfl, rfl, fun k => ?_, fun _ => rfl⟩⟩
            · unfold opAt
              simp only [seqK, ho, hn, hd, cond_true, hgd, hdj, hg']
            · simp only [eff, get_putE, gi _ hg']
        · rename_i p hg
          have gi : ∀ (t : Env), get t dj = some (.c (.bool p)) → ∀ k, get (ins dj (.c (.bool p)) t) k = get t k := fun t ht k => by
            rw [get_ins]; split
            · next q => rw [q, ht]
            · rfl
          -- carried out
          have exec : (operK P hs e { st with t := ins dj (.c (.bool p)) st.t } o fun v r d s y => some (({ st with t := putE (ins dj (.c (.bool p)) st.t) o.dst v, H := appAll d st.H, σ := s } : St), ([⟨i, r, d, y⟩] : List Rec).head?)) = some (st1, rc) → (p = want) → 
              ∃ o' v s, some o = some o' ∧ (∀ r, rc = some r → r.i = i) ∧ Eqv st1 (eff o' v rc s st) ∧ ∀ st' : St, st'.nt = st.nt → (∀ d ∈ o'.looksAt ops, get st.t d = get st'.t d) → (∀ r ∈ rds rc, Agree st.H st'.H r) → (yOf rc = true → st'.σ = st.σ) →
              ∃ st1', opAt P hs e ops i st' = some (st1', rc) ∧ Eqv st1' (eff o' v rc s st') := fun h hpw => by
            rw [operK_bind] at h
            obtain ⟨x, hx, h⟩ := Option.bind_eq_some_iff.1 h
            cases h
            refine ⟨o, x.1, x.2.2.2.1, rfl, fun r hr => ?_, ?_, fun st' hn ht hA hσ => ?_⟩
            · cases hr; rfl
            · have := (operK_local hx (fun _ _ => rfl) (fun r _ => .refl r) (fun _ => rfl)).1
              refine ⟨rfl, rfl, rfl, ?_, rfl, fun k => ?_, fun _ => rfl⟩
              · show x.2.2.2.1 = if x.2.2.2.2 then x.2.2.2.1 else st.σ
                split
                · rfl
                · next q => exact this (by simpa using q)
              · simp only [eff, get_putE, gi _ hg]
            · have hg' : get st'.t dj = some (.c (.bool p)) := by rw [← ht dj hjl]; exact hg
              have hk := (operK_local (st' := { st' with nt := st.nt, t := ins dj (.c (.bool p)) st'.t }) hx (ev _ _ (fun d hd => by simp only; rw [gi _ hg, gi _ hg']; exact ht d hd)) hA hσ).2
              refine ⟨{ st' with nt := st.nt, t := putE (ins dj (.c (.bool p)) st'.t) o.dst x.1, H := appAll x.2.2.1 st'.H, σ := if x.2.2.2.2 then x.2.2.2.1 else st'.σ }, ?_, ⟨rfl, hn.symm, rfl, rfl, rfl, fun k => ?_, fun _ => rfl⟩⟩
              · unfold opAt
                simp only [seqK, ho, hn, hd, cond_true, hgd, hdj, hg']
                subst hpw
                cases p with
                | true => simp only [cond_true]; rw [operK_bind, hk]; rfl
                | false => simp only [cond_false]; rw [operK_bind, hk]; rfl
              · simp only [eff, get_putE, gi _ hg']
          -- passed over
          have skip : some (({ st with t := putE (ins dj (.c (.bool p)) st.t) o.dst (.tup []) } : St), (none : Option Rec)) = some (st1, rc) → p ≠ want →
              ∃ o' v s, some o = some o' ∧ (∀ r, rc = some r → r.i = i) ∧ Eqv st1 (eff o' v rc s st) ∧ ∀ st' : St, st'.nt = st.nt → (∀ d ∈ o'.looksAt ops, get st.t d = get st'.t d) → (∀ r ∈ rds rc, Agree st.H st'.H r) → (yOf rc = true → st'.σ = st.σ) →
              ∃ st1', opAt P hs e ops i st' = some (st1', rc) ∧ Eqv st1' (eff o' v rc s st') := fun h hpw => by
            cases h
            refine ⟨o, .tup [], none, rfl, by simp, ⟨rfl, rfl, rfl, rfl, rfl, fun k => ?_, fun _ => rfl⟩, fun st' hn ht hA hσ => ?_⟩
            · simp only [eff, get_putE, gi _ hg]
            · have hg' : get st'.t dj = some (.c (.bool p)) := by rw [← ht dj hjl]; exact hg
              refine ⟨{ st' with nt := st.nt, t := putE (ins dj (.c (.bool p)) st'.t) o.dst (.tup []) }, ?_, ⟨rfl, hn.symm, rfl, rfl, rfl, fun k => ?_, fun _ => rfl⟩⟩
              · unfold opAt
                simp only [seqK, ho, hn, hd, cond_true, hgd, hdj, hg']
                cases p <;> cases want <;> first | exact absurd rfl hpw | rfl
              · simp only [eff, get_putE, gi _ hg']
          rw [ho]
          cases p with
          | true =>
            rw [cond_true] at h
            cases want with
            | true => rw [cond_true] at h; exact exec h rfl
            | false => rw [cond_false] at h; exact skip h (by simp)
          | false =>
            rw [cond_false] at h
            cases want with
            | true => rw [cond_true] at h; exact skip h (by simp)
            | false => rw [cond_false] at h; exact exec h rfl
        · simp at h
theorem opAt_congr {ops : Array Oper} {i : Nat} {st st' st1 : St} {rc : Option Rec} (hq : Eqv st st') (h : opAt P hs e ops i st = some (st1, rc)) : ∃ st1', opAt P hs e ops i st' = some (st1', rc) ∧ Eqv st1 st1' := by
  obtain ⟨o, v, s, h1, h2, h3, h4⟩ := opAt_eff h
  obtain ⟨st1', g1, g2⟩ := h4 st' hq.nt.symm (fun d _ => hq.t d) (fun r _ => .of_get hq.H r) (fun _ => hq.σ.symm)
  exact ⟨st1', g1, (h3.trans (eff_congr hq)).trans g2.symm⟩
theorem opsAt_congr {ops : Array Oper} : ∀ (l : List Nat) (st st' st1 : St) (rs : List Rec), Eqv st st' → opsAt P hs e ops l st = some (st1, rs) → ∃ st1', opsAt P hs e ops l st' = some (st1', rs) ∧ Eqv st1 st1' := by
  intro l
  induction l with
  | nil => intro st st' st1 rs hq h; simp only [opsAt] at h ⊢; cases h; exact ⟨st', rfl, hq⟩
  | cons i l ih =>
    intro st st' st1 rs hq h
    simp only [opsAt] at h ⊢
    obtain ⟨x, hx, h⟩ := Option.bind_eq_some_iff.1 h
    obtain ⟨y, hy, h⟩ := Option.bind_eq_some_iff.1 h
    cases h
    obtain ⟨x', g1, g2⟩ := opAt_congr (rc := x.2) (st1 := x.1) hq hx
    obtain ⟨y', g3, g4⟩ := ih x.1 x' y.1 y.2 g2 hy
    exact ⟨y', by rw [g1, Option.bind_some, g3]; rfl, g4⟩
theorem recOk_parts {a b : Rec} (h : recOk a b = true) : (a.y && b.y) = false ∧ (∀ r ∈ a.rd, ∀ d ∈ b.dl, rdDl r d = true) ∧ (∀ r ∈ b.rd, ∀ d ∈ a.dl, rdDl r d = true) ∧ ∀ x ∈ a.dl, ∀ y ∈ b.dl, dlDl x y = true := by
  unfold recOk at h
  simp only [Bool.and_eq_true, List.all_eq_true, Bool.not_eq_true'] at h
  exact ⟨h.1.1.1, h.1.1.2, h.1.2, h.2⟩
/-- TWO OPERATIONS CHANGE PLACES. -/
theorem opAt_comm {ops : Array Oper} {i j : Nat} {oi oj : Oper} {st x y : St} {ri rj : Option Rec} (hi : ops[i]? = some oi) (hj : ops[j]? = some oj) (hap : Oper.apart ops oi oj = true) (h1 : opAt P hs e ops i st = some (x, ri)) (h2 : opAt P hs e ops j x = some (y, rj))
    (hr : ∀ a b, ri = some a → rj = some b → recOk a b = true) : ∃ x' y', opAt P hs e ops j st = some (x', rj) ∧ opAt P hs e ops i x' = some (y', ri) ∧ Eqv y y' := by
  obtain ⟨a1, a2, a3⟩ := Oper.apart_spec hap
  obtain ⟨oi', vi, si, e1, i1, i2, i3⟩ := opAt_eff h1
  obtain ⟨oj', vj, sj, e2, j1, j2, j3⟩ := opAt_eff h2
  rw [hi] at e1; cases e1
  rw [hj] at e2; cases e2
  have hy : (yOf ri && yOf rj) = false := by
    cases ri with
    | none => rfl
    | some a => cases rj with
      | none => simp [yOf]
      | some b => exact (recOk_parts (hr a b rfl rfl)).1
  have hrw1 : ∀ r ∈ rds rj, ∀ d ∈ dls ri, rdDl r d = true := by
    cases ri with
    | none => simp [dls]
    | some a => cases rj with
      | none => simp [rds]
      | some b => exact (recOk_parts (hr a b rfl rfl)).2.2.1
  have hrw2 : ∀ r ∈ rds ri, ∀ d ∈ dls rj, rdDl r d = true := by
    cases ri with
    | none => simp [rds]
    | some a => cases rj with
      | none => simp [dls]
      | some b => exact (recOk_parts (hr a b rfl rfl)).2.1
  have hww : ∀ a ∈ dls ri, ∀ b ∈ dls rj, dlDl a b = true := by
    cases ri with
    | none => simp [dls]
    | some a => cases rj with
      | none => simp [dls]
      | some b => exact (recOk_parts (hr a b rfl rfl)).2.2.2
  obtain ⟨x', g1, g2⟩ := j3 st i2.nt.symm (fun d hd => by rw [i2.t, eff, get_putE, if_neg (fun q => a1 d q hd)])
    (fun r hrr => ((Agree.of_get i2.H r).trans (agree_appAll _ (hrw1 r hrr) st.H).symm))
    (fun hyj => by
      have : yOf ri = false := by cases q : yOf ri with | false => rfl | true => rw [q, hyj] at hy; cases hy
      rw [i2.σ]; simp [eff, this])
  obtain ⟨y', g3, g4⟩ := i3 x' g2.nt (fun d hd => by rw [g2.t, eff, get_putE, if_neg (fun q => a3 d q hd)])
    (fun r hrr => (agree_appAll _ (hrw2 r hrr) st.H).trans (Agree.of_get g2.H r).symm)
    (fun hyi => by
      have : yOf rj = false := by cases q : yOf rj with | false => rfl | true => rw [q, hyi] at hy; cases hy
      rw [g2.σ]; simp [eff, this])
  refine ⟨x', y', g1, g3, (j2.trans (eff_congr i2)).trans ((?_ : Eqv _ _).trans (g4.trans (eff_congr g2)).symm)⟩
  refine ⟨rfl, rfl, rfl, ?_, rfl, fun k => ?_, fun k => ?_⟩
  · simp only [eff]
    cases q1 : yOf ri <;> cases q2 : yOf rj <;> simp [q1, q2] at hy ⊢
  · simp only [eff, get_putE]
    by_cases q1 : oi.dst = some k
    · rw [if_pos q1, if_neg (a2 k q1), if_pos q1]
    · rw [if_neg q1, if_neg q1]
  · simp only [eff, get_appAll]
    exact fold_comm k _ _ hww _
/-- ONE OPERATION MOVES TO THE FRONT. -/
theorem opsAt_front {ops : Array Oper} {j : Nat} {oj : Oper} (hj : ops[j]? = some oj) {l2 : List Nat} : ∀ (l1 : List Nat) (st y : St) (rs : List Rec), opsAt P hs e ops (l1 ++ j :: l2) st = some (y, rs) → (∀ i ∈ l1, ∃ oi, ops[i]? = some oi ∧ Oper.apart ops oi oj = true) →
    (∀ a ∈ rs, ∀ b ∈ rs, a.i ∈ l1 → b.i = j → recOk a b = true) → ∃ x rc y' rs', opAt P hs e ops j st = some (x, rc) ∧ opsAt P hs e ops (l1 ++ l2) x = some (y', rs') ∧ Eqv y y' ∧ (∀ a ∈ rs', a ∈ rs) ∧ (∀ b, rc = some b → b ∈ rs) := by
  intro l1
  induction l1 with
  | nil =>
    intro st y rs h _ _
    simp only [List.nil_append, opsAt] at h
    obtain ⟨x, hx, h⟩ := Option.bind_eq_some_iff.1 h
    obtain ⟨z, hz, h⟩ := Option.bind_eq_some_iff.1 h
    cases h
    exact ⟨x.1, x.2, z.1, z.2, hx, hz, .refl _, fun a ha => by simp [ha], fun b hb => by simp [hb]⟩
  | cons i l1 ih =>
    intro st y rs h hap hrc
    simp only [List.cons_append, opsAt] at h
    obtain ⟨x, hx, h⟩ := Option.bind_eq_some_iff.1 h
    obtain ⟨z, hz, h⟩ := Option.bind_eq_some_iff.1 h
    cases h
    obtain ⟨x2, rj, y', rs', g1, g2, g3, g4, g5⟩ := ih x.1 z.1 z.2 hz (fun i' hi' => hap i' (by simp [hi'])) (fun a ha b hb h1 h2 => hrc a (by simp [ha]) b (by simp [hb]) (by simp [h1]) h2)
    obtain ⟨oi, hoi, hap1⟩ := hap i (by simp)
    obtain ⟨_, _, _, _, hii, _, _⟩ := opAt_eff (rc := x.2) (st1 := x.1) hx
    obtain ⟨_, _, _, _, hjj, _, _⟩ := opAt_eff g1
    obtain ⟨x', y2, k1, k2, k3⟩ := opAt_comm hoi hj hap1 (ri := x.2) hx g1 (fun a b ha hb => hrc a (by simp [ha]) b (by simp [g5 b hb]) (by simp [hii a ha]) (hjj b hb))
    obtain ⟨y3, k4, k5⟩ := opsAt_congr _ _ _ _ _ k3 g2
    refine ⟨x', rj, y3, rs' ++ x.2.toList, k1, ?_, g3.trans k5, fun a ha => ?_, fun b hb => by simp [g5 b hb]⟩
    · simp only [List.cons_append, opsAt]
      rw [k2, Option.bind_some]; simp only; rw [k4]; rfl
    · rcases List.mem_append.1 ha with ha | ha
      · simp [g4 a ha]
      · simp [ha]
end
end Go.Proofs.Ytbhojnofdeihdaa.E
