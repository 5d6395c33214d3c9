/- What is shown here: an operation in a frame, calls and yields among them. -/
import Derived.Test.YtbhojnofdeihdaaEZ2
namespace Go.Proofs.Ytbhojnofdeihdaa.E
open Go.RowKit
set_option autoImplicit false
set_option linter.unusedVariables false
set_option linter.unusedSimpArgs false
section
variable {P : Program} {hs : Hints} {e : Eng}

/-- What an operation leaves: its value, the memory, the frame's other temporaries. -/
structure Left (st : St) (tm : Array Value) (ro : Set) (w : World) (Own M : Set) (H' : Heap) (σ' : Option Rnd) (u : Value) (v : V) (ro' : Set) (w' : World) (β' : Tab) (L : Option Nat) (Own' M' : Set) : Prop where
  val : RepV ro' w' β' L u v
  tmps : ∀ i x, get st.t i = some x → ∃ y, tm[i]? = some y ∧ RepV ro' w' β' L y x
  heap : RepH ro' w' β' L H' Own'
  apart : Apart ro' w' Own' M'
  sig : SRel L M' σ' ro' w'
  step : FStp ro w Own M ro' w' Own' M'

theorem Apart.of_ostp {ro : Set} {w : World} {β : Tab} {Own M ro' : Set} {w' : World} {β' : Tab} {Own' : Set} (ha : Apart ro w Own M) (h : OStp ro w β Own ro' w' β' Own') : Apart ro' w' Own' M := by
  refine ⟨fun b hb => h.bound b (.inl hb), fun b hb => ⟨h.bound b (.inr hb), h.dis b hb⟩, fun b hb => ?_⟩
  obtain ⟨h1, h2, h3⟩ := ha.m b hb
  refine ⟨Nat.lt_of_lt_of_le h1 h.size, fun hr => ?_, fun ho => ?_⟩
  · rcases h.newro b hr with g | g | g
    · exact h2 g
    · exact h3 g
    · omega
  · rcases h.newown b ho with g | g
    · exact h3 g
    · omega
theorem FStp.of_ostp {ro : Set} {w : World} {β : Tab} {Own ro' : Set} {w' : World} {β' : Tab} {Own' : Set} (M : Set) (h : OStp ro w β Own ro' w' β' Own') : FStp ro w Own M ro' w' Own' M :=
  ⟨h.os, h.tape, h.output, h.size, h.grow, h.keep, fun b hb ho _ => h.oth b hb ho, fun b hb => (h.newro b hb).elim .inl (fun g => g.elim (fun g => .inr (.inl g)) (fun g => .inr (.inr (.inr g)))), h.newown, fun b hb => .inl hb, h.loops⟩
theorem SRel.of_ostp {L : Option Nat} {ro : Set} {w : World} {β : Tab} {Own M ro' : Set} {w' : World} {β' : Tab} {Own' : Set} {σ : Option Rnd} (hS : SRel L M σ ro w) (ha : Apart ro w Own M) (h : OStp ro w β Own ro' w' β' Own') : SRel L M σ ro' w' :=
  hS.mono h.grow h.keep (fun b hb => h.oth b (ha.m b hb).1 (ha.m b hb).2.2) (fun b hb => ((ha.of_ostp h).m b hb).2.1) h.size (fun b hb => h.bound b (.inl hb))

/-- The blocks of a frame lie still while a callee runs. -/
theorem over_call {ro : Set} {w : World} {β : Tab} {L : Option Nat} {H : Heap} {Own M Mc ro' : Set} {w' : World} {Mc' : Set} (hH : RepH ro w β L H Own) (ha : Apart ro w Own M) (hMc : ∀ b, Mc b → M b) (h : FStp ro w (fun _ => False) Mc ro' w' (fun _ => False) Mc')
    (ha' : Apart ro' w' (fun _ => False) Mc') : RepH ro' w' β L H Own ∧ (∀ b, Own b → b < w'.heap.size ∧ ¬ ro' b ∧ ¬ Mc' b) := by
  have hk : ∀ b, Own b → w'.heap[b]? = w.heap[b]? := fun b hb => h.oth b (ha.own b hb).1 (fun h => h) (fun hm => (ha.m b (hMc b hm)).2.2 hb)
  refine ⟨hH.step h.grow h.keep hk, fun b hb => ⟨Nat.lt_of_lt_of_le (ha.own b hb).1 h.size, fun hr => ?_, fun hm => ?_⟩⟩
  · rcases h.newro b hr with g | g | g | g
    · exact (ha.own b hb).2 g
    · exact g
    · exact (ha.m b (hMc b g)).2.2 hb
    · have := (ha.own b hb).1; omega
  · rcases h.newM b hm with g | g
    · exact (ha.m b (hMc b g)).2.2 hb
    · have := (ha.own b hb).1; omega

theorem args_cat {ro : Set} {w : World} {L : Option Nat} {args caps : Array Value} {as : List A} {cs : List C} (h1 : args.size = as.length) (h2 : ∀ (j : Nat) (v : Value) (a : A), args[j]? = some v → as[j]? = some a → RepA ro w L v a)
    (h3 : caps.size = cs.length) (h4 : ∀ (j : Nat) (y : Value) (x : C), caps[j]? = some y → cs[j]? = some x → Rep ro w y x) :
    (args ++ caps).size = (as ++ cs.map A.one).length ∧ ∀ (j : Nat) (v : Value) (a : A), (args ++ caps)[j]? = some v → (as ++ cs.map A.one)[j]? = some a → RepA ro w L v a := by
  refine ⟨by simp [h1, h3], fun j v a hv ha => ?_⟩
  by_cases hj : j < as.length
  · rw [Array.getElem?_append_left (by omega)] at hv
    rw [List.getElem?_append_left hj] at ha
    exact h2 j v a hv ha
  · rw [Array.getElem?_append_right (by omega)] at hv
    rw [List.getElem?_append_right (by omega), List.getElem?_map] at ha
    obtain ⟨x, hx, rfl⟩ := Option.map_eq_some_iff.1 ha
    rw [h1] at hv
    exact ⟨by simp, .c _ _ (h4 _ v x hv hx)⟩
theorem run_callFunc (hP : PG P) {f : Nat} {fn : Func} (h1 : P.funcs[f]? = some fn) (h2 : fn.body.isSome = true) (args : Array Value) (w : World) : (callFunc f args).run P w = .ok (.enter f args) w := by
  unfold callFunc
  simp only [Sem.run_bind, run_program, Result.andThen_ok, h1, hP.ng f fn h1 h2, Bool.false_eq_true, if_false]
  have : fn.body.isNone = false := by cases hb : fn.body <;> simp_all
  simp only [this, Bool.false_eq_true, if_false]
  rfl
theorem run_call (hP : PG P) {f : Nat} {fn : Func} (h1 : P.funcs[f]? = some fn) (h2 : fn.body.isSome = true) {o : Oper} {g : Operand} {args : Array Operand} {ts : Array TypeId} (ho : o.op = .call { callee := .value g, args, argTypes := ts }) {ρ : Operand → Value} {caps : Array Value} (hg : ρ g = .func (.func f) #[] caps) (w : World) :
    (execOp ρ o).run P w = .ok (.enter f (args.map ρ ++ caps)) w := by
  unfold execOp
  rw [ho]
  simp only [resolve, hg, Deferred.ofValue, Sem.run_bind, Sem.run_pure, Result.andThen_ok, invoke, Array.empty_append]
  exact run_callFunc hP h1 h2 _ w
theorem run_callYield {o : Oper} {g : Operand} {args : Array Operand} {ts : Array TypeId} (ho : o.op = .call { callee := .value g, args, argTypes := ts }) {ρ : Operand → Value} {l : Nat} (hg : ρ g = .func (.yield l) #[] #[]) (w : World) :
    (execOp ρ o).run P w = (Instr.yield l (args.map ρ)).run P w := by
  unfold execOp
  rw [ho]
  simp only [resolve, hg, Deferred.ofValue, Sem.run_bind, Sem.run_pure, Result.andThen_ok, invoke, Array.empty_append]

theorem RepB.mono' {ro : Set} {w : World} {t : Bt} {sz : Nat} {es : List (List C)} (h : RepB ro w (fun _ => none) none t (.arr sz es)) (β : Tab) (L : Option Nat) : RepB ro w β L t (.arr sz es) := by
  cases h with
  | arr _ c el hh hs hn hc hz hr => exact .arr _ c el hh hs hn hc hz hr
theorem fenced_of {F : Fence} (hF : F.plain = Fence.wide) : Machine.fenced P F = Machine.fenced P Fence.wide := by rw [← fenced_plain P F, hF]
theorem room_of {F : Fence} (hF : F.plain = Fence.wide) (n : Nat) : F.room n := fun d hd => by
  have : F.depth = F.plain.depth := rfl
  rw [this, hF] at hd; simp [Fence.wide] at hd
theorem fn_of {F : Fence} (hF : F.plain = Fence.wide) (f : Nat) : F.fn f := by
  have : F.fn = F.plain.fn := rfl
  rw [this, hF]; trivial
theorem callsIn_of {F : Fence} (hF : F.plain = Fence.wide) {n : Nat} {f : Nat} {args : Array Value} {w : World} {R : Ending → World → Prop} (h : Calls P f args w R) : CallsIn F n P f args w R := by
  have h' := (callsIn_wide (n := n)).2 h
  refine ⟨fn_of hF f, fun cs _ => ?_⟩
  obtain ⟨en, w', fr, h1, h2, h3⟩ := h'.2 cs (room_wide _)
  exact ⟨en, w', fr, h1, by rw [fenced_of hF]; exact h2, h3⟩
theorem roundIn_of {F : Fence} (hF : F.plain = Fence.wide) {n : Nat} {l f : Nat} {tmps : Array Value} {assign body : Code} {w : World} {R : Ending → World → Prop} (h : RoundIn Fence.wide 0 P l f tmps assign body w R) : RoundIn F n P l f tmps assign body w R := by
  refine ⟨fn_of hF f, fun c cs _ => ?_⟩
  obtain ⟨en, w', h1, h2⟩ := h.2 c cs (room_wide _)
  exact ⟨en, w', h1, by rw [fenced_of hF]; exact h2⟩
theorem repA_noyld {ro : Set} {w : World} {L : Option Nat} {u : Value} {a : A} (h : RepA ro w L u a) (hn : isYld a = false) (L' : Option Nat) : RepA ro w L' u a := by
  obtain ⟨h1, h2⟩ := h
  refine ⟨h1, ?_⟩
  cases a with
  | one x => exact .c _ _ (repC h2)
  | agg n cs => cases h2 with | pagg vs _ hs hr => exact .pagg vs _ hs hr
  | arr sz es => exact absurd rfl (h1 sz es)
  | yld => simp [isYld] at hn
/-- What is left behind a call. -/
theorem after_call {st : St} {tm : Array Value} {ro : Set} {w : World} {β : Tab} {L : Option Nat} {Own M ro1 Own1 : Set} {H1 : Heap} (hR : FR st tm ro w β L Own M) (hH1 : RepH ro1 w β L H1 Own1) (st1 : OStp ro w β Own ro1 w β Own1)
    {Mc ro2 : Set} {w2 : World} {M2 : Set} (hMc : ∀ b, Mc b → M b) (k : FStp ro1 w (fun _ => False) Mc ro2 w2 (fun _ => False) M2) (ha2 : Apart ro2 w2 (fun _ => False) M2) {M' : Set} (hM1 : ∀ b, M' b → M2 b ∨ (M b ∧ ¬ Mc b)) (hM2 : ∀ b, M b → ¬ M' b → Mc b) {σ' : Option Rnd} (hsig : SRel L M' σ' ro2 w2) {u : Value} {v : V} (hv : RepV ro2 w2 β L u v) :
    Left st tm ro w Own M H1 σ' u v ro2 w2 β L Own1 M' := by
  have ha1 := hR.apart.of_ostp st1
  obtain ⟨hH2, hown⟩ := over_call hH1 ha1 hMc k ha2
  have hM3 : ∀ b, M b → ¬ Mc b → b < w2.heap.size ∧ ¬ ro2 b := fun b hb hc => by
    have g := ha1.m b hb
    refine ⟨Nat.lt_of_lt_of_le g.1 k.size, fun hr => ?_⟩
    rcases k.newro b hr with q | q | q | q
    · exact g.2.1 q
    · exact q
    · exact hc q
    · have := g.1; omega
  refine ⟨hv, fun i z hi => ?_, hH2, ⟨ha2.r, fun b hb => ⟨(hown b hb).1, (hown b hb).2.1⟩, fun b hb => ?_⟩, hsig, (FStp.of_ostp M st1).trans ⟨k.os, k.tape, k.output, k.size, k.grow, k.keep, fun b hb ho hm => k.oth b hb (fun h => h) (fun h => hm (hMc b h)), fun b hb => ?_, fun b hb => .inl hb, fun b hb => ?_, k.loops⟩⟩
  · obtain ⟨y, h1, h2⟩ := hR.tmps i z hi
    exact ⟨y, h1, (h2.mono st1.grow st1.keep (fun _ _ h => h)).mono k.grow k.keep (fun _ _ h => h)⟩
  · rcases hM1 b hb with g | ⟨g1, g2⟩
    · exact ⟨(ha2.m b g).1, (ha2.m b g).2.1, fun ho => (hown b ho).2.2 g⟩
    · exact ⟨(hM3 b g1 g2).1, (hM3 b g1 g2).2, (ha1.m b g1).2.2⟩
  · rcases k.newro b hb with q | q | q | q
    · exact .inl q
    · exact q.elim
    · exact .inr (.inr (.inl (hMc b q)))
    · exact .inr (.inr (.inr q))
  · rcases hM1 b hb with g | ⟨g1, g2⟩
    · exact (k.newM b g).elim (fun q => .inl (hMc b q)) .inr
    · exact .inl g1
theorem not_defer {o : Oper} {st : St} {K : V → List Rd → List Dl → Option Rnd → Bool → Option Unit} {x : Unit} (h : operK P hs e st o K = some x) : ∀ c, o.op ≠ .defer c := by
  intro c hc
  unfold operK at h
  rw [hc] at h
  simp [opK] at h

/-- ONE OPERATION OF A FRAME. -/
theorem operK_ok (hP : PG P) (hE : ESound P e) {F : Fence} (hF : F.plain = Fence.wide) {st : St} {o : Oper} {v : V} {r : List Rd} {d : List Dl} {s : Option Rnd} {y : Bool} (h : operK P hs e st o (fun v r d s y => some (v, r, d, s, y)) = some (v, r, d, s, y))
    {a : Act} {ro : Set} {w : World} {β : Tab} {L : Option Nat} {Own M : Set} (hR : FR st a.tmps ro w β L Own M) {n : Nat} {next : Act → World → Prop} {Q : Exit → Act → World → Prop}
    (hnext : ∀ u ro' w' β' Own' M', Left st a.tmps ro w Own M (appAll d st.H) s u v ro' w' β' L Own' M' → (∀ h t, β h = some t → β' h = some t) → next (a.put o.dst u) w') : o.wpIn F n P a w next Q := by
  have hfn : ∀ f, F.fn f := fun f => by
    have : F.fn = F.plain.fn := rfl
    rw [this, hF]; trivial
  have hdep : F.depth.isSome = true → 1 ≤ n := fun h => by
    have : F.depth = F.plain.depth := rfl
    rw [this, hF] at h; simp [Fence.wide] at h
  refine ⟨fun f _ => hfn f, ?_⟩
  have hnd : ∀ c, o.op ≠ .defer c := fun c hc => by
    unfold operK at h; rw [hc] at h; simp [opK] at h
  rw [Oper.semAt_eq _ _ _ hnd]
  have hρ := fun x => evalO_ok hR x
  have hsane := hR.apart.sane
  unfold operK at h
  split at h
  · rename_i g args ats hop
    split at h
    · -- a round
      rename_i hg
      split at h
      · rename_i rr hσ
        obtain ⟨as, has, h⟩ := Option.bind_eq_some_iff.1 h
        obtain ⟨hnoy, h⟩ := cond_none_some h
        obtain ⟨x, hx, h⟩ := Option.bind_eq_some_iff.1 h
        cases h
        obtain ⟨p1, p2, p3⟩ := purAs_ok hR.heap _ as has
        obtain ⟨ro1, Own1, hH1, st1, k1⟩ := frzs_ok as.2 hsane hR.heap p1
        have ha1 := hR.apart.of_ostp st1
        have hs1 := hR.sig.of_ostp hR.apart st1
        have hgr := hρ g
        rw [hg] at hgr
        have hgl : ∃ l, L = some l ∧ a.eval g = .func (.yield l) #[] #[] := by
          generalize a.eval g = uu at hgr
          cases hgr with
          | yld l hl => exact ⟨l, hl, rfl⟩
        obtain ⟨l, rfl, hgl⟩ := hgl
        rw [hσ] at hs1
        have hargs : ∀ (j : Nat) (v : Value) (a' : A), (args.map a.eval)[j]? = some v → as.1[j]? = some a' → RepA ro1 w (some l) v a' := fun j v a' h1 h2 => by
          rw [Array.getElem?_map] at h1
          obtain ⟨q, hq, rfl⟩ := Option.map_eq_some_iff.1 h1
          exact p3 ro1 st1.grow k1 j (evalO st.t q) a' _ (by rw [List.getElem?_map, Array.getElem?_toList, hq]; rfl) h2 (hρ q)
        have hny : ∀ a' ∈ as.1, isYld a' = false := fun a' ha' => by
          rw [List.any_eq_false] at hnoy
          simpa using hnoy a' ha'
        obtain ⟨tmps, hrun, hround⟩ := hE.yield _ _ _ _ hx ro1 w l M (args.map a.eval) ⟨ha1.r, fun b hb => hb.elim, fun b hb => ⟨(ha1.m b hb).1, (ha1.m b hb).2.1, fun h => h⟩⟩ hs1 (by rw [p2]; simp) (fun j v a' h1 h2 => repA_noyld (hargs j v a' h1 h2) (hny a' (List.mem_of_getElem? h2)) none)
        rw [run_callYield hop hgl, hrun]
        refine ⟨hdep, (roundIn_of hF hround).mono ?_⟩
        rintro en w2 ⟨rfl, ro2, M2, q1, q2, q3⟩
        exact hnext _ ro2 w2 β Own1 M2 (after_call hR hH1 st1 (fun _ h => h) q1 q2 (fun b hb => .inl hb) (fun b hb _ => hb) q3 (.c _ _ (.bool _))) (fun _ _ h => h)
      · simp at h
    · -- a call
      rename_i gv hgy
      obtain ⟨f, hf, h⟩ := Option.bind_eq_some_iff.1 h
      obtain ⟨as, has, h⟩ := Option.bind_eq_some_iff.1 h
      obtain ⟨f1, caps, f2, f3, f4⟩ := funcOf_ok hR.heap hf (hρ g)
      obtain ⟨p1, p2, p3⟩ := purAs_ok hR.heap _ as has
      obtain ⟨ro1, Own1, hH1, st1, k1⟩ := frzs_ok (f.2.2 ++ as.2) hsane hR.heap (fun i hi => (List.mem_append.1 hi).elim (f1 i) (p1 i))
      have ha1 := hR.apart.of_ostp st1
      have hs1 := hR.sig.of_ostp hR.apart st1
      have hargs : ∀ (j : Nat) (v : Value) (a' : A), (args.map a.eval)[j]? = some v → as.1[j]? = some a' → RepA ro1 w L v a' := fun j v a' h1 h2 => by
        rw [Array.getElem?_map] at h1
        obtain ⟨q, hq, rfl⟩ := Option.map_eq_some_iff.1 h1
        exact p3 ro1 st1.grow (fun i hi => k1 i (by simp [hi])) j (evalO st.t q) a' _ (by rw [List.getElem?_map, Array.getElem?_toList, hq]; rfl) h2 (hρ q)
      have hcaps := f4 ro1 st1.grow (fun i hi => k1 i (by simp [hi]))
      cases hy : as.1.any isYld with
      | true =>
        rw [hy, cond_true] at h
        split at h
        · rename_i rr hσ
          obtain ⟨l, hl, h⟩ := Option.bind_eq_some_iff.1 h
          obtain ⟨x, hx, h⟩ := Option.bind_eq_some_iff.1 h
          cases h
          unfold callS at hx
          split at hx
          · rename_i rs r' hcall
            obtain ⟨x', hx', hx⟩ := Option.bind_eq_some_iff.1 hx
            cases hx
            rw [hσ] at hs1
            obtain ⟨fn, hfn1, hfn2⟩ := hE.able _ _ _ _ hcall
            obtain ⟨c1, c2⟩ := args_cat (w := w) (ro := ro1) (L := L) (args := args.map a.eval) (as := as.1) (by rw [p2]; simp) hargs f3 hcaps
            have hc := hE.call _ _ _ _ _ hcall ro1 w L M _ ⟨ha1.r, fun b hb => hb.elim, fun b hb => ⟨(ha1.m b hb).1, (ha1.m b hb).2.1, fun h => h⟩⟩ hs1 c1 c2
            rw [run_call hP hfn1 hfn2 hop f2]
            refine ⟨hdep, CallsIn.mono (callsIn_of hF hc) ?_⟩
            rintro en w2 ⟨v2, ro2, M2, rfl, q1, q2, q3, q4⟩
            obtain ⟨ts, hts, hl⟩ := Option.bind_eq_some_iff.1 hl
            exact hnext _ ro2 w2 β Own1 M2 (after_call hR hH1 st1 (fun _ h => h) q1 q2 (fun b hb => .inl hb) (fun b hb _ => hb) q3 (res_ok hts hl hx' q4 β L)) (fun _ _ h => h)
          · simp at hx
        · simp at h
      | false =>
        rw [hy, cond_false] at h
        have hny : ∀ a' ∈ as.1, isYld a' = false := fun a' ha' => by
          rw [List.any_eq_false] at hy
          simpa using hy a' ha'
        have hargs' : ∀ (j : Nat) (v : Value) (a' : A), (args.map a.eval)[j]? = some v → as.1[j]? = some a' → RepA ro1 w none v a' := fun j v a' h1 h2 => repA_noyld (hargs j v a' h1 h2) (hny a' (List.mem_of_getElem? h2)) none
        obtain ⟨c1, c2⟩ := args_cat (w := w) (ro := ro1) (L := none) (args := args.map a.eval) (as := as.1) (by rw [p2]; simp) hargs' f3 hcaps
        have hae : Apart ro1 w (fun _ => False) (fun _ => False) := ⟨ha1.r, fun b hb => hb.elim, fun b hb => hb.elim⟩
        have keepσ : ∀ (ro2 : Set) (w2 : World) (M2 : Set), FStp ro1 w (fun _ => False) (fun _ => False) ro2 w2 (fun _ => False) M2 → Apart ro2 w2 (fun _ => False) M2 → SRel L M st.σ ro2 w2 := fun ro2 w2 M2 k ha2 =>
          hs1.mono k.grow k.keep (fun b hb => k.oth b (ha1.m b hb).1 (fun h => h) (fun h => h)) (fun b hb hr => by
            rcases k.newro b hr with q | q | q | q
            · exact (ha1.m b hb).2.1 q
            · exact q
            · exact q
            · have := (ha1.m b hb).1; omega) k.size ha2.r
        cases hfr : hs.fresh f.1 with
        | true =>
          rw [hfr, cond_true] at h
          split at h
          · rename_i el dd hty hdst
            split at h
            · rename_i hgd
              obtain ⟨es, hes, h⟩ := Option.bind_eq_some_iff.1 h
              cases h
              unfold callF at hes
              split at hes
              · rename_i z es' hcall
                split at hes
                · next hz =>
                  cases hes
                  rw [← hz] at hnext
                  obtain ⟨fn, hfn1, hfn2⟩ := hE.able _ _ _ _ hcall
                  have hc := hE.call _ _ _ _ _ hcall ro1 w none (fun _ => False) _ hae ⟨fun _ h => h, rfl⟩ c1 c2
                  rw [run_call hP hfn1 hfn2 hop f2]
                  clear hz
                  refine ⟨hdep, CallsIn.mono (callsIn_of hF hc) ?_⟩
                  rintro en w2 ⟨v2, ro2, M2, rfl, q1, q2, q3, q4⟩
                  have hL := after_call (H1 := appAll (frzs (f.2.2 ++ as.2)) st.H) (u := Go.undef) (v := .undef) hR hH1 st1 (Mc := fun _ => False) (fun _ h => h.elim) q1 q2 (M' := M) (fun b hb => .inr ⟨hb, fun h => h⟩) (fun b hb hn => absurd hb hn) (keepσ ro2 w2 M2 q1 q2) (.undef _)
                  rw [hdst]
                  cases q4 with
                  | many vs as' hn hs' hr' => simp at hn
                  | one v' a' ha => exact absurd rfl (ha.1 _ _)
                  | fresh t es'' hB hr1 hr2 hr3 =>
                    have hne : ∀ i ∈ f.2.2 ++ as.2, i ≠ dd := fun i hi e => by
                      subst e
                      rcases List.mem_append.1 hi with hi | hi
                      · obtain ⟨b, z, hg⟩ := f1 _ hi; rw [hgd] at hg; cases hg
                      · obtain ⟨b, z, hg⟩ := p1 _ hi; rw [hgd] at hg; cases hg
                    have hd1 : get (appAll (frzs (f.2.2 ++ as.2)) st.H) dd = none := by rw [get_frzs _ _ hne]; exact hgd
                    obtain ⟨β', b1, b2, b3⟩ := adopt_ok hL.apart.sane hL.heap hd1 t (.arr t.sz es) (fun h' b' z' t' g1 g2 => by have := hH1.bound g1 g2; omega) (fun β' _ _ => hB.mono' β' L)
                    have htl : t.b < w2.heap.size := by
                      cases hB with
                      | arr _ c el hh' hs' hn' hc' hz' hr' => exact (Array.getElem?_eq_some_iff.1 hh').1
                    have := hnext (.slice (some ⟨t.b, 0, none⟩) t.n t.cap) ro2 w2 β' (fun x => Own1 x ∨ x = t.b) M ⟨?_, fun i z hi => ?_, ?_, ⟨hL.apart.r, fun b hb => ?_, fun b hb => ?_⟩, hL.sig, ⟨hL.step.os, hL.step.tape, hL.step.output, hL.step.size, hL.step.grow, hL.step.keep, hL.step.oth, hL.step.newro, fun b hb => ?_, hL.step.newM, hL.step.loops⟩⟩ b2
                    · rw [hdst] at this; exact this
                    · have hn : t.n = es.length := by cases hB; assumption
                      rw [← hn]; exact .own dd t b3
                    · obtain ⟨y', g1, g2⟩ := hL.tmps i z hi
                      exact ⟨y', g1, g2.mono (fun _ h => h) (fun _ _ => rfl) b2⟩
                    · rw [appAll_append]; exact b1
                    · rcases hb with hb | hb
                      · exact hL.apart.own b hb
                      · rw [hb]; exact ⟨htl, hr1⟩
                    · have g := hL.apart.m b hb
                      refine ⟨g.1, g.2.1, fun ho => ?_⟩
                      rcases ho with ho | ho
                      · exact g.2.2 ho
                      · have := (hR.apart.m b hb).1; omega
                    · rcases hb with hb | hb
                      · exact hL.step.newown b hb
                      · exact .inr (by omega)
                · simp at hes
              · simp at hes
            · simp at h
          · simp at h
        | false =>
          rw [hfr, cond_false] at h
          obtain ⟨l, hl, h⟩ := Option.bind_eq_some_iff.1 h
          obtain ⟨x, hx, h⟩ := Option.bind_eq_some_iff.1 h
          cases h
          unfold callD at hx
          split at hx
          · rename_i rs hcall
            obtain ⟨fn, hfn1, hfn2⟩ := hE.able _ _ _ _ hcall
            have hc := hE.call _ _ _ _ _ hcall ro1 w none (fun _ => False) _ hae ⟨fun _ h => h, rfl⟩ c1 c2
            rw [run_call hP hfn1 hfn2 hop f2]
            refine ⟨hdep, CallsIn.mono (callsIn_of hF hc) ?_⟩
            rintro en w2 ⟨v2, ro2, M2, rfl, q1, q2, q3, q4⟩
            obtain ⟨ts, hts, hl⟩ := Option.bind_eq_some_iff.1 hl
            exact hnext _ ro2 w2 β Own1 M (after_call hR hH1 st1 (Mc := fun _ => False) (fun _ h => h.elim) q1 q2 (fun b hb => .inr ⟨hb, fun h => h⟩) (fun b hb hn => absurd hb hn) (keepσ ro2 w2 M2 q1 q2) (res_ok hts hl hx q4 β L)) (fun _ _ h => h)
          · simp at hx
  · -- no call
    rw [opK_bind] at h
    obtain ⟨x, hx, h⟩ := Option.bind_eq_some_iff.1 h
    cases h
    obtain ⟨nx, w', ro', β', Own', hrun, hval, hH', hst⟩ := opK_ok hsane hR.heap hρ o hx
    have hleft : ∀ u, RepV ro' w' β' L u x.1 → Left st a.tmps ro w Own M (appAll x.2.2 st.H) st.σ u x.1 ro' w' β' L Own' M := fun u hu =>
      ⟨hu, fun i z hi => by obtain ⟨y', h1, h2⟩ := hR.tmps i z hi; exact ⟨y', h1, h2.mono hst.grow hst.keep hst.tab⟩, hH', hR.apart.of_ostp hst, hR.sig.of_ostp hR.apart hst, .of_ostp M hst⟩
    rw [hrun]
    rcases hval with ⟨u, rfl, hu⟩ | ⟨rfl, hv⟩
    · exact hnext u ro' w' β' Own' M (hleft u hu) hst.tab
    · exact hnext Go.undef ro' w' β' Own' M (hleft _ (by rw [hv]; exact .undef _)) hst.tab
end
end Go.Proofs.Ytbhojnofdeihdaa.E
