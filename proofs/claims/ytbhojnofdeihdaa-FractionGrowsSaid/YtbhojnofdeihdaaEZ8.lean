/- What is shown here: THE EVALUATOR IS SOUND: what it computes the machine does. -/
import Derived.Test.YtbhojnofdeihdaaEZC
namespace Go.Proofs.Ytbhojnofdeihdaa.E
open Go.RowKit
set_option autoImplicit false
set_option linter.unusedVariables false
set_option linter.unusedSimpArgs false
section
variable {P : Program} {hs : Hints} {e : Eng}

def RunOK (P : Program) (start todo : List Item) (st : St) (res : Res) : Prop :=
  ∀ (b : Frame) (a : Act) (cs : List Frame) (ro : Set) (w : World) (β : Tab) (L : Option Nat) (Own M X : Set), FrameOK b st a w X L → FR st a.tmps ro w β L Own M → Extra ro w Own M X → Ends P b cs (lone (b.atR a start) cs w) st ro w β Own M X L res
def LoopsOK (P : Program) (e : Eng) : Prop := ∀ c k st res, e.loop (.inLoop c :: k) st = some res → RunOK P (.code c :: .inLoop c :: k) (.inLoop c :: k) st res

/-- On from a later state. -/
theorem Ends.later {b : Frame} {cs : List Frame} {m : Machine} {st st1 : St} {ro : Set} {w : World} {β β1 : Tab} {Own M X : Set} {L : Option Nat} {res : Res} {ro1 : Set} {w1 : World} {Own1 M1 : Set} (hrd : (st.round = 0 ↔ st1.round = 0)) (hkp : st1.keep = st.keep) (hβ : ∀ k ∈ st.keep, ∀ tt, β k = some tt → β1 k = some tt)
    (k : FStp ro w (fun x => Own x ∨ X x) M ro1 w1 (fun x => Own1 x ∨ X x) M1) (hrec : ∀ l rec, b.roundOf = some l → w.heap[l]? = some (.loop rec) → ∃ rec1 : Loop, w1.heap[l]? = some (.loop rec1) ∧ ∀ s p, ({ rec1 with state := s, pending := p } : Loop) = { rec with state := s, pending := p })
    (h : Ends P b cs m st1 ro1 w1 β1 Own1 M1 X L res) : Ends P b cs m st ro w β Own M X L res := by
  cases res with
  | ret rs σ' =>
    obtain ⟨h0, w', fr, v, ro', Own', M', h1, h2, h3, h4, h5, h6⟩ := h
    exact ⟨hrd.2 h0, w', fr, v, ro', Own', M', h1, h2, h3, h4, k.trans h5, h6⟩
  | rnd pend H' =>
    refine ⟨fun e => h.1 (hrd.1 e), fun c cs' hc l rec hl hh => ?_⟩
    obtain ⟨rec1, g1, g2⟩ := hrec l rec hl hh
    obtain ⟨w', ro', β', Own', h1, h2, h3, h4, h5, h6, h7, h8⟩ := h.2 c cs' hc l rec1 hl g1
    exact ⟨w', ro', β', Own', h1, by rw [h2, g2], h3, h4, h5, h6, k.trans h7, fun i hi tt ht => h8 i (by rw [hkp]; exact hi) tt (hβ i hi tt ht)⟩
/-- The frame after a piece that left its further blocks alone. -/
theorem FrameOK.step {b : Frame} {st st1 : St} {a a1 : Act} {ro : Set} {w : World} {Own M X ro1 : Set} {w1 : World} {Own1 M1 : Set} {L : Option Nat} (h : FrameOK b st a w X L) (hX : Extra ro w Own M X) (k : FStp ro w Own M ro1 w1 Own1 M1) (hf : st1.f = st.f) (hr : st1.round = st.round) (hd : a1.defers = a.defers) :
    FrameOK b st1 a1 w1 X L ∧ ∀ l rec, b.roundOf = some l → w.heap[l]? = some (.loop rec) → ∃ rec1 : Loop, w1.heap[l]? = some (.loop rec1) ∧ ∀ s p, ({ rec1 with state := s, pending := p } : Loop) = { rec with state := s, pending := p } := by
  obtain ⟨h1, h2, h3⟩ := h
  have hx : ∀ x, X x → w1.heap[x]? = w.heap[x]? := fun x hx => by
    obtain ⟨g1, g2, g3, g4⟩ := hX.out x hx
    exact k.oth x g1 g3 g4
  unfold FrameOK
  rw [hf, hr, hd]
  cases hrd : st.round with
  | zero =>
    rw [hrd] at h3
    obtain ⟨g1, rs, g2, g3, g4, g5⟩ := h3
    refine ⟨⟨h1, h2, g1, rs, g2, g3, g4, fun r hr => by rw [hx r ((g4 r).2 hr)]; exact g5 r hr⟩, fun l rec hl => ?_⟩
    rw [g1] at hl; cases hl
  | succ n =>
    rw [hrd] at h3
    obtain ⟨l, rec, g1, g2, g3, g4, g5, g6⟩ := h3
    have hl : w1.heap[l]? = some (.loop rec) := by rw [hx l ((g4 l).2 rfl)]; exact g5
    refine ⟨⟨h1, h2, l, rec, g1, g2, g3, g4, hl, g6⟩, fun l' rec' hl' hh' => ?_⟩
    rw [g1] at hl'; cases hl'
    rw [g5] at hh'; cases hh'
    exact ⟨rec, hl, fun _ _ => rfl⟩
/-- A region, in whatever order. -/
theorem region_ok (hP : PG P) (hE : ESound P e) {F : Fence} (hF : F.plain = Fence.wide) {id : Nat} {ops : Array Oper} {draw : Bool} {st st' : St} {rs : List Rec} (h : opsAt P hs e ops (List.range ops.size) st = some (st', rs)) (hd : draw = true → drawOk ops rs = true)
    {a : Act} {ro : Set} {w : World} {β : Tab} {L : Option Nat} {Own M : Set} (hR : FR st a.tmps ro w β L Own M) (b : Frame) (hb : b.roundOf = F.round) (k : List Item) (cs : List Frame) :
    ∃ a' ro' w' β' Own' M', Steps P (lone (b.atR a (.code (.region id ops draw) :: k)) cs w) (lone (b.atR a' k) cs w') ∧ a'.defers = a.defers ∧ FR st' a'.tmps ro' w' β' L Own' M' ∧ FStp ro w Own M ro' w' Own' M' ∧ (∀ h t, β h = some t → β' h = some t) := by
  have main : (Code.region id ops draw).wpIn F 0 P (fun e a' w' => e = .normal ∧ ∃ ro' β' Own' M', a'.defers = a.defers ∧ FR st' a'.tmps ro' w' β' L Own' M' ∧ FStp ro w Own M ro' w' Own' M' ∧ (∀ h t, β h = some t → β' h = some t)) a w := by
    cases draw with
    | false => exact wpIn_region (opsAt_ok hP hE hF _ st st' rs h a ro w β L Own M hR (fun a' ro' w' β' Own' M' h1 h2 h3 h4 h5 => ⟨rfl, ro', β', Own', M', h1, h3, h4, h5⟩))
    | true => exact wpIn_region_any hP.mixed (drawn_ok hP hE hF h (hd rfl) hR (fun a' ro' w' β' Own' M' h1 h2 h3 h4 h5 => ⟨rfl, ro', β', Own', M', h1, h3, h4, h5⟩))
  obtain ⟨e', a', w', ⟨rfl, ro', β', Own', M', h1, h2, h3, h4⟩, harr⟩ := main b k cs hb (fn_of hF _) (room_of hF _)
  exact ⟨a', ro', w', β', Own', M', StepsIn.steps harr, h1, h2, h3, h4⟩

theorem runIn_ok (hP : PG P) (hE : ESound P e) (hLp : LoopsOK P e) : ∀ (n : Nat) (todo : List Item) (st : St) (res : Res), runIn P hs e n todo st = some res → RunOK P todo todo st res := by
  intro n
  induction n with
  | zero => intro todo st res h; simp [runIn] at h
  | succ n ih =>
    intro todo st res h b a cs ro w β L Own M X hO hR hX
    unfold runIn at h
    have hkind := hO.1
    have hround0 : st.round = 0 → b.roundOf = none := fun h0 => by have := hO.2.2; rw [h0] at this; exact this.1
    split at h
    · -- the end
      refine finish_ok h hO hR hX (fun h0 _ => ⟨[], .one (stepR_end (hround0 h0))⟩) (fun h0 c cs' l v w' hc hl hr => ?_)
      subst hc
      exact .one (stepR_round_end hl hkind hr)
    · rename_i k
      refine finish_ok h hO hR hX (fun h0 _ => ⟨_, .one (stepR_ret (hround0 h0))⟩) (fun h0 c cs' l v w' hc hl hr => ?_)
      subst hc
      exact .one (stepR_round_ret hl hkind hr)
    · exact (ih _ st res h b a cs ro w β L Own M X hO hR hX).of_steps (.one stepR_skip)
    · exact (ih _ st res h b a cs ro w β L Own M X hO hR hX).of_steps (.one stepR_inBlock)
    · -- a round begins
      rename_i k
      obtain ⟨hr1, h⟩ := cond_some_none h
      have hr1 := Nat.eq_of_beq_eq_true hr1
      have hO' := hO
      obtain ⟨g1, g2, g3⟩ := hO'
      rw [hr1] at g3
      obtain ⟨l, rec, g4, g5, g6, g7, g8, g9⟩ := g3
      have hrun := run_beginRound (P := P) g8 (g9 rfl)
      obtain ⟨hR1, hX1, hF1⟩ := hR.putObj hX ((g7 l).2 rfl) (.loop { rec with state := .busy }) (fun rec' hl => by rw [g8] at hl; cases hl; exact ⟨_, rfl, rfl⟩)
      have hh1 : (w.putObj l (.loop { rec with state := .busy })).heap[l]? = some (.loop { rec with state := .busy }) := World.putObj_heap_same (Array.getElem?_eq_some_iff.1 g8).1
      have k1 := ih _ { st with round := 2 } res h b a cs ro _ β L Own M X ⟨g1, g2, l, { rec with state := .busy }, g4, g5, g6, g7, hh1, fun e => by simp at e⟩ ⟨hR1.nt, hR1.tmps, hR1.heap, hR1.apart, hR1.sig⟩ hX1
      refine Ends.later (st1 := { st with round := 2 }) (by rw [hr1]; simp) rfl (fun _ _ _ h => h) hF1 (fun l' rec' hl' hh' => ?_) (k1.of_steps (.one (stepR_beginRound g4 hrun)))
      rw [g4] at hl'; cases hl'
      rw [g8] at hh'; cases hh'
      exact ⟨_, hh1, fun _ _ => rfl⟩
    · exact (ih _ st res h b a cs ro w β L Own M X hO hR hX).of_steps (.one stepR_seq)
    · rename_i c x y k
      split at h
      · rename_i t ht
        have hc := evalO_ok hR c
        rw [ht] at hc
        have hc := rep_bool hc
        cases t with
        | true => rw [cond_true] at h; exact (ih _ st res h b a cs ro w β L Own M X hO hR hX).of_steps (.one (stepR_cond hc))
        | false => rw [cond_false] at h; exact (ih _ st res h b a cs ro w β L Own M X hO hR hX).of_steps (.one (stepR_cond hc))
      · simp at h
    · exact (ih _ st res h b a cs ro w β L Own M X hO hR hX).of_steps (.one stepR_block)
    · rename_i c k
      obtain ⟨β', Own', c1, c2, c3⟩ := clean_ok hs c hR
      obtain ⟨t1, t2⟩ := hO.step (st1 := clean hs c st) (a1 := a) hX c2 rfl rfl rfl
      exact (Ends.later (st1 := clean hs c st) Iff.rfl rfl c3 (c2.wide X) t2 (hLp _ _ _ res h b a cs ro w β' L Own' M X t1 c1 (hX.step c2))).of_steps (.one stepR_loop)
    · rename_i c k
      obtain ⟨β', Own', c1, c2, c3⟩ := clean_ok hs c hR
      obtain ⟨t1, t2⟩ := hO.step (st1 := clean hs c st) (a1 := a) hX c2 rfl rfl rfl
      exact (Ends.later (st1 := clean hs c st) Iff.rfl rfl c3 (c2.wide X) t2 (hLp _ _ _ res h b a cs ro w β' L Own' M X t1 c1 (hX.step c2))).of_steps (.one stepR_inLoop)
    · rename_i id k
      split at h
      · rename_i k' hk
        exact (ih _ st res h b a cs ro w β L Own M X hO hR hX).of_steps (.one (stepR_exit hk))
      · rename_i hk
        refine finish_ok h hO hR hX (fun h0 hne => absurd rfl (hne id)) (fun h0 c cs' l v w' hc hl hr => ?_)
        subst hc
        exact .one (stepR_round_exit hl hkind hk hr)
    · -- a region
      rename_i id ops draw k
      rw [seqK_all] at h
      obtain ⟨x, hx, h⟩ := Option.bind_eq_some_iff.1 h
      obtain ⟨F, hF, hb⟩ : ∃ F : Fence, F.plain = Fence.wide ∧ b.roundOf = F.round := by
        cases hq : b.roundOf with
        | none => exact ⟨Fence.wide, rfl, rfl⟩
        | some l => exact ⟨Fence.wide.inRound l, rfl, rfl⟩
      have hx' : opsAt P hs e ops (List.range ops.size) st = some (x.1, x.2) := hx
      have fin : runIn P hs e n k x.1 = some res → (draw = true → drawOk ops x.2 = true) → Ends P b cs (lone (b.atR a (.code (.region id ops draw) :: k)) cs w) st ro w β Own M X L res := fun hk hd => by
        obtain ⟨a', ro', w', β', Own', M', s1, s2, s3, s4, s5⟩ := region_ok (id := id) hP hE hF hx' hd hR b hb k cs
        have hst := opsAt_keep _ _ _ _ hx'
        obtain ⟨t1, t2⟩ := hO.step hX s4 hst.1 hst.2.1 s2
        exact ((ih _ x.1 res hk b a' cs ro' w' β' L Own' M' X t1 s3 (hX.step s4)).of_steps s1).later (by rw [hst.2.1]) hst.2.2.2 (fun k _ tt h => s5 k tt h) (s4.wide X) t2
      rw [List.append_nil] at h
      cases draw with
      | true =>
        rw [cond_true] at h
        obtain ⟨hd, h⟩ := cond_some_none h
        exact fin h (fun _ => hd)
      | false => rw [cond_false] at h; exact fin h (fun e => by cases e)
    · -- a range over a function
      rename_i g ps assign body k
      split at h
      · rename_i hσ hrd
        obtain ⟨f, hf, h⟩ := Option.bind_eq_some_iff.1 h
        split at h
        · rename_i rs r hcall
          have hcont : ∃ todo, runIn P hs e n todo { st with t := r.t, H := r.H } = some res ∧ todo = (r.pend.map Item.code).toList ++ k := by
            split at h
            · rename_i hp; exact ⟨_, h, by rw [hp]; rfl⟩
            · rename_i c hp; exact ⟨_, h, by rw [hp]; rfl⟩
          obtain ⟨todo, hcont, htodo⟩ := hcont
          subst htodo
          have hL0 : (∀ b, ¬ M b) ∧ L = none := by have := hR.sig; rw [hσ] at this; exact this
          obtain ⟨hM0, rfl⟩ := hL0
          have hM : M = fun _ => False := funext fun b => propext ⟨hM0 b, fun h => h.elim⟩
          subst hM
          obtain ⟨hk, hfn, hO⟩ := hO
          rw [hrd] at hO
          obtain ⟨hro, ms, hds, hnd, hXr, hmk⟩ := hO
          obtain ⟨f1, caps, f2, f3, f4⟩ := funcOf_ok hR.heap hf (evalO_ok hR g)
          obtain ⟨ro1, Own1, hH1, st1, k1⟩ := frzs_ok f.2.2 hR.apart.sane hR.heap f1
          have hcaps := f4 ro1 st1.grow k1
          have ha1 := hR.apart.of_ostp st1
          obtain ⟨fn, hfn1, hfn2⟩ := hE.able _ _ _ _ hcall
          -- the record and the block for deferred calls
          obtain ⟨rec, hrec⟩ : ∃ rec : Loop, rec = { state := .ready, pending := none, fn := b.fn, tmps := a.tmps, params := ps, assign, body, defers := w.heap.size } := ⟨_, rfl⟩
          obtain ⟨w2, hw2⟩ : ∃ w2, (w.alloc (.deferred (some []))).alloc (.loop rec) = w2 := ⟨_, rfl⟩
          have hz2 : w2.heap.size = w.heap.size + 2 := by rw [← hw2]; simp [World.size_alloc]
          have hL2 : w2.heap[w.heap.size + 1]? = some (.loop rec) := by
            rw [← hw2]; have := World.alloc_heap_new (w.alloc (.deferred (some []))) (.loop rec); rwa [World.size_alloc] at this
          have hD2 : w2.heap[w.heap.size]? = some (.deferred (some [])) := by
            rw [← hw2]; exact (Below.heap_alloc _ _ _ (by simp)).trans (World.alloc_heap_new w _)
          have hold : ∀ x, x < w.heap.size → w2.heap[x]? = w.heap[x]? := fun x hx => by
            rw [← hw2]; exact (Below.heap_alloc _ _ _ (by simp; omega)).trans (Below.heap_alloc _ _ _ hx)
          have hro1 : ∀ x, ro1 x → x < w.heap.size := fun x hx => ha1.r x hx
          have hown1 : ∀ x, Own1 x → x < w.heap.size := fun x hx => (ha1.own x hx).1
          have hkro : ∀ x, ro1 x → w2.heap[x]? = w.heap[x]? := fun x hx => hold x (hro1 x hx)
          have hown1' : ∀ x, Own1 x → Own x := fun x hx => (st1.newown x hx).elim id (fun g => by have := hown1 x hx; omega)
          have hro1' : ∀ x, ro1 x → ro x ∨ Own x := fun x hx => (st1.newro x hx).elim .inl (fun g => g.elim .inr (fun g => by have := hro1 x hx; omega))
          have hA2 : Apart ro1 w2 (fun _ => False) (fun x => x = w.heap.size + 1 ∨ Own1 x) := ⟨fun x hx => by have := hro1 x hx; omega, fun x hx => hx.elim, fun x hx => by
            rcases hx with rfl | hx
            · exact ⟨by omega, fun hr => by have := hro1 _ hr; omega, fun h => h⟩
            · exact ⟨by have := hown1 x hx; omega, (ha1.own x hx).2, fun h => h⟩⟩
          have hS2 : SRel (some (w.heap.size + 1)) (fun x => x = w.heap.size + 1 ∨ Own1 x) (some { f := st.f, nt := st.nt, t := st.t, H := appAll (frzs f.2.2) st.H, ps := ps.toList, assign, body, pend := none }) ro1 w2 := by
            refine ⟨w.heap.size + 1, β, Own1, a.tmps, w.heap.size, rfl, fun x => Iff.rfl, fun hx => by have := hown1 _ hx; omega, fun hx => by have := hro1 _ hx; omega, by omega, ?_, hR.nt, fun i v hi => ?_, hH1.step (fun _ h => h) hkro (fun x hx => hold x (hown1 x hx)), ⟨fun x hx => ?_, fun x hx => (ha1.own x hx).2⟩⟩
            · rw [hL2, hrec]; simp [hfn]
            · obtain ⟨u, g1, g2⟩ := hR.tmps i v hi
              exact ⟨u, g1, (g2.mono st1.grow st1.keep (fun _ _ h => h)).mono (fun _ h => h) hkro (fun _ _ h => h)⟩
            · rcases hx with hx | hx
              · have := hro1 x hx; omega
              · have := hown1 x hx; omega
          have hcaps2 : ∀ (j : Nat) (y : Value) (x : C), caps[j]? = some y → f.2.1[j]? = some x → Rep ro1 w2 y x := fun j y x h1 h2 => (hcaps j y x h1 h2).mono (fun _ h => h) hkro
          obtain ⟨c1, c2⟩ := args_cat (ro := ro1) (w := w2) (L := some (w.heap.size + 1)) (args := #[.func (.yield (w.heap.size + 1)) #[] #[]]) (as := [.yld]) rfl (fun j v a' h1 h2 => by
            match j with
            | 0 => simp at h1 h2; subst h1; subst h2; exact ⟨by simp, .yld _ rfl⟩
            | j + 1 => simp at h2) f3 hcaps2
          have hcl := hE.call _ _ _ _ _ hcall ro1 w2 (some (w.heap.size + 1)) _ _ hA2 hS2 c1 c2
          obtain ⟨en, w3, fr, ⟨v, ro3, M3, rfl, q1, q2, q3, q4⟩, hcomes, hfr, hleave⟩ := hcl (b.atR { a with defers := { target := .collected w.heap.size, args := #[] } :: a.defers } (.inRangeFunc (w.heap.size + 1) :: k) :: cs)
          have hcomes : Steps P _ _ := hcomes
          obtain ⟨l', β3, Own3, tm3, dB3, e1, e2, e3, e4, e5, e6, e7, e8, e9, e10⟩ := q3
          cases e1
          have htm3 : tm3 = a.tmps := by
            obtain ⟨rec', g1, g2⟩ := q1.loops _ _ hL2
            rw [e6] at g1; cases g1
            rw [hrec] at g2; exact g2
          subst htm3
          have hend := run_endLoop (P := P) e6 (by cases r.pend <;> simp)
          obtain ⟨w4, hw4⟩ : ∃ w4, w4 = w3.putObj (w.heap.size + 1) (.loop { ({ state := if r.pend.isSome then .done else .ready, pending := r.pend, fn := r.f, tmps := a.tmps, params := r.ps.toArray, assign := r.assign, body := r.body, defers := dB3 } : Loop) with state := .exhausted }) := ⟨_, rfl⟩
          have hz4 : w4.heap.size = w3.heap.size := by rw [hw4]; simp
          have hne4 : ∀ x, x ≠ w.heap.size + 1 → w4.heap[x]? = w3.heap[x]? := fun x hx => by rw [hw4]; exact World.putObj_heap_other hx
          have hstart : step P (lone (b.atR a (.code (.rangeFunc g ps assign body) :: k)) cs w) = .next (lone (Frame.enter P f.1 (#[.func (.yield (w.heap.size + 1)) #[] #[]] ++ caps) .normal) (b.atR { a with defers := [{ target := .collected w.heap.size, args := #[] }] ++ a.defers } (.inRangeFunc (w.heap.size + 1) :: k) :: cs) w2) := by
            refine stepR_rangeFunc (l := w.heap.size + 1) (w₁ := w2) (w₁' := w2) (d := { target := .fn (.func f.1) caps, args := #[.func (.yield (w.heap.size + 1)) #[] #[]] }) ?_ ?_ ?_
            · rw [hro, ← hw2, hrec]; exact run_enterLoop_outer _ _ _ _ _
            · simp only [resolve, rangeCall, f2, Deferred.ofValue, Sem.run_pure]
              have hmap : (#[] : Array Value) ++ Array.map a.eval #[Operand.const (.func (.yield (w.heap.size + 1)) #[] #[])] = #[.func (.yield (w.heap.size + 1)) #[] #[]] := by simp; rfl
              rw [hmap]
            · simp only [invoke, Array.empty_append]
              exact run_callFunc hP hfn1 hfn2 _ w2
          have hsteps : Steps P (lone (b.atR a (.code (.rangeFunc g ps assign body) :: k)) cs w) (lone (b.atR { a with defers := { target := .collected w.heap.size, args := #[] } :: a.defers } ((r.pend.map Item.code).toList ++ k)) cs w4) := by
            refine .head hstart (hcomes.trans (.head (step_leave_returned hleave) ?_))
            rw [finish_atR_inRangeFunc]
            rw [hw4]
            exact .one (stepR_endRangeFunc hend)
          -- where things lie
          have hro3 : ∀ x, ro3 x → x ≠ w.heap.size + 1 := fun x hx e => e4 (e ▸ hx)
          have hown3 : ∀ x, Own3 x → Own1 x ∨ w2.heap.size ≤ x := fun x hx => by
            rcases q1.newM x ((e2 x).2 (.inr hx)) with (g | g) | g
            · exact absurd (g ▸ hx) e3
            · exact .inl g
            · exact .inr g
          have hro3' : ∀ x, ro3 x → ro1 x ∨ Own1 x ∨ w2.heap.size ≤ x := fun x hx => by
            rcases q1.newro x hx with g | g | (g | g) | g
            · exact .inl g
            · exact g.elim
            · exact absurd g (hro3 x hx)
            · exact .inr (.inl g)
            · exact .inr (.inr g)
          have hkeep34 : ∀ x, ro3 x → w4.heap[x]? = w3.heap[x]? := fun x hx => hne4 x (hro3 x hx)
          have hown34 : ∀ x, Own3 x → w4.heap[x]? = w3.heap[x]? := fun x hx => hne4 x (fun e => e3 (e ▸ hx))
          have hXout : ∀ x, X x → x < w.heap.size ∧ ¬ ro1 x ∧ ¬ Own1 x := fun x hx => by
            obtain ⟨g1, g2, g3, _⟩ := hX.out x hx
            exact ⟨g1, fun h => (hro1' x h).elim g2 g3, fun h => g3 (hown1' x h)⟩
          have hstay : ∀ x, x < w2.heap.size → x ≠ w.heap.size + 1 → ¬ Own1 x → w4.heap[x]? = w2.heap[x]? := fun x h1 h2 h3 => (hne4 x h2).trans (q1.oth x h1 (fun h => h) (fun h => h.elim h2 h3))
          have hDout : ¬ ro3 w.heap.size ∧ ¬ Own3 w.heap.size := ⟨fun h => by
            rcases hro3' _ h with g | g | g
            · have := hro1 _ g; omega
            · have := hown1 _ g; omega
            · omega, fun h => by
            rcases hown3 _ h with g | g
            · have := hown1 _ g; omega
            · omega⟩
          have hR4 : FR { st with t := r.t, H := r.H } a.tmps ro3 w4 β3 none Own3 (fun _ => False) := by
            refine ⟨hR.nt, fun i v hi => ?_, e9.step (fun _ h => h) hkeep34 hown34, ⟨fun x hx => by rw [hz4]; exact q2.r x hx, fun x hx => ?_, fun x hx => hx.elim⟩, ?_⟩
            · obtain ⟨u, g1, g2⟩ := e8 i v hi
              exact ⟨u, g1, g2.mono (fun _ h => h) hkeep34 (fun _ _ h => h)⟩
            · have := q2.m x ((e2 x).2 (.inr hx))
              exact ⟨by rw [hz4]; exact this.1, this.2.1⟩
            · show SRel none _ st.σ _ _
              rw [hσ]; exact ⟨fun _ h => h, rfl⟩
          have hX4 : Extra ro3 w4 Own3 (fun _ => False) (fun x => X x ∨ x = w.heap.size) := ⟨fun x hx => by
            have hz3 := q1.size
            rcases hx with hx | rfl
            · obtain ⟨g1, g2, g3⟩ := hXout x hx
              refine ⟨by omega, fun h => ?_, fun h => ?_, fun h => h⟩
              · rcases hro3' x h with g | g | g
                · exact g2 g
                · exact g3 g
                · omega
              · rcases hown3 x h with g | g
                · exact g3 g
                · omega
            · exact ⟨by omega, hDout.1, hDout.2, fun h => h⟩⟩
          have hmk4 : Marks ({ target := .collected w.heap.size, args := #[] } :: a.defers) (fun x => X x ∨ x = w.heap.size) w4 := by
            refine ⟨w.heap.size :: ms, by rw [hds]; rfl, List.nodup_cons.2 ⟨fun hm => ?_, hnd⟩, fun x => ?_, fun x hx => ?_⟩
            · have := (hXout _ ((hXr _).2 hm)).1; omega
            · rw [List.mem_cons]; exact ⟨fun h => h.elim (fun h => .inr ((hXr x).1 h)) .inl, fun h => h.elim .inr (fun h => .inl ((hXr x).2 h))⟩
            · rcases List.mem_cons.1 hx with rfl | hx
              · rw [hstay _ (by omega) (by omega) (fun h => by have := hown1 _ h; omega)]; exact hD2
              · obtain ⟨g1, g2, g3⟩ := hXout x ((hXr x).2 hx)
                rw [hstay _ (by omega) (by omega) g3, hold x g1]; exact hmk x hx
          have hF4 : FStp ro w (fun x => Own x ∨ X x) (fun _ => False) ro3 w4 (fun x => Own3 x ∨ X x ∨ x = w.heap.size) (fun _ => False) := by
            have hz3 := q1.size
            have hw2os : w2.os = w.os ∧ w2.tape = w.tape ∧ w2.output = w.output := by rw [← hw2]; exact ⟨rfl, rfl, rfl⟩
            have hw4os : w4.os = w3.os ∧ w4.tape = w3.tape ∧ w4.output = w3.output := by rw [hw4]; exact ⟨rfl, rfl, rfl⟩
            refine ⟨hw4os.1.trans (q1.os.trans hw2os.1), hw4os.2.1.trans (q1.tape.trans hw2os.2.1), hw4os.2.2.trans (q1.output.trans hw2os.2.2), by omega, fun x hx => q1.grow x (st1.grow x hx), fun x hx => ?_, fun x hx ho _ => ?_, fun x hx => ?_, fun x hx => ?_, fun x hx => hx.elim, fun l0 rec0 hl0 => ?_⟩
            · have hx1 := st1.grow x hx
              rw [hne4 x (by have := hro1 x hx1; omega), q1.keep x hx1]; exact hkro x hx1
            · rw [hstay x (by omega) (by omega) (fun h => ho (.inl (hown1' x h)))]; exact hold x hx
            · rcases hro3' x hx with g | g | g
              · exact (hro1' x g).elim .inl (fun g => .inr (.inl (.inl g)))
              · exact .inr (.inl (.inl (hown1' x g)))
              · exact .inr (.inr (.inr (by omega)))
            · rcases hx with hx | hx | rfl
              · rcases hown3 x hx with g | g
                · exact .inl (.inl (hown1' x g))
                · exact .inr (by omega)
              · exact .inl (.inr hx)
              · exact .inr (Nat.le_refl _)
            · have hlt : l0 < w.heap.size := (Array.getElem?_eq_some_iff.1 hl0).1
              obtain ⟨rec1, g1, g2⟩ := q1.loops l0 rec0 (by rw [hold l0 hlt]; exact hl0)
              exact ⟨rec1, by rw [hne4 l0 (by omega)]; exact g1, g2⟩
          have hO4 : FrameOK b { st with t := r.t, H := r.H } { a with defers := { target := .collected w.heap.size, args := #[] } :: a.defers } w4 (fun x => X x ∨ x = w.heap.size) none := by
            refine ⟨hk, hfn, ?_⟩
            show match st.round with | 0 => _ | k + 1 => _
            rw [hrd]; exact ⟨hro, hmk4⟩
          have hEnd := ih _ _ res hcont b { a with defers := { target := .collected w.heap.size, args := #[] } :: a.defers } cs ro3 w4 β3 none Own3 _ _ hO4 hR4 hX4
          have hEnd := hEnd.of_steps hsteps
          cases res with
          | ret rs' σ' =>
            obtain ⟨h0, w', fr', v', ro', Own', M', h1, h2, h3, h4, h5, h6⟩ := hEnd
            have h5' := hF4.trans h5
            exact ⟨h0, w', fr', v', ro', Own', M', h1, h2, h3, h4, ⟨h5'.os, h5'.tape, h5'.output, h5'.size, h5'.grow, h5'.keep, h5'.oth, h5'.newro, fun x hx => h5'.newown x (hx.elim .inl (fun g => .inr (.inl g))), h5'.newM, h5'.loops⟩, h6⟩
          | rnd pend H' => exact absurd hrd hEnd.1
        · simp at h
      · simp at h
    · simp at h
end
end Go.Proofs.Ytbhojnofdeihdaa.E
