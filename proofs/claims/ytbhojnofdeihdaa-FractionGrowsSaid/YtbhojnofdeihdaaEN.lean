/- What is shown here: a function that gives an empty slice for an empty slice does what is asked of a call. -/
import Derived.Test.YtbhojnofdeihdaaET
namespace Go.Proofs.Ytbhojnofdeihdaa.E
open Go.RowKit
set_option autoImplicit false
set_option linter.unusedVariables false
theorem FStp.of_below {ro M : Set} {w w' : World} (hA : Apart ro w (fun _ => False) M) (h : Below w.heap.size w w') : FStp ro w (fun _ => False) M ro w' (fun _ => False) M :=
  ⟨h.os, h.tape, h.output, h.size, fun _ h => h, fun b hb => h.block b (hA.r b hb), fun b hb _ _ => h.block b hb, fun _ => .inl, fun _ => .inl, fun _ => .inl,
    fun l rec hl => ⟨rec, by rw [h.block l (Array.getElem?_eq_some_iff.1 hl).1]; exact hl, rfl⟩⟩
theorem Apart.of_below {ro M : Set} {w w' : World} (hA : Apart ro w (fun _ => False) M) (h : Below w.heap.size w w') : Apart ro w' (fun _ => False) M :=
  ⟨fun b hb => Nat.lt_of_lt_of_le (hA.r b hb) h.size, fun b hb => hb.elim, fun b hb => ⟨Nat.lt_of_lt_of_le (hA.m b hb).1 h.size, (hA.m b hb).2⟩⟩
theorem rep_empty {ro : Set} {w : World} (base : Option Addr) (cap : Nat) : Rep ro w (.slice base 0 cap) (.sl []) :=
  .sl base [] cap 1 (Nat.zero_le _) (fun h => absurd rfl h) (by simp) (fun _ _ => .bool true) (by simp) (by simp)
theorem clone_ok {P : Program} {f e sz : Nat} (h1 : ∀ (n c : Nat) (w : World), Calls P f #[.slice none n c] w fun en w' => en = .returned (.slice none 0 0) ∧ w' = w)
    (h2 : ∀ (a : Addr) (c : Nat) (w : World), Calls P f #[.slice (some a) 0 c] w fun en w' => ∃ v', en = .returned v' ∧ w'.ownsRow w.heap.size e sz v' 0 [] ∧ v' ≠ .slice none 0 0 ∧ Below w.heap.size w w') :
    CallOK P f [.one (.sl [])] none [.one (.sl [])] none := by
  intro ro w L M vargs hA hS hsz hargs
  obtain ⟨hM, rfl⟩ := hS
  obtain ⟨v, rfl⟩ : ∃ v, vargs = #[v] := ⟨vargs[0]'(by simp at hsz; omega), by
    apply Array.ext
    · simpa using hsz
    · intro i h1 h2
      have : i = 0 := by simp at h2; omega
      subst this; rfl⟩
  have hv := (hargs 0 v _ rfl rfl).2
  cases hv with
  | c _ _ hv =>
    generalize hx : C.sl [] = x at hv
    cases hv with
    | sl base es cap sz hc hb hz val hvv hr =>
      cases hx
      cases base with
      | none =>
        refine (h1 _ _ _).mono ?_
        rintro en w' ⟨rfl, rfl⟩
        exact ⟨_, ro, M, rfl, .refl _ _ _ _, hA, ⟨hM, rfl⟩, .one _ _ ⟨by simp, .c _ _ (rep_empty _ _)⟩⟩
      | some a =>
        refine (h2 _ _ _).mono ?_
        rintro en w' ⟨v', rfl, ho, hne, hbel⟩
        refine ⟨v', ro, M, rfl, .of_below hA hbel, .of_below hA hbel, ⟨hM, rfl⟩, .one _ _ ⟨by simp, .c _ _ ?_⟩⟩
        rcases ho.2 with ⟨h, _⟩ | ⟨g, cap, cur, h, _⟩
        · exact absurd h hne
        · rw [h]; exact rep_empty _ _
    | _ => cases hx
/-- What is known of the functions l from elsewhere: an empty slice for an empty slice. -/
def cloneOrc (l : List Nat) (f : Nat) (as : List A) : Option (List A) :=
  bif l.any (Nat.beq f) then (match as with
    | [.one (.sl [])] => some [.one (.sl [])]
    | _ => none) else none
theorem orc_of {P : Program} {hs : Hints} {l : List Nat} (ho : hs.orc = cloneOrc l) (hc : ∀ f ∈ l, CallOK P f [.one (.sl [])] none [.one (.sl [])] none)
    (hb : ∀ f ∈ l, ∃ fn, P.funcs[f]? = some fn ∧ fn.body.isSome = true) : OrcOK P hs := by
  have key : ∀ f as rs, hs.orc f as = some rs → f ∈ l ∧ as = [.one (.sl [])] ∧ rs = [.one (.sl [])] := fun f as rs h => by
    rw [ho] at h
    unfold cloneOrc at h
    obtain ⟨h1, h2⟩ := cond_some_none h
    rw [List.any_eq_true] at h1
    obtain ⟨g, hg, he⟩ := h1
    have := Nat.eq_of_beq_eq_true he
    subst this
    split at h2
    · cases h2; exact ⟨hg, rfl, rfl⟩
    · cases h2
  refine ⟨fun f as rs h => ?_, fun f as rs h => ?_⟩
  · obtain ⟨h1, rfl, rfl⟩ := key f as rs h
    exact hc f h1
  · exact hb f (key f as rs h).1
end Go.Proofs.Ytbhojnofdeihdaa.E
