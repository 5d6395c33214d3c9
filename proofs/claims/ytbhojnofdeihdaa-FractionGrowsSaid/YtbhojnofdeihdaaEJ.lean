/- What is shown here: arguments that are fonts, styles, boxes, read as data, stand for the plain ones. -/
import Derived.Test.YtbhojnofdeihdaaEN
import Derived.Test.YtbhojnofdeihdaaChecked
namespace Go.Proofs.Ytbhojnofdeihdaa.E
open Go.RowKit Go.ChangeShapes Go.WideShapes Go.Deep Go.Proofs
set_option autoImplicit false
set_option linter.unusedVariables false
set_option linter.unusedSimpArgs false
section
variable {H : Type} {enc : TypeId × Value → H} {P : Program} {W : World}
theorem maxLen_I64 {n : Nat} (h : n ≤ maxLen) : I64 n := by
  unfold maxLen at h; exact ⟨by omega, by omega⟩
theorem Reads.i64 {N : Nat} {T : TypeId} (hT : P.underlying T = some (.int .i64)) : Reads enc P W N T (fun cc => ∃ n, cc = [.int .i64 n] ∧ I64 n) :=
  (Reads.int hT).imp fun cc ⟨n, h1, h2⟩ => ⟨n, h1, I64.of_wf h2⟩
theorem Reads.str {N : Nat} {T : TypeId} (hT : P.underlying T = some .string) : Reads enc P W N T (fun cc => ∃ s : ByteArray, cc = [.str s] ∧ I64 s.size) :=
  (Reads.string hT).imp fun cc ⟨n, h1, h2⟩ => ⟨n, h1, maxLen_I64 h2⟩
theorem list_of {α : Type} {c : α → List C} {ok : α → Prop} : ∀ (es : List (List C)), (∀ e ∈ es, ∃ g, e = c g ∧ ok g) → ∃ l : List α, es = l.map c ∧ ∀ g ∈ l, ok g := by
  intro es
  induction es with
  | nil => intro _; exact ⟨[], rfl, by simp⟩
  | cons e es ih =>
    intro h
    obtain ⟨g, rfl, hg⟩ := h e (by simp)
    obtain ⟨l, rfl, hl⟩ := ih (fun e he => h e (by simp [he]))
    exact ⟨g :: l, rfl, by simpa using ⟨hg, hl⟩⟩
theorem Reads.list {N : Nat} {α : Type} {T E : TypeId} {c : α → List C} {ok : α → Prop} (hT : P.underlying T = some (.slice E)) (hE : 0 < P.cellsOf E) (h : Reads enc P W N E (fun cc => ∃ g, cc = c g ∧ ok g)) :
    Reads enc P W (N + 1) T (fun cc => ∃ l : List α, cc = [.sl (l.map c)] ∧ I64 l.length ∧ ∀ g ∈ l, ok g) :=
  (Reads.slice hT hE h).imp fun cc ⟨es, h1, h2, h3⟩ => by
    obtain ⟨l, rfl, hl⟩ := list_of es h3
    exact ⟨l, h1, by rw [List.length_map] at h2; exact maxLen_I64 h2, hl⟩
/-- A slice with fuel N, of what is read with any fuel less. -/
theorem Reads.list0 {N : Nat} {α : Type} {T E : TypeId} {c : α → List C} {ok : α → Prop} (hT : P.underlying T = some (.slice E)) (hE : 0 < P.cellsOf E) (h : ∀ N, Reads enc P W N E (fun cc => ∃ g, cc = c g ∧ ok g)) :
    Reads enc P W N T (fun cc => ∃ l : List α, cc = [.sl (l.map c)] ∧ I64 l.length ∧ ∀ g ∈ l, ok g) := by
  cases N with
  | zero => exact .zero
  | succ N => exact Reads.list hT hE (h N)
end
section
variable {H : Type} {enc : TypeId × Value → H} {W : World}
theorem reads_Glyph (N : Nat) : Reads enc Try.prog W N 82 (fun cc => ∃ g : Gl, cc = g.c ∧ g.ok) := by
  cases N with
  | zero => exact .zero
  | succ N =>
    refine (Reads.struct (d := _) Try.underlying82 [(9, 0), (3, 1), (3, 2), (3, 3), (3, 4), (3, 5)] rfl (by decide +kernel) (by decide +kernel)
      (.cons (o' := 1) (by decide +kernel) (.str Try.underlying9) (.cons (o' := 2) (by decide +kernel) (.i64 Try.underlying3) (.cons (o' := 3) (by decide +kernel) (.i64 Try.underlying3) (.cons (o' := 4) (by decide +kernel) (.i64 Try.underlying3) (.cons (o' := 5) (by decide +kernel) (.i64 Try.underlying3) (.cons (o' := 6) (by decide +kernel) (.i64 Try.underlying3) .nil))))))).imp ?_
    rintro cc ⟨_, _, rfl, ⟨s, rfl, h0⟩, _, _, rfl, ⟨n1, rfl, h1⟩, _, _, rfl, ⟨n2, rfl, h2⟩, _, _, rfl, ⟨n3, rfl, h3⟩, _, _, rfl, ⟨n4, rfl, h4⟩, _, _, rfl, ⟨n5, rfl, h5⟩, rfl⟩
    exact ⟨⟨s, n1, n2, n3, n4, n5⟩, rfl, h0, h1, h2, h3, h4, h5⟩
theorem reads_Part (N : Nat) : Reads enc Try.prog W N 117 (fun cc => ∃ g : Pt, cc = g.c ∧ True) := by
  cases N with
  | zero => exact .zero
  | succ N =>
    refine (Reads.struct (d := _) Try.underlying117 [(9, 0), (4, 1)] rfl (by decide +kernel) (by decide +kernel)
      (.cons (o' := 1) (by decide +kernel) (.str Try.underlying9) (.cons (o' := 2) (by decide +kernel) (.bool Try.underlying4) .nil))).imp ?_
    rintro cc ⟨_, _, rfl, ⟨s, rfl, h0⟩, _, _, rfl, ⟨n1, rfl⟩, rfl⟩
    exact ⟨⟨s, n1⟩, rfl, trivial⟩
theorem reads_strs (N : Nat) : Reads enc Try.prog W N 84 (fun cc => ∃ l : List ByteArray, cc = [.sl (l.map fun s => [.str s])] ∧ I64 l.length ∧ ∀ s ∈ l, I64 s.size) :=
  .list0 (E := 9) Try.underlying84 (by decide +kernel) fun N => .str Try.underlying9
theorem reads_Stretch (N : Nat) : Reads enc Try.prog W N 87 (fun cc => ∃ g : Stc, cc = g.c ∧ g.ok) := by
  cases N with
  | zero => exact .zero
  | succ N =>
    refine (Reads.struct (d := _) Try.underlying87 [(9, 0), (84, 1), (85, 2), (3, 3)] rfl (by decide +kernel) (by decide +kernel)
      (.cons (o' := 1) (by decide +kernel) (.str Try.underlying9) (.cons (o' := 2) (by decide +kernel) (reads_strs N) (.cons (o' := 3) (by decide +kernel) (.list0 (E := 117) Try.underlying85 (by decide +kernel) reads_Part) (.cons (o' := 4) (by decide +kernel) (.i64 Try.underlying3) .nil))))).imp ?_
    rintro cc ⟨_, _, rfl, ⟨s, rfl, h0⟩, _, _, rfl, ⟨l1, rfl, h1, _⟩, _, _, rfl, ⟨l2, rfl, h2, _⟩, _, _, rfl, ⟨n3, rfl, h3⟩, rfl⟩
    exact ⟨⟨s, l1, l2, n3⟩, rfl, h0, h3⟩
theorem reads_Params (N : Nat) : Reads enc Try.prog W N 25 (fun cc => ∃ g : Par, cc = g.c ∧ g.ok) := by
  cases N with
  | zero => exact .zero
  | succ N =>
    refine (Reads.struct (d := _) Try.underlying25 [(3, 0), (3, 1), (3, 2), (3, 3), (3, 4), (3, 5), (3, 6), (3, 7), (3, 8), (3, 9), (3, 10), (3, 11), (3, 12), (3, 13), (3, 14), (3, 15), (3, 16), (3, 17), (3, 18), (3, 19)] rfl (by decide +kernel) (by decide +kernel)
      (.cons (o' := 1) (by decide +kernel) (.i64 Try.underlying3) (.cons (o' := 2) (by decide +kernel) (.i64 Try.underlying3) (.cons (o' := 3) (by decide +kernel) (.i64 Try.underlying3) (.cons (o' := 4) (by decide +kernel) (.i64 Try.underlying3) (.cons (o' := 5) (by decide +kernel) (.i64 Try.underlying3) (.cons (o' := 6) (by decide +kernel) (.i64 Try.underlying3) (.cons (o' := 7) (by decide +kernel) (.i64 Try.underlying3) (.cons (o' := 8) (by decide +kernel) (.i64 Try.underlying3) (.cons (o' := 9) (by decide +kernel) (.i64 Try.underlying3) (.cons (o' := 10) (by decide +kernel) (.i64 Try.underlying3) (.cons (o' := 11) (by decide +kernel) (.i64 Try.underlying3) (.cons (o' := 12) (by decide +kernel) (.i64 Try.underlying3) (.cons (o' := 13) (by decide +kernel) (.i64 Try.underlying3) (.cons (o' := 14) (by decide +kernel) (.i64 Try.underlying3) (.cons (o' := 15) (by decide +kernel) (.i64 Try.underlying3) (.cons (o' := 16) (by decide +kernel) (.i64 Try.underlying3) (.cons (o' := 17) (by decide +kernel) (.i64 Try.underlying3) (.cons (o' := 18) (by decide +kernel) (.i64 Try.underlying3) (.cons (o' := 19) (by decide +kernel) (.i64 Try.underlying3) (.cons (o' := 20) (by decide +kernel) (.i64 Try.underlying3) .nil))))))))))))))))))))).imp ?_
    rintro cc ⟨_, _, rfl, ⟨n0, rfl, h0⟩, _, _, rfl, ⟨n1, rfl, h1⟩, _, _, rfl, ⟨n2, rfl, h2⟩, _, _, rfl, ⟨n3, rfl, h3⟩, _, _, rfl, ⟨n4, rfl, h4⟩, _, _, rfl, ⟨n5, rfl, h5⟩, _, _, rfl, ⟨n6, rfl, h6⟩, _, _, rfl, ⟨n7, rfl, h7⟩, _, _, rfl, ⟨n8, rfl, h8⟩, _, _, rfl, ⟨n9, rfl, h9⟩, _, _, rfl, ⟨n10, rfl, h10⟩, _, _, rfl, ⟨n11, rfl, h11⟩, _, _, rfl, ⟨n12, rfl, h12⟩, _, _, rfl, ⟨n13, rfl, h13⟩, _, _, rfl, ⟨n14, rfl, h14⟩, _, _, rfl, ⟨n15, rfl, h15⟩, _, _, rfl, ⟨n16, rfl, h16⟩, _, _, rfl, ⟨n17, rfl, h17⟩, _, _, rfl, ⟨n18, rfl, h18⟩, _, _, rfl, ⟨n19, rfl, h19⟩, rfl⟩
    exact ⟨⟨n0, n1, n2, n3, n4, n5, n6, n7, n8, n9, n10, n11, n12, n13, n14, n15, n16, n17, n18, n19⟩, rfl, by intro n hn; simp only [Par.l, List.mem_cons, List.not_mem_nil, or_false] at hn; rcases hn with rfl | rfl | rfl | rfl | rfl | rfl | rfl | rfl | rfl | rfl | rfl | rfl | rfl | rfl | rfl | rfl | rfl | rfl | rfl | rfl <;> assumption⟩
theorem reads_Font (N : Nat) : Reads enc Try.prog W N 27 (fun cc => ∃ g : Fnt, cc = g.c ∧ g.ok) := by
  cases N with
  | zero => exact .zero
  | succ N =>
    refine (Reads.struct (d := _) Try.underlying27 [(22, 0), (23, 1), (25, 2)] rfl (by decide +kernel) (by decide +kernel)
      (.cons (o' := 1) (by decide +kernel) (.list0 (E := 82) Try.underlying22 (by decide +kernel) reads_Glyph) (.cons (o' := 2) (by decide +kernel) (.list0 (E := 87) Try.underlying23 (by decide +kernel) reads_Stretch) (.cons (o' := 22) (by decide +kernel) (reads_Params N) .nil)))).imp ?_
    rintro cc ⟨_, _, rfl, ⟨l0, rfl, h0, k0⟩, _, _, rfl, ⟨l1, rfl, h1, k1⟩, _, _, rfl, ⟨p, rfl, h2⟩, rfl⟩
    exact ⟨⟨l0, l1, p⟩, by simp [Fnt.c], k0, k1, h2⟩
theorem reads_Style (N : Nat) : Reads enc Try.prog W N 29 (fun cc => ∃ g : Sty, cc = g.c ∧ g.ok) := by
  cases N with
  | zero => exact .zero
  | succ N =>
    refine (Reads.struct (d := _) Try.underlying29 [(3, 0), (4, 1)] rfl (by decide +kernel) (by decide +kernel)
      (.cons (o' := 1) (by decide +kernel) (.i64 Try.underlying3) (.cons (o' := 2) (by decide +kernel) (.bool Try.underlying4) .nil))).imp ?_
    rintro cc ⟨_, _, rfl, ⟨n, rfl, h0⟩, _, _, rfl, ⟨n1, rfl⟩, rfl⟩
    exact ⟨⟨n, n1⟩, rfl, h0⟩
theorem reads_ints (N : Nat) : Reads enc Try.prog W N 31 (fun cc => ∃ l : List Int, cc = [.sl (l.map fun n => [.int .i64 n])] ∧ I64 l.length ∧ ∀ n ∈ l, I64 n) :=
  .list0 (E := 3) Try.underlying31 (by decide +kernel) fun N => .i64 Try.underlying3
theorem reads_Box2 : ∀ (N : Nat), Reads enc Try.prog W N 33 (fun cc => ∃ g : Bx, cc = g.c ∧ g.ok) ∧ Reads enc Try.prog W (N + 1) 30 (fun cc => ∃ l : List Bx, cc = [.sl (l.map Bx.c)] ∧ I64 l.length ∧ ∀ g ∈ l, g.ok) := by
  intro N
  induction N with
  | zero => exact ⟨.zero, .list (E := 33) Try.underlying30 (by decide +kernel) .zero⟩
  | succ N ih =>
    have hB : Reads enc Try.prog W (N + 1) 33 (fun cc => ∃ g : Bx, cc = g.c ∧ g.ok) := by
      refine (Reads.struct (d := _) Try.underlying33 [(3, 0), (9, 1), (3, 2), (3, 3), (3, 4), (3, 5), (3, 6), (3, 7), (30, 8), (3, 9), (31, 10)] rfl (by decide +kernel) (by decide +kernel)
        (.cons (o' := 1) (by decide +kernel) (.i64 Try.underlying3) (.cons (o' := 2) (by decide +kernel) (.str Try.underlying9) (.cons (o' := 3) (by decide +kernel) (.i64 Try.underlying3) (.cons (o' := 4) (by decide +kernel) (.i64 Try.underlying3) (.cons (o' := 5) (by decide +kernel) (.i64 Try.underlying3) (.cons (o' := 6) (by decide +kernel) (.i64 Try.underlying3)
        (.cons (o' := 7) (by decide +kernel) (.i64 Try.underlying3) (.cons (o' := 8) (by decide +kernel) (.i64 Try.underlying3) (.cons (o' := 9) (by decide +kernel) (ih.2.le (Nat.le_succ N)) (.cons (o' := 10) (by decide +kernel) (.i64 Try.underlying3) (.cons (o' := 11) (by decide +kernel) (reads_ints N) .nil)))))))))))).imp ?_
      rintro cc ⟨_, _, rfl, ⟨n0, rfl, h0⟩, _, _, rfl, ⟨s, rfl, h1⟩, _, _, rfl, ⟨n2, rfl, h2⟩, _, _, rfl, ⟨n3, rfl, h3⟩, _, _, rfl, ⟨n4, rfl, h4⟩, _, _, rfl, ⟨n5, rfl, h5⟩, _, _, rfl, ⟨n6, rfl, h6⟩, _, _, rfl, ⟨n7, rfl, h7⟩, _, _, rfl, ⟨l8, rfl, h8, k8⟩, _, _, rfl, ⟨n9, rfl, h9⟩, _, _, rfl, ⟨l10, rfl, h10, k10⟩, rfl⟩
      exact ⟨⟨n0, s, n2, n3, n4, n5, n6, n7, l8, n9, l10⟩, by rw [Bx.c_eq]; rfl, (Bx.ok_iff _).2 ⟨⟨h0, h1, h2, h3, h4, h5, h6, h7, h9, k10, h10, h8⟩, k8⟩⟩
    exact ⟨hB, .list (E := 33) Try.underlying30 (by decide +kernel) hB⟩
theorem reads_Box (N : Nat) : Reads enc Try.prog W N 33 (fun cc => ∃ g : Bx, cc = g.c ∧ g.ok) := (reads_Box2 N).1
theorem reads_Boxes (N : Nat) : Reads enc Try.prog W N 30 (fun cc => ∃ l : List Bx, cc = [.sl (l.map Bx.c)] ∧ I64 l.length ∧ ∀ g ∈ l, g.ok) := (reads_Box2 N).2.le (Nat.le_succ N)
end
/-- From the evaluator to the machine: a law that comes to true. -/
theorem law_calls {P : Program} {e : Eng} (hE : ESound P e) {f : Nat} {az : List A} {W : World} {vargs : Array Value} (h : e.call f az none = some (.ret [.one (.bool true)] none)) (hs : vargs.size = az.length)
    (ha : ∀ (j : Nat) (v : Value) (a : A), vargs[j]? = some v → az[j]? = some a → RepA (Below0 W) W none v a) : Calls P f vargs W fun en w' => en = .returned (.bool true) ∧ Below W.heap.size W w' := by
  refine (hE.call f az none _ none h (Below0 W) W none (fun _ => False) vargs ⟨fun b hb => hb, fun b hb => hb.elim, fun b hb => hb.elim⟩ ⟨fun b hb => hb, rfl⟩ hs ha).mono ?_
  rintro en w' ⟨v, ro', M', rfl, hF, hA, hS, hR⟩
  refine ⟨?_, hF.os, hF.tape, hF.output, hF.size, fun k hk => hF.keep k hk⟩
  cases hR with
  | one _ a h =>
    have := h.2
    cases this with
    | c _ _ h => cases h; rfl
  | many _ _ hn _ _ => simp at hn
end Go.Proofs.Ytbhojnofdeihdaa.E
