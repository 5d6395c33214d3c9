/- What is shown here: reading an argument as data gives a value of the printed kind (struct, slice, string, whole number, array), with its bounds. -/
import Derived.Test.YtijioimbgmcpaaaWMore
import Derived.WalkKit
import Derived.ProofKit
import Derived.OpenShut
import Derived.ShutString
import Derived.ChangeOld
import Derived.Below
import Derived.SizedLaws
import Derived.Deep.Slices
namespace Go.Proofs.Ytijioimbgmcpaaa.X
open Go.RowKit Go.ChangeShapes Go.WideShapes Go.Deep Go.Proofs.YtijioimbgmcpaaaW.PrintWords Go.Proofs.YtijioimbgmcpaaaW.PrintLast Go.Proofs.YtijioimbgmcpaaaW.PrintMore
set_option linter.unusedVariables false
set_option linter.unusedSimpArgs false

section
variable {H : Type} {enc : TypeId × Value → H} {P : Program} {W : World}

/-- Whatever of type T is read with fuel at most N is of kind d, and ok. -/
def Opn (enc : TypeId × Value → H) (P : Program) (W : World) (N : Nat) {α : Type} (T : TypeId) (d : Kd α) (ok : α → Prop) : Prop :=
  ∀ (fuel : Nat) (cs : List Value) (x : DataW H × List MemPlace), fuel ≤ N → DataW.trod enc P W 0 (fun _ => true) true fuel T cs = some x → ∃ a, d.K W a cs ∧ ok a

theorem okWide_array {w : World} {r : Reach} {base : Nat} {t : TypeId} {v : Value} {n : Nat} {e : TypeId} (ht : P.underlying t = some (.array n e)) (h : Value.okWide P w r base t v) : ∃ cs, v = .agg cs ∧ cs.size = P.cellsOf t := by
  simp only [Value.okWide, ht] at h
  obtain ⟨cs, h1, h2, _⟩ := h
  exact ⟨cs, h1, h2⟩
theorem Opn.imp {N : Nat} {α : Type} {T : TypeId} {d : Kd α} {ok ok' : α → Prop} (h : Opn enc P W N T d ok) (hi : ∀ a, ok a → ok' a) : Opn enc P W N T d ok' := fun fuel cs x hn hx => by
  obtain ⟨a, h1, h2⟩ := h fuel cs x hn hx
  exact ⟨a, h1, hi a h2⟩
theorem Opn.int {N : Nat} {T : TypeId} {k : IntKind} (hT : P.underlying T = some (.int k)) : Opn enc P W N T (Kd.int k) (fun n => (Lit.int k n).wf = true) := fun fuel cs x hn hx => by
  obtain ⟨n, rfl, _, hw⟩ := DataW.trod_int hT hx
  exact ⟨n, rfl, hw⟩
theorem Opn.bool {N : Nat} {T : TypeId} (hT : P.underlying T = some .bool) : Opn enc P W N T Kd.bool (fun _ => True) := fun fuel cs x hn hx => by
  obtain ⟨b, rfl, _⟩ := DataW.trod_bool hT hx
  exact ⟨b, rfl, trivial⟩
theorem Opn.string {N : Nat} {T : TypeId} (hT : P.underlying T = some .string) : Opn enc P W N T Kd.string (fun s => s.size ≤ maxLen) := fun fuel cs x hn hx => by
  obtain ⟨s, rfl, _, hs⟩ := DataW.trod_string hT hx
  exact ⟨s, rfl, hs⟩
theorem Opn.iso {N : Nat} {α β : Type} {T : TypeId} {d : Kd α} {ok : α → Prop} {ok' : β → Prop} (g : α → β) {f : β → α} (hfg : ∀ a, f (g a) = a) (h : Opn enc P W N T d ok) (hi : ∀ a, ok a → ok' (g a)) : Opn enc P W N T (Kd.iso d f) ok' := fun fuel cs x hn hx => by
  obtain ⟨a, h1, h2⟩ := h fuel cs x hn hx
  exact ⟨g a, (by show d.K W (f (g a)) cs; rw [hfg]; exact h1), hi a h2⟩
theorem Opn.slice {N : Nat} {α : Type} {T E : TypeId} {d : Kd α} {ok : α → Prop} (hT : P.underlying T = some (.slice E)) (hE : P.cellsOf E = d.sz) (h : Opn enc P W N E d ok) :
    Opn enc P W N T (Kd.slice E d) (fun xs => xs.length ≤ maxLen ∧ ∀ x ∈ xs, ok x) := fun fuel cs x hn hx => by
  rcases fuel with _ | fuel
  · simp [DataW.trod] at hx
  rcases DataW.trod_slice hT hx with ⟨rfl, rfl⟩ | ⟨a, len, cap, elems, rest, n, hf, rfl, rfl, hb, hl, hm, hlen, hel, hsp, hns⟩
  · exact ⟨[], ⟨none, 0, rfl, Nat.le_refl _, Kd.C_nil _ _⟩, by simp, by simp⟩
  · have hnN : n ≤ N := by omega
    have key : ∀ i, i < len → ∃ y : α, ∃ c, c.length = d.sz ∧ d.K W y c ∧ ok y ∧ ∀ j u, c[j]? = some u → W.cell? (a.add (i * d.sz + j)) = some u := by
      intro i hi
      have h1 := hel i hi
      rw [List.getElem?_eq_getElem (by omega)] at h1
      obtain ⟨cs', h2, h3⟩ := Option.bind_eq_some_iff.1 h1
      obtain ⟨y, hK, hok⟩ := h n cs' _ hnN h3
      obtain ⟨_, h4, h5⟩ := World.cells?_some h2
      refine ⟨y, cs', by rw [h4, hE], hK, hok, fun j u hj => ?_⟩
      have hjl := (List.getElem?_eq_some_iff.1 hj).1
      rw [hE] at h4 h5
      have := h5 j (by omega)
      rw [Go.Deep.add_add] at this
      rw [this, hj]
    by_cases h0 : len = 0
    · subst h0
      exact ⟨[], ⟨some a, cap, rfl, Nat.zero_le _, rfl, by simp, fun h => absurd h (by simp)⟩, by simp, by simp⟩
    · obtain ⟨y0, _⟩ := key 0 (by omega)
      haveI : Inhabited α := ⟨y0⟩
      obtain ⟨f, hf'⟩ := choose_lt key
      have hlm : len ≤ 9223372036854775807 := by have := hm; simp only [maxLen] at this; omega
      refine ⟨(List.range len).map f, ⟨some a, cap, by simp, by simpa using hl, ?_⟩, by simp; omega, ?_⟩
      · refine ⟨rfl, by simpa using hlm, fun _ => ⟨a, rfl, fun j p hj => ?_⟩⟩
        have hjl : j < len := by
          have := (List.getElem?_eq_some_iff.1 hj).1
          simpa using this
        have hp : p = f j := by
          rw [List.getElem?_map, List.getElem?_range hjl] at hj
          simpa using hj.symm
        subst hp
        obtain ⟨c, hc1, hc2, hc3, hc4⟩ := hf' j hjl
        exact ⟨c, hc1, hc2, hc4⟩
      · intro x hx
        obtain ⟨i, hi, rfl⟩ := List.mem_map.1 hx
        obtain ⟨c, _, _, hok, _⟩ := hf' i (by simpa using hi)
        exact hok

/-- The fields from cell o on. -/
def OpnF (enc : TypeId × Value → H) (P : Program) (W : World) (N : Nat) {α : Type} (fs : List (TypeId × Nat)) (o : Nat) (d : Kd α) (ok : α → Prop) : Prop :=
  ∀ (fuel : Nat) (cs : List Value), fuel ≤ N → cs.length = o + d.sz → (∀ f ∈ fs, ∃ y, DataW.trod enc P W 0 (fun _ => true) true fuel f.1 ((cs.drop f.2).take (P.cellsOf f.1)) = some y) → ∃ a, d.K W a (cs.drop o) ∧ ok a
theorem OpnF.one {N : Nat} {α : Type} {T : TypeId} {o : Nat} {d : Kd α} {ok : α → Prop} (hc : P.cellsOf T = d.sz) (h : Opn enc P W N T d ok) : OpnF enc P W N [(T, o)] o d ok := fun fuel cs hn hl hf => by
  obtain ⟨y, hy⟩ := hf (T, o) (by simp)
  simp only at hy
  rw [List.take_of_length_le (by rw [List.length_drop]; omega)] at hy
  exact h fuel _ _ hn hy
theorem OpnF.cons {N : Nat} {α β : Type} {T : TypeId} {o : Nat} {fs : List (TypeId × Nat)} {d : Kd α} {d' : Kd β} {ok : α → Prop} {ok' : β → Prop} (hc : P.cellsOf T = d.sz) (h : Opn enc P W N T d ok) (hs : OpnF enc P W N fs (o + d.sz) d' ok') :
    OpnF enc P W N ((T, o) :: fs) o (Kd.pair d d') (fun x => ok x.1 ∧ ok' x.2) := fun fuel cs hn hl hf => by
  obtain ⟨y, hy⟩ := hf (T, o) (by simp)
  simp only at hy
  obtain ⟨a, ha, hoka⟩ := h fuel _ _ hn hy
  have hl' : cs.length = o + (d.sz + d'.sz) := hl
  obtain ⟨b, hb, hokb⟩ := hs fuel cs hn (by omega) (fun f hm => hf f (List.mem_cons_of_mem _ hm))
  refine ⟨(a, b), ⟨_, _, ?_, ha, hb⟩, hoka, hokb⟩
  rw [hc, ← List.drop_drop, List.take_append_drop]
theorem Opn.struct {N : Nat} {α : Type} {T : TypeId} {fs : Array Field} {d : Kd α} {ok : α → Prop} (hT : P.underlying T = some (.struct fs)) (hc : P.cellsOf T = d.sz) (l : List (TypeId × Nat)) (hl : (fs.toList.map fun f => (f.type, f.offset)) = l) (hF : OpnF enc P W N l 0 d ok) : Opn enc P W (N + 1) T d ok := fun fuel cs x hn hx => by
  obtain ⟨xs, n, rfl, _, hlen, hxl, hi⟩ := DataW.trod_struct hT hx
  have := hF n cs (by omega) (by omega) (fun f hm => by
    rw [← hl] at hm
    obtain ⟨g, hg, rfl⟩ := List.mem_map.1 hm
    obtain ⟨i, hi'⟩ := List.getElem?_of_mem hg
    have h1 := hi i g (by simpa using hi')
    have h2 : i < xs.length := by
      have := (List.getElem?_eq_some_iff.1 hi').1
      rw [hxl]
      simpa using this
    rw [List.getElem?_eq_getElem h2] at h1
    exact ⟨_, h1⟩)
  simpa using this
theorem Opn.array {N : Nat} {α : Type} {T E : TypeId} {n : Nat} {d : Kd α} {ok : α → Prop} (hT : P.underlying T = some (.array n E)) (hc : P.cellsOf T = d.sz) (l : List (TypeId × Nat)) (hl : ((List.range n).map fun i => (E, i * P.cellsOf E)) = l) (hF : OpnF enc P W N l 0 d ok) : Opn enc P W (N + 1) T d ok := fun fuel cs x hn hx => by
  obtain ⟨xs, m, rfl, _, hlen, hxl, hi⟩ := DataW.trod_array hT hx
  have := hF m cs (by omega) (by omega) (fun f hm => by
    rw [← hl] at hm
    obtain ⟨i, hi', rfl⟩ := List.mem_map.1 hm
    have h0 : i < n := by simpa using hi'
    have h1 := hi i h0
    rw [List.getElem?_eq_getElem (by omega)] at h1
    exact ⟨_, h1⟩)
  simpa using this
theorem Opn.zero {α : Type} {T : TypeId} {d : Kd α} {ok : α → Prop} : Opn enc P W 0 T d ok := fun fuel cs x hn hx => by
  obtain rfl : fuel = 0 := by omega
  simp [DataW.trod] at hx
theorem Opn.le {N M : Nat} {α : Type} {T : TypeId} {d : Kd α} {ok : α → Prop} (h : Opn enc P W M T d ok) (hn : N ≤ M) : Opn enc P W N T d ok := fun fuel cs x hf hx => h fuel cs x (Nat.le_trans hf hn) hx
/-- An argument. -/
theorem Opn.arg {α : Type} {T : TypeId} {d : Kd α} {ok : α → Prop} {v : Value} {x : DataW H} {ps : List MemPlace} (h : ∀ N, Opn enc P W N T d ok) (hv : DataW.Trod enc P W 0 (fun _ => true) true T v x ps) : ∃ a, d.K W a v.cells.toList ∧ ok a := by
  obtain ⟨fuel, hf⟩ := hv
  exact h fuel fuel _ _ (Nat.le_refl _) hf
end
end Go.Proofs.Ytijioimbgmcpaaa.X
