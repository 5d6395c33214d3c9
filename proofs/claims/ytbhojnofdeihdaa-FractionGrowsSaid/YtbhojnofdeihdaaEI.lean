/- What is shown here: an argument that is read as data stands for plain data of the evaluator's. -/
import Derived.Test.YtbhojnofdeihdaaEL
import Derived.WalkKit
import Derived.ProofKit
import Derived.OpenShut
import Derived.ShutString
import Derived.ChangeOld
import Derived.Below
import Derived.Carry
import Derived.SizedLaws
import Derived.Deep.Slices
namespace Go.Proofs.Ytbhojnofdeihdaa.E
open Go.RowKit Go.ChangeShapes Go.WideShapes Go.Deep
set_option autoImplicit false
set_option linter.unusedVariables false
set_option linter.unusedSimpArgs false
section
variable {H : Type} {enc : TypeId × Value → H} {P : Program} {W : World}

/-- All blocks that there are. -/
def Below0 (W : World) : Set := fun b => b < W.heap.size
def Cells (W : World) (cs : List Value) (cc : List C) : Prop := cs.length = cc.length ∧ ∀ (j : Nat) (v : Value) (x : C), cs[j]? = some v → cc[j]? = some x → Rep (Below0 W) W v x
/-- Whatever of type T is read with fuel at most N stands for cells of kind d. -/
def Reads (enc : TypeId × Value → H) (P : Program) (W : World) (N : Nat) (T : TypeId) (d : List C → Prop) : Prop :=
  ∀ (fuel : Nat) (cs : List Value) (x : DataW H × List MemPlace), fuel ≤ N → DataW.trod enc P W 0 (fun _ => true) true fuel T cs = some x → ∃ cc, Cells W cs cc ∧ d cc

theorem Cells.one {v : Value} {x : C} (h : Rep (Below0 W) W v x) : Cells W [v] [x] := by
  refine ⟨rfl, fun j v' x' h1 h2 => ?_⟩
  cases j with
  | zero => simp at h1 h2; subst h1; subst h2; exact h
  | succ j => simp at h1
theorem Cells.append {a b : List Value} {c d : List C} (h : Cells W a c) (k : Cells W b d) : Cells W (a ++ b) (c ++ d) := by
  refine ⟨by simp [h.1, k.1], fun j v x h1 h2 => ?_⟩
  by_cases hj : j < a.length
  · rw [List.getElem?_append_left hj] at h1
    rw [List.getElem?_append_left (by have := h.1; omega)] at h2
    exact h.2 j v x h1 h2
  · rw [List.getElem?_append_right (by omega)] at h1
    rw [List.getElem?_append_right (by have := h.1; omega)] at h2
    exact k.2 _ v x h1 (by rw [h.1]; exact h2)
theorem Cells.nil : Cells W [] [] := ⟨rfl, fun j v x h => by simp at h⟩

theorem Reads.imp {N : Nat} {T : TypeId} {d d' : List C → Prop} (h : Reads enc P W N T d) (hi : ∀ cc, d cc → d' cc) : Reads enc P W N T d' := fun fuel cs x hn hx => by
  obtain ⟨cc, h1, h2⟩ := h fuel cs x hn hx
  exact ⟨cc, h1, hi cc h2⟩
theorem Reads.le {N M : Nat} {T : TypeId} {d : List C → Prop} (h : Reads enc P W M T d) (hn : N ≤ M) : Reads enc P W N T d := fun fuel cs x hf hx => h fuel cs x (Nat.le_trans hf hn) hx
theorem Reads.zero {T : TypeId} {d : List C → Prop} : Reads enc P W 0 T d := fun fuel cs x hn hx => by
  obtain rfl : fuel = 0 := by omega
  simp [DataW.trod] at hx
theorem Reads.int {N : Nat} {T : TypeId} {k : IntKind} (hT : P.underlying T = some (.int k)) : Reads enc P W N T (fun cc => ∃ n, cc = [.int k n] ∧ (Lit.int k n).wf = true) := fun fuel cs x hn hx => by
  obtain ⟨n, rfl, _, hw⟩ := DataW.trod_int hT hx
  exact ⟨_, Cells.one (.int k n), n, rfl, hw⟩
theorem Reads.bool {N : Nat} {T : TypeId} (hT : P.underlying T = some .bool) : Reads enc P W N T (fun cc => ∃ b, cc = [.bool b]) := fun fuel cs x hn hx => by
  obtain ⟨b, rfl, _⟩ := DataW.trod_bool hT hx
  exact ⟨_, Cells.one (.bool b), b, rfl⟩
theorem Reads.string {N : Nat} {T : TypeId} (hT : P.underlying T = some .string) : Reads enc P W N T (fun cc => ∃ s : ByteArray, cc = [.str s] ∧ s.size ≤ maxLen) := fun fuel cs x hn hx => by
  obtain ⟨s, rfl, _, hs⟩ := DataW.trod_string hT hx
  exact ⟨_, Cells.one (.str s), s, rfl, hs⟩

theorem Reads.slice {N : Nat} {T E : TypeId} {d : List C → Prop} (hT : P.underlying T = some (.slice E)) (hE : 0 < P.cellsOf E) (h : Reads enc P W N E d) :
    Reads enc P W (N + 1) T (fun cc => ∃ es, cc = [.sl es] ∧ es.length ≤ maxLen ∧ ∀ e ∈ es, d e) := fun fuel cs x hn hx => by
  rcases DataW.trod_slice hT hx with ⟨rfl, rfl⟩ | ⟨a, len, cap, elems, rest, n, hf, rfl, rfl, hb, hl, hm, hlen, hel, hsp, hns⟩
  · refine ⟨_, Cells.one (.sl none [] 0 1 (Nat.le_refl _) (fun h => absurd rfl h) (by simp) (fun _ _ => .bool true) (by simp) (by simp)), [], rfl, by simp, by simp⟩
  · have key : ∀ i, i < len → ∃ y : List Value × List C, y.1.length = P.cellsOf E ∧ Cells W y.1 y.2 ∧ d y.2 ∧ ∀ j, j < P.cellsOf E → W.cell? (a.add (i * P.cellsOf E + j)) = y.1[j]? := by
      intro i hi
      have h1 := hel i hi
      rw [List.getElem?_eq_getElem (by omega)] at h1
      obtain ⟨cs', h2, h3⟩ := Option.bind_eq_some_iff.1 h1
      obtain ⟨cc, hc1, hc2⟩ := h n cs' _ (by omega) h3
      obtain ⟨_, h4, h5⟩ := World.cells?_some h2
      refine ⟨(cs', cc), h4, hc1, hc2, fun j hj => ?_⟩
      have := h5 j hj
      rw [Go.Deep.add_add] at this
      exact this
    haveI : Inhabited (List Value × List C) := ⟨([], [])⟩
    obtain ⟨f, hf'⟩ := choose_lt key
    have hcell : ∀ i, i < len → ∃ v, W.cell? (a.add (i * P.cellsOf E)) = some v := fun i hi => by
      obtain ⟨h1, _, _, h2⟩ := hf' i hi
      have h3 := h2 0 hE
      rw [List.getElem?_eq_getElem (by omega), Nat.add_zero] at h3
      exact ⟨_, h3⟩
    have hspot : 0 < len → a.spot = none ∧ a.block < W.heap.size := fun h0 => by
      obtain ⟨v, hv⟩ := hcell 0 h0
      have ha : a.add (0 * P.cellsOf E) = a := by simp [Addr.add]
      rw [ha] at hv
      unfold World.cell? at hv
      split at hv
      · next c _ _ hh =>
        split at hv
        · cases hv
        · next hs =>
          refine ⟨?_, (Array.getElem?_eq_some_iff.1 hh).1⟩
          cases hsp : a.spot with
          | none => rfl
          | some q => exact absurd (by rw [hsp]; rfl) hs
      · cases hv
    refine ⟨[.sl ((List.range len).map fun i => (f i).2)], Cells.one ?_, _, rfl, by simp; omega, ?_⟩
    · have hR : Rep (Below0 W) W (.slice (some a) ((List.range len).map fun i => (f i).2).length cap) (.sl ((List.range len).map fun i => (f i).2)) := by
        refine .sl (some a) _ cap (P.cellsOf E) (by simpa using hl) (fun hne => ?_) (fun i cs hi => ?_) (fun i j => ((f i).1[j]?).getD (.bool true)) (fun i j cs x h1 h2 b o hbo => ?_) (fun i j cs x h1 h2 => ?_)
        · have h0 : 0 < len := by
            cases len with
            | zero => simp at hne
            | succ n => omega
          obtain ⟨h1, h2⟩ := hspot h0
          refine ⟨a.block, a.off, ?_, h2⟩
          cases a; simp at h1; subst h1; rfl
        · rw [List.getElem?_map] at hi
          by_cases hil : i < len
          · rw [List.getElem?_range hil] at hi
            simp at hi; subst hi
            obtain ⟨h1, h2, _⟩ := hf' i hil
            rw [← h2.1, h1]
          · rw [List.getElem?_eq_none (by simpa using Nat.le_of_not_lt hil)] at hi; simp at hi
        · rw [List.getElem?_map] at h1
          by_cases hil : i < len
          · rw [List.getElem?_range hil] at h1
            simp at h1; subst h1
            obtain ⟨g1, g2, _, g3⟩ := hf' i hil
            have hj : j < P.cellsOf E := by rw [← g1, g2.1]; exact (List.getElem?_eq_some_iff.1 h2).1
            cases hbo
            have g4 := g3 j hj
            rw [List.getElem?_eq_getElem (by omega)] at g4
            rw [List.getElem?_eq_getElem (by omega)]
            simp only [Option.getD_some]
            rw [← g4]
            have ha : (Addr.mk b o none).add (i * P.cellsOf E + j) = ⟨b, o + i * P.cellsOf E + j, none⟩ := by
              unfold Addr.add
              split
              · next h0 => rw [Nat.add_assoc, h0]; rfl
              · simp [Nat.add_assoc]
            rw [ha]
          · rw [List.getElem?_eq_none (by simpa using Nat.le_of_not_lt hil)] at h1; simp at h1
        · rw [List.getElem?_map] at h1
          by_cases hil : i < len
          · rw [List.getElem?_range hil] at h1
            simp at h1; subst h1
            obtain ⟨g1, g2, _, g3⟩ := hf' i hil
            have hj : j < (f i).1.length := by rw [g2.1]; exact (List.getElem?_eq_some_iff.1 h2).1
            exact g2.2 j _ x (by rw [List.getElem?_eq_getElem hj]; simp) h2
          · rw [List.getElem?_eq_none (by simpa using Nat.le_of_not_lt hil)] at h1; simp at h1
      have he : ((List.range len).map fun i => (f i).2).length = len := by simp
      rw [he] at hR
      exact hR
    · intro e he
      obtain ⟨i, hi, rfl⟩ := List.mem_map.1 he
      exact (hf' i (by simpa using hi)).2.2.1

/-- The fields from cell o on. -/
def ReadsF (enc : TypeId × Value → H) (P : Program) (W : World) (N : Nat) (fs : List (TypeId × Nat)) (o : Nat) (d : List C → Prop) : Prop :=
  ∀ (fuel : Nat) (cs : List Value), fuel ≤ N → (∀ f ∈ fs, f.2 + P.cellsOf f.1 ≤ cs.length) → cs.length = o + (fs.map fun f => P.cellsOf f.1).sum → (∀ f ∈ fs, ∃ y, DataW.trod enc P W 0 (fun _ => true) true fuel f.1 ((cs.drop f.2).take (P.cellsOf f.1)) = some y) → ∃ cc, Cells W (cs.drop o) cc ∧ d cc
theorem ReadsF.nil {N : Nat} {o : Nat} : ReadsF enc P W N [] o (fun cc => cc = []) := fun fuel cs hn hb hl hf => by
  refine ⟨[], ?_, rfl⟩
  rw [List.drop_eq_nil_of_le (by simp at hl; omega)]; exact .nil
theorem ReadsF.cons {N : Nat} {T : TypeId} {o o' : Nat} {fs : List (TypeId × Nat)} {d d' : List C → Prop} (ho : o' = o + P.cellsOf T) (h : Reads enc P W N T d) (hs : ReadsF enc P W N fs o' d') :
    ReadsF enc P W N ((T, o) :: fs) o (fun cc => ∃ a b, cc = a ++ b ∧ d a ∧ d' b) := fun fuel cs hn hb hl hf => by
  subst ho
  obtain ⟨y, hy⟩ := hf (T, o) (by simp)
  simp only at hy
  obtain ⟨a, ha, hda⟩ := h fuel _ _ hn hy
  obtain ⟨b, hb', hdb⟩ := hs fuel cs hn (fun f hm => hb f (List.mem_cons_of_mem _ hm)) (by simp only [List.map_cons, List.sum_cons] at hl; omega) (fun f hm => hf f (List.mem_cons_of_mem _ hm))
  refine ⟨a ++ b, ?_, a, b, rfl, hda, hdb⟩
  have := ha.append hb'
  rwa [← List.drop_drop, List.take_append_drop] at this
theorem Reads.struct {N : Nat} {T : TypeId} {fs : Array Field} {d : List C → Prop} (hT : P.underlying T = some (.struct fs)) (l : List (TypeId × Nat)) (hl : (fs.toList.map fun f => (f.type, f.offset)) = l)
    (hb : (l.all fun f => decide (f.2 + P.cellsOf f.1 ≤ P.cellsOf T)) = true) (hc : P.cellsOf T = (l.map fun f => P.cellsOf f.1).sum) (hF : ReadsF enc P W N l 0 d) : Reads enc P W (N + 1) T d := fun fuel cs x hn hx => by
  obtain ⟨xs, n, rfl, _, hlen, hxl, hi⟩ := DataW.trod_struct hT hx
  have := hF n cs (by omega) (fun f hf => by rw [hlen]; exact of_decide_eq_true (List.all_eq_true.1 hb f hf)) (by omega) (fun f hm => by
    rw [← hl] at hm
    obtain ⟨g, hg, rfl⟩ := List.mem_map.1 hm
    obtain ⟨i, hi'⟩ := List.getElem?_of_mem hg
    have h1 := hi i g (by simpa using hi')
    have h2 : i < xs.length := by
      have := (List.getElem?_eq_some_iff.1 hi').1
      rw [hxl]
      simpa using this
    rw [List.getElem?_eq_getElem h2] at h1
    exact ⟨_, h1⟩)
  simpa using this
theorem Reads.array {N : Nat} {T E : TypeId} {n : Nat} {d : List C → Prop} (hT : P.underlying T = some (.array n E)) (l : List (TypeId × Nat)) (hl : ((List.range n).map fun i => (E, i * P.cellsOf E)) = l)
    (hb : (l.all fun f => decide (f.2 + P.cellsOf f.1 ≤ P.cellsOf T)) = true) (hc : P.cellsOf T = (l.map fun f => P.cellsOf f.1).sum) (hF : ReadsF enc P W N l 0 d) : Reads enc P W (N + 1) T d := fun fuel cs x hn hx => by
  obtain ⟨xs, m, rfl, _, hlen, hxl, hi⟩ := DataW.trod_array hT hx
  have := hF m cs (by omega) (fun f hf => by rw [hlen]; exact of_decide_eq_true (List.all_eq_true.1 hb f hf)) (by omega) (fun f hm => by
    rw [← hl] at hm
    obtain ⟨i, hi', rfl⟩ := List.mem_map.1 hm
    have h0 : i < n := by simpa using hi'
    have h1 := hi i h0
    rw [List.getElem?_eq_getElem (by omega)] at h1
    exact ⟨_, h1⟩)
  simpa using this

/-! ### arguments -/
theorem okWide_array {w : World} {r : Reach} {base : Nat} {t : TypeId} {v : Value} {n : Nat} {e : TypeId} (ht : P.underlying t = some (.array n e)) (h : Value.okWide P w r base t v) : ∃ cs, v = .agg cs ∧ cs.size = P.cellsOf t := by
  simp only [Value.okWide, ht] at h
  obtain ⟨cs, h1, h2, _⟩ := h
  exact ⟨cs, h1, h2⟩
theorem Reads.aggA {T : TypeId} {d : List C → Prop} {v : Value} {x : DataW H} {ps : List MemPlace} (h : ∀ N, Reads enc P W N T d) (hs : ∃ cs, v = .agg cs) (hv : DataW.Trod enc P W 0 (fun _ => true) true T v x ps) :
    ∃ cc, d cc ∧ ∀ L, RepA (Below0 W) W L v (.agg cc.length cc) := by
  obtain ⟨cs, rfl⟩ := hs
  obtain ⟨fuel, hf⟩ := hv
  obtain ⟨cc, h1, h2⟩ := h fuel fuel _ _ (Nat.le_refl _) hf
  refine ⟨cc, h2, fun L => ⟨(by simp), ?_⟩⟩
  have hl : cs.size = cc.length := by simpa [Value.cells] using h1.1
  exact .pagg cs cc hl (fun j v x h3 h4 => h1.2 j v x (by simpa [Value.cells] using h3) h4)
theorem Reads.oneA {T : TypeId} {d : C → Prop} {v : Value} {x : DataW H} {ps : List MemPlace} (h : ∀ N, Reads enc P W N T (fun cc => ∃ c, cc = [c] ∧ d c)) (hs : v.cells = #[v]) (hv : DataW.Trod enc P W 0 (fun _ => true) true T v x ps) :
    ∃ c, d c ∧ ∀ L, RepA (Below0 W) W L v (.one c) := by
  obtain ⟨fuel, hf⟩ := hv
  rw [hs] at hf
  obtain ⟨cc, h1, c, rfl, h2⟩ := h fuel fuel _ _ (Nat.le_refl _) hf
  exact ⟨c, h2, fun L => ⟨by simp, .c _ _ (h1.2 0 v c rfl rfl)⟩⟩
end
end Go.Proofs.Ytbhojnofdeihdaa.E
