/- What is shown here: how plain data stands for what lies in Go's memory, and that it goes on to do so while other memory changes. -/
import Derived.Test.YtbhojnofdeihdaaEE
namespace Go.Proofs.Ytbhojnofdeihdaa.E
open Go.RowKit
set_option autoImplicit false
set_option linter.unusedVariables false

abbrev Set := Nat → Prop
/-- Value v, in world w, reads as x; all that it leads to lies in the blocks of ro. -/
inductive Rep (ro : Set) (w : World) : Value → C → Prop
  | bool (b : Bool) : Rep ro w (.bool b) (.bool b)
  | int (k : IntKind) (n : Int) : Rep ro w (.int k n) (.int k n)
  | str (s : ByteArray) : Rep ro w (.string s) (.str s)
  | sl (base : Option Addr) (es : List (List C)) (cap sz : Nat) (hc : es.length ≤ cap) (hb : es ≠ [] → ∃ b o, base = some ⟨b, o, none⟩ ∧ ro b)
      (hz : ∀ (i : Nat) (cs : List C), es[i]? = some cs → cs.length = sz)
      (val : Nat → Nat → Value)
      (hv : ∀ (i j : Nat) (cs : List C) (x : C), es[i]? = some cs → cs[j]? = some x → ∀ b o, base = some ⟨b, o, none⟩ → w.cell? ⟨b, o + i * sz + j, none⟩ = some (val i j))
      (hr : ∀ (i j : Nat) (cs : List C) (x : C), es[i]? = some cs → cs[j]? = some x → Rep ro w (val i j) x) : Rep ro w (.slice base es.length cap) (.sl es)
  | rp (b o off : Nat) (cs : List C) (hb : ro b) (val : Nat → Value)
      (hv : ∀ (j : Nat) (x : C), cs[j]? = some x → w.cell? ⟨b, o + j, none⟩ = some (val j))
      (hr : ∀ (j : Nat) (x : C), cs[j]? = some x → Rep ro w (val j) x) : Rep ro w (.pointer (some ⟨b, o + off, none⟩)) (.rp cs off)
  | fn (f : Nat) (vs : Array Value) (cs : List C) (hs : vs.size = cs.length) (hr : ∀ (j : Nat) (v : Value) (x : C), vs[j]? = some v → cs[j]? = some x → Rep ro w v x) : Rep ro w (.func (.func f) #[] vs) (.fn f cs)
  | mp (r : Nat) (ents : Array MapEntry) (clock : Nat) (es : List (ByteArray × C)) (hr : ro r) (hm : w.heap[r]? = some (.map ents clock)) (hs : ents.size = es.length)
      (hk : ∀ (j : Nat) (m : MapEntry) (p : ByteArray × C), ents[j]? = some m → es[j]? = some p → m.key = .string p.1)
      (hv : ∀ (j : Nat) (m : MapEntry) (p : ByteArray × C), ents[j]? = some m → es[j]? = some p → Rep ro w m.val p.2) : Rep ro w (.map (some r)) (.mp es)

/-- What a handle stands for: a block; of a slice's block also the number of its elements, its room and its element's cells. -/
structure Bt where
  b : Nat
  n : Nat := 0
  cap : Nat := 0
  sz : Nat := 0
abbrev Tab := Nat → Option Bt
inductive RepV (ro : Set) (w : World) (β : Tab) (L : Option Nat) : Value → V → Prop
  | c (v : Value) (x : C) (h : Rep ro w v x) : RepV ro w β L v (.c x)
  | ptr (h off : Nat) (t : Bt) (ht : β h = some t) : RepV ro w β L (.pointer (some ⟨t.b, off, none⟩)) (.ptr h off)
  | eptr (h i off : Nat) (t : Bt) (ht : β h = some t) : RepV ro w β L (.pointer (some ⟨t.b, i * t.sz + off, none⟩)) (.eptr h i off)
  | own (h : Nat) (t : Bt) (ht : β h = some t) : RepV ro w β L (.slice (some ⟨t.b, 0, none⟩) t.n t.cap) (.own h t.n t.sz)
  | nsl : RepV ro w β L (.slice none 0 0) .nsl
  | mapv (h : Nat) (t : Bt) (ht : β h = some t) : RepV ro w β L (.map (some t.b)) (.mapv h)
  | clo (f : Nat) (vs : Array Value) (cs : List V) (hs : vs.size = cs.length) (hr : ∀ (j : Nat) (v : Value) (x : V), vs[j]? = some v → cs[j]? = some x → RepV ro w β L v x) : RepV ro w β L (.func (.func f) #[] vs) (.clo f cs)
  | yld (l : Nat) (hl : L = some l) : RepV ro w β L (.func (.yield l) #[] #[]) .yld
  | agg (vs : Array Value) (cs : List V) (hs : vs.size = cs.length) (hr : ∀ (j : Nat) (v : Value) (x : V), vs[j]? = some v → cs[j]? = some x → RepV ro w β L v x)
      (hn : ∀ v ∈ vs, v.oneCell' = true) : RepV ro w β L (.agg vs) (.agg cs)
  | pagg (vs : Array Value) (cs : List C) (hs : vs.size = cs.length) (hr : ∀ (j : Nat) (v : Value) (x : C), vs[j]? = some v → cs[j]? = some x → Rep ro w v x) : RepV ro w β L (.agg vs) (.pagg cs.length cs)
  | tup (vs : Array Value) (cs : List V) (hs : vs.size = cs.length) (hr : ∀ (j : Nat) (v : Value) (x : V), vs[j]? = some v → cs[j]? = some x → RepV ro w β L v x) : RepV ro w β L (.tuple vs) (.tup cs)
  | undef (v : Value) : RepV ro w β L v .undef

theorem cell_of_block {w w' : World} {b o : Nat} (h : w'.heap[b]? = w.heap[b]?) : w'.cell? ⟨b, o, none⟩ = w.cell? ⟨b, o, none⟩ := by
  unfold World.cell?; rw [h]
theorem Rep.mono {ro ro' : Set} {w w' : World} (hro : ∀ b, ro b → ro' b) (hw : ∀ b, ro b → w'.heap[b]? = w.heap[b]?) {v : Value} {x : C} (h : Rep ro w v x) : Rep ro' w' v x := by
  induction h with
  | bool b => exact .bool b
  | int k n => exact .int k n
  | str s => exact .str s
  | sl base es cap sz hc hb hz val hv hr ih =>
    refine .sl base es cap sz hc (fun h => ?_) hz val (fun i j cs x h1 h2 b o hbo => ?_) ih
    · obtain ⟨b, o, h1, h2⟩ := hb h; exact ⟨b, o, h1, hro b h2⟩
    · obtain ⟨b', o', h3, h4⟩ := hb (by rintro rfl; simp at h1)
      rw [hbo] at h3; cases h3
      rw [cell_of_block (hw b h4)]; exact hv i j cs x h1 h2 b o hbo
  | rp b o off cs hb val hv hr ih =>
    exact .rp b o off cs (hro b hb) val (fun j x h => by rw [cell_of_block (hw b hb)]; exact hv j x h) ih
  | fn f vs cs hs hr ih => exact .fn f vs cs hs ih
  | mp r ents clock es hr hm hs hk hv ih => exact .mp r ents clock es (hro r hr) (by rw [hw r hr]; exact hm) hs hk ih
theorem RepV.mono {ro ro' : Set} {w w' : World} {β β' : Tab} {L : Option Nat} (hro : ∀ b, ro b → ro' b) (hw : ∀ b, ro b → w'.heap[b]? = w.heap[b]?)
    (hβ : ∀ h t, β h = some t → β' h = some t) {v : Value} {x : V} (h : RepV ro w β L v x) : RepV ro' w' β' L v x := by
  induction h with
  | c v x h => exact .c v x (h.mono hro hw)
  | ptr h off t ht => exact .ptr h off t (hβ _ _ ht)
  | eptr h i off t ht => exact .eptr h i off t (hβ _ _ ht)
  | own h t ht => exact .own h t (hβ _ _ ht)
  | nsl => exact .nsl
  | mapv h t ht => exact .mapv h t (hβ _ _ ht)
  | clo f vs cs hs hr ih => exact .clo f vs cs hs ih
  | yld l hl => exact .yld l hl
  | agg vs cs hs hr hn ih => exact .agg vs cs hs ih hn
  | pagg vs cs hs hr => exact .pagg vs cs hs (fun j v x h1 h2 => (hr j v x h1 h2).mono hro hw)
  | tup vs cs hs hr ih => exact .tup vs cs hs ih
  | undef v => exact .undef v

/-- What a block of the evaluator's stands for. -/
inductive RepB (ro : Set) (w : World) (β : Tab) (L : Option Nat) (t : Bt) : Blk → Prop
  | pc (cs : List C) (c : Array Value) (el : TypeId) (hh : w.heap[t.b]? = some (.cells c el (0, 0))) (hs : c.size = cs.length)
      (hr : ∀ (j : Nat) (v : Value) (x : C), c[j]? = some v → cs[j]? = some x → Rep ro w v x) : RepB ro w β L t (.pc cs.length cs)
  | vs (l : List V) (c : Array Value) (el : TypeId) (hh : w.heap[t.b]? = some (.cells c el (0, 0))) (hs : c.size = l.length)
      (hr : ∀ (j : Nat) (v : Value) (x : V), c[j]? = some v → l[j]? = some x → RepV ro w β L v x) (hn : ∀ v ∈ c, v.oneCell' = true) : RepB ro w β L t (.vs l)
  | arr (es : List (List C)) (c : Array Value) (el : TypeId) (hh : w.heap[t.b]? = some (.cells c el (0, 0))) (hs : c.size = t.cap * t.sz) (hn : t.n = es.length) (hc : t.n ≤ t.cap)
      (hz : ∀ (i : Nat) (cs : List C), es[i]? = some cs → cs.length = t.sz)
      (hr : ∀ (i j : Nat) (cs : List C) (v : Value) (x : C), es[i]? = some cs → cs[j]? = some x → c[i * t.sz + j]? = some v → Rep ro w v x) : RepB ro w β L t (.arr t.sz es)
  | map (es : List (ByteArray × C)) (ents : Array MapEntry) (clock : Nat) (hh : w.heap[t.b]? = some (.map ents clock)) (hs : ents.size = es.length)
      (hk : ∀ (j : Nat) (m : MapEntry) (p : ByteArray × C), ents[j]? = some m → es[j]? = some p → m.key = .string p.1)
      (hv : ∀ (j : Nat) (m : MapEntry) (p : ByteArray × C), ents[j]? = some m → es[j]? = some p → Rep ro w m.val p.2) : RepB ro w β L t (.map es)
theorem RepB.mono {ro ro' : Set} {w w' : World} {β β' : Tab} {L : Option Nat} {t : Bt} (hro : ∀ b, ro b → ro' b) (hw : ∀ b, ro b → w'.heap[b]? = w.heap[b]?)
    (hβ : ∀ h t, β h = some t → β' h = some t) (ht : w'.heap[t.b]? = w.heap[t.b]?) {x : Blk} (h : RepB ro w β L t x) : RepB ro' w' β' L t x := by
  cases h with
  | pc cs c el hh hs hr => exact .pc cs c el (ht.trans hh) hs (fun j v x h1 h2 => (hr j v x h1 h2).mono hro hw)
  | vs l c el hh hs hr hn => exact .vs l c el (ht.trans hh) hs (fun j v x h1 h2 => (hr j v x h1 h2).mono hro hw hβ) hn
  | arr es c el hh hs hn hc hz hr => exact .arr es c el (ht.trans hh) hs hn hc hz (fun i j cs v x h1 h2 h3 => (hr i j cs v x h1 h2 h3).mono hro hw)
  | map es ents clock hh hs hk hv => exact .map es ents clock (ht.trans hh) hs hk (fun j m p h1 h2 => (hv j m p h1 h2).mono hro hw)

/-- The evaluator's memory stands for blocks of w; Own: the blocks that may still be written. -/
structure RepH (ro : Set) (w : World) (β : Tab) (L : Option Nat) (H : Heap) (Own : Set) : Prop where
  free : ∀ h, get H h = none → β h = none
  live : ∀ h b z, get H h = some (.live b z) → ∃ t, β h = some t ∧ RepB ro w β L t b ∧ (z = true → ro t.b) ∧ (z = false → Own t.b)
  inj : ∀ h h' b z b' z' t t', h ≠ h' → get H h = some (.live b z) → get H h' = some (.live b' z') → β h = some t → β h' = some t' → t.b ≠ t'.b
  own : ∀ b, Own b → ∃ h bl t, get H h = some (.live bl false) ∧ β h = some t ∧ t.b = b

/-- From one world to a later one: ro only grows and lies as it lay; of the blocks below B only those of M have changed. -/
structure Stp (B : Nat) (M : Set) (ro : Set) (w : World) (ro' : Set) (w' : World) : Prop where
  os : w'.os = w.os
  tape : w'.tape = w.tape
  output : w'.output = w.output
  size : w.heap.size ≤ w'.heap.size
  grow : ∀ b, ro b → ro' b
  keep : ∀ b, ro b → w'.heap[b]? = w.heap[b]?
  below : ∀ b, b < B → ¬ M b → w'.heap[b]? = w.heap[b]?
  new : ∀ b, ro' b → ro b ∨ B ≤ b ∨ M b
theorem Stp.refl (B : Nat) (M ro : Set) (w : World) : Stp B M ro w ro w := ⟨rfl, rfl, rfl, Nat.le_refl _, fun _ h => h, fun _ _ => rfl, fun _ _ _ => rfl, fun _ h => .inl h⟩
theorem Stp.trans {B B' : Nat} {M M' : Set} {ro ro' ro'' : Set} {w w' w'' : World} (h : Stp B M ro w ro' w') (k : Stp B' M' ro' w' ro'' w'') (hB : B ≤ B') (hM : ∀ b, M' b → B ≤ b ∨ M b) : Stp B M ro w ro'' w'' := by
  refine ⟨k.os.trans h.os, k.tape.trans h.tape, k.output.trans h.output, Nat.le_trans h.size k.size, fun b hb => k.grow b (h.grow b hb), fun b hb => (k.keep b (h.grow b hb)).trans (h.keep b hb), fun b hb hm => ?_, fun b hb => ?_⟩
  · refine (k.below b (by omega) (fun hm' => ?_)).trans (h.below b hb hm)
    rcases hM b hm' with h1 | h1
    · omega
    · exact hm h1
  · rcases k.new b hb with h1 | h1 | h1
    · exact h.new b h1
    · exact .inr (.inl (Nat.le_trans hB h1))
    · exact .inr (hM b h1)
end Go.Proofs.Ytbhojnofdeihdaa.E
