/- Small lemmas of mine for hand-written contracts: arrays read by index, lists read round by round. -/
import Derived.Test.YtijioimbgmcpaaaProg
import Derived.Test.YtijioimbgmcpaaaWMore
import Derived.Test.YtijioimbgmcpaaaWGuard
import Derived.Test.YtijioimbgmcpaaaWNEv
import Derived.WalkKit
import Derived.KernelRfl
import Derived.Lib.SmallJoins
import Derived.LoopN
import Derived.Handy
import Derived.Outline
import Derived.StillTailTactics
import Derived.Deep.RegionHeld3
namespace Go.Proofs.Ytijioimbgmcpaaa.X
open Go.RowKit Go.Proofs.YtijioimbgmcpaaaW.PrintWords Go.Proofs.YtijioimbgmcpaaaW.PrintLast Go.Proofs.YtijioimbgmcpaaaW.PrintMore

set_option linter.unusedVariables false
set_option linter.unusedSimpArgs false
theorem take_all {α : Type} (p : α → Bool) (d : α) (l : List α) (k : Nat) (hk : k < l.length) (h : (l.take k).all p = true) : (l.take (k + 1)).all p = p (l.getD k d) := by
  rw [List.take_succ_eq_append_getElem hk, List.all_append, h]
  simp [List.getD, List.getElem?_eq_getElem hk]
theorem all_false_at {α : Type} (p : α → Bool) (d : α) (l : List α) (k : Nat) (hk : k < l.length) (h : p (l.getD k d) = false) : l.all p = false := by
  rw [List.all_eq_false]
  exact ⟨l[k], List.getElem_mem hk, by simpa [List.getD, List.getElem?_eq_getElem hk] using h⟩
theorem bl_set {w W : World} (h : Below w.heap.size w W) {p : Addr} {v : Value} (hp : w.heap.size ≤ p.block) : Below w.heap.size w (W.setCell p v) := h.setCell hp v
theorem bl_call {w W W' : World} (h : Below w.heap.size w W) (hb : Below W.heap.size W W') : Below w.heap.size w W' := below_then h h.size hb
theorem heap_alloc_new2 {w w1 : World} {o1 o2 : Obj} (hb : Below ((w.alloc o1).alloc o2).heap.size ((w.alloc o1).alloc o2) w1) : w1.heap[w.heap.size]? = some o1 ∧ w1.heap[w.heap.size + 1]? = some o2 := by
  have h1 := hb.block w.heap.size (by simp; omega)
  have h2 := hb.block (w.heap.size + 1) (by simp)
  refine ⟨h1.trans ((Below.heap_alloc (w.alloc o1) o2 w.heap.size (by simp)).trans (heap_alloc_new w o1)), h2.trans ?_⟩
  have := heap_alloc_new (w.alloc o1) o2
  rwa [World.size_alloc] at this
theorem bcell {W w1 : World} (hb : Below W.heap.size W w1) : (∀ b o, b < W.heap.size → w1.cell? ⟨b, o, none⟩ = W.cell? ⟨b, o, none⟩) ∧ (∀ b o, b < W.heap.size → w1.frozen? ⟨b, o, none⟩ = W.frozen? ⟨b, o, none⟩) :=
  ⟨fun b o h => hb.cell (p := ⟨b, o, none⟩) h, fun b o h => hb.frozen (p := ⟨b, o, none⟩) h⟩
theorem blk_call {W W' : World} {g : Nat} {o : Obj} (h : W.heap[g]? = some o) (hb : Below W.heap.size W W') : W'.heap[g]? = some o := (hb.block g (Array.getElem?_eq_some_iff.1 h).1).trans h
theorem blk_by {W W' : World} {g : Nat} {o : Obj} (hb : Below W.heap.size W W') (h : W.heap[g]? = some o) : W'.heap[g]? = some o := blk_call h hb
theorem blk_al {W : World} {g : Nat} {o : Obj} (h : W.heap[g]? = some o) (o' : Obj) : (W.alloc o').heap[g]? = some o := (Below.heap_alloc W o' g (Array.getElem?_eq_some_iff.1 h).1).trans h
theorem cells6 {W : World} {g t : Nat} {c0 c1 c2 c3 c4 c5 : Value} (h : W.heap[g]? = some (.cells #[c0, c1, c2, c3, c4, c5] t (0, 0))) : W.cell? ⟨g, 0, none⟩ = some c0 ∧ W.cell? ⟨g, 1, none⟩ = some c1 ∧ W.cell? ⟨g, 2, none⟩ = some c2 ∧ W.cell? ⟨g, 3, none⟩ = some c3 ∧ W.cell? ⟨g, 4, none⟩ = some c4 ∧ W.cell? ⟨g, 5, none⟩ = some c5 :=
  ⟨Joins.cell_of_block h 0, Joins.cell_of_block h 1, Joins.cell_of_block h 2, Joins.cell_of_block h 3, Joins.cell_of_block h 4, Joins.cell_of_block h 5⟩
theorem new2 (W : World) (A B : Obj) : ((W.alloc A).alloc B).heap[W.heap.size + 1]? = some B := by
  have := heap_alloc_new (W.alloc A) B
  rwa [World.size_alloc] at this
theorem al9 (w : World) (A0 A1 A2 A3 A4 A5 A6 A7 A8 : Obj) : Below w.heap.size w (((((((((w.alloc A0).alloc A1).alloc A2).alloc A3).alloc A4).alloc A5).alloc A6).alloc A7).alloc A8) ∧ (((((((((w.alloc A0).alloc A1).alloc A2).alloc A3).alloc A4).alloc A5).alloc A6).alloc A7).alloc A8).heap[w.heap.size]? = some A0 ∧ (((((((((w.alloc A0).alloc A1).alloc A2).alloc A3).alloc A4).alloc A5).alloc A6).alloc A7).alloc A8).heap[w.heap.size + 1]? = some A1 ∧ (((((((((w.alloc A0).alloc A1).alloc A2).alloc A3).alloc A4).alloc A5).alloc A6).alloc A7).alloc A8).heap[w.heap.size + 2]? = some A2 ∧ (((((((((w.alloc A0).alloc A1).alloc A2).alloc A3).alloc A4).alloc A5).alloc A6).alloc A7).alloc A8).heap[w.heap.size + 3]? = some A3 ∧ (((((((((w.alloc A0).alloc A1).alloc A2).alloc A3).alloc A4).alloc A5).alloc A6).alloc A7).alloc A8).heap[w.heap.size + 4]? = some A4 ∧ (((((((((w.alloc A0).alloc A1).alloc A2).alloc A3).alloc A4).alloc A5).alloc A6).alloc A7).alloc A8).heap[w.heap.size + 5]? = some A5 ∧ (((((((((w.alloc A0).alloc A1).alloc A2).alloc A3).alloc A4).alloc A5).alloc A6).alloc A7).alloc A8).heap[w.heap.size + 6]? = some A6 ∧ (((((((((w.alloc A0).alloc A1).alloc A2).alloc A3).alloc A4).alloc A5).alloc A6).alloc A7).alloc A8).heap[w.heap.size + 7]? = some A7 ∧ (((((((((w.alloc A0).alloc A1).alloc A2).alloc A3).alloc A4).alloc A5).alloc A6).alloc A7).alloc A8).heap[w.heap.size + 8]? = some A8 := by
  refine ⟨(below_alloc (below_alloc (below_alloc (below_alloc (below_alloc (below_alloc (below_alloc (below_alloc (below_alloc (Below.refl _ _) _) _) _) _) _) _) _) _) _), ?_, ?_, ?_, ?_, ?_, ?_, ?_, ?_, ?_⟩
  · have e := heap_alloc_new w A0
    exact (blk_al (blk_al (blk_al (blk_al (blk_al (blk_al (blk_al (blk_al e _) _) _) _) _) _) _) _)
  · have e := heap_alloc_new (w.alloc A0) A1
    simp only [World.size_alloc, Nat.add_assoc, Nat.reduceAdd] at e
    exact (blk_al (blk_al (blk_al (blk_al (blk_al (blk_al (blk_al e _) _) _) _) _) _) _)
  · have e := heap_alloc_new ((w.alloc A0).alloc A1) A2
    simp only [World.size_alloc, Nat.add_assoc, Nat.reduceAdd] at e
    exact (blk_al (blk_al (blk_al (blk_al (blk_al (blk_al e _) _) _) _) _) _)
  · have e := heap_alloc_new (((w.alloc A0).alloc A1).alloc A2) A3
    simp only [World.size_alloc, Nat.add_assoc, Nat.reduceAdd] at e
    exact (blk_al (blk_al (blk_al (blk_al (blk_al e _) _) _) _) _)
  · have e := heap_alloc_new ((((w.alloc A0).alloc A1).alloc A2).alloc A3) A4
    simp only [World.size_alloc, Nat.add_assoc, Nat.reduceAdd] at e
    exact (blk_al (blk_al (blk_al (blk_al e _) _) _) _)
  · have e := heap_alloc_new (((((w.alloc A0).alloc A1).alloc A2).alloc A3).alloc A4) A5
    simp only [World.size_alloc, Nat.add_assoc, Nat.reduceAdd] at e
    exact (blk_al (blk_al (blk_al e _) _) _)
  · have e := heap_alloc_new ((((((w.alloc A0).alloc A1).alloc A2).alloc A3).alloc A4).alloc A5) A6
    simp only [World.size_alloc, Nat.add_assoc, Nat.reduceAdd] at e
    exact (blk_al (blk_al e _) _)
  · have e := heap_alloc_new (((((((w.alloc A0).alloc A1).alloc A2).alloc A3).alloc A4).alloc A5).alloc A6) A7
    simp only [World.size_alloc, Nat.add_assoc, Nat.reduceAdd] at e
    exact (blk_al e _)
  · have e := heap_alloc_new ((((((((w.alloc A0).alloc A1).alloc A2).alloc A3).alloc A4).alloc A5).alloc A6).alloc A7) A8
    simp only [World.size_alloc, Nat.add_assoc, Nat.reduceAdd] at e
    exact e
end Go.Proofs.Ytijioimbgmcpaaa.X
