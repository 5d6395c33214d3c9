/- What is shown here: slices.Clone gives an empty slice for an empty slice; what the evaluator takes from elsewhere is so. -/
import Derived.Test.YtbhojnofdeihdaaEH0
import Derived.WalkKit
import Derived.ProofKit
import Derived.OwnWalk
import Derived.Lib.SliceRun
namespace Go.Proofs.Ytbhojnofdeihdaa.E
open Go.RowKit Go.Lib Go.Proofs
set_option autoImplicit false
set_option linter.unusedVariables false
set_option maxHeartbeats 2000000 in
set_option maxRecDepth 100000 in
theorem clone63_none (n c : Nat) (w : World) : Calls Try.prog 63 #[.slice none n c] w fun e w' => e = .returned (.slice none 0 0) ∧ w' = w := by
  have q : ∀ (w : World) (a : Option Addr) (n c n' c' : Nat), (binOp .eql 30 (.slice a n c) (.slice none n' c')).run Try.prog w = .ok (.bool a.isNone) w := fun w a n c n' c' => Lib.run_eql_slice_nil w _ _ a n c n' c' Try.underlying30
  go_enter Try.func63, Try.ntmps63
  go_wp2
  go_ret
  exact ⟨rfl, rfl⟩
set_option maxHeartbeats 2000000 in
set_option maxRecDepth 100000 in
theorem clone63_some (a : Addr) (c : Nat) (w : World) : Calls Try.prog 63 #[.slice (some a) 0 c] w fun e w' => ∃ v', e = .returned v' ∧ w'.ownsRow w.heap.size 33 11 v' 0 [] ∧ v' ≠ .slice none 0 0 ∧ Below w.heap.size w w' := by
  have q : ∀ (w : World) (a : Option Addr) (n c n' c' : Nat), (binOp .eql 30 (.slice a n c) (.slice none n' c')).run Try.prog w = .ok (.bool a.isNone) w := fun w a n c n' c' => Lib.run_eql_slice_nil w _ _ a n c n' c' Try.underlying30
  obtain ⟨i0, hi, hz0, hz1, hz2⟩ := info_parts (P := Try.prog) (e := 33) rfl
  have u : ∀ w, Sem.run Try.prog (underlying 30) w = .ok (TypeDesc.slice 33) w := run_underlying Try.underlying30
  go_enter Try.func63, Try.ntmps63
  go_wp2_with (at_builtin; refine wpList_append_own _ rfl _ _ 30 rfl w.heap.size 33 i0 _ 11 _ Try.underlying30 hi hz0 hz1 hz2 rfl (by decide) _ _ _ rfl (World.ownsRow_made w #[] 0 (Nat.le_refl _) (Nat.zero_le _) rfl) a 0 c [] rfl ?qc1 ?qc2 ?qc3 ?qc4 ?qc5 ?qc6 ?_)
  case qc1 => simp
  case qc2 => intro j u hj; simp at hj
  case qc3 => intro u hu; simp at hu
  case qc4 => decide
  case qc5 => decide
  case qc6 => simp
  intro v' w1 hown hgrow hnil
  go_wp2
  go_ret
  refine ⟨v', rfl, by simpa using hown, ?_, ?_⟩
  · exact hnil
  · exact ((Below.refl _ w).alloc (Nat.le_refl _) _).grown hgrow (by simp) (by intro k hk; simp [Value.ownBlock] at hk; omega)
theorem clone63_ok : CallOK Try.prog 63 [.one (.sl [])] none [.one (.sl [])] none := clone_ok clone63_none clone63_some
theorem orcs_ok : OrcOK Try.prog hs := orc_of rfl
  (fun f hf => by
    simp only [clones, List.mem_cons, List.not_mem_nil, or_false] at hf
    rcases hf with rfl
    · exact clone63_ok)
  (fun f hf => by
    simp only [clones, List.mem_cons, List.not_mem_nil, or_false] at hf
    rcases hf with rfl
    · exact ⟨_, Try.func63, rfl⟩)
theorem prog_ok : PG Try.prog := ⟨fun f fn hf hb => by
  have : ∀ f : Nat, f < Try.prog.funcs.size → ((Try.prog.funcs[f]?).map fun fn => fn.name == "runtime.NumGoroutine") = some false := by decide +kernel
  have hlt := (Array.getElem?_eq_some_iff.1 hf).1
  have h2 := this f hlt
  rw [hf] at h2
  simpa using h2, by decide +kernel⟩
theorem eng_sound (n : Nat) : ESound Try.prog (eng Try.prog hs n) := (eng_ok prog_ok orcs_ok n).1
end Go.Proofs.Ytbhojnofdeihdaa.E
