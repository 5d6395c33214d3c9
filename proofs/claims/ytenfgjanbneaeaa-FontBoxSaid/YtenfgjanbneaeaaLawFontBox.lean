/- The law FontBox returns true at every input that can be read: the evaluator, which is sound, comes to true. No further condition. -/
import Derived.Test.YtenfgjanbneaeaaRows
import Derived.Test.YtenfgjanbneaeaaOC
import Derived.Test.YtenfgjanbneaeaaEJ
import Derived.Test.YtenfgjanbneaeaaFW
import Derived.WalkKit
import Derived.ProofKit
import Derived.OpenShut
import Derived.ShutString
import Derived.ChangeOld
import Derived.Below
import Derived.Carry
import Derived.SizedLaws
namespace Go.Proofs.Ytenfgjanbneaeaa.fontBox
open Go.ChangeShapes Go.WideShapes Go.ChangeAt Go.RowKit Go.Proofs.Ytenfgjanbneaeaa.E
open Go.ChangeMaps (open_string shut_string)
set_option linter.unusedVariables false
theorem own : ownKnob Try.prog.godebug = none := by kernel_rfl
theorem laidOut : laidOutB Try.prog = true := by kernel_rfl
set_option maxRecDepth 100000 in
theorem lifted (os : Os) (started : os.Started) (H : Type) (enc : TypeId × Value → H) :
    ReturnsInHanded {} Try.checked os 6 .any (Rows.fontBoxSpec.pre6 enc Try.prog Try.f6 Rows.fontBoxRow.domain false) (Rows.fontBoxSpec.post enc Try.prog Try.f6 false true false false) := by
  refine returnsInHanded_of_change_sized (C := Try.checked) own started (by kernel_rfl) Try.func6
    (ChangeSpec.witness6 (enc := enc) (C := Try.checked) false ⟨#[], #[(.agg #[.slice none 0 0, .slice none 0 0, .int .i64 0, .int .i64 0, .int .i64 0, .int .i64 0, .int .i64 0, .int .i64 0, .int .i64 0, .int .i64 0, .int .i64 0, .int .i64 0, .int .i64 0, .int .i64 0, .int .i64 0, .int .i64 0, .int .i64 0, .int .i64 0, .int .i64 0, .int .i64 0, .int .i64 0, .int .i64 0]), (.string ⟨#[]⟩), (.int .i64 0)], []⟩ 8 (by kernel_rfl) (by kernel_rfl) (by kernel_rfl) (by kernel_rfl)) ?_
  intro W base args ds gs before hval0 hW hcnd hsz0 _
  have hval : ∀ (j : Nat) t v, Try.f6.params[j]? = some t → args[j]? = some v → Value.okWide Try.prog W .any base t v := hval0
  have hW' := hW
  obtain ⟨p, q, hA0, hV, rfl, hfz, hnd⟩ := hW
  have hA : DataW.TrodAll enc Try.prog W 0 (fun _ => true) true Try.f6.params.toList args.toList ds p := hA0
  rw [Try.params6] at hA hval
  obtain ⟨v0, vs0, d0, ds0, p0, q0, hargs, rfl, rfl, h0, r0⟩ := trodAll_cons hA
  obtain ⟨v1, vs1, d1, ds1, p1, q1, rfl, rfl, rfl, h1, r1⟩ := trodAll_cons r0
  obtain ⟨v2, vs2, d2, ds2, p2, q2, rfl, rfl, rfl, h2, r2⟩ := trodAll_cons r1
  obtain ⟨rfl, rfl, rfl⟩ := trodAll_nil r2
  obtain rfl : args = #[v0, v1, v2] := by cases args; simp_all
  obtain ⟨rfl, rfl⟩ := trodVars_none hV
  have k0 := h0
  have lt0 : ∀ x ∈ p0, x.block < W.heap.size := by obtain ⟨m, hm⟩ := k0; exact DataW.trod_lt m _ _ _ hm
  obtain ⟨cs0, hs0, _⟩ := okWide_struct Try.underlying27 (hval 0 27 v0 rfl rfl)
  obtain ⟨_, ⟨x0, rfl, ok0⟩, rep0⟩ := Reads.aggA (fun N => reads_Font N) ⟨cs0, hs0⟩ h0
  have k1 := h1
  have lt1 : ∀ x ∈ p1, x.block < W.heap.size := by obtain ⟨m, hm⟩ := k1; exact DataW.trod_lt m _ _ _ hm
  obtain ⟨x1, rfl, rfl, rfl, hz1⟩ := open_string Try.underlying9 (hval 1 9 v1 rfl rfl) h1
  have ok1 := maxLen_I64 hz1
  have rep1 : ∀ L, RepA (Below0 W) W L (.string x1) (.one (.str x1)) := fun L => ⟨by simp, .c _ _ (.str _)⟩
  have k2 := h2
  have lt2 : ∀ x ∈ p2, x.block < W.heap.size := by obtain ⟨m, hm⟩ := k2; exact DataW.trod_lt m _ _ _ hm
  obtain ⟨x2, rfl, rfl, rfl, ok2⟩ := open_int Try.underlying3 (hval 2 3 v2 rfl rfl) h2
  replace ok2 := I64.of_wf ok2
  have rep2 : ∀ L, RepA (Below0 W) W L (.int .i64 x2) (.one (.int .i64 x2)) := fun L => ⟨by simp, .c _ _ (.int _ _)⟩
  obtain ⟨M, hM⟩ := FontBox_true x0 ok0 x1 x2
  refine (law_calls (eng_sound M) (hM M (Nat.le_refl M)) rfl ?_).mono fun e W' ⟨he, bel⟩ => ?_
  · intro j v a h1 h2
    rcases j with _ | j
    · cases h1; cases h2; exact rep0 none
    rcases j with _ | j
    · cases h1; cases h2; exact rep1 none
    rcases j with _ | j
    · cases h1; cases h2; exact rep2 none
    · simp at h1
  · subst he
    exact ⟨_, rfl, _, _, _, [], _, [], hW', trodAll_mk1 (shut_bool Try.underlying4 _), (trodAll_cons_mk (Below.trod laidOut (by kernel_rfl) (of_decide_eq_true (by kernel_rfl)) k0 bel lt0) (trodAll_cons_mk (Below.trod laidOut (by kernel_rfl) (of_decide_eq_true (by kernel_rfl)) k1 bel lt1) (trodAll_cons_mk (Below.trod laidOut (by kernel_rfl) (of_decide_eq_true (by kernel_rfl)) k2 bel lt2) trodAll_mk0))), rfl, bel.frame _, fun h => by cases h⟩
theorem over : Rows.fontBoxRow.holds Try.pinned (OpenSpec.ofChange Rows.fontBoxSpec) :=
  OpenClaim.holds_of_wide 6 Try.f6 rfl rfl rfl rfl rfl rfl rfl ⟨rfl, rfl, rfl, rfl, rfl⟩ rfl rfl rfl rfl rfl (by kernel_rfl) Try.func6 (by kernel_rfl)
    (of_decide_eq_true (by kernel_rfl)) (by unfold Func.isWrapper; first | (rw [if_pos (by decide +kernel)]; kernel_rfl) | (rw [if_neg (by decide +kernel)]; exact ⟨rfl, rfl⟩))
    (fun os started H enc _ => lifted os started H enc)
theorem proved : Rows.FontBoxSaid := over
#print axioms proved
end Go.Proofs.Ytenfgjanbneaeaa.fontBox
namespace Go.Proofs.Ytenfgjanbneaeaa
theorem fontBox_holds : Rows.FontBoxSaid := fontBox.proved
end Go.Proofs.Ytenfgjanbneaeaa
