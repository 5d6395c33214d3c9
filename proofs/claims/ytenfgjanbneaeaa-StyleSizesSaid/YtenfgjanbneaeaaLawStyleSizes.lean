/- The law StyleSizes returns true at every input that can be read: the evaluator, which is sound, comes to true. No further condition. -/
import Derived.Test.YtenfgjanbneaeaaRows
import Derived.Test.YtenfgjanbneaeaaOC
import Derived.Test.YtenfgjanbneaeaaEJ
import Derived.Test.YtenfgjanbneaeaaSW
import Derived.WalkKit
import Derived.ProofKit
import Derived.OpenShut
import Derived.ShutString
import Derived.ChangeOld
import Derived.Below
import Derived.Carry
import Derived.SizedLaws
namespace Go.Proofs.Ytenfgjanbneaeaa.styleSizes
open Go.ChangeShapes Go.WideShapes Go.ChangeAt Go.RowKit Go.Proofs.Ytenfgjanbneaeaa.E
open Go.ChangeMaps (open_string shut_string)
set_option linter.unusedVariables false
theorem own : ownKnob Try.prog.godebug = none := by kernel_rfl
theorem laidOut : laidOutB Try.prog = true := by kernel_rfl
set_option maxRecDepth 100000 in
theorem lifted (os : Os) (started : os.Started) (H : Type) (enc : TypeId × Value → H) :
    ReturnsInHanded {} Try.checked os 9 .any (Rows.styleSizesSpec.pre6 enc Try.prog Try.f9 Rows.styleSizesRow.domain false) (Rows.styleSizesSpec.post enc Try.prog Try.f9 false true false false) := by
  refine returnsInHanded_of_change_sized (C := Try.checked) own started (by kernel_rfl) Try.func9
    (ChangeSpec.witness6 (enc := enc) (C := Try.checked) false ⟨#[], #[(.agg #[.slice none 0 0, .slice none 0 0, .int .i64 0, .int .i64 0, .int .i64 0, .int .i64 0, .int .i64 0, .int .i64 0, .int .i64 0, .int .i64 0, .int .i64 0, .int .i64 0, .int .i64 0, .int .i64 0, .int .i64 0, .int .i64 0, .int .i64 0, .int .i64 0, .int .i64 0, .int .i64 0, .int .i64 0, .int .i64 0]), (.agg #[.int .i64 0, .int .i64 0]), (.agg #[.int .i64 0, .bool false])], []⟩ 8 (by kernel_rfl) (by kernel_rfl) (by kernel_rfl) (by kernel_rfl)) ?_
  intro W base args ds gs before hval0 hW hcnd hsz0 _
  have hval : ∀ (j : Nat) t v, Try.f9.params[j]? = some t → args[j]? = some v → Value.okWide Try.prog W .any base t v := hval0
  have hW' := hW
  obtain ⟨p, q, hA0, hV, rfl, hfz, hnd⟩ := hW
  have hA : DataW.TrodAll enc Try.prog W 0 (fun _ => true) true Try.f9.params.toList args.toList ds p := hA0
  rw [Try.params9] at hA hval
  obtain ⟨v0, vs0, d0, ds0, p0, q0, hargs, rfl, rfl, h0, r0⟩ := trodAll_cons hA
  obtain ⟨v1, vs1, d1, ds1, p1, q1, rfl, rfl, rfl, h1, r1⟩ := trodAll_cons r0
  obtain ⟨v2, vs2, d2, ds2, p2, q2, rfl, rfl, rfl, h2, r2⟩ := trodAll_cons r1
  obtain ⟨rfl, rfl, rfl⟩ := trodAll_nil r2
  obtain rfl : args = #[v0, v1, v2] := by cases args; simp_all
  obtain ⟨rfl, rfl⟩ := trodVars_none hV
  have k0 := h0
  have lt0 : ∀ x ∈ p0, x.block < W.heap.size := by obtain ⟨m, hm⟩ := k0; exact DataW.trod_lt m _ _ _ hm
  obtain ⟨cs0, hs0, _⟩ := okWide_struct Try.underlying27 (hval 0 27 v0 rfl rfl)
  obtain ⟨_, ⟨x0, rfl, ok0⟩, rep0⟩ := Reads.aggA (fun N => reads_Font N) ⟨cs0, hs0⟩ h0
  have k1 := h1
  have lt1 : ∀ x ∈ p1, x.block < W.heap.size := by obtain ⟨m, hm⟩ := k1; exact DataW.trod_lt m _ _ _ hm
  obtain ⟨cs1, hs1, _⟩ := E.okWide_array Try.underlying61 (hval 1 61 v1 rfl rfl)
  obtain ⟨_, ⟨x1, rfl, ok1⟩, rep1⟩ := Reads.aggA (fun N => reads_Two N) ⟨cs1, hs1⟩ h1
  have k2 := h2
  have lt2 : ∀ x ∈ p2, x.block < W.heap.size := by obtain ⟨m, hm⟩ := k2; exact DataW.trod_lt m _ _ _ hm
  obtain ⟨cs2, hs2, _⟩ := okWide_struct Try.underlying57 (hval 2 57 v2 rfl rfl)
  obtain ⟨_, ⟨x2, rfl, ok2⟩, rep2⟩ := Reads.aggA (fun N => reads_Style N) ⟨cs2, hs2⟩ h2
  obtain ⟨M, hM⟩ := StyleSizes_true x0 ok0 x1 x2
  refine (law_calls (eng_sound M) (hM M (Nat.le_refl M)) rfl ?_).mono fun e W' ⟨he, bel⟩ => ?_
  · intro j v a h1 h2
    rcases j with _ | j
    · cases h1; cases h2; exact rep0 none
    rcases j with _ | j
    · cases h1; cases h2; exact rep1 none
    rcases j with _ | j
    · cases h1; cases h2; exact rep2 none
    · simp at h1
  · subst he
    exact ⟨_, rfl, _, _, _, [], _, [], hW', trodAll_mk1 (shut_bool Try.underlying4 _), (trodAll_cons_mk (Below.trod laidOut (by kernel_rfl) (of_decide_eq_true (by kernel_rfl)) k0 bel lt0) (trodAll_cons_mk (Below.trod laidOut (by kernel_rfl) (of_decide_eq_true (by kernel_rfl)) k1 bel lt1) (trodAll_cons_mk (Below.trod laidOut (by kernel_rfl) (of_decide_eq_true (by kernel_rfl)) k2 bel lt2) trodAll_mk0))), rfl, bel.frame _, fun h => by cases h⟩
theorem over : Rows.styleSizesRow.holds Try.pinned (OpenSpec.ofChange Rows.styleSizesSpec) :=
  OpenClaim.holds_of_wide 9 Try.f9 rfl rfl rfl rfl rfl rfl rfl ⟨rfl, rfl, rfl, rfl, rfl⟩ rfl rfl rfl rfl rfl (by kernel_rfl) Try.func9 (by kernel_rfl)
    (of_decide_eq_true (by kernel_rfl)) (by unfold Func.isWrapper; first | (rw [if_pos (by decide +kernel)]; kernel_rfl) | (rw [if_neg (by decide +kernel)]; exact ⟨rfl, rfl⟩))
    (fun os started H enc _ => lifted os started H enc)
theorem proved : Rows.StyleSizesSaid := over
#print axioms proved
end Go.Proofs.Ytenfgjanbneaeaa.styleSizes
namespace Go.Proofs.Ytenfgjanbneaeaa
theorem styleSizes_holds : Rows.StyleSizesSaid := styleSizes.proved
end Go.Proofs.Ytenfgjanbneaeaa
