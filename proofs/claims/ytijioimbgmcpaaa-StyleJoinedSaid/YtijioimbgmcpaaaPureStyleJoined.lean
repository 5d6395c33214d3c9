/- The path of two parts is the path of the second part from where the first ends: the plain law behind StyleJoined. -/
import Derived.Test.YtijioimbgmcpaaaPPath
import Derived.Test.YtijioimbgmcpaaaQx11
import Derived.Test.YtijioimbgmcpaaaPreStyleJoined
namespace Go.Proofs.Ytijioimbgmcpaaa.Pure
open Go.RowKit Go.Proofs.Ytijioimbgmcpaaa.X Go.Proofs.YtijioimbgmcpaaaW.PrintWords Go.Proofs.YtijioimbgmcpaaaW.PrintLast Go.Proofs.YtijioimbgmcpaaaW.PrintMore Go.Proofs.Ytijioimbgmcpaaa.Q
set_option linter.unusedVariables false
set_option linter.unusedSimpArgs false
theorem StyleJoined : vinculumlaw25_StyleJoined.Pure := by
  intro ks ss x _ _ _
  refine ⟨300, ?_⟩
  unfold vinculumlaw25_StyleJoined.f
  rw [sawake, Option.bind_some, if_pos rfl]
  simp only [vinculumlaw25_StyleJoined.j0]
  by_cases h : (ks.length : Int) > 30
  · rw [if_pos h]
    simp
  · rw [if_neg h]
    by_cases hn : ks.length = ss.length
    · have hb : ((ss.length : Int) != (ks.length : Int)) = false := by simp; omega
      have ew : wrap64 ((ks.length : Int) / 2) = ((ks.length / 2 : Nat) : Int) := by unfold wrap64; omega
      have et : (((ks.length / 2 : Nat) : Int)).toNat = ks.length / 2 := by omega
      rw [hb, if_neg (by simp), path_f ks ss (by omega) _ _ _ (by omega), Option.bind_some, ew, if_pos (by omega), if_pos (by omega), if_pos (by omega), et,
        path_f _ _ (by simp; omega) _ _ _ (by omega), Option.bind_some]
      have l1 : (ks.take (ks.length / 2)).length = (ss.take (ks.length / 2)).length := by simp; omega
      have l2 : (ks.drop (ks.length / 2)).length = (ss.drop (ks.length / 2)).length := by simp; omega
      by_cases hl : 0 ≤ x.f0 ∧ x.f0 ≤ 3
      · have hj := path_join (ks.length / 2) ks ss x.f0 x.f1
        have f1 : pathF ks ss x.f0 x.f1 = pathZ ks ss x.f0 x.f1 := by unfold pathF; rw [if_pos ⟨hn, hl.1, hl.2⟩]
        have f2 : pathF (ks.take (ks.length / 2)) (ss.take (ks.length / 2)) x.f0 x.f1 = pathZ (ks.take (ks.length / 2)) (ss.take (ks.length / 2)) x.f0 x.f1 := by unfold pathF; rw [if_pos ⟨l1, hl.1, hl.2⟩]
        rw [f1, f2]
        by_cases h0 : (pathZ (ks.take (ks.length / 2)) (ss.take (ks.length / 2)) x.f0 x.f1).2.2 = 0
        · rw [if_pos h0] at hj ⊢
          obtain ⟨b1, b2⟩ := path_bd _ _ _ _ hl h0
          have f3 : pathF (ks.drop (ks.length / 2)) (ss.drop (ks.length / 2)) (pathZ (ks.take (ks.length / 2)) (ss.take (ks.length / 2)) x.f0 x.f1).1 (pathZ (ks.take (ks.length / 2)) (ss.take (ks.length / 2)) x.f0 x.f1).2.1 = pathZ ks ss x.f0 x.f1 := by
            rw [hj]; unfold pathF; rw [if_pos ⟨l2, b1, b2⟩]
          rw [path_f _ _ (by simp; omega) _ _ _ (by omega), Option.bind_some, f3]
          simp
        · rw [if_neg h0] at hj ⊢
          rw [hj]
          simp
      · have f1 : pathF ks ss x.f0 x.f1 = (0, false, 1) := by unfold pathF; rw [if_neg (fun h => hl h.2)]
        have f2 : pathF (ks.take (ks.length / 2)) (ss.take (ks.length / 2)) x.f0 x.f1 = (0, false, 1) := by unfold pathF; rw [if_neg (fun h => hl h.2)]
        rw [f1, f2]
        simp
    · have hb : ((ss.length : Int) != (ks.length : Int)) = true := by simp; omega
      rw [hb]
      simp
end Go.Proofs.Ytijioimbgmcpaaa.Pure
