/- The reference's scaling and its check of metrics agree with the program's: plain arithmetic over the printed functions. -/
import Derived.Test.YtdobphmkflkciaaQx2
import Derived.Test.YtdobphmkflkciaaQx3
import Derived.Test.YtdobphmkflkciaaXWord
namespace Go.Proofs.Ytdobphmkflkciaa.Q
open Go.RowKit Go.Proofs.Ytdobphmkflkciaa.X Go.Proofs.YtdobphmkflkciaaW.PrintWords Go.Proofs.YtdobphmkflkciaaW.PrintLast Go.Proofs.YtdobphmkflkciaaW.PrintMore Go.Proofs.Ytdobphmkflkciaa.Q
set_option linter.unusedVariables false
set_option linter.unusedSimpArgs false
theorem refScale_some (k : Nat) (n p : Int) (hn : -20000 ≤ n ∧ n ≤ 20000) (hp : 1 ≤ p ∧ p ≤ 1000) : vinculumref05_Scale.f (k + 2) n p = some (rz (n * p)) := by
  have pos : ∀ (m : Int) (k : Nat), 0 ≤ m → m ≤ 20000 → vinculumref05_Scale.f (k + 1) m p = some (rz (m * p)) := by
    intro m k h0 h1
    have hb : 0 ≤ m * p ∧ m * p ≤ 20000 * 1000 := ⟨Int.mul_nonneg h0 (by omega), Int.mul_le_mul h1 hp.2 (by omega) (by omega)⟩
    simp only [vinculumref05_Scale.f]
    rw [if_neg (by omega)]
    have e1 : wrap64 (2 * m) = 2 * m := by unfold wrap64; omega
    have e2 : wrap64 (2 * m * p) = 2 * (m * p) := by rw [Int.mul_assoc]; unfold wrap64; omega
    have e3 : wrap64 (2 * (m * p) + 100) = 2 * (m * p) + 100 := by unfold wrap64; omega
    rw [e1, e2, e3, Int.tdiv_eq_ediv_of_nonneg (by omega)]
    have e4 : wrap64 ((2 * (m * p) + 100) / 200) = (2 * (m * p) + 100) / 200 := by unfold wrap64; omega
    rw [e4]
    unfold rz
    rw [if_pos hb.1]
  by_cases h : 0 ≤ n
  · exact pos n (k + 1) h hn.2
  · have h1 := pos (-n) k (by omega) (by omega)
    have h2 : vinculumref05_Scale.f (k + 2) n p = (vinculumref05_Scale.f (k + 1) (wrap64 (-n)) p).bind fun t => some (wrap64 (-t)) := by
      rw [vinculumref05_Scale.f, if_pos (by omega)]
    have e1 : wrap64 (-n) = -n := by unfold wrap64; omega
    have hb : 0 ≤ -n * p ∧ -n * p ≤ 20000 * 1000 := ⟨Int.mul_nonneg (by omega) (by omega), Int.mul_le_mul (by omega) hp.2 (by omega) (by omega)⟩
    rw [h2, e1, h1, Option.bind_some]
    have e3 : -n * p = -(n * p) := Int.neg_mul n p
    rw [e3] at hb
    rw [e3, rz_neg]
    have e2 : wrap64 (-(-rz (n * p))) = rz (n * p) := by
      have : -(-rz (n * p)) = rz (n * p) := by omega
      rw [this]
      unfold rz wrap64
      split <;> omega
    rw [e2]
theorem refMetrics_l0 (l : List Int) (hl : l.length < 1000) : ∀ (d k i : Nat), l.length - i = d → i ≤ l.length → d < k → vinculumref05_metrics.l0 k l i = some ((l.drop i).all mokB) := by
  intro d
  induction d with
  | zero =>
    intro k i hd hi hk
    obtain ⟨k, rfl⟩ : ∃ m, k = m + 1 := ⟨k - 1, by omega⟩
    simp only [vinculumref05_metrics.l0]
    rw [if_neg (by omega), List.drop_of_length_le (by omega)]
    rfl
  | succ d ih =>
    intro k i hd hi hk
    obtain ⟨k, rfl⟩ : ∃ m, k = m + 1 := ⟨k - 1, by omega⟩
    have hlt : i < l.length := by omega
    have e0 : rd l (i : Int) = l[i] := by simp [rd, List.getD, List.getElem?_eq_getElem hlt]
    have e1 : wrap64 ((i : Int) + 1) = ((i + 1 : Nat) : Int) := by unfold wrap64; omega
    have e2 : vinculumref05_within.f l[i] (-20000) 20000 = some (mokB l[i]) := by
      unfold vinculumref05_within.f mokB
      split <;> simp_all <;> omega
    simp only [vinculumref05_metrics.l0]
    rw [if_pos (by omega), if_pos (by omega), e0, e2, Option.bind_some, List.drop_eq_getElem_cons hlt, List.all_cons]
    cases hm : mokB l[i]
    · rw [if_neg (by simp)]; rfl
    · rw [if_pos rfl, e1, ih k (i + 1) (by omega) (by omega) (by omega)]; rfl
theorem refMetrics_some (k : Nat) (nm : ByteArray) (a b c d e : Int) : vinculumref05_metrics.f (k + 6) nm a b c d e = some ([a, b, c, d, e].all mokB) := by
  unfold vinculumref05_metrics.f
  exact refMetrics_l0 [a, b, c, d, e] (by simp) 5 (k + 6) 0 (by simp) (by simp) (by omega)
theorem mok_bd (l : List Int) (h : l.all mokB = true) (n : Int) (hn : n ∈ l) : -20000 ≤ n ∧ n ≤ 20000 := by
  have := List.all_eq_true.mp h n hn
  simpa [mokB] using this
theorem scaled_eq (k : Nat) (nm : ByteArray) (a b c d e p : Int) : vinculumref05_Scaled.f (k + 6) nm a b c d e p = font_Scaled.f nm a b c d e p := by
  unfold vinculumref05_Scaled.f font_Scaled.f vinculumref05_within.f
  by_cases h1 : p < 1
  · rw [if_neg (by omega), if_pos h1]; rfl
  · rw [if_pos (by omega), if_neg h1, Option.bind_some]
    by_cases h2 : p > 1000
    · rw [if_neg (by simp; omega), if_pos h2]
    · rw [if_pos (by simp; omega), if_neg h2, refMetrics_some, Option.bind_some]
      cases hm : [a, b, c, d, e].all mokB
      · simp
      · have B := fun n hn => mok_bd _ hm n hn
        have S : ∀ n, n ∈ [a, b, c, d, e] → vinculumref05_Scale.f (k + 6) n p = some (scaleZ n p) := fun n hn => by
          have := B n hn
          rw [refScale_some (k + 4) n p this (by omega), scaleZ_eq n p (by omega) (by omega)]
        rw [if_pos rfl, if_pos rfl, S a (by simp), S b (by simp), S c (by simp), S d (by simp), S e (by simp)]
        rfl
end Go.Proofs.Ytdobphmkflkciaa.Q
