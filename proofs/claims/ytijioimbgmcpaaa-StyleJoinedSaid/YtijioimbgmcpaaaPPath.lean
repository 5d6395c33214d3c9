/- Path of the program, and of the reference, as one function on lists: Slot one after the other. -/
import Derived.Test.YtijioimbgmcpaaaPSlot
import Derived.Test.YtijioimbgmcpaaaQx2
import Derived.Test.YtijioimbgmcpaaaQx3
import Derived.Test.YtijioimbgmcpaaaQx4
import Derived.Test.YtijioimbgmcpaaaQx8
import Derived.Test.YtijioimbgmcpaaaQx9
import Derived.Test.YtijioimbgmcpaaaXWord
namespace Go.Proofs.Ytijioimbgmcpaaa.Q
open Go.RowKit Go.Proofs.Ytijioimbgmcpaaa.X Go.Proofs.YtijioimbgmcpaaaW.PrintWords Go.Proofs.YtijioimbgmcpaaaW.PrintLast Go.Proofs.YtijioimbgmcpaaaW.PrintMore Go.Proofs.Ytijioimbgmcpaaa.Q
set_option linter.unusedVariables false
set_option linter.unusedSimpArgs false
def pathZ : List Int → List Int → Int → Bool → Int × Bool × Int
  | a :: ks, b :: ss, l, c => match style_Slot.f a b l c with
    | some (l', c', e) => if e = 0 then pathZ ks ss l' c' else (0, false, e)
    | none => (0, false, 0)
  | _, _, l, c => (l, c, 0)
def pathF (ks ss : List Int) (l : Int) (c : Bool) : Int × Bool × Int := if ks.length = ss.length ∧ 0 ≤ l ∧ l ≤ 3 then pathZ ks ss l c else (0, false, 1)
theorem rd_at (l : List Int) (i : Nat) (h : i < l.length) : rd l (i : Int) = l[i] := by simp [rd, List.getD, List.getElem?_eq_getElem h]
theorem path_l0 (ks ss : List Int) (hn : ks.length = ss.length) (hm : ks.length ≤ 1000) : ∀ (d k i : Nat) (l : Int) (c : Bool), ks.length - i = d → i ≤ ks.length → d < k → style_Path.l0 k ss ks (ks.length : Int) (i : Int) l c = some (pathZ (ks.drop i) (ss.drop i) l c) := by
  intro d
  induction d with
  | zero =>
    intro k i l c hd hi hk
    obtain ⟨k, rfl⟩ : ∃ m, k = m + 1 := ⟨k - 1, by omega⟩
    simp only [style_Path.l0]
    rw [if_neg (by omega), List.drop_of_length_le (by omega)]
    rfl
  | succ d ih =>
    intro k i l c hd hi hk
    obtain ⟨k, rfl⟩ : ∃ m, k = m + 1 := ⟨k - 1, by omega⟩
    have h1 : i < ks.length := by omega
    have h2 : i < ss.length := by omega
    have e1 : wrap64 ((i : Int) + 1) = ((i + 1 : Nat) : Int) := by unfold wrap64; omega
    simp only [style_Path.l0]
    rw [if_pos (by omega), if_pos (by omega), if_pos (by omega), if_pos (by omega), rd_at ks i h1, rd_at ss i h2, e1]
    obtain ⟨⟨l', c', e⟩, hr, _⟩ := slot_some ks[i] ss[i] l c
    rw [hr, Option.bind_some, List.drop_eq_getElem_cons h1, List.drop_eq_getElem_cons h2]
    simp only [pathZ, hr]
    by_cases h0 : e = 0
    · rw [if_pos h0, if_pos h0]
      exact ih k (i + 1) l' c' (by omega) (by omega) (by omega)
    · rw [if_neg h0, if_neg h0]
theorem refpath_l0 (ks ss : List Int) (hn : ks.length = ss.length) (hm : ks.length ≤ 1000) : ∀ (d k i : Nat) (l : Int) (c : Bool), ks.length - i = d → i ≤ ks.length → d + 5 < k → vinculumref25_Path.l0 k ks ss (i : Int) l c = some (pathZ (ks.drop i) (ss.drop i) l c) := by
  intro d
  induction d with
  | zero =>
    intro k i l c hd hi hk
    obtain ⟨k, rfl⟩ : ∃ m, k = m + 1 := ⟨k - 1, by omega⟩
    simp only [vinculumref25_Path.l0]
    rw [if_neg (by omega), List.drop_of_length_le (by omega)]
    rfl
  | succ d ih =>
    intro k i l c hd hi hk
    obtain ⟨k, rfl⟩ : ∃ m, k = m + 1 := ⟨k - 1, by omega⟩
    obtain ⟨j, hj⟩ : ∃ j, k = j + 5 := ⟨k - 5, by omega⟩
    have h1 : i < ks.length := by omega
    have h2 : i < ss.length := by omega
    have e1 : wrap64 ((i : Int) + 1) = ((i + 1 : Nat) : Int) := by unfold wrap64; omega
    simp only [vinculumref25_Path.l0]
    rw [if_pos (by omega), if_pos (by omega), if_pos (by omega), rd_at ks i h1, rd_at ss i h2, e1]
    obtain ⟨⟨l', c', e⟩, hr, _⟩ := slot_some ks[i] ss[i] l c
    have hrr : vinculumref25_Slot.f k ks[i] ss[i] l c = some (l', c', e) := by rw [hj, refSlot_eq]; exact hr
    rw [hrr, Option.bind_some, List.drop_eq_getElem_cons h1, List.drop_eq_getElem_cons h2]
    simp only [pathZ, hr]
    by_cases h0 : e = 0
    · rw [if_pos h0, if_pos h0]
      exact ih k (i + 1) l' c' (by omega) (by omega) (by omega)
    · rw [if_neg h0, if_neg h0]
theorem path_f (ks ss : List Int) (hm : ks.length ≤ 100) (l : Int) (c : Bool) (k : Nat) (hk : 200 ≤ k) : style_Path.f k ks ss l c = some (pathF ks ss l c) := by
  obtain ⟨k, rfl⟩ : ∃ m, k = m + 1 := ⟨k - 1, by omega⟩
  unfold style_Path.f pathF
  by_cases hn : ks.length = ss.length
  · rw [if_pos (by omega)]
    unfold style_Valid.f
    by_cases h1 : l ≥ 0
    · rw [if_pos h1, Option.bind_some]
      by_cases h2 : l ≤ 3
      · have h3 : (!decide (l ≤ 3)) = false := by simp [h2]
        rw [h3, if_pos ⟨hn, h1, h2⟩]
        simp only [style_Path.j0, Bool.false_eq_true, if_false]
        exact path_l0 ks ss hn (by omega) ks.length k 0 l c (by simp) (by simp) (by omega)
      · have h3 : (!decide (l ≤ 3)) = true := by simp; omega
        rw [h3, if_neg (by omega)]
        simp only [style_Path.j0, if_true]
    · rw [if_neg h1, Option.bind_some, if_neg (by omega)]
      simp only [style_Path.j0, Bool.not_false, if_true]
  · rw [if_neg (by omega), if_neg (fun h => hn h.1)]
    simp only [style_Path.j0, if_true]
theorem refpath_f (ks ss : List Int) (hm : ks.length ≤ 100) (l : Int) (c : Bool) (k : Nat) (hk : 200 ≤ k) : vinculumref25_Path.f k ks ss l c = some (pathF ks ss l c) := by
  obtain ⟨k, rfl⟩ : ∃ m, k = m + 1 := ⟨k - 1, by omega⟩
  unfold vinculumref25_Path.f pathF
  by_cases hn : ks.length = ss.length
  · rw [if_pos (by omega)]
    unfold vinculumref25_Valid.f
    by_cases h1 : l ≥ 0
    · rw [if_pos h1, Option.bind_some]
      by_cases h2 : l ≤ 3
      · have h3 : (!decide (l ≤ 3)) = false := by simp [h2]
        rw [h3, if_pos ⟨hn, h1, h2⟩]
        simp only [vinculumref25_Path.j0, Bool.false_eq_true, if_false]
        exact refpath_l0 ks ss hn (by omega) ks.length k 0 l c (by simp) (by simp) (by omega)
      · have h3 : (!decide (l ≤ 3)) = true := by simp; omega
        rw [h3, if_neg (by omega)]
        simp only [vinculumref25_Path.j0, if_true]
    · rw [if_neg h1, Option.bind_some, if_neg (by omega)]
      simp only [vinculumref25_Path.j0, Bool.not_false, if_true]
  · rw [if_neg (by omega), if_neg (fun h => hn h.1)]
    simp only [vinculumref25_Path.j0, if_true]
theorem path_err : ∀ (ks ss : List Int) (l : Int) (c : Bool), (pathZ ks ss l c).2.2 ≠ 0 → pathZ ks ss l c = (0, false, (pathZ ks ss l c).2.2)
  | [], _, l, c, h => absurd (by simp [pathZ]) h
  | _ :: _, [], l, c, h => absurd (by simp [pathZ]) h
  | a :: ks, b :: ss, l, c, h => by
    obtain ⟨⟨l', c', e⟩, hr, _⟩ := slot_some a b l c
    simp only [pathZ, hr] at h ⊢
    by_cases h0 : e = 0
    · rw [if_pos h0] at h ⊢; exact path_err ks ss l' c' h
    · rw [if_neg h0]
theorem path_bd : ∀ (ks ss : List Int) (l : Int) (c : Bool), 0 ≤ l ∧ l ≤ 3 → (pathZ ks ss l c).2.2 = 0 → 0 ≤ (pathZ ks ss l c).1 ∧ (pathZ ks ss l c).1 ≤ 3
  | [], _, l, c, hl, h => by simpa [pathZ] using hl
  | _ :: _, [], l, c, hl, h => by simpa [pathZ] using hl
  | a :: ks, b :: ss, l, c, hl, h => by
    obtain ⟨⟨l', c', e⟩, hr, hc⟩ := slot_some a b l c
    simp only [pathZ, hr] at h ⊢
    by_cases h0 : e = 0
    · rw [if_pos h0] at h ⊢
      refine path_bd ks ss l' c' ?_ h
      subst h0
      rcases hc with (hc | hc) | ⟨_, _, _, h4, h5, _⟩
      · simp at hc
      · simp at hc
      · exact ⟨h4, h5⟩
    · rw [if_neg h0] at h; exact absurd h h0
theorem path_join : ∀ (n : Nat) (ks ss : List Int) (l : Int) (c : Bool), pathZ ks ss l c = if (pathZ (ks.take n) (ss.take n) l c).2.2 = 0 then pathZ (ks.drop n) (ss.drop n) (pathZ (ks.take n) (ss.take n) l c).1 (pathZ (ks.take n) (ss.take n) l c).2.1 else pathZ (ks.take n) (ss.take n) l c
  | 0, ks, ss, l, c => by simp [pathZ]
  | n + 1, [], ss, l, c => by simp [pathZ]
  | n + 1, a :: ks, [], l, c => by simp [pathZ]
  | n + 1, a :: ks, b :: ss, l, c => by
    obtain ⟨⟨l', c', e⟩, hr, hc⟩ := slot_some a b l c
    simp only [pathZ, hr, List.take_succ_cons, List.drop_succ_cons]
    by_cases h0 : e = 0
    · simp only [if_pos h0]
      exact path_join n ks ss l' c'
    · simp only [if_neg h0]
end Go.Proofs.Ytijioimbgmcpaaa.Q
