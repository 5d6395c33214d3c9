/- The reference's Slot returns what the program's Slot returns: by cases on the kind. -/
import Derived.Test.YtijioimbgmcpaaaQx2
import Derived.Test.YtijioimbgmcpaaaQx3
import Derived.Test.YtijioimbgmcpaaaQx4
import Derived.Test.YtijioimbgmcpaaaXWord
namespace Go.Proofs.Ytijioimbgmcpaaa.Q
open Go.RowKit Go.Proofs.Ytijioimbgmcpaaa.X Go.Proofs.YtijioimbgmcpaaaW.PrintWords Go.Proofs.YtijioimbgmcpaaaW.PrintLast Go.Proofs.YtijioimbgmcpaaaW.PrintMore Go.Proofs.Ytijioimbgmcpaaa.Q
set_option linter.unusedVariables false
set_option linter.unusedSimpArgs false
theorem refSlots (k : Nat) (a0 : Int) : vinculumref25_slots.f (k + 2) a0 = some (slotN a0) := by
  unfold vinculumref25_slots.f slotN rulesOf
  simp only [vinculumref25_slots.j0, vinculumref25_slots.j1]
  by_cases h5 : a0 = 5
  · subst h5; rfl
  by_cases h6 : a0 = 6
  · subst h6; rfl
  by_cases h7 : a0 = 7
  · subst h7; rfl
  by_cases h8 : a0 = 8
  · subst h8; rfl
  by_cases h9 : a0 = 9
  · subst h9; rfl
  by_cases h10 : a0 = 10
  · subst h10; rfl
  by_cases h11 : a0 = 11
  · subst h11; rfl
  by_cases h12 : a0 = 12
  · subst h12; rfl
  simp [h5, h6, h7, h8, h9, h10, h11, h12]
theorem slotN_zero (a0 : Int) : (slotN a0 == 0) = decide (rulesOf a0 = []) := by
  unfold slotN rulesOf
  by_cases h12 : a0 = 12
  · subst h12; rfl
  rw [if_neg h12]
  repeat' split
  all_goals simp
theorem refSlot_eq (k : Nat) (a0 a1 l : Int) (c : Bool) : vinculumref25_Slot.f (k + 5) a0 a1 l c = style_Slot.f a0 a1 l c := by
  unfold vinculumref25_Slot.f style_Slot.f vinculumref25_Valid.f
  by_cases h1 : l < 0
  · rw [if_neg (by omega), if_pos h1]
    simp [vinculumref25_Slot.j0]
  rw [if_pos (by omega), if_neg h1, Option.bind_some]
  by_cases h2 : l > 3
  · rw [if_neg (by simp; omega), if_pos h2]
    simp [vinculumref25_Slot.j0]
  rw [if_pos (by simp; omega), if_neg h2, refSlots (k + 3), Option.bind_some, slotN_zero]
  by_cases h3 : rulesOf a0 = []
  · rw [if_pos h3]
    simp [vinculumref25_Slot.j0, h3]
  rw [if_neg h3]
  simp only [vinculumref25_Slot.j0, h3, decide_false, Bool.false_eq_true, if_false]
  by_cases h4 : a1 < 0
  · rw [if_pos h4, if_pos h4]
    simp [vinculumref25_Slot.j1]
  rw [if_neg h4, if_neg h4, refSlots (k + 2), Option.bind_some]
  by_cases h5 : slotN a0 ≤ a1
  · rw [if_pos h5]
    simp [vinculumref25_Slot.j1, h5]
  rw [if_neg h5]
  have e1 : wrap64 (l + 1) = l + 1 := by unfold wrap64; omega
  have hd : decide (a1 ≥ slotN a0) = false := by simp; omega
  have wr1 : wrap64 1 = 1 := by unfold wrap64; omega
  have wr2 : wrap64 2 = 2 := by unfold wrap64; omega
  have wr3 : wrap64 3 = 3 := by unfold wrap64; omega
  have wr4 : wrap64 4 = 4 := by unfold wrap64; omega
  rw [hd]
  have hl : l = 0 ∨ l = 1 ∨ l = 2 ∨ l = 3 := by omega
  have hk : a0 = 5 ∨ a0 = 6 ∨ a0 = 7 ∨ a0 = 8 ∨ a0 = 9 ∨ a0 = 10 ∨ a0 = 11 ∨ a0 = 12 := by
    by_cases q5 : a0 = 5
    · omega
    by_cases q6 : a0 = 6
    · omega
    by_cases q7 : a0 = 7
    · omega
    by_cases q8 : a0 = 8
    · omega
    by_cases q9 : a0 = 9
    · omega
    by_cases q10 : a0 = 10
    · omega
    by_cases q11 : a0 = 11
    · omega
    by_cases q12 : a0 = 12
    · omega
    exact absurd (by simp [rulesOf, q5, q6, q7, q8, q9, q10, q11, q12]) h3
  rcases hk with rfl | rfl | rfl | rfl | rfl | rfl | rfl | rfl
  all_goals simp only [slotN, rulesOf, List.length_cons, List.length_nil] at h5
  · have ha : a1 = 0 ∨ a1 = 1 := by simp at h5; omega
    rcases ha with rfl | rfl <;> rcases hl with rfl | rfl | rfl | rfl <;> cases c <;> simp [vinculumref25_Slot.j1, vinculumref25_Slot.j2, slotR, slotI, rulesOf, lvZ, mn, mx, vinculumref25_script.f, wr1, wr2, wr3, wr4]
  · have ha : a1 = 0 ∨ a1 = 1 := by simp at h5; omega
    rcases ha with rfl | rfl <;> rcases hl with rfl | rfl | rfl | rfl <;> cases c <;> simp [vinculumref25_Slot.j1, vinculumref25_Slot.j2, slotR, slotI, rulesOf, lvZ, mn, mx, vinculumref25_script.f, wr1, wr2, wr3, wr4]
  · have ha : a1 = 0 ∨ a1 = 1 := by simp at h5; omega
    rcases ha with rfl | rfl <;> rcases hl with rfl | rfl | rfl | rfl <;> cases c <;> simp [vinculumref25_Slot.j1, vinculumref25_Slot.j2, slotR, slotI, rulesOf, lvZ, mn, mx, vinculumref25_script.f, wr1, wr2, wr3, wr4]
  · have ha : a1 = 0 ∨ a1 = 1 := by simp at h5; omega
    rcases ha with rfl | rfl <;> rcases hl with rfl | rfl | rfl | rfl <;> cases c <;> simp [vinculumref25_Slot.j1, vinculumref25_Slot.j2, slotR, slotI, rulesOf, lvZ, mn, mx, vinculumref25_script.f, wr1, wr2, wr3, wr4]
  · have ha : a1 = 0 ∨ a1 = 1 ∨ a1 = 2 := by simp at h5; omega
    rcases ha with rfl | rfl | rfl <;> rcases hl with rfl | rfl | rfl | rfl <;> cases c <;> simp [vinculumref25_Slot.j1, vinculumref25_Slot.j2, slotR, slotI, rulesOf, lvZ, mn, mx, vinculumref25_script.f, wr1, wr2, wr3, wr4]
  · have ha : a1 = 0 := by simp at h5; omega
    rcases ha with rfl <;> rcases hl with rfl | rfl | rfl | rfl <;> cases c <;> simp [vinculumref25_Slot.j1, vinculumref25_Slot.j2, slotR, slotI, rulesOf, lvZ, mn, mx, vinculumref25_script.f, wr1, wr2, wr3, wr4]
  · have ha : a1 = 0 := by simp at h5; omega
    rcases ha with rfl <;> rcases hl with rfl | rfl | rfl | rfl <;> cases c <;> simp [vinculumref25_Slot.j1, vinculumref25_Slot.j2, slotR, slotI, rulesOf, lvZ, mn, mx, vinculumref25_script.f, wr1, wr2, wr3, wr4]
  · have ha : slotR 12 a1 = (4, false) := by
      unfold slotR slotI
      have : (rulesOf 12).length = 1 := rfl
      split
      · have : a1 = 0 := by omega
        subst this; rfl
      · rfl
    rw [ha]
    rcases hl with rfl | rfl | rfl | rfl <;> cases c <;> simp [vinculumref25_Slot.j1, vinculumref25_Slot.j2, slotR, slotI, rulesOf, lvZ, mn, mx, vinculumref25_script.f, wr1, wr2, wr3, wr4]
/-- What Slot answers: a known error and the zero style, or a valid style. -/
theorem slot_some (a0 a1 l : Int) (c : Bool) : ∃ r, style_Slot.f a0 a1 l c = some r ∧ ((r = (0, false, 1) ∨ r = (0, false, 2)) ∨ (0 ≤ l ∧ l ≤ 3 ∧ r = (lvZ (slotR a0 a1).1 l, c || (slotR a0 a1).2, 0) ∧ 0 ≤ r.1 ∧ r.1 ≤ 3 ∧ l ≤ r.1)) := by
  unfold style_Slot.f
  by_cases h1 : l < 0
  · rw [if_pos h1]; exact ⟨_, rfl, .inl (.inl rfl)⟩
  rw [if_neg h1]
  by_cases h2 : l > 3
  · rw [if_pos h2]; exact ⟨_, rfl, .inl (.inl rfl)⟩
  rw [if_neg h2]
  split
  · exact ⟨_, rfl, .inl (.inl rfl)⟩
  split
  · exact ⟨_, rfl, .inl (.inr rfl)⟩
  split
  · exact ⟨_, rfl, .inl (.inr rfl)⟩
  refine ⟨_, rfl, .inr ⟨by omega, by omega, rfl, ?_⟩⟩
  simp only
  unfold lvZ
  repeat' split
  all_goals omega
theorem slot_ok (a0 a1 l l' c1 : Int) (c c' : Bool) (e : Int) (h : style_Slot.f a0 a1 l c = some (l', c', e)) : (e = 0 ∧ 0 ≤ l ∧ l ≤ 3 ∧ 0 ≤ l' ∧ l' ≤ 3 ∧ l ≤ l') ∨ (l' = 0 ∧ c' = false ∧ (e = 1 ∨ e = 2)) := by
  obtain ⟨r, hr, hc⟩ := slot_some a0 a1 l c
  rw [hr] at h
  obtain rfl := Option.some.inj h
  rcases hc with (hc | hc) | ⟨h1, h2, h3, h4, h5, h6⟩
  · simp only [Prod.mk.injEq] at hc; exact .inr ⟨hc.1, hc.2.1, .inl hc.2.2⟩
  · simp only [Prod.mk.injEq] at hc; exact .inr ⟨hc.1, hc.2.1, .inr hc.2.2⟩
  · simp only [Prod.mk.injEq] at h3; exact .inl ⟨h3.2.2, h1, h2, h4, h5, h6⟩
theorem sawake : vinculumlaw25_awake.f = some true := by
  unfold vinculumlaw25_awake.f
  have : style_Slot.f 5 1 0 false = some (1, true, 0) := rfl
  rw [this]
  rfl
end Go.Proofs.Ytijioimbgmcpaaa.Q
