/- The plain laws of layer 18 over its model. -/
import Derived.Test.YtlgjokognnbhiaaAigModel
set_option linter.unusedSimpArgs false
set_option linter.unusedVariables false
namespace Fil
open Abs

theorem turn_turn (a : Int) : turn (turn a) = a := by unfold turn; omega
theorem turn_ne (a : Int) : turn a ≠ a := by unfold turn; omega

section
variable {g : Aig} {a b : Int}

theorem checkL_two (hc : g.check = 0) (ha : g.lit a = true) (hb : g.lit b = true) : g.checkL g.check [a, b] = 0 := checkL_zero.2 ⟨hc, by simp [ha, hb]⟩

/-- What needs no gate has none. -/
theorem andW_same (h : 0 ≤ a) (hb : 0 ≤ b) : (a = 0 ∨ b = 0 ∨ a = turn b → g.andW 0 a b = (g, 0, 0)) ∧ (a = 1 → g.andW 0 a b = (g, b, 0) ∨ g.andW 0 a b = (g, 0, b)) ∧ (a = b → g.andW 0 a b = (g, 0, a)) := by
  refine ⟨fun hh => ?_, fun hh => ?_, fun hh => ?_⟩
  · apply andW1
    unfold turn at *
    omega
  · right
    by_cases hz : b = 0
    · subst hz hh; exact andW1 (by left; omega)
    · have : g.andW 0 a b = (g, 0, max a b) := andW2 (by unfold turn; omega) (by omega)
      rw [this]
      have : max a b = b := by omega
      rw [this]
  · subst hh
    by_cases hz : a = 0
    · subst hz; exact andW1 (by left; omega)
    · have : g.andW 0 a a = (g, 0, max a a) := andW2 (by unfold turn; omega) (by omega)
      rw [this]
      have : max a a = a := by omega
      rw [this]

theorem plain_and0 (hc : g.check = 0) (h0 : 0 ≤ g.count) (ha : g.lit a = true) : g.And a 0 = (g, 0, 0) := by
  have l0 : g.lit 0 = true := litN_iff.2 (by omega)
  rw [Aig.And, checkL_two hc ha l0, (andW_same (litN_iff.1 ha).1 (by omega)).1 (by simp)]; rfl
theorem plain_and1 (hc : g.check = 0) (h0 : 0 ≤ g.count) (ha : g.lit a = true) : g.And 1 a = (g, a, 0) := by
  have l1 : g.lit 1 = true := litN_iff.2 (by omega)
  rw [Aig.And, checkL_two hc l1 ha]
  have : g.andW 0 1 a = (g, 0, a) := by
    by_cases hz : a = 0
    · subst hz; exact andW1 (by left; omega)
    · have hp := (litN_iff.1 ha).1
      have : g.andW 0 1 a = (g, 0, max 1 a) := andW2 (by unfold turn; omega) (by omega)
      rw [this]
      have : max 1 a = a := by omega
      rw [this]
  rw [this]; rfl
theorem plain_andS (hc : g.check = 0) (ha : g.lit a = true) : g.And a a = (g, a, 0) := by
  rw [Aig.And, checkL_two hc ha ha, (andW_same (litN_iff.1 ha).1 (litN_iff.1 ha).1).2.2 rfl]; rfl
theorem plain_andT (hc : g.check = 0) (ha : g.lit a = true) : g.And a (turn a) = (g, 0, 0) := by
  have l1 : g.lit (turn a) = true := turn_lit ha
  rw [Aig.And, checkL_two hc ha l1, (andW_same (litN_iff.1 ha).1 (litN_iff.1 l1).1).1 (by rw [turn_turn]; simp)]; rfl

theorem orW_of {x : Int} (h : g.andW 0 (turn a) (turn b) = (g, 0, x)) : Aig.endW (g.orW 0 a b) = (g, turn x, 0) := by
  simp only [Aig.orW, h]; rfl

theorem plain_or0 (hc : g.check = 0) (h0 : 0 ≤ g.count) (ha : g.lit a = true) : g.Or a 0 = (g, a, 0) := by
  have l0 : g.lit 0 = true := litN_iff.2 (by omega)
  have lt : 0 ≤ turn a := (litN_iff.1 (turn_lit ha)).1
  rw [Aig.Or, checkL_two hc ha l0, orW_of (x := turn a), turn_turn]
  have : turn 0 = 1 := by decide
  rw [this]
  by_cases hz : turn a = 0
  · rw [hz]; exact andW1 (by left; omega)
  · have : g.andW 0 (turn a) 1 = (g, 0, max (turn a) 1) := by
      apply andW2
      · unfold turn at *; omega
      · omega
    rw [this]
    have : max (turn a) 1 = turn a := by omega
    rw [this]
theorem plain_or1 (hc : g.check = 0) (h0 : 0 ≤ g.count) (ha : g.lit a = true) : g.Or 1 a = (g, 1, 0) := by
  have l1 : g.lit 1 = true := litN_iff.2 (by omega)
  have lt : 0 ≤ turn a := (litN_iff.1 (turn_lit ha)).1
  rw [Aig.Or, checkL_two hc l1 ha, orW_of (x := 0)]
  · have : turn 0 = 1 := by decide
    rw [this]
  · have : turn 1 = 0 := by decide
    rw [this]
    exact andW1 (by left; omega)
theorem plain_orS (hc : g.check = 0) (ha : g.lit a = true) : g.Or a a = (g, a, 0) := by
  have lt : 0 ≤ turn a := (litN_iff.1 (turn_lit ha)).1
  rw [Aig.Or, checkL_two hc ha ha, orW_of (x := turn a) ((andW_same lt lt).2.2 rfl), turn_turn]
theorem plain_orT (hc : g.check = 0) (ha : g.lit a = true) : g.Or (turn a) a = (g, 1, 0) := by
  have l1 : g.lit (turn a) = true := turn_lit ha
  have lt : 0 ≤ turn a := (litN_iff.1 l1).1
  rw [Aig.Or, checkL_two hc l1 ha, orW_of (x := 0)]
  · have : turn 0 = 1 := by decide
    rw [this]
  · rw [turn_turn]
    exact (andW_same (litN_iff.1 ha).1 lt).1 (by rw [turn_turn]; simp)
end
end Fil
