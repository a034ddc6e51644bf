/- bdd: plain law: nodes are the same just if they are for all inputs. No program in sight. -/
import Derived.Test.YteabanjbgpplmaaBddMean
set_option linter.unusedSimpArgs false
set_option linter.unusedVariables false
namespace Fil.Bd

theorem lookT_ext : ∀ (k : Nat) (s t : List Bool), s.length = 2 ^ k → t.length = 2 ^ k → (∀ w : List Bool, w.length = k → lookT s w = lookT t w) → s = t
  | 0, s, t, h1, h2, h => by
    match s, t, h1, h2 with
    | [x], [y], _, _ => simpa [lookT] using h [] rfl
  | k + 1, s, t, h1, h2, h => by
    have hp : 2 ^ (k + 1) = 2 * 2 ^ k := by rw [Nat.pow_succ]; omega
    have e1 := lookT_ext k (s.take (2 ^ k)) (t.take (2 ^ k)) (by simp; omega) (by simp; omega) fun w hw => by
      have := h (false :: w) (by simp [hw])
      simpa [lookT, hw] using this
    have e2 := lookT_ext k (s.drop (2 ^ k)) (t.drop (2 ^ k)) (by simp; omega) (by simp; omega) fun w hw => by
      have := h (true :: w) (by simp [hw])
      simpa [lookT, hw] using this
    rw [← List.take_append_drop (2 ^ k) s, ← List.take_append_drop (2 ^ k) t, e1, e2]

/-- Nodes are the same just if they are for all inputs. -/
theorem alike {b : D} {f g : Int} (hf : Fine b.1 b.2) (i : In b.1 b.2 0 f) (j : In b.1 b.2 0 g) (h : ∀ w : List Bool, (w.length : Int) = b.1 → (evalW b f w).1 = (evalW b g w).1) : f = g := by
  have hlo := hf.lo
  refine canon hf.toOk b.1.toNat 0 f g (by omega) i j (lookT_ext b.1.toNat _ _ (tab_len ..) (tab_len ..) fun w hw => ?_)
  have hl : (w.length : Int) = b.1 := by omega
  have := h w hl
  rw [eval_T hf i hl, eval_T hf j hl] at this
  exact this

/-- A bit of a number. -/
def bitI (i k : Nat) : Bool := (i / 2 ^ k % 2 == 1)
def bitsI (n i : Nat) : List Bool := (List.range n).map (bitI i)

theorem bits_all : ∀ (w : List Bool), ∃ i, i < 2 ^ w.length ∧ bitsI w.length i = w
  | [] => ⟨0, by simp, rfl⟩
  | x :: w => by
    obtain ⟨i, h1, h2⟩ := bits_all w
    have hp : 2 ^ (x :: w).length = 2 * 2 ^ w.length := by rw [List.length_cons, Nat.pow_succ]; omega
    refine ⟨2 * i + (if x then 1 else 0), ?_, ?_⟩
    · cases x <;> simp only [Bool.false_eq_true, if_false, if_true] <;> omega
    · unfold bitsI at h2 ⊢
      rw [List.length_cons, List.range_succ_eq_map, List.map_cons, List.map_map]
      refine List.cons_eq_cons.mpr ⟨?_, ?_⟩
      · cases x <;> simp [bitI] <;> omega
      · rw [← h2]
        simp only [List.length_map, List.length_range]
        refine List.map_congr_left fun k _ => ?_
        simp only [Function.comp_apply, bitI, Nat.succ_eq_add_one, Nat.pow_succ]
        rw [Nat.mul_comm (2 ^ k) 2, ← Nat.div_div_eq_div_mul]
        have : (2 * i + (if x then 1 else 0)) / 2 = i := by cases x <;> simp only [Bool.false_eq_true, if_false, if_true] <;> omega
        rw [this]

/-- Alike for the first numbers. -/
def alk (b : D) (f g : Int) (i : Nat) : Bool := (List.range i).all fun j => (evalW b f (bitsI b.1.toNat j)).1 == (evalW b g (bitsI b.1.toNat j)).1

theorem alk_succ (b : D) (f g : Int) (i : Nat) : alk b f g (i + 1) = (alk b f g i && ((evalW b f (bitsI b.1.toNat i)).1 == (evalW b g (bitsI b.1.toNat i)).1)) := by
  simp [alk, List.range_succ]

theorem alk_all {b : D} {f g : Int} (hf : Fine b.1 b.2) (i : In b.1 b.2 0 f) (j : In b.1 b.2 0 g) : alk b f g (2 ^ b.1.toNat) = (f == g) := by
  rw [Bool.eq_iff_iff, beq_iff_eq]
  constructor
  · intro h
    simp only [alk, List.all_eq_true, List.mem_range, beq_iff_eq] at h
    refine alike hf i j fun w hw => ?_
    obtain ⟨k, h1, h2⟩ := bits_all w
    have hn : w.length = b.1.toNat := by omega
    rw [hn] at h1 h2
    rw [← h2]
    exact h k h1
  · rintro rfl
    simp [alk]

theorem bits_len (n i : Nat) : (bitsI n i).length = n := by simp [bitsI]
theorem eval_bits {b : D} {f : Int} (hf : Fine b.1 b.2) (h : In b.1 b.2 0 f) (i : Nat) : (evalW b f (bitsI b.1.toNat i)).2 = 0 := by
  have := hf.lo
  rw [eval_T hf h (by rw [bits_len]; omega)]

/-- The first bits are set. -/
theorem bits_step {n i k : Nat} {l : List Bool} (hl : l.length = n) (hk : k < n) (h : l.take k = (bitsI n i).take k) : (l.set k (bitI i k)).take (k + 1) = (bitsI n i).take (k + 1) := by
  have e1 : (bitsI n i).take (k + 1) = (bitsI n i).take k ++ [bitI i k] := by
    rw [List.take_add_one]
    simp [bitsI, hk]
  rw [e1, ← h, List.take_add_one, List.take_set_of_le (by omega)]
  simp [hl, hk]

end Fil.Bd
