/- bdd: plain: tables by the numbers of their inputs, as the document has them. No program in sight. -/
import Derived.Test.YteabanjbgpplmaaBddMean
set_option linter.unusedSimpArgs false
set_option linter.unusedVariables false
namespace Fil.Bd

/-- A bit of a number. -/
def bit (i k : Nat) : Bool := (i / 2 ^ k % 2 == 1)
/-- The inputs of a number. -/
def row (k i : Nat) : List Bool := (List.range k).map fun j => bit i (k - 1 - j)

theorem row_len (k i : Nat) : (row k i).length = k := by simp [row]
theorem row_succ (k i : Nat) : row (k + 1) i = bit i k :: row k i := by
  unfold row
  rw [List.range_succ_eq_map, List.map_cons, List.map_map]
  refine List.cons_eq_cons.mpr ⟨by simp, List.map_congr_left fun j hj => ?_⟩
  simp only [Function.comp_apply]
  congr 1; omega
theorem row_get (k i j : Nat) (h : j < k) : (row k i).getD j false = bit i (k - 1 - j) := by
  simp [row, List.getD_eq_getElem?_getD, h]

theorem row_push (k i : Nat) (x : Bool) : row (k + 1) (2 * i + (if x then 1 else 0)) = row k i ++ [x] := by
  unfold row
  rw [List.range_succ, List.map_append, List.map_cons, List.map_nil]
  congr 1
  · refine List.map_congr_left fun j hj => ?_
    have hj' := List.mem_range.1 hj
    unfold bit
    rw [show k + 1 - 1 - j = (k - 1 - j) + 1 by omega, Nat.pow_succ, Nat.mul_comm (2 ^ _) 2, ← Nat.div_div_eq_div_mul]
    have : (2 * i + (if x then 1 else 0)) / 2 = i := by cases x <;> simp only [Bool.false_eq_true, if_false, if_true] <;> omega
    rw [this]
  · simp only [bit, show k + 1 - 1 - k = 0 by omega, Nat.pow_zero, Nat.div_one]
    cases x <;> simp <;> omega

theorem mod_succ (i k : Nat) : i % 2 ^ (k + 1) = (if bit i k then 2 ^ k else 0) + i % 2 ^ k := by
  rw [Nat.mod_pow_succ]
  unfold bit
  rcases Nat.mod_two_eq_zero_or_one (i / 2 ^ k) with h | h <;> simp [h]
  omega

theorem getD_app_l {a b : List Bool} {i : Nat} (h : i < a.length) : (a ++ b).getD i false = a.getD i false := by
  simp only [List.getD_eq_getElem?_getD]; rw [List.getElem?_append_left h]
theorem getD_app_r {a b : List Bool} {i : Nat} (h : a.length ≤ i) : (a ++ b).getD i false = b.getD (i - a.length) false := by
  simp only [List.getD_eq_getElem?_getD]; rw [List.getElem?_append_right h]

theorem lookT_row : ∀ (k i : Nat) (t : List Bool), t.length = 2 ^ k → lookT t (row k i) = t.getD (i % 2 ^ k) false
  | 0, i, t, h => by
    match t, h with
    | [x], _ => simp [row, lookT, Nat.mod_one]
  | k + 1, i, t, h => by
    have hp : 2 ^ (k + 1) = 2 * 2 ^ k := by rw [Nat.pow_succ]; omega
    have hm : i % 2 ^ k < 2 ^ k := Nat.mod_lt _ (Nat.two_pow_pos k)
    rw [row_succ, mod_succ]
    simp only [lookT, row_len]
    have e1 : (t.take (2 ^ k)).length = 2 ^ k := by simp; omega
    have e2 : (t.drop (2 ^ k)).length = 2 ^ k := by simp; omega
    have ht : t = t.take (2 ^ k) ++ t.drop (2 ^ k) := (List.take_append_drop _ _).symm
    cases hb : bit i k
    · simp only [Bool.false_eq_true, if_false, Nat.zero_add]
      rw [lookT_row k i _ e1]
      conv => rhs; rw [ht]
      rw [getD_app_l (by omega)]
    · simp only [if_true]
      rw [lookT_row k i _ e2]
      conv => rhs; rw [ht]
      rw [getD_app_r (by omega), e1, Nat.add_sub_cancel_left]

theorem take_getD {t : List Bool} {i : Nat} (h : i < t.length) : t.take (i + 1) = t.take i ++ [t.getD i false] := by
  rw [List.take_add_one, List.getElem?_eq_getElem h]
  simp [List.getD_eq_getElem?_getD, h]

/-- What a node is for a number's inputs. -/
theorem evf_row {vars : Nat} {F : List T3} {f : Int} (ho : Ok vars F) (h : In vars F 0 f) {i : Nat} (hi : i < 2 ^ vars) : evf F (row vars i) f.toNat f = (tab F vars 0 f).getD i false := by
  have := eval_tab (inp := row vars i) ho (by simp [row_len]) vars f.toNat 0 f (by omega) (by omega) h (by have := h.1; omega)
  simp only [Int.toNat_zero, List.drop_zero] at this
  rw [← this, lookT_row vars i _ (tab_len ..), Nat.mod_eq_of_lt hi]

theorem iteT_getD : ∀ (i : Nat) (a b c : List Bool), b.length = a.length → c.length = a.length → (iteT a b c).getD i false = if a.getD i false then b.getD i false else c.getD i false
  | i, [], b, c, h1, h2 => by
    have e1 : b = [] := List.length_eq_zero_iff.1 (by simpa using h1)
    have e2 : c = [] := List.length_eq_zero_iff.1 (by simpa using h2)
    subst e1 e2; simp [iteT]
  | 0, x :: a, y :: b, z :: c, h1, h2 => by simp [iteT]
  | i + 1, x :: a, y :: b, z :: c, h1, h2 => by
    have := iteT_getD i a b c (by simpa using h1) (by simpa using h2)
    simpa [iteT] using this

theorem varT_getD : ∀ (k d i : Nat), d < k → i < 2 ^ k → (varT k d).getD i false = bit i (k - 1 - d)
  | k + 1, 0, i, h, hi => by
    have hp : 2 ^ (k + 1) = 2 * 2 ^ k := by rw [Nat.pow_succ]; omega
    simp only [varT, bit, show k + 1 - 1 - 0 = k by omega]
    by_cases c : i < 2 ^ k
    · rw [getD_app_l (by simpa using c), Nat.div_eq_of_lt c]
      simp [List.getD_eq_getElem?_getD, c]
    · have hq : i / 2 ^ k = 1 := by
        have : i = 2 ^ k + (i - 2 ^ k) := by omega
        rw [this, Nat.add_div_left _ (Nat.two_pow_pos k), Nat.div_eq_of_lt (by omega)]
      rw [getD_app_r (by simpa using c), hq]
      have : i - 2 ^ k < 2 ^ k := by omega
      simp [List.getD_eq_getElem?_getD, this]
  | k + 1, d + 1, i, h, hi => by
    have hp : 2 ^ (k + 1) = 2 * 2 ^ k := by rw [Nat.pow_succ]; omega
    have hl : (varT k d).length = 2 ^ k := len k d (by omega)
    have e : k + 1 - 1 - (d + 1) = k - 1 - d := by omega
    simp only [varT]
    rw [e]
    by_cases c : i < 2 ^ k
    · rw [getD_app_l (by omega), varT_getD k d i (by omega) c]
    · rw [getD_app_r (by omega), hl, varT_getD k d _ (by omega) (by omega)]
      have : i = 2 ^ k + (i - 2 ^ k) := by omega
      obtain ⟨j, hj⟩ : ∃ j, i - 2 ^ k = j := ⟨_, rfl⟩
      rw [hj] at this ⊢
      subst this
      unfold bit
      obtain ⟨m, hm⟩ : ∃ m, k = (k - 1 - d) + (m + 1) := ⟨d, by omega⟩
      have : (2 ^ k + j) / 2 ^ (k - 1 - d) = 2 * 2 ^ m + j / 2 ^ (k - 1 - d) := by
        have e2 : 2 ^ k = 2 ^ (k - 1 - d) * (2 * 2 ^ m) := by
          conv => lhs; rw [hm, Nat.pow_add, Nat.pow_succ, Nat.mul_comm (2 ^ m) 2]
        rw [e2, Nat.mul_add_div (Nat.two_pow_pos _)]
      rw [this]
      congr 1; omega
where
  len : ∀ (k d : Nat), d < k → (varT k d).length = 2 ^ k
    | k + 1, 0, _ => by simp [varT]; rw [Nat.pow_succ]; omega
    | k + 1, d + 1, h => by simp [varT, len k d (by omega)]; rw [Nat.pow_succ]; omega

theorem xor_lo {i k d : Nat} (h : d < k) (hi : i < 2 ^ k) : i ^^^ 2 ^ d < 2 ^ k := Nat.xor_lt_two_pow hi (Nat.pow_lt_pow_right (by decide) h)
theorem xor_top_lo {i k : Nat} (hi : i < 2 ^ k) : i ^^^ 2 ^ k = 2 ^ k + i := by
  have := Nat.two_pow_add_eq_or_of_lt hi 1
  simp only [Nat.mul_one] at this
  rw [this]
  apply Nat.eq_of_testBit_eq
  intro j
  rw [Nat.testBit_xor, Nat.testBit_or, Nat.testBit_two_pow]
  by_cases c : k = j
  · subst c; simp [Nat.testBit_lt_two_pow hi]
  · simp [c]
theorem xor_top_hi {i k : Nat} (hi : i < 2 ^ k) : (2 ^ k + i) ^^^ 2 ^ k = i := by
  rw [← xor_top_lo hi, Nat.xor_assoc, Nat.xor_self, Nat.xor_zero]
theorem xor_up {i k d : Nat} (h : d < k) (hi : i < 2 ^ k) : (2 ^ k + i) ^^^ 2 ^ d = 2 ^ k + (i ^^^ 2 ^ d) := by
  rw [← xor_top_lo hi, ← xor_top_lo (xor_lo h hi), Nat.xor_assoc, Nat.xor_comm (2 ^ k) (2 ^ d), ← Nat.xor_assoc]

theorem exT_getD : ∀ (k d i : Nat) (t : List Bool), t.length = 2 ^ k → d < k → i < 2 ^ k → (exT k d t).getD i false = (t.getD i false || t.getD (i ^^^ 2 ^ (k - 1 - d)) false)
  | k + 1, 0, i, t, h, hd, hi => by
    have hp : 2 ^ (k + 1) = 2 * 2 ^ k := by rw [Nat.pow_succ]; omega
    have e1 : (t.take (2 ^ k)).length = 2 ^ k := by simp; omega
    have e2 : (t.drop (2 ^ k)).length = 2 ^ k := by simp; omega
    have ht : t = t.take (2 ^ k) ++ t.drop (2 ^ k) := (List.take_append_drop _ _).symm
    generalize t.take (2 ^ k) = a at *
    generalize t.drop (2 ^ k) = b at *
    subst ht
    rw [exT_zero e1, show k + 1 - 1 - 0 = k by omega]
    have hl : (iteT a (List.replicate (2 ^ k) true) b).length = 2 ^ k := iteT_len e1 (by simp) e2
    have key : ∀ j, j < 2 ^ k → (iteT a (List.replicate (2 ^ k) true) b).getD j false = (a.getD j false || b.getD j false) := fun j hj => by
      rw [iteT_getD j _ _ _ (by simp [e1]) (by rw [e1, e2])]
      have : (List.replicate (2 ^ k) true).getD j false = true := by simp [List.getD_eq_getElem?_getD, hj]
      rw [this]
      cases a.getD j false <;> simp
    by_cases c : i < 2 ^ k
    · rw [getD_app_l (by omega), key i c, xor_top_lo c, getD_app_l (by omega), getD_app_r (by omega), e1, Nat.add_sub_cancel_left]
    · obtain ⟨j, rfl⟩ : ∃ j, i = 2 ^ k + j := ⟨i - 2 ^ k, by omega⟩
      have hj : j < 2 ^ k := by omega
      rw [getD_app_r (by omega), hl, Nat.add_sub_cancel_left, key j hj, xor_top_hi hj, getD_app_r (by omega), getD_app_l (by omega), e1, Nat.add_sub_cancel_left, Bool.or_comm]
  | k + 1, d + 1, i, t, h, hd, hi => by
    have hp : 2 ^ (k + 1) = 2 * 2 ^ k := by rw [Nat.pow_succ]; omega
    have e1 : (t.take (2 ^ k)).length = 2 ^ k := by simp; omega
    have e2 : (t.drop (2 ^ k)).length = 2 ^ k := by simp; omega
    have ht : t = t.take (2 ^ k) ++ t.drop (2 ^ k) := (List.take_append_drop _ _).symm
    generalize t.take (2 ^ k) = a at *
    generalize t.drop (2 ^ k) = b at *
    subst ht
    have hdk : d < k := by omega
    rw [exT_succ e1, show k + 1 - 1 - (d + 1) = k - 1 - d by omega]
    have hl : (exT k d a).length = 2 ^ k := exT_len k d _ e1
    by_cases c : i < 2 ^ k
    · have := xor_lo (i := i) (k := k) (d := k - 1 - d) (by omega) c
      rw [getD_app_l (by omega), exT_getD k d i a e1 hdk c, getD_app_l (by omega), getD_app_l (by omega)]
    · obtain ⟨j, rfl⟩ : ∃ j, i = 2 ^ k + j := ⟨i - 2 ^ k, by omega⟩
      have hj : j < 2 ^ k := by omega
      rw [getD_app_r (by omega), hl, Nat.add_sub_cancel_left, exT_getD k d j b e2 hdk hj, xor_up (by omega) hj, getD_app_r (by omega), getD_app_r (by omega), e1, Nat.add_sub_cancel_left, Nat.add_sub_cancel_left]

theorem put_len : ∀ (k : Nat) (F : List T3) (v : Int) (t : List Bool), (put k F v t).1.length + 1 ≤ F.length + 2 ^ k
  | 0, F, v, t => by simp [put]
  | k + 1, F, v, t => by
    have hp : 2 ^ (k + 1) = 2 * 2 ^ k := by rw [Nat.pow_succ]; omega
    have h1 := put_len k F (v + 1) (t.take (2 ^ k))
    have h2 := put_len k (put k F (v + 1) (t.take (2 ^ k))).1 (v + 1) (t.drop (2 ^ k))
    have := Nat.two_pow_pos k
    simp only [put]
    split
    · omega
    · split
      · simp only; omega
      · simp only [List.length_append, List.length_cons, List.length_nil]; omega

theorem put_grow : ∀ (k : Nat) (F : List T3) (v : Int) (t : List Bool), F.length ≤ (put k F v t).1.length
  | 0, F, v, t => by simp [put]
  | k + 1, F, v, t => by
    have h1 := put_grow k F (v + 1) (t.take (2 ^ k))
    have h2 := put_grow k (put k F (v + 1) (t.take (2 ^ k))).1 (v + 1) (t.drop (2 ^ k))
    simp only [put]
    split
    · omega
    · split
      · simp only; omega
      · simp only [List.length_append, List.length_cons, List.length_nil]; omega

theorem fnd_first : ∀ (l : List T3) (x : T3) (i : Int) (j : Nat), j < l.length → l.getD j (0, 0, 0) = x → (∀ k, k < j → l.getD k (0, 0, 0) ≠ x) → fnd l x i = some (i + j)
  | [], x, i, j, h, _, _ => by simp at h
  | y :: l, x, i, 0, h, e, _ => by simp at e; simp [fnd, e]
  | y :: l, x, i, j + 1, h, e, hn => by
    have h0 : y ≠ x := by simpa using hn 0 (by omega)
    simp only [fnd, if_neg h0]
    rw [fnd_first l x (i + 1) j (by simpa using h) (by simpa using e) fun k hk => by simpa using hn (k + 1) (by omega)]
    congr 1; omega
theorem fnd_no : ∀ (l : List T3) (x : T3) (i : Int), (∀ k, k < l.length → l.getD k (0, 0, 0) ≠ x) → fnd l x i = none
  | [], x, i, _ => rfl
  | y :: l, x, i, hn => by
    have h0 : y ≠ x := by simpa using hn 0 (by simp)
    simp only [fnd, if_neg h0]
    exact fnd_no l x (i + 1) fun k hk => by simpa using hn (k + 1) (by simpa using hk)

theorem frk2 (F : List T3) (j : Nat) : frk F ((j : Int) + 2) = (F.drop 2).getD j (0, 0, 0) := by
  rw [getD_drop]; unfold frk; congr 1; omega

/-- The node of a fork; -1: there is none. -/
def findI (F : List T3) (x : T3) : Int := (find F x).getD (-1)
theorem find_first {F : List T3} {x : T3} {j : Nat} (h : j < F.length - 2) (e : frk F ((j : Int) + 2) = x) (hn : ∀ k : Nat, k < j → frk F ((k : Int) + 2) ≠ x) : findI F x = (j : Int) + 2 := by
  unfold findI find
  rw [fnd_first (F.drop 2) x 2 j (by simpa using h) (by rw [← frk2]; exact e) fun k hk => by rw [← frk2]; exact hn k hk]
  simp; omega
theorem find_no {F : List T3} {x : T3} (hn : ∀ k : Nat, k < F.length - 2 → frk F ((k : Int) + 2) ≠ x) : findI F x = -1 := by
  unfold findI find
  rw [fnd_no (F.drop 2) x 2 fun k hk => by rw [← frk2]; exact hn k (by simpa using hk)]
  rfl

theorem put_2 {k : Nat} {F : List T3} {v : Int} {t : List Bool} (hs : t.take (2 ^ k) ≠ t.drop (2 ^ k)) {C G : List T3} {lo hi : Int} (h1 : put k F (v + 1) (t.take (2 ^ k)) = (C, lo)) (h2 : put k C (v + 1) (t.drop (2 ^ k)) = (G, hi)) :
    (0 ≤ findI G (v, lo, hi) ∧ put (k + 1) F v t = (G, findI G (v, lo, hi))) ∨ (findI G (v, lo, hi) = -1 ∧ put (k + 1) F v t = (G ++ [(v, lo, hi)], (G.length : Int))) := by
  simp only [put, if_neg hs, h1, h2]
  unfold findI
  cases hf : find G (v, lo, hi) with
  | some i =>
    have := (find_some hf).1
    exact .inl ⟨by show 0 ≤ i; omega, rfl⟩
  | none => exact .inr ⟨rfl, rfl⟩
theorem put_1 {k : Nat} {F : List T3} {v : Int} {t : List Bool} (hs : t.take (2 ^ k) = t.drop (2 ^ k)) : put (k + 1) F v t = put k F (v + 1) (t.take (2 ^ k)) := by
  simp only [put]; rw [if_pos hs]

end Fil.Bd
