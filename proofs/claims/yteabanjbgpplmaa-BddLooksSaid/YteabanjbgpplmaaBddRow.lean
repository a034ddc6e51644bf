/- bdd: plain: what Eval, Count, One tell, by tables. No program in sight. -/
import Derived.Test.YteabanjbgpplmaaBddRef
import Derived.Test.YteabanjbgpplmaaBddFirst
set_option linter.unusedSimpArgs false
set_option linter.unusedVariables false
namespace Fil.Bd

theorem fst_no : ∀ (k : Nat) (t : List Bool), (∀ j, t.getD j false = false) → fstT k t = none
  | 0, t, h => by
    have := h 0
    cases t with
    | nil => rfl
    | cons x t => simp at this; subst this; rfl
  | k + 1, t, h => by
    have h1 : ∀ j, (t.take (2 ^ k)).getD j false = false := fun j => by
      by_cases hj : j < 2 ^ k
      · rw [List.getD_eq_getElem?_getD, List.getElem?_take_of_lt hj, ← List.getD_eq_getElem?_getD]; exact h j
      · rw [List.getD_eq_getElem?_getD, List.getElem?_eq_none (by simp; omega)]; rfl
    have h2 : ∀ j, (t.drop (2 ^ k)).getD j false = false := fun j => by
      rw [List.getD_eq_getElem?_getD, List.getElem?_drop, ← List.getD_eq_getElem?_getD]; exact h _
    simp only [fstT, fst_no k _ h1, fst_no k _ h2]
    rfl

theorem fst_row : ∀ (k i : Nat) (t : List Bool), t.length = 2 ^ k → i < 2 ^ k → t.getD i false = true → (∀ j, j < i → t.getD j false = false) → fstT k t = some (row k i)
  | 0, i, t, h, hi, ht, hn => by
    match t, h with
    | [x], _ =>
      have : i = 0 := by simp at hi; omega
      subst this
      have hx : x = true := by simpa using ht
      subst hx
      simp [fstT, row]
  | k + 1, i, t, h, hi, ht, hn => by
    have hp : 2 ^ (k + 1) = 2 * 2 ^ k := by rw [Nat.pow_succ]; omega
    have e1 : (t.take (2 ^ k)).length = 2 ^ k := by simp; omega
    have e2 : (t.drop (2 ^ k)).length = 2 ^ k := by simp; omega
    have he : t = t.take (2 ^ k) ++ t.drop (2 ^ k) := (List.take_append_drop _ _).symm
    generalize t.take (2 ^ k) = a at *
    generalize t.drop (2 ^ k) = b at *
    subst he
    rw [fst_two e1, row_succ]
    by_cases c : i < 2 ^ k
    · rw [getD_app_l (by omega)] at ht
      rw [fst_row k i a e1 c ht fun j hj => by have := hn j hj; rwa [getD_app_l (by omega)] at this]
      have : bit i k = false := by simp [bit, Nat.div_eq_of_lt c]
      rw [this]
    · obtain ⟨j, rfl⟩ : ∃ j, i = 2 ^ k + j := ⟨i - 2 ^ k, by omega⟩
      have hj : j < 2 ^ k := by omega
      rw [getD_app_r (by omega), e1, Nat.add_sub_cancel_left] at ht
      rw [fst_no k a fun m => by
        by_cases hm : m < 2 ^ k
        · have := hn m (by omega); rwa [getD_app_l (by omega)] at this
        · simp [List.getD_eq_getElem?_getD, List.getElem?_eq_none (show a.length ≤ m by omega)]]
      rw [fst_row k j b e2 hj ht fun m hm => by have := hn (2 ^ k + m) (by omega); rwa [getD_app_r (by omega), e1, Nat.add_sub_cancel_left] at this]
      have h1 : bit (2 ^ k + j) k = true := by
        unfold bit
        rw [Nat.add_div_left _ (Nat.two_pow_pos k), Nat.div_eq_of_lt hj]; rfl
      have h2 : row k (2 ^ k + j) = row k j := by
        unfold row
        refine List.map_congr_left fun m hm => ?_
        have hm' := List.mem_range.1 hm
        unfold bit
        obtain ⟨r, hr⟩ : ∃ r, k = (k - 1 - m) + (r + 1) := ⟨m, by omega⟩
        have e : 2 ^ k = 2 ^ (k - 1 - m) * (2 * 2 ^ r) := by
          conv => lhs; rw [hr, Nat.pow_add, Nat.pow_succ, Nat.mul_comm (2 ^ r) 2]
        rw [e, Nat.mul_add_div (Nat.two_pow_pos _)]
        congr 1; omega
      rw [h1, h2]; rfl

theorem one_at {n : Nat} {F : List T3} {f : Int} {i : Nat} (hf : Fine n F) (h : In n F 0 f) (hi : i < 2 ^ n) (ht : (T (n, F) f).getD i false = true) (hn : ∀ j, j < i → (T (n, F) f).getD j false = false) : oneW (n, F) f = (row n i, true, 0) := by
  have hne : f ≠ 0 := fun e => by
    subst e
    have hz : T ((n : Int), F) 0 = List.replicate (2 ^ n) false := tab_zero ..
    rw [hz] at ht
    simp [List.getD_eq_getElem?_getD, hi] at ht
  obtain ⟨w, h1, h2, h3⟩ := oneW_ok (b := ((n : Int), F)) hf h hne
  rw [h1]
  have := fst_row n i _ (T_len ((n : Int), F) f) hi ht hn
  simp only [Int.toNat_natCast] at h3
  rw [h3] at this
  simp only [Option.some.injEq] at this
  rw [this]

theorem one_no {n : Nat} {F : List T3} {f : Int} (hf : Fine n F) (h : In n F 0 f) (hn : ∀ j, j < 2 ^ n → (T (n, F) f).getD j false = false) : oneW (n, F) f = ([], false, 0) := by
  by_cases hz : f = 0
  · subst hz
    unfold oneW
    rw [ask_ok (b := ((n : Int), F)) hf (by simp [in_out h]), if_neg (by simp), if_pos rfl]
  · exfalso
    obtain ⟨w, h1, h2, h3⟩ := oneW_ok (b := ((n : Int), F)) hf h hz
    have hl : (T ((n : Int), F) f).length = 2 ^ n := T_len ((n : Int), F) f
    rw [Int.toNat_natCast, fst_no n _ fun j => by
      by_cases hj : j < 2 ^ n
      · exact hn j hj
      · rw [List.getD_eq_getElem?_getD, List.getElem?_eq_none (by omega)]; rfl] at h3
    simp at h3

theorem eval_at {n : Nat} {F : List T3} {f : Int} {i : Nat} {inp : List Bool} (hf : Fine n F) (h : In n F 0 f) (hl : inp.length = n) (hi : i < 2 ^ n) (hr : row n i = inp) : evalW (n, F) f inp = ((T (n, F) f).getD i false, 0) := by
  subst hr
  rw [eval_T (b := ((n : Int), F)) hf h (by simp [row_len]), lookT_row n i _ (T_len ((n : Int), F) f), Nat.mod_eq_of_lt hi]

theorem cnt_take {t : List Bool} {i : Nat} (h : i < t.length) : cnt (t.take (i + 1)) = cnt (t.take i) + (if t.getD i false then 1 else 0) := by
  rw [take_getD h, cnt_append]
  cases t.getD i false <;> rfl

end Fil.Bd
