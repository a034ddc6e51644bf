/- bdd: plain law: what One tells is the first inputs for which a table is true. No program in sight. -/
import Derived.Test.YteabanjbgpplmaaBddMean
set_option linter.unusedSimpArgs false
set_option linter.unusedVariables false
namespace Fil.Bd

/-- The first inputs for which a table of so many variables is true. -/
def fstT : Nat → List Bool → Option (List Bool)
  | 0, t => if t.headD false then some [] else none
  | k + 1, t => match fstT k (t.take (2 ^ k)) with
    | some w => some (false :: w)
    | none => (fstT k (t.drop (2 ^ k))).map (true :: ·)

theorem fst_two {k : Nat} {a b : List Bool} (h : a.length = 2 ^ k) : fstT (k + 1) (a ++ b) = (match fstT k a with
    | some w => some (false :: w)
    | none => (fstT k b).map (true :: ·)) := by
  simp only [fstT]
  rw [List.take_left' h, List.drop_left' h]

theorem fst_zeros : ∀ k : Nat, fstT k (List.replicate (2 ^ k) false) = none
  | 0 => rfl
  | k + 1 => by
    rw [show 2 ^ (k + 1) = 2 ^ k + 2 ^ k by rw [Nat.pow_succ]; omega, ← List.replicate_append_replicate, fst_two (by simp), fst_zeros k]
    rfl

theorem one_first {vars : Int} {F : List T3} (ho : Ok vars F) : ∀ (k K : Nat) (v n : Int) (l : List Bool), 0 ≤ v → v + k = vars → In vars F v n → n ≠ 0 → n ≤ K → (l.length : Int) = vars → l.drop v.toNat = List.replicate k false →
    ∃ w, w.length = k ∧ fstT k (tab F k v n) = some w ∧ one1 F K n l = l.take v.toNat ++ w
  | 0, K, v, n, l, h0, hv, hn, hne, hK, hl, hd => by
    have e : v = vars := by omega
    have hn1 : n = 1 := by
      have := (e ▸ hn : In vars F vars n).end ho
      omega
    subst hn1
    exact ⟨[], rfl, rfl, by rw [one1_end (by omega), List.take_of_length_le (by omega)]; simp⟩
  | k + 1, K, v, n, l, h0, hv, hn, hne, hK, hl, hd => by
    have hd' : l.drop (v + 1).toNat = List.replicate k false := by
      have := congrArg (List.drop 1) hd
      rw [List.drop_drop] at this
      rw [show (v + 1).toNat = v.toNat + 1 by omega, this]
      simp [List.replicate_succ]
    have hlt : v.toNat < l.length := by omega
    have hv0 : l[v.toNat] = false := by
      have h1 : (l.drop v.toNat)[0]? = some false := by rw [hd]; simp [List.replicate_succ]
      rw [List.getElem?_drop, Nat.add_zero, List.getElem?_eq_getElem hlt] at h1
      exact Option.some.inj h1
    have ht : l.take (v + 1).toNat = l.take v.toNat ++ [false] := by
      rw [show (v + 1).toNat = v.toNat + 1 by omega, List.take_add_one, List.getElem?_eq_getElem hlt, hv0]; rfl
    by_cases c : 2 ≤ n ∧ (frk F n).1 = v
    · obtain ⟨K, rfl⟩ : ∃ j, K = j + 1 := ⟨K - 1, by omega⟩
      have hlo := hn.lo ho c
      have hhi := hn.hi ho c
      have l1 := ho.low n c.1 hn.2.1
      have l2 := ho.high n c.1 hn.2.1
      have lne := ho.ne n c.1 hn.2.1
      rw [tab_at c, fst_two (tab_len ..), one1, if_neg (by omega)]
      by_cases hz : (frk F n).2.1 = 0
      · rw [if_pos hz, hz, tab_zero, fst_zeros, c.2]
        obtain ⟨w, w1, w2, w3⟩ := one_first ho k K (v + 1) (frk F n).2.2 (l.set v.toNat true) (by omega) (by omega) hhi (fun e => lne (by rw [hz, e])) (by omega) (by simpa using hl) (by
          rw [List.drop_set_of_lt (by omega)]; exact hd')
        refine ⟨true :: w, by simp [w1], by rw [w2]; rfl, ?_⟩
        rw [w3, show (v + 1).toNat = v.toNat + 1 by omega, List.take_add_one]
        simp [hlt, List.take_set_of_le]
      · rw [if_neg hz]
        obtain ⟨w, w1, w2, w3⟩ := one_first ho k K (v + 1) (frk F n).2.1 l (by omega) (by omega) hlo hz (by omega) hl hd'
        refine ⟨false :: w, by simp [w1], by rw [w2], ?_⟩
        rw [w3, ht]; simp
    · rw [tab_up c, fst_two (tab_len ..)]
      obtain ⟨w, w1, w2, w3⟩ := one_first ho k K (v + 1) n l (by omega) (by omega) (hn.up ho hv c) hne hK hl hd'
      refine ⟨false :: w, by simp [w1], by rw [w2], ?_⟩
      rw [w3, ht]; simp

theorem lookT_cons (t : List Bool) (x : Bool) (w : List Bool) : lookT t (x :: w) = lookT (if x then t.drop (2 ^ w.length) else t.take (2 ^ w.length)) w := rfl

/-- What is first is true, and no true one is ahead of it. -/
theorem fst_spec : ∀ (k : Nat) (t w : List Bool), fstT k t = some w → w.length = k ∧ lookT t w = true ∧ ∀ u : List Bool, u.length = k → lookT t u = true → u = w ∨ ∃ p a b, w = p ++ false :: a ∧ u = p ++ true :: b
  | 0, t, w, h => by
    simp only [fstT] at h
    split at h
    · rename_i ht
      simp at h; subst h
      exact ⟨rfl, ht, fun u hu _ => .inl (List.length_eq_zero_iff.1 hu)⟩
    · simp at h
  | k + 1, t, w, h => by
    simp only [fstT] at h
    split at h
    · rename_i w' hw'
      simp at h; subst h
      obtain ⟨h1, h2, h3⟩ := fst_spec k _ _ hw'
      refine ⟨by simp [h1], by rw [lookT_cons, h1]; simpa using h2, fun u hu hlu => ?_⟩
      cases u with
      | nil => simp at hu
      | cons x u =>
        have hu' : u.length = k := by simpa using hu
        cases x
        · rw [lookT_cons, hu'] at hlu
          rcases h3 u hu' (by simpa using hlu) with rfl | ⟨p, a, b, e1, e2⟩
          · exact .inl rfl
          · exact .inr ⟨false :: p, a, b, by rw [e1]; rfl, by rw [e2]; rfl⟩
        · exact .inr ⟨[], w', u, rfl, rfl⟩
    · rename_i hn
      rw [Option.map_eq_some_iff] at h
      obtain ⟨w', hw', rfl⟩ := h
      obtain ⟨h1, h2, h3⟩ := fst_spec k _ _ hw'
      refine ⟨by simp [h1], by rw [lookT_cons, h1]; simpa using h2, fun u hu hlu => ?_⟩
      cases u with
      | nil => simp at hu
      | cons x u =>
        have hu' : u.length = k := by simpa using hu
        rw [lookT_cons, hu'] at hlu
        cases x
        · exfalso
          have := fst_none k _ hn u hu'
          simp only [Bool.false_eq_true, if_false] at hlu
          rw [this] at hlu; simp at hlu
        · rcases h3 u hu' (by simpa using hlu) with rfl | ⟨p, a, b, e1, e2⟩
          · exact .inl rfl
          · exact .inr ⟨true :: p, a, b, by rw [e1]; rfl, by rw [e2]; rfl⟩
where
  fst_none : ∀ (k : Nat) (t : List Bool), fstT k t = none → ∀ u : List Bool, u.length = k → lookT t u = false
    | 0, t, h, u, hu => by
      have := List.length_eq_zero_iff.1 hu
      subst this
      simp only [fstT] at h
      split at h
      · simp at h
      · rename_i ht; exact Bool.not_eq_true _ |>.mp ht
    | k + 1, t, h, u, hu => by
      simp only [fstT] at h
      split at h
      · simp at h
      · rename_i hn
        cases u with
        | nil => simp at hu
        | cons x u =>
          have hu' : u.length = k := by simpa using hu
          rw [lookT_cons, hu']
          cases x
          · simpa using fst_none k _ hn u hu'
          · simpa using fst_none k _ (by simpa using h) u hu'

/-- What One tells. -/
theorem oneW_ok {b : D} {f : Int} (hf : Fine b.1 b.2) (i : In b.1 b.2 0 f) (h : f ≠ 0) : ∃ w, oneW b f = (w, true, 0) ∧ w.length = b.1.toNat ∧ fstT b.1.toNat (T b f) = some w := by
  have hlo := hf.lo
  obtain ⟨w, w1, w2, w3⟩ := one_first hf.toOk b.1.toNat f.toNat 0 f (List.replicate b.1.toNat false) (by omega) (by omega) i h (by have := i.1; omega) (by simp; omega) (by simp)
  refine ⟨w, ?_, w1, w2⟩
  unfold oneW
  rw [ask_ok hf (by simp [in_out i]), if_neg (by simp), if_neg h, w3]
  simp

theorem oneW_zero {b : D} (hf : Fine b.1 b.2) (i : In b.1 b.2 0 0) : oneW b 0 = ([], false, 0) := by
  unfold oneW
  rw [ask_ok hf (by simp [in_out i]), if_neg (by simp), if_pos rfl]

theorem lookT_zero : ∀ (w : List Bool), lookT (List.replicate (2 ^ w.length) false) w = false
  | [] => rfl
  | x :: w => by
    have hp : 2 ^ (x :: w).length = 2 ^ w.length + 2 ^ w.length := by rw [List.length_cons, Nat.pow_succ]; omega
    rw [lookT_cons, hp, ← List.replicate_append_replicate, List.drop_left' (by simp), List.take_left' (by simp)]
    cases x <;> simpa using lookT_zero w

theorem first_ok {b : D} {f : Int} {inp : List Bool} (hl : (inp.length : Int) = b.1) :
    ((evalW b f inp).2 ≠ 0 → oneW b f = ([], false, (evalW b f inp).2)) ∧ ((evalW b f inp).2 = 0 → (oneW b f).2.2 = 0) ∧
    ((evalW b f inp).2 = 0 → (evalW b f inp).1 = true → (oneW b f).2.1 = true ∧ (oneW b f).1.length = inp.length ∧ (inp = (oneW b f).1 ∨ ∃ p a c, (oneW b f).1 = p ++ false :: a ∧ inp = p ++ true :: c)) := by
  by_cases he : askE b [f] false = 0
  · have hc : chk b.1 b.2 = 0 := by
      unfold askE at he
      split at he
      · exact he
      · rename_i hne; simpa using hne
    have hf := chk_fine.1 hc
    have ho : [f].any (outside b.2) = false := by
      unfold askE at he
      rw [if_neg (by simp [hc])] at he
      split at he
      · simp at he
      · rename_i hn; simpa using hn
    have i := out_In (by simpa using ho) hf.toOk
    rw [eval_T hf i hl]
    have hb : b.1.toNat = inp.length := by omega
    by_cases h0 : f = 0
    · subst h0
      rw [oneW_zero hf i]
      refine ⟨fun h => absurd rfl h, fun _ => rfl, fun _ h => ?_⟩
      simp only at h
      unfold T at h
      rw [tab_zero, hb, lookT_zero] at h
      simp at h
    · obtain ⟨w, w1, w2, w3⟩ := oneW_ok hf i h0
      rw [w1]
      refine ⟨fun h => absurd rfl h, fun _ => rfl, fun _ h => ⟨rfl, by simp only; omega, ?_⟩⟩
      exact (fst_spec _ _ _ w3).2.2 inp hb.symm h
  · have e1 : evalW b f inp = (false, askE b [f] false) := by unfold evalW; rw [if_pos he]
    have e2 : oneW b f = ([], false, askE b [f] false) := by unfold oneW; rw [if_pos he]
    rw [e1, e2]
    exact ⟨fun _ => rfl, fun h => absurd h he, fun h => absurd h he⟩

end Fil.Bd
