/- bdd: plain law: where a variable may be either way it makes no difference any more. No program in sight. -/
import Derived.Test.YteabanjbgpplmaaBddAlike
set_option linter.unusedSimpArgs false
set_option linter.unusedVariables false
namespace Fil.Bd

theorem look_ex : ∀ (d : Nat) (w t : List Bool), t.length = 2 ^ w.length → d < w.length → lookT (exT w.length d t) w = (lookT t w || lookT t (w.set d (!w.getD d false)))
  | d, [], t, h, hd => by simp at hd
  | 0, x :: w, t, h, hd => by
    have hp : 2 ^ (x :: w).length = 2 * 2 ^ w.length := by rw [List.length_cons, Nat.pow_succ]; omega
    have e1 : (t.take (2 ^ w.length)).length = 2 ^ w.length := by simp; omega
    have e2 : (t.drop (2 ^ w.length)).length = 2 ^ w.length := by simp; omega
    have ht : t = t.take (2 ^ w.length) ++ t.drop (2 ^ w.length) := (List.take_append_drop _ _).symm
    generalize t.take (2 ^ w.length) = a at *
    generalize t.drop (2 ^ w.length) = b at *
    subst ht
    rw [List.length_cons, exT_zero e1]
    have hl : (iteT a (List.replicate (2 ^ w.length) true) b).length = 2 ^ w.length := iteT_len e1 (by simp) e2
    have ho : lookT (List.replicate (2 ^ w.length) true) w = true := ones w
    have hk : lookT (iteT a (List.replicate (2 ^ w.length) true) b) w = (lookT a w || lookT b w) := by
      rw [lookT_ite w _ _ _ e1 (by simp) e2, ho]; cases lookT a w <;> simp
    simp only [List.set_cons_zero, List.getD_cons_zero]
    rw [lookT_two hl, lookT_two e1, lookT_two e1]
    cases x <;> simp [hk, Bool.or_comm]
  | d + 1, x :: w, t, h, hd => by
    have hp : 2 ^ (x :: w).length = 2 * 2 ^ w.length := by rw [List.length_cons, Nat.pow_succ]; omega
    have e1 : (t.take (2 ^ w.length)).length = 2 ^ w.length := by simp; omega
    have e2 : (t.drop (2 ^ w.length)).length = 2 ^ w.length := by simp; omega
    have ht : t = t.take (2 ^ w.length) ++ t.drop (2 ^ w.length) := (List.take_append_drop _ _).symm
    generalize t.take (2 ^ w.length) = a at *
    generalize t.drop (2 ^ w.length) = b at *
    subst ht
    have hd' : d < w.length := by simpa using hd
    have i1 := look_ex d w a e1 hd'
    have i2 := look_ex d w b e2 hd'
    simp only [List.set_cons_succ, List.getD_cons_succ, List.length_cons]
    rw [exT_succ e1, lookT_two (exT_len _ _ _ e1), lookT_two e1, lookT_two (by simp [e1])]
    cases x
    · simpa using i1
    · simpa using i2
where
  ones : ∀ w : List Bool, lookT (List.replicate (2 ^ w.length) true) w = true
    | [] => rfl
    | x :: w => by
      have : 2 ^ (x :: w).length = 2 ^ w.length + 2 ^ w.length := by rw [List.length_cons, Nat.pow_succ]; omega
      rw [this, ← List.replicate_append_replicate, lookT_two (by simp)]
      cases x <;> simpa using ones w

theorem flip_flip (w : List Bool) (d : Nat) (h : d < w.length) : (w.set d (!w.getD d false)).set d (!(w.set d (!w.getD d false)).getD d false) = w := by
  have e1 : (w.set d (!w.getD d false)).getD d false = !w.getD d false := by
    rw [List.getD_eq_getElem?_getD, List.getElem?_set_self h]; rfl
  rw [e1, Bool.not_not, List.set_set]
  rw [List.getD_eq_getElem?_getD, List.getElem?_eq_getElem h]
  simp

theorem ex_ex {k d : Nat} {t : List Bool} (ht : t.length = 2 ^ k) (hd : d < k) : exT k d (exT k d t) = exT k d t := by
  refine lookT_ext k _ _ (exT_len k d _ (exT_len k d t ht)) (exT_len k d t ht) fun w hw => ?_
  subst hw
  rw [look_ex d w _ (exT_len _ _ _ ht) hd]
  have h2 : (w.set d (!w.getD d false)).length = w.length := by simp
  have := look_ex d (w.set d (!w.getD d false)) t (by rw [h2]; exact ht) (by rw [h2]; exact hd)
  rw [h2] at this
  rw [this, flip_flip w d hd, look_ex d w t ht hd]
  cases lookT t w <;> cases lookT t (w.set d (!w.getD d false)) <;> rfl

theorem some_err {b : D} {f v : Int} (hq : (someW b f v).2.2 ≠ 0) : someW b f v = ((0, []), 0, (someW b f v).2.2) := by
  by_cases he : askE b [f] (off b v) = 0
  · exfalso; apply hq
    unfold someW opW; rw [if_neg (by simp [he])]
  · unfold someW; rw [op_err he]

/-- What Some tells, and twice. -/
theorem some_ok {b : D} {f v : Int} {inp : List Bool} (hl : (inp.length : Int) = b.1) (hr : Fine b.1 b.2 → b.2.length + 2 ^ b.1.toNat ≤ 65537) (hq : (someW b f v).2.2 = 0) :
    0 ≤ v ∧ v < b.1 ∧ ∃ F n p q, someW b f v = ((b.1, F), n, 0) ∧ Fine b.1 b.2 ∧ F.length + 1 ≤ b.2.length + 2 ^ b.1.toNat ∧ evalW b f inp = (p, 0) ∧ evalW b f (inp.set v.toNat (!inp.getD v.toNat false)) = (q, 0) ∧
      evalW (b.1, F) n inp = (p || q, 0) ∧ evalW (b.1, F) n (inp.set v.toNat (!inp.getD v.toNat false)) = (p || q, 0) ∧ someW (b.1, F) n v = ((b.1, F), n, 0) := by
  have he : askE b [f] (off b v) = 0 := by
    by_cases he : askE b [f] (off b v) = 0
    · exact he
    · exfalso; unfold someW at hq; rw [op_err he] at hq; exact he hq
  have hc : chk b.1 b.2 = 0 := by
    unfold askE at he
    split at he
    · exact he
    · rename_i hne; simpa using hne
  have hf := chk_fine.1 hc
  have ho : ([f].any (outside b.2) || off b v) = false := by
    unfold askE at he
    rw [if_neg (by simp [hc])] at he
    split at he
    · simp at he
    · rename_i hn; simpa using hn
  simp only [List.any_cons, List.any_nil, Bool.or_false, Bool.or_eq_false_iff] at ho
  have i := out_In ho.1 hf.toOk
  have hv : 0 ≤ v ∧ v < b.1 := by
    have := ho.2
    simp only [off, Bool.or_eq_false_iff, decide_eq_false_iff_not] at this
    omega
  have hex := exT_len b.1.toNat v.toNat (T b f) (T_len b f)
  obtain ⟨F, n, e1, e2, e3, e4, e5, ⟨l, e6⟩, e7⟩ := op_put hf hex (hr hf)
  have hw : someW b f v = ((b.1, F), n, 0) := by
    unfold someW opW; rw [if_neg (by simp [he]), e1]
  have hb : b.1.toNat = inp.length := by omega
  have hd : v.toNat < inp.length := by omega
  have hT : T (b.1, F) n = exT inp.length v.toNat (T b f) := by rw [← hb]; exact e4
  have hTl : (T b f).length = 2 ^ inp.length := by rw [T_len, hb]
  have h2 : (inp.set v.toNat (!inp.getD v.toNat false)).length = inp.length := by simp
  have l1 := look_ex v.toNat inp (T b f) hTl hd
  have l2 := look_ex v.toNat (inp.set v.toNat (!inp.getD v.toNat false)) (T b f) (by rw [h2]; exact hTl) (by rw [h2]; exact hd)
  rw [h2, flip_flip inp v.toNat hd, Bool.or_comm] at l2
  refine ⟨hv.1, hv.2, F, n, _, _, hw, hf, e5, eval_T hf i hl, eval_T hf i (by rw [h2]; exact hl), ?_, ?_, ?_⟩
  · rw [eval_T (b := (b.1, F)) e2 e3 hl, hT, l1]
  · rw [eval_T (b := (b.1, F)) e2 e3 (by rw [h2]; exact hl), hT, l2]
  · have ha : askE (b.1, F) [n] (off (b.1, F) v) = 0 := ask_ok (b := (b.1, F)) e2 (by
      simp only [List.any_cons, List.any_nil, Bool.or_false, Bool.or_eq_false_iff]
      exact ⟨in_out e3, ho.2⟩)
    have hee : exT b.1.toNat v.toNat (T (b.1, F) n) = T (b.1, F) n := by
      rw [hT, hb]; exact ex_ex hTl hd
    have hlo := hf.lo
    unfold someW opW
    rw [if_neg (by simp [ha])]
    show ((b.1, (put b.1.toNat F 0 (exT b.1.toNat v.toNat (T (b.1, F) n))).1), _, _) = _
    have hpp := put_present e2.toOk b.1.toNat 0 n (by omega) e3
    rw [hee]
    show ((b.1, (put b.1.toNat F 0 (tab F b.1.toNat 0 n)).1), (put b.1.toNat F 0 (tab F b.1.toNat 0 n)).2, (0 : Int)) = _
    rw [hpp]

end Fil.Bd
