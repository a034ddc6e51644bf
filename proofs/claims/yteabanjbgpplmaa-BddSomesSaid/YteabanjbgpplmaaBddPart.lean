/- bdd: plain law: a function is what it is made of. No program in sight. -/
import Derived.Test.YteabanjbgpplmaaBddKeep
set_option linter.unusedSimpArgs false
set_option linter.unusedVariables false
namespace Fil.Bd

theorem parts_one : ∀ (n : Nat) (v f : List Bool), v.length = n → f.length = n → iteT v (iteT v f (List.replicate n false)) (iteT v (List.replicate n false) f) = f
  | 0, v, f, h1, h2 => by
    have := List.length_eq_zero_iff.1 h1; have := List.length_eq_zero_iff.1 h2; subst_vars; rfl
  | n + 1, [], f, h1, _ => by simp at h1
  | n + 1, x :: v, [], _, h2 => by simp at h2
  | n + 1, x :: v, y :: f, h1, h2 => by
    have ih := parts_one n v f (by simpa using h1) (by simpa using h2)
    cases x <;> simp [List.replicate_succ, iteT, ih]

theorem parts_none : ∀ (n : Nat) (v f : List Bool), v.length = n → f.length = n → iteT (iteT v f (List.replicate n false)) (iteT v (List.replicate n false) f) (List.replicate n false) = List.replicate n false
  | 0, v, f, h1, h2 => by
    have := List.length_eq_zero_iff.1 h1; have := List.length_eq_zero_iff.1 h2; subst_vars; rfl
  | n + 1, [], f, h1, _ => by simp at h1
  | n + 1, x :: v, [], _, h2 => by simp at h2
  | n + 1, x :: v, y :: f, h1, h2 => by
    have ih := parts_none n v f (by simpa using h1) (by simpa using h2)
    cases x <;> cases y <;> simp [List.replicate_succ, iteT, ih]

theorem varT_len : ∀ (k d : Nat), d < k → (varT k d).length = 2 ^ k
  | 0, d, h => by omega
  | k + 1, 0, h => by simp [varT]; omega
  | k + 1, d + 1, h => by simp only [varT, List.length_append, varT_len k d (by omega)]; omega

theorem var_ok {b : D} {n : Int} (hr : Fine b.1 b.2 → b.2.length + 2 ^ b.1.toNat ≤ 65537) (hq : (varW b n).2.2 = 0) : ∃ F v, varW b n = ((b.1, F), v, 0) ∧ Fine b.1 b.2 ∧ Fine b.1 F ∧ In b.1 F 0 v ∧ F.length + 1 ≤ b.2.length + 2 ^ b.1.toNat := by
  by_cases he : askE b [] (off b n) = 0
  · have hw : varW b n = ((b.1, (put b.1.toNat b.2 0 (varT b.1.toNat n.toNat)).1), (put b.1.toNat b.2 0 (varT b.1.toNat n.toNat)).2, 0) := by
      unfold varW opW; rw [he]; rfl
    have hc : chk b.1 b.2 = 0 := by
      unfold askE at he
      split at he
      · exact he
      · rename_i hne; simpa using hne
    have hf := chk_fine.1 hc
    have ho : off b n = false := by
      unfold askE at he
      rw [if_neg (by simp [hc])] at he
      split at he
      · simp at he
      · rename_i hn; simpa using hn
    have ho' : 0 ≤ n ∧ n < b.1 := by simpa [off] using ho
    obtain ⟨F, v, e1, e2, e3, e4, e5, e6, e7⟩ := op_put hf (varT_len b.1.toNat n.toNat (by omega)) (hr hf)
    rw [e1] at hw
    exact ⟨F, v, hw, hf, e2, e3, e5⟩
  · exfalso
    have hw : varW b n = ((0, []), 0, askE b [] (off b n)) := by unfold varW; rw [op_err he]
    rw [hw] at hq
    exact he hq

theorem var_err {b : D} {n : Int} (hq : (varW b n).2.2 ≠ 0) : varW b n = ((0, []), 0, (varW b n).2.2) := by
  by_cases he : askE b [] (off b n) = 0
  · exfalso; apply hq; unfold varW opW; rw [he]; rfl
  · unfold varW; rw [op_err he]

theorem zero_In {vars : Int} {F : List T3} (ho : Ok vars F) : In vars F 0 0 := ⟨by omega, by have := ho.two; omega, by have := ho.lo; simp [top]; omega⟩
theorem T_zero (b : D) : T b 0 = List.replicate (2 ^ b.1.toNat) false := tab_zero ..

theorem parts_bad {c : D} {v f : Int} (hf : Fine c.1 c.2) (hv : In c.1 c.2 0 v) (hq : (iteW c v f 0).2.2 ≠ 0) : iteW c v f 0 = ((0, []), 0, 1) ∧ iteW (0, []) v 0 f = ((0, []), 0, 1) := by
  obtain ⟨k1, k2⟩ := keeps_err hq
  have h1 : (iteW c v f 0).2.2 = 1 := by
    rcases k2 with h | h
    · rw [chk_fine.2 hf] at h; exact absurd h.symm hq
    · exact h
  rw [h1] at k1
  refine ⟨k1, ?_⟩
  have hc : chk 0 [] = 1 := by decide
  unfold iteW
  rw [ask_err (b := (0, [])) hc (by decide), op_err (by decide)]

theorem parts_ok {c : D} {v f : Int} (hf : Fine c.1 c.2) (hv : In c.1 c.2 0 v) (h12 : c.1 ≤ 12) (hlen : c.2.length ≤ 20000) (hq : (iteW c v f 0).2.2 = 0) :
    ∃ F yes G no, iteW c v f 0 = ((c.1, F), yes, 0) ∧ F.length ≤ c.2.length + 4096 ∧ Fine c.1 F ∧ iteW (c.1, F) v 0 f = ((c.1, G), no, 0) ∧ G.length ≤ F.length + 4096 ∧ Fine c.1 G ∧
      iteW (c.1, G) v yes no = ((c.1, G), f, 0) ∧ iteW (c.1, G) yes no 0 = ((c.1, G), 0, 0) := by
  have hp : 2 ^ c.1.toNat ≤ 2 ^ 12 := Nat.pow_le_pow_right (by decide) (by omega)
  obtain ⟨F, yes, e1, e2, e3, e4, e5, e6, e7, e8, e9, ⟨l, el⟩, _⟩ := ite_ok (fun _ => by omega) hq
  subst el
  have i1 := e3.app l
  have i2 := e4.app l
  have q2 : (iteW (c.1, c.2 ++ l) v 0 f).2.2 = 0 := by
    unfold iteW opW
    rw [ask_ok (b := (c.1, c.2 ++ l)) e6 (by simp [in_out i1, in_out i2, in_out (zero_In e6.toOk)])]
    rfl
  obtain ⟨G, no, g1, g2, g3, g4, g5, g6, g7, g8, g9, ⟨m, em⟩, _⟩ := ite_ok (b := (c.1, c.2 ++ l)) (fun _ => by show (c.2 ++ l).length + 2 ^ c.1.toNat ≤ 65537; omega) q2
  subst em
  simp only at g1 g2 g3 g4 g5 g6 g7 g8 g9
  have t0 : T c 0 = List.replicate (2 ^ c.1.toNat) false := T_zero c
  have a1 : T (c.1, c.2 ++ l) v = T c v := T_app e2.toOk e3
  have a2 : T (c.1, c.2 ++ l) f = T c f := T_app e2.toOk e4
  have a3 : T (c.1, c.2 ++ l) 0 = T c 0 := T_app e2.toOk (zero_In e2.toOk)
  have b1 : T (c.1, c.2 ++ l ++ m) v = T c v := (T_app g2.toOk g3).trans a1
  have b2 : T (c.1, c.2 ++ l ++ m) f = T c f := (T_app g2.toOk g5).trans a2
  have b3 : T (c.1, c.2 ++ l ++ m) 0 = T c 0 := (T_app g2.toOk (zero_In g2.toOk)).trans a3
  have b4 : T (c.1, c.2 ++ l ++ m) yes = iteT (T c v) (T c f) (T c 0) := (T_app g2.toOk e7).trans e8
  rw [a1, a2, a3] at g8
  refine ⟨_, yes, _, no, e1, by omega, e6, g1, by omega, g6, ?_, ?_⟩
  · refine ite_there (b := (c.1, c.2 ++ l ++ m)) g6 (g3.app m) (e7.app m) g7 (g5.app m) ?_
    rw [b1, b2, b4, g8, t0]
    exact (parts_one _ _ _ (T_len c v) (T_len c f)).symm
  · refine ite_there (b := (c.1, c.2 ++ l ++ m)) g6 (e7.app m) g7 (zero_In g6.toOk) (zero_In g6.toOk) ?_
    rw [b3, b4, g8, t0]
    exact (parts_none _ _ _ (T_len c v) (T_len c f)).symm

end Fil.Bd
