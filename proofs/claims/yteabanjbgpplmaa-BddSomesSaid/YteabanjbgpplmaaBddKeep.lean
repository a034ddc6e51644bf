/- bdd: plain law: what is there stays; once more nothing is put. No program in sight. -/
import Derived.Test.YteabanjbgpplmaaBddMean
set_option linter.unusedSimpArgs false
set_option linter.unusedVariables false
namespace Fil.Bd

theorem keeps_err {b : D} {f g h : Int} (hq : (iteW b f g h).2.2 ≠ 0) : iteW b f g h = ((0, []), 0, (iteW b f g h).2.2) ∧ (chk b.1 b.2 = (iteW b f g h).2.2 ∨ (iteW b f g h).2.2 = 1) := by
  by_cases he : askE b [f, g, h] false = 0
  · exfalso; apply hq; unfold iteW opW; rw [he]; rfl
  · have hw : iteW b f g h = ((0, []), 0, askE b [f, g, h] false) := by unfold iteW; rw [op_err he]
    rw [hw]
    refine ⟨rfl, ?_⟩
    show chk b.1 b.2 = askE b [f, g, h] false ∨ askE b [f, g, h] false = 1
    unfold askE at he ⊢
    split
    · exact .inl rfl
    · rename_i h1
      rw [if_neg h1] at he
      split
      · exact .inr rfl
      · rename_i h2; rw [if_neg h2] at he; exact absurd rfl he

/-- What Ite tells, where it puts. -/
theorem ite_ok {b : D} {f g h : Int} (hr : Fine b.1 b.2 → b.2.length + 2 ^ b.1.toNat ≤ 65537) (hq : (iteW b f g h).2.2 = 0) : ∃ F n, iteW b f g h = ((b.1, F), n, 0) ∧ Fine b.1 b.2 ∧ In b.1 b.2 0 f ∧ In b.1 b.2 0 g ∧ In b.1 b.2 0 h ∧
    Fine b.1 F ∧ In b.1 F 0 n ∧ T (b.1, F) n = iteT (T b f) (T b g) (T b h) ∧ F.length + 1 ≤ b.2.length + 2 ^ b.1.toNat ∧ (∃ l, F = b.2 ++ l) ∧ (F = b.2 ∨ n = F.length - 1) := by
  by_cases he : askE b [f, g, h] false = 0
  · have hw : iteW b f g h = ((b.1, (put b.1.toNat b.2 0 (iteT (T b f) (T b g) (T b h))).1), (put b.1.toNat b.2 0 (iteT (T b f) (T b g) (T b h))).2, 0) := by
      unfold iteW opW; rw [he]; rfl
    have hc : chk b.1 b.2 = 0 := by
      unfold askE at he
      split at he
      · exact he
      · rename_i hne; simpa using hne
    have hf := chk_fine.1 hc
    have ho : [f, g, h].any (outside b.2) = false := by
      unfold askE at he
      rw [if_neg (by simp [hc])] at he
      split at he
      · simp at he
      · rename_i hn; simpa using hn
    have ho' : outside b.2 f = false ∧ outside b.2 g = false ∧ outside b.2 h = false := by simpa using ho
    obtain ⟨F, n, e1, e2, e3, e4, e5, e6, e7⟩ := op_put hf (iteT_len (T_len b f) (T_len b g) (T_len b h)) (hr hf)
    rw [e1] at hw
    exact ⟨F, n, hw, hf, out_In ho'.1 hf.toOk, out_In ho'.2.1 hf.toOk, out_In ho'.2.2 hf.toOk, e2, e3, e4, e5, e6, e7⟩
  · exfalso
    have hw : iteW b f g h = ((0, []), 0, askE b [f, g, h] false) := by unfold iteW; rw [op_err he]
    rw [hw] at hq
    exact he hq

theorem T_app {vars : Int} {F l : List T3} (ho : Ok vars F) {f : Int} (i : In vars F 0 f) : T (vars, F ++ l) f = T (vars, F) f := tab_app ho l _ _ _ i.1 i.2.1

/-- A function that is there is found. -/
theorem ite_there {b : D} {f g h n : Int} (hf : Fine b.1 b.2) (i : In b.1 b.2 0 f) (j : In b.1 b.2 0 g) (k : In b.1 b.2 0 h) (hn : In b.1 b.2 0 n) (ht : T b n = iteT (T b f) (T b g) (T b h)) : iteW b f g h = (b, n, 0) := by
  have hlo := hf.lo
  have e0 : askE b [f, g, h] false = 0 := ask_ok hf (by simp [in_out i, in_out j, in_out k])
  unfold iteW opW
  rw [e0, ← ht]
  have := put_present hf.toOk b.1.toNat 0 n (by omega) hn
  unfold T
  rw [this]; rfl

theorem keeps_ok {b : D} {f g h : Int} (hr : Fine b.1 b.2 → b.2.length + 2 ^ b.1.toNat ≤ 65537) (hq : (iteW b f g h).2.2 = 0) : ∃ l n, iteW b f g h = ((b.1, b.2 ++ l), n, 0) ∧ Fine b.1 b.2 ∧ Fine b.1 (b.2 ++ l) ∧ 0 ≤ n ∧ n < (b.2 ++ l).length ∧
    (b.2 ++ l).length + 1 ≤ b.2.length + 2 ^ b.1.toNat ∧ (l = [] ∨ n = (b.2 ++ l).length - 1) ∧ iteW (b.1, b.2 ++ l) f g h = ((b.1, b.2 ++ l), n, 0) := by
  obtain ⟨F, n, e1, e2, e3, e4, e5, e6, e7, e8, e9, ⟨l, el⟩, e11⟩ := ite_ok hr hq
  subst el
  refine ⟨l, n, e1, e2, e6, e7.1, e7.2.1, e9, ?_, ?_⟩
  · rcases e11 with h | h
    · left; simpa using h
    · exact .inr h
  · refine ite_there (b := (b.1, b.2 ++ l)) e6 (e3.app l) (e4.app l) (e5.app l) e7 ?_
    rw [e8, T_app e2.toOk e3, T_app e2.toOk e4, T_app e2.toOk e5]

end Fil.Bd
