/- bdd: plain law: what is put is what it is called. No program in sight. -/
import Derived.Test.YteabanjbgpplmaaBddCount
set_option linter.unusedSimpArgs false
set_option linter.unusedVariables false
namespace Fil.Bd

/-- What a table tells. -/
def lookT : List Bool → List Bool → Bool
  | t, [] => t.headD false
  | t, x :: w => lookT (if x then t.drop (2 ^ w.length) else t.take (2 ^ w.length)) w

theorem lookT_two {a b : List Bool} {x : Bool} {w : List Bool} (h : a.length = 2 ^ w.length) : lookT (a ++ b) (x :: w) = lookT (if x then b else a) w := by
  simp only [lookT]
  rw [List.drop_left' h, List.take_left' h]

theorem iteT_take : ∀ (n : Nat) (a b c : List Bool), (iteT a b c).take n = iteT (a.take n) (b.take n) (c.take n)
  | 0, a, b, c => by simp [iteT]
  | n + 1, [], b, c => by simp [iteT]
  | n + 1, x :: a, [], c => by simp [iteT]
  | n + 1, x :: a, y :: b, [] => by simp [iteT]
  | n + 1, x :: a, y :: b, z :: c => by simp [iteT, iteT_take n a b c]
theorem iteT_drop : ∀ (n : Nat) (a b c : List Bool), (iteT a b c).drop n = iteT (a.drop n) (b.drop n) (c.drop n)
  | 0, a, b, c => by simp
  | n + 1, [], b, c => by simp [iteT]
  | n + 1, x :: a, [], c => by
    have : ∀ d : List Bool, iteT d [] (c.drop (n + 1)) = [] := fun d => by cases d <;> rfl
    simp [iteT, this]
  | n + 1, x :: a, y :: b, [] => by
    have : ∀ d e : List Bool, iteT d e [] = [] := fun d e => by cases d <;> cases e <;> rfl
    simp [iteT, this]
  | n + 1, x :: a, y :: b, z :: c => by simp [iteT, iteT_drop n a b c]

theorem lookT_ite : ∀ (w a b c : List Bool), a.length = 2 ^ w.length → b.length = 2 ^ w.length → c.length = 2 ^ w.length → lookT (iteT a b c) w = if lookT a w then lookT b w else lookT c w
  | [], a, b, c, h1, h2, h3 => by
    match a, b, c, h1, h2, h3 with
    | [x], [y], [z], _, _, _ => simp [lookT, iteT]
  | x :: w, a, b, c, h1, h2, h3 => by
    have hp : 2 ^ (x :: w).length = 2 * 2 ^ w.length := by rw [List.length_cons, Nat.pow_succ]; omega
    simp only [lookT]
    cases x
    · simp only [Bool.false_eq_true, if_false]
      rw [iteT_take, lookT_ite w _ _ _ (by simp; omega) (by simp; omega) (by simp; omega)]
    · simp only [if_true]
      rw [iteT_drop, lookT_ite w _ _ _ (by simp; omega) (by simp; omega) (by simp; omega)]

theorem drop_cons {inp : List Bool} {v : Int} (h0 : 0 ≤ v) (h : v < inp.length) : inp.drop v.toNat = inp.getD v.toNat false :: inp.drop (v + 1).toNat := by
  rw [show (v + 1).toNat = v.toNat + 1 by omega, List.getD_eq_getElem?_getD, List.getElem?_eq_getElem (by omega : v.toNat < inp.length)]
  simp

theorem eval_tab {vars : Int} {F : List T3} {inp : List Bool} (ho : Ok vars F) (hl : (inp.length : Int) = vars) : ∀ (k K : Nat) (v n : Int), 0 ≤ v → v + k = vars → In vars F v n → n ≤ K → lookT (tab F k v n) (inp.drop v.toNat) = evf F inp K n
  | 0, K, v, n, h0, hv, hn, hK => by
    have e : v = vars := by omega
    have hd : inp.drop v.toNat = [] := List.drop_of_length_le (by omega)
    have hn2 := (e ▸ hn : In vars F vars n).end ho
    rw [hd, evf_end (by omega)]
    simp only [lookT, tab, List.headD_cons]
    rfl
  | k + 1, K, v, n, h0, hv, hn, hK => by
    have hwl : (inp.drop (v + 1).toNat).length = k := by rw [List.length_drop]; omega
    rw [drop_cons h0 (by omega)]
    by_cases c : 2 ≤ n ∧ (frk F n).1 = v
    · obtain ⟨K, rfl⟩ : ∃ j, K = j + 1 := ⟨K - 1, by omega⟩
      have hlo := hn.lo ho c
      have hhi := hn.hi ho c
      have l1 := ho.low n c.1 hn.2.1
      have l2 := ho.high n c.1 hn.2.1
      rw [tab_at c, lookT_two (by rw [tab_len, hwl]), evf_step c.1]
      unfold nx
      rw [c.2]
      cases inp.getD v.toNat false
      · simpa using eval_tab ho hl k K (v + 1) _ (by omega) (by omega) hlo (by omega)
      · simpa using eval_tab ho hl k K (v + 1) _ (by omega) (by omega) hhi (by omega)
    · rw [tab_up c, lookT_two (by rw [tab_len, hwl]), if_same]
      exact eval_tab ho hl k K (v + 1) n (by omega) (by omega) (hn.up ho hv c) hK
  where if_same : ∀ {b : Bool} {x : List Bool}, (if b then x else x) = x := fun {b x} => by cases b <;> rfl

theorem fine_of {vars : Int} {F l : List T3} (hf : Fine vars F) (ho : Ok vars (F ++ l)) (hl : (F ++ l).length ≤ 65536) : Fine vars (F ++ l) := by
  have h2 := hf.two
  exact ⟨ho, hf.few, hl, by rw [frk_app (by omega) (by omega)]; exact hf.end0, by rw [frk_app (by omega) (by omega)]; exact hf.end1⟩

theorem in_out {vars : Int} {F : List T3} {v n : Int} (h : In vars F v n) : outside F n = false := by
  simp [outside, h.1, h.2.1]

/-- What an operation tells, of diagrams that may be. -/
theorem op_put {b : D} {t : List Bool} (hf : Fine b.1 b.2) (ht : t.length = 2 ^ b.1.toNat) (hr : b.2.length + 2 ^ b.1.toNat ≤ 65537) :
    ∃ F n, put b.1.toNat b.2 0 t = (F, n) ∧ Fine b.1 F ∧ In b.1 F 0 n ∧ tab F b.1.toNat 0 n = t ∧ F.length + 1 ≤ b.2.length + 2 ^ b.1.toNat ∧ (∃ l, F = b.2 ++ l) ∧ (F = b.2 ∨ n = F.length - 1) := by
  have hlo := hf.lo
  have P := put_ok b.1.toNat b.2 0 t hf.toOk (by omega) (by omega) ht
  obtain ⟨l, el⟩ := P.pre
  refine ⟨_, _, rfl, ?_, P.inn, P.tab, P.len, P.pre, P.last⟩
  have := P.len
  have := P.ok
  rw [el] at this ⊢
  exact fine_of hf this (by rw [← el]; omega)

theorem T_len (b : D) (f : Int) : (T b f).length = 2 ^ b.1.toNat := tab_len ..

theorem eval_T {b : D} {f : Int} {inp : List Bool} (hf : Fine b.1 b.2) (i : In b.1 b.2 0 f) (hl : (inp.length : Int) = b.1) : evalW b f inp = (lookT (T b f) inp, 0) := by
  have hlo := hf.lo
  have h := eval_tab hf.toOk hl b.1.toNat f.toNat 0 f (by omega) (by omega) i (by have := i.1; omega)
  simp only [Int.toNat_zero, List.drop_zero] at h
  unfold evalW
  rw [ask_ok hf (by simp [in_out i]), if_neg (by simp), if_neg (by simp [hl])]
  unfold T
  rw [h]

theorem means_ok {b : D} {f g h : Int} {inp : List Bool} (hl : (inp.length : Int) = b.1) (hr : Fine b.1 b.2 → b.2.length + 2 ^ b.1.toNat ≤ 65537) :
    ((iteW b f g h).2.2 ≠ 0 → iteW b f g h = ((0, []), 0, (iteW b f g h).2.2)) ∧
    ((iteW b f g h).2.2 = 0 → (evalW b f inp).2 = 0 ∧ (evalW b g inp).2 = 0 ∧ (evalW b h inp).2 = 0 ∧ (evalW (iteW b f g h).1 (iteW b f g h).2.1 inp).2 = 0 ∧
      (evalW (iteW b f g h).1 (iteW b f g h).2.1 inp).1 = (if (evalW b f inp).1 then (evalW b g inp).1 else (evalW b h inp).1) ∧ chk (iteW b f g h).1.1 (iteW b f g h).1.2 = 0) := by
  by_cases he : askE b [f, g, h] false = 0
  · have hw : iteW b f g h = ((b.1, (put b.1.toNat b.2 0 (iteT (T b f) (T b g) (T b h))).1), (put b.1.toNat b.2 0 (iteT (T b f) (T b g) (T b h))).2, 0) := by
      unfold iteW opW; rw [he]; rfl
    have hc : chk b.1 b.2 = 0 := by
      unfold askE at he
      split at he
      · exact he
      · rename_i hne; simpa using hne
    have hf := chk_fine.1 hc
    have ho : [f, g, h].any (outside b.2) = false := by
      unfold askE at he
      rw [if_neg (by simp [hc])] at he
      split at he
      · simp at he
      · rename_i hn; simpa using hn
    have ho' : outside b.2 f = false ∧ outside b.2 g = false ∧ outside b.2 h = false := by simpa using ho
    have i := out_In ho'.1 hf.toOk
    have j := out_In ho'.2.1 hf.toOk
    have k := out_In ho'.2.2 hf.toOk
    obtain ⟨F, n, e1, e2, e3, e4, e5, e6⟩ := op_put hf (iteT_len (T_len b f) (T_len b g) (T_len b h)) (hr hf)
    rw [e1] at hw
    rw [hw]
    have hb : b.1.toNat = inp.length := by omega
    refine ⟨fun h => absurd rfl h, fun _ => ?_⟩
    have e3' : In (b.1, F).1 (b.1, F).2 0 n := e3
    rw [eval_T hf i hl, eval_T hf j hl, eval_T hf k hl, eval_T (b := (b.1, F)) e2 e3' hl]
    refine ⟨rfl, rfl, rfl, rfl, ?_, chk_fine.2 e2⟩
    show lookT (tab F b.1.toNat 0 n) inp = _
    rw [e4]
    exact lookT_ite inp _ _ _ (by rw [T_len, hb]) (by rw [T_len, hb]) (by rw [T_len, hb])
  · have hw : iteW b f g h = ((0, []), 0, askE b [f, g, h] false) := by unfold iteW; rw [op_err he]
    rw [hw]
    exact ⟨fun _ => rfl, fun h => absurd h he⟩

end Fil.Bd
