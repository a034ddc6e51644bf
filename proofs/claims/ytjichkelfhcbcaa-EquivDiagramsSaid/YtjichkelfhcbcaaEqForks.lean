/- equiv: plain models: the diagrams of gates, and what they mean. No program in sight. -/
import Derived.Test.YtjichkelfhcbcaaBddCount
set_option linter.unusedSimpArgs false
set_option linter.unusedVariables false
namespace Go.Proofs.Ytjichkelfhcbcaa.B
open Abs Fil Fil.Bd
theorem eq3 (x y : T3) : (x.1 == y.1 && (x.2.1 == y.2.1 && x.2.2 == y.2.2)) = decide (x = y) := by
  rw [Bool.eq_iff_iff]
  simp only [Bool.and_eq_true, beq_iff_eq, decide_eq_true_eq]
  exact ⟨fun ⟨a, b, c⟩ => Prod.ext a (Prod.ext b c), fun e => by subst e; exact ⟨rfl, rfl, rfl⟩⟩
def newW (v : Int) : D × Int := if v < 0 then ((0, []), 1) else if 32 < v then ((0, []), 2) else ((v, [(-1, 0, 0), (-1, 0, 0)]), 0)
theorem bdd_New (v : Int) (σ : Sig) : ACalls Try.prog 34 [.int .i64 v] σ (fun r σ' => r = .ret (.tup [encB (newW v).1.1 (newW v).1.2, .int .i64 (newW v).2]) ∧ σ' = σ) := by
  refine calls_x mixed Try.func34 b34 n34 rfl q34 (by simp) ?_; unfold c34 r34
  by_cases h1 : v < 0
  · have hw : newW v = ((0, []), 1) := by unfold newW; rw [if_pos h1]
    rw [hw]
    repeat' (first | simp (maxDischargeDepth := 9) -implicitDefEqProofs -dsimp only [go_sem, seval, gt_iff_lt, *] | ((with_reducible refine Zt (fun oF hoF hnF hnF' => ?_)); clear hnF hnF'; (try simp only [Zw, ne_eq] at hoF)))
    refine fin_eq ?_
    (repeat' (first | simp (maxDischargeDepth := 9) -implicitDefEqProofs -dsimp only [go_sem, seval, List.map_nil, *])) <;> (repeat' refine And.intro ?_ ?_) <;> (first | omega | rfl | assumption | skip)
  by_cases h2 : 32 < v
  · have hw : newW v = ((0, []), 2) := by unfold newW; rw [if_neg h1, if_pos h2]
    rw [hw]
    repeat' (first | simp (maxDischargeDepth := 9) -implicitDefEqProofs -dsimp only [go_sem, seval, gt_iff_lt, *] | ((with_reducible refine Zt (fun oF hoF hnF hnF' => ?_)); clear hnF hnF'; (try simp only [Zw, ne_eq] at hoF)))
    refine fin_eq ?_
    (repeat' (first | simp (maxDischargeDepth := 9) -implicitDefEqProofs -dsimp only [go_sem, seval, List.map_nil, *])) <;> (repeat' refine And.intro ?_ ?_) <;> (first | omega | rfl | assumption | skip)
  · have hw : newW v = ((v, [(-1, 0, 0), (-1, 0, 0)]), 0) := by unfold newW; rw [if_neg h1, if_neg h2]
    rw [hw]
    repeat' (first | simp (maxDischargeDepth := 9) -implicitDefEqProofs -dsimp only [go_sem, seval, gt_iff_lt, *] | ((with_reducible refine Zt (fun oF hoF hnF hnF' => ?_)); clear hnF hnF'; (try simp only [Zw, ne_eq] at hoF)))
    refine fin_eq ?_
    (repeat' (first | simp (maxDischargeDepth := 9) -implicitDefEqProofs -dsimp only [go_sem, seval, List.map_nil, List.map_cons, *])) <;> (repeat' refine And.intro ?_ ?_) <;> (first | omega | rfl | assumption | skip)
theorem ref_below (vars : Int) (F : List T3) (n v i : Int) (σ : Sig) (hi : i ≤ F.length) :
    ACalls Try.prog 124 [encB vars F, .int .i64 n, .int .i64 v, .int .i64 i] σ (fun r σ' => r = .ret (.bool (und F n v i)) ∧ σ' = σ) := by
  refine calls_x mixed Try.func124 b124 n124 rfl q124 (by simp) ?_; unfold c124 r124
  repeat' (first | simp (maxDischargeDepth := 9) -implicitDefEqProofs -dsimp only [go_sem, seval, *] | (with_reducible (first | apply Za | apply Zb) <;> intro hq) | ((with_reducible refine Zu ?_ ?_); focus omega))
  all_goals refine fin_eq ?_
  all_goals (repeat' (first | simp (maxDischargeDepth := 9) -implicitDefEqProofs -dsimp only [go_sem, seval, und, *])) <;> (repeat' refine And.intro ?_ ?_) <;> (first | omega | rfl | assumption | skip)
theorem ref_fork (vars : Int) (F : List T3) (j : Nat) (σ : Sig) (h : j + 2 < F.length) (hl : F.length ≤ 65536) :
    ACalls Try.prog 119 [encB vars F, .int .i64 ((j : Int) + 2)] σ (fun r σ' => r = .ret (.bool (!bad vars F j)) ∧ σ' = σ) := by
  refine calls_x mixed Try.func119 b119 n119 rfl q119 (by simp) ?_; unfold c119 r119
  obtain ⟨x, hx⟩ : ∃ x, frk F ((j : Int) + 2) = x := ⟨_, rfl⟩
  have hj2 : (j : Int) + 2 ≤ F.length := by omega
  have hj3 : (j : Int) + 2 < F.length := by omega
  have hj0 : 0 ≤ (j : Int) + 2 := by omega
  by_cases c : 0 ≤ x.1 ∧ x.1 < vars ∧ x.2.1 ≠ x.2.2 ∧ und F x.2.1 x.1 (j + 2) = true ∧ und F x.2.2 x.1 (j + 2) = true
  · obtain ⟨c1, c2, c3, c4, c5⟩ := c
    have b1 : ¬ x.1 < 0 := by omega
    have b2 : ¬ vars ≤ x.1 := by omega
    have b3 : (x.2.1 == x.2.2) = false := by simpa using c3
    have hbad : bad vars F j = false ↔ ∀ i, i < j → frk F ((i : Int) + 2) ≠ x := by
      rw [bad_iff, hx]
      exact ⟨fun q => q.1, fun q => ⟨q, c1, c2, c3, c4, c5⟩⟩
    repeat' (first | simp (maxDischargeDepth := 9) -implicitDefEqProofs -dsimp only [go_sem, seval, ge_iff_le, *] | simp (disch := omega) only [wrap64] | (with_reducible (first | apply Zb | apply Zk | apply Zp | apply Zr) <;> intro hq) | ((with_reducible refine Zv ?_ ?_); focus (first | omega | exact rfl)) | ((with_reducible refine Zu ?_ ?_); focus omega) | ((with_reducible refine Zt (fun oF hoF hnF hnF' => ?_)); clear hnF hnF'; (try simp only [Zw, ne_eq] at hoF)) | ((with_reducible apply ACalls.one1); (focus ((first | with_reducible refine ref_below vars F _ _ _ _ hj2) <;> (first | (simp (maxDischargeDepth := 9) -implicitDefEqProofs -dsimp only [go_sem, seval, *]; done) | omega))); (focus (first | trivial | with_reducible exact rfl | (simp (maxDischargeDepth := 9) -implicitDefEqProofs -dsimp only [go_sem, seval]; done)))))
    all_goals first | (exfalso; omega) | skip
    refine loop_rule (fun i : Nat => [(6, some (.int .i64 ((i : Int) + 2))), (1, some (.int .i64 ((j : Int) + 2))), (2, some (.cptr [.int .i64 vars, .slice (F.map encF) .no])), (5, some (.ptr oF 0))]) (fun _ => upd σ oF (.cells [.int .i64 x.1, .int .i64 x.2.1, .int .i64 x.2.2])) (fun i => i ≤ j ∧ ∀ k : Nat, k < i → frk F ((k : Int) + 2) ≠ x) (fun i => j - i) 0 ?_ ?_
    · (repeat' (first | simp (maxDischargeDepth := 9) -implicitDefEqProofs -dsimp only [go_sem, seval, *] | simp (disch := omega) only [wrap64])) <;> (repeat' refine And.intro ?_ ?_) <;> (first | omega | rfl | assumption | skip)
    · rintro i ⟨hi, hall⟩
      by_cases hlt : i < j
      · have hi2 : (i : Int) + 2 < (j : Int) + 2 := by omega
        have hi3 : (i : Int) + 2 < F.length := by omega
        by_cases he : frk F ((i : Int) + 2) = x
        · have be : decide (frk F ((i : Int) + 2) = x) = true := by simpa using he
          have hb : bad vars F j = true := by
            rw [← Bool.not_eq_false]
            exact fun e => hbad.1 e i hlt he
          rw [hb]
          clear hall hbad he
          repeat' (first | simp (maxDischargeDepth := 9) -implicitDefEqProofs -dsimp only [go_sem, seval, eq3, *] | simp (disch := omega) only [wrap64] | (with_reducible (first | apply Zb | apply Zk | apply Zp | apply Zr) <;> intro hq) | ((with_reducible refine Zv ?_ ?_); focus (first | omega | exact rfl)) | ((with_reducible refine Zu ?_ ?_); focus omega) | ((with_reducible refine Zt (fun oF hoF hnF hnF' => ?_)); clear hnF hnF'; (try simp only [Zw, ne_eq] at hoF)))
          refine fin_eq ?_
          (repeat' (first | simp (maxDischargeDepth := 9) -implicitDefEqProofs -dsimp only [go_sem, seval, Bool.not_true, *] | simp (disch := omega) only [wrap64])) <;> (repeat' refine And.intro ?_ ?_) <;> (first | omega | rfl | assumption | skip)
        · have be : decide (frk F ((i : Int) + 2) = x) = false := by simpa using he
          have hall' : ∀ k : Nat, k < i + 1 → frk F ((k : Int) + 2) ≠ x := fun k hk => by
            rcases Nat.lt_or_ge k i with c | c
            · exact hall k c
            · have : k = i := by omega
              rw [this]; exact he
          clear hall hbad he
          repeat' (first | simp (maxDischargeDepth := 9) -implicitDefEqProofs -dsimp only [go_sem, seval, eq3, *] | simp (disch := omega) only [wrap64] | (with_reducible (first | apply Zb | apply Zk | apply Zp | apply Zr) <;> intro hq) | ((with_reducible refine Zv ?_ ?_); focus (first | omega | exact rfl)) | ((with_reducible refine Zu ?_ ?_); focus omega) | ((with_reducible refine Zt (fun oF hoF hnF hnF' => ?_)); clear hnF hnF'; (try simp only [Zw, ne_eq] at hoF)))
          have ei : ((i + 1 : Nat) : Int) + 2 = (i : Int) + 2 + 1 := by omega
          refine loop_next _ _ _ _ (i + 1) ?_; (repeat' (first | simp (maxDischargeDepth := 9) -implicitDefEqProofs -dsimp only [go_sem, seval,  ei, *] | simp (disch := omega) only [wrap64])) <;> (repeat' refine And.intro ?_ ?_) <;> (first | omega | rfl | assumption | skip)
      · have hb : bad vars F j = false := hbad.2 fun k hk => hall k (by omega)
        rw [hb]
        have hi2 : ¬ (i : Int) + 2 < (j : Int) + 2 := by omega
        clear hall hbad
        repeat' (first | simp (maxDischargeDepth := 9) -implicitDefEqProofs -dsimp only [go_sem, seval, *] | simp (disch := omega) only [wrap64] | (with_reducible (first | apply Zb | apply Zk | apply Zp | apply Zr) <;> intro hq) | ((with_reducible refine Zv ?_ ?_); focus (first | omega | exact rfl)) | ((with_reducible refine Zu ?_ ?_); focus omega) | ((with_reducible refine Zt (fun oF hoF hnF hnF' => ?_)); clear hnF hnF'; (try simp only [Zw, ne_eq] at hoF)))
        refine fin_eq ?_
        (repeat' (first | simp (maxDischargeDepth := 9) -implicitDefEqProofs -dsimp only [go_sem, seval, Bool.not_false, *] | simp (disch := omega) only [wrap64])) <;> (repeat' refine And.intro ?_ ?_) <;> (first | omega | rfl | assumption | skip)
  · have hb : bad vars F j = true := by
      rw [← Bool.not_eq_false]
      intro e
      rw [bad_iff, hx] at e
      exact c e.2
    rw [hb]
    clear hb
    repeat' (first | simp (maxDischargeDepth := 9) -implicitDefEqProofs -dsimp only [go_sem, seval, ge_iff_le, *] | simp (disch := omega) only [wrap64] | (with_reducible (first | apply Zb | apply Zk | apply Zp | apply Zr) <;> intro hq) | ((with_reducible refine Zv ?_ ?_); focus (first | omega | exact rfl)) | ((with_reducible refine Zu ?_ ?_); focus omega) | ((with_reducible refine Zt (fun oF hoF hnF hnF' => ?_)); clear hnF hnF'; (try simp only [Zw, ne_eq] at hoF)) | ((with_reducible apply ACalls.one1); (focus ((first | with_reducible refine ref_below vars F _ _ _ _ hj2) <;> (first | (simp (maxDischargeDepth := 9) -implicitDefEqProofs -dsimp only [go_sem, seval, *]; done) | omega))); (focus (first | trivial | with_reducible exact rfl | (simp (maxDischargeDepth := 9) -implicitDefEqProofs -dsimp only [go_sem, seval]; done)))))
    all_goals first | (with_reducible refine fin_eq ?_; (repeat' (first | simp (maxDischargeDepth := 9) -implicitDefEqProofs -dsimp only [go_sem, seval, Bool.not_true, *] | simp (disch := omega) only [wrap64])) <;> (repeat' refine And.intro ?_ ?_) <;> (first | omega | rfl | assumption | skip); done) | skip
    exfalso
    rename_i w1 w2 w3 w4
    exact c ⟨by omega, by omega, w3.1, w4, hq⟩
end Go.Proofs.Ytjichkelfhcbcaa.B

namespace Go.Proofs.Ytjichkelfhcbcaa.B
open Abs Fil Fil.Bd
theorem ref_Check (vars : Int) (F : List T3) (σ : Sig) (hl : F.length ≤ 9223372036854775807) :
    ACalls Try.prog 98 [encB vars F] σ (fun r σ' => r = .ret (.int .i64 (chk vars F)) ∧ σ' = σ) := by
  refine calls_x mixed Try.func98 b98 n98 rfl q98 (by simp) ?_; unfold c98 r98
  by_cases h1 : 65536 < F.length
  · have hc : chk vars F = 220 := by unfold chk; rw [if_pos h1]
    have h1' : (65536 : Int) < F.length := by omega
    rw [hc]
    repeat' (first | simp (maxDischargeDepth := 9) -implicitDefEqProofs -dsimp only [go_sem, seval, gt_iff_lt, *] | simp (disch := omega) only [wrap64] | (with_reducible (first | apply Zb | apply Zc | apply Zp | apply Zr) <;> intro hq) | ((with_reducible refine Zu ?_ ?_); focus omega) | ((with_reducible refine Zt (fun oF hoF hnF hnF' => ?_)); clear hnF hnF'; (try simp only [Zw, ne_eq] at hoF)))
    refine fin_eq ?_
    (repeat' (first | simp (maxDischargeDepth := 9) -implicitDefEqProofs -dsimp only [go_sem, seval, *] | simp (disch := omega) only [wrap64])) <;> (repeat' refine And.intro ?_ ?_) <;> (first | omega | rfl | assumption | skip)
  have h1' : ¬ (65536 : Int) < F.length := by omega
  cases hh : head vars F with
  | true =>
    have hc : chk vars F = 1 := by unfold chk; rw [if_neg h1, if_pos hh]
    rw [hc]
    simp only [head, Bool.or_eq_true, decide_eq_true_eq] at hh
    clear hc
    repeat' (first | simp (maxDischargeDepth := 9) -implicitDefEqProofs -dsimp only [go_sem, seval, gt_iff_lt, *] | simp (disch := omega) only [wrap64] | (with_reducible (first | apply Zb | apply Zc | apply Zp | apply Zr) <;> intro hq) | ((with_reducible refine Zu ?_ ?_); focus omega) | ((with_reducible refine Zt (fun oF hoF hnF hnF' => ?_)); clear hnF hnF'; (try simp only [Zw, ne_eq] at hoF)))
    all_goals first | (with_reducible refine fin_eq ?_; (repeat' (first | simp (maxDischargeDepth := 9) -implicitDefEqProofs -dsimp only [go_sem, seval, *] | simp (disch := omega) only [wrap64])) <;> (repeat' refine And.intro ?_ ?_) <;> (first | omega | rfl | assumption | skip); done) | skip
    exfalso
    rename_i q1 q2 q3 q4
    simp only [Bool.and_eq_true, beq_iff_eq] at hq q4
    rcases hh with (((h1 | h1) | h1) | h1) | h1
    · exact absurd h1 (by omega)
    · exact absurd h1 (by omega)
    · exact absurd h1 (by omega)
    · exact h1 (Prod.ext q4.1 (Prod.ext q4.2.1 q4.2.2))
    · exact h1 (Prod.ext hq.1 (Prod.ext hq.2.1 hq.2.2))
  | false =>
    obtain ⟨k1, k2, k3, k4, k5⟩ := begin_facts (by omega) hh
    have w1 : ¬ vars < 0 := by omega
    have w2 : ¬ 32 < vars := by omega
    have w3 : ¬ (F.length : Int) < 2 := by omega
    have hle : F.length ≤ 65536 := by omega
    repeat' (first | simp (maxDischargeDepth := 9) -implicitDefEqProofs -dsimp only [go_sem, seval, gt_iff_lt, *] | simp (disch := omega) only [wrap64] | (with_reducible (first | apply Zb | apply Zc | apply Zp | apply Zr) <;> intro hq) | ((with_reducible refine Zu ?_ ?_); focus omega) | ((with_reducible refine Zt (fun oF hoF hnF hnF' => ?_)); clear hnF hnF'; (try simp only [Zw, ne_eq] at hoF)))
    all_goals first | (exfalso; omega) | skip
    refine loop_rule (fun i : Nat => [(4, some (.int .i64 ((i : Int) + 2))), (1, some (.cptr [.int .i64 vars, .slice (F.map encF) .no]))]) (fun _ => σ) (fun i => i ≤ F.length - 2 ∧ ∀ k : Nat, k < i → bad vars F k = false) (fun i => F.length - 2 - i) 0 ?_ ?_
    · (repeat' (first | simp (maxDischargeDepth := 9) -implicitDefEqProofs -dsimp only [go_sem, seval, *] | simp (disch := omega) only [wrap64])) <;> (repeat' refine And.intro ?_ ?_) <;> (first | omega | rfl | assumption | skip)
    · rintro i ⟨hi, hall⟩
      by_cases hlt : i < F.length - 2
      · have hi2 : (i : Int) + 2 < F.length := by omega
        have hi3 : i + 2 < F.length := by omega
        cases hb : bad vars F i with
        | true =>
          have hc : chk vars F = 1 := by
            unfold chk
            rw [if_neg h1, if_neg (by simp [hh]), if_pos]
            simp only [List.any_eq_true, List.mem_range]
            exact ⟨i, hlt, hb⟩
          rw [hc]
          clear hall hc
          repeat' (first | simp (maxDischargeDepth := 9) -implicitDefEqProofs -dsimp only [go_sem, seval, *] | simp (disch := omega) only [wrap64] | (with_reducible (first | apply Zb | apply Zc | apply Zp | apply Zr) <;> intro hq) | ((with_reducible refine Zu ?_ ?_); focus omega) | ((with_reducible refine Zt (fun oF hoF hnF hnF' => ?_)); clear hnF hnF'; (try simp only [Zw, ne_eq] at hoF)) | ((with_reducible apply ACalls.one1); (focus ((first | with_reducible refine ref_fork vars F i _ hi3 hle) <;> (first | (simp (maxDischargeDepth := 9) -implicitDefEqProofs -dsimp only [go_sem, seval, *]; done) | omega))); (focus (first | trivial | with_reducible exact rfl | (simp (maxDischargeDepth := 9) -implicitDefEqProofs -dsimp only [go_sem, seval]; done)))))
          refine fin_eq ?_
          (repeat' (first | simp (maxDischargeDepth := 9) -implicitDefEqProofs -dsimp only [go_sem, seval, *] | simp (disch := omega) only [wrap64])) <;> (repeat' refine And.intro ?_ ?_) <;> (first | omega | rfl | assumption | skip)
        | false =>
          have hall' : ∀ k : Nat, k < i + 1 → bad vars F k = false := fun k hk => by
            rcases Nat.lt_or_ge k i with c | c
            · exact hall k c
            · have : k = i := by omega
              rw [this]; exact hb
          clear hall
          have ei : ((i + 1 : Nat) : Int) + 2 = (i : Int) + 2 + 1 := by omega
          repeat' (first | simp (maxDischargeDepth := 9) -implicitDefEqProofs -dsimp only [go_sem, seval, *] | simp (disch := omega) only [wrap64] | (with_reducible (first | apply Zb | apply Zc | apply Zp | apply Zr) <;> intro hq) | ((with_reducible refine Zu ?_ ?_); focus omega) | ((with_reducible refine Zt (fun oF hoF hnF hnF' => ?_)); clear hnF hnF'; (try simp only [Zw, ne_eq] at hoF)) | ((with_reducible apply ACalls.one1); (focus ((first | with_reducible refine ref_fork vars F i _ hi3 hle) <;> (first | (simp (maxDischargeDepth := 9) -implicitDefEqProofs -dsimp only [go_sem, seval, *]; done) | omega))); (focus (first | trivial | with_reducible exact rfl | (simp (maxDischargeDepth := 9) -implicitDefEqProofs -dsimp only [go_sem, seval]; done)))))
          refine loop_next _ _ _ _ (i + 1) ?_; (repeat' (first | simp (maxDischargeDepth := 9) -implicitDefEqProofs -dsimp only [go_sem, seval,  ei, *] | simp (disch := omega) only [wrap64])) <;> (repeat' refine And.intro ?_ ?_) <;> (first | omega | rfl | assumption | skip)
      · have hc : chk vars F = 0 := by
          unfold chk
          rw [if_neg h1, if_neg (by simp [hh]), if_neg]
          simp only [List.any_eq_true, List.mem_range, not_exists, not_and, Bool.not_eq_true]
          exact fun k hk => hall k (by omega)
        rw [hc]
        have hi2 : ¬ (i : Int) + 2 < F.length := by omega
        clear hall hc
        repeat' (first | simp (maxDischargeDepth := 9) -implicitDefEqProofs -dsimp only [go_sem, seval, *] | simp (disch := omega) only [wrap64] | (with_reducible (first | apply Zb | apply Zc | apply Zp | apply Zr) <;> intro hq) | ((with_reducible refine Zu ?_ ?_); focus omega) | ((with_reducible refine Zt (fun oF hoF hnF hnF' => ?_)); clear hnF hnF'; (try simp only [Zw, ne_eq] at hoF)))
        refine fin_eq ?_
        (repeat' (first | simp (maxDischargeDepth := 9) -implicitDefEqProofs -dsimp only [go_sem, seval, *] | simp (disch := omega) only [wrap64])) <;> (repeat' refine And.intro ?_ ?_) <;> (first | omega | rfl | assumption | skip)
def few (b : D) (n : Int) : Bool := decide (b.1 ≤ n ∧ (b.2.length : Int) ≤ 300 ∨ b.1 < 0 ∨ 32 < b.1 ∧ (b.2.length : Int) ≤ 300 ∨ 65536 < (b.2.length : Int))
end Go.Proofs.Ytjichkelfhcbcaa.B

namespace Fil.Bd
def lookT : List Bool → List Bool → Bool
  | t, [] => t.headD false
  | t, x :: w => lookT (if x then t.drop (2 ^ w.length) else t.take (2 ^ w.length)) w
theorem lookT_two {a b : List Bool} {x : Bool} {w : List Bool} (h : a.length = 2 ^ w.length) : lookT (a ++ b) (x :: w) = lookT (if x then b else a) w := by
  simp only [lookT]
  rw [List.drop_left' h, List.take_left' h]
theorem iteT_take : ∀ (n : Nat) (a b c : List Bool), (iteT a b c).take n = iteT (a.take n) (b.take n) (c.take n)
  | 0, a, b, c => by simp [iteT]
  | n + 1, [], b, c => by simp [iteT]
  | n + 1, x :: a, [], c => by simp [iteT]
  | n + 1, x :: a, y :: b, [] => by simp [iteT]
  | n + 1, x :: a, y :: b, z :: c => by simp [iteT, iteT_take n a b c]
theorem iteT_drop : ∀ (n : Nat) (a b c : List Bool), (iteT a b c).drop n = iteT (a.drop n) (b.drop n) (c.drop n)
  | 0, a, b, c => by simp
  | n + 1, [], b, c => by simp [iteT]
  | n + 1, x :: a, [], c => by
    have : ∀ d : List Bool, iteT d [] (c.drop (n + 1)) = [] := fun d => by cases d <;> rfl
    simp [iteT, this]
  | n + 1, x :: a, y :: b, [] => by
    have : ∀ d e : List Bool, iteT d e [] = [] := fun d e => by cases d <;> cases e <;> rfl
    simp [iteT, this]
  | n + 1, x :: a, y :: b, z :: c => by simp [iteT, iteT_drop n a b c]
theorem lookT_ite : ∀ (w a b c : List Bool), a.length = 2 ^ w.length → b.length = 2 ^ w.length → c.length = 2 ^ w.length → lookT (iteT a b c) w = if lookT a w then lookT b w else lookT c w
  | [], a, b, c, h1, h2, h3 => by
    match a, b, c, h1, h2, h3 with
    | [x], [y], [z], _, _, _ => simp [lookT, iteT]
  | x :: w, a, b, c, h1, h2, h3 => by
    have hp : 2 ^ (x :: w).length = 2 * 2 ^ w.length := by rw [List.length_cons, Nat.pow_succ]; omega
    simp only [lookT]
    cases x
    · simp only [Bool.false_eq_true, if_false]
      rw [iteT_take, lookT_ite w _ _ _ (by simp; omega) (by simp; omega) (by simp; omega)]
    · simp only [if_true]
      rw [iteT_drop, lookT_ite w _ _ _ (by simp; omega) (by simp; omega) (by simp; omega)]
theorem drop_cons {inp : List Bool} {v : Int} (h0 : 0 ≤ v) (h : v < inp.length) : inp.drop v.toNat = inp.getD v.toNat false :: inp.drop (v + 1).toNat := by
  rw [show (v + 1).toNat = v.toNat + 1 by omega, List.getD_eq_getElem?_getD, List.getElem?_eq_getElem (by omega : v.toNat < inp.length)]
  simp
theorem eval_tab {vars : Int} {F : List T3} {inp : List Bool} (ho : Ok vars F) (hl : (inp.length : Int) = vars) : ∀ (k K : Nat) (v n : Int), 0 ≤ v → v + k = vars → In vars F v n → n ≤ K → lookT (tab F k v n) (inp.drop v.toNat) = evf F inp K n
  | 0, K, v, n, h0, hv, hn, hK => by
    have e : v = vars := by omega
    have hd : inp.drop v.toNat = [] := List.drop_of_length_le (by omega)
    have hn2 := (e ▸ hn : In vars F vars n).end ho
    rw [hd, evf_end (by omega)]
    simp only [lookT, tab, List.headD_cons]
    rfl
  | k + 1, K, v, n, h0, hv, hn, hK => by
    have hwl : (inp.drop (v + 1).toNat).length = k := by rw [List.length_drop]; omega
    rw [drop_cons h0 (by omega)]
    by_cases c : 2 ≤ n ∧ (frk F n).1 = v
    · obtain ⟨K, rfl⟩ : ∃ j, K = j + 1 := ⟨K - 1, by omega⟩
      have hlo := hn.lo ho c
      have hhi := hn.hi ho c
      have l1 := ho.low n c.1 hn.2.1
      have l2 := ho.high n c.1 hn.2.1
      rw [tab_at c, lookT_two (by rw [tab_len, hwl]), evf_step c.1]
      unfold nx
      rw [c.2]
      cases inp.getD v.toNat false
      · simpa using eval_tab ho hl k K (v + 1) _ (by omega) (by omega) hlo (by omega)
      · simpa using eval_tab ho hl k K (v + 1) _ (by omega) (by omega) hhi (by omega)
    · rw [tab_up c, lookT_two (by rw [tab_len, hwl]), if_same]
      exact eval_tab ho hl k K (v + 1) n (by omega) (by omega) (hn.up ho hv c) hK
  where if_same : ∀ {b : Bool} {x : List Bool}, (if b then x else x) = x := fun {b x} => by cases b <;> rfl
theorem fine_of {vars : Int} {F l : List T3} (hf : Fine vars F) (ho : Ok vars (F ++ l)) (hl : (F ++ l).length ≤ 65536) : Fine vars (F ++ l) := by
  have h2 := hf.two
  exact ⟨ho, hf.few, hl, by rw [frk_app (by omega) (by omega)]; exact hf.end0, by rw [frk_app (by omega) (by omega)]; exact hf.end1⟩
theorem in_out {vars : Int} {F : List T3} {v n : Int} (h : In vars F v n) : outside F n = false := by
  simp [outside, h.1, h.2.1]
theorem T_len (b : D) (f : Int) : (T b f).length = 2 ^ b.1.toNat := tab_len ..
theorem eval_T {b : D} {f : Int} {inp : List Bool} (hf : Fine b.1 b.2) (i : In b.1 b.2 0 f) (hl : (inp.length : Int) = b.1) : evalW b f inp = (lookT (T b f) inp, 0) := by
  have hlo := hf.lo
  have h := eval_tab hf.toOk hl b.1.toNat f.toNat 0 f (by omega) (by omega) i (by have := i.1; omega)
  simp only [Int.toNat_zero, List.drop_zero] at h
  unfold evalW
  rw [ask_ok hf (by simp [in_out i]), if_neg (by simp), if_neg (by simp [hl])]
  unfold T
  rw [h]
end Fil.Bd

namespace Fil.Bd
def bit (i k : Nat) : Bool := (i / 2 ^ k % 2 == 1)
def row (k i : Nat) : List Bool := (List.range k).map fun j => bit i (k - 1 - j)
end Fil.Bd

namespace Go.Proofs.Ytjichkelfhcbcaa.B
open Abs Fil Fil.Bd
theorem szs_bool (l : List Bool) : szs 1 (l.map encBool) = True := szs_map _ _ _ fun _ => rfl
end Go.Proofs.Ytjichkelfhcbcaa.B

namespace Fil.Bd
def fstT : Nat → List Bool → Option (List Bool)
  | 0, t => if t.headD false then some [] else none
  | k + 1, t => match fstT k (t.take (2 ^ k)) with
    | some w => some (false :: w)
    | none => (fstT k (t.drop (2 ^ k))).map (true :: ·)
theorem fst_two {k : Nat} {a b : List Bool} (h : a.length = 2 ^ k) : fstT (k + 1) (a ++ b) = (match fstT k a with
    | some w => some (false :: w)
    | none => (fstT k b).map (true :: ·)) := by
  simp only [fstT]
  rw [List.take_left' h, List.drop_left' h]
theorem fst_zeros : ∀ k : Nat, fstT k (List.replicate (2 ^ k) false) = none
  | 0 => rfl
  | k + 1 => by
    rw [show 2 ^ (k + 1) = 2 ^ k + 2 ^ k by rw [Nat.pow_succ]; omega, ← List.replicate_append_replicate, fst_two (by simp), fst_zeros k]
    rfl
theorem one_first {vars : Int} {F : List T3} (ho : Ok vars F) : ∀ (k K : Nat) (v n : Int) (l : List Bool), 0 ≤ v → v + k = vars → In vars F v n → n ≠ 0 → n ≤ K → (l.length : Int) = vars → l.drop v.toNat = List.replicate k false →
    ∃ w, w.length = k ∧ fstT k (tab F k v n) = some w ∧ one1 F K n l = l.take v.toNat ++ w
  | 0, K, v, n, l, h0, hv, hn, hne, hK, hl, hd => by
    have e : v = vars := by omega
    have hn1 : n = 1 := by
      have := (e ▸ hn : In vars F vars n).end ho
      omega
    subst hn1
    exact ⟨[], rfl, rfl, by rw [one1_end (by omega), List.take_of_length_le (by omega)]; simp⟩
  | k + 1, K, v, n, l, h0, hv, hn, hne, hK, hl, hd => by
    have hd' : l.drop (v + 1).toNat = List.replicate k false := by
      have := congrArg (List.drop 1) hd
      rw [List.drop_drop] at this
      rw [show (v + 1).toNat = v.toNat + 1 by omega, this]
      simp [List.replicate_succ]
    have hlt : v.toNat < l.length := by omega
    have hv0 : l[v.toNat] = false := by
      have h1 : (l.drop v.toNat)[0]? = some false := by rw [hd]; simp [List.replicate_succ]
      rw [List.getElem?_drop, Nat.add_zero, List.getElem?_eq_getElem hlt] at h1
      exact Option.some.inj h1
    have ht : l.take (v + 1).toNat = l.take v.toNat ++ [false] := by
      rw [show (v + 1).toNat = v.toNat + 1 by omega, List.take_add_one, List.getElem?_eq_getElem hlt, hv0]; rfl
    by_cases c : 2 ≤ n ∧ (frk F n).1 = v
    · obtain ⟨K, rfl⟩ : ∃ j, K = j + 1 := ⟨K - 1, by omega⟩
      have hlo := hn.lo ho c
      have hhi := hn.hi ho c
      have l1 := ho.low n c.1 hn.2.1
      have l2 := ho.high n c.1 hn.2.1
      have lne := ho.ne n c.1 hn.2.1
      rw [tab_at c, fst_two (tab_len ..), one1, if_neg (by omega)]
      by_cases hz : (frk F n).2.1 = 0
      · rw [if_pos hz, hz, tab_zero, fst_zeros, c.2]
        obtain ⟨w, w1, w2, w3⟩ := one_first ho k K (v + 1) (frk F n).2.2 (l.set v.toNat true) (by omega) (by omega) hhi (fun e => lne (by rw [hz, e])) (by omega) (by simpa using hl) (by
          rw [List.drop_set_of_lt (by omega)]; exact hd')
        refine ⟨true :: w, by simp [w1], by rw [w2]; rfl, ?_⟩
        rw [w3, show (v + 1).toNat = v.toNat + 1 by omega, List.take_add_one]
        simp [hlt, List.take_set_of_le]
      · rw [if_neg hz]
        obtain ⟨w, w1, w2, w3⟩ := one_first ho k K (v + 1) (frk F n).2.1 l (by omega) (by omega) hlo hz (by omega) hl hd'
        refine ⟨false :: w, by simp [w1], by rw [w2], ?_⟩
        rw [w3, ht]; simp
    · rw [tab_up c, fst_two (tab_len ..)]
      obtain ⟨w, w1, w2, w3⟩ := one_first ho k K (v + 1) n l (by omega) (by omega) (hn.up ho hv c) hne hK hl hd'
      refine ⟨false :: w, by simp [w1], by rw [w2], ?_⟩
      rw [w3, ht]; simp
theorem lookT_cons (t : List Bool) (x : Bool) (w : List Bool) : lookT t (x :: w) = lookT (if x then t.drop (2 ^ w.length) else t.take (2 ^ w.length)) w := rfl
theorem fst_spec : ∀ (k : Nat) (t w : List Bool), fstT k t = some w → w.length = k ∧ lookT t w = true ∧ ∀ u : List Bool, u.length = k → lookT t u = true → u = w ∨ ∃ p a b, w = p ++ false :: a ∧ u = p ++ true :: b
  | 0, t, w, h => by
    simp only [fstT] at h
    split at h
    · rename_i ht
      simp at h; subst h
      exact ⟨rfl, ht, fun u hu _ => .inl (List.length_eq_zero_iff.1 hu)⟩
    · simp at h
  | k + 1, t, w, h => by
    simp only [fstT] at h
    split at h
    · rename_i w' hw'
      simp at h; subst h
      obtain ⟨h1, h2, h3⟩ := fst_spec k _ _ hw'
      refine ⟨by simp [h1], by rw [lookT_cons, h1]; simpa using h2, fun u hu hlu => ?_⟩
      cases u with
      | nil => simp at hu
      | cons x u =>
        have hu' : u.length = k := by simpa using hu
        cases x
        · rw [lookT_cons, hu'] at hlu
          rcases h3 u hu' (by simpa using hlu) with rfl | ⟨p, a, b, e1, e2⟩
          · exact .inl rfl
          · exact .inr ⟨false :: p, a, b, by rw [e1]; rfl, by rw [e2]; rfl⟩
        · exact .inr ⟨[], w', u, rfl, rfl⟩
    · rename_i hn
      rw [Option.map_eq_some_iff] at h
      obtain ⟨w', hw', rfl⟩ := h
      obtain ⟨h1, h2, h3⟩ := fst_spec k _ _ hw'
      refine ⟨by simp [h1], by rw [lookT_cons, h1]; simpa using h2, fun u hu hlu => ?_⟩
      cases u with
      | nil => simp at hu
      | cons x u =>
        have hu' : u.length = k := by simpa using hu
        rw [lookT_cons, hu'] at hlu
        cases x
        · exfalso
          have := fst_none k _ hn u hu'
          simp only [Bool.false_eq_true, if_false] at hlu
          rw [this] at hlu; simp at hlu
        · rcases h3 u hu' (by simpa using hlu) with rfl | ⟨p, a, b, e1, e2⟩
          · exact .inl rfl
          · exact .inr ⟨true :: p, a, b, by rw [e1]; rfl, by rw [e2]; rfl⟩
where
  fst_none : ∀ (k : Nat) (t : List Bool), fstT k t = none → ∀ u : List Bool, u.length = k → lookT t u = false
    | 0, t, h, u, hu => by
      have := List.length_eq_zero_iff.1 hu
      subst this
      simp only [fstT] at h
      split at h
      · simp at h
      · rename_i ht; exact Bool.not_eq_true _ |>.mp ht
    | k + 1, t, h, u, hu => by
      simp only [fstT] at h
      split at h
      · simp at h
      · rename_i hn
        cases u with
        | nil => simp at hu
        | cons x u =>
          have hu' : u.length = k := by simpa using hu
          rw [lookT_cons, hu']
          cases x
          · simpa using fst_none k _ hn u hu'
          · simpa using fst_none k _ (by simpa using h) u hu'
theorem oneW_ok {b : D} {f : Int} (hf : Fine b.1 b.2) (i : In b.1 b.2 0 f) (h : f ≠ 0) : ∃ w, oneW b f = (w, true, 0) ∧ w.length = b.1.toNat ∧ fstT b.1.toNat (T b f) = some w := by
  have hlo := hf.lo
  obtain ⟨w, w1, w2, w3⟩ := one_first hf.toOk b.1.toNat f.toNat 0 f (List.replicate b.1.toNat false) (by omega) (by omega) i h (by have := i.1; omega) (by simp; omega) (by simp)
  refine ⟨w, ?_, w1, w2⟩
  unfold oneW
  rw [ask_ok hf (by simp [in_out i]), if_neg (by simp), if_neg h, w3]
  simp
end Fil.Bd

namespace Fil.Bd
theorem T_app {vars : Int} {F l : List T3} (ho : Ok vars F) {f : Int} (i : In vars F 0 f) : T (vars, F ++ l) f = T (vars, F) f := tab_app ho l _ _ _ i.1 i.2.1
end Fil.Bd

namespace Fil.Bd
theorem len_le_of_nodup {α : Type} [DecidableEq α] : ∀ (l m : List α), l.Nodup → (∀ x ∈ l, x ∈ m) → l.length ≤ m.length
  | [], m, _, _ => by simp
  | x :: l, m, h, hs => by
    have hx : x ∈ m := hs x (by simp)
    have hn := List.nodup_cons.1 h
    have := len_le_of_nodup l (m.erase x) hn.2 fun y hy => by
      have hne : y ≠ x := fun e => hn.1 (e ▸ hy)
      exact (List.mem_erase_of_ne hne).2 (hs y (by simp [hy]))
    rw [List.length_erase_of_mem hx] at this
    have hp := List.length_pos_of_mem hx
    simp only [List.length_cons]; omega
def allT : Nat → List (List Bool)
  | 0 => [[]]
  | n + 1 => (allT n).flatMap fun t => [false :: t, true :: t]
theorem allT_mem : ∀ (t : List Bool), t ∈ allT t.length
  | [] => by simp [allT]
  | x :: t => by
    simp only [List.length_cons, allT, List.mem_flatMap]
    exact ⟨t, allT_mem t, by cases x <;> simp⟩
theorem allT_len : ∀ n, (allT n).length = 2 ^ n
  | 0 => rfl
  | n + 1 => by
    have : ∀ l : List (List Bool), (l.flatMap fun t => [false :: t, true :: t]).length = 2 * l.length := fun l => by
      induction l with
      | nil => rfl
      | cons x l ih => simp only [List.flatMap_cons, List.length_append, List.length_cons, List.length_nil, ih]; omega
    rw [allT, this, allT_len n, Nat.pow_succ]; omega
def lowK (k : Nat) : List (Nat × List Bool) := (List.range k).flatMap fun j => (allT (2 ^ (j + 1))).map fun t => (j, t)
def isLow (vars : Int) (k : Nat) (F : List T3) (i : Nat) : Bool := decide (2 ≤ i) && decide (vars ≤ (frk F i).1 + k)
def isUp (vars : Int) (k : Nat) (F : List T3) (i : Nat) : Bool := decide (2 ≤ i) && !decide (vars ≤ (frk F i).1 + k)
theorem low_count {vars : Int} {F : List T3} (ho : Ok vars F) (k : Nat) : ((List.range F.length).filter (isLow vars k F)).length ≤ (lowK k).length := by
  have key : ((List.range F.length).filter (isLow vars k F)).length = (((List.range F.length).filter (isLow vars k F)).map fun i : Nat => ((vars - (frk F i).1).toNat - 1, tab F (vars - (frk F i).1).toNat (frk F i).1 i)).length := by simp
  rw [key]
  have hmem : ∀ i, i ∈ (List.range F.length).filter (isLow vars k F) → i < F.length ∧ 2 ≤ i ∧ vars ≤ (frk F i).1 + k := fun i h => by
    simp only [List.mem_filter, List.mem_range, isLow, Bool.and_eq_true, decide_eq_true_eq] at h
    exact ⟨h.1, h.2.1, h.2.2⟩
  refine len_le_of_nodup _ _ ?_ ?_
  · have hnd : ((List.range F.length).filter (isLow vars k F)).Nodup := List.nodup_range.filter _
    refine List.pairwise_map.2 (hnd.imp_of_mem ?_)
    intro i j hi hj hne he
    obtain ⟨i1, i2, i3⟩ := hmem i hi
    obtain ⟨j1, j2, j3⟩ := hmem j hj
    have vi := ho.var i (by omega) (by omega)
    have vj := ho.var j (by omega) (by omega)
    simp only [Prod.mk.injEq] at he
    have hv : (frk F i).1 = (frk F j).1 := by omega
    rw [hv] at he
    apply hne
    have := canon ho (vars - (frk F j).1).toNat (frk F j).1 i j (by omega) ⟨by omega, by omega, by unfold top; rw [if_neg (by omega)]; omega⟩ ⟨by omega, by omega, by unfold top; rw [if_neg (by omega)]; omega⟩ he.2
    omega
  · intro x hx
    simp only [List.mem_map] at hx
    obtain ⟨i, hi, rfl⟩ := hx
    obtain ⟨i1, i2, i3⟩ := hmem i hi
    have vi := ho.var i (by omega) (by omega)
    simp only [lowK, List.mem_flatMap, List.mem_range, List.mem_map]
    refine ⟨(vars - (frk F i).1).toNat - 1, by omega, _, ?_, rfl⟩
    have hl := tab_len F (vars - (frk F i).1).toNat (frk F i).1 i
    have := allT_mem (tab F (vars - (frk F i).1).toNat (frk F i).1 i)
    rw [hl] at this
    rwa [show (vars - (frk F i).1).toNat - 1 + 1 = (vars - (frk F i).1).toNat by omega]
def ups (vars : Int) (k : Nat) (F : List T3) : Nat := ((List.range F.length).filter (isUp vars k F)).length
theorem len_ups {vars : Int} {F : List T3} (ho : Ok vars F) (k : Nat) : F.length ≤ 2 + ups vars k F + (lowK k).length := by
  have h1 := low_count ho k
  have h2 : F.length = ((List.range F.length).filter fun i => decide (i < 2)).length + ups vars k F + ((List.range F.length).filter (isLow vars k F)).length := by
    have : ∀ l : List Nat, l.length = (l.filter fun i => decide (i < 2)).length + (l.filter (isUp vars k F)).length + (l.filter (isLow vars k F)).length := fun l => by
      induction l with
      | nil => rfl
      | cons x l ih =>
        have hc : (isUp vars k F x = true ∧ isLow vars k F x = false ∧ ¬ x < 2) ∨ (isUp vars k F x = false ∧ isLow vars k F x = true ∧ ¬ x < 2) ∨ (isUp vars k F x = false ∧ isLow vars k F x = false ∧ x < 2) := by
          unfold isUp isLow
          by_cases a : 2 ≤ x <;> by_cases b : vars ≤ (frk F x).1 + k <;> simp [a, b] <;> omega
        simp only [List.filter_cons, List.length_cons]
        rcases hc with ⟨a, b, c⟩ | ⟨a, b, c⟩ | ⟨a, b, c⟩ <;> simp [a, b, c] <;> omega
    have := this (List.range F.length)
    simpa [ups] using this
  have h3 : ((List.range F.length).filter fun i => decide (i < 2)).length ≤ 2 := by
    have := len_le_of_nodup ((List.range F.length).filter fun i => decide (i < 2)) [0, 1] (List.nodup_range.filter _) fun x hx => by
      simp only [List.mem_filter, decide_eq_true_eq] at hx
      have := hx.2
      simp; omega
    simpa using this
  omega
theorem ups_app {vars : Int} {k : Nat} {F : List T3} (x : T3) : ups vars k (F ++ [x]) ≤ ups vars k F + 1 ∧ (vars ≤ x.1 + k → ups vars k (F ++ [x]) = ups vars k F) := by
  unfold ups
  have hr : List.range (F ++ [x]).length = List.range F.length ++ [F.length] := by simp [List.range_succ]
  have he : (List.range F.length).filter (isUp vars k (F ++ [x])) = (List.range F.length).filter (isUp vars k F) := by
    refine List.filter_congr fun i hi => ?_
    have hi' := List.mem_range.1 hi
    unfold isUp
    rw [frk_app (by omega) (by omega)]
  rw [hr, List.filter_append, he, List.length_append]
  refine ⟨by have : ([F.length].filter (isUp vars k (F ++ [x]))).length ≤ 1 := List.length_filter_le _ _; omega, fun h => ?_⟩
  have hl : frk (F ++ [x]) F.length = x := by simp [frk, List.getD_eq_getElem?_getD]
  have : isUp vars k (F ++ [x]) F.length = false := by
    unfold isUp; rw [hl]; simp [h]
  simp [this]
theorem put_ups {vars : Int} {k : Nat} : ∀ (m : Nat) (F : List T3) (v : Int) (t : List Bool), v + m = vars → ups vars k (put m F v t).1 + 1 ≤ ups vars k F + 2 ^ (m - k)
  | 0, F, v, t, _ => by simp [put]
  | m + 1, F, v, t, hv => by
    have h1 := put_ups (vars := vars) (k := k) m F (v + 1) (t.take (2 ^ m)) (by omega)
    have h2 := put_ups (vars := vars) (k := k) m (put m F (v + 1) (t.take (2 ^ m))).1 (v + 1) (t.drop (2 ^ m)) (by omega)
    have hp1 := Nat.two_pow_pos (m - k)
    by_cases hk : m + 1 ≤ k
    · have e1 : m + 1 - k = 0 := by omega
      have e2 : m - k = 0 := by omega
      rw [e2] at h1 h2
      rw [e1]
      simp only [put]
      split
      · omega
      · split
        · simp only; omega
        · have := (ups_app (vars := vars) (k := k) (F := (put m (put m F (v + 1) (t.take (2 ^ m))).1 (v + 1) (t.drop (2 ^ m))).1) (v, (put m F (v + 1) (t.take (2 ^ m))).2, (put m (put m F (v + 1) (t.take (2 ^ m))).1 (v + 1) (t.drop (2 ^ m))).2)).2 (by show vars ≤ v + k; omega)
          simp only [this]; omega
    · have e1 : 2 ^ (m + 1 - k) = 2 * 2 ^ (m - k) := by rw [show m + 1 - k = (m - k) + 1 by omega, Nat.pow_succ]; omega
      simp only [put]
      split
      · omega
      · split
        · simp only; omega
        · have := (ups_app (vars := vars) (k := k) (F := (put m (put m F (v + 1) (t.take (2 ^ m))).1 (v + 1) (t.drop (2 ^ m))).1) (v, (put m F (v + 1) (t.take (2 ^ m))).2, (put m (put m F (v + 1) (t.take (2 ^ m))).1 (v + 1) (t.drop (2 ^ m))).2)).1
          simp only; omega
theorem low3 : (lowK 3).length = 276 := by
  simp only [lowK, List.length_flatMap, List.length_map, allT_len]
  rfl
end Fil.Bd

namespace Fil.Bd
theorem varT_len : ∀ (k d : Nat), d < k → (varT k d).length = 2 ^ k
  | 0, d, h => by omega
  | k + 1, 0, h => by simp [varT]; omega
  | k + 1, d + 1, h => by simp only [varT, List.length_append, varT_len k d (by omega)]; omega
end Fil.Bd

namespace Fil
open Abs
section
variable {g : Aig} {a b : Int}
theorem checkL_two (hc : g.check = 0) (ha : g.lit a = true) (hb : g.lit b = true) : g.checkL g.check [a, b] = 0 := checkL_zero.2 ⟨hc, by simp [ha, hb]⟩
end
end Fil

namespace Fil
open Abs
def Res (g : Aig) (n : Nat) (l : List Int) (r : Aig × Int × Int) : Prop :=
  (r.2.2 = 0 ∧ g.check = 0 ∧ (∀ a ∈ l, g.lit a = true) ∧ Fine r.1 ∧ Ext g r.1 ∧ r.1.lit r.2.1 = true ∧ r.1.ands.length ≤ g.ands.length + n) ∨ (r.2.2 ≠ 0 ∧ r.1 = ⟨0, [], [], []⟩ ∧ r.2.1 = 0)
theorem andO_len {g g' : Aig} {p q x : Int} (h : g.andO p q = some (g', x)) : g'.ands.length ≤ g.ands.length + 1 := by
  unfold Aig.andO at h
  simp only at h
  split at h
  · simp at h; obtain ⟨rfl, _⟩ := h; omega
  · split at h
    · simp at h; obtain ⟨rfl, _⟩ := h; omega
    · split at h
      · simp at h; obtain ⟨rfl, _⟩ := h; omega
      · split at h
        · simp at h
        · simp at h; obtain ⟨rfl, _⟩ := h; simp
theorem andW_len (g : Aig) (e p q : Int) : (g.andW e p q).1.ands.length ≤ g.ands.length + 1 := by
  unfold Aig.andW
  split
  · simp
  · cases h : g.andO p q with
    | none => simp
    | some r => exact andO_len h
theorem orW_ok {g : Aig} {e p q : Int} (hf : e = 0 → Fine g ∧ g.lit p = true ∧ g.lit q = true) :
    ((g.orW e p q).2.1 = 0 → Fine (g.orW e p q).1 ∧ (g.orW e p q).1.lit (g.orW e p q).2.2 = true) ∧ Ext g (g.orW e p q).1 := by
  obtain ⟨h1, h2, _⟩ := andW_ok (g := g) (e := e) (p := turn p) (q := turn q) fun h => ⟨(hf h).1, turn_lit (hf h).2.1, turn_lit (hf h).2.2⟩
  exact ⟨fun h => ⟨(h1 h).1, turn_lit (h1 h).2⟩, h2⟩
theorem pairsW_ok {g : Aig} {e a b c d : Int} (hf : e = 0 → Fine g ∧ g.lit a = true ∧ g.lit b = true ∧ g.lit c = true ∧ g.lit d = true) :
    ((g.pairs e a b c d).2.1 = 0 → e = 0 ∧ Fine (g.pairs e a b c d).1 ∧ (g.pairs e a b c d).1.lit (g.pairs e a b c d).2.2 = true) ∧ Ext g (g.pairs e a b c d).1 ∧ (g.pairs e a b c d).1.ands.length ≤ g.ands.length + 3 := by
  obtain ⟨h1, h2, _⟩ := andW_ok (g := g) (e := e) (p := a) (q := b) fun h => ⟨(hf h).1, (hf h).2.1, (hf h).2.2.1⟩
  obtain ⟨k1, k2, _⟩ := andW_ok (g := (g.andW e a b).1) (e := (g.andW e a b).2.1) (p := c) (q := d) fun h => by
    obtain ⟨_, _, _, hc, hd⟩ := hf (andW_err h)
    exact ⟨(h1 h).1, h2.lit hc, h2.lit hd⟩
  obtain ⟨m1, m2⟩ := orW_ok (g := ((g.andW e a b).1.andW (g.andW e a b).2.1 c d).1) (e := ((g.andW e a b).1.andW (g.andW e a b).2.1 c d).2.1) (p := (g.andW e a b).2.2) (q := ((g.andW e a b).1.andW (g.andW e a b).2.1 c d).2.2) fun h =>
    ⟨(k1 h).1, k2.lit (h1 (andW_err h)).2, (k1 h).2⟩
  have l1 := andW_len g e a b
  have l2 := andW_len (g.andW e a b).1 (g.andW e a b).2.1 c d
  have l3 := andW_len ((g.andW e a b).1.andW (g.andW e a b).2.1 c d).1 ((g.andW e a b).1.andW (g.andW e a b).2.1 c d).2.1 (turn (g.andW e a b).2.2) (turn ((g.andW e a b).1.andW (g.andW e a b).2.1 c d).2.2)
  exact ⟨fun h => ⟨andW_err (andW_err (andW_err h)), m1 h⟩, (h2.trans k2).trans m2, by
    show ((_ : Aig).andW _ _ _).1.ands.length ≤ _
    omega⟩
theorem and_res {g : Aig} (hs : Wf g) (a b : Int) : Res g 1 [a, b] (g.And a b) := by
  unfold Aig.And
  have hk : g.checkL g.check [a, b] = 0 → Fine g ∧ g.lit a = true ∧ g.lit b = true := fun h => by
    obtain ⟨h1, h2⟩ := checkL_fine hs h
    exact ⟨h1, h2 _ (by simp), h2 _ (by simp)⟩
  have ok := andW_ok hk
  by_cases h : (g.andW (g.checkL g.check [a, b]) a b).2.1 = 0
  · left
    rw [endW_ok h]
    have h0 := andW_err h
    obtain ⟨k1, k2⟩ := hk h0
    exact ⟨rfl, (checkL_zero.1 h0).1, (checkL_zero.1 h0).2, (ok.1 h).1, ok.2.1, (ok.1 h).2, andW_len _ _ _ _⟩
  · right
    rw [endW_err h]
    exact ⟨h, rfl, rfl⟩
theorem or_res {g : Aig} (hs : Wf g) (a b : Int) : Res g 1 [a, b] (g.Or a b) := by
  unfold Aig.Or
  have hk : g.checkL g.check [a, b] = 0 → Fine g ∧ g.lit a = true ∧ g.lit b = true := fun h => by
    obtain ⟨h1, h2⟩ := checkL_fine hs h
    exact ⟨h1, h2 _ (by simp), h2 _ (by simp)⟩
  have ok := orW_ok hk
  by_cases h : (g.orW (g.checkL g.check [a, b]) a b).2.1 = 0
  · left
    rw [endW_ok h]
    have h0 : g.checkL g.check [a, b] = 0 := andW_err h
    exact ⟨rfl, (checkL_zero.1 h0).1, (checkL_zero.1 h0).2, (ok.1 h).1, ok.2, (ok.1 h).2, andW_len _ _ _ _⟩
  · right
    rw [endW_err h]
    exact ⟨h, rfl, rfl⟩
theorem xor_res {g : Aig} (hs : Wf g) (a b : Int) : Res g 3 [a, b] (g.Xor a b) := by
  unfold Aig.Xor
  have ok := pairsW_ok (g := g) (e := g.checkL g.check [a, b]) (a := a) (b := turn b) (c := turn a) (d := b) fun h => by
    obtain ⟨h1, h2⟩ := checkL_fine hs h
    exact ⟨h1, h2 _ (by simp), turn_lit (h2 _ (by simp)), turn_lit (h2 _ (by simp)), h2 _ (by simp)⟩
  by_cases h : (g.pairs (g.checkL g.check [a, b]) a (turn b) (turn a) b).2.1 = 0
  · left
    rw [endW_ok h]
    obtain ⟨h0, k1, k2⟩ := ok.1 h
    exact ⟨rfl, (checkL_zero.1 h0).1, (checkL_zero.1 h0).2, k1, ok.2.1, k2, ok.2.2⟩
  · right
    rw [endW_err h]
    exact ⟨h, rfl, rfl⟩
theorem zero_wf : Wf ⟨0, [], [], []⟩ := ⟨by simp [I64], by simp, by simp, by simp, by simp, by simp, by simp⟩
theorem Res.wf {g : Aig} {n : Nat} {l : List Int} {r : Aig × Int × Int} (h : Res g n l r) : Wf r.1 ∧ I64 r.2.1 := by
  rcases h with ⟨_, _, _, h, _, hl, _⟩ | ⟨_, h, h'⟩
  · have := litN_iff.1 hl
    have := h.cnt
    exact ⟨h.toWf, by omega, by omega⟩
  · rw [h, h']; exact ⟨zero_wf, by simp [I64]⟩
end Fil

namespace Fil
open Abs
theorem ext_check {g h : Aig} (hs : Wf g) (hc : g.check = 0) (hx : Ext g h) (hf : Fine h) : h.check = 0 := by
  have hcn := hf.cnt
  have hlo := hf.lo
  unfold Aig.check at hc ⊢
  split at hc
  · simp at hc
  · split at hc
    · simp at hc
    · split at hc
      · rename_i h1 h2 h3
        rw [if_neg (by omega), if_neg (by rw [hx.ins, hx.outs]; omega), if_pos]
        simp only [Aig.good, Bool.and_eq_true, Bool.not_eq_true', List.any_eq_false, Bool.not_eq_true, Bool.not_eq_false'] at h3 ⊢
        refine ⟨⟨hf.gok, fun f hm => ?_⟩, fun a hm => ?_⟩
        · rw [hx.flops] at hm; exact fun hn => by have := hx.lit (by simpa using h3.1.2 f hm : g.lit f.next = true); rw [hn] at this; simp at this
        · rw [hx.outs] at hm; exact fun hn => by have := hx.lit (by simpa using h3.2 a hm : g.lit a = true); rw [hn] at this; simp at this
      · simp at hc
theorem Res.check {g : Aig} (hs : Wf g) {n : Nat} {l : List Int} {r : Aig × Int × Int} (h : Res g n l r) (h0 : r.2.2 = 0) : r.1.check = 0 ∧ Fine r.1 ∧ Ext g r.1 ∧ r.1.lit r.2.1 = true ∧ r.1.ands.length ≤ g.ands.length + n ∧ (∀ a ∈ l, g.lit a = true) ∧ g.check = 0 := by
  rcases h with ⟨_, hc, hl, hf, hx, hl', hn⟩ | ⟨h, _⟩
  · exact ⟨ext_check hs hc hx hf, hf, hx, hl', hn, hl, hc⟩
  · exact (h h0).elim
theorem Res.checkL {g : Aig} (hs : Wf g) {n : Nat} {l m : List Int} {r : Aig × Int × Int} (h : Res g n l r) (h0 : r.2.2 = 0) (hm : ∀ a ∈ m, a ∈ l) : r.1.checkL r.1.check m = 0 := by
  obtain ⟨h1, _, hx, _, _, hl, _⟩ := h.check hs h0
  exact checkL_zero.2 ⟨h1, fun a ha => hx.lit (hl a (hm a ha))⟩
end Fil

namespace Fil
open Abs
theorem vals_prefix : ∀ (l : List (Int × Int)) (v : List Bool), ∃ m, Aig.vals v l = v ++ m
  | [], v => ⟨[], by simp [Aig.vals]⟩
  | x :: l, v => by
    obtain ⟨m, hm⟩ := vals_prefix l (v ++ [Aig.val v x.1 && Aig.val v x.2])
    exact ⟨_ :: m, by rw [Aig.vals, hm, List.append_assoc]; rfl⟩
theorem val_app {v m : List Bool} {a : Int} (h : (a / 2).toNat < v.length) : Aig.val (v ++ m) a = Aig.val v a := by
  unfold Aig.val
  rw [List.getD_eq_getElem?_getD, List.getD_eq_getElem?_getD, List.getElem?_append_left h]
theorem val_turn {v : List Bool} {a : Int} (h : 0 ≤ a) : Aig.val v (turn a) = !Aig.val v a := by
  unfold Aig.val
  have e : (turn a / 2).toNat = (a / 2).toNat := by unfold turn; omega
  rw [e]
  by_cases h1 : a % 2 = 1
  · have h2 : ¬ turn a % 2 = 1 := by unfold turn; omega
    cases v.getD (a / 2).toNat false <;> simp [h1, h2]
  · have h2 : turn a % 2 = 1 := by unfold turn; omega
    cases v.getD (a / 2).toNat false <;> simp [h1, h2]
section
variable {s : List Bool}
theorem V_length {g : Aig} (hf : Fine g) (hb : ((s.length + 1 : Nat) : Int) = g.first) : ((Aig.vals (false :: s) g.ands).length : Int) = 1 + g.count := by
  rw [vals_length, count_first, List.length_cons]; omega
theorem V_ext {g h : Aig} (hx : Ext g h) : ∃ m, Aig.vals (false :: s) h.ands = Aig.vals (false :: s) g.ands ++ m := by
  obtain ⟨_, _, _, l, e⟩ := hx
  rw [e, vals_append]
  exact vals_prefix _ _
theorem val_ext {g h : Aig} (hf : Fine g) (hb : ((s.length + 1 : Nat) : Int) = g.first) (hx : Ext g h) {a : Int} (ha : g.lit a = true) : Aig.val (Aig.vals (false :: s) h.ands) a = Aig.val (Aig.vals (false :: s) g.ands) a := by
  obtain ⟨m, e⟩ := V_ext (s := s) hx
  rw [e, val_app]
  have := V_length hf hb
  have := litN_iff.1 ha
  omega
theorem val_zero {g : Aig} : Aig.val (Aig.vals (false :: s) g.ands) 0 = false := by
  obtain ⟨m, e⟩ := vals_prefix g.ands (false :: s)
  rw [e]; rfl
theorem val_one {g : Aig} : Aig.val (Aig.vals (false :: s) g.ands) 1 = true := by
  obtain ⟨m, e⟩ := vals_prefix g.ands (false :: s)
  rw [e]; rfl
theorem idxF_get {α : Type} (p : α → Bool) : ∀ (l : List α), 0 ≤ idxF p l → ∃ h : (idxF p l).toNat < l.length, p l[(idxF p l).toNat] = true
  | [], h => by simp [idxF] at h
  | a :: l, h => by
    by_cases hp : p a = true
    · have e : idxF p (a :: l) = 0 := by simp [idxF, hp]
      simp [e, hp]
    · by_cases h' : idxF p l < 0
      · have e : idxF p (a :: l) = -1 := by simp [idxF, hp, h']
        omega
      · have e : idxF p (a :: l) = idxF p l + 1 := by simp [idxF, hp, h']
        obtain ⟨k, hk⟩ := idxF_get p l (by omega)
        have e2 : (idxF p (a :: l)).toNat = (idxF p l).toNat + 1 := by omega
        have k2 : (idxF p (a :: l)).toNat < (a :: l).length := by rw [e2, List.length_cons]; omega
        refine ⟨k2, ?_⟩
        simp only [e2, List.getElem_cons_succ]
        exact hk
theorem gate_val {g : Aig} (hf : Fine g) (hb : ((s.length + 1 : Nat) : Int) = g.first) {i : Nat} (hi : i < g.ands.length) :
    Aig.val (Aig.vals (false :: s) g.ands) (2 * (g.first + i)) = (Aig.val (Aig.vals (false :: s) g.ands) g.ands[i].1 && Aig.val (Aig.vals (false :: s) g.ands) g.ands[i].2) := by
  have hg := gatesOk_iff.1 hf.gok i hi
  have st := vals_step (v := false :: s) hi
  have ln := vals_len (v := false :: s) (l := g.ands) (i := i) (by omega)
  have sp : g.ands = g.ands.take (i + 1) ++ g.ands.drop (i + 1) := (List.take_append_drop _ _).symm
  have sp' : g.ands = g.ands.take i ++ g.ands.drop i := (List.take_append_drop _ _).symm
  obtain ⟨m, e⟩ := vals_prefix (g.ands.drop (i + 1)) (Aig.vals (false :: s) (g.ands.take (i + 1)))
  obtain ⟨m', e'⟩ := vals_prefix (g.ands.drop i) (Aig.vals (false :: s) (g.ands.take i))
  rw [← vals_append, ← sp, st] at e
  rw [← vals_append, ← sp'] at e'
  rw [List.length_cons] at ln
  have a1 : (g.ands[i].1 / 2).toNat < (Aig.vals (false :: s) (g.ands.take i)).length := by omega
  have a2 : (g.ands[i].2 / 2).toNat < (Aig.vals (false :: s) (g.ands.take i)).length := by omega
  have q1 : Aig.val (Aig.vals (false :: s) g.ands) g.ands[i].1 = Aig.val (Aig.vals (false :: s) (g.ands.take i)) g.ands[i].1 := by rw [e', val_app a1]
  have q2 : Aig.val (Aig.vals (false :: s) g.ands) g.ands[i].2 = Aig.val (Aig.vals (false :: s) (g.ands.take i)) g.ands[i].2 := by rw [e', val_app a2]
  rw [q1, q2, e]
  have ix : (2 * (g.first + i) / 2).toNat = (Aig.vals (false :: s) (g.ands.take i)).length := by omega
  have od : ¬ (2 * (g.first + (i : Int))) % 2 = 1 := by omega
  unfold Aig.val
  rw [ix, List.getD_eq_getElem?_getD, List.append_assoc, List.getElem?_append_right (Nat.le_refl _)]
  simp [od]
theorem min_max_val {v : List Bool} {p q : Int} : (Aig.val v (min p q) && Aig.val v (max p q)) = (Aig.val v p && Aig.val v q) := by
  rcases Int.le_total p q with h | h
  · rw [Int.min_eq_left h, Int.max_eq_right h]
  · rw [Int.min_eq_right h, Int.max_eq_left h, Bool.and_comm]
theorem andO_val {g h : Aig} {p q x : Int} (hf : Fine g) (hb : ((s.length + 1 : Nat) : Int) = g.first) (hp : g.lit p = true) (hq : g.lit q = true) (ho : g.andO p q = some (h, x)) :
    Aig.val (Aig.vals (false :: s) h.ands) x = (Aig.val (Aig.vals (false :: s) g.ands) p && Aig.val (Aig.vals (false :: s) g.ands) q) := by
  have hp' := litN_iff.1 hp
  have hq' := litN_iff.1 hq
  rw [← min_max_val]
  unfold Aig.andO at ho
  simp only at ho
  split at ho
  · rename_i c
    simp at ho; obtain ⟨rfl, rfl⟩ := ho
    rw [val_zero]
    rcases c with c | c
    · rw [c, val_zero]; rfl
    · rw [c, val_turn (by omega)]; cases Aig.val (Aig.vals (false :: s) g.ands) (max p q) <;> rfl
  · split at ho
    · rename_i c
      simp at ho; obtain ⟨rfl, rfl⟩ := ho
      rcases c with c | c
      · rw [c, val_one, Bool.true_and]
      · rw [c, Bool.and_self]
    · split at ho
      · rename_i c
        simp at ho; obtain ⟨rfl, rfl⟩ := ho
        obtain ⟨k, hk⟩ := idxF_get _ _ c
        have e := gate_val (s := s) hf hb k
        have e2 : (((g.find (min p q) (max p q)).toNat : Nat) : Int) = g.find (min p q) (max p q) := by omega
        have e4 : (((idxF (fun x : Int × Int => decide (min x.1 x.2 = min p q) && decide (max x.1 x.2 = max p q)) g.ands).toNat : Nat) : Int) = g.find (min p q) (max p q) := e2
        rw [e4] at e
        rw [e, ← min_max_val]
        simp only [Bool.and_eq_true, decide_eq_true_eq] at hk
        rw [hk.1, hk.2]
      · split at ho
        · simp at ho
        · simp at ho; obtain ⟨rfl, rfl⟩ := ho
          have ln := V_length (s := s) hf hb
          have ix : (2 * (g.count + 1) / 2).toNat = (Aig.vals (false :: s) g.ands).length := by omega
          have od : ¬ (2 * (g.count + 1)) % 2 = 1 := by omega
          simp only [vals_snoc]
          generalize hv : (Aig.val (Aig.vals (false :: s) g.ands) (min p q) && Aig.val (Aig.vals (false :: s) g.ands) (max p q)) = w
          unfold Aig.val
          rw [ix, List.getD_eq_getElem?_getD, List.getElem?_append_right (Nat.le_refl _)]
          simp [od]
theorem andW_val {g : Aig} {e p q : Int} (hf : e = 0 → Fine g ∧ g.lit p = true ∧ g.lit q = true) (hb : ((s.length + 1 : Nat) : Int) = g.first) (h : (g.andW e p q).2.1 = 0) :
    Aig.val (Aig.vals (false :: s) (g.andW e p q).1.ands) (g.andW e p q).2.2 = (Aig.val (Aig.vals (false :: s) g.ands) p && Aig.val (Aig.vals (false :: s) g.ands) q) := by
  have he := andW_err h
  obtain ⟨h1, h2, h3⟩ := hf he
  subst he
  unfold Aig.andW at h ⊢
  simp only [ne_eq, not_true_eq_false, if_false] at h ⊢
  cases ho : g.andO p q with
  | none => rw [ho] at h; simp at h
  | some r => exact andO_val h1 hb h2 h3 ho
theorem orW_val {g : Aig} {e p q : Int} (hf : e = 0 → Fine g ∧ g.lit p = true ∧ g.lit q = true) (hb : ((s.length + 1 : Nat) : Int) = g.first) (h : (g.orW e p q).2.1 = 0) :
    Aig.val (Aig.vals (false :: s) (g.orW e p q).1.ands) (g.orW e p q).2.2 = (Aig.val (Aig.vals (false :: s) g.ands) p || Aig.val (Aig.vals (false :: s) g.ands) q) := by
  have he : e = 0 := andW_err h
  have hf' : e = 0 → Fine g ∧ g.lit (turn p) = true ∧ g.lit (turn q) = true := fun he => ⟨(hf he).1, turn_lit (hf he).2.1, turn_lit (hf he).2.2⟩
  have k := andW_val (s := s) hf' hb h
  have ok := (andW_ok hf').2.2.1
  show Aig.val _ (turn _) = _
  rw [val_turn ok]
  obtain ⟨_, h2, h3⟩ := hf he
  have k' : Aig.val (Aig.vals (false :: s) (g.orW e p q).1.ands) (g.andW e (turn p) (turn q)).2.2 = _ := k
  rw [k', val_turn (litN_iff.1 h2).1, val_turn (litN_iff.1 h3).1]
  cases Aig.val (Aig.vals (false :: s) g.ands) p <;> cases Aig.val (Aig.vals (false :: s) g.ands) q <;> rfl
theorem pairs_val {g : Aig} {e a b c d : Int} (hf : e = 0 → Fine g ∧ g.lit a = true ∧ g.lit b = true ∧ g.lit c = true ∧ g.lit d = true) (hb : ((s.length + 1 : Nat) : Int) = g.first) (h : (g.pairs e a b c d).2.1 = 0) :
    Aig.val (Aig.vals (false :: s) (g.pairs e a b c d).1.ands) (g.pairs e a b c d).2.2 = ((Aig.val (Aig.vals (false :: s) g.ands) a && Aig.val (Aig.vals (false :: s) g.ands) b) || (Aig.val (Aig.vals (false :: s) g.ands) c && Aig.val (Aig.vals (false :: s) g.ands) d)) := by
  have f1 : e = 0 → Fine g ∧ g.lit a = true ∧ g.lit b = true := fun h => ⟨(hf h).1, (hf h).2.1, (hf h).2.2.1⟩
  obtain ⟨h1, h2, _⟩ := andW_ok f1
  have f2 : (g.andW e a b).2.1 = 0 → Fine (g.andW e a b).1 ∧ (g.andW e a b).1.lit c = true ∧ (g.andW e a b).1.lit d = true := fun h => by
    obtain ⟨_, _, _, hc, hd⟩ := hf (andW_err h)
    exact ⟨(h1 h).1, h2.lit hc, h2.lit hd⟩
  obtain ⟨k1, k2, _⟩ := andW_ok f2
  have f3 : ((g.andW e a b).1.andW (g.andW e a b).2.1 c d).2.1 = 0 → Fine ((g.andW e a b).1.andW (g.andW e a b).2.1 c d).1 ∧ ((g.andW e a b).1.andW (g.andW e a b).2.1 c d).1.lit (g.andW e a b).2.2 = true ∧ ((g.andW e a b).1.andW (g.andW e a b).2.1 c d).1.lit ((g.andW e a b).1.andW (g.andW e a b).2.1 c d).2.2 = true := fun h =>
    ⟨(k1 h).1, k2.lit (h1 (andW_err h)).2, (k1 h).2⟩
  have e2 : ((g.andW e a b).1.andW (g.andW e a b).2.1 c d).2.1 = 0 := andW_err h
  have e1 : (g.andW e a b).2.1 = 0 := andW_err e2
  have v1 := andW_val (s := s) f1 hb e1
  have v2 := andW_val (s := s) f2 (by rw [h2.first]; exact hb) e2
  have v3 := orW_val (s := s) f3 (by rw [k2.first, h2.first]; exact hb) h
  obtain ⟨hg, _, _, hc, hd⟩ := hf (andW_err e1)
  have x1 := val_ext (s := s) (h1 e1).1 (by rw [h2.first]; exact hb) k2 (h1 e1).2
  have x2 := val_ext (s := s) hg hb h2 hc
  have x3 := val_ext (s := s) hg hb h2 hd
  rw [x1, v1, v2, x2, x3] at v3
  exact v3
end
theorem nodes_eq {g : Aig} (hc : g.check = 0) {inp st : List Bool} (h1 : (inp.length : Int) = g.ins) (h2 : st.length = g.flops.length) : g.Nodes inp st = (Aig.vals (false :: (inp ++ st)) g.ands, 0) := by
  unfold Aig.Nodes
  rw [if_neg (by simp [hc]), if_neg (by simp [h1, h2])]
def Aig.value (g : Aig) (a : Int) (inp st : List Bool) : Bool := Aig.val (Aig.vals (false :: (inp ++ st)) g.ands) a
section
variable {g : Aig} {a b c : Int} {inp st : List Bool} (hs : Wf g) (l1 : (inp.length : Int) = g.ins) (l2 : st.length = g.flops.length)
include hs l1 l2
theorem and_val (h : (g.And a b).2.2 = 0) : (g.And a b).1.value (g.And a b).2.1 inp st = (g.value a inp st && g.value b inp st) := by
  have hb : (((inp ++ st).length + 1 : Nat) : Int) = g.first := by rw [List.length_append]; unfold Aig.first; omega
  unfold Aig.And at h ⊢
  by_cases h' : (g.andW (g.checkL g.check [a, b]) a b).2.1 = 0
  · rw [endW_ok h']
    exact andW_val (fun h => ⟨(checkL_fine hs h).1, (checkL_fine hs h).2 _ (by simp), (checkL_fine hs h).2 _ (by simp)⟩) hb h'
  · rw [endW_err h'] at h; exact (h' h).elim
theorem or_val (h : (g.Or a b).2.2 = 0) : (g.Or a b).1.value (g.Or a b).2.1 inp st = (g.value a inp st || g.value b inp st) := by
  have hb : (((inp ++ st).length + 1 : Nat) : Int) = g.first := by rw [List.length_append]; unfold Aig.first; omega
  unfold Aig.Or at h ⊢
  by_cases h' : (g.orW (g.checkL g.check [a, b]) a b).2.1 = 0
  · rw [endW_ok h']
    exact orW_val (fun h => ⟨(checkL_fine hs h).1, (checkL_fine hs h).2 _ (by simp), (checkL_fine hs h).2 _ (by simp)⟩) hb h'
  · rw [endW_err h'] at h; exact (h' h).elim
theorem xor_val (h : (g.Xor a b).2.2 = 0) : (g.Xor a b).1.value (g.Xor a b).2.1 inp st = (g.value a inp st != g.value b inp st) := by
  have hb : (((inp ++ st).length + 1 : Nat) : Int) = g.first := by rw [List.length_append]; unfold Aig.first; omega
  have hl := (xor_res hs a b).check hs h
  have pa := (litN_iff.1 (hl.2.2.2.2.2.1 a (by simp))).1
  have pb := (litN_iff.1 (hl.2.2.2.2.2.1 b (by simp))).1
  unfold Aig.Xor at h ⊢
  by_cases h' : (g.pairs (g.checkL g.check [a, b]) a (turn b) (turn a) b).2.1 = 0
  · rw [endW_ok h']
    have := pairs_val (s := inp ++ st) (fun h => ⟨(checkL_fine hs h).1, (checkL_fine hs h).2 _ (by simp), turn_lit ((checkL_fine hs h).2 _ (by simp)), turn_lit ((checkL_fine hs h).2 _ (by simp)), (checkL_fine hs h).2 _ (by simp)⟩) hb h'
    rw [val_turn pa, val_turn pb] at this
    refine this.trans ?_
    unfold Aig.value
    cases Aig.val (Aig.vals (false :: (inp ++ st)) g.ands) a <;> cases Aig.val (Aig.vals (false :: (inp ++ st)) g.ands) b <;> rfl
  · rw [endW_err h'] at h; exact (h' h).elim
end
end Fil

namespace Fil.Eqv
open Bd (D T3 In T varW notW iteW opW askE)
structure Good (n c : Nat) (b : D) : Prop where
  vars : b.1 = n
  few : n ≤ 8
  fine : Bd.Fine n b.2
  ups : Bd.ups n 3 b.2 ≤ 31 * c
theorem Good.len {n c : Nat} {b : D} (h : Good n c b) : b.2.length ≤ 278 + 31 * c := by
  have := Bd.len_ups h.fine.toOk 3
  have := h.ups
  have := Bd.low3
  omega
theorem Good.room {n c : Nat} {b : D} (h : Good n c b) (hc : c ≤ 2000) : b.2.length + 2 ^ (b.1.toNat + 1) ≤ 65537 ∧ b.2.length + 2 ^ b.1.toNat ≤ 65537 ∧ b.2.length < 65536 ∧ b.2.length ≤ 9223372036854775807 := by
  have := h.len
  have e : b.1.toNat = n := by rw [h.vars]; simp
  rw [e]
  have hf := h.few
  have p1 : 2 ^ (n + 1) ≤ 2 ^ 9 := Nat.pow_le_pow_right (by decide) (by omega)
  have p2 : 2 ^ n ≤ 2 ^ 8 := Nat.pow_le_pow_right (by decide) (by omega)
  omega
theorem Good.mono {n c d : Nat} {b : D} (h : Good n c b) (hd : c ≤ d) : Good n d b := ⟨h.vars, h.few, h.fine, by have := h.ups; omega⟩
structure Op (n c : Nat) (b : D) (t : List Bool) (r : D × Int × Int) : Prop where
  ok : r.2.2 = 0
  good : Good n (c + 1) r.1
  inn : In n r.1.2 0 r.2.1
  tab : T r.1 r.2.1 = t
  pre : ∃ l, r.1.2 = b.2 ++ l
theorem op_good {n c : Nat} {b : D} {t : List Bool} (h : Good n c b) (hc : c < 2000) (ht : t.length = 2 ^ n) : Op n c b t (opW b 0 t) := by
  have hr := h.room (by omega)
  obtain ⟨v, F⟩ := b
  obtain rfl : v = n := h.vars
  have hf := h.fine
  have P := Bd.put_ok n F 0 t hf.toOk (by omega) (by omega) ht
  have hu := Bd.put_ups (vars := (n : Int)) (k := 3) n F 0 t (by omega)
  have hp : 2 ^ (n - 3) ≤ 2 ^ 5 := Nat.pow_le_pow_right (by decide) (by have := h.few; omega)
  have hlen := P.len
  have hups := h.ups
  obtain ⟨l, el⟩ := P.pre
  have hfine : Bd.Fine n (Bd.put n F 0 t).1 := by
    have h3 := P.ok
    rw [el] at h3 ⊢
    refine Bd.fine_of hf h3 ?_
    rw [← el]
    have := hr.2.1
    simp only [Int.toNat_natCast] at this
    omega
  refine ⟨rfl, ⟨rfl, h.few, hfine, ?_⟩, P.inn, P.tab, ⟨l, el⟩⟩
  show Bd.ups n 3 (Bd.put n F 0 t).1 ≤ _
  simp only at hups
  omega
theorem In.len {n : Int} {F : List T3} {v x : Int} (h : In n F v x) : 0 ≤ x ∧ x < F.length := ⟨h.1, h.2.1⟩
theorem var_good {n c : Nat} {b : D} {i : Nat} (h : Good n c b) (hc : c < 2000) (hi : i < n) : Op n c b (Bd.varT n i) (varW b i) := by
  have e : askE b [] (Bd.off b i) = 0 := Bd.ask_ok (by rw [h.vars]; exact h.fine) (by simp [Bd.off, h.vars]; omega)
  have hv : b.1.toNat = n := by rw [h.vars]; simp
  unfold varW
  rw [e, hv, Int.toNat_natCast]
  exact op_good h hc (Bd.varT_len n i hi)
theorem ite_good {n c : Nat} {b : D} {f g k : Int} (h : Good n c b) (hc : c < 2000) (i1 : In n b.2 0 f) (i2 : In n b.2 0 g) (i3 : In n b.2 0 k) : Op n c b (Bd.iteT (T b f) (T b g) (T b k)) (iteW b f g k) := by
  have e : askE b [f, g, k] false = 0 := Bd.ask_ok (by rw [h.vars]; exact h.fine) (by simp [Bd.in_out i1, Bd.in_out i2, Bd.in_out i3])
  have hv : b.1.toNat = n := by rw [h.vars]; simp
  unfold iteW
  rw [e]
  have hl : ∀ f, (T b f).length = 2 ^ n := fun f => by rw [Bd.T_len, hv]
  exact op_good h hc (Bd.iteT_len (hl f) (hl g) (hl k))
theorem In0 {n c : Nat} {b : D} (h : Good n c b) : In n b.2 0 0 ∧ In n b.2 0 1 := by
  have h2 := h.fine.two
  have h3 := h.fine.lo
  exact ⟨⟨by omega, by omega, by simp [Bd.top]⟩, ⟨by omega, by omega, by simp [Bd.top]⟩⟩
theorem not_good {n c : Nat} {b : D} {f : Int} (h : Good n c b) (hc : c < 2000) (i1 : In n b.2 0 f) : Op n c b (Bd.iteT (T b f) (T b 0) (T b 1)) (notW b f) := ite_good h hc i1 (In0 h).1 (In0 h).2
theorem T_pre {n c : Nat} {b r : D} (h : Good n c b) (hr : r.1 = n) {l : List T3} (hl : r.2 = b.2 ++ l) {f : Int} (i : In n b.2 0 f) : T r f = T b f ∧ In n r.2 0 f := by
  obtain ⟨v, F⟩ := b
  obtain ⟨w, G⟩ := r
  obtain rfl : v = n := h.vars
  obtain rfl : w = n := hr
  simp only at hl
  subst hl
  exact ⟨Bd.T_app h.fine.toOk i, i.app l⟩
def newB (n : Nat) : D := (n, [(-1, 0, 0), (-1, 0, 0)])
theorem new_good {n : Nat} (h : n ≤ 8) : Good n 0 (newB n) := by
  refine ⟨rfl, h, Bd.chk_fine.1 ?_, ?_⟩
  · have h1 : ¬ 65536 < [((-1 : Int), (0 : Int), (0 : Int)), (-1, 0, 0)].length := by decide
    unfold newB Bd.chk
    rw [if_neg h1]
    have hh : Bd.head n [((-1 : Int), (0 : Int), (0 : Int)), (-1, 0, 0)] = false := by
      have e1 : ¬ (n : Int) < 0 := by omega
      have e2 : ¬ (32 : Int) < n := by omega
      simp [Bd.head, e1, e2, Bd.frk]
    rw [if_neg (by simp [hh])]
    simp
  · have : (List.range 2).filter (Bd.isUp n 3 [((-1 : Int), (0 : Int), (0 : Int)), (-1, 0, 0)]) = [] := by
      simp [List.range_succ, Bd.isUp]
    have e : Bd.ups n 3 (newB n).2 = ((List.range 2).filter (Bd.isUp n 3 [((-1 : Int), (0 : Int), (0 : Int)), (-1, 0, 0)])).length := rfl
    rw [e, this]; simp
end Fil.Eqv

namespace Fil.Eqv
open Bd (D T3 In T varW notW iteW opW askE lookT)
abbrev S := D × List Int
def stVar (s : S) (i : Nat) : S := ((varW s.1 i).1, s.2 ++ [(varW s.1 i).2.1])
def stVars (n i : Nat) : S := (List.range i).foldl stVar (newB n, [0])
def litM (b : D) (nodes : List Int) (l : Int) : D × Int :=
  if l % 2 = 0 then (b, nodes.getD (l / 2).toNat 0) else ((notW b (nodes.getD (l / 2).toNat 0)).1, (notW b (nodes.getD (l / 2).toNat 0)).2.1)
def stAnd (s : S) (x : Int × Int) : S :=
  let p := litM s.1 s.2 x.1
  let q := litM p.1 s.2 x.2
  ((iteW q.1 p.2 q.2 0).1, s.2 ++ [(iteW q.1 p.2 q.2 0).2.1])
def stOut (nodes : List Int) (s : S) (l : Int) : S := ((litM s.1 nodes l).1, s.2 ++ [(litM s.1 nodes l).2])
def lits (g : Aig) : List Int := g.outs ++ g.flops.map (·.next)
def bodyS (g : Aig) : S := g.ands.foldl stAnd (stVars (g.ins + g.flops.length).toNat (g.ins + g.flops.length).toNat)
def forksS (g : Aig) : S := (lits g).foldl (stOut (bodyS g).2) ((bodyS g).1, [])
theorem look_0 : ∀ (w : List Bool), lookT (List.replicate (2 ^ w.length) false) w = false
  | [] => rfl
  | x :: w => by
    have : 2 ^ (x :: w).length = 2 ^ w.length + 2 ^ w.length := by rw [List.length_cons, Nat.pow_succ]; omega
    rw [this, ← List.replicate_append_replicate, Bd.lookT_two (by simp)]
    cases x <;> simpa using look_0 w
theorem look_1 : ∀ (w : List Bool), lookT (List.replicate (2 ^ w.length) true) w = true
  | [] => rfl
  | x :: w => by
    have : 2 ^ (x :: w).length = 2 ^ w.length + 2 ^ w.length := by rw [List.length_cons, Nat.pow_succ]; omega
    rw [this, ← List.replicate_append_replicate, Bd.lookT_two (by simp)]
    cases x <;> simpa using look_1 w
theorem look_var : ∀ (d : Nat) (w : List Bool), d < w.length → lookT (Bd.varT w.length d) w = w.getD d false
  | d, [], h => by simp at h
  | 0, x :: w, h => by
    rw [List.length_cons, Bd.varT, Bd.lookT_two (by simp)]
    cases x
    · simpa using look_0 w
    · simpa using look_1 w
  | d + 1, x :: w, h => by
    have hd : d < w.length := by simpa using h
    rw [List.length_cons, Bd.varT, Bd.lookT_two (Bd.varT_len _ _ hd)]
    have := look_var d w hd
    cases x <;> simpa using this
theorem look_not {b : D} {f : Int} {w : List Bool} {n : Nat} (hn : b.1 = n) (hw : w.length = n) : lookT (Bd.iteT (T b f) (T b 0) (T b 1)) w = !lookT (T b f) w := by
  have hv : b.1.toNat = w.length := by rw [hn, hw]; simp
  have hl : ∀ f, (T b f).length = 2 ^ w.length := fun f => by rw [Bd.T_len, hv]
  rw [Bd.lookT_ite w _ _ _ (hl _) (hl _) (hl _)]
  have e0 : T b 0 = List.replicate (2 ^ w.length) false := by rw [← hv]; exact Bd.tab_zero ..
  have e1 : T b 1 = List.replicate (2 ^ w.length) true := by rw [← hv]; exact Bd.tab_one ..
  rw [e0, e1, look_0, look_1]
  cases lookT (T b f) w <;> rfl
theorem look_and {b : D} {f g : Int} {w : List Bool} {n : Nat} (hn : b.1 = n) (hw : w.length = n) : lookT (Bd.iteT (T b f) (T b g) (T b 0)) w = (lookT (T b f) w && lookT (T b g) w) := by
  have hv : b.1.toNat = w.length := by rw [hn, hw]; simp
  have hl : ∀ f, (T b f).length = 2 ^ w.length := fun f => by rw [Bd.T_len, hv]
  rw [Bd.lookT_ite w _ _ _ (hl _) (hl _) (hl _)]
  have e0 : T b 0 = List.replicate (2 ^ w.length) false := by rw [← hv]; exact Bd.tab_zero ..
  rw [e0, look_0]
  cases lookT (T b f) w <;> rfl
structure Rep (n c : Nat) (b : D) (nodes : List Int) (w v : List Bool) : Prop where
  good : Good n c b
  wl : w.length = n
  len : nodes.length = v.length
  inn : ∀ x ∈ nodes, In n b.2 0 x
  val : ∀ i, i < nodes.length → lookT (T b (nodes.getD i 0)) w = v.getD i false
theorem mem_getD {l : List Int} {i : Nat} (h : i < l.length) : l.getD i 0 ∈ l := by
  rw [List.getD_eq_getElem?_getD, List.getElem?_eq_getElem h]; exact List.getElem_mem h
theorem Rep.more {n c d : Nat} {b r : D} {nodes : List Int} {w v : List Bool} (h : Rep n c b nodes w v) (hg : Good n d r) (hp : ∃ l, r.2 = b.2 ++ l) : Rep n d r nodes w v := by
  obtain ⟨l, hl⟩ := hp
  have key : ∀ x ∈ nodes, T r x = T b x ∧ In n r.2 0 x := fun x hx => T_pre h.good hg.vars hl (h.inn x hx)
  exact ⟨hg, h.wl, h.len, fun x hx => (key x hx).2, fun i hi => by rw [(key _ (mem_getD hi)).1]; exact h.val i hi⟩
theorem Rep.push {n c : Nat} {b : D} {nodes : List Int} {w v : List Bool} (h : Rep n c b nodes w v) {x : Int} {y : Bool} (hx : In n b.2 0 x) (hy : lookT (T b x) w = y) : Rep n c b (nodes ++ [x]) w (v ++ [y]) := by
  have hlen := h.len
  refine ⟨h.good, h.wl, by simp [hlen], fun z hz => ?_, fun i hi => ?_⟩
  · rcases List.mem_append.1 hz with q | q
    · exact h.inn z q
    · simp at q; subst q; exact hx
  · simp only [List.length_append, List.length_cons, List.length_nil] at hi
    simp only [List.getD_eq_getElem?_getD]
    by_cases c : i < nodes.length
    · rw [List.getElem?_append_left c, List.getElem?_append_left (by omega), ← List.getD_eq_getElem?_getD, ← List.getD_eq_getElem?_getD]
      exact h.val i c
    · have e : i = nodes.length := by omega
      subst e
      rw [List.getElem?_append_right (by omega), List.getElem?_append_right (by omega)]
      simp [hlen, hy]
theorem rep_lit {n c : Nat} {b : D} {nodes : List Int} {w v : List Bool} (h : Rep n c b nodes w v) (hc : c < 2000) {l : Int} (h0 : 0 ≤ l) (h1 : (l / 2).toNat < nodes.length) :
    Rep n (c + 1) (litM b nodes l).1 nodes w v ∧ In n (litM b nodes l).1.2 0 (litM b nodes l).2 ∧ lookT (T (litM b nodes l).1 (litM b nodes l).2) w = Aig.val v l ∧ (∃ e, (litM b nodes l).1.2 = b.2 ++ e) ∧
    (l % 2 ≠ 0 → notW b (nodes.getD (l / 2).toNat 0) = ((litM b nodes l).1, (litM b nodes l).2, 0)) := by
  have hv := h.val _ h1
  have hi := h.inn _ (mem_getD h1)
  unfold litM
  by_cases c2 : l % 2 = 0
  · rw [if_pos c2]
    refine ⟨h.more (h.good.mono (by omega)) ⟨[], by simp⟩, hi, ?_, ⟨[], by simp⟩, fun q => absurd c2 q⟩
    rw [hv]
    unfold Aig.val
    have : decide (l % 2 = 1) = false := by simp; omega
    rw [this]; simp
  · rw [if_neg c2]
    obtain ⟨o1, o2, o3, o4, o5⟩ := not_good h.good hc hi
    refine ⟨h.more o2 o5, o3, ?_, o5, fun _ => Prod.ext rfl (Prod.ext rfl o1)⟩
    show lookT (T (notW b _).1 (notW b _).2.1) w = _
    rw [o4, look_not h.good.vars h.wl, hv]
    unfold Aig.val
    have : decide (l % 2 = 1) = true := by simp; omega
    rw [this]; cases v.getD (l / 2).toNat false <;> rfl
theorem rep_var {n c : Nat} {s : S} {w v : List Bool} (h : Rep n c s.1 s.2 w v) (hc : c < 2000) {i : Nat} (hi : i < n) : Rep n (c + 1) (stVar s i).1 (stVar s i).2 w (v ++ [w.getD i false]) ∧ (varW s.1 i).2.2 = 0 := by
  obtain ⟨o1, o2, o3, o4, o5⟩ := var_good h.good hc hi
  refine ⟨(h.more o2 o5).push o3 ?_, o1⟩
  have hw := h.wl
  rw [o4, ← hw, look_var i w (by omega)]
theorem rep_vars {n : Nat} (hn : n ≤ 8) {w : List Bool} (hw : w.length = n) : ∀ i, i ≤ n → Rep n i (stVars n i).1 (stVars n i).2 w ((false :: w).take (i + 1)) ∧ (stVars n i).2.length = i + 1
  | 0, _ => by
    refine ⟨⟨new_good hn, hw, by simp [stVars], fun x hx => ?_, fun i hi => ?_⟩, by simp [stVars]⟩
    · simp [stVars] at hx; subst hx
      exact (In0 (new_good hn)).1
    · have : i = 0 := by simp [stVars] at hi; omega
      subst this
      show lookT (T (newB n) 0) w = false
      have e0 : T (newB n) 0 = List.replicate (2 ^ w.length) false := by
        have : (newB n).1.toNat = w.length := by rw [hw]; simp [newB]
        rw [← this]; exact Bd.tab_zero ..
      rw [e0, look_0]
  | i + 1, hi => by
    obtain ⟨ih, il⟩ := rep_vars hn hw i (by omega)
    have e : stVars n (i + 1) = stVar (stVars n i) i := by simp [stVars, List.range_succ]
    obtain ⟨r1, r2⟩ := rep_var ih (by omega) (show i < n by omega)
    rw [e]
    refine ⟨?_, by simp [stVar, il]⟩
    have ht : (false :: w).take (i + 1 + 1) = (false :: w).take (i + 1) ++ [w.getD i false] := by
      rw [List.take_add_one (l := false :: w) (i := i + 1)]
      congr 1
      have : i < w.length := by omega
      simp [List.getD_eq_getElem?_getD, this]
    rw [ht]; exact r1
theorem rep_and {n c : Nat} {s : S} {w v : List Bool} (h : Rep n c s.1 s.2 w v) (hc : c + 3 ≤ 2000) {x : Int × Int} (h1 : 0 ≤ x.1 ∧ x.1 < 2 * s.2.length) (h2 : 0 ≤ x.2 ∧ x.2 < 2 * s.2.length) :
    Rep n (c + 3) (stAnd s x).1 (stAnd s x).2 w (v ++ [Aig.val v x.1 && Aig.val v x.2]) ∧ (iteW (litM (litM s.1 s.2 x.1).1 s.2 x.2).1 (litM s.1 s.2 x.1).2 (litM (litM s.1 s.2 x.1).1 s.2 x.2).2 0).2.2 = 0 ∧
    Rep n (c + 1) (litM s.1 s.2 x.1).1 s.2 w v ∧ Rep n (c + 2) (litM (litM s.1 s.2 x.1).1 s.2 x.2).1 s.2 w v := by
  obtain ⟨p1, p2, p3, ⟨p, hp⟩, _⟩ := rep_lit h (by omega) h1.1 (show (x.1 / 2).toNat < s.2.length by omega)
  obtain ⟨q1, q2, q3, ⟨q, hq⟩, _⟩ := rep_lit p1 (by omega) h2.1 (show (x.2 / 2).toNat < s.2.length by omega)
  have hP := T_pre p1.good q1.good.vars hq p2
  obtain ⟨o1, o2, o3, o4, o5⟩ := ite_good q1.good (by omega) hP.2 q2 (In0 q1.good).1
  refine ⟨(q1.more o2 o5).push o3 ?_, o1, p1, q1⟩
  rw [o4, look_and q1.good.vars h.wl, hP.1, p3, q3]
theorem rep_ands {n : Nat} {w : List Bool} : ∀ (l : List (Int × Int)) (c : Nat) (s : S) (v : List Bool), Rep n c s.1 s.2 w v → c + 3 * l.length ≤ 2000 → Aig.gatesOk (s.2.length : Nat) l = true →
    Rep n (c + 3 * l.length) (l.foldl stAnd s).1 (l.foldl stAnd s).2 w (Aig.vals v l) ∧ (l.foldl stAnd s).2.length = s.2.length + l.length
  | [], c, s, v, h, _, _ => ⟨h, by simp⟩
  | x :: l, c, s, v, h, hc, hg => by
    simp only [Aig.gatesOk, Bool.and_eq_true, litN_iff] at hg
    obtain ⟨⟨g1, g2⟩, g3⟩ := hg
    simp only [List.length_cons] at hc
    have r := (rep_and h (by omega) g1 g2).1
    have hl : (stAnd s x).2.length = s.2.length + 1 := by simp [stAnd]
    have := rep_ands l (c + 3) (stAnd s x) _ r (by omega) (by rw [hl]; exact_mod_cast g3)
    rw [hl] at this
    simp only [List.foldl_cons, List.length_cons, Aig.vals]
    exact ⟨by have e : c + 3 * (l.length + 1) = c + 3 + 3 * l.length := by omega
              rw [e]; exact this.1, by omega⟩
theorem rep_outs {n : Nat} {nodes : List Int} {w v : List Bool} : ∀ (l : List Int) (c : Nat) (b : D) (o : List Int) (u : List Bool), Rep n c b nodes w v → Rep n c b o w u → c + l.length ≤ 2000 → (∀ a ∈ l, 0 ≤ a ∧ a < 2 * nodes.length) →
    Rep n (c + l.length) (l.foldl (stOut nodes) (b, o)).1 (l.foldl (stOut nodes) (b, o)).2 w (u ++ l.map (Aig.val v)) ∧ Rep n (c + l.length) (l.foldl (stOut nodes) (b, o)).1 nodes w v
  | [], c, b, o, u, h, ho, _, _ => ⟨by simpa using ho, h⟩
  | a :: l, c, b, o, u, h, ho, hc, ha => by
    simp only [List.length_cons] at hc
    have ha0 := ha a (by simp)
    obtain ⟨p1, p2, p3, p4, _⟩ := rep_lit h (by omega) ha0.1 (show (a / 2).toNat < nodes.length by omega)
    have := rep_outs l (c + 1) (litM b nodes a).1 (o ++ [(litM b nodes a).2]) (u ++ [Aig.val v a]) p1 ((ho.more p1.good p4).push p2 p3) (by omega) fun x hx => ha x (by simp [hx])
    simp only [List.foldl_cons, List.length_cons, List.map_cons]
    have e : c + (l.length + 1) = c + 1 + l.length := by omega
    rw [e]
    refine ⟨?_, this.2⟩
    have e2 : u ++ Aig.val v a :: l.map (Aig.val v) = u ++ [Aig.val v a] ++ l.map (Aig.val v) := by simp
    rw [e2]
    exact this.1
end Fil.Eqv

