/- sized: the law of what is wanted. -/
import Derived.Test.YtdiebjnjhgbklaaLSizSizY
set_option linter.unusedSimpArgs false
set_option linter.unusedVariables false
namespace Go.Proofs.Ytdiebjnjhgbklaa
open Abs Fil Fil.Sz
theorem encE_leaf (op w v : Int) : encE (.mk op w v 0 0 0 0 []) = .agg [.int .i64 op, .int .i64 w, .int .u64 v, .int .i64 0, .int .i64 0, .int .i64 0, .int .i64 0, .slice [] .no] := by
  unfold encE eL; rw [encEs_eq]; rfl
theorem pow_lt64 {k : Nat} (h : k < 64) : (2 : Int) ^ k < 18446744073709551616 := by
  have := Nat.pow_lt_pow_right (a := 2) (by omega) h
  have e : (2 : Int) ^ k = ((2 ^ k : Nat) : Int) := by simp
  rw [e]; omega
set_option maxRecDepth 20000 in
set_option maxHeartbeats 4000000 in
theorem lw_SizedNumber (v w k : Int) (σ : Sig) (hv : U64 v) : ACalls Try.prog 8 [.int .u64 v, .int .i64 w, .int .i64 k] σ (fun r σ' => r = .ret (.bool true) ∧ σ' = σ) := by
  have z1 := fun τ => lw_live τ
  refine calls_x mixed Try.func8 b8 n8 rfl q8 (by simp) ?_; unfold c8 r8
  by_cases w1 : w < 1
  · repeat' (first | simp (maxDischargeDepth := 9) -implicitDefEqProofs -dsimp only [go_sem, seval, gt_iff_lt, *] | ((with_reducible refine Zt (fun oF hoF hnF hnF' => ?_)); (try simp only [upd_none, ne_eq, not_and] at hoF)) | ((with_reducible apply ACalls.one1); (focus (first | ((first | with_reducible refine z1 _) <;> (first | (simp (maxDischargeDepth := 9) -implicitDefEqProofs -dsimp only [go_sem, seval, *]; done) | omega)) | (with_reducible refine ACalls.flA (z1 _) ?_ <;> (first | (simp (maxDischargeDepth := 9) -implicitDefEqProofs -dsimp only [go_sem, seval, *]; done) | omega)))); (focus (first | trivial | with_reducible exact rfl | (simp (maxDischargeDepth := 9) -implicitDefEqProofs -dsimp only [go_sem, seval]; done)))))
    refine fin_eq ?_
    (repeat' (first | simp (maxDischargeDepth := 9) -implicitDefEqProofs -dsimp only [go_sem, seval, *])) <;> (repeat' refine And.intro ?_ ?_) <;> (first | omega | rfl | assumption | skip)
  by_cases w2 : 64 < w
  · repeat' (first | simp (maxDischargeDepth := 9) -implicitDefEqProofs -dsimp only [go_sem, seval, gt_iff_lt, *] | ((with_reducible refine Zt (fun oF hoF hnF hnF' => ?_)); (try simp only [upd_none, ne_eq, not_and] at hoF)) | ((with_reducible apply ACalls.one1); (focus (first | ((first | with_reducible refine z1 _) <;> (first | (simp (maxDischargeDepth := 9) -implicitDefEqProofs -dsimp only [go_sem, seval, *]; done) | omega)) | (with_reducible refine ACalls.flA (z1 _) ?_ <;> (first | (simp (maxDischargeDepth := 9) -implicitDefEqProofs -dsimp only [go_sem, seval, *]; done) | omega)))); (focus (first | trivial | with_reducible exact rfl | (simp (maxDischargeDepth := 9) -implicitDefEqProofs -dsimp only [go_sem, seval]; done)))))
    refine fin_eq ?_
    (repeat' (first | simp (maxDischargeDepth := 9) -implicitDefEqProofs -dsimp only [go_sem, seval, *])) <;> (repeat' refine And.intro ?_ ?_) <;> (first | omega | rfl | assumption | skip)
  by_cases k1 : k < 1
  · repeat' (first | simp (maxDischargeDepth := 9) -implicitDefEqProofs -dsimp only [go_sem, seval, gt_iff_lt, *] | ((with_reducible refine Zt (fun oF hoF hnF hnF' => ?_)); (try simp only [upd_none, ne_eq, not_and] at hoF)) | ((with_reducible apply ACalls.one1); (focus (first | ((first | with_reducible refine z1 _) <;> (first | (simp (maxDischargeDepth := 9) -implicitDefEqProofs -dsimp only [go_sem, seval, *]; done) | omega)) | (with_reducible refine ACalls.flA (z1 _) ?_ <;> (first | (simp (maxDischargeDepth := 9) -implicitDefEqProofs -dsimp only [go_sem, seval, *]; done) | omega)))); (focus (first | trivial | with_reducible exact rfl | (simp (maxDischargeDepth := 9) -implicitDefEqProofs -dsimp only [go_sem, seval]; done)))))
    refine fin_eq ?_
    (repeat' (first | simp (maxDischargeDepth := 9) -implicitDefEqProofs -dsimp only [go_sem, seval, *])) <;> (repeat' refine And.intro ?_ ?_) <;> (first | omega | rfl | assumption | skip)
  by_cases k2 : 64 < k
  · repeat' (first | simp (maxDischargeDepth := 9) -implicitDefEqProofs -dsimp only [go_sem, seval, gt_iff_lt, *] | ((with_reducible refine Zt (fun oF hoF hnF hnF' => ?_)); (try simp only [upd_none, ne_eq, not_and] at hoF)) | ((with_reducible apply ACalls.one1); (focus (first | ((first | with_reducible refine z1 _) <;> (first | (simp (maxDischargeDepth := 9) -implicitDefEqProofs -dsimp only [go_sem, seval, *]; done) | omega)) | (with_reducible refine ACalls.flA (z1 _) ?_ <;> (first | (simp (maxDischargeDepth := 9) -implicitDefEqProofs -dsimp only [go_sem, seval, *]; done) | omega)))); (focus (first | trivial | with_reducible exact rfl | (simp (maxDischargeDepth := 9) -implicitDefEqProofs -dsimp only [go_sem, seval]; done)))))
    refine fin_eq ?_
    (repeat' (first | simp (maxDischargeDepth := 9) -implicitDefEqProofs -dsimp only [go_sem, seval, *])) <;> (repeat' refine And.intro ?_ ?_) <;> (first | omega | rfl | assumption | skip)
  have hd : oneD.sigs.length ≤ 1000000000000 := by simp [oneD, oneG]
  have z2 := fun τ => lw_one τ
  have z3 := fun τ => lw_num v τ
  have z4 := fun τ => sz_Expr oneD (numE v) w τ hd (by rw [nodes_num]; omega) (wf_num v hv)
  have hwf : WfE (.mk 1 w v 0 0 0 0 []) := wfE_do ⟨⟨i1, i_of (by show -9223372036854775808 ≤ w ∧ w ≤ 9223372036854775807; omega), hv, i0, i0, i0, i0⟩, fun x hx => by cases hx⟩
  have hnn : nodes (.mk 1 w v 0 0 0 0 []) = 1 := by rw [nodes_eq]; rfl
  have z5 := fun τ => sz_Expr oneD (.mk 1 w v 0 0 0 0 []) k τ hd (by omega) hwf
  have z6 := fun τ => rf_SameE (.mk 1 w v 0 0 0 0 []) (.mk 1 w v 0 0 0 0 []) τ (by omega) (by omega)
  rw [same_self] at z6
  rw [num_fit (by omega)] at z4
  have hfit : (w == 64 ∨ holds w v = decide (v < 2 ^ w.toNat)) := .inr rfl
  have n5 := num_own (v := v) (w := w) (k := k) (by omega) (by omega)
  have h64 : w = 64 → holds w v = true := fun h => by
    subst h
    unfold holds
    rw [decide_eq_true_eq]
    have := hv.2
    show v < 2 ^ 64
    omega
  have hlt : ¬ w = 64 → IntKind.u64.wrap ((2 : Int) ^ w.toNat) = 2 ^ w.toNat := fun h => by
    have := pow_lt64 (k := w.toNat) (by omega)
    have h0 : (0 : Int) ≤ 2 ^ w.toNat := by have : (0 : Int) < 2 ^ w.toNat := Int.pow_pos (by omega); omega
    simp [Go.IntKind.wrap, Go.IntKind.signed, Go.IntKind.bits]; omega
  have e1 : w.toNat.min 64 = w.toNat := Nat.min_eq_left (by omega)
  have hwr : IntKind.u64.wrap w = w := by simp [Go.IntKind.wrap, Go.IntKind.signed, Go.IntKind.bits]; omega
  have hn : ¬ w < 0 := by omega
  obtain ⟨H, hH⟩ : ∃ H, holds w v = H := ⟨_, rfl⟩
  have hdec : decide (v < 2 ^ w.toNat) = H := hH
  rw [hH] at z4 n5 h64
  clear hfit hd hwf hnn hH
  cases H
  · rw [if_neg (by simp), encE_zero] at z4
    have w64 : ¬ w = 64 := fun h => by have := h64 h; simp at this
    have h5 := hlt w64
    have wb : (w == 64) = false := by simp [w64]
    clear z5 z6 n5 h64 hlt w64
    repeat' (first | simp (maxDischargeDepth := 9) -implicitDefEqProofs -dsimp only [go_sem, seval, gt_iff_lt, Int.one_mul, *] | ((with_reducible refine Zt (fun oF hoF hnF hnF' => ?_)); (try simp only [upd_none, ne_eq, not_and] at hoF)) | ((with_reducible apply ACalls.one1); (focus (first | ((first | with_reducible refine z1 _ | with_reducible refine z2 _ | with_reducible refine z3 _ | with_reducible refine z4 _) <;> (first | (simp (maxDischargeDepth := 9) -implicitDefEqProofs -dsimp only [go_sem, seval, *]; done) | omega)) | (with_reducible refine ACalls.flA (z1 _) ?_ <;> (first | (simp (maxDischargeDepth := 9) -implicitDefEqProofs -dsimp only [go_sem, seval, *]; done) | omega)) | (with_reducible refine ACalls.flA (z2 _) ?_ <;> (first | (simp (maxDischargeDepth := 9) -implicitDefEqProofs -dsimp only [go_sem, seval, *]; done) | omega)) | (with_reducible refine ACalls.flA (z3 _) ?_ <;> (first | (simp (maxDischargeDepth := 9) -implicitDefEqProofs -dsimp only [go_sem, seval, *]; done) | omega)) | (with_reducible refine ACalls.flA (z4 _) ?_ <;> (first | (simp (maxDischargeDepth := 9) -implicitDefEqProofs -dsimp only [go_sem, seval, *]; done) | omega)))); (focus (first | trivial | with_reducible exact rfl | (simp (maxDischargeDepth := 9) -implicitDefEqProofs -dsimp only [go_sem, seval]; done)))) | ((with_reducible apply id_one0); (focus (intro tS hS; (first | ((first | with_reducible refine z1 _ | with_reducible refine z2 _ | with_reducible refine z3 _ | with_reducible refine z4 _) <;> (first | (simp (maxDischargeDepth := 9) -implicitDefEqProofs -dsimp only [go_sem, seval, *]; done) | omega | ((with_reducible refine Sub.get hS ?_); simp (maxDischargeDepth := 9) -implicitDefEqProofs -dsimp only [go_sem, seval, *]; done))) | (with_reducible refine ACalls.flA (z1 _) ?_ <;> (first | (simp (maxDischargeDepth := 9) -implicitDefEqProofs -dsimp only [go_sem, seval, *]; done) | omega | ((with_reducible refine Sub.get hS ?_); simp (maxDischargeDepth := 9) -implicitDefEqProofs -dsimp only [go_sem, seval, *]; done))) | (with_reducible refine ACalls.flA (z2 _) ?_ <;> (first | (simp (maxDischargeDepth := 9) -implicitDefEqProofs -dsimp only [go_sem, seval, *]; done) | omega | ((with_reducible refine Sub.get hS ?_); simp (maxDischargeDepth := 9) -implicitDefEqProofs -dsimp only [go_sem, seval, *]; done))) | (with_reducible refine ACalls.flA (z3 _) ?_ <;> (first | (simp (maxDischargeDepth := 9) -implicitDefEqProofs -dsimp only [go_sem, seval, *]; done) | omega | ((with_reducible refine Sub.get hS ?_); simp (maxDischargeDepth := 9) -implicitDefEqProofs -dsimp only [go_sem, seval, *]; done))) | (with_reducible refine ACalls.flA (z4 _) ?_ <;> (first | (simp (maxDischargeDepth := 9) -implicitDefEqProofs -dsimp only [go_sem, seval, *]; done) | omega | ((with_reducible refine Sub.get hS ?_); simp (maxDischargeDepth := 9) -implicitDefEqProofs -dsimp only [go_sem, seval, *]; done)))))); (focus (first | trivial | (simp (maxDischargeDepth := 9) -implicitDefEqProofs -dsimp only [go_sem, seval, *]; done)))))
    refine fin_eq ?_
    (repeat' (first | simp (maxDischargeDepth := 9) -implicitDefEqProofs -dsimp only [go_sem, seval, *])) <;> (repeat' refine And.intro ?_ ?_) <;> (first | omega | rfl | assumption | skip)
  · rw [if_pos rfl, encE_leaf] at z4
    replace n5 := n5 rfl
    rw [n5] at z5
    rw [encE_leaf] at z5 z6
    by_cases hk : k = w
    · subst hk
      rw [if_pos rfl, encE_leaf] at z5
      by_cases w64 : k = 64
      · have wb : (k == 64) = true := by simp [w64]
        clear n5 h64 hlt w64
        repeat' (first | simp (maxDischargeDepth := 9) -implicitDefEqProofs -dsimp only [go_sem, seval, gt_iff_lt, Int.one_mul, *] | ((with_reducible refine Zt (fun oF hoF hnF hnF' => ?_)); (try simp only [upd_none, ne_eq, not_and] at hoF)) | ((with_reducible apply ACalls.one1); (focus (first | ((first | with_reducible refine z1 _ | with_reducible refine z2 _ | with_reducible refine z3 _ | with_reducible refine z4 _ | with_reducible refine z5 _ | with_reducible refine z6 _) <;> (first | (simp (maxDischargeDepth := 9) -implicitDefEqProofs -dsimp only [go_sem, seval, *]; done) | omega)) | (with_reducible refine ACalls.flA (z1 _) ?_ <;> (first | (simp (maxDischargeDepth := 9) -implicitDefEqProofs -dsimp only [go_sem, seval, *]; done) | omega)) | (with_reducible refine ACalls.flA (z2 _) ?_ <;> (first | (simp (maxDischargeDepth := 9) -implicitDefEqProofs -dsimp only [go_sem, seval, *]; done) | omega)) | (with_reducible refine ACalls.flA (z3 _) ?_ <;> (first | (simp (maxDischargeDepth := 9) -implicitDefEqProofs -dsimp only [go_sem, seval, *]; done) | omega)) | (with_reducible refine ACalls.flA (z4 _) ?_ <;> (first | (simp (maxDischargeDepth := 9) -implicitDefEqProofs -dsimp only [go_sem, seval, *]; done) | omega)) | (with_reducible refine ACalls.flA (z5 _) ?_ <;> (first | (simp (maxDischargeDepth := 9) -implicitDefEqProofs -dsimp only [go_sem, seval, *]; done) | omega)) | (with_reducible refine ACalls.flA (z6 _) ?_ <;> (first | (simp (maxDischargeDepth := 9) -implicitDefEqProofs -dsimp only [go_sem, seval, *]; done) | omega)))); (focus (first | trivial | with_reducible exact rfl | (simp (maxDischargeDepth := 9) -implicitDefEqProofs -dsimp only [go_sem, seval]; done)))) | ((with_reducible apply id_one0); (focus (intro tS hS; (first | ((first | with_reducible refine z1 _ | with_reducible refine z2 _ | with_reducible refine z3 _ | with_reducible refine z4 _ | with_reducible refine z5 _ | with_reducible refine z6 _) <;> (first | (simp (maxDischargeDepth := 9) -implicitDefEqProofs -dsimp only [go_sem, seval, *]; done) | omega | ((with_reducible refine Sub.get hS ?_); simp (maxDischargeDepth := 9) -implicitDefEqProofs -dsimp only [go_sem, seval, *]; done))) | (with_reducible refine ACalls.flA (z1 _) ?_ <;> (first | (simp (maxDischargeDepth := 9) -implicitDefEqProofs -dsimp only [go_sem, seval, *]; done) | omega | ((with_reducible refine Sub.get hS ?_); simp (maxDischargeDepth := 9) -implicitDefEqProofs -dsimp only [go_sem, seval, *]; done))) | (with_reducible refine ACalls.flA (z2 _) ?_ <;> (first | (simp (maxDischargeDepth := 9) -implicitDefEqProofs -dsimp only [go_sem, seval, *]; done) | omega | ((with_reducible refine Sub.get hS ?_); simp (maxDischargeDepth := 9) -implicitDefEqProofs -dsimp only [go_sem, seval, *]; done))) | (with_reducible refine ACalls.flA (z3 _) ?_ <;> (first | (simp (maxDischargeDepth := 9) -implicitDefEqProofs -dsimp only [go_sem, seval, *]; done) | omega | ((with_reducible refine Sub.get hS ?_); simp (maxDischargeDepth := 9) -implicitDefEqProofs -dsimp only [go_sem, seval, *]; done))) | (with_reducible refine ACalls.flA (z4 _) ?_ <;> (first | (simp (maxDischargeDepth := 9) -implicitDefEqProofs -dsimp only [go_sem, seval, *]; done) | omega | ((with_reducible refine Sub.get hS ?_); simp (maxDischargeDepth := 9) -implicitDefEqProofs -dsimp only [go_sem, seval, *]; done))) | (with_reducible refine ACalls.flA (z5 _) ?_ <;> (first | (simp (maxDischargeDepth := 9) -implicitDefEqProofs -dsimp only [go_sem, seval, *]; done) | omega | ((with_reducible refine Sub.get hS ?_); simp (maxDischargeDepth := 9) -implicitDefEqProofs -dsimp only [go_sem, seval, *]; done))) | (with_reducible refine ACalls.flA (z6 _) ?_ <;> (first | (simp (maxDischargeDepth := 9) -implicitDefEqProofs -dsimp only [go_sem, seval, *]; done) | omega | ((with_reducible refine Sub.get hS ?_); simp (maxDischargeDepth := 9) -implicitDefEqProofs -dsimp only [go_sem, seval, *]; done)))))); (focus (first | trivial | (simp (maxDischargeDepth := 9) -implicitDefEqProofs -dsimp only [go_sem, seval, *]; done)))))
        refine fin_eq ?_
        (repeat' (first | simp (maxDischargeDepth := 9) -implicitDefEqProofs -dsimp only [go_sem, seval, *])) <;> (repeat' refine And.intro ?_ ?_) <;> (first | omega | rfl | assumption | skip)
      · have h5 := hlt w64
        have wb : (k == 64) = false := by simp [w64]
        clear n5 h64 hlt w64
        repeat' (first | simp (maxDischargeDepth := 9) -implicitDefEqProofs -dsimp only [go_sem, seval, gt_iff_lt, Int.one_mul, *] | ((with_reducible refine Zt (fun oF hoF hnF hnF' => ?_)); (try simp only [upd_none, ne_eq, not_and] at hoF)) | ((with_reducible apply ACalls.one1); (focus (first | ((first | with_reducible refine z1 _ | with_reducible refine z2 _ | with_reducible refine z3 _ | with_reducible refine z4 _ | with_reducible refine z5 _ | with_reducible refine z6 _) <;> (first | (simp (maxDischargeDepth := 9) -implicitDefEqProofs -dsimp only [go_sem, seval, *]; done) | omega)) | (with_reducible refine ACalls.flA (z1 _) ?_ <;> (first | (simp (maxDischargeDepth := 9) -implicitDefEqProofs -dsimp only [go_sem, seval, *]; done) | omega)) | (with_reducible refine ACalls.flA (z2 _) ?_ <;> (first | (simp (maxDischargeDepth := 9) -implicitDefEqProofs -dsimp only [go_sem, seval, *]; done) | omega)) | (with_reducible refine ACalls.flA (z3 _) ?_ <;> (first | (simp (maxDischargeDepth := 9) -implicitDefEqProofs -dsimp only [go_sem, seval, *]; done) | omega)) | (with_reducible refine ACalls.flA (z4 _) ?_ <;> (first | (simp (maxDischargeDepth := 9) -implicitDefEqProofs -dsimp only [go_sem, seval, *]; done) | omega)) | (with_reducible refine ACalls.flA (z5 _) ?_ <;> (first | (simp (maxDischargeDepth := 9) -implicitDefEqProofs -dsimp only [go_sem, seval, *]; done) | omega)) | (with_reducible refine ACalls.flA (z6 _) ?_ <;> (first | (simp (maxDischargeDepth := 9) -implicitDefEqProofs -dsimp only [go_sem, seval, *]; done) | omega)))); (focus (first | trivial | with_reducible exact rfl | (simp (maxDischargeDepth := 9) -implicitDefEqProofs -dsimp only [go_sem, seval]; done)))) | ((with_reducible apply id_one0); (focus (intro tS hS; (first | ((first | with_reducible refine z1 _ | with_reducible refine z2 _ | with_reducible refine z3 _ | with_reducible refine z4 _ | with_reducible refine z5 _ | with_reducible refine z6 _) <;> (first | (simp (maxDischargeDepth := 9) -implicitDefEqProofs -dsimp only [go_sem, seval, *]; done) | omega | ((with_reducible refine Sub.get hS ?_); simp (maxDischargeDepth := 9) -implicitDefEqProofs -dsimp only [go_sem, seval, *]; done))) | (with_reducible refine ACalls.flA (z1 _) ?_ <;> (first | (simp (maxDischargeDepth := 9) -implicitDefEqProofs -dsimp only [go_sem, seval, *]; done) | omega | ((with_reducible refine Sub.get hS ?_); simp (maxDischargeDepth := 9) -implicitDefEqProofs -dsimp only [go_sem, seval, *]; done))) | (with_reducible refine ACalls.flA (z2 _) ?_ <;> (first | (simp (maxDischargeDepth := 9) -implicitDefEqProofs -dsimp only [go_sem, seval, *]; done) | omega | ((with_reducible refine Sub.get hS ?_); simp (maxDischargeDepth := 9) -implicitDefEqProofs -dsimp only [go_sem, seval, *]; done))) | (with_reducible refine ACalls.flA (z3 _) ?_ <;> (first | (simp (maxDischargeDepth := 9) -implicitDefEqProofs -dsimp only [go_sem, seval, *]; done) | omega | ((with_reducible refine Sub.get hS ?_); simp (maxDischargeDepth := 9) -implicitDefEqProofs -dsimp only [go_sem, seval, *]; done))) | (with_reducible refine ACalls.flA (z4 _) ?_ <;> (first | (simp (maxDischargeDepth := 9) -implicitDefEqProofs -dsimp only [go_sem, seval, *]; done) | omega | ((with_reducible refine Sub.get hS ?_); simp (maxDischargeDepth := 9) -implicitDefEqProofs -dsimp only [go_sem, seval, *]; done))) | (with_reducible refine ACalls.flA (z5 _) ?_ <;> (first | (simp (maxDischargeDepth := 9) -implicitDefEqProofs -dsimp only [go_sem, seval, *]; done) | omega | ((with_reducible refine Sub.get hS ?_); simp (maxDischargeDepth := 9) -implicitDefEqProofs -dsimp only [go_sem, seval, *]; done))) | (with_reducible refine ACalls.flA (z6 _) ?_ <;> (first | (simp (maxDischargeDepth := 9) -implicitDefEqProofs -dsimp only [go_sem, seval, *]; done) | omega | ((with_reducible refine Sub.get hS ?_); simp (maxDischargeDepth := 9) -implicitDefEqProofs -dsimp only [go_sem, seval, *]; done)))))); (focus (first | trivial | (simp (maxDischargeDepth := 9) -implicitDefEqProofs -dsimp only [go_sem, seval, *]; done)))))
        refine fin_eq ?_
        (repeat' (first | simp (maxDischargeDepth := 9) -implicitDefEqProofs -dsimp only [go_sem, seval, *])) <;> (repeat' refine And.intro ?_ ?_) <;> (first | omega | rfl | assumption | skip)
    · rw [if_neg hk, encE_zero] at z5
      have kb : (k == w) = false := by simp [hk]
      by_cases w64 : w = 64
      · have wb : (w == 64) = true := by simp [w64]
        clear n5 h64 hlt w64 hk
        repeat' (first | simp (maxDischargeDepth := 9) -implicitDefEqProofs -dsimp only [go_sem, seval, gt_iff_lt, Int.one_mul, *] | ((with_reducible refine Zt (fun oF hoF hnF hnF' => ?_)); (try simp only [upd_none, ne_eq, not_and] at hoF)) | ((with_reducible apply ACalls.one1); (focus (first | ((first | with_reducible refine z1 _ | with_reducible refine z2 _ | with_reducible refine z3 _ | with_reducible refine z4 _ | with_reducible refine z5 _ | with_reducible refine z6 _) <;> (first | (simp (maxDischargeDepth := 9) -implicitDefEqProofs -dsimp only [go_sem, seval, *]; done) | omega)) | (with_reducible refine ACalls.flA (z1 _) ?_ <;> (first | (simp (maxDischargeDepth := 9) -implicitDefEqProofs -dsimp only [go_sem, seval, *]; done) | omega)) | (with_reducible refine ACalls.flA (z2 _) ?_ <;> (first | (simp (maxDischargeDepth := 9) -implicitDefEqProofs -dsimp only [go_sem, seval, *]; done) | omega)) | (with_reducible refine ACalls.flA (z3 _) ?_ <;> (first | (simp (maxDischargeDepth := 9) -implicitDefEqProofs -dsimp only [go_sem, seval, *]; done) | omega)) | (with_reducible refine ACalls.flA (z4 _) ?_ <;> (first | (simp (maxDischargeDepth := 9) -implicitDefEqProofs -dsimp only [go_sem, seval, *]; done) | omega)) | (with_reducible refine ACalls.flA (z5 _) ?_ <;> (first | (simp (maxDischargeDepth := 9) -implicitDefEqProofs -dsimp only [go_sem, seval, *]; done) | omega)) | (with_reducible refine ACalls.flA (z6 _) ?_ <;> (first | (simp (maxDischargeDepth := 9) -implicitDefEqProofs -dsimp only [go_sem, seval, *]; done) | omega)))); (focus (first | trivial | with_reducible exact rfl | (simp (maxDischargeDepth := 9) -implicitDefEqProofs -dsimp only [go_sem, seval]; done)))) | ((with_reducible apply id_one0); (focus (intro tS hS; (first | ((first | with_reducible refine z1 _ | with_reducible refine z2 _ | with_reducible refine z3 _ | with_reducible refine z4 _ | with_reducible refine z5 _ | with_reducible refine z6 _) <;> (first | (simp (maxDischargeDepth := 9) -implicitDefEqProofs -dsimp only [go_sem, seval, *]; done) | omega | ((with_reducible refine Sub.get hS ?_); simp (maxDischargeDepth := 9) -implicitDefEqProofs -dsimp only [go_sem, seval, *]; done))) | (with_reducible refine ACalls.flA (z1 _) ?_ <;> (first | (simp (maxDischargeDepth := 9) -implicitDefEqProofs -dsimp only [go_sem, seval, *]; done) | omega | ((with_reducible refine Sub.get hS ?_); simp (maxDischargeDepth := 9) -implicitDefEqProofs -dsimp only [go_sem, seval, *]; done))) | (with_reducible refine ACalls.flA (z2 _) ?_ <;> (first | (simp (maxDischargeDepth := 9) -implicitDefEqProofs -dsimp only [go_sem, seval, *]; done) | omega | ((with_reducible refine Sub.get hS ?_); simp (maxDischargeDepth := 9) -implicitDefEqProofs -dsimp only [go_sem, seval, *]; done))) | (with_reducible refine ACalls.flA (z3 _) ?_ <;> (first | (simp (maxDischargeDepth := 9) -implicitDefEqProofs -dsimp only [go_sem, seval, *]; done) | omega | ((with_reducible refine Sub.get hS ?_); simp (maxDischargeDepth := 9) -implicitDefEqProofs -dsimp only [go_sem, seval, *]; done))) | (with_reducible refine ACalls.flA (z4 _) ?_ <;> (first | (simp (maxDischargeDepth := 9) -implicitDefEqProofs -dsimp only [go_sem, seval, *]; done) | omega | ((with_reducible refine Sub.get hS ?_); simp (maxDischargeDepth := 9) -implicitDefEqProofs -dsimp only [go_sem, seval, *]; done))) | (with_reducible refine ACalls.flA (z5 _) ?_ <;> (first | (simp (maxDischargeDepth := 9) -implicitDefEqProofs -dsimp only [go_sem, seval, *]; done) | omega | ((with_reducible refine Sub.get hS ?_); simp (maxDischargeDepth := 9) -implicitDefEqProofs -dsimp only [go_sem, seval, *]; done))) | (with_reducible refine ACalls.flA (z6 _) ?_ <;> (first | (simp (maxDischargeDepth := 9) -implicitDefEqProofs -dsimp only [go_sem, seval, *]; done) | omega | ((with_reducible refine Sub.get hS ?_); simp (maxDischargeDepth := 9) -implicitDefEqProofs -dsimp only [go_sem, seval, *]; done)))))); (focus (first | trivial | (simp (maxDischargeDepth := 9) -implicitDefEqProofs -dsimp only [go_sem, seval, *]; done)))))
        refine fin_eq ?_
        (repeat' (first | simp (maxDischargeDepth := 9) -implicitDefEqProofs -dsimp only [go_sem, seval, *])) <;> (repeat' refine And.intro ?_ ?_) <;> (first | omega | rfl | assumption | skip)
      · have h5 := hlt w64
        have wb : (w == 64) = false := by simp [w64]
        clear n5 h64 hlt w64 hk
        repeat' (first | simp (maxDischargeDepth := 9) -implicitDefEqProofs -dsimp only [go_sem, seval, gt_iff_lt, Int.one_mul, *] | ((with_reducible refine Zt (fun oF hoF hnF hnF' => ?_)); (try simp only [upd_none, ne_eq, not_and] at hoF)) | ((with_reducible apply ACalls.one1); (focus (first | ((first | with_reducible refine z1 _ | with_reducible refine z2 _ | with_reducible refine z3 _ | with_reducible refine z4 _ | with_reducible refine z5 _ | with_reducible refine z6 _) <;> (first | (simp (maxDischargeDepth := 9) -implicitDefEqProofs -dsimp only [go_sem, seval, *]; done) | omega)) | (with_reducible refine ACalls.flA (z1 _) ?_ <;> (first | (simp (maxDischargeDepth := 9) -implicitDefEqProofs -dsimp only [go_sem, seval, *]; done) | omega)) | (with_reducible refine ACalls.flA (z2 _) ?_ <;> (first | (simp (maxDischargeDepth := 9) -implicitDefEqProofs -dsimp only [go_sem, seval, *]; done) | omega)) | (with_reducible refine ACalls.flA (z3 _) ?_ <;> (first | (simp (maxDischargeDepth := 9) -implicitDefEqProofs -dsimp only [go_sem, seval, *]; done) | omega)) | (with_reducible refine ACalls.flA (z4 _) ?_ <;> (first | (simp (maxDischargeDepth := 9) -implicitDefEqProofs -dsimp only [go_sem, seval, *]; done) | omega)) | (with_reducible refine ACalls.flA (z5 _) ?_ <;> (first | (simp (maxDischargeDepth := 9) -implicitDefEqProofs -dsimp only [go_sem, seval, *]; done) | omega)) | (with_reducible refine ACalls.flA (z6 _) ?_ <;> (first | (simp (maxDischargeDepth := 9) -implicitDefEqProofs -dsimp only [go_sem, seval, *]; done) | omega)))); (focus (first | trivial | with_reducible exact rfl | (simp (maxDischargeDepth := 9) -implicitDefEqProofs -dsimp only [go_sem, seval]; done)))) | ((with_reducible apply id_one0); (focus (intro tS hS; (first | ((first | with_reducible refine z1 _ | with_reducible refine z2 _ | with_reducible refine z3 _ | with_reducible refine z4 _ | with_reducible refine z5 _ | with_reducible refine z6 _) <;> (first | (simp (maxDischargeDepth := 9) -implicitDefEqProofs -dsimp only [go_sem, seval, *]; done) | omega | ((with_reducible refine Sub.get hS ?_); simp (maxDischargeDepth := 9) -implicitDefEqProofs -dsimp only [go_sem, seval, *]; done))) | (with_reducible refine ACalls.flA (z1 _) ?_ <;> (first | (simp (maxDischargeDepth := 9) -implicitDefEqProofs -dsimp only [go_sem, seval, *]; done) | omega | ((with_reducible refine Sub.get hS ?_); simp (maxDischargeDepth := 9) -implicitDefEqProofs -dsimp only [go_sem, seval, *]; done))) | (with_reducible refine ACalls.flA (z2 _) ?_ <;> (first | (simp (maxDischargeDepth := 9) -implicitDefEqProofs -dsimp only [go_sem, seval, *]; done) | omega | ((with_reducible refine Sub.get hS ?_); simp (maxDischargeDepth := 9) -implicitDefEqProofs -dsimp only [go_sem, seval, *]; done))) | (with_reducible refine ACalls.flA (z3 _) ?_ <;> (first | (simp (maxDischargeDepth := 9) -implicitDefEqProofs -dsimp only [go_sem, seval, *]; done) | omega | ((with_reducible refine Sub.get hS ?_); simp (maxDischargeDepth := 9) -implicitDefEqProofs -dsimp only [go_sem, seval, *]; done))) | (with_reducible refine ACalls.flA (z4 _) ?_ <;> (first | (simp (maxDischargeDepth := 9) -implicitDefEqProofs -dsimp only [go_sem, seval, *]; done) | omega | ((with_reducible refine Sub.get hS ?_); simp (maxDischargeDepth := 9) -implicitDefEqProofs -dsimp only [go_sem, seval, *]; done))) | (with_reducible refine ACalls.flA (z5 _) ?_ <;> (first | (simp (maxDischargeDepth := 9) -implicitDefEqProofs -dsimp only [go_sem, seval, *]; done) | omega | ((with_reducible refine Sub.get hS ?_); simp (maxDischargeDepth := 9) -implicitDefEqProofs -dsimp only [go_sem, seval, *]; done))) | (with_reducible refine ACalls.flA (z6 _) ?_ <;> (first | (simp (maxDischargeDepth := 9) -implicitDefEqProofs -dsimp only [go_sem, seval, *]; done) | omega | ((with_reducible refine Sub.get hS ?_); simp (maxDischargeDepth := 9) -implicitDefEqProofs -dsimp only [go_sem, seval, *]; done)))))); (focus (first | trivial | (simp (maxDischargeDepth := 9) -implicitDefEqProofs -dsimp only [go_sem, seval, *]; done)))))
        refine fin_eq ?_
        (repeat' (first | simp (maxDischargeDepth := 9) -implicitDefEqProofs -dsimp only [go_sem, seval, *])) <;> (repeat' refine And.intro ?_ ?_) <;> (first | omega | rfl | assumption | skip)
end Go.Proofs.Ytdiebjnjhgbklaa

namespace Go.Proofs.Ytdiebjnjhgbklaa
open Abs Fil Fil.Sz
set_option maxRecDepth 20000 in
set_option maxHeartbeats 4000000 in
theorem lw_SizedParts (d : Flat) (a b : E) (σ : Sig) (hw : WfD d) (hd : Sm d) (ha : WfE a) (hn : nodes a ≤ 1048576) (hb : WfE b) (hm : nodes b ≤ 1048576) : ACalls Try.prog 9 [encD d, encE a, encE b] σ (fun r σ' => r = .ret (.bool true) ∧ σ' = σ) := by
  have hsl : d.sigs.length ≤ 1000000000000 := by have := hd.1; omega
  have z1 := fun τ => lw_live τ
  have z2 := fun τ => lw_few a τ (by omega)
  have y2 := fun τ => lw_few b τ (by omega)
  have z3 := fun τ => rf_Small d τ hd
  have z4 := fun τ => rf_Deep a τ (by omega)
  have y4 := fun τ => rf_Deep b τ (by omega)
  have z5 := fun τ => sz_CheckE d a τ hsl (by omega) ha
  have y5 := fun τ => sz_CheckE d b τ hsl (by omega) hb
  have z6 := fun τ => sz_Expr d (binE 14 a b) 0 τ hsl (by rw [nodes_bin]; omega) (wf_bin 14 (i_of (by omega)) ha hb)
  have y6 := fun τ => lw_bin 14 a b τ
  have z7 := fun τ => sz_Expr d (binE 21 a b) 0 τ hsl (by rw [nodes_bin]; omega) (wf_bin 21 (i_of (by omega)) ha hb)
  have y7 := fun τ => lw_bin 21 a b τ
  have z8 := fun τ => sz_Expr d (binE 17 a b) 0 τ hsl (by rw [nodes_bin]; omega) (wf_bin 17 (i_of (by omega)) ha hb)
  have y8 := fun τ => lw_bin 17 a b τ
  have hfa := few_iff (e := a)
  have hfb := few_iff (e := b)
  have hca := checkE_ok (d := d) (a := a)
  have hcb := checkE_ok (d := d) (a := b)
  obtain ⟨C, hC⟩ : ∃ C, checkE d a = C := ⟨_, rfl⟩
  rw [hC] at z5 hca
  obtain ⟨C', hC'⟩ : ∃ C, checkE d b = C := ⟨_, rfl⟩
  rw [hC'] at y5 hcb
  obtain ⟨p, hp⟩ : ∃ C, fewE a = C := ⟨_, rfl⟩
  rw [hp] at z2 hfa
  obtain ⟨p', hp'⟩ : ∃ C, fewE b = C := ⟨_, rfl⟩
  rw [hp'] at y2 hfb
  obtain ⟨q, hq⟩ : ∃ C, smallD d = C := ⟨_, rfl⟩
  rw [hq] at z3
  clear hC hC' hp hp' hq hn hm ha hb hd hw hsl
  refine calls_x mixed Try.func9 b9 n9 rfl q9 (by simp) ?_; unfold c9 r9
  cases p
  case false =>
    clear z6 z7 z8 y6 y7 y8 hfa hfb hca hcb
    repeat' (first | simp (maxDischargeDepth := 9) -implicitDefEqProofs -dsimp only [go_sem, seval, gt_iff_lt, *] | ((with_reducible refine Zt (fun oF hoF hnF hnF' => ?_)); (try simp only [upd_none, ne_eq, not_and] at hoF)) | ((with_reducible apply ACalls.one1); (focus (first | with_reducible refine z1 _ | with_reducible refine z2 _) <;> (first | (simp (maxDischargeDepth := 9) -implicitDefEqProofs -dsimp only [go_sem, seval, *]; done) | omega)); (focus (first | trivial | with_reducible exact rfl | (simp (maxDischargeDepth := 9) -implicitDefEqProofs -dsimp only [go_sem, seval]; done)))))
    refine fin_eq ?_
    (repeat' (first | simp (maxDischargeDepth := 9) -implicitDefEqProofs -dsimp only [go_sem, seval, *])) <;> (repeat' refine And.intro ?_ ?_) <;> (first | omega | rfl | assumption | skip)
  cases p'
  case false =>
    clear z6 z7 z8 y6 y7 y8 hfa hfb hca hcb
    repeat' (first | simp (maxDischargeDepth := 9) -implicitDefEqProofs -dsimp only [go_sem, seval, gt_iff_lt, *] | ((with_reducible refine Zt (fun oF hoF hnF hnF' => ?_)); (try simp only [upd_none, ne_eq, not_and] at hoF)) | ((with_reducible apply ACalls.one1); (focus (first | with_reducible refine z1 _ | with_reducible refine z2 _ | with_reducible refine y2 _) <;> (first | (simp (maxDischargeDepth := 9) -implicitDefEqProofs -dsimp only [go_sem, seval, *]; done) | omega)); (focus (first | trivial | with_reducible exact rfl | (simp (maxDischargeDepth := 9) -implicitDefEqProofs -dsimp only [go_sem, seval]; done)))))
    refine fin_eq ?_
    (repeat' (first | simp (maxDischargeDepth := 9) -implicitDefEqProofs -dsimp only [go_sem, seval, *])) <;> (repeat' refine And.intro ?_ ?_) <;> (first | omega | rfl | assumption | skip)
  cases q
  case false =>
    clear z6 z7 z8 y6 y7 y8 hfa hfb hca hcb
    repeat' (first | simp (maxDischargeDepth := 9) -implicitDefEqProofs -dsimp only [go_sem, seval, gt_iff_lt, *] | ((with_reducible refine Zt (fun oF hoF hnF hnF' => ?_)); (try simp only [upd_none, ne_eq, not_and] at hoF)) | ((with_reducible apply ACalls.one1); (focus (first | with_reducible refine z1 _ | with_reducible refine z2 _ | with_reducible refine y2 _ | with_reducible refine z3 _) <;> (first | (simp (maxDischargeDepth := 9) -implicitDefEqProofs -dsimp only [go_sem, seval, *]; done) | omega)); (focus (first | trivial | with_reducible exact rfl | (simp (maxDischargeDepth := 9) -implicitDefEqProofs -dsimp only [go_sem, seval]; done)))))
    refine fin_eq ?_
    (repeat' (first | simp (maxDischargeDepth := 9) -implicitDefEqProofs -dsimp only [go_sem, seval, *])) <;> (repeat' refine And.intro ?_ ?_) <;> (first | omega | rfl | assumption | skip)
  by_cases hda : (60 : Int) < (deep a : Nat)
  case pos =>
    clear z6 z7 z8 y6 y7 y8 hfa hfb hca hcb
    repeat' (first | simp (maxDischargeDepth := 9) -implicitDefEqProofs -dsimp only [go_sem, seval, gt_iff_lt, *] | ((with_reducible refine Zt (fun oF hoF hnF hnF' => ?_)); (try simp only [upd_none, ne_eq, not_and] at hoF)) | ((with_reducible apply ACalls.one1); (focus (first | with_reducible refine z1 _ | with_reducible refine z2 _ | with_reducible refine y2 _ | with_reducible refine z3 _ | with_reducible refine z4 _) <;> (first | (simp (maxDischargeDepth := 9) -implicitDefEqProofs -dsimp only [go_sem, seval, *]; done) | omega)); (focus (first | trivial | with_reducible exact rfl | (simp (maxDischargeDepth := 9) -implicitDefEqProofs -dsimp only [go_sem, seval]; done)))))
    refine fin_eq ?_
    (repeat' (first | simp (maxDischargeDepth := 9) -implicitDefEqProofs -dsimp only [go_sem, seval, *])) <;> (repeat' refine And.intro ?_ ?_) <;> (first | omega | rfl | assumption | skip)
  by_cases hdb : (60 : Int) < (deep b : Nat)
  case pos =>
    clear z6 z7 z8 y6 y7 y8 hfa hfb hca hcb
    repeat' (first | simp (maxDischargeDepth := 9) -implicitDefEqProofs -dsimp only [go_sem, seval, gt_iff_lt, *] | ((with_reducible refine Zt (fun oF hoF hnF hnF' => ?_)); (try simp only [upd_none, ne_eq, not_and] at hoF)) | ((with_reducible apply ACalls.one1); (focus (first | with_reducible refine z1 _ | with_reducible refine z2 _ | with_reducible refine y2 _ | with_reducible refine z3 _ | with_reducible refine z4 _ | with_reducible refine y4 _) <;> (first | (simp (maxDischargeDepth := 9) -implicitDefEqProofs -dsimp only [go_sem, seval, *]; done) | omega)); (focus (first | trivial | with_reducible exact rfl | (simp (maxDischargeDepth := 9) -implicitDefEqProofs -dsimp only [go_sem, seval]; done)))))
    refine fin_eq ?_
    (repeat' (first | simp (maxDischargeDepth := 9) -implicitDefEqProofs -dsimp only [go_sem, seval, *])) <;> (repeat' refine And.intro ?_ ?_) <;> (first | omega | rfl | assumption | skip)
  by_cases hc0 : C = 0
  case neg =>
    have hcx : (C != 0) = true := by simp [hc0]
    clear z6 z7 z8 y6 y7 y8 hfa hfb hca hcb hc0
    repeat' (first | simp (maxDischargeDepth := 9) -implicitDefEqProofs -dsimp only [go_sem, seval, gt_iff_lt, *] | ((with_reducible refine Zt (fun oF hoF hnF hnF' => ?_)); (try simp only [upd_none, ne_eq, not_and] at hoF)) | ((with_reducible apply ACalls.one1); (focus (first | with_reducible refine z1 _ | with_reducible refine z2 _ | with_reducible refine y2 _ | with_reducible refine z3 _ | with_reducible refine z4 _ | with_reducible refine y4 _ | with_reducible refine z5 _) <;> (first | (simp (maxDischargeDepth := 9) -implicitDefEqProofs -dsimp only [go_sem, seval, *]; done) | omega)); (focus (first | trivial | with_reducible exact rfl | (simp (maxDischargeDepth := 9) -implicitDefEqProofs -dsimp only [go_sem, seval]; done)))))
    refine fin_eq ?_
    (repeat' (first | simp (maxDischargeDepth := 9) -implicitDefEqProofs -dsimp only [go_sem, seval, *])) <;> (repeat' refine And.intro ?_ ?_) <;> (first | omega | rfl | assumption | skip)
  by_cases hc1 : C' = 0
  case neg =>
    have hcx : (C != 0) = false := by simp [hc0]
    have hcy : (C' != 0) = true := by simp [hc1]
    clear z6 z7 z8 y6 y7 y8 hfa hfb hca hcb hc0 hc1
    repeat' (first | simp (maxDischargeDepth := 9) -implicitDefEqProofs -dsimp only [go_sem, seval, gt_iff_lt, *] | ((with_reducible refine Zt (fun oF hoF hnF hnF' => ?_)); (try simp only [upd_none, ne_eq, not_and] at hoF)) | ((with_reducible apply ACalls.one1); (focus (first | with_reducible refine z1 _ | with_reducible refine z2 _ | with_reducible refine y2 _ | with_reducible refine z3 _ | with_reducible refine z4 _ | with_reducible refine y4 _ | with_reducible refine z5 _ | with_reducible refine y5 _) <;> (first | (simp (maxDischargeDepth := 9) -implicitDefEqProofs -dsimp only [go_sem, seval, *]; done) | omega)); (focus (first | trivial | with_reducible exact rfl | (simp (maxDischargeDepth := 9) -implicitDefEqProofs -dsimp only [go_sem, seval]; done)))))
    refine fin_eq ?_
    (repeat' (first | simp (maxDischargeDepth := 9) -implicitDefEqProofs -dsimp only [go_sem, seval, *])) <;> (repeat' refine And.intro ?_ ?_) <;> (first | omega | rfl | assumption | skip)
  have k := hca hc0
  have k' := hcb hc1
  have fa := hfa.1 rfl
  have fb := hfb.1 rfl
  subst hc0 hc1
  clear hfa hfb hca hcb
  rw [exprD_size k.sigs (by omega) (shp_bin k k' (by omega)) (by unfold binE; rw [nodes_two, deep_two]; omega)] at z6
  rw [exprD_size k.sigs (by omega) (shp_bin k k' (by omega)) (by unfold binE; rw [nodes_two, deep_two]; omega)] at z7
  rw [exprD_size k.sigs (by omega) (shp_bin k k' (by omega)) (by unfold binE; rw [nodes_two, deep_two]; omega)] at z8
  have s1 := size_add k k'
  have s2 := size_lt k k'
  have s3 := size_shl k k'
  rw [s3] at z8
  by_cases hs : a.w = b.w
  · rw [s1.1 hs] at z6
    rw [s2.1 hs] at z7
    have hsb : (a.w == b.w) = true := by simp [hs]
    clear s1 s2 s3 hs k k' fa fb
    repeat' (first | simp (maxDischargeDepth := 9) -implicitDefEqProofs -dsimp only [go_sem, seval, gt_iff_lt, *] | ((with_reducible refine Zt (fun oF hoF hnF hnF' => ?_)); (try simp only [upd_none, ne_eq, not_and] at hoF)) | ((with_reducible apply ACalls.one1); (focus (first | with_reducible refine z1 _ | with_reducible refine z2 _ | with_reducible refine y2 _ | with_reducible refine z3 _ | with_reducible refine z4 _ | with_reducible refine y4 _ | with_reducible refine z5 _ | with_reducible refine y5 _ | with_reducible refine y6 _ | with_reducible refine z6 _ | with_reducible refine y7 _ | with_reducible refine z7 _ | with_reducible refine y8 _ | with_reducible refine z8 _) <;> (first | (simp (maxDischargeDepth := 9) -implicitDefEqProofs -dsimp only [go_sem, seval, *]; done) | omega)); (focus (first | trivial | with_reducible exact rfl | (simp (maxDischargeDepth := 9) -implicitDefEqProofs -dsimp only [go_sem, seval]; done)))) | ((with_reducible apply id_one0); (focus (intro tS hS; (first | with_reducible refine z1 _ | with_reducible refine z2 _ | with_reducible refine y2 _ | with_reducible refine z3 _ | with_reducible refine z4 _ | with_reducible refine y4 _ | with_reducible refine z5 _ | with_reducible refine y5 _ | with_reducible refine y6 _ | with_reducible refine z6 _ | with_reducible refine y7 _ | with_reducible refine z7 _ | with_reducible refine y8 _ | with_reducible refine z8 _) <;> (first | (simp (maxDischargeDepth := 9) -implicitDefEqProofs -dsimp only [go_sem, seval, *]; done) | omega | ((with_reducible refine Sub.get hS ?_); simp (maxDischargeDepth := 9) -implicitDefEqProofs -dsimp only [go_sem, seval, *]; done)))); (focus (first | trivial | (simp (maxDischargeDepth := 9) -implicitDefEqProofs -dsimp only [go_sem, seval, *]; done)))))
    refine fin_eq ?_
    (repeat' (first | simp (maxDischargeDepth := 9) -implicitDefEqProofs -dsimp only [go_sem, seval, *])) <;> (repeat' refine And.intro ?_ ?_) <;> (first | omega | rfl | assumption | skip)
  · have e1 := s1.2 hs
    have e2 := s2.2 hs
    obtain ⟨⟨x1, f1⟩, hR1⟩ : ∃ R, size (binE 14 a b) 0 = R := ⟨_, rfl⟩
    obtain ⟨⟨x2, f2⟩, hR2⟩ : ∃ R, size (binE 21 a b) 0 = R := ⟨_, rfl⟩
    rw [hR1] at z6 e1
    rw [hR2] at z7 e2
    have q1 : (f1 == 0) = false := by simpa using e1
    have q2 : (f2 == 0) = false := by simpa using e2
    have hsb : (a.w == b.w) = false := by simp [hs]
    clear s1 s2 s3 hs k k' fa fb e1 e2 hR1 hR2
    repeat' (first | simp (maxDischargeDepth := 9) -implicitDefEqProofs -dsimp only [go_sem, seval, gt_iff_lt, *] | ((with_reducible refine Zt (fun oF hoF hnF hnF' => ?_)); (try simp only [upd_none, ne_eq, not_and] at hoF)) | ((with_reducible apply ACalls.one1); (focus (first | with_reducible refine z1 _ | with_reducible refine z2 _ | with_reducible refine y2 _ | with_reducible refine z3 _ | with_reducible refine z4 _ | with_reducible refine y4 _ | with_reducible refine z5 _ | with_reducible refine y5 _ | with_reducible refine y6 _ | with_reducible refine z6 _ | with_reducible refine y7 _ | with_reducible refine z7 _ | with_reducible refine y8 _ | with_reducible refine z8 _) <;> (first | (simp (maxDischargeDepth := 9) -implicitDefEqProofs -dsimp only [go_sem, seval, *]; done) | omega)); (focus (first | trivial | with_reducible exact rfl | (simp (maxDischargeDepth := 9) -implicitDefEqProofs -dsimp only [go_sem, seval]; done)))) | ((with_reducible apply id_one0); (focus (intro tS hS; (first | with_reducible refine z1 _ | with_reducible refine z2 _ | with_reducible refine y2 _ | with_reducible refine z3 _ | with_reducible refine z4 _ | with_reducible refine y4 _ | with_reducible refine z5 _ | with_reducible refine y5 _ | with_reducible refine y6 _ | with_reducible refine z6 _ | with_reducible refine y7 _ | with_reducible refine z7 _ | with_reducible refine y8 _ | with_reducible refine z8 _) <;> (first | (simp (maxDischargeDepth := 9) -implicitDefEqProofs -dsimp only [go_sem, seval, *]; done) | omega | ((with_reducible refine Sub.get hS ?_); simp (maxDischargeDepth := 9) -implicitDefEqProofs -dsimp only [go_sem, seval, *]; done)))); (focus (first | trivial | (simp (maxDischargeDepth := 9) -implicitDefEqProofs -dsimp only [go_sem, seval, *]; done)))))
    refine fin_eq ?_
    (repeat' (first | simp (maxDischargeDepth := 9) -implicitDefEqProofs -dsimp only [go_sem, seval, *])) <;> (repeat' refine And.intro ?_ ?_) <;> (first | omega | rfl | assumption | skip)
end Go.Proofs.Ytdiebjnjhgbklaa

namespace Go.Proofs.Ytdiebjnjhgbklaa
open Abs Fil Fil.Sz
set_option maxRecDepth 20000 in
set_option maxHeartbeats 4000000 in
theorem lw_SizedSame (d c : Flat) (a b : E) (σ : Sig) (hd : Sm d) (hc : Sm c) (hn : nodes a ≤ 1048576) (hm : nodes b ≤ 1048576) : ACalls Try.prog 5 [encD d, encD c, encE a, encE b] σ (fun r σ' => r = .ret (.bool true) ∧ σ' = σ) := by
  have z1 := fun τ => lw_live τ
  have z2 := fun τ => lw_few a τ (by omega)
  have y2 := fun τ => lw_few b τ (by omega)
  have z3 := fun τ => rf_Small d τ hd
  have y3 := fun τ => rf_Small c τ hc
  have z4 := fun τ => sz_Same d c τ hd hc
  have z5 := fun τ => rf_Same d c τ hd hc
  have z6 := fun τ => sz_SameE a b τ (by omega) (by omega)
  have z7 := fun τ => rf_SameE a b τ (by omega) (by omega)
  have z8 := fun τ => sz_Same d d τ hd hd
  have z9 := fun τ => sz_SameE a a τ (by omega) (by omega)
  rw [same_self] at z8 z9
  obtain ⟨p, hp⟩ : ∃ C, fewE a = C := ⟨_, rfl⟩
  rw [hp] at z2
  obtain ⟨p', hp'⟩ : ∃ C, fewE b = C := ⟨_, rfl⟩
  rw [hp'] at y2
  obtain ⟨q, hq⟩ : ∃ C, smallD d = C := ⟨_, rfl⟩
  rw [hq] at z3
  obtain ⟨q', hq'⟩ : ∃ C, smallD c = C := ⟨_, rfl⟩
  rw [hq'] at y3
  obtain ⟨s, hs⟩ : ∃ C, same d c = C := ⟨_, rfl⟩
  rw [hs] at z4 z5
  obtain ⟨t, ht⟩ : ∃ C, same a b = C := ⟨_, rfl⟩
  rw [ht] at z6 z7
  clear hp hp' hq hq' hs ht hn hm hd hc
  refine calls_x mixed Try.func5 b5 n5 rfl q5 (by simp) ?_; unfold c5 r5
  cases q
  · repeat' (first | simp (maxDischargeDepth := 9) -implicitDefEqProofs -dsimp only [go_sem, seval, *] | ((with_reducible apply ACalls.one1); (focus (first | with_reducible refine z1 _ | with_reducible refine z3 _) <;> (first | (simp (maxDischargeDepth := 9) -implicitDefEqProofs -dsimp only [go_sem, seval, *]; done) | omega)); (focus (first | trivial | with_reducible exact rfl | (simp (maxDischargeDepth := 9) -implicitDefEqProofs -dsimp only [go_sem, seval]; done)))))
    refine fin_eq ?_
    (repeat' (first | simp (maxDischargeDepth := 9) -implicitDefEqProofs -dsimp only [go_sem, seval, *])) <;> (repeat' refine And.intro ?_ ?_) <;> (first | omega | rfl | assumption | skip)
  cases q'
  · repeat' (first | simp (maxDischargeDepth := 9) -implicitDefEqProofs -dsimp only [go_sem, seval, *] | ((with_reducible apply ACalls.one1); (focus (first | with_reducible refine z1 _ | with_reducible refine z3 _ | with_reducible refine y3 _) <;> (first | (simp (maxDischargeDepth := 9) -implicitDefEqProofs -dsimp only [go_sem, seval, *]; done) | omega)); (focus (first | trivial | with_reducible exact rfl | (simp (maxDischargeDepth := 9) -implicitDefEqProofs -dsimp only [go_sem, seval]; done)))))
    refine fin_eq ?_
    (repeat' (first | simp (maxDischargeDepth := 9) -implicitDefEqProofs -dsimp only [go_sem, seval, *])) <;> (repeat' refine And.intro ?_ ?_) <;> (first | omega | rfl | assumption | skip)
  cases p
  · repeat' (first | simp (maxDischargeDepth := 9) -implicitDefEqProofs -dsimp only [go_sem, seval, *] | ((with_reducible apply ACalls.one1); (focus (first | with_reducible refine z1 _ | with_reducible refine z3 _ | with_reducible refine y3 _ | with_reducible refine z2 _) <;> (first | (simp (maxDischargeDepth := 9) -implicitDefEqProofs -dsimp only [go_sem, seval, *]; done) | omega)); (focus (first | trivial | with_reducible exact rfl | (simp (maxDischargeDepth := 9) -implicitDefEqProofs -dsimp only [go_sem, seval]; done)))))
    refine fin_eq ?_
    (repeat' (first | simp (maxDischargeDepth := 9) -implicitDefEqProofs -dsimp only [go_sem, seval, *])) <;> (repeat' refine And.intro ?_ ?_) <;> (first | omega | rfl | assumption | skip)
  cases p'
  · repeat' (first | simp (maxDischargeDepth := 9) -implicitDefEqProofs -dsimp only [go_sem, seval, *] | ((with_reducible apply ACalls.one1); (focus (first | with_reducible refine z1 _ | with_reducible refine z3 _ | with_reducible refine y3 _ | with_reducible refine z2 _ | with_reducible refine y2 _) <;> (first | (simp (maxDischargeDepth := 9) -implicitDefEqProofs -dsimp only [go_sem, seval, *]; done) | omega)); (focus (first | trivial | with_reducible exact rfl | (simp (maxDischargeDepth := 9) -implicitDefEqProofs -dsimp only [go_sem, seval]; done)))))
    refine fin_eq ?_
    (repeat' (first | simp (maxDischargeDepth := 9) -implicitDefEqProofs -dsimp only [go_sem, seval, *])) <;> (repeat' refine And.intro ?_ ?_) <;> (first | omega | rfl | assumption | skip)
  cases s <;> cases t
  all_goals
    repeat' (first | simp (maxDischargeDepth := 9) -implicitDefEqProofs -dsimp only [go_sem, seval, *] | ((with_reducible apply ACalls.one1); (focus (first | with_reducible refine z1 _ | with_reducible refine z3 _ | with_reducible refine y3 _ | with_reducible refine z2 _ | with_reducible refine y2 _ | with_reducible refine z4 _ | with_reducible refine z5 _ | with_reducible refine z6 _ | with_reducible refine z7 _ | with_reducible refine z8 _ | with_reducible refine z9 _) <;> (first | (simp (maxDischargeDepth := 9) -implicitDefEqProofs -dsimp only [go_sem, seval, *]; done) | omega)); (focus (first | trivial | with_reducible exact rfl | (simp (maxDischargeDepth := 9) -implicitDefEqProofs -dsimp only [go_sem, seval]; done)))) | ((with_reducible apply id_one0); (focus (intro tS hS; (first | with_reducible refine z1 _ | with_reducible refine z3 _ | with_reducible refine y3 _ | with_reducible refine z2 _ | with_reducible refine y2 _ | with_reducible refine z4 _ | with_reducible refine z5 _ | with_reducible refine z6 _ | with_reducible refine z7 _ | with_reducible refine z8 _ | with_reducible refine z9 _) <;> (first | (simp (maxDischargeDepth := 9) -implicitDefEqProofs -dsimp only [go_sem, seval, *]; done) | omega | ((with_reducible refine Sub.get hS ?_); simp (maxDischargeDepth := 9) -implicitDefEqProofs -dsimp only [go_sem, seval, *]; done)))); (focus (first | trivial | (simp (maxDischargeDepth := 9) -implicitDefEqProofs -dsimp only [go_sem, seval, *]; done)))))
    refine fin_eq ?_
    (repeat' (first | simp (maxDischargeDepth := 9) -implicitDefEqProofs -dsimp only [go_sem, seval, *])) <;> (repeat' refine And.intro ?_ ?_) <;> (first | omega | rfl | assumption | skip)
end Go.Proofs.Ytdiebjnjhgbklaa

namespace Fil.Sz
open Abs
theorem size_wf {g : List Sg} (hg : SgOk g) (e : E) : ∀ (w : Int) (x : E), shp g e = true → -1 ≤ w → w ≤ 64 → WfE e → size e w = (x, 0) → WfE x := by
  refine E.ind (P := fun e => ∀ (w : Int) (x : E), shp g e = true → -1 ≤ w → w ≤ 64 → WfE e → size e w = (x, 0) → WfE x) (fun e ih w x hs h0 h64 hwf h => ?_) e
  have ok := size_main hg e w x hs h0 h
  obtain ⟨h2, h3⟩ := ok.shp h64
  have hpos := ok.pos
  obtain ⟨⟨f1, f2, f3, f4, f5, f6, f7⟩, fl⟩ := (WfE_iff e).1 hwf
  obtain ⟨hbit, hc⟩ := size_ok h
  obtain ⟨W, hW⟩ : ∃ W, wide e w = W := ⟨_, rfl⟩
  rw [hW] at hpos hc h2
  have wW : I64 W := ⟨by omega, by omega⟩
  have z0 : I64 0 := ⟨by omega, by omega⟩
  rcases hc with ⟨ho, hw0, hh, hx⟩ | ⟨hnum, ws, hws, hr, hbad, hx⟩
  · rw [hx, WfE_iff]
    exact ⟨⟨⟨by show (-9223372036854775808 : Int) ≤ 1; omega, by show (1 : Int) ≤ _; omega⟩, wW, f3, z0, z0, z0, z0⟩, fun y hy => by cases hy⟩
  · have hwt := wants_wt hs hws
    have hwl := wt_len hs hwt
    obtain ⟨hl, hget⟩ := runL_ok e.l ws hwl.symm hr
    have hge := wt_ge hg hs hpos hwt
    obtain ⟨X, hX⟩ : ∃ X, (runL (e.l.map size) ws).1 = X := ⟨_, rfl⟩
    have hp : Pts g e ws X := fun i h1 h2 h3 => by
      refine size_main hg _ _ _ (shp_part hs (List.getElem_mem h1)) (hge _ (List.getElem_mem h2)) ?_
      rw [hget i h1 h2]
      simp only [hX]
    rw [hX] at hbad hx hl
    have hfew := fun v hv => wt_few hg hs hpos h2 hwt hl hp v hv
    rw [hx, WfE_iff]
    refine ⟨⟨f1, wW, f3, f4, f5, f6, f7⟩, fun y hy => ?_⟩
    rw [set_l] at hy
    obtain ⟨i, hi, rfl⟩ := List.getElem_of_mem hy
    refine ih _ (List.getElem_mem (by omega : i < e.l.length)) (ws[i]'(by omega)) _ (shp_part hs (List.getElem_mem _)) (hge _ (List.getElem_mem _)) (hfew _ (List.getElem_mem _)) (fl _ (List.getElem_mem _)) ?_
    rw [hget i (by omega) (by omega)]
    simp only [hX]
theorem zE_wf : WfE zE := by
  rw [WfE_iff]
  exact ⟨⟨⟨by decide, by decide⟩, ⟨by decide, by decide⟩, ⟨by decide, by decide⟩, ⟨by decide, by decide⟩, ⟨by decide, by decide⟩, ⟨by decide, by decide⟩, ⟨by decide, by decide⟩⟩, fun y hy => by cases hy⟩
theorem exprD_wf {d : Flat} {e : E} {w : Int} (h : WfE e) : WfE (exprD d e w).1 := by
  unfold exprD
  split
  · exact zE_wf
  rename_i q1
  split
  · exact zE_wf
  have s1 : sigsOk d.sigs = true := by
    cases q : sigsOk d.sigs with
    | true => rfl
    | false => exact (q1 (.inl q)).elim
  have s2 : shp d.sigs e = true := by
    cases q : shp d.sigs e with
    | true => rfl
    | false => exact (q1 (.inr (.inr (.inr q)))).elim
  by_cases hf : (size e w).2 = 0
  · exact size_wf (sigsOk_ok s1) e w _ s2 (by omega) (by omega) h (by rw [← hf])
  · rw [size_bad hf]; exact zE_wf
end Fil.Sz

namespace Go.Proofs.Ytdiebjnjhgbklaa
open Abs Fil Fil.Sz
set_option maxRecDepth 20000 in
set_option maxHeartbeats 2000000 in
theorem lw_SizedWant (d : Flat) (e : E) (w : Int) (σ : Sig) (hw : WfD d) (hd : Sm d) (he : WfE e) (hn : nodes e ≤ 1048576) : ACalls Try.prog 7 [encD d, encE e, .int .i64 w] σ (fun r σ' => r = .ret (.bool true) ∧ σ' = σ) := by
  have hsl : d.sigs.length ≤ 1000000000000 := by have := hd.1; omega
  have z1 := fun τ => lw_live τ
  have z2 := fun τ => lw_few e τ (by omega)
  have z3 := fun τ => rf_Small d τ hd
  have z4 := fun τ => sz_Expr d e w τ hsl (by omega) he
  have hm := exprD_nodes d e w
  have hf := exprD_wf (d := d) (w := w) he
  have hz := exprD_zero (d := d) (e := e) (w := w)
  have hok := fun (x : E) (h : exprD d e w = (x, 0)) => want_ok h
  obtain ⟨⟨x, f⟩, hR⟩ : ∃ R, exprD d e w = R := ⟨_, rfl⟩
  rw [hR] at z4 hm hf hz
  simp only at hm hf hz
  obtain ⟨p, hp⟩ : ∃ C, fewE e = C := ⟨_, rfl⟩
  rw [hp] at z2
  obtain ⟨q, hq⟩ : ∃ C, smallD d = C := ⟨_, rfl⟩
  rw [hq] at z3
  clear hp hq
  refine calls_x mixed Try.func7 b7 n7 rfl q7 (by simp) ?_; unfold c7 r7
  cases p
  · clear z4 hm hf hz hok hR hn he hd hw hsl
    repeat' (first | simp (maxDischargeDepth := 9) -implicitDefEqProofs -dsimp only [go_sem, seval, *] | ((with_reducible refine Zt (fun oF hoF hnF hnF' => ?_)); (try simp only [upd_none, ne_eq, not_and] at hoF)) | ((with_reducible apply ACalls.one1); (focus (first | ((first | with_reducible refine z1 _ | with_reducible refine z2 _ | with_reducible refine z3 _) <;> (first | (simp (maxDischargeDepth := 9) -implicitDefEqProofs -dsimp only [go_sem, seval, *]; done) | omega)) | (with_reducible refine ACalls.flA (z1 _) ?_ <;> (first | (simp (maxDischargeDepth := 9) -implicitDefEqProofs -dsimp only [go_sem, seval, *]; done) | omega)) | (with_reducible refine ACalls.flA (z2 _) ?_ <;> (first | (simp (maxDischargeDepth := 9) -implicitDefEqProofs -dsimp only [go_sem, seval, *]; done) | omega)) | (with_reducible refine ACalls.flA (z3 _) ?_ <;> (first | (simp (maxDischargeDepth := 9) -implicitDefEqProofs -dsimp only [go_sem, seval, *]; done) | omega)))); (focus (first | trivial | with_reducible exact rfl | (simp (maxDischargeDepth := 9) -implicitDefEqProofs -dsimp only [go_sem, seval]; done)))))
    refine fin_eq ?_
    (repeat' (first | simp (maxDischargeDepth := 9) -implicitDefEqProofs -dsimp only [go_sem, seval, *])) <;> (repeat' refine And.intro ?_ ?_) <;> (first | omega | rfl | assumption | skip)
  cases q
  · clear z4 hm hf hz hok hR hn he hd hw hsl
    repeat' (first | simp (maxDischargeDepth := 9) -implicitDefEqProofs -dsimp only [go_sem, seval, *] | ((with_reducible refine Zt (fun oF hoF hnF hnF' => ?_)); (try simp only [upd_none, ne_eq, not_and] at hoF)) | ((with_reducible apply ACalls.one1); (focus (first | ((first | with_reducible refine z1 _ | with_reducible refine z2 _ | with_reducible refine z3 _) <;> (first | (simp (maxDischargeDepth := 9) -implicitDefEqProofs -dsimp only [go_sem, seval, *]; done) | omega)) | (with_reducible refine ACalls.flA (z1 _) ?_ <;> (first | (simp (maxDischargeDepth := 9) -implicitDefEqProofs -dsimp only [go_sem, seval, *]; done) | omega)) | (with_reducible refine ACalls.flA (z2 _) ?_ <;> (first | (simp (maxDischargeDepth := 9) -implicitDefEqProofs -dsimp only [go_sem, seval, *]; done) | omega)) | (with_reducible refine ACalls.flA (z3 _) ?_ <;> (first | (simp (maxDischargeDepth := 9) -implicitDefEqProofs -dsimp only [go_sem, seval, *]; done) | omega)))); (focus (first | trivial | with_reducible exact rfl | (simp (maxDischargeDepth := 9) -implicitDefEqProofs -dsimp only [go_sem, seval]; done)))))
    refine fin_eq ?_
    (repeat' (first | simp (maxDischargeDepth := 9) -implicitDefEqProofs -dsimp only [go_sem, seval, *])) <;> (repeat' refine And.intro ?_ ?_) <;> (first | omega | rfl | assumption | skip)
  by_cases hf0 : f = 0
  case neg =>
    have hx := hz hf0
    subst hx
    have z5 := fun τ => rf_SameE zE zE τ (by omega) (by omega)
    rw [same_self] at z5
    rw [encE_zero] at z4 z5
    have hfb : (f != 0) = true := by simp [hf0]
    clear hm hf hz hok hR hn he hd hw hsl hf0
    repeat' (first | simp (maxDischargeDepth := 9) -implicitDefEqProofs -dsimp only [go_sem, seval, *] | ((with_reducible refine Zt (fun oF hoF hnF hnF' => ?_)); (try simp only [upd_none, ne_eq, not_and] at hoF)) | ((with_reducible apply ACalls.one1); (focus (first | ((first | with_reducible refine z1 _ | with_reducible refine z2 _ | with_reducible refine z3 _ | with_reducible refine z4 _ | with_reducible refine z5 _) <;> (first | (simp (maxDischargeDepth := 9) -implicitDefEqProofs -dsimp only [go_sem, seval, *]; done) | omega)) | (with_reducible refine ACalls.flA (z1 _) ?_ <;> (first | (simp (maxDischargeDepth := 9) -implicitDefEqProofs -dsimp only [go_sem, seval, *]; done) | omega)) | (with_reducible refine ACalls.flA (z2 _) ?_ <;> (first | (simp (maxDischargeDepth := 9) -implicitDefEqProofs -dsimp only [go_sem, seval, *]; done) | omega)) | (with_reducible refine ACalls.flA (z3 _) ?_ <;> (first | (simp (maxDischargeDepth := 9) -implicitDefEqProofs -dsimp only [go_sem, seval, *]; done) | omega)) | (with_reducible refine ACalls.flA (z4 _) ?_ <;> (first | (simp (maxDischargeDepth := 9) -implicitDefEqProofs -dsimp only [go_sem, seval, *]; done) | omega)) | (with_reducible refine ACalls.flA (z5 _) ?_ <;> (first | (simp (maxDischargeDepth := 9) -implicitDefEqProofs -dsimp only [go_sem, seval, *]; done) | omega)))); (focus (first | trivial | with_reducible exact rfl | (simp (maxDischargeDepth := 9) -implicitDefEqProofs -dsimp only [go_sem, seval]; done)))))
    refine fin_eq ?_
    (repeat' (first | simp (maxDischargeDepth := 9) -implicitDefEqProofs -dsimp only [go_sem, seval, *])) <;> (repeat' refine And.intro ?_ ?_) <;> (first | omega | rfl | assumption | skip)
  subst hf0
  obtain ⟨k1, ⟨k2, k3⟩, k4, k5, k6⟩ := hok x hR
  have z5 := fun τ => sz_Expr d x x.w τ hsl (by omega) hf
  have z6 := fun τ => sz_Expr d x 0 τ hsl (by omega) hf
  have z7 := fun τ => rf_SameE x x τ (by omega) (by omega)
  have z8 := fun τ => sz_CheckE d x τ hsl (by omega) hf
  rw [k4] at z5
  rw [k5] at z6
  rw [same_self] at z7
  rw [k6] at z8
  clear k4 k5 k6 hm hf hz hok hR hn he hd hw hsl
  by_cases w0 : w = 0
  · have wb : (w == 0) = true := by simp [w0]
    clear k1 w0
    repeat' (first | simp (maxDischargeDepth := 9) -implicitDefEqProofs -dsimp only [go_sem, seval, ge_iff_le, *] | ((with_reducible refine Zt (fun oF hoF hnF hnF' => ?_)); (try simp only [upd_none, ne_eq, not_and] at hoF)) | ((with_reducible apply ACalls.one1); (focus (first | ((first | with_reducible refine z1 _ | with_reducible refine z2 _ | with_reducible refine z3 _ | with_reducible refine z4 _ | with_reducible refine z5 _ | with_reducible refine z6 _ | with_reducible refine z7 _ | with_reducible refine z8 _) <;> (first | (simp (maxDischargeDepth := 9) -implicitDefEqProofs -dsimp only [go_sem, seval, *]; done) | omega)) | (with_reducible refine ACalls.flA (z1 _) ?_ <;> (first | (simp (maxDischargeDepth := 9) -implicitDefEqProofs -dsimp only [go_sem, seval, *]; done) | omega)) | (with_reducible refine ACalls.flA (z2 _) ?_ <;> (first | (simp (maxDischargeDepth := 9) -implicitDefEqProofs -dsimp only [go_sem, seval, *]; done) | omega)) | (with_reducible refine ACalls.flA (z3 _) ?_ <;> (first | (simp (maxDischargeDepth := 9) -implicitDefEqProofs -dsimp only [go_sem, seval, *]; done) | omega)) | (with_reducible refine ACalls.flA (z4 _) ?_ <;> (first | (simp (maxDischargeDepth := 9) -implicitDefEqProofs -dsimp only [go_sem, seval, *]; done) | omega)) | (with_reducible refine ACalls.flA (z5 _) ?_ <;> (first | (simp (maxDischargeDepth := 9) -implicitDefEqProofs -dsimp only [go_sem, seval, *]; done) | omega)) | (with_reducible refine ACalls.flA (z6 _) ?_ <;> (first | (simp (maxDischargeDepth := 9) -implicitDefEqProofs -dsimp only [go_sem, seval, *]; done) | omega)) | (with_reducible refine ACalls.flA (z7 _) ?_ <;> (first | (simp (maxDischargeDepth := 9) -implicitDefEqProofs -dsimp only [go_sem, seval, *]; done) | omega)) | (with_reducible refine ACalls.flA (z8 _) ?_ <;> (first | (simp (maxDischargeDepth := 9) -implicitDefEqProofs -dsimp only [go_sem, seval, *]; done) | omega)))); (focus (first | trivial | with_reducible exact rfl | (simp (maxDischargeDepth := 9) -implicitDefEqProofs -dsimp only [go_sem, seval]; done)))))
    refine fin_eq ?_
    (repeat' (first | simp (maxDischargeDepth := 9) -implicitDefEqProofs -dsimp only [go_sem, seval, *])) <;> (repeat' refine And.intro ?_ ?_) <;> (first | omega | rfl | assumption | skip)
  · have wb : (w == 0) = false := by simp [w0]
    have wc : (x.w == w) = true := by
      rcases k1 with h | h
      · exact (w0 h).elim
      · simp [h]
    clear k1 w0
    repeat' (first | simp (maxDischargeDepth := 9) -implicitDefEqProofs -dsimp only [go_sem, seval, ge_iff_le, *] | ((with_reducible refine Zt (fun oF hoF hnF hnF' => ?_)); (try simp only [upd_none, ne_eq, not_and] at hoF)) | ((with_reducible apply ACalls.one1); (focus (first | ((first | with_reducible refine z1 _ | with_reducible refine z2 _ | with_reducible refine z3 _ | with_reducible refine z4 _ | with_reducible refine z5 _ | with_reducible refine z6 _ | with_reducible refine z7 _ | with_reducible refine z8 _) <;> (first | (simp (maxDischargeDepth := 9) -implicitDefEqProofs -dsimp only [go_sem, seval, *]; done) | omega)) | (with_reducible refine ACalls.flA (z1 _) ?_ <;> (first | (simp (maxDischargeDepth := 9) -implicitDefEqProofs -dsimp only [go_sem, seval, *]; done) | omega)) | (with_reducible refine ACalls.flA (z2 _) ?_ <;> (first | (simp (maxDischargeDepth := 9) -implicitDefEqProofs -dsimp only [go_sem, seval, *]; done) | omega)) | (with_reducible refine ACalls.flA (z3 _) ?_ <;> (first | (simp (maxDischargeDepth := 9) -implicitDefEqProofs -dsimp only [go_sem, seval, *]; done) | omega)) | (with_reducible refine ACalls.flA (z4 _) ?_ <;> (first | (simp (maxDischargeDepth := 9) -implicitDefEqProofs -dsimp only [go_sem, seval, *]; done) | omega)) | (with_reducible refine ACalls.flA (z5 _) ?_ <;> (first | (simp (maxDischargeDepth := 9) -implicitDefEqProofs -dsimp only [go_sem, seval, *]; done) | omega)) | (with_reducible refine ACalls.flA (z6 _) ?_ <;> (first | (simp (maxDischargeDepth := 9) -implicitDefEqProofs -dsimp only [go_sem, seval, *]; done) | omega)) | (with_reducible refine ACalls.flA (z7 _) ?_ <;> (first | (simp (maxDischargeDepth := 9) -implicitDefEqProofs -dsimp only [go_sem, seval, *]; done) | omega)) | (with_reducible refine ACalls.flA (z8 _) ?_ <;> (first | (simp (maxDischargeDepth := 9) -implicitDefEqProofs -dsimp only [go_sem, seval, *]; done) | omega)))); (focus (first | trivial | with_reducible exact rfl | (simp (maxDischargeDepth := 9) -implicitDefEqProofs -dsimp only [go_sem, seval]; done)))))
    refine fin_eq ?_
    (repeat' (first | simp (maxDischargeDepth := 9) -implicitDefEqProofs -dsimp only [go_sem, seval, *])) <;> (repeat' refine And.intro ?_ ?_) <;> (first | omega | rfl | assumption | skip)
end Go.Proofs.Ytdiebjnjhgbklaa

