/- THE STATEMENT BddSomes: for whatever arguments the call returns true, and each argument reads as it did. No condition beyond the statement's own. -/
import Derived.Test.YteabanjbgpplmaaBddBddX
import Derived.Test.YteabanjbgpplmaaBddPart
import Derived.Test.YteabanjbgpplmaaAigModel
import Derived.Test.YteabanjbgpplmaaAbsU
import Derived.Test.YteabanjbgpplmaaBddEnc
import Derived.Test.YteabanjbgpplmaaBddOps
import Derived.Test.YteabanjbgpplmaaRows
import Derived.WalkKit
import Derived.ProofKit
set_option linter.unusedSimpArgs false
set_option linter.unusedVariables false
-- NODRAW
-- LIGHT
namespace Go.Proofs.Yteabanjbgpplmaa
open Abs Fil Fil.Bd

theorem xor_nat (a b : Nat) (h1 : a < 2 ^ 62) (h2 : b < 2 ^ 62) : IntKind.i64.wrap ((BitVec.ofInt IntKind.i64.bits (a : Int) ^^^ BitVec.ofInt IntKind.i64.bits (b : Int)).toNat : Nat) = ((a ^^^ b : Nat) : Int) := by
  have hx : a ^^^ b < 2 ^ 62 := Nat.xor_lt_two_pow h1 h2
  have e : (BitVec.ofInt 64 (a : Int) ^^^ BitVec.ofInt 64 (b : Int)).toNat = a ^^^ b := by
    rw [BitVec.toNat_xor, ofInt_nat, ofInt_nat]
    have e1 : (((a : Int) % 18446744073709551616).toNat) = a := by omega
    have e2 : (((b : Int) % 18446744073709551616).toNat) = b := by omega
    rw [e1, e2]
  show IntKind.i64.wrap ((BitVec.ofInt 64 (a : Int) ^^^ BitVec.ofInt 64 (b : Int)).toNat : Nat) = _
  rw [e]
  exact wrap64 _ (by omega) (by omega)

set_option maxHeartbeats 2000000 in
theorem ref_Var (b : D) (v : Int) (σ : Sig) (hl : b.2.length ≤ 9223372036854775807) :
    ACalls Try.prog 29 [encB b.1 b.2, .int .i64 v] σ (fun r σ' => r = .ret (.tup [encB (varW b v).1.1 (varW b v).1.2, .int .i64 (varW b v).2.1, .int .i64 (varW b v).2.2]) ∧ σ' = σ) := by
  refine ACalls.virt (callable_of Try.func29 b29 n29) 1 (fun oV1 hoV1 hnV1 hnV1' => ?_); (try simp only [upd_none, ne_eq, not_and] at hoV1); refine calls_x mixed Try.func29 b29 n29 rfl q29 (by simp) ?_; unfold c29 r29
  obtain ⟨e, he⟩ : ∃ e, chk b.1 b.2 = e := ⟨_, rfl⟩
  by_cases h0 : e = 0
  · subst h0
    have ez : ((0 : Int) != 0) = false := by decide
    have hf := chk_fine.1 he
    cases hout : off b v with
    | true =>
      have hw : varW b v = ((0, []), 0, 1) := by unfold varW; rw [ask_arg hf (by simp [hout]), op_err (by decide)]
      rw [hw]
      simp only [off, Bool.or_eq_true, decide_eq_true_eq] at hout
      clear hw
      repeat' (first | simp (maxDischargeDepth := 9) -implicitDefEqProofs -dsimp only [go_sem, Nat.reduceEqDiff, Nat.reduceAdd, Nat.reduceSub, Nat.reduceMul, Nat.reduceLeDiff, reduceIte, reduceCtorEq, Int.reduceEq, Int.reduceLE, Int.reduceLT, Int.reduceToNat, List.map_nil, ge_iff_le, *] | simp (disch := omega) only [wrap64, tdiv2, tmod2, and1, xor1, xor_is1, shr1, shr1'] | (with_reducible (first | apply gd_td | apply gd_fd | apply br_d | apply gd_tbl | apply gd_fbl | apply br_bl | apply gd_tnl | apply gd_fnl | apply br_nl | apply gd_tb | apply gd_fb | apply br_b | apply gd_tn | apply gd_fn | apply br_n | apply gd_t | apply gd_f | apply br_split | apply ifnil_i) <;> intro hq) | ((with_reducible refine req_i ?_ ?_); focus (first | omega | exact rfl)) | ((with_reducible refine wth_map ?_ ?_); focus omega) | ((with_reducible refine fresh_i (fun oF hoF hnF hnF' => ?_)); clear hnF hnF'; (try simp only [upd_none_s, ne_eq] at hoF)) | ((with_reducible apply ACalls.one1); (focus (first | ((first | with_reducible refine ref_Check b.1 b.2 _ hl) <;> (first | (simp (maxDischargeDepth := 9) -implicitDefEqProofs -dsimp only [go_sem, Nat.reduceEqDiff, Nat.reduceAdd, Nat.reduceSub, Nat.reduceMul, Nat.reduceLeDiff, reduceIte, reduceCtorEq, Int.reduceEq, Int.reduceLE, Int.reduceLT, Int.reduceToNat, *]; done) | omega | ((with_reducible refine Sub.get hS ?_); simp (maxDischargeDepth := 9) -implicitDefEqProofs -dsimp only [go_sem, Nat.reduceEqDiff, Nat.reduceAdd, Nat.reduceSub, Nat.reduceMul, Nat.reduceLeDiff, reduceIte, reduceCtorEq, Int.reduceEq, Int.reduceLE, Int.reduceLT, Int.reduceToNat, *]; done))) | (with_reducible refine ACalls.flA (ref_Check b.1 b.2 _ hl) ?_ <;> (first | (simp (maxDischargeDepth := 9) -implicitDefEqProofs -dsimp only [go_sem, Nat.reduceEqDiff, Nat.reduceAdd, Nat.reduceSub, Nat.reduceMul, Nat.reduceLeDiff, reduceIte, reduceCtorEq, Int.reduceEq, Int.reduceLE, Int.reduceLT, Int.reduceToNat, *]; done) | omega | ((with_reducible refine Sub.get hS ?_); simp (maxDischargeDepth := 9) -implicitDefEqProofs -dsimp only [go_sem, Nat.reduceEqDiff, Nat.reduceAdd, Nat.reduceSub, Nat.reduceMul, Nat.reduceLeDiff, reduceIte, reduceCtorEq, Int.reduceEq, Int.reduceLE, Int.reduceLT, Int.reduceToNat, *]; done))))); (focus (first | trivial | with_reducible exact rfl | (simp (maxDischargeDepth := 9) -implicitDefEqProofs -dsimp only [go_sem, Nat.reduceEqDiff, Nat.reduceAdd, Nat.reduceSub, Nat.reduceMul, Nat.reduceLeDiff, reduceIte, reduceCtorEq, Int.reduceEq, Int.reduceLE, Int.reduceLT, Int.reduceToNat]; done)))) | fail)
      all_goals first | (exfalso; omega) | (refine fin_eq ?_; (repeat' (first | simp (maxDischargeDepth := 9) -implicitDefEqProofs -dsimp only [go_sem, Nat.reduceEqDiff, Nat.reduceAdd, Nat.reduceSub, Nat.reduceMul, Nat.reduceLeDiff, reduceIte, reduceCtorEq, Int.reduceEq, Int.reduceLE, Int.reduceLT, Int.reduceToNat, List.map_nil, *] | simp (disch := omega) only [wrap64, tdiv2, tmod2, and1, xor1, xor_is1, shr1, shr1'])) <;> (repeat' refine And.intro ?_ ?_) <;> (first | omega | rfl | assumption | skip); done)
    | false =>
      have hw : varW b v = ((b.1, (put b.1.toNat b.2 0 (varT b.1.toNat v.toNat)).1), (put b.1.toNat b.2 0 (varT b.1.toNat v.toNat)).2, 0) := by
        unfold varW opW; rw [ask_ok hf (by simp [hout])]; rfl
      rw [hw]
      simp only [off, Bool.or_eq_false_iff, decide_eq_false_iff_not] at hout
      obtain ⟨o1, o2⟩ := hout
      have hlo := hf.lo
      clear hw
      obtain ⟨vars, F⟩ := b
      simp only at *
      obtain ⟨n, rfl⟩ : ∃ n : Nat, vars = n := ⟨vars.toNat, by omega⟩
      obtain ⟨d, rfl⟩ : ∃ d : Nat, v = d := ⟨v.toNat, by omega⟩
      rw [Int.toNat_natCast, Int.toNat_natCast]
      have n32 := hf.few
      have hp : 2 ^ n ≤ 2 ^ 32 := Nat.pow_le_pow_right (by decide) (by omega)
      have hWl := varT_len n d (by omega)
      have hW := fun i => varT_getD n d i (by omega)
      generalize varT n d = W at *
      have ct := fun τ => ref_told n F W τ hWl hf.two hf.all (by omega)
      have hs := shl_one (n := n) (by omega)
      have hku := u64_id (k := n) (by omega)
      have hkm : Nat.min n 64 = n := Nat.min_eq_left (by omega)
      have hd0 : ¬ (n : Int) < 0 := by omega
      obtain ⟨m, hm⟩ : ∃ m : Nat, (n : Int) - 1 - d = m := ⟨((n : Int) - 1 - d).toNat, by omega⟩
      have hm' : n - 1 - d = m := by omega
      have hmu := u64_id (k := m) (by omega)
      have hmm : Nat.min m 64 = m := Nat.min_eq_left (by omega)
      have hm0 : ¬ (m : Int) < 0 := by omega
      rw [hm'] at hW
      obtain ⟨P, hP⟩ : ∃ P : Nat, 2 ^ n = P := ⟨_, rfl⟩
      rw [hP] at hWl hs hp hW
      have kW : W.length ≤ P ∧ P ≤ W.length := by omega
      clear hf hWl
      repeat' (first | simp (maxDischargeDepth := 9) -implicitDefEqProofs -dsimp only [go_sem, Nat.reduceEqDiff, Nat.reduceAdd, Nat.reduceSub, Nat.reduceMul, Nat.reduceLeDiff, reduceIte, reduceCtorEq, Int.reduceEq, Int.reduceLE, Int.reduceLT, Int.reduceToNat, ge_iff_le, *] | simp (disch := omega) only [wrap64, tdiv2, tmod2, and1, xor1, xor_is1, shr1, shr1'] | (with_reducible (first | apply gd_td | apply gd_fd | apply br_d | apply gd_tbl | apply gd_fbl | apply br_bl | apply gd_tnl | apply gd_fnl | apply br_nl | apply gd_tb | apply gd_fb | apply br_b | apply gd_tn | apply gd_fn | apply br_n | apply gd_t | apply gd_f | apply br_split | apply ifnil_i) <;> intro hq) | ((with_reducible refine req_i ?_ ?_); focus (first | omega | exact rfl)) | ((with_reducible refine wth_map ?_ ?_); focus omega) | ((with_reducible refine fresh_i (fun oF hoF hnF hnF' => ?_)); clear hnF hnF'; (try simp only [upd_none_s, ne_eq] at hoF)) | ((with_reducible apply ACalls.one1); (focus (first | ((first | with_reducible refine ref_Check n F _ hl) <;> (first | (simp (maxDischargeDepth := 9) -implicitDefEqProofs -dsimp only [go_sem, Nat.reduceEqDiff, Nat.reduceAdd, Nat.reduceSub, Nat.reduceMul, Nat.reduceLeDiff, reduceIte, reduceCtorEq, Int.reduceEq, Int.reduceLE, Int.reduceLT, Int.reduceToNat, *]; done) | omega | ((with_reducible refine Sub.get hS ?_); simp (maxDischargeDepth := 9) -implicitDefEqProofs -dsimp only [go_sem, Nat.reduceEqDiff, Nat.reduceAdd, Nat.reduceSub, Nat.reduceMul, Nat.reduceLeDiff, reduceIte, reduceCtorEq, Int.reduceEq, Int.reduceLE, Int.reduceLT, Int.reduceToNat, *]; done))) | (with_reducible refine ACalls.flA (ref_Check n F _ hl) ?_ <;> (first | (simp (maxDischargeDepth := 9) -implicitDefEqProofs -dsimp only [go_sem, Nat.reduceEqDiff, Nat.reduceAdd, Nat.reduceSub, Nat.reduceMul, Nat.reduceLeDiff, reduceIte, reduceCtorEq, Int.reduceEq, Int.reduceLE, Int.reduceLT, Int.reduceToNat, *]; done) | omega | ((with_reducible refine Sub.get hS ?_); simp (maxDischargeDepth := 9) -implicitDefEqProofs -dsimp only [go_sem, Nat.reduceEqDiff, Nat.reduceAdd, Nat.reduceSub, Nat.reduceMul, Nat.reduceLeDiff, reduceIte, reduceCtorEq, Int.reduceEq, Int.reduceLE, Int.reduceLT, Int.reduceToNat, *]; done))))); (focus (first | trivial | with_reducible exact rfl | (simp (maxDischargeDepth := 9) -implicitDefEqProofs -dsimp only [go_sem, Nat.reduceEqDiff, Nat.reduceAdd, Nat.reduceSub, Nat.reduceMul, Nat.reduceLeDiff, reduceIte, reduceCtorEq, Int.reduceEq, Int.reduceLE, Int.reduceLT, Int.reduceToNat]; done)))) | fail)
      refine loop_rule (fun i : Nat => [(9, some (.int .i64 i)), (2, some (.cptr [.int .i64 n, .slice (F.map encF) .no])), (4, some (.ptr oF 0)), (1, some (.int .i64 d)), (8, some (.slice ((W.take i).map encBool) (.own oV1)))])
        (fun i => upd (upd σ oV1 (.grow 1 i)) oF (.cells [.int .i64 0, .slice [] .nil])) (fun i => i ≤ P) (fun i => P - i) 0 ?_ ?_
      · (repeat' (first | simp (maxDischargeDepth := 9) -implicitDefEqProofs -dsimp only [go_sem, Nat.reduceEqDiff, Nat.reduceAdd, Nat.reduceSub, Nat.reduceMul, Nat.reduceLeDiff, reduceIte, reduceCtorEq, Int.reduceEq, Int.reduceLE, Int.reduceLT, Int.reduceToNat, *] | simp (disch := omega) only [wrap64, tdiv2, tmod2, and1, xor1, xor_is1, shr1, shr1'])) <;> (repeat' refine And.intro ?_ ?_) <;> (first | omega | rfl | assumption | skip)
      · intro i hi
        by_cases hlt : i < P
        · have hlt' : (i : Int) < P := by omega
          have hs' := take_getD (t := W) (i := i) (by omega)
          have hlen : (W.take i).length = i := by simp; omega
          rw [hW i hlt] at hs'
          obtain ⟨q, hq1, hq2⟩ := @shr_bit i m
          clear hW ct
          repeat' (first | simp (maxDischargeDepth := 9) -implicitDefEqProofs -dsimp only [go_sem, Nat.reduceEqDiff, Nat.reduceAdd, Nat.reduceSub, Nat.reduceMul, Nat.reduceLeDiff, reduceIte, reduceCtorEq, Int.reduceEq, Int.reduceLE, Int.reduceLT, Int.reduceToNat, szs_bool, *] | simp (disch := omega) only [wrap64, tdiv2, tmod2, and1, xor1, xor_is1, shr1, shr1'] | (with_reducible (first | apply gd_td | apply gd_fd | apply br_d | apply gd_tbl | apply gd_fbl | apply br_bl | apply gd_tnl | apply gd_fnl | apply br_nl | apply gd_tb | apply gd_fb | apply br_b | apply gd_tn | apply gd_fn | apply br_n | apply gd_t | apply gd_f | apply br_split | apply ifnil_i) <;> intro hq) | ((with_reducible refine req_i ?_ ?_); focus (first | omega | exact rfl)) | ((with_reducible refine wth_map ?_ ?_); focus omega) | ((with_reducible refine fresh_i (fun oF hoF hnF hnF' => ?_)); clear hnF hnF'; (try simp only [upd_none_s, ne_eq] at hoF)) | fail)
          refine loop_next _ _ _ _ (i + 1) ?_; (repeat' (first | simp (maxDischargeDepth := 9) -implicitDefEqProofs -dsimp only [go_sem, Nat.reduceEqDiff, Nat.reduceAdd, Nat.reduceSub, Nat.reduceMul, Nat.reduceLeDiff, reduceIte, reduceCtorEq, Int.reduceEq, Int.reduceLE, Int.reduceLT, Int.reduceToNat,  List.map_append, List.map_cons, List.map_nil, *] | simp (disch := omega) only [wrap64, tdiv2, tmod2, and1, xor1, xor_is1, shr1, shr1'])) <;> (repeat' refine And.intro ?_ ?_) <;> (first | omega | rfl | assumption | skip)
        · have hlt' : ¬ (i : Int) < P := by omega
          have e0 : W.take i = W := List.take_of_length_le (by omega)
          clear hW
          repeat' (first | simp (maxDischargeDepth := 9) -implicitDefEqProofs -dsimp only [go_sem, Nat.reduceEqDiff, Nat.reduceAdd, Nat.reduceSub, Nat.reduceMul, Nat.reduceLeDiff, reduceIte, reduceCtorEq, Int.reduceEq, Int.reduceLE, Int.reduceLT, Int.reduceToNat, *] | simp (disch := omega) only [wrap64, tdiv2, tmod2, and1, xor1, xor_is1, shr1, shr1'] | (with_reducible (first | apply gd_td | apply gd_fd | apply br_d | apply gd_tbl | apply gd_fbl | apply br_bl | apply gd_tnl | apply gd_fnl | apply br_nl | apply gd_tb | apply gd_fb | apply br_b | apply gd_tn | apply gd_fn | apply br_n | apply gd_t | apply gd_f | apply br_split | apply ifnil_i) <;> intro hq) | ((with_reducible refine req_i ?_ ?_); focus (first | omega | exact rfl)) | ((with_reducible refine wth_map ?_ ?_); focus omega) | ((with_reducible refine fresh_i (fun oF hoF hnF hnF' => ?_)); clear hnF hnF'; (try simp only [upd_none_s, ne_eq] at hoF)) | ((with_reducible apply ACalls.one1); (focus (first | ((first | with_reducible refine ct _) <;> (first | (simp (maxDischargeDepth := 9) -implicitDefEqProofs -dsimp only [go_sem, Nat.reduceEqDiff, Nat.reduceAdd, Nat.reduceSub, Nat.reduceMul, Nat.reduceLeDiff, reduceIte, reduceCtorEq, Int.reduceEq, Int.reduceLE, Int.reduceLT, Int.reduceToNat, *]; done) | omega | ((with_reducible refine Sub.get hS ?_); simp (maxDischargeDepth := 9) -implicitDefEqProofs -dsimp only [go_sem, Nat.reduceEqDiff, Nat.reduceAdd, Nat.reduceSub, Nat.reduceMul, Nat.reduceLeDiff, reduceIte, reduceCtorEq, Int.reduceEq, Int.reduceLE, Int.reduceLT, Int.reduceToNat, *]; done))) | (with_reducible refine ACalls.flA (ct _) ?_ <;> (first | (simp (maxDischargeDepth := 9) -implicitDefEqProofs -dsimp only [go_sem, Nat.reduceEqDiff, Nat.reduceAdd, Nat.reduceSub, Nat.reduceMul, Nat.reduceLeDiff, reduceIte, reduceCtorEq, Int.reduceEq, Int.reduceLE, Int.reduceLT, Int.reduceToNat, *]; done) | omega | ((with_reducible refine Sub.get hS ?_); simp (maxDischargeDepth := 9) -implicitDefEqProofs -dsimp only [go_sem, Nat.reduceEqDiff, Nat.reduceAdd, Nat.reduceSub, Nat.reduceMul, Nat.reduceLeDiff, reduceIte, reduceCtorEq, Int.reduceEq, Int.reduceLE, Int.reduceLT, Int.reduceToNat, *]; done))))); (focus (first | trivial | with_reducible exact rfl | (simp (maxDischargeDepth := 9) -implicitDefEqProofs -dsimp only [go_sem, Nat.reduceEqDiff, Nat.reduceAdd, Nat.reduceSub, Nat.reduceMul, Nat.reduceLeDiff, reduceIte, reduceCtorEq, Int.reduceEq, Int.reduceLE, Int.reduceLT, Int.reduceToNat]; done)))) | fail)
          refine fin_eq ?_
          (repeat' (first | simp (maxDischargeDepth := 9) -implicitDefEqProofs -dsimp only [go_sem, Nat.reduceEqDiff, Nat.reduceAdd, Nat.reduceSub, Nat.reduceMul, Nat.reduceLeDiff, reduceIte, reduceCtorEq, Int.reduceEq, Int.reduceLE, Int.reduceLT, Int.reduceToNat, *] | simp (disch := omega) only [wrap64, tdiv2, tmod2, and1, xor1, xor_is1, shr1, shr1'])) <;> (repeat' refine And.intro ?_ ?_) <;> (first | omega | rfl | assumption | skip)
  · have hb : (e != 0) = true := by simpa using h0
    have hw : varW b v = ((0, []), 0, e) := by unfold varW; rw [ask_err he h0, op_err h0]
    rw [hw]
    repeat' (first | simp (maxDischargeDepth := 9) -implicitDefEqProofs -dsimp only [go_sem, Nat.reduceEqDiff, Nat.reduceAdd, Nat.reduceSub, Nat.reduceMul, Nat.reduceLeDiff, reduceIte, reduceCtorEq, Int.reduceEq, Int.reduceLE, Int.reduceLT, Int.reduceToNat, List.map_nil, *] | simp (disch := omega) only [wrap64, tdiv2, tmod2, and1, xor1, xor_is1, shr1, shr1'] | (with_reducible (first | apply gd_td | apply gd_fd | apply br_d | apply gd_tbl | apply gd_fbl | apply br_bl | apply gd_tnl | apply gd_fnl | apply br_nl | apply gd_tb | apply gd_fb | apply br_b | apply gd_tn | apply gd_fn | apply br_n | apply gd_t | apply gd_f | apply br_split | apply ifnil_i) <;> intro hq) | ((with_reducible refine req_i ?_ ?_); focus (first | omega | exact rfl)) | ((with_reducible refine wth_map ?_ ?_); focus omega) | ((with_reducible refine fresh_i (fun oF hoF hnF hnF' => ?_)); clear hnF hnF'; (try simp only [upd_none_s, ne_eq] at hoF)) | ((with_reducible apply ACalls.one1); (focus (first | ((first | with_reducible refine ref_Check b.1 b.2 _ hl) <;> (first | (simp (maxDischargeDepth := 9) -implicitDefEqProofs -dsimp only [go_sem, Nat.reduceEqDiff, Nat.reduceAdd, Nat.reduceSub, Nat.reduceMul, Nat.reduceLeDiff, reduceIte, reduceCtorEq, Int.reduceEq, Int.reduceLE, Int.reduceLT, Int.reduceToNat, *]; done) | omega | ((with_reducible refine Sub.get hS ?_); simp (maxDischargeDepth := 9) -implicitDefEqProofs -dsimp only [go_sem, Nat.reduceEqDiff, Nat.reduceAdd, Nat.reduceSub, Nat.reduceMul, Nat.reduceLeDiff, reduceIte, reduceCtorEq, Int.reduceEq, Int.reduceLE, Int.reduceLT, Int.reduceToNat, *]; done))) | (with_reducible refine ACalls.flA (ref_Check b.1 b.2 _ hl) ?_ <;> (first | (simp (maxDischargeDepth := 9) -implicitDefEqProofs -dsimp only [go_sem, Nat.reduceEqDiff, Nat.reduceAdd, Nat.reduceSub, Nat.reduceMul, Nat.reduceLeDiff, reduceIte, reduceCtorEq, Int.reduceEq, Int.reduceLE, Int.reduceLT, Int.reduceToNat, *]; done) | omega | ((with_reducible refine Sub.get hS ?_); simp (maxDischargeDepth := 9) -implicitDefEqProofs -dsimp only [go_sem, Nat.reduceEqDiff, Nat.reduceAdd, Nat.reduceSub, Nat.reduceMul, Nat.reduceLeDiff, reduceIte, reduceCtorEq, Int.reduceEq, Int.reduceLE, Int.reduceLT, Int.reduceToNat, *]; done))))); (focus (first | trivial | with_reducible exact rfl | (simp (maxDischargeDepth := 9) -implicitDefEqProofs -dsimp only [go_sem, Nat.reduceEqDiff, Nat.reduceAdd, Nat.reduceSub, Nat.reduceMul, Nat.reduceLeDiff, reduceIte, reduceCtorEq, Int.reduceEq, Int.reduceLE, Int.reduceLT, Int.reduceToNat]; done)))) | fail)
    refine fin_eq ?_
    (repeat' (first | simp (maxDischargeDepth := 9) -implicitDefEqProofs -dsimp only [go_sem, Nat.reduceEqDiff, Nat.reduceAdd, Nat.reduceSub, Nat.reduceMul, Nat.reduceLeDiff, reduceIte, reduceCtorEq, Int.reduceEq, Int.reduceLE, Int.reduceLT, Int.reduceToNat, List.map_nil, *] | simp (disch := omega) only [wrap64, tdiv2, tmod2, and1, xor1, xor_is1, shr1, shr1'])) <;> (repeat' refine And.intro ?_ ?_) <;> (first | omega | rfl | assumption | skip)

set_option maxHeartbeats 2000000 in
theorem ref_Some (b : D) (f v : Int) (σ : Sig) (hl : b.2.length ≤ 9223372036854775807) :
    ACalls Try.prog 27 [encB b.1 b.2, .int .i64 f, .int .i64 v] σ (fun r σ' => r = .ret (.tup [encB (someW b f v).1.1 (someW b f v).1.2, .int .i64 (someW b f v).2.1, .int .i64 (someW b f v).2.2]) ∧ σ' = σ) := by
  refine ACalls.virt (callable_of Try.func27 b27 n27) 1 (fun oV1 hoV1 hnV1 hnV1' => ?_); (try simp only [upd_none, ne_eq, not_and] at hoV1); refine calls_x mixed Try.func27 b27 n27 rfl q27 (by simp) ?_; unfold c27 r27
  obtain ⟨e, he⟩ : ∃ e, chk b.1 b.2 = e := ⟨_, rfl⟩
  by_cases h0 : e = 0
  · subst h0
    have ez : ((0 : Int) != 0) = false := by decide
    have hf := chk_fine.1 he
    by_cases hout : ([f].any (outside b.2) || off b v) = true
    · have hw : someW b f v = ((0, []), 0, 1) := by unfold someW; rw [ask_arg hf hout, op_err (by decide)]
      rw [hw]
      simp only [List.any_cons, List.any_nil, Bool.or_false, off, Bool.or_eq_true, decide_eq_true_eq] at hout
      clear hw
      repeat' (first | simp (maxDischargeDepth := 9) -implicitDefEqProofs -dsimp only [go_sem, Nat.reduceEqDiff, Nat.reduceAdd, Nat.reduceSub, Nat.reduceMul, Nat.reduceLeDiff, reduceIte, reduceCtorEq, Int.reduceEq, Int.reduceLE, Int.reduceLT, Int.reduceToNat, List.map_nil, ge_iff_le, *] | simp (disch := omega) only [wrap64, tdiv2, tmod2, and1, xor1, xor_is1, shr1, shr1'] | (with_reducible (first | apply gd_td | apply gd_fd | apply br_d | apply gd_tbl | apply gd_fbl | apply br_bl | apply gd_tnl | apply gd_fnl | apply br_nl | apply gd_tb | apply gd_fb | apply br_b | apply gd_tn | apply gd_fn | apply br_n | apply gd_t | apply gd_f | apply br_split | apply ifnil_i) <;> intro hq) | ((with_reducible refine req_i ?_ ?_); focus (first | omega | exact rfl)) | ((with_reducible refine wth_map ?_ ?_); focus omega) | ((with_reducible refine fresh_i (fun oF hoF hnF hnF' => ?_)); clear hnF hnF'; (try simp only [upd_none_s, ne_eq] at hoF)) | ((with_reducible apply ACalls.one1); (focus (first | ((first | with_reducible refine ref_Check b.1 b.2 _ hl | with_reducible refine ref_node b f _) <;> (first | (simp (maxDischargeDepth := 9) -implicitDefEqProofs -dsimp only [go_sem, Nat.reduceEqDiff, Nat.reduceAdd, Nat.reduceSub, Nat.reduceMul, Nat.reduceLeDiff, reduceIte, reduceCtorEq, Int.reduceEq, Int.reduceLE, Int.reduceLT, Int.reduceToNat, *]; done) | omega | ((with_reducible refine Sub.get hS ?_); simp (maxDischargeDepth := 9) -implicitDefEqProofs -dsimp only [go_sem, Nat.reduceEqDiff, Nat.reduceAdd, Nat.reduceSub, Nat.reduceMul, Nat.reduceLeDiff, reduceIte, reduceCtorEq, Int.reduceEq, Int.reduceLE, Int.reduceLT, Int.reduceToNat, *]; done))) | (with_reducible refine ACalls.flA (ref_Check b.1 b.2 _ hl) ?_ <;> (first | (simp (maxDischargeDepth := 9) -implicitDefEqProofs -dsimp only [go_sem, Nat.reduceEqDiff, Nat.reduceAdd, Nat.reduceSub, Nat.reduceMul, Nat.reduceLeDiff, reduceIte, reduceCtorEq, Int.reduceEq, Int.reduceLE, Int.reduceLT, Int.reduceToNat, *]; done) | omega | ((with_reducible refine Sub.get hS ?_); simp (maxDischargeDepth := 9) -implicitDefEqProofs -dsimp only [go_sem, Nat.reduceEqDiff, Nat.reduceAdd, Nat.reduceSub, Nat.reduceMul, Nat.reduceLeDiff, reduceIte, reduceCtorEq, Int.reduceEq, Int.reduceLE, Int.reduceLT, Int.reduceToNat, *]; done))) | (with_reducible refine ACalls.flA (ref_node b f _) ?_ <;> (first | (simp (maxDischargeDepth := 9) -implicitDefEqProofs -dsimp only [go_sem, Nat.reduceEqDiff, Nat.reduceAdd, Nat.reduceSub, Nat.reduceMul, Nat.reduceLeDiff, reduceIte, reduceCtorEq, Int.reduceEq, Int.reduceLE, Int.reduceLT, Int.reduceToNat, *]; done) | omega | ((with_reducible refine Sub.get hS ?_); simp (maxDischargeDepth := 9) -implicitDefEqProofs -dsimp only [go_sem, Nat.reduceEqDiff, Nat.reduceAdd, Nat.reduceSub, Nat.reduceMul, Nat.reduceLeDiff, reduceIte, reduceCtorEq, Int.reduceEq, Int.reduceLE, Int.reduceLT, Int.reduceToNat, *]; done))))); (focus (first | trivial | with_reducible exact rfl | (simp (maxDischargeDepth := 9) -implicitDefEqProofs -dsimp only [go_sem, Nat.reduceEqDiff, Nat.reduceAdd, Nat.reduceSub, Nat.reduceMul, Nat.reduceLeDiff, reduceIte, reduceCtorEq, Int.reduceEq, Int.reduceLE, Int.reduceLT, Int.reduceToNat]; done)))) | fail)
      all_goals first | (refine fin_eq ?_; (repeat' (first | simp (maxDischargeDepth := 9) -implicitDefEqProofs -dsimp only [go_sem, Nat.reduceEqDiff, Nat.reduceAdd, Nat.reduceSub, Nat.reduceMul, Nat.reduceLeDiff, reduceIte, reduceCtorEq, Int.reduceEq, Int.reduceLE, Int.reduceLT, Int.reduceToNat, List.map_nil, *] | simp (disch := omega) only [wrap64, tdiv2, tmod2, and1, xor1, xor_is1, shr1, shr1'])) <;> (repeat' refine And.intro ?_ ?_) <;> (first | omega | rfl | assumption | skip); done) | (exfalso; rcases hout with h | h | h <;> first | omega | simp_all)
    · have hout' : ([f].any (outside b.2) || off b v) = false := by simpa using hout
      have hw : someW b f v = ((b.1, (put b.1.toNat b.2 0 (exT b.1.toNat v.toNat (T b f))).1), (put b.1.toNat b.2 0 (exT b.1.toNat v.toNat (T b f))).2, 0) := by
        unfold someW opW; rw [ask_ok hf hout']; rfl
      rw [hw]
      simp only [List.any_cons, List.any_nil, Bool.or_false, off, Bool.or_eq_false_iff, decide_eq_false_iff_not] at hout'
      obtain ⟨o0, o1, o2⟩ := hout'
      have i1 := out_In o0 hf.toOk
      have hlo := hf.lo
      clear hw hout
      obtain ⟨vars, F⟩ := b
      simp only at *
      obtain ⟨n, rfl⟩ : ∃ n : Nat, vars = n := ⟨vars.toNat, by omega⟩
      obtain ⟨d, rfl⟩ : ∃ d : Nat, v = d := ⟨v.toNat, by omega⟩
      rw [Int.toNat_natCast, Int.toNat_natCast]
      have n32 := hf.few
      have hp : 2 ^ n ≤ 2 ^ 32 := Nat.pow_le_pow_right (by decide) (by omega)
      have t1 : (T ((n : Int), F) f).length = 2 ^ n := T_len ((n : Int), F) f
      have c1 := fun τ => ref_table n F f τ hf i1
      generalize T ((n : Int), F) f = X at *
      have hWl := exT_len n d X t1
      have hW := fun i => exT_getD n d i X t1 (by omega)
      have hxor := fun i h => xor_lo (i := i) (k := n) (d := n - 1 - d) (by omega) h
      generalize exT n d X = W at *
      have ct := fun τ => ref_told n F W τ hWl hf.two hf.all (by omega)
      obtain ⟨m, hm⟩ : ∃ m : Nat, (n : Int) - 1 - d = m := ⟨((n : Int) - 1 - d).toNat, by omega⟩
      have hm' : n - 1 - d = m := by omega
      have hs := shl_one (n := m) (by omega)
      have hmu := u64_id (k := m) (by omega)
      have hmm : Nat.min m 64 = m := Nat.min_eq_left (by omega)
      have hm0 : ¬ (m : Int) < 0 := by omega
      have hM : 2 ^ m ≤ 2 ^ 32 := Nat.pow_le_pow_right (by decide) (by omega)
      rw [hm'] at hW hxor
      obtain ⟨P, hP⟩ : ∃ P : Nat, 2 ^ n = P := ⟨_, rfl⟩
      obtain ⟨M, hM'⟩ : ∃ M : Nat, 2 ^ m = M := ⟨_, rfl⟩
      rw [hP] at hWl hp hW hxor t1
      rw [hM'] at hM hs hW hxor
      have kW : (W.length ≤ P ∧ P ≤ W.length) ∧ (X.length ≤ P ∧ P ≤ X.length) := by omega
      obtain ⟨kW, kX⟩ := kW
      have q1 : (!outside F f) = true := by simp [o0]
      clear hf hWl t1 i1
      repeat' (first | simp (maxDischargeDepth := 9) -implicitDefEqProofs -dsimp only [go_sem, Nat.reduceEqDiff, Nat.reduceAdd, Nat.reduceSub, Nat.reduceMul, Nat.reduceLeDiff, reduceIte, reduceCtorEq, Int.reduceEq, Int.reduceLE, Int.reduceLT, Int.reduceToNat, ge_iff_le, *] | simp (disch := omega) only [wrap64, tdiv2, tmod2, and1, xor1, xor_is1, shr1, shr1'] | (with_reducible (first | apply gd_td | apply gd_fd | apply br_d | apply gd_tbl | apply gd_fbl | apply br_bl | apply gd_tnl | apply gd_fnl | apply br_nl | apply gd_tb | apply gd_fb | apply br_b | apply gd_tn | apply gd_fn | apply br_n | apply gd_t | apply gd_f | apply br_split | apply ifnil_i) <;> intro hq) | ((with_reducible refine req_i ?_ ?_); focus (first | omega | exact rfl)) | ((with_reducible refine wth_map ?_ ?_); focus omega) | ((with_reducible refine fresh_i (fun oF hoF hnF hnF' => ?_)); clear hnF hnF'; (try simp only [upd_none_s, ne_eq] at hoF)) | ((with_reducible apply ACalls.one1); (focus (first | ((first | with_reducible refine ref_Check n F _ hl | with_reducible refine ref_node (n, F) f _ | with_reducible refine c1 _) <;> (first | (simp (maxDischargeDepth := 9) -implicitDefEqProofs -dsimp only [go_sem, Nat.reduceEqDiff, Nat.reduceAdd, Nat.reduceSub, Nat.reduceMul, Nat.reduceLeDiff, reduceIte, reduceCtorEq, Int.reduceEq, Int.reduceLE, Int.reduceLT, Int.reduceToNat, *]; done) | omega | ((with_reducible refine Sub.get hS ?_); simp (maxDischargeDepth := 9) -implicitDefEqProofs -dsimp only [go_sem, Nat.reduceEqDiff, Nat.reduceAdd, Nat.reduceSub, Nat.reduceMul, Nat.reduceLeDiff, reduceIte, reduceCtorEq, Int.reduceEq, Int.reduceLE, Int.reduceLT, Int.reduceToNat, *]; done))) | (with_reducible refine ACalls.flA (ref_Check n F _ hl) ?_ <;> (first | (simp (maxDischargeDepth := 9) -implicitDefEqProofs -dsimp only [go_sem, Nat.reduceEqDiff, Nat.reduceAdd, Nat.reduceSub, Nat.reduceMul, Nat.reduceLeDiff, reduceIte, reduceCtorEq, Int.reduceEq, Int.reduceLE, Int.reduceLT, Int.reduceToNat, *]; done) | omega | ((with_reducible refine Sub.get hS ?_); simp (maxDischargeDepth := 9) -implicitDefEqProofs -dsimp only [go_sem, Nat.reduceEqDiff, Nat.reduceAdd, Nat.reduceSub, Nat.reduceMul, Nat.reduceLeDiff, reduceIte, reduceCtorEq, Int.reduceEq, Int.reduceLE, Int.reduceLT, Int.reduceToNat, *]; done))) | (with_reducible refine ACalls.flA (ref_node (n, F) f _) ?_ <;> (first | (simp (maxDischargeDepth := 9) -implicitDefEqProofs -dsimp only [go_sem, Nat.reduceEqDiff, Nat.reduceAdd, Nat.reduceSub, Nat.reduceMul, Nat.reduceLeDiff, reduceIte, reduceCtorEq, Int.reduceEq, Int.reduceLE, Int.reduceLT, Int.reduceToNat, *]; done) | omega | ((with_reducible refine Sub.get hS ?_); simp (maxDischargeDepth := 9) -implicitDefEqProofs -dsimp only [go_sem, Nat.reduceEqDiff, Nat.reduceAdd, Nat.reduceSub, Nat.reduceMul, Nat.reduceLeDiff, reduceIte, reduceCtorEq, Int.reduceEq, Int.reduceLE, Int.reduceLT, Int.reduceToNat, *]; done))) | (with_reducible refine ACalls.flA (c1 _) ?_ <;> (first | (simp (maxDischargeDepth := 9) -implicitDefEqProofs -dsimp only [go_sem, Nat.reduceEqDiff, Nat.reduceAdd, Nat.reduceSub, Nat.reduceMul, Nat.reduceLeDiff, reduceIte, reduceCtorEq, Int.reduceEq, Int.reduceLE, Int.reduceLT, Int.reduceToNat, *]; done) | omega | ((with_reducible refine Sub.get hS ?_); simp (maxDischargeDepth := 9) -implicitDefEqProofs -dsimp only [go_sem, Nat.reduceEqDiff, Nat.reduceAdd, Nat.reduceSub, Nat.reduceMul, Nat.reduceLeDiff, reduceIte, reduceCtorEq, Int.reduceEq, Int.reduceLE, Int.reduceLT, Int.reduceToNat, *]; done))))); (focus (first | trivial | with_reducible exact rfl | (simp (maxDischargeDepth := 9) -implicitDefEqProofs -dsimp only [go_sem, Nat.reduceEqDiff, Nat.reduceAdd, Nat.reduceSub, Nat.reduceMul, Nat.reduceLeDiff, reduceIte, reduceCtorEq, Int.reduceEq, Int.reduceLE, Int.reduceLT, Int.reduceToNat]; done)))) | fail)
      refine loop_rule (fun i : Nat => [(13, some (.int .i64 i)), (10, some (.slice (X.map encBool) .no)), (11, some (.int .i64 M)), (3, some (.cptr [.int .i64 n, .slice (F.map encF) .no])), (6, some (.ptr oF 0)), (12, some (.slice ((W.take i).map encBool) (.own oV1)))])
        (fun i => upd (upd σ oV1 (.grow 1 i)) oF (.cells [.int .i64 0, .slice [] .nil])) (fun i => i ≤ P) (fun i => P - i) 0 ?_ ?_
      · (repeat' (first | simp (maxDischargeDepth := 9) -implicitDefEqProofs -dsimp only [go_sem, Nat.reduceEqDiff, Nat.reduceAdd, Nat.reduceSub, Nat.reduceMul, Nat.reduceLeDiff, reduceIte, reduceCtorEq, Int.reduceEq, Int.reduceLE, Int.reduceLT, Int.reduceToNat, *] | simp (disch := omega) only [wrap64, tdiv2, tmod2, and1, xor1, xor_is1, shr1, shr1'])) <;> (repeat' refine And.intro ?_ ?_) <;> (first | omega | rfl | assumption | skip)
      · intro i hi
        by_cases hlt : i < P
        · have hlt' : (i : Int) < X.length := by omega
          have hltX : i < X.length := by omega
          have hs' := take_getD (t := W) (i := i) (by omega)
          have hlen : (W.take i).length = i := by simp; omega
          rw [hW i hlt] at hs'
          have hx := hxor i hlt
          have hxn := xor_nat i M (by omega) (by omega)
          obtain ⟨j, hj⟩ : ∃ j, i ^^^ M = j := ⟨_, rfl⟩
          rw [hj] at hs' hx hxn
          have hjX : j < X.length := by omega
          clear hW ct hxor c1
          cases hx1 : X.getD i false <;> rw [hx1] at hs' <;> simp only [Bool.true_or, Bool.false_or] at hs'
          all_goals
            repeat' (first | simp (maxDischargeDepth := 9) -implicitDefEqProofs -dsimp only [go_sem, Nat.reduceEqDiff, Nat.reduceAdd, Nat.reduceSub, Nat.reduceMul, Nat.reduceLeDiff, reduceIte, reduceCtorEq, Int.reduceEq, Int.reduceLE, Int.reduceLT, Int.reduceToNat, szs_bool, getD_b, *] | simp (disch := omega) only [wrap64, tdiv2, tmod2, and1, xor1, xor_is1, shr1, shr1'] | (with_reducible (first | apply gd_td | apply gd_fd | apply br_d | apply gd_tbl | apply gd_fbl | apply br_bl | apply gd_tnl | apply gd_fnl | apply br_nl | apply gd_tb | apply gd_fb | apply br_b | apply gd_tn | apply gd_fn | apply br_n | apply gd_t | apply gd_f | apply br_split | apply ifnil_i) <;> intro hq) | ((with_reducible refine req_i ?_ ?_); focus (first | omega | exact rfl)) | ((with_reducible refine wth_map ?_ ?_); focus omega) | ((with_reducible refine fresh_i (fun oF hoF hnF hnF' => ?_)); clear hnF hnF'; (try simp only [upd_none_s, ne_eq] at hoF)) | fail)
            refine loop_next _ _ _ _ (i + 1) ?_; (repeat' (first | simp (maxDischargeDepth := 9) -implicitDefEqProofs -dsimp only [go_sem, Nat.reduceEqDiff, Nat.reduceAdd, Nat.reduceSub, Nat.reduceMul, Nat.reduceLeDiff, reduceIte, reduceCtorEq, Int.reduceEq, Int.reduceLE, Int.reduceLT, Int.reduceToNat,  List.map_append, List.map_cons, List.map_nil, *] | simp (disch := omega) only [wrap64, tdiv2, tmod2, and1, xor1, xor_is1, shr1, shr1'])) <;> (repeat' refine And.intro ?_ ?_) <;> (first | omega | rfl | assumption | skip)
        · have hlt' : ¬ (i : Int) < X.length := by omega
          have hltX : ¬ i < X.length := by omega
          have e0 : W.take i = W := List.take_of_length_le (by omega)
          clear hW hxor c1
          repeat' (first | simp (maxDischargeDepth := 9) -implicitDefEqProofs -dsimp only [go_sem, Nat.reduceEqDiff, Nat.reduceAdd, Nat.reduceSub, Nat.reduceMul, Nat.reduceLeDiff, reduceIte, reduceCtorEq, Int.reduceEq, Int.reduceLE, Int.reduceLT, Int.reduceToNat, *] | simp (disch := omega) only [wrap64, tdiv2, tmod2, and1, xor1, xor_is1, shr1, shr1'] | (with_reducible (first | apply gd_td | apply gd_fd | apply br_d | apply gd_tbl | apply gd_fbl | apply br_bl | apply gd_tnl | apply gd_fnl | apply br_nl | apply gd_tb | apply gd_fb | apply br_b | apply gd_tn | apply gd_fn | apply br_n | apply gd_t | apply gd_f | apply br_split | apply ifnil_i) <;> intro hq) | ((with_reducible refine req_i ?_ ?_); focus (first | omega | exact rfl)) | ((with_reducible refine wth_map ?_ ?_); focus omega) | ((with_reducible refine fresh_i (fun oF hoF hnF hnF' => ?_)); clear hnF hnF'; (try simp only [upd_none_s, ne_eq] at hoF)) | ((with_reducible apply ACalls.one1); (focus (first | ((first | with_reducible refine ct _) <;> (first | (simp (maxDischargeDepth := 9) -implicitDefEqProofs -dsimp only [go_sem, Nat.reduceEqDiff, Nat.reduceAdd, Nat.reduceSub, Nat.reduceMul, Nat.reduceLeDiff, reduceIte, reduceCtorEq, Int.reduceEq, Int.reduceLE, Int.reduceLT, Int.reduceToNat, *]; done) | omega | ((with_reducible refine Sub.get hS ?_); simp (maxDischargeDepth := 9) -implicitDefEqProofs -dsimp only [go_sem, Nat.reduceEqDiff, Nat.reduceAdd, Nat.reduceSub, Nat.reduceMul, Nat.reduceLeDiff, reduceIte, reduceCtorEq, Int.reduceEq, Int.reduceLE, Int.reduceLT, Int.reduceToNat, *]; done))) | (with_reducible refine ACalls.flA (ct _) ?_ <;> (first | (simp (maxDischargeDepth := 9) -implicitDefEqProofs -dsimp only [go_sem, Nat.reduceEqDiff, Nat.reduceAdd, Nat.reduceSub, Nat.reduceMul, Nat.reduceLeDiff, reduceIte, reduceCtorEq, Int.reduceEq, Int.reduceLE, Int.reduceLT, Int.reduceToNat, *]; done) | omega | ((with_reducible refine Sub.get hS ?_); simp (maxDischargeDepth := 9) -implicitDefEqProofs -dsimp only [go_sem, Nat.reduceEqDiff, Nat.reduceAdd, Nat.reduceSub, Nat.reduceMul, Nat.reduceLeDiff, reduceIte, reduceCtorEq, Int.reduceEq, Int.reduceLE, Int.reduceLT, Int.reduceToNat, *]; done))))); (focus (first | trivial | with_reducible exact rfl | (simp (maxDischargeDepth := 9) -implicitDefEqProofs -dsimp only [go_sem, Nat.reduceEqDiff, Nat.reduceAdd, Nat.reduceSub, Nat.reduceMul, Nat.reduceLeDiff, reduceIte, reduceCtorEq, Int.reduceEq, Int.reduceLE, Int.reduceLT, Int.reduceToNat]; done)))) | fail)
          refine fin_eq ?_
          (repeat' (first | simp (maxDischargeDepth := 9) -implicitDefEqProofs -dsimp only [go_sem, Nat.reduceEqDiff, Nat.reduceAdd, Nat.reduceSub, Nat.reduceMul, Nat.reduceLeDiff, reduceIte, reduceCtorEq, Int.reduceEq, Int.reduceLE, Int.reduceLT, Int.reduceToNat, *] | simp (disch := omega) only [wrap64, tdiv2, tmod2, and1, xor1, xor_is1, shr1, shr1'])) <;> (repeat' refine And.intro ?_ ?_) <;> (first | omega | rfl | assumption | skip)
  · have hb : (e != 0) = true := by simpa using h0
    have hw : someW b f v = ((0, []), 0, e) := by unfold someW; rw [ask_err he h0, op_err h0]
    rw [hw]
    repeat' (first | simp (maxDischargeDepth := 9) -implicitDefEqProofs -dsimp only [go_sem, Nat.reduceEqDiff, Nat.reduceAdd, Nat.reduceSub, Nat.reduceMul, Nat.reduceLeDiff, reduceIte, reduceCtorEq, Int.reduceEq, Int.reduceLE, Int.reduceLT, Int.reduceToNat, List.map_nil, *] | simp (disch := omega) only [wrap64, tdiv2, tmod2, and1, xor1, xor_is1, shr1, shr1'] | (with_reducible (first | apply gd_td | apply gd_fd | apply br_d | apply gd_tbl | apply gd_fbl | apply br_bl | apply gd_tnl | apply gd_fnl | apply br_nl | apply gd_tb | apply gd_fb | apply br_b | apply gd_tn | apply gd_fn | apply br_n | apply gd_t | apply gd_f | apply br_split | apply ifnil_i) <;> intro hq) | ((with_reducible refine req_i ?_ ?_); focus (first | omega | exact rfl)) | ((with_reducible refine wth_map ?_ ?_); focus omega) | ((with_reducible refine fresh_i (fun oF hoF hnF hnF' => ?_)); clear hnF hnF'; (try simp only [upd_none_s, ne_eq] at hoF)) | ((with_reducible apply ACalls.one1); (focus (first | ((first | with_reducible refine ref_Check b.1 b.2 _ hl) <;> (first | (simp (maxDischargeDepth := 9) -implicitDefEqProofs -dsimp only [go_sem, Nat.reduceEqDiff, Nat.reduceAdd, Nat.reduceSub, Nat.reduceMul, Nat.reduceLeDiff, reduceIte, reduceCtorEq, Int.reduceEq, Int.reduceLE, Int.reduceLT, Int.reduceToNat, *]; done) | omega | ((with_reducible refine Sub.get hS ?_); simp (maxDischargeDepth := 9) -implicitDefEqProofs -dsimp only [go_sem, Nat.reduceEqDiff, Nat.reduceAdd, Nat.reduceSub, Nat.reduceMul, Nat.reduceLeDiff, reduceIte, reduceCtorEq, Int.reduceEq, Int.reduceLE, Int.reduceLT, Int.reduceToNat, *]; done))) | (with_reducible refine ACalls.flA (ref_Check b.1 b.2 _ hl) ?_ <;> (first | (simp (maxDischargeDepth := 9) -implicitDefEqProofs -dsimp only [go_sem, Nat.reduceEqDiff, Nat.reduceAdd, Nat.reduceSub, Nat.reduceMul, Nat.reduceLeDiff, reduceIte, reduceCtorEq, Int.reduceEq, Int.reduceLE, Int.reduceLT, Int.reduceToNat, *]; done) | omega | ((with_reducible refine Sub.get hS ?_); simp (maxDischargeDepth := 9) -implicitDefEqProofs -dsimp only [go_sem, Nat.reduceEqDiff, Nat.reduceAdd, Nat.reduceSub, Nat.reduceMul, Nat.reduceLeDiff, reduceIte, reduceCtorEq, Int.reduceEq, Int.reduceLE, Int.reduceLT, Int.reduceToNat, *]; done))))); (focus (first | trivial | with_reducible exact rfl | (simp (maxDischargeDepth := 9) -implicitDefEqProofs -dsimp only [go_sem, Nat.reduceEqDiff, Nat.reduceAdd, Nat.reduceSub, Nat.reduceMul, Nat.reduceLeDiff, reduceIte, reduceCtorEq, Int.reduceEq, Int.reduceLE, Int.reduceLT, Int.reduceToNat]; done)))) | fail)
    refine fin_eq ?_
    (repeat' (first | simp (maxDischargeDepth := 9) -implicitDefEqProofs -dsimp only [go_sem, Nat.reduceEqDiff, Nat.reduceAdd, Nat.reduceSub, Nat.reduceMul, Nat.reduceLeDiff, reduceIte, reduceCtorEq, Int.reduceEq, Int.reduceLE, Int.reduceLT, Int.reduceToNat, List.map_nil, *] | simp (disch := omega) only [wrap64, tdiv2, tmod2, and1, xor1, xor_is1, shr1, shr1'])) <;> (repeat' refine And.intro ?_ ?_) <;> (first | omega | rfl | assumption | skip)

end Go.Proofs.Yteabanjbgpplmaa

-- NODRAW
-- LIGHT
namespace Go.Proofs.Yteabanjbgpplmaa
open Abs Fil Fil.Bd
/-- filigree/filigreelaw22.BddSomes [b:0, f:1, n:2, b:3, f:4, n:5, fixed:7, x:8, i:9, e:10, y:11, k:12, g:13, z:14, j:15, h:16, u:17, l:18, o:19, same:20] -/
def c5 : ACode :=
 .seq (.reg [⟨some 3, .boxI (.t 0), none⟩,
   ⟨some 6, .mov (.c (.bool false)), none⟩])
 (.seq (.reg [⟨some 21, .call (.c (.fn 14 [] [])) [], none⟩,
   ⟨some 7, .mov (.t 21), none⟩])
 (.seq (.seq (.reg [⟨some 22, .mov (.t 7), none⟩,
   ⟨some 23, .un .not (.t 22), none⟩])
 (.cond (.t 23)
  (.seq (.reg [⟨some 6, .mov (.c (.bool false)), none⟩])
  (.ret))
  (.skip)))
 (.seq (.seq (.reg [⟨some 24, .load true 2 (.t 3), none⟩,
   ⟨some 25, .call (.c (.fn 21 [] [])) [(.t 24)], none⟩,
   ⟨some 26, .un .not (.t 25), none⟩])
 (.cond (.t 26)
  (.seq (.reg [⟨some 27, .mov (.t 7), none⟩,
    ⟨some 6, .mov (.t 27), none⟩])
  (.ret))
  (.skip)))
 (.seq (.reg [⟨some 29, .load true 2 (.t 3), none⟩,
   ⟨some 30, .mov (.t 1), none⟩,
   ⟨some 31, .mov (.t 2), none⟩,
   ⟨some 32, .call (.c (.fn 26 [] [])) [(.t 29), (.t 30), (.t 31)], none⟩,
   ⟨some 28, .mov (.t 32), none⟩,
   ⟨some 33, .extract (.t 28) 0, none⟩,
   ⟨some 34, .extract (.t 28) 1, none⟩,
   ⟨some 35, .extract (.t 28) 2, none⟩,
   ⟨some 8, .alloc [(.int .i64 0), (.slice [] .nil)], none⟩,
   ⟨none, .store 2 (.t 8) (.t 33), none⟩,
   ⟨some 9, .mov (.t 34), none⟩,
   ⟨some 10, .mov (.t 35), none⟩])
 (.seq (.reg [⟨some 37, .load true 2 (.t 3), none⟩,
   ⟨some 38, .mov (.t 1), none⟩,
   ⟨some 39, .mov (.t 2), none⟩,
   ⟨some 40, .call (.c (.fn 27 [] [])) [(.t 37), (.t 38), (.t 39)], none⟩,
   ⟨some 36, .mov (.t 40), none⟩,
   ⟨some 41, .extract (.t 36) 0, none⟩,
   ⟨some 42, .extract (.t 36) 1, none⟩,
   ⟨some 43, .extract (.t 36) 2, none⟩,
   ⟨some 11, .alloc [(.int .i64 0), (.slice [] .nil)], none⟩,
   ⟨none, .store 2 (.t 11) (.t 41), none⟩,
   ⟨some 12, .mov (.t 42), none⟩,
   ⟨some 13, .mov (.t 43), none⟩])
 (.seq (.reg [⟨some 45, .load true 2 (.t 3), none⟩,
   ⟨some 46, .mov (.t 2), none⟩,
   ⟨some 47, .call (.c (.fn 28 [] [])) [(.t 45), (.t 46)], none⟩,
   ⟨some 44, .mov (.t 47), none⟩,
   ⟨some 48, .extract (.t 44) 0, none⟩,
   ⟨some 49, .extract (.t 44) 1, none⟩,
   ⟨some 50, .extract (.t 44) 2, none⟩,
   ⟨some 14, .alloc [(.int .i64 0), (.slice [] .nil)], none⟩,
   ⟨none, .store 2 (.t 14) (.t 48), none⟩,
   ⟨some 15, .mov (.t 49), none⟩,
   ⟨some 16, .mov (.t 50), none⟩])
 (.seq (.reg [⟨some 52, .load true 2 (.t 3), none⟩,
   ⟨some 53, .mov (.t 2), none⟩,
   ⟨some 54, .call (.c (.fn 29 [] [])) [(.t 52), (.t 53)], none⟩,
   ⟨some 51, .mov (.t 54), none⟩,
   ⟨some 55, .extract (.t 51) 0, none⟩,
   ⟨some 56, .extract (.t 51) 1, none⟩,
   ⟨some 57, .extract (.t 51) 2, none⟩,
   ⟨some 17, .alloc [(.int .i64 0), (.slice [] .nil)], none⟩,
   ⟨none, .store 2 (.t 17) (.t 55), none⟩,
   ⟨some 18, .mov (.t 56), none⟩,
   ⟨some 19, .mov (.t 57), none⟩])
 (.seq (.reg [⟨some 58, .load true 2 (.t 8), none⟩,
   ⟨some 59, .load true 2 (.t 11), none⟩,
   ⟨some 60, .call (.c (.fn 18 [] [])) [(.t 58), (.t 59)], none⟩,
   ⟨some 61, .mov (.t 60), none⟩,
   ⟨some 62, .load true 2 (.t 14), some (61, true)⟩,
   ⟨some 63, .load true 2 (.t 17), some (61, true)⟩,
   ⟨some 64, .call (.c (.fn 18 [] [])) [(.t 62), (.t 63)], some (61, true)⟩,
   ⟨some 65, .pick (.t 61) (.t 64) (.c (.bool false)), none⟩,
   ⟨some 20, .mov (.t 65), none⟩])
 (.seq (.reg [⟨some 66, .mov (.t 7), none⟩,
   ⟨some 67, .mov (.t 66), none⟩,
   ⟨some 68, .mov (.t 20), some (67, true)⟩,
   ⟨some 69, .pick (.t 67) (.t 68) (.c (.bool false)), none⟩,
   ⟨some 70, .mov (.t 69), none⟩,
   ⟨some 71, .mov (.t 9), some (70, true)⟩,
   ⟨some 72, .mov (.t 12), some (70, true)⟩,
   ⟨some 73, .bin .eql false (.t 71) (.t 72), some (70, true)⟩,
   ⟨some 74, .pick (.t 70) (.t 73) (.c (.bool false)), none⟩,
   ⟨some 75, .mov (.t 74), none⟩,
   ⟨some 76, .mov (.t 10), some (75, true)⟩,
   ⟨some 77, .mov (.t 13), some (75, true)⟩,
   ⟨some 78, .bin .eql false (.t 76) (.t 77), some (75, true)⟩,
   ⟨some 79, .pick (.t 75) (.t 78) (.c (.bool false)), none⟩,
   ⟨some 80, .mov (.t 79), none⟩,
   ⟨some 81, .mov (.t 15), some (80, true)⟩,
   ⟨some 82, .mov (.t 18), some (80, true)⟩,
   ⟨some 83, .bin .eql false (.t 81) (.t 82), some (80, true)⟩,
   ⟨some 84, .pick (.t 80) (.t 83) (.c (.bool false)), none⟩,
   ⟨some 85, .mov (.t 84), none⟩,
   ⟨some 86, .mov (.t 16), some (85, true)⟩,
   ⟨some 87, .mov (.t 19), some (85, true)⟩,
   ⟨some 88, .bin .eql false (.t 86) (.t 87), some (85, true)⟩,
   ⟨some 89, .pick (.t 85) (.t 88) (.c (.bool false)), none⟩,
   ⟨some 6, .mov (.t 89), none⟩])
 (.ret))))))))))
def r5 : List ARV := [.tmp 6]
theorem b5 : Try.f5.body.bind (tr Try.prog 90) = some c5.bare := by kernel_rfl
theorem q5 : trRes Try.prog Try.f5.results.toList = some r5 := by kernel_rfl
theorem n5 : (Try.f5.name == "runtime.NumGoroutine") = false := by kernel_rfl


theorem few_12 {b : D} (h : few b 7 = true) : few b 12 = true := by
  rw [few, decide_eq_true_eq] at *; omega

theorem op_len {b : D} {l : List Int} {no : Bool} {t : List Bool} (hs : few b 7 = true) : (opW b (askE b l no) t).1.2.length ≤ 9223372036854775807 := by
  by_cases he : askE b l no = 0
  · have hc : chk b.1 b.2 = 0 := by
      unfold askE at he
      split at he
      · exact he
      · rename_i hne; simpa using hne
    have hr := (few_room (few_12 hs) (chk_fine.1 hc)).2.2.2
    have := put_len b.1.toNat b.2 0 t
    unfold opW
    rw [if_neg (by simp [he])]
    show (put _ _ _ _).1.length ≤ _
    omega
  · rw [op_err he]; simp

set_option maxHeartbeats 1000000 in
theorem somes_law (b : D) (f v : Int) (σ : Sig) (hl : b.2.length ≤ 9223372036854775807) :
    ACalls Try.prog 5 [encB b.1 b.2, .int .i64 f, .int .i64 v] σ (fun r σ' => r = .ret (.bool true) ∧ σ' = σ) := by
  refine calls_x mixed Try.func5 b5 n5 rfl q5 (by simp) ?_; unfold c5 r5
  cases hs : few b 7 with
  | false =>
    repeat' (first | simp (maxDischargeDepth := 9) -implicitDefEqProofs -dsimp only [go_sem, Nat.reduceEqDiff, Nat.reduceAdd, Nat.reduceSub, Nat.reduceMul, Nat.reduceLeDiff, reduceIte, reduceCtorEq, Int.reduceEq, Int.reduceLE, Int.reduceLT, Int.reduceToNat, *] | simp (disch := omega) only [wrap64, tdiv2, tmod2, and1, xor1, xor_is1, shr1, shr1'] | (with_reducible (first | apply gd_td | apply gd_fd | apply br_d | apply gd_tbl | apply gd_fbl | apply br_bl | apply gd_tnl | apply gd_fnl | apply br_nl | apply gd_tb | apply gd_fb | apply br_b | apply gd_tn | apply gd_fn | apply br_n | apply gd_t | apply gd_f | apply br_split | apply ifnil_i) <;> intro hq) | ((with_reducible refine req_i ?_ ?_); focus (first | omega | exact rfl)) | ((with_reducible refine wth_map ?_ ?_); focus omega) | ((with_reducible refine fresh_i (fun oF hoF hnF hnF' => ?_)); clear hnF hnF'; (try simp only [upd_none_s, ne_eq] at hoF)) | ((with_reducible apply ACalls.one1); (focus (first | ((first | with_reducible refine law_live _ | with_reducible refine law_few b _) <;> (first | (simp (maxDischargeDepth := 9) -implicitDefEqProofs -dsimp only [go_sem, Nat.reduceEqDiff, Nat.reduceAdd, Nat.reduceSub, Nat.reduceMul, Nat.reduceLeDiff, reduceIte, reduceCtorEq, Int.reduceEq, Int.reduceLE, Int.reduceLT, Int.reduceToNat, *]; done) | omega | ((with_reducible refine Sub.get hS ?_); simp (maxDischargeDepth := 9) -implicitDefEqProofs -dsimp only [go_sem, Nat.reduceEqDiff, Nat.reduceAdd, Nat.reduceSub, Nat.reduceMul, Nat.reduceLeDiff, reduceIte, reduceCtorEq, Int.reduceEq, Int.reduceLE, Int.reduceLT, Int.reduceToNat, *]; done))) | (with_reducible refine ACalls.flA (law_live _) ?_ <;> (first | (simp (maxDischargeDepth := 9) -implicitDefEqProofs -dsimp only [go_sem, Nat.reduceEqDiff, Nat.reduceAdd, Nat.reduceSub, Nat.reduceMul, Nat.reduceLeDiff, reduceIte, reduceCtorEq, Int.reduceEq, Int.reduceLE, Int.reduceLT, Int.reduceToNat, *]; done) | omega | ((with_reducible refine Sub.get hS ?_); simp (maxDischargeDepth := 9) -implicitDefEqProofs -dsimp only [go_sem, Nat.reduceEqDiff, Nat.reduceAdd, Nat.reduceSub, Nat.reduceMul, Nat.reduceLeDiff, reduceIte, reduceCtorEq, Int.reduceEq, Int.reduceLE, Int.reduceLT, Int.reduceToNat, *]; done))) | (with_reducible refine ACalls.flA (law_few b _) ?_ <;> (first | (simp (maxDischargeDepth := 9) -implicitDefEqProofs -dsimp only [go_sem, Nat.reduceEqDiff, Nat.reduceAdd, Nat.reduceSub, Nat.reduceMul, Nat.reduceLeDiff, reduceIte, reduceCtorEq, Int.reduceEq, Int.reduceLE, Int.reduceLT, Int.reduceToNat, *]; done) | omega | ((with_reducible refine Sub.get hS ?_); simp (maxDischargeDepth := 9) -implicitDefEqProofs -dsimp only [go_sem, Nat.reduceEqDiff, Nat.reduceAdd, Nat.reduceSub, Nat.reduceMul, Nat.reduceLeDiff, reduceIte, reduceCtorEq, Int.reduceEq, Int.reduceLE, Int.reduceLT, Int.reduceToNat, *]; done))))); (focus (first | trivial | with_reducible exact rfl | (simp (maxDischargeDepth := 9) -implicitDefEqProofs -dsimp only [go_sem, Nat.reduceEqDiff, Nat.reduceAdd, Nat.reduceSub, Nat.reduceMul, Nat.reduceLeDiff, reduceIte, reduceCtorEq, Int.reduceEq, Int.reduceLE, Int.reduceLT, Int.reduceToNat]; done)))) | fail)
    refine fin_eq ?_
    (repeat' (first | simp (maxDischargeDepth := 9) -implicitDefEqProofs -dsimp only [go_sem, Nat.reduceEqDiff, Nat.reduceAdd, Nat.reduceSub, Nat.reduceMul, Nat.reduceLeDiff, reduceIte, reduceCtorEq, Int.reduceEq, Int.reduceLE, Int.reduceLT, Int.reduceToNat, *] | simp (disch := omega) only [wrap64, tdiv2, tmod2, and1, xor1, xor_is1, shr1, shr1'])) <;> (repeat' refine And.intro ?_ ?_) <;> (first | omega | rfl | assumption | skip)
  | true =>
    have hr1 : Fine b.1 b.2 → b.2.length + 2 ^ (b.1.toNat + 1) ≤ 65537 := fun hf => (few_room (few_12 hs) hf).2.2.1
    have hr2 : Fine b.1 b.2 → b.2.length < 65536 := fun hf => by
      have := (few_room (few_12 hs) hf).2.1
      omega
    have l1 : (someW b f v).1.2.length ≤ 9223372036854775807 := op_len hs
    have l2 : (varW b v).1.2.length ≤ 9223372036854775807 := op_len hs
    have c1 := fun τ => bdd_Some b f v τ hl hr1
    have c2 := fun τ => ref_Some b f v τ hl
    have c3 := fun τ => bdd_Var b v τ hl hr2
    have c4 := fun τ => ref_Var b v τ hl
    obtain ⟨⟨c, n, e⟩, hx⟩ : ∃ x, someW b f v = x := ⟨_, rfl⟩
    obtain ⟨⟨d, m, i⟩, hy⟩ : ∃ x, varW b v = x := ⟨_, rfl⟩
    rw [hx] at l1 c1 c2
    rw [hy] at l2 c3 c4
    simp only at l1 l2
    have s1 := fun τ => ref_Same c c τ l1 l1
    have s2 := fun τ => ref_Same d d τ l2 l2
    have e1 : decide (c = c) = true := by simp
    have e2 : decide (d = d) = true := by simp
    have e3 : (n == n) = true := by simp
    have e4 : (e == e) = true := by simp
    have e5 : (m == m) = true := by simp
    have e6 : (i == i) = true := by simp
    clear hr1 hr2 hx hy
    repeat' (first | simp (maxDischargeDepth := 9) -implicitDefEqProofs -dsimp only [go_sem, Nat.reduceEqDiff, Nat.reduceAdd, Nat.reduceSub, Nat.reduceMul, Nat.reduceLeDiff, reduceIte, reduceCtorEq, Int.reduceEq, Int.reduceLE, Int.reduceLT, Int.reduceToNat, *] | simp (disch := omega) only [wrap64, tdiv2, tmod2, and1, xor1, xor_is1, shr1, shr1'] | (with_reducible (first | apply gd_td | apply gd_fd | apply br_d | apply gd_tbl | apply gd_fbl | apply br_bl | apply gd_tnl | apply gd_fnl | apply br_nl | apply gd_tb | apply gd_fb | apply br_b | apply gd_tn | apply gd_fn | apply br_n | apply gd_t | apply gd_f | apply br_split | apply ifnil_i) <;> intro hq) | ((with_reducible refine req_i ?_ ?_); focus (first | omega | exact rfl)) | ((with_reducible refine wth_map ?_ ?_); focus omega) | ((with_reducible refine fresh_i (fun oF hoF hnF hnF' => ?_)); clear hnF hnF'; (try simp only [upd_none_s, ne_eq] at hoF)) | ((with_reducible apply ACalls.one1); (focus (first | ((first | with_reducible refine law_live _ | with_reducible refine law_few b _ | with_reducible refine c1 _ | with_reducible refine c2 _ | with_reducible refine c3 _ | with_reducible refine c4 _ | with_reducible refine s1 _ | with_reducible refine s2 _) <;> (first | (simp (maxDischargeDepth := 9) -implicitDefEqProofs -dsimp only [go_sem, Nat.reduceEqDiff, Nat.reduceAdd, Nat.reduceSub, Nat.reduceMul, Nat.reduceLeDiff, reduceIte, reduceCtorEq, Int.reduceEq, Int.reduceLE, Int.reduceLT, Int.reduceToNat, *]; done) | omega | ((with_reducible refine Sub.get hS ?_); simp (maxDischargeDepth := 9) -implicitDefEqProofs -dsimp only [go_sem, Nat.reduceEqDiff, Nat.reduceAdd, Nat.reduceSub, Nat.reduceMul, Nat.reduceLeDiff, reduceIte, reduceCtorEq, Int.reduceEq, Int.reduceLE, Int.reduceLT, Int.reduceToNat, *]; done))) | (with_reducible refine ACalls.flA (law_live _) ?_ <;> (first | (simp (maxDischargeDepth := 9) -implicitDefEqProofs -dsimp only [go_sem, Nat.reduceEqDiff, Nat.reduceAdd, Nat.reduceSub, Nat.reduceMul, Nat.reduceLeDiff, reduceIte, reduceCtorEq, Int.reduceEq, Int.reduceLE, Int.reduceLT, Int.reduceToNat, *]; done) | omega | ((with_reducible refine Sub.get hS ?_); simp (maxDischargeDepth := 9) -implicitDefEqProofs -dsimp only [go_sem, Nat.reduceEqDiff, Nat.reduceAdd, Nat.reduceSub, Nat.reduceMul, Nat.reduceLeDiff, reduceIte, reduceCtorEq, Int.reduceEq, Int.reduceLE, Int.reduceLT, Int.reduceToNat, *]; done))) | (with_reducible refine ACalls.flA (law_few b _) ?_ <;> (first | (simp (maxDischargeDepth := 9) -implicitDefEqProofs -dsimp only [go_sem, Nat.reduceEqDiff, Nat.reduceAdd, Nat.reduceSub, Nat.reduceMul, Nat.reduceLeDiff, reduceIte, reduceCtorEq, Int.reduceEq, Int.reduceLE, Int.reduceLT, Int.reduceToNat, *]; done) | omega | ((with_reducible refine Sub.get hS ?_); simp (maxDischargeDepth := 9) -implicitDefEqProofs -dsimp only [go_sem, Nat.reduceEqDiff, Nat.reduceAdd, Nat.reduceSub, Nat.reduceMul, Nat.reduceLeDiff, reduceIte, reduceCtorEq, Int.reduceEq, Int.reduceLE, Int.reduceLT, Int.reduceToNat, *]; done))) | (with_reducible refine ACalls.flA (c1 _) ?_ <;> (first | (simp (maxDischargeDepth := 9) -implicitDefEqProofs -dsimp only [go_sem, Nat.reduceEqDiff, Nat.reduceAdd, Nat.reduceSub, Nat.reduceMul, Nat.reduceLeDiff, reduceIte, reduceCtorEq, Int.reduceEq, Int.reduceLE, Int.reduceLT, Int.reduceToNat, *]; done) | omega | ((with_reducible refine Sub.get hS ?_); simp (maxDischargeDepth := 9) -implicitDefEqProofs -dsimp only [go_sem, Nat.reduceEqDiff, Nat.reduceAdd, Nat.reduceSub, Nat.reduceMul, Nat.reduceLeDiff, reduceIte, reduceCtorEq, Int.reduceEq, Int.reduceLE, Int.reduceLT, Int.reduceToNat, *]; done))) | (with_reducible refine ACalls.flA (c2 _) ?_ <;> (first | (simp (maxDischargeDepth := 9) -implicitDefEqProofs -dsimp only [go_sem, Nat.reduceEqDiff, Nat.reduceAdd, Nat.reduceSub, Nat.reduceMul, Nat.reduceLeDiff, reduceIte, reduceCtorEq, Int.reduceEq, Int.reduceLE, Int.reduceLT, Int.reduceToNat, *]; done) | omega | ((with_reducible refine Sub.get hS ?_); simp (maxDischargeDepth := 9) -implicitDefEqProofs -dsimp only [go_sem, Nat.reduceEqDiff, Nat.reduceAdd, Nat.reduceSub, Nat.reduceMul, Nat.reduceLeDiff, reduceIte, reduceCtorEq, Int.reduceEq, Int.reduceLE, Int.reduceLT, Int.reduceToNat, *]; done))) | (with_reducible refine ACalls.flA (c3 _) ?_ <;> (first | (simp (maxDischargeDepth := 9) -implicitDefEqProofs -dsimp only [go_sem, Nat.reduceEqDiff, Nat.reduceAdd, Nat.reduceSub, Nat.reduceMul, Nat.reduceLeDiff, reduceIte, reduceCtorEq, Int.reduceEq, Int.reduceLE, Int.reduceLT, Int.reduceToNat, *]; done) | omega | ((with_reducible refine Sub.get hS ?_); simp (maxDischargeDepth := 9) -implicitDefEqProofs -dsimp only [go_sem, Nat.reduceEqDiff, Nat.reduceAdd, Nat.reduceSub, Nat.reduceMul, Nat.reduceLeDiff, reduceIte, reduceCtorEq, Int.reduceEq, Int.reduceLE, Int.reduceLT, Int.reduceToNat, *]; done))) | (with_reducible refine ACalls.flA (c4 _) ?_ <;> (first | (simp (maxDischargeDepth := 9) -implicitDefEqProofs -dsimp only [go_sem, Nat.reduceEqDiff, Nat.reduceAdd, Nat.reduceSub, Nat.reduceMul, Nat.reduceLeDiff, reduceIte, reduceCtorEq, Int.reduceEq, Int.reduceLE, Int.reduceLT, Int.reduceToNat, *]; done) | omega | ((with_reducible refine Sub.get hS ?_); simp (maxDischargeDepth := 9) -implicitDefEqProofs -dsimp only [go_sem, Nat.reduceEqDiff, Nat.reduceAdd, Nat.reduceSub, Nat.reduceMul, Nat.reduceLeDiff, reduceIte, reduceCtorEq, Int.reduceEq, Int.reduceLE, Int.reduceLT, Int.reduceToNat, *]; done))) | (with_reducible refine ACalls.flA (s1 _) ?_ <;> (first | (simp (maxDischargeDepth := 9) -implicitDefEqProofs -dsimp only [go_sem, Nat.reduceEqDiff, Nat.reduceAdd, Nat.reduceSub, Nat.reduceMul, Nat.reduceLeDiff, reduceIte, reduceCtorEq, Int.reduceEq, Int.reduceLE, Int.reduceLT, Int.reduceToNat, *]; done) | omega | ((with_reducible refine Sub.get hS ?_); simp (maxDischargeDepth := 9) -implicitDefEqProofs -dsimp only [go_sem, Nat.reduceEqDiff, Nat.reduceAdd, Nat.reduceSub, Nat.reduceMul, Nat.reduceLeDiff, reduceIte, reduceCtorEq, Int.reduceEq, Int.reduceLE, Int.reduceLT, Int.reduceToNat, *]; done))) | (with_reducible refine ACalls.flA (s2 _) ?_ <;> (first | (simp (maxDischargeDepth := 9) -implicitDefEqProofs -dsimp only [go_sem, Nat.reduceEqDiff, Nat.reduceAdd, Nat.reduceSub, Nat.reduceMul, Nat.reduceLeDiff, reduceIte, reduceCtorEq, Int.reduceEq, Int.reduceLE, Int.reduceLT, Int.reduceToNat, *]; done) | omega | ((with_reducible refine Sub.get hS ?_); simp (maxDischargeDepth := 9) -implicitDefEqProofs -dsimp only [go_sem, Nat.reduceEqDiff, Nat.reduceAdd, Nat.reduceSub, Nat.reduceMul, Nat.reduceLeDiff, reduceIte, reduceCtorEq, Int.reduceEq, Int.reduceLE, Int.reduceLT, Int.reduceToNat, *]; done))))); (focus (first | trivial | with_reducible exact rfl | (simp (maxDischargeDepth := 9) -implicitDefEqProofs -dsimp only [go_sem, Nat.reduceEqDiff, Nat.reduceAdd, Nat.reduceSub, Nat.reduceMul, Nat.reduceLeDiff, reduceIte, reduceCtorEq, Int.reduceEq, Int.reduceLE, Int.reduceLT, Int.reduceToNat]; done)))) | fail)
    refine fin_eq ?_
    (repeat' (first | simp (maxDischargeDepth := 9) -implicitDefEqProofs -dsimp only [go_sem, Nat.reduceEqDiff, Nat.reduceAdd, Nat.reduceSub, Nat.reduceMul, Nat.reduceLeDiff, reduceIte, reduceCtorEq, Int.reduceEq, Int.reduceLE, Int.reduceLT, Int.reduceToNat, *] | simp (disch := omega) only [wrap64, tdiv2, tmod2, and1, xor1, xor_is1, shr1, shr1'])) <;> (repeat' refine And.intro ?_ ?_) <;> (first | omega | rfl | assumption | skip)

end Go.Proofs.Yteabanjbgpplmaa

namespace Fil
open Abs Go

theorem i64_min : IntKind.i64.min = -9223372036854775808 := by decide
theorem i64_max : IntKind.i64.max = 9223372036854775807 := by decide
theorem I64_of {n : Int} (h : IntKind.i64.min ≤ n ∧ n ≤ IntKind.i64.max) : I64 n := by rw [i64_min, i64_max] at h; exact h

theorem arg_int {a : AV} (h : ShV false (.int .i64) a) : ∃ n, a = encInt n ∧ I64 n := by
  obtain ⟨n, e, hn⟩ := shv_int h
  exact ⟨n, e, I64_of hn⟩
theorem arg_bool {a : AV} (h : ShV false .bool a) : ∃ b, a = encBool b ∧ True := by
  obtain ⟨b, e⟩ := shv_bool h
  exact ⟨b, e, trivial⟩
theorem arg_bools {a : AV} (h : ShV false (.slice false .bool) a) : ∃ l : List Bool, a = .slice (l.map encBool) .no ∧ l.length ≤ maxLen := by
  obtain ⟨m, e, h1, _⟩ := shv_slice (f := encBool) (p := fun _ => True) h fun x hx => arg_bool hx
  exact ⟨m, e, h1⟩
theorem arg_rows {a : AV} (h : ShV false (.slice false (.slice false .bool)) a) : ∃ l : List (List Bool), a = .slice (l.map (encRow encBool)) .no ∧ l.length ≤ maxLen ∧ ∀ x ∈ l, x.length ≤ maxLen := by
  obtain ⟨m, e, h1, h2⟩ := shv_slice (f := encRow encBool) (p := fun l : List Bool => l.length ≤ maxLen) h fun x hx => by
    obtain ⟨l, e, hl⟩ := arg_bools hx
    exact ⟨l, e, hl⟩
  exact ⟨m, e, h1, h2⟩
theorem arg_gate {a : AV} (h : ShV true (.row [.int .i64, .int .i64]) a) : ∃ x : Int × Int, a = encGate x ∧ I64 x.1 ∧ I64 x.2 := by
  obtain ⟨es, e, p, q, rfl, ⟨n, rfl, hn⟩, p', q', rfl, ⟨m, rfl, hm⟩, rfl⟩ := h
  simp [mkv] at e
  exact ⟨(n, m), e.symm, I64_of hn, I64_of hm⟩
theorem arg_flop {a : AV} (h : ShV true (.row [.int .i64, .bool]) a) : ∃ x : Flop, a = encFlop x ∧ I64 x.next := by
  obtain ⟨es, e, p, q, rfl, ⟨n, rfl, hn⟩, p', q', rfl, ⟨m, rfl⟩, rfl⟩ := h
  simp [mkv] at e
  exact ⟨⟨n, m⟩, e.symm, I64_of hn⟩

/-- Gates whose numbers are of 64 bits. -/
structure Wide (g : Aig) : Prop where
  ins : I64 g.ins
  nexts : ∀ f ∈ g.flops, I64 f.next
  gates : ∀ x ∈ g.ands, I64 x.1 ∧ I64 x.2
  lits : ∀ a ∈ g.outs, I64 a

theorem arg_aig {a : AV} (h : ShV true (.row [.int .i64, .slice true (.row [.int .i64, .bool]), .slice true (.row [.int .i64, .int .i64]), .slice false (.int .i64)]) a) : ∃ g : Aig, a = encAig g ∧ Wide g := by
  obtain ⟨es, e, p, q, rfl, ⟨n, rfl, hn⟩, p1, q1, rfl, h1, p2, q2, rfl, h2, p3, q3, rfl, h3, rfl⟩ := h
  obtain ⟨fl, rfl, _, k1⟩ := shc_slice (f := encFlop) (p := fun x : Flop => I64 x.next) h1 fun x hx => arg_flop hx
  obtain ⟨an, rfl, _, k2⟩ := shc_slice (f := encGate) (p := fun x : Int × Int => I64 x.1 ∧ I64 x.2) h2 fun x hx => arg_gate hx
  obtain ⟨ou, rfl, _, k3⟩ := shc_slice (f := encInt) (p := I64) h3 fun x hx => arg_int hx
  simp [mkv] at e
  exact ⟨⟨n, fl, an, ou⟩, e.symm, I64_of hn, k1, k2, k3⟩

/-- Are they few? -/
def Few (g : Aig) : Prop := g.ins ≤ 200 ∧ g.flops.length ≤ 200 ∧ g.ands.length ≤ 1000 ∧ g.outs.length ≤ 200
theorem few_wf {g : Aig} (h : Wide g) (hf : Few g) : Wf g :=
  ⟨h.ins, by have := hf.2.1; omega, by have := hf.2.2.1; omega, by have := hf.2.2.2; omega, h.nexts, h.gates, h.lits⟩
end Fil

namespace Fil.Bd
open Abs Go Fil

theorem arg_fork {a : AV} (h : ShV true (.row [.int .i64, .int .i64, .int .i64]) a) : ∃ x : T3, a = encF x ∧ I64 x.1 ∧ I64 x.2.1 ∧ I64 x.2.2 := by
  obtain ⟨es, e, p, q, rfl, ⟨n, rfl, hn⟩, p', q', rfl, ⟨m, rfl, hm⟩, p2, q2, rfl, ⟨k, rfl, hk⟩, rfl⟩ := h
  simp [mkv] at e
  exact ⟨(n, m, k), e.symm, I64_of hn, I64_of hm, I64_of hk⟩

theorem arg_bdd {a : AV} (h : ShV true (.row [.int .i64, .slice true (.row [.int .i64, .int .i64, .int .i64])]) a) : ∃ b : D, a = encB b.1 b.2 ∧ b.2.length ≤ 9223372036854775807 ∧ I64 b.1 ∧ ∀ x ∈ b.2, I64 x.1 ∧ I64 x.2.1 ∧ I64 x.2.2 := by
  obtain ⟨es, e, p, q, rfl, ⟨n, rfl, hn⟩, p1, q1, rfl, h1, rfl⟩ := h
  obtain ⟨fl, rfl, hl, k1⟩ := shc_slice (f := encF) (p := fun x : T3 => I64 x.1 ∧ I64 x.2.1 ∧ I64 x.2.2) h1 fun x hx => arg_fork hx
  simp [mkv] at e
  exact ⟨(n, fl), e.symm, hl, I64_of hn, k1⟩

end Fil.Bd

namespace Go.Proofs.Yteabanjbgpplmaa
open Abs Fil
open Go.ChangeShapes Go.WideShapes Go.ChangeAt Go.RowKit
namespace bddSomes
theorem own : ownKnob Try.prog.godebug = none := by kernel_rfl
theorem laidOut : laidOutB Try.prog = true := by kernel_rfl
theorem shapes : argSh Try.prog 12 Try.f5.params.toList = some [(true, .row [.int .i64, .slice true (.row [.int .i64, .int .i64, .int .i64])]), (false, .int .i64), (false, .int .i64)] := by kernel_rfl

theorem ok : ∀ xs, ArgsAre Try.prog 12 Try.f5.params.toList xs → ACalls Try.prog 5 xs (fun _ => none) (fun r _ => r = .ret (.bool true)) := by
  intro xs hx
  have h := args_sh shapes hx
  obtain ⟨a0, r, rfl, h0, a1, r1, rfl, h1, a2, r2, rfl, h2, rfl⟩ := h
  obtain ⟨b, rfl, hl, _⟩ := Bd.arg_bdd h0
  obtain ⟨f, rfl, _⟩ := arg_int h1
  obtain ⟨v, rfl, _⟩ := arg_int h2
  exact (somes_law b f v _ hl).mono fun r s h => h.1

theorem lifted (os : Os) (started : os.Started) (H : Type) (enc : TypeId × Value → H) :
    ReturnsInHanded {} Try.checked os 5 .any (Rows.bddSomesSpec.pre6 enc Try.prog Try.f5 Rows.bddSomesRow.domain false) (Rows.bddSomesSpec.post enc Try.prog Try.f5 false true false false) := by
  refine returnsInHanded_of_change (C := Try.checked) own started (by kernel_rfl) Try.func5
    (ChangeSpec.witness6 (enc := enc) (C := Try.checked) false ⟨#[], #[.agg #[.int .i64 0, .slice none 0 0], .int .i64 0, .int .i64 0], []⟩ 8 (by kernel_rfl) (by kernel_rfl) (by kernel_rfl) (by kernel_rfl)) ?_
  intro W base args ds gs before hval0 hW hcnd _
  refine post_true (P := Try.prog) (g := 12) laidOut (by kernel_rfl) rfl (fun ds h => ?_) (by kernel_rfl) (tb := 4) Try.underlying4 hval0 hW ok
  match ds, h with
  | [_, _, _], _ => rfl
end bddSomes

theorem bddSomes_holds : Rows.BddSomesSaid :=
  OpenClaim.holds_of_wide 5 Try.f5 rfl rfl rfl rfl rfl rfl rfl ⟨rfl, rfl, rfl, rfl, rfl⟩ rfl rfl rfl rfl rfl (by kernel_rfl) Try.func5 (by kernel_rfl)
    (of_decide_eq_true (by kernel_rfl)) (by unfold Func.isWrapper; first | (rw [if_pos (by decide +kernel)]; kernel_rfl) | (rw [if_neg (by decide +kernel)]; exact ⟨rfl, rfl⟩))
    (fun os started H enc _ => bddSomes.lifted os started H enc)
end Go.Proofs.Yteabanjbgpplmaa

