/- bdd: Eval of a made row of inputs. -/
-- NODRAW
import Derived.Test.YteabanjbgpplmaaBddBddO
set_option linter.unusedSimpArgs false
set_option linter.unusedVariables false
namespace Go.Proofs.Yteabanjbgpplmaa
open Abs Fil Fil.Bd

theorem head_at (l : List Bool) (i : Nat) (h : i < l.length) : (List.take 1 (List.drop (i * 1) (l.map encBool))).head? = some (.bool (l.getD i false)) := by
  rw [Nat.mul_one, List.head?_take]
  simp [List.getD_eq_getElem?_getD, h]

set_option maxHeartbeats 1000000 in
theorem bdd_EvalV (b : D) (f : Int) (inp : List Bool) (o : Nat) (σ : Sig) (ho : σ o = some (.vec 1 inp.length (inp.map encBool))) (hl : b.2.length ≤ 9223372036854775807) (hi : inp.length ≤ 9223372036854775807) :
    ACalls Try.prog 30 [encB b.1 b.2, .int .i64 f, .vec o inp.length] σ (fun r σ' => r = .ret (.tup [.bool (evalW b f inp).1, .int .i64 (evalW b f inp).2]) ∧ σ' = σ) := by
  refine calls_x mixed Try.func30 b30 n30 rfl q30 (by simp) ?_; unfold c30 r30
  obtain ⟨e, he⟩ : ∃ e, chk b.1 b.2 = e := ⟨_, rfl⟩
  by_cases h0 : e = 0
  · subst h0
    have hf := chk_fine.1 he
    cases hof : [f].any (outside b.2) with
    | true =>
      have hw : evalW b f inp = (false, 1) := by unfold evalW; rw [ask_arg hf (by simp [hof]), if_pos (by decide)]
      rw [hw]
      have ez : ((1 : Int) != 0) = true := by decide
      repeat' (first | simp (maxDischargeDepth := 9) -implicitDefEqProofs -dsimp only [go_sem, Nat.reduceEqDiff, Nat.reduceAdd, Nat.reduceSub, Nat.reduceMul, Nat.reduceLeDiff, reduceIte, reduceCtorEq, Int.reduceEq, Int.reduceLE, Int.reduceLT, Int.reduceToNat, *] | simp (disch := omega) only [wrap64, tdiv2, tmod2, and1, xor1, xor_is1, shr1, shr1'] | (with_reducible (first | apply gd_td | apply gd_fd | apply br_d | apply gd_tbl | apply gd_fbl | apply br_bl | apply gd_tnl | apply gd_fnl | apply br_nl | apply gd_tb | apply gd_fb | apply br_b | apply gd_tn | apply gd_fn | apply br_n | apply gd_t | apply gd_f | apply br_split | apply ifnil_i) <;> intro hq) | ((with_reducible refine req_i ?_ ?_); focus (first | omega | exact rfl)) | ((with_reducible refine wth_map ?_ ?_); focus omega) | ((with_reducible refine fresh_i (fun oF hoF hnF hnF' => ?_)); (try simp only [upd_none, ne_eq, not_and] at hoF)) | ((with_reducible apply ACalls.one1); (focus (first | ((first | with_reducible refine bdd_asked_arg b.1 b.2 [f] _ hf ?_ hof) <;> (first | (simp (maxDischargeDepth := 9) -implicitDefEqProofs -dsimp only [go_sem, Nat.reduceEqDiff, Nat.reduceAdd, Nat.reduceSub, Nat.reduceMul, Nat.reduceLeDiff, reduceIte, reduceCtorEq, Int.reduceEq, Int.reduceLE, Int.reduceLT, Int.reduceToNat, *]; done) | omega | ((with_reducible refine Sub.get hS ?_); simp (maxDischargeDepth := 9) -implicitDefEqProofs -dsimp only [go_sem, Nat.reduceEqDiff, Nat.reduceAdd, Nat.reduceSub, Nat.reduceMul, Nat.reduceLeDiff, reduceIte, reduceCtorEq, Int.reduceEq, Int.reduceLE, Int.reduceLT, Int.reduceToNat, *]; done))) | (with_reducible refine ACalls.flA (bdd_asked_arg b.1 b.2 [f] _ hf ?_ hof) ?_ <;> (first | (simp (maxDischargeDepth := 9) -implicitDefEqProofs -dsimp only [go_sem, Nat.reduceEqDiff, Nat.reduceAdd, Nat.reduceSub, Nat.reduceMul, Nat.reduceLeDiff, reduceIte, reduceCtorEq, Int.reduceEq, Int.reduceLE, Int.reduceLT, Int.reduceToNat, *]; done) | omega | ((with_reducible refine Sub.get hS ?_); simp (maxDischargeDepth := 9) -implicitDefEqProofs -dsimp only [go_sem, Nat.reduceEqDiff, Nat.reduceAdd, Nat.reduceSub, Nat.reduceMul, Nat.reduceLeDiff, reduceIte, reduceCtorEq, Int.reduceEq, Int.reduceLE, Int.reduceLT, Int.reduceToNat, *]; done))))); (focus (first | trivial | with_reducible exact rfl | (simp (maxDischargeDepth := 9) -implicitDefEqProofs -dsimp only [go_sem, Nat.reduceEqDiff, Nat.reduceAdd, Nat.reduceSub, Nat.reduceMul, Nat.reduceLeDiff, reduceIte, reduceCtorEq, Int.reduceEq, Int.reduceLE, Int.reduceLT, Int.reduceToNat]; done)))) | fail)
      refine fin_eq ?_
      (repeat' (first | simp (maxDischargeDepth := 9) -implicitDefEqProofs -dsimp only [go_sem, Nat.reduceEqDiff, Nat.reduceAdd, Nat.reduceSub, Nat.reduceMul, Nat.reduceLeDiff, reduceIte, reduceCtorEq, Int.reduceEq, Int.reduceLE, Int.reduceLT, Int.reduceToNat, *] | simp (disch := omega) only [wrap64, tdiv2, tmod2, and1, xor1, xor_is1, shr1, shr1'])) <;> (repeat' refine And.intro ?_ ?_) <;> (first | omega | rfl | assumption | skip)
    | false =>
    have hof' : outside b.2 f = false := by simpa using hof
    have i := out_In hof' hf.toOk
    have hask : askE b [f] false = 0 := ask_ok hf (by simp [hof'])
    have ez : ((0 : Int) != 0) = false := by decide
    by_cases hlen : (inp.length : Int) = b.1
    · have hw : evalW b f inp = (evf b.2 inp f.toNat f, 0) := by unfold evalW; rw [hask, if_neg (by simp), if_neg (by simp [hlen])]
      rw [hw]
      have hlb : ((inp.length : Int) != b.1) = false := by simpa using hlen
      repeat' (first | simp (maxDischargeDepth := 9) -implicitDefEqProofs -dsimp only [go_sem, Nat.reduceEqDiff, Nat.reduceAdd, Nat.reduceSub, Nat.reduceMul, Nat.reduceLeDiff, reduceIte, reduceCtorEq, Int.reduceEq, Int.reduceLE, Int.reduceLT, Int.reduceToNat, *] | simp (disch := omega) only [wrap64, tdiv2, tmod2, and1, xor1, xor_is1, shr1, shr1'] | (with_reducible (first | apply gd_td | apply gd_fd | apply br_d | apply gd_tbl | apply gd_fbl | apply br_bl | apply gd_tnl | apply gd_fnl | apply br_nl | apply gd_tb | apply gd_fb | apply br_b | apply gd_tn | apply gd_fn | apply br_n | apply gd_t | apply gd_f | apply br_split | apply ifnil_i) <;> intro hq) | ((with_reducible refine req_i ?_ ?_); focus (first | omega | exact rfl)) | ((with_reducible refine wth_map ?_ ?_); focus omega) | ((with_reducible refine fresh_i (fun oF hoF hnF hnF' => ?_)); (try simp only [upd_none, ne_eq, not_and] at hoF)) | fail)
      refine newMac4 (ACalls.flA (bdd_asked_yes b.1 b.2 [f] _ hf (by simp) hof) (by simp (maxDischargeDepth := 9) -implicitDefEqProofs -dsimp only [go_sem, Nat.reduceEqDiff, Nat.reduceAdd, Nat.reduceSub, Nat.reduceMul, Nat.reduceLeDiff, reduceIte, reduceCtorEq, Int.reduceEq, Int.reduceLE, Int.reduceLT, Int.reduceToNat, *]; done)) fun m t a d hne q1 q2 q3 q4 => ?_
      have om : ¬ m = o := fun e => by rw [e, ho] at q1; simp at q1
      have ot : ¬ t = o := fun e => by rw [e, ho] at q2; simp at q2
      have oa : ¬ a = o := fun e => by rw [e, ho] at q3; simp at q3
      have od : ¬ d = o := fun e => by rw [e, ho] at q4; simp at q4
      have om' : ¬ o = m := fun e => om e.symm
      have ot' : ¬ o = t := fun e => ot e.symm
      have oa' : ¬ o = a := fun e => oa e.symm
      have od' : ¬ o = d := fun e => od e.symm
      have hne' := hne
      obtain ⟨e1, e2, e3, e4, e5, e6, f1, f2, f3, f4, f5, f6⟩ := hne'
      have i1 := i.1
      have i2 := i.2.1
      repeat' (first | simp (maxDischargeDepth := 9) -implicitDefEqProofs -dsimp only [go_sem, Nat.reduceEqDiff, Nat.reduceAdd, Nat.reduceSub, Nat.reduceMul, Nat.reduceLeDiff, reduceIte, reduceCtorEq, Int.reduceEq, Int.reduceLE, Int.reduceLT, Int.reduceToNat, *] | simp (disch := omega) only [wrap64, tdiv2, tmod2, and1, xor1, xor_is1, shr1, shr1'] | (with_reducible (first | apply gd_td | apply gd_fd | apply br_d | apply gd_tbl | apply gd_fbl | apply br_bl | apply gd_tnl | apply gd_fnl | apply br_nl | apply gd_tb | apply gd_fb | apply br_b | apply gd_tn | apply gd_fn | apply br_n | apply gd_t | apply gd_f | apply br_split | apply ifnil_i) <;> intro hq) | ((with_reducible refine req_i ?_ ?_); focus (first | omega | exact rfl)) | ((with_reducible refine wth_map ?_ ?_); focus omega) | ((with_reducible refine fresh_i (fun oF hoF hnF hnF' => ?_)); (try simp only [upd_none, ne_eq, not_and] at hoF)) | fail)
      refine loop_rule (fun x : Int => [(1, some (.int .i64 x)), (8, some (.ptr m 0)), (2, some (.vec o inp.length))]) (fun _ => upd σ m (machT b.1 b.2 (.own t) a d)) (fun x => 0 ≤ x ∧ x < b.2.length ∧ ∃ k : Nat, x ≤ k ∧ evf b.2 inp k x = evf b.2 inp f.toNat f) (fun x => x.toNat) f ?_ ?_
      · refine ⟨?_, ?_, i1, i2, f.toNat, by omega, rfl⟩
        · (repeat' (first | simp (maxDischargeDepth := 9) -implicitDefEqProofs -dsimp only [go_sem, Nat.reduceEqDiff, Nat.reduceAdd, Nat.reduceSub, Nat.reduceMul, Nat.reduceLeDiff, reduceIte, reduceCtorEq, Int.reduceEq, Int.reduceLE, Int.reduceLT, Int.reduceToNat, *] | simp (disch := omega) only [wrap64, tdiv2, tmod2, and1, xor1, xor_is1, shr1, shr1'])) <;> (repeat' refine And.intro ?_ ?_) <;> (first | omega | rfl | assumption | skip)
        · (repeat' (first | simp (maxDischargeDepth := 9) -implicitDefEqProofs -dsimp only [go_sem, Nat.reduceEqDiff, Nat.reduceAdd, Nat.reduceSub, Nat.reduceMul, Nat.reduceLeDiff, reduceIte, reduceCtorEq, Int.reduceEq, Int.reduceLE, Int.reduceLT, Int.reduceToNat, *] | simp (disch := omega) only [wrap64, tdiv2, tmod2, and1, xor1, xor_is1, shr1, shr1'])) <;> (repeat' refine And.intro ?_ ?_) <;> (first | omega | rfl | assumption | skip)
      · rintro x ⟨x1, x2, k, x3, x4⟩
        by_cases hx : 2 ≤ x
        · obtain ⟨k, rfl⟩ : ∃ j, k = j + 1 := ⟨k - 1, by omega⟩
          have hx1 : 1 < x := by omega
          have hv := hf.var x hx x2
          have hlo := hf.low x hx x2
          have hhi := hf.high x hx x2
          obtain ⟨v1, v2⟩ := hv
          obtain ⟨l1, l2, _⟩ := hlo
          obtain ⟨u1, u2, _⟩ := hhi
          have hvl : (frk b.2 x).1 < inp.length := by omega
          have hat := head_at inp (frk b.2 x).1.toNat (by omega)
          rw [evf_step hx] at x4
          cases hb : inp.getD (frk b.2 x).1.toNat false with
          | true =>
            rw [hb] at hat
            have hn : nx b.2 inp x = (frk b.2 x).2.2 := by unfold nx; rw [hb]; rfl
            rw [hn] at x4
            repeat' (first | simp (maxDischargeDepth := 9) -implicitDefEqProofs -dsimp only [go_sem, Nat.reduceEqDiff, Nat.reduceAdd, Nat.reduceSub, Nat.reduceMul, Nat.reduceLeDiff, reduceIte, reduceCtorEq, Int.reduceEq, Int.reduceLE, Int.reduceLT, Int.reduceToNat, gt_iff_lt, getD_b, *] | simp (disch := omega) only [wrap64, tdiv2, tmod2, and1, xor1, xor_is1, shr1, shr1'] | (with_reducible (first | apply gd_td | apply gd_fd | apply br_d | apply gd_tbl | apply gd_fbl | apply br_bl | apply gd_tnl | apply gd_fnl | apply br_nl | apply gd_tb | apply gd_fb | apply br_b | apply gd_tn | apply gd_fn | apply br_n | apply gd_t | apply gd_f | apply br_split | apply ifnil_i) <;> intro hq) | ((with_reducible refine req_i ?_ ?_); focus (first | omega | exact rfl)) | ((with_reducible refine wth_map ?_ ?_); focus omega) | ((with_reducible refine fresh_i (fun oF hoF hnF hnF' => ?_)); (try simp only [upd_none, ne_eq, not_and] at hoF)) | fail)
            refine loop_next _ _ _ _ ((frk b.2 x).2.2) ⟨?_, ?_, ⟨by omega, by omega, k, by omega, x4⟩, by omega⟩
            · (repeat' (first | simp (maxDischargeDepth := 9) -implicitDefEqProofs -dsimp only [go_sem, Nat.reduceEqDiff, Nat.reduceAdd, Nat.reduceSub, Nat.reduceMul, Nat.reduceLeDiff, reduceIte, reduceCtorEq, Int.reduceEq, Int.reduceLE, Int.reduceLT, Int.reduceToNat, *] | simp (disch := omega) only [wrap64, tdiv2, tmod2, and1, xor1, xor_is1, shr1, shr1'])) <;> (repeat' refine And.intro ?_ ?_) <;> (first | omega | rfl | assumption | skip)
            · (repeat' (first | simp (maxDischargeDepth := 9) -implicitDefEqProofs -dsimp only [go_sem, Nat.reduceEqDiff, Nat.reduceAdd, Nat.reduceSub, Nat.reduceMul, Nat.reduceLeDiff, reduceIte, reduceCtorEq, Int.reduceEq, Int.reduceLE, Int.reduceLT, Int.reduceToNat, *] | simp (disch := omega) only [wrap64, tdiv2, tmod2, and1, xor1, xor_is1, shr1, shr1'])) <;> (repeat' refine And.intro ?_ ?_) <;> (first | omega | rfl | assumption | skip)
          | false =>
            rw [hb] at hat
            have hn : nx b.2 inp x = (frk b.2 x).2.1 := by unfold nx; rw [hb]; rfl
            rw [hn] at x4
            repeat' (first | simp (maxDischargeDepth := 9) -implicitDefEqProofs -dsimp only [go_sem, Nat.reduceEqDiff, Nat.reduceAdd, Nat.reduceSub, Nat.reduceMul, Nat.reduceLeDiff, reduceIte, reduceCtorEq, Int.reduceEq, Int.reduceLE, Int.reduceLT, Int.reduceToNat, gt_iff_lt, getD_b, *] | simp (disch := omega) only [wrap64, tdiv2, tmod2, and1, xor1, xor_is1, shr1, shr1'] | (with_reducible (first | apply gd_td | apply gd_fd | apply br_d | apply gd_tbl | apply gd_fbl | apply br_bl | apply gd_tnl | apply gd_fnl | apply br_nl | apply gd_tb | apply gd_fb | apply br_b | apply gd_tn | apply gd_fn | apply br_n | apply gd_t | apply gd_f | apply br_split | apply ifnil_i) <;> intro hq) | ((with_reducible refine req_i ?_ ?_); focus (first | omega | exact rfl)) | ((with_reducible refine wth_map ?_ ?_); focus omega) | ((with_reducible refine fresh_i (fun oF hoF hnF hnF' => ?_)); (try simp only [upd_none, ne_eq, not_and] at hoF)) | fail)
            refine loop_next _ _ _ _ ((frk b.2 x).2.1) ⟨?_, ?_, ⟨by omega, by omega, k, by omega, x4⟩, by omega⟩
            · (repeat' (first | simp (maxDischargeDepth := 9) -implicitDefEqProofs -dsimp only [go_sem, Nat.reduceEqDiff, Nat.reduceAdd, Nat.reduceSub, Nat.reduceMul, Nat.reduceLeDiff, reduceIte, reduceCtorEq, Int.reduceEq, Int.reduceLE, Int.reduceLT, Int.reduceToNat, *] | simp (disch := omega) only [wrap64, tdiv2, tmod2, and1, xor1, xor_is1, shr1, shr1'])) <;> (repeat' refine And.intro ?_ ?_) <;> (first | omega | rfl | assumption | skip)
            · (repeat' (first | simp (maxDischargeDepth := 9) -implicitDefEqProofs -dsimp only [go_sem, Nat.reduceEqDiff, Nat.reduceAdd, Nat.reduceSub, Nat.reduceMul, Nat.reduceLeDiff, reduceIte, reduceCtorEq, Int.reduceEq, Int.reduceLE, Int.reduceLT, Int.reduceToNat, *] | simp (disch := omega) only [wrap64, tdiv2, tmod2, and1, xor1, xor_is1, shr1, shr1'])) <;> (repeat' refine And.intro ?_ ?_) <;> (first | omega | rfl | assumption | skip)
        · have hx1 : ¬ 1 < x := by omega
          have hv : evf b.2 inp f.toNat f = (x == 1) := by rw [← x4, evf_end (by omega)]; rfl
          rw [hv]
          repeat' (first | simp (maxDischargeDepth := 9) -implicitDefEqProofs -dsimp only [go_sem, Nat.reduceEqDiff, Nat.reduceAdd, Nat.reduceSub, Nat.reduceMul, Nat.reduceLeDiff, reduceIte, reduceCtorEq, Int.reduceEq, Int.reduceLE, Int.reduceLT, Int.reduceToNat, gt_iff_lt, *] | simp (disch := omega) only [wrap64, tdiv2, tmod2, and1, xor1, xor_is1, shr1, shr1'] | (with_reducible (first | apply gd_td | apply gd_fd | apply br_d | apply gd_tbl | apply gd_fbl | apply br_bl | apply gd_tnl | apply gd_fnl | apply br_nl | apply gd_tb | apply gd_fb | apply br_b | apply gd_tn | apply gd_fn | apply br_n | apply gd_t | apply gd_f | apply br_split | apply ifnil_i) <;> intro hq) | ((with_reducible refine req_i ?_ ?_); focus (first | omega | exact rfl)) | ((with_reducible refine wth_map ?_ ?_); focus omega) | ((with_reducible refine fresh_i (fun oF hoF hnF hnF' => ?_)); (try simp only [upd_none, ne_eq, not_and] at hoF)) | fail)
          refine fin_eq ?_
          (repeat' (first | simp (maxDischargeDepth := 9) -implicitDefEqProofs -dsimp only [go_sem, Nat.reduceEqDiff, Nat.reduceAdd, Nat.reduceSub, Nat.reduceMul, Nat.reduceLeDiff, reduceIte, reduceCtorEq, Int.reduceEq, Int.reduceLE, Int.reduceLT, Int.reduceToNat, *] | simp (disch := omega) only [wrap64, tdiv2, tmod2, and1, xor1, xor_is1, shr1, shr1'])) <;> (repeat' refine And.intro ?_ ?_) <;> (first | omega | rfl | assumption | skip)
    · have hw : evalW b f inp = (false, 1) := by unfold evalW; rw [hask, if_neg (by simp), if_pos hlen]
      rw [hw]
      have hlb : ((inp.length : Int) != b.1) = true := by simpa using hlen
      repeat' (first | simp (maxDischargeDepth := 9) -implicitDefEqProofs -dsimp only [go_sem, Nat.reduceEqDiff, Nat.reduceAdd, Nat.reduceSub, Nat.reduceMul, Nat.reduceLeDiff, reduceIte, reduceCtorEq, Int.reduceEq, Int.reduceLE, Int.reduceLT, Int.reduceToNat, *] | simp (disch := omega) only [wrap64, tdiv2, tmod2, and1, xor1, xor_is1, shr1, shr1'] | (with_reducible (first | apply gd_td | apply gd_fd | apply br_d | apply gd_tbl | apply gd_fbl | apply br_bl | apply gd_tnl | apply gd_fnl | apply br_nl | apply gd_tb | apply gd_fb | apply br_b | apply gd_tn | apply gd_fn | apply br_n | apply gd_t | apply gd_f | apply br_split | apply ifnil_i) <;> intro hq) | ((with_reducible refine req_i ?_ ?_); focus (first | omega | exact rfl)) | ((with_reducible refine wth_map ?_ ?_); focus omega) | ((with_reducible refine fresh_i (fun oF hoF hnF hnF' => ?_)); (try simp only [upd_none, ne_eq, not_and] at hoF)) | fail)
      refine newMac4 (ACalls.flA (bdd_asked_yes b.1 b.2 [f] _ hf (by simp) hof) (by simp (maxDischargeDepth := 9) -implicitDefEqProofs -dsimp only [go_sem, Nat.reduceEqDiff, Nat.reduceAdd, Nat.reduceSub, Nat.reduceMul, Nat.reduceLeDiff, reduceIte, reduceCtorEq, Int.reduceEq, Int.reduceLE, Int.reduceLT, Int.reduceToNat, *]; done)) fun m t a d hne q1 q2 q3 q4 => ?_
      have om : ¬ m = o := fun e => by rw [e, ho] at q1; simp at q1
      have ot : ¬ t = o := fun e => by rw [e, ho] at q2; simp at q2
      have oa : ¬ a = o := fun e => by rw [e, ho] at q3; simp at q3
      have od : ¬ d = o := fun e => by rw [e, ho] at q4; simp at q4
      have om' : ¬ o = m := fun e => om e.symm
      have ot' : ¬ o = t := fun e => ot e.symm
      have oa' : ¬ o = a := fun e => oa e.symm
      have od' : ¬ o = d := fun e => od e.symm
      have hne' := hne
      obtain ⟨e1, e2, e3, e4, e5, e6, f1, f2, f3, f4, f5, f6⟩ := hne'
      repeat' (first | simp (maxDischargeDepth := 9) -implicitDefEqProofs -dsimp only [go_sem, Nat.reduceEqDiff, Nat.reduceAdd, Nat.reduceSub, Nat.reduceMul, Nat.reduceLeDiff, reduceIte, reduceCtorEq, Int.reduceEq, Int.reduceLE, Int.reduceLT, Int.reduceToNat, *] | simp (disch := omega) only [wrap64, tdiv2, tmod2, and1, xor1, xor_is1, shr1, shr1'] | (with_reducible (first | apply gd_td | apply gd_fd | apply br_d | apply gd_tbl | apply gd_fbl | apply br_bl | apply gd_tnl | apply gd_fnl | apply br_nl | apply gd_tb | apply gd_fb | apply br_b | apply gd_tn | apply gd_fn | apply br_n | apply gd_t | apply gd_f | apply br_split | apply ifnil_i) <;> intro hq) | ((with_reducible refine req_i ?_ ?_); focus (first | omega | exact rfl)) | ((with_reducible refine wth_map ?_ ?_); focus omega) | ((with_reducible refine fresh_i (fun oF hoF hnF hnF' => ?_)); (try simp only [upd_none, ne_eq, not_and] at hoF)) | fail)
      refine fin_eq ?_
      (repeat' (first | simp (maxDischargeDepth := 9) -implicitDefEqProofs -dsimp only [go_sem, Nat.reduceEqDiff, Nat.reduceAdd, Nat.reduceSub, Nat.reduceMul, Nat.reduceLeDiff, reduceIte, reduceCtorEq, Int.reduceEq, Int.reduceLE, Int.reduceLT, Int.reduceToNat, *] | simp (disch := omega) only [wrap64, tdiv2, tmod2, and1, xor1, xor_is1, shr1, shr1'])) <;> (repeat' refine And.intro ?_ ?_) <;> (first | omega | rfl | assumption | skip)
  · have hw : evalW b f inp = (false, e) := by unfold evalW; rw [ask_err he h0, if_pos h0]
    rw [hw]
    have hb : (e != 0) = true := by simpa using h0
    repeat' (first | simp (maxDischargeDepth := 9) -implicitDefEqProofs -dsimp only [go_sem, Nat.reduceEqDiff, Nat.reduceAdd, Nat.reduceSub, Nat.reduceMul, Nat.reduceLeDiff, reduceIte, reduceCtorEq, Int.reduceEq, Int.reduceLE, Int.reduceLT, Int.reduceToNat, *] | simp (disch := omega) only [wrap64, tdiv2, tmod2, and1, xor1, xor_is1, shr1, shr1'] | (with_reducible (first | apply gd_td | apply gd_fd | apply br_d | apply gd_tbl | apply gd_fbl | apply br_bl | apply gd_tnl | apply gd_fnl | apply br_nl | apply gd_tb | apply gd_fb | apply br_b | apply gd_tn | apply gd_fn | apply br_n | apply gd_t | apply gd_f | apply br_split | apply ifnil_i) <;> intro hq) | ((with_reducible refine req_i ?_ ?_); focus (first | omega | exact rfl)) | ((with_reducible refine wth_map ?_ ?_); focus omega) | ((with_reducible refine fresh_i (fun oF hoF hnF hnF' => ?_)); (try simp only [upd_none, ne_eq, not_and] at hoF)) | ((with_reducible apply ACalls.one1); (focus (first | ((first | with_reducible refine bdd_asked_no b.1 b.2 [f] _ hl e he h0) <;> (first | (simp (maxDischargeDepth := 9) -implicitDefEqProofs -dsimp only [go_sem, Nat.reduceEqDiff, Nat.reduceAdd, Nat.reduceSub, Nat.reduceMul, Nat.reduceLeDiff, reduceIte, reduceCtorEq, Int.reduceEq, Int.reduceLE, Int.reduceLT, Int.reduceToNat, *]; done) | omega | ((with_reducible refine Sub.get hS ?_); simp (maxDischargeDepth := 9) -implicitDefEqProofs -dsimp only [go_sem, Nat.reduceEqDiff, Nat.reduceAdd, Nat.reduceSub, Nat.reduceMul, Nat.reduceLeDiff, reduceIte, reduceCtorEq, Int.reduceEq, Int.reduceLE, Int.reduceLT, Int.reduceToNat, *]; done))) | (with_reducible refine ACalls.flA (bdd_asked_no b.1 b.2 [f] _ hl e he h0) ?_ <;> (first | (simp (maxDischargeDepth := 9) -implicitDefEqProofs -dsimp only [go_sem, Nat.reduceEqDiff, Nat.reduceAdd, Nat.reduceSub, Nat.reduceMul, Nat.reduceLeDiff, reduceIte, reduceCtorEq, Int.reduceEq, Int.reduceLE, Int.reduceLT, Int.reduceToNat, *]; done) | omega | ((with_reducible refine Sub.get hS ?_); simp (maxDischargeDepth := 9) -implicitDefEqProofs -dsimp only [go_sem, Nat.reduceEqDiff, Nat.reduceAdd, Nat.reduceSub, Nat.reduceMul, Nat.reduceLeDiff, reduceIte, reduceCtorEq, Int.reduceEq, Int.reduceLE, Int.reduceLT, Int.reduceToNat, *]; done))))); (focus (first | trivial | with_reducible exact rfl | (simp (maxDischargeDepth := 9) -implicitDefEqProofs -dsimp only [go_sem, Nat.reduceEqDiff, Nat.reduceAdd, Nat.reduceSub, Nat.reduceMul, Nat.reduceLeDiff, reduceIte, reduceCtorEq, Int.reduceEq, Int.reduceLE, Int.reduceLT, Int.reduceToNat]; done)))) | fail)
    refine fin_eq ?_
    (repeat' (first | simp (maxDischargeDepth := 9) -implicitDefEqProofs -dsimp only [go_sem, Nat.reduceEqDiff, Nat.reduceAdd, Nat.reduceSub, Nat.reduceMul, Nat.reduceLeDiff, reduceIte, reduceCtorEq, Int.reduceEq, Int.reduceLE, Int.reduceLT, Int.reduceToNat, *] | simp (disch := omega) only [wrap64, tdiv2, tmod2, and1, xor1, xor_is1, shr1, shr1'])) <;> (repeat' refine And.intro ?_ ?_) <;> (first | omega | rfl | assumption | skip)


end Go.Proofs.Yteabanjbgpplmaa
