/- bdd: contracts of begin and Check. -/
-- NODRAW
import Derived.Test.YteabanjbgpplmaaBddBddE
import Derived.Test.YteabanjbgpplmaaBddCheck
set_option linter.unusedSimpArgs false
set_option linter.unusedVariables false
namespace Go.Proofs.Yteabanjbgpplmaa
open Abs Fil Fil.Bd

theorem sl_clipFork (F : List T3) (σ : Sig) (h : 0 < F.length) (hl : F.length ≤ 1000000000000) :
    ACalls Try.prog 54 [.slice (F.map encF) .no] σ (NewO σ (fun o => .slice (F.map encF) (.own o)) (.grow 3 F.length)) := by
  refine calls_x mixed Try.func54 b54 n54 rfl q54 (by simp) ?_; unfold c54 r54
  repeat' (first | simp (maxDischargeDepth := 9) -implicitDefEqProofs -dsimp only [go_sem, Nat.reduceEqDiff, Nat.reduceAdd, Nat.reduceSub, Nat.reduceMul, Nat.reduceLeDiff, reduceIte, reduceCtorEq, Int.reduceEq, Int.reduceLE, Int.reduceLT, Int.reduceToNat, *] | simp (disch := omega) only [wrap64, tdiv2, tmod2, and1, xor1, xor_is1, shr1, shr1'] | (with_reducible (first | apply gd_td | apply gd_fd | apply br_d | apply gd_tbl | apply gd_fbl | apply br_bl | apply gd_tnl | apply gd_fnl | apply br_nl | apply gd_tb | apply gd_fb | apply br_b | apply gd_tn | apply gd_fn | apply br_n | apply gd_t | apply gd_f | apply br_split | apply ifnil_i) <;> intro hq) | ((with_reducible refine req_i ?_ ?_); focus (first | omega | exact rfl)) | ((with_reducible refine wth_map ?_ ?_); focus omega) | ((with_reducible refine fresh_i (fun oF hoF hnF hnF' => ?_)); (try simp only [upd_none, ne_eq, not_and] at hoF)) | fail)
  exact fin_id ⟨oF, hoF, rfl, rfl⟩

theorem bdd_begin_big (vars : Int) (F : List T3) (σ : Sig) (h : 65536 < F.length) (hl : F.length ≤ 9223372036854775807) :
    ACalls Try.prog 37 [encB vars F] σ (fun r σ' => r = .ret (.tup [.nilp, .int .i64 220]) ∧ σ' = σ) := by
  refine calls_x mixed Try.func37 b37 n37 rfl q37 (by simp) ?_; unfold c37 r37
  repeat' (first | simp (maxDischargeDepth := 9) -implicitDefEqProofs -dsimp only [go_sem, Nat.reduceEqDiff, Nat.reduceAdd, Nat.reduceSub, Nat.reduceMul, Nat.reduceLeDiff, reduceIte, reduceCtorEq, Int.reduceEq, Int.reduceLE, Int.reduceLT, Int.reduceToNat, gt_iff_lt, *] | simp (disch := omega) only [wrap64, tdiv2, tmod2, and1, xor1, xor_is1, shr1, shr1'] | (with_reducible (first | apply gd_td | apply gd_fd | apply br_d | apply gd_tbl | apply gd_fbl | apply br_bl | apply gd_tnl | apply gd_fnl | apply br_nl | apply gd_tb | apply gd_fb | apply br_b | apply gd_tn | apply gd_fn | apply br_n | apply gd_t | apply gd_f | apply br_split | apply ifnil_i) <;> intro hq) | ((with_reducible refine req_i ?_ ?_); focus (first | omega | exact rfl)) | ((with_reducible refine wth_map ?_ ?_); focus omega) | ((with_reducible refine fresh_i (fun oF hoF hnF hnF' => ?_)); (try simp only [upd_none, ne_eq, not_and] at hoF)) | fail)
  all_goals first | (exfalso; omega) | (refine fin_eq ?_; (repeat' (first | simp (maxDischargeDepth := 9) -implicitDefEqProofs -dsimp only [go_sem, Nat.reduceEqDiff, Nat.reduceAdd, Nat.reduceSub, Nat.reduceMul, Nat.reduceLeDiff, reduceIte, reduceCtorEq, Int.reduceEq, Int.reduceLE, Int.reduceLT, Int.reduceToNat, *] | simp (disch := omega) only [wrap64, tdiv2, tmod2, and1, xor1, xor_is1, shr1, shr1'])) <;> (repeat' refine And.intro ?_ ?_) <;> (first | omega | rfl | assumption | skip); done)

theorem bdd_begin_head (vars : Int) (F : List T3) (σ : Sig) (h : F.length ≤ 65536) (hh : head vars F = true) :
    ACalls Try.prog 37 [encB vars F] σ (fun r σ' => r = .ret (.tup [.nilp, .int .i64 1]) ∧ σ' = σ) := by
  refine calls_x mixed Try.func37 b37 n37 rfl q37 (by simp) ?_; unfold c37 r37
  simp only [head, Bool.or_eq_true, decide_eq_true_eq] at hh
  repeat' (first | simp (maxDischargeDepth := 9) -implicitDefEqProofs -dsimp only [go_sem, Nat.reduceEqDiff, Nat.reduceAdd, Nat.reduceSub, Nat.reduceMul, Nat.reduceLeDiff, reduceIte, reduceCtorEq, Int.reduceEq, Int.reduceLE, Int.reduceLT, Int.reduceToNat, gt_iff_lt, *] | simp (disch := omega) only [wrap64, tdiv2, tmod2, and1, xor1, xor_is1, shr1, shr1'] | (with_reducible (first | apply gd_td | apply gd_fd | apply br_d | apply gd_tbl | apply gd_fbl | apply br_bl | apply gd_tnl | apply gd_fnl | apply br_nl | apply gd_tb | apply gd_fb | apply br_b | apply gd_tn | apply gd_fn | apply br_n | apply gd_t | apply gd_f | apply br_split | apply ifnil_i) <;> intro hq) | ((with_reducible refine req_i ?_ ?_); focus (first | omega | exact rfl)) | ((with_reducible refine wth_map ?_ ?_); focus omega) | ((with_reducible refine fresh_i (fun oF hoF hnF hnF' => ?_)); (try simp only [upd_none, ne_eq, not_and] at hoF)) | fail)
  all_goals first | (exfalso; omega) | (refine fin_eq ?_; (repeat' (first | simp (maxDischargeDepth := 9) -implicitDefEqProofs -dsimp only [go_sem, Nat.reduceEqDiff, Nat.reduceAdd, Nat.reduceSub, Nat.reduceMul, Nat.reduceLeDiff, reduceIte, reduceCtorEq, Int.reduceEq, Int.reduceLE, Int.reduceLT, Int.reduceToNat, *] | simp (disch := omega) only [wrap64, tdiv2, tmod2, and1, xor1, xor_is1, shr1, shr1'])) <;> (repeat' refine And.intro ?_ ?_) <;> (first | omega | rfl | assumption | skip); done) | skip
  exfalso
  rename_i q4
  simp only [Bool.and_eq_true, beq_iff_eq] at hq q4
  rcases hh with (((h1 | h1) | h1) | h1) | h1
  · exact absurd h1 (by omega)
  · exact absurd h1 (by omega)
  · exact absurd h1 (by omega)
  · exact h1 (Prod.ext q4.1 (Prod.ext q4.2.1 q4.2.2))
  · exact h1 (Prod.ext hq.1 (Prod.ext hq.2.1 hq.2.2))

theorem begin_facts {vars : Int} {F : List T3} (h : F.length ≤ 65536) (hh : head vars F = false) : 0 ≤ vars ∧ vars ≤ 32 ∧ 2 ≤ F.length ∧
    ((frk F 0).1 == -1 && ((frk F 0).2.1 == 0 && (frk F 0).2.2 == 0)) = true ∧ ((frk F 1).1 == -1 && ((frk F 1).2.1 == 0 && (frk F 1).2.2 == 0)) = true := by
  obtain ⟨a, b, c, d, e⟩ := head_iff.1 hh
  exact ⟨a, b, c, by rw [d]; rfl, by rw [e]; rfl⟩

theorem bdd_begin_ok (vars : Int) (F : List T3) (σ : Sig) (h : F.length ≤ 65536) (hh : head vars F = false) (hb : ∀ j, j < F.length - 2 → bad vars F j = false) :
    ACalls Try.prog 37 [encB vars F] σ (fun r σ' => ∃ m t a d, σ m = none ∧ σ t = none ∧ σ a = none ∧ σ d = none ∧ Apart m t a d ∧ r = .ret (.tup [.ptr m 0, .int .i64 0]) ∧
      σ' = upd (upd (upd (upd σ m (machT vars F (.own t) a d)) t (.grow 3 F.length)) a (.map true (encM (mac F).at_))) d (.map true [])) := by
  refine calls_x mixed Try.func37 b37 n37 rfl q37 (by simp) ?_; unfold c37 r37
  obtain ⟨k1, k2, k3, k4, k5⟩ := begin_facts h hh
  repeat' (first | simp (maxDischargeDepth := 9) -implicitDefEqProofs -dsimp only [go_sem, Nat.reduceEqDiff, Nat.reduceAdd, Nat.reduceSub, Nat.reduceMul, Nat.reduceLeDiff, reduceIte, reduceCtorEq, Int.reduceEq, Int.reduceLE, Int.reduceLT, Int.reduceToNat, gt_iff_lt, *] | simp (disch := omega) only [wrap64, tdiv2, tmod2, and1, xor1, xor_is1, shr1, shr1'] | (with_reducible (first | apply gd_td | apply gd_fd | apply br_d | apply gd_tbl | apply gd_fbl | apply br_bl | apply gd_tnl | apply gd_fnl | apply br_nl | apply gd_tb | apply gd_fb | apply br_b | apply gd_tn | apply gd_fn | apply br_n | apply gd_t | apply gd_f | apply br_split | apply ifnil_i) <;> intro hq) | ((with_reducible refine req_i ?_ ?_); focus (first | omega | exact rfl)) | ((with_reducible refine wth_map ?_ ?_); focus omega) | ((with_reducible refine fresh_i (fun oF hoF hnF hnF' => ?_)); (try simp only [upd_none, ne_eq, not_and] at hoF)) | fail)
  all_goals first | (exfalso; omega) | skip
  rename_i q0 oa hoa hna hna' od hnd hnd' hod om hnm hnm' hom q1 q2
  clear hna hna' hnd hnd' hnm hnm' hnF hnF' k4 k5 hh
  obtain ⟨x1, x2⟩ := hod
  obtain ⟨x3, x4, x5⟩ := hom
  obtain ⟨x6, x7, x8, x9⟩ := hoF
  have y1 : ¬ oa = od := fun e => x1 e.symm
  have y2 : ¬ od = om := fun e => x3 e.symm
  have y3 : ¬ oa = om := fun e => x4 e.symm
  refine loop_rule (fun i : Nat => [(54, some (.int .i64 i)), (53, some (.int .i64 ((F.length - 2 : Nat) : Int))), (52, some (.slice ((F.map encF).drop 2) .no)), (4, some (.ptr om 0)), (1, some (.cptr [.int .i64 vars, .slice (F.map encF) .no]))])
    (fun i => upd (upd (upd σ oa (.map true (encM (atL F i)))) od (.map true [])) om (machT vars F .no oa od)) (fun i => i ≤ F.length - 2) (fun i => F.length - 2 - i) 0 ?_ ?_
  · (repeat' (first | simp (maxDischargeDepth := 9) -implicitDefEqProofs -dsimp only [go_sem, Nat.reduceEqDiff, Nat.reduceAdd, Nat.reduceSub, Nat.reduceMul, Nat.reduceLeDiff, reduceIte, reduceCtorEq, Int.reduceEq, Int.reduceLE, Int.reduceLT, Int.reduceToNat, atL, List.length_drop, List.length_map, *] | simp (disch := omega) only [wrap64, tdiv2, tmod2, and1, xor1, xor_is1, shr1, shr1'])) <;> (repeat' refine And.intro ?_ ?_) <;> (first | omega | rfl | assumption | skip)
  · intro i hi
    by_cases hlt : i < F.length - 2
    · have hbi := hb i hlt
      obtain ⟨r1, r2, r3, r4, r5, r6⟩ := bad_iff.1 hbi
      have g0 : get3 (atL F i) (frk F (i + 2)) = none := by
        cases c : get3 (atL F i) (frk F (i + 2)) with
        | none => rfl
        | some n =>
          obtain ⟨j, j1, j2⟩ := (at_some F (frk F (i + 2)) i).1 (by rw [c]; rfl)
          exact absurd j2 (r1 j j1)
      have r4' : ((frk F (i + 2)).2.1 == (frk F (i + 2)).2.2) = false := by simpa using r4
      have hi2 : (i : Int) + 2 < F.length := by omega
      have gi : (List.drop 2 (List.map encF F))[i]? = some (.agg [.int .i64 (frk F ((i : Int) + 2)).1, .int .i64 (frk F ((i : Int) + 2)).2.1, .int .i64 (frk F ((i : Int) + 2)).2.2]) := by
        rw [List.getElem?_drop, List.getElem?_map, List.getElem?_eq_getElem (by omega : 2 + i < F.length)]
        have := get_frk F ((i : Int) + 2) (by omega)
        have e : ((i : Int) + 2).toNat = 2 + i := by omega
        simp only [e] at this
        rw [this]; rfl
      clear r1 r4 hb hbi
      repeat' (first | simp (maxDischargeDepth := 9) -implicitDefEqProofs -dsimp only [go_sem, Nat.reduceEqDiff, Nat.reduceAdd, Nat.reduceSub, Nat.reduceMul, Nat.reduceLeDiff, reduceIte, reduceCtorEq, Int.reduceEq, Int.reduceLE, Int.reduceLT, Int.reduceToNat, gt_iff_lt, ge_iff_le, Option.map_none, Option.getD_none, Option.isSome_none, *] | simp (disch := omega) only [wrap64, tdiv2, tmod2, and1, xor1, xor_is1, shr1, shr1'] | (with_reducible (first | apply gd_td | apply gd_fd | apply br_d | apply gd_tbl | apply gd_fbl | apply br_bl | apply gd_tnl | apply gd_fnl | apply br_nl | apply gd_tb | apply gd_fb | apply br_b | apply gd_tn | apply gd_fn | apply br_n | apply gd_t | apply gd_f | apply br_split | apply ifnil_i) <;> intro hq) | ((with_reducible refine req_i ?_ ?_); focus (first | omega | exact rfl)) | ((with_reducible refine wth_map ?_ ?_); focus omega) | ((with_reducible refine fresh_i (fun oF hoF hnF hnF' => ?_)); (try simp only [upd_none, ne_eq, not_and] at hoF)) | ((with_reducible apply ACalls.one1); (focus (first | ((first | with_reducible refine bdd_under om oa od .no vars F _ _ _ _ ?_ hi2) <;> (first | (simp (maxDischargeDepth := 9) -implicitDefEqProofs -dsimp only [go_sem, Nat.reduceEqDiff, Nat.reduceAdd, Nat.reduceSub, Nat.reduceMul, Nat.reduceLeDiff, reduceIte, reduceCtorEq, Int.reduceEq, Int.reduceLE, Int.reduceLT, Int.reduceToNat, *]; done) | omega | ((with_reducible refine Sub.get hS ?_); simp (maxDischargeDepth := 9) -implicitDefEqProofs -dsimp only [go_sem, Nat.reduceEqDiff, Nat.reduceAdd, Nat.reduceSub, Nat.reduceMul, Nat.reduceLeDiff, reduceIte, reduceCtorEq, Int.reduceEq, Int.reduceLE, Int.reduceLT, Int.reduceToNat, *]; done))) | (with_reducible refine ACalls.flA (bdd_under om oa od .no vars F _ _ _ _ ?_ hi2) ?_ <;> (first | (simp (maxDischargeDepth := 9) -implicitDefEqProofs -dsimp only [go_sem, Nat.reduceEqDiff, Nat.reduceAdd, Nat.reduceSub, Nat.reduceMul, Nat.reduceLeDiff, reduceIte, reduceCtorEq, Int.reduceEq, Int.reduceLE, Int.reduceLT, Int.reduceToNat, *]; done) | omega | ((with_reducible refine Sub.get hS ?_); simp (maxDischargeDepth := 9) -implicitDefEqProofs -dsimp only [go_sem, Nat.reduceEqDiff, Nat.reduceAdd, Nat.reduceSub, Nat.reduceMul, Nat.reduceLeDiff, reduceIte, reduceCtorEq, Int.reduceEq, Int.reduceLE, Int.reduceLT, Int.reduceToNat, *]; done))))); (focus (first | trivial | with_reducible exact rfl | (simp (maxDischargeDepth := 9) -implicitDefEqProofs -dsimp only [go_sem, Nat.reduceEqDiff, Nat.reduceAdd, Nat.reduceSub, Nat.reduceMul, Nat.reduceLeDiff, reduceIte, reduceCtorEq, Int.reduceEq, Int.reduceLE, Int.reduceLT, Int.reduceToNat]; done)))) | fail)
      all_goals first | (exfalso; omega) | skip
      refine loop_next _ _ _ _ (i + 1) ?_; (repeat' (first | simp (maxDischargeDepth := 9) -implicitDefEqProofs -dsimp only [go_sem, Nat.reduceEqDiff, Nat.reduceAdd, Nat.reduceSub, Nat.reduceMul, Nat.reduceLeDiff, reduceIte, reduceCtorEq, Int.reduceEq, Int.reduceLE, Int.reduceLT, Int.reduceToNat,  atL, *] | simp (disch := omega) only [wrap64, tdiv2, tmod2, and1, xor1, xor_is1, shr1, shr1'])) <;> (repeat' refine And.intro ?_ ?_) <;> (first | omega | rfl | assumption | skip)
    · have ei : i = F.length - 2 := by omega
      subst ei
      have hl0 : 0 < F.length := by omega
      have hl1 : F.length ≤ 1000000000000 := by omega
      repeat' (first | simp (maxDischargeDepth := 9) -implicitDefEqProofs -dsimp only [go_sem, Nat.reduceEqDiff, Nat.reduceAdd, Nat.reduceSub, Nat.reduceMul, Nat.reduceLeDiff, reduceIte, reduceCtorEq, Int.reduceEq, Int.reduceLE, Int.reduceLT, Int.reduceToNat, *] | simp (disch := omega) only [wrap64, tdiv2, tmod2, and1, xor1, xor_is1, shr1, shr1'] | (with_reducible (first | apply gd_td | apply gd_fd | apply br_d | apply gd_tbl | apply gd_fbl | apply br_bl | apply gd_tnl | apply gd_fnl | apply br_nl | apply gd_tb | apply gd_fb | apply br_b | apply gd_tn | apply gd_fn | apply br_n | apply gd_t | apply gd_f | apply br_split | apply ifnil_i) <;> intro hq) | ((with_reducible refine req_i ?_ ?_); focus (first | omega | exact rfl)) | ((with_reducible refine wth_map ?_ ?_); focus omega) | ((with_reducible refine fresh_i (fun oF hoF hnF hnF' => ?_)); (try simp only [upd_none, ne_eq, not_and] at hoF)) | ((with_reducible apply ACalls.newO); (focus (first | ((first | with_reducible refine sl_clipFork F _ hl0 hl1) <;> (first | (simp (maxDischargeDepth := 9) -implicitDefEqProofs -dsimp only [go_sem, Nat.reduceEqDiff, Nat.reduceAdd, Nat.reduceSub, Nat.reduceMul, Nat.reduceLeDiff, reduceIte, reduceCtorEq, Int.reduceEq, Int.reduceLE, Int.reduceLT, Int.reduceToNat, *]; done) | omega | ((with_reducible refine Sub.get hS ?_); simp (maxDischargeDepth := 9) -implicitDefEqProofs -dsimp only [go_sem, Nat.reduceEqDiff, Nat.reduceAdd, Nat.reduceSub, Nat.reduceMul, Nat.reduceLeDiff, reduceIte, reduceCtorEq, Int.reduceEq, Int.reduceLE, Int.reduceLT, Int.reduceToNat, *]; done))) | (with_reducible refine ACalls.flA (sl_clipFork F _ hl0 hl1) ?_ <;> (first | (simp (maxDischargeDepth := 9) -implicitDefEqProofs -dsimp only [go_sem, Nat.reduceEqDiff, Nat.reduceAdd, Nat.reduceSub, Nat.reduceMul, Nat.reduceLeDiff, reduceIte, reduceCtorEq, Int.reduceEq, Int.reduceLE, Int.reduceLT, Int.reduceToNat, *]; done) | omega | ((with_reducible refine Sub.get hS ?_); simp (maxDischargeDepth := 9) -implicitDefEqProofs -dsimp only [go_sem, Nat.reduceEqDiff, Nat.reduceAdd, Nat.reduceSub, Nat.reduceMul, Nat.reduceLeDiff, reduceIte, reduceCtorEq, Int.reduceEq, Int.reduceLE, Int.reduceLT, Int.reduceToNat, *]; done))))); (intro oF hoF hnF hnF'); (try simp only [upd_none, ne_eq, not_and] at hoF)) | fail)
      obtain ⟨z1, z2, z3, z4⟩ := hoF
      refine fin_v (.tup [.ptr om 0, .int .i64 0]) (upd (upd (upd (upd σ om (machT vars F (.own oF) oa od)) oF (.grow 3 F.length)) oa (.map true (encM (mac F).at_))) od (.map true []))
        ⟨om, oF, oa, od, x5, z4, hoa, x2, ⟨fun e => z1 e.symm, x4, x3, z3, z2, y1, z1, y3, y2, fun e => z3 e.symm, fun e => z2 e.symm, x1⟩, rfl, rfl⟩ ?_ ?_
      · (repeat' (first | simp (maxDischargeDepth := 9) -implicitDefEqProofs -dsimp only [go_sem, Nat.reduceEqDiff, Nat.reduceAdd, Nat.reduceSub, Nat.reduceMul, Nat.reduceLeDiff, reduceIte, reduceCtorEq, Int.reduceEq, Int.reduceLE, Int.reduceLT, Int.reduceToNat, *] | simp (disch := omega) only [wrap64, tdiv2, tmod2, and1, xor1, xor_is1, shr1, shr1'])) <;> (repeat' refine And.intro ?_ ?_) <;> (first | omega | rfl | assumption | skip)
      · (repeat' (first | simp (maxDischargeDepth := 9) -implicitDefEqProofs -dsimp only [go_sem, Nat.reduceEqDiff, Nat.reduceAdd, Nat.reduceSub, Nat.reduceMul, Nat.reduceLeDiff, reduceIte, reduceCtorEq, Int.reduceEq, Int.reduceLE, Int.reduceLT, Int.reduceToNat, mac, *] | simp (disch := omega) only [wrap64, tdiv2, tmod2, and1, xor1, xor_is1, shr1, shr1'])) <;> (repeat' refine And.intro ?_ ?_) <;> (first | omega | rfl | assumption | skip)

theorem bdd_begin_bad (vars : Int) (F : List T3) (σ : Sig) (h : F.length ≤ 65536) (hh : head vars F = false) (hb : ∃ j, j < F.length - 2 ∧ bad vars F j = true) :
    ACalls Try.prog 37 [encB vars F] σ (fun r σ' => r = .ret (.tup [.nilp, .int .i64 1]) ∧ σ' = σ) := by
  refine calls_x mixed Try.func37 b37 n37 rfl q37 (by simp) ?_; unfold c37 r37
  obtain ⟨k1, k2, k3, k4, k5⟩ := begin_facts h hh
  repeat' (first | simp (maxDischargeDepth := 9) -implicitDefEqProofs -dsimp only [go_sem, Nat.reduceEqDiff, Nat.reduceAdd, Nat.reduceSub, Nat.reduceMul, Nat.reduceLeDiff, reduceIte, reduceCtorEq, Int.reduceEq, Int.reduceLE, Int.reduceLT, Int.reduceToNat, gt_iff_lt, *] | simp (disch := omega) only [wrap64, tdiv2, tmod2, and1, xor1, xor_is1, shr1, shr1'] | (with_reducible (first | apply gd_td | apply gd_fd | apply br_d | apply gd_tbl | apply gd_fbl | apply br_bl | apply gd_tnl | apply gd_fnl | apply br_nl | apply gd_tb | apply gd_fb | apply br_b | apply gd_tn | apply gd_fn | apply br_n | apply gd_t | apply gd_f | apply br_split | apply ifnil_i) <;> intro hq) | ((with_reducible refine req_i ?_ ?_); focus (first | omega | exact rfl)) | ((with_reducible refine wth_map ?_ ?_); focus omega) | ((with_reducible refine fresh_i (fun oF hoF hnF hnF' => ?_)); (try simp only [upd_none, ne_eq, not_and] at hoF)) | fail)
  all_goals first | (refine fin_eq ?_; (repeat' (first | simp (maxDischargeDepth := 9) -implicitDefEqProofs -dsimp only [go_sem, Nat.reduceEqDiff, Nat.reduceAdd, Nat.reduceSub, Nat.reduceMul, Nat.reduceLeDiff, reduceIte, reduceCtorEq, Int.reduceEq, Int.reduceLE, Int.reduceLT, Int.reduceToNat, *] | simp (disch := omega) only [wrap64, tdiv2, tmod2, and1, xor1, xor_is1, shr1, shr1'])) <;> (repeat' refine And.intro ?_ ?_) <;> (first | omega | rfl | assumption | skip); done) | (exfalso; omega) | skip
  rename_i q0 oa hoa hna hna' od hnd hnd' hod om hnm hnm' hom q1 q2
  clear hna hna' hnd hnd' hnm hnm' hnF hnF' k4 k5 hh
  obtain ⟨x1, x2⟩ := hod
  obtain ⟨x3, x4, x5⟩ := hom
  obtain ⟨x6, x7, x8, x9⟩ := hoF
  have y1 : ¬ oa = od := fun e => x1 e.symm
  have y2 : ¬ od = om := fun e => x3 e.symm
  have y3 : ¬ oa = om := fun e => x4 e.symm
  refine loop_rule (fun i : Nat => [(54, some (.int .i64 i)), (53, some (.int .i64 ((F.length - 2 : Nat) : Int))), (52, some (.slice ((F.map encF).drop 2) .no)), (4, some (.ptr om 0)), (1, some (.cptr [.int .i64 vars, .slice (F.map encF) .no]))])
    (fun i => upd (upd (upd σ oa (.map true (encM (atL F i)))) od (.map true [])) om (machT vars F .no oa od)) (fun i => i ≤ F.length - 2 ∧ ∀ j, j < i → bad vars F j = false) (fun i => F.length - 2 - i) 0 ?_ ?_
  · (repeat' (first | simp (maxDischargeDepth := 9) -implicitDefEqProofs -dsimp only [go_sem, Nat.reduceEqDiff, Nat.reduceAdd, Nat.reduceSub, Nat.reduceMul, Nat.reduceLeDiff, reduceIte, reduceCtorEq, Int.reduceEq, Int.reduceLE, Int.reduceLT, Int.reduceToNat, atL, List.length_drop, List.length_map, *] | simp (disch := omega) only [wrap64, tdiv2, tmod2, and1, xor1, xor_is1, shr1, shr1'])) <;> (repeat' refine And.intro ?_ ?_) <;> (first | omega | rfl | assumption | skip)
  · rintro i ⟨hi, hall⟩
    by_cases hlt : i < F.length - 2
    · cases hbi : bad vars F i with
      | false =>
        obtain ⟨r1, r2, r3, r4, r5, r6⟩ := bad_iff.1 hbi
        have g0 : get3 (atL F i) (frk F (i + 2)) = none := by
          cases c : get3 (atL F i) (frk F (i + 2)) with
          | none => rfl
          | some n =>
            obtain ⟨j, j1, j2⟩ := (at_some F (frk F (i + 2)) i).1 (by rw [c]; rfl)
            exact absurd j2 (r1 j j1)
        have r4' : ((frk F (i + 2)).2.1 == (frk F (i + 2)).2.2) = false := by simpa using r4
        have hi2 : (i : Int) + 2 < F.length := by omega
        have gi : (List.drop 2 (List.map encF F))[i]? = some (.agg [.int .i64 (frk F ((i : Int) + 2)).1, .int .i64 (frk F ((i : Int) + 2)).2.1, .int .i64 (frk F ((i : Int) + 2)).2.2]) := by
          rw [List.getElem?_drop, List.getElem?_map, List.getElem?_eq_getElem (by omega : 2 + i < F.length)]
          have := get_frk F ((i : Int) + 2) (by omega)
          have e : ((i : Int) + 2).toNat = 2 + i := by omega
          simp only [e] at this
          rw [this]; rfl
        clear r1 r4 hb
        repeat' (first | simp (maxDischargeDepth := 9) -implicitDefEqProofs -dsimp only [go_sem, Nat.reduceEqDiff, Nat.reduceAdd, Nat.reduceSub, Nat.reduceMul, Nat.reduceLeDiff, reduceIte, reduceCtorEq, Int.reduceEq, Int.reduceLE, Int.reduceLT, Int.reduceToNat, gt_iff_lt, ge_iff_le, Option.map_none, Option.getD_none, Option.isSome_none, *] | simp (disch := omega) only [wrap64, tdiv2, tmod2, and1, xor1, xor_is1, shr1, shr1'] | (with_reducible (first | apply gd_td | apply gd_fd | apply br_d | apply gd_tbl | apply gd_fbl | apply br_bl | apply gd_tnl | apply gd_fnl | apply br_nl | apply gd_tb | apply gd_fb | apply br_b | apply gd_tn | apply gd_fn | apply br_n | apply gd_t | apply gd_f | apply br_split | apply ifnil_i) <;> intro hq) | ((with_reducible refine req_i ?_ ?_); focus (first | omega | exact rfl)) | ((with_reducible refine wth_map ?_ ?_); focus omega) | ((with_reducible refine fresh_i (fun oF hoF hnF hnF' => ?_)); (try simp only [upd_none, ne_eq, not_and] at hoF)) | ((with_reducible apply ACalls.one1); (focus (first | ((first | with_reducible refine bdd_under om oa od .no vars F _ _ _ _ ?_ hi2) <;> (first | (simp (maxDischargeDepth := 9) -implicitDefEqProofs -dsimp only [go_sem, Nat.reduceEqDiff, Nat.reduceAdd, Nat.reduceSub, Nat.reduceMul, Nat.reduceLeDiff, reduceIte, reduceCtorEq, Int.reduceEq, Int.reduceLE, Int.reduceLT, Int.reduceToNat, *]; done) | omega | ((with_reducible refine Sub.get hS ?_); simp (maxDischargeDepth := 9) -implicitDefEqProofs -dsimp only [go_sem, Nat.reduceEqDiff, Nat.reduceAdd, Nat.reduceSub, Nat.reduceMul, Nat.reduceLeDiff, reduceIte, reduceCtorEq, Int.reduceEq, Int.reduceLE, Int.reduceLT, Int.reduceToNat, *]; done))) | (with_reducible refine ACalls.flA (bdd_under om oa od .no vars F _ _ _ _ ?_ hi2) ?_ <;> (first | (simp (maxDischargeDepth := 9) -implicitDefEqProofs -dsimp only [go_sem, Nat.reduceEqDiff, Nat.reduceAdd, Nat.reduceSub, Nat.reduceMul, Nat.reduceLeDiff, reduceIte, reduceCtorEq, Int.reduceEq, Int.reduceLE, Int.reduceLT, Int.reduceToNat, *]; done) | omega | ((with_reducible refine Sub.get hS ?_); simp (maxDischargeDepth := 9) -implicitDefEqProofs -dsimp only [go_sem, Nat.reduceEqDiff, Nat.reduceAdd, Nat.reduceSub, Nat.reduceMul, Nat.reduceLeDiff, reduceIte, reduceCtorEq, Int.reduceEq, Int.reduceLE, Int.reduceLT, Int.reduceToNat, *]; done))))); (focus (first | trivial | with_reducible exact rfl | (simp (maxDischargeDepth := 9) -implicitDefEqProofs -dsimp only [go_sem, Nat.reduceEqDiff, Nat.reduceAdd, Nat.reduceSub, Nat.reduceMul, Nat.reduceLeDiff, reduceIte, reduceCtorEq, Int.reduceEq, Int.reduceLE, Int.reduceLT, Int.reduceToNat]; done)))) | fail)
        all_goals first | (exfalso; omega) | skip
        have hall' : ∀ j, j < i + 1 → bad vars F j = false := fun j hj => by
          rcases Nat.lt_or_ge j i with c | c
          · exact hall j c
          · have : j = i := by omega
            subst this; exact hbi
        clear hall
        refine loop_next _ _ _ _ (i + 1) ?_; (repeat' (first | simp (maxDischargeDepth := 9) -implicitDefEqProofs -dsimp only [go_sem, Nat.reduceEqDiff, Nat.reduceAdd, Nat.reduceSub, Nat.reduceMul, Nat.reduceLeDiff, reduceIte, reduceCtorEq, Int.reduceEq, Int.reduceLE, Int.reduceLT, Int.reduceToNat,  atL, *] | simp (disch := omega) only [wrap64, tdiv2, tmod2, and1, xor1, xor_is1, shr1, shr1'])) <;> (repeat' refine And.intro ?_ ?_) <;> (first | omega | rfl | assumption | skip)
      | true =>
        have hi2 : (i : Int) + 2 < F.length := by omega
        have gi : (List.drop 2 (List.map encF F))[i]? = some (.agg [.int .i64 (frk F ((i : Int) + 2)).1, .int .i64 (frk F ((i : Int) + 2)).2.1, .int .i64 (frk F ((i : Int) + 2)).2.2]) := by
          rw [List.getElem?_drop, List.getElem?_map, List.getElem?_eq_getElem (by omega : 2 + i < F.length)]
          have := get_frk F ((i : Int) + 2) (by omega)
          have e : ((i : Int) + 2).toNat = 2 + i := by omega
          simp only [e] at this
          rw [this]; rfl
        clear hb hall
        cases g0 : get3 (atL F i) (frk F (i + 2)) with
        | some n =>
          clear hbi
          repeat' (first | simp (maxDischargeDepth := 9) -implicitDefEqProofs -dsimp only [go_sem, Nat.reduceEqDiff, Nat.reduceAdd, Nat.reduceSub, Nat.reduceMul, Nat.reduceLeDiff, reduceIte, reduceCtorEq, Int.reduceEq, Int.reduceLE, Int.reduceLT, Int.reduceToNat, gt_iff_lt, ge_iff_le, Option.map_some, Option.getD_some, Option.isSome_some, *] | simp (disch := omega) only [wrap64, tdiv2, tmod2, and1, xor1, xor_is1, shr1, shr1'] | (with_reducible (first | apply gd_td | apply gd_fd | apply br_d | apply gd_tbl | apply gd_fbl | apply br_bl | apply gd_tnl | apply gd_fnl | apply br_nl | apply gd_tb | apply gd_fb | apply br_b | apply gd_tn | apply gd_fn | apply br_n | apply gd_t | apply gd_f | apply br_split | apply ifnil_i) <;> intro hq) | ((with_reducible refine req_i ?_ ?_); focus (first | omega | exact rfl)) | ((with_reducible refine wth_map ?_ ?_); focus omega) | ((with_reducible refine fresh_i (fun oF hoF hnF hnF' => ?_)); (try simp only [upd_none, ne_eq, not_and] at hoF)) | ((with_reducible apply ACalls.one1); (focus (first | ((first | with_reducible refine bdd_under om oa od .no vars F _ _ _ _ ?_ hi2) <;> (first | (simp (maxDischargeDepth := 9) -implicitDefEqProofs -dsimp only [go_sem, Nat.reduceEqDiff, Nat.reduceAdd, Nat.reduceSub, Nat.reduceMul, Nat.reduceLeDiff, reduceIte, reduceCtorEq, Int.reduceEq, Int.reduceLE, Int.reduceLT, Int.reduceToNat, *]; done) | omega | ((with_reducible refine Sub.get hS ?_); simp (maxDischargeDepth := 9) -implicitDefEqProofs -dsimp only [go_sem, Nat.reduceEqDiff, Nat.reduceAdd, Nat.reduceSub, Nat.reduceMul, Nat.reduceLeDiff, reduceIte, reduceCtorEq, Int.reduceEq, Int.reduceLE, Int.reduceLT, Int.reduceToNat, *]; done))) | (with_reducible refine ACalls.flA (bdd_under om oa od .no vars F _ _ _ _ ?_ hi2) ?_ <;> (first | (simp (maxDischargeDepth := 9) -implicitDefEqProofs -dsimp only [go_sem, Nat.reduceEqDiff, Nat.reduceAdd, Nat.reduceSub, Nat.reduceMul, Nat.reduceLeDiff, reduceIte, reduceCtorEq, Int.reduceEq, Int.reduceLE, Int.reduceLT, Int.reduceToNat, *]; done) | omega | ((with_reducible refine Sub.get hS ?_); simp (maxDischargeDepth := 9) -implicitDefEqProofs -dsimp only [go_sem, Nat.reduceEqDiff, Nat.reduceAdd, Nat.reduceSub, Nat.reduceMul, Nat.reduceLeDiff, reduceIte, reduceCtorEq, Int.reduceEq, Int.reduceLE, Int.reduceLT, Int.reduceToNat, *]; done))))); (focus (first | trivial | with_reducible exact rfl | (simp (maxDischargeDepth := 9) -implicitDefEqProofs -dsimp only [go_sem, Nat.reduceEqDiff, Nat.reduceAdd, Nat.reduceSub, Nat.reduceMul, Nat.reduceLeDiff, reduceIte, reduceCtorEq, Int.reduceEq, Int.reduceLE, Int.reduceLT, Int.reduceToNat]; done)))) | fail)
          refine fin_eq ?_
          (repeat' (first | simp (maxDischargeDepth := 9) -implicitDefEqProofs -dsimp only [go_sem, Nat.reduceEqDiff, Nat.reduceAdd, Nat.reduceSub, Nat.reduceMul, Nat.reduceLeDiff, reduceIte, reduceCtorEq, Int.reduceEq, Int.reduceLE, Int.reduceLT, Int.reduceToNat, *] | simp (disch := omega) only [wrap64, tdiv2, tmod2, and1, xor1, xor_is1, shr1, shr1'])) <;> (repeat' refine And.intro ?_ ?_) <;> (first | omega | rfl | assumption | skip)
        | none =>
          have hbj : (((decide ((frk F (i + 2)).1 < 0) = true ∨ decide (vars ≤ (frk F (i + 2)).1) = true) ∨ decide ((frk F (i + 2)).2.1 = (frk F (i + 2)).2.2) = true) ∨ und F (frk F (i + 2)).2.1 (frk F (i + 2)).1 (i + 2) = false) ∨ und F (frk F (i + 2)).2.2 (frk F (i + 2)).1 (i + 2) = false := by
            simpa [bad, g0] using hbi
          clear hbi
          simp only [decide_eq_true_eq] at hbj
          repeat' (first | simp (maxDischargeDepth := 9) -implicitDefEqProofs -dsimp only [go_sem, Nat.reduceEqDiff, Nat.reduceAdd, Nat.reduceSub, Nat.reduceMul, Nat.reduceLeDiff, reduceIte, reduceCtorEq, Int.reduceEq, Int.reduceLE, Int.reduceLT, Int.reduceToNat, gt_iff_lt, ge_iff_le, Option.map_none, Option.getD_none, Option.isSome_none, *] | simp (disch := omega) only [wrap64, tdiv2, tmod2, and1, xor1, xor_is1, shr1, shr1'] | (with_reducible (first | apply gd_td | apply gd_fd | apply br_d | apply gd_tbl | apply gd_fbl | apply br_bl | apply gd_tnl | apply gd_fnl | apply br_nl | apply gd_tb | apply gd_fb | apply br_b | apply gd_tn | apply gd_fn | apply br_n | apply gd_t | apply gd_f | apply br_split | apply ifnil_i) <;> intro hq) | ((with_reducible refine req_i ?_ ?_); focus (first | omega | exact rfl)) | ((with_reducible refine wth_map ?_ ?_); focus omega) | ((with_reducible refine fresh_i (fun oF hoF hnF hnF' => ?_)); (try simp only [upd_none, ne_eq, not_and] at hoF)) | ((with_reducible apply ACalls.one1); (focus (first | ((first | with_reducible refine bdd_under om oa od .no vars F _ _ _ _ ?_ hi2) <;> (first | (simp (maxDischargeDepth := 9) -implicitDefEqProofs -dsimp only [go_sem, Nat.reduceEqDiff, Nat.reduceAdd, Nat.reduceSub, Nat.reduceMul, Nat.reduceLeDiff, reduceIte, reduceCtorEq, Int.reduceEq, Int.reduceLE, Int.reduceLT, Int.reduceToNat, *]; done) | omega | ((with_reducible refine Sub.get hS ?_); simp (maxDischargeDepth := 9) -implicitDefEqProofs -dsimp only [go_sem, Nat.reduceEqDiff, Nat.reduceAdd, Nat.reduceSub, Nat.reduceMul, Nat.reduceLeDiff, reduceIte, reduceCtorEq, Int.reduceEq, Int.reduceLE, Int.reduceLT, Int.reduceToNat, *]; done))) | (with_reducible refine ACalls.flA (bdd_under om oa od .no vars F _ _ _ _ ?_ hi2) ?_ <;> (first | (simp (maxDischargeDepth := 9) -implicitDefEqProofs -dsimp only [go_sem, Nat.reduceEqDiff, Nat.reduceAdd, Nat.reduceSub, Nat.reduceMul, Nat.reduceLeDiff, reduceIte, reduceCtorEq, Int.reduceEq, Int.reduceLE, Int.reduceLT, Int.reduceToNat, *]; done) | omega | ((with_reducible refine Sub.get hS ?_); simp (maxDischargeDepth := 9) -implicitDefEqProofs -dsimp only [go_sem, Nat.reduceEqDiff, Nat.reduceAdd, Nat.reduceSub, Nat.reduceMul, Nat.reduceLeDiff, reduceIte, reduceCtorEq, Int.reduceEq, Int.reduceLE, Int.reduceLT, Int.reduceToNat, *]; done))))); (focus (first | trivial | with_reducible exact rfl | (simp (maxDischargeDepth := 9) -implicitDefEqProofs -dsimp only [go_sem, Nat.reduceEqDiff, Nat.reduceAdd, Nat.reduceSub, Nat.reduceMul, Nat.reduceLeDiff, reduceIte, reduceCtorEq, Int.reduceEq, Int.reduceLE, Int.reduceLT, Int.reduceToNat]; done)))) | fail)
          all_goals first | (refine fin_eq ?_; (repeat' (first | simp (maxDischargeDepth := 9) -implicitDefEqProofs -dsimp only [go_sem, Nat.reduceEqDiff, Nat.reduceAdd, Nat.reduceSub, Nat.reduceMul, Nat.reduceLeDiff, reduceIte, reduceCtorEq, Int.reduceEq, Int.reduceLE, Int.reduceLT, Int.reduceToNat, *] | simp (disch := omega) only [wrap64, tdiv2, tmod2, and1, xor1, xor_is1, shr1, shr1'])) <;> (repeat' refine And.intro ?_ ?_) <;> (first | omega | rfl | assumption | skip); done) | skip
          exfalso
          rename_i w1 w2 w3 w4
          rcases hbj with (((c | c) | c) | c) | c
          · exact w1 c
          · exact w2 c
          · exact w3.1 c
          · rw [w4] at c; simp at c
          · rw [hq] at c; simp at c
    · obtain ⟨j, j1, j2⟩ := hb
      have := hall j (by omega)
      rw [this] at j2
      exact absurd j2 (by simp)

theorem bdd_begin_no (vars : Int) (F : List T3) (σ : Sig) (hl : F.length ≤ 9223372036854775807) (e : Int) (he : chk vars F = e) (h0 : e ≠ 0) :
    ACalls Try.prog 37 [encB vars F] σ (fun r σ' => r = .ret (.tup [.nilp, .int .i64 e]) ∧ σ' = σ) := by
  unfold chk at he
  split at he
  · rename_i h; subst he; exact bdd_begin_big vars F σ h hl
  rename_i h
  split at he
  · rename_i hh; subst he; exact bdd_begin_head vars F σ (by omega) hh
  rename_i hh
  split at he
  · rename_i hb
    subst he
    simp only [List.any_eq_true, List.mem_range] at hb
    exact bdd_begin_bad vars F σ (by omega) (by simpa using hh) hb
  · exact absurd he.symm h0

/-- A new machine. -/
def NewMac (σ : Sig) (vars : Int) (F : List T3) : ARes → Sig → Prop := fun r σ' => ∃ m t a d, σ m = none ∧ σ t = none ∧ σ a = none ∧ σ d = none ∧ Apart m t a d ∧ r = .ret (.tup [.ptr m 0, .int .i64 0]) ∧
  σ' = upd (upd (upd (upd σ m (machT vars F (.own t) a d)) t (.grow 3 F.length)) a (.map true (encM (mac F).at_))) d (.map true [])

theorem bdd_begin_yes (vars : Int) (F : List T3) (σ : Sig) (h : Fine vars F) : ACalls Try.prog 37 [encB vars F] σ (NewMac σ vars F) := by
  have hc := chk_fine.2 h
  unfold chk at hc
  split at hc
  · simp at hc
  split at hc
  · simp at hc
  rename_i hh
  split at hc
  · simp at hc
  rename_i hb
  refine bdd_begin_ok vars F σ h.all (by simpa using hh) fun j hj => ?_
  simp only [List.any_eq_true, List.mem_range, not_exists, not_and, Bool.not_eq_true] at hb
  exact hb j hj

theorem bdd_Check (vars : Int) (F : List T3) (σ : Sig) (hl : F.length ≤ 9223372036854775807) :
    ACalls Try.prog 19 [encB vars F] σ (fun r σ' => r = .ret (.int .i64 (chk vars F)) ∧ σ' = σ) := by
  refine calls_x mixed Try.func19 b19 n19 rfl q19 (by simp) ?_; unfold c19 r19
  obtain ⟨e, he⟩ : ∃ e, chk vars F = e := ⟨_, rfl⟩
  rw [he]
  by_cases h0 : e = 0
  · subst h0
    have hf := chk_fine.1 he
    repeat' (first | simp (maxDischargeDepth := 9) -implicitDefEqProofs -dsimp only [go_sem, Nat.reduceEqDiff, Nat.reduceAdd, Nat.reduceSub, Nat.reduceMul, Nat.reduceLeDiff, reduceIte, reduceCtorEq, Int.reduceEq, Int.reduceLE, Int.reduceLT, Int.reduceToNat, *] | simp (disch := omega) only [wrap64, tdiv2, tmod2, and1, xor1, xor_is1, shr1, shr1'] | (with_reducible (first | apply gd_td | apply gd_fd | apply br_d | apply gd_tbl | apply gd_fbl | apply br_bl | apply gd_tnl | apply gd_fnl | apply br_nl | apply gd_tb | apply gd_fb | apply br_b | apply gd_tn | apply gd_fn | apply br_n | apply gd_t | apply gd_f | apply br_split | apply ifnil_i) <;> intro hq) | ((with_reducible refine req_i ?_ ?_); focus (first | omega | exact rfl)) | ((with_reducible refine wth_map ?_ ?_); focus omega) | ((with_reducible refine fresh_i (fun oF hoF hnF hnF' => ?_)); (try simp only [upd_none, ne_eq, not_and] at hoF)) | fail)
    refine ACalls.mono (bdd_begin_yes vars F _ hf) ?_
    rintro r σ' ⟨m, t, a, d, q1, q2, q3, q4, ⟨e1, e2, e3, e4, e5, e6, f1, f2, f3, f4, f5, f6⟩, rfl, rfl⟩
    repeat' (first | simp (maxDischargeDepth := 9) -implicitDefEqProofs -dsimp only [go_sem, Nat.reduceEqDiff, Nat.reduceAdd, Nat.reduceSub, Nat.reduceMul, Nat.reduceLeDiff, reduceIte, reduceCtorEq, Int.reduceEq, Int.reduceLE, Int.reduceLT, Int.reduceToNat, *] | simp (disch := omega) only [wrap64, tdiv2, tmod2, and1, xor1, xor_is1, shr1, shr1'] | (with_reducible (first | apply gd_td | apply gd_fd | apply br_d | apply gd_tbl | apply gd_fbl | apply br_bl | apply gd_tnl | apply gd_fnl | apply br_nl | apply gd_tb | apply gd_fb | apply br_b | apply gd_tn | apply gd_fn | apply br_n | apply gd_t | apply gd_f | apply br_split | apply ifnil_i) <;> intro hq) | ((with_reducible refine req_i ?_ ?_); focus (first | omega | exact rfl)) | ((with_reducible refine wth_map ?_ ?_); focus omega) | ((with_reducible refine fresh_i (fun oF hoF hnF hnF' => ?_)); (try simp only [upd_none, ne_eq, not_and] at hoF)) | fail)
    refine fin_eq ?_
    (repeat' (first | simp (maxDischargeDepth := 9) -implicitDefEqProofs -dsimp only [go_sem, Nat.reduceEqDiff, Nat.reduceAdd, Nat.reduceSub, Nat.reduceMul, Nat.reduceLeDiff, reduceIte, reduceCtorEq, Int.reduceEq, Int.reduceLE, Int.reduceLT, Int.reduceToNat, *] | simp (disch := omega) only [wrap64, tdiv2, tmod2, and1, xor1, xor_is1, shr1, shr1'])) <;> (repeat' refine And.intro ?_ ?_) <;> (first | omega | rfl | assumption | skip)
  · repeat' (first | simp (maxDischargeDepth := 9) -implicitDefEqProofs -dsimp only [go_sem, Nat.reduceEqDiff, Nat.reduceAdd, Nat.reduceSub, Nat.reduceMul, Nat.reduceLeDiff, reduceIte, reduceCtorEq, Int.reduceEq, Int.reduceLE, Int.reduceLT, Int.reduceToNat, *] | simp (disch := omega) only [wrap64, tdiv2, tmod2, and1, xor1, xor_is1, shr1, shr1'] | (with_reducible (first | apply gd_td | apply gd_fd | apply br_d | apply gd_tbl | apply gd_fbl | apply br_bl | apply gd_tnl | apply gd_fnl | apply br_nl | apply gd_tb | apply gd_fb | apply br_b | apply gd_tn | apply gd_fn | apply br_n | apply gd_t | apply gd_f | apply br_split | apply ifnil_i) <;> intro hq) | ((with_reducible refine req_i ?_ ?_); focus (first | omega | exact rfl)) | ((with_reducible refine wth_map ?_ ?_); focus omega) | ((with_reducible refine fresh_i (fun oF hoF hnF hnF' => ?_)); (try simp only [upd_none, ne_eq, not_and] at hoF)) | ((with_reducible apply ACalls.one1); (focus (first | ((first | with_reducible refine bdd_begin_no vars F _ hl e he h0) <;> (first | (simp (maxDischargeDepth := 9) -implicitDefEqProofs -dsimp only [go_sem, Nat.reduceEqDiff, Nat.reduceAdd, Nat.reduceSub, Nat.reduceMul, Nat.reduceLeDiff, reduceIte, reduceCtorEq, Int.reduceEq, Int.reduceLE, Int.reduceLT, Int.reduceToNat, *]; done) | omega | ((with_reducible refine Sub.get hS ?_); simp (maxDischargeDepth := 9) -implicitDefEqProofs -dsimp only [go_sem, Nat.reduceEqDiff, Nat.reduceAdd, Nat.reduceSub, Nat.reduceMul, Nat.reduceLeDiff, reduceIte, reduceCtorEq, Int.reduceEq, Int.reduceLE, Int.reduceLT, Int.reduceToNat, *]; done))) | (with_reducible refine ACalls.flA (bdd_begin_no vars F _ hl e he h0) ?_ <;> (first | (simp (maxDischargeDepth := 9) -implicitDefEqProofs -dsimp only [go_sem, Nat.reduceEqDiff, Nat.reduceAdd, Nat.reduceSub, Nat.reduceMul, Nat.reduceLeDiff, reduceIte, reduceCtorEq, Int.reduceEq, Int.reduceLE, Int.reduceLT, Int.reduceToNat, *]; done) | omega | ((with_reducible refine Sub.get hS ?_); simp (maxDischargeDepth := 9) -implicitDefEqProofs -dsimp only [go_sem, Nat.reduceEqDiff, Nat.reduceAdd, Nat.reduceSub, Nat.reduceMul, Nat.reduceLeDiff, reduceIte, reduceCtorEq, Int.reduceEq, Int.reduceLE, Int.reduceLT, Int.reduceToNat, *]; done))))); (focus (first | trivial | with_reducible exact rfl | (simp (maxDischargeDepth := 9) -implicitDefEqProofs -dsimp only [go_sem, Nat.reduceEqDiff, Nat.reduceAdd, Nat.reduceSub, Nat.reduceMul, Nat.reduceLeDiff, reduceIte, reduceCtorEq, Int.reduceEq, Int.reduceLE, Int.reduceLT, Int.reduceToNat]; done)))) | fail)
    refine fin_eq ?_
    (repeat' (first | simp (maxDischargeDepth := 9) -implicitDefEqProofs -dsimp only [go_sem, Nat.reduceEqDiff, Nat.reduceAdd, Nat.reduceSub, Nat.reduceMul, Nat.reduceLeDiff, reduceIte, reduceCtorEq, Int.reduceEq, Int.reduceLE, Int.reduceLT, Int.reduceToNat, *] | simp (disch := omega) only [wrap64, tdiv2, tmod2, and1, xor1, xor_is1, shr1, shr1'])) <;> (repeat' refine And.intro ?_ ?_) <;> (first | omega | rfl | assumption | skip)

end Go.Proofs.Yteabanjbgpplmaa
