/- THE STATEMENT BddLooks: for whatever arguments the call returns true, and each argument reads as it did. No condition beyond the statement's own. -/
import Derived.Test.YteabanjbgpplmaaBddBddLk
import Derived.Test.YteabanjbgpplmaaAigModel
import Derived.Test.YteabanjbgpplmaaAbsU
import Derived.Test.YteabanjbgpplmaaBddEnc
import Derived.Test.YteabanjbgpplmaaBddOps
import Derived.Test.YteabanjbgpplmaaRows
import Derived.WalkKit
import Derived.ProofKit
set_option linter.unusedSimpArgs false
set_option linter.unusedVariables false
-- NODRAW
-- LIGHT
namespace Go.Proofs.Yteabanjbgpplmaa
open Abs Fil Fil.Bd
/-- filigree/filigreelaw22.BddLooks [b:0, f:1, in:2, b:3, f:4, in:5, fixed:7, a:8, e:9, c:10, g:11, n:12, h:13, m:14, i:15, x:16, ok:17, k:18, y:19, also:20, l:21, j:22] -/
def c6 : ACode :=
 .seq (.reg [⟨some 3, .boxI (.t 0), none⟩,
   ⟨some 6, .mov (.c (.bool false)), none⟩])
 (.seq (.reg [⟨some 23, .call (.c (.fn 14 [] [])) [], none⟩,
   ⟨some 7, .mov (.t 23), none⟩])
 (.seq (.seq (.reg [⟨some 24, .mov (.t 7), none⟩,
   ⟨some 25, .un .not (.t 24), none⟩])
 (.cond (.t 25)
  (.seq (.reg [⟨some 6, .mov (.c (.bool false)), none⟩])
  (.ret))
  (.skip)))
 (.seq (.seq (.reg [⟨some 26, .load true 2 (.t 3), none⟩,
   ⟨some 27, .call (.c (.fn 21 [] [])) [(.t 26)], none⟩,
   ⟨some 28, .un .not (.t 27), none⟩,
   ⟨some 29, .mov (.t 28), none⟩,
   ⟨some 30, .mov (.t 2), some (29, false)⟩,
   ⟨some 31, .len (.t 30), some (29, false)⟩,
   ⟨some 32, .bin .gtr false (.t 31) (.c (.int .i64 60)), some (29, false)⟩,
   ⟨some 33, .pick (.t 29) (.c (.bool true)) (.t 32), none⟩])
 (.cond (.t 33)
  (.seq (.reg [⟨some 34, .mov (.t 7), none⟩,
    ⟨some 6, .mov (.t 34), none⟩])
  (.ret))
  (.skip)))
 (.seq (.reg [⟨some 36, .load true 2 (.t 3), none⟩,
   ⟨some 37, .mov (.t 1), none⟩,
   ⟨some 38, .mov (.t 2), none⟩,
   ⟨some 39, .call (.c (.fn 30 [] [])) [(.t 36), (.t 37), (.t 38)], none⟩,
   ⟨some 35, .mov (.t 39), none⟩,
   ⟨some 40, .extract (.t 35) 0, none⟩,
   ⟨some 41, .extract (.t 35) 1, none⟩,
   ⟨some 8, .mov (.t 40), none⟩,
   ⟨some 9, .mov (.t 41), none⟩])
 (.seq (.reg [⟨some 43, .load true 2 (.t 3), none⟩,
   ⟨some 44, .mov (.t 1), none⟩,
   ⟨some 45, .mov (.t 2), none⟩,
   ⟨some 46, .call (.c (.fn 31 [] [])) [(.t 43), (.t 44), (.t 45)], none⟩,
   ⟨some 42, .mov (.t 46), none⟩,
   ⟨some 47, .extract (.t 42) 0, none⟩,
   ⟨some 48, .extract (.t 42) 1, none⟩,
   ⟨some 10, .mov (.t 47), none⟩,
   ⟨some 11, .mov (.t 48), none⟩])
 (.seq (.reg [⟨some 50, .load true 2 (.t 3), none⟩,
   ⟨some 51, .mov (.t 1), none⟩,
   ⟨some 52, .call (.c (.fn 32 [] [])) [(.t 50), (.t 51)], none⟩,
   ⟨some 49, .mov (.t 52), none⟩,
   ⟨some 53, .extract (.t 49) 0, none⟩,
   ⟨some 54, .extract (.t 49) 1, none⟩,
   ⟨some 12, .mov (.t 53), none⟩,
   ⟨some 13, .mov (.t 54), none⟩])
 (.seq (.reg [⟨some 56, .load true 2 (.t 3), none⟩,
   ⟨some 57, .mov (.t 1), none⟩,
   ⟨some 58, .call (.c (.fn 33 [] [])) [(.t 56), (.t 57)], none⟩,
   ⟨some 55, .mov (.t 58), none⟩,
   ⟨some 59, .extract (.t 55) 0, none⟩,
   ⟨some 60, .extract (.t 55) 1, none⟩,
   ⟨some 14, .mov (.t 59), none⟩,
   ⟨some 15, .mov (.t 60), none⟩])
 (.seq (.reg [⟨some 62, .load true 2 (.t 3), none⟩,
   ⟨some 63, .mov (.t 1), none⟩,
   ⟨some 64, .call (.c (.fn 34 [] [])) [(.t 62), (.t 63)], none⟩,
   ⟨some 61, .mov (.t 64), none⟩,
   ⟨some 65, .extract (.t 61) 0, none⟩,
   ⟨some 66, .extract (.t 61) 1, none⟩,
   ⟨some 67, .extract (.t 61) 2, none⟩,
   ⟨some 16, .mov (.t 65), none⟩,
   ⟨some 17, .mov (.t 66), none⟩,
   ⟨some 18, .mov (.t 67), none⟩])
 (.seq (.reg [⟨some 69, .load true 2 (.t 3), none⟩,
   ⟨some 70, .mov (.t 1), none⟩,
   ⟨some 71, .call (.c (.fn 35 [] [])) [(.t 69), (.t 70)], none⟩,
   ⟨some 68, .mov (.t 71), none⟩,
   ⟨some 72, .extract (.t 68) 0, none⟩,
   ⟨some 73, .extract (.t 68) 1, none⟩,
   ⟨some 74, .extract (.t 68) 2, none⟩,
   ⟨some 19, .mov (.t 72), none⟩,
   ⟨some 20, .mov (.t 73), none⟩,
   ⟨some 21, .mov (.t 74), none⟩])
 (.seq (.seq (.reg [⟨some 75, .mov (.t 16), none⟩,
   ⟨some 76, .len (.t 75), none⟩,
   ⟨some 77, .mov (.t 19), none⟩,
   ⟨some 78, .len (.t 77), none⟩,
   ⟨some 79, .bin .neq false (.t 76) (.t 78), none⟩])
 (.cond (.t 79)
  (.seq (.reg [⟨some 6, .mov (.c (.bool false)), none⟩])
  (.ret))
  (.skip)))
 (.seq (.seq (.reg [⟨some 22, .mov (.c (.int .i64 0)), none⟩])
 (.block 0 (.loop (.seq (.seq (.reg [⟨some 80, .mov (.t 22), none⟩,
    ⟨some 81, .mov (.t 16), none⟩,
    ⟨some 82, .len (.t 81), none⟩,
    ⟨some 83, .bin .lss false (.t 80) (.t 82), none⟩])
  (.cond (.t 83)
   (.skip)
   (.exit 0)))
  (.seq (.block 1 (.seq (.drw [⟨some 86, .mov (.t 16), none⟩,
    ⟨some 87, .mov (.t 22), none⟩,
    ⟨some 88, .idxS 1 (.t 86) (.t 87), none⟩,
    ⟨some 89, .load false 1 (.t 88), none⟩,
    ⟨some 90, .mov (.t 19), none⟩,
    ⟨some 91, .mov (.t 22), none⟩,
    ⟨some 92, .idxS 1 (.t 90) (.t 91), none⟩,
    ⟨some 93, .load false 1 (.t 92), none⟩,
    ⟨some 94, .bin .neq true (.t 89) (.t 93), none⟩] [])
  (.cond (.t 94)
   (.seq (.reg [⟨some 6, .mov (.c (.bool false)), none⟩])
   (.ret))
   (.skip))))
  (.reg [⟨some 84, .mov (.t 22), none⟩,
    ⟨some 85, .bin .add false (.t 84) (.c (.int .i64 1)), none⟩,
    ⟨some 22, .mov (.t 85), none⟩]))))))
 (.seq (.reg [⟨some 95, .mov (.t 7), none⟩,
   ⟨some 96, .mov (.t 95), none⟩,
   ⟨some 97, .mov (.t 8), some (96, true)⟩,
   ⟨some 98, .mov (.t 10), some (96, true)⟩,
   ⟨some 99, .bin .eql true (.t 97) (.t 98), some (96, true)⟩,
   ⟨some 100, .pick (.t 96) (.t 99) (.c (.bool false)), none⟩,
   ⟨some 101, .mov (.t 100), none⟩,
   ⟨some 102, .mov (.t 9), some (101, true)⟩,
   ⟨some 103, .mov (.t 11), some (101, true)⟩,
   ⟨some 104, .bin .eql false (.t 102) (.t 103), some (101, true)⟩,
   ⟨some 105, .pick (.t 101) (.t 104) (.c (.bool false)), none⟩,
   ⟨some 106, .mov (.t 105), none⟩,
   ⟨some 107, .mov (.t 12), some (106, true)⟩,
   ⟨some 108, .mov (.t 14), some (106, true)⟩,
   ⟨some 109, .bin .eql false (.t 107) (.t 108), some (106, true)⟩,
   ⟨some 110, .pick (.t 106) (.t 109) (.c (.bool false)), none⟩,
   ⟨some 111, .mov (.t 110), none⟩,
   ⟨some 112, .mov (.t 13), some (111, true)⟩,
   ⟨some 113, .mov (.t 15), some (111, true)⟩,
   ⟨some 114, .bin .eql false (.t 112) (.t 113), some (111, true)⟩,
   ⟨some 115, .pick (.t 111) (.t 114) (.c (.bool false)), none⟩,
   ⟨some 116, .mov (.t 115), none⟩,
   ⟨some 117, .mov (.t 17), some (116, true)⟩,
   ⟨some 118, .mov (.t 20), some (116, true)⟩,
   ⟨some 119, .bin .eql true (.t 117) (.t 118), some (116, true)⟩,
   ⟨some 120, .pick (.t 116) (.t 119) (.c (.bool false)), none⟩,
   ⟨some 121, .mov (.t 120), none⟩,
   ⟨some 122, .mov (.t 18), some (121, true)⟩,
   ⟨some 123, .mov (.t 21), some (121, true)⟩,
   ⟨some 124, .bin .eql false (.t 122) (.t 123), some (121, true)⟩,
   ⟨some 125, .pick (.t 121) (.t 124) (.c (.bool false)), none⟩,
   ⟨some 6, .mov (.t 125), none⟩])
 (.ret)))))))))))))
def r6 : List ARV := [.tmp 6]
theorem b6 : Try.f6.body.bind (tr Try.prog 126) = some c6.bare := by kernel_rfl
theorem q6 : trRes Try.prog Try.f6.results.toList = some r6 := by kernel_rfl
theorem n6 : (Try.f6.name == "runtime.NumGoroutine") = false := by kernel_rfl


theorem one_len {b : D} {f : Int} : (oneW b f).1.length ≤ 9223372036854775807 ∨ 32 < b.1 := by
  by_cases h : 32 < b.1
  · exact .inr h
  refine .inl ?_
  unfold oneW
  split
  · simp
  · split
    · simp
    · have : ∀ (k : Nat) (n : Int) (l : List Bool), (one1 b.2 k n l).length = l.length := fun k => by
        induction k with
        | zero => intro n l; rfl
        | succ k ih =>
          intro n l
          rw [one1]
          split
          · rfl
          · split
            · rw [ih]; simp
            · rw [ih]
      simp only [this, List.length_replicate]; omega

theorem one_len' (b : D) (f : Int) : (oneW b f).1.length ≤ 9223372036854775807 := by
  rcases one_len (b := b) (f := f) with h | h
  · exact h
  · have hc : askE b [f] false ≠ 0 := by
      unfold askE
      by_cases c : chk b.1 b.2 = 0
      · have := (chk_fine.1 c).few
        omega
      · rw [if_pos c]; exact c
    unfold oneW
    rw [if_pos hc]; simp

set_option maxHeartbeats 1000000 in
theorem looks_law (b : D) (f : Int) (inp : List Bool) (σ : Sig) (hl : b.2.length ≤ 9223372036854775807) (hi : inp.length ≤ 9223372036854775807) :
    ACalls Try.prog 6 [encB b.1 b.2, .int .i64 f, .slice (inp.map encBool) .no] σ (fun r σ' => r = .ret (.bool true) ∧ σ' = σ) := by
  refine calls_x mixed Try.func6 b6 n6 rfl q6 (by simp) ?_; unfold c6 r6
  cases hs : few b 7 with
  | false =>
    repeat' (first | simp (maxDischargeDepth := 9) -implicitDefEqProofs -dsimp only [go_sem, Nat.reduceEqDiff, Nat.reduceAdd, Nat.reduceSub, Nat.reduceMul, Nat.reduceLeDiff, reduceIte, reduceCtorEq, Int.reduceEq, Int.reduceLE, Int.reduceLT, Int.reduceToNat, *] | simp (disch := omega) only [wrap64, tdiv2, tmod2, and1, xor1, xor_is1, shr1, shr1'] | (with_reducible (first | apply gd_td | apply gd_fd | apply br_d | apply gd_tbl | apply gd_fbl | apply br_bl | apply gd_tnl | apply gd_fnl | apply br_nl | apply gd_tb | apply gd_fb | apply br_b | apply gd_tn | apply gd_fn | apply br_n | apply gd_t | apply gd_f | apply br_split | apply ifnil_i) <;> intro hq) | ((with_reducible refine req_i ?_ ?_); focus (first | omega | exact rfl)) | ((with_reducible refine wth_map ?_ ?_); focus omega) | ((with_reducible refine fresh_i (fun oF hoF hnF hnF' => ?_)); clear hnF hnF'; (try simp only [upd_none_s, ne_eq] at hoF)) | ((with_reducible apply ACalls.one1); (focus (first | ((first | with_reducible refine law_live _ | with_reducible refine law_few b _) <;> (first | (simp (maxDischargeDepth := 9) -implicitDefEqProofs -dsimp only [go_sem, Nat.reduceEqDiff, Nat.reduceAdd, Nat.reduceSub, Nat.reduceMul, Nat.reduceLeDiff, reduceIte, reduceCtorEq, Int.reduceEq, Int.reduceLE, Int.reduceLT, Int.reduceToNat, *]; done) | omega | ((with_reducible refine Sub.get hS ?_); simp (maxDischargeDepth := 9) -implicitDefEqProofs -dsimp only [go_sem, Nat.reduceEqDiff, Nat.reduceAdd, Nat.reduceSub, Nat.reduceMul, Nat.reduceLeDiff, reduceIte, reduceCtorEq, Int.reduceEq, Int.reduceLE, Int.reduceLT, Int.reduceToNat, *]; done))) | (with_reducible refine ACalls.flA (law_live _) ?_ <;> (first | (simp (maxDischargeDepth := 9) -implicitDefEqProofs -dsimp only [go_sem, Nat.reduceEqDiff, Nat.reduceAdd, Nat.reduceSub, Nat.reduceMul, Nat.reduceLeDiff, reduceIte, reduceCtorEq, Int.reduceEq, Int.reduceLE, Int.reduceLT, Int.reduceToNat, *]; done) | omega | ((with_reducible refine Sub.get hS ?_); simp (maxDischargeDepth := 9) -implicitDefEqProofs -dsimp only [go_sem, Nat.reduceEqDiff, Nat.reduceAdd, Nat.reduceSub, Nat.reduceMul, Nat.reduceLeDiff, reduceIte, reduceCtorEq, Int.reduceEq, Int.reduceLE, Int.reduceLT, Int.reduceToNat, *]; done))) | (with_reducible refine ACalls.flA (law_few b _) ?_ <;> (first | (simp (maxDischargeDepth := 9) -implicitDefEqProofs -dsimp only [go_sem, Nat.reduceEqDiff, Nat.reduceAdd, Nat.reduceSub, Nat.reduceMul, Nat.reduceLeDiff, reduceIte, reduceCtorEq, Int.reduceEq, Int.reduceLE, Int.reduceLT, Int.reduceToNat, *]; done) | omega | ((with_reducible refine Sub.get hS ?_); simp (maxDischargeDepth := 9) -implicitDefEqProofs -dsimp only [go_sem, Nat.reduceEqDiff, Nat.reduceAdd, Nat.reduceSub, Nat.reduceMul, Nat.reduceLeDiff, reduceIte, reduceCtorEq, Int.reduceEq, Int.reduceLE, Int.reduceLT, Int.reduceToNat, *]; done))))); (focus (first | trivial | with_reducible exact rfl | (simp (maxDischargeDepth := 9) -implicitDefEqProofs -dsimp only [go_sem, Nat.reduceEqDiff, Nat.reduceAdd, Nat.reduceSub, Nat.reduceMul, Nat.reduceLeDiff, reduceIte, reduceCtorEq, Int.reduceEq, Int.reduceLE, Int.reduceLT, Int.reduceToNat]; done)))) | fail)
    refine fin_eq ?_
    (repeat' (first | simp (maxDischargeDepth := 9) -implicitDefEqProofs -dsimp only [go_sem, Nat.reduceEqDiff, Nat.reduceAdd, Nat.reduceSub, Nat.reduceMul, Nat.reduceLeDiff, reduceIte, reduceCtorEq, Int.reduceEq, Int.reduceLE, Int.reduceLT, Int.reduceToNat, *] | simp (disch := omega) only [wrap64, tdiv2, tmod2, and1, xor1, xor_is1, shr1, shr1'])) <;> (repeat' refine And.intro ?_ ?_) <;> (first | omega | rfl | assumption | skip)
  | true =>
    by_cases h60 : (60 : Int) < inp.length
    · repeat' (first | simp (maxDischargeDepth := 9) -implicitDefEqProofs -dsimp only [go_sem, Nat.reduceEqDiff, Nat.reduceAdd, Nat.reduceSub, Nat.reduceMul, Nat.reduceLeDiff, reduceIte, reduceCtorEq, Int.reduceEq, Int.reduceLE, Int.reduceLT, Int.reduceToNat, gt_iff_lt, *] | simp (disch := omega) only [wrap64, tdiv2, tmod2, and1, xor1, xor_is1, shr1, shr1'] | (with_reducible (first | apply gd_td | apply gd_fd | apply br_d | apply gd_tbl | apply gd_fbl | apply br_bl | apply gd_tnl | apply gd_fnl | apply br_nl | apply gd_tb | apply gd_fb | apply br_b | apply gd_tn | apply gd_fn | apply br_n | apply gd_t | apply gd_f | apply br_split | apply ifnil_i) <;> intro hq) | ((with_reducible refine req_i ?_ ?_); focus (first | omega | exact rfl)) | ((with_reducible refine wth_map ?_ ?_); focus omega) | ((with_reducible refine fresh_i (fun oF hoF hnF hnF' => ?_)); clear hnF hnF'; (try simp only [upd_none_s, ne_eq] at hoF)) | ((with_reducible apply ACalls.one1); (focus (first | ((first | with_reducible refine law_live _ | with_reducible refine law_few b _) <;> (first | (simp (maxDischargeDepth := 9) -implicitDefEqProofs -dsimp only [go_sem, Nat.reduceEqDiff, Nat.reduceAdd, Nat.reduceSub, Nat.reduceMul, Nat.reduceLeDiff, reduceIte, reduceCtorEq, Int.reduceEq, Int.reduceLE, Int.reduceLT, Int.reduceToNat, *]; done) | omega | ((with_reducible refine Sub.get hS ?_); simp (maxDischargeDepth := 9) -implicitDefEqProofs -dsimp only [go_sem, Nat.reduceEqDiff, Nat.reduceAdd, Nat.reduceSub, Nat.reduceMul, Nat.reduceLeDiff, reduceIte, reduceCtorEq, Int.reduceEq, Int.reduceLE, Int.reduceLT, Int.reduceToNat, *]; done))) | (with_reducible refine ACalls.flA (law_live _) ?_ <;> (first | (simp (maxDischargeDepth := 9) -implicitDefEqProofs -dsimp only [go_sem, Nat.reduceEqDiff, Nat.reduceAdd, Nat.reduceSub, Nat.reduceMul, Nat.reduceLeDiff, reduceIte, reduceCtorEq, Int.reduceEq, Int.reduceLE, Int.reduceLT, Int.reduceToNat, *]; done) | omega | ((with_reducible refine Sub.get hS ?_); simp (maxDischargeDepth := 9) -implicitDefEqProofs -dsimp only [go_sem, Nat.reduceEqDiff, Nat.reduceAdd, Nat.reduceSub, Nat.reduceMul, Nat.reduceLeDiff, reduceIte, reduceCtorEq, Int.reduceEq, Int.reduceLE, Int.reduceLT, Int.reduceToNat, *]; done))) | (with_reducible refine ACalls.flA (law_few b _) ?_ <;> (first | (simp (maxDischargeDepth := 9) -implicitDefEqProofs -dsimp only [go_sem, Nat.reduceEqDiff, Nat.reduceAdd, Nat.reduceSub, Nat.reduceMul, Nat.reduceLeDiff, reduceIte, reduceCtorEq, Int.reduceEq, Int.reduceLE, Int.reduceLT, Int.reduceToNat, *]; done) | omega | ((with_reducible refine Sub.get hS ?_); simp (maxDischargeDepth := 9) -implicitDefEqProofs -dsimp only [go_sem, Nat.reduceEqDiff, Nat.reduceAdd, Nat.reduceSub, Nat.reduceMul, Nat.reduceLeDiff, reduceIte, reduceCtorEq, Int.reduceEq, Int.reduceLE, Int.reduceLT, Int.reduceToNat, *]; done))))); (focus (first | trivial | with_reducible exact rfl | (simp (maxDischargeDepth := 9) -implicitDefEqProofs -dsimp only [go_sem, Nat.reduceEqDiff, Nat.reduceAdd, Nat.reduceSub, Nat.reduceMul, Nat.reduceLeDiff, reduceIte, reduceCtorEq, Int.reduceEq, Int.reduceLE, Int.reduceLT, Int.reduceToNat]; done)))) | fail)
      refine fin_eq ?_
      (repeat' (first | simp (maxDischargeDepth := 9) -implicitDefEqProofs -dsimp only [go_sem, Nat.reduceEqDiff, Nat.reduceAdd, Nat.reduceSub, Nat.reduceMul, Nat.reduceLeDiff, reduceIte, reduceCtorEq, Int.reduceEq, Int.reduceLE, Int.reduceLT, Int.reduceToNat, *] | simp (disch := omega) only [wrap64, tdiv2, tmod2, and1, xor1, xor_is1, shr1, shr1'])) <;> (repeat' refine And.intro ?_ ?_) <;> (first | omega | rfl | assumption | skip)
    · have hol := one_len' b f
      have c1 := fun τ => bdd_Eval b f inp τ hl hi
      have c2 := fun τ => ref_Eval b f inp τ hl hi
      have c3 := fun τ => bdd_Count b f τ hl
      have c4 := fun τ => ref_Count b f τ hl
      have c5 := fun τ => bdd_One b f τ hl
      have c6 := fun τ => ref_One b f τ hl
      obtain ⟨⟨a, e⟩, hx⟩ : ∃ x, evalW b f inp = x := ⟨_, rfl⟩
      obtain ⟨⟨n, h⟩, hy⟩ : ∃ x, countW b f = x := ⟨_, rfl⟩
      obtain ⟨⟨w, ok, k⟩, hz⟩ : ∃ x, oneW b f = x := ⟨_, rfl⟩
      rw [hx] at c1 c2
      rw [hy] at c3 c4
      rw [hz] at c5 c6 hol
      simp only at hol
      have e1 : (a == a) = true := by simp
      have e2 : (e == e) = true := by simp
      have e3 : (n == n) = true := by simp
      have e4 : (h == h) = true := by simp
      have e5 : (ok == ok) = true := by simp
      have e6 : (k == k) = true := by simp
      have e7 : ((w.length : Int) != w.length) = false := by simp
      clear hx hy hz
      repeat' (first | simp (maxDischargeDepth := 9) -implicitDefEqProofs -dsimp only [go_sem, Nat.reduceEqDiff, Nat.reduceAdd, Nat.reduceSub, Nat.reduceMul, Nat.reduceLeDiff, reduceIte, reduceCtorEq, Int.reduceEq, Int.reduceLE, Int.reduceLT, Int.reduceToNat, gt_iff_lt, *] | simp (disch := omega) only [wrap64, tdiv2, tmod2, and1, xor1, xor_is1, shr1, shr1'] | (with_reducible (first | apply gd_td | apply gd_fd | apply br_d | apply gd_tbl | apply gd_fbl | apply br_bl | apply gd_tnl | apply gd_fnl | apply br_nl | apply gd_tb | apply gd_fb | apply br_b | apply gd_tn | apply gd_fn | apply br_n | apply gd_t | apply gd_f | apply br_split | apply ifnil_i) <;> intro hq) | ((with_reducible refine req_i ?_ ?_); focus (first | omega | exact rfl)) | ((with_reducible refine wth_map ?_ ?_); focus omega) | ((with_reducible refine fresh_i (fun oF hoF hnF hnF' => ?_)); clear hnF hnF'; (try simp only [upd_none_s, ne_eq] at hoF)) | ((with_reducible apply ACalls.one1); (focus (first | ((first | with_reducible refine law_live _ | with_reducible refine law_few b _ | with_reducible refine c1 _ | with_reducible refine c2 _ | with_reducible refine c3 _ | with_reducible refine c4 _ | with_reducible refine c5 _ | with_reducible refine c6 _) <;> (first | (simp (maxDischargeDepth := 9) -implicitDefEqProofs -dsimp only [go_sem, Nat.reduceEqDiff, Nat.reduceAdd, Nat.reduceSub, Nat.reduceMul, Nat.reduceLeDiff, reduceIte, reduceCtorEq, Int.reduceEq, Int.reduceLE, Int.reduceLT, Int.reduceToNat, *]; done) | omega | ((with_reducible refine Sub.get hS ?_); simp (maxDischargeDepth := 9) -implicitDefEqProofs -dsimp only [go_sem, Nat.reduceEqDiff, Nat.reduceAdd, Nat.reduceSub, Nat.reduceMul, Nat.reduceLeDiff, reduceIte, reduceCtorEq, Int.reduceEq, Int.reduceLE, Int.reduceLT, Int.reduceToNat, *]; done))) | (with_reducible refine ACalls.flA (law_live _) ?_ <;> (first | (simp (maxDischargeDepth := 9) -implicitDefEqProofs -dsimp only [go_sem, Nat.reduceEqDiff, Nat.reduceAdd, Nat.reduceSub, Nat.reduceMul, Nat.reduceLeDiff, reduceIte, reduceCtorEq, Int.reduceEq, Int.reduceLE, Int.reduceLT, Int.reduceToNat, *]; done) | omega | ((with_reducible refine Sub.get hS ?_); simp (maxDischargeDepth := 9) -implicitDefEqProofs -dsimp only [go_sem, Nat.reduceEqDiff, Nat.reduceAdd, Nat.reduceSub, Nat.reduceMul, Nat.reduceLeDiff, reduceIte, reduceCtorEq, Int.reduceEq, Int.reduceLE, Int.reduceLT, Int.reduceToNat, *]; done))) | (with_reducible refine ACalls.flA (law_few b _) ?_ <;> (first | (simp (maxDischargeDepth := 9) -implicitDefEqProofs -dsimp only [go_sem, Nat.reduceEqDiff, Nat.reduceAdd, Nat.reduceSub, Nat.reduceMul, Nat.reduceLeDiff, reduceIte, reduceCtorEq, Int.reduceEq, Int.reduceLE, Int.reduceLT, Int.reduceToNat, *]; done) | omega | ((with_reducible refine Sub.get hS ?_); simp (maxDischargeDepth := 9) -implicitDefEqProofs -dsimp only [go_sem, Nat.reduceEqDiff, Nat.reduceAdd, Nat.reduceSub, Nat.reduceMul, Nat.reduceLeDiff, reduceIte, reduceCtorEq, Int.reduceEq, Int.reduceLE, Int.reduceLT, Int.reduceToNat, *]; done))) | (with_reducible refine ACalls.flA (c1 _) ?_ <;> (first | (simp (maxDischargeDepth := 9) -implicitDefEqProofs -dsimp only [go_sem, Nat.reduceEqDiff, Nat.reduceAdd, Nat.reduceSub, Nat.reduceMul, Nat.reduceLeDiff, reduceIte, reduceCtorEq, Int.reduceEq, Int.reduceLE, Int.reduceLT, Int.reduceToNat, *]; done) | omega | ((with_reducible refine Sub.get hS ?_); simp (maxDischargeDepth := 9) -implicitDefEqProofs -dsimp only [go_sem, Nat.reduceEqDiff, Nat.reduceAdd, Nat.reduceSub, Nat.reduceMul, Nat.reduceLeDiff, reduceIte, reduceCtorEq, Int.reduceEq, Int.reduceLE, Int.reduceLT, Int.reduceToNat, *]; done))) | (with_reducible refine ACalls.flA (c2 _) ?_ <;> (first | (simp (maxDischargeDepth := 9) -implicitDefEqProofs -dsimp only [go_sem, Nat.reduceEqDiff, Nat.reduceAdd, Nat.reduceSub, Nat.reduceMul, Nat.reduceLeDiff, reduceIte, reduceCtorEq, Int.reduceEq, Int.reduceLE, Int.reduceLT, Int.reduceToNat, *]; done) | omega | ((with_reducible refine Sub.get hS ?_); simp (maxDischargeDepth := 9) -implicitDefEqProofs -dsimp only [go_sem, Nat.reduceEqDiff, Nat.reduceAdd, Nat.reduceSub, Nat.reduceMul, Nat.reduceLeDiff, reduceIte, reduceCtorEq, Int.reduceEq, Int.reduceLE, Int.reduceLT, Int.reduceToNat, *]; done))) | (with_reducible refine ACalls.flA (c3 _) ?_ <;> (first | (simp (maxDischargeDepth := 9) -implicitDefEqProofs -dsimp only [go_sem, Nat.reduceEqDiff, Nat.reduceAdd, Nat.reduceSub, Nat.reduceMul, Nat.reduceLeDiff, reduceIte, reduceCtorEq, Int.reduceEq, Int.reduceLE, Int.reduceLT, Int.reduceToNat, *]; done) | omega | ((with_reducible refine Sub.get hS ?_); simp (maxDischargeDepth := 9) -implicitDefEqProofs -dsimp only [go_sem, Nat.reduceEqDiff, Nat.reduceAdd, Nat.reduceSub, Nat.reduceMul, Nat.reduceLeDiff, reduceIte, reduceCtorEq, Int.reduceEq, Int.reduceLE, Int.reduceLT, Int.reduceToNat, *]; done))) | (with_reducible refine ACalls.flA (c4 _) ?_ <;> (first | (simp (maxDischargeDepth := 9) -implicitDefEqProofs -dsimp only [go_sem, Nat.reduceEqDiff, Nat.reduceAdd, Nat.reduceSub, Nat.reduceMul, Nat.reduceLeDiff, reduceIte, reduceCtorEq, Int.reduceEq, Int.reduceLE, Int.reduceLT, Int.reduceToNat, *]; done) | omega | ((with_reducible refine Sub.get hS ?_); simp (maxDischargeDepth := 9) -implicitDefEqProofs -dsimp only [go_sem, Nat.reduceEqDiff, Nat.reduceAdd, Nat.reduceSub, Nat.reduceMul, Nat.reduceLeDiff, reduceIte, reduceCtorEq, Int.reduceEq, Int.reduceLE, Int.reduceLT, Int.reduceToNat, *]; done))) | (with_reducible refine ACalls.flA (c5 _) ?_ <;> (first | (simp (maxDischargeDepth := 9) -implicitDefEqProofs -dsimp only [go_sem, Nat.reduceEqDiff, Nat.reduceAdd, Nat.reduceSub, Nat.reduceMul, Nat.reduceLeDiff, reduceIte, reduceCtorEq, Int.reduceEq, Int.reduceLE, Int.reduceLT, Int.reduceToNat, *]; done) | omega | ((with_reducible refine Sub.get hS ?_); simp (maxDischargeDepth := 9) -implicitDefEqProofs -dsimp only [go_sem, Nat.reduceEqDiff, Nat.reduceAdd, Nat.reduceSub, Nat.reduceMul, Nat.reduceLeDiff, reduceIte, reduceCtorEq, Int.reduceEq, Int.reduceLE, Int.reduceLT, Int.reduceToNat, *]; done))) | (with_reducible refine ACalls.flA (c6 _) ?_ <;> (first | (simp (maxDischargeDepth := 9) -implicitDefEqProofs -dsimp only [go_sem, Nat.reduceEqDiff, Nat.reduceAdd, Nat.reduceSub, Nat.reduceMul, Nat.reduceLeDiff, reduceIte, reduceCtorEq, Int.reduceEq, Int.reduceLE, Int.reduceLT, Int.reduceToNat, *]; done) | omega | ((with_reducible refine Sub.get hS ?_); simp (maxDischargeDepth := 9) -implicitDefEqProofs -dsimp only [go_sem, Nat.reduceEqDiff, Nat.reduceAdd, Nat.reduceSub, Nat.reduceMul, Nat.reduceLeDiff, reduceIte, reduceCtorEq, Int.reduceEq, Int.reduceLE, Int.reduceLT, Int.reduceToNat, *]; done))))); (focus (first | trivial | with_reducible exact rfl | (simp (maxDischargeDepth := 9) -implicitDefEqProofs -dsimp only [go_sem, Nat.reduceEqDiff, Nat.reduceAdd, Nat.reduceSub, Nat.reduceMul, Nat.reduceLeDiff, reduceIte, reduceCtorEq, Int.reduceEq, Int.reduceLE, Int.reduceLT, Int.reduceToNat]; done)))) | fail)
      refine loop_rule (fun i : Nat => [(22, some (.int .i64 i)), (16, some (.slice (w.map encBool) .no)), (19, some (.slice (w.map encBool) .no)), (7, some (.bool true)), (8, some (.bool a)), (10, some (.bool a)), (9, some (.int .i64 e)), (11, some (.int .i64 e)), (12, some (.int .i64 n)), (14, some (.int .i64 n)), (13, some (.int .i64 h)), (15, some (.int .i64 h)), (17, some (.bool ok)), (20, some (.bool ok)), (18, some (.int .i64 k)), (21, some (.int .i64 k))])
        (fun _ => σ) (fun i => i ≤ w.length) (fun i => w.length - i) 0 ?_ ?_
      · (repeat' (first | simp (maxDischargeDepth := 9) -implicitDefEqProofs -dsimp only [go_sem, Nat.reduceEqDiff, Nat.reduceAdd, Nat.reduceSub, Nat.reduceMul, Nat.reduceLeDiff, reduceIte, reduceCtorEq, Int.reduceEq, Int.reduceLE, Int.reduceLT, Int.reduceToNat, *] | simp (disch := omega) only [wrap64, tdiv2, tmod2, and1, xor1, xor_is1, shr1, shr1'])) <;> (repeat' refine And.intro ?_ ?_) <;> (first | omega | rfl | assumption | skip)
      · intro i hi'
        clear c1 c2 c3 c4 c5 c6
        by_cases hlt : i < w.length
        · have hxx : (w.getD i false == w.getD i false) = true := by simp
          repeat' (first | simp (maxDischargeDepth := 9) -implicitDefEqProofs -dsimp only [go_sem, Nat.reduceEqDiff, Nat.reduceAdd, Nat.reduceSub, Nat.reduceMul, Nat.reduceLeDiff, reduceIte, reduceCtorEq, Int.reduceEq, Int.reduceLE, Int.reduceLT, Int.reduceToNat, getD_b, *] | simp (disch := omega) only [wrap64, tdiv2, tmod2, and1, xor1, xor_is1, shr1, shr1'] | (with_reducible (first | apply gd_td | apply gd_fd | apply br_d | apply gd_tbl | apply gd_fbl | apply br_bl | apply gd_tnl | apply gd_fnl | apply br_nl | apply gd_tb | apply gd_fb | apply br_b | apply gd_tn | apply gd_fn | apply br_n | apply gd_t | apply gd_f | apply br_split | apply ifnil_i) <;> intro hq) | ((with_reducible refine req_i ?_ ?_); focus (first | omega | exact rfl)) | ((with_reducible refine wth_map ?_ ?_); focus omega) | ((with_reducible refine fresh_i (fun oF hoF hnF hnF' => ?_)); clear hnF hnF'; (try simp only [upd_none_s, ne_eq] at hoF)) | fail)
          refine loop_next _ _ _ _ (i + 1) ?_; (repeat' (first | simp (maxDischargeDepth := 9) -implicitDefEqProofs -dsimp only [go_sem, Nat.reduceEqDiff, Nat.reduceAdd, Nat.reduceSub, Nat.reduceMul, Nat.reduceLeDiff, reduceIte, reduceCtorEq, Int.reduceEq, Int.reduceLE, Int.reduceLT, Int.reduceToNat, *] | simp (disch := omega) only [wrap64, tdiv2, tmod2, and1, xor1, xor_is1, shr1, shr1'])) <;> (repeat' refine And.intro ?_ ?_) <;> (first | omega | rfl | assumption | skip)
        · repeat' (first | simp (maxDischargeDepth := 9) -implicitDefEqProofs -dsimp only [go_sem, Nat.reduceEqDiff, Nat.reduceAdd, Nat.reduceSub, Nat.reduceMul, Nat.reduceLeDiff, reduceIte, reduceCtorEq, Int.reduceEq, Int.reduceLE, Int.reduceLT, Int.reduceToNat, *] | simp (disch := omega) only [wrap64, tdiv2, tmod2, and1, xor1, xor_is1, shr1, shr1'] | (with_reducible (first | apply gd_td | apply gd_fd | apply br_d | apply gd_tbl | apply gd_fbl | apply br_bl | apply gd_tnl | apply gd_fnl | apply br_nl | apply gd_tb | apply gd_fb | apply br_b | apply gd_tn | apply gd_fn | apply br_n | apply gd_t | apply gd_f | apply br_split | apply ifnil_i) <;> intro hq) | ((with_reducible refine req_i ?_ ?_); focus (first | omega | exact rfl)) | ((with_reducible refine wth_map ?_ ?_); focus omega) | ((with_reducible refine fresh_i (fun oF hoF hnF hnF' => ?_)); clear hnF hnF'; (try simp only [upd_none_s, ne_eq] at hoF)) | fail)
          refine fin_eq ?_
          (repeat' (first | simp (maxDischargeDepth := 9) -implicitDefEqProofs -dsimp only [go_sem, Nat.reduceEqDiff, Nat.reduceAdd, Nat.reduceSub, Nat.reduceMul, Nat.reduceLeDiff, reduceIte, reduceCtorEq, Int.reduceEq, Int.reduceLE, Int.reduceLT, Int.reduceToNat, *] | simp (disch := omega) only [wrap64, tdiv2, tmod2, and1, xor1, xor_is1, shr1, shr1'])) <;> (repeat' refine And.intro ?_ ?_) <;> (first | omega | rfl | assumption | skip)

end Go.Proofs.Yteabanjbgpplmaa

namespace Fil
open Abs Go

theorem i64_min : IntKind.i64.min = -9223372036854775808 := by decide
theorem i64_max : IntKind.i64.max = 9223372036854775807 := by decide
theorem I64_of {n : Int} (h : IntKind.i64.min ≤ n ∧ n ≤ IntKind.i64.max) : I64 n := by rw [i64_min, i64_max] at h; exact h

theorem arg_int {a : AV} (h : ShV false (.int .i64) a) : ∃ n, a = encInt n ∧ I64 n := by
  obtain ⟨n, e, hn⟩ := shv_int h
  exact ⟨n, e, I64_of hn⟩
theorem arg_bool {a : AV} (h : ShV false .bool a) : ∃ b, a = encBool b ∧ True := by
  obtain ⟨b, e⟩ := shv_bool h
  exact ⟨b, e, trivial⟩
theorem arg_bools {a : AV} (h : ShV false (.slice false .bool) a) : ∃ l : List Bool, a = .slice (l.map encBool) .no ∧ l.length ≤ maxLen := by
  obtain ⟨m, e, h1, _⟩ := shv_slice (f := encBool) (p := fun _ => True) h fun x hx => arg_bool hx
  exact ⟨m, e, h1⟩
theorem arg_rows {a : AV} (h : ShV false (.slice false (.slice false .bool)) a) : ∃ l : List (List Bool), a = .slice (l.map (encRow encBool)) .no ∧ l.length ≤ maxLen ∧ ∀ x ∈ l, x.length ≤ maxLen := by
  obtain ⟨m, e, h1, h2⟩ := shv_slice (f := encRow encBool) (p := fun l : List Bool => l.length ≤ maxLen) h fun x hx => by
    obtain ⟨l, e, hl⟩ := arg_bools hx
    exact ⟨l, e, hl⟩
  exact ⟨m, e, h1, h2⟩
theorem arg_gate {a : AV} (h : ShV true (.row [.int .i64, .int .i64]) a) : ∃ x : Int × Int, a = encGate x ∧ I64 x.1 ∧ I64 x.2 := by
  obtain ⟨es, e, p, q, rfl, ⟨n, rfl, hn⟩, p', q', rfl, ⟨m, rfl, hm⟩, rfl⟩ := h
  simp [mkv] at e
  exact ⟨(n, m), e.symm, I64_of hn, I64_of hm⟩
theorem arg_flop {a : AV} (h : ShV true (.row [.int .i64, .bool]) a) : ∃ x : Flop, a = encFlop x ∧ I64 x.next := by
  obtain ⟨es, e, p, q, rfl, ⟨n, rfl, hn⟩, p', q', rfl, ⟨m, rfl⟩, rfl⟩ := h
  simp [mkv] at e
  exact ⟨⟨n, m⟩, e.symm, I64_of hn⟩

/-- Gates whose numbers are of 64 bits. -/
structure Wide (g : Aig) : Prop where
  ins : I64 g.ins
  nexts : ∀ f ∈ g.flops, I64 f.next
  gates : ∀ x ∈ g.ands, I64 x.1 ∧ I64 x.2
  lits : ∀ a ∈ g.outs, I64 a

theorem arg_aig {a : AV} (h : ShV true (.row [.int .i64, .slice true (.row [.int .i64, .bool]), .slice true (.row [.int .i64, .int .i64]), .slice false (.int .i64)]) a) : ∃ g : Aig, a = encAig g ∧ Wide g := by
  obtain ⟨es, e, p, q, rfl, ⟨n, rfl, hn⟩, p1, q1, rfl, h1, p2, q2, rfl, h2, p3, q3, rfl, h3, rfl⟩ := h
  obtain ⟨fl, rfl, _, k1⟩ := shc_slice (f := encFlop) (p := fun x : Flop => I64 x.next) h1 fun x hx => arg_flop hx
  obtain ⟨an, rfl, _, k2⟩ := shc_slice (f := encGate) (p := fun x : Int × Int => I64 x.1 ∧ I64 x.2) h2 fun x hx => arg_gate hx
  obtain ⟨ou, rfl, _, k3⟩ := shc_slice (f := encInt) (p := I64) h3 fun x hx => arg_int hx
  simp [mkv] at e
  exact ⟨⟨n, fl, an, ou⟩, e.symm, I64_of hn, k1, k2, k3⟩

/-- Are they few? -/
def Few (g : Aig) : Prop := g.ins ≤ 200 ∧ g.flops.length ≤ 200 ∧ g.ands.length ≤ 1000 ∧ g.outs.length ≤ 200
theorem few_wf {g : Aig} (h : Wide g) (hf : Few g) : Wf g :=
  ⟨h.ins, by have := hf.2.1; omega, by have := hf.2.2.1; omega, by have := hf.2.2.2; omega, h.nexts, h.gates, h.lits⟩
end Fil

namespace Fil.Bd
open Abs Go Fil

theorem arg_fork {a : AV} (h : ShV true (.row [.int .i64, .int .i64, .int .i64]) a) : ∃ x : T3, a = encF x ∧ I64 x.1 ∧ I64 x.2.1 ∧ I64 x.2.2 := by
  obtain ⟨es, e, p, q, rfl, ⟨n, rfl, hn⟩, p', q', rfl, ⟨m, rfl, hm⟩, p2, q2, rfl, ⟨k, rfl, hk⟩, rfl⟩ := h
  simp [mkv] at e
  exact ⟨(n, m, k), e.symm, I64_of hn, I64_of hm, I64_of hk⟩

theorem arg_bdd {a : AV} (h : ShV true (.row [.int .i64, .slice true (.row [.int .i64, .int .i64, .int .i64])]) a) : ∃ b : D, a = encB b.1 b.2 ∧ b.2.length ≤ 9223372036854775807 ∧ I64 b.1 ∧ ∀ x ∈ b.2, I64 x.1 ∧ I64 x.2.1 ∧ I64 x.2.2 := by
  obtain ⟨es, e, p, q, rfl, ⟨n, rfl, hn⟩, p1, q1, rfl, h1, rfl⟩ := h
  obtain ⟨fl, rfl, hl, k1⟩ := shc_slice (f := encF) (p := fun x : T3 => I64 x.1 ∧ I64 x.2.1 ∧ I64 x.2.2) h1 fun x hx => arg_fork hx
  simp [mkv] at e
  exact ⟨(n, fl), e.symm, hl, I64_of hn, k1⟩

end Fil.Bd

namespace Go.Proofs.Yteabanjbgpplmaa
open Abs Fil
open Go.ChangeShapes Go.WideShapes Go.ChangeAt Go.RowKit
namespace bddLooks
theorem own : ownKnob Try.prog.godebug = none := by kernel_rfl
theorem laidOut : laidOutB Try.prog = true := by kernel_rfl
theorem shapes : argSh Try.prog 12 Try.f6.params.toList = some [(true, .row [.int .i64, .slice true (.row [.int .i64, .int .i64, .int .i64])]), (false, .int .i64), (false, .slice false (.bool))] := by kernel_rfl

theorem ok : ∀ xs, ArgsAre Try.prog 12 Try.f6.params.toList xs → ACalls Try.prog 6 xs (fun _ => none) (fun r _ => r = .ret (.bool true)) := by
  intro xs hx
  have h := args_sh shapes hx
  obtain ⟨a0, r, rfl, h0, a1, r1, rfl, h1, a2, r2, rfl, h2, rfl⟩ := h
  obtain ⟨b, rfl, hl, _⟩ := Bd.arg_bdd h0
  obtain ⟨f, rfl, _⟩ := arg_int h1
  obtain ⟨inp, rfl, hi⟩ := arg_bools h2
  exact (looks_law b f inp _ hl hi).mono fun r s h => h.1

theorem lifted (os : Os) (started : os.Started) (H : Type) (enc : TypeId × Value → H) :
    ReturnsInHanded {} Try.checked os 6 .any (Rows.bddLooksSpec.pre6 enc Try.prog Try.f6 Rows.bddLooksRow.domain false) (Rows.bddLooksSpec.post enc Try.prog Try.f6 false true false false) := by
  refine returnsInHanded_of_change (C := Try.checked) own started (by kernel_rfl) Try.func6
    (ChangeSpec.witness6 (enc := enc) (C := Try.checked) false ⟨#[], #[.agg #[.int .i64 0, .slice none 0 0], .int .i64 0, .slice none 0 0], []⟩ 8 (by kernel_rfl) (by kernel_rfl) (by kernel_rfl) (by kernel_rfl)) ?_
  intro W base args ds gs before hval0 hW hcnd _
  refine post_true (P := Try.prog) (g := 12) laidOut (by kernel_rfl) rfl (fun ds h => ?_) (by kernel_rfl) (tb := 4) Try.underlying4 hval0 hW ok
  match ds, h with
  | [_, _, _], _ => rfl
end bddLooks

theorem bddLooks_holds : Rows.BddLooksSaid :=
  OpenClaim.holds_of_wide 6 Try.f6 rfl rfl rfl rfl rfl rfl rfl ⟨rfl, rfl, rfl, rfl, rfl⟩ rfl rfl rfl rfl rfl (by kernel_rfl) Try.func6 (by kernel_rfl)
    (of_decide_eq_true (by kernel_rfl)) (by unfold Func.isWrapper; first | (rw [if_pos (by decide +kernel)]; kernel_rfl) | (rw [if_neg (by decide +kernel)]; exact ⟨rfl, rfl⟩))
    (fun os started H enc _ => bddLooks.lifted os started H enc)
end Go.Proofs.Yteabanjbgpplmaa

