/- bdd: BddMakes. -/
-- NODRAW
-- LIGHT
import Derived.Test.YteabanjbgpplmaaBddBddY
set_option linter.unusedSimpArgs false
set_option linter.unusedVariables false
namespace Go.Proofs.Yteabanjbgpplmaa
open Abs Fil Fil.Bd
/-- filigree/filigreelaw22.BddMakes [b:0, f:1, g:2, h:3, b:4, f:5, g:6, h:7, fixed:9, x:10, n:11, e:12, y:13, m:14, i:15, z:16, k:17, j:18, u:19, l:20, o:21, same:22] -/
def c4 : ACode :=
 .seq (.reg [⟨some 4, .boxI (.t 0), none⟩,
   ⟨some 8, .mov (.c (.bool false)), none⟩])
 (.seq (.reg [⟨some 23, .call (.c (.fn 14 [] [])) [], none⟩,
   ⟨some 9, .mov (.t 23), none⟩])
 (.seq (.seq (.reg [⟨some 24, .mov (.t 9), none⟩,
   ⟨some 25, .un .not (.t 24), none⟩])
 (.cond (.t 25)
  (.seq (.reg [⟨some 8, .mov (.c (.bool false)), none⟩])
  (.ret))
  (.skip)))
 (.seq (.seq (.reg [⟨some 26, .load true 2 (.t 4), none⟩,
   ⟨some 27, .call (.c (.fn 21 [] [])) [(.t 26)], none⟩,
   ⟨some 28, .un .not (.t 27), none⟩])
 (.cond (.t 28)
  (.seq (.reg [⟨some 29, .mov (.t 9), none⟩,
    ⟨some 8, .mov (.t 29), none⟩])
  (.ret))
  (.skip)))
 (.seq (.reg [⟨some 31, .load true 2 (.t 4), none⟩,
   ⟨some 32, .mov (.t 1), none⟩,
   ⟨some 33, .mov (.t 2), none⟩,
   ⟨some 34, .mov (.t 3), none⟩,
   ⟨some 35, .call (.c (.fn 22 [] [])) [(.t 31), (.t 32), (.t 33), (.t 34)], none⟩,
   ⟨some 30, .mov (.t 35), none⟩,
   ⟨some 36, .extract (.t 30) 0, none⟩,
   ⟨some 37, .extract (.t 30) 1, none⟩,
   ⟨some 38, .extract (.t 30) 2, none⟩,
   ⟨some 10, .alloc [(.int .i64 0), (.slice [] .nil)], none⟩,
   ⟨none, .store 2 (.t 10) (.t 36), none⟩,
   ⟨some 11, .mov (.t 37), none⟩,
   ⟨some 12, .mov (.t 38), none⟩])
 (.seq (.reg [⟨some 40, .load true 2 (.t 4), none⟩,
   ⟨some 41, .mov (.t 1), none⟩,
   ⟨some 42, .mov (.t 2), none⟩,
   ⟨some 43, .mov (.t 3), none⟩,
   ⟨some 44, .call (.c (.fn 23 [] [])) [(.t 40), (.t 41), (.t 42), (.t 43)], none⟩,
   ⟨some 39, .mov (.t 44), none⟩,
   ⟨some 45, .extract (.t 39) 0, none⟩,
   ⟨some 46, .extract (.t 39) 1, none⟩,
   ⟨some 47, .extract (.t 39) 2, none⟩,
   ⟨some 13, .alloc [(.int .i64 0), (.slice [] .nil)], none⟩,
   ⟨none, .store 2 (.t 13) (.t 45), none⟩,
   ⟨some 14, .mov (.t 46), none⟩,
   ⟨some 15, .mov (.t 47), none⟩])
 (.seq (.reg [⟨some 49, .load true 2 (.t 4), none⟩,
   ⟨some 50, .mov (.t 1), none⟩,
   ⟨some 51, .call (.c (.fn 24 [] [])) [(.t 49), (.t 50)], none⟩,
   ⟨some 48, .mov (.t 51), none⟩,
   ⟨some 52, .extract (.t 48) 0, none⟩,
   ⟨some 53, .extract (.t 48) 1, none⟩,
   ⟨some 54, .extract (.t 48) 2, none⟩,
   ⟨some 16, .alloc [(.int .i64 0), (.slice [] .nil)], none⟩,
   ⟨none, .store 2 (.t 16) (.t 52), none⟩,
   ⟨some 17, .mov (.t 53), none⟩,
   ⟨some 18, .mov (.t 54), none⟩])
 (.seq (.reg [⟨some 56, .load true 2 (.t 4), none⟩,
   ⟨some 57, .mov (.t 1), none⟩,
   ⟨some 58, .call (.c (.fn 25 [] [])) [(.t 56), (.t 57)], none⟩,
   ⟨some 55, .mov (.t 58), none⟩,
   ⟨some 59, .extract (.t 55) 0, none⟩,
   ⟨some 60, .extract (.t 55) 1, none⟩,
   ⟨some 61, .extract (.t 55) 2, none⟩,
   ⟨some 19, .alloc [(.int .i64 0), (.slice [] .nil)], none⟩,
   ⟨none, .store 2 (.t 19) (.t 59), none⟩,
   ⟨some 20, .mov (.t 60), none⟩,
   ⟨some 21, .mov (.t 61), none⟩])
 (.seq (.reg [⟨some 62, .load true 2 (.t 10), none⟩,
   ⟨some 63, .load true 2 (.t 13), none⟩,
   ⟨some 64, .call (.c (.fn 18 [] [])) [(.t 62), (.t 63)], none⟩,
   ⟨some 65, .mov (.t 64), none⟩,
   ⟨some 66, .load true 2 (.t 16), some (65, true)⟩,
   ⟨some 67, .load true 2 (.t 19), some (65, true)⟩,
   ⟨some 68, .call (.c (.fn 18 [] [])) [(.t 66), (.t 67)], some (65, true)⟩,
   ⟨some 69, .pick (.t 65) (.t 68) (.c (.bool false)), none⟩,
   ⟨some 22, .mov (.t 69), none⟩])
 (.seq (.reg [⟨some 70, .mov (.t 9), none⟩,
   ⟨some 71, .mov (.t 70), none⟩,
   ⟨some 72, .mov (.t 22), some (71, true)⟩,
   ⟨some 73, .pick (.t 71) (.t 72) (.c (.bool false)), none⟩,
   ⟨some 74, .mov (.t 73), none⟩,
   ⟨some 75, .mov (.t 11), some (74, true)⟩,
   ⟨some 76, .mov (.t 14), some (74, true)⟩,
   ⟨some 77, .bin .eql false (.t 75) (.t 76), some (74, true)⟩,
   ⟨some 78, .pick (.t 74) (.t 77) (.c (.bool false)), none⟩,
   ⟨some 79, .mov (.t 78), none⟩,
   ⟨some 80, .mov (.t 12), some (79, true)⟩,
   ⟨some 81, .mov (.t 15), some (79, true)⟩,
   ⟨some 82, .bin .eql false (.t 80) (.t 81), some (79, true)⟩,
   ⟨some 83, .pick (.t 79) (.t 82) (.c (.bool false)), none⟩,
   ⟨some 84, .mov (.t 83), none⟩,
   ⟨some 85, .mov (.t 17), some (84, true)⟩,
   ⟨some 86, .mov (.t 20), some (84, true)⟩,
   ⟨some 87, .bin .eql false (.t 85) (.t 86), some (84, true)⟩,
   ⟨some 88, .pick (.t 84) (.t 87) (.c (.bool false)), none⟩,
   ⟨some 89, .mov (.t 88), none⟩,
   ⟨some 90, .mov (.t 18), some (89, true)⟩,
   ⟨some 91, .mov (.t 21), some (89, true)⟩,
   ⟨some 92, .bin .eql false (.t 90) (.t 91), some (89, true)⟩,
   ⟨some 93, .pick (.t 89) (.t 92) (.c (.bool false)), none⟩,
   ⟨some 8, .mov (.t 93), none⟩])
 (.ret))))))))))
def r4 : List ARV := [.tmp 8]
theorem b4 : Try.f4.body.bind (tr Try.prog 94) = some c4.bare := by kernel_rfl
theorem q4 : trRes Try.prog Try.f4.results.toList = some r4 := by kernel_rfl
theorem n4 : (Try.f4.name == "runtime.NumGoroutine") = false := by kernel_rfl


theorem few_up {b : D} (h : few b 7 = true) : few b 12 = true := by
  rw [few, decide_eq_true_eq] at *; omega

theorem ite_len {b : D} {f g h : Int} (hs : few b 7 = true) : (iteW b f g h).1.2.length ≤ 9223372036854775807 := by
  by_cases he : askE b [f, g, h] false = 0
  · have hc : chk b.1 b.2 = 0 := by
      unfold askE at he
      split at he
      · exact he
      · rename_i hne; simpa using hne
    have hr := (few_room (few_up hs) (chk_fine.1 hc)).2.2.2
    have := put_len b.1.toNat b.2 0 (iteT (T b f) (T b g) (T b h))
    unfold iteW opW
    rw [if_neg (by simp [he])]
    show (put _ _ _ _).1.length ≤ _
    omega
  · unfold iteW; rw [op_err he]; simp

set_option maxHeartbeats 1000000 in
theorem makes_law (b : D) (f g h : Int) (σ : Sig) (hl : b.2.length ≤ 9223372036854775807) :
    ACalls Try.prog 4 [encB b.1 b.2, .int .i64 f, .int .i64 g, .int .i64 h] σ (fun r σ' => r = .ret (.bool true) ∧ σ' = σ) := by
  refine calls_x mixed Try.func4 b4 n4 rfl q4 (by simp) ?_; unfold c4 r4
  cases hs : few b 7 with
  | false =>
    repeat' (first | simp (maxDischargeDepth := 9) -implicitDefEqProofs -dsimp only [go_sem, Nat.reduceEqDiff, Nat.reduceAdd, Nat.reduceSub, Nat.reduceMul, Nat.reduceLeDiff, reduceIte, reduceCtorEq, Int.reduceEq, Int.reduceLE, Int.reduceLT, Int.reduceToNat, *] | simp (disch := omega) only [wrap64, tdiv2, tmod2, and1, xor1, xor_is1, shr1, shr1'] | (with_reducible (first | apply gd_td | apply gd_fd | apply br_d | apply gd_tbl | apply gd_fbl | apply br_bl | apply gd_tnl | apply gd_fnl | apply br_nl | apply gd_tb | apply gd_fb | apply br_b | apply gd_tn | apply gd_fn | apply br_n | apply gd_t | apply gd_f | apply br_split | apply ifnil_i) <;> intro hq) | ((with_reducible refine req_i ?_ ?_); focus (first | omega | exact rfl)) | ((with_reducible refine wth_map ?_ ?_); focus omega) | ((with_reducible refine fresh_i (fun oF hoF hnF hnF' => ?_)); clear hnF hnF'; (try simp only [upd_none_s, ne_eq] at hoF)) | ((with_reducible apply ACalls.one1); (focus (first | ((first | with_reducible refine law_live _ | with_reducible refine law_few b _) <;> (first | (simp (maxDischargeDepth := 9) -implicitDefEqProofs -dsimp only [go_sem, Nat.reduceEqDiff, Nat.reduceAdd, Nat.reduceSub, Nat.reduceMul, Nat.reduceLeDiff, reduceIte, reduceCtorEq, Int.reduceEq, Int.reduceLE, Int.reduceLT, Int.reduceToNat, *]; done) | omega | ((with_reducible refine Sub.get hS ?_); simp (maxDischargeDepth := 9) -implicitDefEqProofs -dsimp only [go_sem, Nat.reduceEqDiff, Nat.reduceAdd, Nat.reduceSub, Nat.reduceMul, Nat.reduceLeDiff, reduceIte, reduceCtorEq, Int.reduceEq, Int.reduceLE, Int.reduceLT, Int.reduceToNat, *]; done))) | (with_reducible refine ACalls.flA (law_live _) ?_ <;> (first | (simp (maxDischargeDepth := 9) -implicitDefEqProofs -dsimp only [go_sem, Nat.reduceEqDiff, Nat.reduceAdd, Nat.reduceSub, Nat.reduceMul, Nat.reduceLeDiff, reduceIte, reduceCtorEq, Int.reduceEq, Int.reduceLE, Int.reduceLT, Int.reduceToNat, *]; done) | omega | ((with_reducible refine Sub.get hS ?_); simp (maxDischargeDepth := 9) -implicitDefEqProofs -dsimp only [go_sem, Nat.reduceEqDiff, Nat.reduceAdd, Nat.reduceSub, Nat.reduceMul, Nat.reduceLeDiff, reduceIte, reduceCtorEq, Int.reduceEq, Int.reduceLE, Int.reduceLT, Int.reduceToNat, *]; done))) | (with_reducible refine ACalls.flA (law_few b _) ?_ <;> (first | (simp (maxDischargeDepth := 9) -implicitDefEqProofs -dsimp only [go_sem, Nat.reduceEqDiff, Nat.reduceAdd, Nat.reduceSub, Nat.reduceMul, Nat.reduceLeDiff, reduceIte, reduceCtorEq, Int.reduceEq, Int.reduceLE, Int.reduceLT, Int.reduceToNat, *]; done) | omega | ((with_reducible refine Sub.get hS ?_); simp (maxDischargeDepth := 9) -implicitDefEqProofs -dsimp only [go_sem, Nat.reduceEqDiff, Nat.reduceAdd, Nat.reduceSub, Nat.reduceMul, Nat.reduceLeDiff, reduceIte, reduceCtorEq, Int.reduceEq, Int.reduceLE, Int.reduceLT, Int.reduceToNat, *]; done))))); (focus (first | trivial | with_reducible exact rfl | (simp (maxDischargeDepth := 9) -implicitDefEqProofs -dsimp only [go_sem, Nat.reduceEqDiff, Nat.reduceAdd, Nat.reduceSub, Nat.reduceMul, Nat.reduceLeDiff, reduceIte, reduceCtorEq, Int.reduceEq, Int.reduceLE, Int.reduceLT, Int.reduceToNat]; done)))) | fail)
    refine fin_eq ?_
    (repeat' (first | simp (maxDischargeDepth := 9) -implicitDefEqProofs -dsimp only [go_sem, Nat.reduceEqDiff, Nat.reduceAdd, Nat.reduceSub, Nat.reduceMul, Nat.reduceLeDiff, reduceIte, reduceCtorEq, Int.reduceEq, Int.reduceLE, Int.reduceLT, Int.reduceToNat, *] | simp (disch := omega) only [wrap64, tdiv2, tmod2, and1, xor1, xor_is1, shr1, shr1'])) <;> (repeat' refine And.intro ?_ ?_) <;> (first | omega | rfl | assumption | skip)
  | true =>
    have hr1 : Fine b.1 b.2 → b.2.length + 2 ^ (b.1.toNat + 1) ≤ 65537 := fun hf => (few_room (few_up hs) hf).2.2.1
    have hr2 : Fine b.1 b.2 → b.2.length + 2 ^ b.1.toNat ≤ 65537 := fun hf => (few_room (few_up hs) hf).2.2.2
    have l1 := ite_len (f := f) (g := g) (h := h) hs
    have l2 : (notW b f).1.2.length ≤ 9223372036854775807 := ite_len (f := f) (g := 0) (h := 1) hs
    have c1 := fun τ => bdd_Ite b f g h τ hl hr1
    have c2 := fun τ => ref_Ite b f g h τ hl
    have c3 := fun τ => bdd_Not b f τ hl hr1
    have c4 := fun τ => ref_Not b f τ hl
    obtain ⟨⟨c, n, e⟩, hx⟩ : ∃ x, iteW b f g h = x := ⟨_, rfl⟩
    obtain ⟨⟨d, m, i⟩, hy⟩ : ∃ x, notW b f = x := ⟨_, rfl⟩
    rw [hx] at l1
    rw [hy] at l2
    rw [hx] at c1 c2
    rw [hy] at c3 c4
    simp only at l1 l2
    have s1 := fun τ => ref_Same c c τ l1 l1
    have s2 := fun τ => ref_Same d d τ l2 l2
    have e1 : decide (c = c) = true := by simp
    have e2 : decide (d = d) = true := by simp
    have e3 : (n == n) = true := by simp
    have e4 : (e == e) = true := by simp
    have e5 : (m == m) = true := by simp
    have e6 : (i == i) = true := by simp
    clear hr1 hr2 hx hy
    repeat' (first | simp (maxDischargeDepth := 9) -implicitDefEqProofs -dsimp only [go_sem, Nat.reduceEqDiff, Nat.reduceAdd, Nat.reduceSub, Nat.reduceMul, Nat.reduceLeDiff, reduceIte, reduceCtorEq, Int.reduceEq, Int.reduceLE, Int.reduceLT, Int.reduceToNat, *] | simp (disch := omega) only [wrap64, tdiv2, tmod2, and1, xor1, xor_is1, shr1, shr1'] | (with_reducible (first | apply gd_td | apply gd_fd | apply br_d | apply gd_tbl | apply gd_fbl | apply br_bl | apply gd_tnl | apply gd_fnl | apply br_nl | apply gd_tb | apply gd_fb | apply br_b | apply gd_tn | apply gd_fn | apply br_n | apply gd_t | apply gd_f | apply br_split | apply ifnil_i) <;> intro hq) | ((with_reducible refine req_i ?_ ?_); focus (first | omega | exact rfl)) | ((with_reducible refine wth_map ?_ ?_); focus omega) | ((with_reducible refine fresh_i (fun oF hoF hnF hnF' => ?_)); clear hnF hnF'; (try simp only [upd_none_s, ne_eq] at hoF)) | ((with_reducible apply ACalls.one1); (focus (first | ((first | with_reducible refine law_live _ | with_reducible refine law_few b _ | with_reducible refine c1 _ | with_reducible refine c2 _ | with_reducible refine c3 _ | with_reducible refine c4 _ | with_reducible refine s1 _ | with_reducible refine s2 _) <;> (first | (simp (maxDischargeDepth := 9) -implicitDefEqProofs -dsimp only [go_sem, Nat.reduceEqDiff, Nat.reduceAdd, Nat.reduceSub, Nat.reduceMul, Nat.reduceLeDiff, reduceIte, reduceCtorEq, Int.reduceEq, Int.reduceLE, Int.reduceLT, Int.reduceToNat, *]; done) | omega | ((with_reducible refine Sub.get hS ?_); simp (maxDischargeDepth := 9) -implicitDefEqProofs -dsimp only [go_sem, Nat.reduceEqDiff, Nat.reduceAdd, Nat.reduceSub, Nat.reduceMul, Nat.reduceLeDiff, reduceIte, reduceCtorEq, Int.reduceEq, Int.reduceLE, Int.reduceLT, Int.reduceToNat, *]; done))) | (with_reducible refine ACalls.flA (law_live _) ?_ <;> (first | (simp (maxDischargeDepth := 9) -implicitDefEqProofs -dsimp only [go_sem, Nat.reduceEqDiff, Nat.reduceAdd, Nat.reduceSub, Nat.reduceMul, Nat.reduceLeDiff, reduceIte, reduceCtorEq, Int.reduceEq, Int.reduceLE, Int.reduceLT, Int.reduceToNat, *]; done) | omega | ((with_reducible refine Sub.get hS ?_); simp (maxDischargeDepth := 9) -implicitDefEqProofs -dsimp only [go_sem, Nat.reduceEqDiff, Nat.reduceAdd, Nat.reduceSub, Nat.reduceMul, Nat.reduceLeDiff, reduceIte, reduceCtorEq, Int.reduceEq, Int.reduceLE, Int.reduceLT, Int.reduceToNat, *]; done))) | (with_reducible refine ACalls.flA (law_few b _) ?_ <;> (first | (simp (maxDischargeDepth := 9) -implicitDefEqProofs -dsimp only [go_sem, Nat.reduceEqDiff, Nat.reduceAdd, Nat.reduceSub, Nat.reduceMul, Nat.reduceLeDiff, reduceIte, reduceCtorEq, Int.reduceEq, Int.reduceLE, Int.reduceLT, Int.reduceToNat, *]; done) | omega | ((with_reducible refine Sub.get hS ?_); simp (maxDischargeDepth := 9) -implicitDefEqProofs -dsimp only [go_sem, Nat.reduceEqDiff, Nat.reduceAdd, Nat.reduceSub, Nat.reduceMul, Nat.reduceLeDiff, reduceIte, reduceCtorEq, Int.reduceEq, Int.reduceLE, Int.reduceLT, Int.reduceToNat, *]; done))) | (with_reducible refine ACalls.flA (c1 _) ?_ <;> (first | (simp (maxDischargeDepth := 9) -implicitDefEqProofs -dsimp only [go_sem, Nat.reduceEqDiff, Nat.reduceAdd, Nat.reduceSub, Nat.reduceMul, Nat.reduceLeDiff, reduceIte, reduceCtorEq, Int.reduceEq, Int.reduceLE, Int.reduceLT, Int.reduceToNat, *]; done) | omega | ((with_reducible refine Sub.get hS ?_); simp (maxDischargeDepth := 9) -implicitDefEqProofs -dsimp only [go_sem, Nat.reduceEqDiff, Nat.reduceAdd, Nat.reduceSub, Nat.reduceMul, Nat.reduceLeDiff, reduceIte, reduceCtorEq, Int.reduceEq, Int.reduceLE, Int.reduceLT, Int.reduceToNat, *]; done))) | (with_reducible refine ACalls.flA (c2 _) ?_ <;> (first | (simp (maxDischargeDepth := 9) -implicitDefEqProofs -dsimp only [go_sem, Nat.reduceEqDiff, Nat.reduceAdd, Nat.reduceSub, Nat.reduceMul, Nat.reduceLeDiff, reduceIte, reduceCtorEq, Int.reduceEq, Int.reduceLE, Int.reduceLT, Int.reduceToNat, *]; done) | omega | ((with_reducible refine Sub.get hS ?_); simp (maxDischargeDepth := 9) -implicitDefEqProofs -dsimp only [go_sem, Nat.reduceEqDiff, Nat.reduceAdd, Nat.reduceSub, Nat.reduceMul, Nat.reduceLeDiff, reduceIte, reduceCtorEq, Int.reduceEq, Int.reduceLE, Int.reduceLT, Int.reduceToNat, *]; done))) | (with_reducible refine ACalls.flA (c3 _) ?_ <;> (first | (simp (maxDischargeDepth := 9) -implicitDefEqProofs -dsimp only [go_sem, Nat.reduceEqDiff, Nat.reduceAdd, Nat.reduceSub, Nat.reduceMul, Nat.reduceLeDiff, reduceIte, reduceCtorEq, Int.reduceEq, Int.reduceLE, Int.reduceLT, Int.reduceToNat, *]; done) | omega | ((with_reducible refine Sub.get hS ?_); simp (maxDischargeDepth := 9) -implicitDefEqProofs -dsimp only [go_sem, Nat.reduceEqDiff, Nat.reduceAdd, Nat.reduceSub, Nat.reduceMul, Nat.reduceLeDiff, reduceIte, reduceCtorEq, Int.reduceEq, Int.reduceLE, Int.reduceLT, Int.reduceToNat, *]; done))) | (with_reducible refine ACalls.flA (c4 _) ?_ <;> (first | (simp (maxDischargeDepth := 9) -implicitDefEqProofs -dsimp only [go_sem, Nat.reduceEqDiff, Nat.reduceAdd, Nat.reduceSub, Nat.reduceMul, Nat.reduceLeDiff, reduceIte, reduceCtorEq, Int.reduceEq, Int.reduceLE, Int.reduceLT, Int.reduceToNat, *]; done) | omega | ((with_reducible refine Sub.get hS ?_); simp (maxDischargeDepth := 9) -implicitDefEqProofs -dsimp only [go_sem, Nat.reduceEqDiff, Nat.reduceAdd, Nat.reduceSub, Nat.reduceMul, Nat.reduceLeDiff, reduceIte, reduceCtorEq, Int.reduceEq, Int.reduceLE, Int.reduceLT, Int.reduceToNat, *]; done))) | (with_reducible refine ACalls.flA (s1 _) ?_ <;> (first | (simp (maxDischargeDepth := 9) -implicitDefEqProofs -dsimp only [go_sem, Nat.reduceEqDiff, Nat.reduceAdd, Nat.reduceSub, Nat.reduceMul, Nat.reduceLeDiff, reduceIte, reduceCtorEq, Int.reduceEq, Int.reduceLE, Int.reduceLT, Int.reduceToNat, *]; done) | omega | ((with_reducible refine Sub.get hS ?_); simp (maxDischargeDepth := 9) -implicitDefEqProofs -dsimp only [go_sem, Nat.reduceEqDiff, Nat.reduceAdd, Nat.reduceSub, Nat.reduceMul, Nat.reduceLeDiff, reduceIte, reduceCtorEq, Int.reduceEq, Int.reduceLE, Int.reduceLT, Int.reduceToNat, *]; done))) | (with_reducible refine ACalls.flA (s2 _) ?_ <;> (first | (simp (maxDischargeDepth := 9) -implicitDefEqProofs -dsimp only [go_sem, Nat.reduceEqDiff, Nat.reduceAdd, Nat.reduceSub, Nat.reduceMul, Nat.reduceLeDiff, reduceIte, reduceCtorEq, Int.reduceEq, Int.reduceLE, Int.reduceLT, Int.reduceToNat, *]; done) | omega | ((with_reducible refine Sub.get hS ?_); simp (maxDischargeDepth := 9) -implicitDefEqProofs -dsimp only [go_sem, Nat.reduceEqDiff, Nat.reduceAdd, Nat.reduceSub, Nat.reduceMul, Nat.reduceLeDiff, reduceIte, reduceCtorEq, Int.reduceEq, Int.reduceLE, Int.reduceLT, Int.reduceToNat, *]; done))))); (focus (first | trivial | with_reducible exact rfl | (simp (maxDischargeDepth := 9) -implicitDefEqProofs -dsimp only [go_sem, Nat.reduceEqDiff, Nat.reduceAdd, Nat.reduceSub, Nat.reduceMul, Nat.reduceLeDiff, reduceIte, reduceCtorEq, Int.reduceEq, Int.reduceLE, Int.reduceLT, Int.reduceToNat]; done)))) | fail)
    refine fin_eq ?_
    (repeat' (first | simp (maxDischargeDepth := 9) -implicitDefEqProofs -dsimp only [go_sem, Nat.reduceEqDiff, Nat.reduceAdd, Nat.reduceSub, Nat.reduceMul, Nat.reduceLeDiff, reduceIte, reduceCtorEq, Int.reduceEq, Int.reduceLE, Int.reduceLT, Int.reduceToNat, *] | simp (disch := omega) only [wrap64, tdiv2, tmod2, and1, xor1, xor_is1, shr1, shr1'])) <;> (repeat' refine And.intro ?_ ?_) <;> (first | omega | rfl | assumption | skip)

end Go.Proofs.Yteabanjbgpplmaa
