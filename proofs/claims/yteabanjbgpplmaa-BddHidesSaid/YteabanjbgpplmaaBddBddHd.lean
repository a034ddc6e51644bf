/- bdd: BddHides. -/
-- NODRAW
import Derived.Test.YteabanjbgpplmaaBddBddU
import Derived.Test.YteabanjbgpplmaaBddHide
set_option linter.unusedSimpArgs false
set_option linter.unusedVariables false
namespace Go.Proofs.Yteabanjbgpplmaa
open Abs Fil Fil.Bd
/-- filigree/filigreelaw22.BddHides [b:0, f:1, n:2, in:3, b:4, f:5, n:6, in:7, fixed:9, c:10, x:11, e:12, other:13, p:14, g:15, q:16, h:17, r:18, i:19, s:20, k:21, d:22, y:23, l:24, again:25] -/
def c12 : ACode :=
 .seq (.reg [⟨some 4, .boxI (.t 0), none⟩,
   ⟨some 8, .mov (.c (.bool false)), none⟩])
 (.seq (.reg [⟨some 26, .call (.c (.fn 14 [] [])) [], none⟩,
   ⟨some 9, .mov (.t 26), none⟩])
 (.seq (.seq (.reg [⟨some 27, .mov (.t 9), none⟩,
   ⟨some 28, .un .not (.t 27), none⟩])
 (.cond (.t 28)
  (.seq (.reg [⟨some 8, .mov (.c (.bool false)), none⟩])
  (.ret))
  (.skip)))
 (.seq (.seq (.reg [⟨some 29, .load true 2 (.t 4), none⟩,
   ⟨some 30, .call (.c (.fn 15 [] [])) [(.t 29)], none⟩,
   ⟨some 31, .un .not (.t 30), none⟩,
   ⟨some 32, .mov (.t 31), none⟩,
   ⟨some 33, .mov (.t 3), some (32, false)⟩,
   ⟨some 34, .len (.t 33), some (32, false)⟩,
   ⟨some 35, .fldA 0 (.t 4), some (32, false)⟩,
   ⟨some 36, .load false 1 (.t 35), some (32, false)⟩,
   ⟨some 37, .bin .neq false (.t 34) (.t 36), some (32, false)⟩,
   ⟨some 38, .pick (.t 32) (.c (.bool true)) (.t 37), none⟩])
 (.cond (.t 38)
  (.seq (.reg [⟨some 39, .mov (.t 9), none⟩,
    ⟨some 8, .mov (.t 39), none⟩])
  (.ret))
  (.skip)))
 (.seq (.reg [⟨some 41, .load true 2 (.t 4), none⟩,
   ⟨some 42, .mov (.t 1), none⟩,
   ⟨some 43, .mov (.t 2), none⟩,
   ⟨some 44, .call (.c (.fn 26 [] [])) [(.t 41), (.t 42), (.t 43)], none⟩,
   ⟨some 40, .mov (.t 44), none⟩,
   ⟨some 45, .extract (.t 40) 0, none⟩,
   ⟨some 46, .extract (.t 40) 1, none⟩,
   ⟨some 47, .extract (.t 40) 2, none⟩,
   ⟨some 10, .alloc [(.int .i64 0), (.slice [] .nil)], none⟩,
   ⟨none, .store 2 (.t 10) (.t 45), none⟩,
   ⟨some 11, .mov (.t 46), none⟩,
   ⟨some 12, .mov (.t 47), none⟩])
 (.seq (.seq (.reg [⟨some 48, .mov (.t 12), none⟩,
   ⟨some 49, .bin .neq false (.t 48) (.c (.int .i64 0)), none⟩])
 (.cond (.t 49)
  (.seq (.reg [⟨some 50, .mov (.t 9), none⟩,
    ⟨some 51, .mov (.t 50), none⟩,
    ⟨some 52, .mov (.t 11), some (51, true)⟩,
    ⟨some 53, .bin .eql false (.t 52) (.c (.int .i64 0)), some (51, true)⟩,
    ⟨some 54, .pick (.t 51) (.t 53) (.c (.bool false)), none⟩,
    ⟨some 55, .mov (.t 54), none⟩,
    ⟨some 56, .fldA 1 (.t 10), some (55, true)⟩,
    ⟨some 57, .load false 1 (.t 56), some (55, true)⟩,
    ⟨some 58, .len (.t 57), some (55, true)⟩,
    ⟨some 59, .bin .eql false (.t 58) (.c (.int .i64 0)), some (55, true)⟩,
    ⟨some 60, .pick (.t 55) (.t 59) (.c (.bool false)), none⟩,
    ⟨some 8, .mov (.t 60), none⟩])
  (.ret))
  (.skip)))
 (.seq (.seq (.reg [⟨some 61, .mov (.t 2), none⟩,
   ⟨some 62, .bin .lss false (.t 61) (.c (.int .i64 0)), none⟩,
   ⟨some 63, .mov (.t 62), none⟩,
   ⟨some 64, .mov (.t 2), some (63, false)⟩,
   ⟨some 65, .mov (.t 3), some (63, false)⟩,
   ⟨some 66, .len (.t 65), some (63, false)⟩,
   ⟨some 67, .bin .geq false (.t 64) (.t 66), some (63, false)⟩,
   ⟨some 68, .pick (.t 63) (.c (.bool true)) (.t 67), none⟩])
 (.cond (.t 68)
  (.seq (.reg [⟨some 8, .mov (.c (.bool false)), none⟩])
  (.ret))
  (.skip)))
 (.seq (.reg [⟨some 69, .bslice 1 [], none⟩,
   ⟨some 70, .mov (.t 3), none⟩,
   ⟨some 71, .ext (.vapp 1 1 (.t 69) (.t 70)), none⟩,
   ⟨some 13, .mov (.t 71), none⟩])
 (.seq (.reg [⟨some 72, .mov (.t 13), none⟩,
   ⟨some 73, .mov (.t 2), none⟩,
   ⟨some 74, .mov (.t 3), none⟩,
   ⟨some 75, .mov (.t 2), none⟩,
   ⟨some 76, .idxS 1 (.t 74) (.t 75), none⟩,
   ⟨some 77, .load false 1 (.t 76), none⟩,
   ⟨some 78, .un .not (.t 77), none⟩,
   ⟨some 79, .idxS 1 (.t 72) (.t 73), none⟩,
   ⟨none, .store 1 (.t 79) (.t 78), none⟩])
 (.seq (.reg [⟨some 81, .load true 2 (.t 4), none⟩,
   ⟨some 82, .mov (.t 1), none⟩,
   ⟨some 83, .mov (.t 3), none⟩,
   ⟨some 84, .call (.c (.fn 30 [] [])) [(.t 81), (.t 82), (.t 83)], none⟩,
   ⟨some 80, .mov (.t 84), none⟩,
   ⟨some 85, .extract (.t 80) 0, none⟩,
   ⟨some 86, .extract (.t 80) 1, none⟩,
   ⟨some 14, .mov (.t 85), none⟩,
   ⟨some 15, .mov (.t 86), none⟩])
 (.seq (.reg [⟨some 88, .load true 2 (.t 4), none⟩,
   ⟨some 89, .mov (.t 1), none⟩,
   ⟨some 90, .mov (.t 13), none⟩,
   ⟨some 91, .call (.c (.fn 30 [] [])) [(.t 88), (.t 89), (.t 90)], none⟩,
   ⟨some 87, .mov (.t 91), none⟩,
   ⟨some 92, .extract (.t 87) 0, none⟩,
   ⟨some 93, .extract (.t 87) 1, none⟩,
   ⟨some 16, .mov (.t 92), none⟩,
   ⟨some 17, .mov (.t 93), none⟩])
 (.seq (.reg [⟨some 95, .load true 2 (.t 10), none⟩,
   ⟨some 96, .mov (.t 11), none⟩,
   ⟨some 97, .mov (.t 3), none⟩,
   ⟨some 98, .call (.c (.fn 30 [] [])) [(.t 95), (.t 96), (.t 97)], none⟩,
   ⟨some 94, .mov (.t 98), none⟩,
   ⟨some 99, .extract (.t 94) 0, none⟩,
   ⟨some 100, .extract (.t 94) 1, none⟩,
   ⟨some 18, .mov (.t 99), none⟩,
   ⟨some 19, .mov (.t 100), none⟩])
 (.seq (.reg [⟨some 102, .load true 2 (.t 10), none⟩,
   ⟨some 103, .mov (.t 11), none⟩,
   ⟨some 104, .mov (.t 13), none⟩,
   ⟨some 105, .call (.c (.fn 30 [] [])) [(.t 102), (.t 103), (.t 104)], none⟩,
   ⟨some 101, .mov (.t 105), none⟩,
   ⟨some 106, .extract (.t 101) 0, none⟩,
   ⟨some 107, .extract (.t 101) 1, none⟩,
   ⟨some 20, .mov (.t 106), none⟩,
   ⟨some 21, .mov (.t 107), none⟩])
 (.seq (.reg [⟨some 109, .load true 2 (.t 10), none⟩,
   ⟨some 110, .mov (.t 11), none⟩,
   ⟨some 111, .mov (.t 2), none⟩,
   ⟨some 112, .call (.c (.fn 26 [] [])) [(.t 109), (.t 110), (.t 111)], none⟩,
   ⟨some 108, .mov (.t 112), none⟩,
   ⟨some 113, .extract (.t 108) 0, none⟩,
   ⟨some 114, .extract (.t 108) 1, none⟩,
   ⟨some 115, .extract (.t 108) 2, none⟩,
   ⟨some 22, .alloc [(.int .i64 0), (.slice [] .nil)], none⟩,
   ⟨none, .store 2 (.t 22) (.t 113), none⟩,
   ⟨some 23, .mov (.t 114), none⟩,
   ⟨some 24, .mov (.t 115), none⟩])
 (.seq (.reg [⟨some 116, .load true 2 (.t 10), none⟩,
   ⟨some 117, .load true 2 (.t 22), none⟩,
   ⟨some 118, .call (.c (.fn 18 [] [])) [(.t 116), (.t 117)], none⟩,
   ⟨some 25, .mov (.t 118), none⟩])
 (.seq (.reg [⟨some 119, .mov (.t 9), none⟩,
   ⟨some 120, .mov (.t 119), none⟩,
   ⟨some 121, .mov (.t 15), some (120, true)⟩,
   ⟨some 122, .bin .eql false (.t 121) (.c (.int .i64 0)), some (120, true)⟩,
   ⟨some 123, .pick (.t 120) (.t 122) (.c (.bool false)), none⟩,
   ⟨some 124, .mov (.t 123), none⟩,
   ⟨some 125, .mov (.t 17), some (124, true)⟩,
   ⟨some 126, .bin .eql false (.t 125) (.c (.int .i64 0)), some (124, true)⟩,
   ⟨some 127, .pick (.t 124) (.t 126) (.c (.bool false)), none⟩,
   ⟨some 128, .mov (.t 127), none⟩,
   ⟨some 129, .mov (.t 19), some (128, true)⟩,
   ⟨some 130, .bin .eql false (.t 129) (.c (.int .i64 0)), some (128, true)⟩,
   ⟨some 131, .pick (.t 128) (.t 130) (.c (.bool false)), none⟩,
   ⟨some 132, .mov (.t 131), none⟩,
   ⟨some 133, .mov (.t 21), some (132, true)⟩,
   ⟨some 134, .bin .eql false (.t 133) (.c (.int .i64 0)), some (132, true)⟩,
   ⟨some 135, .pick (.t 132) (.t 134) (.c (.bool false)), none⟩,
   ⟨some 136, .mov (.t 135), none⟩,
   ⟨some 137, .mov (.t 24), some (136, true)⟩,
   ⟨some 138, .bin .eql false (.t 137) (.c (.int .i64 0)), some (136, true)⟩,
   ⟨some 139, .pick (.t 136) (.t 138) (.c (.bool false)), none⟩,
   ⟨some 140, .mov (.t 139), none⟩,
   ⟨some 141, .mov (.t 18), some (140, true)⟩,
   ⟨some 142, .mov (.t 14), some (140, true)⟩,
   ⟨some 143, .mov (.t 142), some (140, true)⟩,
   ⟨some 144, .mov (.t 16), some (143, false)⟩,
   ⟨some 145, .pick (.t 143) (.c (.bool true)) (.t 144), some (140, true)⟩,
   ⟨some 146, .bin .eql true (.t 141) (.t 145), some (140, true)⟩,
   ⟨some 147, .pick (.t 140) (.t 146) (.c (.bool false)), none⟩,
   ⟨some 148, .mov (.t 147), none⟩,
   ⟨some 149, .mov (.t 20), some (148, true)⟩,
   ⟨some 150, .mov (.t 18), some (148, true)⟩,
   ⟨some 151, .bin .eql true (.t 149) (.t 150), some (148, true)⟩,
   ⟨some 152, .pick (.t 148) (.t 151) (.c (.bool false)), none⟩,
   ⟨some 153, .mov (.t 152), none⟩,
   ⟨some 154, .mov (.t 23), some (153, true)⟩,
   ⟨some 155, .mov (.t 11), some (153, true)⟩,
   ⟨some 156, .bin .eql false (.t 154) (.t 155), some (153, true)⟩,
   ⟨some 157, .pick (.t 153) (.t 156) (.c (.bool false)), none⟩,
   ⟨some 158, .mov (.t 157), none⟩,
   ⟨some 159, .mov (.t 25), some (158, true)⟩,
   ⟨some 160, .pick (.t 158) (.t 159) (.c (.bool false)), none⟩,
   ⟨some 8, .mov (.t 160), none⟩])
 (.ret))))))))))))))))
def r12 : List ARV := [.tmp 8]
theorem b12 : Try.f12.body.bind (tr Try.prog 161) = some c12.bare := by kernel_rfl
theorem q12 : trRes Try.prog Try.f12.results.toList = some r12 := by kernel_rfl
theorem n12 : (Try.f12.name == "runtime.NumGoroutine") = false := by kernel_rfl


theorem eval_row (b : D) (f : Int) (inp : List Bool) (n o : Nat) (σ : Sig) (hn : inp.length = n) (ho : σ o = some (.vec 1 n (inp.map encBool))) (hl : b.2.length ≤ 9223372036854775807) (hi : n ≤ 9223372036854775807) :
    ACalls Try.prog 30 [encB b.1 b.2, .int .i64 f, .vec o n] σ (fun r σ' => r = .ret (.tup [.bool (evalW b f inp).1, .int .i64 (evalW b f inp).2]) ∧ σ' = σ) := by
  subst hn
  exact bdd_EvalV b f inp o σ ho hl hi

theorem flat_bool (l : List Bool) : flat (l.map encBool) = l.map encBool := by
  induction l with
  | nil => rfl
  | cons x l ih => simp only [List.map_cons, flat_cons, ih]; rfl

set_option maxHeartbeats 1000000 in
theorem hides_law (b : D) (f v : Int) (inp : List Bool) (σ : Sig) (hl : b.2.length ≤ 9223372036854775807) (hi : inp.length ≤ 9223372036854775807) :
    ACalls Try.prog 12 [encB b.1 b.2, .int .i64 f, .int .i64 v, .slice (inp.map encBool) .no] σ (fun r σ' => r = .ret (.bool true) ∧ σ' = σ) := by
  refine calls_x mixed Try.func12 b12 n12 rfl q12 (by simp) ?_; unfold c12 r12
  have e0 : ((0 : Int) == 0) = true := by decide
  have ez : ((0 : Int) != 0) = false := by decide
  cases hs : few b 12 with
  | false =>
    repeat' (first | simp (maxDischargeDepth := 9) -implicitDefEqProofs -dsimp only [go_sem, Nat.reduceEqDiff, Nat.reduceAdd, Nat.reduceSub, Nat.reduceMul, Nat.reduceLeDiff, reduceIte, reduceCtorEq, Int.reduceEq, Int.reduceLE, Int.reduceLT, Int.reduceToNat, *] | simp (disch := omega) only [wrap64, tdiv2, tmod2, and1, xor1, xor_is1, shr1, shr1'] | (with_reducible (first | apply gd_td | apply gd_fd | apply br_d | apply gd_tbl | apply gd_fbl | apply br_bl | apply gd_tnl | apply gd_fnl | apply br_nl | apply gd_tb | apply gd_fb | apply br_b | apply gd_tn | apply gd_fn | apply br_n | apply gd_t | apply gd_f | apply br_split | apply ifnil_i) <;> intro hq) | ((with_reducible refine req_i ?_ ?_); focus (first | omega | exact rfl)) | ((with_reducible refine wth_map ?_ ?_); focus omega) | ((with_reducible refine fresh_i (fun oF hoF hnF hnF' => ?_)); (try simp only [upd_none, ne_eq, not_and] at hoF)) | ((with_reducible apply ACalls.one1); (focus (first | ((first | with_reducible refine law_live _ | with_reducible refine law_some b _) <;> (first | (simp (maxDischargeDepth := 9) -implicitDefEqProofs -dsimp only [go_sem, Nat.reduceEqDiff, Nat.reduceAdd, Nat.reduceSub, Nat.reduceMul, Nat.reduceLeDiff, reduceIte, reduceCtorEq, Int.reduceEq, Int.reduceLE, Int.reduceLT, Int.reduceToNat, *]; done) | omega | ((with_reducible refine Sub.get hS ?_); simp (maxDischargeDepth := 9) -implicitDefEqProofs -dsimp only [go_sem, Nat.reduceEqDiff, Nat.reduceAdd, Nat.reduceSub, Nat.reduceMul, Nat.reduceLeDiff, reduceIte, reduceCtorEq, Int.reduceEq, Int.reduceLE, Int.reduceLT, Int.reduceToNat, *]; done))) | (with_reducible refine ACalls.flA (law_live _) ?_ <;> (first | (simp (maxDischargeDepth := 9) -implicitDefEqProofs -dsimp only [go_sem, Nat.reduceEqDiff, Nat.reduceAdd, Nat.reduceSub, Nat.reduceMul, Nat.reduceLeDiff, reduceIte, reduceCtorEq, Int.reduceEq, Int.reduceLE, Int.reduceLT, Int.reduceToNat, *]; done) | omega | ((with_reducible refine Sub.get hS ?_); simp (maxDischargeDepth := 9) -implicitDefEqProofs -dsimp only [go_sem, Nat.reduceEqDiff, Nat.reduceAdd, Nat.reduceSub, Nat.reduceMul, Nat.reduceLeDiff, reduceIte, reduceCtorEq, Int.reduceEq, Int.reduceLE, Int.reduceLT, Int.reduceToNat, *]; done))) | (with_reducible refine ACalls.flA (law_some b _) ?_ <;> (first | (simp (maxDischargeDepth := 9) -implicitDefEqProofs -dsimp only [go_sem, Nat.reduceEqDiff, Nat.reduceAdd, Nat.reduceSub, Nat.reduceMul, Nat.reduceLeDiff, reduceIte, reduceCtorEq, Int.reduceEq, Int.reduceLE, Int.reduceLT, Int.reduceToNat, *]; done) | omega | ((with_reducible refine Sub.get hS ?_); simp (maxDischargeDepth := 9) -implicitDefEqProofs -dsimp only [go_sem, Nat.reduceEqDiff, Nat.reduceAdd, Nat.reduceSub, Nat.reduceMul, Nat.reduceLeDiff, reduceIte, reduceCtorEq, Int.reduceEq, Int.reduceLE, Int.reduceLT, Int.reduceToNat, *]; done))))); (focus (first | trivial | with_reducible exact rfl | (simp (maxDischargeDepth := 9) -implicitDefEqProofs -dsimp only [go_sem, Nat.reduceEqDiff, Nat.reduceAdd, Nat.reduceSub, Nat.reduceMul, Nat.reduceLeDiff, reduceIte, reduceCtorEq, Int.reduceEq, Int.reduceLE, Int.reduceLT, Int.reduceToNat]; done)))) | fail)
    refine fin_eq ?_
    (repeat' (first | simp (maxDischargeDepth := 9) -implicitDefEqProofs -dsimp only [go_sem, Nat.reduceEqDiff, Nat.reduceAdd, Nat.reduceSub, Nat.reduceMul, Nat.reduceLeDiff, reduceIte, reduceCtorEq, Int.reduceEq, Int.reduceLE, Int.reduceLT, Int.reduceToNat, *] | simp (disch := omega) only [wrap64, tdiv2, tmod2, and1, xor1, xor_is1, shr1, shr1'])) <;> (repeat' refine And.intro ?_ ?_) <;> (first | omega | rfl | assumption | skip)
  | true =>
    by_cases hlen : (inp.length : Int) = b.1
    · have hlb : ((inp.length : Int) != b.1) = false := by simpa using hlen
      have hr1 : Fine b.1 b.2 → b.2.length + 2 ^ (b.1.toNat + 1) ≤ 65537 := fun hf => (few_room hs hf).2.2.1
      have hr2 : Fine b.1 b.2 → b.2.length + 2 ^ b.1.toNat ≤ 65537 := fun hf => (few_room hs hf).2.2.2
      by_cases hq : (someW b f v).2.2 = 0
      · obtain ⟨v0, v1, F, n, p, q, k1, k2, k3, k4, k5, k6, k7, k8⟩ := some_ok (inp := inp) hlen hr2 hq
        have hfr := few_room hs k2
        have h12 := hfr.1
        have hlo := k2.lo
        have hp12 : 2 ^ b.1.toNat ≤ 2 ^ 12 := Nat.pow_le_pow_right (by decide) (by omega)
        have hp13 : 2 ^ (b.1.toNat + 1) ≤ 2 ^ 13 := Nat.pow_le_pow_right (by decide) (by omega)
        have hFl : F.length ≤ 9223372036854775807 := by omega
        have hrF : Fine b.1 F → F.length + 2 ^ (b.1.toNat + 1) ≤ 65537 := fun _ => by omega
        have hvl : v.toNat < inp.length := by omega
        obtain ⟨w, hw⟩ : ∃ w, inp.set v.toNat (!inp.getD v.toNat false) = w := ⟨_, rfl⟩
        rw [hw] at k5 k7
        have hwl : w.length = inp.length := by rw [← hw]; simp
        have hput : List.take (v.toNat * 1) (inp.map encBool) ++ [AV.bool (!inp.getD v.toNat false)] ++ List.drop (v.toNat * 1 + 1) (inp.map encBool) = w.map encBool := by
          have := put_bool inp v.toNat (!inp.getD v.toNat false) hvl
          rw [← hw]
          simpa [Abs.putAt] using this
        have c1 := fun τ => bdd_Some b f v τ hl hr1
        have c2 := fun τ => bdd_Eval b f inp τ hl hi
        have c3 := fun o τ ho => bdd_EvalV b f w o τ ho hl (by rw [hwl]; exact hi)
        have c4 := fun τ => bdd_Eval (b.1, F) n inp τ hFl hi
        have c5 := fun o τ ho => bdd_EvalV (b.1, F) n w o τ ho hFl (by rw [hwl]; exact hi)
        have c6 := fun τ => bdd_Some (b.1, F) n v τ hFl hrF
        have c7 := fun τ => ref_Same (b.1, F) (b.1, F) τ hFl hFl
        have d1 : decide (((b.1, F) : D) = (b.1, F)) = true := by simp
        rw [k1] at c1
        rw [k4] at c2
        rw [k6] at c4
        rw [k8] at c6
        rw [d1] at c7
        rw [k5, hwl] at c3
        rw [k7, hwl] at c5
        have w1 : ¬ v < 0 := by omega
        have w2 : ¬ (inp.length : Int) ≤ v := by omega
        have w3 : ¬ b.1 ≤ v := by omega
        have e3 : (n == n) = true := by simp
        have h12' : inp.length ≤ 12 := by omega
        have hfb := flat_bool inp
        have hm1 : ¬ inp.map encBool = [] := by
          intro e; have := congrArg List.length e; simp only [List.length_map, List.length_nil] at this; omega
        clear hr1 hr2 hq k1 k2 k3 k4 k5 k6 k7 k8 hfr h12 hlo hp12 hp13 hrF hw hwl d1
        obtain ⟨x, hx⟩ : ∃ x, (p || q) = x := ⟨_, rfl⟩
        rw [hx] at c4 c5
        cases p <;> cases q <;> simp only [Bool.or_self, Bool.or_true, Bool.or_false] at hx <;> subst hx
        all_goals
          repeat' (first | simp (maxDischargeDepth := 9) -implicitDefEqProofs -dsimp only [go_sem, Nat.reduceEqDiff, Nat.reduceAdd, Nat.reduceSub, Nat.reduceMul, Nat.reduceLeDiff, reduceIte, reduceCtorEq, Int.reduceEq, Int.reduceLE, Int.reduceLT, Int.reduceToNat, ge_iff_le, getD_b, List.length_nil, Nat.zero_add, flat_nil, List.nil_append, *] | simp (disch := omega) only [wrap64, tdiv2, tmod2, and1, xor1, xor_is1, shr1, shr1'] | (with_reducible (first | apply gd_td | apply gd_fd | apply br_d | apply gd_tbl | apply gd_fbl | apply br_bl | apply gd_tnl | apply gd_fnl | apply br_nl | apply gd_tb | apply gd_fb | apply br_b | apply gd_tn | apply gd_fn | apply br_n | apply gd_t | apply gd_f | apply br_split | apply ifnil_i) <;> intro hq) | ((with_reducible refine req_i ?_ ?_); focus (first | omega | exact rfl)) | ((with_reducible refine wth_map ?_ ?_); focus omega) | ((with_reducible refine fresh_i (fun oF hoF hnF hnF' => ?_)); (try simp only [upd_none, ne_eq, not_and] at hoF)) | ((with_reducible apply ACalls.one1); (focus (first | ((first | with_reducible refine law_live _ | with_reducible refine law_some b _ | with_reducible refine c1 _ | with_reducible refine c2 _ | with_reducible refine c3 _ _ ?_ | with_reducible refine c4 _ | with_reducible refine c5 _ _ ?_ | with_reducible refine c6 _ | with_reducible refine c7 _) <;> (first | (simp (maxDischargeDepth := 9) -implicitDefEqProofs -dsimp only [go_sem, Nat.reduceEqDiff, Nat.reduceAdd, Nat.reduceSub, Nat.reduceMul, Nat.reduceLeDiff, reduceIte, reduceCtorEq, Int.reduceEq, Int.reduceLE, Int.reduceLT, Int.reduceToNat, *]; done) | omega | ((with_reducible refine Sub.get hS ?_); simp (maxDischargeDepth := 9) -implicitDefEqProofs -dsimp only [go_sem, Nat.reduceEqDiff, Nat.reduceAdd, Nat.reduceSub, Nat.reduceMul, Nat.reduceLeDiff, reduceIte, reduceCtorEq, Int.reduceEq, Int.reduceLE, Int.reduceLT, Int.reduceToNat, *]; done))) | (with_reducible refine ACalls.flA (law_live _) ?_ <;> (first | (simp (maxDischargeDepth := 9) -implicitDefEqProofs -dsimp only [go_sem, Nat.reduceEqDiff, Nat.reduceAdd, Nat.reduceSub, Nat.reduceMul, Nat.reduceLeDiff, reduceIte, reduceCtorEq, Int.reduceEq, Int.reduceLE, Int.reduceLT, Int.reduceToNat, *]; done) | omega | ((with_reducible refine Sub.get hS ?_); simp (maxDischargeDepth := 9) -implicitDefEqProofs -dsimp only [go_sem, Nat.reduceEqDiff, Nat.reduceAdd, Nat.reduceSub, Nat.reduceMul, Nat.reduceLeDiff, reduceIte, reduceCtorEq, Int.reduceEq, Int.reduceLE, Int.reduceLT, Int.reduceToNat, *]; done))) | (with_reducible refine ACalls.flA (law_some b _) ?_ <;> (first | (simp (maxDischargeDepth := 9) -implicitDefEqProofs -dsimp only [go_sem, Nat.reduceEqDiff, Nat.reduceAdd, Nat.reduceSub, Nat.reduceMul, Nat.reduceLeDiff, reduceIte, reduceCtorEq, Int.reduceEq, Int.reduceLE, Int.reduceLT, Int.reduceToNat, *]; done) | omega | ((with_reducible refine Sub.get hS ?_); simp (maxDischargeDepth := 9) -implicitDefEqProofs -dsimp only [go_sem, Nat.reduceEqDiff, Nat.reduceAdd, Nat.reduceSub, Nat.reduceMul, Nat.reduceLeDiff, reduceIte, reduceCtorEq, Int.reduceEq, Int.reduceLE, Int.reduceLT, Int.reduceToNat, *]; done))) | (with_reducible refine ACalls.flA (c1 _) ?_ <;> (first | (simp (maxDischargeDepth := 9) -implicitDefEqProofs -dsimp only [go_sem, Nat.reduceEqDiff, Nat.reduceAdd, Nat.reduceSub, Nat.reduceMul, Nat.reduceLeDiff, reduceIte, reduceCtorEq, Int.reduceEq, Int.reduceLE, Int.reduceLT, Int.reduceToNat, *]; done) | omega | ((with_reducible refine Sub.get hS ?_); simp (maxDischargeDepth := 9) -implicitDefEqProofs -dsimp only [go_sem, Nat.reduceEqDiff, Nat.reduceAdd, Nat.reduceSub, Nat.reduceMul, Nat.reduceLeDiff, reduceIte, reduceCtorEq, Int.reduceEq, Int.reduceLE, Int.reduceLT, Int.reduceToNat, *]; done))) | (with_reducible refine ACalls.flA (c2 _) ?_ <;> (first | (simp (maxDischargeDepth := 9) -implicitDefEqProofs -dsimp only [go_sem, Nat.reduceEqDiff, Nat.reduceAdd, Nat.reduceSub, Nat.reduceMul, Nat.reduceLeDiff, reduceIte, reduceCtorEq, Int.reduceEq, Int.reduceLE, Int.reduceLT, Int.reduceToNat, *]; done) | omega | ((with_reducible refine Sub.get hS ?_); simp (maxDischargeDepth := 9) -implicitDefEqProofs -dsimp only [go_sem, Nat.reduceEqDiff, Nat.reduceAdd, Nat.reduceSub, Nat.reduceMul, Nat.reduceLeDiff, reduceIte, reduceCtorEq, Int.reduceEq, Int.reduceLE, Int.reduceLT, Int.reduceToNat, *]; done))) | (with_reducible refine ACalls.flA (c3 _ _ ?_) ?_ <;> (first | (simp (maxDischargeDepth := 9) -implicitDefEqProofs -dsimp only [go_sem, Nat.reduceEqDiff, Nat.reduceAdd, Nat.reduceSub, Nat.reduceMul, Nat.reduceLeDiff, reduceIte, reduceCtorEq, Int.reduceEq, Int.reduceLE, Int.reduceLT, Int.reduceToNat, *]; done) | omega | ((with_reducible refine Sub.get hS ?_); simp (maxDischargeDepth := 9) -implicitDefEqProofs -dsimp only [go_sem, Nat.reduceEqDiff, Nat.reduceAdd, Nat.reduceSub, Nat.reduceMul, Nat.reduceLeDiff, reduceIte, reduceCtorEq, Int.reduceEq, Int.reduceLE, Int.reduceLT, Int.reduceToNat, *]; done))) | (with_reducible refine ACalls.flA (c4 _) ?_ <;> (first | (simp (maxDischargeDepth := 9) -implicitDefEqProofs -dsimp only [go_sem, Nat.reduceEqDiff, Nat.reduceAdd, Nat.reduceSub, Nat.reduceMul, Nat.reduceLeDiff, reduceIte, reduceCtorEq, Int.reduceEq, Int.reduceLE, Int.reduceLT, Int.reduceToNat, *]; done) | omega | ((with_reducible refine Sub.get hS ?_); simp (maxDischargeDepth := 9) -implicitDefEqProofs -dsimp only [go_sem, Nat.reduceEqDiff, Nat.reduceAdd, Nat.reduceSub, Nat.reduceMul, Nat.reduceLeDiff, reduceIte, reduceCtorEq, Int.reduceEq, Int.reduceLE, Int.reduceLT, Int.reduceToNat, *]; done))) | (with_reducible refine ACalls.flA (c5 _ _ ?_) ?_ <;> (first | (simp (maxDischargeDepth := 9) -implicitDefEqProofs -dsimp only [go_sem, Nat.reduceEqDiff, Nat.reduceAdd, Nat.reduceSub, Nat.reduceMul, Nat.reduceLeDiff, reduceIte, reduceCtorEq, Int.reduceEq, Int.reduceLE, Int.reduceLT, Int.reduceToNat, *]; done) | omega | ((with_reducible refine Sub.get hS ?_); simp (maxDischargeDepth := 9) -implicitDefEqProofs -dsimp only [go_sem, Nat.reduceEqDiff, Nat.reduceAdd, Nat.reduceSub, Nat.reduceMul, Nat.reduceLeDiff, reduceIte, reduceCtorEq, Int.reduceEq, Int.reduceLE, Int.reduceLT, Int.reduceToNat, *]; done))) | (with_reducible refine ACalls.flA (c6 _) ?_ <;> (first | (simp (maxDischargeDepth := 9) -implicitDefEqProofs -dsimp only [go_sem, Nat.reduceEqDiff, Nat.reduceAdd, Nat.reduceSub, Nat.reduceMul, Nat.reduceLeDiff, reduceIte, reduceCtorEq, Int.reduceEq, Int.reduceLE, Int.reduceLT, Int.reduceToNat, *]; done) | omega | ((with_reducible refine Sub.get hS ?_); simp (maxDischargeDepth := 9) -implicitDefEqProofs -dsimp only [go_sem, Nat.reduceEqDiff, Nat.reduceAdd, Nat.reduceSub, Nat.reduceMul, Nat.reduceLeDiff, reduceIte, reduceCtorEq, Int.reduceEq, Int.reduceLE, Int.reduceLT, Int.reduceToNat, *]; done))) | (with_reducible refine ACalls.flA (c7 _) ?_ <;> (first | (simp (maxDischargeDepth := 9) -implicitDefEqProofs -dsimp only [go_sem, Nat.reduceEqDiff, Nat.reduceAdd, Nat.reduceSub, Nat.reduceMul, Nat.reduceLeDiff, reduceIte, reduceCtorEq, Int.reduceEq, Int.reduceLE, Int.reduceLT, Int.reduceToNat, *]; done) | omega | ((with_reducible refine Sub.get hS ?_); simp (maxDischargeDepth := 9) -implicitDefEqProofs -dsimp only [go_sem, Nat.reduceEqDiff, Nat.reduceAdd, Nat.reduceSub, Nat.reduceMul, Nat.reduceLeDiff, reduceIte, reduceCtorEq, Int.reduceEq, Int.reduceLE, Int.reduceLT, Int.reduceToNat, *]; done))))); (focus (first | trivial | with_reducible exact rfl | (simp (maxDischargeDepth := 9) -implicitDefEqProofs -dsimp only [go_sem, Nat.reduceEqDiff, Nat.reduceAdd, Nat.reduceSub, Nat.reduceMul, Nat.reduceLeDiff, reduceIte, reduceCtorEq, Int.reduceEq, Int.reduceLE, Int.reduceLT, Int.reduceToNat]; done)))) | fail)
          all_goals first | (exfalso; exact hm1 hq; done) | (refine fin_eq ?_; (repeat' (first | simp (maxDischargeDepth := 9) -implicitDefEqProofs -dsimp only [go_sem, Nat.reduceEqDiff, Nat.reduceAdd, Nat.reduceSub, Nat.reduceMul, Nat.reduceLeDiff, reduceIte, reduceCtorEq, Int.reduceEq, Int.reduceLE, Int.reduceLT, Int.reduceToNat, *] | simp (disch := omega) only [wrap64, tdiv2, tmod2, and1, xor1, xor_is1, shr1, shr1'])) <;> (repeat' refine And.intro ?_ ?_) <;> (first | omega | rfl | assumption | skip))
      · have k1 := some_err hq
        obtain ⟨e, he⟩ : ∃ e, (someW b f v).2.2 = e := ⟨_, rfl⟩
        rw [he] at hq k1
        have hb : (e != 0) = true := by simpa using hq
        clear he hr2
        repeat' (first | simp (maxDischargeDepth := 9) -implicitDefEqProofs -dsimp only [go_sem, Nat.reduceEqDiff, Nat.reduceAdd, Nat.reduceSub, Nat.reduceMul, Nat.reduceLeDiff, reduceIte, reduceCtorEq, Int.reduceEq, Int.reduceLE, Int.reduceLT, Int.reduceToNat, List.map_nil, List.length_nil, *] | simp (disch := omega) only [wrap64, tdiv2, tmod2, and1, xor1, xor_is1, shr1, shr1'] | (with_reducible (first | apply gd_td | apply gd_fd | apply br_d | apply gd_tbl | apply gd_fbl | apply br_bl | apply gd_tnl | apply gd_fnl | apply br_nl | apply gd_tb | apply gd_fb | apply br_b | apply gd_tn | apply gd_fn | apply br_n | apply gd_t | apply gd_f | apply br_split | apply ifnil_i) <;> intro hq) | ((with_reducible refine req_i ?_ ?_); focus (first | omega | exact rfl)) | ((with_reducible refine wth_map ?_ ?_); focus omega) | ((with_reducible refine fresh_i (fun oF hoF hnF hnF' => ?_)); (try simp only [upd_none, ne_eq, not_and] at hoF)) | ((with_reducible apply ACalls.one1); (focus (first | ((first | with_reducible refine law_live _ | with_reducible refine law_some b _ | with_reducible refine bdd_Some b f v _ hl hr1) <;> (first | (simp (maxDischargeDepth := 9) -implicitDefEqProofs -dsimp only [go_sem, Nat.reduceEqDiff, Nat.reduceAdd, Nat.reduceSub, Nat.reduceMul, Nat.reduceLeDiff, reduceIte, reduceCtorEq, Int.reduceEq, Int.reduceLE, Int.reduceLT, Int.reduceToNat, *]; done) | omega | ((with_reducible refine Sub.get hS ?_); simp (maxDischargeDepth := 9) -implicitDefEqProofs -dsimp only [go_sem, Nat.reduceEqDiff, Nat.reduceAdd, Nat.reduceSub, Nat.reduceMul, Nat.reduceLeDiff, reduceIte, reduceCtorEq, Int.reduceEq, Int.reduceLE, Int.reduceLT, Int.reduceToNat, *]; done))) | (with_reducible refine ACalls.flA (law_live _) ?_ <;> (first | (simp (maxDischargeDepth := 9) -implicitDefEqProofs -dsimp only [go_sem, Nat.reduceEqDiff, Nat.reduceAdd, Nat.reduceSub, Nat.reduceMul, Nat.reduceLeDiff, reduceIte, reduceCtorEq, Int.reduceEq, Int.reduceLE, Int.reduceLT, Int.reduceToNat, *]; done) | omega | ((with_reducible refine Sub.get hS ?_); simp (maxDischargeDepth := 9) -implicitDefEqProofs -dsimp only [go_sem, Nat.reduceEqDiff, Nat.reduceAdd, Nat.reduceSub, Nat.reduceMul, Nat.reduceLeDiff, reduceIte, reduceCtorEq, Int.reduceEq, Int.reduceLE, Int.reduceLT, Int.reduceToNat, *]; done))) | (with_reducible refine ACalls.flA (law_some b _) ?_ <;> (first | (simp (maxDischargeDepth := 9) -implicitDefEqProofs -dsimp only [go_sem, Nat.reduceEqDiff, Nat.reduceAdd, Nat.reduceSub, Nat.reduceMul, Nat.reduceLeDiff, reduceIte, reduceCtorEq, Int.reduceEq, Int.reduceLE, Int.reduceLT, Int.reduceToNat, *]; done) | omega | ((with_reducible refine Sub.get hS ?_); simp (maxDischargeDepth := 9) -implicitDefEqProofs -dsimp only [go_sem, Nat.reduceEqDiff, Nat.reduceAdd, Nat.reduceSub, Nat.reduceMul, Nat.reduceLeDiff, reduceIte, reduceCtorEq, Int.reduceEq, Int.reduceLE, Int.reduceLT, Int.reduceToNat, *]; done))) | (with_reducible refine ACalls.flA (bdd_Some b f v _ hl hr1) ?_ <;> (first | (simp (maxDischargeDepth := 9) -implicitDefEqProofs -dsimp only [go_sem, Nat.reduceEqDiff, Nat.reduceAdd, Nat.reduceSub, Nat.reduceMul, Nat.reduceLeDiff, reduceIte, reduceCtorEq, Int.reduceEq, Int.reduceLE, Int.reduceLT, Int.reduceToNat, *]; done) | omega | ((with_reducible refine Sub.get hS ?_); simp (maxDischargeDepth := 9) -implicitDefEqProofs -dsimp only [go_sem, Nat.reduceEqDiff, Nat.reduceAdd, Nat.reduceSub, Nat.reduceMul, Nat.reduceLeDiff, reduceIte, reduceCtorEq, Int.reduceEq, Int.reduceLE, Int.reduceLT, Int.reduceToNat, *]; done))))); (focus (first | trivial | with_reducible exact rfl | (simp (maxDischargeDepth := 9) -implicitDefEqProofs -dsimp only [go_sem, Nat.reduceEqDiff, Nat.reduceAdd, Nat.reduceSub, Nat.reduceMul, Nat.reduceLeDiff, reduceIte, reduceCtorEq, Int.reduceEq, Int.reduceLE, Int.reduceLT, Int.reduceToNat]; done)))) | fail)
        refine fin_eq ?_
        (repeat' (first | simp (maxDischargeDepth := 9) -implicitDefEqProofs -dsimp only [go_sem, Nat.reduceEqDiff, Nat.reduceAdd, Nat.reduceSub, Nat.reduceMul, Nat.reduceLeDiff, reduceIte, reduceCtorEq, Int.reduceEq, Int.reduceLE, Int.reduceLT, Int.reduceToNat, *] | simp (disch := omega) only [wrap64, tdiv2, tmod2, and1, xor1, xor_is1, shr1, shr1'])) <;> (repeat' refine And.intro ?_ ?_) <;> (first | omega | rfl | assumption | skip)
    · have hlb : ((inp.length : Int) != b.1) = true := by simpa using hlen
      repeat' (first | simp (maxDischargeDepth := 9) -implicitDefEqProofs -dsimp only [go_sem, Nat.reduceEqDiff, Nat.reduceAdd, Nat.reduceSub, Nat.reduceMul, Nat.reduceLeDiff, reduceIte, reduceCtorEq, Int.reduceEq, Int.reduceLE, Int.reduceLT, Int.reduceToNat, *] | simp (disch := omega) only [wrap64, tdiv2, tmod2, and1, xor1, xor_is1, shr1, shr1'] | (with_reducible (first | apply gd_td | apply gd_fd | apply br_d | apply gd_tbl | apply gd_fbl | apply br_bl | apply gd_tnl | apply gd_fnl | apply br_nl | apply gd_tb | apply gd_fb | apply br_b | apply gd_tn | apply gd_fn | apply br_n | apply gd_t | apply gd_f | apply br_split | apply ifnil_i) <;> intro hq) | ((with_reducible refine req_i ?_ ?_); focus (first | omega | exact rfl)) | ((with_reducible refine wth_map ?_ ?_); focus omega) | ((with_reducible refine fresh_i (fun oF hoF hnF hnF' => ?_)); (try simp only [upd_none, ne_eq, not_and] at hoF)) | ((with_reducible apply ACalls.one1); (focus (first | ((first | with_reducible refine law_live _ | with_reducible refine law_some b _) <;> (first | (simp (maxDischargeDepth := 9) -implicitDefEqProofs -dsimp only [go_sem, Nat.reduceEqDiff, Nat.reduceAdd, Nat.reduceSub, Nat.reduceMul, Nat.reduceLeDiff, reduceIte, reduceCtorEq, Int.reduceEq, Int.reduceLE, Int.reduceLT, Int.reduceToNat, *]; done) | omega | ((with_reducible refine Sub.get hS ?_); simp (maxDischargeDepth := 9) -implicitDefEqProofs -dsimp only [go_sem, Nat.reduceEqDiff, Nat.reduceAdd, Nat.reduceSub, Nat.reduceMul, Nat.reduceLeDiff, reduceIte, reduceCtorEq, Int.reduceEq, Int.reduceLE, Int.reduceLT, Int.reduceToNat, *]; done))) | (with_reducible refine ACalls.flA (law_live _) ?_ <;> (first | (simp (maxDischargeDepth := 9) -implicitDefEqProofs -dsimp only [go_sem, Nat.reduceEqDiff, Nat.reduceAdd, Nat.reduceSub, Nat.reduceMul, Nat.reduceLeDiff, reduceIte, reduceCtorEq, Int.reduceEq, Int.reduceLE, Int.reduceLT, Int.reduceToNat, *]; done) | omega | ((with_reducible refine Sub.get hS ?_); simp (maxDischargeDepth := 9) -implicitDefEqProofs -dsimp only [go_sem, Nat.reduceEqDiff, Nat.reduceAdd, Nat.reduceSub, Nat.reduceMul, Nat.reduceLeDiff, reduceIte, reduceCtorEq, Int.reduceEq, Int.reduceLE, Int.reduceLT, Int.reduceToNat, *]; done))) | (with_reducible refine ACalls.flA (law_some b _) ?_ <;> (first | (simp (maxDischargeDepth := 9) -implicitDefEqProofs -dsimp only [go_sem, Nat.reduceEqDiff, Nat.reduceAdd, Nat.reduceSub, Nat.reduceMul, Nat.reduceLeDiff, reduceIte, reduceCtorEq, Int.reduceEq, Int.reduceLE, Int.reduceLT, Int.reduceToNat, *]; done) | omega | ((with_reducible refine Sub.get hS ?_); simp (maxDischargeDepth := 9) -implicitDefEqProofs -dsimp only [go_sem, Nat.reduceEqDiff, Nat.reduceAdd, Nat.reduceSub, Nat.reduceMul, Nat.reduceLeDiff, reduceIte, reduceCtorEq, Int.reduceEq, Int.reduceLE, Int.reduceLT, Int.reduceToNat, *]; done))))); (focus (first | trivial | with_reducible exact rfl | (simp (maxDischargeDepth := 9) -implicitDefEqProofs -dsimp only [go_sem, Nat.reduceEqDiff, Nat.reduceAdd, Nat.reduceSub, Nat.reduceMul, Nat.reduceLeDiff, reduceIte, reduceCtorEq, Int.reduceEq, Int.reduceLE, Int.reduceLT, Int.reduceToNat]; done)))) | fail)
      refine fin_eq ?_
      (repeat' (first | simp (maxDischargeDepth := 9) -implicitDefEqProofs -dsimp only [go_sem, Nat.reduceEqDiff, Nat.reduceAdd, Nat.reduceSub, Nat.reduceMul, Nat.reduceLeDiff, reduceIte, reduceCtorEq, Int.reduceEq, Int.reduceLE, Int.reduceLT, Int.reduceToNat, *] | simp (disch := omega) only [wrap64, tdiv2, tmod2, and1, xor1, xor_is1, shr1, shr1'])) <;> (repeat' refine And.intro ?_ ?_) <;> (first | omega | rfl | assumption | skip)

end Go.Proofs.Yteabanjbgpplmaa
