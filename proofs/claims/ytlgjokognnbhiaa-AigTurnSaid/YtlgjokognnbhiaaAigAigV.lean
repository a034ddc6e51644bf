/- aig: AigTurn on abstract values. -/
-- LIGHT
import Derived.Test.YtlgjokognnbhiaaAigAigX
import Derived.Test.YtlgjokognnbhiaaAigAigL
import Derived.Test.YtlgjokognnbhiaaAigAigG
set_option linter.unusedSimpArgs false
set_option linter.unusedVariables false
namespace Go.Proofs.Ytlgjokognnbhiaa
open Abs Fil

set_option maxRecDepth 8000 in
set_option maxHeartbeats 2000000 in
theorem turn_pos (g : Aig) (c a b : Int) (inp st : List Bool) (σ : Sig) (hw : Wf g) (hd : decide (g.ins ≤ 200 ∧ g.flops.length ≤ 200 ∧ g.ands.length ≤ 1000 ∧ g.outs.length ≤ 200) = true) (hall : (g.Or a b).2.2 = 0 ∧ (g.And (turn a) (turn b)).2.2 = 0 ∧ (g.Xor a b).2.2 = 0 ∧ (g.Xor (turn a) b).2.2 = 0 ∧ (g.Mux c a b).2.2 = 0 ∧ (g.Mux (turn c) b a).2.2 = 0 ∧ (inp.length : Int) = g.ins ∧ st.length = g.flops.length) (hc : I64 c) (ha : I64 a) (hb : I64 b) :
    ACalls Try.prog 12 [encAig g, .int .i64 c, .int .i64 a, .int .i64 b, .slice (inp.map encBool) .no, .slice (st.map encBool) .no] σ (fun r σ' => r = .ret (.bool true) ∧ σ' = σ) := by
  refine calls_x mixed Try.func12 b12 n12 rfl q12 (by simp) ?_; unfold c12 r12
  obtain ⟨ha1, ha2⟩ := id ha
  obtain ⟨hb1, hb2⟩ := id hb
  obtain ⟨hc1, hc2⟩ := id hc
  have hta := turn_I64 ha
  have htb := turn_I64 hb
  have htc := turn_I64 hc
  have e1 := fun h => (or_res hw a b).check hw h
  have e2 := fun h => (and_res hw (turn a) (turn b)).check hw h
  have e3 := fun h => (xor_res hw a b).check hw h
  have e4 := fun h => (xor_res hw (turn a) b).check hw h
  have e5 := fun h => (mux_res hw c a b).check hw h
  have e6 := fun h => (mux_res hw (turn c) b a).check hw h
  have t1 := fun h h' => or_turn hw (a := a) (b := b) h h'
  have v3 := fun l1 l2 h => xor_val hw (a := a) (b := b) (inp := inp) (st := st) l1 l2 h
  have v4 := fun l1 l2 h => xor_val hw (a := turn a) (b := b) (inp := inp) (st := st) l1 l2 h
  have v5 := fun l1 l2 h => mux_val hw (c := c) (a := a) (b := b) (inp := inp) (st := st) l1 l2 h
  have v6 := fun l1 l2 h => mux_val hw (c := turn c) (a := b) (b := a) (inp := inp) (st := st) l1 l2 h
  obtain ⟨⟨h, x, e⟩, r1⟩ : ∃ r, g.Or a b = r := ⟨_, rfl⟩
  obtain ⟨⟨i, y, f⟩, r2⟩ : ∃ r, g.And (turn a) (turn b) = r := ⟨_, rfl⟩
  obtain ⟨⟨j, z, k⟩, r3⟩ : ∃ r, g.Xor a b = r := ⟨_, rfl⟩
  obtain ⟨⟨l, w, m⟩, r4⟩ : ∃ r, g.Xor (turn a) b = r := ⟨_, rfl⟩
  obtain ⟨⟨n, p, o⟩, r5⟩ : ∃ r, g.Mux c a b = r := ⟨_, rfl⟩
  obtain ⟨⟨q, r, s⟩, r6⟩ : ∃ r, g.Mux (turn c) b a = r := ⟨_, rfl⟩
  rw [r1] at e1 t1
  rw [r2] at e2 t1
  rw [r3] at e3 v3
  rw [r4] at e4 v4
  rw [r5] at e5 v5
  rw [r6] at e6 v6
  simp only at e1 e2 e3 e4 e5 e6 t1 v3 v4 v5 v6
  rw [r1, r2, r3, r4, r5, r6] at hall
  simp only at hall
  obtain ⟨rfl, rfl, rfl, rfl, rfl, rfl, l1, l2⟩ := hall
  have t1v := t1 rfl rfl
  have w3v := v3 l1 l2 rfl
  have w4v := v4 l1 l2 rfl
  have w5v := v5 l1 l2 rfl
  have w6v := v6 l1 l2 rfl
  obtain ⟨c3, f3, x3, p3, _, g3, _⟩ := e3 rfl
  obtain ⟨c4, f4, x4, p4, _, _, _⟩ := e4 rfl
  obtain ⟨c5, f5, x5, p5, _, g5, _⟩ := e5 rfl
  obtain ⟨c6, f6, x6, p6, _, _, _⟩ := e6 rfl
  obtain ⟨_, f1, _, _, _, _, _⟩ := e1 rfl
  have ga : 0 ≤ a := (litN_iff.1 (g3 a (by simp))).1
  have gc : 0 ≤ c := (litN_iff.1 (g5 c (by simp))).1
  have va : g.value (turn a) inp st = !g.value a inp st := val_turn ga
  have vc : g.value (turn c) inp st = !g.value c inp st := val_turn gc
  have u1 : (j.value z inp st != l.value w inp st) = true := by rw [w3v, w4v, va]; cases g.value a inp st <;> cases g.value b inp st <;> rfl
  have u2 : (n.value p inp st == q.value r inp st) = true := by rw [w5v, w6v, vc]; cases g.value a inp st <;> cases g.value b inp st <;> cases g.value c inp st <;> rfl
  have n1 := f1.flops
  have n2 := f1.ands
  have n3 := f1.outs
  clear t1
  obtain ⟨rfl, rfl⟩ := t1v
  have w3 := f3.toWf
  have w4 := f4.toWf
  have w5 := f5.toWf
  have w6 := f6.toWf
  have i3 : (inp.length : Int) = j.ins := by rw [x3.ins]; exact l1
  have i4 : (inp.length : Int) = l.ins := by rw [x4.ins]; exact l1
  have i5 : (inp.length : Int) = n.ins := by rw [x5.ins]; exact l1
  have i6 : (inp.length : Int) = q.ins := by rw [x6.ins]; exact l1
  have s3 : st.length = j.flops.length := by rw [x3.flops]; exact l2
  have s4 : st.length = l.flops.length := by rw [x4.flops]; exact l2
  have s5 : st.length = n.flops.length := by rw [x5.flops]; exact l2
  have s6 : st.length = q.flops.length := by rw [x6.flops]; exact l2
  have y2 : I64 y := ((and_res hw (turn a) (turn b)).wf).2 |> fun h => by rw [r2] at h; exact h
  obtain ⟨y3, y4⟩ := y2
  clear e1 e2 e3 e4 e5 e6 v3 v4 v5 v6 w3v w4v w5v w6v va vc g3 g5 f3 f4 f5 f6 f1 x3 x4 x5 x6
  have ez : ((0 : Int) != 0) = false := by decide
  have V3 := fun σ => law_value j z inp st σ w3 c3 i3 s3 p3
  have V4 := fun σ => law_value l w inp st σ w4 c4 i4 s4 p4
  have V5 := fun σ => law_value n p inp st σ w5 c5 i5 s5 p5
  have V6 := fun σ => law_value q r inp st σ w6 c6 i6 s6 p6
  clear i3 i4 i5 i6 s3 s4 s5 s6 p3 p4 p5 p6
  generalize j.value z inp st = b3 at *
  generalize l.value w inp st = b4 at *
  generalize n.value p inp st = b5 at *
  generalize q.value r inp st = b6 at *
  repeat' (first | simp (maxDischargeDepth := 9) -implicitDefEqProofs -dsimp only [go_sem, Nat.reduceEqDiff, Nat.reduceAdd, Nat.reduceSub, Nat.reduceMul, Nat.reduceLeDiff, reduceIte, reduceCtorEq, Int.reduceEq, Int.reduceLE, Int.reduceLT, Int.reduceToNat, *] | simp (disch := omega) only [wrap64, tdiv2, tmod2, and1, xor1, xor_is1, shr1, shr1'] | (with_reducible (first | apply gd_td | apply gd_fd | apply br_d | apply gd_tbl | apply gd_fbl | apply br_bl | apply gd_tnl | apply gd_fnl | apply br_nl | apply gd_tb | apply gd_fb | apply br_b | apply gd_tn | apply gd_fn | apply br_n | apply gd_t | apply gd_f | apply br_split | apply ifnil_i) <;> intro hq) | ((with_reducible refine req_i ?_ ?_); focus (first | omega | exact rfl)) | ((with_reducible refine wth_map ?_ ?_); focus omega) | ((with_reducible refine fresh_i (fun oF hoF hnF hnF' => ?_)); clear hnF hnF'; (try simp only [upd_none_s, ne_eq] at hoF)) | ((with_reducible first | apply ACalls.one1 | apply id_one); (focus (first | ((first | with_reducible refine law_live _ | with_reducible refine ref_Few g _ | with_reducible refine aig_Or g a b _ hw ha hb | with_reducible refine aig_And g (turn a) (turn b) _ hw hta htb | with_reducible refine aig_Xor g a b _ hw ha hb | with_reducible refine aig_Xor g (turn a) b _ hw hta hb | with_reducible refine aig_Mux g c a b _ hw hc ha hb | with_reducible refine aig_Mux g (turn c) b a _ hw htc hb ha | with_reducible refine ref_Same h h _ n1 n2 n3 | with_reducible refine V3 _ | with_reducible refine V4 _ | with_reducible refine V5 _ | with_reducible refine V6 _) <;> (first | (simp (maxDischargeDepth := 9) -implicitDefEqProofs -dsimp only [go_sem, Nat.reduceEqDiff, Nat.reduceAdd, Nat.reduceSub, Nat.reduceMul, Nat.reduceLeDiff, reduceIte, reduceCtorEq, Int.reduceEq, Int.reduceLE, Int.reduceLT, Int.reduceToNat, *]; done) | omega)) | (with_reducible refine ACalls.flA (law_live _) ?_ <;> (first | (simp (maxDischargeDepth := 9) -implicitDefEqProofs -dsimp only [go_sem, Nat.reduceEqDiff, Nat.reduceAdd, Nat.reduceSub, Nat.reduceMul, Nat.reduceLeDiff, reduceIte, reduceCtorEq, Int.reduceEq, Int.reduceLE, Int.reduceLT, Int.reduceToNat, *]; done) | omega)) | (with_reducible refine ACalls.flA (ref_Few g _) ?_ <;> (first | (simp (maxDischargeDepth := 9) -implicitDefEqProofs -dsimp only [go_sem, Nat.reduceEqDiff, Nat.reduceAdd, Nat.reduceSub, Nat.reduceMul, Nat.reduceLeDiff, reduceIte, reduceCtorEq, Int.reduceEq, Int.reduceLE, Int.reduceLT, Int.reduceToNat, *]; done) | omega)) | (with_reducible refine ACalls.flA (aig_Or g a b _ hw ha hb) ?_ <;> (first | (simp (maxDischargeDepth := 9) -implicitDefEqProofs -dsimp only [go_sem, Nat.reduceEqDiff, Nat.reduceAdd, Nat.reduceSub, Nat.reduceMul, Nat.reduceLeDiff, reduceIte, reduceCtorEq, Int.reduceEq, Int.reduceLE, Int.reduceLT, Int.reduceToNat, *]; done) | omega)) | (with_reducible refine ACalls.flA (aig_And g (turn a) (turn b) _ hw hta htb) ?_ <;> (first | (simp (maxDischargeDepth := 9) -implicitDefEqProofs -dsimp only [go_sem, Nat.reduceEqDiff, Nat.reduceAdd, Nat.reduceSub, Nat.reduceMul, Nat.reduceLeDiff, reduceIte, reduceCtorEq, Int.reduceEq, Int.reduceLE, Int.reduceLT, Int.reduceToNat, *]; done) | omega)) | (with_reducible refine ACalls.flA (aig_Xor g a b _ hw ha hb) ?_ <;> (first | (simp (maxDischargeDepth := 9) -implicitDefEqProofs -dsimp only [go_sem, Nat.reduceEqDiff, Nat.reduceAdd, Nat.reduceSub, Nat.reduceMul, Nat.reduceLeDiff, reduceIte, reduceCtorEq, Int.reduceEq, Int.reduceLE, Int.reduceLT, Int.reduceToNat, *]; done) | omega)) | (with_reducible refine ACalls.flA (aig_Xor g (turn a) b _ hw hta hb) ?_ <;> (first | (simp (maxDischargeDepth := 9) -implicitDefEqProofs -dsimp only [go_sem, Nat.reduceEqDiff, Nat.reduceAdd, Nat.reduceSub, Nat.reduceMul, Nat.reduceLeDiff, reduceIte, reduceCtorEq, Int.reduceEq, Int.reduceLE, Int.reduceLT, Int.reduceToNat, *]; done) | omega)) | (with_reducible refine ACalls.flA (aig_Mux g c a b _ hw hc ha hb) ?_ <;> (first | (simp (maxDischargeDepth := 9) -implicitDefEqProofs -dsimp only [go_sem, Nat.reduceEqDiff, Nat.reduceAdd, Nat.reduceSub, Nat.reduceMul, Nat.reduceLeDiff, reduceIte, reduceCtorEq, Int.reduceEq, Int.reduceLE, Int.reduceLT, Int.reduceToNat, *]; done) | omega)) | (with_reducible refine ACalls.flA (aig_Mux g (turn c) b a _ hw htc hb ha) ?_ <;> (first | (simp (maxDischargeDepth := 9) -implicitDefEqProofs -dsimp only [go_sem, Nat.reduceEqDiff, Nat.reduceAdd, Nat.reduceSub, Nat.reduceMul, Nat.reduceLeDiff, reduceIte, reduceCtorEq, Int.reduceEq, Int.reduceLE, Int.reduceLT, Int.reduceToNat, *]; done) | omega)) | (with_reducible refine ACalls.flA (ref_Same h h _ n1 n2 n3) ?_ <;> (first | (simp (maxDischargeDepth := 9) -implicitDefEqProofs -dsimp only [go_sem, Nat.reduceEqDiff, Nat.reduceAdd, Nat.reduceSub, Nat.reduceMul, Nat.reduceLeDiff, reduceIte, reduceCtorEq, Int.reduceEq, Int.reduceLE, Int.reduceLT, Int.reduceToNat, *]; done) | omega)) | (with_reducible refine ACalls.flA (V3 _) ?_ <;> (first | (simp (maxDischargeDepth := 9) -implicitDefEqProofs -dsimp only [go_sem, Nat.reduceEqDiff, Nat.reduceAdd, Nat.reduceSub, Nat.reduceMul, Nat.reduceLeDiff, reduceIte, reduceCtorEq, Int.reduceEq, Int.reduceLE, Int.reduceLT, Int.reduceToNat, *]; done) | omega)) | (with_reducible refine ACalls.flA (V4 _) ?_ <;> (first | (simp (maxDischargeDepth := 9) -implicitDefEqProofs -dsimp only [go_sem, Nat.reduceEqDiff, Nat.reduceAdd, Nat.reduceSub, Nat.reduceMul, Nat.reduceLeDiff, reduceIte, reduceCtorEq, Int.reduceEq, Int.reduceLE, Int.reduceLT, Int.reduceToNat, *]; done) | omega)) | (with_reducible refine ACalls.flA (V5 _) ?_ <;> (first | (simp (maxDischargeDepth := 9) -implicitDefEqProofs -dsimp only [go_sem, Nat.reduceEqDiff, Nat.reduceAdd, Nat.reduceSub, Nat.reduceMul, Nat.reduceLeDiff, reduceIte, reduceCtorEq, Int.reduceEq, Int.reduceLE, Int.reduceLT, Int.reduceToNat, *]; done) | omega)) | (with_reducible refine ACalls.flA (V6 _) ?_ <;> (first | (simp (maxDischargeDepth := 9) -implicitDefEqProofs -dsimp only [go_sem, Nat.reduceEqDiff, Nat.reduceAdd, Nat.reduceSub, Nat.reduceMul, Nat.reduceLeDiff, reduceIte, reduceCtorEq, Int.reduceEq, Int.reduceLE, Int.reduceLT, Int.reduceToNat, *]; done) | omega)))); (focus (first | trivial | with_reducible exact rfl | (simp (maxDischargeDepth := 9) -implicitDefEqProofs -dsimp only [go_sem, Nat.reduceEqDiff, Nat.reduceAdd, Nat.reduceSub, Nat.reduceMul, Nat.reduceLeDiff, reduceIte, reduceCtorEq, Int.reduceEq, Int.reduceLE, Int.reduceLT, Int.reduceToNat]; done)))) | fail)
  all_goals first | (exfalso; omega) | (refine fin_eq ?_; ((repeat' (first | simp (maxDischargeDepth := 9) -implicitDefEqProofs -dsimp only [go_sem, Nat.reduceEqDiff, Nat.reduceAdd, Nat.reduceSub, Nat.reduceMul, Nat.reduceLeDiff, reduceIte, reduceCtorEq, Int.reduceEq, Int.reduceLE, Int.reduceLT, Int.reduceToNat, *] | simp (disch := omega) only [wrap64, tdiv2, tmod2, and1, xor1, xor_is1, shr1, shr1'])) <;> (repeat' refine And.intro ?_ ?_) <;> (first | omega | rfl | assumption | skip)); all_goals (revert hq u1 u2; cases b3 <;> cases b4 <;> cases b5 <;> cases b6 <;> decide))

set_option maxRecDepth 8000 in
set_option maxHeartbeats 2000000 in
theorem turn_out0 (g : Aig) (c a b : Int) (inp st : List Bool) (σ : Sig) (hw : Wf g) (hd : decide (g.ins ≤ 200 ∧ g.flops.length ≤ 200 ∧ g.ands.length ≤ 1000 ∧ g.outs.length ≤ 200) = true)  (h0 : ¬ (g.Or a b).2.2 = 0) (hc : I64 c) (ha : I64 a) (hb : I64 b) :
    ACalls Try.prog 12 [encAig g, .int .i64 c, .int .i64 a, .int .i64 b, .slice (inp.map encBool) .no, .slice (st.map encBool) .no] σ (fun r σ' => r = .ret (.bool true) ∧ σ' = σ) := by
  refine calls_x mixed Try.func12 b12 n12 rfl q12 (by simp) ?_; unfold c12 r12
  obtain ⟨ha1, ha2⟩ := id ha
  obtain ⟨hb1, hb2⟩ := id hb
  obtain ⟨hc1, hc2⟩ := id hc
  have hta := turn_I64 ha
  have htb := turn_I64 hb
  have htc := turn_I64 hc
  obtain ⟨⟨h, x, e⟩, r1⟩ : ∃ r, g.Or a b = r := ⟨_, rfl⟩
  obtain ⟨⟨i, y, f⟩, r2⟩ : ∃ r, g.And (turn a) (turn b) = r := ⟨_, rfl⟩
  obtain ⟨⟨j, z, k⟩, r3⟩ : ∃ r, g.Xor a b = r := ⟨_, rfl⟩
  obtain ⟨⟨l, w, m⟩, r4⟩ : ∃ r, g.Xor (turn a) b = r := ⟨_, rfl⟩
  obtain ⟨⟨n, p, o⟩, r5⟩ : ∃ r, g.Mux c a b = r := ⟨_, rfl⟩
  obtain ⟨⟨q, r, s⟩, r6⟩ : ∃ r, g.Mux (turn c) b a = r := ⟨_, rfl⟩
  have ez : ((0 : Int) != 0) = false := by decide
  rw [r1] at h0
  have hn : (e != 0) = true := by simpa using h0
  repeat' (first | simp (maxDischargeDepth := 9) -implicitDefEqProofs -dsimp only [go_sem, Nat.reduceEqDiff, Nat.reduceAdd, Nat.reduceSub, Nat.reduceMul, Nat.reduceLeDiff, reduceIte, reduceCtorEq, Int.reduceEq, Int.reduceLE, Int.reduceLT, Int.reduceToNat, *] | simp (disch := omega) only [wrap64, tdiv2, tmod2, and1, xor1, xor_is1, shr1, shr1'] | (with_reducible (first | apply gd_td | apply gd_fd | apply br_d | apply gd_tbl | apply gd_fbl | apply br_bl | apply gd_tnl | apply gd_fnl | apply br_nl | apply gd_tb | apply gd_fb | apply br_b | apply gd_tn | apply gd_fn | apply br_n | apply gd_t | apply gd_f | apply br_split | apply ifnil_i) <;> intro hq) | ((with_reducible refine req_i ?_ ?_); focus (first | omega | exact rfl)) | ((with_reducible refine wth_map ?_ ?_); focus omega) | ((with_reducible refine fresh_i (fun oF hoF hnF hnF' => ?_)); clear hnF hnF'; (try simp only [upd_none_s, ne_eq] at hoF)) | ((with_reducible first | apply ACalls.one1 | apply id_one); (focus (first | ((first | with_reducible refine law_live _ | with_reducible refine ref_Few g _ | with_reducible refine aig_Or g a b _ hw ha hb | with_reducible refine aig_And g (turn a) (turn b) _ hw hta htb | with_reducible refine aig_Xor g a b _ hw ha hb | with_reducible refine aig_Xor g (turn a) b _ hw hta hb | with_reducible refine aig_Mux g c a b _ hw hc ha hb | with_reducible refine aig_Mux g (turn c) b a _ hw htc hb ha) <;> (first | (simp (maxDischargeDepth := 9) -implicitDefEqProofs -dsimp only [go_sem, Nat.reduceEqDiff, Nat.reduceAdd, Nat.reduceSub, Nat.reduceMul, Nat.reduceLeDiff, reduceIte, reduceCtorEq, Int.reduceEq, Int.reduceLE, Int.reduceLT, Int.reduceToNat, *]; done) | omega)) | (with_reducible refine ACalls.flA (law_live _) ?_ <;> (first | (simp (maxDischargeDepth := 9) -implicitDefEqProofs -dsimp only [go_sem, Nat.reduceEqDiff, Nat.reduceAdd, Nat.reduceSub, Nat.reduceMul, Nat.reduceLeDiff, reduceIte, reduceCtorEq, Int.reduceEq, Int.reduceLE, Int.reduceLT, Int.reduceToNat, *]; done) | omega)) | (with_reducible refine ACalls.flA (ref_Few g _) ?_ <;> (first | (simp (maxDischargeDepth := 9) -implicitDefEqProofs -dsimp only [go_sem, Nat.reduceEqDiff, Nat.reduceAdd, Nat.reduceSub, Nat.reduceMul, Nat.reduceLeDiff, reduceIte, reduceCtorEq, Int.reduceEq, Int.reduceLE, Int.reduceLT, Int.reduceToNat, *]; done) | omega)) | (with_reducible refine ACalls.flA (aig_Or g a b _ hw ha hb) ?_ <;> (first | (simp (maxDischargeDepth := 9) -implicitDefEqProofs -dsimp only [go_sem, Nat.reduceEqDiff, Nat.reduceAdd, Nat.reduceSub, Nat.reduceMul, Nat.reduceLeDiff, reduceIte, reduceCtorEq, Int.reduceEq, Int.reduceLE, Int.reduceLT, Int.reduceToNat, *]; done) | omega)) | (with_reducible refine ACalls.flA (aig_And g (turn a) (turn b) _ hw hta htb) ?_ <;> (first | (simp (maxDischargeDepth := 9) -implicitDefEqProofs -dsimp only [go_sem, Nat.reduceEqDiff, Nat.reduceAdd, Nat.reduceSub, Nat.reduceMul, Nat.reduceLeDiff, reduceIte, reduceCtorEq, Int.reduceEq, Int.reduceLE, Int.reduceLT, Int.reduceToNat, *]; done) | omega)) | (with_reducible refine ACalls.flA (aig_Xor g a b _ hw ha hb) ?_ <;> (first | (simp (maxDischargeDepth := 9) -implicitDefEqProofs -dsimp only [go_sem, Nat.reduceEqDiff, Nat.reduceAdd, Nat.reduceSub, Nat.reduceMul, Nat.reduceLeDiff, reduceIte, reduceCtorEq, Int.reduceEq, Int.reduceLE, Int.reduceLT, Int.reduceToNat, *]; done) | omega)) | (with_reducible refine ACalls.flA (aig_Xor g (turn a) b _ hw hta hb) ?_ <;> (first | (simp (maxDischargeDepth := 9) -implicitDefEqProofs -dsimp only [go_sem, Nat.reduceEqDiff, Nat.reduceAdd, Nat.reduceSub, Nat.reduceMul, Nat.reduceLeDiff, reduceIte, reduceCtorEq, Int.reduceEq, Int.reduceLE, Int.reduceLT, Int.reduceToNat, *]; done) | omega)) | (with_reducible refine ACalls.flA (aig_Mux g c a b _ hw hc ha hb) ?_ <;> (first | (simp (maxDischargeDepth := 9) -implicitDefEqProofs -dsimp only [go_sem, Nat.reduceEqDiff, Nat.reduceAdd, Nat.reduceSub, Nat.reduceMul, Nat.reduceLeDiff, reduceIte, reduceCtorEq, Int.reduceEq, Int.reduceLE, Int.reduceLT, Int.reduceToNat, *]; done) | omega)) | (with_reducible refine ACalls.flA (aig_Mux g (turn c) b a _ hw htc hb ha) ?_ <;> (first | (simp (maxDischargeDepth := 9) -implicitDefEqProofs -dsimp only [go_sem, Nat.reduceEqDiff, Nat.reduceAdd, Nat.reduceSub, Nat.reduceMul, Nat.reduceLeDiff, reduceIte, reduceCtorEq, Int.reduceEq, Int.reduceLE, Int.reduceLT, Int.reduceToNat, *]; done) | omega)))); (focus (first | trivial | with_reducible exact rfl | (simp (maxDischargeDepth := 9) -implicitDefEqProofs -dsimp only [go_sem, Nat.reduceEqDiff, Nat.reduceAdd, Nat.reduceSub, Nat.reduceMul, Nat.reduceLeDiff, reduceIte, reduceCtorEq, Int.reduceEq, Int.reduceLE, Int.reduceLT, Int.reduceToNat]; done)))) | fail)
  all_goals first | (exfalso; omega) | (refine fin_eq ?_; (repeat' (first | simp (maxDischargeDepth := 9) -implicitDefEqProofs -dsimp only [go_sem, Nat.reduceEqDiff, Nat.reduceAdd, Nat.reduceSub, Nat.reduceMul, Nat.reduceLeDiff, reduceIte, reduceCtorEq, Int.reduceEq, Int.reduceLE, Int.reduceLT, Int.reduceToNat, *] | simp (disch := omega) only [wrap64, tdiv2, tmod2, and1, xor1, xor_is1, shr1, shr1'])) <;> (repeat' refine And.intro ?_ ?_) <;> (first | omega | rfl | assumption | skip))

set_option maxRecDepth 8000 in
set_option maxHeartbeats 2000000 in
theorem turn_out1 (g : Aig) (c a b : Int) (inp st : List Bool) (σ : Sig) (hw : Wf g) (hd : decide (g.ins ≤ 200 ∧ g.flops.length ≤ 200 ∧ g.ands.length ≤ 1000 ∧ g.outs.length ≤ 200) = true) (h0 : (g.Or a b).2.2 = 0) (h1 : ¬ (g.And (turn a) (turn b)).2.2 = 0) (hc : I64 c) (ha : I64 a) (hb : I64 b) :
    ACalls Try.prog 12 [encAig g, .int .i64 c, .int .i64 a, .int .i64 b, .slice (inp.map encBool) .no, .slice (st.map encBool) .no] σ (fun r σ' => r = .ret (.bool true) ∧ σ' = σ) := by
  refine calls_x mixed Try.func12 b12 n12 rfl q12 (by simp) ?_; unfold c12 r12
  obtain ⟨ha1, ha2⟩ := id ha
  obtain ⟨hb1, hb2⟩ := id hb
  obtain ⟨hc1, hc2⟩ := id hc
  have hta := turn_I64 ha
  have htb := turn_I64 hb
  have htc := turn_I64 hc
  obtain ⟨⟨h, x, e⟩, r1⟩ : ∃ r, g.Or a b = r := ⟨_, rfl⟩
  obtain ⟨⟨i, y, f⟩, r2⟩ : ∃ r, g.And (turn a) (turn b) = r := ⟨_, rfl⟩
  obtain ⟨⟨j, z, k⟩, r3⟩ : ∃ r, g.Xor a b = r := ⟨_, rfl⟩
  obtain ⟨⟨l, w, m⟩, r4⟩ : ∃ r, g.Xor (turn a) b = r := ⟨_, rfl⟩
  obtain ⟨⟨n, p, o⟩, r5⟩ : ∃ r, g.Mux c a b = r := ⟨_, rfl⟩
  obtain ⟨⟨q, r, s⟩, r6⟩ : ∃ r, g.Mux (turn c) b a = r := ⟨_, rfl⟩
  rw [r1] at h0
  simp only at h0
  subst h0
  have ez : ((0 : Int) != 0) = false := by decide
  rw [r2] at h1
  have hn : (f != 0) = true := by simpa using h1
  repeat' (first | simp (maxDischargeDepth := 9) -implicitDefEqProofs -dsimp only [go_sem, Nat.reduceEqDiff, Nat.reduceAdd, Nat.reduceSub, Nat.reduceMul, Nat.reduceLeDiff, reduceIte, reduceCtorEq, Int.reduceEq, Int.reduceLE, Int.reduceLT, Int.reduceToNat, *] | simp (disch := omega) only [wrap64, tdiv2, tmod2, and1, xor1, xor_is1, shr1, shr1'] | (with_reducible (first | apply gd_td | apply gd_fd | apply br_d | apply gd_tbl | apply gd_fbl | apply br_bl | apply gd_tnl | apply gd_fnl | apply br_nl | apply gd_tb | apply gd_fb | apply br_b | apply gd_tn | apply gd_fn | apply br_n | apply gd_t | apply gd_f | apply br_split | apply ifnil_i) <;> intro hq) | ((with_reducible refine req_i ?_ ?_); focus (first | omega | exact rfl)) | ((with_reducible refine wth_map ?_ ?_); focus omega) | ((with_reducible refine fresh_i (fun oF hoF hnF hnF' => ?_)); clear hnF hnF'; (try simp only [upd_none_s, ne_eq] at hoF)) | ((with_reducible first | apply ACalls.one1 | apply id_one); (focus (first | ((first | with_reducible refine law_live _ | with_reducible refine ref_Few g _ | with_reducible refine aig_Or g a b _ hw ha hb | with_reducible refine aig_And g (turn a) (turn b) _ hw hta htb | with_reducible refine aig_Xor g a b _ hw ha hb | with_reducible refine aig_Xor g (turn a) b _ hw hta hb | with_reducible refine aig_Mux g c a b _ hw hc ha hb | with_reducible refine aig_Mux g (turn c) b a _ hw htc hb ha) <;> (first | (simp (maxDischargeDepth := 9) -implicitDefEqProofs -dsimp only [go_sem, Nat.reduceEqDiff, Nat.reduceAdd, Nat.reduceSub, Nat.reduceMul, Nat.reduceLeDiff, reduceIte, reduceCtorEq, Int.reduceEq, Int.reduceLE, Int.reduceLT, Int.reduceToNat, *]; done) | omega)) | (with_reducible refine ACalls.flA (law_live _) ?_ <;> (first | (simp (maxDischargeDepth := 9) -implicitDefEqProofs -dsimp only [go_sem, Nat.reduceEqDiff, Nat.reduceAdd, Nat.reduceSub, Nat.reduceMul, Nat.reduceLeDiff, reduceIte, reduceCtorEq, Int.reduceEq, Int.reduceLE, Int.reduceLT, Int.reduceToNat, *]; done) | omega)) | (with_reducible refine ACalls.flA (ref_Few g _) ?_ <;> (first | (simp (maxDischargeDepth := 9) -implicitDefEqProofs -dsimp only [go_sem, Nat.reduceEqDiff, Nat.reduceAdd, Nat.reduceSub, Nat.reduceMul, Nat.reduceLeDiff, reduceIte, reduceCtorEq, Int.reduceEq, Int.reduceLE, Int.reduceLT, Int.reduceToNat, *]; done) | omega)) | (with_reducible refine ACalls.flA (aig_Or g a b _ hw ha hb) ?_ <;> (first | (simp (maxDischargeDepth := 9) -implicitDefEqProofs -dsimp only [go_sem, Nat.reduceEqDiff, Nat.reduceAdd, Nat.reduceSub, Nat.reduceMul, Nat.reduceLeDiff, reduceIte, reduceCtorEq, Int.reduceEq, Int.reduceLE, Int.reduceLT, Int.reduceToNat, *]; done) | omega)) | (with_reducible refine ACalls.flA (aig_And g (turn a) (turn b) _ hw hta htb) ?_ <;> (first | (simp (maxDischargeDepth := 9) -implicitDefEqProofs -dsimp only [go_sem, Nat.reduceEqDiff, Nat.reduceAdd, Nat.reduceSub, Nat.reduceMul, Nat.reduceLeDiff, reduceIte, reduceCtorEq, Int.reduceEq, Int.reduceLE, Int.reduceLT, Int.reduceToNat, *]; done) | omega)) | (with_reducible refine ACalls.flA (aig_Xor g a b _ hw ha hb) ?_ <;> (first | (simp (maxDischargeDepth := 9) -implicitDefEqProofs -dsimp only [go_sem, Nat.reduceEqDiff, Nat.reduceAdd, Nat.reduceSub, Nat.reduceMul, Nat.reduceLeDiff, reduceIte, reduceCtorEq, Int.reduceEq, Int.reduceLE, Int.reduceLT, Int.reduceToNat, *]; done) | omega)) | (with_reducible refine ACalls.flA (aig_Xor g (turn a) b _ hw hta hb) ?_ <;> (first | (simp (maxDischargeDepth := 9) -implicitDefEqProofs -dsimp only [go_sem, Nat.reduceEqDiff, Nat.reduceAdd, Nat.reduceSub, Nat.reduceMul, Nat.reduceLeDiff, reduceIte, reduceCtorEq, Int.reduceEq, Int.reduceLE, Int.reduceLT, Int.reduceToNat, *]; done) | omega)) | (with_reducible refine ACalls.flA (aig_Mux g c a b _ hw hc ha hb) ?_ <;> (first | (simp (maxDischargeDepth := 9) -implicitDefEqProofs -dsimp only [go_sem, Nat.reduceEqDiff, Nat.reduceAdd, Nat.reduceSub, Nat.reduceMul, Nat.reduceLeDiff, reduceIte, reduceCtorEq, Int.reduceEq, Int.reduceLE, Int.reduceLT, Int.reduceToNat, *]; done) | omega)) | (with_reducible refine ACalls.flA (aig_Mux g (turn c) b a _ hw htc hb ha) ?_ <;> (first | (simp (maxDischargeDepth := 9) -implicitDefEqProofs -dsimp only [go_sem, Nat.reduceEqDiff, Nat.reduceAdd, Nat.reduceSub, Nat.reduceMul, Nat.reduceLeDiff, reduceIte, reduceCtorEq, Int.reduceEq, Int.reduceLE, Int.reduceLT, Int.reduceToNat, *]; done) | omega)))); (focus (first | trivial | with_reducible exact rfl | (simp (maxDischargeDepth := 9) -implicitDefEqProofs -dsimp only [go_sem, Nat.reduceEqDiff, Nat.reduceAdd, Nat.reduceSub, Nat.reduceMul, Nat.reduceLeDiff, reduceIte, reduceCtorEq, Int.reduceEq, Int.reduceLE, Int.reduceLT, Int.reduceToNat]; done)))) | fail)
  all_goals first | (exfalso; omega) | (refine fin_eq ?_; (repeat' (first | simp (maxDischargeDepth := 9) -implicitDefEqProofs -dsimp only [go_sem, Nat.reduceEqDiff, Nat.reduceAdd, Nat.reduceSub, Nat.reduceMul, Nat.reduceLeDiff, reduceIte, reduceCtorEq, Int.reduceEq, Int.reduceLE, Int.reduceLT, Int.reduceToNat, *] | simp (disch := omega) only [wrap64, tdiv2, tmod2, and1, xor1, xor_is1, shr1, shr1'])) <;> (repeat' refine And.intro ?_ ?_) <;> (first | omega | rfl | assumption | skip))

set_option maxRecDepth 8000 in
set_option maxHeartbeats 2000000 in
theorem turn_out2 (g : Aig) (c a b : Int) (inp st : List Bool) (σ : Sig) (hw : Wf g) (hd : decide (g.ins ≤ 200 ∧ g.flops.length ≤ 200 ∧ g.ands.length ≤ 1000 ∧ g.outs.length ≤ 200) = true) (h0 : (g.Or a b).2.2 = 0) (h1 : (g.And (turn a) (turn b)).2.2 = 0) (h2 : ¬ (g.Xor a b).2.2 = 0) (hc : I64 c) (ha : I64 a) (hb : I64 b) :
    ACalls Try.prog 12 [encAig g, .int .i64 c, .int .i64 a, .int .i64 b, .slice (inp.map encBool) .no, .slice (st.map encBool) .no] σ (fun r σ' => r = .ret (.bool true) ∧ σ' = σ) := by
  refine calls_x mixed Try.func12 b12 n12 rfl q12 (by simp) ?_; unfold c12 r12
  obtain ⟨ha1, ha2⟩ := id ha
  obtain ⟨hb1, hb2⟩ := id hb
  obtain ⟨hc1, hc2⟩ := id hc
  have hta := turn_I64 ha
  have htb := turn_I64 hb
  have htc := turn_I64 hc
  obtain ⟨⟨h, x, e⟩, r1⟩ : ∃ r, g.Or a b = r := ⟨_, rfl⟩
  obtain ⟨⟨i, y, f⟩, r2⟩ : ∃ r, g.And (turn a) (turn b) = r := ⟨_, rfl⟩
  obtain ⟨⟨j, z, k⟩, r3⟩ : ∃ r, g.Xor a b = r := ⟨_, rfl⟩
  obtain ⟨⟨l, w, m⟩, r4⟩ : ∃ r, g.Xor (turn a) b = r := ⟨_, rfl⟩
  obtain ⟨⟨n, p, o⟩, r5⟩ : ∃ r, g.Mux c a b = r := ⟨_, rfl⟩
  obtain ⟨⟨q, r, s⟩, r6⟩ : ∃ r, g.Mux (turn c) b a = r := ⟨_, rfl⟩
  rw [r1] at h0
  simp only at h0
  subst h0
  rw [r2] at h1
  simp only at h1
  subst h1
  have ez : ((0 : Int) != 0) = false := by decide
  rw [r3] at h2
  have hn : (k != 0) = true := by simpa using h2
  repeat' (first | simp (maxDischargeDepth := 9) -implicitDefEqProofs -dsimp only [go_sem, Nat.reduceEqDiff, Nat.reduceAdd, Nat.reduceSub, Nat.reduceMul, Nat.reduceLeDiff, reduceIte, reduceCtorEq, Int.reduceEq, Int.reduceLE, Int.reduceLT, Int.reduceToNat, *] | simp (disch := omega) only [wrap64, tdiv2, tmod2, and1, xor1, xor_is1, shr1, shr1'] | (with_reducible (first | apply gd_td | apply gd_fd | apply br_d | apply gd_tbl | apply gd_fbl | apply br_bl | apply gd_tnl | apply gd_fnl | apply br_nl | apply gd_tb | apply gd_fb | apply br_b | apply gd_tn | apply gd_fn | apply br_n | apply gd_t | apply gd_f | apply br_split | apply ifnil_i) <;> intro hq) | ((with_reducible refine req_i ?_ ?_); focus (first | omega | exact rfl)) | ((with_reducible refine wth_map ?_ ?_); focus omega) | ((with_reducible refine fresh_i (fun oF hoF hnF hnF' => ?_)); clear hnF hnF'; (try simp only [upd_none_s, ne_eq] at hoF)) | ((with_reducible first | apply ACalls.one1 | apply id_one); (focus (first | ((first | with_reducible refine law_live _ | with_reducible refine ref_Few g _ | with_reducible refine aig_Or g a b _ hw ha hb | with_reducible refine aig_And g (turn a) (turn b) _ hw hta htb | with_reducible refine aig_Xor g a b _ hw ha hb | with_reducible refine aig_Xor g (turn a) b _ hw hta hb | with_reducible refine aig_Mux g c a b _ hw hc ha hb | with_reducible refine aig_Mux g (turn c) b a _ hw htc hb ha) <;> (first | (simp (maxDischargeDepth := 9) -implicitDefEqProofs -dsimp only [go_sem, Nat.reduceEqDiff, Nat.reduceAdd, Nat.reduceSub, Nat.reduceMul, Nat.reduceLeDiff, reduceIte, reduceCtorEq, Int.reduceEq, Int.reduceLE, Int.reduceLT, Int.reduceToNat, *]; done) | omega)) | (with_reducible refine ACalls.flA (law_live _) ?_ <;> (first | (simp (maxDischargeDepth := 9) -implicitDefEqProofs -dsimp only [go_sem, Nat.reduceEqDiff, Nat.reduceAdd, Nat.reduceSub, Nat.reduceMul, Nat.reduceLeDiff, reduceIte, reduceCtorEq, Int.reduceEq, Int.reduceLE, Int.reduceLT, Int.reduceToNat, *]; done) | omega)) | (with_reducible refine ACalls.flA (ref_Few g _) ?_ <;> (first | (simp (maxDischargeDepth := 9) -implicitDefEqProofs -dsimp only [go_sem, Nat.reduceEqDiff, Nat.reduceAdd, Nat.reduceSub, Nat.reduceMul, Nat.reduceLeDiff, reduceIte, reduceCtorEq, Int.reduceEq, Int.reduceLE, Int.reduceLT, Int.reduceToNat, *]; done) | omega)) | (with_reducible refine ACalls.flA (aig_Or g a b _ hw ha hb) ?_ <;> (first | (simp (maxDischargeDepth := 9) -implicitDefEqProofs -dsimp only [go_sem, Nat.reduceEqDiff, Nat.reduceAdd, Nat.reduceSub, Nat.reduceMul, Nat.reduceLeDiff, reduceIte, reduceCtorEq, Int.reduceEq, Int.reduceLE, Int.reduceLT, Int.reduceToNat, *]; done) | omega)) | (with_reducible refine ACalls.flA (aig_And g (turn a) (turn b) _ hw hta htb) ?_ <;> (first | (simp (maxDischargeDepth := 9) -implicitDefEqProofs -dsimp only [go_sem, Nat.reduceEqDiff, Nat.reduceAdd, Nat.reduceSub, Nat.reduceMul, Nat.reduceLeDiff, reduceIte, reduceCtorEq, Int.reduceEq, Int.reduceLE, Int.reduceLT, Int.reduceToNat, *]; done) | omega)) | (with_reducible refine ACalls.flA (aig_Xor g a b _ hw ha hb) ?_ <;> (first | (simp (maxDischargeDepth := 9) -implicitDefEqProofs -dsimp only [go_sem, Nat.reduceEqDiff, Nat.reduceAdd, Nat.reduceSub, Nat.reduceMul, Nat.reduceLeDiff, reduceIte, reduceCtorEq, Int.reduceEq, Int.reduceLE, Int.reduceLT, Int.reduceToNat, *]; done) | omega)) | (with_reducible refine ACalls.flA (aig_Xor g (turn a) b _ hw hta hb) ?_ <;> (first | (simp (maxDischargeDepth := 9) -implicitDefEqProofs -dsimp only [go_sem, Nat.reduceEqDiff, Nat.reduceAdd, Nat.reduceSub, Nat.reduceMul, Nat.reduceLeDiff, reduceIte, reduceCtorEq, Int.reduceEq, Int.reduceLE, Int.reduceLT, Int.reduceToNat, *]; done) | omega)) | (with_reducible refine ACalls.flA (aig_Mux g c a b _ hw hc ha hb) ?_ <;> (first | (simp (maxDischargeDepth := 9) -implicitDefEqProofs -dsimp only [go_sem, Nat.reduceEqDiff, Nat.reduceAdd, Nat.reduceSub, Nat.reduceMul, Nat.reduceLeDiff, reduceIte, reduceCtorEq, Int.reduceEq, Int.reduceLE, Int.reduceLT, Int.reduceToNat, *]; done) | omega)) | (with_reducible refine ACalls.flA (aig_Mux g (turn c) b a _ hw htc hb ha) ?_ <;> (first | (simp (maxDischargeDepth := 9) -implicitDefEqProofs -dsimp only [go_sem, Nat.reduceEqDiff, Nat.reduceAdd, Nat.reduceSub, Nat.reduceMul, Nat.reduceLeDiff, reduceIte, reduceCtorEq, Int.reduceEq, Int.reduceLE, Int.reduceLT, Int.reduceToNat, *]; done) | omega)))); (focus (first | trivial | with_reducible exact rfl | (simp (maxDischargeDepth := 9) -implicitDefEqProofs -dsimp only [go_sem, Nat.reduceEqDiff, Nat.reduceAdd, Nat.reduceSub, Nat.reduceMul, Nat.reduceLeDiff, reduceIte, reduceCtorEq, Int.reduceEq, Int.reduceLE, Int.reduceLT, Int.reduceToNat]; done)))) | fail)
  all_goals first | (exfalso; omega) | (refine fin_eq ?_; (repeat' (first | simp (maxDischargeDepth := 9) -implicitDefEqProofs -dsimp only [go_sem, Nat.reduceEqDiff, Nat.reduceAdd, Nat.reduceSub, Nat.reduceMul, Nat.reduceLeDiff, reduceIte, reduceCtorEq, Int.reduceEq, Int.reduceLE, Int.reduceLT, Int.reduceToNat, *] | simp (disch := omega) only [wrap64, tdiv2, tmod2, and1, xor1, xor_is1, shr1, shr1'])) <;> (repeat' refine And.intro ?_ ?_) <;> (first | omega | rfl | assumption | skip))

set_option maxRecDepth 8000 in
set_option maxHeartbeats 2000000 in
theorem turn_out3 (g : Aig) (c a b : Int) (inp st : List Bool) (σ : Sig) (hw : Wf g) (hd : decide (g.ins ≤ 200 ∧ g.flops.length ≤ 200 ∧ g.ands.length ≤ 1000 ∧ g.outs.length ≤ 200) = true) (h0 : (g.Or a b).2.2 = 0) (h1 : (g.And (turn a) (turn b)).2.2 = 0) (h2 : (g.Xor a b).2.2 = 0) (h3 : ¬ (g.Xor (turn a) b).2.2 = 0) (hc : I64 c) (ha : I64 a) (hb : I64 b) :
    ACalls Try.prog 12 [encAig g, .int .i64 c, .int .i64 a, .int .i64 b, .slice (inp.map encBool) .no, .slice (st.map encBool) .no] σ (fun r σ' => r = .ret (.bool true) ∧ σ' = σ) := by
  refine calls_x mixed Try.func12 b12 n12 rfl q12 (by simp) ?_; unfold c12 r12
  obtain ⟨ha1, ha2⟩ := id ha
  obtain ⟨hb1, hb2⟩ := id hb
  obtain ⟨hc1, hc2⟩ := id hc
  have hta := turn_I64 ha
  have htb := turn_I64 hb
  have htc := turn_I64 hc
  obtain ⟨⟨h, x, e⟩, r1⟩ : ∃ r, g.Or a b = r := ⟨_, rfl⟩
  obtain ⟨⟨i, y, f⟩, r2⟩ : ∃ r, g.And (turn a) (turn b) = r := ⟨_, rfl⟩
  obtain ⟨⟨j, z, k⟩, r3⟩ : ∃ r, g.Xor a b = r := ⟨_, rfl⟩
  obtain ⟨⟨l, w, m⟩, r4⟩ : ∃ r, g.Xor (turn a) b = r := ⟨_, rfl⟩
  obtain ⟨⟨n, p, o⟩, r5⟩ : ∃ r, g.Mux c a b = r := ⟨_, rfl⟩
  obtain ⟨⟨q, r, s⟩, r6⟩ : ∃ r, g.Mux (turn c) b a = r := ⟨_, rfl⟩
  rw [r1] at h0
  simp only at h0
  subst h0
  rw [r2] at h1
  simp only at h1
  subst h1
  rw [r3] at h2
  simp only at h2
  subst h2
  have ez : ((0 : Int) != 0) = false := by decide
  rw [r4] at h3
  have hn : (m != 0) = true := by simpa using h3
  repeat' (first | simp (maxDischargeDepth := 9) -implicitDefEqProofs -dsimp only [go_sem, Nat.reduceEqDiff, Nat.reduceAdd, Nat.reduceSub, Nat.reduceMul, Nat.reduceLeDiff, reduceIte, reduceCtorEq, Int.reduceEq, Int.reduceLE, Int.reduceLT, Int.reduceToNat, *] | simp (disch := omega) only [wrap64, tdiv2, tmod2, and1, xor1, xor_is1, shr1, shr1'] | (with_reducible (first | apply gd_td | apply gd_fd | apply br_d | apply gd_tbl | apply gd_fbl | apply br_bl | apply gd_tnl | apply gd_fnl | apply br_nl | apply gd_tb | apply gd_fb | apply br_b | apply gd_tn | apply gd_fn | apply br_n | apply gd_t | apply gd_f | apply br_split | apply ifnil_i) <;> intro hq) | ((with_reducible refine req_i ?_ ?_); focus (first | omega | exact rfl)) | ((with_reducible refine wth_map ?_ ?_); focus omega) | ((with_reducible refine fresh_i (fun oF hoF hnF hnF' => ?_)); clear hnF hnF'; (try simp only [upd_none_s, ne_eq] at hoF)) | ((with_reducible first | apply ACalls.one1 | apply id_one); (focus (first | ((first | with_reducible refine law_live _ | with_reducible refine ref_Few g _ | with_reducible refine aig_Or g a b _ hw ha hb | with_reducible refine aig_And g (turn a) (turn b) _ hw hta htb | with_reducible refine aig_Xor g a b _ hw ha hb | with_reducible refine aig_Xor g (turn a) b _ hw hta hb | with_reducible refine aig_Mux g c a b _ hw hc ha hb | with_reducible refine aig_Mux g (turn c) b a _ hw htc hb ha) <;> (first | (simp (maxDischargeDepth := 9) -implicitDefEqProofs -dsimp only [go_sem, Nat.reduceEqDiff, Nat.reduceAdd, Nat.reduceSub, Nat.reduceMul, Nat.reduceLeDiff, reduceIte, reduceCtorEq, Int.reduceEq, Int.reduceLE, Int.reduceLT, Int.reduceToNat, *]; done) | omega)) | (with_reducible refine ACalls.flA (law_live _) ?_ <;> (first | (simp (maxDischargeDepth := 9) -implicitDefEqProofs -dsimp only [go_sem, Nat.reduceEqDiff, Nat.reduceAdd, Nat.reduceSub, Nat.reduceMul, Nat.reduceLeDiff, reduceIte, reduceCtorEq, Int.reduceEq, Int.reduceLE, Int.reduceLT, Int.reduceToNat, *]; done) | omega)) | (with_reducible refine ACalls.flA (ref_Few g _) ?_ <;> (first | (simp (maxDischargeDepth := 9) -implicitDefEqProofs -dsimp only [go_sem, Nat.reduceEqDiff, Nat.reduceAdd, Nat.reduceSub, Nat.reduceMul, Nat.reduceLeDiff, reduceIte, reduceCtorEq, Int.reduceEq, Int.reduceLE, Int.reduceLT, Int.reduceToNat, *]; done) | omega)) | (with_reducible refine ACalls.flA (aig_Or g a b _ hw ha hb) ?_ <;> (first | (simp (maxDischargeDepth := 9) -implicitDefEqProofs -dsimp only [go_sem, Nat.reduceEqDiff, Nat.reduceAdd, Nat.reduceSub, Nat.reduceMul, Nat.reduceLeDiff, reduceIte, reduceCtorEq, Int.reduceEq, Int.reduceLE, Int.reduceLT, Int.reduceToNat, *]; done) | omega)) | (with_reducible refine ACalls.flA (aig_And g (turn a) (turn b) _ hw hta htb) ?_ <;> (first | (simp (maxDischargeDepth := 9) -implicitDefEqProofs -dsimp only [go_sem, Nat.reduceEqDiff, Nat.reduceAdd, Nat.reduceSub, Nat.reduceMul, Nat.reduceLeDiff, reduceIte, reduceCtorEq, Int.reduceEq, Int.reduceLE, Int.reduceLT, Int.reduceToNat, *]; done) | omega)) | (with_reducible refine ACalls.flA (aig_Xor g a b _ hw ha hb) ?_ <;> (first | (simp (maxDischargeDepth := 9) -implicitDefEqProofs -dsimp only [go_sem, Nat.reduceEqDiff, Nat.reduceAdd, Nat.reduceSub, Nat.reduceMul, Nat.reduceLeDiff, reduceIte, reduceCtorEq, Int.reduceEq, Int.reduceLE, Int.reduceLT, Int.reduceToNat, *]; done) | omega)) | (with_reducible refine ACalls.flA (aig_Xor g (turn a) b _ hw hta hb) ?_ <;> (first | (simp (maxDischargeDepth := 9) -implicitDefEqProofs -dsimp only [go_sem, Nat.reduceEqDiff, Nat.reduceAdd, Nat.reduceSub, Nat.reduceMul, Nat.reduceLeDiff, reduceIte, reduceCtorEq, Int.reduceEq, Int.reduceLE, Int.reduceLT, Int.reduceToNat, *]; done) | omega)) | (with_reducible refine ACalls.flA (aig_Mux g c a b _ hw hc ha hb) ?_ <;> (first | (simp (maxDischargeDepth := 9) -implicitDefEqProofs -dsimp only [go_sem, Nat.reduceEqDiff, Nat.reduceAdd, Nat.reduceSub, Nat.reduceMul, Nat.reduceLeDiff, reduceIte, reduceCtorEq, Int.reduceEq, Int.reduceLE, Int.reduceLT, Int.reduceToNat, *]; done) | omega)) | (with_reducible refine ACalls.flA (aig_Mux g (turn c) b a _ hw htc hb ha) ?_ <;> (first | (simp (maxDischargeDepth := 9) -implicitDefEqProofs -dsimp only [go_sem, Nat.reduceEqDiff, Nat.reduceAdd, Nat.reduceSub, Nat.reduceMul, Nat.reduceLeDiff, reduceIte, reduceCtorEq, Int.reduceEq, Int.reduceLE, Int.reduceLT, Int.reduceToNat, *]; done) | omega)))); (focus (first | trivial | with_reducible exact rfl | (simp (maxDischargeDepth := 9) -implicitDefEqProofs -dsimp only [go_sem, Nat.reduceEqDiff, Nat.reduceAdd, Nat.reduceSub, Nat.reduceMul, Nat.reduceLeDiff, reduceIte, reduceCtorEq, Int.reduceEq, Int.reduceLE, Int.reduceLT, Int.reduceToNat]; done)))) | fail)
  all_goals first | (exfalso; omega) | (refine fin_eq ?_; (repeat' (first | simp (maxDischargeDepth := 9) -implicitDefEqProofs -dsimp only [go_sem, Nat.reduceEqDiff, Nat.reduceAdd, Nat.reduceSub, Nat.reduceMul, Nat.reduceLeDiff, reduceIte, reduceCtorEq, Int.reduceEq, Int.reduceLE, Int.reduceLT, Int.reduceToNat, *] | simp (disch := omega) only [wrap64, tdiv2, tmod2, and1, xor1, xor_is1, shr1, shr1'])) <;> (repeat' refine And.intro ?_ ?_) <;> (first | omega | rfl | assumption | skip))

set_option maxRecDepth 8000 in
set_option maxHeartbeats 2000000 in
theorem turn_out4 (g : Aig) (c a b : Int) (inp st : List Bool) (σ : Sig) (hw : Wf g) (hd : decide (g.ins ≤ 200 ∧ g.flops.length ≤ 200 ∧ g.ands.length ≤ 1000 ∧ g.outs.length ≤ 200) = true) (h0 : (g.Or a b).2.2 = 0) (h1 : (g.And (turn a) (turn b)).2.2 = 0) (h2 : (g.Xor a b).2.2 = 0) (h3 : (g.Xor (turn a) b).2.2 = 0) (h4 : ¬ (g.Mux c a b).2.2 = 0) (hc : I64 c) (ha : I64 a) (hb : I64 b) :
    ACalls Try.prog 12 [encAig g, .int .i64 c, .int .i64 a, .int .i64 b, .slice (inp.map encBool) .no, .slice (st.map encBool) .no] σ (fun r σ' => r = .ret (.bool true) ∧ σ' = σ) := by
  refine calls_x mixed Try.func12 b12 n12 rfl q12 (by simp) ?_; unfold c12 r12
  obtain ⟨ha1, ha2⟩ := id ha
  obtain ⟨hb1, hb2⟩ := id hb
  obtain ⟨hc1, hc2⟩ := id hc
  have hta := turn_I64 ha
  have htb := turn_I64 hb
  have htc := turn_I64 hc
  obtain ⟨⟨h, x, e⟩, r1⟩ : ∃ r, g.Or a b = r := ⟨_, rfl⟩
  obtain ⟨⟨i, y, f⟩, r2⟩ : ∃ r, g.And (turn a) (turn b) = r := ⟨_, rfl⟩
  obtain ⟨⟨j, z, k⟩, r3⟩ : ∃ r, g.Xor a b = r := ⟨_, rfl⟩
  obtain ⟨⟨l, w, m⟩, r4⟩ : ∃ r, g.Xor (turn a) b = r := ⟨_, rfl⟩
  obtain ⟨⟨n, p, o⟩, r5⟩ : ∃ r, g.Mux c a b = r := ⟨_, rfl⟩
  obtain ⟨⟨q, r, s⟩, r6⟩ : ∃ r, g.Mux (turn c) b a = r := ⟨_, rfl⟩
  rw [r1] at h0
  simp only at h0
  subst h0
  rw [r2] at h1
  simp only at h1
  subst h1
  rw [r3] at h2
  simp only at h2
  subst h2
  rw [r4] at h3
  simp only at h3
  subst h3
  have ez : ((0 : Int) != 0) = false := by decide
  rw [r5] at h4
  have hn : (o != 0) = true := by simpa using h4
  repeat' (first | simp (maxDischargeDepth := 9) -implicitDefEqProofs -dsimp only [go_sem, Nat.reduceEqDiff, Nat.reduceAdd, Nat.reduceSub, Nat.reduceMul, Nat.reduceLeDiff, reduceIte, reduceCtorEq, Int.reduceEq, Int.reduceLE, Int.reduceLT, Int.reduceToNat, *] | simp (disch := omega) only [wrap64, tdiv2, tmod2, and1, xor1, xor_is1, shr1, shr1'] | (with_reducible (first | apply gd_td | apply gd_fd | apply br_d | apply gd_tbl | apply gd_fbl | apply br_bl | apply gd_tnl | apply gd_fnl | apply br_nl | apply gd_tb | apply gd_fb | apply br_b | apply gd_tn | apply gd_fn | apply br_n | apply gd_t | apply gd_f | apply br_split | apply ifnil_i) <;> intro hq) | ((with_reducible refine req_i ?_ ?_); focus (first | omega | exact rfl)) | ((with_reducible refine wth_map ?_ ?_); focus omega) | ((with_reducible refine fresh_i (fun oF hoF hnF hnF' => ?_)); clear hnF hnF'; (try simp only [upd_none_s, ne_eq] at hoF)) | ((with_reducible first | apply ACalls.one1 | apply id_one); (focus (first | ((first | with_reducible refine law_live _ | with_reducible refine ref_Few g _ | with_reducible refine aig_Or g a b _ hw ha hb | with_reducible refine aig_And g (turn a) (turn b) _ hw hta htb | with_reducible refine aig_Xor g a b _ hw ha hb | with_reducible refine aig_Xor g (turn a) b _ hw hta hb | with_reducible refine aig_Mux g c a b _ hw hc ha hb | with_reducible refine aig_Mux g (turn c) b a _ hw htc hb ha) <;> (first | (simp (maxDischargeDepth := 9) -implicitDefEqProofs -dsimp only [go_sem, Nat.reduceEqDiff, Nat.reduceAdd, Nat.reduceSub, Nat.reduceMul, Nat.reduceLeDiff, reduceIte, reduceCtorEq, Int.reduceEq, Int.reduceLE, Int.reduceLT, Int.reduceToNat, *]; done) | omega)) | (with_reducible refine ACalls.flA (law_live _) ?_ <;> (first | (simp (maxDischargeDepth := 9) -implicitDefEqProofs -dsimp only [go_sem, Nat.reduceEqDiff, Nat.reduceAdd, Nat.reduceSub, Nat.reduceMul, Nat.reduceLeDiff, reduceIte, reduceCtorEq, Int.reduceEq, Int.reduceLE, Int.reduceLT, Int.reduceToNat, *]; done) | omega)) | (with_reducible refine ACalls.flA (ref_Few g _) ?_ <;> (first | (simp (maxDischargeDepth := 9) -implicitDefEqProofs -dsimp only [go_sem, Nat.reduceEqDiff, Nat.reduceAdd, Nat.reduceSub, Nat.reduceMul, Nat.reduceLeDiff, reduceIte, reduceCtorEq, Int.reduceEq, Int.reduceLE, Int.reduceLT, Int.reduceToNat, *]; done) | omega)) | (with_reducible refine ACalls.flA (aig_Or g a b _ hw ha hb) ?_ <;> (first | (simp (maxDischargeDepth := 9) -implicitDefEqProofs -dsimp only [go_sem, Nat.reduceEqDiff, Nat.reduceAdd, Nat.reduceSub, Nat.reduceMul, Nat.reduceLeDiff, reduceIte, reduceCtorEq, Int.reduceEq, Int.reduceLE, Int.reduceLT, Int.reduceToNat, *]; done) | omega)) | (with_reducible refine ACalls.flA (aig_And g (turn a) (turn b) _ hw hta htb) ?_ <;> (first | (simp (maxDischargeDepth := 9) -implicitDefEqProofs -dsimp only [go_sem, Nat.reduceEqDiff, Nat.reduceAdd, Nat.reduceSub, Nat.reduceMul, Nat.reduceLeDiff, reduceIte, reduceCtorEq, Int.reduceEq, Int.reduceLE, Int.reduceLT, Int.reduceToNat, *]; done) | omega)) | (with_reducible refine ACalls.flA (aig_Xor g a b _ hw ha hb) ?_ <;> (first | (simp (maxDischargeDepth := 9) -implicitDefEqProofs -dsimp only [go_sem, Nat.reduceEqDiff, Nat.reduceAdd, Nat.reduceSub, Nat.reduceMul, Nat.reduceLeDiff, reduceIte, reduceCtorEq, Int.reduceEq, Int.reduceLE, Int.reduceLT, Int.reduceToNat, *]; done) | omega)) | (with_reducible refine ACalls.flA (aig_Xor g (turn a) b _ hw hta hb) ?_ <;> (first | (simp (maxDischargeDepth := 9) -implicitDefEqProofs -dsimp only [go_sem, Nat.reduceEqDiff, Nat.reduceAdd, Nat.reduceSub, Nat.reduceMul, Nat.reduceLeDiff, reduceIte, reduceCtorEq, Int.reduceEq, Int.reduceLE, Int.reduceLT, Int.reduceToNat, *]; done) | omega)) | (with_reducible refine ACalls.flA (aig_Mux g c a b _ hw hc ha hb) ?_ <;> (first | (simp (maxDischargeDepth := 9) -implicitDefEqProofs -dsimp only [go_sem, Nat.reduceEqDiff, Nat.reduceAdd, Nat.reduceSub, Nat.reduceMul, Nat.reduceLeDiff, reduceIte, reduceCtorEq, Int.reduceEq, Int.reduceLE, Int.reduceLT, Int.reduceToNat, *]; done) | omega)) | (with_reducible refine ACalls.flA (aig_Mux g (turn c) b a _ hw htc hb ha) ?_ <;> (first | (simp (maxDischargeDepth := 9) -implicitDefEqProofs -dsimp only [go_sem, Nat.reduceEqDiff, Nat.reduceAdd, Nat.reduceSub, Nat.reduceMul, Nat.reduceLeDiff, reduceIte, reduceCtorEq, Int.reduceEq, Int.reduceLE, Int.reduceLT, Int.reduceToNat, *]; done) | omega)))); (focus (first | trivial | with_reducible exact rfl | (simp (maxDischargeDepth := 9) -implicitDefEqProofs -dsimp only [go_sem, Nat.reduceEqDiff, Nat.reduceAdd, Nat.reduceSub, Nat.reduceMul, Nat.reduceLeDiff, reduceIte, reduceCtorEq, Int.reduceEq, Int.reduceLE, Int.reduceLT, Int.reduceToNat]; done)))) | fail)
  all_goals first | (exfalso; omega) | (refine fin_eq ?_; (repeat' (first | simp (maxDischargeDepth := 9) -implicitDefEqProofs -dsimp only [go_sem, Nat.reduceEqDiff, Nat.reduceAdd, Nat.reduceSub, Nat.reduceMul, Nat.reduceLeDiff, reduceIte, reduceCtorEq, Int.reduceEq, Int.reduceLE, Int.reduceLT, Int.reduceToNat, *] | simp (disch := omega) only [wrap64, tdiv2, tmod2, and1, xor1, xor_is1, shr1, shr1'])) <;> (repeat' refine And.intro ?_ ?_) <;> (first | omega | rfl | assumption | skip))

set_option maxRecDepth 8000 in
set_option maxHeartbeats 2000000 in
theorem turn_out5 (g : Aig) (c a b : Int) (inp st : List Bool) (σ : Sig) (hw : Wf g) (hd : decide (g.ins ≤ 200 ∧ g.flops.length ≤ 200 ∧ g.ands.length ≤ 1000 ∧ g.outs.length ≤ 200) = true) (h0 : (g.Or a b).2.2 = 0) (h1 : (g.And (turn a) (turn b)).2.2 = 0) (h2 : (g.Xor a b).2.2 = 0) (h3 : (g.Xor (turn a) b).2.2 = 0) (h4 : (g.Mux c a b).2.2 = 0) (h5 : ¬ (g.Mux (turn c) b a).2.2 = 0) (hc : I64 c) (ha : I64 a) (hb : I64 b) :
    ACalls Try.prog 12 [encAig g, .int .i64 c, .int .i64 a, .int .i64 b, .slice (inp.map encBool) .no, .slice (st.map encBool) .no] σ (fun r σ' => r = .ret (.bool true) ∧ σ' = σ) := by
  refine calls_x mixed Try.func12 b12 n12 rfl q12 (by simp) ?_; unfold c12 r12
  obtain ⟨ha1, ha2⟩ := id ha
  obtain ⟨hb1, hb2⟩ := id hb
  obtain ⟨hc1, hc2⟩ := id hc
  have hta := turn_I64 ha
  have htb := turn_I64 hb
  have htc := turn_I64 hc
  obtain ⟨⟨h, x, e⟩, r1⟩ : ∃ r, g.Or a b = r := ⟨_, rfl⟩
  obtain ⟨⟨i, y, f⟩, r2⟩ : ∃ r, g.And (turn a) (turn b) = r := ⟨_, rfl⟩
  obtain ⟨⟨j, z, k⟩, r3⟩ : ∃ r, g.Xor a b = r := ⟨_, rfl⟩
  obtain ⟨⟨l, w, m⟩, r4⟩ : ∃ r, g.Xor (turn a) b = r := ⟨_, rfl⟩
  obtain ⟨⟨n, p, o⟩, r5⟩ : ∃ r, g.Mux c a b = r := ⟨_, rfl⟩
  obtain ⟨⟨q, r, s⟩, r6⟩ : ∃ r, g.Mux (turn c) b a = r := ⟨_, rfl⟩
  rw [r1] at h0
  simp only at h0
  subst h0
  rw [r2] at h1
  simp only at h1
  subst h1
  rw [r3] at h2
  simp only at h2
  subst h2
  rw [r4] at h3
  simp only at h3
  subst h3
  rw [r5] at h4
  simp only at h4
  subst h4
  have ez : ((0 : Int) != 0) = false := by decide
  rw [r6] at h5
  have hn : (s != 0) = true := by simpa using h5
  repeat' (first | simp (maxDischargeDepth := 9) -implicitDefEqProofs -dsimp only [go_sem, Nat.reduceEqDiff, Nat.reduceAdd, Nat.reduceSub, Nat.reduceMul, Nat.reduceLeDiff, reduceIte, reduceCtorEq, Int.reduceEq, Int.reduceLE, Int.reduceLT, Int.reduceToNat, *] | simp (disch := omega) only [wrap64, tdiv2, tmod2, and1, xor1, xor_is1, shr1, shr1'] | (with_reducible (first | apply gd_td | apply gd_fd | apply br_d | apply gd_tbl | apply gd_fbl | apply br_bl | apply gd_tnl | apply gd_fnl | apply br_nl | apply gd_tb | apply gd_fb | apply br_b | apply gd_tn | apply gd_fn | apply br_n | apply gd_t | apply gd_f | apply br_split | apply ifnil_i) <;> intro hq) | ((with_reducible refine req_i ?_ ?_); focus (first | omega | exact rfl)) | ((with_reducible refine wth_map ?_ ?_); focus omega) | ((with_reducible refine fresh_i (fun oF hoF hnF hnF' => ?_)); clear hnF hnF'; (try simp only [upd_none_s, ne_eq] at hoF)) | ((with_reducible first | apply ACalls.one1 | apply id_one); (focus (first | ((first | with_reducible refine law_live _ | with_reducible refine ref_Few g _ | with_reducible refine aig_Or g a b _ hw ha hb | with_reducible refine aig_And g (turn a) (turn b) _ hw hta htb | with_reducible refine aig_Xor g a b _ hw ha hb | with_reducible refine aig_Xor g (turn a) b _ hw hta hb | with_reducible refine aig_Mux g c a b _ hw hc ha hb | with_reducible refine aig_Mux g (turn c) b a _ hw htc hb ha) <;> (first | (simp (maxDischargeDepth := 9) -implicitDefEqProofs -dsimp only [go_sem, Nat.reduceEqDiff, Nat.reduceAdd, Nat.reduceSub, Nat.reduceMul, Nat.reduceLeDiff, reduceIte, reduceCtorEq, Int.reduceEq, Int.reduceLE, Int.reduceLT, Int.reduceToNat, *]; done) | omega)) | (with_reducible refine ACalls.flA (law_live _) ?_ <;> (first | (simp (maxDischargeDepth := 9) -implicitDefEqProofs -dsimp only [go_sem, Nat.reduceEqDiff, Nat.reduceAdd, Nat.reduceSub, Nat.reduceMul, Nat.reduceLeDiff, reduceIte, reduceCtorEq, Int.reduceEq, Int.reduceLE, Int.reduceLT, Int.reduceToNat, *]; done) | omega)) | (with_reducible refine ACalls.flA (ref_Few g _) ?_ <;> (first | (simp (maxDischargeDepth := 9) -implicitDefEqProofs -dsimp only [go_sem, Nat.reduceEqDiff, Nat.reduceAdd, Nat.reduceSub, Nat.reduceMul, Nat.reduceLeDiff, reduceIte, reduceCtorEq, Int.reduceEq, Int.reduceLE, Int.reduceLT, Int.reduceToNat, *]; done) | omega)) | (with_reducible refine ACalls.flA (aig_Or g a b _ hw ha hb) ?_ <;> (first | (simp (maxDischargeDepth := 9) -implicitDefEqProofs -dsimp only [go_sem, Nat.reduceEqDiff, Nat.reduceAdd, Nat.reduceSub, Nat.reduceMul, Nat.reduceLeDiff, reduceIte, reduceCtorEq, Int.reduceEq, Int.reduceLE, Int.reduceLT, Int.reduceToNat, *]; done) | omega)) | (with_reducible refine ACalls.flA (aig_And g (turn a) (turn b) _ hw hta htb) ?_ <;> (first | (simp (maxDischargeDepth := 9) -implicitDefEqProofs -dsimp only [go_sem, Nat.reduceEqDiff, Nat.reduceAdd, Nat.reduceSub, Nat.reduceMul, Nat.reduceLeDiff, reduceIte, reduceCtorEq, Int.reduceEq, Int.reduceLE, Int.reduceLT, Int.reduceToNat, *]; done) | omega)) | (with_reducible refine ACalls.flA (aig_Xor g a b _ hw ha hb) ?_ <;> (first | (simp (maxDischargeDepth := 9) -implicitDefEqProofs -dsimp only [go_sem, Nat.reduceEqDiff, Nat.reduceAdd, Nat.reduceSub, Nat.reduceMul, Nat.reduceLeDiff, reduceIte, reduceCtorEq, Int.reduceEq, Int.reduceLE, Int.reduceLT, Int.reduceToNat, *]; done) | omega)) | (with_reducible refine ACalls.flA (aig_Xor g (turn a) b _ hw hta hb) ?_ <;> (first | (simp (maxDischargeDepth := 9) -implicitDefEqProofs -dsimp only [go_sem, Nat.reduceEqDiff, Nat.reduceAdd, Nat.reduceSub, Nat.reduceMul, Nat.reduceLeDiff, reduceIte, reduceCtorEq, Int.reduceEq, Int.reduceLE, Int.reduceLT, Int.reduceToNat, *]; done) | omega)) | (with_reducible refine ACalls.flA (aig_Mux g c a b _ hw hc ha hb) ?_ <;> (first | (simp (maxDischargeDepth := 9) -implicitDefEqProofs -dsimp only [go_sem, Nat.reduceEqDiff, Nat.reduceAdd, Nat.reduceSub, Nat.reduceMul, Nat.reduceLeDiff, reduceIte, reduceCtorEq, Int.reduceEq, Int.reduceLE, Int.reduceLT, Int.reduceToNat, *]; done) | omega)) | (with_reducible refine ACalls.flA (aig_Mux g (turn c) b a _ hw htc hb ha) ?_ <;> (first | (simp (maxDischargeDepth := 9) -implicitDefEqProofs -dsimp only [go_sem, Nat.reduceEqDiff, Nat.reduceAdd, Nat.reduceSub, Nat.reduceMul, Nat.reduceLeDiff, reduceIte, reduceCtorEq, Int.reduceEq, Int.reduceLE, Int.reduceLT, Int.reduceToNat, *]; done) | omega)))); (focus (first | trivial | with_reducible exact rfl | (simp (maxDischargeDepth := 9) -implicitDefEqProofs -dsimp only [go_sem, Nat.reduceEqDiff, Nat.reduceAdd, Nat.reduceSub, Nat.reduceMul, Nat.reduceLeDiff, reduceIte, reduceCtorEq, Int.reduceEq, Int.reduceLE, Int.reduceLT, Int.reduceToNat]; done)))) | fail)
  all_goals first | (exfalso; omega) | (refine fin_eq ?_; (repeat' (first | simp (maxDischargeDepth := 9) -implicitDefEqProofs -dsimp only [go_sem, Nat.reduceEqDiff, Nat.reduceAdd, Nat.reduceSub, Nat.reduceMul, Nat.reduceLeDiff, reduceIte, reduceCtorEq, Int.reduceEq, Int.reduceLE, Int.reduceLT, Int.reduceToNat, *] | simp (disch := omega) only [wrap64, tdiv2, tmod2, and1, xor1, xor_is1, shr1, shr1'])) <;> (repeat' refine And.intro ?_ ?_) <;> (first | omega | rfl | assumption | skip))

set_option maxRecDepth 8000 in
set_option maxHeartbeats 2000000 in
theorem turn_out6 (g : Aig) (c a b : Int) (inp st : List Bool) (σ : Sig) (hw : Wf g) (hd : decide (g.ins ≤ 200 ∧ g.flops.length ≤ 200 ∧ g.ands.length ≤ 1000 ∧ g.outs.length ≤ 200) = true) (h0 : (g.Or a b).2.2 = 0) (h1 : (g.And (turn a) (turn b)).2.2 = 0) (h2 : (g.Xor a b).2.2 = 0) (h3 : (g.Xor (turn a) b).2.2 = 0) (h4 : (g.Mux c a b).2.2 = 0) (h5 : (g.Mux (turn c) b a).2.2 = 0) (h6 : ¬ (inp.length : Int) = g.ins) (hc : I64 c) (ha : I64 a) (hb : I64 b) :
    ACalls Try.prog 12 [encAig g, .int .i64 c, .int .i64 a, .int .i64 b, .slice (inp.map encBool) .no, .slice (st.map encBool) .no] σ (fun r σ' => r = .ret (.bool true) ∧ σ' = σ) := by
  refine calls_x mixed Try.func12 b12 n12 rfl q12 (by simp) ?_; unfold c12 r12
  obtain ⟨ha1, ha2⟩ := id ha
  obtain ⟨hb1, hb2⟩ := id hb
  obtain ⟨hc1, hc2⟩ := id hc
  have hta := turn_I64 ha
  have htb := turn_I64 hb
  have htc := turn_I64 hc
  obtain ⟨⟨h, x, e⟩, r1⟩ : ∃ r, g.Or a b = r := ⟨_, rfl⟩
  obtain ⟨⟨i, y, f⟩, r2⟩ : ∃ r, g.And (turn a) (turn b) = r := ⟨_, rfl⟩
  obtain ⟨⟨j, z, k⟩, r3⟩ : ∃ r, g.Xor a b = r := ⟨_, rfl⟩
  obtain ⟨⟨l, w, m⟩, r4⟩ : ∃ r, g.Xor (turn a) b = r := ⟨_, rfl⟩
  obtain ⟨⟨n, p, o⟩, r5⟩ : ∃ r, g.Mux c a b = r := ⟨_, rfl⟩
  obtain ⟨⟨q, r, s⟩, r6⟩ : ∃ r, g.Mux (turn c) b a = r := ⟨_, rfl⟩
  rw [r1] at h0
  simp only at h0
  subst h0
  rw [r2] at h1
  simp only at h1
  subst h1
  rw [r3] at h2
  simp only at h2
  subst h2
  rw [r4] at h3
  simp only at h3
  subst h3
  rw [r5] at h4
  simp only at h4
  subst h4
  rw [r6] at h5
  simp only at h5
  subst h5
  have ez : ((0 : Int) != 0) = false := by decide
  have hn : ((inp.length : Int) != g.ins) = true := by simpa using h6
  repeat' (first | simp (maxDischargeDepth := 9) -implicitDefEqProofs -dsimp only [go_sem, Nat.reduceEqDiff, Nat.reduceAdd, Nat.reduceSub, Nat.reduceMul, Nat.reduceLeDiff, reduceIte, reduceCtorEq, Int.reduceEq, Int.reduceLE, Int.reduceLT, Int.reduceToNat, *] | simp (disch := omega) only [wrap64, tdiv2, tmod2, and1, xor1, xor_is1, shr1, shr1'] | (with_reducible (first | apply gd_td | apply gd_fd | apply br_d | apply gd_tbl | apply gd_fbl | apply br_bl | apply gd_tnl | apply gd_fnl | apply br_nl | apply gd_tb | apply gd_fb | apply br_b | apply gd_tn | apply gd_fn | apply br_n | apply gd_t | apply gd_f | apply br_split | apply ifnil_i) <;> intro hq) | ((with_reducible refine req_i ?_ ?_); focus (first | omega | exact rfl)) | ((with_reducible refine wth_map ?_ ?_); focus omega) | ((with_reducible refine fresh_i (fun oF hoF hnF hnF' => ?_)); clear hnF hnF'; (try simp only [upd_none_s, ne_eq] at hoF)) | ((with_reducible first | apply ACalls.one1 | apply id_one); (focus (first | ((first | with_reducible refine law_live _ | with_reducible refine ref_Few g _ | with_reducible refine aig_Or g a b _ hw ha hb | with_reducible refine aig_And g (turn a) (turn b) _ hw hta htb | with_reducible refine aig_Xor g a b _ hw ha hb | with_reducible refine aig_Xor g (turn a) b _ hw hta hb | with_reducible refine aig_Mux g c a b _ hw hc ha hb | with_reducible refine aig_Mux g (turn c) b a _ hw htc hb ha) <;> (first | (simp (maxDischargeDepth := 9) -implicitDefEqProofs -dsimp only [go_sem, Nat.reduceEqDiff, Nat.reduceAdd, Nat.reduceSub, Nat.reduceMul, Nat.reduceLeDiff, reduceIte, reduceCtorEq, Int.reduceEq, Int.reduceLE, Int.reduceLT, Int.reduceToNat, *]; done) | omega)) | (with_reducible refine ACalls.flA (law_live _) ?_ <;> (first | (simp (maxDischargeDepth := 9) -implicitDefEqProofs -dsimp only [go_sem, Nat.reduceEqDiff, Nat.reduceAdd, Nat.reduceSub, Nat.reduceMul, Nat.reduceLeDiff, reduceIte, reduceCtorEq, Int.reduceEq, Int.reduceLE, Int.reduceLT, Int.reduceToNat, *]; done) | omega)) | (with_reducible refine ACalls.flA (ref_Few g _) ?_ <;> (first | (simp (maxDischargeDepth := 9) -implicitDefEqProofs -dsimp only [go_sem, Nat.reduceEqDiff, Nat.reduceAdd, Nat.reduceSub, Nat.reduceMul, Nat.reduceLeDiff, reduceIte, reduceCtorEq, Int.reduceEq, Int.reduceLE, Int.reduceLT, Int.reduceToNat, *]; done) | omega)) | (with_reducible refine ACalls.flA (aig_Or g a b _ hw ha hb) ?_ <;> (first | (simp (maxDischargeDepth := 9) -implicitDefEqProofs -dsimp only [go_sem, Nat.reduceEqDiff, Nat.reduceAdd, Nat.reduceSub, Nat.reduceMul, Nat.reduceLeDiff, reduceIte, reduceCtorEq, Int.reduceEq, Int.reduceLE, Int.reduceLT, Int.reduceToNat, *]; done) | omega)) | (with_reducible refine ACalls.flA (aig_And g (turn a) (turn b) _ hw hta htb) ?_ <;> (first | (simp (maxDischargeDepth := 9) -implicitDefEqProofs -dsimp only [go_sem, Nat.reduceEqDiff, Nat.reduceAdd, Nat.reduceSub, Nat.reduceMul, Nat.reduceLeDiff, reduceIte, reduceCtorEq, Int.reduceEq, Int.reduceLE, Int.reduceLT, Int.reduceToNat, *]; done) | omega)) | (with_reducible refine ACalls.flA (aig_Xor g a b _ hw ha hb) ?_ <;> (first | (simp (maxDischargeDepth := 9) -implicitDefEqProofs -dsimp only [go_sem, Nat.reduceEqDiff, Nat.reduceAdd, Nat.reduceSub, Nat.reduceMul, Nat.reduceLeDiff, reduceIte, reduceCtorEq, Int.reduceEq, Int.reduceLE, Int.reduceLT, Int.reduceToNat, *]; done) | omega)) | (with_reducible refine ACalls.flA (aig_Xor g (turn a) b _ hw hta hb) ?_ <;> (first | (simp (maxDischargeDepth := 9) -implicitDefEqProofs -dsimp only [go_sem, Nat.reduceEqDiff, Nat.reduceAdd, Nat.reduceSub, Nat.reduceMul, Nat.reduceLeDiff, reduceIte, reduceCtorEq, Int.reduceEq, Int.reduceLE, Int.reduceLT, Int.reduceToNat, *]; done) | omega)) | (with_reducible refine ACalls.flA (aig_Mux g c a b _ hw hc ha hb) ?_ <;> (first | (simp (maxDischargeDepth := 9) -implicitDefEqProofs -dsimp only [go_sem, Nat.reduceEqDiff, Nat.reduceAdd, Nat.reduceSub, Nat.reduceMul, Nat.reduceLeDiff, reduceIte, reduceCtorEq, Int.reduceEq, Int.reduceLE, Int.reduceLT, Int.reduceToNat, *]; done) | omega)) | (with_reducible refine ACalls.flA (aig_Mux g (turn c) b a _ hw htc hb ha) ?_ <;> (first | (simp (maxDischargeDepth := 9) -implicitDefEqProofs -dsimp only [go_sem, Nat.reduceEqDiff, Nat.reduceAdd, Nat.reduceSub, Nat.reduceMul, Nat.reduceLeDiff, reduceIte, reduceCtorEq, Int.reduceEq, Int.reduceLE, Int.reduceLT, Int.reduceToNat, *]; done) | omega)))); (focus (first | trivial | with_reducible exact rfl | (simp (maxDischargeDepth := 9) -implicitDefEqProofs -dsimp only [go_sem, Nat.reduceEqDiff, Nat.reduceAdd, Nat.reduceSub, Nat.reduceMul, Nat.reduceLeDiff, reduceIte, reduceCtorEq, Int.reduceEq, Int.reduceLE, Int.reduceLT, Int.reduceToNat]; done)))) | fail)
  all_goals first | (exfalso; omega) | (refine fin_eq ?_; (repeat' (first | simp (maxDischargeDepth := 9) -implicitDefEqProofs -dsimp only [go_sem, Nat.reduceEqDiff, Nat.reduceAdd, Nat.reduceSub, Nat.reduceMul, Nat.reduceLeDiff, reduceIte, reduceCtorEq, Int.reduceEq, Int.reduceLE, Int.reduceLT, Int.reduceToNat, *] | simp (disch := omega) only [wrap64, tdiv2, tmod2, and1, xor1, xor_is1, shr1, shr1'])) <;> (repeat' refine And.intro ?_ ?_) <;> (first | omega | rfl | assumption | skip))

set_option maxRecDepth 8000 in
set_option maxHeartbeats 2000000 in
theorem turn_out7 (g : Aig) (c a b : Int) (inp st : List Bool) (σ : Sig) (hw : Wf g) (hd : decide (g.ins ≤ 200 ∧ g.flops.length ≤ 200 ∧ g.ands.length ≤ 1000 ∧ g.outs.length ≤ 200) = true) (h0 : (g.Or a b).2.2 = 0) (h1 : (g.And (turn a) (turn b)).2.2 = 0) (h2 : (g.Xor a b).2.2 = 0) (h3 : (g.Xor (turn a) b).2.2 = 0) (h4 : (g.Mux c a b).2.2 = 0) (h5 : (g.Mux (turn c) b a).2.2 = 0) (h6 : (inp.length : Int) = g.ins) (h7 : ¬ st.length = g.flops.length) (hc : I64 c) (ha : I64 a) (hb : I64 b) :
    ACalls Try.prog 12 [encAig g, .int .i64 c, .int .i64 a, .int .i64 b, .slice (inp.map encBool) .no, .slice (st.map encBool) .no] σ (fun r σ' => r = .ret (.bool true) ∧ σ' = σ) := by
  refine calls_x mixed Try.func12 b12 n12 rfl q12 (by simp) ?_; unfold c12 r12
  obtain ⟨ha1, ha2⟩ := id ha
  obtain ⟨hb1, hb2⟩ := id hb
  obtain ⟨hc1, hc2⟩ := id hc
  have hta := turn_I64 ha
  have htb := turn_I64 hb
  have htc := turn_I64 hc
  obtain ⟨⟨h, x, e⟩, r1⟩ : ∃ r, g.Or a b = r := ⟨_, rfl⟩
  obtain ⟨⟨i, y, f⟩, r2⟩ : ∃ r, g.And (turn a) (turn b) = r := ⟨_, rfl⟩
  obtain ⟨⟨j, z, k⟩, r3⟩ : ∃ r, g.Xor a b = r := ⟨_, rfl⟩
  obtain ⟨⟨l, w, m⟩, r4⟩ : ∃ r, g.Xor (turn a) b = r := ⟨_, rfl⟩
  obtain ⟨⟨n, p, o⟩, r5⟩ : ∃ r, g.Mux c a b = r := ⟨_, rfl⟩
  obtain ⟨⟨q, r, s⟩, r6⟩ : ∃ r, g.Mux (turn c) b a = r := ⟨_, rfl⟩
  rw [r1] at h0
  simp only at h0
  subst h0
  rw [r2] at h1
  simp only at h1
  subst h1
  rw [r3] at h2
  simp only at h2
  subst h2
  rw [r4] at h3
  simp only at h3
  subst h3
  rw [r5] at h4
  simp only at h4
  subst h4
  rw [r6] at h5
  simp only at h5
  subst h5
  have ez : ((0 : Int) != 0) = false := by decide
  have hm : ((inp.length : Int) != g.ins) = false := by simpa using h6
  have hn : ((st.length : Int) != g.flops.length) = true := by simp; omega
  clear h6
  repeat' (first | simp (maxDischargeDepth := 9) -implicitDefEqProofs -dsimp only [go_sem, Nat.reduceEqDiff, Nat.reduceAdd, Nat.reduceSub, Nat.reduceMul, Nat.reduceLeDiff, reduceIte, reduceCtorEq, Int.reduceEq, Int.reduceLE, Int.reduceLT, Int.reduceToNat, *] | simp (disch := omega) only [wrap64, tdiv2, tmod2, and1, xor1, xor_is1, shr1, shr1'] | (with_reducible (first | apply gd_td | apply gd_fd | apply br_d | apply gd_tbl | apply gd_fbl | apply br_bl | apply gd_tnl | apply gd_fnl | apply br_nl | apply gd_tb | apply gd_fb | apply br_b | apply gd_tn | apply gd_fn | apply br_n | apply gd_t | apply gd_f | apply br_split | apply ifnil_i) <;> intro hq) | ((with_reducible refine req_i ?_ ?_); focus (first | omega | exact rfl)) | ((with_reducible refine wth_map ?_ ?_); focus omega) | ((with_reducible refine fresh_i (fun oF hoF hnF hnF' => ?_)); clear hnF hnF'; (try simp only [upd_none_s, ne_eq] at hoF)) | ((with_reducible first | apply ACalls.one1 | apply id_one); (focus (first | ((first | with_reducible refine law_live _ | with_reducible refine ref_Few g _ | with_reducible refine aig_Or g a b _ hw ha hb | with_reducible refine aig_And g (turn a) (turn b) _ hw hta htb | with_reducible refine aig_Xor g a b _ hw ha hb | with_reducible refine aig_Xor g (turn a) b _ hw hta hb | with_reducible refine aig_Mux g c a b _ hw hc ha hb | with_reducible refine aig_Mux g (turn c) b a _ hw htc hb ha) <;> (first | (simp (maxDischargeDepth := 9) -implicitDefEqProofs -dsimp only [go_sem, Nat.reduceEqDiff, Nat.reduceAdd, Nat.reduceSub, Nat.reduceMul, Nat.reduceLeDiff, reduceIte, reduceCtorEq, Int.reduceEq, Int.reduceLE, Int.reduceLT, Int.reduceToNat, *]; done) | omega)) | (with_reducible refine ACalls.flA (law_live _) ?_ <;> (first | (simp (maxDischargeDepth := 9) -implicitDefEqProofs -dsimp only [go_sem, Nat.reduceEqDiff, Nat.reduceAdd, Nat.reduceSub, Nat.reduceMul, Nat.reduceLeDiff, reduceIte, reduceCtorEq, Int.reduceEq, Int.reduceLE, Int.reduceLT, Int.reduceToNat, *]; done) | omega)) | (with_reducible refine ACalls.flA (ref_Few g _) ?_ <;> (first | (simp (maxDischargeDepth := 9) -implicitDefEqProofs -dsimp only [go_sem, Nat.reduceEqDiff, Nat.reduceAdd, Nat.reduceSub, Nat.reduceMul, Nat.reduceLeDiff, reduceIte, reduceCtorEq, Int.reduceEq, Int.reduceLE, Int.reduceLT, Int.reduceToNat, *]; done) | omega)) | (with_reducible refine ACalls.flA (aig_Or g a b _ hw ha hb) ?_ <;> (first | (simp (maxDischargeDepth := 9) -implicitDefEqProofs -dsimp only [go_sem, Nat.reduceEqDiff, Nat.reduceAdd, Nat.reduceSub, Nat.reduceMul, Nat.reduceLeDiff, reduceIte, reduceCtorEq, Int.reduceEq, Int.reduceLE, Int.reduceLT, Int.reduceToNat, *]; done) | omega)) | (with_reducible refine ACalls.flA (aig_And g (turn a) (turn b) _ hw hta htb) ?_ <;> (first | (simp (maxDischargeDepth := 9) -implicitDefEqProofs -dsimp only [go_sem, Nat.reduceEqDiff, Nat.reduceAdd, Nat.reduceSub, Nat.reduceMul, Nat.reduceLeDiff, reduceIte, reduceCtorEq, Int.reduceEq, Int.reduceLE, Int.reduceLT, Int.reduceToNat, *]; done) | omega)) | (with_reducible refine ACalls.flA (aig_Xor g a b _ hw ha hb) ?_ <;> (first | (simp (maxDischargeDepth := 9) -implicitDefEqProofs -dsimp only [go_sem, Nat.reduceEqDiff, Nat.reduceAdd, Nat.reduceSub, Nat.reduceMul, Nat.reduceLeDiff, reduceIte, reduceCtorEq, Int.reduceEq, Int.reduceLE, Int.reduceLT, Int.reduceToNat, *]; done) | omega)) | (with_reducible refine ACalls.flA (aig_Xor g (turn a) b _ hw hta hb) ?_ <;> (first | (simp (maxDischargeDepth := 9) -implicitDefEqProofs -dsimp only [go_sem, Nat.reduceEqDiff, Nat.reduceAdd, Nat.reduceSub, Nat.reduceMul, Nat.reduceLeDiff, reduceIte, reduceCtorEq, Int.reduceEq, Int.reduceLE, Int.reduceLT, Int.reduceToNat, *]; done) | omega)) | (with_reducible refine ACalls.flA (aig_Mux g c a b _ hw hc ha hb) ?_ <;> (first | (simp (maxDischargeDepth := 9) -implicitDefEqProofs -dsimp only [go_sem, Nat.reduceEqDiff, Nat.reduceAdd, Nat.reduceSub, Nat.reduceMul, Nat.reduceLeDiff, reduceIte, reduceCtorEq, Int.reduceEq, Int.reduceLE, Int.reduceLT, Int.reduceToNat, *]; done) | omega)) | (with_reducible refine ACalls.flA (aig_Mux g (turn c) b a _ hw htc hb ha) ?_ <;> (first | (simp (maxDischargeDepth := 9) -implicitDefEqProofs -dsimp only [go_sem, Nat.reduceEqDiff, Nat.reduceAdd, Nat.reduceSub, Nat.reduceMul, Nat.reduceLeDiff, reduceIte, reduceCtorEq, Int.reduceEq, Int.reduceLE, Int.reduceLT, Int.reduceToNat, *]; done) | omega)))); (focus (first | trivial | with_reducible exact rfl | (simp (maxDischargeDepth := 9) -implicitDefEqProofs -dsimp only [go_sem, Nat.reduceEqDiff, Nat.reduceAdd, Nat.reduceSub, Nat.reduceMul, Nat.reduceLeDiff, reduceIte, reduceCtorEq, Int.reduceEq, Int.reduceLE, Int.reduceLT, Int.reduceToNat]; done)))) | fail)
  all_goals first | (exfalso; omega) | (refine fin_eq ?_; (repeat' (first | simp (maxDischargeDepth := 9) -implicitDefEqProofs -dsimp only [go_sem, Nat.reduceEqDiff, Nat.reduceAdd, Nat.reduceSub, Nat.reduceMul, Nat.reduceLeDiff, reduceIte, reduceCtorEq, Int.reduceEq, Int.reduceLE, Int.reduceLT, Int.reduceToNat, *] | simp (disch := omega) only [wrap64, tdiv2, tmod2, and1, xor1, xor_is1, shr1, shr1'])) <;> (repeat' refine And.intro ?_ ?_) <;> (first | omega | rfl | assumption | skip))

theorem turn_ok (g : Aig) (c a b : Int) (inp st : List Bool) (σ : Sig) (hs : g.ins ≤ 200 ∧ g.flops.length ≤ 200 ∧ g.ands.length ≤ 1000 ∧ g.outs.length ≤ 200 → Wf g) (hc : I64 c) (ha : I64 a) (hb : I64 b) :
    ACalls Try.prog 12 [encAig g, .int .i64 c, .int .i64 a, .int .i64 b, .slice (inp.map encBool) .no, .slice (st.map encBool) .no] σ (fun r σ' => r = .ret (.bool true) ∧ σ' = σ) := by
  by_cases hf : g.ins ≤ 200 ∧ g.flops.length ≤ 200 ∧ g.ands.length ≤ 1000 ∧ g.outs.length ≤ 200
  · have hd : decide (g.ins ≤ 200 ∧ g.flops.length ≤ 200 ∧ g.ands.length ≤ 1000 ∧ g.outs.length ≤ 200) = true := by simpa using hf
    by_cases h0 : (g.Or a b).2.2 = 0
    case neg => exact turn_out0 g c a b inp st σ (hs hf) hd h0 hc ha hb
    by_cases h1 : (g.And (turn a) (turn b)).2.2 = 0
    case neg => exact turn_out1 g c a b inp st σ (hs hf) hd h0 h1 hc ha hb
    by_cases h2 : (g.Xor a b).2.2 = 0
    case neg => exact turn_out2 g c a b inp st σ (hs hf) hd h0 h1 h2 hc ha hb
    by_cases h3 : (g.Xor (turn a) b).2.2 = 0
    case neg => exact turn_out3 g c a b inp st σ (hs hf) hd h0 h1 h2 h3 hc ha hb
    by_cases h4 : (g.Mux c a b).2.2 = 0
    case neg => exact turn_out4 g c a b inp st σ (hs hf) hd h0 h1 h2 h3 h4 hc ha hb
    by_cases h5 : (g.Mux (turn c) b a).2.2 = 0
    case neg => exact turn_out5 g c a b inp st σ (hs hf) hd h0 h1 h2 h3 h4 h5 hc ha hb
    by_cases h6 : (inp.length : Int) = g.ins
    case neg => exact turn_out6 g c a b inp st σ (hs hf) hd h0 h1 h2 h3 h4 h5 h6 hc ha hb
    by_cases h7 : st.length = g.flops.length
    case neg => exact turn_out7 g c a b inp st σ (hs hf) hd h0 h1 h2 h3 h4 h5 h6 h7 hc ha hb
    exact turn_pos g c a b inp st σ (hs hf) hd ⟨h0, h1, h2, h3, h4, h5, h6, h7⟩ hc ha hb
  · refine calls_x mixed Try.func12 b12 n12 rfl q12 (by simp) ?_; unfold c12 r12
    have hd : decide (g.ins ≤ 200 ∧ g.flops.length ≤ 200 ∧ g.ands.length ≤ 1000 ∧ g.outs.length ≤ 200) = false := by simpa using hf
    clear hf hs
    repeat' (first | simp (maxDischargeDepth := 9) -implicitDefEqProofs -dsimp only [go_sem, Nat.reduceEqDiff, Nat.reduceAdd, Nat.reduceSub, Nat.reduceMul, Nat.reduceLeDiff, reduceIte, reduceCtorEq, Int.reduceEq, Int.reduceLE, Int.reduceLT, Int.reduceToNat, *] | simp (disch := omega) only [wrap64, tdiv2, tmod2, and1, xor1, xor_is1, shr1, shr1'] | (with_reducible (first | apply gd_td | apply gd_fd | apply br_d | apply gd_tbl | apply gd_fbl | apply br_bl | apply gd_tnl | apply gd_fnl | apply br_nl | apply gd_tb | apply gd_fb | apply br_b | apply gd_tn | apply gd_fn | apply br_n | apply gd_t | apply gd_f | apply br_split | apply ifnil_i) <;> intro hq) | ((with_reducible refine req_i ?_ ?_); focus (first | omega | exact rfl)) | ((with_reducible refine wth_map ?_ ?_); focus omega) | ((with_reducible refine fresh_i (fun oF hoF hnF hnF' => ?_)); clear hnF hnF'; (try simp only [upd_none_s, ne_eq] at hoF)) | ((with_reducible first | apply ACalls.one1 | apply id_one); (focus (first | ((first | with_reducible refine law_live _ | with_reducible refine ref_Few g _) <;> (first | (simp (maxDischargeDepth := 9) -implicitDefEqProofs -dsimp only [go_sem, Nat.reduceEqDiff, Nat.reduceAdd, Nat.reduceSub, Nat.reduceMul, Nat.reduceLeDiff, reduceIte, reduceCtorEq, Int.reduceEq, Int.reduceLE, Int.reduceLT, Int.reduceToNat, *]; done) | omega)) | (with_reducible refine ACalls.flA (law_live _) ?_ <;> (first | (simp (maxDischargeDepth := 9) -implicitDefEqProofs -dsimp only [go_sem, Nat.reduceEqDiff, Nat.reduceAdd, Nat.reduceSub, Nat.reduceMul, Nat.reduceLeDiff, reduceIte, reduceCtorEq, Int.reduceEq, Int.reduceLE, Int.reduceLT, Int.reduceToNat, *]; done) | omega)) | (with_reducible refine ACalls.flA (ref_Few g _) ?_ <;> (first | (simp (maxDischargeDepth := 9) -implicitDefEqProofs -dsimp only [go_sem, Nat.reduceEqDiff, Nat.reduceAdd, Nat.reduceSub, Nat.reduceMul, Nat.reduceLeDiff, reduceIte, reduceCtorEq, Int.reduceEq, Int.reduceLE, Int.reduceLT, Int.reduceToNat, *]; done) | omega)))); (focus (first | trivial | with_reducible exact rfl | (simp (maxDischargeDepth := 9) -implicitDefEqProofs -dsimp only [go_sem, Nat.reduceEqDiff, Nat.reduceAdd, Nat.reduceSub, Nat.reduceMul, Nat.reduceLeDiff, reduceIte, reduceCtorEq, Int.reduceEq, Int.reduceLE, Int.reduceLT, Int.reduceToNat]; done)))) | fail)
    refine fin_eq ?_
    (repeat' (first | simp (maxDischargeDepth := 9) -implicitDefEqProofs -dsimp only [go_sem, Nat.reduceEqDiff, Nat.reduceAdd, Nat.reduceSub, Nat.reduceMul, Nat.reduceLeDiff, reduceIte, reduceCtorEq, Int.reduceEq, Int.reduceLE, Int.reduceLT, Int.reduceToNat, *] | simp (disch := omega) only [wrap64, tdiv2, tmod2, and1, xor1, xor_is1, shr1, shr1'])) <;> (repeat' refine And.intro ?_ ?_) <;> (first | omega | rfl | assumption | skip)

end Go.Proofs.Ytlgjokognnbhiaa
