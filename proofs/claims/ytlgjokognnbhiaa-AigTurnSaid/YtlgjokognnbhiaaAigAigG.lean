/- aig: a literal's value. -/
-- DEPTH 20
import Derived.Test.YtlgjokognnbhiaaAigAigX
import Derived.Test.YtlgjokognnbhiaaAigAigL
import Derived.Test.YtlgjokognnbhiaaAigVal
set_option linter.unusedSimpArgs false
set_option linter.unusedVariables false
namespace Go.Proofs.Ytlgjokognnbhiaa
open Abs Fil

theorem upd_none_s (σ : Sig) (o o' : Nat) (x : AObj) : (upd σ o x o' = none) = ((o' ≠ o ∧ o ≠ o') ∧ σ o' = none) := by
  rw [upd_none, and_assoc]
  exact propext ⟨fun h => ⟨h.1, h.1.symm, h.2⟩, fun h => ⟨h.1, h.2.2⟩⟩

theorem law_value (g : Aig) (a : Int) (inp st : List Bool) (σ : Sig) (hs : Wf g) (hc : g.check = 0) (l1 : (inp.length : Int) = g.ins) (l2 : st.length = g.flops.length) (hl : Aig.litN (1 + g.count) a = true) :
    ACalls Try.prog 46 [encAig g, .int .i64 a, .slice (inp.map encBool) .no, .slice (st.map encBool) .no] σ (fun r σ' => r = .ret (.bool (g.value a inp st)) ∧ σ' = σ) := by
  refine calls_x mixed Try.func46 b46 n46 rfl q46 (by simp) ?_; unfold c46 r46
  have hn := nodes_eq hc l1 l2
  have hf := check_fine hs hc
  have hcn := hf.cnt
  have hb : (((inp ++ st).length + 1 : Nat) : Int) = g.first := by rw [List.length_append]; unfold Aig.first; omega
  have ln := V_length hf hb
  obtain ⟨p1, p2⟩ := litN_iff.1 hl
  have hv : g.value a inp st = Aig.val (Aig.vals (false :: (inp ++ st)) g.ands) a := rfl
  rw [hv]
  clear hv hb l1 l2
  obtain ⟨v, hv⟩ : ∃ v, Aig.vals (false :: (inp ++ st)) g.ands = v := ⟨_, rfl⟩
  rw [hv] at hn ln ⊢
  have i1 : (a / 2).toNat < v.length := by omega
  have i2 : v.length ≤ 1000000000 := by omega
  repeat' (first | simp (maxDischargeDepth := 20) -implicitDefEqProofs -dsimp only [go_sem, Nat.reduceEqDiff, Nat.reduceAdd, Nat.reduceSub, Nat.reduceMul, Nat.reduceLeDiff, reduceIte, reduceCtorEq, Int.reduceEq, Int.reduceLE, Int.reduceLT, Int.reduceToNat, *] | simp (disch := omega) only [wrap64, tdiv2, tmod2, and1, xor1, xor_is1, shr1, shr1'] | (with_reducible (first | apply gd_td | apply gd_fd | apply br_d | apply gd_tbl | apply gd_fbl | apply br_bl | apply gd_tnl | apply gd_fnl | apply br_nl | apply gd_tb | apply gd_fb | apply br_b | apply gd_tn | apply gd_fn | apply br_n | apply gd_t | apply gd_f | apply br_split | apply ifnil_i) <;> intro hq) | ((with_reducible refine req_i ?_ ?_); focus (first | omega | exact rfl)) | ((with_reducible refine wth_map ?_ ?_); focus omega) | ((with_reducible refine fresh_i (fun oF hoF hnF hnF' => ?_)); (try simp only [upd_none, ne_eq, not_and] at hoF)) | ((with_reducible first | apply ACalls.one1 | apply id_one); (focus (first | ((first | with_reducible refine aig_Nodes g inp st _ hs | with_reducible refine ref_Value v a _ p1 i1 i2) <;> (first | (simp (maxDischargeDepth := 20) -implicitDefEqProofs -dsimp only [go_sem, Nat.reduceEqDiff, Nat.reduceAdd, Nat.reduceSub, Nat.reduceMul, Nat.reduceLeDiff, reduceIte, reduceCtorEq, Int.reduceEq, Int.reduceLE, Int.reduceLT, Int.reduceToNat, *]; done) | omega)) | (with_reducible refine ACalls.flA (aig_Nodes g inp st _ hs) ?_ <;> (first | (simp (maxDischargeDepth := 20) -implicitDefEqProofs -dsimp only [go_sem, Nat.reduceEqDiff, Nat.reduceAdd, Nat.reduceSub, Nat.reduceMul, Nat.reduceLeDiff, reduceIte, reduceCtorEq, Int.reduceEq, Int.reduceLE, Int.reduceLT, Int.reduceToNat, *]; done) | omega)) | (with_reducible refine ACalls.flA (ref_Value v a _ p1 i1 i2) ?_ <;> (first | (simp (maxDischargeDepth := 20) -implicitDefEqProofs -dsimp only [go_sem, Nat.reduceEqDiff, Nat.reduceAdd, Nat.reduceSub, Nat.reduceMul, Nat.reduceLeDiff, reduceIte, reduceCtorEq, Int.reduceEq, Int.reduceLE, Int.reduceLT, Int.reduceToNat, *]; done) | omega)))); (focus (first | trivial | with_reducible exact rfl | (simp (maxDischargeDepth := 20) -implicitDefEqProofs -dsimp only [go_sem, Nat.reduceEqDiff, Nat.reduceAdd, Nat.reduceSub, Nat.reduceMul, Nat.reduceLeDiff, reduceIte, reduceCtorEq, Int.reduceEq, Int.reduceLE, Int.reduceLT, Int.reduceToNat]; done)))) | fail)
  all_goals first | (exfalso; omega) | (refine fin_eq ?_; (repeat' (first | simp (maxDischargeDepth := 20) -implicitDefEqProofs -dsimp only [go_sem, Nat.reduceEqDiff, Nat.reduceAdd, Nat.reduceSub, Nat.reduceMul, Nat.reduceLeDiff, reduceIte, reduceCtorEq, Int.reduceEq, Int.reduceLE, Int.reduceLT, Int.reduceToNat, *] | simp (disch := omega) only [wrap64, tdiv2, tmod2, and1, xor1, xor_is1, shr1, shr1'])) <;> (repeat' refine And.intro ?_ ?_) <;> (first | omega | rfl | assumption | skip))

end Go.Proofs.Ytlgjokognnbhiaa
