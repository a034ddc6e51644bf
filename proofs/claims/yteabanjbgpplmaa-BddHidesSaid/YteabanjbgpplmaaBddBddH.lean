/- bdd: contract of put. -/
-- NODRAW
import Derived.Test.YteabanjbgpplmaaBddBddG
import Derived.KernelRfl
set_option linter.unusedSimpArgs false
set_option linter.unusedVariables false
namespace Go.Proofs.Yteabanjbgpplmaa
open Abs Fil Fil.Bd

theorem und27 : Try.prog.underlying 27 = some (.int .i64) := by kernel_rfl
theorem zero27 : zeroOf Try.prog 27 = some [.int .i64 0] := by kernel_rfl

theorem put1_def (args : List AV) (σ : Sig) (k : Sig → Prop) (hk : k σ) : ADef Try.prog 58 args σ k := by
  refine ⟨by kernel_rfl, fun S K w vals hS hrel hs => ?_⟩
  refine callsD_of_wpS (fn := Try.f58) Try.func58 rfl fun c₀ cs hm => ?_
  obtain ⟨z, hz, _⟩ := run_zeroValue' (K := K) zero27 w
  have hlen : ∀ v : Array Value, (v ++ Array.replicate (Try.f58.ntmps - v.size) undef).size ≥ 13 := fun v => by
    simp [Try.f58]; omega
  have htmp := hlen vals
  generalize vals ++ Array.replicate (Try.f58.ntmps - vals.size) undef = tmps at htmp ⊢
  have hrec : recoverD (c₀ :: cs) = none := by simp [recoverD, hm]
  have hta : (Instr.typeAssert .nilIface 20 27 true).run Try.prog w = .ok (.tuple #[z, .bool false]) w := by
    simp [Instr.typeAssert, run_underlying und27, hz]
  refine wpS_seq (wpS_region ?_)
  change wpOpsS Try.prog _ _ [0, 1, 2, 3, 4, 5, 6] _ _ _
  have h3 : 3 < tmps.size := by omega
  have h4 : 4 < tmps.size := by omega
  have h5 : 5 < tmps.size := by omega
  have h6 : 6 < tmps.size := by omega
  have h7 : 7 < tmps.size := by omega
  have h8 : 8 < tmps.size := by omega
  have h9 : 9 < tmps.size := by omega
  have h10 : 10 < tmps.size := by omega
  simp [wpOpsS, Region.wanted, execOp, resolve, invoke, Go.builtin, hrec, Act.eval, Act.put, hta, Oper.upon, Instr.extract, h3, h4, h5, h6, h7, h8, h9, h10, Exit.thenS]
  refine wpS_seq (wpS_region ?_)
  change wpOpsS Try.prog _ _ [0] _ _ _
  simp [wpOpsS, Region.wanted, execOp, Act.eval, Act.put, Oper.upon, h3, h4, h5, h6, h7, h8, h9, h10, Exit.thenS]
  refine wpS_cond (t := false) (by simp [Act.eval, h10]) ?_
  refine wpS_of_wp (wp_skip ?_)
  refine ⟨rfl, .returning, by simp [← hm], .tuple #[], ?_, ⟨_, rfl⟩, rfl, K, Gh.leS.refl K, σ, hs, hk⟩
  rw [results_eq]
  simp [Try.f58]

theorem calls_dx {f : FuncId} {fn : Func} {N : Nat} {rs : List ARV} {a b e : ACode} {t : Nat} {g : Nat} {l m : List AOpnd} {d : Nat} {args : List AV} {σ : Sig} {R : ARes → Sig → Prop}
    (hfn : Try.prog.funcs[f]? = some fn) (hb : fn.body.bind (dfrOf Try.prog N) = some (a.bare, b.bare, (⟨some t, .mkfn g l m, none⟩ : AInst).bare, d, e.bare)) (hname : (fn.name == "runtime.NumGoroutine") = false) (hN : fn.ntmps = N)
    (hr : trRes Try.prog fn.results.toList = some rs) (hargs : args.length ≤ N)
    (h : XC Try.prog a (thenQ (fun env σ => XC Try.prog b (thenQ (fun env σ => XI Try.prog (thenQ (fun env σ => exDfr Try.prog rs R d e env σ) (bodyQ rs R)) [⟨some t, .mkfn g l m, none⟩] env σ) (bodyQ rs R)) env σ) (bodyQ rs R)) (argEnv 0 args) σ) :
    ACalls Try.prog f args σ R := calls_of_defer mixed hfn hb hname hN hr hargs h

theorem ex_dfr {rs : List ARV} {R : ARes → Sig → Prop} {d : Nat} {e : ACode} {env : Env} {σ : Sig} : exDfr Try.prog rs R d e env σ = wth (lk env d) fun v => match v with
    | .fn g first caps => XC Try.prog e (dfrQ Try.prog rs R g (first ++ caps)) env σ
    | _ => False := rfl

theorem dfr_ret {rs : List ARV} {R : ARes → Sig → Prop} {args : List AV} {env : Env} {σ : Sig} (h : bodyQ rs R .ret env σ) : dfrQ Try.prog rs R 58 args .ret env σ := put1_def _ _ _ h

theorem bdd_put_no (p : AV) (e : Int) (mk : AV) (σ : Sig) (h0 : e ≠ 0) :
    ACalls Try.prog 40 [p, .int .i64 e, mk] σ (fun r σ' => r = .ret (.tup [encB 0 [], .int .i64 0, .int .i64 e]) ∧ σ' = σ) := by
  refine calls_dx Try.func40 b40 n40 rfl q40 (by simp) ?_
  have hb : (e != 0) = true := by simpa using h0
  unfold ca40 cb40 r40
  repeat' (first | simp (maxDischargeDepth := 9) -implicitDefEqProofs -dsimp only [go_sem, Nat.reduceEqDiff, Nat.reduceAdd, Nat.reduceSub, Nat.reduceMul, Nat.reduceLeDiff, reduceIte, reduceCtorEq, Int.reduceEq, Int.reduceLE, Int.reduceLT, Int.reduceToNat, *] | simp (disch := omega) only [wrap64, tdiv2, tmod2, and1, xor1, xor_is1, shr1, shr1'] | (with_reducible (first | apply gd_td | apply gd_fd | apply br_d | apply gd_tbl | apply gd_fbl | apply br_bl | apply gd_tnl | apply gd_fnl | apply br_nl | apply gd_tb | apply gd_fb | apply br_b | apply gd_tn | apply gd_fn | apply br_n | apply gd_t | apply gd_f | apply br_split | apply ifnil_i) <;> intro hq) | ((with_reducible refine req_i ?_ ?_); focus (first | omega | exact rfl)) | ((with_reducible refine wth_map ?_ ?_); focus omega) | ((with_reducible refine fresh_i (fun oF hoF hnF hnF' => ?_)); (try simp only [upd_none, ne_eq, not_and] at hoF)) | fail)
  refine fin_eq ?_
  (repeat' (first | simp (maxDischargeDepth := 9) -implicitDefEqProofs -dsimp only [go_sem, Nat.reduceEqDiff, Nat.reduceAdd, Nat.reduceSub, Nat.reduceMul, Nat.reduceLeDiff, reduceIte, reduceCtorEq, Int.reduceEq, Int.reduceLE, Int.reduceLT, Int.reduceToNat, *] | simp (disch := omega) only [wrap64, tdiv2, tmod2, and1, xor1, xor_is1, shr1, shr1'])) <;> (repeat' refine And.intro ?_ ?_) <;> (first | omega | rfl | assumption | skip)

theorem bdd_put_ok (m t a d : Nat) (vars : Int) (s : Mac) (n : Int) (mk : Nat) (caps : List AV) (σ : Sig) (hne : Apart m t a d) (hm : ¬ σ m = none) (ht : ¬ σ t = none) (ha : ¬ σ a = none) (hd : ¬ σ d = none)
    (hmk : ∀ τ, Sub σ τ → ACalls Try.prog mk caps τ (fun r τ' => r = .ret (.int .i64 n) ∧ τ' = upd (upd (upd (upd τ m (machT vars s.forks (.own t) a d)) t (.grow 3 s.forks.length)) a (.map true (encM s.at_))) d (.map true (encM s.done)))) :
    ACalls Try.prog 40 [.ptr m 0, .int .i64 0, .fn mk [] caps] σ (fun r σ' => r = .ret (.tup [encB vars s.forks, .int .i64 n, .int .i64 0]) ∧
      σ' = upd (upd (upd (upd σ m (machT vars s.forks (.own t) a d)) t (.grow 3 s.forks.length)) a (.map true (encM s.at_))) d (.map true (encM s.done))) := by
  refine calls_dx Try.func40 b40 n40 rfl q40 (by simp) ?_
  have ez : ((0 : Int) != 0) = false := by decide
  unfold ca40 cb40 r40 ce40
  obtain ⟨e1, e2, e3, e4, e5, e6, f1, f2, f3, f4, f5, f6⟩ := hne
  repeat' (first | simp (maxDischargeDepth := 9) -implicitDefEqProofs -dsimp only [go_sem, Nat.reduceEqDiff, Nat.reduceAdd, Nat.reduceSub, Nat.reduceMul, Nat.reduceLeDiff, reduceIte, reduceCtorEq, Int.reduceEq, Int.reduceLE, Int.reduceLT, Int.reduceToNat, *] | simp (disch := omega) only [wrap64, tdiv2, tmod2, and1, xor1, xor_is1, shr1, shr1'] | (with_reducible (first | apply gd_td | apply gd_fd | apply br_d | apply gd_tbl | apply gd_fbl | apply br_bl | apply gd_tnl | apply gd_fnl | apply br_nl | apply gd_tb | apply gd_fb | apply br_b | apply gd_tn | apply gd_fn | apply br_n | apply gd_t | apply gd_f | apply br_split | apply ifnil_i) <;> intro hq) | ((with_reducible refine req_i ?_ ?_); focus (first | omega | exact rfl)) | ((with_reducible refine wth_map ?_ ?_); focus omega) | ((with_reducible refine fresh_i (fun oF hoF hnF hnF' => ?_)); (try simp only [upd_none, ne_eq, not_and] at hoF)) | fail)
  rename_i o6 h6 g6 g6' o7 g7 g7' h7
  rw [ex_dfr]
  repeat' (first | simp (maxDischargeDepth := 9) -implicitDefEqProofs -dsimp only [go_sem, Nat.reduceEqDiff, Nat.reduceAdd, Nat.reduceSub, Nat.reduceMul, Nat.reduceLeDiff, reduceIte, reduceCtorEq, Int.reduceEq, Int.reduceLE, Int.reduceLT, Int.reduceToNat, *] | simp (disch := omega) only [wrap64, tdiv2, tmod2, and1, xor1, xor_is1, shr1, shr1'] | (with_reducible (first | apply gd_td | apply gd_fd | apply br_d | apply gd_tbl | apply gd_fbl | apply br_bl | apply gd_tnl | apply gd_fnl | apply br_nl | apply gd_tb | apply gd_fb | apply br_b | apply gd_tn | apply gd_fn | apply br_n | apply gd_t | apply gd_f | apply br_split | apply ifnil_i) <;> intro hq) | ((with_reducible refine req_i ?_ ?_); focus (first | omega | exact rfl)) | ((with_reducible refine wth_map ?_ ?_); focus omega) | ((with_reducible refine fresh_i (fun oF hoF hnF hnF' => ?_)); (try simp only [upd_none, ne_eq, not_and] at hoF)) | fail)
  refine ACalls.one (hmk _ ?_) ?_
  · refine (Sub.upd_fresh h6).trans ((Sub.upd_fresh ?_).trans (Sub.upd_fresh ?_))
    · simp only [upd_none, ne_eq]; exact h7
    · simp only [upd_none, ne_eq]; exact hoF
  repeat' (first | simp (maxDischargeDepth := 9) -implicitDefEqProofs -dsimp only [go_sem, Nat.reduceEqDiff, Nat.reduceAdd, Nat.reduceSub, Nat.reduceMul, Nat.reduceLeDiff, reduceIte, reduceCtorEq, Int.reduceEq, Int.reduceLE, Int.reduceLT, Int.reduceToNat, *] | simp (disch := omega) only [wrap64, tdiv2, tmod2, and1, xor1, xor_is1, shr1, shr1'] | (with_reducible (first | apply gd_td | apply gd_fd | apply br_d | apply gd_tbl | apply gd_fbl | apply br_bl | apply gd_tnl | apply gd_fnl | apply br_nl | apply gd_tb | apply gd_fb | apply br_b | apply gd_tn | apply gd_fn | apply br_n | apply gd_t | apply gd_f | apply br_split | apply ifnil_i) <;> intro hq) | ((with_reducible refine req_i ?_ ?_); focus (first | omega | exact rfl)) | ((with_reducible refine wth_map ?_ ?_); focus omega) | ((with_reducible refine fresh_i (fun oF hoF hnF hnF' => ?_)); (try simp only [upd_none, ne_eq, not_and] at hoF)) | fail)
  refine dfr_ret ?_
  repeat' (first | simp (maxDischargeDepth := 9) -implicitDefEqProofs -dsimp only [go_sem, Nat.reduceEqDiff, Nat.reduceAdd, Nat.reduceSub, Nat.reduceMul, Nat.reduceLeDiff, reduceIte, reduceCtorEq, Int.reduceEq, Int.reduceLE, Int.reduceLT, Int.reduceToNat, *] | simp (disch := omega) only [wrap64, tdiv2, tmod2, and1, xor1, xor_is1, shr1, shr1'] | (with_reducible (first | apply gd_td | apply gd_fd | apply br_d | apply gd_tbl | apply gd_fbl | apply br_bl | apply gd_tnl | apply gd_fnl | apply br_nl | apply gd_tb | apply gd_fb | apply br_b | apply gd_tn | apply gd_fn | apply br_n | apply gd_t | apply gd_f | apply br_split | apply ifnil_i) <;> intro hq) | ((with_reducible refine req_i ?_ ?_); focus (first | omega | exact rfl)) | ((with_reducible refine wth_map ?_ ?_); focus omega) | ((with_reducible refine fresh_i (fun oF hoF hnF hnF' => ?_)); (try simp only [upd_none, ne_eq, not_and] at hoF)) | fail)
  refine fin_eq ?_
  (repeat' (first | simp (maxDischargeDepth := 9) -implicitDefEqProofs -dsimp only [go_sem, Nat.reduceEqDiff, Nat.reduceAdd, Nat.reduceSub, Nat.reduceMul, Nat.reduceLeDiff, reduceIte, reduceCtorEq, Int.reduceEq, Int.reduceLE, Int.reduceLT, Int.reduceToNat, *] | simp (disch := omega) only [wrap64, tdiv2, tmod2, and1, xor1, xor_is1, shr1, shr1'])) <;> (repeat' refine And.intro ?_ ?_) <;> (first | omega | rfl | assumption | skip)

end Go.Proofs.Yteabanjbgpplmaa
