/- What the operations of layer 18 tell. -/
import Derived.Test.YtjichkelfhcbcaaAbsW
import Derived.KernelRfl
import Derived.Test.YtjichkelfhcbcaaBddOps
set_option linter.unusedSimpArgs false
set_option linter.unusedVariables false
namespace Go.Proofs.Ytjichkelfhcbcaa.B
open Abs Fil Fil.Bd
theorem sl_indexInt (p : Int → Bool) (l : List Int) (hl : l.length ≤ 1000000000000) (σ : Sig) {F : Nat} {caps : List AV} (hF : ∀ x ∈ l, ACalls Try.prog F (encInt x :: caps) σ (fun r σ' => r = .ret (.bool (p x)) ∧ σ' = σ)) :
    ACalls Try.prog 114 [.slice (l.map encInt) .no, .fn F [] caps] σ (fun r σ' => r = .ret (.int .i64 (idxF p l)) ∧ σ' = σ) :=
  lib_indexFunc (sz := 1) (g := false) mixed Try.func114 b114 n114 rfl q114 (fun _ => rfl) (fun _ => rfl) p l hl hF
theorem sl_containsInt (p : Int → Bool) (l : List Int) (hl : l.length ≤ 1000000000000) (σ : Sig) {F : Nat} {caps : List AV} (hF : ∀ x ∈ l, ACalls Try.prog F (encInt x :: caps) σ (fun r σ' => r = .ret (.bool (p x)) ∧ σ' = σ)) :
    ACalls Try.prog 90 [.slice (l.map encInt) .no, .fn F [] caps] σ (fun r σ' => r = .ret (.bool (l.any p)) ∧ σ' = σ) :=
  lib_containsFunc mixed Try.func90 b90 n90 rfl q90 p l (sl_indexInt p l hl σ hF)
theorem Zw (σ : Sig) (o o' : Nat) (x : AObj) : (upd σ o x o' = none) = (¬ o' = o ∧ ¬ o = o' ∧ σ o' = none) := by
  simp only [upd]
  by_cases h : o' = o
  · simp [h]
  · have : ¬ o = o' := fun e => h e.symm
    simp [h, this]
theorem newMac4 {f : FuncId} {args : List AV} {σ : Sig} {vars : Int} {F : List T3} {R : ARes → Sig → Prop} (h : ACalls Try.prog f args σ (NewMac σ vars F))
    (hR : ∀ m t a d, Apart m t a d → σ m = none → σ t = none → σ a = none → σ d = none →
      R (.ret (.tup [.ptr m 0, .int .i64 0])) (upd (upd (upd (upd σ m (machT vars F (.own t) a d)) t (.grow 3 F.length)) a (.map true (encM (mac F).at_))) d (.map true []))) : ACalls Try.prog f args σ R :=
  h.mono fun r s ⟨m, t, a, d, q1, q2, q3, q4, hne, e1, e2⟩ => by
    subst e1 e2
    exact hR m t a d hne q1 q2 q3 q4
theorem newMac {f : FuncId} {args : List AV} {σ : Sig} {vars : Int} {F : List T3} {R : ARes → Sig → Prop} (h : ACalls Try.prog f args σ (NewMac σ vars F))
    (hR : ∀ m t a d, Apart m t a d → σ m = none → σ t = none → σ a = none → σ d = none → (∀ o', ¬ σ o' = none → ¬ o' = m) → (∀ o', ¬ σ o' = none → ¬ m = o') → (∀ o', ¬ σ o' = none → ¬ o' = t) → (∀ o', ¬ σ o' = none → ¬ t = o') →
      (∀ o', ¬ σ o' = none → ¬ o' = a) → (∀ o', ¬ σ o' = none → ¬ a = o') → (∀ o', ¬ σ o' = none → ¬ o' = d) → (∀ o', ¬ σ o' = none → ¬ d = o') →
      R (.ret (.tup [.ptr m 0, .int .i64 0])) (upd (upd (upd (upd σ m (machT vars F (.own t) a d)) t (.grow 3 F.length)) a (.map true (encM (mac F).at_))) d (.map true []))) : ACalls Try.prog f args σ R :=
  h.mono fun r s ⟨m, t, a, d, q1, q2, q3, q4, hne, e1, e2⟩ => by
    subst e1 e2
    exact hR m t a d hne q1 q2 q3 q4 (fun o' h' e => h' (e ▸ q1)) (fun o' h' e => h' (e ▸ q1)) (fun o' h' e => h' (e ▸ q2)) (fun o' h' e => h' (e ▸ q2))
      (fun o' h' e => h' (e ▸ q3)) (fun o' h' e => h' (e ▸ q3)) (fun o' h' e => h' (e ▸ q4)) (fun o' h' e => h' (e ▸ q4))
theorem bdd_asked1 (o : Nat) (vars : Int) (F : List T3) (n : Int) (σ : Sig) (h : σ o = some (.cells [.int .i64 vars, .slice (F.map encF) .no])) :
    ACalls Try.prog 91 [encInt n, .ptr o 0] σ (fun r σ' => r = .ret (.bool (outside F n)) ∧ σ' = σ) := by
  refine calls_x mixed Try.func91 b91 n91 rfl q91 (by simp) ?_; unfold c91 r91
  repeat' (first | simp (maxDischargeDepth := 9) -implicitDefEqProofs -dsimp only [go_sem, seval, ge_iff_le, *] | (with_reducible (first | apply Zb) <;> intro hq))
  all_goals refine fin_eq ?_
  all_goals (repeat' (first | simp (maxDischargeDepth := 9) -implicitDefEqProofs -dsimp only [go_sem, seval, outside, *])) <;> (repeat' refine And.intro ?_ ?_) <;> (first | omega | rfl | assumption | skip)
theorem bdd_asked_no (vars : Int) (F : List T3) (l : List Int) (σ : Sig) (hl : F.length ≤ 9223372036854775807) (e : Int) (he : chk vars F = e) (h0 : e ≠ 0) :
    ACalls Try.prog 65 [encB vars F, .slice (l.map encInt) .no] σ (fun r σ' => r = .ret (.tup [.nilp, .int .i64 e]) ∧ σ' = σ) := by
  refine calls_x mixed Try.func65 b65 n65 rfl q65 (by simp) ?_; unfold c65 r65
  have hb : (e != 0) = true := by simpa using h0
  repeat' (first | simp (maxDischargeDepth := 9) -implicitDefEqProofs -dsimp only [go_sem, seval, *] | ((with_reducible refine Zt (fun oF hoF hnF hnF' => ?_)); (try simp only [upd_none, ne_eq, not_and] at hoF)) | ((with_reducible apply ACalls.one1); (focus ((first | with_reducible refine bdd_begin_no vars F _ hl e he h0) <;> (first | (simp (maxDischargeDepth := 9) -implicitDefEqProofs -dsimp only [go_sem, seval, *]; done) | omega))); (focus (first | trivial | with_reducible exact rfl | (simp (maxDischargeDepth := 9) -implicitDefEqProofs -dsimp only [go_sem, seval]; done)))))
  refine fin_eq ?_
  (repeat' (first | simp (maxDischargeDepth := 9) -implicitDefEqProofs -dsimp only [go_sem, seval, *])) <;> (repeat' refine And.intro ?_ ?_) <;> (first | omega | rfl | assumption | skip)
theorem bdd_asked_arg (vars : Int) (F : List T3) (l : List Int) (σ : Sig) (hf : Fine vars F) (hl : l.length ≤ 1000000000000) (h : l.any (outside F) = true) :
    ACalls Try.prog 65 [encB vars F, .slice (l.map encInt) .no] σ (fun r σ' => r = .ret (.tup [.nilp, .int .i64 1]) ∧ σ' = σ) := by
  refine calls_x mixed Try.func65 b65 n65 rfl q65 (by simp) ?_; unfold c65 r65
  repeat' (first | simp (maxDischargeDepth := 9) -implicitDefEqProofs -dsimp only [go_sem, seval, *] | ((with_reducible refine Zt (fun oF hoF hnF hnF' => ?_)); (try simp only [upd_none, ne_eq, not_and] at hoF)))
  refine newMac (bdd_begin_yes vars F _ hf) fun m t a d hne q1 q2 q3 q4 r1 r2 r3 r4 r5 r6 r7 r8 => ?_
  have hne' := hne
  obtain ⟨e1, e2, e3, e4, e5, e6, f1, f2, f3, f4, f5, f6⟩ := hne'
  simp only [upd_none] at q1 q2 q3 q4
  have ez : ((0 : Int) != 0) = false := by decide
  repeat' (first | simp (maxDischargeDepth := 9) -implicitDefEqProofs -dsimp only [go_sem, seval, *] | ((with_reducible refine Zt (fun oF hoF hnF hnF' => ?_)); (try simp only [upd_none, ne_eq, not_and] at hoF)) | ((with_reducible apply ACalls.one1); (focus ((first | with_reducible refine sl_containsInt (outside F) l hl _ (fun x _ => bdd_asked1 _ vars F x _ ?_)) <;> (first | (simp (maxDischargeDepth := 9) -implicitDefEqProofs -dsimp only [go_sem, seval, *]; done) | omega))); (focus (first | trivial | with_reducible exact rfl | (simp (maxDischargeDepth := 9) -implicitDefEqProofs -dsimp only [go_sem, seval]; done)))))
  refine fin_eq ?_
  (repeat' (first | simp (maxDischargeDepth := 9) -implicitDefEqProofs -dsimp only [go_sem, seval, *])) <;> (repeat' refine And.intro ?_ ?_) <;> (first | omega | rfl | assumption | skip)
theorem bdd_asked_yes (vars : Int) (F : List T3) (l : List Int) (σ : Sig) (hf : Fine vars F) (hl : l.length ≤ 1000000000000) (h : l.any (outside F) = false) :
    ACalls Try.prog 65 [encB vars F, .slice (l.map encInt) .no] σ (NewMac σ vars F) := by
  refine calls_x mixed Try.func65 b65 n65 rfl q65 (by simp) ?_; unfold c65 r65
  repeat' (first | simp (maxDischargeDepth := 9) -implicitDefEqProofs -dsimp only [go_sem, seval, *] | ((with_reducible refine Zt (fun oF hoF hnF hnF' => ?_)); (try simp only [upd_none, ne_eq, not_and] at hoF)))
  refine newMac (bdd_begin_yes vars F _ hf) fun m t a d hne q1 q2 q3 q4 r1 r2 r3 r4 r5 r6 r7 r8 => ?_
  have hne' := hne
  obtain ⟨e1, e2, e3, e4, e5, e6, f1, f2, f3, f4, f5, f6⟩ := hne'
  simp only [upd_none] at q1 q2 q3 q4
  have ez : ((0 : Int) != 0) = false := by decide
  repeat' (first | simp (maxDischargeDepth := 9) -implicitDefEqProofs -dsimp only [go_sem, seval, *] | ((with_reducible refine Zt (fun oF hoF hnF hnF' => ?_)); (try simp only [upd_none, ne_eq, not_and] at hoF)) | ((with_reducible apply ACalls.one1); (focus ((first | with_reducible refine sl_containsInt (outside F) l hl _ (fun x _ => bdd_asked1 _ vars F x _ ?_)) <;> (first | (simp (maxDischargeDepth := 9) -implicitDefEqProofs -dsimp only [go_sem, seval, *]; done) | omega))); (focus (first | trivial | with_reducible exact rfl | (simp (maxDischargeDepth := 9) -implicitDefEqProofs -dsimp only [go_sem, seval]; done)))))
  refine fin_v (.tup [.ptr m 0, .int .i64 0]) (upd (upd (upd (upd σ m (machT vars F (.own t) a d)) t (.grow 3 F.length)) a (.map true (encM (mac F).at_))) d (.map true []))
    ⟨m, t, a, d, q1.2, q2.2, q3.2, q4.2, hne, rfl, rfl⟩ ?_ ?_
  · (repeat' (first | simp (maxDischargeDepth := 9) -implicitDefEqProofs -dsimp only [go_sem, seval, *])) <;> (repeat' refine And.intro ?_ ?_) <;> (first | omega | rfl | assumption | skip)
  · (repeat' (first | simp (maxDischargeDepth := 9) -implicitDefEqProofs -dsimp only [go_sem, seval, *])) <;> (repeat' refine And.intro ?_ ?_) <;> (first | omega | rfl | assumption | skip)
end Go.Proofs.Ytjichkelfhcbcaa.B

namespace Go.Proofs.Ytjichkelfhcbcaa.B
open Abs Fil Fil.Bd
theorem undE : Try.prog.underlying 32 = some (.int .i64) := by kernel_rfl
theorem zeroE : zeroOf Try.prog 32 = some [.int .i64 0] := by kernel_rfl
theorem put1_def (args : List AV) (σ : Sig) (k : Sig → Prop) (hk : k σ) : ADef Try.prog 94 args σ k := by
  refine ⟨by kernel_rfl, fun S K w vals hS hrel hs => ?_⟩
  refine callsD_of_wpS (fn := Try.f94) Try.func94 rfl fun c₀ cs hm => ?_
  obtain ⟨z, hz, _⟩ := run_zeroValue' (K := K) zeroE w
  have hlen : ∀ v : Array Value, (v ++ Array.replicate (Try.f94.ntmps - v.size) undef).size ≥ 13 := fun v => by
    simp [Try.f94]; omega
  have htmp := hlen vals
  generalize vals ++ Array.replicate (Try.f94.ntmps - vals.size) undef = tmps at htmp ⊢
  have hrec : recoverD (c₀ :: cs) = none := by simp [recoverD, hm]
  have hta : (Instr.typeAssert .nilIface 20 32 true).run Try.prog w = .ok (.tuple #[z, .bool false]) w := by
    simp [Instr.typeAssert, run_underlying undE, hz]
  refine wpS_seq (wpS_region ?_)
  change wpOpsS Try.prog _ _ [0, 1, 2, 3, 4, 5, 6] _ _ _
  have h3 : 3 < tmps.size := by omega
  have h4 : 4 < tmps.size := by omega
  have h5 : 5 < tmps.size := by omega
  have h6 : 6 < tmps.size := by omega
  have h7 : 7 < tmps.size := by omega
  have h8 : 8 < tmps.size := by omega
  have h9 : 9 < tmps.size := by omega
  have h10 : 10 < tmps.size := by omega
  simp [wpOpsS, Region.wanted, execOp, resolve, invoke, Go.builtin, hrec, Act.eval, Act.put, hta, Oper.upon, Instr.extract, h3, h4, h5, h6, h7, h8, h9, h10, Exit.thenS]
  refine wpS_seq (wpS_region ?_)
  change wpOpsS Try.prog _ _ [0] _ _ _
  simp [wpOpsS, Region.wanted, execOp, Act.eval, Act.put, Oper.upon, h3, h4, h5, h6, h7, h8, h9, h10, Exit.thenS]
  refine wpS_cond (t := false) (by simp [Act.eval, h10]) ?_
  refine wpS_of_wp (wp_skip ?_)
  refine ⟨rfl, .returning, by simp [← hm], .tuple #[], ?_, ⟨_, rfl⟩, rfl, K, Gh.leS.refl K, σ, hs, hk⟩
  rw [results_eq]
  simp [Try.f94]
theorem calls_dx {f : FuncId} {fn : Func} {N : Nat} {rs : List ARV} {a b e : ACode} {t : Nat} {g : Nat} {l m : List AOpnd} {d : Nat} {args : List AV} {σ : Sig} {R : ARes → Sig → Prop}
    (hfn : Try.prog.funcs[f]? = some fn) (hb : fn.body.bind (dfrOf Try.prog N) = some (a.bare, b.bare, (⟨some t, .mkfn g l m, none⟩ : AInst).bare, d, e.bare)) (hname : (fn.name == "runtime.NumGoroutine") = false) (hN : fn.ntmps = N)
    (hr : trRes Try.prog fn.results.toList = some rs) (hargs : args.length ≤ N)
    (h : XC Try.prog a (thenQ (fun env σ => XC Try.prog b (thenQ (fun env σ => XI Try.prog (thenQ (fun env σ => exDfr Try.prog rs R d e env σ) (bodyQ rs R)) [⟨some t, .mkfn g l m, none⟩] env σ) (bodyQ rs R)) env σ) (bodyQ rs R)) (argEnv 0 args) σ) :
    ACalls Try.prog f args σ R := calls_of_defer mixed hfn hb hname hN hr hargs h
theorem ex_dfr {rs : List ARV} {R : ARes → Sig → Prop} {d : Nat} {e : ACode} {env : Env} {σ : Sig} : exDfr Try.prog rs R d e env σ = wth (lk env d) fun v => match v with
    | .fn g first caps => XC Try.prog e (dfrQ Try.prog rs R g (first ++ caps)) env σ
    | _ => False := rfl
theorem dfr_ret {rs : List ARV} {R : ARes → Sig → Prop} {args : List AV} {env : Env} {σ : Sig} (h : bodyQ rs R .ret env σ) : dfrQ Try.prog rs R 94 args .ret env σ := put1_def _ _ _ h
theorem bdd_put_no (p : AV) (e : Int) (mk : AV) (σ : Sig) (h0 : e ≠ 0) :
    ACalls Try.prog 67 [p, .int .i64 e, mk] σ (fun r σ' => r = .ret (.tup [encB 0 [], .int .i64 0, .int .i64 e]) ∧ σ' = σ) := by
  refine calls_dx Try.func67 b67 n67 rfl q67 (by simp) ?_
  have hb : (e != 0) = true := by simpa using h0
  unfold ca67 cb67 r67
  repeat' (first | simp (maxDischargeDepth := 9) -implicitDefEqProofs -dsimp only [go_sem, seval, *] | ((with_reducible refine Zt (fun oF hoF hnF hnF' => ?_)); (try simp only [upd_none, ne_eq, not_and] at hoF)))
  refine fin_eq ?_
  (repeat' (first | simp (maxDischargeDepth := 9) -implicitDefEqProofs -dsimp only [go_sem, seval, *])) <;> (repeat' refine And.intro ?_ ?_) <;> (first | omega | rfl | assumption | skip)
theorem bdd_put_ok (m t a d : Nat) (vars : Int) (s : Mac) (n : Int) (mk : Nat) (caps : List AV) (σ : Sig) (hne : Apart m t a d) (hm : ¬ σ m = none) (ht : ¬ σ t = none) (ha : ¬ σ a = none) (hd : ¬ σ d = none)
    (hmk : ∀ τ, Sub σ τ → ACalls Try.prog mk caps τ (fun r τ' => r = .ret (.int .i64 n) ∧ τ' = upd (upd (upd (upd τ m (machT vars s.forks (.own t) a d)) t (.grow 3 s.forks.length)) a (.map true (encM s.at_))) d (.map true (encM s.done)))) :
    ACalls Try.prog 67 [.ptr m 0, .int .i64 0, .fn mk [] caps] σ (fun r σ' => r = .ret (.tup [encB vars s.forks, .int .i64 n, .int .i64 0]) ∧
      σ' = upd (upd (upd (upd σ m (machT vars s.forks (.own t) a d)) t (.grow 3 s.forks.length)) a (.map true (encM s.at_))) d (.map true (encM s.done))) := by
  refine calls_dx Try.func67 b67 n67 rfl q67 (by simp) ?_
  have ez : ((0 : Int) != 0) = false := by decide
  unfold ca67 cb67 r67 ce67
  obtain ⟨e1, e2, e3, e4, e5, e6, f1, f2, f3, f4, f5, f6⟩ := hne
  repeat' (first | simp (maxDischargeDepth := 9) -implicitDefEqProofs -dsimp only [go_sem, seval, *] | ((with_reducible refine Zt (fun oF hoF hnF hnF' => ?_)); (try simp only [upd_none, ne_eq, not_and] at hoF)))
  rename_i o6 h6 g6 g6' o7 g7 g7' h7
  rw [ex_dfr]
  repeat' (first | simp (maxDischargeDepth := 9) -implicitDefEqProofs -dsimp only [go_sem, seval, *] | ((with_reducible refine Zt (fun oF hoF hnF hnF' => ?_)); (try simp only [upd_none, ne_eq, not_and] at hoF)))
  refine ACalls.one (hmk _ ?_) ?_
  · refine (Sub.upd_fresh h6).trans ((Sub.upd_fresh ?_).trans (Sub.upd_fresh ?_))
    · simp only [upd_none, ne_eq]; exact h7
    · simp only [upd_none, ne_eq]; exact hoF
  repeat' (first | simp (maxDischargeDepth := 9) -implicitDefEqProofs -dsimp only [go_sem, seval, *] | ((with_reducible refine Zt (fun oF hoF hnF hnF' => ?_)); (try simp only [upd_none, ne_eq, not_and] at hoF)))
  refine dfr_ret ?_
  repeat' (first | simp (maxDischargeDepth := 9) -implicitDefEqProofs -dsimp only [go_sem, seval, *] | ((with_reducible refine Zt (fun oF hoF hnF hnF' => ?_)); (try simp only [upd_none, ne_eq, not_and] at hoF)))
  refine fin_eq ?_
  (repeat' (first | simp (maxDischargeDepth := 9) -implicitDefEqProofs -dsimp only [go_sem, seval, *])) <;> (repeat' refine And.intro ?_ ?_) <;> (first | omega | rfl | assumption | skip)
end Go.Proofs.Ytjichkelfhcbcaa.B

namespace Go.Proofs.Ytjichkelfhcbcaa.B
open Abs Fil Fil.Bd
theorem bdd_Ite1 (m t a d : Nat) (hne : Apart m t a d) (b : D) (hf : Fine b.1 b.2) (hroom : b.2.length + 2 ^ (b.1.toNat + 1) ≤ 65537) (f g h : Int) (i : In b.1 b.2 0 f) (j : In b.1 b.2 0 g) (k : In b.1 b.2 0 h) (o1 o2 o3 o4 : Nat) (σ : Sig)
    (h1 : σ m = some (machT b.1 b.2 (.own t) a d)) (h2 : σ t = some (.grow 3 b.2.length)) (h3 : σ a = some (.map true (encM (mac b.2).at_))) (h4 : σ d = some (.map true []))
    (p1 : σ o1 = some (.cells [.ptr m 0])) (p2 : σ o2 = some (.cells [.int .i64 f])) (p3 : σ o3 = some (.cells [.int .i64 g])) (p4 : σ o4 = some (.cells [.int .i64 h])) :
    ACalls Try.prog 72 [.ptr o1 0, .ptr o2 0, .ptr o3 0, .ptr o4 0] σ (fun r σ' => r = .ret (.int .i64 (iteM b.1 (b.1.toNat + 1) (mac b.2) f g h).2) ∧
      σ' = upd (upd (upd (upd σ m (machT b.1 (iteM b.1 (b.1.toNat + 1) (mac b.2) f g h).1.forks (.own t) a d)) t (.grow 3 (iteM b.1 (b.1.toNat + 1) (mac b.2) f g h).1.forks.length)) a (.map true (encM (iteM b.1 (b.1.toNat + 1) (mac b.2) f g h).1.at_))) d (.map true (encM (iteM b.1 (b.1.toNat + 1) (mac b.2) f g h).1.done))) := by
  refine calls_x mixed Try.func72 b72 n72 rfl q72 (by simp) ?_; unfold c72 r72
  have hfew := hf.few
  have hlo := hf.lo
  have q := bdd_ite m t a d hne b.1 (b.1.toNat + 1) (mac b.2) f g h 0 σ h1 h2 h3 h4 (mac_ok hf.toOk) mac_kept hfew (by omega) (by omega) hroom i j k
  repeat' (first | simp (maxDischargeDepth := 9) -implicitDefEqProofs -dsimp only [go_sem, seval, *] | ((with_reducible apply ACalls.one1); (focus ((first | with_reducible refine q) <;> (first | (simp (maxDischargeDepth := 9) -implicitDefEqProofs -dsimp only [go_sem, seval, *]; done) | omega))); (focus (first | trivial | with_reducible exact rfl | (simp (maxDischargeDepth := 9) -implicitDefEqProofs -dsimp only [go_sem, seval]; done)))))
  refine fin_eq ?_
  (repeat' (first | simp (maxDischargeDepth := 9) -implicitDefEqProofs -dsimp only [go_sem, seval, *])) <;> (repeat' refine And.intro ?_ ?_) <;> (first | omega | rfl | assumption | skip)
theorem bdd_Ite (b : D) (f g h : Int) (σ : Sig) (hl : b.2.length ≤ 9223372036854775807) (hroom : Fine b.1 b.2 → b.2.length + 2 ^ (b.1.toNat + 1) ≤ 65537) :
    ACalls Try.prog 40 [encB b.1 b.2, .int .i64 f, .int .i64 g, .int .i64 h] σ (fun r σ' => r = .ret (.tup [encB (iteW b f g h).1.1 (iteW b f g h).1.2, .int .i64 (iteW b f g h).2.1, .int .i64 (iteW b f g h).2.2]) ∧ σ' = σ) := by
  refine calls_x mixed Try.func40 b40 n40 rfl q40 (by simp) ?_; unfold c40 r40
  obtain ⟨e, he⟩ : ∃ e, chk b.1 b.2 = e := ⟨_, rfl⟩
  by_cases h0 : e = 0
  · subst h0
    have hf := chk_fine.1 he
    have hr := hroom hf
    cases ho : [f, g, h].any (outside b.2) with
    | true =>
      have hw : iteW b f g h = ((0, []), 0, 1) := by unfold iteW; rw [ask_arg hf (by simp [ho]), op_err (by decide)]
      rw [hw]
      repeat' (first | simp (maxDischargeDepth := 9) -implicitDefEqProofs -dsimp only [go_sem, seval, *] | ((with_reducible refine Zt (fun oF hoF hnF hnF' => ?_)); clear hnF hnF'; (try simp only [Zw, ne_eq] at hoF)) | ((with_reducible apply ACalls.one1); (focus ((first | with_reducible refine bdd_asked_arg b.1 b.2 [f, g, h] _ hf ?_ ho | with_reducible refine bdd_put_no _ 1 _ _ ?_ | with_reducible refine ACalls.flA (bdd_asked_arg b.1 b.2 [f, g, h] _ hf ?_ ho) ?_ | with_reducible refine ACalls.flA (bdd_put_no _ 1 _ _ ?_) ?_) <;> (first | (simp (maxDischargeDepth := 9) -implicitDefEqProofs -dsimp only [go_sem, seval, *]; done) | omega))); (focus (first | trivial | with_reducible exact rfl | (simp (maxDischargeDepth := 9) -implicitDefEqProofs -dsimp only [go_sem, seval]; done)))))
      refine fin_eq ?_
      (repeat' (first | simp (maxDischargeDepth := 9) -implicitDefEqProofs -dsimp only [go_sem, seval, *])) <;> (repeat' refine And.intro ?_ ?_) <;> (first | omega | rfl | assumption | skip)
    | false =>
      have ho' : outside b.2 f = false ∧ outside b.2 g = false ∧ outside b.2 h = false := by simpa using ho
      have i := out_In ho'.1 hf.toOk
      have j := out_In ho'.2.1 hf.toOk
      have k := out_In ho'.2.2 hf.toOk
      rw [ite_mac hf i j k]
      repeat' (first | simp (maxDischargeDepth := 9) -implicitDefEqProofs -dsimp only [go_sem, seval, *] | ((with_reducible refine Zt (fun oF hoF hnF hnF' => ?_)); clear hnF hnF'; (try simp only [Zw, ne_eq] at hoF)))
      refine newMac4 (ACalls.flA (bdd_asked_yes b.1 b.2 [f, g, h] _ hf (by simp) ho) (by simp (maxDischargeDepth := 9) -implicitDefEqProofs -dsimp only [go_sem, seval, *]; done)) fun m t a d hne q1 q2 q3 q4 => ?_
      simp only [Zw, ne_eq] at q1 q2 q3 q4
      have hne' := hne
      obtain ⟨e1, e2, e3, e4, e5, e6, f1, f2, f3, f4, f5, f6⟩ := hne'
      repeat' (first | simp (maxDischargeDepth := 9) -implicitDefEqProofs -dsimp only [go_sem, seval, *] | ((with_reducible refine Zt (fun oF hoF hnF hnF' => ?_)); clear hnF hnF'; (try simp only [Zw, ne_eq] at hoF)))
      refine ACalls.one (bdd_put_ok m t a d b.1 (iteM b.1 (b.1.toNat + 1) (mac b.2) f g h).1 (iteM b.1 (b.1.toNat + 1) (mac b.2) f g h).2 _ _ _ hne (by simp (maxDischargeDepth := 9) -implicitDefEqProofs -dsimp only [go_sem, seval, *]; done) (by simp (maxDischargeDepth := 9) -implicitDefEqProofs -dsimp only [go_sem, seval, *]; done) (by simp (maxDischargeDepth := 9) -implicitDefEqProofs -dsimp only [go_sem, seval, *]; done) (by simp (maxDischargeDepth := 9) -implicitDefEqProofs -dsimp only [go_sem, seval, *]; done) fun τ hτ => ?_) ?_
      · refine bdd_Ite1 m t a d hne b hf hr f g h i j k _ _ _ _ τ ?_ ?_ ?_ ?_ ?_ ?_ ?_ ?_
        all_goals
          refine Sub.get hτ ?_
          simp (maxDischargeDepth := 9) -implicitDefEqProofs -dsimp only [go_sem, seval, *]
      repeat' (first | simp (maxDischargeDepth := 9) -implicitDefEqProofs -dsimp only [go_sem, seval, *] | ((with_reducible refine Zt (fun oF hoF hnF hnF' => ?_)); clear hnF hnF'; (try simp only [Zw, ne_eq] at hoF)))
      refine fin_eq ?_
      (repeat' (first | simp (maxDischargeDepth := 9) -implicitDefEqProofs -dsimp only [go_sem, seval, *])) <;> (repeat' refine And.intro ?_ ?_) <;> (first | omega | rfl | assumption | skip)
  · have hw : iteW b f g h = ((0, []), 0, e) := by unfold iteW; rw [ask_err he h0, op_err h0]
    rw [hw]
    repeat' (first | simp (maxDischargeDepth := 9) -implicitDefEqProofs -dsimp only [go_sem, seval, *] | ((with_reducible refine Zt (fun oF hoF hnF hnF' => ?_)); clear hnF hnF'; (try simp only [Zw, ne_eq] at hoF)) | ((with_reducible apply ACalls.one1); (focus ((first | with_reducible refine bdd_asked_no b.1 b.2 [f, g, h] _ hl e he h0 | with_reducible refine bdd_put_no _ e _ _ h0 | with_reducible refine ACalls.flA (bdd_asked_no b.1 b.2 [f, g, h] _ hl e he h0) ?_ | with_reducible refine ACalls.flA (bdd_put_no _ e _ _ h0) ?_) <;> (first | (simp (maxDischargeDepth := 9) -implicitDefEqProofs -dsimp only [go_sem, seval, *]; done) | omega))); (focus (first | trivial | with_reducible exact rfl | (simp (maxDischargeDepth := 9) -implicitDefEqProofs -dsimp only [go_sem, seval]; done)))))
    refine fin_eq ?_
    (repeat' (first | simp (maxDischargeDepth := 9) -implicitDefEqProofs -dsimp only [go_sem, seval, *])) <;> (repeat' refine And.intro ?_ ?_) <;> (first | omega | rfl | assumption | skip)
theorem bdd_Not (b : D) (f : Int) (σ : Sig) (hl : b.2.length ≤ 9223372036854775807) (hroom : Fine b.1 b.2 → b.2.length + 2 ^ (b.1.toNat + 1) ≤ 65537) :
    ACalls Try.prog 71 [encB b.1 b.2, .int .i64 f] σ (fun r σ' => r = .ret (.tup [encB (notW b f).1.1 (notW b f).1.2, .int .i64 (notW b f).2.1, .int .i64 (notW b f).2.2]) ∧ σ' = σ) := by
  refine calls_x mixed Try.func71 b71 n71 rfl q71 (by simp) ?_; unfold c71 r71
  repeat' (first | simp (maxDischargeDepth := 9) -implicitDefEqProofs -dsimp only [go_sem, seval, *] | ((with_reducible refine Zt (fun oF hoF hnF hnF' => ?_)); clear hnF hnF'; (try simp only [Zw, ne_eq] at hoF)) | ((with_reducible apply ACalls.one1); (focus ((first | with_reducible refine bdd_Ite b f 0 1 _ hl hroom) <;> (first | (simp (maxDischargeDepth := 9) -implicitDefEqProofs -dsimp only [go_sem, seval, *]; done) | omega))); (focus (first | trivial | with_reducible exact rfl | (simp (maxDischargeDepth := 9) -implicitDefEqProofs -dsimp only [go_sem, seval]; done)))))
  refine fin_eq ?_
  (repeat' (first | simp (maxDischargeDepth := 9) -implicitDefEqProofs -dsimp only [go_sem, seval, notW, *])) <;> (repeat' refine And.intro ?_ ?_) <;> (first | omega | rfl | assumption | skip)
theorem bdd_Var1 (m t a d : Nat) (hne : Apart m t a d) (b : D) (hl : b.2.length < 65536) (n : Int) (o1 o2 : Nat) (σ : Sig)
    (h1 : σ m = some (machT b.1 b.2 (.own t) a d)) (h2 : σ t = some (.grow 3 b.2.length)) (h3 : σ a = some (.map true (encM (mac b.2).at_))) (h4 : σ d = some (.map true []))
    (p1 : σ o1 = some (.cells [.ptr m 0])) (p2 : σ o2 = some (.cells [.int .i64 n])) :
    ACalls Try.prog 68 [.ptr o1 0, .ptr o2 0] σ (fun r σ' => r = .ret (.int .i64 (forkM (mac b.2) n 0 1).2) ∧
      σ' = upd (upd (upd (upd σ m (machT b.1 (forkM (mac b.2) n 0 1).1.forks (.own t) a d)) t (.grow 3 (forkM (mac b.2) n 0 1).1.forks.length)) a (.map true (encM (forkM (mac b.2) n 0 1).1.at_))) d (.map true (encM (forkM (mac b.2) n 0 1).1.done))) := by
  refine calls_x mixed Try.func68 b68 n68 rfl q68 (by simp) ?_; unfold c68 r68
  have q := bdd_fork m t a d b.1 (mac b.2) n 0 1 σ hne h1 h2 h3 (fun _ _ => hl)
  have hd : (forkM (mac b.2) n 0 1).1.done = [] := forkM_done _ _ _ _
  obtain ⟨e1, e2, e3, e4, e5, e6, f1, f2, f3, f4, f5, f6⟩ := hne
  repeat' (first | simp (maxDischargeDepth := 9) -implicitDefEqProofs -dsimp only [go_sem, seval, *] | ((with_reducible apply ACalls.one1); (focus ((first | with_reducible refine q) <;> (first | (simp (maxDischargeDepth := 9) -implicitDefEqProofs -dsimp only [go_sem, seval, *]; done) | omega))); (focus (first | trivial | with_reducible exact rfl | (simp (maxDischargeDepth := 9) -implicitDefEqProofs -dsimp only [go_sem, seval]; done)))))
  refine fin_eq ?_
  (repeat' (first | simp (maxDischargeDepth := 9) -implicitDefEqProofs -dsimp only [go_sem, seval, hd, List.map_nil, *])) <;> (repeat' refine And.intro ?_ ?_) <;> (first | omega | rfl | assumption | skip)
set_option maxHeartbeats 1000000 in
theorem bdd_Var (b : D) (n : Int) (σ : Sig) (hl : b.2.length ≤ 9223372036854775807) (hroom : Fine b.1 b.2 → b.2.length < 65536) :
    ACalls Try.prog 37 [encB b.1 b.2, .int .i64 n] σ (fun r σ' => r = .ret (.tup [encB (varW b n).1.1 (varW b n).1.2, .int .i64 (varW b n).2.1, .int .i64 (varW b n).2.2]) ∧ σ' = σ) := by
  refine calls_x mixed Try.func37 b37 n37 rfl q37 (by simp) ?_; unfold c37 r37
  obtain ⟨e, he⟩ : ∃ e, chk b.1 b.2 = e := ⟨_, rfl⟩
  by_cases h0 : e = 0
  · subst h0
    have hf := chk_fine.1 he
    have hr := hroom hf
    cases ho : off b n with
    | true =>
      have hw : varW b n = ((0, []), 0, 1) := by unfold varW; rw [ask_arg hf (by simp [ho]), op_err (by decide)]
      rw [hw]
      have ho' : n < 0 ∨ b.1 ≤ n := by simpa [off] using ho
      clear hw ho
      repeat' (first | simp (maxDischargeDepth := 9) -implicitDefEqProofs -dsimp only [go_sem, seval, *] | (with_reducible (first | apply Zb | apply Zc) <;> intro hq) | ((with_reducible refine Zt (fun oF hoF hnF hnF' => ?_)); clear hnF hnF'; (try simp only [Zw, ne_eq] at hoF)))
      refine newMac4 (ACalls.flA (bdd_asked_yes b.1 b.2 [] _ hf (by simp) (by simp)) (by simp (maxDischargeDepth := 9) -implicitDefEqProofs -dsimp only [go_sem, seval, *]; done)) fun m t a d hne q1 q2 q3 q4 => ?_
      simp only [Zw, ne_eq] at q1 q2 q3 q4
      have hne' := hne
      obtain ⟨e1, e2, e3, e4, e5, e6, f1, f2, f3, f4, f5, f6⟩ := hne'
      repeat' (first | simp (maxDischargeDepth := 9) -implicitDefEqProofs -dsimp only [go_sem, seval, ge_iff_le, *] | (with_reducible (first | apply Zb | apply Zc) <;> intro hq) | ((with_reducible refine Zt (fun oF hoF hnF hnF' => ?_)); clear hnF hnF'; (try simp only [Zw, ne_eq] at hoF)) | ((with_reducible apply ACalls.one1); (focus ((first | with_reducible refine bdd_put_no _ 1 _ _ ?_ | with_reducible refine ACalls.flA (bdd_put_no _ 1 _ _ ?_) ?_) <;> (first | (simp (maxDischargeDepth := 9) -implicitDefEqProofs -dsimp only [go_sem, seval, *]; done) | omega))); (focus (first | trivial | with_reducible exact rfl | (simp (maxDischargeDepth := 9) -implicitDefEqProofs -dsimp only [go_sem, seval]; done)))))
      all_goals first | (with_reducible refine fin_eq ?_; (repeat' (first | simp (maxDischargeDepth := 9) -implicitDefEqProofs -dsimp only [go_sem, seval, *])) <;> (repeat' refine And.intro ?_ ?_) <;> (first | omega | rfl | assumption | skip); done) | (exfalso; rcases ho' with c | c <;> contradiction)
    | false =>
      rw [var_mac hf ho]
      have ho' : 0 ≤ n ∧ n < b.1 := by simpa [off] using ho
      repeat' (first | simp (maxDischargeDepth := 9) -implicitDefEqProofs -dsimp only [go_sem, seval, *] | (with_reducible (first | apply Zb | apply Zc) <;> intro hq) | ((with_reducible refine Zt (fun oF hoF hnF hnF' => ?_)); clear hnF hnF'; (try simp only [Zw, ne_eq] at hoF)))
      have c1 : ¬ n < 0 := by omega
      have c2 : ¬ b.1 ≤ n := by omega
      refine newMac4 (ACalls.flA (bdd_asked_yes b.1 b.2 [] _ hf (by simp) (by simp)) (by simp (maxDischargeDepth := 9) -implicitDefEqProofs -dsimp only [go_sem, seval, *]; done)) fun m t a d hne q1 q2 q3 q4 => ?_
      simp only [Zw, ne_eq] at q1 q2 q3 q4
      have hne' := hne
      obtain ⟨e1, e2, e3, e4, e5, e6, f1, f2, f3, f4, f5, f6⟩ := hne'
      repeat' (first | simp (maxDischargeDepth := 9) -implicitDefEqProofs -dsimp only [go_sem, seval, ge_iff_le, *] | (with_reducible (first | apply Zb | apply Zc) <;> intro hq) | ((with_reducible refine Zt (fun oF hoF hnF hnF' => ?_)); clear hnF hnF'; (try simp only [Zw, ne_eq] at hoF)))
      all_goals first | (exfalso; contradiction) | skip
      refine ACalls.one (bdd_put_ok m t a d b.1 (forkM (mac b.2) n 0 1).1 (forkM (mac b.2) n 0 1).2 _ _ _ hne (by simp (maxDischargeDepth := 9) -implicitDefEqProofs -dsimp only [go_sem, seval, *]; done) (by simp (maxDischargeDepth := 9) -implicitDefEqProofs -dsimp only [go_sem, seval, *]; done) (by simp (maxDischargeDepth := 9) -implicitDefEqProofs -dsimp only [go_sem, seval, *]; done) (by simp (maxDischargeDepth := 9) -implicitDefEqProofs -dsimp only [go_sem, seval, *]; done) fun τ hτ => ?_) ?_
      · refine bdd_Var1 m t a d hne b hr n _ _ τ ?_ ?_ ?_ ?_ ?_ ?_
        all_goals
          refine Sub.get hτ ?_
          simp (maxDischargeDepth := 9) -implicitDefEqProofs -dsimp only [go_sem, seval, *]
      repeat' (first | simp (maxDischargeDepth := 9) -implicitDefEqProofs -dsimp only [go_sem, seval, *] | (with_reducible (first | apply Zb | apply Zc) <;> intro hq) | ((with_reducible refine Zt (fun oF hoF hnF hnF' => ?_)); clear hnF hnF'; (try simp only [Zw, ne_eq] at hoF)))
      refine fin_eq ?_
      (repeat' (first | simp (maxDischargeDepth := 9) -implicitDefEqProofs -dsimp only [go_sem, seval, *])) <;> (repeat' refine And.intro ?_ ?_) <;> (first | omega | rfl | assumption | skip)
  · have hw : varW b n = ((0, []), 0, e) := by unfold varW; rw [ask_err he h0, op_err h0]
    rw [hw]
    have hb : (e == 0) = false := by simpa using h0
    repeat' (first | simp (maxDischargeDepth := 9) -implicitDefEqProofs -dsimp only [go_sem, seval, *] | (with_reducible (first | apply Zb | apply Zc) <;> intro hq) | ((with_reducible refine Zt (fun oF hoF hnF hnF' => ?_)); clear hnF hnF'; (try simp only [Zw, ne_eq] at hoF)) | ((with_reducible apply ACalls.one1); (focus ((first | with_reducible refine bdd_asked_no b.1 b.2 [] _ hl e he h0 | with_reducible refine bdd_put_no _ e _ _ h0 | with_reducible refine ACalls.flA (bdd_asked_no b.1 b.2 [] _ hl e he h0) ?_ | with_reducible refine ACalls.flA (bdd_put_no _ e _ _ h0) ?_) <;> (first | (simp (maxDischargeDepth := 9) -implicitDefEqProofs -dsimp only [go_sem, seval, *]; done) | omega))); (focus (first | trivial | with_reducible exact rfl | (simp (maxDischargeDepth := 9) -implicitDefEqProofs -dsimp only [go_sem, seval]; done)))))
    refine fin_eq ?_
    (repeat' (first | simp (maxDischargeDepth := 9) -implicitDefEqProofs -dsimp only [go_sem, seval, *])) <;> (repeat' refine And.intro ?_ ?_) <;> (first | omega | rfl | assumption | skip)
end Go.Proofs.Ytjichkelfhcbcaa.B

namespace Fil.Bd
def one1 (F : List T3) : Nat → Int → List Bool → List Bool
  | 0, _, l => l
  | k + 1, n, l => if n < 2 then l else if (frk F n).2.1 = 0 then one1 F k (frk F n).2.2 (l.set (frk F n).1.toNat true) else one1 F k (frk F n).2.1 l
theorem one1_end {F k l} {n : Int} (h : n < 2) : one1 F k n l = l := by
  cases k with
  | zero => rfl
  | succ k => rw [one1, if_pos h]
def oneW (b : D) (f : Int) : List Bool × Bool × Int :=
  if askE b [f] false ≠ 0 then ([], false, askE b [f] false) else if f = 0 then ([], false, 0) else (one1 b.2 f.toNat f (List.replicate b.1.toNat false), true, 0)
end Fil.Bd

namespace Go.Proofs.Ytjichkelfhcbcaa.B
open Abs Fil Fil.Bd
theorem unflat_bool : ∀ (l : List Bool) (n : Nat), n = l.length → unflat false 1 n (l.map encBool) = some (l.map encBool)
  | [], n, h => by subst h; rfl
  | x :: l, n, h => by
    subst h
    simp only [List.length_cons, unflat, List.map_cons, List.take_succ_cons, List.take_zero, List.drop_succ_cons, List.drop_zero, mkv, unflat_bool l l.length rfl]
    rfl
theorem put_bool (l : List Bool) (i : Nat) (v : Bool) (h : i < l.length) : Abs.putAt (l.map encBool) i [.bool v] = (l.set i v).map encBool := by
  have h1 : (l.set i v).map encBool = (l.map encBool).set i (encBool v) := by rw [List.map_set]
  rw [h1, List.set_eq_take_append_cons_drop]
  simp [Abs.putAt, h]
theorem rep_bool (n : Nat) : (List.replicate n [AV.bool false]).flatten = (List.replicate n false).map encBool := by
  induction n with
  | zero => rfl
  | succ n ih => simp only [List.replicate_succ, List.flatten_cons, ih, List.map_cons]; rfl
set_option maxHeartbeats 1000000 in
theorem bdd_One (b : D) (f : Int) (σ : Sig) (hl : b.2.length ≤ 9223372036854775807) :
    ACalls Try.prog 61 [encB b.1 b.2, .int .i64 f] σ (fun r σ' => r = .ret (.tup [.slice ((oneW b f).1.map encBool) .no, .bool (oneW b f).2.1, .int .i64 (oneW b f).2.2]) ∧ σ' = σ) := by
  refine calls_x mixed Try.func61 b61 n61 rfl q61 (by simp) ?_; unfold c61 r61
  obtain ⟨e, he⟩ : ∃ e, chk b.1 b.2 = e := ⟨_, rfl⟩
  by_cases h0 : e = 0
  · subst h0
    have hf := chk_fine.1 he
    cases hof : [f].any (outside b.2) with
    | true =>
      have hw : oneW b f = ([], false, 1) := by unfold oneW; rw [ask_arg hf (by simp [hof]), if_pos (by decide)]
      rw [hw]
      have ez : ((1 : Int) != 0) = true := by decide
      repeat' (first | simp (maxDischargeDepth := 9) -implicitDefEqProofs -dsimp only [go_sem, seval, *] | ((with_reducible refine Zv ?_ ?_); focus (first | omega | exact rfl)) | ((with_reducible refine Zu ?_ ?_); focus omega) | ((with_reducible refine Zt (fun oF hoF hnF hnF' => ?_)); clear hnF hnF'; (try simp only [Zw, ne_eq] at hoF)) | ((with_reducible apply ACalls.one1); (focus ((first | with_reducible refine bdd_asked_arg b.1 b.2 [f] _ hf ?_ hof | with_reducible refine ACalls.flA (bdd_asked_arg b.1 b.2 [f] _ hf ?_ hof) ?_) <;> (first | (simp (maxDischargeDepth := 9) -implicitDefEqProofs -dsimp only [go_sem, seval, *]; done) | omega))); (focus (first | trivial | with_reducible exact rfl | (simp (maxDischargeDepth := 9) -implicitDefEqProofs -dsimp only [go_sem, seval]; done)))))
      refine fin_eq ?_
      (repeat' (first | simp (maxDischargeDepth := 9) -implicitDefEqProofs -dsimp only [go_sem, seval, List.map_nil, *])) <;> (repeat' refine And.intro ?_ ?_) <;> (first | omega | rfl | assumption | skip)
    | false =>
    have hof' : outside b.2 f = false := by simpa using hof
    have i := out_In hof' hf.toOk
    have hask : askE b [f] false = 0 := ask_ok hf (by simp [hof'])
    have ez : ((0 : Int) != 0) = false := by decide
    by_cases hf0 : f = 0
    · subst hf0
      have hw : oneW b 0 = ([], false, 0) := by unfold oneW; rw [hask, if_neg (by simp), if_pos rfl]
      rw [hw]
      repeat' (first | simp (maxDischargeDepth := 9) -implicitDefEqProofs -dsimp only [go_sem, seval, *] | ((with_reducible refine Zv ?_ ?_); focus (first | omega | exact rfl)) | ((with_reducible refine Zu ?_ ?_); focus omega) | ((with_reducible refine Zt (fun oF hoF hnF hnF' => ?_)); clear hnF hnF'; (try simp only [Zw, ne_eq] at hoF)))
      refine newMac4 (ACalls.flA (bdd_asked_yes b.1 b.2 [0] _ hf (by simp) hof) (by simp (maxDischargeDepth := 9) -implicitDefEqProofs -dsimp only [go_sem, seval, *]; done)) fun m t a d hne q1 q2 q3 q4 => ?_
      have hne' := hne
      obtain ⟨e1, e2, e3, e4, e5, e6, f1, f2, f3, f4, f5, f6⟩ := hne'
      repeat' (first | simp (maxDischargeDepth := 9) -implicitDefEqProofs -dsimp only [go_sem, seval, *] | ((with_reducible refine Zv ?_ ?_); focus (first | omega | exact rfl)) | ((with_reducible refine Zu ?_ ?_); focus omega) | ((with_reducible refine Zt (fun oF hoF hnF hnF' => ?_)); clear hnF hnF'; (try simp only [Zw, ne_eq] at hoF)))
      refine fin_eq ?_
      (repeat' (first | simp (maxDischargeDepth := 9) -implicitDefEqProofs -dsimp only [go_sem, seval, List.map_nil, *])) <;> (repeat' refine And.intro ?_ ?_) <;> (first | omega | rfl | assumption | skip)
    · have hw : oneW b f = (one1 b.2 f.toNat f (List.replicate b.1.toNat false), true, 0) := by unfold oneW; rw [hask, if_neg (by simp), if_neg hf0]
      obtain ⟨R, hR⟩ : ∃ R, one1 b.2 f.toNat f (List.replicate b.1.toNat false) = R := ⟨_, rfl⟩
      rw [hw, hR]
      clear hw
      have hfb : (f == 0) = false := by simpa using hf0
      have hlo := hf.lo
      have hfew := hf.few
      have i1 := i.1
      have i2 := i.2.1
      repeat' (first | simp (maxDischargeDepth := 9) -implicitDefEqProofs -dsimp only [go_sem, seval, *] | ((with_reducible refine Zv ?_ ?_); focus (first | omega | exact rfl)) | ((with_reducible refine Zu ?_ ?_); focus omega) | ((with_reducible refine Zt (fun oF hoF hnF hnF' => ?_)); clear hnF hnF'; (try simp only [Zw, ne_eq] at hoF)))
      refine newMac4 (ACalls.flA (bdd_asked_yes b.1 b.2 [f] _ hf (by simp) hof) (by simp (maxDischargeDepth := 9) -implicitDefEqProofs -dsimp only [go_sem, seval, *]; done)) fun m t a d hne q1 q2 q3 q4 => ?_
      have hne' := hne
      obtain ⟨e1, e2, e3, e4, e5, e6, f1, f2, f3, f4, f5, f6⟩ := hne'
      clear hne
      have hbl : b.1 * 1 ≤ 35184372088832 := by omega
      repeat' (first | simp (maxDischargeDepth := 9) -implicitDefEqProofs -dsimp only [go_sem, seval, *] | ((with_reducible refine Zv ?_ ?_); focus (first | omega | exact rfl)) | ((with_reducible refine Zu ?_ ?_); focus omega) | ((with_reducible refine Zt (fun oF hoF hnF hnF' => ?_)); clear hnF hnF'; (try simp only [Zw, ne_eq] at hoF)))
      refine loop_rule (fun x : Int × List Bool => [(1, some (.int .i64 x.1)), (7, some (.ptr m 0)), (9, some (.vec oF b.1.toNat))]) (fun x => upd (upd σ m (machT b.1 b.2 (.own t) a d)) oF (.vec 1 b.1.toNat (x.2.map encBool)))
        (fun x => 0 ≤ x.1 ∧ x.1 < b.2.length ∧ x.2.length = b.1.toNat ∧ ∃ k : Nat, x.1 ≤ k ∧ one1 b.2 k x.1 x.2 = R) (fun x => x.1.toNat) (f, List.replicate b.1.toNat false) ?_ ?_
      · refine ⟨?_, ?_, i1, i2, by simp, f.toNat, by show f ≤ _; omega, hR⟩
        · (repeat' (first | simp (maxDischargeDepth := 9) -implicitDefEqProofs -dsimp only [go_sem, seval, *])) <;> (repeat' refine And.intro ?_ ?_) <;> (first | omega | rfl | assumption | skip)
        · (repeat' (first | simp (maxDischargeDepth := 9) -implicitDefEqProofs -dsimp only [go_sem, seval, rep_bool, *])) <;> (repeat' refine And.intro ?_ ?_) <;> (first | omega | rfl | assumption | skip)
      · rintro ⟨x, l⟩ ⟨x1, x2, xl, k, x3, x4⟩
        simp only at x1 x2 xl x3 x4
        by_cases hx : 2 ≤ x
        · obtain ⟨k, rfl⟩ : ∃ j, k = j + 1 := ⟨k - 1, by omega⟩
          have hx1 : 1 < x := by omega
          have hx2 : ¬ x < 2 := by omega
          have hv := hf.var x hx x2
          have hlow := hf.low x hx x2
          have hhi := hf.high x hx x2
          obtain ⟨v1, v2⟩ := hv
          obtain ⟨l1, l2, _⟩ := hlow
          obtain ⟨u1, u2, _⟩ := hhi
          have hvl : (frk b.2 x).1.toNat < l.length := by omega
          have hvb : (frk b.2 x).1.toNat < b.1.toNat := by omega
          rw [one1, if_neg hx2] at x4
          by_cases hb : (frk b.2 x).2.1 = 0
          · rw [if_pos hb] at x4
            have hbb : ((frk b.2 x).2.1 == 0) = true := by simpa using hb
            have hp : List.take ((frk b.2 x).1.toNat * 1) (l.map encBool) ++ [AV.bool true] ++ List.drop ((frk b.2 x).1.toNat * 1 + 1) (l.map encBool) = (l.set (frk b.2 x).1.toNat true).map encBool := by
              have := put_bool l (frk b.2 x).1.toNat true hvl
              simpa [Abs.putAt] using this
            repeat' (first | simp (maxDischargeDepth := 9) -implicitDefEqProofs -dsimp only [go_sem, seval, gt_iff_lt, *] | ((with_reducible refine Zv ?_ ?_); focus (first | omega | exact rfl)) | ((with_reducible refine Zu ?_ ?_); focus omega) | ((with_reducible refine Zt (fun oF hoF hnF hnF' => ?_)); clear hnF hnF'; (try simp only [Zw, ne_eq] at hoF)))
            refine loop_next _ _ _ _ ((frk b.2 x).2.2, l.set (frk b.2 x).1.toNat true) ⟨?_, ?_, ⟨u1, by show (frk b.2 x).2.2 < _; omega, by simp [xl], k, by show (frk b.2 x).2.2 ≤ _; omega, x4⟩, by show (frk b.2 x).2.2.toNat < x.toNat; omega⟩
            · (repeat' (first | simp (maxDischargeDepth := 9) -implicitDefEqProofs -dsimp only [go_sem, seval, *])) <;> (repeat' refine And.intro ?_ ?_) <;> (first | omega | rfl | assumption | skip)
            · (repeat' (first | simp (maxDischargeDepth := 9) -implicitDefEqProofs -dsimp only [go_sem, seval, *])) <;> (repeat' refine And.intro ?_ ?_) <;> (first | omega | rfl | assumption | skip)
          · rw [if_neg hb] at x4
            have hbb : ((frk b.2 x).2.1 == 0) = false := by simpa using hb
            repeat' (first | simp (maxDischargeDepth := 9) -implicitDefEqProofs -dsimp only [go_sem, seval, gt_iff_lt, *] | ((with_reducible refine Zv ?_ ?_); focus (first | omega | exact rfl)) | ((with_reducible refine Zu ?_ ?_); focus omega) | ((with_reducible refine Zt (fun oF hoF hnF hnF' => ?_)); clear hnF hnF'; (try simp only [Zw, ne_eq] at hoF)))
            refine loop_next _ _ _ _ ((frk b.2 x).2.1, l) ⟨?_, ?_, ⟨l1, by show (frk b.2 x).2.1 < _; omega, xl, k, by show (frk b.2 x).2.1 ≤ _; omega, x4⟩, by show (frk b.2 x).2.1.toNat < x.toNat; omega⟩
            · (repeat' (first | simp (maxDischargeDepth := 9) -implicitDefEqProofs -dsimp only [go_sem, seval, *])) <;> (repeat' refine And.intro ?_ ?_) <;> (first | omega | rfl | assumption | skip)
            · (repeat' (first | simp (maxDischargeDepth := 9) -implicitDefEqProofs -dsimp only [go_sem, seval, *])) <;> (repeat' refine And.intro ?_ ?_) <;> (first | omega | rfl | assumption | skip)
        · have hx1 : ¬ 1 < x := by omega
          have hu := unflat_bool l b.1.toNat xl.symm
          rw [one1_end (by omega)] at x4
          subst x4
          repeat' (first | simp (maxDischargeDepth := 9) -implicitDefEqProofs -dsimp only [go_sem, seval, gt_iff_lt, implies_true, *] | ((with_reducible refine Zv ?_ ?_); focus (first | omega | exact rfl)) | ((with_reducible refine Zu ?_ ?_); focus omega) | ((with_reducible refine Zt (fun oF hoF hnF hnF' => ?_)); clear hnF hnF'; (try simp only [Zw, ne_eq] at hoF)))
          refine fin_eq ?_
          (repeat' (first | simp (maxDischargeDepth := 9) -implicitDefEqProofs -dsimp only [go_sem, seval, *])) <;> (repeat' refine And.intro ?_ ?_) <;> (first | omega | rfl | assumption | skip)
  · have hw : oneW b f = ([], false, e) := by unfold oneW; rw [ask_err he h0, if_pos h0]
    rw [hw]
    have hb : (e != 0) = true := by simpa using h0
    repeat' (first | simp (maxDischargeDepth := 9) -implicitDefEqProofs -dsimp only [go_sem, seval, *] | ((with_reducible refine Zv ?_ ?_); focus (first | omega | exact rfl)) | ((with_reducible refine Zu ?_ ?_); focus omega) | ((with_reducible refine Zt (fun oF hoF hnF hnF' => ?_)); clear hnF hnF'; (try simp only [Zw, ne_eq] at hoF)) | ((with_reducible apply ACalls.one1); (focus ((first | with_reducible refine bdd_asked_no b.1 b.2 [f] _ hl e he h0 | with_reducible refine ACalls.flA (bdd_asked_no b.1 b.2 [f] _ hl e he h0) ?_) <;> (first | (simp (maxDischargeDepth := 9) -implicitDefEqProofs -dsimp only [go_sem, seval, *]; done) | omega))); (focus (first | trivial | with_reducible exact rfl | (simp (maxDischargeDepth := 9) -implicitDefEqProofs -dsimp only [go_sem, seval]; done)))))
    refine fin_eq ?_
    (repeat' (first | simp (maxDischargeDepth := 9) -implicitDefEqProofs -dsimp only [go_sem, seval, List.map_nil, *])) <;> (repeat' refine And.intro ?_ ?_) <;> (first | omega | rfl | assumption | skip)
end Go.Proofs.Ytjichkelfhcbcaa.B

namespace Fil.Bd
def cnt (t : List Bool) : Int := ((t.count true : Nat) : Int)
end Fil.Bd

namespace Go.Proofs.Ytjichkelfhcbcaa.B
open Abs Fil Fil.Bd
theorem eq3 (x y : T3) : (x.1 == y.1 && (x.2.1 == y.2.1 && x.2.2 == y.2.2)) = decide (x = y) := by
  rw [Bool.eq_iff_iff]
  simp only [Bool.and_eq_true, beq_iff_eq, decide_eq_true_eq]
  exact ⟨fun ⟨a, b, c⟩ => Prod.ext a (Prod.ext b c), fun e => by subst e; exact ⟨rfl, rfl, rfl⟩⟩
def newW (v : Int) : D × Int := if v < 0 then ((0, []), 1) else if 32 < v then ((0, []), 2) else ((v, [(-1, 0, 0), (-1, 0, 0)]), 0)
theorem bdd_New (v : Int) (σ : Sig) : ACalls Try.prog 34 [.int .i64 v] σ (fun r σ' => r = .ret (.tup [encB (newW v).1.1 (newW v).1.2, .int .i64 (newW v).2]) ∧ σ' = σ) := by
  refine calls_x mixed Try.func34 b34 n34 rfl q34 (by simp) ?_; unfold c34 r34
  by_cases h1 : v < 0
  · have hw : newW v = ((0, []), 1) := by unfold newW; rw [if_pos h1]
    rw [hw]
    repeat' (first | simp (maxDischargeDepth := 9) -implicitDefEqProofs -dsimp only [go_sem, seval, gt_iff_lt, *] | ((with_reducible refine Zt (fun oF hoF hnF hnF' => ?_)); clear hnF hnF'; (try simp only [Zw, ne_eq] at hoF)))
    refine fin_eq ?_
    (repeat' (first | simp (maxDischargeDepth := 9) -implicitDefEqProofs -dsimp only [go_sem, seval, List.map_nil, *])) <;> (repeat' refine And.intro ?_ ?_) <;> (first | omega | rfl | assumption | skip)
  by_cases h2 : 32 < v
  · have hw : newW v = ((0, []), 2) := by unfold newW; rw [if_neg h1, if_pos h2]
    rw [hw]
    repeat' (first | simp (maxDischargeDepth := 9) -implicitDefEqProofs -dsimp only [go_sem, seval, gt_iff_lt, *] | ((with_reducible refine Zt (fun oF hoF hnF hnF' => ?_)); clear hnF hnF'; (try simp only [Zw, ne_eq] at hoF)))
    refine fin_eq ?_
    (repeat' (first | simp (maxDischargeDepth := 9) -implicitDefEqProofs -dsimp only [go_sem, seval, List.map_nil, *])) <;> (repeat' refine And.intro ?_ ?_) <;> (first | omega | rfl | assumption | skip)
  · have hw : newW v = ((v, [(-1, 0, 0), (-1, 0, 0)]), 0) := by unfold newW; rw [if_neg h1, if_neg h2]
    rw [hw]
    repeat' (first | simp (maxDischargeDepth := 9) -implicitDefEqProofs -dsimp only [go_sem, seval, gt_iff_lt, *] | ((with_reducible refine Zt (fun oF hoF hnF hnF' => ?_)); clear hnF hnF'; (try simp only [Zw, ne_eq] at hoF)))
    refine fin_eq ?_
    (repeat' (first | simp (maxDischargeDepth := 9) -implicitDefEqProofs -dsimp only [go_sem, seval, List.map_nil, List.map_cons, *])) <;> (repeat' refine And.intro ?_ ?_) <;> (first | omega | rfl | assumption | skip)
theorem ref_below (vars : Int) (F : List T3) (n v i : Int) (σ : Sig) (hi : i ≤ F.length) :
    ACalls Try.prog 124 [encB vars F, .int .i64 n, .int .i64 v, .int .i64 i] σ (fun r σ' => r = .ret (.bool (und F n v i)) ∧ σ' = σ) := by
  refine calls_x mixed Try.func124 b124 n124 rfl q124 (by simp) ?_; unfold c124 r124
  repeat' (first | simp (maxDischargeDepth := 9) -implicitDefEqProofs -dsimp only [go_sem, seval, *] | (with_reducible (first | apply Za | apply Zb) <;> intro hq) | ((with_reducible refine Zu ?_ ?_); focus omega))
  all_goals refine fin_eq ?_
  all_goals (repeat' (first | simp (maxDischargeDepth := 9) -implicitDefEqProofs -dsimp only [go_sem, seval, und, *])) <;> (repeat' refine And.intro ?_ ?_) <;> (first | omega | rfl | assumption | skip)
theorem ref_fork (vars : Int) (F : List T3) (j : Nat) (σ : Sig) (h : j + 2 < F.length) (hl : F.length ≤ 65536) :
    ACalls Try.prog 119 [encB vars F, .int .i64 ((j : Int) + 2)] σ (fun r σ' => r = .ret (.bool (!bad vars F j)) ∧ σ' = σ) := by
  refine calls_x mixed Try.func119 b119 n119 rfl q119 (by simp) ?_; unfold c119 r119
  obtain ⟨x, hx⟩ : ∃ x, frk F ((j : Int) + 2) = x := ⟨_, rfl⟩
  have hj2 : (j : Int) + 2 ≤ F.length := by omega
  have hj3 : (j : Int) + 2 < F.length := by omega
  have hj0 : 0 ≤ (j : Int) + 2 := by omega
  by_cases c : 0 ≤ x.1 ∧ x.1 < vars ∧ x.2.1 ≠ x.2.2 ∧ und F x.2.1 x.1 (j + 2) = true ∧ und F x.2.2 x.1 (j + 2) = true
  · obtain ⟨c1, c2, c3, c4, c5⟩ := c
    have b1 : ¬ x.1 < 0 := by omega
    have b2 : ¬ vars ≤ x.1 := by omega
    have b3 : (x.2.1 == x.2.2) = false := by simpa using c3
    have hbad : bad vars F j = false ↔ ∀ i, i < j → frk F ((i : Int) + 2) ≠ x := by
      rw [bad_iff, hx]
      exact ⟨fun q => q.1, fun q => ⟨q, c1, c2, c3, c4, c5⟩⟩
    repeat' (first | simp (maxDischargeDepth := 9) -implicitDefEqProofs -dsimp only [go_sem, seval, ge_iff_le, *] | simp (disch := omega) only [wrap64] | (with_reducible (first | apply Zb | apply Zk | apply Zp | apply Zr) <;> intro hq) | ((with_reducible refine Zv ?_ ?_); focus (first | omega | exact rfl)) | ((with_reducible refine Zu ?_ ?_); focus omega) | ((with_reducible refine Zt (fun oF hoF hnF hnF' => ?_)); clear hnF hnF'; (try simp only [Zw, ne_eq] at hoF)) | ((with_reducible apply ACalls.one1); (focus ((first | with_reducible refine ref_below vars F _ _ _ _ hj2) <;> (first | (simp (maxDischargeDepth := 9) -implicitDefEqProofs -dsimp only [go_sem, seval, *]; done) | omega))); (focus (first | trivial | with_reducible exact rfl | (simp (maxDischargeDepth := 9) -implicitDefEqProofs -dsimp only [go_sem, seval]; done)))))
    all_goals first | (exfalso; omega) | skip
    refine loop_rule (fun i : Nat => [(6, some (.int .i64 ((i : Int) + 2))), (1, some (.int .i64 ((j : Int) + 2))), (2, some (.cptr [.int .i64 vars, .slice (F.map encF) .no])), (5, some (.ptr oF 0))]) (fun _ => upd σ oF (.cells [.int .i64 x.1, .int .i64 x.2.1, .int .i64 x.2.2])) (fun i => i ≤ j ∧ ∀ k : Nat, k < i → frk F ((k : Int) + 2) ≠ x) (fun i => j - i) 0 ?_ ?_
    · (repeat' (first | simp (maxDischargeDepth := 9) -implicitDefEqProofs -dsimp only [go_sem, seval, *] | simp (disch := omega) only [wrap64])) <;> (repeat' refine And.intro ?_ ?_) <;> (first | omega | rfl | assumption | skip)
    · rintro i ⟨hi, hall⟩
      by_cases hlt : i < j
      · have hi2 : (i : Int) + 2 < (j : Int) + 2 := by omega
        have hi3 : (i : Int) + 2 < F.length := by omega
        by_cases he : frk F ((i : Int) + 2) = x
        · have be : decide (frk F ((i : Int) + 2) = x) = true := by simpa using he
          have hb : bad vars F j = true := by
            rw [← Bool.not_eq_false]
            exact fun e => hbad.1 e i hlt he
          rw [hb]
          clear hall hbad he
          repeat' (first | simp (maxDischargeDepth := 9) -implicitDefEqProofs -dsimp only [go_sem, seval, eq3, *] | simp (disch := omega) only [wrap64] | (with_reducible (first | apply Zb | apply Zk | apply Zp | apply Zr) <;> intro hq) | ((with_reducible refine Zv ?_ ?_); focus (first | omega | exact rfl)) | ((with_reducible refine Zu ?_ ?_); focus omega) | ((with_reducible refine Zt (fun oF hoF hnF hnF' => ?_)); clear hnF hnF'; (try simp only [Zw, ne_eq] at hoF)))
          refine fin_eq ?_
          (repeat' (first | simp (maxDischargeDepth := 9) -implicitDefEqProofs -dsimp only [go_sem, seval, Bool.not_true, *] | simp (disch := omega) only [wrap64])) <;> (repeat' refine And.intro ?_ ?_) <;> (first | omega | rfl | assumption | skip)
        · have be : decide (frk F ((i : Int) + 2) = x) = false := by simpa using he
          have hall' : ∀ k : Nat, k < i + 1 → frk F ((k : Int) + 2) ≠ x := fun k hk => by
            rcases Nat.lt_or_ge k i with c | c
            · exact hall k c
            · have : k = i := by omega
              rw [this]; exact he
          clear hall hbad he
          repeat' (first | simp (maxDischargeDepth := 9) -implicitDefEqProofs -dsimp only [go_sem, seval, eq3, *] | simp (disch := omega) only [wrap64] | (with_reducible (first | apply Zb | apply Zk | apply Zp | apply Zr) <;> intro hq) | ((with_reducible refine Zv ?_ ?_); focus (first | omega | exact rfl)) | ((with_reducible refine Zu ?_ ?_); focus omega) | ((with_reducible refine Zt (fun oF hoF hnF hnF' => ?_)); clear hnF hnF'; (try simp only [Zw, ne_eq] at hoF)))
          have ei : ((i + 1 : Nat) : Int) + 2 = (i : Int) + 2 + 1 := by omega
          refine loop_next _ _ _ _ (i + 1) ?_; (repeat' (first | simp (maxDischargeDepth := 9) -implicitDefEqProofs -dsimp only [go_sem, seval,  ei, *] | simp (disch := omega) only [wrap64])) <;> (repeat' refine And.intro ?_ ?_) <;> (first | omega | rfl | assumption | skip)
      · have hb : bad vars F j = false := hbad.2 fun k hk => hall k (by omega)
        rw [hb]
        have hi2 : ¬ (i : Int) + 2 < (j : Int) + 2 := by omega
        clear hall hbad
        repeat' (first | simp (maxDischargeDepth := 9) -implicitDefEqProofs -dsimp only [go_sem, seval, *] | simp (disch := omega) only [wrap64] | (with_reducible (first | apply Zb | apply Zk | apply Zp | apply Zr) <;> intro hq) | ((with_reducible refine Zv ?_ ?_); focus (first | omega | exact rfl)) | ((with_reducible refine Zu ?_ ?_); focus omega) | ((with_reducible refine Zt (fun oF hoF hnF hnF' => ?_)); clear hnF hnF'; (try simp only [Zw, ne_eq] at hoF)))
        refine fin_eq ?_
        (repeat' (first | simp (maxDischargeDepth := 9) -implicitDefEqProofs -dsimp only [go_sem, seval, Bool.not_false, *] | simp (disch := omega) only [wrap64])) <;> (repeat' refine And.intro ?_ ?_) <;> (first | omega | rfl | assumption | skip)
  · have hb : bad vars F j = true := by
      rw [← Bool.not_eq_false]
      intro e
      rw [bad_iff, hx] at e
      exact c e.2
    rw [hb]
    clear hb
    repeat' (first | simp (maxDischargeDepth := 9) -implicitDefEqProofs -dsimp only [go_sem, seval, ge_iff_le, *] | simp (disch := omega) only [wrap64] | (with_reducible (first | apply Zb | apply Zk | apply Zp | apply Zr) <;> intro hq) | ((with_reducible refine Zv ?_ ?_); focus (first | omega | exact rfl)) | ((with_reducible refine Zu ?_ ?_); focus omega) | ((with_reducible refine Zt (fun oF hoF hnF hnF' => ?_)); clear hnF hnF'; (try simp only [Zw, ne_eq] at hoF)) | ((with_reducible apply ACalls.one1); (focus ((first | with_reducible refine ref_below vars F _ _ _ _ hj2) <;> (first | (simp (maxDischargeDepth := 9) -implicitDefEqProofs -dsimp only [go_sem, seval, *]; done) | omega))); (focus (first | trivial | with_reducible exact rfl | (simp (maxDischargeDepth := 9) -implicitDefEqProofs -dsimp only [go_sem, seval]; done)))))
    all_goals first | (with_reducible refine fin_eq ?_; (repeat' (first | simp (maxDischargeDepth := 9) -implicitDefEqProofs -dsimp only [go_sem, seval, Bool.not_true, *] | simp (disch := omega) only [wrap64])) <;> (repeat' refine And.intro ?_ ?_) <;> (first | omega | rfl | assumption | skip); done) | skip
    exfalso
    rename_i w1 w2 w3 w4
    exact c ⟨by omega, by omega, w3.1, w4, hq⟩
end Go.Proofs.Ytjichkelfhcbcaa.B

namespace Go.Proofs.Ytjichkelfhcbcaa.B
open Abs Fil Fil.Bd
theorem ref_Check (vars : Int) (F : List T3) (σ : Sig) (hl : F.length ≤ 9223372036854775807) :
    ACalls Try.prog 98 [encB vars F] σ (fun r σ' => r = .ret (.int .i64 (chk vars F)) ∧ σ' = σ) := by
  refine calls_x mixed Try.func98 b98 n98 rfl q98 (by simp) ?_; unfold c98 r98
  by_cases h1 : 65536 < F.length
  · have hc : chk vars F = 220 := by unfold chk; rw [if_pos h1]
    have h1' : (65536 : Int) < F.length := by omega
    rw [hc]
    repeat' (first | simp (maxDischargeDepth := 9) -implicitDefEqProofs -dsimp only [go_sem, seval, gt_iff_lt, *] | simp (disch := omega) only [wrap64] | (with_reducible (first | apply Zb | apply Zc | apply Zp | apply Zr) <;> intro hq) | ((with_reducible refine Zu ?_ ?_); focus omega) | ((with_reducible refine Zt (fun oF hoF hnF hnF' => ?_)); clear hnF hnF'; (try simp only [Zw, ne_eq] at hoF)))
    refine fin_eq ?_
    (repeat' (first | simp (maxDischargeDepth := 9) -implicitDefEqProofs -dsimp only [go_sem, seval, *] | simp (disch := omega) only [wrap64])) <;> (repeat' refine And.intro ?_ ?_) <;> (first | omega | rfl | assumption | skip)
  have h1' : ¬ (65536 : Int) < F.length := by omega
  cases hh : head vars F with
  | true =>
    have hc : chk vars F = 1 := by unfold chk; rw [if_neg h1, if_pos hh]
    rw [hc]
    simp only [head, Bool.or_eq_true, decide_eq_true_eq] at hh
    clear hc
    repeat' (first | simp (maxDischargeDepth := 9) -implicitDefEqProofs -dsimp only [go_sem, seval, gt_iff_lt, *] | simp (disch := omega) only [wrap64] | (with_reducible (first | apply Zb | apply Zc | apply Zp | apply Zr) <;> intro hq) | ((with_reducible refine Zu ?_ ?_); focus omega) | ((with_reducible refine Zt (fun oF hoF hnF hnF' => ?_)); clear hnF hnF'; (try simp only [Zw, ne_eq] at hoF)))
    all_goals first | (with_reducible refine fin_eq ?_; (repeat' (first | simp (maxDischargeDepth := 9) -implicitDefEqProofs -dsimp only [go_sem, seval, *] | simp (disch := omega) only [wrap64])) <;> (repeat' refine And.intro ?_ ?_) <;> (first | omega | rfl | assumption | skip); done) | skip
    exfalso
    rename_i q1 q2 q3 q4
    simp only [Bool.and_eq_true, beq_iff_eq] at hq q4
    rcases hh with (((h1 | h1) | h1) | h1) | h1
    · exact absurd h1 (by omega)
    · exact absurd h1 (by omega)
    · exact absurd h1 (by omega)
    · exact h1 (Prod.ext q4.1 (Prod.ext q4.2.1 q4.2.2))
    · exact h1 (Prod.ext hq.1 (Prod.ext hq.2.1 hq.2.2))
  | false =>
    obtain ⟨k1, k2, k3, k4, k5⟩ := begin_facts (by omega) hh
    have w1 : ¬ vars < 0 := by omega
    have w2 : ¬ 32 < vars := by omega
    have w3 : ¬ (F.length : Int) < 2 := by omega
    have hle : F.length ≤ 65536 := by omega
    repeat' (first | simp (maxDischargeDepth := 9) -implicitDefEqProofs -dsimp only [go_sem, seval, gt_iff_lt, *] | simp (disch := omega) only [wrap64] | (with_reducible (first | apply Zb | apply Zc | apply Zp | apply Zr) <;> intro hq) | ((with_reducible refine Zu ?_ ?_); focus omega) | ((with_reducible refine Zt (fun oF hoF hnF hnF' => ?_)); clear hnF hnF'; (try simp only [Zw, ne_eq] at hoF)))
    all_goals first | (exfalso; omega) | skip
    refine loop_rule (fun i : Nat => [(4, some (.int .i64 ((i : Int) + 2))), (1, some (.cptr [.int .i64 vars, .slice (F.map encF) .no]))]) (fun _ => σ) (fun i => i ≤ F.length - 2 ∧ ∀ k : Nat, k < i → bad vars F k = false) (fun i => F.length - 2 - i) 0 ?_ ?_
    · (repeat' (first | simp (maxDischargeDepth := 9) -implicitDefEqProofs -dsimp only [go_sem, seval, *] | simp (disch := omega) only [wrap64])) <;> (repeat' refine And.intro ?_ ?_) <;> (first | omega | rfl | assumption | skip)
    · rintro i ⟨hi, hall⟩
      by_cases hlt : i < F.length - 2
      · have hi2 : (i : Int) + 2 < F.length := by omega
        have hi3 : i + 2 < F.length := by omega
        cases hb : bad vars F i with
        | true =>
          have hc : chk vars F = 1 := by
            unfold chk
            rw [if_neg h1, if_neg (by simp [hh]), if_pos]
            simp only [List.any_eq_true, List.mem_range]
            exact ⟨i, hlt, hb⟩
          rw [hc]
          clear hall hc
          repeat' (first | simp (maxDischargeDepth := 9) -implicitDefEqProofs -dsimp only [go_sem, seval, *] | simp (disch := omega) only [wrap64] | (with_reducible (first | apply Zb | apply Zc | apply Zp | apply Zr) <;> intro hq) | ((with_reducible refine Zu ?_ ?_); focus omega) | ((with_reducible refine Zt (fun oF hoF hnF hnF' => ?_)); clear hnF hnF'; (try simp only [Zw, ne_eq] at hoF)) | ((with_reducible apply ACalls.one1); (focus ((first | with_reducible refine ref_fork vars F i _ hi3 hle) <;> (first | (simp (maxDischargeDepth := 9) -implicitDefEqProofs -dsimp only [go_sem, seval, *]; done) | omega))); (focus (first | trivial | with_reducible exact rfl | (simp (maxDischargeDepth := 9) -implicitDefEqProofs -dsimp only [go_sem, seval]; done)))))
          refine fin_eq ?_
          (repeat' (first | simp (maxDischargeDepth := 9) -implicitDefEqProofs -dsimp only [go_sem, seval, *] | simp (disch := omega) only [wrap64])) <;> (repeat' refine And.intro ?_ ?_) <;> (first | omega | rfl | assumption | skip)
        | false =>
          have hall' : ∀ k : Nat, k < i + 1 → bad vars F k = false := fun k hk => by
            rcases Nat.lt_or_ge k i with c | c
            · exact hall k c
            · have : k = i := by omega
              rw [this]; exact hb
          clear hall
          have ei : ((i + 1 : Nat) : Int) + 2 = (i : Int) + 2 + 1 := by omega
          repeat' (first | simp (maxDischargeDepth := 9) -implicitDefEqProofs -dsimp only [go_sem, seval, *] | simp (disch := omega) only [wrap64] | (with_reducible (first | apply Zb | apply Zc | apply Zp | apply Zr) <;> intro hq) | ((with_reducible refine Zu ?_ ?_); focus omega) | ((with_reducible refine Zt (fun oF hoF hnF hnF' => ?_)); clear hnF hnF'; (try simp only [Zw, ne_eq] at hoF)) | ((with_reducible apply ACalls.one1); (focus ((first | with_reducible refine ref_fork vars F i _ hi3 hle) <;> (first | (simp (maxDischargeDepth := 9) -implicitDefEqProofs -dsimp only [go_sem, seval, *]; done) | omega))); (focus (first | trivial | with_reducible exact rfl | (simp (maxDischargeDepth := 9) -implicitDefEqProofs -dsimp only [go_sem, seval]; done)))))
          refine loop_next _ _ _ _ (i + 1) ?_; (repeat' (first | simp (maxDischargeDepth := 9) -implicitDefEqProofs -dsimp only [go_sem, seval,  ei, *] | simp (disch := omega) only [wrap64])) <;> (repeat' refine And.intro ?_ ?_) <;> (first | omega | rfl | assumption | skip)
      · have hc : chk vars F = 0 := by
          unfold chk
          rw [if_neg h1, if_neg (by simp [hh]), if_neg]
          simp only [List.any_eq_true, List.mem_range, not_exists, not_and, Bool.not_eq_true]
          exact fun k hk => hall k (by omega)
        rw [hc]
        have hi2 : ¬ (i : Int) + 2 < F.length := by omega
        clear hall hc
        repeat' (first | simp (maxDischargeDepth := 9) -implicitDefEqProofs -dsimp only [go_sem, seval, *] | simp (disch := omega) only [wrap64] | (with_reducible (first | apply Zb | apply Zc | apply Zp | apply Zr) <;> intro hq) | ((with_reducible refine Zu ?_ ?_); focus omega) | ((with_reducible refine Zt (fun oF hoF hnF hnF' => ?_)); clear hnF hnF'; (try simp only [Zw, ne_eq] at hoF)))
        refine fin_eq ?_
        (repeat' (first | simp (maxDischargeDepth := 9) -implicitDefEqProofs -dsimp only [go_sem, seval, *] | simp (disch := omega) only [wrap64])) <;> (repeat' refine And.intro ?_ ?_) <;> (first | omega | rfl | assumption | skip)
def few (b : D) (n : Int) : Bool := decide (b.1 ≤ n ∧ (b.2.length : Int) ≤ 300 ∨ b.1 < 0 ∨ 32 < b.1 ∧ (b.2.length : Int) ≤ 300 ∨ 65536 < (b.2.length : Int))
end Go.Proofs.Ytjichkelfhcbcaa.B

namespace Fil.Bd
def lookT : List Bool → List Bool → Bool
  | t, [] => t.headD false
  | t, x :: w => lookT (if x then t.drop (2 ^ w.length) else t.take (2 ^ w.length)) w
theorem lookT_two {a b : List Bool} {x : Bool} {w : List Bool} (h : a.length = 2 ^ w.length) : lookT (a ++ b) (x :: w) = lookT (if x then b else a) w := by
  simp only [lookT]
  rw [List.drop_left' h, List.take_left' h]
theorem iteT_take : ∀ (n : Nat) (a b c : List Bool), (iteT a b c).take n = iteT (a.take n) (b.take n) (c.take n)
  | 0, a, b, c => by simp [iteT]
  | n + 1, [], b, c => by simp [iteT]
  | n + 1, x :: a, [], c => by simp [iteT]
  | n + 1, x :: a, y :: b, [] => by simp [iteT]
  | n + 1, x :: a, y :: b, z :: c => by simp [iteT, iteT_take n a b c]
theorem iteT_drop : ∀ (n : Nat) (a b c : List Bool), (iteT a b c).drop n = iteT (a.drop n) (b.drop n) (c.drop n)
  | 0, a, b, c => by simp
  | n + 1, [], b, c => by simp [iteT]
  | n + 1, x :: a, [], c => by
    have : ∀ d : List Bool, iteT d [] (c.drop (n + 1)) = [] := fun d => by cases d <;> rfl
    simp [iteT, this]
  | n + 1, x :: a, y :: b, [] => by
    have : ∀ d e : List Bool, iteT d e [] = [] := fun d e => by cases d <;> cases e <;> rfl
    simp [iteT, this]
  | n + 1, x :: a, y :: b, z :: c => by simp [iteT, iteT_drop n a b c]
theorem lookT_ite : ∀ (w a b c : List Bool), a.length = 2 ^ w.length → b.length = 2 ^ w.length → c.length = 2 ^ w.length → lookT (iteT a b c) w = if lookT a w then lookT b w else lookT c w
  | [], a, b, c, h1, h2, h3 => by
    match a, b, c, h1, h2, h3 with
    | [x], [y], [z], _, _, _ => simp [lookT, iteT]
  | x :: w, a, b, c, h1, h2, h3 => by
    have hp : 2 ^ (x :: w).length = 2 * 2 ^ w.length := by rw [List.length_cons, Nat.pow_succ]; omega
    simp only [lookT]
    cases x
    · simp only [Bool.false_eq_true, if_false]
      rw [iteT_take, lookT_ite w _ _ _ (by simp; omega) (by simp; omega) (by simp; omega)]
    · simp only [if_true]
      rw [iteT_drop, lookT_ite w _ _ _ (by simp; omega) (by simp; omega) (by simp; omega)]
theorem fine_of {vars : Int} {F l : List T3} (hf : Fine vars F) (ho : Ok vars (F ++ l)) (hl : (F ++ l).length ≤ 65536) : Fine vars (F ++ l) := by
  have h2 := hf.two
  exact ⟨ho, hf.few, hl, by rw [frk_app (by omega) (by omega)]; exact hf.end0, by rw [frk_app (by omega) (by omega)]; exact hf.end1⟩
theorem in_out {vars : Int} {F : List T3} {v n : Int} (h : In vars F v n) : outside F n = false := by
  simp [outside, h.1, h.2.1]
theorem T_len (b : D) (f : Int) : (T b f).length = 2 ^ b.1.toNat := tab_len ..
end Fil.Bd

namespace Fil.Bd
def bit (i k : Nat) : Bool := (i / 2 ^ k % 2 == 1)
def row (k i : Nat) : List Bool := (List.range k).map fun j => bit i (k - 1 - j)
end Fil.Bd

namespace Go.Proofs.Ytjichkelfhcbcaa.B
open Abs Fil Fil.Bd
theorem szs_bool (l : List Bool) : szs 1 (l.map encBool) = True := szs_map _ _ _ fun _ => rfl
end Go.Proofs.Ytjichkelfhcbcaa.B

namespace Fil.Bd
def fstT : Nat → List Bool → Option (List Bool)
  | 0, t => if t.headD false then some [] else none
  | k + 1, t => match fstT k (t.take (2 ^ k)) with
    | some w => some (false :: w)
    | none => (fstT k (t.drop (2 ^ k))).map (true :: ·)
theorem fst_two {k : Nat} {a b : List Bool} (h : a.length = 2 ^ k) : fstT (k + 1) (a ++ b) = (match fstT k a with
    | some w => some (false :: w)
    | none => (fstT k b).map (true :: ·)) := by
  simp only [fstT]
  rw [List.take_left' h, List.drop_left' h]
theorem fst_zeros : ∀ k : Nat, fstT k (List.replicate (2 ^ k) false) = none
  | 0 => rfl
  | k + 1 => by
    rw [show 2 ^ (k + 1) = 2 ^ k + 2 ^ k by rw [Nat.pow_succ]; omega, ← List.replicate_append_replicate, fst_two (by simp), fst_zeros k]
    rfl
theorem one_first {vars : Int} {F : List T3} (ho : Ok vars F) : ∀ (k K : Nat) (v n : Int) (l : List Bool), 0 ≤ v → v + k = vars → In vars F v n → n ≠ 0 → n ≤ K → (l.length : Int) = vars → l.drop v.toNat = List.replicate k false →
    ∃ w, w.length = k ∧ fstT k (tab F k v n) = some w ∧ one1 F K n l = l.take v.toNat ++ w
  | 0, K, v, n, l, h0, hv, hn, hne, hK, hl, hd => by
    have e : v = vars := by omega
    have hn1 : n = 1 := by
      have := (e ▸ hn : In vars F vars n).end ho
      omega
    subst hn1
    exact ⟨[], rfl, rfl, by rw [one1_end (by omega), List.take_of_length_le (by omega)]; simp⟩
  | k + 1, K, v, n, l, h0, hv, hn, hne, hK, hl, hd => by
    have hd' : l.drop (v + 1).toNat = List.replicate k false := by
      have := congrArg (List.drop 1) hd
      rw [List.drop_drop] at this
      rw [show (v + 1).toNat = v.toNat + 1 by omega, this]
      simp [List.replicate_succ]
    have hlt : v.toNat < l.length := by omega
    have hv0 : l[v.toNat] = false := by
      have h1 : (l.drop v.toNat)[0]? = some false := by rw [hd]; simp [List.replicate_succ]
      rw [List.getElem?_drop, Nat.add_zero, List.getElem?_eq_getElem hlt] at h1
      exact Option.some.inj h1
    have ht : l.take (v + 1).toNat = l.take v.toNat ++ [false] := by
      rw [show (v + 1).toNat = v.toNat + 1 by omega, List.take_add_one, List.getElem?_eq_getElem hlt, hv0]; rfl
    by_cases c : 2 ≤ n ∧ (frk F n).1 = v
    · obtain ⟨K, rfl⟩ : ∃ j, K = j + 1 := ⟨K - 1, by omega⟩
      have hlo := hn.lo ho c
      have hhi := hn.hi ho c
      have l1 := ho.low n c.1 hn.2.1
      have l2 := ho.high n c.1 hn.2.1
      have lne := ho.ne n c.1 hn.2.1
      rw [tab_at c, fst_two (tab_len ..), one1, if_neg (by omega)]
      by_cases hz : (frk F n).2.1 = 0
      · rw [if_pos hz, hz, tab_zero, fst_zeros, c.2]
        obtain ⟨w, w1, w2, w3⟩ := one_first ho k K (v + 1) (frk F n).2.2 (l.set v.toNat true) (by omega) (by omega) hhi (fun e => lne (by rw [hz, e])) (by omega) (by simpa using hl) (by
          rw [List.drop_set_of_lt (by omega)]; exact hd')
        refine ⟨true :: w, by simp [w1], by rw [w2]; rfl, ?_⟩
        rw [w3, show (v + 1).toNat = v.toNat + 1 by omega, List.take_add_one]
        simp [hlt, List.take_set_of_le]
      · rw [if_neg hz]
        obtain ⟨w, w1, w2, w3⟩ := one_first ho k K (v + 1) (frk F n).2.1 l (by omega) (by omega) hlo hz (by omega) hl hd'
        refine ⟨false :: w, by simp [w1], by rw [w2], ?_⟩
        rw [w3, ht]; simp
    · rw [tab_up c, fst_two (tab_len ..)]
      obtain ⟨w, w1, w2, w3⟩ := one_first ho k K (v + 1) n l (by omega) (by omega) (hn.up ho hv c) hne hK hl hd'
      refine ⟨false :: w, by simp [w1], by rw [w2], ?_⟩
      rw [w3, ht]; simp
theorem lookT_cons (t : List Bool) (x : Bool) (w : List Bool) : lookT t (x :: w) = lookT (if x then t.drop (2 ^ w.length) else t.take (2 ^ w.length)) w := rfl
theorem fst_spec : ∀ (k : Nat) (t w : List Bool), fstT k t = some w → w.length = k ∧ lookT t w = true ∧ ∀ u : List Bool, u.length = k → lookT t u = true → u = w ∨ ∃ p a b, w = p ++ false :: a ∧ u = p ++ true :: b
  | 0, t, w, h => by
    simp only [fstT] at h
    split at h
    · rename_i ht
      simp at h; subst h
      exact ⟨rfl, ht, fun u hu _ => .inl (List.length_eq_zero_iff.1 hu)⟩
    · simp at h
  | k + 1, t, w, h => by
    simp only [fstT] at h
    split at h
    · rename_i w' hw'
      simp at h; subst h
      obtain ⟨h1, h2, h3⟩ := fst_spec k _ _ hw'
      refine ⟨by simp [h1], by rw [lookT_cons, h1]; simpa using h2, fun u hu hlu => ?_⟩
      cases u with
      | nil => simp at hu
      | cons x u =>
        have hu' : u.length = k := by simpa using hu
        cases x
        · rw [lookT_cons, hu'] at hlu
          rcases h3 u hu' (by simpa using hlu) with rfl | ⟨p, a, b, e1, e2⟩
          · exact .inl rfl
          · exact .inr ⟨false :: p, a, b, by rw [e1]; rfl, by rw [e2]; rfl⟩
        · exact .inr ⟨[], w', u, rfl, rfl⟩
    · rename_i hn
      rw [Option.map_eq_some_iff] at h
      obtain ⟨w', hw', rfl⟩ := h
      obtain ⟨h1, h2, h3⟩ := fst_spec k _ _ hw'
      refine ⟨by simp [h1], by rw [lookT_cons, h1]; simpa using h2, fun u hu hlu => ?_⟩
      cases u with
      | nil => simp at hu
      | cons x u =>
        have hu' : u.length = k := by simpa using hu
        rw [lookT_cons, hu'] at hlu
        cases x
        · exfalso
          have := fst_none k _ hn u hu'
          simp only [Bool.false_eq_true, if_false] at hlu
          rw [this] at hlu; simp at hlu
        · rcases h3 u hu' (by simpa using hlu) with rfl | ⟨p, a, b, e1, e2⟩
          · exact .inl rfl
          · exact .inr ⟨true :: p, a, b, by rw [e1]; rfl, by rw [e2]; rfl⟩
where
  fst_none : ∀ (k : Nat) (t : List Bool), fstT k t = none → ∀ u : List Bool, u.length = k → lookT t u = false
    | 0, t, h, u, hu => by
      have := List.length_eq_zero_iff.1 hu
      subst this
      simp only [fstT] at h
      split at h
      · simp at h
      · rename_i ht; exact Bool.not_eq_true _ |>.mp ht
    | k + 1, t, h, u, hu => by
      simp only [fstT] at h
      split at h
      · simp at h
      · rename_i hn
        cases u with
        | nil => simp at hu
        | cons x u =>
          have hu' : u.length = k := by simpa using hu
          rw [lookT_cons, hu']
          cases x
          · simpa using fst_none k _ hn u hu'
          · simpa using fst_none k _ (by simpa using h) u hu'
theorem oneW_ok {b : D} {f : Int} (hf : Fine b.1 b.2) (i : In b.1 b.2 0 f) (h : f ≠ 0) : ∃ w, oneW b f = (w, true, 0) ∧ w.length = b.1.toNat ∧ fstT b.1.toNat (T b f) = some w := by
  have hlo := hf.lo
  obtain ⟨w, w1, w2, w3⟩ := one_first hf.toOk b.1.toNat f.toNat 0 f (List.replicate b.1.toNat false) (by omega) (by omega) i h (by have := i.1; omega) (by simp; omega) (by simp)
  refine ⟨w, ?_, w1, w2⟩
  unfold oneW
  rw [ask_ok hf (by simp [in_out i]), if_neg (by simp), if_neg h, w3]
  simp
end Fil.Bd

namespace Fil.Bd
theorem T_app {vars : Int} {F l : List T3} (ho : Ok vars F) {f : Int} (i : In vars F 0 f) : T (vars, F ++ l) f = T (vars, F) f := tab_app ho l _ _ _ i.1 i.2.1
end Fil.Bd

namespace Fil.Bd
theorem len_le_of_nodup {α : Type} [DecidableEq α] : ∀ (l m : List α), l.Nodup → (∀ x ∈ l, x ∈ m) → l.length ≤ m.length
  | [], m, _, _ => by simp
  | x :: l, m, h, hs => by
    have hx : x ∈ m := hs x (by simp)
    have hn := List.nodup_cons.1 h
    have := len_le_of_nodup l (m.erase x) hn.2 fun y hy => by
      have hne : y ≠ x := fun e => hn.1 (e ▸ hy)
      exact (List.mem_erase_of_ne hne).2 (hs y (by simp [hy]))
    rw [List.length_erase_of_mem hx] at this
    have hp := List.length_pos_of_mem hx
    simp only [List.length_cons]; omega
def allT : Nat → List (List Bool)
  | 0 => [[]]
  | n + 1 => (allT n).flatMap fun t => [false :: t, true :: t]
theorem allT_mem : ∀ (t : List Bool), t ∈ allT t.length
  | [] => by simp [allT]
  | x :: t => by
    simp only [List.length_cons, allT, List.mem_flatMap]
    exact ⟨t, allT_mem t, by cases x <;> simp⟩
theorem allT_len : ∀ n, (allT n).length = 2 ^ n
  | 0 => rfl
  | n + 1 => by
    have : ∀ l : List (List Bool), (l.flatMap fun t => [false :: t, true :: t]).length = 2 * l.length := fun l => by
      induction l with
      | nil => rfl
      | cons x l ih => simp only [List.flatMap_cons, List.length_append, List.length_cons, List.length_nil, ih]; omega
    rw [allT, this, allT_len n, Nat.pow_succ]; omega
def lowK (k : Nat) : List (Nat × List Bool) := (List.range k).flatMap fun j => (allT (2 ^ (j + 1))).map fun t => (j, t)
def isLow (vars : Int) (k : Nat) (F : List T3) (i : Nat) : Bool := decide (2 ≤ i) && decide (vars ≤ (frk F i).1 + k)
def isUp (vars : Int) (k : Nat) (F : List T3) (i : Nat) : Bool := decide (2 ≤ i) && !decide (vars ≤ (frk F i).1 + k)
theorem low_count {vars : Int} {F : List T3} (ho : Ok vars F) (k : Nat) : ((List.range F.length).filter (isLow vars k F)).length ≤ (lowK k).length := by
  have key : ((List.range F.length).filter (isLow vars k F)).length = (((List.range F.length).filter (isLow vars k F)).map fun i : Nat => ((vars - (frk F i).1).toNat - 1, tab F (vars - (frk F i).1).toNat (frk F i).1 i)).length := by simp
  rw [key]
  have hmem : ∀ i, i ∈ (List.range F.length).filter (isLow vars k F) → i < F.length ∧ 2 ≤ i ∧ vars ≤ (frk F i).1 + k := fun i h => by
    simp only [List.mem_filter, List.mem_range, isLow, Bool.and_eq_true, decide_eq_true_eq] at h
    exact ⟨h.1, h.2.1, h.2.2⟩
  refine len_le_of_nodup _ _ ?_ ?_
  · have hnd : ((List.range F.length).filter (isLow vars k F)).Nodup := List.nodup_range.filter _
    refine List.pairwise_map.2 (hnd.imp_of_mem ?_)
    intro i j hi hj hne he
    obtain ⟨i1, i2, i3⟩ := hmem i hi
    obtain ⟨j1, j2, j3⟩ := hmem j hj
    have vi := ho.var i (by omega) (by omega)
    have vj := ho.var j (by omega) (by omega)
    simp only [Prod.mk.injEq] at he
    have hv : (frk F i).1 = (frk F j).1 := by omega
    rw [hv] at he
    apply hne
    have := canon ho (vars - (frk F j).1).toNat (frk F j).1 i j (by omega) ⟨by omega, by omega, by unfold top; rw [if_neg (by omega)]; omega⟩ ⟨by omega, by omega, by unfold top; rw [if_neg (by omega)]; omega⟩ he.2
    omega
  · intro x hx
    simp only [List.mem_map] at hx
    obtain ⟨i, hi, rfl⟩ := hx
    obtain ⟨i1, i2, i3⟩ := hmem i hi
    have vi := ho.var i (by omega) (by omega)
    simp only [lowK, List.mem_flatMap, List.mem_range, List.mem_map]
    refine ⟨(vars - (frk F i).1).toNat - 1, by omega, _, ?_, rfl⟩
    have hl := tab_len F (vars - (frk F i).1).toNat (frk F i).1 i
    have := allT_mem (tab F (vars - (frk F i).1).toNat (frk F i).1 i)
    rw [hl] at this
    rwa [show (vars - (frk F i).1).toNat - 1 + 1 = (vars - (frk F i).1).toNat by omega]
def ups (vars : Int) (k : Nat) (F : List T3) : Nat := ((List.range F.length).filter (isUp vars k F)).length
theorem len_ups {vars : Int} {F : List T3} (ho : Ok vars F) (k : Nat) : F.length ≤ 2 + ups vars k F + (lowK k).length := by
  have h1 := low_count ho k
  have h2 : F.length = ((List.range F.length).filter fun i => decide (i < 2)).length + ups vars k F + ((List.range F.length).filter (isLow vars k F)).length := by
    have : ∀ l : List Nat, l.length = (l.filter fun i => decide (i < 2)).length + (l.filter (isUp vars k F)).length + (l.filter (isLow vars k F)).length := fun l => by
      induction l with
      | nil => rfl
      | cons x l ih =>
        have hc : (isUp vars k F x = true ∧ isLow vars k F x = false ∧ ¬ x < 2) ∨ (isUp vars k F x = false ∧ isLow vars k F x = true ∧ ¬ x < 2) ∨ (isUp vars k F x = false ∧ isLow vars k F x = false ∧ x < 2) := by
          unfold isUp isLow
          by_cases a : 2 ≤ x <;> by_cases b : vars ≤ (frk F x).1 + k <;> simp [a, b] <;> omega
        simp only [List.filter_cons, List.length_cons]
        rcases hc with ⟨a, b, c⟩ | ⟨a, b, c⟩ | ⟨a, b, c⟩ <;> simp [a, b, c] <;> omega
    have := this (List.range F.length)
    simpa [ups] using this
  have h3 : ((List.range F.length).filter fun i => decide (i < 2)).length ≤ 2 := by
    have := len_le_of_nodup ((List.range F.length).filter fun i => decide (i < 2)) [0, 1] (List.nodup_range.filter _) fun x hx => by
      simp only [List.mem_filter, decide_eq_true_eq] at hx
      have := hx.2
      simp; omega
    simpa using this
  omega
theorem ups_app {vars : Int} {k : Nat} {F : List T3} (x : T3) : ups vars k (F ++ [x]) ≤ ups vars k F + 1 ∧ (vars ≤ x.1 + k → ups vars k (F ++ [x]) = ups vars k F) := by
  unfold ups
  have hr : List.range (F ++ [x]).length = List.range F.length ++ [F.length] := by simp [List.range_succ]
  have he : (List.range F.length).filter (isUp vars k (F ++ [x])) = (List.range F.length).filter (isUp vars k F) := by
    refine List.filter_congr fun i hi => ?_
    have hi' := List.mem_range.1 hi
    unfold isUp
    rw [frk_app (by omega) (by omega)]
  rw [hr, List.filter_append, he, List.length_append]
  refine ⟨by have : ([F.length].filter (isUp vars k (F ++ [x]))).length ≤ 1 := List.length_filter_le _ _; omega, fun h => ?_⟩
  have hl : frk (F ++ [x]) F.length = x := by simp [frk, List.getD_eq_getElem?_getD]
  have : isUp vars k (F ++ [x]) F.length = false := by
    unfold isUp; rw [hl]; simp [h]
  simp [this]
theorem put_ups {vars : Int} {k : Nat} : ∀ (m : Nat) (F : List T3) (v : Int) (t : List Bool), v + m = vars → ups vars k (put m F v t).1 + 1 ≤ ups vars k F + 2 ^ (m - k)
  | 0, F, v, t, _ => by simp [put]
  | m + 1, F, v, t, hv => by
    have h1 := put_ups (vars := vars) (k := k) m F (v + 1) (t.take (2 ^ m)) (by omega)
    have h2 := put_ups (vars := vars) (k := k) m (put m F (v + 1) (t.take (2 ^ m))).1 (v + 1) (t.drop (2 ^ m)) (by omega)
    have hp1 := Nat.two_pow_pos (m - k)
    by_cases hk : m + 1 ≤ k
    · have e1 : m + 1 - k = 0 := by omega
      have e2 : m - k = 0 := by omega
      rw [e2] at h1 h2
      rw [e1]
      simp only [put]
      split
      · omega
      · split
        · simp only; omega
        · have := (ups_app (vars := vars) (k := k) (F := (put m (put m F (v + 1) (t.take (2 ^ m))).1 (v + 1) (t.drop (2 ^ m))).1) (v, (put m F (v + 1) (t.take (2 ^ m))).2, (put m (put m F (v + 1) (t.take (2 ^ m))).1 (v + 1) (t.drop (2 ^ m))).2)).2 (by show vars ≤ v + k; omega)
          simp only [this]; omega
    · have e1 : 2 ^ (m + 1 - k) = 2 * 2 ^ (m - k) := by rw [show m + 1 - k = (m - k) + 1 by omega, Nat.pow_succ]; omega
      simp only [put]
      split
      · omega
      · split
        · simp only; omega
        · have := (ups_app (vars := vars) (k := k) (F := (put m (put m F (v + 1) (t.take (2 ^ m))).1 (v + 1) (t.drop (2 ^ m))).1) (v, (put m F (v + 1) (t.take (2 ^ m))).2, (put m (put m F (v + 1) (t.take (2 ^ m))).1 (v + 1) (t.drop (2 ^ m))).2)).1
          simp only; omega
theorem low3 : (lowK 3).length = 276 := by
  simp only [lowK, List.length_flatMap, List.length_map, allT_len]
  rfl
end Fil.Bd

namespace Fil.Bd
theorem varT_len : ∀ (k d : Nat), d < k → (varT k d).length = 2 ^ k
  | 0, d, h => by omega
  | k + 1, 0, h => by simp [varT]; omega
  | k + 1, d + 1, h => by simp only [varT, List.length_append, varT_len k d (by omega)]; omega
end Fil.Bd

namespace Fil
open Abs
section
variable {g : Aig} {a b : Int}
theorem checkL_two (hc : g.check = 0) (ha : g.lit a = true) (hb : g.lit b = true) : g.checkL g.check [a, b] = 0 := checkL_zero.2 ⟨hc, by simp [ha, hb]⟩
end
end Fil

namespace Fil
open Abs
def Res (g : Aig) (n : Nat) (l : List Int) (r : Aig × Int × Int) : Prop :=
  (r.2.2 = 0 ∧ g.check = 0 ∧ (∀ a ∈ l, g.lit a = true) ∧ Fine r.1 ∧ Ext g r.1 ∧ r.1.lit r.2.1 = true ∧ r.1.ands.length ≤ g.ands.length + n) ∨ (r.2.2 ≠ 0 ∧ r.1 = ⟨0, [], [], []⟩ ∧ r.2.1 = 0)
theorem andO_len {g g' : Aig} {p q x : Int} (h : g.andO p q = some (g', x)) : g'.ands.length ≤ g.ands.length + 1 := by
  unfold Aig.andO at h
  simp only at h
  split at h
  · simp at h; obtain ⟨rfl, _⟩ := h; omega
  · split at h
    · simp at h; obtain ⟨rfl, _⟩ := h; omega
    · split at h
      · simp at h; obtain ⟨rfl, _⟩ := h; omega
      · split at h
        · simp at h
        · simp at h; obtain ⟨rfl, _⟩ := h; simp
theorem andW_len (g : Aig) (e p q : Int) : (g.andW e p q).1.ands.length ≤ g.ands.length + 1 := by
  unfold Aig.andW
  split
  · simp
  · cases h : g.andO p q with
    | none => simp
    | some r => exact andO_len h
theorem orW_ok {g : Aig} {e p q : Int} (hf : e = 0 → Fine g ∧ g.lit p = true ∧ g.lit q = true) :
    ((g.orW e p q).2.1 = 0 → Fine (g.orW e p q).1 ∧ (g.orW e p q).1.lit (g.orW e p q).2.2 = true) ∧ Ext g (g.orW e p q).1 := by
  obtain ⟨h1, h2, _⟩ := andW_ok (g := g) (e := e) (p := turn p) (q := turn q) fun h => ⟨(hf h).1, turn_lit (hf h).2.1, turn_lit (hf h).2.2⟩
  exact ⟨fun h => ⟨(h1 h).1, turn_lit (h1 h).2⟩, h2⟩
theorem pairsW_ok {g : Aig} {e a b c d : Int} (hf : e = 0 → Fine g ∧ g.lit a = true ∧ g.lit b = true ∧ g.lit c = true ∧ g.lit d = true) :
    ((g.pairs e a b c d).2.1 = 0 → e = 0 ∧ Fine (g.pairs e a b c d).1 ∧ (g.pairs e a b c d).1.lit (g.pairs e a b c d).2.2 = true) ∧ Ext g (g.pairs e a b c d).1 ∧ (g.pairs e a b c d).1.ands.length ≤ g.ands.length + 3 := by
  obtain ⟨h1, h2, _⟩ := andW_ok (g := g) (e := e) (p := a) (q := b) fun h => ⟨(hf h).1, (hf h).2.1, (hf h).2.2.1⟩
  obtain ⟨k1, k2, _⟩ := andW_ok (g := (g.andW e a b).1) (e := (g.andW e a b).2.1) (p := c) (q := d) fun h => by
    obtain ⟨_, _, _, hc, hd⟩ := hf (andW_err h)
    exact ⟨(h1 h).1, h2.lit hc, h2.lit hd⟩
  obtain ⟨m1, m2⟩ := orW_ok (g := ((g.andW e a b).1.andW (g.andW e a b).2.1 c d).1) (e := ((g.andW e a b).1.andW (g.andW e a b).2.1 c d).2.1) (p := (g.andW e a b).2.2) (q := ((g.andW e a b).1.andW (g.andW e a b).2.1 c d).2.2) fun h =>
    ⟨(k1 h).1, k2.lit (h1 (andW_err h)).2, (k1 h).2⟩
  have l1 := andW_len g e a b
  have l2 := andW_len (g.andW e a b).1 (g.andW e a b).2.1 c d
  have l3 := andW_len ((g.andW e a b).1.andW (g.andW e a b).2.1 c d).1 ((g.andW e a b).1.andW (g.andW e a b).2.1 c d).2.1 (turn (g.andW e a b).2.2) (turn ((g.andW e a b).1.andW (g.andW e a b).2.1 c d).2.2)
  exact ⟨fun h => ⟨andW_err (andW_err (andW_err h)), m1 h⟩, (h2.trans k2).trans m2, by
    show ((_ : Aig).andW _ _ _).1.ands.length ≤ _
    omega⟩
theorem and_res {g : Aig} (hs : Wf g) (a b : Int) : Res g 1 [a, b] (g.And a b) := by
  unfold Aig.And
  have hk : g.checkL g.check [a, b] = 0 → Fine g ∧ g.lit a = true ∧ g.lit b = true := fun h => by
    obtain ⟨h1, h2⟩ := checkL_fine hs h
    exact ⟨h1, h2 _ (by simp), h2 _ (by simp)⟩
  have ok := andW_ok hk
  by_cases h : (g.andW (g.checkL g.check [a, b]) a b).2.1 = 0
  · left
    rw [endW_ok h]
    have h0 := andW_err h
    obtain ⟨k1, k2⟩ := hk h0
    exact ⟨rfl, (checkL_zero.1 h0).1, (checkL_zero.1 h0).2, (ok.1 h).1, ok.2.1, (ok.1 h).2, andW_len _ _ _ _⟩
  · right
    rw [endW_err h]
    exact ⟨h, rfl, rfl⟩
theorem or_res {g : Aig} (hs : Wf g) (a b : Int) : Res g 1 [a, b] (g.Or a b) := by
  unfold Aig.Or
  have hk : g.checkL g.check [a, b] = 0 → Fine g ∧ g.lit a = true ∧ g.lit b = true := fun h => by
    obtain ⟨h1, h2⟩ := checkL_fine hs h
    exact ⟨h1, h2 _ (by simp), h2 _ (by simp)⟩
  have ok := orW_ok hk
  by_cases h : (g.orW (g.checkL g.check [a, b]) a b).2.1 = 0
  · left
    rw [endW_ok h]
    have h0 : g.checkL g.check [a, b] = 0 := andW_err h
    exact ⟨rfl, (checkL_zero.1 h0).1, (checkL_zero.1 h0).2, (ok.1 h).1, ok.2, (ok.1 h).2, andW_len _ _ _ _⟩
  · right
    rw [endW_err h]
    exact ⟨h, rfl, rfl⟩
theorem xor_res {g : Aig} (hs : Wf g) (a b : Int) : Res g 3 [a, b] (g.Xor a b) := by
  unfold Aig.Xor
  have ok := pairsW_ok (g := g) (e := g.checkL g.check [a, b]) (a := a) (b := turn b) (c := turn a) (d := b) fun h => by
    obtain ⟨h1, h2⟩ := checkL_fine hs h
    exact ⟨h1, h2 _ (by simp), turn_lit (h2 _ (by simp)), turn_lit (h2 _ (by simp)), h2 _ (by simp)⟩
  by_cases h : (g.pairs (g.checkL g.check [a, b]) a (turn b) (turn a) b).2.1 = 0
  · left
    rw [endW_ok h]
    obtain ⟨h0, k1, k2⟩ := ok.1 h
    exact ⟨rfl, (checkL_zero.1 h0).1, (checkL_zero.1 h0).2, k1, ok.2.1, k2, ok.2.2⟩
  · right
    rw [endW_err h]
    exact ⟨h, rfl, rfl⟩
theorem zero_wf : Wf ⟨0, [], [], []⟩ := ⟨by simp [I64], by simp, by simp, by simp, by simp, by simp, by simp⟩
theorem Res.wf {g : Aig} {n : Nat} {l : List Int} {r : Aig × Int × Int} (h : Res g n l r) : Wf r.1 ∧ I64 r.2.1 := by
  rcases h with ⟨_, _, _, h, _, hl, _⟩ | ⟨_, h, h'⟩
  · have := litN_iff.1 hl
    have := h.cnt
    exact ⟨h.toWf, by omega, by omega⟩
  · rw [h, h']; exact ⟨zero_wf, by simp [I64]⟩
end Fil

