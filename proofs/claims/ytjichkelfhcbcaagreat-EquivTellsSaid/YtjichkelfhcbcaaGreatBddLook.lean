/- bdd: plain models: Eval, One, Count. No program in sight. -/
import Derived.KernelRfl
import Derived.Test.YtjichkelfhcbcaaGreatBddCheck
set_option linter.unusedSimpArgs false
set_option linter.unusedVariables false
namespace Go.Proofs.YtjichkelfhcbcaaGreat.B
open Abs Fil Fil.Bd
theorem bdd_top (m a d : Nat) (k : Tok) (vars : Int) (F : List T3) (n : Int) (σ : Sig) (h : σ m = some (machT vars F k a d)) (h0 : 0 ≤ n) (hn : n < F.length) :
    ACalls Tryz.prog 82 [.ptr m 0, .int .i64 n] σ (fun r σ' => r = .ret (.int .i64 (top vars F n)) ∧ σ' = σ) := by
  refine calls_x mixed Tryz.func82 b82 n82 rfl q82 (by simp) ?_; unfold c82 r82
  repeat' (first | simp (maxDischargeDepth := 9) -implicitDefEqProofs -dsimp only [go_sem, seval, *] | (with_reducible (first | apply Zc) <;> intro hq) | ((with_reducible refine Zu ?_ ?_); focus omega))
  · refine fin_eq ?_
    (repeat' (first | simp (maxDischargeDepth := 9) -implicitDefEqProofs -dsimp only [go_sem, seval, top, *])) <;> (repeat' refine And.intro ?_ ?_) <;> (first | omega | rfl | assumption | skip)
  · refine fin_eq ?_
    have : ¬ n < 2 := by omega
    (repeat' (first | simp (maxDischargeDepth := 9) -implicitDefEqProofs -dsimp only [go_sem, seval, top, this, *])) <;> (repeat' refine And.intro ?_ ?_) <;> (first | omega | rfl | assumption | skip)
theorem bdd_under (m a d : Nat) (k : Tok) (vars : Int) (F : List T3) (n v i : Int) (σ : Sig) (h : σ m = some (machT vars F k a d)) (hi : i < F.length) :
    ACalls Tryz.prog 92 [.ptr m 0, .int .i64 n, .int .i64 v, .int .i64 i] σ (fun r σ' => r = .ret (.bool (und F n v i)) ∧ σ' = σ) := by
  refine calls_x mixed Tryz.func92 b92 n92 rfl q92 (by simp) ?_; unfold c92 r92
  repeat' (first | simp (maxDischargeDepth := 9) -implicitDefEqProofs -dsimp only [go_sem, seval, *] | (with_reducible (first | apply Za | apply Zb) <;> intro hq) | ((with_reducible refine Zu ?_ ?_); focus omega))
  all_goals refine fin_eq ?_
  all_goals (repeat' (first | simp (maxDischargeDepth := 9) -implicitDefEqProofs -dsimp only [go_sem, seval, und, *])) <;> (repeat' refine And.intro ?_ ?_) <;> (first | omega | rfl | assumption | skip)
theorem bdd_half (m a d : Nat) (k : Tok) (vars : Int) (F : List T3) (n v : Int) (w : Bool) (σ : Sig) (h : σ m = some (machT vars F k a d)) (h0 : 0 ≤ n) (hn : n < F.length) (hv : v < vars) :
    ACalls Tryz.prog 83 [.ptr m 0, .int .i64 n, .int .i64 v, .int .i64 (if w then 1 else 0)] σ (fun r σ' => r = .ret (.int .i64 (halfM vars F n v w)) ∧ σ' = σ) := by
  refine calls_x mixed Tryz.func83 b83 n83 rfl q83 (by simp) ?_; unfold c83 r83
  by_cases c : top vars F n = v
  · have h2 := top_at hv c
    have h3 := h2.1
    cases w
    · repeat' (first | simp (maxDischargeDepth := 9) -implicitDefEqProofs -dsimp only [go_sem, seval, *] | ((with_reducible refine Zu ?_ ?_); focus omega) | ((with_reducible apply ACalls.one1); (focus ((first | with_reducible refine bdd_top m a d k vars F n σ h h0 hn) <;> (first | (simp (maxDischargeDepth := 9) -implicitDefEqProofs -dsimp only [go_sem, seval, *]; done) | omega))); (focus (first | trivial | with_reducible exact rfl | (simp (maxDischargeDepth := 9) -implicitDefEqProofs -dsimp only [go_sem, seval]; done)))))
      refine fin_eq ?_
      (repeat' (first | simp (maxDischargeDepth := 9) -implicitDefEqProofs -dsimp only [go_sem, seval, halfM, *])) <;> (repeat' refine And.intro ?_ ?_) <;> (first | omega | rfl | assumption | skip)
    · repeat' (first | simp (maxDischargeDepth := 9) -implicitDefEqProofs -dsimp only [go_sem, seval, *] | ((with_reducible refine Zu ?_ ?_); focus omega) | ((with_reducible apply ACalls.one1); (focus ((first | with_reducible refine bdd_top m a d k vars F n σ h h0 hn) <;> (first | (simp (maxDischargeDepth := 9) -implicitDefEqProofs -dsimp only [go_sem, seval, *]; done) | omega))); (focus (first | trivial | with_reducible exact rfl | (simp (maxDischargeDepth := 9) -implicitDefEqProofs -dsimp only [go_sem, seval]; done)))))
      refine fin_eq ?_
      (repeat' (first | simp (maxDischargeDepth := 9) -implicitDefEqProofs -dsimp only [go_sem, seval, halfM, *])) <;> (repeat' refine And.intro ?_ ?_) <;> (first | omega | rfl | assumption | skip)
  · have c' : (top vars F n != v) = true := by simpa using c
    repeat' (first | simp (maxDischargeDepth := 9) -implicitDefEqProofs -dsimp only [go_sem, seval, *] | ((with_reducible refine Zu ?_ ?_); focus omega) | ((with_reducible apply ACalls.one1); (focus ((first | with_reducible refine bdd_top m a d k vars F n σ h h0 hn) <;> (first | (simp (maxDischargeDepth := 9) -implicitDefEqProofs -dsimp only [go_sem, seval, *]; done) | omega))); (focus (first | trivial | with_reducible exact rfl | (simp (maxDischargeDepth := 9) -implicitDefEqProofs -dsimp only [go_sem, seval]; done)))))
    refine fin_eq ?_
    (repeat' (first | simp (maxDischargeDepth := 9) -implicitDefEqProofs -dsimp only [go_sem, seval, halfM, *])) <;> (repeat' refine And.intro ?_ ?_) <;> (first | omega | rfl | assumption | skip)
end Go.Proofs.YtjichkelfhcbcaaGreat.B

namespace Go.Proofs.YtjichkelfhcbcaaGreat.B
open Abs Fil Fil.Bd
structure Apart (m t a d : Nat) : Prop where
  mt : ¬ m = t
  ma : ¬ m = a
  md : ¬ m = d
  ta : ¬ t = a
  td : ¬ t = d
  ad : ¬ a = d
  mt' : ¬ t = m
  ma' : ¬ a = m
  md' : ¬ d = m
  ta' : ¬ a = t
  td' : ¬ d = t
  ad' : ¬ d = a
theorem bdd_fork (m t a d : Nat) (vars : Int) (s : Mac) (v lo hi : Int) (σ : Sig) (hne : Apart m t a d) (h1 : σ m = some (machT vars s.forks (.own t) a d)) (h2 : σ t = some (.grow 3 s.forks.length)) (h3 : σ a = some (.map true (encM s.at_))) (hr : lo ≠ hi → get3 s.at_ (v, lo, hi) = none → s.forks.length < 65536) :
    ACalls Tryz.prog 52 [.ptr m 0, .int .i64 v, .int .i64 lo, .int .i64 hi] σ (fun r σ' => r = .ret (.int .i64 (forkM s v lo hi).2) ∧
      σ' = upd (upd (upd σ m (machT vars (forkM s v lo hi).1.forks (.own t) a d)) t (.grow 3 (forkM s v lo hi).1.forks.length)) a (.map true (encM (forkM s v lo hi).1.at_))) := by
  refine calls_x mixed Tryz.func52 b52 n52 rfl q52 (by simp) ?_; unfold c52 r52
  obtain ⟨e1, e2, e3, e4, e5, e6, f1, f2, f3, f4, f5, f6⟩ := hne
  by_cases c : lo = hi
  · subst c
    repeat' (first | simp (maxDischargeDepth := 9) -implicitDefEqProofs -dsimp only [go_sem, seval, *] | simp (disch := omega) only [wrap64] | (with_reducible (first | apply Zc) <;> intro hq) | ((with_reducible refine Zv ?_ ?_); focus (first | omega | exact rfl)) | ((with_reducible refine Zt (fun oF hoF hnF hnF' => ?_)); (try simp only [upd_none, ne_eq, not_and] at hoF)))
    refine fin_eq ?_
    (repeat' (first | simp (maxDischargeDepth := 9) -implicitDefEqProofs -dsimp only [go_sem, seval, forkM, *] | simp (disch := omega) only [wrap64])) <;> (repeat' refine And.intro ?_ ?_) <;> (first | omega | rfl | assumption | skip)
  · have cb : (lo == hi) = false := by simpa using c
    cases hg : get3 s.at_ (v, lo, hi) with
    | some n =>
      have hf : forkM s v lo hi = (s, n) := by simp only [forkM, if_neg c, hg]
      rw [hf]
      repeat' (first | simp (maxDischargeDepth := 9) -implicitDefEqProofs -dsimp only [go_sem, seval, Option.map_some, Option.getD_some, Option.isSome_some, *] | simp (disch := omega) only [wrap64] | (with_reducible (first | apply Zc) <;> intro hq) | ((with_reducible refine Zv ?_ ?_); focus (first | omega | exact rfl)) | ((with_reducible refine Zt (fun oF hoF hnF hnF' => ?_)); (try simp only [upd_none, ne_eq, not_and] at hoF)))
      refine fin_eq ?_
      (repeat' (first | simp (maxDischargeDepth := 9) -implicitDefEqProofs -dsimp only [go_sem, seval, *] | simp (disch := omega) only [wrap64])) <;> (repeat' refine And.intro ?_ ?_) <;> (first | omega | rfl | assumption | skip)
    | none =>
      have hf : forkM s v lo hi = ({ s with forks := s.forks ++ [(v, lo, hi)], at_ := set3 s.at_ (v, lo, hi) s.forks.length }, (s.forks.length : Int)) := by simp only [forkM, if_neg c, hg]
      rw [hf]
      have hr' := hr c hg
      repeat' (first | simp (maxDischargeDepth := 9) -implicitDefEqProofs -dsimp only [go_sem, seval, Option.map_none, Option.getD_none, Option.isSome_none, *] | simp (disch := omega) only [wrap64] | (with_reducible (first | apply Zc) <;> intro hq) | ((with_reducible refine Zv ?_ ?_); focus (first | omega | exact rfl)) | ((with_reducible refine Zt (fun oF hoF hnF hnF' => ?_)); (try simp only [upd_none, ne_eq, not_and] at hoF)))
      · exfalso; omega
      refine fin_eq ?_
      have en : (s.forks.length : Int) + 1 - 1 = s.forks.length := by omega
      (repeat' (first | simp (maxDischargeDepth := 9) -implicitDefEqProofs -dsimp only [go_sem, seval, en, implies_true, *] | simp (disch := omega) only [wrap64])) <;> (repeat' refine And.intro ?_ ?_) <;> (first | omega | rfl | assumption | skip)
theorem bdd_half0 (m a d : Nat) (k : Tok) (vars : Int) (F : List T3) (n v : Int) (σ : Sig) (h : σ m = some (machT vars F k a d)) (h0 : 0 ≤ n) (hn : n < F.length) (hv : v < vars) :
    ACalls Tryz.prog 83 [.ptr m 0, .int .i64 n, .int .i64 v, .int .i64 0] σ (fun r σ' => r = .ret (.int .i64 (halfM vars F n v false)) ∧ σ' = σ) := bdd_half m a d k vars F n v false σ h h0 hn hv
theorem bdd_half1 (m a d : Nat) (k : Tok) (vars : Int) (F : List T3) (n v : Int) (σ : Sig) (h : σ m = some (machT vars F k a d)) (h0 : 0 ≤ n) (hn : n < F.length) (hv : v < vars) :
    ACalls Tryz.prog 83 [.ptr m 0, .int .i64 n, .int .i64 v, .int .i64 1] σ (fun r σ' => r = .ret (.int .i64 (halfM vars F n v true)) ∧ σ' = σ) := bdd_half m a d k vars F n v true σ h h0 hn hv
theorem forkM_done (s : Mac) (v lo hi : Int) : (forkM s v lo hi).1.done = s.done := by
  unfold forkM
  split
  · rfl
  · split <;> rfl
theorem bdd_ite (m t a d : Nat) (hne : Apart m t a d) (vars : Int) : ∀ (n : Nat) (s : Mac) (f g h v : Int) (σ : Sig), σ m = some (machT vars s.forks (.own t) a d) → σ t = some (.grow 3 s.forks.length) → σ a = some (.map true (encM s.at_)) → σ d = some (.map true (encM s.done)) → MOk vars s → Kept (DoneOk vars) s → vars ≤ 32 → 0 ≤ v → vars < v + n → s.forks.length + 2 ^ n ≤ 65537 →
    In vars s.forks v f → In vars s.forks v g → In vars s.forks v h →
    ACalls Tryz.prog 56 [.ptr m 0, .int .i64 f, .int .i64 g, .int .i64 h] σ (fun r σ' => r = .ret (.int .i64 (iteM vars n s f g h).2) ∧
      σ' = upd (upd (upd (upd σ m (machT vars (iteM vars n s f g h).1.forks (.own t) a d)) t (.grow 3 (iteM vars n s f g h).1.forks.length)) a (.map true (encM (iteM vars n s f g h).1.at_))) d (.map true (encM (iteM vars n s f g h).1.done)))
  | 0, s, f, g, h, v, σ, h1, h2, h3, h4, hm, hk, hvars, hv0, hvn, hroom, hf, hg, hh => by
    exfalso
    have := top_In hm.ok hf
    have := hf.2.2
    omega
  | n + 1, s, f, g, h, v, σ, h1, h2, h3, h4, hm, hk, hvars, hv0, hvn, hroom, hf, hg, hh => by
    refine calls_x mixed Tryz.func56 b56 n56 rfl q56 (by simp) ?_; unfold c56 r56
    have hne' := hne
    obtain ⟨e1, e2, e3, e4, e5, e6, f1, f2, f3, f4, f5, f6⟩ := hne'
    by_cases c1 : f = 1 ∨ g = h
    · have hi : iteM vars (n + 1) s f g h = (s, g) := by simp only [iteM, if_pos c1]
      rw [hi]
      repeat' (first | simp (maxDischargeDepth := 9) -implicitDefEqProofs -dsimp only [go_sem, seval, *] | simp (disch := omega) only [wrap64] | (with_reducible (first | apply Zd | apply Ze | apply Zf | apply Zl | apply Zr) <;> intro hq) | ((with_reducible refine Zt (fun oF hoF hnF hnF' => ?_)); (try simp only [upd_none, ne_eq, not_and] at hoF)))
      all_goals first | (exfalso; omega) | (refine fin_eq ?_; (repeat' (first | simp (maxDischargeDepth := 9) -implicitDefEqProofs -dsimp only [go_sem, seval, *] | simp (disch := omega) only [wrap64])) <;> (repeat' refine And.intro ?_ ?_) <;> (first | omega | rfl | assumption | skip); done)
    by_cases c2 : f = 0
    · have hi : iteM vars (n + 1) s f g h = (s, h) := by simp only [iteM, if_neg c1, if_pos c2]
      rw [hi]
      repeat' (first | simp (maxDischargeDepth := 9) -implicitDefEqProofs -dsimp only [go_sem, seval, *] | simp (disch := omega) only [wrap64] | (with_reducible (first | apply Zd | apply Ze | apply Zf | apply Zl | apply Zr) <;> intro hq) | ((with_reducible refine Zt (fun oF hoF hnF hnF' => ?_)); (try simp only [upd_none, ne_eq, not_and] at hoF)))
      all_goals first | (exfalso; omega) | (refine fin_eq ?_; (repeat' (first | simp (maxDischargeDepth := 9) -implicitDefEqProofs -dsimp only [go_sem, seval, *] | simp (disch := omega) only [wrap64])) <;> (repeat' refine And.intro ?_ ?_) <;> (first | omega | rfl | assumption | skip); done)
    by_cases c3 : g = 1 ∧ h = 0
    · have hi : iteM vars (n + 1) s f g h = (s, f) := by simp only [iteM, if_neg c1, if_neg c2, if_pos c3]
      rw [hi]
      repeat' (first | simp (maxDischargeDepth := 9) -implicitDefEqProofs -dsimp only [go_sem, seval, *] | simp (disch := omega) only [wrap64] | (with_reducible (first | apply Zd | apply Ze | apply Zf | apply Zl | apply Zr) <;> intro hq) | ((with_reducible refine Zt (fun oF hoF hnF hnF' => ?_)); (try simp only [upd_none, ne_eq, not_and] at hoF)))
      all_goals first | (exfalso; omega) | (refine fin_eq ?_; (repeat' (first | simp (maxDischargeDepth := 9) -implicitDefEqProofs -dsimp only [go_sem, seval, *] | simp (disch := omega) only [wrap64])) <;> (repeat' refine And.intro ?_ ?_) <;> (first | omega | rfl | assumption | skip); done)
    have hf2 : 2 ≤ f := by have := hf.1; omega
    have hv : v ≤ tops vars s.forks f g h := tops_le hf hg hh
    have htop : tops vars s.forks f g h < vars := by
      have := hm.ok.var f hf2 hf.2.1
      unfold tops top; rw [if_neg (by omega)]; omega
    have hmin : min (min (top vars s.forks f) (top vars s.forks g)) (top vars s.forks h) = tops vars s.forks f g h := by unfold tops; omega
    have if1 : 0 ≤ f := hf.1
    have if2 : f < s.forks.length := hf.2.1
    have ig1 : 0 ≤ g := hg.1
    have ig2 : g < s.forks.length := hg.2.1
    have ih1 : 0 ≤ h := hh.1
    have ih2 : h < s.forks.length := hh.2.1
    have b1 : (f == 1) = false := by simpa using fun e => c1 (.inl e)
    have b2 : (g == h) = false := by simpa using fun e => c1 (.inr e)
    have b3 : (f == 0) = false := by simpa using c2
    have b4 : ((g == 1) = true ∧ (h == 0) = false) ∨ (g == 1) = false := by
      by_cases c : g = 1
      · exact .inl ⟨by simpa using c, by simpa using fun e => c3 ⟨c, e⟩⟩
      · exact .inr (by simpa using c)
    cases hd : get3 s.done (f, g, h) with
    | some x =>
      have hi : iteM vars (n + 1) s f g h = (s, x) := by simp only [iteM, if_neg c1, if_neg c2, if_neg c3, hd]
      rw [hi]
      clear c1 c2 c3 hi hmin htop hv hvn
      rcases b4 with ⟨b4, b5⟩ | b4
      all_goals
        repeat' (first | simp (maxDischargeDepth := 9) -implicitDefEqProofs -dsimp only [go_sem, seval, Option.map_some, Option.getD_some, Option.isSome_some, *] | simp (disch := omega) only [wrap64] | (with_reducible (first | apply Zd | apply Ze | apply Zf | apply Zl | apply Zr) <;> intro hq) | ((with_reducible refine Zt (fun oF hoF hnF hnF' => ?_)); (try simp only [upd_none, ne_eq, not_and] at hoF)))
        all_goals (refine fin_eq ?_; (repeat' (first | simp (maxDischargeDepth := 9) -implicitDefEqProofs -dsimp only [go_sem, seval, *] | simp (disch := omega) only [wrap64])) <;> (repeat' refine And.intro ?_ ?_) <;> (first | omega | rfl | assumption | skip); done)
    | none =>
      obtain ⟨v0, ev0⟩ : ∃ v0, v0 = tops vars s.forks f g h := ⟨_, rfl⟩
      obtain ⟨A, eA⟩ : ∃ A, iteM vars n s (halfM vars s.forks f v0 false) (halfM vars s.forks g v0 false) (halfM vars s.forks h v0 false) = A := ⟨_, rfl⟩
      obtain ⟨B, eB⟩ : ∃ B, iteM vars n A.1 (halfM vars A.1.forks f v0 true) (halfM vars A.1.forks g v0 true) (halfM vars A.1.forks h v0 true) = B := ⟨_, rfl⟩
      have hi : iteM vars (n + 1) s f g h = (setD (forkM B.1 v0 A.2 B.2).1 (f, g, h) (forkM B.1 v0 A.2 B.2).2, (forkM B.1 v0 A.2 B.2).2) := by
        simp only [iteM, if_neg c1, if_neg c2, if_neg c3, hd, ← ev0, eA, eB]
      obtain ⟨p1, p2, p3, p4, p5, p6, p7, p8, p9, p10, p11, p12, p13⟩ := ite_parts hm hk hv0 hvn hf hg hh hf2 ev0 eA.symm eB.symm
      rw [← ev0] at hmin hv htop
      have if3 : f < A.1.forks.length := by omega
      have ig3 : g < A.1.forks.length := by omega
      have ih3 : h < A.1.forks.length := by omega
      have hvn' : vars < v0 + 1 + n := by omega
      have hv1 : 0 ≤ v0 + 1 := by omega
      have hr1 : s.forks.length + 2 ^ n ≤ 65537 := by rw [Nat.pow_succ] at hroom; omega
      have hr2 : A.1.forks.length + 2 ^ n ≤ 65537 := by omega
      have hr3 : A.2 ≠ B.2 → get3 B.1.at_ (v0, A.2, B.2) = none → B.1.forks.length < 65536 := fun _ _ => by omega
      have ihr := bdd_ite m t a d hne vars n
      have hdn := forkM_done B.1 v0 A.2 B.2
      rw [hi]
      clear c1 c2 c3 hv hvn hroom ev0 p8 p9 p13 hi htop hf hg hh hv0
      rcases b4 with ⟨b4, b5⟩ | b4
      all_goals
        repeat' (first | simp (maxDischargeDepth := 9) -implicitDefEqProofs -dsimp only [go_sem, seval, Option.map_none, Option.getD_none, Option.isSome_none, *] | simp (disch := omega) only [wrap64] | (with_reducible (first | apply Zd | apply Ze | apply Zf | apply Zl | apply Zr) <;> intro hq) | ((with_reducible refine Zt (fun oF hoF hnF hnF' => ?_)); (try simp only [upd_none, ne_eq, not_and] at hoF)) | ((with_reducible apply ACalls.one1); (focus ((first | with_reducible refine bdd_top m a d (.own t) vars s.forks f _ ?_ if1 if2 | with_reducible refine bdd_top m a d (.own t) vars s.forks _ _ ?_ ig1 ig2 | with_reducible refine bdd_top m a d (.own t) vars s.forks h _ ?_ ih1 ih2) <;> (first | (simp (maxDischargeDepth := 9) -implicitDefEqProofs -dsimp only [go_sem, seval, *]; done) | omega))); (focus (first | trivial | with_reducible exact rfl | (simp (maxDischargeDepth := 9) -implicitDefEqProofs -dsimp only [go_sem, seval]; done)))))
        rename_i o9 ho9 hn9 hn9'
        refine loop_rule (fun x : Int × Int × Int × Mac => [(62, some (.int .i64 x.1)), (0, some (.ptr m 0)), (1, some (.int .i64 f)), (2, some (.int .i64 g)), (3, some (.int .i64 h)), (12, some (.int .i64 v0)), (13, some (.ptr oF 0)), (9, some (.ptr o9 0))])
          (fun x => upd (upd (upd (upd (upd (upd σ o9 (.cells [.int .i64 f, .int .i64 g, .int .i64 h])) oF (.cells [.int .i64 x.2.1, .int .i64 x.2.2.1])) m (machT vars x.2.2.2.forks (.own t) a d)) t (.grow 3 x.2.2.2.forks.length)) a (.map true (encM x.2.2.2.at_))) d (.map true (encM x.2.2.2.done)))
          (fun x => x = (0, 0, 0, s) ∨ x = (1, A.2, 0, A.1) ∨ x = (2, A.2, B.2, B.1)) (fun x => (2 - x.1).toNat) (0, 0, 0, s) ?_ ?_
        · (repeat' (first | simp (maxDischargeDepth := 9) -implicitDefEqProofs -dsimp only [go_sem, seval, *] | simp (disch := omega) only [wrap64])) <;> (repeat' refine And.intro ?_ ?_) <;> (first | omega | rfl | assumption | skip)
        · rintro x (rfl | rfl | rfl)
          · repeat' (first | simp (maxDischargeDepth := 9) -implicitDefEqProofs -dsimp only [go_sem, seval, *] | simp (disch := omega) only [wrap64] | (with_reducible (first | apply Zd | apply Ze | apply Zf | apply Zl | apply Zr) <;> intro hq) | ((with_reducible refine Zt (fun oF hoF hnF hnF' => ?_)); (try simp only [upd_none, ne_eq, not_and] at hoF)) | ((with_reducible apply ACalls.one1); (focus ((first | with_reducible refine bdd_half0 m a d (.own t) vars s.forks f v0 _ ?_ if1 if2 p2 | with_reducible refine bdd_half0 m a d (.own t) vars s.forks g v0 _ ?_ ig1 ig2 p2 | with_reducible refine bdd_half0 m a d (.own t) vars s.forks h v0 _ ?_ ih1 ih2 p2 | with_reducible refine ihr s _ _ _ (v0 + 1) _ ?_ ?_ ?_ ?_ hm hk hvars hv1 hvn' hr1 p3 p4 p5) <;> (first | (simp (maxDischargeDepth := 9) -implicitDefEqProofs -dsimp only [go_sem, seval, *]; done) | omega))); (focus (first | trivial | with_reducible exact rfl | (simp (maxDischargeDepth := 9) -implicitDefEqProofs -dsimp only [go_sem, seval]; done)))))
            refine loop_next _ _ _ _ ((1, A.2, 0, A.1)) ?_; (repeat' (first | simp (maxDischargeDepth := 9) -implicitDefEqProofs -dsimp only [go_sem, seval, *] | simp (disch := omega) only [wrap64])) <;> (repeat' refine And.intro ?_ ?_) <;> (first | omega | rfl | assumption | skip)
          · repeat' (first | simp (maxDischargeDepth := 9) -implicitDefEqProofs -dsimp only [go_sem, seval, *] | simp (disch := omega) only [wrap64] | (with_reducible (first | apply Zd | apply Ze | apply Zf | apply Zl | apply Zr) <;> intro hq) | ((with_reducible refine Zt (fun oF hoF hnF hnF' => ?_)); (try simp only [upd_none, ne_eq, not_and] at hoF)) | ((with_reducible apply ACalls.one1); (focus ((first | with_reducible refine bdd_half1 m a d (.own t) vars A.1.forks f v0 _ ?_ if1 if3 p2 | with_reducible refine bdd_half1 m a d (.own t) vars A.1.forks g v0 _ ?_ ig1 ig3 p2 | with_reducible refine bdd_half1 m a d (.own t) vars A.1.forks h v0 _ ?_ ih1 ih3 p2 | with_reducible refine ihr A.1 _ _ _ (v0 + 1) _ ?_ ?_ ?_ ?_ p6 p7 hvars hv1 hvn' hr2 p10 p11 p12) <;> (first | (simp (maxDischargeDepth := 9) -implicitDefEqProofs -dsimp only [go_sem, seval, *]; done) | omega))); (focus (first | trivial | with_reducible exact rfl | (simp (maxDischargeDepth := 9) -implicitDefEqProofs -dsimp only [go_sem, seval]; done)))))
            refine loop_next _ _ _ _ ((2, A.2, B.2, B.1)) ?_; (repeat' (first | simp (maxDischargeDepth := 9) -implicitDefEqProofs -dsimp only [go_sem, seval, *] | simp (disch := omega) only [wrap64])) <;> (repeat' refine And.intro ?_ ?_) <;> (first | omega | rfl | assumption | skip)
          · repeat' (first | simp (maxDischargeDepth := 9) -implicitDefEqProofs -dsimp only [go_sem, seval, *] | simp (disch := omega) only [wrap64] | (with_reducible (first | apply Zd | apply Ze | apply Zf | apply Zl | apply Zr) <;> intro hq) | ((with_reducible refine Zt (fun oF hoF hnF hnF' => ?_)); (try simp only [upd_none, ne_eq, not_and] at hoF)) | ((with_reducible apply ACalls.one1); (focus ((first | with_reducible refine bdd_fork m t a d vars B.1 v0 A.2 B.2 _ hne ?_ ?_ ?_ hr3) <;> (first | (simp (maxDischargeDepth := 9) -implicitDefEqProofs -dsimp only [go_sem, seval, *]; done) | omega))); (focus (first | trivial | with_reducible exact rfl | (simp (maxDischargeDepth := 9) -implicitDefEqProofs -dsimp only [go_sem, seval]; done)))))
            refine fin_eq ?_
            (repeat' (first | simp (maxDischargeDepth := 9) -implicitDefEqProofs -dsimp only [go_sem, seval, setD, hdn, *] | simp (disch := omega) only [wrap64])) <;> (repeat' refine And.intro ?_ ?_) <;> (first | omega | rfl | assumption | skip)
end Go.Proofs.YtjichkelfhcbcaaGreat.B

namespace Go.Proofs.YtjichkelfhcbcaaGreat.B
open Abs Fil Fil.Bd
theorem sl_clipFork (F : List T3) (σ : Sig) (h : 0 < F.length) (hl : F.length ≤ 1000000000000) :
    ACalls Tryz.prog 93 [.slice (F.map encF) .no] σ (NewO σ (fun o => .slice (F.map encF) (.own o)) (.grow 3 F.length)) := by
  refine calls_x mixed Tryz.func93 b93 n93 rfl q93 (by simp) ?_; unfold c93 r93
  repeat' (first | simp (maxDischargeDepth := 9) -implicitDefEqProofs -dsimp only [go_sem, seval, *] | ((with_reducible refine Zv ?_ ?_); focus (first | omega | exact rfl)) | ((with_reducible refine Zt (fun oF hoF hnF hnF' => ?_)); (try simp only [upd_none, ne_eq, not_and] at hoF)))
  exact fin_id ⟨oF, hoF, rfl, rfl⟩
theorem bdd_begin_big (vars : Int) (F : List T3) (σ : Sig) (h : 65536 < F.length) (hl : F.length ≤ 9223372036854775807) :
    ACalls Tryz.prog 64 [encB vars F] σ (fun r σ' => r = .ret (.tup [.nilp, .int .i64 220]) ∧ σ' = σ) := by
  refine calls_x mixed Tryz.func64 b64 n64 rfl q64 (by simp) ?_; unfold c64 r64
  repeat' (first | simp (maxDischargeDepth := 9) -implicitDefEqProofs -dsimp only [go_sem, seval, gt_iff_lt, *] | (with_reducible (first | apply Zb | apply Zc | apply Zp | apply Zr) <;> intro hq) | ((with_reducible refine Zv ?_ ?_); focus (first | omega | exact rfl)) | ((with_reducible refine Zu ?_ ?_); focus omega) | ((with_reducible refine Zt (fun oF hoF hnF hnF' => ?_)); (try simp only [upd_none, ne_eq, not_and] at hoF)))
  all_goals first | (exfalso; omega) | (refine fin_eq ?_; (repeat' (first | simp (maxDischargeDepth := 9) -implicitDefEqProofs -dsimp only [go_sem, seval, *])) <;> (repeat' refine And.intro ?_ ?_) <;> (first | omega | rfl | assumption | skip); done)
theorem bdd_begin_head (vars : Int) (F : List T3) (σ : Sig) (h : F.length ≤ 65536) (hh : head vars F = true) :
    ACalls Tryz.prog 64 [encB vars F] σ (fun r σ' => r = .ret (.tup [.nilp, .int .i64 1]) ∧ σ' = σ) := by
  refine calls_x mixed Tryz.func64 b64 n64 rfl q64 (by simp) ?_; unfold c64 r64
  simp only [head, Bool.or_eq_true, decide_eq_true_eq] at hh
  repeat' (first | simp (maxDischargeDepth := 9) -implicitDefEqProofs -dsimp only [go_sem, seval, gt_iff_lt, *] | (with_reducible (first | apply Zb | apply Zc | apply Zp | apply Zr) <;> intro hq) | ((with_reducible refine Zv ?_ ?_); focus (first | omega | exact rfl)) | ((with_reducible refine Zu ?_ ?_); focus omega) | ((with_reducible refine Zt (fun oF hoF hnF hnF' => ?_)); (try simp only [upd_none, ne_eq, not_and] at hoF)))
  all_goals first | (exfalso; omega) | (refine fin_eq ?_; (repeat' (first | simp (maxDischargeDepth := 9) -implicitDefEqProofs -dsimp only [go_sem, seval, *])) <;> (repeat' refine And.intro ?_ ?_) <;> (first | omega | rfl | assumption | skip); done) | skip
  exfalso
  rename_i q4
  simp only [Bool.and_eq_true, beq_iff_eq] at hq q4
  rcases hh with (((h1 | h1) | h1) | h1) | h1
  · exact absurd h1 (by omega)
  · exact absurd h1 (by omega)
  · exact absurd h1 (by omega)
  · exact h1 (Prod.ext q4.1 (Prod.ext q4.2.1 q4.2.2))
  · exact h1 (Prod.ext hq.1 (Prod.ext hq.2.1 hq.2.2))
theorem begin_facts {vars : Int} {F : List T3} (h : F.length ≤ 65536) (hh : head vars F = false) : 0 ≤ vars ∧ vars ≤ 32 ∧ 2 ≤ F.length ∧
    ((frk F 0).1 == -1 && ((frk F 0).2.1 == 0 && (frk F 0).2.2 == 0)) = true ∧ ((frk F 1).1 == -1 && ((frk F 1).2.1 == 0 && (frk F 1).2.2 == 0)) = true := by
  obtain ⟨a, b, c, d, e⟩ := head_iff.1 hh
  exact ⟨a, b, c, by rw [d]; rfl, by rw [e]; rfl⟩
theorem bdd_begin_ok (vars : Int) (F : List T3) (σ : Sig) (h : F.length ≤ 65536) (hh : head vars F = false) (hb : ∀ j, j < F.length - 2 → bad vars F j = false) :
    ACalls Tryz.prog 64 [encB vars F] σ (fun r σ' => ∃ m t a d, σ m = none ∧ σ t = none ∧ σ a = none ∧ σ d = none ∧ Apart m t a d ∧ r = .ret (.tup [.ptr m 0, .int .i64 0]) ∧
      σ' = upd (upd (upd (upd σ m (machT vars F (.own t) a d)) t (.grow 3 F.length)) a (.map true (encM (mac F).at_))) d (.map true [])) := by
  refine calls_x mixed Tryz.func64 b64 n64 rfl q64 (by simp) ?_; unfold c64 r64
  obtain ⟨k1, k2, k3, k4, k5⟩ := begin_facts h hh
  repeat' (first | simp (maxDischargeDepth := 9) -implicitDefEqProofs -dsimp only [go_sem, seval, gt_iff_lt, *] | simp (disch := omega) only [wrap64] | (with_reducible (first | apply Zb | apply Zc) <;> intro hq) | ((with_reducible refine Zv ?_ ?_); focus (first | omega | exact rfl)) | ((with_reducible refine Zu ?_ ?_); focus omega) | ((with_reducible refine Zt (fun oF hoF hnF hnF' => ?_)); (try simp only [upd_none, ne_eq, not_and] at hoF)))
  all_goals first | (exfalso; omega) | skip
  rename_i q0 oa hoa hna hna' od hnd hnd' hod om hnm hnm' hom q1 q2
  clear hna hna' hnd hnd' hnm hnm' hnF hnF' k4 k5 hh
  obtain ⟨x1, x2⟩ := hod
  obtain ⟨x3, x4, x5⟩ := hom
  obtain ⟨x6, x7, x8, x9⟩ := hoF
  have y1 : ¬ oa = od := fun e => x1 e.symm
  have y2 : ¬ od = om := fun e => x3 e.symm
  have y3 : ¬ oa = om := fun e => x4 e.symm
  refine loop_rule (fun i : Nat => [(54, some (.int .i64 i)), (53, some (.int .i64 ((F.length - 2 : Nat) : Int))), (52, some (.slice ((F.map encF).drop 2) .no)), (4, some (.ptr om 0)), (1, some (.cptr [.int .i64 vars, .slice (F.map encF) .no]))])
    (fun i => upd (upd (upd σ oa (.map true (encM (atL F i)))) od (.map true [])) om (machT vars F .no oa od)) (fun i => i ≤ F.length - 2) (fun i => F.length - 2 - i) 0 ?_ ?_
  · (repeat' (first | simp (maxDischargeDepth := 9) -implicitDefEqProofs -dsimp only [go_sem, seval, atL, List.length_drop, List.length_map, *] | simp (disch := omega) only [wrap64])) <;> (repeat' refine And.intro ?_ ?_) <;> (first | omega | rfl | assumption | skip)
  · intro i hi
    by_cases hlt : i < F.length - 2
    · have hbi := hb i hlt
      obtain ⟨r1, r2, r3, r4, r5, r6⟩ := bad_iff.1 hbi
      have g0 : get3 (atL F i) (frk F (i + 2)) = none := by
        cases c : get3 (atL F i) (frk F (i + 2)) with
        | none => rfl
        | some n =>
          obtain ⟨j, j1, j2⟩ := (at_some F (frk F (i + 2)) i).1 (by rw [c]; rfl)
          exact absurd j2 (r1 j j1)
      have r4' : ((frk F (i + 2)).2.1 == (frk F (i + 2)).2.2) = false := by simpa using r4
      have hi2 : (i : Int) + 2 < F.length := by omega
      have gi : (List.drop 2 (List.map encF F))[i]? = some (.agg [.int .i64 (frk F ((i : Int) + 2)).1, .int .i64 (frk F ((i : Int) + 2)).2.1, .int .i64 (frk F ((i : Int) + 2)).2.2]) := by
        rw [List.getElem?_drop, List.getElem?_map, List.getElem?_eq_getElem (by omega : 2 + i < F.length)]
        have := get_frk F ((i : Int) + 2) (by omega)
        have e : ((i : Int) + 2).toNat = 2 + i := by omega
        simp only [e] at this
        rw [this]; rfl
      clear r1 r4 hb hbi
      repeat' (first | simp (maxDischargeDepth := 9) -implicitDefEqProofs -dsimp only [go_sem, seval, gt_iff_lt, ge_iff_le, Option.map_none, Option.getD_none, Option.isSome_none, *] | simp (disch := omega) only [wrap64] | (with_reducible (first | apply Zb | apply Zc) <;> intro hq) | ((with_reducible refine Zv ?_ ?_); focus (first | omega | exact rfl)) | ((with_reducible refine Zu ?_ ?_); focus omega) | ((with_reducible refine Zt (fun oF hoF hnF hnF' => ?_)); (try simp only [upd_none, ne_eq, not_and] at hoF)) | ((with_reducible apply ACalls.one1); (focus ((first | with_reducible refine bdd_under om oa od .no vars F _ _ _ _ ?_ hi2) <;> (first | (simp (maxDischargeDepth := 9) -implicitDefEqProofs -dsimp only [go_sem, seval, *]; done) | omega))); (focus (first | trivial | with_reducible exact rfl | (simp (maxDischargeDepth := 9) -implicitDefEqProofs -dsimp only [go_sem, seval]; done)))))
      all_goals first | (exfalso; omega) | skip
      refine loop_next _ _ _ _ (i + 1) ?_; (repeat' (first | simp (maxDischargeDepth := 9) -implicitDefEqProofs -dsimp only [go_sem, seval,  atL, *] | simp (disch := omega) only [wrap64])) <;> (repeat' refine And.intro ?_ ?_) <;> (first | omega | rfl | assumption | skip)
    · have ei : i = F.length - 2 := by omega
      subst ei
      have hl0 : 0 < F.length := by omega
      have hl1 : F.length ≤ 1000000000000 := by omega
      repeat' (first | simp (maxDischargeDepth := 9) -implicitDefEqProofs -dsimp only [go_sem, seval, *] | simp (disch := omega) only [wrap64] | (with_reducible (first | apply Zb | apply Zc) <;> intro hq) | ((with_reducible refine Zv ?_ ?_); focus (first | omega | exact rfl)) | ((with_reducible refine Zu ?_ ?_); focus omega) | ((with_reducible refine Zt (fun oF hoF hnF hnF' => ?_)); (try simp only [upd_none, ne_eq, not_and] at hoF)) | ((with_reducible apply ACalls.newO); (focus ((first | with_reducible refine sl_clipFork F _ hl0 hl1) <;> (first | (simp (maxDischargeDepth := 9) -implicitDefEqProofs -dsimp only [go_sem, seval, *]; done) | omega))); (intro oF hoF hnF hnF'); (try simp only [upd_none, ne_eq, not_and] at hoF)))
      obtain ⟨z1, z2, z3, z4⟩ := hoF
      refine fin_v (.tup [.ptr om 0, .int .i64 0]) (upd (upd (upd (upd σ om (machT vars F (.own oF) oa od)) oF (.grow 3 F.length)) oa (.map true (encM (mac F).at_))) od (.map true []))
        ⟨om, oF, oa, od, x5, z4, hoa, x2, ⟨fun e => z1 e.symm, x4, x3, z3, z2, y1, z1, y3, y2, fun e => z3 e.symm, fun e => z2 e.symm, x1⟩, rfl, rfl⟩ ?_ ?_
      · (repeat' (first | simp (maxDischargeDepth := 9) -implicitDefEqProofs -dsimp only [go_sem, seval, *] | simp (disch := omega) only [wrap64])) <;> (repeat' refine And.intro ?_ ?_) <;> (first | omega | rfl | assumption | skip)
      · (repeat' (first | simp (maxDischargeDepth := 9) -implicitDefEqProofs -dsimp only [go_sem, seval, mac, *] | simp (disch := omega) only [wrap64])) <;> (repeat' refine And.intro ?_ ?_) <;> (first | omega | rfl | assumption | skip)
theorem bdd_begin_bad (vars : Int) (F : List T3) (σ : Sig) (h : F.length ≤ 65536) (hh : head vars F = false) (hb : ∃ j, j < F.length - 2 ∧ bad vars F j = true) :
    ACalls Tryz.prog 64 [encB vars F] σ (fun r σ' => r = .ret (.tup [.nilp, .int .i64 1]) ∧ σ' = σ) := by
  refine calls_x mixed Tryz.func64 b64 n64 rfl q64 (by simp) ?_; unfold c64 r64
  obtain ⟨k1, k2, k3, k4, k5⟩ := begin_facts h hh
  repeat' (first | simp (maxDischargeDepth := 9) -implicitDefEqProofs -dsimp only [go_sem, seval, gt_iff_lt, *] | simp (disch := omega) only [wrap64] | (with_reducible (first | apply Zb | apply Zc | apply Zk | apply Zp | apply Zr) <;> intro hq) | ((with_reducible refine Zv ?_ ?_); focus (first | omega | exact rfl)) | ((with_reducible refine Zu ?_ ?_); focus omega) | ((with_reducible refine Zt (fun oF hoF hnF hnF' => ?_)); (try simp only [upd_none, ne_eq, not_and] at hoF)))
  all_goals first | (refine fin_eq ?_; (repeat' (first | simp (maxDischargeDepth := 9) -implicitDefEqProofs -dsimp only [go_sem, seval, *] | simp (disch := omega) only [wrap64])) <;> (repeat' refine And.intro ?_ ?_) <;> (first | omega | rfl | assumption | skip); done) | (exfalso; omega) | skip
  rename_i q0 oa hoa hna hna' od hnd hnd' hod om hnm hnm' hom q1 q2
  clear hna hna' hnd hnd' hnm hnm' hnF hnF' k4 k5 hh
  obtain ⟨x1, x2⟩ := hod
  obtain ⟨x3, x4, x5⟩ := hom
  obtain ⟨x6, x7, x8, x9⟩ := hoF
  have y1 : ¬ oa = od := fun e => x1 e.symm
  have y2 : ¬ od = om := fun e => x3 e.symm
  have y3 : ¬ oa = om := fun e => x4 e.symm
  refine loop_rule (fun i : Nat => [(54, some (.int .i64 i)), (53, some (.int .i64 ((F.length - 2 : Nat) : Int))), (52, some (.slice ((F.map encF).drop 2) .no)), (4, some (.ptr om 0)), (1, some (.cptr [.int .i64 vars, .slice (F.map encF) .no]))])
    (fun i => upd (upd (upd σ oa (.map true (encM (atL F i)))) od (.map true [])) om (machT vars F .no oa od)) (fun i => i ≤ F.length - 2 ∧ ∀ j, j < i → bad vars F j = false) (fun i => F.length - 2 - i) 0 ?_ ?_
  · (repeat' (first | simp (maxDischargeDepth := 9) -implicitDefEqProofs -dsimp only [go_sem, seval, atL, List.length_drop, List.length_map, *] | simp (disch := omega) only [wrap64])) <;> (repeat' refine And.intro ?_ ?_) <;> (first | omega | rfl | assumption | skip)
  · rintro i ⟨hi, hall⟩
    by_cases hlt : i < F.length - 2
    · cases hbi : bad vars F i with
      | false =>
        obtain ⟨r1, r2, r3, r4, r5, r6⟩ := bad_iff.1 hbi
        have g0 : get3 (atL F i) (frk F (i + 2)) = none := by
          cases c : get3 (atL F i) (frk F (i + 2)) with
          | none => rfl
          | some n =>
            obtain ⟨j, j1, j2⟩ := (at_some F (frk F (i + 2)) i).1 (by rw [c]; rfl)
            exact absurd j2 (r1 j j1)
        have r4' : ((frk F (i + 2)).2.1 == (frk F (i + 2)).2.2) = false := by simpa using r4
        have hi2 : (i : Int) + 2 < F.length := by omega
        have gi : (List.drop 2 (List.map encF F))[i]? = some (.agg [.int .i64 (frk F ((i : Int) + 2)).1, .int .i64 (frk F ((i : Int) + 2)).2.1, .int .i64 (frk F ((i : Int) + 2)).2.2]) := by
          rw [List.getElem?_drop, List.getElem?_map, List.getElem?_eq_getElem (by omega : 2 + i < F.length)]
          have := get_frk F ((i : Int) + 2) (by omega)
          have e : ((i : Int) + 2).toNat = 2 + i := by omega
          simp only [e] at this
          rw [this]; rfl
        clear r1 r4 hb
        repeat' (first | simp (maxDischargeDepth := 9) -implicitDefEqProofs -dsimp only [go_sem, seval, gt_iff_lt, ge_iff_le, Option.map_none, Option.getD_none, Option.isSome_none, *] | simp (disch := omega) only [wrap64] | (with_reducible (first | apply Zb | apply Zc | apply Zk | apply Zp | apply Zr) <;> intro hq) | ((with_reducible refine Zv ?_ ?_); focus (first | omega | exact rfl)) | ((with_reducible refine Zu ?_ ?_); focus omega) | ((with_reducible refine Zt (fun oF hoF hnF hnF' => ?_)); (try simp only [upd_none, ne_eq, not_and] at hoF)) | ((with_reducible apply ACalls.one1); (focus ((first | with_reducible refine bdd_under om oa od .no vars F _ _ _ _ ?_ hi2) <;> (first | (simp (maxDischargeDepth := 9) -implicitDefEqProofs -dsimp only [go_sem, seval, *]; done) | omega))); (focus (first | trivial | with_reducible exact rfl | (simp (maxDischargeDepth := 9) -implicitDefEqProofs -dsimp only [go_sem, seval]; done)))))
        all_goals first | (exfalso; omega) | skip
        have hall' : ∀ j, j < i + 1 → bad vars F j = false := fun j hj => by
          rcases Nat.lt_or_ge j i with c | c
          · exact hall j c
          · have : j = i := by omega
            subst this; exact hbi
        clear hall
        refine loop_next _ _ _ _ (i + 1) ?_; (repeat' (first | simp (maxDischargeDepth := 9) -implicitDefEqProofs -dsimp only [go_sem, seval,  atL, *] | simp (disch := omega) only [wrap64])) <;> (repeat' refine And.intro ?_ ?_) <;> (first | omega | rfl | assumption | skip)
      | true =>
        have hi2 : (i : Int) + 2 < F.length := by omega
        have gi : (List.drop 2 (List.map encF F))[i]? = some (.agg [.int .i64 (frk F ((i : Int) + 2)).1, .int .i64 (frk F ((i : Int) + 2)).2.1, .int .i64 (frk F ((i : Int) + 2)).2.2]) := by
          rw [List.getElem?_drop, List.getElem?_map, List.getElem?_eq_getElem (by omega : 2 + i < F.length)]
          have := get_frk F ((i : Int) + 2) (by omega)
          have e : ((i : Int) + 2).toNat = 2 + i := by omega
          simp only [e] at this
          rw [this]; rfl
        clear hb hall
        cases g0 : get3 (atL F i) (frk F (i + 2)) with
        | some n =>
          clear hbi
          repeat' (first | simp (maxDischargeDepth := 9) -implicitDefEqProofs -dsimp only [go_sem, seval, gt_iff_lt, ge_iff_le, Option.map_some, Option.getD_some, Option.isSome_some, *] | simp (disch := omega) only [wrap64] | (with_reducible (first | apply Zb | apply Zc | apply Zk | apply Zp | apply Zr) <;> intro hq) | ((with_reducible refine Zv ?_ ?_); focus (first | omega | exact rfl)) | ((with_reducible refine Zu ?_ ?_); focus omega) | ((with_reducible refine Zt (fun oF hoF hnF hnF' => ?_)); (try simp only [upd_none, ne_eq, not_and] at hoF)) | ((with_reducible apply ACalls.one1); (focus ((first | with_reducible refine bdd_under om oa od .no vars F _ _ _ _ ?_ hi2) <;> (first | (simp (maxDischargeDepth := 9) -implicitDefEqProofs -dsimp only [go_sem, seval, *]; done) | omega))); (focus (first | trivial | with_reducible exact rfl | (simp (maxDischargeDepth := 9) -implicitDefEqProofs -dsimp only [go_sem, seval]; done)))))
          refine fin_eq ?_
          (repeat' (first | simp (maxDischargeDepth := 9) -implicitDefEqProofs -dsimp only [go_sem, seval, *] | simp (disch := omega) only [wrap64])) <;> (repeat' refine And.intro ?_ ?_) <;> (first | omega | rfl | assumption | skip)
        | none =>
          have hbj : (((decide ((frk F (i + 2)).1 < 0) = true ∨ decide (vars ≤ (frk F (i + 2)).1) = true) ∨ decide ((frk F (i + 2)).2.1 = (frk F (i + 2)).2.2) = true) ∨ und F (frk F (i + 2)).2.1 (frk F (i + 2)).1 (i + 2) = false) ∨ und F (frk F (i + 2)).2.2 (frk F (i + 2)).1 (i + 2) = false := by
            simpa [bad, g0] using hbi
          clear hbi
          simp only [decide_eq_true_eq] at hbj
          repeat' (first | simp (maxDischargeDepth := 9) -implicitDefEqProofs -dsimp only [go_sem, seval, gt_iff_lt, ge_iff_le, Option.map_none, Option.getD_none, Option.isSome_none, *] | simp (disch := omega) only [wrap64] | (with_reducible (first | apply Zb | apply Zc | apply Zk | apply Zp | apply Zr) <;> intro hq) | ((with_reducible refine Zv ?_ ?_); focus (first | omega | exact rfl)) | ((with_reducible refine Zu ?_ ?_); focus omega) | ((with_reducible refine Zt (fun oF hoF hnF hnF' => ?_)); (try simp only [upd_none, ne_eq, not_and] at hoF)) | ((with_reducible apply ACalls.one1); (focus ((first | with_reducible refine bdd_under om oa od .no vars F _ _ _ _ ?_ hi2) <;> (first | (simp (maxDischargeDepth := 9) -implicitDefEqProofs -dsimp only [go_sem, seval, *]; done) | omega))); (focus (first | trivial | with_reducible exact rfl | (simp (maxDischargeDepth := 9) -implicitDefEqProofs -dsimp only [go_sem, seval]; done)))))
          all_goals first | (refine fin_eq ?_; (repeat' (first | simp (maxDischargeDepth := 9) -implicitDefEqProofs -dsimp only [go_sem, seval, *] | simp (disch := omega) only [wrap64])) <;> (repeat' refine And.intro ?_ ?_) <;> (first | omega | rfl | assumption | skip); done) | skip
          exfalso
          rename_i w1 w2 w3 w4
          rcases hbj with (((c | c) | c) | c) | c
          · exact w1 c
          · exact w2 c
          · exact w3.1 c
          · rw [w4] at c; simp at c
          · rw [hq] at c; simp at c
    · obtain ⟨j, j1, j2⟩ := hb
      have := hall j (by omega)
      rw [this] at j2
      exact absurd j2 (by simp)
theorem bdd_begin_no (vars : Int) (F : List T3) (σ : Sig) (hl : F.length ≤ 9223372036854775807) (e : Int) (he : chk vars F = e) (h0 : e ≠ 0) :
    ACalls Tryz.prog 64 [encB vars F] σ (fun r σ' => r = .ret (.tup [.nilp, .int .i64 e]) ∧ σ' = σ) := by
  unfold chk at he
  split at he
  · rename_i h; subst he; exact bdd_begin_big vars F σ h hl
  rename_i h
  split at he
  · rename_i hh; subst he; exact bdd_begin_head vars F σ (by omega) hh
  rename_i hh
  split at he
  · rename_i hb
    subst he
    simp only [List.any_eq_true, List.mem_range] at hb
    exact bdd_begin_bad vars F σ (by omega) (by simpa using hh) hb
  · exact absurd he.symm h0
def NewMac (σ : Sig) (vars : Int) (F : List T3) : ARes → Sig → Prop := fun r σ' => ∃ m t a d, σ m = none ∧ σ t = none ∧ σ a = none ∧ σ d = none ∧ Apart m t a d ∧ r = .ret (.tup [.ptr m 0, .int .i64 0]) ∧
  σ' = upd (upd (upd (upd σ m (machT vars F (.own t) a d)) t (.grow 3 F.length)) a (.map true (encM (mac F).at_))) d (.map true [])
theorem bdd_begin_yes (vars : Int) (F : List T3) (σ : Sig) (h : Fine vars F) : ACalls Tryz.prog 64 [encB vars F] σ (NewMac σ vars F) := by
  have hc := chk_fine.2 h
  unfold chk at hc
  split at hc
  · simp at hc
  split at hc
  · simp at hc
  rename_i hh
  split at hc
  · simp at hc
  rename_i hb
  refine bdd_begin_ok vars F σ h.all (by simpa using hh) fun j hj => ?_
  simp only [List.any_eq_true, List.mem_range, not_exists, not_and, Bool.not_eq_true] at hb
  exact hb j hj
end Go.Proofs.YtjichkelfhcbcaaGreat.B

namespace Fil.Bd
def outside (F : List T3) (n : Int) : Bool := decide (n < 0) || decide ((F.length : Int) ≤ n)
abbrev D := Int × List T3
def T (b : D) (f : Int) : List Bool := tab b.2 b.1.toNat 0 f
def askE (b : D) (l : List Int) (no : Bool) : Int := if chk b.1 b.2 ≠ 0 then chk b.1 b.2 else if (l.any (outside b.2) || no) = true then 1 else 0
def opW (b : D) (e : Int) (t : List Bool) : D × Int × Int := if e ≠ 0 then ((0, []), 0, e) else ((b.1, (put b.1.toNat b.2 0 t).1), (put b.1.toNat b.2 0 t).2, 0)
def iteW (b : D) (f g h : Int) : D × Int × Int := opW b (askE b [f, g, h] false) (iteT (T b f) (T b g) (T b h))
def notW (b : D) (f : Int) : D × Int × Int := iteW b f 0 1
def off (b : D) (n : Int) : Bool := decide (n < 0) || decide (b.1 ≤ n)
def varT : Nat → Nat → List Bool
  | 0, _ => []
  | k + 1, 0 => List.replicate (2 ^ k) false ++ List.replicate (2 ^ k) true
  | k + 1, d + 1 => varT k d ++ varT k d
def varW (b : D) (n : Int) : D × Int × Int := opW b (askE b [] (off b n)) (varT b.1.toNat n.toNat)
theorem out_In {vars : Int} {F : List T3} {n : Int} (h : outside F n = false) (ho : Ok vars F) : In vars F 0 n := by
  simp only [outside, Bool.or_eq_false_iff, decide_eq_false_iff_not] at h
  refine ⟨by omega, by omega, ?_⟩
  unfold top
  split
  · exact ho.lo
  · exact (ho.var n (by omega) (by omega)).1
theorem ask_err {b l no e} (he : chk b.1 b.2 = e) (h0 : e ≠ 0) : askE b l no = e := by unfold askE; rw [he, if_pos h0]
theorem ask_arg {b l no} (hf : Fine b.1 b.2) (h : (l.any (outside b.2) || no) = true) : askE b l no = 1 := by unfold askE; rw [chk_fine.2 hf, if_neg (by simp), if_pos h]
theorem ask_ok {b l no} (hf : Fine b.1 b.2) (h : (l.any (outside b.2) || no) = false) : askE b l no = 0 := by unfold askE; rw [chk_fine.2 hf, if_neg (by simp), if_neg (by simp [h])]
theorem op_err {b e t} (h0 : e ≠ 0) : opW b e t = ((0, []), 0, e) := by unfold opW; rw [if_pos h0]
theorem ite_mac {b : D} {f g h : Int} (hf : Fine b.1 b.2) (i : In b.1 b.2 0 f) (j : In b.1 b.2 0 g) (k : In b.1 b.2 0 h) :
    iteW b f g h = ((b.1, (iteM b.1 (b.1.toNat + 1) (mac b.2) f g h).1.forks), (iteM b.1 (b.1.toNat + 1) (mac b.2) f g h).2, 0) := by
  have hlo := hf.lo
  have m := ite_put b.1.toNat (b.1.toNat + 1) (mac b.2) f g h 0 (mac_ok hf.toOk) mac_kept (by omega) (by omega) (by omega) i j k
  have q : ∀ n, In b.1 b.2 0 n → outside b.2 n = false := fun n i => by simp [outside, i.1, i.2.1]
  have hp := m.put
  have e0 : askE b [f, g, h] false = 0 := ask_ok hf (by simp [q f i, q g j, q h k])
  have e : iteW b f g h = ((b.1, (put b.1.toNat b.2 0 (iteT (T b f) (T b g) (T b h))).1), (put b.1.toNat b.2 0 (iteT (T b f) (T b g) (T b h))).2, 0) := by
    unfold iteW opW; rw [e0]; rfl
  rw [e]
  have hp' : put b.1.toNat b.2 0 (iteT (T b f) (T b g) (T b h)) = ((iteM b.1 (b.1.toNat + 1) (mac b.2) f g h).1.forks, (iteM b.1 (b.1.toNat + 1) (mac b.2) f g h).2) := hp.symm
  rw [hp']
theorem put_var {F : List T3} : ∀ (d k : Nat) (v : Int), put (d + (k + 1)) F v (varT (d + (k + 1)) d) = put (k + 1) F (v + d) (List.replicate (2 ^ k) false ++ List.replicate (2 ^ k) true)
  | 0, k, v => by simp [varT]
  | d + 1, k, v => by
    have hl : ∀ d k : Nat, (varT (d + (k + 1)) d).length = 2 ^ (d + (k + 1)) := by
      intro d
      induction d with
      | zero => intro k; rw [show 0 + (k + 1) = k + 1 by omega]; simp [varT]; omega
      | succ d ih => intro k; rw [show d + 1 + (k + 1) = (d + (k + 1)) + 1 by omega]; simp only [varT, List.length_append, ih]; omega
    rw [show d + 1 + (k + 1) = (d + (k + 1)) + 1 by omega]
    simp only [varT]
    rw [put_same (hl d k), put_var d k (v + 1)]
    congr 1; omega
theorem var_mac {b : D} {n : Int} (hf : Fine b.1 b.2) (h : off b n = false) :
    varW b n = ((b.1, (forkM (mac b.2) n 0 1).1.forks), (forkM (mac b.2) n 0 1).2, 0) := by
  have hlo := hf.lo
  have h' : 0 ≤ n ∧ n < b.1 := by simpa [off] using h
  have h2 := hf.two
  obtain ⟨k, hk⟩ : ∃ k : Nat, b.1.toNat = n.toNat + (k + 1) := ⟨b.1.toNat - n.toNat - 1, by omega⟩
  have i0 : In b.1 b.2 (n + 1) 0 := ⟨by omega, by omega, by simp [top]; omega⟩
  have i1 : In b.1 b.2 (n + 1) 1 := ⟨by omega, by omega, by simp [top]; omega⟩
  have hp := (fork_put (k := k) (mac_ok hf.toOk) h'.1 (by omega) i0 i1).2.2
  rw [tab_zero, tab_one] at hp
  have e : varW b n = ((b.1, (put b.1.toNat b.2 0 (varT b.1.toNat n.toNat)).1), (put b.1.toNat b.2 0 (varT b.1.toNat n.toNat)).2, 0) := by
    unfold varW opW; rw [ask_ok hf (by simp [h])]; rfl
  rw [e, hk, put_var n.toNat k 0, show (0 : Int) + n.toNat = n by omega]
  have hp' : put (k + 1) b.2 n (List.replicate (2 ^ k) false ++ List.replicate (2 ^ k) true) = ((forkM (mac b.2) n 0 1).1.forks, (forkM (mac b.2) n 0 1).2) := hp.symm
  rw [hp']
end Fil.Bd

namespace Go.Proofs.YtjichkelfhcbcaaGreat.B
open Abs Fil Fil.Bd
theorem sl_indexInt (p : Int → Bool) (l : List Int) (hl : l.length ≤ 1000000000000) (σ : Sig) {F : Nat} {caps : List AV} (hF : ∀ x ∈ l, ACalls Tryz.prog F (encInt x :: caps) σ (fun r σ' => r = .ret (.bool (p x)) ∧ σ' = σ)) :
    ACalls Tryz.prog 94 [.slice (l.map encInt) .no, .fn F [] caps] σ (fun r σ' => r = .ret (.int .i64 (idxF p l)) ∧ σ' = σ) :=
  lib_indexFunc (sz := 1) (g := false) mixed Tryz.func94 b94 n94 rfl q94 (fun _ => rfl) (fun _ => rfl) p l hl hF
theorem sl_containsInt (p : Int → Bool) (l : List Int) (hl : l.length ≤ 1000000000000) (σ : Sig) {F : Nat} {caps : List AV} (hF : ∀ x ∈ l, ACalls Tryz.prog F (encInt x :: caps) σ (fun r σ' => r = .ret (.bool (p x)) ∧ σ' = σ)) :
    ACalls Tryz.prog 65 [.slice (l.map encInt) .no, .fn F [] caps] σ (fun r σ' => r = .ret (.bool (l.any p)) ∧ σ' = σ) :=
  lib_containsFunc mixed Tryz.func65 b65 n65 rfl q65 p l (sl_indexInt p l hl σ hF)
theorem Zw (σ : Sig) (o o' : Nat) (x : AObj) : (upd σ o x o' = none) = (¬ o' = o ∧ ¬ o = o' ∧ σ o' = none) := by
  simp only [upd]
  by_cases h : o' = o
  · simp [h]
  · have : ¬ o = o' := fun e => h e.symm
    simp [h, this]
theorem newMac4 {f : FuncId} {args : List AV} {σ : Sig} {vars : Int} {F : List T3} {R : ARes → Sig → Prop} (h : ACalls Tryz.prog f args σ (NewMac σ vars F))
    (hR : ∀ m t a d, Apart m t a d → σ m = none → σ t = none → σ a = none → σ d = none →
      R (.ret (.tup [.ptr m 0, .int .i64 0])) (upd (upd (upd (upd σ m (machT vars F (.own t) a d)) t (.grow 3 F.length)) a (.map true (encM (mac F).at_))) d (.map true []))) : ACalls Tryz.prog f args σ R :=
  h.mono fun r s ⟨m, t, a, d, q1, q2, q3, q4, hne, e1, e2⟩ => by
    subst e1 e2
    exact hR m t a d hne q1 q2 q3 q4
theorem newMac {f : FuncId} {args : List AV} {σ : Sig} {vars : Int} {F : List T3} {R : ARes → Sig → Prop} (h : ACalls Tryz.prog f args σ (NewMac σ vars F))
    (hR : ∀ m t a d, Apart m t a d → σ m = none → σ t = none → σ a = none → σ d = none → (∀ o', ¬ σ o' = none → ¬ o' = m) → (∀ o', ¬ σ o' = none → ¬ m = o') → (∀ o', ¬ σ o' = none → ¬ o' = t) → (∀ o', ¬ σ o' = none → ¬ t = o') →
      (∀ o', ¬ σ o' = none → ¬ o' = a) → (∀ o', ¬ σ o' = none → ¬ a = o') → (∀ o', ¬ σ o' = none → ¬ o' = d) → (∀ o', ¬ σ o' = none → ¬ d = o') →
      R (.ret (.tup [.ptr m 0, .int .i64 0])) (upd (upd (upd (upd σ m (machT vars F (.own t) a d)) t (.grow 3 F.length)) a (.map true (encM (mac F).at_))) d (.map true []))) : ACalls Tryz.prog f args σ R :=
  h.mono fun r s ⟨m, t, a, d, q1, q2, q3, q4, hne, e1, e2⟩ => by
    subst e1 e2
    exact hR m t a d hne q1 q2 q3 q4 (fun o' h' e => h' (e ▸ q1)) (fun o' h' e => h' (e ▸ q1)) (fun o' h' e => h' (e ▸ q2)) (fun o' h' e => h' (e ▸ q2))
      (fun o' h' e => h' (e ▸ q3)) (fun o' h' e => h' (e ▸ q3)) (fun o' h' e => h' (e ▸ q4)) (fun o' h' e => h' (e ▸ q4))
theorem bdd_asked1 (o : Nat) (vars : Int) (F : List T3) (n : Int) (σ : Sig) (h : σ o = some (.cells [.int .i64 vars, .slice (F.map encF) .no])) :
    ACalls Tryz.prog 66 [encInt n, .ptr o 0] σ (fun r σ' => r = .ret (.bool (outside F n)) ∧ σ' = σ) := by
  refine calls_x mixed Tryz.func66 b66 n66 rfl q66 (by simp) ?_; unfold c66 r66
  repeat' (first | simp (maxDischargeDepth := 9) -implicitDefEqProofs -dsimp only [go_sem, seval, ge_iff_le, *] | (with_reducible (first | apply Zb) <;> intro hq))
  all_goals refine fin_eq ?_
  all_goals (repeat' (first | simp (maxDischargeDepth := 9) -implicitDefEqProofs -dsimp only [go_sem, seval, outside, *])) <;> (repeat' refine And.intro ?_ ?_) <;> (first | omega | rfl | assumption | skip)
theorem bdd_asked_no (vars : Int) (F : List T3) (l : List Int) (σ : Sig) (hl : F.length ≤ 9223372036854775807) (e : Int) (he : chk vars F = e) (h0 : e ≠ 0) :
    ACalls Tryz.prog 36 [encB vars F, .slice (l.map encInt) .no] σ (fun r σ' => r = .ret (.tup [.nilp, .int .i64 e]) ∧ σ' = σ) := by
  refine calls_x mixed Tryz.func36 b36 n36 rfl q36 (by simp) ?_; unfold c36 r36
  have hb : (e != 0) = true := by simpa using h0
  repeat' (first | simp (maxDischargeDepth := 9) -implicitDefEqProofs -dsimp only [go_sem, seval, *] | ((with_reducible refine Zt (fun oF hoF hnF hnF' => ?_)); (try simp only [upd_none, ne_eq, not_and] at hoF)) | ((with_reducible apply ACalls.one1); (focus ((first | with_reducible refine bdd_begin_no vars F _ hl e he h0) <;> (first | (simp (maxDischargeDepth := 9) -implicitDefEqProofs -dsimp only [go_sem, seval, *]; done) | omega))); (focus (first | trivial | with_reducible exact rfl | (simp (maxDischargeDepth := 9) -implicitDefEqProofs -dsimp only [go_sem, seval]; done)))))
  refine fin_eq ?_
  (repeat' (first | simp (maxDischargeDepth := 9) -implicitDefEqProofs -dsimp only [go_sem, seval, *])) <;> (repeat' refine And.intro ?_ ?_) <;> (first | omega | rfl | assumption | skip)
theorem bdd_asked_arg (vars : Int) (F : List T3) (l : List Int) (σ : Sig) (hf : Fine vars F) (hl : l.length ≤ 1000000000000) (h : l.any (outside F) = true) :
    ACalls Tryz.prog 36 [encB vars F, .slice (l.map encInt) .no] σ (fun r σ' => r = .ret (.tup [.nilp, .int .i64 1]) ∧ σ' = σ) := by
  refine calls_x mixed Tryz.func36 b36 n36 rfl q36 (by simp) ?_; unfold c36 r36
  repeat' (first | simp (maxDischargeDepth := 9) -implicitDefEqProofs -dsimp only [go_sem, seval, *] | ((with_reducible refine Zt (fun oF hoF hnF hnF' => ?_)); (try simp only [upd_none, ne_eq, not_and] at hoF)))
  refine newMac (bdd_begin_yes vars F _ hf) fun m t a d hne q1 q2 q3 q4 r1 r2 r3 r4 r5 r6 r7 r8 => ?_
  have hne' := hne
  obtain ⟨e1, e2, e3, e4, e5, e6, f1, f2, f3, f4, f5, f6⟩ := hne'
  simp only [upd_none] at q1 q2 q3 q4
  have ez : ((0 : Int) != 0) = false := by decide
  repeat' (first | simp (maxDischargeDepth := 9) -implicitDefEqProofs -dsimp only [go_sem, seval, *] | ((with_reducible refine Zt (fun oF hoF hnF hnF' => ?_)); (try simp only [upd_none, ne_eq, not_and] at hoF)) | ((with_reducible apply ACalls.one1); (focus ((first | with_reducible refine sl_containsInt (outside F) l hl _ (fun x _ => bdd_asked1 _ vars F x _ ?_)) <;> (first | (simp (maxDischargeDepth := 9) -implicitDefEqProofs -dsimp only [go_sem, seval, *]; done) | omega))); (focus (first | trivial | with_reducible exact rfl | (simp (maxDischargeDepth := 9) -implicitDefEqProofs -dsimp only [go_sem, seval]; done)))))
  refine fin_eq ?_
  (repeat' (first | simp (maxDischargeDepth := 9) -implicitDefEqProofs -dsimp only [go_sem, seval, *])) <;> (repeat' refine And.intro ?_ ?_) <;> (first | omega | rfl | assumption | skip)
theorem bdd_asked_yes (vars : Int) (F : List T3) (l : List Int) (σ : Sig) (hf : Fine vars F) (hl : l.length ≤ 1000000000000) (h : l.any (outside F) = false) :
    ACalls Tryz.prog 36 [encB vars F, .slice (l.map encInt) .no] σ (NewMac σ vars F) := by
  refine calls_x mixed Tryz.func36 b36 n36 rfl q36 (by simp) ?_; unfold c36 r36
  repeat' (first | simp (maxDischargeDepth := 9) -implicitDefEqProofs -dsimp only [go_sem, seval, *] | ((with_reducible refine Zt (fun oF hoF hnF hnF' => ?_)); (try simp only [upd_none, ne_eq, not_and] at hoF)))
  refine newMac (bdd_begin_yes vars F _ hf) fun m t a d hne q1 q2 q3 q4 r1 r2 r3 r4 r5 r6 r7 r8 => ?_
  have hne' := hne
  obtain ⟨e1, e2, e3, e4, e5, e6, f1, f2, f3, f4, f5, f6⟩ := hne'
  simp only [upd_none] at q1 q2 q3 q4
  have ez : ((0 : Int) != 0) = false := by decide
  repeat' (first | simp (maxDischargeDepth := 9) -implicitDefEqProofs -dsimp only [go_sem, seval, *] | ((with_reducible refine Zt (fun oF hoF hnF hnF' => ?_)); (try simp only [upd_none, ne_eq, not_and] at hoF)) | ((with_reducible apply ACalls.one1); (focus ((first | with_reducible refine sl_containsInt (outside F) l hl _ (fun x _ => bdd_asked1 _ vars F x _ ?_)) <;> (first | (simp (maxDischargeDepth := 9) -implicitDefEqProofs -dsimp only [go_sem, seval, *]; done) | omega))); (focus (first | trivial | with_reducible exact rfl | (simp (maxDischargeDepth := 9) -implicitDefEqProofs -dsimp only [go_sem, seval]; done)))))
  refine fin_v (.tup [.ptr m 0, .int .i64 0]) (upd (upd (upd (upd σ m (machT vars F (.own t) a d)) t (.grow 3 F.length)) a (.map true (encM (mac F).at_))) d (.map true []))
    ⟨m, t, a, d, q1.2, q2.2, q3.2, q4.2, hne, rfl, rfl⟩ ?_ ?_
  · (repeat' (first | simp (maxDischargeDepth := 9) -implicitDefEqProofs -dsimp only [go_sem, seval, *])) <;> (repeat' refine And.intro ?_ ?_) <;> (first | omega | rfl | assumption | skip)
  · (repeat' (first | simp (maxDischargeDepth := 9) -implicitDefEqProofs -dsimp only [go_sem, seval, *])) <;> (repeat' refine And.intro ?_ ?_) <;> (first | omega | rfl | assumption | skip)
end Go.Proofs.YtjichkelfhcbcaaGreat.B

namespace Go.Proofs.YtjichkelfhcbcaaGreat.B
open Abs Fil Fil.Bd
theorem undE : Tryz.prog.underlying 30 = some (.int .i64) := by kernel_rfl
theorem zeroE : zeroOf Tryz.prog 30 = some [.int .i64 0] := by kernel_rfl
theorem put1_def (args : List AV) (σ : Sig) (k : Sig → Prop) (hk : k σ) : ADef Tryz.prog 81 args σ k := by
  refine ⟨by kernel_rfl, fun S K w vals hS hrel hs => ?_⟩
  refine callsD_of_wpS (fn := Tryz.f81) Tryz.func81 rfl fun c₀ cs hm => ?_
  obtain ⟨z, hz, _⟩ := run_zeroValue' (K := K) zeroE w
  have hlen : ∀ v : Array Value, (v ++ Array.replicate (Tryz.f81.ntmps - v.size) undef).size ≥ 13 := fun v => by
    simp [Tryz.f81]; omega
  have htmp := hlen vals
  generalize vals ++ Array.replicate (Tryz.f81.ntmps - vals.size) undef = tmps at htmp ⊢
  have hrec : recoverD (c₀ :: cs) = none := by simp [recoverD, hm]
  have hta : (Instr.typeAssert .nilIface 20 30 true).run Tryz.prog w = .ok (.tuple #[z, .bool false]) w := by
    simp [Instr.typeAssert, run_underlying undE, hz]
  refine wpS_seq (wpS_region ?_)
  change wpOpsS Tryz.prog _ _ [0, 1, 2, 3, 4, 5, 6] _ _ _
  have h3 : 3 < tmps.size := by omega
  have h4 : 4 < tmps.size := by omega
  have h5 : 5 < tmps.size := by omega
  have h6 : 6 < tmps.size := by omega
  have h7 : 7 < tmps.size := by omega
  have h8 : 8 < tmps.size := by omega
  have h9 : 9 < tmps.size := by omega
  have h10 : 10 < tmps.size := by omega
  simp [wpOpsS, Region.wanted, execOp, resolve, invoke, Go.builtin, hrec, Act.eval, Act.put, hta, Oper.upon, Instr.extract, h3, h4, h5, h6, h7, h8, h9, h10, Exit.thenS]
  refine wpS_seq (wpS_region ?_)
  change wpOpsS Tryz.prog _ _ [0] _ _ _
  simp [wpOpsS, Region.wanted, execOp, Act.eval, Act.put, Oper.upon, h3, h4, h5, h6, h7, h8, h9, h10, Exit.thenS]
  refine wpS_cond (t := false) (by simp [Act.eval, h10]) ?_
  refine wpS_of_wp (wp_skip ?_)
  refine ⟨rfl, .returning, by simp [← hm], .tuple #[], ?_, ⟨_, rfl⟩, rfl, K, Gh.leS.refl K, σ, hs, hk⟩
  rw [results_eq]
  simp [Tryz.f81]
theorem calls_dx {f : FuncId} {fn : Func} {N : Nat} {rs : List ARV} {a b e : ACode} {t : Nat} {g : Nat} {l m : List AOpnd} {d : Nat} {args : List AV} {σ : Sig} {R : ARes → Sig → Prop}
    (hfn : Tryz.prog.funcs[f]? = some fn) (hb : fn.body.bind (dfrOf Tryz.prog N) = some (a.bare, b.bare, (⟨some t, .mkfn g l m, none⟩ : AInst).bare, d, e.bare)) (hname : (fn.name == "runtime.NumGoroutine") = false) (hN : fn.ntmps = N)
    (hr : trRes Tryz.prog fn.results.toList = some rs) (hargs : args.length ≤ N)
    (h : XC Tryz.prog a (thenQ (fun env σ => XC Tryz.prog b (thenQ (fun env σ => XI Tryz.prog (thenQ (fun env σ => exDfr Tryz.prog rs R d e env σ) (bodyQ rs R)) [⟨some t, .mkfn g l m, none⟩] env σ) (bodyQ rs R)) env σ) (bodyQ rs R)) (argEnv 0 args) σ) :
    ACalls Tryz.prog f args σ R := calls_of_defer mixed hfn hb hname hN hr hargs h
theorem ex_dfr {rs : List ARV} {R : ARes → Sig → Prop} {d : Nat} {e : ACode} {env : Env} {σ : Sig} : exDfr Tryz.prog rs R d e env σ = wth (lk env d) fun v => match v with
    | .fn g first caps => XC Tryz.prog e (dfrQ Tryz.prog rs R g (first ++ caps)) env σ
    | _ => False := rfl
theorem dfr_ret {rs : List ARV} {R : ARes → Sig → Prop} {args : List AV} {env : Env} {σ : Sig} (h : bodyQ rs R .ret env σ) : dfrQ Tryz.prog rs R 81 args .ret env σ := put1_def _ _ _ h
theorem bdd_put_no (p : AV) (e : Int) (mk : AV) (σ : Sig) (h0 : e ≠ 0) :
    ACalls Tryz.prog 50 [p, .int .i64 e, mk] σ (fun r σ' => r = .ret (.tup [encB 0 [], .int .i64 0, .int .i64 e]) ∧ σ' = σ) := by
  refine calls_dx Tryz.func50 b50 n50 rfl q50 (by simp) ?_
  have hb : (e != 0) = true := by simpa using h0
  unfold ca50 cb50 r50
  repeat' (first | simp (maxDischargeDepth := 9) -implicitDefEqProofs -dsimp only [go_sem, seval, *] | ((with_reducible refine Zt (fun oF hoF hnF hnF' => ?_)); (try simp only [upd_none, ne_eq, not_and] at hoF)))
  refine fin_eq ?_
  (repeat' (first | simp (maxDischargeDepth := 9) -implicitDefEqProofs -dsimp only [go_sem, seval, *])) <;> (repeat' refine And.intro ?_ ?_) <;> (first | omega | rfl | assumption | skip)
theorem bdd_put_ok (m t a d : Nat) (vars : Int) (s : Mac) (n : Int) (mk : Nat) (caps : List AV) (σ : Sig) (hne : Apart m t a d) (hm : ¬ σ m = none) (ht : ¬ σ t = none) (ha : ¬ σ a = none) (hd : ¬ σ d = none)
    (hmk : ∀ τ, Sub σ τ → ACalls Tryz.prog mk caps τ (fun r τ' => r = .ret (.int .i64 n) ∧ τ' = upd (upd (upd (upd τ m (machT vars s.forks (.own t) a d)) t (.grow 3 s.forks.length)) a (.map true (encM s.at_))) d (.map true (encM s.done)))) :
    ACalls Tryz.prog 50 [.ptr m 0, .int .i64 0, .fn mk [] caps] σ (fun r σ' => r = .ret (.tup [encB vars s.forks, .int .i64 n, .int .i64 0]) ∧
      σ' = upd (upd (upd (upd σ m (machT vars s.forks (.own t) a d)) t (.grow 3 s.forks.length)) a (.map true (encM s.at_))) d (.map true (encM s.done))) := by
  refine calls_dx Tryz.func50 b50 n50 rfl q50 (by simp) ?_
  have ez : ((0 : Int) != 0) = false := by decide
  unfold ca50 cb50 r50 ce50
  obtain ⟨e1, e2, e3, e4, e5, e6, f1, f2, f3, f4, f5, f6⟩ := hne
  repeat' (first | simp (maxDischargeDepth := 9) -implicitDefEqProofs -dsimp only [go_sem, seval, *] | ((with_reducible refine Zt (fun oF hoF hnF hnF' => ?_)); (try simp only [upd_none, ne_eq, not_and] at hoF)))
  rename_i o6 h6 g6 g6' o7 g7 g7' h7
  rw [ex_dfr]
  repeat' (first | simp (maxDischargeDepth := 9) -implicitDefEqProofs -dsimp only [go_sem, seval, *] | ((with_reducible refine Zt (fun oF hoF hnF hnF' => ?_)); (try simp only [upd_none, ne_eq, not_and] at hoF)))
  refine ACalls.one (hmk _ ?_) ?_
  · refine (Sub.upd_fresh h6).trans ((Sub.upd_fresh ?_).trans (Sub.upd_fresh ?_))
    · simp only [upd_none, ne_eq]; exact h7
    · simp only [upd_none, ne_eq]; exact hoF
  repeat' (first | simp (maxDischargeDepth := 9) -implicitDefEqProofs -dsimp only [go_sem, seval, *] | ((with_reducible refine Zt (fun oF hoF hnF hnF' => ?_)); (try simp only [upd_none, ne_eq, not_and] at hoF)))
  refine dfr_ret ?_
  repeat' (first | simp (maxDischargeDepth := 9) -implicitDefEqProofs -dsimp only [go_sem, seval, *] | ((with_reducible refine Zt (fun oF hoF hnF hnF' => ?_)); (try simp only [upd_none, ne_eq, not_and] at hoF)))
  refine fin_eq ?_
  (repeat' (first | simp (maxDischargeDepth := 9) -implicitDefEqProofs -dsimp only [go_sem, seval, *])) <;> (repeat' refine And.intro ?_ ?_) <;> (first | omega | rfl | assumption | skip)
end Go.Proofs.YtjichkelfhcbcaaGreat.B

namespace Go.Proofs.YtjichkelfhcbcaaGreat.B
open Abs Fil Fil.Bd
theorem bdd_Ite1 (m t a d : Nat) (hne : Apart m t a d) (b : D) (hf : Fine b.1 b.2) (hroom : b.2.length + 2 ^ (b.1.toNat + 1) ≤ 65537) (f g h : Int) (i : In b.1 b.2 0 f) (j : In b.1 b.2 0 g) (k : In b.1 b.2 0 h) (o1 o2 o3 o4 : Nat) (σ : Sig)
    (h1 : σ m = some (machT b.1 b.2 (.own t) a d)) (h2 : σ t = some (.grow 3 b.2.length)) (h3 : σ a = some (.map true (encM (mac b.2).at_))) (h4 : σ d = some (.map true []))
    (p1 : σ o1 = some (.cells [.ptr m 0])) (p2 : σ o2 = some (.cells [.int .i64 f])) (p3 : σ o3 = some (.cells [.int .i64 g])) (p4 : σ o4 = some (.cells [.int .i64 h])) :
    ACalls Tryz.prog 55 [.ptr o1 0, .ptr o2 0, .ptr o3 0, .ptr o4 0] σ (fun r σ' => r = .ret (.int .i64 (iteM b.1 (b.1.toNat + 1) (mac b.2) f g h).2) ∧
      σ' = upd (upd (upd (upd σ m (machT b.1 (iteM b.1 (b.1.toNat + 1) (mac b.2) f g h).1.forks (.own t) a d)) t (.grow 3 (iteM b.1 (b.1.toNat + 1) (mac b.2) f g h).1.forks.length)) a (.map true (encM (iteM b.1 (b.1.toNat + 1) (mac b.2) f g h).1.at_))) d (.map true (encM (iteM b.1 (b.1.toNat + 1) (mac b.2) f g h).1.done))) := by
  refine calls_x mixed Tryz.func55 b55 n55 rfl q55 (by simp) ?_; unfold c55 r55
  have hfew := hf.few
  have hlo := hf.lo
  have q := bdd_ite m t a d hne b.1 (b.1.toNat + 1) (mac b.2) f g h 0 σ h1 h2 h3 h4 (mac_ok hf.toOk) mac_kept hfew (by omega) (by omega) hroom i j k
  repeat' (first | simp (maxDischargeDepth := 9) -implicitDefEqProofs -dsimp only [go_sem, seval, *] | ((with_reducible apply ACalls.one1); (focus ((first | with_reducible refine q) <;> (first | (simp (maxDischargeDepth := 9) -implicitDefEqProofs -dsimp only [go_sem, seval, *]; done) | omega))); (focus (first | trivial | with_reducible exact rfl | (simp (maxDischargeDepth := 9) -implicitDefEqProofs -dsimp only [go_sem, seval]; done)))))
  refine fin_eq ?_
  (repeat' (first | simp (maxDischargeDepth := 9) -implicitDefEqProofs -dsimp only [go_sem, seval, *])) <;> (repeat' refine And.intro ?_ ?_) <;> (first | omega | rfl | assumption | skip)
theorem bdd_Ite (b : D) (f g h : Int) (σ : Sig) (hl : b.2.length ≤ 9223372036854775807) (hroom : Fine b.1 b.2 → b.2.length + 2 ^ (b.1.toNat + 1) ≤ 65537) :
    ACalls Tryz.prog 23 [encB b.1 b.2, .int .i64 f, .int .i64 g, .int .i64 h] σ (fun r σ' => r = .ret (.tup [encB (iteW b f g h).1.1 (iteW b f g h).1.2, .int .i64 (iteW b f g h).2.1, .int .i64 (iteW b f g h).2.2]) ∧ σ' = σ) := by
  refine calls_x mixed Tryz.func23 b23 n23 rfl q23 (by simp) ?_; unfold c23 r23
  obtain ⟨e, he⟩ : ∃ e, chk b.1 b.2 = e := ⟨_, rfl⟩
  by_cases h0 : e = 0
  · subst h0
    have hf := chk_fine.1 he
    have hr := hroom hf
    cases ho : [f, g, h].any (outside b.2) with
    | true =>
      have hw : iteW b f g h = ((0, []), 0, 1) := by unfold iteW; rw [ask_arg hf (by simp [ho]), op_err (by decide)]
      rw [hw]
      repeat' (first | simp (maxDischargeDepth := 9) -implicitDefEqProofs -dsimp only [go_sem, seval, *] | ((with_reducible refine Zt (fun oF hoF hnF hnF' => ?_)); clear hnF hnF'; (try simp only [Zw, ne_eq] at hoF)) | ((with_reducible apply ACalls.one1); (focus ((first | with_reducible refine bdd_asked_arg b.1 b.2 [f, g, h] _ hf ?_ ho | with_reducible refine bdd_put_no _ 1 _ _ ?_ | with_reducible refine ACalls.flA (bdd_asked_arg b.1 b.2 [f, g, h] _ hf ?_ ho) ?_ | with_reducible refine ACalls.flA (bdd_put_no _ 1 _ _ ?_) ?_) <;> (first | (simp (maxDischargeDepth := 9) -implicitDefEqProofs -dsimp only [go_sem, seval, *]; done) | omega))); (focus (first | trivial | with_reducible exact rfl | (simp (maxDischargeDepth := 9) -implicitDefEqProofs -dsimp only [go_sem, seval]; done)))))
      refine fin_eq ?_
      (repeat' (first | simp (maxDischargeDepth := 9) -implicitDefEqProofs -dsimp only [go_sem, seval, *])) <;> (repeat' refine And.intro ?_ ?_) <;> (first | omega | rfl | assumption | skip)
    | false =>
      have ho' : outside b.2 f = false ∧ outside b.2 g = false ∧ outside b.2 h = false := by simpa using ho
      have i := out_In ho'.1 hf.toOk
      have j := out_In ho'.2.1 hf.toOk
      have k := out_In ho'.2.2 hf.toOk
      rw [ite_mac hf i j k]
      repeat' (first | simp (maxDischargeDepth := 9) -implicitDefEqProofs -dsimp only [go_sem, seval, *] | ((with_reducible refine Zt (fun oF hoF hnF hnF' => ?_)); clear hnF hnF'; (try simp only [Zw, ne_eq] at hoF)))
      refine newMac4 (ACalls.flA (bdd_asked_yes b.1 b.2 [f, g, h] _ hf (by simp) ho) (by simp (maxDischargeDepth := 9) -implicitDefEqProofs -dsimp only [go_sem, seval, *]; done)) fun m t a d hne q1 q2 q3 q4 => ?_
      simp only [Zw, ne_eq] at q1 q2 q3 q4
      have hne' := hne
      obtain ⟨e1, e2, e3, e4, e5, e6, f1, f2, f3, f4, f5, f6⟩ := hne'
      repeat' (first | simp (maxDischargeDepth := 9) -implicitDefEqProofs -dsimp only [go_sem, seval, *] | ((with_reducible refine Zt (fun oF hoF hnF hnF' => ?_)); clear hnF hnF'; (try simp only [Zw, ne_eq] at hoF)))
      refine ACalls.one (bdd_put_ok m t a d b.1 (iteM b.1 (b.1.toNat + 1) (mac b.2) f g h).1 (iteM b.1 (b.1.toNat + 1) (mac b.2) f g h).2 _ _ _ hne (by simp (maxDischargeDepth := 9) -implicitDefEqProofs -dsimp only [go_sem, seval, *]; done) (by simp (maxDischargeDepth := 9) -implicitDefEqProofs -dsimp only [go_sem, seval, *]; done) (by simp (maxDischargeDepth := 9) -implicitDefEqProofs -dsimp only [go_sem, seval, *]; done) (by simp (maxDischargeDepth := 9) -implicitDefEqProofs -dsimp only [go_sem, seval, *]; done) fun τ hτ => ?_) ?_
      · refine bdd_Ite1 m t a d hne b hf hr f g h i j k _ _ _ _ τ ?_ ?_ ?_ ?_ ?_ ?_ ?_ ?_
        all_goals
          refine Sub.get hτ ?_
          simp (maxDischargeDepth := 9) -implicitDefEqProofs -dsimp only [go_sem, seval, *]
      repeat' (first | simp (maxDischargeDepth := 9) -implicitDefEqProofs -dsimp only [go_sem, seval, *] | ((with_reducible refine Zt (fun oF hoF hnF hnF' => ?_)); clear hnF hnF'; (try simp only [Zw, ne_eq] at hoF)))
      refine fin_eq ?_
      (repeat' (first | simp (maxDischargeDepth := 9) -implicitDefEqProofs -dsimp only [go_sem, seval, *])) <;> (repeat' refine And.intro ?_ ?_) <;> (first | omega | rfl | assumption | skip)
  · have hw : iteW b f g h = ((0, []), 0, e) := by unfold iteW; rw [ask_err he h0, op_err h0]
    rw [hw]
    repeat' (first | simp (maxDischargeDepth := 9) -implicitDefEqProofs -dsimp only [go_sem, seval, *] | ((with_reducible refine Zt (fun oF hoF hnF hnF' => ?_)); clear hnF hnF'; (try simp only [Zw, ne_eq] at hoF)) | ((with_reducible apply ACalls.one1); (focus ((first | with_reducible refine bdd_asked_no b.1 b.2 [f, g, h] _ hl e he h0 | with_reducible refine bdd_put_no _ e _ _ h0 | with_reducible refine ACalls.flA (bdd_asked_no b.1 b.2 [f, g, h] _ hl e he h0) ?_ | with_reducible refine ACalls.flA (bdd_put_no _ e _ _ h0) ?_) <;> (first | (simp (maxDischargeDepth := 9) -implicitDefEqProofs -dsimp only [go_sem, seval, *]; done) | omega))); (focus (first | trivial | with_reducible exact rfl | (simp (maxDischargeDepth := 9) -implicitDefEqProofs -dsimp only [go_sem, seval]; done)))))
    refine fin_eq ?_
    (repeat' (first | simp (maxDischargeDepth := 9) -implicitDefEqProofs -dsimp only [go_sem, seval, *])) <;> (repeat' refine And.intro ?_ ?_) <;> (first | omega | rfl | assumption | skip)
theorem bdd_Not (b : D) (f : Int) (σ : Sig) (hl : b.2.length ≤ 9223372036854775807) (hroom : Fine b.1 b.2 → b.2.length + 2 ^ (b.1.toNat + 1) ≤ 65537) :
    ACalls Tryz.prog 54 [encB b.1 b.2, .int .i64 f] σ (fun r σ' => r = .ret (.tup [encB (notW b f).1.1 (notW b f).1.2, .int .i64 (notW b f).2.1, .int .i64 (notW b f).2.2]) ∧ σ' = σ) := by
  refine calls_x mixed Tryz.func54 b54 n54 rfl q54 (by simp) ?_; unfold c54 r54
  repeat' (first | simp (maxDischargeDepth := 9) -implicitDefEqProofs -dsimp only [go_sem, seval, *] | ((with_reducible refine Zt (fun oF hoF hnF hnF' => ?_)); clear hnF hnF'; (try simp only [Zw, ne_eq] at hoF)) | ((with_reducible apply ACalls.one1); (focus ((first | with_reducible refine bdd_Ite b f 0 1 _ hl hroom) <;> (first | (simp (maxDischargeDepth := 9) -implicitDefEqProofs -dsimp only [go_sem, seval, *]; done) | omega))); (focus (first | trivial | with_reducible exact rfl | (simp (maxDischargeDepth := 9) -implicitDefEqProofs -dsimp only [go_sem, seval]; done)))))
  refine fin_eq ?_
  (repeat' (first | simp (maxDischargeDepth := 9) -implicitDefEqProofs -dsimp only [go_sem, seval, notW, *])) <;> (repeat' refine And.intro ?_ ?_) <;> (first | omega | rfl | assumption | skip)
theorem bdd_Var1 (m t a d : Nat) (hne : Apart m t a d) (b : D) (hl : b.2.length < 65536) (n : Int) (o1 o2 : Nat) (σ : Sig)
    (h1 : σ m = some (machT b.1 b.2 (.own t) a d)) (h2 : σ t = some (.grow 3 b.2.length)) (h3 : σ a = some (.map true (encM (mac b.2).at_))) (h4 : σ d = some (.map true []))
    (p1 : σ o1 = some (.cells [.ptr m 0])) (p2 : σ o2 = some (.cells [.int .i64 n])) :
    ACalls Tryz.prog 51 [.ptr o1 0, .ptr o2 0] σ (fun r σ' => r = .ret (.int .i64 (forkM (mac b.2) n 0 1).2) ∧
      σ' = upd (upd (upd (upd σ m (machT b.1 (forkM (mac b.2) n 0 1).1.forks (.own t) a d)) t (.grow 3 (forkM (mac b.2) n 0 1).1.forks.length)) a (.map true (encM (forkM (mac b.2) n 0 1).1.at_))) d (.map true (encM (forkM (mac b.2) n 0 1).1.done))) := by
  refine calls_x mixed Tryz.func51 b51 n51 rfl q51 (by simp) ?_; unfold c51 r51
  have q := bdd_fork m t a d b.1 (mac b.2) n 0 1 σ hne h1 h2 h3 (fun _ _ => hl)
  have hd : (forkM (mac b.2) n 0 1).1.done = [] := forkM_done _ _ _ _
  obtain ⟨e1, e2, e3, e4, e5, e6, f1, f2, f3, f4, f5, f6⟩ := hne
  repeat' (first | simp (maxDischargeDepth := 9) -implicitDefEqProofs -dsimp only [go_sem, seval, *] | ((with_reducible apply ACalls.one1); (focus ((first | with_reducible refine q) <;> (first | (simp (maxDischargeDepth := 9) -implicitDefEqProofs -dsimp only [go_sem, seval, *]; done) | omega))); (focus (first | trivial | with_reducible exact rfl | (simp (maxDischargeDepth := 9) -implicitDefEqProofs -dsimp only [go_sem, seval]; done)))))
  refine fin_eq ?_
  (repeat' (first | simp (maxDischargeDepth := 9) -implicitDefEqProofs -dsimp only [go_sem, seval, hd, List.map_nil, *])) <;> (repeat' refine And.intro ?_ ?_) <;> (first | omega | rfl | assumption | skip)
set_option maxHeartbeats 1000000 in
theorem bdd_Var (b : D) (n : Int) (σ : Sig) (hl : b.2.length ≤ 9223372036854775807) (hroom : Fine b.1 b.2 → b.2.length < 65536) :
    ACalls Tryz.prog 20 [encB b.1 b.2, .int .i64 n] σ (fun r σ' => r = .ret (.tup [encB (varW b n).1.1 (varW b n).1.2, .int .i64 (varW b n).2.1, .int .i64 (varW b n).2.2]) ∧ σ' = σ) := by
  refine calls_x mixed Tryz.func20 b20 n20 rfl q20 (by simp) ?_; unfold c20 r20
  obtain ⟨e, he⟩ : ∃ e, chk b.1 b.2 = e := ⟨_, rfl⟩
  by_cases h0 : e = 0
  · subst h0
    have hf := chk_fine.1 he
    have hr := hroom hf
    cases ho : off b n with
    | true =>
      have hw : varW b n = ((0, []), 0, 1) := by unfold varW; rw [ask_arg hf (by simp [ho]), op_err (by decide)]
      rw [hw]
      have ho' : n < 0 ∨ b.1 ≤ n := by simpa [off] using ho
      clear hw ho
      repeat' (first | simp (maxDischargeDepth := 9) -implicitDefEqProofs -dsimp only [go_sem, seval, *] | (with_reducible (first | apply Zb | apply Zc) <;> intro hq) | ((with_reducible refine Zt (fun oF hoF hnF hnF' => ?_)); clear hnF hnF'; (try simp only [Zw, ne_eq] at hoF)))
      refine newMac4 (ACalls.flA (bdd_asked_yes b.1 b.2 [] _ hf (by simp) (by simp)) (by simp (maxDischargeDepth := 9) -implicitDefEqProofs -dsimp only [go_sem, seval, *]; done)) fun m t a d hne q1 q2 q3 q4 => ?_
      simp only [Zw, ne_eq] at q1 q2 q3 q4
      have hne' := hne
      obtain ⟨e1, e2, e3, e4, e5, e6, f1, f2, f3, f4, f5, f6⟩ := hne'
      repeat' (first | simp (maxDischargeDepth := 9) -implicitDefEqProofs -dsimp only [go_sem, seval, ge_iff_le, *] | (with_reducible (first | apply Zb | apply Zc) <;> intro hq) | ((with_reducible refine Zt (fun oF hoF hnF hnF' => ?_)); clear hnF hnF'; (try simp only [Zw, ne_eq] at hoF)) | ((with_reducible apply ACalls.one1); (focus ((first | with_reducible refine bdd_put_no _ 1 _ _ ?_ | with_reducible refine ACalls.flA (bdd_put_no _ 1 _ _ ?_) ?_) <;> (first | (simp (maxDischargeDepth := 9) -implicitDefEqProofs -dsimp only [go_sem, seval, *]; done) | omega))); (focus (first | trivial | with_reducible exact rfl | (simp (maxDischargeDepth := 9) -implicitDefEqProofs -dsimp only [go_sem, seval]; done)))))
      all_goals first | (with_reducible refine fin_eq ?_; (repeat' (first | simp (maxDischargeDepth := 9) -implicitDefEqProofs -dsimp only [go_sem, seval, *])) <;> (repeat' refine And.intro ?_ ?_) <;> (first | omega | rfl | assumption | skip); done) | (exfalso; rcases ho' with c | c <;> contradiction)
    | false =>
      rw [var_mac hf ho]
      have ho' : 0 ≤ n ∧ n < b.1 := by simpa [off] using ho
      repeat' (first | simp (maxDischargeDepth := 9) -implicitDefEqProofs -dsimp only [go_sem, seval, *] | (with_reducible (first | apply Zb | apply Zc) <;> intro hq) | ((with_reducible refine Zt (fun oF hoF hnF hnF' => ?_)); clear hnF hnF'; (try simp only [Zw, ne_eq] at hoF)))
      have c1 : ¬ n < 0 := by omega
      have c2 : ¬ b.1 ≤ n := by omega
      refine newMac4 (ACalls.flA (bdd_asked_yes b.1 b.2 [] _ hf (by simp) (by simp)) (by simp (maxDischargeDepth := 9) -implicitDefEqProofs -dsimp only [go_sem, seval, *]; done)) fun m t a d hne q1 q2 q3 q4 => ?_
      simp only [Zw, ne_eq] at q1 q2 q3 q4
      have hne' := hne
      obtain ⟨e1, e2, e3, e4, e5, e6, f1, f2, f3, f4, f5, f6⟩ := hne'
      repeat' (first | simp (maxDischargeDepth := 9) -implicitDefEqProofs -dsimp only [go_sem, seval, ge_iff_le, *] | (with_reducible (first | apply Zb | apply Zc) <;> intro hq) | ((with_reducible refine Zt (fun oF hoF hnF hnF' => ?_)); clear hnF hnF'; (try simp only [Zw, ne_eq] at hoF)))
      all_goals first | (exfalso; contradiction) | skip
      refine ACalls.one (bdd_put_ok m t a d b.1 (forkM (mac b.2) n 0 1).1 (forkM (mac b.2) n 0 1).2 _ _ _ hne (by simp (maxDischargeDepth := 9) -implicitDefEqProofs -dsimp only [go_sem, seval, *]; done) (by simp (maxDischargeDepth := 9) -implicitDefEqProofs -dsimp only [go_sem, seval, *]; done) (by simp (maxDischargeDepth := 9) -implicitDefEqProofs -dsimp only [go_sem, seval, *]; done) (by simp (maxDischargeDepth := 9) -implicitDefEqProofs -dsimp only [go_sem, seval, *]; done) fun τ hτ => ?_) ?_
      · refine bdd_Var1 m t a d hne b hr n _ _ τ ?_ ?_ ?_ ?_ ?_ ?_
        all_goals
          refine Sub.get hτ ?_
          simp (maxDischargeDepth := 9) -implicitDefEqProofs -dsimp only [go_sem, seval, *]
      repeat' (first | simp (maxDischargeDepth := 9) -implicitDefEqProofs -dsimp only [go_sem, seval, *] | (with_reducible (first | apply Zb | apply Zc) <;> intro hq) | ((with_reducible refine Zt (fun oF hoF hnF hnF' => ?_)); clear hnF hnF'; (try simp only [Zw, ne_eq] at hoF)))
      refine fin_eq ?_
      (repeat' (first | simp (maxDischargeDepth := 9) -implicitDefEqProofs -dsimp only [go_sem, seval, *])) <;> (repeat' refine And.intro ?_ ?_) <;> (first | omega | rfl | assumption | skip)
  · have hw : varW b n = ((0, []), 0, e) := by unfold varW; rw [ask_err he h0, op_err h0]
    rw [hw]
    have hb : (e == 0) = false := by simpa using h0
    repeat' (first | simp (maxDischargeDepth := 9) -implicitDefEqProofs -dsimp only [go_sem, seval, *] | (with_reducible (first | apply Zb | apply Zc) <;> intro hq) | ((with_reducible refine Zt (fun oF hoF hnF hnF' => ?_)); clear hnF hnF'; (try simp only [Zw, ne_eq] at hoF)) | ((with_reducible apply ACalls.one1); (focus ((first | with_reducible refine bdd_asked_no b.1 b.2 [] _ hl e he h0 | with_reducible refine bdd_put_no _ e _ _ h0 | with_reducible refine ACalls.flA (bdd_asked_no b.1 b.2 [] _ hl e he h0) ?_ | with_reducible refine ACalls.flA (bdd_put_no _ e _ _ h0) ?_) <;> (first | (simp (maxDischargeDepth := 9) -implicitDefEqProofs -dsimp only [go_sem, seval, *]; done) | omega))); (focus (first | trivial | with_reducible exact rfl | (simp (maxDischargeDepth := 9) -implicitDefEqProofs -dsimp only [go_sem, seval]; done)))))
    refine fin_eq ?_
    (repeat' (first | simp (maxDischargeDepth := 9) -implicitDefEqProofs -dsimp only [go_sem, seval, *])) <;> (repeat' refine And.intro ?_ ?_) <;> (first | omega | rfl | assumption | skip)
end Go.Proofs.YtjichkelfhcbcaaGreat.B

namespace Fil.Bd
def nx (F : List T3) (inp : List Bool) (n : Int) : Int := if inp.getD (frk F n).1.toNat false then (frk F n).2.2 else (frk F n).2.1
def evf (F : List T3) (inp : List Bool) : Nat → Int → Bool
  | 0, n => decide (n = 1)
  | k + 1, n => if n < 2 then decide (n = 1) else evf F inp k (nx F inp n)
theorem evf_end {F inp k} {n : Int} (h : n < 2) : evf F inp k n = decide (n = 1) := by
  cases k with
  | zero => rfl
  | succ k => rw [evf, if_pos h]
theorem evf_step {F inp k} {n : Int} (h : 2 ≤ n) : evf F inp (k + 1) n = evf F inp k (nx F inp n) := by rw [evf, if_neg (by omega)]
def one1 (F : List T3) : Nat → Int → List Bool → List Bool
  | 0, _, l => l
  | k + 1, n, l => if n < 2 then l else if (frk F n).2.1 = 0 then one1 F k (frk F n).2.2 (l.set (frk F n).1.toNat true) else one1 F k (frk F n).2.1 l
theorem one1_end {F k l} {n : Int} (h : n < 2) : one1 F k n l = l := by
  cases k with
  | zero => rfl
  | succ k => rw [one1, if_pos h]
def oneW (b : D) (f : Int) : List Bool × Bool × Int :=
  if askE b [f] false ≠ 0 then ([], false, askE b [f] false) else if f = 0 then ([], false, 0) else (one1 b.2 f.toNat f (List.replicate b.1.toNat false), true, 0)
end Fil.Bd

