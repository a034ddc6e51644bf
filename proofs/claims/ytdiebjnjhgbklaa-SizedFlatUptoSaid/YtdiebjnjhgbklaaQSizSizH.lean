/- sized: contracts: shapes. -/
import Derived.Shelf.Strconv.Itoa0
import Derived.Test.YtdiebjnjhgbklaaQSizSizD
set_option linter.unusedSimpArgs false
set_option linter.unusedVariables false
namespace Go.Proofs.Ytdiebjnjhgbklaa
open Abs Fil Fil.Sz
abbrev cntC (n k : Int) : AObj := .cells [.int .i64 n, .int .i64 k]
abbrev cntV (n k : Int) : AV := .agg [.int .i64 n, .int .i64 k]
theorem sz_add (o : Nat) (n k m j : Int) (σ : Sig) (h : σ o = some (cntC n k)) (h1 : 0 ≤ n ∧ n ≤ 16777216) (h2 : 0 ≤ m ∧ m ≤ 16777216) :
  ACalls Try.prog 70 [.ptr o 0, cntV m j] σ (fun r σ' => r = .ret (.tup []) ∧ σ' = upd σ o (cntC (n + m) (max k j))) := by
 refine calls_x mixed Try.func70 b70 n70 rfl q70 (by simp) ?_; unfold c70 r70
 obtain ⟨a1, a2⟩ := h1
 obtain ⟨a3, a4⟩ := h2
 repeat' (first | simp (maxDischargeDepth := 9) -implicitDefEqProofs -dsimp only [go_sem, seval, *] | simp (disch := omega) only [wrap64])
 refine fin_eq ?_
 (repeat' simp (maxDischargeDepth := 9) -implicitDefEqProofs -dsimp only [go_sem, seval, *])
theorem sz_within (n k : Int) (σ : Sig) (h1 : 0 ≤ n ∧ n ≤ 16777216) (h2 : 0 ≤ k ∧ k ≤ 16777216) : ACalls Try.prog 71 [cntV n k] σ (fun r σ' => r = .ret (cntV (n + 1) (k + 1)) ∧ σ' = σ) := by
 refine calls_x mixed Try.func71 b71 n71 rfl q71 (by simp) ?_; unfold c71 r71
 obtain ⟨a1, a2⟩ := h1
 obtain ⟨a3, a4⟩ := h2
 repeat' (first | simp (maxDischargeDepth := 9) -implicitDefEqProofs -dsimp only [go_sem, seval, *] | simp (disch := omega) only [wrap64] | ((with_reducible refine Zt (fun oF hoF hnF hnF' => ?_)); (try simp only [upd_none, ne_eq, not_and] at hoF)))
 refine fin_eq ?_
 (repeat' simp (maxDischargeDepth := 9) -implicitDefEqProofs -dsimp only [go_sem, seval, *])
theorem sz_cfits (n k : Int) (σ : Sig) : ACalls Try.prog 38 [cntV n k] σ (fun r σ' => r = .ret (.bool (decide (n ≤ 65536) && decide (k ≤ 64))) ∧ σ' = σ) := by
 refine calls_x mixed Try.func38 b38 n38 rfl q38 (by simp) ?_; unfold c38 r38
 repeat' (first | simp (maxDischargeDepth := 9) -implicitDefEqProofs -dsimp only [go_sem, seval, *] | (with_reducible (first | apply Za) <;> intro hq))
 all_goals
  refine fin_eq ?_
  (repeat' simp (maxDischargeDepth := 9) -implicitDefEqProofs -dsimp only [go_sem, seval, decide_true, decide_false, Bool.true_and, Bool.false_and, *])
theorem sz_countE (e : E) : ∀ (σ : Sig), nodes e ≤ 16777216 → ACalls Try.prog 37 [encE e] σ (fun r σ' => r = .ret (cntV (nodes e) (deep e)) ∧ σ' = σ) := by
 refine E.ind (P := fun e => ∀ (σ : Sig), nodes e ≤ 16777216 → ACalls Try.prog 37 [encE e] σ (fun r σ' => r = .ret (cntV (nodes e) (deep e)) ∧ σ' = σ)) (fun e ih σ he => ?_) e
 have h1 := encEs_eq e
 have l1 := len_nodes e
 have hn := nodes_eq e
 have hd := deep_eq e
 have hdl := deep_le e
 have hE := fun (x : E) (hx : x ∈ e.l) τ => ih x hx τ (by have := part_nodes hx; omega)
 clear ih
 refine calls_x mixed Try.func37 b37 n37 rfl q37 (by simp) ?_; unfold c37 r37
 repeat' (first | simp (maxDischargeDepth := 9) -implicitDefEqProofs -dsimp only [go_sem, seval, *] | ((with_reducible refine Zt (fun oF hoF hnF hnF' => ?_)); (try simp only [upd_none, ne_eq, not_and] at hoF)))
 rename_i o2 ho2 n2 n2'
 obtain ⟨o3, e3⟩ : ∃ x, x = oF := ⟨oF, rfl⟩
 subst e3
 obtain ⟨a1, ho3⟩ := hoF
 have a2 : ¬ o2 = o3 := fun e => a1 e.symm
 clear n2 n2' hnF hnF'
 refine loop_rule (fun i : Nat => [(9, some (.int .i64 i)), (8, some (.int .i64 e.l.length)), (7, some (.slice (e.l.map encE) .no)), (3, some (.ptr o3 0)), (2, some (.ptr o2 0))])
  (fun i => upd (upd σ o2 (cntC 0 0)) o3 (cntC (sumTo nodes e.l i : Nat) (maxTo deep e.l i : Nat))) (fun i => i ≤ e.l.length) (fun i => e.l.length - i) 0 ?_ ?_
 ·clear hE
  have e0 := sumTo_zero (f := nodes) (l := e.l)
  have e1 := maxTo_zero (f := deep) (l := e.l)
  (repeat' simp (maxDischargeDepth := 9) -implicitDefEqProofs -dsimp only [go_sem, seval, *]) <;> (first | omega | skip)
 ·intro i hi
  have hle := sumTo_le (f := nodes) (l := e.l) (i := i)
  have hle2 := maxTo_le (f := deep) (l := e.l) (i := i)
  by_cases hlt : i < e.l.length
  ·have hs := sumTo_succ (f := nodes) hlt
   have hs2 := maxTo_succ (f := deep) hlt
   have hc := fun τ => hE e.l[i] (List.getElem_mem hlt) τ
   have hm := part_nodes (List.getElem_mem hlt)
   have hcm : ((maxTo deep e.l (i + 1) : Nat) : Int) = max (maxTo deep e.l i : Nat) (deep e.l[i] : Nat) := by have := hs2; omega
   have hcs : ((sumTo nodes e.l (i + 1) : Nat) : Int) = (sumTo nodes e.l i : Nat) + (nodes e.l[i] : Nat) := by have := hs; omega
   have hadd := fun τ h => sz_add o3 (sumTo nodes e.l i : Nat) (maxTo deep e.l i : Nat) (nodes e.l[i] : Nat) (deep e.l[i] : Nat) τ h (by omega) (by omega)
   clear hE hs hs2
   repeat' (first | simp (maxDischargeDepth := 9) -implicitDefEqProofs -dsimp only [go_sem, seval, *] | simp (disch := omega) only [wrap64] | ((with_reducible refine Zu ?_ ?_); focus omega) | ((with_reducible refine Zt (fun oF hoF hnF hnF' => ?_)); (try simp only [upd_none, ne_eq, not_and] at hoF)) | ((with_reducible apply ACalls.one1); (focus ((first | with_reducible refine hc _ | with_reducible refine hadd _ ?_) <;> (first | (simp (maxDischargeDepth := 9) -implicitDefEqProofs -dsimp only [go_sem, seval, *]; done) | omega))); (focus (first | trivial | with_reducible exact rfl | (simp (maxDischargeDepth := 9) -implicitDefEqProofs -dsimp only [go_sem, seval]; done)))))
   refine loop_next _ _ _ _ (i + 1) ?_; (repeat' simp (maxDischargeDepth := 9) -implicitDefEqProofs -dsimp only [go_sem, seval, *]) <;> (repeat' refine And.intro ?_ ?_) <;> (first | omega | skip)
  ·have ei : i = e.l.length := by omega
   subst ei
   rw [sumTo_all] at hle ⊢
   rw [maxTo_all] at hle2 ⊢
   obtain ⟨N, hN⟩ : ∃ N, (e.l.map nodes).sum = N := ⟨_, rfl⟩
   obtain ⟨D, hD⟩ : ∃ N, maxL (e.l.map deep) = N := ⟨_, rfl⟩
   rw [hN] at hn ⊢
   rw [hD] at hd ⊢
   have hw := fun τ => sz_within N D τ (by omega) (by omega)
   clear hE hN hD
   repeat' (first | simp (maxDischargeDepth := 9) -implicitDefEqProofs -dsimp only [go_sem, seval, *] | ((with_reducible apply ACalls.one1); (focus ((with_reducible refine hw _) <;> (first | (simp (maxDischargeDepth := 9) -implicitDefEqProofs -dsimp only [go_sem, seval, *]; done) | omega))); (focus (first | trivial | with_reducible exact rfl | (simp (maxDischargeDepth := 9) -implicitDefEqProofs -dsimp only [go_sem, seval]; done)))))
   refine fin_eq ?_
   (repeat' simp (maxDischargeDepth := 9) -implicitDefEqProofs -dsimp only [go_sem, seval, *]) <;> (repeat' refine And.intro ?_ ?_) <;> (first | omega | skip)
set_option maxHeartbeats 1000000 in
theorem sz_countT (t : T) : ∀ (σ : Sig), nodesT t ≤ 16777216 → ACalls Try.prog 83 [encT t] σ (fun r σ' => r = .ret (cntV (nodesT t) (deepT t)) ∧ σ' = σ) := by
 refine T.ind (P := fun t => ∀ (σ : Sig), nodesT t ≤ 16777216 → ACalls Try.prog 83 [encT t] σ (fun r σ' => r = .ret (cntV (nodesT t) (deepT t)) ∧ σ' = σ)) (fun t ih σ he => ?_) t
 have h1 := encTs_eq t
 have l1 := lenE_nodes t
 have l2 := lenL_nodes t
 have hn := nodesT_eq t
 have hd := deepT_eq t
 have hdl := deepT_le t
 have hE := fun (x : E) (hx : x ∈ t.e) τ => sz_countE x τ (by have := partE_nodes hx; omega)
 have hT := fun (x : T) (hx : x ∈ t.l) τ => ih x hx τ (by have := partT_nodes hx; omega)
 clear ih
 refine calls_x mixed Try.func83 b83 n83 rfl q83 (by simp) ?_; unfold c83 r83
 repeat' (first | simp (maxDischargeDepth := 9) -implicitDefEqProofs -dsimp only [go_sem, seval, *] | ((with_reducible refine Zt (fun oF hoF hnF hnF' => ?_)); (try simp only [upd_none, ne_eq, not_and] at hoF)))
 rename_i o2 ho2 n2 n2'
 obtain ⟨o3, e3⟩ : ∃ x, x = oF := ⟨oF, rfl⟩
 subst e3
 obtain ⟨a1, ho3⟩ := hoF
 have a2 : ¬ o2 = o3 := fun e => a1 e.symm
 clear n2 n2' hnF hnF'
 refine loop_rule (fun i : Nat => [(11, some (.int .i64 i)), (10, some (.int .i64 t.e.length)), (9, some (.slice (t.e.map encE) .no)), (3, some (.ptr o3 0)), (1, some (.cptr (tL t))), (2, some (.ptr o2 0))])
  (fun i => upd (upd σ o2 (cntC 0 0)) o3 (cntC (sumTo nodes t.e i : Nat) (maxTo deep t.e i : Nat))) (fun i => i ≤ t.e.length) (fun i => t.e.length - i) 0 ?_ ?_
 ·clear hE hT
  have e0 := sumTo_zero (f := nodes) (l := t.e)
  have e1 := maxTo_zero (f := deep) (l := t.e)
  (repeat' simp (maxDischargeDepth := 9) -implicitDefEqProofs -dsimp only [go_sem, seval, *]) <;> (first | omega | skip)
 ·intro i hi
  have hle := sumTo_le (f := nodes) (l := t.e) (i := i)
  have hle2 := maxTo_le (f := deep) (l := t.e) (i := i)
  by_cases hlt : i < t.e.length
  ·have hs := sumTo_succ (f := nodes) hlt
   have hs2 := maxTo_succ (f := deep) hlt
   have hc := fun τ => hE t.e[i] (List.getElem_mem hlt) τ
   have hm := partE_nodes (List.getElem_mem hlt)
   have hcm : ((maxTo deep t.e (i + 1) : Nat) : Int) = max (maxTo deep t.e i : Nat) (deep t.e[i] : Nat) := by have := hs2; omega
   have hcs : ((sumTo nodes t.e (i + 1) : Nat) : Int) = (sumTo nodes t.e i : Nat) + (nodes t.e[i] : Nat) := by have := hs; omega
   have hadd := fun τ h => sz_add o3 (sumTo nodes t.e i : Nat) (maxTo deep t.e i : Nat) (nodes t.e[i] : Nat) (deep t.e[i] : Nat) τ h (by omega) (by omega)
   clear hE hT hs hs2
   repeat' (first | simp (maxDischargeDepth := 9) -implicitDefEqProofs -dsimp only [go_sem, seval, *] | simp (disch := omega) only [wrap64] | ((with_reducible refine Zu ?_ ?_); focus omega) | ((with_reducible refine Zt (fun oF hoF hnF hnF' => ?_)); (try simp only [upd_none, ne_eq, not_and] at hoF)) | ((with_reducible apply ACalls.one1); (focus ((first | with_reducible refine hc _ | with_reducible refine hadd _ ?_) <;> (first | (simp (maxDischargeDepth := 9) -implicitDefEqProofs -dsimp only [go_sem, seval, *]; done) | omega))); (focus (first | trivial | with_reducible exact rfl | (simp (maxDischargeDepth := 9) -implicitDefEqProofs -dsimp only [go_sem, seval]; done)))))
   refine loop_next _ _ _ _ (i + 1) ?_; (repeat' simp (maxDischargeDepth := 9) -implicitDefEqProofs -dsimp only [go_sem, seval, *]) <;> (repeat' refine And.intro ?_ ?_) <;> (first | omega | skip)
  ·have ei : i = t.e.length := by omega
   subst ei
   rw [sumTo_all] at hle ⊢
   rw [maxTo_all] at hle2 ⊢
   obtain ⟨N, hN⟩ : ∃ N, (t.e.map nodes).sum = N := ⟨_, rfl⟩
   obtain ⟨D, hD⟩ : ∃ N, maxL (t.e.map deep) = N := ⟨_, rfl⟩
   rw [hN] at hn ⊢
   rw [hD] at hd ⊢
   clear hE hN hD
   repeat' simp (maxDischargeDepth := 9) -implicitDefEqProofs -dsimp only [go_sem, seval, *]
   refine loop_rule (fun i : Nat => [(22, some (.int .i64 i)), (21, some (.int .i64 t.l.length)), (20, some (.slice (t.l.map encT) .no)), (3, some (.ptr o3 0)), (2, some (.ptr o2 0))])
    (fun i => upd (upd σ o2 (cntC 0 0)) o3 (cntC ((N : Int) + (sumTo nodesT t.l i : Nat)) ((max D (maxTo deepT t.l i) : Nat) : Int))) (fun i => i ≤ t.l.length) (fun i => t.l.length - i) 0 ?_ ?_
   ·clear hT
    have e0 := sumTo_zero (f := nodesT) (l := t.l)
    have e1 := maxTo_zero (f := deepT) (l := t.l)
    (repeat' simp (maxDischargeDepth := 9) -implicitDefEqProofs -dsimp only [go_sem, seval, *]) <;> (repeat' refine And.intro ?_ ?_) <;> (first | omega | skip)
   ·intro i hi
    have gle := sumTo_le (f := nodesT) (l := t.l) (i := i)
    have gle2 := maxTo_le (f := deepT) (l := t.l) (i := i)
    by_cases hlt : i < t.l.length
    ·have hs := sumTo_succ (f := nodesT) hlt
     have hs2 := maxTo_succ (f := deepT) hlt
     have hc := fun τ => hT t.l[i] (List.getElem_mem hlt) τ
     have hm := partT_nodes (List.getElem_mem hlt)
     have hcm : ((max D (maxTo deepT t.l (i + 1)) : Nat) : Int) = max ((max D (maxTo deepT t.l i) : Nat) : Int) (deepT t.l[i] : Nat) := by have := hs2; omega
     have hcs : ((N : Int) + (sumTo nodesT t.l (i + 1) : Nat)) = ((N : Int) + (sumTo nodesT t.l i : Nat)) + (nodesT t.l[i] : Nat) := by have := hs; omega
     have hadd := fun τ h => sz_add o3 ((N : Int) + (sumTo nodesT t.l i : Nat)) ((max D (maxTo deepT t.l i) : Nat) : Int) (nodesT t.l[i] : Nat) (deepT t.l[i] : Nat) τ h (by omega) (by omega)
     obtain ⟨A, hA⟩ : ∃ x, ((N : Int) + (sumTo nodesT t.l i : Nat)) = x := ⟨_, rfl⟩
     obtain ⟨B, hB⟩ : ∃ x, ((max D (maxTo deepT t.l i) : Nat) : Int) = x := ⟨_, rfl⟩
     rw [hA] at hcs hadd ⊢
     rw [hB] at hcm hadd ⊢
     clear hT hs hs2 hA hB
     repeat' (first | simp (maxDischargeDepth := 9) -implicitDefEqProofs -dsimp only [go_sem, seval, *] | simp (disch := omega) only [wrap64] | ((with_reducible refine Zu ?_ ?_); focus omega) | ((with_reducible refine Zt (fun oF hoF hnF hnF' => ?_)); (try simp only [upd_none, ne_eq, not_and] at hoF)) | ((with_reducible apply ACalls.one1); (focus ((first | with_reducible refine hc _ | with_reducible refine hadd _ ?_) <;> (first | (simp (maxDischargeDepth := 9) -implicitDefEqProofs -dsimp only [go_sem, seval, *]; done) | omega))); (focus (first | trivial | with_reducible exact rfl | (simp (maxDischargeDepth := 9) -implicitDefEqProofs -dsimp only [go_sem, seval]; done)))))
     refine loop_next _ _ _ _ (i + 1) ?_
     rw [hcs, hcm]
     (repeat' simp (maxDischargeDepth := 9) -implicitDefEqProofs -dsimp only [go_sem, seval, *]) <;> (repeat' refine And.intro ?_ ?_) <;> (first | omega | skip)
    ·have ei : i = t.l.length := by omega
     subst ei
     rw [sumTo_all] at gle ⊢
     rw [maxTo_all] at gle2 ⊢
     obtain ⟨M, hM⟩ : ∃ x, N + (t.l.map nodesT).sum = x := ⟨_, rfl⟩
     obtain ⟨F, hF⟩ : ∃ x, max D (maxL (t.l.map deepT)) = x := ⟨_, rfl⟩
     have hw := fun τ => sz_within M F τ (by omega) (by omega)
     have q1 : nodesT t = M + 1 := by omega
     have q2 : deepT t = F + 1 := by omega
     have hM' : (N : Int) + ((t.l.map nodesT).sum : Nat) = (M : Nat) := by omega
     rw [hM', hF]
     clear hT hn hd
     repeat' (first | simp (maxDischargeDepth := 9) -implicitDefEqProofs -dsimp only [go_sem, seval, *] | ((with_reducible apply ACalls.one1); (focus ((with_reducible refine hw _) <;> (first | (simp (maxDischargeDepth := 9) -implicitDefEqProofs -dsimp only [go_sem, seval, *]; done) | omega))); (focus (first | trivial | with_reducible exact rfl | (simp (maxDischargeDepth := 9) -implicitDefEqProofs -dsimp only [go_sem, seval]; done)))))
     refine fin_eq ?_
     (repeat' simp (maxDischargeDepth := 9) -implicitDefEqProofs -dsimp only [go_sem, seval, *])
theorem rf_bound (d : Flat) (σ : Sig) (hd : Sm d) : ACalls Try.prog 51 [encD d] σ (fun r σ' => r = .ret (.bool (fitsD d)) ∧ σ' = σ) := by
 have hc := fun τ => rf_measure d τ hd
 have hb : bitsD 5000 d.sigs ≤ 5000 * d.sigs.length := bits_bound 5000 d.sigs
 have hl := hd.1
 have hiff := bits_iff d.sigs
 have hfd : fitsD d = decide (d.sigs.length ≤ 512 ∧ d.procs.length ≤ 1024 ∧ bitsD 5000 d.sigs ≤ 4096 ∧ nodesD d ≤ 65536 ∧ deepD d ≤ 64) := by
  unfold fitsD; simp only [hiff]
 have e0 := sumTo_zero (f := bitN 5000) (l := d.sigs)
 have hw : ∀ s ∈ d.sigs, I64 s.w → True := fun _ _ _ => trivial
 clear hd hiff hw
 refine calls_x mixed Try.func51 b51 n51 rfl q51 (by simp) ?_; unfold c51 r51
 repeat' simp (maxDischargeDepth := 9) -implicitDefEqProofs -dsimp only [go_sem, seval, *]
 refine loop_rule (fun i : Nat => [(4, some (.int .i64 i)), (1, some (.cptr (dL d))), (3, some (.int .i64 (sumTo (bitN 5000) d.sigs i : Nat)))]) (fun _ => σ) (fun i => i ≤ d.sigs.length) (fun i => d.sigs.length - i) 0 ?_ ?_
 ·clear hc
  (repeat' simp (maxDischargeDepth := 9) -implicitDefEqProofs -dsimp only [go_sem, seval, *]) <;> (first | omega | skip)
 ·intro i hi
  have hle := sumTo_le (f := bitN 5000) (l := d.sigs) (i := i)
  have hbd : bitsD 5000 d.sigs = (d.sigs.map (bitN 5000)).sum := rfl
  by_cases hlt : i < d.sigs.length
  ·have hs := sumTo_succ (f := bitN 5000) hlt
   have hle2 := sumTo_le (f := bitN 5000) (l := d.sigs) (i := i + 1)
   have hbn : min (max d.sigs[i].w 0) 5000 = (bitN 5000 d.sigs[i] : Nat) := by unfold bitN; omega
   clear hc
   repeat' (first | simp (maxDischargeDepth := 9) -implicitDefEqProofs -dsimp only [go_sem, seval, *] | simp (disch := omega) only [wrap64] | ((with_reducible refine Zu ?_ ?_); focus omega))
   all_goals
    refine loop_next _ _ _ _ (i + 1) ?_; (repeat' simp (maxDischargeDepth := 9) -implicitDefEqProofs -dsimp only [go_sem, seval, *]) <;> (repeat' refine And.intro ?_ ?_) <;> (first | omega | skip)
  ·have ei : i = d.sigs.length := by omega
   subst ei
   rw [sumTo_all, ← hbd]
   obtain ⟨B, hB⟩ : ∃ x, bitsD 5000 d.sigs = x := ⟨_, rfl⟩
   rw [hB] at hfd ⊢
   clear hle hbd hB hb e0
   obtain ⟨x, hx⟩ : ∃ x, fitsD d = x := ⟨_, rfl⟩
   rw [hx] at hfd ⊢
   cases x with
   | true =>
    replace hfd := of_decide_eq_true hfd.symm
    obtain ⟨h1, h2, h3, h4, h5⟩ := hfd
    have i1 : (nodesD d : Int) ≤ 65536 := by omega
    have i2 : (deepD d : Int) ≤ 64 := by omega
    have i3 : (d.sigs.length : Int) ≤ 512 := by omega
    have i4 : (d.procs.length : Int) ≤ 1024 := by omega
    have i5 : (B : Int) ≤ 4096 := by omega
    repeat' (first | simp (maxDischargeDepth := 9) -implicitDefEqProofs -dsimp only [go_sem, seval, decide_true, *] | ((with_reducible apply ACalls.one1); (focus ((with_reducible refine hc _) <;> (first | (simp (maxDischargeDepth := 9) -implicitDefEqProofs -dsimp only [go_sem, seval, *]; done) | omega))); (focus (first | trivial | with_reducible exact rfl | (simp (maxDischargeDepth := 9) -implicitDefEqProofs -dsimp only [go_sem, seval]; done)))))
    refine fin_eq ?_
    (repeat' simp (maxDischargeDepth := 9) -implicitDefEqProofs -dsimp only [go_sem, seval, *])
   | false =>
    replace hfd := of_decide_eq_false hfd.symm
    repeat' (first | simp (maxDischargeDepth := 9) -implicitDefEqProofs -dsimp only [go_sem, seval, *] | (with_reducible (first | apply Za) <;> intro hq) | ((with_reducible apply ACalls.one1); (focus ((with_reducible refine hc _) <;> (first | (simp (maxDischargeDepth := 9) -implicitDefEqProofs -dsimp only [go_sem, seval, *]; done) | omega))); (focus (first | trivial | with_reducible exact rfl | (simp (maxDischargeDepth := 9) -implicitDefEqProofs -dsimp only [go_sem, seval]; done)))))
    all_goals first | (exfalso; omega) | skip
    all_goals
     refine fin_eq ?_
     (repeat' simp (maxDischargeDepth := 9) -implicitDefEqProofs -dsimp only [go_sem, seval, *])
    all_goals
     rw [eq_comm, decide_eq_false_iff_not]; omega
set_option maxHeartbeats 2000000 in
set_option maxRecDepth 20000 in
theorem sz_fits (d : Flat) (σ : Sig) (hd : Sm d) : ACalls Try.prog 43 [encD d] σ (fun r σ' => r = .ret (.bool (fitsD d)) ∧ σ' = σ) := by
 have p1 := fun (p : Pr) (hp : p ∈ d.procs) (t : T) (ht : t ∈ p.l) τ => sz_countT t τ (by have := sm_pr hd hp; have := mem_sum (f := nodesT) ht; unfold nodesP at *; omega)
 have p3 := fun (c : Ck) (hc : c ∈ d.chks) τ => sz_countE c.e τ (sm_ck hd hc)
 have l1 := hd.2.1
 have l2 := hd.2.2.1
 have hN : nodesD d = (d.procs.map nodesP).sum + (d.chks.map fun c => nodes c.e).sum := rfl
 have hD : deepD d = max (maxL (d.procs.map deepP)) (maxL (d.chks.map fun c => deep c.e)) := rfl
 have hNb := hd.2.2.2
 have hDb := deepD_le d
 have hpl := fun (p : Pr) (hp : p ∈ d.procs) => sm_pr hd hp
 have e0 := sumTo_zero (f := nodesP) (l := d.procs)
 have e1 := maxTo_zero (f := deepP) (l := d.procs)
 have e2 := sumTo_zero (f := fun c : Ck => nodes c.e) (l := d.chks)
 have e3 := maxTo_zero (f := fun c : Ck => deep c.e) (l := d.chks)
 have hb : bitsD 4097 d.sigs ≤ 4097 * d.sigs.length := bits_bound 4097 d.sigs
 have hl := hd.1
 have hfd : fitsD d = decide (d.sigs.length ≤ 512 ∧ d.procs.length ≤ 1024 ∧ bitsD 4097 d.sigs ≤ 4096 ∧ nodesD d ≤ 65536 ∧ deepD d ≤ 64) := rfl
 have b0 := sumTo_zero (f := bitN 4097) (l := d.sigs)
 clear hd
 refine calls_x mixed Try.func43 b43 n43 rfl q43 (by simp) ?_; unfold c43 r43
 repeat' simp (maxDischargeDepth := 9) -implicitDefEqProofs -dsimp only [go_sem, seval, *]
 refine loop_rule (fun i : Nat => [(16, some (.int .i64 i)), (15, some (.int .i64 d.sigs.length)), (14, some (.slice (d.sigs.map encS) .no)), (1, some (.cptr (dL d))), (3, some (.int .i64 (sumTo (bitN 4097) d.sigs i : Nat)))]) (fun _ => σ) (fun i => i ≤ d.sigs.length) (fun i => d.sigs.length - i) 0 ?_ ?_
 ·clear p1 p3 hpl
  (repeat' simp (maxDischargeDepth := 9) -implicitDefEqProofs -dsimp only [go_sem, seval, *]) <;> (first | omega | skip)
 ·intro i hi
  have hle := sumTo_le (f := bitN 4097) (l := d.sigs) (i := i)
  have hbd : bitsD 4097 d.sigs = (d.sigs.map (bitN 4097)).sum := rfl
  by_cases hlt : i < d.sigs.length
  ·have hs := sumTo_succ (f := bitN 4097) hlt
   have hle2 := sumTo_le (f := bitN 4097) (l := d.sigs) (i := i + 1)
   have hbn : max 0 (min d.sigs[i].w 4097) = (bitN 4097 d.sigs[i] : Nat) := by unfold bitN; omega
   clear p1 p3 hpl
   repeat' (first | simp (maxDischargeDepth := 9) -implicitDefEqProofs -dsimp only [go_sem, seval, *] | simp (disch := omega) only [wrap64] | ((with_reducible refine Zu ?_ ?_); focus omega) | ((with_reducible refine Zt (fun oF hoF hnF hnF' => ?_)); (try simp only [upd_none, ne_eq, not_and] at hoF)))
   all_goals
    refine loop_next _ _ _ _ (i + 1) ?_; (repeat' simp (maxDischargeDepth := 9) -implicitDefEqProofs -dsimp only [go_sem, seval, *]) <;> (repeat' refine And.intro ?_ ?_) <;> (first | omega | skip)
  ·have ei : i = d.sigs.length := by omega
   subst ei
   rw [sumTo_all, ← hbd]
   obtain ⟨B, hB⟩ : ∃ x, bitsD 4097 d.sigs = x := ⟨_, rfl⟩
   rw [hB] at hfd ⊢
   clear hle hbd hB hb b0
   repeat' (first | simp (maxDischargeDepth := 9) -implicitDefEqProofs -dsimp only [go_sem, seval, *] | ((with_reducible refine Zt (fun oF hoF hnF hnF' => ?_)); (try simp only [upd_none, ne_eq, not_and] at hoF)))
   clear hlt hi
   obtain ⟨o6, e6⟩ : ∃ x, x = oF := ⟨oF, rfl⟩
   subst e6
   have ho6 : σ o6 = none := hoF
   clear hoF hnF hnF'
   refine loop_rule (fun i : Nat => [(30, some (.int .i64 i)), (29, some (.int .i64 d.procs.length)), (28, some (.slice (d.procs.map encP) .no)), (6, some (.ptr o6 0)), (1, some (.cptr (dL d))), (3, some (.int .i64 B))])
    (fun i => upd σ o6 (cntC (sumTo nodesP d.procs i : Nat) (maxTo deepP d.procs i : Nat))) (fun i => i ≤ d.procs.length) (fun i => d.procs.length - i) 0 ?_ ?_
   ·clear p1 p3 hpl
    (repeat' simp (maxDischargeDepth := 9) -implicitDefEqProofs -dsimp only [go_sem, seval, *]) <;> (first | omega | skip)
   ·intro i hi
    have hle := sumTo_le (f := nodesP) (l := d.procs) (i := i)
    have hle2 := maxTo_le (f := deepP) (l := d.procs) (i := i)
    by_cases hlt : i < d.procs.length
    ·have hs := sumTo_succ (f := nodesP) hlt
     have hs2 := maxTo_succ (f := deepP) hlt
     have hb := sumTo_le (f := nodesP) (l := d.procs) (i := i + 1)
     have hpn := hpl d.procs[i] (List.getElem_mem hlt)
     have hlen := len_sum nodesT_pos d.procs[i].l
     have c1 := fun (t : T) (ht : t ∈ d.procs[i].l) τ => p1 d.procs[i] (List.getElem_mem hlt) t ht τ
     have u1 : (d.procs[i].l.map nodesT).sum = nodesP d.procs[i] := rfl
     have u2 : maxL (d.procs[i].l.map deepT) = deepP d.procs[i] := rfl
     have g0 := sumTo_zero (f := nodesT) (l := d.procs[i].l)
     have g1 := maxTo_zero (f := deepT) (l := d.procs[i].l)
     obtain ⟨A, hA⟩ : ∃ x, sumTo nodesP d.procs i = x := ⟨_, rfl⟩
     obtain ⟨C, hC⟩ : ∃ x, maxTo deepP d.procs i = x := ⟨_, rfl⟩
     rw [hA] at hs hle ⊢
     rw [hC] at hs2 hle2 ⊢
     clear p1 p3 hpl hA hC
     repeat' (first | simp (maxDischargeDepth := 9) -implicitDefEqProofs -dsimp only [go_sem, seval, *] | ((with_reducible refine Zu ?_ ?_); focus omega) | ((with_reducible refine Zt (fun oF hoF hnF hnF' => ?_)); (try simp only [upd_none, ne_eq, not_and] at hoF)))
     obtain ⟨o8, e8⟩ : ∃ x, x = oF := ⟨oF, rfl⟩
     subst e8
     obtain ⟨q1, ho8⟩ := hoF
     have q2 : ¬ o6 = o8 := fun e => q1 e.symm
     clear hnF hnF'
     refine loop_rule (fun k : Nat => [(37, some (.int .i64 k)), (36, some (.int .i64 d.procs[i].l.length)), (35, some (.slice (d.procs[i].l.map encT) .no)), (6, some (.ptr o6 0)), (30, some (.int .i64 i)), (1, some (.cptr (dL d))), (3, some (.int .i64 B)), (29, some (.int .i64 d.procs.length)), (28, some (.slice (d.procs.map encP) .no))])
      (fun k => upd σ o6 (cntC ((A : Int) + (sumTo nodesT d.procs[i].l k : Nat)) ((max C (maxTo deepT d.procs[i].l k) : Nat) : Int))) (fun k => k ≤ d.procs[i].l.length) (fun k => d.procs[i].l.length - k) 0 ?_ ?_
     ·clear c1
      (repeat' simp (maxDischargeDepth := 9) -implicitDefEqProofs -dsimp only [go_sem, seval, *]) <;> (repeat' refine And.intro ?_ ?_) <;> (first | omega | skip)
     ·intro k hk
      have gle := sumTo_le (f := nodesT) (l := d.procs[i].l) (i := k)
      have gle2 := maxTo_le (f := deepT) (l := d.procs[i].l) (i := k)
      by_cases hkt : k < d.procs[i].l.length
      ·have gs := sumTo_succ (f := nodesT) hkt
       have gs2 := maxTo_succ (f := deepT) hkt
       have gb := sumTo_le (f := nodesT) (l := d.procs[i].l) (i := k + 1)
       have hc := fun τ => c1 d.procs[i].l[k] (List.getElem_mem hkt) τ
       have hcm : ((max C (maxTo deepT d.procs[i].l (k + 1)) : Nat) : Int) = max ((max C (maxTo deepT d.procs[i].l k) : Nat) : Int) (deepT d.procs[i].l[k] : Nat) := by have := gs2; omega
       have hcs : ((A : Int) + (sumTo nodesT d.procs[i].l (k + 1) : Nat)) = ((A : Int) + (sumTo nodesT d.procs[i].l k : Nat)) + (nodesT d.procs[i].l[k] : Nat) := by have := gs; omega
       have hadd := fun (τ : Sig) (h : τ o6 = some (cntC ((A : Int) + (sumTo nodesT d.procs[i].l k : Nat)) ((max C (maxTo deepT d.procs[i].l k) : Nat) : Int))) => sz_add o6 ((A : Int) + (sumTo nodesT d.procs[i].l k : Nat)) ((max C (maxTo deepT d.procs[i].l k) : Nat) : Int) (nodesT d.procs[i].l[k] : Nat) (deepT d.procs[i].l[k] : Nat) τ h (by omega) (by omega)
       obtain ⟨X, hX⟩ : ∃ x, ((A : Int) + (sumTo nodesT d.procs[i].l k : Nat)) = x := ⟨_, rfl⟩
       obtain ⟨Y, hY⟩ : ∃ x, ((max C (maxTo deepT d.procs[i].l k) : Nat) : Int) = x := ⟨_, rfl⟩
       rw [hX] at hcs hadd ⊢
       rw [hY] at hcm hadd ⊢
       clear c1 gs gs2 hX hY gle gle2 gb hs hs2
       repeat' (first | simp (maxDischargeDepth := 9) -implicitDefEqProofs -dsimp only [go_sem, seval, *] | simp (disch := omega) only [wrap64] | ((with_reducible refine Zu ?_ ?_); focus omega) | ((with_reducible refine Zt (fun oF hoF hnF hnF' => ?_)); (try simp only [upd_none, ne_eq, not_and] at hoF)) | ((with_reducible apply ACalls.one1); (focus ((first | with_reducible refine hc _ | with_reducible refine hadd _ ?_) <;> (first | (simp (maxDischargeDepth := 9) -implicitDefEqProofs -dsimp only [go_sem, seval, *]; done) | omega))); (focus (first | trivial | with_reducible exact rfl | (simp (maxDischargeDepth := 9) -implicitDefEqProofs -dsimp only [go_sem, seval]; done)))))
       refine loop_next _ _ _ _ (k + 1) ?_
       rw [hcs, hcm]
       (repeat' simp (maxDischargeDepth := 9) -implicitDefEqProofs -dsimp only [go_sem, seval, *]) <;> (repeat' refine And.intro ?_ ?_) <;> (first | omega | skip)
      ·have ek : k = d.procs[i].l.length := by omega
       subst ek
       rw [sumTo_all, maxTo_all, u1, u2]
       have v1 : (A : Int) + (nodesP d.procs[i] : Nat) = (sumTo nodesP d.procs (i + 1) : Nat) := by omega
       have v2 : max C (deepP d.procs[i]) = maxTo deepP d.procs (i + 1) := by omega
       rw [v1, v2]
       clear c1 hs hs2 v1 v2
       repeat' (first | simp (maxDischargeDepth := 9) -implicitDefEqProofs -dsimp only [go_sem, seval, *] | simp (disch := omega) only [wrap64])
       refine loop_next _ _ _ _ (i + 1) ?_; (repeat' simp (maxDischargeDepth := 9) -implicitDefEqProofs -dsimp only [go_sem, seval, *]) <;> (repeat' refine And.intro ?_ ?_) <;> (first | omega | skip)
    ·have ei : i = d.procs.length := by omega
     subst ei
     rw [sumTo_all, maxTo_all]
     clear p1
     repeat' simp (maxDischargeDepth := 9) -implicitDefEqProofs -dsimp only [go_sem, seval, *]
     obtain ⟨A, hA⟩ : ∃ x, (d.procs.map nodesP).sum = x := ⟨_, rfl⟩
     obtain ⟨C, hC⟩ : ∃ x, maxL (d.procs.map deepP) = x := ⟨_, rfl⟩
     rw [hA] at hN ⊢
     rw [hC] at hD ⊢
     clear hA hC hlt hi hle hle2 hpl
     refine loop_rule (fun k : Nat => [(49, some (.int .i64 k)), (48, some (.int .i64 d.chks.length)), (47, some (.slice (d.chks.map encC) .no)), (6, some (.ptr o6 0)), (1, some (.cptr (dL d))), (3, some (.int .i64 B))])
      (fun k => upd σ o6 (cntC ((A : Int) + (sumTo (fun c : Ck => nodes c.e) d.chks k : Nat)) ((max C (maxTo (fun c : Ck => deep c.e) d.chks k) : Nat) : Int))) (fun k => k ≤ d.chks.length) (fun k => d.chks.length - k) 0 ?_ ?_
     ·clear p3
      (repeat' simp (maxDischargeDepth := 9) -implicitDefEqProofs -dsimp only [go_sem, seval, *]) <;> (repeat' refine And.intro ?_ ?_) <;> (first | omega | skip)
     ·intro k hk
      have gle := sumTo_le (f := fun c : Ck => nodes c.e) (l := d.chks) (i := k)
      have gle2 := maxTo_le (f := fun c : Ck => deep c.e) (l := d.chks) (i := k)
      by_cases hkt : k < d.chks.length
      ·have gs := sumTo_succ (f := fun c : Ck => nodes c.e) hkt
       have gs2 := maxTo_succ (f := fun c : Ck => deep c.e) hkt
       have gb := sumTo_le (f := fun c : Ck => nodes c.e) (l := d.chks) (i := k + 1)
       have hc := fun τ => p3 d.chks[k] (List.getElem_mem hkt) τ
       have hcm : ((max C (maxTo (fun c : Ck => deep c.e) d.chks (k + 1)) : Nat) : Int) = max ((max C (maxTo (fun c : Ck => deep c.e) d.chks k) : Nat) : Int) (deep d.chks[k].e : Nat) := by have := gs2; omega
       have hcs : ((A : Int) + (sumTo (fun c : Ck => nodes c.e) d.chks (k + 1) : Nat)) = ((A : Int) + (sumTo (fun c : Ck => nodes c.e) d.chks k : Nat)) + (nodes d.chks[k].e : Nat) := by have := gs; omega
       have hadd := fun (τ : Sig) (h : τ o6 = some (cntC ((A : Int) + (sumTo (fun c : Ck => nodes c.e) d.chks k : Nat)) ((max C (maxTo (fun c : Ck => deep c.e) d.chks k) : Nat) : Int))) => sz_add o6 ((A : Int) + (sumTo (fun c : Ck => nodes c.e) d.chks k : Nat)) ((max C (maxTo (fun c : Ck => deep c.e) d.chks k) : Nat) : Int) (nodes d.chks[k].e : Nat) (deep d.chks[k].e : Nat) τ h (by omega) (by omega)
       obtain ⟨X, hX⟩ : ∃ x, ((A : Int) + (sumTo (fun c : Ck => nodes c.e) d.chks k : Nat)) = x := ⟨_, rfl⟩
       obtain ⟨Y, hY⟩ : ∃ x, ((max C (maxTo (fun c : Ck => deep c.e) d.chks k) : Nat) : Int) = x := ⟨_, rfl⟩
       rw [hX] at hcs hadd ⊢
       rw [hY] at hcm hadd ⊢
       clear p3 gs gs2 hX hY gle gle2 gb
       repeat' (first | simp (maxDischargeDepth := 9) -implicitDefEqProofs -dsimp only [go_sem, seval, *] | simp (disch := omega) only [wrap64] | ((with_reducible refine Zu ?_ ?_); focus omega) | ((with_reducible refine Zt (fun oF hoF hnF hnF' => ?_)); (try simp only [upd_none, ne_eq, not_and] at hoF)) | ((with_reducible apply ACalls.one1); (focus ((first | with_reducible refine hc _ | with_reducible refine hadd _ ?_) <;> (first | (simp (maxDischargeDepth := 9) -implicitDefEqProofs -dsimp only [go_sem, seval, *]; done) | omega))); (focus (first | trivial | with_reducible exact rfl | (simp (maxDischargeDepth := 9) -implicitDefEqProofs -dsimp only [go_sem, seval]; done)))))
       refine loop_next _ _ _ _ (k + 1) ?_
       rw [hcs, hcm]
       (repeat' simp (maxDischargeDepth := 9) -implicitDefEqProofs -dsimp only [go_sem, seval, *]) <;> (repeat' refine And.intro ?_ ?_) <;> (first | omega | skip)
      ·have ek : k = d.chks.length := by omega
       subst ek
       rw [sumTo_all, maxTo_all]
       have v1 : (A : Int) + ((d.chks.map fun c : Ck => nodes c.e).sum : Nat) = (nodesD d : Nat) := by omega
       rw [v1, ← hD]
       have hcf := fun τ => sz_cfits (nodesD d : Nat) (deepD d : Nat) τ
       clear p3 v1 gle gle2 e0 e1 e2 e3 hN hD
       obtain ⟨x, hx⟩ : ∃ x, fitsD d = x := ⟨_, rfl⟩
       rw [hx] at hfd ⊢
       cases x with
       | true =>
        replace hfd := of_decide_eq_true hfd.symm
        obtain ⟨h1, h2, h3, h4, h5⟩ := hfd
        have i1 : (nodesD d : Int) ≤ 65536 := by omega
        have i2 : (deepD d : Int) ≤ 64 := by omega
        have i3 : (d.sigs.length : Int) ≤ 512 := by omega
        have i4 : (d.procs.length : Int) ≤ 1024 := by omega
        have i5 : (B : Int) ≤ 4096 := by omega
        repeat' (first | simp (maxDischargeDepth := 9) -implicitDefEqProofs -dsimp only [go_sem, seval, decide_true, *] | ((with_reducible apply ACalls.one1); (focus ((with_reducible refine hcf _) <;> (first | (simp (maxDischargeDepth := 9) -implicitDefEqProofs -dsimp only [go_sem, seval, *]; done) | omega))); (focus (first | trivial | with_reducible exact rfl | (simp (maxDischargeDepth := 9) -implicitDefEqProofs -dsimp only [go_sem, seval]; done)))))
        refine fin_eq ?_
        (repeat' simp (maxDischargeDepth := 9) -implicitDefEqProofs -dsimp only [go_sem, seval, decide_true, *])
       | false =>
        replace hfd := of_decide_eq_false hfd.symm
        repeat' (first | simp (maxDischargeDepth := 9) -implicitDefEqProofs -dsimp only [go_sem, seval, *] | (with_reducible (first | apply Za) <;> intro hq) | ((with_reducible apply ACalls.one1); (focus ((with_reducible refine hcf _) <;> (first | (simp (maxDischargeDepth := 9) -implicitDefEqProofs -dsimp only [go_sem, seval, *]; done) | omega))); (focus (first | trivial | with_reducible exact rfl | (simp (maxDischargeDepth := 9) -implicitDefEqProofs -dsimp only [go_sem, seval]; done)))))
        all_goals first | (exfalso; omega) | skip
        all_goals
         refine fin_eq ?_
         (repeat' simp (maxDischargeDepth := 9) -implicitDefEqProofs -dsimp only [go_sem, seval, *])
        all_goals
         rw [eq_comm, Bool.and_eq_false_iff, decide_eq_false_iff_not, decide_eq_false_iff_not]; omega
end Go.Proofs.Ytdiebjnjhgbklaa

namespace Go.Proofs.Ytdiebjnjhgbklaa
open Abs Fil Fil.Sz
open Go.Shelf Go.Lib
def ren129 : Ren where
 f := fun x => match x with
  | 129 => 92
  | n => n
 t := fun x => match x with
  | 53 => 27
  | 46 => 47
  | n => n
 g := fun x => x
theorem body129 : Try.f92 = Body.n129 ren129 := by kernel_rfl
theorem lays129 : Lays.n129 Try.prog ren129 :=
  { mixed := by kernel_rfl, f129 := Eq.trans Try.func92 (congrArg some body129),
    t3 := Try.underlying3, a3 := Try.isAgg3, z3 := Try.sizeOf3, v3 := Try.zeroValue3,
    t4 := Try.underlying4, a4 := Try.isAgg4, z4 := Try.sizeOf4, v4 := Try.zeroValue4,
    t5 := Try.underlying5, a5 := Try.isAgg5, z5 := Try.sizeOf5, v5 := Try.zeroValue5,
    t9 := Try.underlying9, a9 := Try.isAgg9, z9 := Try.sizeOf9, v9 := Try.zeroValue9,
    t46 := Try.underlying47, a46 := Try.isAgg47, z46 := Try.sizeOf47, v46 := Try.zeroValue47,
    t53 := Try.underlying27, a53 := Try.isAgg27, z53 := Try.sizeOf27, v53 := Try.zeroValue27 }
theorem lenAux_lt : ∀ (f x k : Nat), x < 2 ^ f → bitLenAux f x ≤ k → x < 2 ^ k
 | 0, x, k, hx, _ => by have : 0 < 2 ^ k := Nat.two_pow_pos k; omega
 | f + 1, x, k, hx, h => by
  unfold bitLenAux at h
  split at h
  ·have : 0 < 2 ^ k := Nat.two_pow_pos k; omega
  ·match k, h with
   | k + 1, h =>
    have := lenAux_lt f (x / 2) k (by rw [Nat.pow_succ] at hx; omega) (by omega)
    rw [Nat.pow_succ]; omega
   | 0, h => omega
theorem len_holds (w v : Int) (h0 : 0 ≤ w) (hv : U64 v) : decide ((bitLen v.toNat : Int) ≤ w) = holds w v := by
 unfold holds
 have e : (2 : Int) ^ w.toNat = ((2 ^ w.toNat : Nat) : Int) := by simp
 rw [e]
 obtain ⟨k, rfl⟩ : ∃ k : Nat, w = k := ⟨w.toNat, by omega⟩
 obtain ⟨x, rfl⟩ : ∃ k : Nat, v = k := ⟨v.toNat, by have := hv.1; omega⟩
 have hx : x < 2 ^ 64 := by have := hv.2; omega
 simp only [Int.toNat_natCast, Int.ofNat_lt, Int.ofNat_le]
 rw [decide_eq_decide]
 constructor
 ·intro h
  exact lenAux_lt 64 x k hx h
 ·intro h
  by_cases hk : k ≤ 64
  ·exact bitLen_le x k hk h
  ·have := bitLen_le x 64 (Nat.le_refl _) hx
   omega
theorem sz_Len64 (v : Int) (σ : Sig) (hv : U64 v) : ACalls Try.prog 92 [.int .u64 v] σ (fun r σ' => r = .ret (.int .i64 (bitLen v.toNat)) ∧ σ' = σ) := by
 refine ⟨?_, fun S K w vals hS hr hs => ?_⟩
 ·simp only [callable, lays129.f129]
  rw [Try.func92]; rfl
 ·obtain ⟨vs⟩ := vals
  obtain ⟨hl, hrel⟩ := hr
  simp only [List.length_cons, List.length_nil] at hl
  match vs, hl with
  | [v0], _ =>
   have r0 := hrel 0 (by simp) (by simp)
   simp only [List.getElem_cons_zero] at r0
   have e0 := rel_int r0
   subst e0
   refine (Any.bits_Len64 lays129 v w hv.1 hv.2).mono ?_
   rintro e w' ⟨rfl, rfl⟩
   exact ⟨K, .ret (.int .i64 (bitLen v.toNat)), σ, Gh.leS.refl K, hs, .int _ _, rfl, rfl⟩
theorem sz_holds (w v : Int) (σ : Sig) (h0 : 0 ≤ w) (hv : U64 v) : ACalls Try.prog 47 [.int .i64 w, .int .u64 v] σ (fun r σ' => r = .ret (.bool (holds w v)) ∧ σ' = σ) := by
 have hc := fun τ => sz_Len64 v τ hv
 rw [← len_holds w v h0 hv]
 refine calls_x mixed Try.func47 b47 n47 rfl q47 (by simp) ?_; unfold c47 r47
 repeat' (first | simp (maxDischargeDepth := 9) -implicitDefEqProofs -dsimp only [go_sem, seval, *] | ((with_reducible apply ACalls.one1); (focus ((with_reducible refine hc _) <;> (first | (simp (maxDischargeDepth := 9) -implicitDefEqProofs -dsimp only [go_sem, seval, *]; done) | omega))); (focus (first | trivial | with_reducible exact rfl | (simp (maxDischargeDepth := 9) -implicitDefEqProofs -dsimp only [go_sem, seval]; done)))))
 refine fin_eq ?_
 (repeat' simp (maxDischargeDepth := 9) -implicitDefEqProofs -dsimp only [go_sem, seval, *])
theorem fdiv_pow (v : Int) (k : Nat) (h : 0 ≤ v) : v.fdiv (2 ^ k) = 0 ↔ v < 2 ^ k := by
 have hp : (0 : Int) < 2 ^ k := Int.pow_pos (by omega)
 rw [Int.fdiv_eq_ediv_of_nonneg _ (by omega)]
 constructor
 ·intro e
  rcases Int.lt_or_le v (2 ^ k) with q | q
  ·exact q
  ·have := Int.ediv_pos_of_pos_of_dvd (a := 2 ^ k) (b := 2 ^ k) hp (by omega) (Int.dvd_refl _)
   have h3 : 2 ^ k / 2 ^ k ≤ v / 2 ^ k := Int.ediv_le_ediv hp q
   omega
 ·intro e
  exact Int.ediv_eq_zero_of_lt h e
theorem rf_Holds (w v : Int) (σ : Sig) (h0 : 0 ≤ w) (h1 : w ≤ 9223372036854775807) (hv : U64 v) : ACalls Try.prog 79 [.int .i64 w, .int .u64 v] σ (fun r σ' => r = .ret (.bool (holds w v)) ∧ σ' = σ) := by
 refine calls_x mixed Try.func79 b79 n79 rfl q79 (by simp) ?_; unfold c79 r79
 by_cases hw : 64 ≤ w
 ·have hh : holds w v = true := by
   unfold holds
   rw [decide_eq_true_eq]
   have e : (2 : Int) ^ w.toNat = ((2 ^ w.toNat : Nat) : Int) := by simp
   have := Nat.pow_le_pow_right (n := 2) (by omega) (show 64 ≤ w.toNat by omega)
   have := hv.2
   rw [e]; omega
  repeat' simp (maxDischargeDepth := 9) -implicitDefEqProofs -dsimp only [go_sem, seval, ge_iff_le, *]
  refine fin_eq ?_
  (repeat' simp (maxDischargeDepth := 9) -implicitDefEqProofs -dsimp only [go_sem, seval, *])
 ·have e1 : w.toNat.min 64 = w.toNat := Nat.min_eq_left (by omega)
  have hf := fdiv_pow v w.toNat hv.1
  have hh : (v.fdiv (2 ^ w.toNat) == 0) = holds w v := by
   unfold holds
   rw [Bool.eq_iff_iff, beq_iff_eq, decide_eq_true_eq]; exact hf
  have hwr : IntKind.u64.wrap w = w := by simp [Go.IntKind.wrap, Go.IntKind.signed, Go.IntKind.bits]; omega
  have hn : ¬ w < 0 := by omega
  clear hf
  repeat' simp (maxDischargeDepth := 9) -implicitDefEqProofs -dsimp only [go_sem, seval, ge_iff_le, *]
  refine fin_eq ?_
  (repeat' simp (maxDischargeDepth := 9) -implicitDefEqProofs -dsimp only [go_sem, seval, *])
theorem place_get {g : List Sg} {sig hi lo : Int} (h : sig.toNat < g.length) : place g sig hi lo = (decide (0 ≤ sig) && decide (sig < g.length) && decide (0 ≤ lo) && decide (lo ≤ hi) && decide (hi < (g[sig.toNat]).w)) := by
 unfold place; simp [List.getD_eq_getElem?_getD, h]
theorem sz_slice (g : List Sg) (sig hi lo : Int) (σ : Sig) (hg : g.length ≤ 1000000000000) : ACalls Try.prog 67 [.slice (g.map encS) .no, .int .i64 sig, .int .i64 hi, .int .i64 lo] σ (fun r σ' => r = .ret (.bool (place g sig hi lo)) ∧ σ' = σ) := by
 refine calls_x mixed Try.func67 b67 n67 rfl q67 (by simp) ?_; unfold c67 r67
 by_cases h : 0 ≤ sig ∧ sig < g.length
 ·obtain ⟨h1, h2⟩ := h
  have hl : sig.toNat < g.length := by omega
  have hp := place_get (sig := sig) (hi := hi) (lo := lo) hl
  simp only [h1, h2, decide_true, Bool.true_and] at hp
  repeat' (first | simp (maxDischargeDepth := 9) -implicitDefEqProofs -dsimp only [go_sem, seval, ge_iff_le, *] | (with_reducible (first | apply Za) <;> intro hq) | ((with_reducible refine Zu ?_ ?_); focus omega))
  all_goals
   refine fin_eq ?_
   (repeat' simp (maxDischargeDepth := 9) -implicitDefEqProofs -dsimp only [go_sem, seval, decide_true, decide_false, Bool.true_and, Bool.false_and, *])
 ·have hp : place g sig hi lo = false := by
   cases hh : place g sig hi lo with
   | false => rfl
   | true => have := place_iff.1 hh; exact (h ⟨this.1, this.2.1⟩).elim
  repeat' (first | simp (maxDischargeDepth := 9) -implicitDefEqProofs -dsimp only [go_sem, seval, ge_iff_le, *] | (with_reducible (first | apply Za) <;> intro hq) | ((with_reducible refine Zu ?_ ?_); focus omega))
  all_goals first | (exfalso; omega) | skip
  all_goals
   refine fin_eq ?_
   (repeat' simp (maxDischargeDepth := 9) -implicitDefEqProofs -dsimp only [go_sem, seval, *])
theorem rf_place (g : List Sg) (sig hi lo : Int) (σ : Sig) (hg : g.length ≤ 1000000000000) : ACalls Try.prog 98 [.slice (g.map encS) .no, .int .i64 sig, .int .i64 hi, .int .i64 lo] σ (fun r σ' => r = .ret (.bool (place g sig hi lo)) ∧ σ' = σ) := by
 refine calls_x mixed Try.func98 b98 n98 rfl q98 (by simp) ?_; unfold c98 r98
 by_cases h : 0 ≤ sig ∧ sig < g.length
 ·obtain ⟨h1, h2⟩ := h
  have hl : sig.toNat < g.length := by omega
  have hp := place_get (sig := sig) (hi := hi) (lo := lo) hl
  simp only [h1, h2, decide_true, Bool.true_and] at hp
  repeat' (first | simp (maxDischargeDepth := 9) -implicitDefEqProofs -dsimp only [go_sem, seval, ge_iff_le, *] | (with_reducible (first | apply Za) <;> intro hq) | ((with_reducible refine Zu ?_ ?_); focus omega))
  all_goals
   refine fin_eq ?_
   (repeat' simp (maxDischargeDepth := 9) -implicitDefEqProofs -dsimp only [go_sem, seval, decide_true, decide_false, Bool.true_and, Bool.false_and, *])
 ·have hp : place g sig hi lo = false := by
   cases hh : place g sig hi lo with
   | false => rfl
   | true => have := place_iff.1 hh; exact (h ⟨this.1, this.2.1⟩).elim
  repeat' (first | simp (maxDischargeDepth := 9) -implicitDefEqProofs -dsimp only [go_sem, seval, ge_iff_le, *] | (with_reducible (first | apply Za) <;> intro hq) | ((with_reducible refine Zu ?_ ?_); focus omega))
  all_goals first | (exfalso; omega) | skip
  all_goals
   refine fin_eq ?_
   (repeat' simp (maxDischargeDepth := 9) -implicitDefEqProofs -dsimp only [go_sem, seval, *])
end Go.Proofs.Ytdiebjnjhgbklaa

namespace Fil.Sz
open Abs
abbrev encN (L : List ByteArray) : List (AV × AV) := L.map fun s => (.str s, .bool true)
theorem str_beq (a b : ByteArray) : (a.toList == b.toList) = decide (a = b) := by
 rw [Bool.eq_iff_iff]; simp [bytes_eq]
theorem look_in {s : ByteArray} : ∀ {L : List ByteArray}, s ∈ L → lookK (.one 2) (.str s) (encN L) = some (some (.bool true))
 | a :: L, h => by
  simp only [encN, List.map_cons, lookK, eqKey, eq1, str_beq]
  by_cases c : s = a
  ·simp [c]
  ·have := look_in (L := L) ((List.mem_cons.1 h).resolve_left c)
   simpa [c] using this
theorem look_out {s : ByteArray} : ∀ {L : List ByteArray}, s ∉ L → lookK (.one 2) (.str s) (encN L) = some none
 | [], _ => rfl
 | a :: L, h => by
  simp only [encN, List.map_cons, lookK, eqKey, eq1, str_beq]
  have c : ¬ s = a := fun e => h (by simp [e])
  have := look_out (s := s) (L := L) (fun hm => h (List.mem_cons_of_mem _ hm))
  simpa [c] using this
theorem set_out {s : ByteArray} : ∀ {L : List ByteArray}, s ∉ L → setK (.one 2) (.str s) (.bool true) (encN L) = some (encN (L ++ [s]))
 | [], _ => rfl
 | a :: L, h => by
  simp only [encN, List.map_cons, List.cons_append, setK, eqKey, eq1, str_beq]
  have c : ¬ s = a := fun e => h (by simp [e])
  have := set_out (s := s) (L := L) (fun hm => h (List.mem_cons_of_mem _ hm))
  simp only [encN, List.map_append, List.map_cons, List.map_nil] at this ⊢
  simp [c, this]
theorem keyOk_s (s : ByteArray) : keyOk (.one 2) (.str s) = true := by simp [keyOk, eqKey, eq1]
def namesTo (l : List Sg) (i : Nat) : List ByteArray := noName :: (l.take i).map (·.name)
theorem names_succ {l : List Sg} {i : Nat} (h : i < l.length) : namesTo l (i + 1) = namesTo l i ++ [l[i].name] := by
 simp only [namesTo, List.take_add_one, List.getElem?_eq_getElem h, Option.toList_some, List.map_append, List.map_cons, List.map_nil, List.cons_append]
theorem names_out {l : List Sg} {i : Nat} (h : i < l.length) : l[i].name ∉ namesTo l i ↔ ¬ l[i].name = noName ∧ ∀ k, (hk : k < i) → ¬ (l[k]'(by omega)).name = l[i].name := by
 unfold namesTo
 rw [List.mem_cons, not_or]
 refine and_congr_right fun _ => ?_
 constructor
 ·intro hn k hk e
  exact hn (List.mem_map.2 ⟨l[k], List.mem_take_iff_getElem.2 ⟨k, by omega, rfl⟩, e⟩)
 ·intro hn hm
  obtain ⟨x, hx, e⟩ := List.mem_map.1 hm
  obtain ⟨k, hk, rfl⟩ := List.mem_take_iff_getElem.1 hx
  exact hn k (by omega) e
def SgAt (l : List Sg) (i : Nat) (h : i < l.length) : Prop := SgGood l[i] ∧ ∀ k, (hk : k < i) → ¬ (l[k]'(by omega)).name = l[i].name
end Fil.Sz

namespace Go.Proofs.Ytdiebjnjhgbklaa
open Abs Fil Fil.Sz
theorem init_beq (s : Sg) : (s.name.toList == (⟨#[]⟩ : ByteArray).toList) = decide (s.name = noName) := str_beq _ _
set_option maxRecDepth 20000 in
theorem sz_signals (l : List Sg) (σ : Sig) (hl : l.length ≤ 1000000000000) : ACalls Try.prog 35 [.slice (l.map encS) .no] σ (fun r σ' => r = .ret (.bool (sigsOk l)) ∧ σ' = σ) := by
 refine calls_x mixed Try.func35 b35 n35 rfl q35 (by simp) ?_; unfold c35 r35
 have k0 : setK (.one 2) (.str ⟨#[]⟩) (.bool true) [] = some (encN (namesTo l 0)) := rfl
 have kk := keyOk_s
 repeat' (first | simp (maxDischargeDepth := 9) -implicitDefEqProofs -dsimp only [go_sem, seval, *] | simp (disch := omega) only [wrap64] | ((with_reducible refine Zt (fun oF hoF hnF hnF' => ?_)); (try simp only [upd_none, ne_eq, not_and] at hoF)))
 obtain ⟨o, eo⟩ : ∃ x, x = oF := ⟨oF, rfl⟩
 subst eo
 have ho : σ o = none := hoF
 clear hoF hnF hnF' k0
 refine loop_rule (fun i : Nat => [(10, some (.int .i64 i)), (9, some (.int .i64 l.length)), (8, some (.slice (l.map encS) .no)), (3, some (.map o))])
  (fun i => upd σ o (.map true (encN (namesTo l i)))) (fun i => i ≤ l.length ∧ SgTo l i) (fun i => l.length - i) 0 ?_ ?_
 ·(repeat' simp (maxDischargeDepth := 9) -implicitDefEqProofs -dsimp only [go_sem, seval, *]) <;> (repeat' refine And.intro ?_ ?_) <;> (first | omega | skip)
  intro j _ h
  omega
 ·rintro i ⟨hi, hok⟩
  by_cases hlt : i < l.length
  ·have hns := names_succ hlt
   have hout := names_out hlt
   by_cases hg : SgAt l i hlt
   ·have hstep := sgTo_succ hlt hok hg
    obtain ⟨⟨g1, g2, g3, g4, g5, g6⟩, g7⟩ := hg
    have hm := hout.2 ⟨g1, g7⟩
    have hlk := look_out hm
    have hst := set_out hm
    rw [← hns] at hst
    clear g7 hm hout hns g1 hok
    by_cases hk : l[i].kind = 4
    ·have hk2 : (l[i].kind != 4) = false := by simp [hk]
     repeat' (first | simp (maxDischargeDepth := 9) -implicitDefEqProofs -dsimp only [go_sem, seval, gt_iff_lt, Option.getD_none, *] | simp (disch := omega) only [wrap64] | (with_reducible (first | apply Zb | apply Zg | apply Zi) <;> intro hq) | ((with_reducible refine Zu ?_ ?_); focus omega) | ((with_reducible refine Zt (fun oF hoF hnF hnF' => ?_)); (try simp only [upd_none, ne_eq, not_and] at hoF)))
     all_goals first | (exfalso; omega) | skip
     refine loop_next _ _ _ _ (i + 1) ?_; (repeat' simp (maxDischargeDepth := 9) -implicitDefEqProofs -dsimp only [go_sem, seval, *]) <;> (repeat' refine And.intro ?_ ?_) <;> (first | omega | skip)
    ·have hk2 : (l[i].kind != 4) = true := by simp [hk]
     have hin : (l[i].init != 0) = false := by
      rcases g6 with h | h
      ·exact (hk h).elim
      ·simp [h]
     repeat' (first | simp (maxDischargeDepth := 9) -implicitDefEqProofs -dsimp only [go_sem, seval, gt_iff_lt, Option.getD_none, *] | simp (disch := omega) only [wrap64] | (with_reducible (first | apply Zb | apply Zg | apply Zi) <;> intro hq) | ((with_reducible refine Zu ?_ ?_); focus omega) | ((with_reducible refine Zt (fun oF hoF hnF hnF' => ?_)); (try simp only [upd_none, ne_eq, not_and] at hoF)))
     all_goals first | (exfalso; omega) | skip
     refine loop_next _ _ _ _ (i + 1) ?_; (repeat' simp (maxDischargeDepth := 9) -implicitDefEqProofs -dsimp only [go_sem, seval, *]) <;> (repeat' refine And.intro ?_ ?_) <;> (first | omega | skip)
   ·have hb := sigs_bad hlt hg
    clear hok hns
    by_cases hm : l[i].name ∈ namesTo l i
    ·have hlk := look_in hm
     repeat' (first | simp (maxDischargeDepth := 9) -implicitDefEqProofs -dsimp only [go_sem, seval, gt_iff_lt, Option.getD_some, *] | ((with_reducible refine Zu ?_ ?_); focus omega) | ((with_reducible refine Zt (fun oF hoF hnF hnF' => ?_)); (try simp only [upd_none, ne_eq, not_and] at hoF)))
     refine fin_eq ?_
     (repeat' simp (maxDischargeDepth := 9) -implicitDefEqProofs -dsimp only [go_sem, seval, *])
    ·have hlk := look_out hm
     have hm2 := hout.1 hm
     have hg2 : ¬ (1 ≤ l[i].w ∧ l[i].w ≤ 64 ∧ 1 ≤ l[i].kind ∧ l[i].kind ≤ 4 ∧ (l[i].kind = 4 ∨ l[i].init = 0)) := fun ⟨a1, a2, a3, a4, a5⟩ => hg ⟨⟨hm2.1, a1, a2, a3, a4, a5⟩, hm2.2⟩
     clear hg hm hm2 hout
     repeat' (first | simp (maxDischargeDepth := 9) -implicitDefEqProofs -dsimp only [go_sem, seval, gt_iff_lt, Option.getD_none, *] | (with_reducible (first | apply Zb | apply Zg | apply Zi) <;> intro hq) | ((with_reducible refine Zu ?_ ?_); focus omega) | ((with_reducible refine Zt (fun oF hoF hnF hnF' => ?_)); (try simp only [upd_none, ne_eq, not_and] at hoF)))
     all_goals first | (exfalso; apply hg2; omega) | skip
     all_goals
      refine fin_eq ?_
      (repeat' simp (maxDischargeDepth := 9) -implicitDefEqProofs -dsimp only [go_sem, seval, *])
  ·have ei : i = l.length := by omega
   subst ei
   have hs : sigsOk l = true := sigsOk_iff.2 hok
   clear hok
   repeat' simp (maxDischargeDepth := 9) -implicitDefEqProofs -dsimp only [go_sem, seval, *]
   refine fin_eq ?_
   (repeat' simp (maxDischargeDepth := 9) -implicitDefEqProofs -dsimp only [go_sem, seval, *])
set_option maxRecDepth 20000 in
theorem rf_Signals (l : List Sg) (σ : Sig) (hl : l.length ≤ 1000000000000) : ACalls Try.prog 40 [.slice (l.map encS) .no] σ (fun r σ' => r = .ret (.bool (sigsOk l)) ∧ σ' = σ) := by
 refine calls_x mixed Try.func40 b40 n40 rfl q40 (by simp) ?_; unfold c40 r40
 repeat' (first | simp (maxDischargeDepth := 9) -implicitDefEqProofs -dsimp only [go_sem, seval, *] | simp (disch := omega) only [wrap64])
 refine loop_rule (fun i : Nat => [(3, some (.int .i64 i)), (0, some (.slice (l.map encS) .no))])
  (fun i => σ) (fun i => i ≤ l.length ∧ SgTo l i) (fun i => l.length - i) 0 ?_ ?_
 ·(repeat' simp (maxDischargeDepth := 9) -implicitDefEqProofs -dsimp only [go_sem, seval, *]) <;> (repeat' refine And.intro ?_ ?_) <;> (first | omega | skip)
  intro j _ h
  omega
 ·rintro i ⟨hi, hok⟩
  by_cases hlt : i < l.length
  ·have hnm := init_beq l[i]
   by_cases hg : SgGood l[i]
   ·have hstep := fun h => sgTo_succ hlt hok ⟨hg, h⟩
    have hbad := fun (k : Nat) (hk : k < i) (h : (l[k]'(by omega)).name = l[i].name) => sigs_bad hlt (fun hh : SgGood l[i] ∧ ∀ k, (hk : k < i) → ¬ (l[k]'(by omega)).name = l[i].name => hh.2 k hk h)
    obtain ⟨g1, g2, g3, g4, g5, g6⟩ := hg
    have hnm2 : decide (l[i].name = noName) = false := by simp [g1]
    rw [hnm2] at hnm
    clear g1 hok hnm2
    obtain ⟨b, hk2, hin⟩ : ∃ b, (l[i].kind != 4) = b ∧ (b = true → (l[i].init != 0) = false) := ⟨_, rfl, fun h => by
     rcases g6 with q | q
     ·rw [q] at h; simp at h
     ·simp [q]⟩
    clear g6
    cases b
    ·clear hin
     repeat' (first | simp (maxDischargeDepth := 9) -implicitDefEqProofs -dsimp only [go_sem, seval, gt_iff_lt, *] | (with_reducible (first | apply Zb | apply Zg | apply Zi) <;> intro hq) | ((with_reducible refine Zu ?_ ?_); focus omega) | ((with_reducible refine Zt (fun oF hoF hnF hnF' => ?_)); (try simp only [upd_none, ne_eq, not_and] at hoF)))
     all_goals first | (exfalso; omega) | skip
     obtain ⟨o, eo⟩ : ∃ x, x = oF := ⟨oF, rfl⟩
     subst eo
     have ho : σ o = none := hoF
     clear hoF hnF hnF'
     refine loop_rule (fun k : Nat => [(5, some (.int .i64 k)), (3, some (.int .i64 i)), (0, some (.slice (l.map encS) .no)), (4, some (.ptr o 0))])
      (fun _ => upd σ o (.cells [.str l[i].name, .int .i64 l[i].w, .int .i64 l[i].kind, .int .u64 l[i].init])) (fun k => k ≤ i ∧ ∀ j, (h : j < k) → (hi : k ≤ i) → ¬ (l[j]'(by omega)).name = l[i].name) (fun k => i - k) 0 ?_ ?_
     ·clear hstep hbad
      (repeat' simp (maxDischargeDepth := 9) -implicitDefEqProofs -dsimp only [go_sem, seval, *]) <;> (repeat' refine And.intro ?_ ?_) <;> (first | omega | skip)
     ·rintro k ⟨hk, hokk⟩
      by_cases hkt : k < i
      ·have hkl : k < l.length := by omega
       have hki : (k : Int) < i := by omega
       have hsb := str_beq l[k].name l[i].name
       by_cases he : l[k].name = l[i].name
       ·have hv := hbad k hkt he
        have hd : decide (l[k].name = l[i].name) = true := by simp [he]
        rw [hd] at hsb
        clear hstep hbad hokk he hd
        repeat' (first | simp (maxDischargeDepth := 9) -implicitDefEqProofs -dsimp only [go_sem, seval, *] | ((with_reducible refine Zu ?_ ?_); focus omega))
        refine fin_eq ?_
        (repeat' simp (maxDischargeDepth := 9) -implicitDefEqProofs -dsimp only [go_sem, seval, *])
       ·have hd : decide (l[k].name = l[i].name) = false := by simp [he]
        rw [hd] at hsb
        clear hstep hbad hd
        have hn : ∀ j, (h : j < k + 1) → ¬ (l[j]'(by omega)).name = l[i].name := fun j h => by
         rcases Nat.lt_or_ge j k with q | q
         ·exact hokk j q (by omega)
         ·obtain rfl : j = k := by omega
          exact he
        clear hokk he
        repeat' (first | simp (maxDischargeDepth := 9) -implicitDefEqProofs -dsimp only [go_sem, seval, *] | simp (disch := omega) only [wrap64] | ((with_reducible refine Zu ?_ ?_); focus omega))
        refine loop_next _ _ _ _ (k + 1) ?_; (repeat' simp (maxDischargeDepth := 9) -implicitDefEqProofs -dsimp only [go_sem, seval, *]) <;> (repeat' refine And.intro ?_ ?_) <;> (first | omega | skip)
        exact fun j h _ => hn j h
      ·have ek : k = i := by omega
       subst ek
       have hki : ¬ (k : Int) < k := by omega
       have hn := hstep fun j h => hokk j h (Nat.le_refl _)
       clear hstep hbad hokk
       repeat' (first | simp (maxDischargeDepth := 9) -implicitDefEqProofs -dsimp only [go_sem, seval, *] | simp (disch := omega) only [wrap64])
       refine loop_next _ _ _ _ (k + 1) ?_; (repeat' simp (maxDischargeDepth := 9) -implicitDefEqProofs -dsimp only [go_sem, seval, *]) <;> (repeat' refine And.intro ?_ ?_) <;> (first | omega | skip)
    ·replace hin := hin rfl
     repeat' (first | simp (maxDischargeDepth := 9) -implicitDefEqProofs -dsimp only [go_sem, seval, gt_iff_lt, *] | (with_reducible (first | apply Zb | apply Zg | apply Zi) <;> intro hq) | ((with_reducible refine Zu ?_ ?_); focus omega) | ((with_reducible refine Zt (fun oF hoF hnF hnF' => ?_)); (try simp only [upd_none, ne_eq, not_and] at hoF)))
     all_goals first | (exfalso; omega) | skip
     obtain ⟨o, eo⟩ : ∃ x, x = oF := ⟨oF, rfl⟩
     subst eo
     have ho : σ o = none := hoF
     clear hoF hnF hnF' hin
     refine loop_rule (fun k : Nat => [(5, some (.int .i64 k)), (3, some (.int .i64 i)), (0, some (.slice (l.map encS) .no)), (4, some (.ptr o 0))])
      (fun _ => upd σ o (.cells [.str l[i].name, .int .i64 l[i].w, .int .i64 l[i].kind, .int .u64 l[i].init])) (fun k => k ≤ i ∧ ∀ j, (h : j < k) → (hi : k ≤ i) → ¬ (l[j]'(by omega)).name = l[i].name) (fun k => i - k) 0 ?_ ?_
     ·clear hstep hbad
      (repeat' simp (maxDischargeDepth := 9) -implicitDefEqProofs -dsimp only [go_sem, seval, *]) <;> (repeat' refine And.intro ?_ ?_) <;> (first | omega | skip)
     ·rintro k ⟨hk, hokk⟩
      by_cases hkt : k < i
      ·have hkl : k < l.length := by omega
       have hki : (k : Int) < i := by omega
       have hsb := str_beq l[k].name l[i].name
       by_cases he : l[k].name = l[i].name
       ·have hv := hbad k hkt he
        have hd : decide (l[k].name = l[i].name) = true := by simp [he]
        rw [hd] at hsb
        clear hstep hbad hokk he hd
        repeat' (first | simp (maxDischargeDepth := 9) -implicitDefEqProofs -dsimp only [go_sem, seval, *] | ((with_reducible refine Zu ?_ ?_); focus omega))
        refine fin_eq ?_
        (repeat' simp (maxDischargeDepth := 9) -implicitDefEqProofs -dsimp only [go_sem, seval, *])
       ·have hd : decide (l[k].name = l[i].name) = false := by simp [he]
        rw [hd] at hsb
        clear hstep hbad hd
        have hn : ∀ j, (h : j < k + 1) → ¬ (l[j]'(by omega)).name = l[i].name := fun j h => by
         rcases Nat.lt_or_ge j k with q | q
         ·exact hokk j q (by omega)
         ·obtain rfl : j = k := by omega
          exact he
        clear hokk he
        repeat' (first | simp (maxDischargeDepth := 9) -implicitDefEqProofs -dsimp only [go_sem, seval, *] | simp (disch := omega) only [wrap64] | ((with_reducible refine Zu ?_ ?_); focus omega))
        refine loop_next _ _ _ _ (k + 1) ?_; (repeat' simp (maxDischargeDepth := 9) -implicitDefEqProofs -dsimp only [go_sem, seval, *]) <;> (repeat' refine And.intro ?_ ?_) <;> (first | omega | skip)
        exact fun j h _ => hn j h
      ·have ek : k = i := by omega
       subst ek
       have hki : ¬ (k : Int) < k := by omega
       have hn := hstep fun j h => hokk j h (Nat.le_refl _)
       clear hstep hbad hokk
       repeat' (first | simp (maxDischargeDepth := 9) -implicitDefEqProofs -dsimp only [go_sem, seval, *] | simp (disch := omega) only [wrap64])
       refine loop_next _ _ _ _ (k + 1) ?_; (repeat' simp (maxDischargeDepth := 9) -implicitDefEqProofs -dsimp only [go_sem, seval, *]) <;> (repeat' refine And.intro ?_ ?_) <;> (first | omega | skip)
   ·have hb := sigs_bad hlt (fun hh => hg hh.1)
    clear hok
    by_cases hm : l[i].name = noName
    ·have hnm2 : decide (l[i].name = noName) = true := by simp [hm]
     rw [hnm2] at hnm
     clear hm hnm2
     repeat' (first | simp (maxDischargeDepth := 9) -implicitDefEqProofs -dsimp only [go_sem, seval, gt_iff_lt, *] | ((with_reducible refine Zu ?_ ?_); focus omega) | ((with_reducible refine Zt (fun oF hoF hnF hnF' => ?_)); (try simp only [upd_none, ne_eq, not_and] at hoF)))
     refine fin_eq ?_
     (repeat' simp (maxDischargeDepth := 9) -implicitDefEqProofs -dsimp only [go_sem, seval, *])
    ·have hnm2 : decide (l[i].name = noName) = false := by simp [hm]
     rw [hnm2] at hnm
     have hg2 : ¬ (1 ≤ l[i].w ∧ l[i].w ≤ 64 ∧ 1 ≤ l[i].kind ∧ l[i].kind ≤ 4 ∧ (l[i].kind = 4 ∨ l[i].init = 0)) := fun ⟨a1, a2, a3, a4, a5⟩ => hg ⟨hm, a1, a2, a3, a4, a5⟩
     clear hg hm hnm2
     repeat' (first | simp (maxDischargeDepth := 9) -implicitDefEqProofs -dsimp only [go_sem, seval, gt_iff_lt, *] | (with_reducible (first | apply Zb | apply Zg | apply Zi) <;> intro hq) | ((with_reducible refine Zu ?_ ?_); focus omega) | ((with_reducible refine Zt (fun oF hoF hnF hnF' => ?_)); (try simp only [upd_none, ne_eq, not_and] at hoF)))
     all_goals first | (exfalso; apply hg2; omega) | skip
     all_goals
      refine fin_eq ?_
      (repeat' simp (maxDischargeDepth := 9) -implicitDefEqProofs -dsimp only [go_sem, seval, *])
  ·have ei : i = l.length := by omega
   subst ei
   have hs : sigsOk l = true := sigsOk_iff.2 hok
   clear hok
   repeat' simp (maxDischargeDepth := 9) -implicitDefEqProofs -dsimp only [go_sem, seval, *]
   refine fin_eq ?_
   (repeat' simp (maxDischargeDepth := 9) -implicitDefEqProofs -dsimp only [go_sem, seval, *])
end Go.Proofs.Ytdiebjnjhgbklaa

namespace Go.Proofs.Ytdiebjnjhgbklaa
open Abs Fil Fil.Sz
theorem sl_indexE (p : E → Bool) (l : List E) (hl : l.length ≤ 1000000000000) (σ : Sig) {F : Nat} {caps : List AV} (hF : ∀ x ∈ l, ACalls Try.prog F (encE x :: caps) σ (fun r σ' => r = .ret (.bool (p x)) ∧ σ' = σ)) :
  ACalls Try.prog 95 [.slice (l.map encE) .no, .fn F [] caps] σ (fun r σ' => r = .ret (.int .i64 (idxF p l)) ∧ σ' = σ) :=
 lib_indexFunc (sz := 8) (g := true) mixed Try.func95 b95 n95 rfl q95 (fun _ => rfl) (fun _ => rfl) p l hl hF
theorem sl_containsE (p : E → Bool) (l : List E) (hl : l.length ≤ 1000000000000) (σ : Sig) {F : Nat} {caps : List AV} (hF : ∀ x ∈ l, ACalls Try.prog F (encE x :: caps) σ (fun r σ' => r = .ret (.bool (p x)) ∧ σ' = σ)) :
  ACalls Try.prog 68 [.slice (l.map encE) .no, .fn F [] caps] σ (fun r σ' => r = .ret (.bool (l.any p)) ∧ σ' = σ) :=
 lib_containsFunc mixed Try.func68 b68 n68 rfl q68 p l (sl_indexE p l hl σ hF)
theorem sz_left (v s h l n : Int) (σ : Sig) : ACalls Try.prog 27 [.agg [.int .i64 0, .int .i64 0, .int .u64 v, .int .i64 s, .int .i64 h, .int .i64 l, .int .i64 n, .slice [] .no], .agg [.int .i64 0, .int .i64 0, .int .u64 0, .int .i64 0, .int .i64 0, .int .i64 0, .int .i64 0, .slice [] .no]] σ
  (fun r σ' => r = .ret (.bool (decide (v = 0 ∧ s = 0 ∧ h = 0 ∧ l = 0 ∧ n = 0))) ∧ σ' = σ) := by
 have h1 := sz_SameE (.mk 0 0 v s h l n []) zE σ (by simp [nodes_eq, E.l]) (by simp [nodes_eq, zE, E.l])
 have e1 : encEs (.mk 0 0 v s h l n []) = [] := by rw [encEs_eq]; rfl
 have e2 : encEs zE = [] := by rw [encEs_eq]; rfl
 have e3 : same (E.mk 0 0 v s h l n []) zE = decide (v = 0 ∧ s = 0 ∧ h = 0 ∧ l = 0 ∧ n = 0) := by
  rw [Bool.eq_iff_iff, same_iff, decide_eq_true_eq]
  simp only [zE, E.mk.injEq, true_and, and_true]
 rw [e3] at h1
 simp only [encE, eL, e1, e2] at h1
 exact h1
set_option maxRecDepth 20000 in
set_option maxHeartbeats 1000000 in
theorem sz_shape (g : List Sg) (hg : g.length ≤ 1000000000000) (e : E) : ∀ (σ : Sig), nodes e ≤ 16777216 → WfE e → ACalls Try.prog 36 [.slice (g.map encS) .no, encE e] σ (fun r σ' => r = .ret (.bool (shp g e)) ∧ σ' = σ) := by
 refine E.ind (P := fun e => ∀ (σ : Sig), nodes e ≤ 16777216 → WfE e → ACalls Try.prog 36 [.slice (g.map encS) .no, encE e] σ (fun r σ' => r = .ret (.bool (shp g e)) ∧ σ' = σ)) (fun e ih σ he hw => ?_) e
 have h1 := encEs_eq e
 have l1 := len_nodes e
 obtain ⟨⟨w1, w2, w3, w4, w5, w6, w7⟩, w8⟩ := (WfE_iff e).1 hw
 obtain ⟨w2a, w2b⟩ := w2
 have hs := shp_eq g e
 have hall : e.l.all (shp g) = !e.l.any fun x => !shp g x := by
  rw [Bool.eq_iff_iff]; simp [List.any_eq_true, List.all_eq_true]
 have hclo : ∀ (b : Nat) (τ : Sig), τ b = some (.cells [.slice (g.map encS) .no]) → ∀ x ∈ e.l, ACalls Try.prog 69 (encE x :: [.ptr b 0]) τ (fun r σ' => r = .ret (.bool (!shp g x)) ∧ σ' = τ) := fun b τ hb x hx => by
  have hc := fun τ => ih x hx τ (by have := part_nodes hx; omega) (w8 x hx)
  refine calls_x mixed Try.func69 b69 n69 rfl q69 (by simp) ?_; unfold c69 r69
  repeat' (first | simp (maxDischargeDepth := 9) -implicitDefEqProofs -dsimp only [go_sem, seval, *] | ((with_reducible apply ACalls.one1); (focus ((with_reducible refine hc _) <;> (first | (simp (maxDischargeDepth := 9) -implicitDefEqProofs -dsimp only [go_sem, seval, *]; done) | omega))); (focus (first | trivial | with_reducible exact rfl | (simp (maxDischargeDepth := 9) -implicitDefEqProofs -dsimp only [go_sem, seval]; done)))))
  refine fin_eq ?_
  (repeat' simp (maxDischargeDepth := 9) -implicitDefEqProofs -dsimp only [go_sem, seval, *])
 have hcon := fun (b : Nat) (τ : Sig) (hb : τ b = some (.cells [.slice (g.map encS) .no])) => sl_containsE (fun x => !shp g x) e.l (by omega) τ (hclo b τ hb)
 rw [hall] at hs
 obtain ⟨A, hA⟩ : ∃ A, (e.l.any fun x => !shp g x) = A := ⟨_, rfl⟩
 rw [hA] at hs hcon
 clear ih hclo hA hall hw w8
 refine calls_x mixed Try.func36 b36 n36 rfl q36 (by simp) ?_; unfold c36 r36
 by_cases hn : node g e = true
 ·rw [hn, Bool.true_and] at hs
  cases node_nd hn with
  | num ho h2 h3 h4 h5 h6 h7 h8 h9 =>
   have hh := fun τ => sz_holds e.w e.v τ h7 w3
   have hle : e.l.length = 0 := by rw [h6]; rfl
   have hL := fun τ => sz_left 0 e.sig e.hi e.lo e.n τ
   rw [h2, h3, h4, h5] at hL
   clear h6 hn
   rcases h9 with h9 | h9
   ·repeat' (first | simp (maxDischargeDepth := 9) -implicitDefEqProofs -dsimp only [go_sem, seval, ge_iff_le, *] | ((with_reducible refine Zt (fun oF hoF hnF hnF' => ?_)); (try simp only [upd_none, ne_eq, not_and] at hoF)) | ((with_reducible apply ACalls.one1); (focus ((first | with_reducible refine hcon _ _ ?_ | with_reducible refine ACalls.flA (hL _) ?_) <;> (first | (simp (maxDischargeDepth := 9) -implicitDefEqProofs -dsimp only [go_sem, seval, *]; done) | omega))); (focus (first | trivial | with_reducible exact rfl | (simp (maxDischargeDepth := 9) -implicitDefEqProofs -dsimp only [go_sem, seval]; done)))))
    refine fin_eq ?_
    (repeat' simp (maxDischargeDepth := 9) -implicitDefEqProofs -dsimp only [go_sem, seval, *])
   ·rw [h9] at hh
    repeat' (first | simp (maxDischargeDepth := 9) -implicitDefEqProofs -dsimp only [go_sem, seval, ge_iff_le, *] | (with_reducible (first | apply Za | apply Zc | apply Zd | apply Ze | apply Zf) <;> intro hq) | ((with_reducible refine Zt (fun oF hoF hnF hnF' => ?_)); (try simp only [upd_none, ne_eq, not_and] at hoF)) | ((with_reducible apply ACalls.one1); (focus ((first | with_reducible refine hh _ | with_reducible refine hcon _ _ ?_ | with_reducible refine ACalls.flA (hL _) ?_) <;> (first | (simp (maxDischargeDepth := 9) -implicitDefEqProofs -dsimp only [go_sem, seval, *]; done) | omega))); (focus (first | trivial | with_reducible exact rfl | (simp (maxDischargeDepth := 9) -implicitDefEqProofs -dsimp only [go_sem, seval]; done)))))
    all_goals
     refine fin_eq ?_
     (repeat' simp (maxDischargeDepth := 9) -implicitDefEqProofs -dsimp only [go_sem, seval, *])
  | sig ho h2 h5 h6 h7 =>
   have hh := fun τ => sz_slice g e.sig e.hi e.lo τ hg
   rw [h7] at hh
   have hle : e.l.length = 0 := by rw [h6]; rfl
   have hL := fun τ => sz_left e.v 0 0 0 e.n τ
   rw [h2, h5] at hL
   clear h6 hn
   repeat' (first | simp (maxDischargeDepth := 9) -implicitDefEqProofs -dsimp only [go_sem, seval, ge_iff_le, *] | ((with_reducible refine Zt (fun oF hoF hnF hnF' => ?_)); (try simp only [upd_none, ne_eq, not_and] at hoF)) | ((with_reducible apply ACalls.one1); (focus ((first | with_reducible refine hh _ | with_reducible refine hcon _ _ ?_ | with_reducible refine ACalls.flA (hL _) ?_) <;> (first | (simp (maxDischargeDepth := 9) -implicitDefEqProofs -dsimp only [go_sem, seval, *]; done) | omega))); (focus (first | trivial | with_reducible exact rfl | (simp (maxDischargeDepth := 9) -implicitDefEqProofs -dsimp only [go_sem, seval]; done)))))
   refine fin_eq ?_
   (repeat' simp (maxDischargeDepth := 9) -implicitDefEqProofs -dsimp only [go_sem, seval, *])
  | idx ho h2 h3 h4 h5 a h6 h7 h8 =>
   have hle : e.l.length = 1 := by rw [h6]; rfl
   have hL := fun τ => sz_left e.v 0 e.hi e.lo e.n τ
   rw [h2, h3, h4, h5] at hL
   clear h6 hn
   repeat' (first | simp (maxDischargeDepth := 9) -implicitDefEqProofs -dsimp only [go_sem, seval, ge_iff_le, *] | ((with_reducible refine Zt (fun oF hoF hnF hnF' => ?_)); (try simp only [upd_none, ne_eq, not_and] at hoF)) | ((with_reducible apply ACalls.one1); (focus ((first | with_reducible refine hcon _ _ ?_ | with_reducible refine ACalls.flA (hL _) ?_) <;> (first | (simp (maxDischargeDepth := 9) -implicitDefEqProofs -dsimp only [go_sem, seval, *]; done) | omega))); (focus (first | trivial | with_reducible exact rfl | (simp (maxDischargeDepth := 9) -implicitDefEqProofs -dsimp only [go_sem, seval]; done)))))
   refine fin_eq ?_
   (repeat' simp (maxDischargeDepth := 9) -implicitDefEqProofs -dsimp only [go_sem, seval, *])
  | un ho h2 h3 h4 h5 a h6 h7 h8 =>
   have hle : e.l.length = 1 := by rw [h6]; rfl
   have hL := fun τ => sz_left e.v e.sig e.hi e.lo 0 τ
   rw [h2, h3, h4, h5] at hL
   clear h6 hn
   repeat' (first | simp (maxDischargeDepth := 9) -implicitDefEqProofs -dsimp only [go_sem, seval, ge_iff_le, *] | ((with_reducible refine Zt (fun oF hoF hnF hnF' => ?_)); (try simp only [upd_none, ne_eq, not_and] at hoF)) | ((with_reducible apply ACalls.one1); (focus ((first | with_reducible refine hcon _ _ ?_ | with_reducible refine ACalls.flA (hL _) ?_) <;> (first | (simp (maxDischargeDepth := 9) -implicitDefEqProofs -dsimp only [go_sem, seval, *]; done) | omega))); (focus (first | trivial | with_reducible exact rfl | (simp (maxDischargeDepth := 9) -implicitDefEqProofs -dsimp only [go_sem, seval]; done)))))
   refine fin_eq ?_
   (repeat' simp (maxDischargeDepth := 9) -implicitDefEqProofs -dsimp only [go_sem, seval, *])
  | bin ho h2 h3 h4 h5 a b h6 h7 h8 =>
   have hle : e.l.length = 2 := by rw [h6]; rfl
   have hL := fun τ => sz_left e.v e.sig e.hi e.lo 0 τ
   rw [h2, h3, h4, h5] at hL
   clear h6 hn
   repeat' (first | simp (maxDischargeDepth := 9) -implicitDefEqProofs -dsimp only [go_sem, seval, ge_iff_le, *] | ((with_reducible refine Zt (fun oF hoF hnF hnF' => ?_)); (try simp only [upd_none, ne_eq, not_and] at hoF)) | ((with_reducible apply ACalls.one1); (focus ((first | with_reducible refine hcon _ _ ?_ | with_reducible refine ACalls.flA (hL _) ?_) <;> (first | (simp (maxDischargeDepth := 9) -implicitDefEqProofs -dsimp only [go_sem, seval, *]; done) | omega))); (focus (first | trivial | with_reducible exact rfl | (simp (maxDischargeDepth := 9) -implicitDefEqProofs -dsimp only [go_sem, seval]; done)))))
   refine fin_eq ?_
   (repeat' simp (maxDischargeDepth := 9) -implicitDefEqProofs -dsimp only [go_sem, seval, *])
  | cond ho h2 h3 h4 h5 h7 a b c h6 =>
   have hle : e.l.length = 3 := by rw [h6]; rfl
   have hL := fun τ => sz_left e.v e.sig e.hi e.lo e.n τ
   rw [h2, h3, h4, h5, h7] at hL
   clear h6 hn
   repeat' (first | simp (maxDischargeDepth := 9) -implicitDefEqProofs -dsimp only [go_sem, seval, ge_iff_le, *] | ((with_reducible refine Zt (fun oF hoF hnF hnF' => ?_)); (try simp only [upd_none, ne_eq, not_and] at hoF)) | ((with_reducible apply ACalls.one1); (focus ((first | with_reducible refine hcon _ _ ?_ | with_reducible refine ACalls.flA (hL _) ?_) <;> (first | (simp (maxDischargeDepth := 9) -implicitDefEqProofs -dsimp only [go_sem, seval, *]; done) | omega))); (focus (first | trivial | with_reducible exact rfl | (simp (maxDischargeDepth := 9) -implicitDefEqProofs -dsimp only [go_sem, seval]; done)))))
   refine fin_eq ?_
   (repeat' simp (maxDischargeDepth := 9) -implicitDefEqProofs -dsimp only [go_sem, seval, *])
  | cat ho h2 h3 h4 h5 h7 h6 =>
   have hL := fun τ => sz_left e.v e.sig e.hi e.lo e.n τ
   rw [h2, h3, h4, h5, h7] at hL
   have hle : 0 < (e.l.length : Int) := by omega
   clear hn h6
   repeat' (first | simp (maxDischargeDepth := 9) -implicitDefEqProofs -dsimp only [go_sem, seval, gt_iff_lt, *] | ((with_reducible refine Zt (fun oF hoF hnF hnF' => ?_)); (try simp only [upd_none, ne_eq, not_and] at hoF)) | ((with_reducible apply ACalls.one1); (focus ((first | with_reducible refine hcon _ _ ?_ | with_reducible refine ACalls.flA (hL _) ?_) <;> (first | (simp (maxDischargeDepth := 9) -implicitDefEqProofs -dsimp only [go_sem, seval, *]; done) | omega))); (focus (first | trivial | with_reducible exact rfl | (simp (maxDischargeDepth := 9) -implicitDefEqProofs -dsimp only [go_sem, seval]; done)))))
   refine fin_eq ?_
   (repeat' simp (maxDischargeDepth := 9) -implicitDefEqProofs -dsimp only [go_sem, seval, *])
  | ext ho h2 h3 h4 h5 a h6 h7 h8 h9 h10 =>
   have hle : e.l.length = 1 := by rw [h6]; rfl
   have hL := fun τ => sz_left e.v e.sig e.hi e.lo 0 τ
   rw [h2, h3, h4, h5] at hL
   clear h6 hn
   repeat' (first | simp (maxDischargeDepth := 9) -implicitDefEqProofs -dsimp only [go_sem, seval, ge_iff_le, *] | ((with_reducible refine Zt (fun oF hoF hnF hnF' => ?_)); (try simp only [upd_none, ne_eq, not_and] at hoF)) | ((with_reducible apply ACalls.one1); (focus ((first | with_reducible refine hcon _ _ ?_ | with_reducible refine ACalls.flA (hL _) ?_) <;> (first | (simp (maxDischargeDepth := 9) -implicitDefEqProofs -dsimp only [go_sem, seval, *]; done) | omega))); (focus (first | trivial | with_reducible exact rfl | (simp (maxDischargeDepth := 9) -implicitDefEqProofs -dsimp only [go_sem, seval]; done)))))
   refine fin_eq ?_
   (repeat' simp (maxDischargeDepth := 9) -implicitDefEqProofs -dsimp only [go_sem, seval, *])
 ·have hn' : node g e = false := by simpa using hn
  rw [hn', Bool.false_and] at hs
  clear hn'
  by_cases ho1 : e.op = 1
  ·obtain ⟨b, hb⟩ : ∃ b, holds e.w e.v = b := ⟨_, rfl⟩
   have hh := fun τ h => sz_holds e.w e.v τ h w3
   rw [hb] at hh
   have hnf : ¬ (e.sig = 0 ∧ e.hi = 0 ∧ e.lo = 0 ∧ e.n = 0 ∧ e.l.length = 0 ∧ 0 ≤ e.w ∧ e.w ≤ 64 ∧ (e.w = 0 ∨ b = true)) := fun h => hn (by unfold node; simp only [ho1]; simp [h, hb])
   have hL := fun τ => sz_left 0 e.sig e.hi e.lo e.n τ
   clear hn hb
   cases b
   all_goals
    try simp only [Bool.false_eq_true, or_false, or_true, and_true, and_false, not_false_eq_true] at hnf
    repeat' (first | simp (maxDischargeDepth := 9) -implicitDefEqProofs -dsimp only [go_sem, seval, ge_iff_le, gt_iff_lt, *] | (with_reducible (first | apply Za | apply Zc | apply Zd | apply Ze | apply Zf) <;> intro hq) | ((with_reducible refine Zt (fun oF hoF hnF hnF' => ?_)); (try simp only [upd_none, ne_eq, not_and] at hoF)) | ((with_reducible apply ACalls.one1); (focus ((first | with_reducible refine hh _ ?_ | with_reducible refine hcon _ _ ?_ | with_reducible refine ACalls.flA (hL _) ?_) <;> (first | (simp (maxDischargeDepth := 9) -implicitDefEqProofs -dsimp only [go_sem, seval, *]; done) | omega))); (focus (first | trivial | with_reducible exact rfl | (simp (maxDischargeDepth := 9) -implicitDefEqProofs -dsimp only [go_sem, seval]; done)))))
    all_goals first | (exfalso; apply hnf; clear hL hcon; omega) | skip
    all_goals
     refine fin_eq ?_
     (repeat' simp (maxDischargeDepth := 9) -implicitDefEqProofs -dsimp only [go_sem, seval, *])
  by_cases ho2 : e.op = 2
  ·obtain ⟨b, hb⟩ : ∃ b, place g e.sig e.hi e.lo = b := ⟨_, rfl⟩
   have hh := fun τ => sz_slice g e.sig e.hi e.lo τ hg
   rw [hb] at hh
   have hnf : ¬ (e.v = 0 ∧ e.n = 0 ∧ e.l.length = 0 ∧ b = true) := fun h => hn (by unfold node; simp only [ho2]; simp [h, hb])
   have hL := fun τ => sz_left e.v 0 0 0 e.n τ
   clear hn hb
   cases b
   all_goals
    try simp only [Bool.false_eq_true, or_false, or_true, and_true, and_false, not_false_eq_true] at hnf
    repeat' (first | simp (maxDischargeDepth := 9) -implicitDefEqProofs -dsimp only [go_sem, seval, ge_iff_le, gt_iff_lt, *] | (with_reducible (first | apply Za | apply Zc | apply Zd | apply Ze | apply Zf) <;> intro hq) | ((with_reducible refine Zt (fun oF hoF hnF hnF' => ?_)); (try simp only [upd_none, ne_eq, not_and] at hoF)) | ((with_reducible apply ACalls.one1); (focus ((first | with_reducible refine hh _ | with_reducible refine hcon _ _ ?_ | with_reducible refine ACalls.flA (hL _) ?_) <;> (first | (simp (maxDischargeDepth := 9) -implicitDefEqProofs -dsimp only [go_sem, seval, *]; done) | omega))); (focus (first | trivial | with_reducible exact rfl | (simp (maxDischargeDepth := 9) -implicitDefEqProofs -dsimp only [go_sem, seval]; done)))))
    all_goals first | (exfalso; apply hnf; clear hL hcon; omega) | skip
    all_goals
     refine fin_eq ?_
     (repeat' simp (maxDischargeDepth := 9) -implicitDefEqProofs -dsimp only [go_sem, seval, *])
  by_cases ho3 : e.op = 3
  ·have hnf : ¬ (e.v = 0 ∧ e.hi = 0 ∧ e.lo = 0 ∧ e.n = 0 ∧ e.l.length = 1 ∧ 0 ≤ e.sig ∧ e.sig < g.length) := fun h => hn (by unfold node; simp only [ho3]; simp [h])
   have hL := fun τ => sz_left e.v 0 e.hi e.lo e.n τ
   clear hn
   repeat' (first | simp (maxDischargeDepth := 9) -implicitDefEqProofs -dsimp only [go_sem, seval, ge_iff_le, gt_iff_lt, *] | (with_reducible (first | apply Za | apply Zc | apply Zd | apply Ze | apply Zf) <;> intro hq) | ((with_reducible refine Zt (fun oF hoF hnF hnF' => ?_)); (try simp only [upd_none, ne_eq, not_and] at hoF)) | ((with_reducible apply ACalls.one1); (focus ((first | with_reducible refine hcon _ _ ?_ | with_reducible refine ACalls.flA (hL _) ?_) <;> (first | (simp (maxDischargeDepth := 9) -implicitDefEqProofs -dsimp only [go_sem, seval, *]; done) | omega))); (focus (first | trivial | with_reducible exact rfl | (simp (maxDischargeDepth := 9) -implicitDefEqProofs -dsimp only [go_sem, seval]; done)))))
   all_goals first | (exfalso; apply hnf; clear hL hcon; omega) | skip
   all_goals
    refine fin_eq ?_
    (repeat' simp (maxDischargeDepth := 9) -implicitDefEqProofs -dsimp only [go_sem, seval, *])
  by_cases ho4 : e.op = 4
  ·have hnf : ¬ (e.v = 0 ∧ e.sig = 0 ∧ e.hi = 0 ∧ e.lo = 0 ∧ e.l.length = 1 ∧ 1 ≤ e.n ∧ e.n ≤ 6) := fun h => hn (by unfold node; simp only [ho4]; simp [h])
   have hL := fun τ => sz_left e.v e.sig e.hi e.lo 0 τ
   clear hn
   repeat' (first | simp (maxDischargeDepth := 9) -implicitDefEqProofs -dsimp only [go_sem, seval, ge_iff_le, gt_iff_lt, *] | (with_reducible (first | apply Za | apply Zc | apply Zd | apply Ze | apply Zf) <;> intro hq) | ((with_reducible refine Zt (fun oF hoF hnF hnF' => ?_)); (try simp only [upd_none, ne_eq, not_and] at hoF)) | ((with_reducible apply ACalls.one1); (focus ((first | with_reducible refine hcon _ _ ?_ | with_reducible refine ACalls.flA (hL _) ?_) <;> (first | (simp (maxDischargeDepth := 9) -implicitDefEqProofs -dsimp only [go_sem, seval, *]; done) | omega))); (focus (first | trivial | with_reducible exact rfl | (simp (maxDischargeDepth := 9) -implicitDefEqProofs -dsimp only [go_sem, seval]; done)))))
   all_goals first | (exfalso; apply hnf; clear hL hcon; omega) | skip
   all_goals
    refine fin_eq ?_
    (repeat' simp (maxDischargeDepth := 9) -implicitDefEqProofs -dsimp only [go_sem, seval, *])
  by_cases ho5 : e.op = 5
  ·have hnf : ¬ (e.v = 0 ∧ e.sig = 0 ∧ e.hi = 0 ∧ e.lo = 0 ∧ e.l.length = 2 ∧ 11 ≤ e.n ∧ e.n ≤ 26) := fun h => hn (by unfold node; simp only [ho5]; simp [h])
   have hL := fun τ => sz_left e.v e.sig e.hi e.lo 0 τ
   clear hn
   repeat' (first | simp (maxDischargeDepth := 9) -implicitDefEqProofs -dsimp only [go_sem, seval, ge_iff_le, gt_iff_lt, *] | (with_reducible (first | apply Za | apply Zc | apply Zd | apply Ze | apply Zf) <;> intro hq) | ((with_reducible refine Zt (fun oF hoF hnF hnF' => ?_)); (try simp only [upd_none, ne_eq, not_and] at hoF)) | ((with_reducible apply ACalls.one1); (focus ((first | with_reducible refine hcon _ _ ?_ | with_reducible refine ACalls.flA (hL _) ?_) <;> (first | (simp (maxDischargeDepth := 9) -implicitDefEqProofs -dsimp only [go_sem, seval, *]; done) | omega))); (focus (first | trivial | with_reducible exact rfl | (simp (maxDischargeDepth := 9) -implicitDefEqProofs -dsimp only [go_sem, seval]; done)))))
   all_goals first | (exfalso; apply hnf; clear hL hcon; omega) | skip
   all_goals
    refine fin_eq ?_
    (repeat' simp (maxDischargeDepth := 9) -implicitDefEqProofs -dsimp only [go_sem, seval, *])
  by_cases ho6 : e.op = 6
  ·have hnf : ¬ (e.v = 0 ∧ e.sig = 0 ∧ e.hi = 0 ∧ e.lo = 0 ∧ e.n = 0 ∧ e.l.length = 3) := fun h => hn (by unfold node; simp only [ho6]; simp [h])
   have hL := fun τ => sz_left e.v e.sig e.hi e.lo e.n τ
   clear hn
   repeat' (first | simp (maxDischargeDepth := 9) -implicitDefEqProofs -dsimp only [go_sem, seval, ge_iff_le, gt_iff_lt, *] | (with_reducible (first | apply Za | apply Zc | apply Zd | apply Ze | apply Zf) <;> intro hq) | ((with_reducible refine Zt (fun oF hoF hnF hnF' => ?_)); (try simp only [upd_none, ne_eq, not_and] at hoF)) | ((with_reducible apply ACalls.one1); (focus ((first | with_reducible refine hcon _ _ ?_ | with_reducible refine ACalls.flA (hL _) ?_) <;> (first | (simp (maxDischargeDepth := 9) -implicitDefEqProofs -dsimp only [go_sem, seval, *]; done) | omega))); (focus (first | trivial | with_reducible exact rfl | (simp (maxDischargeDepth := 9) -implicitDefEqProofs -dsimp only [go_sem, seval]; done)))))
   all_goals first | (exfalso; apply hnf; clear hL hcon; omega) | skip
   all_goals
    refine fin_eq ?_
    (repeat' simp (maxDischargeDepth := 9) -implicitDefEqProofs -dsimp only [go_sem, seval, *])
  by_cases ho7 : e.op = 7
  ·have hnf : ¬ (e.v = 0 ∧ e.sig = 0 ∧ e.hi = 0 ∧ e.lo = 0 ∧ e.n = 0 ∧ 0 < e.l.length) := fun h => hn (by unfold node; simp only [ho7]; simp [h])
   have hL := fun τ => sz_left e.v e.sig e.hi e.lo e.n τ
   clear hn
   repeat' (first | simp (maxDischargeDepth := 9) -implicitDefEqProofs -dsimp only [go_sem, seval, ge_iff_le, gt_iff_lt, *] | (with_reducible (first | apply Za | apply Zc | apply Zd | apply Ze | apply Zf) <;> intro hq) | ((with_reducible refine Zt (fun oF hoF hnF hnF' => ?_)); (try simp only [upd_none, ne_eq, not_and] at hoF)) | ((with_reducible apply ACalls.one1); (focus ((first | with_reducible refine hcon _ _ ?_ | with_reducible refine ACalls.flA (hL _) ?_) <;> (first | (simp (maxDischargeDepth := 9) -implicitDefEqProofs -dsimp only [go_sem, seval, *]; done) | omega))); (focus (first | trivial | with_reducible exact rfl | (simp (maxDischargeDepth := 9) -implicitDefEqProofs -dsimp only [go_sem, seval]; done)))))
   all_goals first | (exfalso; apply hnf; clear hL hcon; omega) | skip
   all_goals
    refine fin_eq ?_
    (repeat' simp (maxDischargeDepth := 9) -implicitDefEqProofs -dsimp only [go_sem, seval, *])
  by_cases ho8 : e.op = 8
  ·have hnf : ¬ (e.v = 0 ∧ e.sig = 0 ∧ e.hi = 0 ∧ e.lo = 0 ∧ e.l.length = 1 ∧ 31 ≤ e.n ∧ e.n ≤ 33 ∧ 1 ≤ e.w ∧ e.w ≤ 64) := fun h => hn (by unfold node; simp only [ho8]; simp [h])
   have hL := fun τ => sz_left e.v e.sig e.hi e.lo 0 τ
   clear hn
   repeat' (first | simp (maxDischargeDepth := 9) -implicitDefEqProofs -dsimp only [go_sem, seval, ge_iff_le, gt_iff_lt, *] | (with_reducible (first | apply Za | apply Zc | apply Zd | apply Ze | apply Zf) <;> intro hq) | ((with_reducible refine Zt (fun oF hoF hnF hnF' => ?_)); (try simp only [upd_none, ne_eq, not_and] at hoF)) | ((with_reducible apply ACalls.one1); (focus ((first | with_reducible refine hcon _ _ ?_ | with_reducible refine ACalls.flA (hL _) ?_) <;> (first | (simp (maxDischargeDepth := 9) -implicitDefEqProofs -dsimp only [go_sem, seval, *]; done) | omega))); (focus (first | trivial | with_reducible exact rfl | (simp (maxDischargeDepth := 9) -implicitDefEqProofs -dsimp only [go_sem, seval]; done)))))
   all_goals first | (exfalso; apply hnf; clear hL hcon; omega) | skip
   all_goals
    refine fin_eq ?_
    (repeat' simp (maxDischargeDepth := 9) -implicitDefEqProofs -dsimp only [go_sem, seval, *])
  clear hn
  repeat' (first | simp (maxDischargeDepth := 9) -implicitDefEqProofs -dsimp only [go_sem, seval, *] | (with_reducible (first | apply Za | apply Zc | apply Zd | apply Ze | apply Zf) <;> intro hq) | ((with_reducible refine Zt (fun oF hoF hnF hnF' => ?_)); (try simp only [upd_none, ne_eq, not_and] at hoF)))
  all_goals first | (exfalso; omega) | skip
  all_goals
   refine fin_eq ?_
   (repeat' simp (maxDischargeDepth := 9) -implicitDefEqProofs -dsimp only [go_sem, seval, *])
end Go.Proofs.Ytdiebjnjhgbklaa

