/- sized: contracts: signals. -/
import Derived.Shelf.Strconv.Itoa0
import Derived.Test.YtdiebjnjhgbklaaLSzSum
set_option linter.unusedSimpArgs false
set_option linter.unusedVariables false
namespace Go.Proofs.Ytdiebjnjhgbklaa
open Abs Fil Fil.Sz
theorem rf_Nodes (e : E) : ∀ (σ : Sig), nodes e ≤ 16777216 → ACalls Try.prog 33 [encE e] σ (fun r σ' => r = .ret (.int .i64 (nodes e)) ∧ σ' = σ) := by
  refine E.ind (P := fun e => ∀ (σ : Sig), nodes e ≤ 16777216 → ACalls Try.prog 33 [encE e] σ (fun r σ' => r = .ret (.int .i64 (nodes e)) ∧ σ' = σ)) (fun e ih σ he => ?_) e
  have h1 := encEs_eq e
  have l1 := len_nodes e
  have hn := nodes_eq e
  have hE := fun (x : E) (hx : x ∈ e.l) τ => ih x hx τ (by have := part_nodes hx; omega)
  clear ih
  refine calls_x mixed Try.func33 b33 n33 rfl q33 (by simp) ?_; unfold c33 r33
  repeat' (first | simp (maxDischargeDepth := 9) -implicitDefEqProofs -dsimp only [go_sem, seval, *] | simp (disch := omega) only [wrap64] | ((with_reducible refine Zu ?_ ?_); focus omega))
  refine loop_rule (fun i : Nat => [(4, some (.int .i64 i)), (1, some (.cptr (eL e))), (3, some (.int .i64 ((1 + sumTo nodes e.l i : Nat) : Int)))]) (fun _ => σ) (fun i => i ≤ e.l.length) (fun i => e.l.length - i) 0 ?_ ?_
  · clear hE
    have e0 := sumTo_zero (f := nodes) (l := e.l)
    (repeat' (first | simp (maxDischargeDepth := 9) -implicitDefEqProofs -dsimp only [go_sem, seval, *] | simp (disch := omega) only [wrap64])) <;> (repeat' refine And.intro ?_ ?_) <;> (first | omega | rfl | assumption | skip)
  · intro i hi
    have hle := sumTo_le (f := nodes) (l := e.l) (i := i)
    by_cases hlt : i < e.l.length
    · have hs := sumTo_succ (f := nodes) hlt
      have hc := fun τ => hE e.l[i] (List.getElem_mem hlt) τ
      have hm := part_nodes (List.getElem_mem hlt)
      clear hE
      repeat' (first | simp (maxDischargeDepth := 9) -implicitDefEqProofs -dsimp only [go_sem, seval, *] | simp (disch := omega) only [wrap64] | ((with_reducible refine Zu ?_ ?_); focus omega) | ((with_reducible apply ACalls.one1); (focus ((first | with_reducible refine hc _) <;> (first | (simp (maxDischargeDepth := 9) -implicitDefEqProofs -dsimp only [go_sem, seval, *]; done) | omega))); (focus (first | trivial | with_reducible exact rfl | (simp (maxDischargeDepth := 9) -implicitDefEqProofs -dsimp only [go_sem, seval]; done)))))
      refine loop_next _ _ _ _ (i + 1) ?_; (repeat' (first | simp (maxDischargeDepth := 9) -implicitDefEqProofs -dsimp only [go_sem, seval, *] | simp (disch := omega) only [wrap64])) <;> (repeat' refine And.intro ?_ ?_) <;> (first | omega | rfl | assumption | skip)
    · have ei : i = e.l.length := by omega
      subst ei
      rw [sumTo_all, ← hn]
      clear hE
      repeat' (first | simp (maxDischargeDepth := 9) -implicitDefEqProofs -dsimp only [go_sem, seval, *] | simp (disch := omega) only [wrap64] | ((with_reducible refine Zu ?_ ?_); focus omega))
      refine fin_eq ?_
      (repeat' (first | simp (maxDischargeDepth := 9) -implicitDefEqProofs -dsimp only [go_sem, seval, *] | simp (disch := omega) only [wrap64])) <;> (repeat' refine And.intro ?_ ?_) <;> (first | omega | rfl | assumption | skip)
theorem rf_Deep (e : E) : ∀ (σ : Sig), nodes e ≤ 16777216 → ACalls Try.prog 30 [encE e] σ (fun r σ' => r = .ret (.int .i64 (deep e)) ∧ σ' = σ) := by
  refine E.ind (P := fun e => ∀ (σ : Sig), nodes e ≤ 16777216 → ACalls Try.prog 30 [encE e] σ (fun r σ' => r = .ret (.int .i64 (deep e)) ∧ σ' = σ)) (fun e ih σ he => ?_) e
  have h1 := encEs_eq e
  have l1 := len_nodes e
  have hn := deep_eq e
  have hd := deep_le e
  have hE := fun (x : E) (hx : x ∈ e.l) τ => ih x hx τ (by have := part_nodes hx; omega)
  clear ih
  refine calls_x mixed Try.func30 b30 n30 rfl q30 (by simp) ?_; unfold c30 r30
  repeat' (first | simp (maxDischargeDepth := 9) -implicitDefEqProofs -dsimp only [go_sem, seval, *] | simp (disch := omega) only [wrap64] | ((with_reducible refine Zu ?_ ?_); focus omega))
  refine loop_rule (fun i : Nat => [(4, some (.int .i64 i)), (1, some (.cptr (eL e))), (3, some (.int .i64 (maxTo deep e.l i : Nat)))]) (fun _ => σ) (fun i => i ≤ e.l.length) (fun i => e.l.length - i) 0 ?_ ?_
  · clear hE
    have e0 := maxTo_zero (f := deep) (l := e.l)
    (repeat' (first | simp (maxDischargeDepth := 9) -implicitDefEqProofs -dsimp only [go_sem, seval, *] | simp (disch := omega) only [wrap64])) <;> (repeat' refine And.intro ?_ ?_) <;> (first | omega | rfl | assumption | skip)
  · intro i hi
    have hle := maxTo_le (f := deep) (l := e.l) (i := i)
    by_cases hlt : i < e.l.length
    · have hs := maxTo_succ (f := deep) hlt
      have hc := fun τ => hE e.l[i] (List.getElem_mem hlt) τ
      clear hE
      repeat' (first | simp (maxDischargeDepth := 9) -implicitDefEqProofs -dsimp only [go_sem, seval, *] | simp (disch := omega) only [wrap64] | ((with_reducible refine Zu ?_ ?_); focus omega) | ((with_reducible apply ACalls.one1); (focus ((first | with_reducible refine hc _) <;> (first | (simp (maxDischargeDepth := 9) -implicitDefEqProofs -dsimp only [go_sem, seval, *]; done) | omega))); (focus (first | trivial | with_reducible exact rfl | (simp (maxDischargeDepth := 9) -implicitDefEqProofs -dsimp only [go_sem, seval]; done)))))
      refine loop_next _ _ _ _ (i + 1) ?_; (repeat' (first | simp (maxDischargeDepth := 9) -implicitDefEqProofs -dsimp only [go_sem, seval, *] | simp (disch := omega) only [wrap64])) <;> (repeat' refine And.intro ?_ ?_) <;> (first | omega | rfl | assumption | skip)
    · have ei : i = e.l.length := by omega
      subst ei
      rw [maxTo_all] at hle ⊢
      clear hE
      repeat' (first | simp (maxDischargeDepth := 9) -implicitDefEqProofs -dsimp only [go_sem, seval, *] | simp (disch := omega) only [wrap64] | ((with_reducible refine Zu ?_ ?_); focus omega))
      refine fin_eq ?_
      (repeat' (first | simp (maxDischargeDepth := 9) -implicitDefEqProofs -dsimp only [go_sem, seval, *] | simp (disch := omega) only [wrap64])) <;> (repeat' refine And.intro ?_ ?_) <;> (first | omega | rfl | assumption | skip)
theorem rf_NodesT_step (l : List T) (hl : (l.map nodesT).sum ≤ 16777216) (ih : ∀ t ∈ l, ∀ τ, ACalls Try.prog 65 [.slice (t.l.map encT) .no] τ (fun r σ' => r = .ret (.int .i64 ((t.l.map nodesT).sum : Nat)) ∧ σ' = τ)) (σ : Sig) :
    ACalls Try.prog 65 [.slice (l.map encT) .no] σ (fun r σ' => r = .ret (.int .i64 ((l.map nodesT).sum : Nat)) ∧ σ' = σ) := by
  have l1 := len_sum nodesT_pos l
  have e0 := sumTo_zero (f := nodesT) (l := l)
  refine calls_x mixed Try.func65 b65 n65 rfl q65 (by simp) ?_; unfold c65 r65
  repeat' (first | simp (maxDischargeDepth := 9) -implicitDefEqProofs -dsimp only [go_sem, seval, *] | simp (disch := omega) only [wrap64] | ((with_reducible refine Zu ?_ ?_); focus omega))
  refine loop_rule (fun i : Nat => [(4, some (.int .i64 i)), (0, some (.slice (l.map encT) .no)), (3, some (.int .i64 (sumTo nodesT l i : Nat)))]) (fun _ => σ) (fun i => i ≤ l.length) (fun i => l.length - i) 0 ?_ ?_
  · clear ih
    (repeat' (first | simp (maxDischargeDepth := 9) -implicitDefEqProofs -dsimp only [go_sem, seval, *] | simp (disch := omega) only [wrap64])) <;> (repeat' refine And.intro ?_ ?_) <;> (first | omega | rfl | assumption | skip)
  · intro i hi
    have hle := sumTo_le (f := nodesT) (l := l) (i := i)
    by_cases hlt : i < l.length
    · have hx := encTs_eq l[i]
      have hs := sumTo_succ (f := nodesT) hlt
      have hc := fun τ => ih l[i] (List.getElem_mem hlt) τ
      have hm := mem_sum (f := nodesT) (List.getElem_mem hlt)
      have hn := nodesT_eq l[i]
      have hE := fun (x : E) (hx : x ∈ l[i].e) τ => rf_Nodes x τ (by have := partE_nodes hx; omega)
      have f0 := sumTo_zero (f := nodes) (l := l[i].e)
      have hb := sumTo_le (f := nodesT) (l := l) (i := i + 1)
      clear ih
      repeat' (first | simp (maxDischargeDepth := 9) -implicitDefEqProofs -dsimp only [go_sem, seval, *] | simp (disch := omega) only [wrap64] | ((with_reducible refine Zu ?_ ?_); focus omega) | ((with_reducible apply ACalls.one1); (focus ((first | with_reducible refine hc _) <;> (first | (simp (maxDischargeDepth := 9) -implicitDefEqProofs -dsimp only [go_sem, seval, *]; done) | omega))); (focus (first | trivial | with_reducible exact rfl | (simp (maxDischargeDepth := 9) -implicitDefEqProofs -dsimp only [go_sem, seval]; done)))))
      refine loop_rule (fun k : Nat => [(5, some (.int .i64 k)), (0, some (.slice (l.map encT) .no)), (4, some (.int .i64 i)), (3, some (.int .i64 ((sumTo nodesT l i + 1 + (l[i].l.map nodesT).sum + sumTo nodes l[i].e k : Nat) : Int)))]) (fun _ => σ) (fun k => k ≤ l[i].e.length) (fun k => l[i].e.length - k) 0 ?_ ?_
      · clear hc hE
        (repeat' (first | simp (maxDischargeDepth := 9) -implicitDefEqProofs -dsimp only [go_sem, seval, *] | simp (disch := omega) only [wrap64])) <;> (repeat' refine And.intro ?_ ?_) <;> (first | omega | rfl | assumption | skip)
      · intro k hk
        have gle := sumTo_le (f := nodes) (l := l[i].e) (i := k)
        have hel := lenE_nodes l[i]
        by_cases hkt : k < l[i].e.length
        · have gs := sumTo_succ (f := nodes) hkt
          have gb := sumTo_le (f := nodes) (l := l[i].e) (i := k + 1)
          have ge := fun τ => hE l[i].e[k] (List.getElem_mem hkt) τ
          clear hc hE
          repeat' (first | simp (maxDischargeDepth := 9) -implicitDefEqProofs -dsimp only [go_sem, seval, *] | simp (disch := omega) only [wrap64] | ((with_reducible refine Zu ?_ ?_); focus omega) | ((with_reducible apply ACalls.one1); (focus ((first | with_reducible refine ge _) <;> (first | (simp (maxDischargeDepth := 9) -implicitDefEqProofs -dsimp only [go_sem, seval, *]; done) | omega))); (focus (first | trivial | with_reducible exact rfl | (simp (maxDischargeDepth := 9) -implicitDefEqProofs -dsimp only [go_sem, seval]; done)))))
          refine loop_next _ _ _ _ (k + 1) ?_; (repeat' (first | simp (maxDischargeDepth := 9) -implicitDefEqProofs -dsimp only [go_sem, seval, *] | simp (disch := omega) only [wrap64])) <;> (repeat' refine And.intro ?_ ?_) <;> (first | omega | rfl | assumption | skip)
        · have ek : k = l[i].e.length := by omega
          subst ek
          have ga := sumTo_all (f := nodes) (l := l[i].e)
          clear hc hE
          repeat' (first | simp (maxDischargeDepth := 9) -implicitDefEqProofs -dsimp only [go_sem, seval, *] | simp (disch := omega) only [wrap64] | ((with_reducible refine Zu ?_ ?_); focus omega))
          refine loop_next _ _ _ _ (i + 1) ?_; (repeat' (first | simp (maxDischargeDepth := 9) -implicitDefEqProofs -dsimp only [go_sem, seval, *] | simp (disch := omega) only [wrap64])) <;> (repeat' refine And.intro ?_ ?_) <;> (first | omega | rfl | assumption | skip)
    · have ei : i = l.length := by omega
      subst ei
      rw [sumTo_all] at hle ⊢
      clear ih
      repeat' (first | simp (maxDischargeDepth := 9) -implicitDefEqProofs -dsimp only [go_sem, seval, *] | simp (disch := omega) only [wrap64] | ((with_reducible refine Zu ?_ ?_); focus omega))
      refine fin_eq ?_
      (repeat' (first | simp (maxDischargeDepth := 9) -implicitDefEqProofs -dsimp only [go_sem, seval, *] | simp (disch := omega) only [wrap64])) <;> (repeat' refine And.intro ?_ ?_) <;> (first | omega | rfl | assumption | skip)
theorem rf_NodesT (l : List T) (σ : Sig) (hl : (l.map nodesT).sum ≤ 16777216) : ACalls Try.prog 65 [.slice (l.map encT) .no] σ (fun r σ' => r = .ret (.int .i64 ((l.map nodesT).sum : Nat)) ∧ σ' = σ) := by
  have key : ∀ t : T, nodesT t ≤ 16777216 → ∀ τ, ACalls Try.prog 65 [.slice (t.l.map encT) .no] τ (fun r σ' => r = .ret (.int .i64 ((t.l.map nodesT).sum : Nat)) ∧ σ' = τ) := fun t => by
    refine T.ind (P := fun t => nodesT t ≤ 16777216 → ∀ τ, ACalls Try.prog 65 [.slice (t.l.map encT) .no] τ (fun r σ' => r = .ret (.int .i64 ((t.l.map nodesT).sum : Nat)) ∧ σ' = τ)) (fun t ih ht τ => ?_) t
    exact rf_NodesT_step t.l (by have := sub_nodesT t; omega) (fun x hx => ih x hx (by have := partT_nodes hx; omega)) τ
  exact rf_NodesT_step l hl (fun t ht => key t (by have := mem_sum (f := nodesT) ht; omega)) σ
theorem rf_deepT_step (l : List T) (hl : (l.map nodesT).sum ≤ 16777216) (ih : ∀ t ∈ l, ∀ τ, ACalls Try.prog 66 [.slice (t.l.map encT) .no] τ (fun r σ' => r = .ret (.int .i64 (maxL (t.l.map deepT) : Nat)) ∧ σ' = τ)) (σ : Sig) :
    ACalls Try.prog 66 [.slice (l.map encT) .no] σ (fun r σ' => r = .ret (.int .i64 (maxL (l.map deepT) : Nat)) ∧ σ' = σ) := by
  have l1 := len_sum nodesT_pos l
  have e0 := maxTo_zero (f := deepT) (l := l)
  have hall : maxL (l.map deepT) ≤ 16777216 := by
    have := maxL_sum (l.map deepT)
    have := sum_mono (f := deepT) (g := nodesT) (l := l) fun x _ => deepT_le x
    omega
  refine calls_x mixed Try.func66 b66 n66 rfl q66 (by simp) ?_; unfold c66 r66
  repeat' (first | simp (maxDischargeDepth := 9) -implicitDefEqProofs -dsimp only [go_sem, seval, *] | simp (disch := omega) only [wrap64] | ((with_reducible refine Zu ?_ ?_); focus omega))
  refine loop_rule (fun i : Nat => [(4, some (.int .i64 i)), (0, some (.slice (l.map encT) .no)), (3, some (.int .i64 (maxTo deepT l i : Nat)))]) (fun _ => σ) (fun i => i ≤ l.length) (fun i => l.length - i) 0 ?_ ?_
  · clear ih
    (repeat' (first | simp (maxDischargeDepth := 9) -implicitDefEqProofs -dsimp only [go_sem, seval, *] | simp (disch := omega) only [wrap64])) <;> (repeat' refine And.intro ?_ ?_) <;> (first | omega | rfl | assumption | skip)
  · intro i hi
    have hle := maxTo_le (f := deepT) (l := l) (i := i)
    by_cases hlt : i < l.length
    · have hx := encTs_eq l[i]
      have hs := maxTo_succ (f := deepT) hlt
      have hc := fun τ => ih l[i] (List.getElem_mem hlt) τ
      have hm := mem_sum (f := nodesT) (List.getElem_mem hlt)
      have hd := deepT_le l[i]
      have hn := deepT_eq l[i]
      have hE := fun (x : E) (hx : x ∈ l[i].e) τ => rf_Deep x τ (by have := partE_nodes hx; omega)
      have f0 := maxTo_zero (f := deep) (l := l[i].e)
      clear ih
      repeat' (first | simp (maxDischargeDepth := 9) -implicitDefEqProofs -dsimp only [go_sem, seval, *] | simp (disch := omega) only [wrap64] | ((with_reducible refine Zu ?_ ?_); focus omega) | ((with_reducible apply ACalls.one1); (focus ((first | with_reducible refine hc _) <;> (first | (simp (maxDischargeDepth := 9) -implicitDefEqProofs -dsimp only [go_sem, seval, *]; done) | omega))); (focus (first | trivial | with_reducible exact rfl | (simp (maxDischargeDepth := 9) -implicitDefEqProofs -dsimp only [go_sem, seval]; done)))))
      refine loop_rule (fun k : Nat => [(5, some (.int .i64 k)), (0, some (.slice (l.map encT) .no)), (4, some (.int .i64 i)), (3, some (.int .i64 ((max (maxTo deepT l i) (1 + max (maxL (l[i].l.map deepT)) (maxTo deep l[i].e k)) : Nat) : Int)))]) (fun _ => σ) (fun k => k ≤ l[i].e.length) (fun k => l[i].e.length - k) 0 ?_ ?_
      · clear hc hE
        (repeat' (first | simp (maxDischargeDepth := 9) -implicitDefEqProofs -dsimp only [go_sem, seval, *] | simp (disch := omega) only [wrap64])) <;> (repeat' refine And.intro ?_ ?_) <;> (first | omega | rfl | assumption | skip)
      · intro k hk
        have gle := maxTo_le (f := deep) (l := l[i].e) (i := k)
        have hel := lenE_nodes l[i]
        by_cases hkt : k < l[i].e.length
        · have gs := maxTo_succ (f := deep) hkt
          have gb := maxTo_le (f := deep) (l := l[i].e) (i := k + 1)
          have ge := fun τ => hE l[i].e[k] (List.getElem_mem hkt) τ
          clear hc hE
          repeat' (first | simp (maxDischargeDepth := 9) -implicitDefEqProofs -dsimp only [go_sem, seval, *] | simp (disch := omega) only [wrap64] | ((with_reducible refine Zu ?_ ?_); focus omega) | ((with_reducible apply ACalls.one1); (focus ((first | with_reducible refine ge _) <;> (first | (simp (maxDischargeDepth := 9) -implicitDefEqProofs -dsimp only [go_sem, seval, *]; done) | omega))); (focus (first | trivial | with_reducible exact rfl | (simp (maxDischargeDepth := 9) -implicitDefEqProofs -dsimp only [go_sem, seval]; done)))))
          refine loop_next _ _ _ _ (k + 1) ?_; (repeat' (first | simp (maxDischargeDepth := 9) -implicitDefEqProofs -dsimp only [go_sem, seval, *] | simp (disch := omega) only [wrap64])) <;> (repeat' refine And.intro ?_ ?_) <;> (first | omega | rfl | assumption | skip)
        · have ek : k = l[i].e.length := by omega
          subst ek
          have ga := maxTo_all (f := deep) (l := l[i].e)
          clear hc hE
          repeat' (first | simp (maxDischargeDepth := 9) -implicitDefEqProofs -dsimp only [go_sem, seval, *] | simp (disch := omega) only [wrap64] | ((with_reducible refine Zu ?_ ?_); focus omega))
          refine loop_next _ _ _ _ (i + 1) ?_; (repeat' (first | simp (maxDischargeDepth := 9) -implicitDefEqProofs -dsimp only [go_sem, seval, *] | simp (disch := omega) only [wrap64])) <;> (repeat' refine And.intro ?_ ?_) <;> (first | omega | rfl | assumption | skip)
    · have ei : i = l.length := by omega
      subst ei
      rw [maxTo_all] at hle ⊢
      clear ih
      repeat' (first | simp (maxDischargeDepth := 9) -implicitDefEqProofs -dsimp only [go_sem, seval, *] | simp (disch := omega) only [wrap64] | ((with_reducible refine Zu ?_ ?_); focus omega))
      refine fin_eq ?_
      (repeat' (first | simp (maxDischargeDepth := 9) -implicitDefEqProofs -dsimp only [go_sem, seval, *] | simp (disch := omega) only [wrap64])) <;> (repeat' refine And.intro ?_ ?_) <;> (first | omega | rfl | assumption | skip)
theorem rf_deepT (l : List T) (σ : Sig) (hl : (l.map nodesT).sum ≤ 16777216) : ACalls Try.prog 66 [.slice (l.map encT) .no] σ (fun r σ' => r = .ret (.int .i64 (maxL (l.map deepT) : Nat)) ∧ σ' = σ) := by
  have key : ∀ t : T, nodesT t ≤ 16777216 → ∀ τ, ACalls Try.prog 66 [.slice (t.l.map encT) .no] τ (fun r σ' => r = .ret (.int .i64 (maxL (t.l.map deepT) : Nat)) ∧ σ' = τ) := fun t => by
    refine T.ind (P := fun t => nodesT t ≤ 16777216 → ∀ τ, ACalls Try.prog 66 [.slice (t.l.map encT) .no] τ (fun r σ' => r = .ret (.int .i64 (maxL (t.l.map deepT) : Nat)) ∧ σ' = τ)) (fun t ih ht τ => ?_) t
    exact rf_deepT_step t.l (by have := sub_nodesT t; omega) (fun x hx => ih x hx (by have := partT_nodes hx; omega)) τ
  exact rf_deepT_step l hl (fun t ht => key t (by have := mem_sum (f := nodesT) ht; omega)) σ
theorem rf_measure (d : Flat) (σ : Sig) (hd : Sm d) : ACalls Try.prog 34 [encD d] σ (fun r σ' => r = .ret (.tup [.int .i64 (nodesD d), .int .i64 (deepD d)]) ∧ σ' = σ) := by
  have p1 := fun (p : Pr) (hp : p ∈ d.procs) τ => rf_NodesT p.l τ (sm_pr hd hp)
  have p2 := fun (p : Pr) (hp : p ∈ d.procs) τ => rf_deepT p.l τ (sm_pr hd hp)
  have p3 := fun (c : Ck) (hc : c ∈ d.chks) τ => rf_Nodes c.e τ (sm_ck hd hc)
  have p4 := fun (c : Ck) (hc : c ∈ d.chks) τ => rf_Deep c.e τ (sm_ck hd hc)
  have l1 := hd.2.1
  have l2 := hd.2.2.1
  have hN : nodesD d = (d.procs.map nodesP).sum + (d.chks.map fun c => nodes c.e).sum := rfl
  have hD : deepD d = max (maxL (d.procs.map deepP)) (maxL (d.chks.map fun c => deep c.e)) := rfl
  have hNb := hd.2.2.2
  have hDb := deepD_le d
  have e0 := sumTo_zero (f := nodesP) (l := d.procs)
  have e1 := maxTo_zero (f := deepP) (l := d.procs)
  have e2 := sumTo_zero (f := fun c : Ck => nodes c.e) (l := d.chks)
  have e3 := maxTo_zero (f := fun c : Ck => deep c.e) (l := d.chks)
  clear hd
  refine calls_x mixed Try.func34 b34 n34 rfl q34 (by simp) ?_; unfold c34 r34
  repeat' (first | simp (maxDischargeDepth := 9) -implicitDefEqProofs -dsimp only [go_sem, seval, *] | simp (disch := omega) only [wrap64] | ((with_reducible refine Zu ?_ ?_); focus omega))
  refine loop_rule (fun i : Nat => [(6, some (.int .i64 i)), (1, some (.cptr (dL d))), (4, some (.int .i64 (sumTo nodesP d.procs i : Nat))), (5, some (.int .i64 (maxTo deepP d.procs i : Nat)))]) (fun _ => σ) (fun i => i ≤ d.procs.length) (fun i => d.procs.length - i) 0 ?_ ?_
  · clear p1 p2 p3 p4
    (repeat' (first | simp (maxDischargeDepth := 9) -implicitDefEqProofs -dsimp only [go_sem, seval, *] | simp (disch := omega) only [wrap64])) <;> (repeat' refine And.intro ?_ ?_) <;> (first | omega | rfl | assumption | skip)
  · intro i hi
    have hle := sumTo_le (f := nodesP) (l := d.procs) (i := i)
    have hle2 := maxTo_le (f := deepP) (l := d.procs) (i := i)
    by_cases hlt : i < d.procs.length
    · have hs := sumTo_succ (f := nodesP) hlt
      have hs2 := maxTo_succ (f := deepP) hlt
      have hb := sumTo_le (f := nodesP) (l := d.procs) (i := i + 1)
      have c1 := fun τ => p1 d.procs[i] (List.getElem_mem hlt) τ
      have c2 := fun τ => p2 d.procs[i] (List.getElem_mem hlt) τ
      have u1 : (d.procs[i].l.map nodesT).sum = nodesP d.procs[i] := rfl
      have u2 : maxL (d.procs[i].l.map deepT) = deepP d.procs[i] := rfl
      rw [u1] at c1
      rw [u2] at c2
      clear p1 p2 p3 p4
      repeat' (first | simp (maxDischargeDepth := 9) -implicitDefEqProofs -dsimp only [go_sem, seval, *] | simp (disch := omega) only [wrap64] | ((with_reducible refine Zu ?_ ?_); focus omega) | ((with_reducible apply ACalls.one1); (focus ((first | with_reducible refine c1 _ | with_reducible refine c2 _) <;> (first | (simp (maxDischargeDepth := 9) -implicitDefEqProofs -dsimp only [go_sem, seval, *]; done) | omega))); (focus (first | trivial | with_reducible exact rfl | (simp (maxDischargeDepth := 9) -implicitDefEqProofs -dsimp only [go_sem, seval]; done)))))
      refine loop_next _ _ _ _ (i + 1) ?_; (repeat' (first | simp (maxDischargeDepth := 9) -implicitDefEqProofs -dsimp only [go_sem, seval, *] | simp (disch := omega) only [wrap64])) <;> (repeat' refine And.intro ?_ ?_) <;> (first | omega | rfl | assumption | skip)
    · have ei : i = d.procs.length := by omega
      subst ei
      have a1 := sumTo_all (f := nodesP) (l := d.procs)
      have a2 := maxTo_all (f := deepP) (l := d.procs)
      rw [a1, a2]
      clear p1 p2 a1 a2
      repeat' (first | simp (maxDischargeDepth := 9) -implicitDefEqProofs -dsimp only [go_sem, seval, *] | simp (disch := omega) only [wrap64] | ((with_reducible refine Zu ?_ ?_); focus omega))
      refine loop_rule (fun i : Nat => [(7, some (.int .i64 i)), (1, some (.cptr (dL d))), (4, some (.int .i64 (((d.procs.map nodesP).sum + sumTo (fun c : Ck => nodes c.e) d.chks i : Nat) : Int))), (5, some (.int .i64 ((max (maxL (d.procs.map deepP)) (maxTo (fun c : Ck => deep c.e) d.chks i) : Nat) : Int)))]) (fun _ => σ) (fun i => i ≤ d.chks.length) (fun i => d.chks.length - i) 0 ?_ ?_
      · clear p3 p4
        (repeat' (first | simp (maxDischargeDepth := 9) -implicitDefEqProofs -dsimp only [go_sem, seval, *] | simp (disch := omega) only [wrap64])) <;> (repeat' refine And.intro ?_ ?_) <;> (first | omega | rfl | assumption | skip)
      · intro k hk
        have gle := sumTo_le (f := fun c : Ck => nodes c.e) (l := d.chks) (i := k)
        have gle2 := maxTo_le (f := fun c : Ck => deep c.e) (l := d.chks) (i := k)
        by_cases hkt : k < d.chks.length
        · have gs := sumTo_succ (f := fun c : Ck => nodes c.e) hkt
          have gs2 := maxTo_succ (f := fun c : Ck => deep c.e) hkt
          have gb := sumTo_le (f := fun c : Ck => nodes c.e) (l := d.chks) (i := k + 1)
          have c1 := fun τ => p3 d.chks[k] (List.getElem_mem hkt) τ
          have c2 := fun τ => p4 d.chks[k] (List.getElem_mem hkt) τ
          clear p3 p4
          repeat' (first | simp (maxDischargeDepth := 9) -implicitDefEqProofs -dsimp only [go_sem, seval, *] | simp (disch := omega) only [wrap64] | ((with_reducible refine Zu ?_ ?_); focus omega) | ((with_reducible apply ACalls.one1); (focus ((first | with_reducible refine c1 _ | with_reducible refine c2 _) <;> (first | (simp (maxDischargeDepth := 9) -implicitDefEqProofs -dsimp only [go_sem, seval, *]; done) | omega))); (focus (first | trivial | with_reducible exact rfl | (simp (maxDischargeDepth := 9) -implicitDefEqProofs -dsimp only [go_sem, seval]; done)))))
          refine loop_next _ _ _ _ (k + 1) ?_; (repeat' (first | simp (maxDischargeDepth := 9) -implicitDefEqProofs -dsimp only [go_sem, seval, *] | simp (disch := omega) only [wrap64])) <;> (repeat' refine And.intro ?_ ?_) <;> (first | omega | rfl | assumption | skip)
        · have ek : k = d.chks.length := by omega
          subst ek
          have b1 := sumTo_all (f := fun c : Ck => nodes c.e) (l := d.chks)
          have b2 := maxTo_all (f := fun c : Ck => deep c.e) (l := d.chks)
          rw [b1, b2]
          clear p3 p4 b1 b2
          repeat' (first | simp (maxDischargeDepth := 9) -implicitDefEqProofs -dsimp only [go_sem, seval, *] | simp (disch := omega) only [wrap64] | ((with_reducible refine Zu ?_ ?_); focus omega))
          refine fin_eq ?_
          (repeat' (first | simp (maxDischargeDepth := 9) -implicitDefEqProofs -dsimp only [go_sem, seval, *] | simp (disch := omega) only [wrap64])) <;> (repeat' refine And.intro ?_ ?_) <;> (first | omega | rfl | assumption | skip)
def smallD (d : Flat) : Bool := decide (nodesD d ≤ 2000 ∧ deepD d ≤ 100 ∧ d.sigs.length ≤ 100 ∧ d.procs.length ≤ 200 ∧ d.chks.length ≤ 100)
theorem rf_Small (d : Flat) (σ : Sig) (hd : Sm d) : ACalls Try.prog 15 [encD d] σ (fun r σ' => r = .ret (.bool (smallD d)) ∧ σ' = σ) := by
  have hc := fun τ => rf_measure d τ hd
  refine calls_x mixed Try.func15 b15 n15 rfl q15 (by simp) ?_; unfold c15 r15
  obtain ⟨x, hx⟩ : ∃ x, smallD d = x := ⟨_, rfl⟩
  unfold smallD at hx
  cases x with
  | true =>
    simp only [decide_eq_true_eq] at hx
    obtain ⟨h1, h2, h3, h4, h5⟩ := hx
    have hv : smallD d = true := by simp only [smallD, decide_eq_true_eq]; exact ⟨h1, h2, h3, h4, h5⟩
    have i1 : (nodesD d : Int) ≤ 2000 := by omega
    have i2 : (deepD d : Int) ≤ 100 := by omega
    have i3 : (d.sigs.length : Int) ≤ 100 := by omega
    have i4 : (d.procs.length : Int) ≤ 200 := by omega
    have i5 : (d.chks.length : Int) ≤ 100 := by omega
    repeat' (first | simp (maxDischargeDepth := 9) -implicitDefEqProofs -dsimp only [go_sem, seval, decide_true, *] | (with_reducible (first | apply Za) <;> intro hq) | ((with_reducible apply ACalls.one1); (focus ((first | with_reducible refine hc _) <;> (first | (simp (maxDischargeDepth := 9) -implicitDefEqProofs -dsimp only [go_sem, seval, *]; done) | omega))); (focus (first | trivial | with_reducible exact rfl | (simp (maxDischargeDepth := 9) -implicitDefEqProofs -dsimp only [go_sem, seval]; done)))))
    refine fin_eq ?_
    (repeat' (first | simp (maxDischargeDepth := 9) -implicitDefEqProofs -dsimp only [go_sem, seval, *])) <;> (repeat' refine And.intro ?_ ?_) <;> (first | omega | rfl | assumption | skip)
  | false =>
    simp only [decide_eq_false_iff_not] at hx
    have hv : smallD d = false := by simp only [smallD, decide_eq_false_iff_not]; exact hx
    repeat' (first | simp (maxDischargeDepth := 9) -implicitDefEqProofs -dsimp only [go_sem, seval, *] | (with_reducible (first | apply Za) <;> intro hq) | ((with_reducible apply ACalls.one1); (focus ((first | with_reducible refine hc _) <;> (first | (simp (maxDischargeDepth := 9) -implicitDefEqProofs -dsimp only [go_sem, seval, *]; done) | omega))); (focus (first | trivial | with_reducible exact rfl | (simp (maxDischargeDepth := 9) -implicitDefEqProofs -dsimp only [go_sem, seval]; done)))))
    all_goals first | (exfalso; omega) | skip
    all_goals
      refine fin_eq ?_
      (repeat' (first | simp (maxDischargeDepth := 9) -implicitDefEqProofs -dsimp only [go_sem, seval, *])) <;> (repeat' refine And.intro ?_ ?_) <;> (first | omega | rfl | assumption | skip)
    all_goals
      rw [eq_comm, decide_eq_false_iff_not]; omega
end Go.Proofs.Ytdiebjnjhgbklaa

namespace Go.Proofs.Ytdiebjnjhgbklaa
open Abs Fil Fil.Sz
abbrev cntC (n k : Int) : AObj := .cells [.int .i64 n, .int .i64 k]
abbrev cntV (n k : Int) : AV := .agg [.int .i64 n, .int .i64 k]
theorem sz_add (o : Nat) (n k m j : Int) (σ : Sig) (h : σ o = some (cntC n k)) (h1 : 0 ≤ n ∧ n ≤ 16777216) (h2 : 0 ≤ m ∧ m ≤ 16777216) :
    ACalls Try.prog 70 [.ptr o 0, cntV m j] σ (fun r σ' => r = .ret (.tup []) ∧ σ' = upd σ o (cntC (n + m) (max k j))) := by
  refine calls_x mixed Try.func70 b70 n70 rfl q70 (by simp) ?_; unfold c70 r70
  obtain ⟨a1, a2⟩ := h1
  obtain ⟨a3, a4⟩ := h2
  repeat' (first | simp (maxDischargeDepth := 9) -implicitDefEqProofs -dsimp only [go_sem, seval, *] | simp (disch := omega) only [wrap64])
  refine fin_eq ?_
  (repeat' (first | simp (maxDischargeDepth := 9) -implicitDefEqProofs -dsimp only [go_sem, seval, *] | simp (disch := omega) only [wrap64])) <;> (repeat' refine And.intro ?_ ?_) <;> (first | omega | rfl | assumption | skip)
theorem sz_within (n k : Int) (σ : Sig) (h1 : 0 ≤ n ∧ n ≤ 16777216) (h2 : 0 ≤ k ∧ k ≤ 16777216) : ACalls Try.prog 71 [cntV n k] σ (fun r σ' => r = .ret (cntV (n + 1) (k + 1)) ∧ σ' = σ) := by
  refine calls_x mixed Try.func71 b71 n71 rfl q71 (by simp) ?_; unfold c71 r71
  obtain ⟨a1, a2⟩ := h1
  obtain ⟨a3, a4⟩ := h2
  repeat' (first | simp (maxDischargeDepth := 9) -implicitDefEqProofs -dsimp only [go_sem, seval, *] | simp (disch := omega) only [wrap64] | ((with_reducible refine Zt (fun oF hoF hnF hnF' => ?_)); (try simp only [upd_none, ne_eq, not_and] at hoF)))
  refine fin_eq ?_
  (repeat' (first | simp (maxDischargeDepth := 9) -implicitDefEqProofs -dsimp only [go_sem, seval, *] | simp (disch := omega) only [wrap64])) <;> (repeat' refine And.intro ?_ ?_) <;> (first | omega | rfl | assumption | skip)
theorem sz_cfits (n k : Int) (σ : Sig) : ACalls Try.prog 38 [cntV n k] σ (fun r σ' => r = .ret (.bool (decide (n ≤ 65536) && decide (k ≤ 64))) ∧ σ' = σ) := by
  refine calls_x mixed Try.func38 b38 n38 rfl q38 (by simp) ?_; unfold c38 r38
  repeat' (first | simp (maxDischargeDepth := 9) -implicitDefEqProofs -dsimp only [go_sem, seval, *] | (with_reducible (first | apply Za) <;> intro hq))
  all_goals
    refine fin_eq ?_
    (repeat' (first | simp (maxDischargeDepth := 9) -implicitDefEqProofs -dsimp only [go_sem, seval, decide_true, decide_false, Bool.true_and, Bool.false_and, *])) <;> (repeat' refine And.intro ?_ ?_) <;> (first | omega | rfl | assumption | skip)
theorem sz_countE (e : E) : ∀ (σ : Sig), nodes e ≤ 16777216 → ACalls Try.prog 37 [encE e] σ (fun r σ' => r = .ret (cntV (nodes e) (deep e)) ∧ σ' = σ) := by
  refine E.ind (P := fun e => ∀ (σ : Sig), nodes e ≤ 16777216 → ACalls Try.prog 37 [encE e] σ (fun r σ' => r = .ret (cntV (nodes e) (deep e)) ∧ σ' = σ)) (fun e ih σ he => ?_) e
  have h1 := encEs_eq e
  have l1 := len_nodes e
  have hn := nodes_eq e
  have hd := deep_eq e
  have hdl := deep_le e
  have hE := fun (x : E) (hx : x ∈ e.l) τ => ih x hx τ (by have := part_nodes hx; omega)
  clear ih
  refine calls_x mixed Try.func37 b37 n37 rfl q37 (by simp) ?_; unfold c37 r37
  repeat' (first | simp (maxDischargeDepth := 9) -implicitDefEqProofs -dsimp only [go_sem, seval, *] | simp (disch := omega) only [wrap64] | ((with_reducible refine Zu ?_ ?_); focus omega) | ((with_reducible refine Zt (fun oF hoF hnF hnF' => ?_)); (try simp only [upd_none, ne_eq, not_and] at hoF)))
  rename_i o2 ho2 n2 n2'
  obtain ⟨o3, e3⟩ : ∃ x, x = oF := ⟨oF, rfl⟩
  subst e3
  obtain ⟨a1, ho3⟩ := hoF
  have a2 : ¬ o2 = o3 := fun e => a1 e.symm
  clear n2 n2' hnF hnF'
  refine loop_rule (fun i : Nat => [(9, some (.int .i64 i)), (8, some (.int .i64 e.l.length)), (7, some (.slice (e.l.map encE) .no)), (3, some (.ptr o3 0)), (2, some (.ptr o2 0))])
    (fun i => upd (upd σ o2 (cntC 0 0)) o3 (cntC (sumTo nodes e.l i : Nat) (maxTo deep e.l i : Nat))) (fun i => i ≤ e.l.length) (fun i => e.l.length - i) 0 ?_ ?_
  · clear hE
    have e0 := sumTo_zero (f := nodes) (l := e.l)
    have e1 := maxTo_zero (f := deep) (l := e.l)
    (repeat' (first | simp (maxDischargeDepth := 9) -implicitDefEqProofs -dsimp only [go_sem, seval, *] | simp (disch := omega) only [wrap64])) <;> (repeat' refine And.intro ?_ ?_) <;> (first | omega | rfl | assumption | skip)
  · intro i hi
    have hle := sumTo_le (f := nodes) (l := e.l) (i := i)
    have hle2 := maxTo_le (f := deep) (l := e.l) (i := i)
    by_cases hlt : i < e.l.length
    · have hs := sumTo_succ (f := nodes) hlt
      have hs2 := maxTo_succ (f := deep) hlt
      have hc := fun τ => hE e.l[i] (List.getElem_mem hlt) τ
      have hm := part_nodes (List.getElem_mem hlt)
      have hcm : ((maxTo deep e.l (i + 1) : Nat) : Int) = max (maxTo deep e.l i : Nat) (deep e.l[i] : Nat) := by have := hs2; omega
      have hcs : ((sumTo nodes e.l (i + 1) : Nat) : Int) = (sumTo nodes e.l i : Nat) + (nodes e.l[i] : Nat) := by have := hs; omega
      have hadd := fun τ h => sz_add o3 (sumTo nodes e.l i : Nat) (maxTo deep e.l i : Nat) (nodes e.l[i] : Nat) (deep e.l[i] : Nat) τ h (by omega) (by omega)
      clear hE hs hs2
      repeat' (first | simp (maxDischargeDepth := 9) -implicitDefEqProofs -dsimp only [go_sem, seval, *] | simp (disch := omega) only [wrap64] | ((with_reducible refine Zu ?_ ?_); focus omega) | ((with_reducible refine Zt (fun oF hoF hnF hnF' => ?_)); (try simp only [upd_none, ne_eq, not_and] at hoF)) | ((with_reducible apply ACalls.one1); (focus ((first | with_reducible refine hc _ | with_reducible refine hadd _ ?_) <;> (first | (simp (maxDischargeDepth := 9) -implicitDefEqProofs -dsimp only [go_sem, seval, *]; done) | omega))); (focus (first | trivial | with_reducible exact rfl | (simp (maxDischargeDepth := 9) -implicitDefEqProofs -dsimp only [go_sem, seval]; done)))))
      refine loop_next _ _ _ _ (i + 1) ?_; (repeat' (first | simp (maxDischargeDepth := 9) -implicitDefEqProofs -dsimp only [go_sem, seval, *] | simp (disch := omega) only [wrap64])) <;> (repeat' refine And.intro ?_ ?_) <;> (first | omega | rfl | assumption | skip)
    · have ei : i = e.l.length := by omega
      subst ei
      rw [sumTo_all] at hle ⊢
      rw [maxTo_all] at hle2 ⊢
      obtain ⟨N, hN⟩ : ∃ N, (e.l.map nodes).sum = N := ⟨_, rfl⟩
      obtain ⟨D, hD⟩ : ∃ N, maxL (e.l.map deep) = N := ⟨_, rfl⟩
      rw [hN] at hn ⊢
      rw [hD] at hd ⊢
      have hw := fun τ => sz_within N D τ (by omega) (by omega)
      clear hE hN hD
      repeat' (first | simp (maxDischargeDepth := 9) -implicitDefEqProofs -dsimp only [go_sem, seval, *] | simp (disch := omega) only [wrap64] | ((with_reducible refine Zu ?_ ?_); focus omega) | ((with_reducible refine Zt (fun oF hoF hnF hnF' => ?_)); (try simp only [upd_none, ne_eq, not_and] at hoF)) | ((with_reducible apply ACalls.one1); (focus ((first | with_reducible refine hw _) <;> (first | (simp (maxDischargeDepth := 9) -implicitDefEqProofs -dsimp only [go_sem, seval, *]; done) | omega))); (focus (first | trivial | with_reducible exact rfl | (simp (maxDischargeDepth := 9) -implicitDefEqProofs -dsimp only [go_sem, seval]; done)))))
      refine fin_eq ?_
      (repeat' (first | simp (maxDischargeDepth := 9) -implicitDefEqProofs -dsimp only [go_sem, seval, *] | simp (disch := omega) only [wrap64])) <;> (repeat' refine And.intro ?_ ?_) <;> (first | omega | rfl | assumption | skip)
set_option maxHeartbeats 1000000 in
theorem sz_countT (t : T) : ∀ (σ : Sig), nodesT t ≤ 16777216 → ACalls Try.prog 83 [encT t] σ (fun r σ' => r = .ret (cntV (nodesT t) (deepT t)) ∧ σ' = σ) := by
  refine T.ind (P := fun t => ∀ (σ : Sig), nodesT t ≤ 16777216 → ACalls Try.prog 83 [encT t] σ (fun r σ' => r = .ret (cntV (nodesT t) (deepT t)) ∧ σ' = σ)) (fun t ih σ he => ?_) t
  have h1 := encTs_eq t
  have l1 := lenE_nodes t
  have l2 := lenL_nodes t
  have hn := nodesT_eq t
  have hd := deepT_eq t
  have hdl := deepT_le t
  have hE := fun (x : E) (hx : x ∈ t.e) τ => sz_countE x τ (by have := partE_nodes hx; omega)
  have hT := fun (x : T) (hx : x ∈ t.l) τ => ih x hx τ (by have := partT_nodes hx; omega)
  clear ih
  refine calls_x mixed Try.func83 b83 n83 rfl q83 (by simp) ?_; unfold c83 r83
  repeat' (first | simp (maxDischargeDepth := 9) -implicitDefEqProofs -dsimp only [go_sem, seval, *] | simp (disch := omega) only [wrap64] | ((with_reducible refine Zu ?_ ?_); focus omega) | ((with_reducible refine Zt (fun oF hoF hnF hnF' => ?_)); (try simp only [upd_none, ne_eq, not_and] at hoF)))
  rename_i o2 ho2 n2 n2'
  obtain ⟨o3, e3⟩ : ∃ x, x = oF := ⟨oF, rfl⟩
  subst e3
  obtain ⟨a1, ho3⟩ := hoF
  have a2 : ¬ o2 = o3 := fun e => a1 e.symm
  clear n2 n2' hnF hnF'
  refine loop_rule (fun i : Nat => [(11, some (.int .i64 i)), (10, some (.int .i64 t.e.length)), (9, some (.slice (t.e.map encE) .no)), (3, some (.ptr o3 0)), (1, some (.cptr (tL t))), (2, some (.ptr o2 0))])
    (fun i => upd (upd σ o2 (cntC 0 0)) o3 (cntC (sumTo nodes t.e i : Nat) (maxTo deep t.e i : Nat))) (fun i => i ≤ t.e.length) (fun i => t.e.length - i) 0 ?_ ?_
  · clear hE hT
    have e0 := sumTo_zero (f := nodes) (l := t.e)
    have e1 := maxTo_zero (f := deep) (l := t.e)
    (repeat' (first | simp (maxDischargeDepth := 9) -implicitDefEqProofs -dsimp only [go_sem, seval, *] | simp (disch := omega) only [wrap64])) <;> (repeat' refine And.intro ?_ ?_) <;> (first | omega | rfl | assumption | skip)
  · intro i hi
    have hle := sumTo_le (f := nodes) (l := t.e) (i := i)
    have hle2 := maxTo_le (f := deep) (l := t.e) (i := i)
    by_cases hlt : i < t.e.length
    · have hs := sumTo_succ (f := nodes) hlt
      have hs2 := maxTo_succ (f := deep) hlt
      have hc := fun τ => hE t.e[i] (List.getElem_mem hlt) τ
      have hm := partE_nodes (List.getElem_mem hlt)
      have hcm : ((maxTo deep t.e (i + 1) : Nat) : Int) = max (maxTo deep t.e i : Nat) (deep t.e[i] : Nat) := by have := hs2; omega
      have hcs : ((sumTo nodes t.e (i + 1) : Nat) : Int) = (sumTo nodes t.e i : Nat) + (nodes t.e[i] : Nat) := by have := hs; omega
      have hadd := fun τ h => sz_add o3 (sumTo nodes t.e i : Nat) (maxTo deep t.e i : Nat) (nodes t.e[i] : Nat) (deep t.e[i] : Nat) τ h (by omega) (by omega)
      clear hE hT hs hs2
      repeat' (first | simp (maxDischargeDepth := 9) -implicitDefEqProofs -dsimp only [go_sem, seval, *] | simp (disch := omega) only [wrap64] | ((with_reducible refine Zu ?_ ?_); focus omega) | ((with_reducible refine Zt (fun oF hoF hnF hnF' => ?_)); (try simp only [upd_none, ne_eq, not_and] at hoF)) | ((with_reducible apply ACalls.one1); (focus ((first | with_reducible refine hc _ | with_reducible refine hadd _ ?_) <;> (first | (simp (maxDischargeDepth := 9) -implicitDefEqProofs -dsimp only [go_sem, seval, *]; done) | omega))); (focus (first | trivial | with_reducible exact rfl | (simp (maxDischargeDepth := 9) -implicitDefEqProofs -dsimp only [go_sem, seval]; done)))))
      refine loop_next _ _ _ _ (i + 1) ?_; (repeat' (first | simp (maxDischargeDepth := 9) -implicitDefEqProofs -dsimp only [go_sem, seval, *] | simp (disch := omega) only [wrap64])) <;> (repeat' refine And.intro ?_ ?_) <;> (first | omega | rfl | assumption | skip)
    · have ei : i = t.e.length := by omega
      subst ei
      rw [sumTo_all] at hle ⊢
      rw [maxTo_all] at hle2 ⊢
      obtain ⟨N, hN⟩ : ∃ N, (t.e.map nodes).sum = N := ⟨_, rfl⟩
      obtain ⟨D, hD⟩ : ∃ N, maxL (t.e.map deep) = N := ⟨_, rfl⟩
      rw [hN] at hn ⊢
      rw [hD] at hd ⊢
      clear hE hN hD
      repeat' (first | simp (maxDischargeDepth := 9) -implicitDefEqProofs -dsimp only [go_sem, seval, *] | simp (disch := omega) only [wrap64] | ((with_reducible refine Zu ?_ ?_); focus omega) | ((with_reducible refine Zt (fun oF hoF hnF hnF' => ?_)); (try simp only [upd_none, ne_eq, not_and] at hoF)))
      refine loop_rule (fun i : Nat => [(22, some (.int .i64 i)), (21, some (.int .i64 t.l.length)), (20, some (.slice (t.l.map encT) .no)), (3, some (.ptr o3 0)), (2, some (.ptr o2 0))])
        (fun i => upd (upd σ o2 (cntC 0 0)) o3 (cntC ((N : Int) + (sumTo nodesT t.l i : Nat)) ((max D (maxTo deepT t.l i) : Nat) : Int))) (fun i => i ≤ t.l.length) (fun i => t.l.length - i) 0 ?_ ?_
      · clear hT
        have e0 := sumTo_zero (f := nodesT) (l := t.l)
        have e1 := maxTo_zero (f := deepT) (l := t.l)
        (repeat' (first | simp (maxDischargeDepth := 9) -implicitDefEqProofs -dsimp only [go_sem, seval, *] | simp (disch := omega) only [wrap64])) <;> (repeat' refine And.intro ?_ ?_) <;> (first | omega | rfl | assumption | skip)
      · intro i hi
        have gle := sumTo_le (f := nodesT) (l := t.l) (i := i)
        have gle2 := maxTo_le (f := deepT) (l := t.l) (i := i)
        by_cases hlt : i < t.l.length
        · have hs := sumTo_succ (f := nodesT) hlt
          have hs2 := maxTo_succ (f := deepT) hlt
          have hc := fun τ => hT t.l[i] (List.getElem_mem hlt) τ
          have hm := partT_nodes (List.getElem_mem hlt)
          have hcm : ((max D (maxTo deepT t.l (i + 1)) : Nat) : Int) = max ((max D (maxTo deepT t.l i) : Nat) : Int) (deepT t.l[i] : Nat) := by have := hs2; omega
          have hcs : ((N : Int) + (sumTo nodesT t.l (i + 1) : Nat)) = ((N : Int) + (sumTo nodesT t.l i : Nat)) + (nodesT t.l[i] : Nat) := by have := hs; omega
          have hadd := fun τ h => sz_add o3 ((N : Int) + (sumTo nodesT t.l i : Nat)) ((max D (maxTo deepT t.l i) : Nat) : Int) (nodesT t.l[i] : Nat) (deepT t.l[i] : Nat) τ h (by omega) (by omega)
          obtain ⟨A, hA⟩ : ∃ x, ((N : Int) + (sumTo nodesT t.l i : Nat)) = x := ⟨_, rfl⟩
          obtain ⟨B, hB⟩ : ∃ x, ((max D (maxTo deepT t.l i) : Nat) : Int) = x := ⟨_, rfl⟩
          rw [hA] at hcs hadd ⊢
          rw [hB] at hcm hadd ⊢
          clear hT hs hs2 hA hB
          repeat' (first | simp (maxDischargeDepth := 9) -implicitDefEqProofs -dsimp only [go_sem, seval, *] | simp (disch := omega) only [wrap64] | ((with_reducible refine Zu ?_ ?_); focus omega) | ((with_reducible refine Zt (fun oF hoF hnF hnF' => ?_)); (try simp only [upd_none, ne_eq, not_and] at hoF)) | ((with_reducible apply ACalls.one1); (focus ((first | with_reducible refine hc _ | with_reducible refine hadd _ ?_) <;> (first | (simp (maxDischargeDepth := 9) -implicitDefEqProofs -dsimp only [go_sem, seval, *]; done) | omega))); (focus (first | trivial | with_reducible exact rfl | (simp (maxDischargeDepth := 9) -implicitDefEqProofs -dsimp only [go_sem, seval]; done)))))
          refine loop_next _ _ _ _ (i + 1) ?_
          rw [hcs, hcm]
          (repeat' (first | simp (maxDischargeDepth := 9) -implicitDefEqProofs -dsimp only [go_sem, seval, *] | simp (disch := omega) only [wrap64])) <;> (repeat' refine And.intro ?_ ?_) <;> (first | omega | rfl | assumption | skip)
        · have ei : i = t.l.length := by omega
          subst ei
          rw [sumTo_all] at gle ⊢
          rw [maxTo_all] at gle2 ⊢
          obtain ⟨M, hM⟩ : ∃ x, N + (t.l.map nodesT).sum = x := ⟨_, rfl⟩
          obtain ⟨F, hF⟩ : ∃ x, max D (maxL (t.l.map deepT)) = x := ⟨_, rfl⟩
          have hw := fun τ => sz_within M F τ (by omega) (by omega)
          have q1 : nodesT t = M + 1 := by omega
          have q2 : deepT t = F + 1 := by omega
          have hM' : (N : Int) + ((t.l.map nodesT).sum : Nat) = (M : Nat) := by omega
          rw [hM', hF]
          clear hT hn hd
          repeat' (first | simp (maxDischargeDepth := 9) -implicitDefEqProofs -dsimp only [go_sem, seval, *] | simp (disch := omega) only [wrap64] | ((with_reducible refine Zu ?_ ?_); focus omega) | ((with_reducible refine Zt (fun oF hoF hnF hnF' => ?_)); (try simp only [upd_none, ne_eq, not_and] at hoF)) | ((with_reducible apply ACalls.one1); (focus ((first | with_reducible refine hw _) <;> (first | (simp (maxDischargeDepth := 9) -implicitDefEqProofs -dsimp only [go_sem, seval, *]; done) | omega))); (focus (first | trivial | with_reducible exact rfl | (simp (maxDischargeDepth := 9) -implicitDefEqProofs -dsimp only [go_sem, seval]; done)))))
          refine fin_eq ?_
          (repeat' (first | simp (maxDischargeDepth := 9) -implicitDefEqProofs -dsimp only [go_sem, seval, *] | simp (disch := omega) only [wrap64])) <;> (repeat' refine And.intro ?_ ?_) <;> (first | omega | rfl | assumption | skip)
set_option maxHeartbeats 2000000 in
set_option maxRecDepth 20000 in
theorem sz_fits (d : Flat) (σ : Sig) (hd : Sm d) : ACalls Try.prog 43 [encD d] σ (fun r σ' => r = .ret (.bool (fitsD d)) ∧ σ' = σ) := by
  have p1 := fun (p : Pr) (hp : p ∈ d.procs) (t : T) (ht : t ∈ p.l) τ => sz_countT t τ (by have := sm_pr hd hp; have := mem_sum (f := nodesT) ht; unfold nodesP at *; omega)
  have p3 := fun (c : Ck) (hc : c ∈ d.chks) τ => sz_countE c.e τ (sm_ck hd hc)
  have l1 := hd.2.1
  have l2 := hd.2.2.1
  have hN : nodesD d = (d.procs.map nodesP).sum + (d.chks.map fun c => nodes c.e).sum := rfl
  have hD : deepD d = max (maxL (d.procs.map deepP)) (maxL (d.chks.map fun c => deep c.e)) := rfl
  have hNb := hd.2.2.2
  have hDb := deepD_le d
  have hpl := fun (p : Pr) (hp : p ∈ d.procs) => sm_pr hd hp
  have e0 := sumTo_zero (f := nodesP) (l := d.procs)
  have e1 := maxTo_zero (f := deepP) (l := d.procs)
  have e2 := sumTo_zero (f := fun c : Ck => nodes c.e) (l := d.chks)
  have e3 := maxTo_zero (f := fun c : Ck => deep c.e) (l := d.chks)
  have hb : bitsD 4097 d.sigs ≤ 4097 * d.sigs.length := bits_bound 4097 d.sigs
  have hl := hd.1
  have hfd : fitsD d = decide (d.sigs.length ≤ 512 ∧ d.procs.length ≤ 1024 ∧ bitsD 4097 d.sigs ≤ 4096 ∧ nodesD d ≤ 65536 ∧ deepD d ≤ 64) := rfl
  have b0 := sumTo_zero (f := bitN 4097) (l := d.sigs)
  clear hd
  refine calls_x mixed Try.func43 b43 n43 rfl q43 (by simp) ?_; unfold c43 r43
  repeat' (first | simp (maxDischargeDepth := 9) -implicitDefEqProofs -dsimp only [go_sem, seval, *] | simp (disch := omega) only [wrap64] | (with_reducible (first | apply Za) <;> intro hq) | ((with_reducible refine Zu ?_ ?_); focus omega) | ((with_reducible refine Zt (fun oF hoF hnF hnF' => ?_)); (try simp only [upd_none, ne_eq, not_and] at hoF)))
  refine loop_rule (fun i : Nat => [(16, some (.int .i64 i)), (15, some (.int .i64 d.sigs.length)), (14, some (.slice (d.sigs.map encS) .no)), (1, some (.cptr (dL d))), (3, some (.int .i64 (sumTo (bitN 4097) d.sigs i : Nat)))]) (fun _ => σ) (fun i => i ≤ d.sigs.length) (fun i => d.sigs.length - i) 0 ?_ ?_
  · clear p1 p3 hpl
    (repeat' (first | simp (maxDischargeDepth := 9) -implicitDefEqProofs -dsimp only [go_sem, seval, *] | simp (disch := omega) only [wrap64])) <;> (repeat' refine And.intro ?_ ?_) <;> (first | omega | rfl | assumption | skip)
  · intro i hi
    have hle := sumTo_le (f := bitN 4097) (l := d.sigs) (i := i)
    have hbd : bitsD 4097 d.sigs = (d.sigs.map (bitN 4097)).sum := rfl
    by_cases hlt : i < d.sigs.length
    · have hs := sumTo_succ (f := bitN 4097) hlt
      have hle2 := sumTo_le (f := bitN 4097) (l := d.sigs) (i := i + 1)
      have hbn : max 0 (min d.sigs[i].w 4097) = (bitN 4097 d.sigs[i] : Nat) := by unfold bitN; omega
      clear p1 p3 hpl
      repeat' (first | simp (maxDischargeDepth := 9) -implicitDefEqProofs -dsimp only [go_sem, seval, *] | simp (disch := omega) only [wrap64] | (with_reducible (first | apply Za) <;> intro hq) | ((with_reducible refine Zu ?_ ?_); focus omega) | ((with_reducible refine Zt (fun oF hoF hnF hnF' => ?_)); (try simp only [upd_none, ne_eq, not_and] at hoF)))
      all_goals
        refine loop_next _ _ _ _ (i + 1) ?_; (repeat' (first | simp (maxDischargeDepth := 9) -implicitDefEqProofs -dsimp only [go_sem, seval, *] | simp (disch := omega) only [wrap64])) <;> (repeat' refine And.intro ?_ ?_) <;> (first | omega | rfl | assumption | skip)
    · have ei : i = d.sigs.length := by omega
      subst ei
      rw [sumTo_all, ← hbd]
      obtain ⟨B, hB⟩ : ∃ x, bitsD 4097 d.sigs = x := ⟨_, rfl⟩
      rw [hB] at hfd ⊢
      clear hle hbd hB hb b0
      repeat' (first | simp (maxDischargeDepth := 9) -implicitDefEqProofs -dsimp only [go_sem, seval, *] | simp (disch := omega) only [wrap64] | (with_reducible (first | apply Za) <;> intro hq) | ((with_reducible refine Zu ?_ ?_); focus omega) | ((with_reducible refine Zt (fun oF hoF hnF hnF' => ?_)); (try simp only [upd_none, ne_eq, not_and] at hoF)))
      clear hlt hi
      obtain ⟨o6, e6⟩ : ∃ x, x = oF := ⟨oF, rfl⟩
      subst e6
      have ho6 : σ o6 = none := hoF
      clear hoF hnF hnF'
      refine loop_rule (fun i : Nat => [(30, some (.int .i64 i)), (29, some (.int .i64 d.procs.length)), (28, some (.slice (d.procs.map encP) .no)), (6, some (.ptr o6 0)), (1, some (.cptr (dL d))), (3, some (.int .i64 B))])
        (fun i => upd σ o6 (cntC (sumTo nodesP d.procs i : Nat) (maxTo deepP d.procs i : Nat))) (fun i => i ≤ d.procs.length) (fun i => d.procs.length - i) 0 ?_ ?_
      · clear p1 p3 hpl
        (repeat' (first | simp (maxDischargeDepth := 9) -implicitDefEqProofs -dsimp only [go_sem, seval, *] | simp (disch := omega) only [wrap64])) <;> (repeat' refine And.intro ?_ ?_) <;> (first | omega | rfl | assumption | skip)
      · intro i hi
        have hle := sumTo_le (f := nodesP) (l := d.procs) (i := i)
        have hle2 := maxTo_le (f := deepP) (l := d.procs) (i := i)
        by_cases hlt : i < d.procs.length
        · have hs := sumTo_succ (f := nodesP) hlt
          have hs2 := maxTo_succ (f := deepP) hlt
          have hb := sumTo_le (f := nodesP) (l := d.procs) (i := i + 1)
          have hpn := hpl d.procs[i] (List.getElem_mem hlt)
          have hlen := len_sum nodesT_pos d.procs[i].l
          have c1 := fun (t : T) (ht : t ∈ d.procs[i].l) τ => p1 d.procs[i] (List.getElem_mem hlt) t ht τ
          have u1 : (d.procs[i].l.map nodesT).sum = nodesP d.procs[i] := rfl
          have u2 : maxL (d.procs[i].l.map deepT) = deepP d.procs[i] := rfl
          have g0 := sumTo_zero (f := nodesT) (l := d.procs[i].l)
          have g1 := maxTo_zero (f := deepT) (l := d.procs[i].l)
          obtain ⟨A, hA⟩ : ∃ x, sumTo nodesP d.procs i = x := ⟨_, rfl⟩
          obtain ⟨C, hC⟩ : ∃ x, maxTo deepP d.procs i = x := ⟨_, rfl⟩
          rw [hA] at hs hle ⊢
          rw [hC] at hs2 hle2 ⊢
          clear p1 p3 hpl hA hC
          repeat' (first | simp (maxDischargeDepth := 9) -implicitDefEqProofs -dsimp only [go_sem, seval, *] | simp (disch := omega) only [wrap64] | (with_reducible (first | apply Za) <;> intro hq) | ((with_reducible refine Zu ?_ ?_); focus omega) | ((with_reducible refine Zt (fun oF hoF hnF hnF' => ?_)); (try simp only [upd_none, ne_eq, not_and] at hoF)))
          obtain ⟨o8, e8⟩ : ∃ x, x = oF := ⟨oF, rfl⟩
          subst e8
          obtain ⟨q1, ho8⟩ := hoF
          have q2 : ¬ o6 = o8 := fun e => q1 e.symm
          clear hnF hnF'
          refine loop_rule (fun k : Nat => [(37, some (.int .i64 k)), (36, some (.int .i64 d.procs[i].l.length)), (35, some (.slice (d.procs[i].l.map encT) .no)), (6, some (.ptr o6 0)), (30, some (.int .i64 i)), (1, some (.cptr (dL d))), (3, some (.int .i64 B)), (29, some (.int .i64 d.procs.length)), (28, some (.slice (d.procs.map encP) .no))])
            (fun k => upd σ o6 (cntC ((A : Int) + (sumTo nodesT d.procs[i].l k : Nat)) ((max C (maxTo deepT d.procs[i].l k) : Nat) : Int))) (fun k => k ≤ d.procs[i].l.length) (fun k => d.procs[i].l.length - k) 0 ?_ ?_
          · clear c1
            (repeat' (first | simp (maxDischargeDepth := 9) -implicitDefEqProofs -dsimp only [go_sem, seval, *] | simp (disch := omega) only [wrap64])) <;> (repeat' refine And.intro ?_ ?_) <;> (first | omega | rfl | assumption | skip)
          · intro k hk
            have gle := sumTo_le (f := nodesT) (l := d.procs[i].l) (i := k)
            have gle2 := maxTo_le (f := deepT) (l := d.procs[i].l) (i := k)
            by_cases hkt : k < d.procs[i].l.length
            · have gs := sumTo_succ (f := nodesT) hkt
              have gs2 := maxTo_succ (f := deepT) hkt
              have gb := sumTo_le (f := nodesT) (l := d.procs[i].l) (i := k + 1)
              have hc := fun τ => c1 d.procs[i].l[k] (List.getElem_mem hkt) τ
              have hcm : ((max C (maxTo deepT d.procs[i].l (k + 1)) : Nat) : Int) = max ((max C (maxTo deepT d.procs[i].l k) : Nat) : Int) (deepT d.procs[i].l[k] : Nat) := by have := gs2; omega
              have hcs : ((A : Int) + (sumTo nodesT d.procs[i].l (k + 1) : Nat)) = ((A : Int) + (sumTo nodesT d.procs[i].l k : Nat)) + (nodesT d.procs[i].l[k] : Nat) := by have := gs; omega
              have hadd := fun (τ : Sig) (h : τ o6 = some (cntC ((A : Int) + (sumTo nodesT d.procs[i].l k : Nat)) ((max C (maxTo deepT d.procs[i].l k) : Nat) : Int))) => sz_add o6 ((A : Int) + (sumTo nodesT d.procs[i].l k : Nat)) ((max C (maxTo deepT d.procs[i].l k) : Nat) : Int) (nodesT d.procs[i].l[k] : Nat) (deepT d.procs[i].l[k] : Nat) τ h (by omega) (by omega)
              obtain ⟨X, hX⟩ : ∃ x, ((A : Int) + (sumTo nodesT d.procs[i].l k : Nat)) = x := ⟨_, rfl⟩
              obtain ⟨Y, hY⟩ : ∃ x, ((max C (maxTo deepT d.procs[i].l k) : Nat) : Int) = x := ⟨_, rfl⟩
              rw [hX] at hcs hadd ⊢
              rw [hY] at hcm hadd ⊢
              clear c1 gs gs2 hX hY gle gle2 gb hs hs2
              repeat' (first | simp (maxDischargeDepth := 9) -implicitDefEqProofs -dsimp only [go_sem, seval, *] | simp (disch := omega) only [wrap64] | (with_reducible (first | apply Za) <;> intro hq) | ((with_reducible refine Zu ?_ ?_); focus omega) | ((with_reducible refine Zt (fun oF hoF hnF hnF' => ?_)); (try simp only [upd_none, ne_eq, not_and] at hoF)) | ((with_reducible apply ACalls.one1); (focus ((first | with_reducible refine hc _ | with_reducible refine hadd _ ?_) <;> (first | (simp (maxDischargeDepth := 9) -implicitDefEqProofs -dsimp only [go_sem, seval, *]; done) | omega))); (focus (first | trivial | with_reducible exact rfl | (simp (maxDischargeDepth := 9) -implicitDefEqProofs -dsimp only [go_sem, seval]; done)))))
              refine loop_next _ _ _ _ (k + 1) ?_
              rw [hcs, hcm]
              (repeat' (first | simp (maxDischargeDepth := 9) -implicitDefEqProofs -dsimp only [go_sem, seval, *] | simp (disch := omega) only [wrap64])) <;> (repeat' refine And.intro ?_ ?_) <;> (first | omega | rfl | assumption | skip)
            · have ek : k = d.procs[i].l.length := by omega
              subst ek
              rw [sumTo_all, maxTo_all, u1, u2]
              have v1 : (A : Int) + (nodesP d.procs[i] : Nat) = (sumTo nodesP d.procs (i + 1) : Nat) := by omega
              have v2 : max C (deepP d.procs[i]) = maxTo deepP d.procs (i + 1) := by omega
              rw [v1, v2]
              clear c1 hs hs2 v1 v2
              repeat' (first | simp (maxDischargeDepth := 9) -implicitDefEqProofs -dsimp only [go_sem, seval, *] | simp (disch := omega) only [wrap64] | (with_reducible (first | apply Za) <;> intro hq) | ((with_reducible refine Zu ?_ ?_); focus omega) | ((with_reducible refine Zt (fun oF hoF hnF hnF' => ?_)); (try simp only [upd_none, ne_eq, not_and] at hoF)))
              refine loop_next _ _ _ _ (i + 1) ?_; (repeat' (first | simp (maxDischargeDepth := 9) -implicitDefEqProofs -dsimp only [go_sem, seval, *] | simp (disch := omega) only [wrap64])) <;> (repeat' refine And.intro ?_ ?_) <;> (first | omega | rfl | assumption | skip)
        · have ei : i = d.procs.length := by omega
          subst ei
          rw [sumTo_all, maxTo_all]
          clear p1
          repeat' (first | simp (maxDischargeDepth := 9) -implicitDefEqProofs -dsimp only [go_sem, seval, *] | simp (disch := omega) only [wrap64] | (with_reducible (first | apply Za) <;> intro hq) | ((with_reducible refine Zu ?_ ?_); focus omega) | ((with_reducible refine Zt (fun oF hoF hnF hnF' => ?_)); (try simp only [upd_none, ne_eq, not_and] at hoF)))
          obtain ⟨A, hA⟩ : ∃ x, (d.procs.map nodesP).sum = x := ⟨_, rfl⟩
          obtain ⟨C, hC⟩ : ∃ x, maxL (d.procs.map deepP) = x := ⟨_, rfl⟩
          rw [hA] at hN ⊢
          rw [hC] at hD ⊢
          clear hA hC hlt hi hle hle2 hpl
          refine loop_rule (fun k : Nat => [(49, some (.int .i64 k)), (48, some (.int .i64 d.chks.length)), (47, some (.slice (d.chks.map encC) .no)), (6, some (.ptr o6 0)), (1, some (.cptr (dL d))), (3, some (.int .i64 B))])
            (fun k => upd σ o6 (cntC ((A : Int) + (sumTo (fun c : Ck => nodes c.e) d.chks k : Nat)) ((max C (maxTo (fun c : Ck => deep c.e) d.chks k) : Nat) : Int))) (fun k => k ≤ d.chks.length) (fun k => d.chks.length - k) 0 ?_ ?_
          · clear p3
            (repeat' (first | simp (maxDischargeDepth := 9) -implicitDefEqProofs -dsimp only [go_sem, seval, *] | simp (disch := omega) only [wrap64])) <;> (repeat' refine And.intro ?_ ?_) <;> (first | omega | rfl | assumption | skip)
          · intro k hk
            have gle := sumTo_le (f := fun c : Ck => nodes c.e) (l := d.chks) (i := k)
            have gle2 := maxTo_le (f := fun c : Ck => deep c.e) (l := d.chks) (i := k)
            by_cases hkt : k < d.chks.length
            · have gs := sumTo_succ (f := fun c : Ck => nodes c.e) hkt
              have gs2 := maxTo_succ (f := fun c : Ck => deep c.e) hkt
              have gb := sumTo_le (f := fun c : Ck => nodes c.e) (l := d.chks) (i := k + 1)
              have hc := fun τ => p3 d.chks[k] (List.getElem_mem hkt) τ
              have hcm : ((max C (maxTo (fun c : Ck => deep c.e) d.chks (k + 1)) : Nat) : Int) = max ((max C (maxTo (fun c : Ck => deep c.e) d.chks k) : Nat) : Int) (deep d.chks[k].e : Nat) := by have := gs2; omega
              have hcs : ((A : Int) + (sumTo (fun c : Ck => nodes c.e) d.chks (k + 1) : Nat)) = ((A : Int) + (sumTo (fun c : Ck => nodes c.e) d.chks k : Nat)) + (nodes d.chks[k].e : Nat) := by have := gs; omega
              have hadd := fun (τ : Sig) (h : τ o6 = some (cntC ((A : Int) + (sumTo (fun c : Ck => nodes c.e) d.chks k : Nat)) ((max C (maxTo (fun c : Ck => deep c.e) d.chks k) : Nat) : Int))) => sz_add o6 ((A : Int) + (sumTo (fun c : Ck => nodes c.e) d.chks k : Nat)) ((max C (maxTo (fun c : Ck => deep c.e) d.chks k) : Nat) : Int) (nodes d.chks[k].e : Nat) (deep d.chks[k].e : Nat) τ h (by omega) (by omega)
              obtain ⟨X, hX⟩ : ∃ x, ((A : Int) + (sumTo (fun c : Ck => nodes c.e) d.chks k : Nat)) = x := ⟨_, rfl⟩
              obtain ⟨Y, hY⟩ : ∃ x, ((max C (maxTo (fun c : Ck => deep c.e) d.chks k) : Nat) : Int) = x := ⟨_, rfl⟩
              rw [hX] at hcs hadd ⊢
              rw [hY] at hcm hadd ⊢
              clear p3 gs gs2 hX hY gle gle2 gb
              repeat' (first | simp (maxDischargeDepth := 9) -implicitDefEqProofs -dsimp only [go_sem, seval, *] | simp (disch := omega) only [wrap64] | (with_reducible (first | apply Za) <;> intro hq) | ((with_reducible refine Zu ?_ ?_); focus omega) | ((with_reducible refine Zt (fun oF hoF hnF hnF' => ?_)); (try simp only [upd_none, ne_eq, not_and] at hoF)) | ((with_reducible apply ACalls.one1); (focus ((first | with_reducible refine hc _ | with_reducible refine hadd _ ?_) <;> (first | (simp (maxDischargeDepth := 9) -implicitDefEqProofs -dsimp only [go_sem, seval, *]; done) | omega))); (focus (first | trivial | with_reducible exact rfl | (simp (maxDischargeDepth := 9) -implicitDefEqProofs -dsimp only [go_sem, seval]; done)))))
              refine loop_next _ _ _ _ (k + 1) ?_
              rw [hcs, hcm]
              (repeat' (first | simp (maxDischargeDepth := 9) -implicitDefEqProofs -dsimp only [go_sem, seval, *] | simp (disch := omega) only [wrap64])) <;> (repeat' refine And.intro ?_ ?_) <;> (first | omega | rfl | assumption | skip)
            · have ek : k = d.chks.length := by omega
              subst ek
              rw [sumTo_all, maxTo_all]
              have v1 : (A : Int) + ((d.chks.map fun c : Ck => nodes c.e).sum : Nat) = (nodesD d : Nat) := by omega
              rw [v1, ← hD]
              have hcf := fun τ => sz_cfits (nodesD d : Nat) (deepD d : Nat) τ
              clear p3 v1 gle gle2 e0 e1 e2 e3 hN hD
              obtain ⟨x, hx⟩ : ∃ x, fitsD d = x := ⟨_, rfl⟩
              rw [hx] at hfd ⊢
              cases x with
              | true =>
                replace hfd := of_decide_eq_true hfd.symm
                obtain ⟨h1, h2, h3, h4, h5⟩ := hfd
                have i1 : (nodesD d : Int) ≤ 65536 := by omega
                have i2 : (deepD d : Int) ≤ 64 := by omega
                have i3 : (d.sigs.length : Int) ≤ 512 := by omega
                have i4 : (d.procs.length : Int) ≤ 1024 := by omega
                have i5 : (B : Int) ≤ 4096 := by omega
                repeat' (first | simp (maxDischargeDepth := 9) -implicitDefEqProofs -dsimp only [go_sem, seval, decide_true, *] | simp (disch := omega) only [wrap64] | (with_reducible (first | apply Za) <;> intro hq) | ((with_reducible refine Zu ?_ ?_); focus omega) | ((with_reducible refine Zt (fun oF hoF hnF hnF' => ?_)); (try simp only [upd_none, ne_eq, not_and] at hoF)) | ((with_reducible apply ACalls.one1); (focus ((first | with_reducible refine hcf _) <;> (first | (simp (maxDischargeDepth := 9) -implicitDefEqProofs -dsimp only [go_sem, seval, *]; done) | omega))); (focus (first | trivial | with_reducible exact rfl | (simp (maxDischargeDepth := 9) -implicitDefEqProofs -dsimp only [go_sem, seval]; done)))))
                refine fin_eq ?_
                (repeat' (first | simp (maxDischargeDepth := 9) -implicitDefEqProofs -dsimp only [go_sem, seval, decide_true, *] | simp (disch := omega) only [wrap64])) <;> (repeat' refine And.intro ?_ ?_) <;> (first | omega | rfl | assumption | skip)
              | false =>
                replace hfd := of_decide_eq_false hfd.symm
                repeat' (first | simp (maxDischargeDepth := 9) -implicitDefEqProofs -dsimp only [go_sem, seval, *] | simp (disch := omega) only [wrap64] | (with_reducible (first | apply Za) <;> intro hq) | ((with_reducible refine Zu ?_ ?_); focus omega) | ((with_reducible refine Zt (fun oF hoF hnF hnF' => ?_)); (try simp only [upd_none, ne_eq, not_and] at hoF)) | ((with_reducible apply ACalls.one1); (focus ((first | with_reducible refine hcf _) <;> (first | (simp (maxDischargeDepth := 9) -implicitDefEqProofs -dsimp only [go_sem, seval, *]; done) | omega))); (focus (first | trivial | with_reducible exact rfl | (simp (maxDischargeDepth := 9) -implicitDefEqProofs -dsimp only [go_sem, seval]; done)))))
                all_goals first | (exfalso; omega) | skip
                all_goals
                  refine fin_eq ?_
                  (repeat' (first | simp (maxDischargeDepth := 9) -implicitDefEqProofs -dsimp only [go_sem, seval, *] | simp (disch := omega) only [wrap64])) <;> (repeat' refine And.intro ?_ ?_) <;> (first | omega | rfl | assumption | skip)
                all_goals
                  rw [eq_comm, Bool.and_eq_false_iff, decide_eq_false_iff_not, decide_eq_false_iff_not]; omega
end Go.Proofs.Ytdiebjnjhgbklaa

namespace Go.Proofs.Ytdiebjnjhgbklaa
open Abs Fil Fil.Sz
open Go.Shelf Go.Lib
def ren129 : Ren where
  f := fun x => match x with
    | 129 => 92
    | n => n
  t := fun x => match x with
    | 53 => 27
    | 46 => 47
    | n => n
  g := fun x => x
theorem body129 : Try.f92 = Body.n129 ren129 := by kernel_rfl
theorem lays129 : Lays.n129 Try.prog ren129 :=
  { mixed := by kernel_rfl, f129 := Eq.trans Try.func92 (congrArg some body129),
    t3 := Try.underlying3, a3 := Try.isAgg3, z3 := Try.sizeOf3, v3 := Try.zeroValue3,
    t4 := Try.underlying4, a4 := Try.isAgg4, z4 := Try.sizeOf4, v4 := Try.zeroValue4,
    t5 := Try.underlying5, a5 := Try.isAgg5, z5 := Try.sizeOf5, v5 := Try.zeroValue5,
    t9 := Try.underlying9, a9 := Try.isAgg9, z9 := Try.sizeOf9, v9 := Try.zeroValue9,
    t46 := Try.underlying47, a46 := Try.isAgg47, z46 := Try.sizeOf47, v46 := Try.zeroValue47,
    t53 := Try.underlying27, a53 := Try.isAgg27, z53 := Try.sizeOf27, v53 := Try.zeroValue27 }
theorem lenAux_lt : ∀ (f x k : Nat), x < 2 ^ f → bitLenAux f x ≤ k → x < 2 ^ k
  | 0, x, k, hx, _ => by have : 0 < 2 ^ k := Nat.two_pow_pos k; omega
  | f + 1, x, k, hx, h => by
    unfold bitLenAux at h
    split at h
    · have : 0 < 2 ^ k := Nat.two_pow_pos k; omega
    · match k, h with
      | k + 1, h =>
        have := lenAux_lt f (x / 2) k (by rw [Nat.pow_succ] at hx; omega) (by omega)
        rw [Nat.pow_succ]; omega
      | 0, h => omega
theorem len_holds (w v : Int) (h0 : 0 ≤ w) (hv : U64 v) : decide ((bitLen v.toNat : Int) ≤ w) = holds w v := by
  unfold holds
  have e : (2 : Int) ^ w.toNat = ((2 ^ w.toNat : Nat) : Int) := by simp
  rw [e]
  obtain ⟨k, rfl⟩ : ∃ k : Nat, w = k := ⟨w.toNat, by omega⟩
  obtain ⟨x, rfl⟩ : ∃ k : Nat, v = k := ⟨v.toNat, by have := hv.1; omega⟩
  have hx : x < 2 ^ 64 := by have := hv.2; omega
  simp only [Int.toNat_natCast, Int.ofNat_lt, Int.ofNat_le]
  rw [decide_eq_decide]
  constructor
  · intro h
    exact lenAux_lt 64 x k hx h
  · intro h
    by_cases hk : k ≤ 64
    · exact bitLen_le x k hk h
    · have := bitLen_le x 64 (Nat.le_refl _) hx
      omega
theorem sz_Len64 (v : Int) (σ : Sig) (hv : U64 v) : ACalls Try.prog 92 [.int .u64 v] σ (fun r σ' => r = .ret (.int .i64 (bitLen v.toNat)) ∧ σ' = σ) := by
  refine ⟨?_, fun S K w vals hS hr hs => ?_⟩
  · simp only [callable, lays129.f129]
    rw [Try.func92]; rfl
  · obtain ⟨vs⟩ := vals
    obtain ⟨hl, hrel⟩ := hr
    simp only [List.length_cons, List.length_nil] at hl
    match vs, hl with
    | [v0], _ =>
      have r0 := hrel 0 (by simp) (by simp)
      simp only [List.getElem_cons_zero] at r0
      have e0 := rel_int r0
      subst e0
      refine (Any.bits_Len64 lays129 v w hv.1 hv.2).mono ?_
      rintro e w' ⟨rfl, rfl⟩
      exact ⟨K, .ret (.int .i64 (bitLen v.toNat)), σ, Gh.leS.refl K, hs, .int _ _, rfl, rfl⟩
theorem sz_holds (w v : Int) (σ : Sig) (h0 : 0 ≤ w) (hv : U64 v) : ACalls Try.prog 47 [.int .i64 w, .int .u64 v] σ (fun r σ' => r = .ret (.bool (holds w v)) ∧ σ' = σ) := by
  have hc := fun τ => sz_Len64 v τ hv
  rw [← len_holds w v h0 hv]
  refine calls_x mixed Try.func47 b47 n47 rfl q47 (by simp) ?_; unfold c47 r47
  repeat' (first | simp (maxDischargeDepth := 9) -implicitDefEqProofs -dsimp only [go_sem, seval, *] | ((with_reducible apply ACalls.one1); (focus ((first | with_reducible refine hc _) <;> (first | (simp (maxDischargeDepth := 9) -implicitDefEqProofs -dsimp only [go_sem, seval, *]; done) | omega))); (focus (first | trivial | with_reducible exact rfl | (simp (maxDischargeDepth := 9) -implicitDefEqProofs -dsimp only [go_sem, seval]; done)))))
  refine fin_eq ?_
  (repeat' (first | simp (maxDischargeDepth := 9) -implicitDefEqProofs -dsimp only [go_sem, seval, *])) <;> (repeat' refine And.intro ?_ ?_) <;> (first | omega | rfl | assumption | skip)
theorem place_get {g : List Sg} {sig hi lo : Int} (h : sig.toNat < g.length) : place g sig hi lo = (decide (0 ≤ sig) && decide (sig < g.length) && decide (0 ≤ lo) && decide (lo ≤ hi) && decide (hi < (g[sig.toNat]).w)) := by
  unfold place; simp [List.getD_eq_getElem?_getD, h]
theorem sz_slice (g : List Sg) (sig hi lo : Int) (σ : Sig) (hg : g.length ≤ 1000000000000) : ACalls Try.prog 67 [.slice (g.map encS) .no, .int .i64 sig, .int .i64 hi, .int .i64 lo] σ (fun r σ' => r = .ret (.bool (place g sig hi lo)) ∧ σ' = σ) := by
  refine calls_x mixed Try.func67 b67 n67 rfl q67 (by simp) ?_; unfold c67 r67
  by_cases h : 0 ≤ sig ∧ sig < g.length
  · obtain ⟨h1, h2⟩ := h
    have hl : sig.toNat < g.length := by omega
    have hp := place_get (sig := sig) (hi := hi) (lo := lo) hl
    simp only [h1, h2, decide_true, Bool.true_and] at hp
    repeat' (first | simp (maxDischargeDepth := 9) -implicitDefEqProofs -dsimp only [go_sem, seval, ge_iff_le, *] | (with_reducible (first | apply Za) <;> intro hq) | ((with_reducible refine Zu ?_ ?_); focus omega))
    all_goals
      refine fin_eq ?_
      (repeat' (first | simp (maxDischargeDepth := 9) -implicitDefEqProofs -dsimp only [go_sem, seval, decide_true, decide_false, Bool.true_and, Bool.false_and, *])) <;> (repeat' refine And.intro ?_ ?_) <;> (first | omega | rfl | assumption | skip)
  · have hp : place g sig hi lo = false := by
      cases hh : place g sig hi lo with
      | false => rfl
      | true => have := place_iff.1 hh; exact (h ⟨this.1, this.2.1⟩).elim
    repeat' (first | simp (maxDischargeDepth := 9) -implicitDefEqProofs -dsimp only [go_sem, seval, ge_iff_le, *] | (with_reducible (first | apply Za) <;> intro hq) | ((with_reducible refine Zu ?_ ?_); focus omega))
    all_goals first | (exfalso; omega) | skip
    all_goals
      refine fin_eq ?_
      (repeat' (first | simp (maxDischargeDepth := 9) -implicitDefEqProofs -dsimp only [go_sem, seval, *])) <;> (repeat' refine And.intro ?_ ?_) <;> (first | omega | rfl | assumption | skip)
end Go.Proofs.Ytdiebjnjhgbklaa

namespace Fil.Sz
open Abs
abbrev encN (L : List ByteArray) : List (AV × AV) := L.map fun s => (.str s, .bool true)
theorem str_beq (a b : ByteArray) : (a.toList == b.toList) = decide (a = b) := by
  rw [Bool.eq_iff_iff]; simp [bytes_eq]
theorem look_in {s : ByteArray} : ∀ {L : List ByteArray}, s ∈ L → lookK (.one 2) (.str s) (encN L) = some (some (.bool true))
  | a :: L, h => by
    simp only [encN, List.map_cons, lookK, eqKey, eq1, str_beq]
    by_cases c : s = a
    · simp [c]
    · have := look_in (L := L) ((List.mem_cons.1 h).resolve_left c)
      simpa [c] using this
theorem look_out {s : ByteArray} : ∀ {L : List ByteArray}, s ∉ L → lookK (.one 2) (.str s) (encN L) = some none
  | [], _ => rfl
  | a :: L, h => by
    simp only [encN, List.map_cons, lookK, eqKey, eq1, str_beq]
    have c : ¬ s = a := fun e => h (by simp [e])
    have := look_out (s := s) (L := L) (fun hm => h (List.mem_cons_of_mem _ hm))
    simpa [c] using this
theorem set_out {s : ByteArray} : ∀ {L : List ByteArray}, s ∉ L → setK (.one 2) (.str s) (.bool true) (encN L) = some (encN (L ++ [s]))
  | [], _ => rfl
  | a :: L, h => by
    simp only [encN, List.map_cons, List.cons_append, setK, eqKey, eq1, str_beq]
    have c : ¬ s = a := fun e => h (by simp [e])
    have := set_out (s := s) (L := L) (fun hm => h (List.mem_cons_of_mem _ hm))
    simp only [encN, List.map_append, List.map_cons, List.map_nil] at this ⊢
    simp [c, this]
theorem keyOk_s (s : ByteArray) : keyOk (.one 2) (.str s) = true := by simp [keyOk, eqKey, eq1]
def namesTo (l : List Sg) (i : Nat) : List ByteArray := noName :: (l.take i).map (·.name)
theorem names_succ {l : List Sg} {i : Nat} (h : i < l.length) : namesTo l (i + 1) = namesTo l i ++ [l[i].name] := by
  simp only [namesTo, List.take_add_one, List.getElem?_eq_getElem h, Option.toList_some, List.map_append, List.map_cons, List.map_nil, List.cons_append]
theorem names_out {l : List Sg} {i : Nat} (h : i < l.length) : l[i].name ∉ namesTo l i ↔ ¬ l[i].name = noName ∧ ∀ k, (hk : k < i) → ¬ (l[k]'(by omega)).name = l[i].name := by
  unfold namesTo
  rw [List.mem_cons, not_or]
  refine and_congr_right fun _ => ?_
  constructor
  · intro hn k hk e
    exact hn (List.mem_map.2 ⟨l[k], List.mem_take_iff_getElem.2 ⟨k, by omega, rfl⟩, e⟩)
  · intro hn hm
    obtain ⟨x, hx, e⟩ := List.mem_map.1 hm
    obtain ⟨k, hk, rfl⟩ := List.mem_take_iff_getElem.1 hx
    exact hn k (by omega) e
def SgAt (l : List Sg) (i : Nat) (h : i < l.length) : Prop := SgGood l[i] ∧ ∀ k, (hk : k < i) → ¬ (l[k]'(by omega)).name = l[i].name
end Fil.Sz

namespace Go.Proofs.Ytdiebjnjhgbklaa
open Abs Fil Fil.Sz
set_option maxRecDepth 20000 in
theorem sz_signals (l : List Sg) (σ : Sig) (hl : l.length ≤ 1000000000000) : ACalls Try.prog 35 [.slice (l.map encS) .no] σ (fun r σ' => r = .ret (.bool (sigsOk l)) ∧ σ' = σ) := by
  refine calls_x mixed Try.func35 b35 n35 rfl q35 (by simp) ?_; unfold c35 r35
  have k0 : setK (.one 2) (.str ⟨#[]⟩) (.bool true) [] = some (encN (namesTo l 0)) := rfl
  have kk := keyOk_s
  repeat' (first | simp (maxDischargeDepth := 9) -implicitDefEqProofs -dsimp only [go_sem, seval, *] | simp (disch := omega) only [wrap64] | (with_reducible (first | apply Zb | apply Zg | apply Zi) <;> intro hq) | ((with_reducible refine Zu ?_ ?_); focus omega) | ((with_reducible refine Zt (fun oF hoF hnF hnF' => ?_)); (try simp only [upd_none, ne_eq, not_and] at hoF)))
  obtain ⟨o, eo⟩ : ∃ x, x = oF := ⟨oF, rfl⟩
  subst eo
  have ho : σ o = none := hoF
  clear hoF hnF hnF' k0
  refine loop_rule (fun i : Nat => [(10, some (.int .i64 i)), (9, some (.int .i64 l.length)), (8, some (.slice (l.map encS) .no)), (3, some (.map o))])
    (fun i => upd σ o (.map true (encN (namesTo l i)))) (fun i => i ≤ l.length ∧ SgTo l i) (fun i => l.length - i) 0 ?_ ?_
  · (repeat' (first | simp (maxDischargeDepth := 9) -implicitDefEqProofs -dsimp only [go_sem, seval, *] | simp (disch := omega) only [wrap64])) <;> (repeat' refine And.intro ?_ ?_) <;> (first | omega | rfl | assumption | skip)
    intro j _ h
    omega
  · rintro i ⟨hi, hok⟩
    by_cases hlt : i < l.length
    · have hns := names_succ hlt
      have hout := names_out hlt
      by_cases hg : SgAt l i hlt
      · have hstep := sgTo_succ hlt hok hg
        obtain ⟨⟨g1, g2, g3, g4, g5, g6⟩, g7⟩ := hg
        have hm := hout.2 ⟨g1, g7⟩
        have hlk := look_out hm
        have hst := set_out hm
        rw [← hns] at hst
        clear g7 hm hout hns g1 hok
        by_cases hk : l[i].kind = 4
        · have hk2 : (l[i].kind != 4) = false := by simp [hk]
          repeat' (first | simp (maxDischargeDepth := 9) -implicitDefEqProofs -dsimp only [go_sem, seval, gt_iff_lt, Option.getD_none, *] | simp (disch := omega) only [wrap64] | (with_reducible (first | apply Zb | apply Zg | apply Zi) <;> intro hq) | ((with_reducible refine Zu ?_ ?_); focus omega) | ((with_reducible refine Zt (fun oF hoF hnF hnF' => ?_)); (try simp only [upd_none, ne_eq, not_and] at hoF)))
          all_goals first | (exfalso; omega) | skip
          refine loop_next _ _ _ _ (i + 1) ?_; (repeat' (first | simp (maxDischargeDepth := 9) -implicitDefEqProofs -dsimp only [go_sem, seval, *] | simp (disch := omega) only [wrap64])) <;> (repeat' refine And.intro ?_ ?_) <;> (first | omega | rfl | assumption | skip)
        · have hk2 : (l[i].kind != 4) = true := by simp [hk]
          have hin : (l[i].init != 0) = false := by
            rcases g6 with h | h
            · exact (hk h).elim
            · simp [h]
          repeat' (first | simp (maxDischargeDepth := 9) -implicitDefEqProofs -dsimp only [go_sem, seval, gt_iff_lt, Option.getD_none, *] | simp (disch := omega) only [wrap64] | (with_reducible (first | apply Zb | apply Zg | apply Zi) <;> intro hq) | ((with_reducible refine Zu ?_ ?_); focus omega) | ((with_reducible refine Zt (fun oF hoF hnF hnF' => ?_)); (try simp only [upd_none, ne_eq, not_and] at hoF)))
          all_goals first | (exfalso; omega) | skip
          refine loop_next _ _ _ _ (i + 1) ?_; (repeat' (first | simp (maxDischargeDepth := 9) -implicitDefEqProofs -dsimp only [go_sem, seval, *] | simp (disch := omega) only [wrap64])) <;> (repeat' refine And.intro ?_ ?_) <;> (first | omega | rfl | assumption | skip)
      · have hb := sigs_bad hlt hg
        clear hok hns
        by_cases hm : l[i].name ∈ namesTo l i
        · have hlk := look_in hm
          repeat' (first | simp (maxDischargeDepth := 9) -implicitDefEqProofs -dsimp only [go_sem, seval, gt_iff_lt, Option.getD_some, *] | simp (disch := omega) only [wrap64] | (with_reducible (first | apply Zb | apply Zg | apply Zi) <;> intro hq) | ((with_reducible refine Zu ?_ ?_); focus omega) | ((with_reducible refine Zt (fun oF hoF hnF hnF' => ?_)); (try simp only [upd_none, ne_eq, not_and] at hoF)))
          refine fin_eq ?_
          (repeat' (first | simp (maxDischargeDepth := 9) -implicitDefEqProofs -dsimp only [go_sem, seval, *] | simp (disch := omega) only [wrap64])) <;> (repeat' refine And.intro ?_ ?_) <;> (first | omega | rfl | assumption | skip)
        · have hlk := look_out hm
          have hm2 := hout.1 hm
          have hg2 : ¬ (1 ≤ l[i].w ∧ l[i].w ≤ 64 ∧ 1 ≤ l[i].kind ∧ l[i].kind ≤ 4 ∧ (l[i].kind = 4 ∨ l[i].init = 0)) := fun ⟨a1, a2, a3, a4, a5⟩ => hg ⟨⟨hm2.1, a1, a2, a3, a4, a5⟩, hm2.2⟩
          clear hg hm hm2 hout
          repeat' (first | simp (maxDischargeDepth := 9) -implicitDefEqProofs -dsimp only [go_sem, seval, gt_iff_lt, Option.getD_none, *] | simp (disch := omega) only [wrap64] | (with_reducible (first | apply Zb | apply Zg | apply Zi) <;> intro hq) | ((with_reducible refine Zu ?_ ?_); focus omega) | ((with_reducible refine Zt (fun oF hoF hnF hnF' => ?_)); (try simp only [upd_none, ne_eq, not_and] at hoF)))
          all_goals first | (exfalso; apply hg2; omega) | skip
          all_goals
            refine fin_eq ?_
            (repeat' (first | simp (maxDischargeDepth := 9) -implicitDefEqProofs -dsimp only [go_sem, seval, *] | simp (disch := omega) only [wrap64])) <;> (repeat' refine And.intro ?_ ?_) <;> (first | omega | rfl | assumption | skip)
    · have ei : i = l.length := by omega
      subst ei
      have hs : sigsOk l = true := sigsOk_iff.2 hok
      clear hok
      repeat' (first | simp (maxDischargeDepth := 9) -implicitDefEqProofs -dsimp only [go_sem, seval, *] | simp (disch := omega) only [wrap64] | (with_reducible (first | apply Zb | apply Zg | apply Zi) <;> intro hq) | ((with_reducible refine Zu ?_ ?_); focus omega) | ((with_reducible refine Zt (fun oF hoF hnF hnF' => ?_)); (try simp only [upd_none, ne_eq, not_and] at hoF)))
      refine fin_eq ?_
      (repeat' (first | simp (maxDischargeDepth := 9) -implicitDefEqProofs -dsimp only [go_sem, seval, *] | simp (disch := omega) only [wrap64])) <;> (repeat' refine And.intro ?_ ?_) <;> (first | omega | rfl | assumption | skip)
end Go.Proofs.Ytdiebjnjhgbklaa

