/- rewr: Balance: the model, and what it keeps. No program in sight. -/
import Derived.Shelf.Slices.Cells
import Derived.Test.YtapnlmhfacoceaaQRwInner
set_option linter.unusedSimpArgs false
set_option linter.unusedVariables false
namespace Go.Proofs.Ytapnlmhfacoceaa
open Abs Fil Fil.Rw
open Eqv (moveL)
theorem out_of {P : Program} {f : FuncId} {args : List AV} {σ : Sig} {R R' : ARes → Sig → Prop} (h : ACalls P f args σ R) (hR : ∀ r s, R r s → ∃ v, r = .ret v ∧ fin R' v s) : ACalls P f args σ R' := by
 refine ⟨h.1, fun S K w vals hS hr hs => (h.2 S K w vals hS hr hs).mono fun e w' ⟨K', r, σ', k1, k2, k3, k4⟩ => ?_⟩
 obtain ⟨v, rfl, v0, σ0, ⟨F, hv, hf⟩, hR'⟩ := hR r σ' k4
 obtain ⟨K2, m1, m2, m3⟩ := hv S K' w' hS k2
 refine ⟨K2, .ret v0, σ0, k1.trans m1, m2, ?_, hR'⟩
 cases e with
 | returned x => exact m3 _ _ _ hf k3
 | _ => exact k3.elim
theorem int_all (l : List Int) : ∀ x ∈ l.map encInt, (cellsA x).length = 1 := fun x hx => by
 obtain ⟨a, _, rfl⟩ := List.mem_map.1 hx; rfl
theorem rts_list {P : Program} {f : FuncId} {args : List AV} {σ : Sig} {l : List Int} (h : ACalls P f args σ (Rts σ l)) : ACalls P f args σ (fun r s => r = .ret (.slice (l.map encInt) .no) ∧ s = σ) := by
 refine out_of h fun r s hr => ?_
 rcases hr with ⟨rfl, hv | hv, rfl⟩ | ⟨hne, o, ho, h1, h2⟩
 ·refine ⟨_, hv, fin_v (.slice [] .no) s ⟨rfl, rfl⟩ ?_ ?_⟩
  ·simp (maxDischargeDepth := 9) -implicitDefEqProofs -dsimp only [go_sem, seval, *]
  ·simp (maxDischargeDepth := 9) -implicitDefEqProofs -dsimp only [go_sem, seval, *]
 ·refine ⟨_, hv, fin_v (.slice [] .no) s ⟨rfl, rfl⟩ ?_ ?_⟩
  ·simp (maxDischargeDepth := 9) -implicitDefEqProofs -dsimp only [go_sem, seval, *]
  ·simp (maxDischargeDepth := 9) -implicitDefEqProofs -dsimp only [go_sem, seval, *]
 ·refine ⟨_, h1, ?_⟩
  subst h2
  refine fin_frz o (sz := 1) (n := l.length) (cs := l.map encInt) (l := l.map encInt) (v0 := .slice (l.map encInt) .no) (v1 := .slice (l.map encInt) .no) (τ := σ) (by simp [upd]) (flat_ints l) (by simp) (int_all l) (.base _ _ ⟨rfl, .inr rfl⟩) ?_ ?_ ⟨rfl, rfl⟩
  ·simp (maxDischargeDepth := 9) -implicitDefEqProofs -dsimp only [go_sem, seval, *]
  ·refine subx_of fun q x hq => ?_
   have : ¬ q = o := fun e => by subst e; rw [ho] at hq; simp at hq
   simp only [upd, this, if_false]; exact hq
theorem rw_rootsL (g : Aig) (σ : Sig) (hf : g.flops.length ≤ 100000) (ho : g.outs.length ≤ 100000) : ACalls Try.prog 39 [encAig g] σ (fun r s => r = .ret (.slice ((rts g).map encInt) .no) ∧ s = σ) :=
 rts_list (rw_roots g σ hf ho)
theorem map_int (x : Option Int) : (Option.map (AV.int .i64) x).getD (.int .i64 0) = .int .i64 (x.getD 0) := by cases x <;> rfl
theorem map_bool (x : Option Bool) : (Option.map AV.bool x).getD (.bool false) = .bool (x.getD false) := by cases x <;> rfl
def InnR (σ : Sig) (g : Aig) : ARes → Sig → Prop := fun r s => ∃ q m, σ q = none ∧ r = .ret (.map q) ∧ s = upd σ q (.map true (encK .bool m)) ∧ ∀ n, (gk m n).getD false = innM g n
set_option maxRecDepth 20000 in
set_option maxHeartbeats 4000000 in
theorem rw_inner (o : Nat) (g : Aig) (rest : List AV) (σ : Sig) (hB : σ o = some (.cells (.int .i64 g.ins :: .slice (g.flops.map encFlop) .no :: .slice (g.ands.map encGate) .no :: .slice (g.outs.map encInt) .no :: rest))) (hg : Sml g) :
  ACalls Try.prog 51 [.ptr o 0] σ (InnR σ g) := by
 refine calls_x mixed Try.func51 b51 n51 rfl q51 (by simp) ?_; unfold c51 r51
 have hsm : Small g := check_small hg.wf hg.chk
 have h1 := hg.ins
 have h2 := hg.flops
 have h3 := hg.ands
 have h4 := hg.outs
 have hrt := fun τ => rw_rootsL g τ (by omega) (by omega)
 have hfc := fun τ hB => rw_first o g (.slice (g.ands.map encGate) .no :: .slice (g.outs.map encInt) .no :: rest) τ hB hsm
 have hrl : (rts g).length ≤ 120 := by simp only [rts, List.length_append, List.length_map]; omega
 have hno : ¬ σ o = none := by rw [hB]; simp
 repeat' (first | simp (maxDischargeDepth := 9) -implicitDefEqProofs -dsimp only [go_sem, seval, *] | ((with_reducible refine Zt (fun oF hoF hnF hnF' => ?_)); (try simp only [upd_none, ne_eq, not_and] at hoF)))
 rename_i oN hoN hnN hnN'
 obtain ⟨oP, eP⟩ : ∃ x, x = oF := ⟨oF, rfl⟩
 subst eP
 have hNo : ¬ o = oN ∧ ¬ oN = o ∧ ¬ o = oP ∧ ¬ oP = o := by
  have e1 := hnN o hno
  have e2 : ¬ o = oP := fun e => by rw [← e] at hoF; exact hno hoF.2
  exact ⟨e1, fun e => e1 e.symm, e2, fun e => e2 e.symm⟩
 refine loop_rule (fun i : Nat => [(22, some (.int .i64 i)), (21, some (.int .i64 g.ands.length)), (20, some (.slice (g.ands.map encGate) .no)), (3, some (.map oN)), (4, some (.map oP)), (0, some (.ptr o 0))])
  (fun i => upd (upd σ oN (.map true (encK (.int .i64) (addK 1 [] ((opsG g).take (2 * i)))))) oP (.map true (encK .bool (plK ((opsG g).take (2 * i))))))
  (fun i => i ≤ g.ands.length) (fun i => g.ands.length - i) 0 ?_ ?_
 ·have e0 : addK 1 [] ((opsG g).take 0) = [] := rfl
  have e1 : plK ((opsG g).take 0) = [] := rfl
  (repeat' simp (maxDischargeDepth := 9) -implicitDefEqProofs -dsimp only [go_sem, seval, e0, e1, encK_nil, Nat.mul_zero, *]) <;> (repeat' refine And.intro ?_ ?_) <;> (first | omega | rfl | skip)
  all_goals exact fun h => h
 ·intro i hi
  by_cases hlt : i < g.ands.length
  ·have hlt' : (i : Int) < g.ands.length := by omega
   have hb := gate_bounds hg hlt
   obtain ⟨t1, t2⟩ := ops_take g hlt
   have hfst : g.first ≤ 200 := by simp only [Aig.first]; omega
   obtain ⟨x0, hx0⟩ : ∃ x, g.ands[i].1 = x := ⟨_, rfl⟩
   obtain ⟨x1, hx1⟩ : ∃ x, g.ands[i].2 = x := ⟨_, rfl⟩
   rw [hx0, hx1] at hb
   rw [hx0] at t1
   rw [hx1] at t2
   have hlo := hg.lo
   repeat' (first | simp (maxDischargeDepth := 9) -implicitDefEqProofs -dsimp only [go_sem, seval, *] | ((with_reducible refine Zu ?_ ?_); focus omega) | ((with_reducible refine Zt (fun oF hoF hnF hnF' => ?_)); (try simp only [upd_none, ne_eq, not_and] at hoF)))
   refine loop_rule (fun k : Nat => [(27, some (.int .i64 k)), (26, some (.agg [.int .i64 x0, .int .i64 x1])), (22, some (.int .i64 i)), (21, some (.int .i64 g.ands.length)), (20, some (.slice (g.ands.map encGate) .no)), (3, some (.map oN)), (4, some (.map oP)), (0, some (.ptr o 0))])
    (fun k => upd (upd σ oN (.map true (encK (.int .i64) (addK 1 [] ((opsG g).take (2 * i + k)))))) oP (.map true (encK .bool (plK ((opsG g).take (2 * i + k))))))
    (fun k => k ≤ 2) (fun k => 2 - k) 0 ?_ ?_
   ·(repeat' simp (maxDischargeDepth := 9) -implicitDefEqProofs -dsimp only [go_sem, seval, Nat.add_zero, *])
   ·intro k hk
    have hc : ∀ n, 0 ≤ (gk (addK 1 [] ((opsG g).take (2 * i + k))) n).getD 0 ∧ (gk (addK 1 [] ((opsG g).take (2 * i + k))) n).getD 0 ≤ 100000 := fun n => by
     rw [addK_get]
     have := cntL_le ((opsG g).take (2 * i + k)) n
     have e := opsG_len g
     simp only [gk, Option.getD_none, List.length_take] at this ⊢
     omega
    by_cases hk2 : k < 2
    ·have hk2' : (k : Int) < 2 := by omega
     have hstep : ∃ a, (0 ≤ a ∧ a ≤ 1000) ∧ (opsG g).take (2 * i + (k + 1)) = (opsG g).take (2 * i + k) ++ [a] ∧ ((k = 0 ∧ a = x0) ∨ (k = 1 ∧ a = x1)) := by
      rcases (show k = 0 ∨ k = 1 by omega) with rfl | rfl
      ·exact ⟨x0, by omega, t1, .inl ⟨rfl, rfl⟩⟩
      ·exact ⟨x1, by omega, t2, .inr ⟨rfl, rfl⟩⟩
     obtain ⟨a, ha, htk, hka⟩ := hstep
     have s1 := addK_snoc 1 [] ((opsG g).take (2 * i + k)) a
     have s2 := plK_snoc ((opsG g).take (2 * i + k)) a
     rw [← htk] at s1 s2
     have hc' := hc (a / 2)
     clear htk hc t1 t2 hb hfc hrt
     rcases hka with ⟨rfl, rfl⟩ | ⟨rfl, rfl⟩
     ·have hbe : (a % 2 == 0) = decide (a % 2 = 0) := rfl
      repeat' (first | simp (maxDischargeDepth := 9) -implicitDefEqProofs -dsimp only [go_sem, seval, map_int, *] | simp (disch := omega) only [wrap64, tdiv2, and1] | ((with_reducible refine Zv ?_ ?_); focus (first | omega | exact rfl)))
      refine loop_next _ _ _ _ (0 + 1) ?_; (repeat' simp (maxDischargeDepth := 9) -implicitDefEqProofs -dsimp only [go_sem, seval, *])
     ·have hbe : (a % 2 == 0) = decide (a % 2 = 0) := rfl
      repeat' (first | simp (maxDischargeDepth := 9) -implicitDefEqProofs -dsimp only [go_sem, seval, map_int, *] | simp (disch := omega) only [wrap64, tdiv2, and1] | ((with_reducible refine Zv ?_ ?_); focus (first | omega | exact rfl)))
      refine loop_next _ _ _ _ (1 + 1) ?_; (repeat' simp (maxDischargeDepth := 9) -implicitDefEqProofs -dsimp only [go_sem, seval, *])
    ·obtain rfl : k = 2 := by omega
     clear hc t1 t2 hb hfc hrt
     repeat' (first | simp (maxDischargeDepth := 9) -implicitDefEqProofs -dsimp only [go_sem, seval, *] | simp (disch := omega) only [wrap64, tdiv2, and1])
     refine loop_next _ _ _ _ (i + 1) ?_; (repeat' simp (maxDischargeDepth := 9) -implicitDefEqProofs -dsimp only [go_sem, seval,  Nat.mul_add, Nat.mul_one, *]) <;> (repeat' refine And.intro ?_ ?_) <;> (first | omega | skip)
  ·have ei : i = g.ands.length := by omega
   subst ei
   have hlt' : ¬ (g.ands.length : Int) < g.ands.length := by omega
   have e0 : (opsG g).take (2 * g.ands.length) = opsG g := List.take_of_length_le (by rw [opsG_len]; exact Nat.le_refl _)
   rw [e0]
   repeat' (first | simp (maxDischargeDepth := 9) -implicitDefEqProofs -dsimp only [go_sem, seval, *] | ((with_reducible apply ACalls.one1); (focus ((with_reducible refine hrt _) <;> (first | (simp (maxDischargeDepth := 9) -implicitDefEqProofs -dsimp only [go_sem, seval, *]; done) | omega))); (focus (first | trivial | with_reducible exact rfl | (simp (maxDischargeDepth := 9) -implicitDefEqProofs -dsimp only [go_sem, seval]; done)))))
   refine loop_rule (fun j : Nat => [(49, some (.int .i64 j)), (48, some (.int .i64 (rts g).length)), (47, some (.slice ((rts g).map encInt) .no)), (3, some (.map oN)), (4, some (.map oP)), (0, some (.ptr o 0))])
    (fun j => upd (upd σ oN (.map true (encK (.int .i64) (addK 2 (addK 1 [] (opsG g)) ((rts g).take j))))) oP (.map true (encK .bool (plK (opsG g)))))
    (fun j => j ≤ (rts g).length) (fun j => (rts g).length - j) 0 ?_ ?_
   ·have e1 : addK 2 (addK 1 [] (opsG g)) ((rts g).take 0) = addK 1 [] (opsG g) := rfl
    (repeat' simp (maxDischargeDepth := 9) -implicitDefEqProofs -dsimp only [go_sem, seval, e1, *]) <;> (repeat' refine And.intro ?_ ?_) <;> (first | omega | rfl | skip)
    all_goals exact fun h => h
   ·intro j hj
    have hc : ∀ n, 0 ≤ (gk (addK 2 (addK 1 [] (opsG g)) ((rts g).take j)) n).getD 0 ∧ (gk (addK 2 (addK 1 [] (opsG g)) ((rts g).take j)) n).getD 0 ≤ 100000 := fun n => by
     rw [addK_get, addK_get]
     have q1 := cntL_le (opsG g) n
     have q2 := cntL_le ((rts g).take j) n
     have e := opsG_len g
     simp only [gk, Option.getD_none, List.length_take] at q1 q2 ⊢
     omega
    by_cases hjl : j < (rts g).length
    ·have hjl' : (j : Int) < (rts g).length := by omega
     have hb := root_lit hg (List.getElem_mem hjl)
     have hcn : g.count ≤ 400 := by simp only [Aig.count]; omega
     have htk := take_succ (l := rts g) (i := j) hjl
     obtain ⟨a, ha⟩ : ∃ a, (rts g)[j] = a := ⟨_, rfl⟩
     rw [ha] at hb htk
     have s1 := addK_snoc 2 (addK 1 [] (opsG g)) ((rts g).take j) a
     rw [← htk] at s1
     have hc' := hc (a / 2)
     clear htk hc hrt hfc
     repeat' (first | simp (maxDischargeDepth := 9) -implicitDefEqProofs -dsimp only [go_sem, seval, map_int, *] | simp (disch := omega) only [wrap64, tdiv2, and1] | ((with_reducible refine Zv ?_ ?_); focus (first | omega | exact rfl)) | ((with_reducible refine Zu ?_ ?_); focus omega))
     refine loop_next _ _ _ _ (j + 1) ?_; (repeat' simp (maxDischargeDepth := 9) -implicitDefEqProofs -dsimp only [go_sem, seval, *]) <;> (repeat' refine And.intro ?_ ?_) <;> (first | omega | skip)
    ·have ej : j = (rts g).length := by omega
     subst ej
     have hjl' : ¬ ((rts g).length : Int) < (rts g).length := by omega
     have e1 : addK 2 (addK 1 [] (opsG g)) ((rts g).take (rts g).length) = nmK g := by rw [List.take_length]; rfl
     rw [e1]
     clear hc hrt
     have hoP : (¬ oP = oN ∧ σ oP = none) ∧ ¬ oN = oP := ⟨hoF, fun e => hoF.1 e.symm⟩
     clear hoF hnF hnF'
     repeat' (first | simp (maxDischargeDepth := 9) -implicitDefEqProofs -dsimp only [go_sem, seval, *] | ((with_reducible refine Zt (fun oF hoF hnF hnF' => ?_)); (try simp only [upd_none, ne_eq, not_and] at hoF)))
     rename_i oO hnO hnO' hoO
     obtain ⟨oI, eI⟩ : ∃ x, x = oF := ⟨oF, rfl⟩
     subst eI
     have hI : ¬ o = oO ∧ ¬ oO = o ∧ ¬ o = oI ∧ ¬ oI = o := by
      have e1 : ¬ o = oO := fun e => by rw [← e] at hoO; exact hno hoO.2.2
      have e2 : ¬ o = oI := fun e => by rw [← e] at hoF; exact hno hoF.2.2.2
      exact ⟨e1, fun e => e1 e.symm, e2, fun e => e2 e.symm⟩
     obtain ⟨a1, a2, a3⟩ := id hoO
     obtain ⟨b1, b2, b3, b4⟩ := id hoF
     have hne : ¬ oO = oI ∧ ¬ oP = oI ∧ ¬ oN = oI ∧ ¬ oP = oO ∧ ¬ oN = oO := ⟨fun e => b1 e.symm, fun e => b2 e.symm, fun e => b3 e.symm, fun e => a1 e.symm, fun e => a2 e.symm⟩
     refine loop_rule (fun x : List Nat × List (Int × Bool) => [(61, some (.ptr oI 0)), (11, some (.map oO)), (0, some (.ptr o 0)), (4, some (.map oP))])
      (fun x => upd (upd (upd (upd σ oN (.map true (encK (.int .i64) (nmK g)))) oP (.map true (encK .bool (plK (opsG g))))) oO (.map true (encK .bool x.2))) oI (.iter oN (nmK g).length x.1))
      (fun x => OutI g x.1 x.2) (fun x => uns x.1 (nmK g).length) ([], []) ?_ ?_
     ·have i1 := out_start g
      (repeat' simp (maxDischargeDepth := 9) -implicitDefEqProofs -dsimp only [go_sem, seval, encK_nil, *])
      all_goals exact fun h => h
     ·rintro ⟨seen, m⟩ hO
      simp only at hO ⊢
      repeat' simp (maxDischargeDepth := 9) -implicitDefEqProofs -dsimp only [go_sem, seval, *]
      refine ⟨fun hall => ?_, fun i hi hn => ?_⟩
      ·rw [encK_len] at hall
       have hd := out_done hO hall
       clear hall hO
       repeat' simp (maxDischargeDepth := 9) -implicitDefEqProofs -dsimp only [go_sem, seval, *]
       refine fin_v (.map oO) (upd σ oO (.map true (encK .bool m))) ⟨oO, m, a3, rfl, rfl, hd⟩ ?_ ?_
       ·simp (maxDischargeDepth := 9) -implicitDefEqProofs -dsimp only [go_sem, seval, *]
       ·clear hd
        (repeat' simp (maxDischargeDepth := 9) -implicitDefEqProofs -dsimp only [go_sem, seval, *])
        all_goals exact fun h => h
      ·rw [encK_len] at hi
       obtain ⟨p, hp⟩ : ∃ p, (nmK g)[i] = p := ⟨_, rfl⟩
       have hp' : (nmK g)[i]? = some p := by rw [List.getElem?_eq_getElem hi, hp]
       have he1 : ((encK (.int .i64) (nmK g))[i]'(by rw [encK_len]; exact hi)).1 = .int .i64 p.1 := by simp [encK, hp]
       have he2 : ((encK (.int .i64) (nmK g))[i]'(by rw [encK_len]; exact hi)).2 = .int .i64 p.2 := by simp [encK, hp]
       have he3 : (encK (.int .i64) (nmK g))[i]? = some (.int .i64 p.1, .int .i64 p.2) := by simp [encK, hp']
       have hst := out_step hO hp'
       have hv := innM_of hp'
       have hu := uns_add hn (nmK g).length
       rw [if_pos hi] at hu
       have hm1 : uns (seen ++ [i]) (nmK g).length < uns seen (nmK g).length := by omega
       rw [← plK_get] at hv
       rw [he1, he2]
       clear he1 he2 hu hO hp hp' hn hi
       by_cases d1 : g.first ≤ p.1
       ·by_cases d2 : p.2 = 1
        ·have hv' : innM g p.1 = (gk (plK (opsG g)) p.1).getD false := by rw [hv]; simp [d1, d2]
         rw [hv'] at hst
         clear hv hv'
         repeat' (first | simp (maxDischargeDepth := 9) -implicitDefEqProofs -dsimp only [go_sem, seval, ge_iff_le, List.getLast?_concat, Option.bind_some, map_bool, *] | simp (disch := omega) only [wrap64, tdiv2, and1] | ((with_reducible refine Zv ?_ ?_); focus (first | omega | exact rfl)) | ((with_reducible apply ACalls.one1); (focus ((with_reducible refine hfc _ ?_) <;> (first | (simp (maxDischargeDepth := 9) -implicitDefEqProofs -dsimp only [go_sem, seval, *]; done) | omega))); (focus (first | trivial | with_reducible exact rfl | (simp (maxDischargeDepth := 9) -implicitDefEqProofs -dsimp only [go_sem, seval]; done)))))
         refine loop_next _ _ _ _ (seen ++ [i], _) ⟨?_, ?_, hst, hm1⟩
         ·(repeat' simp (maxDischargeDepth := 9) -implicitDefEqProofs -dsimp only [go_sem, seval, *])
         ·(repeat' simp (maxDischargeDepth := 9) -implicitDefEqProofs -dsimp only [go_sem, seval, *])
          all_goals exact fun h => h
        ·have d3 : (p.2 == 1) = false := by simpa using d2
         have hv' : innM g p.1 = false := by rw [hv]; simp [d2]
         rw [hv'] at hst
         clear hv hv'
         repeat' (first | simp (maxDischargeDepth := 9) -implicitDefEqProofs -dsimp only [go_sem, seval, ge_iff_le, List.getLast?_concat, Option.bind_some, map_bool, *] | simp (disch := omega) only [wrap64, tdiv2, and1] | ((with_reducible refine Zv ?_ ?_); focus (first | omega | exact rfl)) | ((with_reducible apply ACalls.one1); (focus ((with_reducible refine hfc _ ?_) <;> (first | (simp (maxDischargeDepth := 9) -implicitDefEqProofs -dsimp only [go_sem, seval, *]; done) | omega))); (focus (first | trivial | with_reducible exact rfl | (simp (maxDischargeDepth := 9) -implicitDefEqProofs -dsimp only [go_sem, seval]; done)))))
         refine loop_next _ _ _ _ (seen ++ [i], _) ⟨?_, ?_, hst, hm1⟩
         ·(repeat' simp (maxDischargeDepth := 9) -implicitDefEqProofs -dsimp only [go_sem, seval, *])
         ·(repeat' simp (maxDischargeDepth := 9) -implicitDefEqProofs -dsimp only [go_sem, seval, *])
          all_goals exact fun h => h
       ·have hv' : innM g p.1 = false := by rw [hv]; simp [d1]
        rw [hv'] at hst
        clear hv hv'
        repeat' (first | simp (maxDischargeDepth := 9) -implicitDefEqProofs -dsimp only [go_sem, seval, ge_iff_le, List.getLast?_concat, Option.bind_some, map_bool, *] | simp (disch := omega) only [wrap64, tdiv2, and1] | ((with_reducible refine Zv ?_ ?_); focus (first | omega | exact rfl)) | ((with_reducible apply ACalls.one1); (focus ((with_reducible refine hfc _ ?_) <;> (first | (simp (maxDischargeDepth := 9) -implicitDefEqProofs -dsimp only [go_sem, seval, *]; done) | omega))); (focus (first | trivial | with_reducible exact rfl | (simp (maxDischargeDepth := 9) -implicitDefEqProofs -dsimp only [go_sem, seval]; done)))))
        refine loop_next _ _ _ _ (seen ++ [i], _) ⟨?_, ?_, hst, hm1⟩
        ·(repeat' simp (maxDischargeDepth := 9) -implicitDefEqProofs -dsimp only [go_sem, seval, *])
        ·(repeat' simp (maxDischargeDepth := 9) -implicitDefEqProofs -dsimp only [go_sem, seval, *])
         all_goals exact fun h => h
end Go.Proofs.Ytapnlmhfacoceaa

namespace Go.Proofs.Ytapnlmhfacoceaa
open Abs Fil Fil.Rw
open Go.Shelf Go.RowKit Go.Lib Go.Sort
def ren23 : Ren where
 f := fun x => match x with
  | 23 => 75
  | n => n
 t := fun x => match x with
  | 22 => 24
  | 3 => 3
  | 4 => 4
  | 0 => 0
  | n => n
 g := fun x => x
theorem body23 : Try.f75 = Body2.n23 ren23 := by kernel_rfl
theorem lays23 : Lays2.n23 Try.prog ren23 :=
  { mixed := by kernel_rfl, f23 := Eq.trans Try.func75 (congrArg some body23),
    t0 := Try.underlying0, a0 := Try.isAgg0, z0 := Try.sizeOf0, v0 := Try.zeroValue0, t3 := Try.underlying3,
    a3 := Try.isAgg3, z3 := Try.sizeOf3, v3 := Try.zeroValue3, t4 := Try.underlying4, a4 := Try.isAgg4, z4 := Try.sizeOf4,
    v4 := Try.zeroValue4, t22 := Try.underlying24, a22 := Try.isAgg24, z22 := Try.sizeOf24, v22 := Try.zeroValue24,
    i3 := by kernel_rfl }
theorem relL_ints {K : Gh} (X : List Int) : RelL K (X.map encInt) (X.map (Value.int .i64)) := ⟨by simp, fun i h1 h2 => by
 simp only [List.getElem_map]; exact .int _ _⟩
theorem callable75 : callable Try.prog 75 = true := by
 simp only [callable, lays23.f23]
 rfl
set_option maxRecDepth 20000 in
theorem rw_Delete (o N i : Nat) (l j : List Int) (V : AV) (σ : Sig) (hσ : σ o = some (.vec 1 N (l.map encInt ++ j.map encInt))) (hN : N = l.length + j.length) (hV : (V = .vec o N ∧ j = []) ∨ V = .pre o l.length N) (hi : i < l.length) :
  ACalls Try.prog 75 [V, .int .i64 i, .int .i64 (i + 1)] σ
   (fun r s => r = .ret (.pre o (l.length - 1) N) ∧ s = upd σ o (.vec 1 N ((l.eraseIdx i).map encInt ++ ((0 :: j).map encInt)))) := by
 refine ⟨callable75, fun S K w vals hS hr hs => ?_⟩
 obtain ⟨vs⟩ := vals
 obtain ⟨hl, hrel⟩ := hr
 simp only [List.length_cons, List.length_nil] at hl
 match vs, hl with
 | [v0, v1, v2], _ =>
  have r0 := hrel 0 (by simp) (by simp)
  have r1 := hrel 1 (by simp) (by simp)
  have r2 := hrel 2 (by simp) (by simp)
  simp only [List.getElem_cons_zero, List.getElem_cons_succ] at r0 r1 r2
  have e1 := rel_int r1
  have e2 := rel_int r2
  subst e1 e2
  have hat : ∃ b cap, v0 = .slice (some ⟨b, 0, none⟩) l.length cap ∧ K.own o = some (.vec b cap 1 N) ∧ (N ≤ cap ∧ ((1 : Nat) = 1 → cap ≤ 9223372036854775807)) ∧ (l.map encInt ++ j.map encInt).length = N * 1 ∧ K.base.heap.size ≤ b ∧ (∃ c el, w.heap[b]? = some (.cells c el (0, 0)) ∧ c.size = cap * 1 ∧ RelC K (l.map encInt ++ j.map encInt) c) ∧ ∀ i, K.claim b i = none := by
   rcases hV with ⟨rfl, rfl⟩ | rfl
   ·obtain rfl : N = l.length := by simpa using hN
    exact vec_at hs hσ r0
   ·obtain ⟨b, cap, q1, _, q2⟩ := pre_at hs hσ r0
    exact ⟨b, cap, q1, q2⟩
  obtain ⟨b, cap, rfl, hown, hcap, hlen, hbase, ⟨c, el, hc1, hc2, hc3⟩, hno⟩ := hat
  have hcell : ∀ k, k < l.length → w.cell? ⟨b, 0 + k, none⟩ = some (.int .i64 (l.getD k 0)) := fun k hk => by
   have hk2 : k < c.size := by omega
   have hk1 : k < (l.map encInt ++ j.map encInt).length := by simp; omega
   have := rel_int (K := K) (k := .i64) (n := l.getD k 0) (v := c[k]) (by
    have h := (hc3.2 k hk1 hk2).1
    rw [List.getElem_append_left (by simpa using hk)] at h
    simpa [List.getD_eq_getElem?_getD, hk] using h)
   simp [World.cell?, hc1, hk2, this]
  have hfz : ∀ k, k < l.length → w.frozen? ⟨b, 0 + k, none⟩ = false := fun k hk => by simp [World.frozen?, hc1]
  have hcall := Any.slices_Delete_int_cells lays23 b 0 l.length cap i (i + 1) l w (Nat.le_refl _) (by omega) (hcap.2 rfl) (by omega) (by omega) hcell hfz
  refine hcall.mono ?_
  rintro e w' ⟨rfl, q, rfl⟩
  have hnews : List.take i (List.take l.length l) ++ List.drop (i + 1) (List.take l.length l) ++ List.replicate (i + 1 - i) 0 = l.eraseIdx i ++ [0] := by
   rw [List.take_length, List.eraseIdx_eq_take_drop_succ, show i + 1 - i = 1 by omega]; rfl
  have hel : (l.eraseIdx i ++ [0]).length = l.length := by
   rw [List.length_append, List.length_eraseIdx, if_pos hi]; simp; omega
  rw [hnews]
  have hone : ∀ v ∈ (l.eraseIdx i ++ [0]).map (Value.int .i64), v.oneCell' = true := fun v hv => by
   obtain ⟨x, _, rfl⟩ := List.mem_map.1 hv; rfl
  have hlc : (l.eraseIdx i ++ [0]).length ≤ c.size := by rw [hel]; omega
  have hcs : (w.drewN q).heap[b]? = some (.cells c el (0, 0)) := hc1
  have e1 := run_storeCells_at Try.prog b 0 el ((l.eraseIdx i ++ [0]).map (Value.int .i64)) 0 c (w.drewN q) hcs (by simpa using hlc) hone
  have e2 := run_storeCells_cells (P := Try.prog) b 0 ((l.eraseIdx i ++ [0]).map (Value.int .i64)) 0 (w.drewN q) (fun k hk => by
   have hk' : k < c.size := by rw [List.length_map] at hk; omega
   simp [World.cell?, hc1, hk']) (fun k hk => by simp [World.frozen?, hc1]) hone
  simp only [Nat.add_zero] at e1 e2
  have e3 := e1.symm.trans e2
  simp only [Result.ok.injEq, true_and] at e3
  rw [← e3]
  have hs' : Sat K σ (w.drewN q) := hs.same rfl rfl rfl rfl
  have htl : c.toList.length = c.size := by simp
  have hd : RelL K (j.map encInt) ((c.toList.drop l.length).take j.length) := ⟨by
   rw [List.length_map, List.length_take, List.length_drop]; omega, fun k k1 k2 => by
   have q1 : l.length + k < (l.map encInt ++ j.map encInt).length := by
    rw [List.length_append, List.length_map]; rw [List.length_map] at k1; simp; omega
   have q2 : l.length + k < c.size := by rw [List.length_map] at k1; omega
   have h := (hc3.2 (l.length + k) q1 q2).1
   rw [List.getElem_append_right (by simp)] at h
   simpa using h⟩
  have hj1 : ∀ u ∈ (c.toList.drop l.length).take j.length, u.oneCell' = true := fun u hu => by
   obtain ⟨k, hk, rfl⟩ := List.getElem_of_mem hu
   have hk2 : k < j.length := by rw [← List.length_map (f := encInt), hd.1]; exact hk
   have q1 : l.length + k < (l.map encInt ++ j.map encInt).length := by rw [List.length_append, List.length_map, List.length_map]; omega
   have h := (hc3.2 (l.length + k) q1 (by omega)).2
   simpa using h
  have hrel := relC_of (Z := (c.toList.drop l.length).drop j.length) ((relL_ints (K := K) (l.eraseIdx i ++ [0])).append hd) (fun u hu => by
   rcases List.mem_append.1 hu with h | h
   ·exact hone u h
   ·exact hj1 u h)
  rw [List.append_assoc, List.take_append_drop] at hrel
  have hlen2 : (List.map (Value.int IntKind.i64) (l.eraseIdx i ++ [0])).length = l.length := by rw [List.length_map, hel]
  have hc' : (List.take 0 c.toList ++ List.map (Value.int IntKind.i64) (l.eraseIdx i ++ [0]) ++ List.drop (0 + (List.map (Value.int IntKind.i64) (l.eraseIdx i ++ [0])).length) c.toList) = List.map (Value.int IntKind.i64) (l.eraseIdx i ++ [0]) ++ c.toList.drop l.length := by
   rw [hlen2]; simp
  rw [hc']
  have hce : (l.eraseIdx i ++ [0]).map encInt ++ j.map encInt = (l.eraseIdx i).map encInt ++ ((0 :: j).map encInt) := by simp
  rw [hce] at hrel
  have hsz : (List.map (Value.int IntKind.i64) (l.eraseIdx i ++ [0]) ++ c.toList.drop l.length).toArray.size = cap * 1 := by
   rw [List.size_toArray, List.length_append, hlen2, List.length_drop]; omega
  have hlen3 : ((l.eraseIdx i).map encInt ++ ((0 :: j).map encInt)).length = N * 1 := by
   rw [← hce, List.length_append, List.length_map, hel, List.length_map]; omega
  refine ⟨K, .ret (.pre o (l.length - 1) N), _, Gh.leS.refl K, ?_, ?_, rfl, rfl⟩
  ·exact Sat.setRow (e := .vec b cap 1 N) hs' hσ hown rfl _ hcs hno ⟨rfl, rfl, hlen3, hcap, hbase, ⟨_, el, setRow_heap _ b c _ el (0, 0) hcs, hsz, hrel.2⟩, hno⟩
  ·have e5 : l.length - (i + 1 - i) = l.length - 1 := by omega
   rw [e5]
   exact .pre o (l.length - 1) N b cap ⟨b, cap, 1, N, .inl hown, Nat.le_refl N, fun _ => ⟨rfl, rfl⟩⟩ (by omega) hcap.1
end Go.Proofs.Ytapnlmhfacoceaa

namespace Fil.Rw
open Abs
open Eqv (moveL)
def lstAt (lev l : List Int) : Nat → Nat
 | 0 => 0
 | i + 1 => if lev.getD (l.getD i 0 / 2).toNat 0 < lev.getD (l.getD (lstAt lev l i) 0 / 2).toNat 0 then i else lstAt lev l i
def lst (lev l : List Int) : Nat := lstAt lev l l.length
theorem lstAt_le (lev l : List Int) : ∀ i, lstAt lev l i ≤ i - 1
 | 0 => Nat.le_refl _
 | i + 1 => by
  have := lstAt_le lev l i
  unfold lstAt
  split <;> omega
theorem lst_lt {lev l : List Int} (h : 0 < l.length) : lst lev l < l.length := by
 have := lstAt_le lev l l.length
 unfold lst; omega
def pairJ (lev l : List Int) : Int × Int :=
 let i := lst lev l
 let rest := l.eraseIdx i
 let k := lst lev rest
 if k < i then (rest.getD k 0, l.getD i 0) else (l.getD i 0, rest.getD k 0)
def restJ (lev l : List Int) : List Int := (l.eraseIdx (lst lev l)).eraseIdx (lst lev (l.eraseIdx (lst lev l)))
def stepJ (b : B) (l : List Int) : B × List Int :=
 let r := andB b (pairJ b.lev l).1 (pairJ b.lev l).2
 (r.1, restJ b.lev l ++ [r.2])
def joinB : Nat → B → List Int → B × Int
 | 0, b, l => (b, l.getD 0 0)
 | f + 1, b, l => if l.length ≤ 1 then (b, l.getD 0 0) else joinB f (stepJ b l).1 (stepJ b l).2
theorem erase_len {l : List Int} {i : Nat} (h : i < l.length) : (l.eraseIdx i).length = l.length - 1 := by rw [List.length_eraseIdx, if_pos h]
theorem mem_erase {l : List Int} {i : Nat} {a : Int} (h : a ∈ l.eraseIdx i) : a ∈ l := List.mem_of_mem_eraseIdx h
theorem getD_mem {l : List Int} {i : Nat} (h : i < l.length) : l.getD i 0 ∈ l := by
 rw [List.getD_eq_getElem?_getD, List.getElem?_eq_getElem h]; exact List.getElem_mem h
structure JI (b : B) (l : List Int) : Prop extends Bd b where
 lits : ∀ a ∈ l, b.g.lit a = true
 ne : 0 < l.length
 cnt : b.g.count + l.length ≤ 2000
theorem JI.idx {b : B} {l : List Int} (h : JI b l) {a : Int} (ha : a ∈ l) : 0 ≤ a ∧ (a / 2).toNat < b.lev.length ∧ a ≤ 10000 := by
 have := litN_iff.1 (h.lits a ha)
 have hl := h.toBd.llen
 have := h.cnt
 omega
theorem pairJ_mem {b : B} {l : List Int} (h2 : 2 ≤ l.length) : (pairJ b.lev l).1 ∈ l ∧ (pairJ b.lev l).2 ∈ l := by
 have q1 := lst_lt (lev := b.lev) (show 0 < l.length by omega)
 have q2 := erase_len q1
 have q3 := lst_lt (lev := b.lev) (show 0 < (l.eraseIdx (lst b.lev l)).length by omega)
 unfold pairJ
 simp only
 split
 ·exact ⟨mem_erase (getD_mem q3), getD_mem q1⟩
 ·exact ⟨getD_mem q1, mem_erase (getD_mem q3)⟩
theorem restJ_len {b : B} {l : List Int} (h2 : 2 ≤ l.length) : (restJ b.lev l).length = l.length - 2 := by
 have q1 := lst_lt (lev := b.lev) (show 0 < l.length by omega)
 have q2 := erase_len q1
 have q3 := lst_lt (lev := b.lev) (show 0 < (l.eraseIdx (lst b.lev l)).length by omega)
 unfold restJ
 rw [erase_len q3]; omega
theorem JI.step {b : B} {l : List Int} (h : JI b l) (h2 : 2 ≤ l.length) : (b.g.And (pairJ b.lev l).1 (pairJ b.lev l).2).2.2 = 0 ∧ JI (stepJ b l).1 (stepJ b l).2 ∧ (stepJ b l).2.length = l.length - 1 ∧ Ext b.g (stepJ b l).1.g ∧ (stepJ b l).1.lits = b.lits ∧ (stepJ b l).1.g.ands.length ≤ b.g.ands.length + 1 := by
 obtain ⟨m1, m2⟩ := pairJ_mem (b := b) h2
 have hc := h.cnt
 obtain ⟨k0, k1, k2, k3, k4, k5⟩ := andB_ok h.toBd (h.lits _ m1) (h.lits _ m2) (by omega)
 have hrl := restJ_len (b := b) h2
 have hlen : (stepJ b l).2.length = l.length - 1 := by unfold stepJ; simp only [List.length_append, hrl, List.length_cons, List.length_nil]; omega
 refine ⟨k0, ⟨k1, fun a ha => ?_, by omega, ?_⟩, hlen, k3, k5, k4⟩
 ·unfold stepJ at ha
  rcases List.mem_append.1 ha with q | q
  ·exact k3.lit (h.lits a (mem_erase (mem_erase q)))
  ·simp at q; subst q; exact k2
 ·rw [hlen]
  have e : (stepJ b l).1.g.count ≤ b.g.count + 1 := by
   show (andB b _ _).1.g.count ≤ _
   simp only [Aig.count, k3.ins, k3.flops]; omega
  omega
theorem joinB_step {b : B} {l : List Int} (h : JI b l) (h2 : 2 ≤ l.length) : joinB l.length b l = joinB (stepJ b l).2.length (stepJ b l).1 (stepJ b l).2 := by
 rw [(h.step h2).2.2.1]
 obtain ⟨f, hf⟩ : ∃ f, l.length = f + 1 := ⟨l.length - 1, by omega⟩
 rw [hf, show f + 1 - 1 = f by omega]
 conv => lhs; unfold joinB
 rw [if_neg (by omega)]
theorem joinB_one {b : B} {l : List Int} (h : l.length = 1) : joinB l.length b l = (b, l.getD 0 0) := by
 rw [h]; unfold joinB; rw [if_pos (by omega)]
theorem JI.join {b : B} {l : List Int} (h : JI b l) : Bd (joinB l.length b l).1 ∧ (joinB l.length b l).1.g.lit (joinB l.length b l).2 = true ∧ Ext b.g (joinB l.length b l).1.g ∧ (joinB l.length b l).1.lits = b.lits ∧ (joinB l.length b l).1.g.ands.length + 1 ≤ b.g.ands.length + l.length := by
 obtain ⟨n, hn⟩ : ∃ n, l.length = n := ⟨_, rfl⟩
 induction n generalizing b l with
 | zero => have := h.ne; omega
 | succ n ih =>
  by_cases h2 : 2 ≤ l.length
  ·obtain ⟨_, k1, k2, k3, k4, k5⟩ := h.step h2
   rw [joinB_step h h2]
   obtain ⟨m1, m2, m3, m4, m5⟩ := ih k1 (by omega)
   exact ⟨m1, m2, k3.trans m3, m4.trans k4, by omega⟩
  ·have h1 : l.length = 1 := by have := h.ne; omega
   rw [joinB_one h1]
   exact ⟨h.toBd, h.lits _ (getD_mem (by omega)), .refl _, rfl, by simp only; omega⟩
end Fil.Rw

namespace Go.Proofs.Ytapnlmhfacoceaa
open Abs Fil Fil.Rw
open Eqv (moveL)
theorem head_at {l : List Int} {J : List AV} {i : Nat} (h : i < l.length) : (List.take 1 (List.drop i (l.map encInt ++ J))).head? = some (.int .i64 (l.getD i 0)) := by
 rw [List.drop_append_of_le_length (by simp; omega), List.drop_eq_getElem_cons (by simpa using h)]
 simp [List.getD_eq_getElem?_getD, h]
theorem get_at {l : List Int} {i : Nat} (h : i < l.length) : l[i] = l.getD i 0 := by simp [List.getD_eq_getElem?_getD, h]
set_option maxRecDepth 20000 in
set_option maxHeartbeats 4000000 in
theorem rw_least (o : Nat) (c0 c1 c2 c3 c4 c5 c6 c7 c8 : AV) (lev : List Int) (t9 : Tok) (l : List Int) (V : AV) (σ : Sig) (hB : σ o = some (.cells [c0, c1, c2, c3, c4, c5, c6, c7, c8, ilist lev t9]))
  (hV : (∃ t, V = .slice (l.map encInt) t) ∨ ∃ (p N : Nat) (j : List Int), V = .pre p l.length N ∧ N = l.length + j.length ∧ σ p = some (.vec 1 N (l.map encInt ++ j.map encInt)))
  (hl : ∀ a ∈ l, 0 ≤ a ∧ (a / 2).toNat < lev.length ∧ a ≤ 10000) (hll : l.length ≤ 100000) (hlev : ∀ v ∈ lev, 0 ≤ v ∧ v ≤ 1000000) :
  ACalls Try.prog 74 [.ptr o 0, V] σ (fun r s => r = .ret (.int .i64 (lst lev l)) ∧ s = σ) := by
 refine calls_x mixed Try.func74 b74 n74 rfl q74 (by simp) ?_; unfold c74 r74
 rcases hV with ⟨t, rfl⟩ | ⟨p, N, j, rfl, hN, hp⟩
 ·repeat' simp (maxDischargeDepth := 9) -implicitDefEqProofs -dsimp only [go_sem, seval, *]
  refine loop_rule (fun i : Nat => [(10, some (.int .i64 i)), (9, some (.int .i64 l.length)), (8, some (.slice (l.map encInt) t)), (0, some (.ptr o 0)), (1, some (.slice (l.map encInt) t)), (5, some (.int .i64 (lstAt lev l i)))])
   (fun i => σ) (fun i => i ≤ l.length) (fun i => l.length - i) 0 ?_ ?_
  ·have e0 : lstAt lev l 0 = 0 := rfl
   (repeat' simp (maxDischargeDepth := 9) -implicitDefEqProofs -dsimp only [go_sem, seval, e0, *]) <;> (first | omega | skip)
  ·intro i hi
   have hbl := lstAt_le lev l i
   by_cases hlt : i < l.length
   ·have hlt' : (i : Int) < l.length := by omega
    have hbt : lstAt lev l i < l.length := by omega
    have hS : lstAt lev l (i + 1) = if lev.getD (l.getD i 0 / 2).toNat 0 < lev.getD (l.getD (lstAt lev l i) 0 / 2).toNat 0 then i else lstAt lev l i := rfl
    obtain ⟨m, hm⟩ : ∃ m, lstAt lev l i = m := ⟨_, rfl⟩
    rw [hm] at hS hbl hbt ⊢
    have x1 := hl _ (getD_mem hlt)
    have x2 := hl _ (getD_mem hbt)
    have g1 := get_at hlt
    have g2 := get_at hbt
    obtain ⟨a, ha⟩ : ∃ a, l.getD i 0 = a := ⟨_, rfl⟩
    obtain ⟨b, hb⟩ : ∃ b, l.getD m 0 = b := ⟨_, rfl⟩
    rw [ha] at x1 g1 hS
    rw [hb] at x2 g2 hS
    have g3 := get_at (l := lev) x1.2.1
    have g4 := get_at (l := lev) x2.2.1
    clear hl hlev hm ha hb
    by_cases hc : lev.getD (a / 2).toNat 0 < lev.getD (b / 2).toNat 0
    ·rw [if_pos hc] at hS
     repeat' (first | simp (maxDischargeDepth := 9) -implicitDefEqProofs -dsimp only [go_sem, seval, *] | simp (disch := omega) only [wrap64, tdiv2] | ((with_reducible refine Zv ?_ ?_); focus (first | omega | exact rfl)) | ((with_reducible refine Zu ?_ ?_); focus omega))
     refine loop_next _ _ _ _ (i + 1) ?_; (repeat' simp (maxDischargeDepth := 9) -implicitDefEqProofs -dsimp only [go_sem, seval, *]) <;> (repeat' refine And.intro ?_ ?_) <;> (first | omega | skip)
    ·rw [if_neg hc] at hS
     repeat' (first | simp (maxDischargeDepth := 9) -implicitDefEqProofs -dsimp only [go_sem, seval, *] | simp (disch := omega) only [wrap64, tdiv2] | ((with_reducible refine Zv ?_ ?_); focus (first | omega | exact rfl)) | ((with_reducible refine Zu ?_ ?_); focus omega))
     refine loop_next _ _ _ _ (i + 1) ?_; (repeat' simp (maxDischargeDepth := 9) -implicitDefEqProofs -dsimp only [go_sem, seval, *]) <;> (repeat' refine And.intro ?_ ?_) <;> (first | omega | skip)
   ·have hlt' : ¬ (i : Int) < l.length := by omega
    have ei : i = l.length := by omega
    subst ei
    clear hl hlev
    repeat' simp (maxDischargeDepth := 9) -implicitDefEqProofs -dsimp only [go_sem, seval, *]
    refine fin_eq ?_
    (repeat' simp (maxDischargeDepth := 9) -implicitDefEqProofs -dsimp only [go_sem, seval, lst, *])
 ·have hNb : l.length ≤ N := by omega
  clear hN
  repeat' simp (maxDischargeDepth := 9) -implicitDefEqProofs -dsimp only [go_sem, seval, Nat.mul_one, Int.toNat_natCast, *]
  refine loop_rule (fun i : Nat => [(10, some (.int .i64 i)), (9, some (.int .i64 l.length)), (8, some (.pre p l.length N)), (0, some (.ptr o 0)), (1, some (.pre p l.length N)), (5, some (.int .i64 (lstAt lev l i)))])
   (fun i => σ) (fun i => i ≤ l.length) (fun i => l.length - i) 0 ?_ ?_
  ·have e0 : lstAt lev l 0 = 0 := rfl
   (repeat' simp (maxDischargeDepth := 9) -implicitDefEqProofs -dsimp only [go_sem, seval, e0, *]) <;> (first | omega | skip)
  ·intro i hi
   have hbl := lstAt_le lev l i
   by_cases hlt : i < l.length
   ·have hlt' : (i : Int) < l.length := by omega
    have hbt : lstAt lev l i < l.length := by omega
    have hS : lstAt lev l (i + 1) = if lev.getD (l.getD i 0 / 2).toNat 0 < lev.getD (l.getD (lstAt lev l i) 0 / 2).toNat 0 then i else lstAt lev l i := rfl
    obtain ⟨m, hm⟩ : ∃ m, lstAt lev l i = m := ⟨_, rfl⟩
    rw [hm] at hS hbl hbt ⊢
    have x1 := hl _ (getD_mem hlt)
    have x2 := hl _ (getD_mem hbt)
    have g1 := head_at (J := j.map encInt) hlt
    have g2 := head_at (J := j.map encInt) hbt
    obtain ⟨a, ha⟩ : ∃ a, l.getD i 0 = a := ⟨_, rfl⟩
    obtain ⟨b, hb⟩ : ∃ b, l.getD m 0 = b := ⟨_, rfl⟩
    rw [ha] at x1 g1 hS
    rw [hb] at x2 g2 hS
    have g3 := get_at (l := lev) x1.2.1
    have g4 := get_at (l := lev) x2.2.1
    clear hl hlev hm ha hb
    by_cases hc : lev.getD (a / 2).toNat 0 < lev.getD (b / 2).toNat 0
    ·rw [if_pos hc] at hS
     repeat' (first | simp (maxDischargeDepth := 9) -implicitDefEqProofs -dsimp only [go_sem, seval, Nat.mul_one, Int.toNat_natCast, *] | simp (disch := omega) only [wrap64, tdiv2] | ((with_reducible refine Zv ?_ ?_); focus (first | omega | exact rfl)) | ((with_reducible refine Zu ?_ ?_); focus omega))
     refine loop_next _ _ _ _ (i + 1) ?_; (repeat' simp (maxDischargeDepth := 9) -implicitDefEqProofs -dsimp only [go_sem, seval, *]) <;> (repeat' refine And.intro ?_ ?_) <;> (first | omega | skip)
    ·rw [if_neg hc] at hS
     repeat' (first | simp (maxDischargeDepth := 9) -implicitDefEqProofs -dsimp only [go_sem, seval, Nat.mul_one, Int.toNat_natCast, *] | simp (disch := omega) only [wrap64, tdiv2] | ((with_reducible refine Zv ?_ ?_); focus (first | omega | exact rfl)) | ((with_reducible refine Zu ?_ ?_); focus omega))
     refine loop_next _ _ _ _ (i + 1) ?_; (repeat' simp (maxDischargeDepth := 9) -implicitDefEqProofs -dsimp only [go_sem, seval, *]) <;> (repeat' refine And.intro ?_ ?_) <;> (first | omega | skip)
   ·have hlt' : ¬ (i : Int) < l.length := by omega
    have ei : i = l.length := by omega
    subst ei
    clear hl hlev
    repeat' simp (maxDischargeDepth := 9) -implicitDefEqProofs -dsimp only [go_sem, seval, Nat.mul_one, Int.toNat_natCast, *]
    refine fin_eq ?_
    (repeat' simp (maxDischargeDepth := 9) -implicitDefEqProofs -dsimp only [go_sem, seval, lst, *])
theorem unflat_one : ∀ cs : List AV, unflat false 1 cs.length cs = some cs
 | [] => rfl
 | a :: r => by
  have ih := unflat_one r
  simp only [List.length_cons, unflat, List.take_succ_cons, List.take_zero, List.drop_succ_cons, List.drop_zero, mkv, List.head?_cons, ih]
  rfl
set_option maxRecDepth 20000 in
set_option maxHeartbeats 4000000 in
theorem rw_joined (o p oV : Nat) (old : Aig) (b : B) (l : List Int) (t : Tok) (to : Tok) (L : AV) (σ : Sig) (hB : σ o = some (bldC old b.g (flV p b.g.flops) .no to L (ilist b.lev (.own oV)))) (hL : cellsA L = [L]) (hL1 : oneA L = true)
  (hp : σ p = some (flO b.g.flops)) (hV : σ oV = some (.grow 1 b.lev.length)) (n1 : ¬ o = p) (n1' : ¬ p = o) (n2 : ¬ o = oV) (n2' : ¬ oV = o) (n3 : ¬ p = oV) (n3' : ¬ oV = p) (hJ : JI b l) :
  ACalls Try.prog 52 [.ptr o 0, .slice (l.map encInt) t] σ
   (fun r σ' => r = .ret (.int .i64 (joinB l.length b l).2) ∧ σ' = upd (upd σ o (bldC old (joinB l.length b l).1.g (flV p (joinB l.length b l).1.g.flops) .no to L (ilist (joinB l.length b l).1.lev (.own oV)))) oV (.grow 1 (joinB l.length b l).1.lev.length)) := by
 refine calls_x mixed Try.func52 b52 n52 rfl q52 (by simp) ?_; unfold c52 r52
 have hjf : (joinB l.length b l).1.g.flops = b.g.flops := hJ.join.2.2.1.flops
 rw [hjf]
 have c1 := flV_cells p b.g.flops
 have c2 := flV_one p b.g.flops
 have hno : ¬ σ o = none := by rw [hB]; simp
 have hnp : ¬ σ p = none := by rw [hp]; simp
 have hnV : ¬ σ oV = none := by rw [hV]; simp
 obtain ⟨F, hF⟩ : ∃ F, flV p b.g.flops = F := ⟨_, rfl⟩
 obtain ⟨FO, hFO⟩ : ∃ F, flO b.g.flops = F := ⟨_, rfl⟩
 rw [hF] at hB c1 c2 ⊢
 rw [hFO] at hp
 repeat' simp (maxDischargeDepth := 9) -implicitDefEqProofs -dsimp only [go_sem, seval, *]
 refine loop_rule (fun x : B × List Int => [(1, some (.slice (x.2.map encInt) .no)), (0, some (.ptr o 0))])
  (fun x => upd (upd σ o (bldC old x.1.g F .no to L (ilist x.1.lev (.own oV)))) oV (.grow 1 x.1.lev.length))
  (fun x => JI x.1 x.2 ∧ x.1.g.flops = b.g.flops ∧ joinB x.2.length x.1 x.2 = joinB l.length b l) (fun x => x.2.length) (b, l) ?_ ?_
 ·have hf : b.g.flops = b.g.flops := rfl
  clear hjf
  (repeat' simp (maxDischargeDepth := 9) -implicitDefEqProofs -dsimp only [go_sem, seval, *])
 ·rintro ⟨b', l'⟩ ⟨hI, hfl, hres⟩
  simp only at hI hfl hres ⊢
  clear hjf
  have hc := hI.cnt
  have hll : l'.length ≤ 2000 := by
   have := hI.toBd.fine.lo
   have : 0 ≤ b'.g.count := by simp only [Aig.count]; omega
   omega
  by_cases h2 : 2 ≤ l'.length
  ·have hgt : (1 : Int) < l'.length := by omega
   obtain ⟨k0, k1, k2, k3, k4, k5⟩ := hI.step h2
   have hres' := (joinB_step hI h2).symm.trans hres
   obtain ⟨m1, m2⟩ := pairJ_mem (b := b') h2
   have p1 := hI.idx m1
   have p2 := hI.idx m2
   have hrl := restJ_len (b := b') h2
   have hlev := hI.toBd.bound
   have q1 := lst_lt (lev := b'.lev) (show 0 < l'.length by omega)
   have q2 := erase_len q1
   have q3 := lst_lt (lev := b'.lev) (show 0 < (l'.eraseIdx (lst b'.lev l')).length by omega)
   have hidx1 : ∀ a ∈ l', 0 ≤ a ∧ (a / 2).toNat < b'.lev.length ∧ a ≤ 10000 := fun a ha => hI.idx ha
   have hidx2 : ∀ a ∈ l'.eraseIdx (lst b'.lev l'), 0 ≤ a ∧ (a / 2).toNat < b'.lev.length ∧ a ≤ 10000 := fun a ha => hI.idx (mem_erase ha)
   have hl1 := fun τ hB => rw_least o (.int .i64 old.ins) (.slice (old.flops.map encFlop) .no) (.slice (old.ands.map encGate) .no) (.slice (old.outs.map encInt) .no) (.int .i64 b'.g.ins) F (.slice (b'.g.ands.map encGate) .no) (.slice (b'.g.outs.map encInt) to) L b'.lev (.own oV) l' (.slice (l'.map encInt) .no) τ hB (.inl ⟨_, rfl⟩) hidx1 (by omega) hlev
   have hand := fun τ hB hp hV => rw_and o p oV old b' (pairJ b'.lev l').1 (pairJ b'.lev l').2 to L τ hB hL hL1 hp hV n1 n1' n2 n2' n3 n3' hI.toBd.fine.toWf p1.1 p1.2.1 p2.1 p2.2.1 hlev (by have := hI.toBd.llen; omega) k0 (by omega) (by omega)
   rw [hfl, hF, hFO] at hand
   have hcl : ∀ τ, ACalls Try.prog 70 [.slice (l'.map encInt) .no] τ (NewO τ (fun o => .vec o l'.length) (.vec 1 l'.length (l'.map encInt))) := fun τ => (rw_Clone l' .no τ (by omega)).mono fun r s h => by
    rcases h with ⟨e, _⟩ | ⟨_, h⟩
    ·subst e; simp at h2
    ·exact h
   have hst : stepJ b' l' = ((andB b' (pairJ b'.lev l').1 (pairJ b'.lev l').2).1, restJ b'.lev l' ++ [(andB b' (pairJ b'.lev l').1 (pairJ b'.lev l').2).2]) := rfl
   have hpj : pairJ b'.lev l' = if lst b'.lev (l'.eraseIdx (lst b'.lev l')) < lst b'.lev l' then ((l'.eraseIdx (lst b'.lev l')).getD (lst b'.lev (l'.eraseIdx (lst b'.lev l'))) 0, l'.getD (lst b'.lev l') 0) else (l'.getD (lst b'.lev l') 0, (l'.eraseIdx (lst b'.lev l')).getD (lst b'.lev (l'.eraseIdx (lst b'.lev l'))) 0) := rfl
   have hrj : restJ b'.lev l' = (l'.eraseIdx (lst b'.lev l')).eraseIdx (lst b'.lev (l'.eraseIdx (lst b'.lev l'))) := rfl
   obtain ⟨i, hi⟩ : ∃ i, lst b'.lev l' = i := ⟨_, rfl⟩
   rw [hi] at hl1 hpj hrj q1 q2 q3 hidx2
   obtain ⟨R, hR⟩ : ∃ R, l'.eraseIdx i = R := ⟨_, rfl⟩
   rw [hR] at hpj hrj q2 q3 hidx2
   obtain ⟨k, hk⟩ : ∃ k, lst b'.lev R = k := ⟨_, rfl⟩
   have hd1 : ∀ τ q, τ q = some (.vec 1 l'.length (l'.map encInt)) → ACalls Try.prog 75 [.vec q l'.length, .int .i64 i, .int .i64 (i + 1)] τ (fun r s => r = .ret (.pre q R.length l'.length) ∧ s = upd τ q (.vec 1 l'.length (R.map encInt ++ [.int .i64 0]))) := fun τ q h => by
    have := rw_Delete q l'.length i l' [] (.vec q l'.length) τ (by simpa using h) (by simp) (.inl ⟨rfl, rfl⟩) q1
    rw [hR, ← q2] at this
    exact this
   have hl2 : ∀ τ q, τ o = some (.cells [(.int .i64 old.ins), (.slice (old.flops.map encFlop) .no), (.slice (old.ands.map encGate) .no), (.slice (old.outs.map encInt) .no), (.int .i64 b'.g.ins), F, (.slice (b'.g.ands.map encGate) .no), (.slice (b'.g.outs.map encInt) to), L, ilist b'.lev (.own oV)]) → τ q = some (.vec 1 l'.length (R.map encInt ++ [.int .i64 0])) → ACalls Try.prog 74 [.ptr o 0, .pre q R.length l'.length] τ (fun r s => r = .ret (.int .i64 k) ∧ s = τ) := fun τ q hB h => by
    have := rw_least o (.int .i64 old.ins) (.slice (old.flops.map encFlop) .no) (.slice (old.ands.map encGate) .no) (.slice (old.outs.map encInt) .no) (.int .i64 b'.g.ins) F (.slice (b'.g.ands.map encGate) .no) (.slice (b'.g.outs.map encInt) to) L b'.lev (.own oV) R (.pre q R.length l'.length) τ hB (.inr ⟨q, l'.length, [0], rfl, by simp; omega, h⟩) hidx2 (by omega) hlev
    rw [hk] at this
    exact this
   rw [hk] at hpj hrj q3
   have q4 := erase_len q3
   have hd2 : ∀ τ q, τ q = some (.vec 1 l'.length (R.map encInt ++ [.int .i64 0])) → ACalls Try.prog 75 [.pre q R.length l'.length, .int .i64 k, .int .i64 (k + 1)] τ (fun r s => r = .ret (.pre q (restJ b'.lev l').length l'.length) ∧ s = upd τ q (.vec 1 l'.length ((restJ b'.lev l').map encInt ++ [.int .i64 0, .int .i64 0]))) := fun τ q h => by
    have := rw_Delete q l'.length k R [0] (.pre q R.length l'.length) τ h (by simp; omega) (.inr rfl) q3
    rw [← q4, ← hrj] at this
    exact this
   have g1 := get_at q1
   have g2 := head_at (J := [.int .i64 0]) q3
   obtain ⟨M, hM⟩ : ∃ M, restJ b'.lev l' = M := ⟨_, rfl⟩
   rw [hM] at hd2 hst hrl
   obtain ⟨⟨b2, z⟩, hz⟩ : ∃ r, andB b' (pairJ b'.lev l').1 (pairJ b'.lev l').2 = r := ⟨_, rfl⟩
   rw [hz] at hand hst
   rw [hst] at k1 k2 k3 hres'
   obtain ⟨x0, hx0⟩ : ∃ x, l'.getD i 0 = x := ⟨_, rfl⟩
   obtain ⟨x1, hx1⟩ : ∃ x, R.getD k 0 = x := ⟨_, rfl⟩
   rw [hx0] at g1 hpj
   rw [hx1] at g2 hpj
   have hun : unflat false 1 l'.length (M.map encInt ++ [.int .i64 z] ++ [.int .i64 0]) = some (M.map encInt ++ [.int .i64 z] ++ [.int .i64 0]) := by
    have := unflat_one (M.map encInt ++ [.int .i64 z] ++ [.int .i64 0])
    rw [show (M.map encInt ++ [AV.int IntKind.i64 z] ++ [AV.int IntKind.i64 0]).length = l'.length by simp; omega] at this
    exact this
   have htk : List.take (M.length + 1) (M.map encInt ++ [.int .i64 z] ++ [.int .i64 0]) = (M ++ [z]).map encInt := by
    rw [List.take_append_of_le_length (by simp), List.take_of_length_le (by simp)]; simp
   have hc3 : (M.map encInt ++ [AV.int .i64 0, .int .i64 0]).take M.length = M.map encInt := by simp
   have hc4 : (M.map encInt ++ [AV.int .i64 0, .int .i64 0]).drop (M.length + 1) = [.int .i64 0] := by
    rw [List.drop_append, List.drop_eq_nil_of_le (by simp)]; simp
   have hroom : M.length + 1 ≤ l'.length := by omega
   have hF2 : b2.g.flops = b.g.flops := by
    have := k3.flops
    simp only at this
    rw [this, hfl]
   have hk1 : JI b2 (M ++ [z]) := k1
   have hk2 : (M ++ [z]).length < l'.length := by simp; omega
   have hres2 : joinB (M ++ [z]).length b2 (M ++ [z]) = joinB l.length b l := hres'
   have hq2 : R.length + 1 = l'.length := by omega
   have hq4 : M.length + 2 = l'.length := by omega
   clear q2 q4 hrl
   clear hres hres' hJ hI k0 k1 k2 k3 k4 k5 m1 m2 hlev hidx1 hidx2 hi hR hk hrj hM hst hz hx0 hx1 hfl
   by_cases hki : k < i
   ·rw [if_pos hki] at hpj
    rw [hpj] at hand p1 p2
    clear hpj
    repeat' (first | simp (maxDischargeDepth := 9) -implicitDefEqProofs -dsimp only [go_sem, seval, gt_iff_lt, Nat.mul_one, Int.toNat_natCast, imp_self, flat_int1, List.length_cons, List.length_nil, Nat.zero_add, *] | simp (disch := omega) only [wrap64] | ((with_reducible refine Zv ?_ ?_); focus (first | omega | exact rfl)) | ((with_reducible refine Zu ?_ ?_); focus omega) | ((with_reducible apply ACalls.one1); (focus ((first | with_reducible refine hl1 _ ?_ | with_reducible refine hd1 _ _ ?_ | with_reducible refine hl2 _ _ ?_ ?_ | with_reducible refine hd2 _ _ ?_ | with_reducible refine hand _ ?_ ?_ ?_) <;> (first | (simp (maxDischargeDepth := 9) -implicitDefEqProofs -dsimp only [go_sem, seval, *]; done) | omega))); (focus (first | trivial | with_reducible exact rfl | (simp (maxDischargeDepth := 9) -implicitDefEqProofs -dsimp only [go_sem, seval]; done)))) | ((with_reducible apply ACalls.newO); (focus ((with_reducible refine hcl _) <;> (first | (simp (maxDischargeDepth := 9) -implicitDefEqProofs -dsimp only [go_sem, seval, *]; done) | omega))); (intro oF hoF hnF hnF'); (try simp only [upd_none, ne_eq, not_and] at hoF)))
    refine loop_next _ _ _ _ (b2, M ++ [z]) ⟨?_, ?_, ⟨hk1, hF2, hres2⟩, hk2⟩
    ·(repeat' simp (maxDischargeDepth := 9) -implicitDefEqProofs -dsimp only [go_sem, seval, *])
    ·(repeat' simp (maxDischargeDepth := 9) -implicitDefEqProofs -dsimp only [go_sem, seval, *])
   ·rw [if_neg hki] at hpj
    rw [hpj] at hand p1 p2
    clear hpj
    repeat' (first | simp (maxDischargeDepth := 9) -implicitDefEqProofs -dsimp only [go_sem, seval, gt_iff_lt, Nat.mul_one, Int.toNat_natCast, imp_self, flat_int1, List.length_cons, List.length_nil, Nat.zero_add, *] | simp (disch := omega) only [wrap64] | ((with_reducible refine Zv ?_ ?_); focus (first | omega | exact rfl)) | ((with_reducible refine Zu ?_ ?_); focus omega) | ((with_reducible apply ACalls.one1); (focus ((first | with_reducible refine hl1 _ ?_ | with_reducible refine hd1 _ _ ?_ | with_reducible refine hl2 _ _ ?_ ?_ | with_reducible refine hd2 _ _ ?_ | with_reducible refine hand _ ?_ ?_ ?_) <;> (first | (simp (maxDischargeDepth := 9) -implicitDefEqProofs -dsimp only [go_sem, seval, *]; done) | omega))); (focus (first | trivial | with_reducible exact rfl | (simp (maxDischargeDepth := 9) -implicitDefEqProofs -dsimp only [go_sem, seval]; done)))) | ((with_reducible apply ACalls.newO); (focus ((with_reducible refine hcl _) <;> (first | (simp (maxDischargeDepth := 9) -implicitDefEqProofs -dsimp only [go_sem, seval, *]; done) | omega))); (intro oF hoF hnF hnF'); (try simp only [upd_none, ne_eq, not_and] at hoF)))
    refine loop_next _ _ _ _ (b2, M ++ [z]) ⟨?_, ?_, ⟨hk1, hF2, hres2⟩, hk2⟩
    ·(repeat' simp (maxDischargeDepth := 9) -implicitDefEqProofs -dsimp only [go_sem, seval, *])
    ·(repeat' simp (maxDischargeDepth := 9) -implicitDefEqProofs -dsimp only [go_sem, seval, *])
  ·have h1 : l'.length = 1 := by have := hI.ne; omega
   rw [joinB_one h1] at hres
   have hgt : ¬ (1 : Int) < l'.length := by omega
   rw [← hres]
   have g0 := get_at (l := l') (i := 0) (by omega)
   clear hres hJ hI
   repeat' (first | simp (maxDischargeDepth := 9) -implicitDefEqProofs -dsimp only [go_sem, seval, gt_iff_lt, *] | simp (disch := omega) only [wrap64] | ((with_reducible refine Zu ?_ ?_); focus omega))
   refine fin_eq ?_
   (repeat' simp (maxDischargeDepth := 9) -implicitDefEqProofs -dsimp only [go_sem, seval, *])
end Go.Proofs.Ytapnlmhfacoceaa

namespace Fil.Rw
open Abs
open Eqv (moveL)
def gateN (g : Aig) (n : Int) : Int × Int := g.ands.getD (n - g.first).toNat (0, 0)
def lvs (g : Aig) : Nat → Int → List Int
 | 0, a => [a]
 | f + 1, a => if a % 2 = 0 ∧ innM g (a / 2) = true then lvs g f (gateN g (a / 2)).1 ++ lvs g f (gateN g (a / 2)).2 else [a]
def leavesG (g : Aig) (a : Int) : List Int := lvs g (1 + g.count).toNat a
def leavesOf (g : Aig) (i : Nat) : List Int := leavesG g (g.ands.getD i (0, 0)).1 ++ leavesG g (g.ands.getD i (0, 0)).2
def balAt (g : Aig) : Nat → B
 | 0 => bgn g fun _ => none
 | i + 1 =>
  let b := balAt g i
  if innM g (g.first + i) then ⟨b.g, b.lits ++ [0], b.lev⟩
  else
   let l := (leavesOf g i).map (moveL b.lits)
   let r := joinB l.length b l
   ⟨r.1.g, b.lits ++ [r.2], r.1.lev⟩
def balance (g : Aig) : Aig := endB g (fun _ => none) (balAt g g.ands.length)
theorem innM_first {g : Aig} {n : Int} (h : innM g n = true) : g.first ≤ n := by
 unfold innM at h
 simp only [Bool.and_eq_true, decide_eq_true_eq] at h
 exact h.1.1
theorem innM_cnt {g : Aig} {n : Int} (h : innM g n = true) : cntL (opsG g) n = 1 ∧ cntL (rts g) n = 0 := by
 unfold innM at h
 simp only [Bool.and_eq_true, decide_eq_true_eq] at h
 omega
theorem lvs_ne (g : Aig) : ∀ f a, 0 < (lvs g f a).length
 | 0, a => by simp [lvs]
 | f + 1, a => by
  unfold lvs
  split
  ·have := lvs_ne g f (gateN g (a / 2)).1
   simp only [List.length_append]; omega
  ·simp
theorem inner_kids {g : Aig} (hg : Sml g) {a : Int} (h1 : a < 2 * (1 + g.count)) (hi : innM g (a / 2) = true) :
  ∃ m : Nat, ∃ h : m < g.ands.length, a / 2 = g.first + m ∧ gateN g (a / 2) = g.ands[m] ∧ (0 ≤ g.ands[m].1 ∧ g.ands[m].1 / 2 < a / 2) ∧ 0 ≤ g.ands[m].2 ∧ g.ands[m].2 / 2 < a / 2 := by
 have hf := innM_first hi
 have cf := count_first g
 obtain ⟨m, hm⟩ : ∃ m : Nat, a / 2 = g.first + m := ⟨(a / 2 - g.first).toNat, by omega⟩
 have hlt : m < g.ands.length := by omega
 have hb := gate_bounds hg hlt
 refine ⟨m, hlt, hm, ?_, ⟨hb.1.1, by omega⟩, hb.2.1, by omega⟩
 unfold gateN
 rw [show (a / 2 - g.first).toNat = m by omega]
 exact ands_getD hlt
theorem lvs_more {g : Aig} (hg : Sml g) : ∀ (f : Nat) (a : Int), 0 ≤ a → a < 2 * (1 + g.count) → (a / 2).toNat ≤ f → lvs g (f + 1) a = lvs g f a
 | 0, a, h0, h1, hf => by
  have hlo := hg.lo
  unfold lvs
  rw [if_neg (fun h => by
   have := innM_first h.2
   simp only [Aig.first] at this
   omega)]
 | f + 1, a, h0, h1, hf => by
  conv => lhs; unfold lvs
  conv => rhs; unfold lvs
  by_cases h : a % 2 = 0 ∧ innM g (a / 2) = true
  ·rw [if_pos h, if_pos h]
   obtain ⟨m, hm, e1, e2, k1, k2⟩ := inner_kids hg h1 h.2
   rw [e2]
   rw [lvs_more hg f g.ands[m].1 k1.1 (by omega) (by omega), lvs_more hg f g.ands[m].2 k2.1 (by omega) (by omega)]
  ·rw [if_neg h, if_neg h]
theorem lvs_leaves {g : Aig} (hg : Sml g) {a : Int} (h0 : 0 ≤ a) (h1 : a < 2 * (1 + g.count)) {f : Nat} (hf : (a / 2).toNat ≤ f) : lvs g f a = leavesG g a := by
 have up : ∀ k, lvs g ((a / 2).toNat + k) a = lvs g (a / 2).toNat a := fun k => by
  induction k with
  | zero => rfl
  | succ k ih =>
   show lvs g ((a / 2).toNat + k + 1) a = _
   rw [lvs_more hg _ a h0 h1 (Nat.le_add_right _ _)]; exact ih
 unfold leavesG
 rw [show f = (a / 2).toNat + (f - (a / 2).toNat) by omega, up, show (1 + g.count).toNat = (a / 2).toNat + ((1 + g.count).toNat - (a / 2).toNat) by omega, up]
theorem leaves_inner {g : Aig} (hg : Sml g) {a : Int} (h0 : 0 ≤ a) (h1 : a < 2 * (1 + g.count)) (he : a % 2 = 0) (hi : innM g (a / 2) = true) {m : Nat} (hm : m < g.ands.length) (e : a / 2 = g.first + m) :
  leavesG g a = leavesG g g.ands[m].1 ++ leavesG g g.ands[m].2 := by
 obtain ⟨m', hm', e1, e2, k1, k2⟩ := inner_kids hg h1 hi
 obtain rfl : m' = m := by omega
 rw [← lvs_leaves hg h0 h1 (f := (a / 2).toNat + 1) (by omega)]
 conv => lhs; unfold lvs
 rw [if_pos ⟨he, hi⟩, e2, lvs_leaves hg k1.1 (by omega) (by omega), lvs_leaves hg k2.1 (by omega) (by omega)]
theorem leaves_leaf {g : Aig} (a : Int) (h : ¬ (a % 2 = 0 ∧ innM g (a / 2) = true)) : leavesG g a = [a] := by
 unfold leavesG
 cases hf : (1 + g.count).toNat with
 | zero => rfl
 | succ f => unfold lvs; rw [if_neg h]
theorem leaves_pos (g : Aig) (a : Int) : 0 < (leavesG g a).length := lvs_ne g _ a
theorem lvs_mem {g : Aig} (hg : Sml g) : ∀ (f : Nat) (a : Int), 0 ≤ a → a < 2 * (1 + g.count) → ∀ x ∈ lvs g f a, 0 ≤ x ∧ x / 2 ≤ a / 2
 | 0, a, h0, h1, x, hx => by simp [lvs] at hx; subst hx; exact ⟨h0, Int.le_refl _⟩
 | f + 1, a, h0, h1, x, hx => by
  unfold lvs at hx
  by_cases h : a % 2 = 0 ∧ innM g (a / 2) = true
  ·rw [if_pos h] at hx
   obtain ⟨m, hm, e1, e2, k1, k2⟩ := inner_kids hg h1 h.2
   rw [e2] at hx
   rcases List.mem_append.1 hx with q | q
   ·have := lvs_mem hg f _ k1.1 (by omega) x q; omega
   ·have := lvs_mem hg f _ k2.1 (by omega) x q; omega
  ·rw [if_neg h] at hx
   simp at hx; subst hx; exact ⟨h0, Int.le_refl _⟩

/-! ### How many there are -/
def cE (g : Aig) (e : Nat → Bool) (n : Int) : Nat → Nat
 | 0 => 0
 | k + 1 => cE g e n k + if e k then cntL [(g.ands.getD k (0, 0)).1, (g.ands.getD k (0, 0)).2] n else 0
def szE (e : Nat → Bool) : Nat → Nat
 | 0 => 0
 | k + 1 => szE e k + if e k then 1 else 0
def addE (e : Nat → Bool) (m : Nat) : Nat → Bool := fun k => decide (k = m) || e k
theorem cntL_app (l m : List Int) (n : Int) : cntL (l ++ m) n = cntL l n + cntL m n := by simp [cntL]
theorem cntL_cons (a : Int) (l : List Int) (n : Int) : cntL (a :: l) n = (if a / 2 = n then 1 else 0) + cntL l n := by
 rw [show a :: l = [a] ++ l from rfl, cntL_app]
 congr 1
 by_cases h : a / 2 = n <;> simp [cntL, h]
theorem cE_le (g : Aig) (e : Nat → Bool) (n : Int) : ∀ k, k ≤ g.ands.length → cE g e n k ≤ cntL ((opsG g).take (2 * k)) n
 | 0, _ => by simp [cE]
 | k + 1, hk => by
  have ih := cE_le g e n k (by omega)
  obtain ⟨t1, t2⟩ := ops_take g (show k < g.ands.length by omega)
  unfold cE
  rw [show 2 * (k + 1) = 2 * k + 2 by omega, t2, t1, List.append_assoc, cntL_app, ands_getD (by omega)]
  have : cntL ([g.ands[k].1] ++ [g.ands[k].2]) n = cntL [g.ands[k].1, g.ands[k].2] n := rfl
  rw [this]
  split <;> omega
theorem cE_all (g : Aig) (e : Nat → Bool) (n : Int) : cE g e n g.ands.length ≤ cntL (opsG g) n := by
 have := cE_le g e n g.ands.length (Nat.le_refl _)
 rwa [List.take_of_length_le (by rw [opsG_len]; exact Nat.le_refl _)] at this
theorem cE_add (g : Aig) (e : Nat → Bool) (n : Int) {m : Nat} (hm : e m = false) : ∀ k, cE g (addE e m) n k = cE g e n k + if m < k then cntL [(g.ands.getD m (0, 0)).1, (g.ands.getD m (0, 0)).2] n else 0
 | 0 => by simp [cE]
 | k + 1 => by
  have ih := cE_add g e n hm k
  unfold cE
  rw [ih]
  by_cases h : k = m
  ·subst h
   have c1 : (addE e k) k = true := by simp [addE]
   have c2 : ¬ k < k := by omega
   have c3 : k < k + 1 := by omega
   simp only [c1, hm, c2, c3, if_true, if_false]; simp
  ·have c1 : (addE e m) k = e k := by simp [addE, h]
   rw [c1]
   by_cases h2 : m < k
   ·have c3 : m < k + 1 := by omega
    simp only [h2, c3, if_true]; omega
   ·have c3 : ¬ m < k + 1 := by omega
    simp only [h2, c3, if_false]; omega
theorem szE_add (e : Nat → Bool) {m : Nat} (hm : e m = false) : ∀ k, szE (addE e m) k = szE e k + if m < k then 1 else 0
 | 0 => by simp [szE]
 | k + 1 => by
  have ih := szE_add e hm k
  unfold szE
  rw [ih]
  by_cases h : k = m
  ·subst h
   have c1 : (addE e k) k = true := by simp [addE]
   have c2 : ¬ k < k := by omega
   have c3 : k < k + 1 := by omega
   simp only [c1, hm, c2, c3, if_true, if_false]; simp
  ·have c1 : (addE e m) k = e k := by simp [addE, h]
   rw [c1]
   by_cases h2 : m < k
   ·have c3 : m < k + 1 := by omega
    simp only [h2, c3, if_true]; omega
   ·have c3 : ¬ m < k + 1 := by omega
    simp only [h2, c3, if_false]; omega
theorem szE_le (e : Nat → Bool) {i : Nat} (h : ∀ m, e m = true → m < i) : ∀ k, szE e k ≤ min k i
 | 0 => by simp [szE]
 | k + 1 => by
  have ih := szE_le e h k
  unfold szE
  by_cases hk : e k = true
  ·have := h k hk
   rw [if_pos hk]; omega
  ·rw [if_neg hk]; omega
structure EI (g : Aig) (e : Nat → Bool) (l : List Int) : Prop where
 all : ∀ n, cntL l n ≤ cE g e n g.ands.length
 inn : ∀ m, e m = true → innM g (g.first + m) = true → cntL l (g.first + m) + 1 ≤ cE g e (g.first + m) g.ands.length
theorem exp_leaves {g : Aig} (hg : Sml g) : ∀ (f : Nat) (a : Int) (rest : List Int) (e : Nat → Bool), 0 ≤ a → a < 2 * (1 + g.count) → EI g e (a :: rest) →
  ∃ e', EI g e' rest ∧ szE e' g.ands.length + 1 = szE e g.ands.length + (lvs g f a).length ∧ ∀ m, e' m = true → e m = true ∨ g.first + m ≤ a / 2
 | 0, a, rest, e, h0, h1, h => by
  refine ⟨e, ⟨fun n => ?_, fun m hm hi => ?_⟩, by simp [lvs], fun m hm => .inl hm⟩
  ·have := h.all n; rw [cntL_cons] at this; omega
  ·have := h.inn m hm hi; rw [cntL_cons] at this; omega
 | f + 1, a, rest, e, h0, h1, h => by
  by_cases hc : a % 2 = 0 ∧ innM g (a / 2) = true
  ·obtain ⟨m, hm, e1, e2, k1, k2⟩ := inner_kids hg h1 hc.2
   have hcnt := (innM_cnt hc.2).1
   have hem : e m = false := by
    cases he : e m with
    | false => rfl
    | true =>
     have q1 := h.inn m he (by rw [← e1]; exact hc.2)
     have q2 := cE_all g e (g.first + m)
     rw [cntL_cons, if_pos e1] at q1
     rw [← e1] at q1 q2
     omega
   have hE : EI g (addE e m) (g.ands[m].1 :: g.ands[m].2 :: rest) := by
    have hadd : ∀ n, cE g (addE e m) n g.ands.length = cE g e n g.ands.length + cntL [g.ands[m].1, g.ands[m].2] n := fun n => by
     rw [cE_add g e n hem, if_pos hm, ands_getD hm]
    have hcons : ∀ n, cntL (g.ands[m].1 :: g.ands[m].2 :: rest) n = cntL [g.ands[m].1, g.ands[m].2] n + cntL rest n := fun n => by
     rw [show g.ands[m].1 :: g.ands[m].2 :: rest = [g.ands[m].1, g.ands[m].2] ++ rest from rfl, cntL_app]
    refine ⟨fun n => ?_, fun k hk hi => ?_⟩
    ·rw [hadd, hcons]
     have := h.all n
     rw [cntL_cons] at this; omega
    ·rw [hadd, hcons]
     by_cases hkm : k = m
     ·subst hkm
      have := h.all (g.first + k)
      rw [cntL_cons, if_pos e1] at this; omega
     ·have hk' : e k = true := by simpa [addE, hkm] using hk
      have := h.inn k hk' hi
      rw [cntL_cons] at this; omega
   obtain ⟨e3, i1, i2, i3⟩ := exp_leaves hg f _ _ _ k1.1 (by omega) hE
   obtain ⟨e4, j1, j2, j3⟩ := exp_leaves hg f _ _ _ k2.1 (by omega) i1
   refine ⟨e4, j1, ?_, fun k hk => ?_⟩
   ·rw [szE_add e hem, if_pos hm] at i2
    unfold lvs
    rw [if_pos hc, e2, List.length_append]
    omega
   ·rcases j3 k hk with q | q
    ·rcases i3 k q with r | r
     ·by_cases hkm : k = m
      ·subst hkm; exact .inr (by omega)
      ·exact .inl (by simpa [addE, hkm] using r)
     ·exact .inr (by omega)
    ·exact .inr (by omega)
  ·refine ⟨e, ⟨fun n => ?_, fun m hm hi => ?_⟩, ?_, fun m hm => .inl hm⟩
   ·have := h.all n; rw [cntL_cons] at this; omega
   ·have := h.inn m hm hi; rw [cntL_cons] at this; omega
   ·unfold lvs; rw [if_neg hc]; simp
theorem exp_gate {g : Aig} (hg : Sml g) {i : Nat} (hi : i < g.ands.length) (hn : innM g (g.first + i) = false) {e : Nat → Bool} (h : EI g e []) (hm : ∀ m, e m = true → m < i) :
  ∃ e', EI g e' [] ∧ szE e' g.ands.length + 1 = szE e g.ands.length + (leavesOf g i).length ∧ ∀ m, e' m = true → m < i + 1 := by
 have hei : e i = false := by
  cases he : e i with
  | false => rfl
  | true => have := hm i he; omega
 obtain ⟨⟨a1, a2⟩, a3, a4⟩ := gate_bounds hg hi
 have cf := count_first g
 have hE : EI g (addE e i) (g.ands[i].1 :: [g.ands[i].2]) := by
  have hadd : ∀ n, cE g (addE e i) n g.ands.length = cE g e n g.ands.length + cntL [g.ands[i].1, g.ands[i].2] n := fun n => by
   rw [cE_add g e n hei, if_pos hi, ands_getD hi]
  refine ⟨fun n => ?_, fun k hk hin => ?_⟩
  ·rw [hadd]; omega
  ·rw [hadd]
   by_cases hki : k = i
   ·subst hki; rw [hn] at hin; simp at hin
   ·have hk' : e k = true := by simpa [addE, hki] using hk
    have := h.inn k hk' hin
    simp only [cntL, List.filter_nil, List.length_nil] at this
    omega
 obtain ⟨e3, i1, i2, i3⟩ := exp_leaves hg (1 + g.count).toNat _ _ _ a1 (by omega) hE
 obtain ⟨e4, j1, j2, j3⟩ := exp_leaves hg (1 + g.count).toNat _ _ _ a3 (by omega) i1
 refine ⟨e4, j1, ?_, fun k hk => ?_⟩
 ·rw [szE_add e hei, if_pos hi] at i2
  unfold leavesOf leavesG
  rw [ands_getD hi, List.length_append]
  omega
 ·rcases j3 k hk with q | q
  ·rcases i3 k q with r | r
   ·by_cases hki : k = i
    ·omega
    ·have := hm k (by simpa [addE, hki] using r); omega
   ·omega
  ·omega
theorem ei_none (g : Aig) : EI g (fun _ => false) [] := ⟨fun n => by simp [cntL], fun m hm => by simp at hm⟩
theorem szE_none : ∀ k, szE (fun _ => false) k = 0
 | 0 => rfl
 | k + 1 => by simp [szE, szE_none k]
theorem leavesOf_len {g : Aig} (hg : Sml g) {i : Nat} (hi : i < g.ands.length) (hn : innM g (g.first + i) = false) : (leavesOf g i).length ≤ i + 2 := by
 obtain ⟨e', _, h2, h3⟩ := exp_gate hg hi hn (ei_none g) (fun m hm => by simp at hm)
 have := szE_le e' h3 g.ands.length
 rw [szE_none] at h2
 omega
theorem leavesOf_pos (g : Aig) (i : Nat) : 2 ≤ (leavesOf g i).length := by
 have h1 := leaves_pos g (g.ands.getD i (0, 0)).1
 have h2 := leaves_pos g (g.ands.getD i (0, 0)).2
 unfold leavesOf
 rw [List.length_append]; omega
theorem leavesOf_mem {g : Aig} (hg : Sml g) {i : Nat} (hi : i < g.ands.length) {x : Int} (hx : x ∈ leavesOf g i) : 0 ≤ x ∧ x / 2 < g.first + i := by
 obtain ⟨⟨a1, a2⟩, a3, a4⟩ := gate_bounds hg hi
 have cf := count_first g
 unfold leavesOf leavesG at hx
 rw [ands_getD hi] at hx
 rcases List.mem_append.1 hx with q | q
 ·have := lvs_mem hg _ _ a1 (by omega) x q; omega
 ·have := lvs_mem hg _ _ a3 (by omega) x q; omega
structure BInv (g : Aig) (i : Nat) (b : B) : Prop extends Bd b where
 flops : b.g.flops = (bgAt g (fun _ => none) g.flops.length).2
 ins : b.g.ins = g.ins
 outs : b.g.outs = []
 len : b.lits.length = g.first.toNat + i
 lits : ∀ x ∈ b.lits, b.g.lit x = true
 fewE : ∃ e, EI g e [] ∧ (∀ m, e m = true → m < i) ∧ b.g.ands.length ≤ szE e g.ands.length
theorem BInv.few {g : Aig} {i : Nat} {b : B} (h : BInv g i b) : b.g.ands.length ≤ i := by
 obtain ⟨e, _, h2, h3⟩ := h.fewE
 have := szE_le e h2 g.ands.length
 omega
theorem BInv.cnt {g : Aig} (hg : Sml g) {i : Nat} (hi : i ≤ g.ands.length) {b : B} (h : BInv g i b) : b.g.count ≤ 1000 := by
 have h1 := hg.ins
 have h2 := hg.flops
 have h3 := hg.ands
 have h4 := h.few
 have h5 := none_len g g.flops.length
 simp only [Aig.count, h.ins, h.flops]; omega
theorem BInv.ji {g : Aig} (hg : Sml g) {i : Nat} (hi : i < g.ands.length) {b : B} (h : BInv g i b) (hn : innM g (g.first + i) = false) : JI b ((leavesOf g i).map (moveL b.lits)) := by
 have hlo := hg.lo
 have hf : 1 ≤ g.first := by unfold Aig.first; omega
 refine ⟨h.toBd, fun a ha => ?_, ?_, ?_⟩
 ·obtain ⟨x, hx, rfl⟩ := List.mem_map.1 ha
  have := leavesOf_mem hg hi hx
  exact move_lit h.lits this.1 (by rw [h.len]; omega)
 ·have := leavesOf_pos g i; simp only [List.length_map]; omega
 ·have := leavesOf_len hg hi hn
  have := h.cnt hg (by omega)
  have := hg.ands
  simp only [List.length_map]; omega
theorem bal_inv {g : Aig} (hg : Sml g) : ∀ i, i ≤ g.ands.length → BInv g i (balAt g i)
 | 0, _ => by
  obtain ⟨h1, h2, h3, h4⟩ := bgn_bd hg fun _ => none
  exact ⟨h1, rfl, rfl, rfl, h4, h3, _, ei_none g, fun m hm => by simp at hm, by rw [szE_none]; exact Nat.le_refl _⟩
 | i + 1, hi => by
  have ih := bal_inv hg i (by omega)
  unfold balAt
  simp only
  cases hn : innM g (g.first + i) with
  | true =>
   simp only [if_true]
   obtain ⟨e, q1, q2, q3⟩ := ih.fewE
   refine ⟨⟨ih.fine, ih.chk, ih.lev⟩, ih.flops, ih.ins, ih.outs, by simp [ih.len]; omega, fun x hx => ?_, e, q1, fun m hm => by have := q2 m hm; omega, q3⟩
   rcases List.mem_append.1 hx with r | r
   ·exact ih.lits x r
   ·simp at r; subst r
    have := ih.fine.lo
    exact litN_iff.2 ⟨by omega, by simp only [Aig.count]; omega⟩
  | false =>
   simp only [Bool.false_eq_true, if_false]
   have hJ := ih.ji hg (by omega) hn
   obtain ⟨k1, k2, k3, k4, k5⟩ := hJ.join
   obtain ⟨e, q1, q2, q3⟩ := ih.fewE
   obtain ⟨e', r1, r2, r3⟩ := exp_gate hg (by omega) hn q1 q2
   refine ⟨⟨k1.fine, k1.chk, k1.lev⟩, k3.flops.trans ih.flops, k3.ins.trans ih.ins, k3.outs.trans ih.outs, by simp [ih.len]; omega, fun x hx => ?_, e', r1, r3, ?_⟩
   ·rcases List.mem_append.1 hx with r | r
    ·exact k3.lit (ih.lits x r)
    ·rw [List.mem_singleton.1 r]; exact k2
   ·rw [List.length_map] at k5
    simp only [List.length_map]
    omega
end Fil.Rw

