/- rewr: the document's Still is the program's. No program in sight. -/
import Derived.Test.YtapnlmhfacoceaaQRwFlat
set_option linter.unusedSimpArgs false
set_option linter.unusedVariables false
namespace Go.Proofs.Ytapnlmhfacoceaa
open Abs Fil Fil.Rw
open Eqv (moveL)
theorem put_int (l : List Int) (i : Nat) (v : Int) (h : i < l.length) : List.take (i * 1) (l.map encInt) ++ [AV.int .i64 v] ++ List.drop (i * 1 + 1) (l.map encInt) = (l.set i v).map encInt := by
 have h1 : (l.set i v).map encInt = (l.map encInt).set i (encInt v) := by rw [List.map_set]
 rw [h1, List.set_eq_take_append_cons_drop]
 simp [h]
theorem head_int {l : List Int} {i : Nat} (h : i < l.length) : (List.take 1 (List.drop (i * 1) (l.map encInt))).head? = some (.int .i64 (l.getD i 0)) := by
 rw [Nat.mul_one, List.drop_eq_getElem_cons (by simpa using h)]
 simp [List.getD_eq_getElem?_getD, h]
theorem rep_int (n : Nat) : (List.replicate n [AV.int .i64 0]).flatten = (List.replicate n (0 : Int)).map encInt := by
 induction n with
 | zero => rfl
 | succ n ih => simp only [List.replicate_succ, List.flatten_cons, ih, List.map_cons]; rfl
theorem cstep {l : List Int} {N : Nat} {a : Int} (h0 : 0 ≤ a) (h : a < 2 * N) (hl : l.length ≤ 100000) :
  (a / 2).toNat < N ∧ (List.take 1 (List.drop ((a / 2).toNat * 1) ((cRow l N).map encInt))).head? = some (.int .i64 ((cRow l N).getD (a / 2).toNat 0)) ∧
  List.take ((a / 2).toNat * 1) ((cRow l N).map encInt) ++ [AV.int .i64 ((cRow l N).getD (a / 2).toNat 0 + 1)] ++ List.drop ((a / 2).toNat * 1 + 1) ((cRow l N).map encInt) = (cRow (l ++ [a]) N).map encInt ∧
  0 ≤ (cRow l N).getD (a / 2).toNat 0 ∧ (cRow l N).getD (a / 2).toNat 0 ≤ 100000 := by
 have hN : (a / 2).toNat < N := by omega
 have hlen := cRow_len l N
 refine ⟨hN, head_int (by omega), ?_, ?_, ?_⟩
 ·rw [put_int _ _ _ (by omega), cRow_snoc h0 hN]
 ·rw [cRow_get hN]; omega
 ·rw [cRow_get hN]
  have := cntL_le l ((a / 2).toNat : Nat)
  omega
theorem estep {l : List Int} {N : Nat} {a : Int} (h0 : 0 ≤ a) (h : a < 2 * N) (hl : l.length ≤ 100000) (he : a % 2 = 0) :
  (List.take 1 (List.drop ((a / 2).toNat * 1) ((eRow l N).map encInt))).head? = some (.int .i64 ((eRow l N).getD (a / 2).toNat 0)) ∧
  List.take ((a / 2).toNat * 1) ((eRow l N).map encInt) ++ [AV.int .i64 ((eRow l N).getD (a / 2).toNat 0 + 1)] ++ List.drop ((a / 2).toNat * 1 + 1) ((eRow l N).map encInt) = (eRow (l ++ [a]) N).map encInt ∧
  0 ≤ (eRow l N).getD (a / 2).toNat 0 ∧ (eRow l N).getD (a / 2).toNat 0 ≤ 100000 := by
 have hN : (a / 2).toNat < N := by omega
 have hlen := eRow_len l N
 refine ⟨head_int (by omega), ?_, ?_, ?_⟩
 ·rw [put_int _ _ _ (by omega), eRow_even h0 hN he]
 ·rw [eRow_get hN]; omega
 ·rw [eRow_get hN]
  have := cntL_le l ((a / 2).toNat : Nat)
  have := cntE_le l ((a / 2).toNat : Nat)
  omega
set_option maxRecDepth 20000 in
set_option maxHeartbeats 8000000 in
theorem rf_inner (g : Aig) (N : Nat) (σ : Sig) (hg : Sml g) (hN : 1 + g.count = (N : Int)) : ACalls Try.prog 53 [encAig g] σ (fun r σ' => r = .ret (.slice ((iRow g N N).map encBool) .no) ∧ σ' = σ) := by
 refine calls_x mixed Try.func53 b53 n53 rfl q53 (by simp) ?_; unfold c53 r53
 have hlo := hg.lo
 have h1 := hg.ins
 have h2 := hg.flops
 have h3 := hg.ands
 have h4 := hg.outs
 have hsm : Small g := check_small hg.wf hg.chk
 have hfc := fun τ => rf_first g τ hsm
 have hc := fun τ => A.ref_Count g τ hsm
 have hcnt : g.count = g.ins + g.flops.length + g.ands.length := rfl
 have hfst : g.first = 1 + g.ins + g.flops.length := rfl
 have hN1 : N ≤ 400 := by omega
 have hrl := fun a (ha : a ∈ rts g) => root_lit hg ha
 rw [hN] at hc
 repeat' (first | simp (maxDischargeDepth := 9) -implicitDefEqProofs -dsimp only [go_sem, seval, *] | ((with_reducible refine Zv ?_ ?_); focus (first | omega | exact rfl)) | ((with_reducible refine Zt (fun oF hoF hnF hnF' => ?_)); (try simp only [upd_none, ne_eq, not_and] at hoF)) | ((with_reducible apply ACalls.one1); (focus ((with_reducible refine hc _) <;> (first | (simp (maxDischargeDepth := 9) -implicitDefEqProofs -dsimp only [go_sem, seval, *]; done) | omega))); (focus (first | trivial | with_reducible exact rfl | (simp (maxDischargeDepth := 9) -implicitDefEqProofs -dsimp only [go_sem, seval]; done)))))
 rename_i o1 p1 n1 n1'
 obtain ⟨o2, e2⟩ : ∃ x, x = oF := ⟨oF, rfl⟩
 subst e2
 obtain ⟨p2, p3⟩ := hoF
 have p4 : ¬ o1 = o2 := fun e => p2 e.symm
 clear n1 n1' hnF hnF'
 have hr1 : (List.replicate N [AV.int .i64 0]).flatten = (cRow [] N).map encInt := by rw [rep_int, cRow_nil]
 have hr2 : (List.replicate N [AV.int .i64 0]).flatten = (eRow [] N).map encInt := by rw [rep_int, eRow_nil]
 refine loop_rule (fun i : Nat => [(5, some (.int .i64 i)), (1, some (.cptr (aigL g))), (3, some (.vec o1 N)), (4, some (.vec o2 N))])
  (fun i => upd (upd σ o1 (.vec 1 N ((cRow ((opsG g).take (2 * i)) N).map encInt))) o2 (.vec 1 N ((eRow ((opsG g).take (2 * i)) N).map encInt))) (fun i => i ≤ g.ands.length) (fun i => g.ands.length - i) 0 ?_ ?_
 ·have e1 : (cRow ((opsG g).take (2 * 0)) N).map encInt = (List.replicate N [AV.int .i64 0]).flatten := hr1.symm
  have e2 : (eRow ((opsG g).take (2 * 0)) N).map encInt = (List.replicate N [AV.int .i64 0]).flatten := hr2.symm
  clear hr1 hr2
  rw [e1, e2]
  (repeat' simp (maxDischargeDepth := 9) -implicitDefEqProofs -dsimp only [go_sem, seval, Int.natCast_zero, *]) <;> (first | omega | skip)
 ·intro i hi
  clear hr1 hr2
  by_cases hlt : i < g.ands.length
  ·have hlt' : (i : Int) < g.ands.length := by omega
   clear hc
   repeat' simp (maxDischargeDepth := 9) -implicitDefEqProofs -dsimp only [go_sem, seval, *]
   refine loop_rule (fun k : Nat => [(6, some (.int .i64 k)), (1, some (.cptr (aigL g))), (5, some (.int .i64 i)), (3, some (.vec o1 N)), (4, some (.vec o2 N))])
    (fun k => upd (upd σ o1 (.vec 1 N ((cRow ((opsG g).take (2 * i + k)) N).map encInt))) o2 (.vec 1 N ((eRow ((opsG g).take (2 * i + k)) N).map encInt))) (fun k => k ≤ 2) (fun k => 2 - k) 0 ?_ ?_
   ·(repeat' simp (maxDischargeDepth := 9) -implicitDefEqProofs -dsimp only [go_sem, seval, Int.natCast_zero, Nat.add_zero, *])
   ·intro k hk
    obtain ⟨t1, t2⟩ := ops_take g hlt
    obtain ⟨⟨q1, q2⟩, q3, q4⟩ := gate_bounds hg hlt
    have hol := opsG_len g
    have hl1 : ((opsG g).take (2 * i)).length ≤ 100000 := by rw [List.length_take]; omega
    have hl2 : ((opsG g).take (2 * i + 1)).length ≤ 100000 := by rw [List.length_take]; omega
    have w1 : g.ands[i].1 < 2 * N := by omega
    have w2 : g.ands[i].2 < 2 * N := by omega
    obtain ⟨x0, hx0⟩ : ∃ x, g.ands[i].1 = x := ⟨_, rfl⟩
    obtain ⟨x1, hx1⟩ : ∃ x, g.ands[i].2 = x := ⟨_, rfl⟩
    rw [hx0] at q1 w1 t1
    rw [hx1] at q3 w2 t2
    rcases (show k = 0 ∨ k = 1 ∨ k = 2 by omega) with rfl | rfl | rfl
    ·obtain ⟨s1, s2, s3, s4, s5⟩ := cstep q1 w1 hl1
     rw [← t1] at s3
     have e0 : 2 * i + 0 = 2 * i := rfl
     rw [e0]
     have s6 : x0 / 2 < N := by omega
     have s7 : x0 ≤ 1000000 := by omega
     by_cases he : x0 % 2 = 0
     ·obtain ⟨u1, u2, u3, u4⟩ := estep q1 w1 hl1 he
      rw [← t1] at u2
      have hb : (x0 % 2 == 0) = true := by simp [he]
      obtain ⟨c, hcc⟩ : ∃ c, cRow ((opsG g).take (2 * i)) N = c := ⟨_, rfl⟩
      obtain ⟨e, hee⟩ : ∃ c, eRow ((opsG g).take (2 * i)) N = c := ⟨_, rfl⟩
      have hcl : c.length = N := by rw [← hcc]; exact cRow_len _ _
      have hel : e.length = N := by rw [← hee]; exact eRow_len _ _
      rw [hcc] at s2 s3 s4 s5 ⊢
      rw [hee] at u1 u2 u3 u4 ⊢
      clear hcc hee he t1 t2 hrl hfc hol hl1 hl2 q2 q4 hN hcnt hfst hsm
      repeat' (first | simp (maxDischargeDepth := 9) -implicitDefEqProofs -dsimp only [go_sem, seval, Int.natCast_zero, *] | simp (disch := omega) only [wrap64, tdiv2, tmod2] | ((with_reducible refine Zv ?_ ?_); focus (first | omega | exact rfl)) | ((with_reducible refine Zu ?_ ?_); focus omega))
      refine loop_next _ _ _ _ (1) ?_; (repeat' simp (maxDischargeDepth := 9) -implicitDefEqProofs -dsimp only [go_sem, seval,  Int.natCast_one, Int.zero_add, *])
     ·have ho := eRow_odd (l := (opsG g).take (2 * i)) (N := N) he
      rw [← t1] at ho
      have hb : (x0 % 2 == 0) = false := by simp [he]
      obtain ⟨c, hcc⟩ : ∃ c, cRow ((opsG g).take (2 * i)) N = c := ⟨_, rfl⟩
      obtain ⟨e, hee⟩ : ∃ c, eRow ((opsG g).take (2 * i)) N = c := ⟨_, rfl⟩
      have hcl : c.length = N := by rw [← hcc]; exact cRow_len _ _
      rw [hcc] at s2 s3 s4 s5 ⊢
      rw [hee] at ho ⊢
      have ho' := ho.symm
      clear hcc hee he t1 t2 hrl hfc hol hl1 hl2 q2 q4 hN hcnt hfst ho hsm
      repeat' (first | simp (maxDischargeDepth := 9) -implicitDefEqProofs -dsimp only [go_sem, seval, Int.natCast_zero, *] | simp (disch := omega) only [wrap64, tdiv2, tmod2] | ((with_reducible refine Zv ?_ ?_); focus (first | omega | exact rfl)) | ((with_reducible refine Zu ?_ ?_); focus omega))
      refine loop_next _ _ _ _ (1) ?_; (repeat' simp (maxDischargeDepth := 9) -implicitDefEqProofs -dsimp only [go_sem, seval,  Int.natCast_one, Int.zero_add, *])
    ·obtain ⟨s1, s2, s3, s4, s5⟩ := cstep q3 w2 hl2
     rw [← t2] at s3
     have e0 : 2 * i + (1 + 1) = 2 * i + 2 := rfl
     have en : ((1 : Nat) : Int) = 1 := rfl
     have en2 : ((2 : Nat) : Int) = 2 := rfl
     have s6 : x1 / 2 < N := by omega
     have s7 : x1 ≤ 1000000 := by omega
     by_cases he : x1 % 2 = 0
     ·obtain ⟨u1, u2, u3, u4⟩ := estep q3 w2 hl2 he
      rw [← t2] at u2
      have hb : (x1 % 2 == 0) = true := by simp [he]
      obtain ⟨c, hcc⟩ : ∃ c, cRow ((opsG g).take (2 * i + 1)) N = c := ⟨_, rfl⟩
      obtain ⟨e, hee⟩ : ∃ c, eRow ((opsG g).take (2 * i + 1)) N = c := ⟨_, rfl⟩
      have hcl : c.length = N := by rw [← hcc]; exact cRow_len _ _
      have hel : e.length = N := by rw [← hee]; exact eRow_len _ _
      rw [hcc] at s2 s3 s4 s5 ⊢
      rw [hee] at u1 u2 u3 u4 ⊢
      clear hcc hee he t1 t2 hrl hfc hol hl1 hl2 q2 q4 hN hcnt hfst hsm
      repeat' (first | simp (maxDischargeDepth := 9) -implicitDefEqProofs -dsimp only [go_sem, seval, en, *] | simp (disch := omega) only [wrap64, tdiv2, tmod2] | ((with_reducible refine Zv ?_ ?_); focus (first | omega | exact rfl)) | ((with_reducible refine Zu ?_ ?_); focus omega))
      refine loop_next _ _ _ _ (2) ?_; (repeat' simp (maxDischargeDepth := 9) -implicitDefEqProofs -dsimp only [go_sem, seval,  en2, *])
     ·have ho := eRow_odd (l := (opsG g).take (2 * i + 1)) (N := N) he
      rw [← t2] at ho
      have hb : (x1 % 2 == 0) = false := by simp [he]
      obtain ⟨c, hcc⟩ : ∃ c, cRow ((opsG g).take (2 * i + 1)) N = c := ⟨_, rfl⟩
      obtain ⟨e, hee⟩ : ∃ c, eRow ((opsG g).take (2 * i + 1)) N = c := ⟨_, rfl⟩
      have hcl : c.length = N := by rw [← hcc]; exact cRow_len _ _
      rw [hcc] at s2 s3 s4 s5 ⊢
      rw [hee] at ho ⊢
      have ho' := ho.symm
      clear hcc hee he t1 t2 hrl hfc hol hl1 hl2 q2 q4 hN hcnt hfst ho hsm
      repeat' (first | simp (maxDischargeDepth := 9) -implicitDefEqProofs -dsimp only [go_sem, seval, en, *] | simp (disch := omega) only [wrap64, tdiv2, tmod2] | ((with_reducible refine Zv ?_ ?_); focus (first | omega | exact rfl)) | ((with_reducible refine Zu ?_ ?_); focus omega))
      refine loop_next _ _ _ _ (2) ?_; (repeat' simp (maxDischargeDepth := 9) -implicitDefEqProofs -dsimp only [go_sem, seval,  en2, *])
    ·have e0 : 2 * i + 2 = 2 * (i + 1) := by omega
     have en2 : ((2 : Nat) : Int) = 2 := rfl
     rw [e0]
     clear t1 t2 hrl hfc hol hl1 hl2 q2 q4 hN hcnt hfst w1 w2 hsm
     repeat' (first | simp (maxDischargeDepth := 9) -implicitDefEqProofs -dsimp only [go_sem, seval, en2, *] | simp (disch := omega) only [wrap64, tdiv2, tmod2])
     refine loop_next _ _ _ _ (i + 1) ?_; (repeat' simp (maxDischargeDepth := 9) -implicitDefEqProofs -dsimp only [go_sem, seval, *]) <;> (repeat' refine And.intro ?_ ?_) <;> (first | omega | skip)
  ·have hlt' : ¬ (i : Int) < g.ands.length := by omega
   have ei : i = g.ands.length := by omega
   subst ei
   have e0 : (opsG g).take (2 * g.ands.length) = opsG g := List.take_of_length_le (by rw [opsG_len]; exact Nat.le_refl _)
   rw [e0]
   clear hlt hi e0
   obtain ⟨E, hE⟩ : ∃ E, (eRow (opsG g) N) = E := ⟨_, rfl⟩
   rw [hE]
   have hol := opsG_len g
   repeat' simp (maxDischargeDepth := 9) -implicitDefEqProofs -dsimp only [go_sem, seval, *]
   refine loop_rule (fun i : Nat => [(8, some (.int .i64 i)), (1, some (.cptr (aigL g))), (3, some (.vec o1 N)), (4, some (.vec o2 N))])
    (fun i => upd (upd σ o1 (.vec 1 N ((cRow (opsG g ++ g.outs.take i) N).map encInt))) o2 (.vec 1 N (E.map encInt))) (fun i => i ≤ g.outs.length) (fun i => g.outs.length - i) 0 ?_ ?_
   ·have e0 : opsG g ++ [] = opsG g := List.append_nil _
    (repeat' simp (maxDischargeDepth := 9) -implicitDefEqProofs -dsimp only [go_sem, seval, e0, Int.natCast_zero, *]) <;> (first | omega | skip)
   ·intro i hi
    by_cases hlt : i < g.outs.length
    ·have hlt' : (i : Int) < g.outs.length := by omega
     have hb := hrl g.outs[i] (by unfold rts; exact List.mem_append_left _ (List.getElem_mem hlt))
     have hsn := take_snoc hlt
     obtain ⟨a, ha⟩ : ∃ a, g.outs[i] = a := ⟨_, rfl⟩
     rw [ha] at hb hsn
     obtain ⟨s1, s2, s3, s4, s5⟩ := cstep (l := opsG g ++ g.outs.take i) (N := N) hb.1 (by omega) (by rw [List.length_append, List.length_take]; omega)
     have hsn2 : opsG g ++ g.outs.take i ++ [a] = opsG g ++ g.outs.take (i + 1) := by rw [hsn, List.append_assoc]
     rw [hsn2] at s3
     have s6 : a / 2 < N := by omega
     have s7 : a ≤ 1000000 := by omega
     have s8 := hb.1
     obtain ⟨c, hcc⟩ : ∃ c, cRow (opsG g ++ g.outs.take i) N = c := ⟨_, rfl⟩
     have hcl : c.length = N := by rw [← hcc]; exact cRow_len _ _
     rw [hcc] at s2 s3 s4 s5 ⊢
     clear hcc hrl hfc hN hcnt hfst hb hsn hsn2 hE hc hol hsm
     repeat' (first | simp (maxDischargeDepth := 9) -implicitDefEqProofs -dsimp only [go_sem, seval, *] | simp (disch := omega) only [wrap64, tdiv2, tmod2] | ((with_reducible refine Zv ?_ ?_); focus (first | omega | exact rfl)) | ((with_reducible refine Zu ?_ ?_); focus omega))
     refine loop_next _ _ _ _ (i + 1) ?_; (repeat' simp (maxDischargeDepth := 9) -implicitDefEqProofs -dsimp only [go_sem, seval, *]) <;> (repeat' refine And.intro ?_ ?_) <;> (first | omega | skip)
    ·have hlt' : ¬ (i : Int) < g.outs.length := by omega
     have ei : i = g.outs.length := by omega
     subst ei
     have e0 : g.outs.take g.outs.length = g.outs := List.take_length
     rw [e0]
     clear hlt hi e0
     repeat' simp (maxDischargeDepth := 9) -implicitDefEqProofs -dsimp only [go_sem, seval, *]
     refine loop_rule (fun i : Nat => [(9, some (.int .i64 i)), (1, some (.cptr (aigL g))), (3, some (.vec o1 N)), (4, some (.vec o2 N))])
      (fun i => upd (upd σ o1 (.vec 1 N ((cRow (opsG g ++ g.outs ++ (g.flops.map (·.next)).take i) N).map encInt))) o2 (.vec 1 N (E.map encInt))) (fun i => i ≤ g.flops.length) (fun i => g.flops.length - i) 0 ?_ ?_
     ·have e0 : opsG g ++ g.outs ++ [] = opsG g ++ g.outs := List.append_nil _
      have e1 : (g.flops.map (·.next)).take 0 = [] := rfl
      rw [e1, e0]
      (repeat' simp (maxDischargeDepth := 9) -implicitDefEqProofs -dsimp only [go_sem, seval, Int.natCast_zero, *]) <;> (first | omega | skip)
     ·intro i hi
      by_cases hlt : i < g.flops.length
      ·have hlt' : (i : Int) < g.flops.length := by omega
       have hb := hrl g.flops[i].next (by unfold rts; exact List.mem_append_right _ (List.mem_map_of_mem (List.getElem_mem hlt)))
       have hsn := take_snoc (l := g.flops.map (·.next)) (i := i) (by simpa using hlt)
       rw [List.getElem_map] at hsn
       obtain ⟨f, hf'⟩ : ∃ f, g.flops[i] = f := ⟨_, rfl⟩
       rw [hf'] at hb hsn
       obtain ⟨a, ha⟩ : ∃ a, f.next = a := ⟨_, rfl⟩
       rw [ha] at hb hsn
       obtain ⟨s1, s2, s3, s4, s5⟩ := cstep (l := opsG g ++ g.outs ++ (g.flops.map (·.next)).take i) (N := N) hb.1 (by omega) (by rw [List.length_append, List.length_append, List.length_take, List.length_map]; omega)
       have hsn2 : opsG g ++ g.outs ++ (g.flops.map (·.next)).take i ++ [a] = opsG g ++ g.outs ++ (g.flops.map (·.next)).take (i + 1) := by rw [hsn, ← List.append_assoc]
       rw [hsn2] at s3
       have s6 : a / 2 < N := by omega
       have s7 : a ≤ 1000000 := by omega
       have s8 := hb.1
       obtain ⟨c, hcc⟩ : ∃ c, cRow (opsG g ++ g.outs ++ (g.flops.map (·.next)).take i) N = c := ⟨_, rfl⟩
       have hcl : c.length = N := by rw [← hcc]; exact cRow_len _ _
       rw [hcc] at s2 s3 s4 s5 ⊢
       clear hcc hrl hfc hN hcnt hfst hb hsn hsn2 hE hc hol hsm
       repeat' (first | simp (maxDischargeDepth := 9) -implicitDefEqProofs -dsimp only [go_sem, seval, *] | simp (disch := omega) only [wrap64, tdiv2, tmod2] | ((with_reducible refine Zv ?_ ?_); focus (first | omega | exact rfl)) | ((with_reducible refine Zu ?_ ?_); focus omega))
       refine loop_next _ _ _ _ (i + 1) ?_; (repeat' simp (maxDischargeDepth := 9) -implicitDefEqProofs -dsimp only [go_sem, seval, *]) <;> (repeat' refine And.intro ?_ ?_) <;> (first | omega | skip)
      ·have hlt' : ¬ (i : Int) < g.flops.length := by omega
       have ei : i = g.flops.length := by omega
       subst ei
       have e1 : (g.flops.map (·.next)).take g.flops.length = g.flops.map (·.next) := List.take_of_length_le (by simp)
       have e2 : opsG g ++ g.outs ++ g.flops.map (·.next) = opsG g ++ rts g := by unfold rts; rw [List.append_assoc]
       rw [e1, e2]
       have hCl := cRow_len (opsG g ++ rts g) N
       have hEl := eRow_len (opsG g) N
       have hC : ∀ n, n < N → (cRow (opsG g ++ rts g) N).getD n 0 = ((cntL (opsG g) n + cntL (rts g) n : Nat) : Int) := fun n hn => by rw [cRow_get hn, cntL_app]
       have hEg : ∀ n, n < N → E.getD n 0 = ((cntE (opsG g) n : Nat) : Int) := fun n hn => by rw [← hE, eRow_get hn]
       rw [hE] at hEl
       obtain ⟨C, hCC⟩ : ∃ C, cRow (opsG g ++ rts g) N = C := ⟨_, rfl⟩
       rw [hCC] at hC hCl ⊢
       clear hlt hi e1 e2 hE hCC hrl
       repeat' (first | simp (maxDischargeDepth := 9) -implicitDefEqProofs -dsimp only [go_sem, seval, *] | ((with_reducible refine Zv ?_ ?_); focus (first | omega | exact rfl)) | ((with_reducible refine Zt (fun oF hoF hnF hnF' => ?_)); (try simp only [upd_none, ne_eq, not_and] at hoF)) | ((with_reducible apply ACalls.one1); (focus ((first | with_reducible refine hc _ | with_reducible refine hfc _) <;> (first | (simp (maxDischargeDepth := 9) -implicitDefEqProofs -dsimp only [go_sem, seval, *]; done) | omega))); (focus (first | trivial | with_reducible exact rfl | (simp (maxDischargeDepth := 9) -implicitDefEqProofs -dsimp only [go_sem, seval]; done)))))
       obtain ⟨o3, e3⟩ : ∃ x, x = oF := ⟨oF, rfl⟩
       subst e3
       obtain ⟨v1, v2, v3⟩ := hoF
       have v4 : ¬ o1 = o3 := fun e => v2 e.symm
       have v5 : ¬ o2 = o3 := fun e => v1 e.symm
       clear hnF hnF' hc hfc
       have hf1 : 1 ≤ g.first := by omega
       obtain ⟨f, hff⟩ : ∃ f, g.first.toNat = f := ⟨_, rfl⟩
       have hff' : g.first = (f : Int) := by omega
       have hrep : (List.replicate N [AV.bool false]).flatten = (iRow g N f).map encBool := by rw [rep_bool, ← hff, iRow_first g N (by omega)]
       have hfN : f ≤ N := by omega
       refine loop_rule (fun n : Nat => [(11, some (.int .i64 n)), (10, some (.vec o3 N)), (3, some (.vec o1 N)), (4, some (.vec o2 N))])
        (fun n => upd (upd (upd σ o1 (.vec 1 N (C.map encInt))) o2 (.vec 1 N (E.map encInt))) o3 (.vec 1 N ((iRow g N n).map encBool))) (fun n => f ≤ n ∧ n ≤ N) (fun n => N - n) f ?_ ?_
       ·rw [← hrep]
        clear hrep
        (repeat' simp (maxDischargeDepth := 9) -implicitDefEqProofs -dsimp only [go_sem, seval, *]) <;> (repeat' refine And.intro ?_ ?_) <;> (first | omega | skip)
       ·rintro n ⟨hn1, hn2⟩
        clear hrep
        have hil := iRow_len g N n
        by_cases hlt : n < N
        ·have hlt' : (n : Int) < N := by omega
         have hs := iRow_set g hlt
         have hp := put_bool (iRow g N n) n (innM g n) (by omega)
         rw [hs] at hp
         have hie := inn_eq (g := g) (n := (n : Int)) (by omega)
         have hc1 := head_int (l := C) (i := n) (by omega)
         have he1 := head_int (l := E) (i := n) (by omega)
         rw [hC n hlt] at hc1
         rw [hEg n hlt] at he1
         obtain ⟨x, hx⟩ : ∃ x, cntL (opsG g) n + cntL (rts g) n = x := ⟨_, rfl⟩
         obtain ⟨y, hy⟩ : ∃ x, cntE (opsG g) n = x := ⟨_, rfl⟩
         rw [hx] at hc1 hie
         rw [hy] at he1 hie
         obtain ⟨b, hb⟩ : ∃ b, innM g n = b := ⟨_, rfl⟩
         rw [hb] at hp hie
         obtain ⟨q, hq⟩ : ∃ q, iRow g N n = q := ⟨_, rfl⟩
         rw [hq] at hp hil ⊢
         clear hs hx hy hb hq hC hEg hN hcnt hfst hff hff' hf1 hsm
         by_cases hx1 : x = 1
         ·have hxb : ((x : Int) == 1) = true := by simp [hx1]
          by_cases hy1 : y = 1
          ·have hyb : ((y : Int) == 1) = true := by simp [hy1]
           have hbt : b = true := by rw [hie, hx1, hy1]; rfl
           subst hbt
           clear hie hx1 hy1
           repeat' (first | simp (maxDischargeDepth := 9) -implicitDefEqProofs -dsimp only [go_sem, seval, *] | simp (disch := omega) only [wrap64, tdiv2, tmod2] | ((with_reducible refine Zv ?_ ?_); focus (first | omega | exact rfl)))
           refine loop_next _ _ _ _ (n + 1) ?_; (repeat' simp (maxDischargeDepth := 9) -implicitDefEqProofs -dsimp only [go_sem, seval, *]) <;> (repeat' refine And.intro ?_ ?_) <;> (first | omega | skip)
          ·have hyb : ((y : Int) == 1) = false := by simp; omega
           have hbt : b = false := by rw [hie]; simp [hy1]
           subst hbt
           clear hie hx1 hy1
           repeat' (first | simp (maxDischargeDepth := 9) -implicitDefEqProofs -dsimp only [go_sem, seval, *] | simp (disch := omega) only [wrap64, tdiv2, tmod2] | ((with_reducible refine Zv ?_ ?_); focus (first | omega | exact rfl)))
           refine loop_next _ _ _ _ (n + 1) ?_; (repeat' simp (maxDischargeDepth := 9) -implicitDefEqProofs -dsimp only [go_sem, seval, *]) <;> (repeat' refine And.intro ?_ ?_) <;> (first | omega | skip)
         ·have hxb : ((x : Int) == 1) = false := by simp; omega
          have hbt : b = false := by rw [hie]; simp [hx1]
          subst hbt
          clear hie hx1
          repeat' (first | simp (maxDischargeDepth := 9) -implicitDefEqProofs -dsimp only [go_sem, seval, *] | simp (disch := omega) only [wrap64, tdiv2, tmod2] | ((with_reducible refine Zv ?_ ?_); focus (first | omega | exact rfl)))
          refine loop_next _ _ _ _ (n + 1) ?_; (repeat' simp (maxDischargeDepth := 9) -implicitDefEqProofs -dsimp only [go_sem, seval, *]) <;> (repeat' refine And.intro ?_ ?_) <;> (first | omega | skip)
        ·have hlt' : ¬ (n : Int) < N := by omega
         have en : n = N := by omega
         subst en
         clear hC hEg hN hcnt hfst hff hff' hf1 hsm
         repeat' simp (maxDischargeDepth := 9) -implicitDefEqProofs -dsimp only [go_sem, seval, *]
         refine fin_bools (o := o3) (n := n) ?_ hil rfl ?_
         ·simp (maxDischargeDepth := 9) -implicitDefEqProofs -dsimp only [go_sem, seval, *]
         ·(repeat' simp (maxDischargeDepth := 9) -implicitDefEqProofs -dsimp only [go_sem, seval, *])
end Go.Proofs.Ytapnlmhfacoceaa

namespace Go.Proofs.Ytapnlmhfacoceaa
open Abs Fil Fil.Rw
open Eqv (moveL)
theorem iRow_get (g : Aig) {N n : Nat} (h : n < N) : ∃ hh : n < (iRow g N N).length, (iRow g N N)[n] = innM g n := by
 refine ⟨by rw [iRow_len]; exact h, ?_⟩
 simp [iRow, h]
theorem flat_i1 (x : Int) : flat [AV.int .i64 x] = [AV.int .i64 x] := rfl
def LvOk (g : Aig) (N : Nat) (a : Int) : Prop := ∀ σ,
  ((leavesG g a).length ≤ 100000 → ACalls Try.prog 54 [encAig g, .slice ((iRow g N N).map encBool) .no, .slice [] .nil, .int .i64 a] σ (NewO σ (fun o => .vec o (leavesG g a).length) (.vec 1 (leavesG g a).length ((leavesG g a).map encInt)))) ∧
  ∀ (o : Nat) (l : List Int) (n : Nat), n = l.length → σ o = some (.vec 1 n (l.map encInt)) → n + (leavesG g a).length ≤ 100000 →
   ACalls Try.prog 54 [encAig g, .slice ((iRow g N N).map encBool) .no, .vec o n, .int .i64 a] σ (fun r s => r = .ret (.vec o (n + (leavesG g a).length)) ∧ s = upd σ o (.vec 1 (n + (leavesG g a).length) ((l ++ leavesG g a).map encInt)))
set_option maxHeartbeats 8000000 in
theorem rf_leaf (g : Aig) (N : Nat) (a : Int) (h0 : 0 ≤ a) (ha : a < 2 * N) (ha1 : a ≤ 1000000) (hn : ¬ (a % 2 = 0 ∧ innM g (a / 2) = true)) : LvOk g N a := fun σ => by
 obtain ⟨I, hI, hh, hget⟩ : ∃ I : List Bool, iRow g N N = I ∧ ∃ hh : (a / 2).toNat < I.length, I[(a / 2).toNat] = innM g (a / 2) := by
  obtain ⟨hh, hget⟩ := iRow_get g (N := N) (n := (a / 2).toNat) (by omega)
  rw [show (((a / 2).toNat : Nat) : Int) = a / 2 by omega] at hget
  exact ⟨_, rfl, hh, hget⟩
 have hlv := leaves_leaf (g := g) a hn
 rw [hlv]
 rw [hI]
 by_cases hodd : a % 2 = 1
 ·have hb : (a % 2 == 1) = true := by simp [hodd]
  clear hget hn hI
  constructor
  ·intro _
   refine calls_x mixed Try.func54 b54 n54 rfl q54 (by simp) ?_; unfold c54 r54
   repeat' (first | simp (maxDischargeDepth := 9) -implicitDefEqProofs -dsimp only [go_sem, seval, flat_i1, *] | simp (disch := omega) only [wrap64, tdiv2, tmod2] | ((with_reducible refine Zt (fun oF hoF hnF hnF' => ?_)); (try simp only [upd_none, ne_eq, not_and] at hoF)))
   refine fin_new oF hoF ?_
   (repeat' simp (maxDischargeDepth := 9) -implicitDefEqProofs -dsimp only [go_sem, seval, flat_nil, List.nil_append, List.map_cons, List.map_nil, List.length_cons, List.length_nil, Nat.zero_add, *])
  ·intro o l n hnl ho hle
   refine calls_x mixed Try.func54 b54 n54 rfl q54 (by simp) ?_; unfold c54 r54
   repeat' (first | simp (maxDischargeDepth := 9) -implicitDefEqProofs -dsimp only [go_sem, seval, flat_i1, *] | simp (disch := omega) only [wrap64, tdiv2, tmod2] | ((with_reducible refine Zv ?_ ?_); focus (first | omega | exact rfl)))
   refine fin_eq ?_
   (repeat' simp (maxDischargeDepth := 9) -implicitDefEqProofs -dsimp only [go_sem, seval, List.map_append, List.map_cons, List.map_nil, List.length_cons, List.length_nil, Nat.zero_add, *])
 ·have hni : innM g (a / 2) = false := by
   cases hi : innM g (a / 2) with
   | false => rfl
   | true => exact absurd ⟨by omega, hi⟩ hn
  have hb : (a % 2 == 1) = false := by simp; omega
  rw [hni] at hget
  clear hn hni hI hodd
  constructor
  ·intro _
   refine calls_x mixed Try.func54 b54 n54 rfl q54 (by simp) ?_; unfold c54 r54
   repeat' (first | simp (maxDischargeDepth := 9) -implicitDefEqProofs -dsimp only [go_sem, seval, flat_i1, *] | simp (disch := omega) only [wrap64, tdiv2, tmod2] | ((with_reducible refine Zv ?_ ?_); focus (first | omega | exact rfl)) | ((with_reducible refine Zu ?_ ?_); focus omega) | ((with_reducible refine Zt (fun oF hoF hnF hnF' => ?_)); (try simp only [upd_none, ne_eq, not_and] at hoF)))
   refine fin_new oF hoF ?_
   (repeat' simp (maxDischargeDepth := 9) -implicitDefEqProofs -dsimp only [go_sem, seval, flat_nil, List.nil_append, List.map_cons, List.map_nil, List.length_cons, List.length_nil, Nat.zero_add, *])
  ·intro o l n hnl ho hle
   refine calls_x mixed Try.func54 b54 n54 rfl q54 (by simp) ?_; unfold c54 r54
   repeat' (first | simp (maxDischargeDepth := 9) -implicitDefEqProofs -dsimp only [go_sem, seval, flat_i1, *] | simp (disch := omega) only [wrap64, tdiv2, tmod2] | ((with_reducible refine Zv ?_ ?_); focus (first | omega | exact rfl)) | ((with_reducible refine Zu ?_ ?_); focus omega))
   refine fin_eq ?_
   (repeat' simp (maxDischargeDepth := 9) -implicitDefEqProofs -dsimp only [go_sem, seval, List.map_append, List.map_cons, List.map_nil, List.length_cons, List.length_nil, Nat.zero_add, *])
set_option maxRecDepth 20000 in
set_option maxHeartbeats 8000000 in
theorem rf_leaves (g : Aig) (N : Nat) (hg : Sml g) (hN : 1 + g.count = (N : Int)) : ∀ (f : Nat) (a : Int), (a / 2).toNat ≤ f → 0 ≤ a → a < 2 * N → LvOk g N a := by
 have hlo := hg.lo
 have h1 := hg.ins
 have h2 := hg.flops
 have h3 := hg.ands
 have hsm : Small g := check_small hg.wf hg.chk
 have hfc := fun τ => rf_first g τ hsm
 have hfst : g.first ≤ 200 ∧ 1 ≤ g.first := by simp only [Aig.first]; omega
 have cf := count_first g
 intro f
 induction f with
 | zero =>
  intro a hf h0 ha
  refine rf_leaf g N a h0 ha (by have := hg.fine.cnt; omega) fun h => ?_
  have := innM_first h.2; omega
 | succ f ih =>
  intro a hf h0 ha
  have ha1 : a ≤ 1000000 := by have := hg.fine.cnt; omega
  by_cases hin : a % 2 = 0 ∧ innM g (a / 2) = true
  ·intro σ
   obtain ⟨I, hI, hh, hget⟩ : ∃ I : List Bool, iRow g N N = I ∧ ∃ hh : (a / 2).toNat < I.length, I[(a / 2).toNat] = true := by
    obtain ⟨hh, hget⟩ := iRow_get g (N := N) (n := (a / 2).toNat) (by omega)
    rw [show (((a / 2).toNat : Nat) : Int) = a / 2 by omega, hin.2] at hget
    exact ⟨_, rfl, hh, hget⟩
   obtain ⟨m, hm, e1, _, k1, k2⟩ := inner_kids hg (show a < 2 * (1 + g.count) by omega) hin.2
   have hlv := leaves_inner hg h0 (show a < 2 * (1 + g.count) by omega) hin.1 hin.2 hm e1
   have hml : (m : Int) < g.ands.length := by omega
   have i0 := ih g.ands[m].1 (by omega) k1.1 (by omega)
   have i1 := ih g.ands[m].2 (by omega) k2.1 (by omega)
   obtain ⟨x0, hx0⟩ : ∃ x, g.ands[m].1 = x := ⟨_, rfl⟩
   obtain ⟨x1, hx1⟩ : ∃ x, g.ands[m].2 = x := ⟨_, rfl⟩
   rw [hx0] at i0 hlv
   rw [hx1] at i1 hlv
   unfold LvOk at i0 i1
   rw [hlv]
   rw [hI] at i0 i1
   rw [hI]
   obtain ⟨L0, hL0⟩ : ∃ L, leavesG g x0 = L := ⟨_, rfl⟩
   obtain ⟨L1, hL1⟩ : ∃ L, leavesG g x1 = L := ⟨_, rfl⟩
   rw [hL0] at i0
   rw [hL1] at i1
   rw [hL0, hL1]
   have hb : (a % 2 == 1) = false := by simp; omega
   have hsub : a / 2 - g.first = m := by omega
   have hfl : g.first ≤ a / 2 := by omega
   have hf1 := hfst.1
   have hf2 := hfst.2
   rw [List.length_append]
   clear ih hlv e1 k1 k2 hL0 hL1 hI hin hN cf hfst hsm h1 h2 h3 hf
   constructor
   ·intro hle
    have j0 := fun τ => (i0 τ).1 (by omega)
    have j1 := fun τ o h => (i1 τ).2 o L0 L0.length rfl h (by omega)
    clear i0 i1
    refine calls_x mixed Try.func54 b54 n54 rfl q54 (by simp) ?_; unfold c54 r54
    repeat' (first | simp (maxDischargeDepth := 9) -implicitDefEqProofs -dsimp only [go_sem, seval, flat_i1, *] | simp (disch := omega) only [wrap64, tdiv2, tmod2] | ((with_reducible refine Zv ?_ ?_); focus (first | omega | exact rfl)) | ((with_reducible refine Zu ?_ ?_); focus omega) | ((with_reducible refine Zt (fun oF hoF hnF hnF' => ?_)); (try simp only [upd_none, ne_eq, not_and] at hoF)) | ((with_reducible apply id_one0); (focus (intro tS hS; ((with_reducible refine hfc _) <;> (first | (simp (maxDischargeDepth := 9) -implicitDefEqProofs -dsimp only [go_sem, seval, *]; done) | omega | ((with_reducible refine Sub.get hS ?_); simp (maxDischargeDepth := 9) -implicitDefEqProofs -dsimp only [go_sem, seval, *]; done))))); (focus (first | trivial | (simp (maxDischargeDepth := 9) -implicitDefEqProofs -dsimp only [go_sem, seval, *]; done)))))
    refine (j0 _).newO ?_
    intro oN hoN hnN hnN'
    simp only [upd_none, ne_eq, not_and] at hoN
    obtain ⟨w1, w2⟩ := hoN
    have w3 : ¬ oF = oN := fun e => w1 e.symm
    clear hnN hnN'
    repeat' (first | simp (maxDischargeDepth := 9) -implicitDefEqProofs -dsimp only [go_sem, seval, *] | ((with_reducible apply ACalls.one1); (focus ((with_reducible refine j1 _ _ ?_) <;> (first | (simp (maxDischargeDepth := 9) -implicitDefEqProofs -dsimp only [go_sem, seval, *]; done) | omega))); (focus (first | trivial | with_reducible exact rfl | (simp (maxDischargeDepth := 9) -implicitDefEqProofs -dsimp only [go_sem, seval]; done)))))
    refine fin_new oN w2 ?_
    (repeat' simp (maxDischargeDepth := 9) -implicitDefEqProofs -dsimp only [go_sem, seval, *])
   ·intro o l n hnl ho hle
    have j0 := fun τ h => (i0 τ).2 o l n hnl h (by omega)
    have j1 := fun τ h => (i1 τ).2 o (l ++ L0) (n + L0.length) (by rw [List.length_append, hnl]) h (by omega)
    have hass : (l ++ L0) ++ L1 = l ++ (L0 ++ L1) := List.append_assoc _ _ _
    have hadd : n + L0.length + L1.length = n + (L0.length + L1.length) := Nat.add_assoc _ _ _
    rw [hass, hadd] at j1
    obtain ⟨LL, hLL⟩ : ∃ L, l ++ (L0 ++ L1) = L := ⟨_, rfl⟩
    obtain ⟨LM, hLM⟩ : ∃ L, l ++ L0 = L := ⟨_, rfl⟩
    rw [hLL] at j1
    rw [hLL]
    rw [hLM] at j0 j1
    have hon : ¬ σ o = none := by rw [ho]; simp
    clear i0 i1 hass hadd hLL hLM hnl hle
    refine calls_x mixed Try.func54 b54 n54 rfl q54 (by simp) ?_; unfold c54 r54
    repeat' (first | simp (maxDischargeDepth := 9) -implicitDefEqProofs -dsimp only [go_sem, seval, flat_i1, *] | simp (disch := omega) only [wrap64, tdiv2, tmod2] | ((with_reducible refine Zv ?_ ?_); focus (first | omega | exact rfl)) | ((with_reducible refine Zu ?_ ?_); focus omega) | ((with_reducible refine Zt (fun oF hoF hnF hnF' => ?_)); (try simp only [upd_none, ne_eq, not_and] at hoF)) | ((with_reducible apply id_one0); (focus (intro tS hS; ((with_reducible refine hfc _) <;> (first | (simp (maxDischargeDepth := 9) -implicitDefEqProofs -dsimp only [go_sem, seval, *]; done) | omega | ((with_reducible refine Sub.get hS ?_); simp (maxDischargeDepth := 9) -implicitDefEqProofs -dsimp only [go_sem, seval, *]; done))))); (focus (first | trivial | (simp (maxDischargeDepth := 9) -implicitDefEqProofs -dsimp only [go_sem, seval, *]; done)))))
    have w1 := hnF o (by simp (maxDischargeDepth := 9) -implicitDefEqProofs -dsimp only [go_sem, seval, *])
    have w2 : ¬ oF = o := fun e => w1 e.symm
    clear hnF hnF'
    repeat' (first | simp (maxDischargeDepth := 9) -implicitDefEqProofs -dsimp only [go_sem, seval, *] | ((with_reducible apply ACalls.one1); (focus ((first | with_reducible refine j0 _ ?_) <;> (first | (simp (maxDischargeDepth := 9) -implicitDefEqProofs -dsimp only [go_sem, seval, *]; done) | omega))); (focus (first | trivial | with_reducible exact rfl | (simp (maxDischargeDepth := 9) -implicitDefEqProofs -dsimp only [go_sem, seval]; done)))))
    repeat' (first | simp (maxDischargeDepth := 9) -implicitDefEqProofs -dsimp only [go_sem, seval, *] | ((with_reducible apply ACalls.one1); (focus ((with_reducible refine j1 _ ?_) <;> (first | (simp (maxDischargeDepth := 9) -implicitDefEqProofs -dsimp only [go_sem, seval, *]; done) | omega))); (focus (first | trivial | with_reducible exact rfl | (simp (maxDischargeDepth := 9) -implicitDefEqProofs -dsimp only [go_sem, seval]; done)))))
    refine fin_eq ?_
    (repeat' simp (maxDischargeDepth := 9) -implicitDefEqProofs -dsimp only [go_sem, seval, *])
  ·exact rf_leaf g N a h0 ha ha1 hin
end Go.Proofs.Ytapnlmhfacoceaa

namespace Go.Proofs.Ytapnlmhfacoceaa
open Abs Fil Fil.Rw
open Eqv (moveL)
theorem gi {l : List Int} {n : Nat} (h : n < l.length) : l[n] = l.getD n 0 := by simp [List.getD_eq_getElem?_getD, h]
set_option maxHeartbeats 8000000 in
theorem rf_least (lev l : List Int) (but : Int) (σ : Sig) (hl : ∀ a ∈ l, 0 ≤ a ∧ (a / 2).toNat < lev.length ∧ a ≤ 1000000) (hlen : l.length ≤ 100000) :
  ACalls Try.prog 77 [.slice (l.map encInt) .no, .slice (lev.map encInt) .no, .int .i64 but] σ (fun r s => r = .ret (.int .i64 (lsAt lev l but l.length)) ∧ s = σ) := by
 refine calls_x mixed Try.func77 b77 n77 rfl q77 (by simp) ?_; unfold c77 r77
 repeat' simp (maxDischargeDepth := 9) -implicitDefEqProofs -dsimp only [go_sem, seval, *]
 refine loop_rule (fun i : Nat => [(8, some (.int .i64 i)), (0, some (.slice (l.map encInt) .no)), (2, some (.int .i64 but)), (7, some (.int .i64 (lsAt lev l but i))), (1, some (.slice (lev.map encInt) .no))]) (fun _ => σ) (fun i => i ≤ l.length) (fun i => l.length - i) 0 ?_ ?_
 ·(repeat' simp (maxDischargeDepth := 9) -implicitDefEqProofs -dsimp only [go_sem, seval, Int.natCast_zero, lsAt, *]) <;> (first | omega | skip)
 ·intro i hi
  by_cases hlt : i < l.length
  ·have hlt' : (i : Int) < l.length := by omega
   obtain ⟨b1, b2⟩ := lsAt_bound lev l but i
   obtain ⟨q1, q2, q3⟩ := hl _ (List.getElem_mem hlt)
   have g1 := gi hlt
   have hnx : lsAt lev l but (i + 1) = if (i : Int) ≠ but ∧ (lsAt lev l but i < 0 ∨ lev.getD (l.getD i 0 / 2).toNat 0 < lev.getD (l.getD (lsAt lev l but i).toNat 0 / 2).toNat 0) then (i : Int) else lsAt lev l but i := rfl
   obtain ⟨bst, hb⟩ : ∃ b, lsAt lev l but i = b := ⟨_, rfl⟩
   rw [hb] at hnx b1 b2 ⊢
   obtain ⟨a, ha⟩ : ∃ a, l.getD i 0 = a := ⟨_, rfl⟩
   rw [ha] at g1 hnx
   simp only [g1] at q1 q2 q3
   have g2 := gi q2
   by_cases hbut : (i : Int) = but
   ·have e1 : ((i : Int) != but) = false := by simp [hbut]
    rw [if_neg (fun q => q.1 hbut)] at hnx
    clear hl hbut g2 hb ha b1 b2
    repeat' (first | simp (maxDischargeDepth := 9) -implicitDefEqProofs -dsimp only [go_sem, seval, *] | simp (disch := omega) only [wrap64, tdiv2])
    refine loop_next _ _ _ _ (i + 1) ?_; (repeat' simp (maxDischargeDepth := 9) -implicitDefEqProofs -dsimp only [go_sem, seval, *]) <;> (repeat' refine And.intro ?_ ?_) <;> (first | omega | skip)
   ·have e1 : ((i : Int) != but) = true := by simp [hbut]
    by_cases hneg : bst < 0
    ·rw [if_pos ⟨hbut, .inl hneg⟩] at hnx
     clear hl hbut g2 hb ha b1 b2
     repeat' (first | simp (maxDischargeDepth := 9) -implicitDefEqProofs -dsimp only [go_sem, seval, *] | simp (disch := omega) only [wrap64, tdiv2])
     refine loop_next _ _ _ _ (i + 1) ?_; (repeat' simp (maxDischargeDepth := 9) -implicitDefEqProofs -dsimp only [go_sem, seval, *]) <;> (repeat' refine And.intro ?_ ?_) <;> (first | omega | skip)
    ·have hbl : bst.toNat < l.length := by omega
     obtain ⟨r1, r2, r3⟩ := hl _ (List.getElem_mem hbl)
     have g3 := gi hbl
     obtain ⟨c, hc⟩ : ∃ a, l.getD bst.toNat 0 = a := ⟨_, rfl⟩
     rw [hc] at g3 hnx
     simp only [g3] at r1 r2 r3
     have g4 := gi r2
     obtain ⟨u, hu⟩ : ∃ w, lev.getD (a / 2).toNat 0 = w := ⟨_, rfl⟩
     obtain ⟨v, hv⟩ : ∃ w, lev.getD (c / 2).toNat 0 = w := ⟨_, rfl⟩
     rw [hu] at g2 hnx
     rw [hv] at g4 hnx
     have hb0 : 0 ≤ bst := by omega
     by_cases huv : u < v
     ·rw [if_pos ⟨hbut, .inr huv⟩] at hnx
      clear hl hbut hb ha b1 hc hu hv
      repeat' (first | simp (maxDischargeDepth := 9) -implicitDefEqProofs -dsimp only [go_sem, seval, *] | simp (disch := omega) only [wrap64, tdiv2] | ((with_reducible refine Zv ?_ ?_); focus (first | omega | exact rfl)) | ((with_reducible refine Zu ?_ ?_); focus omega))
      refine loop_next _ _ _ _ (i + 1) ?_; (repeat' simp (maxDischargeDepth := 9) -implicitDefEqProofs -dsimp only [go_sem, seval, *]) <;> (repeat' refine And.intro ?_ ?_) <;> (first | omega | skip)
     ·rw [if_neg (fun q => by rcases q.2 with q | q; exact hneg q; exact huv q)] at hnx
      clear hl hbut hb ha b1 hc hu hv
      repeat' (first | simp (maxDischargeDepth := 9) -implicitDefEqProofs -dsimp only [go_sem, seval, *] | simp (disch := omega) only [wrap64, tdiv2] | ((with_reducible refine Zv ?_ ?_); focus (first | omega | exact rfl)) | ((with_reducible refine Zu ?_ ?_); focus omega))
      refine loop_next _ _ _ _ (i + 1) ?_; (repeat' simp (maxDischargeDepth := 9) -implicitDefEqProofs -dsimp only [go_sem, seval, *]) <;> (repeat' refine And.intro ?_ ?_) <;> (first | omega | skip)
  ·have hlt' : ¬ (i : Int) < l.length := by omega
   have ei : i = l.length := by omega
   subst ei
   clear hl hi hlt
   repeat' simp (maxDischargeDepth := 9) -implicitDefEqProofs -dsimp only [go_sem, seval, *]
   refine fin_eq ?_
   (repeat' simp (maxDischargeDepth := 9) -implicitDefEqProofs -dsimp only [go_sem, seval, *])
set_option maxRecDepth 20000 in
set_option maxHeartbeats 8000000 in
theorem rf_joined (b : B) (l : List Int) (σ : Sig) (hJ : JI b l) : ACalls Try.prog 55 [encAig b.g, .slice (l.map encInt) .no] σ (fun r s => r = .ret (.tup [encAig (joinB l.length b l).1.g, .int .i64 (joinB l.length b l).2]) ∧ s = σ) := by
 refine calls_x mixed Try.func55 b55 n55 rfl q55 (by simp) ?_; unfold c55 r55
 repeat' (first | simp (maxDischargeDepth := 9) -implicitDefEqProofs -dsimp only [go_sem, seval, *] | ((with_reducible refine Zt (fun oF hoF hnF hnF' => ?_)); (try simp only [upd_none, ne_eq, not_and] at hoF)))
 rename_i oH p1 n1 n1'
 obtain ⟨oR, e2⟩ : ∃ x, x = oF := ⟨oF, rfl⟩
 subst e2
 obtain ⟨p2, p3⟩ := hoF
 have p4 : ¬ oH = oR := fun e => p2 e.symm
 clear n1 n1' hnF hnF'
 refine loop_rule (fun x : B × List Int => [(1, some (.slice (x.2.map encInt) .no)), (2, some (.ptr oH 0)), (4, some (.ptr oR 0))])
  (fun x => upd (upd σ oH (.cells (aigL x.1.g))) oR (.cells [.int .i64 0, .slice [] .nil, .slice [] .nil, .slice [] .nil])) (fun x => JI x.1 x.2 ∧ joinB x.2.length x.1 x.2 = joinB l.length b l) (fun x => x.2.length) (b, l) ?_ ?_
 ·refine ⟨?_, ?_, hJ, rfl⟩
  ·(repeat' simp (maxDischargeDepth := 9) -implicitDefEqProofs -dsimp only [go_sem, seval, *])
  ·(repeat' simp (maxDischargeDepth := 9) -implicitDefEqProofs -dsimp only [go_sem, seval, *])
 ·rintro ⟨b1, l1⟩ ⟨hJ1, hj⟩
  simp only at hJ1 hj ⊢
  have hne := hJ1.ne
  by_cases h2 : 2 ≤ l1.length
  ·have h2' : (1 : Int) < l1.length := by omega
   have hcnt := hJ1.cnt
   have hlen : l1.length ≤ 2000 := by have := hJ1.fine.lo; simp only [Aig.count] at hcnt; omega
   have cL := fun τ => A.ref_Levels b1.g τ hJ1.fine.toWf
   rw [levels_eq hJ1.chk] at cL
   simp only at cL
   have hlev := hJ1.lev
   rw [← hlev] at cL
   have hidx : ∀ a ∈ l1, 0 ≤ a ∧ (a / 2).toNat < b1.lev.length ∧ a ≤ 1000000 := fun a ha => by
    obtain ⟨q1, q2, q3⟩ := hJ1.idx ha
    exact ⟨q1, q2, by omega⟩
   have c1 := fun τ => rf_least b1.lev l1 (-1) τ hidx (by omega)
   rw [ls_one (by omega)] at c1
   obtain ⟨i, hi⟩ : ∃ i, lst b1.lev l1 = i := ⟨_, rfl⟩
   have hil := lst_lt (lev := b1.lev) (show 0 < l1.length by omega)
   have c2 := fun τ => rf_least b1.lev l1 i τ hidx (by omega)
   rw [hi] at c1 hil
   rw [ls_two h2 hil] at c2
   obtain ⟨k, hk⟩ : ∃ k, upI i (lst b1.lev (l1.eraseIdx i)) = k := ⟨_, rfl⟩
   rw [hk] at c2
   obtain ⟨w1, w2, w3, w4⟩ := pair_ref h2 hi hk
   obtain ⟨z0, z1, z2, z3, z4, z5⟩ := hJ1.step h2
   have hstep := joinB_step hJ1 h2
   rw [hj] at hstep
   have hmn : (if k < i then (k : Int) else i) = ((min i k : Nat) : Int) := by split <;> omega
   have hmx : (if i < k then (k : Int) else i) = ((max i k : Nat) : Int) := by split <;> omega
   obtain ⟨p, hp⟩ : ∃ p, min i k = p := ⟨_, rfl⟩
   obtain ⟨q, hq⟩ : ∃ p, max i k = p := ⟨_, rfl⟩
   obtain ⟨hpq1, hpq2⟩ : p < q ∧ q < l1.length := by omega
   rw [hp] at w3 w4 hmn
   rw [hq] at w3 w4 hmx
   have cA := fun τ => A.ref_And b1.g (pairJ b1.lev l1).1 (pairJ b1.lev l1).2 τ hJ1.fine.toWf
   rw [z0] at cA
   have hs1 : (stepJ b1 l1).1.g = (b1.g.And (pairJ b1.lev l1).1 (pairJ b1.lev l1).2).1 := rfl
   have hs2 : (stepJ b1 l1).2 = restJ b1.lev l1 ++ [(b1.g.And (pairJ b1.lev l1).1 (pairJ b1.lev l1).2).2.1] := rfl
   obtain ⟨⟨g', x, e⟩, hr⟩ : ∃ r, b1.g.And (pairJ b1.lev l1).1 (pairJ b1.lev l1).2 = r := ⟨_, rfl⟩
   rw [hr] at cA hs1 hs2
   simp only at cA hs1 hs2
   rw [w3] at cA
   simp only at cA
   have hpl : p < l1.length := by omega
   have gp := gi hpl
   have gq := gi hpq2
   obtain ⟨u, hu⟩ : ∃ u, l1.getD p 0 = u := ⟨_, rfl⟩
   obtain ⟨v, hv⟩ : ∃ u, l1.getD q 0 = u := ⟨_, rfl⟩
   rw [hu] at gp cA
   rw [hv] at gq cA
   clear hJ1 hj hidx w1 w2 w3 hi hk hil hp hq hr hu hv z0 z3 z4 z5 hlev hcnt hJ
   obtain ⟨A1, hA1⟩ : ∃ A, l1.take p = A := ⟨_, rfl⟩
   obtain ⟨A2, hA2⟩ : ∃ A, (l1.take q).drop (p + 1) = A := ⟨_, rfl⟩
   obtain ⟨A3, hA3⟩ : ∃ A, l1.drop (q + 1) = A := ⟨_, rfl⟩
   have s1 : List.take p (l1.map encInt) = A1.map encInt := by rw [← hA1, List.map_take]
   have s2 : List.drop (p + 1) (List.take q (l1.map encInt)) = A2.map encInt := by rw [← hA2, List.map_drop, List.map_take]
   have s3 : List.drop (q + 1) (l1.map encInt) = A3.map encInt := by rw [← hA3, List.map_drop]
   have s4 : List.take l1.length (l1.map encInt) = l1.map encInt := List.take_of_length_le (by simp)
   have t1 : ((p : Int) + 1).toNat = p + 1 := by omega
   have t2 : ((q : Int) + 1).toNat = q + 1 := by omega
   have m4 : p ≤ 2000 := by omega
   have m5 : q ≤ 2000 := by omega
   have m1 : A1.length ≤ 2000 := by rw [← hA1, List.length_take]; omega
   have m2 : A2.length ≤ 2000 := by rw [← hA2, List.length_drop, List.length_take]; omega
   have m3 : A3.length ≤ 2000 := by rw [← hA3, List.length_drop]; omega
   rw [hA1, hA2, hA3] at w4
   rw [w4] at hs2
   have hs3 : (stepJ b1 l1).2.map encInt = A1.map encInt ++ A2.map encInt ++ A3.map encInt ++ [.int .i64 x] := by rw [hs2]; simp
   have hP := Pk.mk (And.intro z1 (And.intro z2 (And.intro hstep.symm (And.intro hs1 hs3))))
   clear hA1 hA2 hA3 w4 hs2 z1 z2 hstep hs1 hs3 hlen
   repeat' (first | simp (maxDischargeDepth := 9) -implicitDefEqProofs -dsimp only [go_sem, seval, gt_iff_lt, List.nil_append, *] | simp (disch := omega) only [wrap64] | ((with_reducible refine Zv ?_ ?_); focus (first | omega | exact rfl)) | ((with_reducible refine Zu ?_ ?_); focus omega) | ((with_reducible refine Zt (fun oF hoF hnF hnF' => ?_)); (try simp only [upd_none, ne_eq, not_and] at hoF)) | ((with_reducible apply ACalls.one1); (focus ((first | with_reducible refine cL _ | with_reducible refine c1 _ | with_reducible refine c2 _) <;> (first | (simp (maxDischargeDepth := 9) -implicitDefEqProofs -dsimp only [go_sem, seval, *]; done) | omega))); (focus (first | trivial | with_reducible exact rfl | (simp (maxDischargeDepth := 9) -implicitDefEqProofs -dsimp only [go_sem, seval]; done)))) | ((with_reducible apply id_one0); (focus (intro tS hS; ((with_reducible refine cA _) <;> (first | (simp (maxDischargeDepth := 9) -implicitDefEqProofs -dsimp only [go_sem, seval, *]; done) | omega | ((with_reducible refine Sub.get hS ?_); simp (maxDischargeDepth := 9) -implicitDefEqProofs -dsimp only [go_sem, seval, *]; done))))); (focus (first | trivial | (simp (maxDischargeDepth := 9) -implicitDefEqProofs -dsimp only [go_sem, seval, *]; done)))))
   obtain ⟨z1, z2, hstep, hs1, hs3⟩ := hP.out
   have hms : (stepJ b1 l1).2.length < l1.length := by rw [z2]; omega
   refine loop_next _ _ _ _ (stepJ b1 l1) ⟨?_, ?_, ⟨z1, hstep⟩, hms⟩
   ·clear hP hstep z1 z2 hms
    (repeat' simp (maxDischargeDepth := 9) -implicitDefEqProofs -dsimp only [go_sem, seval, *])
   ·clear hP hstep z1 z2 hms hs3
    (repeat' simp (maxDischargeDepth := 9) -implicitDefEqProofs -dsimp only [go_sem, seval, *])
  ·have h1 : ¬ (1 : Int) < l1.length := by omega
   have h3 : l1.length = 1 := by omega
   have hjo := joinB_one (b := b1) h3
   rw [hj] at hjo
   rw [hjo]
   have g0 := gi (l := l1) (n := 0) (by omega)
   obtain ⟨u, hu⟩ : ∃ u, l1.getD 0 0 = u := ⟨_, rfl⟩
   rw [hu] at g0
   simp only
   rw [hu]
   clear hJ1 hj hjo hJ hu
   repeat' (first | simp (maxDischargeDepth := 9) -implicitDefEqProofs -dsimp only [go_sem, seval, gt_iff_lt, *] | ((with_reducible refine Zu ?_ ?_); focus omega))
   refine fin_eq ?_
   (repeat' simp (maxDischargeDepth := 9) -implicitDefEqProofs -dsimp only [go_sem, seval, *])
end Go.Proofs.Ytapnlmhfacoceaa

namespace Go.Proofs.Ytapnlmhfacoceaa
open Abs Fil Fil.Rw
open Eqv (moveL)
theorem unflat_1 : ∀ cs : List AV, unflat false 1 cs.length cs = some cs
 | [] => rfl
 | c :: cs => by
  have ih := unflat_1 cs
  simp only [List.length_cons, unflat, mkv, List.take_succ_cons, List.take_zero, List.head?_cons, List.drop_succ_cons, List.drop_zero, ih]
  rfl
def mvAt (lits L : List Int) (k : Nat) : List Int := (L.take k).map (moveL lits) ++ L.drop k
theorem mvAt_len (lits L : List Int) {k : Nat} (h : k ≤ L.length) : (mvAt lits L k).length = L.length := by simp [mvAt]; omega
theorem mvAt_get (lits : List Int) {L : List Int} {k : Nat} (h : k < L.length) : (mvAt lits L k).getD k 0 = L[k] := by
 unfold mvAt
 simp only [List.getD_eq_getElem?_getD]
 rw [List.getElem?_append_right (by simp; omega)]
 simp [show min k L.length = k by omega, h]
theorem mvAt_set (lits : List Int) {L : List Int} {k : Nat} (h : k < L.length) : (mvAt lits L k).set k (moveL lits L[k]) = mvAt lits L (k + 1) := by
 unfold mvAt
 rw [List.set_append_right _ _ (by simp; omega), List.take_add_one, List.getElem?_eq_getElem h, List.map_append]
 simp only [Option.toList_some, List.map_cons, List.map_nil, List.length_map, List.length_take, show min k L.length = k by omega, Nat.sub_self, List.append_assoc, List.singleton_append]
 rw [List.drop_eq_getElem_cons h, List.set_cons_zero]
theorem mvAt_all (lits L : List Int) : mvAt lits L L.length = L.map (moveL lits) := by simp [mvAt]
theorem mvAt_zero (lits L : List Int) : mvAt lits L 0 = L := by simp [mvAt]
set_option maxRecDepth 20000 in
set_option maxHeartbeats 16000000 in
theorem rf_Balance (g : Aig) (σ : Sig) (hg : Sml g) : ACalls Try.prog 21 [encAig g] σ (fun r σ' => r = .ret (.tup [encAig (balance g), .int .i64 0]) ∧ σ' = σ) := by
 refine calls_x mixed Try.func21 b21 n21 rfl q21 (by simp) ?_; unfold c21 r21
 have ez : ((0 : Int) != 0) = false := by decide
 have hlo := hg.lo
 have h1 := hg.ins
 have h2 := hg.flops
 have h3 := hg.ands
 have h4 := hg.outs
 have hsm : Small g := check_small hg.wf hg.chk
 have hk := fun τ => A.ref_Check g τ hg.wf
 rw [hg.chk] at hk
 have hfst : g.first ≤ 200 ∧ 1 ≤ g.first := by simp only [Aig.first]; omega
 have hbe := fun τ => rf_begun g τ hg
 have hfc := fun τ => rf_first g τ hsm
 have hsa := fun τ => rf_same g τ hsm (by omega)
 have cf := count_first g
 obtain ⟨N, hN⟩ : ∃ N : Nat, 1 + g.count = (N : Int) := ⟨(1 + g.count).toNat, by omega⟩
 have hin := fun τ => rf_inner g N τ hg hN
 obtain ⟨g1, g2⟩ := bgn_none hg
 rw [← g2] at hbe
 repeat' (first | simp (maxDischargeDepth := 9) -implicitDefEqProofs -dsimp only [go_sem, seval, *] | ((with_reducible refine Zt (fun oF hoF hnF hnF' => ?_)); (try simp only [upd_none, ne_eq, not_and] at hoF)) | ((with_reducible apply ACalls.one1); (focus ((first | with_reducible refine hk _ | with_reducible refine hin _ | with_reducible refine hbe _) <;> (first | (simp (maxDischargeDepth := 9) -implicitDefEqProofs -dsimp only [go_sem, seval, *]; done) | omega))); (focus (first | trivial | with_reducible exact rfl | (simp (maxDischargeDepth := 9) -implicitDefEqProofs -dsimp only [go_sem, seval]; done)))))
 rename_i oR hR nR nR'
 obtain ⟨oH, eH⟩ : ∃ x, x = oF := ⟨oF, rfl⟩
 subst eH
 obtain ⟨c1, c2⟩ := hoF
 clear nR nR' hnF hnF' hk hbe hin
 repeat' (first | simp (maxDischargeDepth := 9) -implicitDefEqProofs -dsimp only [go_sem, seval, *] | ((with_reducible apply ACalls.newO); (focus ((with_reducible refine hsa _) <;> (first | (simp (maxDischargeDepth := 9) -implicitDefEqProofs -dsimp only [go_sem, seval, *]; done) | omega))); (intro oF hoF hnF hnF'); (try simp only [upd_none, ne_eq, not_and] at hoF)))
 obtain ⟨oM, eM⟩ : ∃ x, x = oF := ⟨oF, rfl⟩
 subst eM
 obtain ⟨b1, b2, b3⟩ := hoF
 have d1 : ¬ oR = oH := fun e => c1 e.symm
 have d2 : ¬ oR = oM := fun e => b2 e.symm
 have d3 : ¬ oH = oM := fun e => b1 e.symm
 clear hnF hnF' hsa
 refine loop_rule (fun i : Nat => [(8, some (.int .i64 i)), (1, some (.cptr (aigL g))), (5, some (.slice ((iRow g N N).map encBool) .no)), (7, some (ilist (balAt g i).lits (.own oM))), (6, some (.ptr oH 0)), (2, some (.ptr oR 0))])
  (fun i => upd (upd (upd σ oR (.cells [.int .i64 0, .slice [] .nil, .slice [] .nil, .slice [] .nil])) oH (.cells (aigL (balAt g i).g))) oM (.grow 1 (balAt g i).lits.length))
  (fun i => i ≤ g.ands.length) (fun i => g.ands.length - i) 0 ?_ ?_
 ·have e0 : (balAt g 0).g = (bgn g fun _ => none).g := rfl
  have e1 : (balAt g 0).lits = evL g.first.toNat := g1
  have e2 := evL_len g.first.toNat
  (repeat' simp (maxDischargeDepth := 9) -implicitDefEqProofs -dsimp only [go_sem, seval, e0, e1, e2, Int.natCast_zero, *]) <;> (first | omega | skip)
 ·intro i hi
  have J := bal_inv hg i hi
  have hc := J.cnt hg hi
  have l3 := J.len
  have l2 : ∀ x ∈ (balAt g i).lits, 0 ≤ x ∧ x ≤ 1000000 := fun x hx => lit_le hc (J.lits x hx)
  by_cases hlt : i < g.ands.length
  ·have hlt' : (i : Int) < g.ands.length := by omega
   obtain ⟨I, hI, hh, hget⟩ : ∃ I : List Bool, iRow g N N = I ∧ ∃ hh : (g.first + (i : Int)).toNat < I.length, I[(g.first + (i : Int)).toNat] = innM g (g.first + i) := by
    obtain ⟨hh, hget⟩ := iRow_get g (N := N) (n := (g.first + (i : Int)).toNat) (by omega)
    rw [show (((g.first + (i : Int)).toNat : Nat) : Int) = g.first + i by omega] at hget
    exact ⟨_, rfl, hh, hget⟩
   rw [hI]
   have hb0 : 0 ≤ g.first + (i : Int) ∧ g.first + (i : Int) ≤ 1000 := by omega
   have hL : (balAt g i).lits.length ≤ 1000 := by omega
   have hnx : balAt g (i + 1) = if innM g (g.first + i) then ⟨(balAt g i).g, (balAt g i).lits ++ [0], (balAt g i).lev⟩ else ⟨(joinB ((leavesOf g i).map (moveL (balAt g i).lits)).length (balAt g i) ((leavesOf g i).map (moveL (balAt g i).lits))).1.g, (balAt g i).lits ++ [(joinB ((leavesOf g i).map (moveL (balAt g i).lits)).length (balAt g i) ((leavesOf g i).map (moveL (balAt g i).lits))).2], (joinB ((leavesOf g i).map (moveL (balAt g i).lits)).length (balAt g i) ((leavesOf g i).map (moveL (balAt g i).lits))).1.lev⟩ := by
    conv => lhs; unfold balAt
   cases hn : innM g (g.first + i) with
   | true =>
    rw [hn, if_pos rfl] at hnx
    rw [hn] at hget
    obtain ⟨b, hbe⟩ : ∃ b, balAt g i = b := ⟨_, rfl⟩
    rw [hbe] at hnx hL ⊢
    clear hn hI J hc l3 l2 hbe g1 g2 hsm
    repeat' (first | simp (maxDischargeDepth := 9) -implicitDefEqProofs -dsimp only [go_sem, seval, *] | simp (disch := omega) only [wrap64] | ((with_reducible refine Zv ?_ ?_); focus (first | omega | exact rfl)) | ((with_reducible refine Zu ?_ ?_); focus omega) | ((with_reducible apply ACalls.one1); (focus ((with_reducible refine hfc _) <;> (first | (simp (maxDischargeDepth := 9) -implicitDefEqProofs -dsimp only [go_sem, seval, *]; done) | omega))); (focus (first | trivial | with_reducible exact rfl | (simp (maxDischargeDepth := 9) -implicitDefEqProofs -dsimp only [go_sem, seval]; done)))))
    refine loop_next _ _ _ _ (i + 1) ?_; (repeat' simp (maxDischargeDepth := 9) -implicitDefEqProofs -dsimp only [go_sem, seval,  ilist, List.map_append, List.map_cons, List.map_nil, List.length_append, List.length_cons, List.length_nil, *]) <;> (repeat' refine And.intro ?_ ?_) <;> (first | omega | skip)
   | false =>
    rw [hn, if_neg (by simp)] at hnx
    rw [hn] at hget
    have hJI := J.ji hg hlt hn
    obtain ⟨⟨q1, q2⟩, q3, q4⟩ := gate_bounds hg hlt
    have v0 := rf_leaves g N hg hN (g.ands[i].1 / 2).toNat g.ands[i].1 (Nat.le_refl _) q1 (by omega)
    have v1 := rf_leaves g N hg hN (g.ands[i].2 / 2).toNat g.ands[i].2 (Nat.le_refl _) q3 (by omega)
    have hll := leavesOf_len hg hlt hn
    have hlm := fun x hx => leavesOf_mem hg hlt (x := x) hx
    have hlof : leavesOf g i = leavesG g g.ands[i].1 ++ leavesG g g.ands[i].2 := by unfold leavesOf; rw [ands_getD hlt]
    have hmv := fun x hx τ => rf_moved (balAt g i).lits (.own oM) x τ (hlm x hx).1 (by have := hlm x hx; omega) l2 (by have := hlm x hx; omega)
    unfold LvOk at v0 v1
    rw [hI] at v0 v1
    obtain ⟨x0, hx0⟩ : ∃ x, g.ands[i].1 = x := ⟨_, rfl⟩
    obtain ⟨x1, hx1⟩ : ∃ x, g.ands[i].2 = x := ⟨_, rfl⟩
    rw [hx0] at v0 hlof
    rw [hx1] at v1 hlof
    obtain ⟨L0, hL0⟩ : ∃ L, leavesG g x0 = L := ⟨_, rfl⟩
    obtain ⟨L1, hL1⟩ : ∃ L, leavesG g x1 = L := ⟨_, rfl⟩
    rw [hL0] at v0 hlof
    rw [hL1] at v1 hlof
    rw [hlof] at hll hmv hJI hnx
    rw [List.length_append] at hll
    have w0 := fun τ => (v0 τ).1 (by omega)
    have w1 := fun τ o h => (v1 τ).2 o L0 L0.length rfl h (by omega)
    obtain ⟨M, hM⟩ : ∃ M, L0 ++ L1 = M := ⟨_, rfl⟩
    have hMl : L0.length + L1.length = M.length := by rw [← hM, List.length_append]
    rw [hM] at hmv hJI hnx w1
    rw [hMl] at w1 hll
    have hM2 : M.length ≤ 1000 := by omega
    have cJ := fun τ => rf_joined (balAt g i) (M.map (moveL (balAt g i).lits)) τ hJI
    obtain ⟨⟨b2, z⟩, hz⟩ : ∃ r, joinB (M.map (moveL (balAt g i).lits)).length (balAt g i) (M.map (moveL (balAt g i).lits)) = r := ⟨_, rfl⟩
    rw [hz] at cJ hnx
    simp only at cJ hnx
    obtain ⟨b, hbe⟩ : ∃ b, balAt g i = b := ⟨_, rfl⟩
    rw [hbe] at hnx hL hmv cJ ⊢
    have hlt2 := hlt'
    clear v0 v1 hlof hlm hJI hM hMl hz hL0 hL1 hn hI J hc l3 l2 hbe g1 g2 q1 q2 q3 q4 hsm
    repeat' (first | simp (maxDischargeDepth := 9) -implicitDefEqProofs -dsimp only [go_sem, seval, *] | simp (disch := omega) only [wrap64] | ((with_reducible refine Zu ?_ ?_); focus omega) | ((with_reducible apply ACalls.one1); (focus ((with_reducible refine hfc _) <;> (first | (simp (maxDischargeDepth := 9) -implicitDefEqProofs -dsimp only [go_sem, seval, *]; done) | omega))); (focus (first | trivial | with_reducible exact rfl | (simp (maxDischargeDepth := 9) -implicitDefEqProofs -dsimp only [go_sem, seval]; done)))))
    refine id_new (ren_vec _) (fun τ _ => w0 τ) ?_
    intro oN hoN hnN hnN'
    simp only [upd_none, ne_eq, not_and] at hoN
    obtain ⟨e1, e2, e3, e4⟩ := hoN
    have e5 : ¬ oR = oN := fun e => e3 e.symm
    have e6 : ¬ oH = oN := fun e => e2 e.symm
    have e7 : ¬ oM = oN := fun e => e1 e.symm
    clear hnN hnN' w0
    repeat' (first | simp (maxDischargeDepth := 9) -implicitDefEqProofs -dsimp only [go_sem, seval, *] | simp (disch := omega) only [wrap64] | ((with_reducible refine Zu ?_ ?_); focus omega) | ((with_reducible apply id_one1); (focus (intro tS hS; ((with_reducible refine w1 _ _ ?_) <;> (first | (simp (maxDischargeDepth := 9) -implicitDefEqProofs -dsimp only [go_sem, seval, *]; done) | omega | ((with_reducible refine Sub.get hS ?_); simp (maxDischargeDepth := 9) -implicitDefEqProofs -dsimp only [go_sem, seval, *]; done))))); (focus (first | trivial | (simp (maxDischargeDepth := 9) -implicitDefEqProofs -dsimp only [go_sem, seval, *]; done)))))
    refine loop_rule (fun k : Nat => [(10, some (.int .i64 k)), (9, some (.vec oN M.length)), (7, some (ilist b.lits (.own oM))), (6, some (.ptr oH 0)), (8, some (.int .i64 i)), (1, some (.cptr (aigL g))), (5, some (.slice (I.map encBool) .no)), (2, some (.ptr oR 0))])
     (fun k => upd (upd (upd (upd σ oR (.cells [.int .i64 0, .slice [] .nil, .slice [] .nil, .slice [] .nil])) oH (.cells (aigL b.g))) oM (.grow 1 b.lits.length)) oN (.vec 1 M.length ((mvAt b.lits M k).map encInt)))
     (fun k => k ≤ M.length) (fun k => M.length - k) 0 ?_ ?_
    ·have e0 := mvAt_zero b.lits M
     (repeat' simp (maxDischargeDepth := 9) -implicitDefEqProofs -dsimp only [go_sem, seval, e0, Int.natCast_zero, *]) <;> (first | omega | skip)
    ·intro k hk
     have hml := mvAt_len b.lits M hk
     clear w1
     by_cases hkl : k < M.length
     ·have hkl' : (k : Int) < M.length := by omega
      have hgt := mvAt_get b.lits hkl
      have hst := mvAt_set b.lits hkl
      have hm := hmv _ (List.getElem_mem hkl)
      have hp := put_int (mvAt b.lits M k) k (moveL b.lits M[k]) (by omega)
      have hhd := head_int (l := mvAt b.lits M k) (i := k) (by omega)
      rw [hst] at hp
      rw [hgt] at hhd
      obtain ⟨x, hx⟩ : ∃ x, M[k] = x := ⟨_, rfl⟩
      rw [hx] at hm hp hhd
      obtain ⟨u, hu⟩ : ∃ u, moveL b.lits x = u := ⟨_, rfl⟩
      rw [hu] at hm hp
      obtain ⟨R, hR⟩ : ∃ R, mvAt b.lits M k = R := ⟨_, rfl⟩
      rw [hR] at hp hhd hml ⊢
      clear hmv cJ hnx hgt hst hx hu hR hget hN hfc
      repeat' (first | simp (maxDischargeDepth := 9) -implicitDefEqProofs -dsimp only [go_sem, seval, *] | simp (disch := omega) only [wrap64] | ((with_reducible refine Zv ?_ ?_); focus (first | omega | exact rfl)) | ((with_reducible apply ACalls.one1); (focus ((with_reducible refine hm _) <;> (first | (simp (maxDischargeDepth := 9) -implicitDefEqProofs -dsimp only [go_sem, seval, *]; done) | omega))); (focus (first | trivial | with_reducible exact rfl | (simp (maxDischargeDepth := 9) -implicitDefEqProofs -dsimp only [go_sem, seval]; done)))))
      refine loop_next _ _ _ _ (k + 1) ?_; (repeat' simp (maxDischargeDepth := 9) -implicitDefEqProofs -dsimp only [go_sem, seval, *]) <;> (repeat' refine And.intro ?_ ?_) <;> (first | omega | skip)
     ·have hkl' : ¬ (k : Int) < M.length := by omega
      have ek : k = M.length := by omega
      subst ek
      rw [mvAt_all]
      have hun := unflat_1 ((M.map (moveL b.lits)).map encInt)
      rw [List.length_map, List.length_map] at hun
      obtain ⟨W, hW⟩ : ∃ W, M.map (moveL b.lits) = W := ⟨_, rfl⟩
      rw [hW] at hun cJ ⊢
      clear hmv hkl hk hml hW hget hN hfc
      repeat' (first | simp (maxDischargeDepth := 9) -implicitDefEqProofs -dsimp only [go_sem, seval, imp_self, true_implies, *] | simp (disch := omega) only [wrap64] | ((with_reducible refine Zv ?_ ?_); focus (first | omega | exact rfl)) | ((with_reducible refine Zt (fun oF hoF hnF hnF' => ?_)); (try simp only [upd_none, ne_eq, not_and] at hoF)) | ((with_reducible apply ACalls.one1); (focus ((with_reducible refine ACalls.flA (cJ _) ?_) <;> (first | (simp (maxDischargeDepth := 9) -implicitDefEqProofs -dsimp only [go_sem, seval, *]; done) | omega))); (focus (first | trivial | with_reducible exact rfl | (simp (maxDischargeDepth := 9) -implicitDefEqProofs -dsimp only [go_sem, seval]; done)))))
      refine loop_next _ _ _ _ (i + 1) ?_; (repeat' simp (maxDischargeDepth := 9) -implicitDefEqProofs -dsimp only [go_sem, seval,  ilist, List.map_append, List.map_cons, List.map_nil, List.length_append, List.length_cons, List.length_nil, *]) <;> (repeat' refine And.intro ?_ ?_) <;> (first | omega | skip)
  ·have hlt' : ¬ (i : Int) < g.ands.length := by omega
   have ei : i = g.ands.length := by omega
   subst ei
   have hnx : ∀ f ∈ g.flops, 0 ≤ f.next ∧ (f.next / 2).toNat < (balAt g g.ands.length).lits.length ∧ f.next ≤ 1000000 := fun f hf => by
    have := good_flops hg.good hf
    rw [l3]; omega
   have hol : ∀ a ∈ g.outs, 0 ≤ a ∧ (a / 2).toNat < (balAt g g.ands.length).lits.length ∧ a ≤ 1000000 := fun a ha => by
    have := good_outs hg.good ha
    rw [l3]; omega
   have hend := fun τ => rf_ended (balAt g g.ands.length).g g (balAt g g.ands.length).lits (.own oM) τ l2 hnx hol (by omega) (by omega)
   have e0 : endR (balAt g g.ands.length).g g (balAt g g.ands.length).lits = balance g := (endG_eq J.outs).symm
   rw [e0] at hend
   obtain ⟨b, hb⟩ : ∃ b, balAt g g.ands.length = b := ⟨_, rfl⟩
   rw [hb] at hend ⊢
   clear hnx hol l2 l3 hlt hi hsm J hc hb g1 g2 hN hfc
   repeat' (first | simp (maxDischargeDepth := 9) -implicitDefEqProofs -dsimp only [go_sem, seval, *] | ((with_reducible apply ACalls.one1); (focus ((with_reducible refine hend _) <;> (first | (simp (maxDischargeDepth := 9) -implicitDefEqProofs -dsimp only [go_sem, seval, *]; done) | omega))); (focus (first | trivial | with_reducible exact rfl | (simp (maxDischargeDepth := 9) -implicitDefEqProofs -dsimp only [go_sem, seval]; done)))))
   refine fin_eq ?_
   (repeat' simp (maxDischargeDepth := 9) -implicitDefEqProofs -dsimp only [go_sem, seval, *])
end Go.Proofs.Ytapnlmhfacoceaa

namespace Fil.Rw
open Abs
open Eqv (moveL)
def kpF (g : Aig) (so : List Bool) : Nat → List Flop
 | 0 => []
 | i + 1 => if so.getD i false then kpF g so i else kpF g so i ++ [g.flops.getD i ⟨0, false⟩]
theorem kpF_len (g : Aig) (so : List Bool) : ∀ i, (kpF g so i).length ≤ i
 | 0 => Nat.le_refl _
 | i + 1 => by
  have := kpF_len g so i
  unfold kpF
  split
  ·omega
  ·simp; omega
theorem kpF_bg (g : Aig) (so : List Bool) : ∀ i, (bgAt g (stl g so) i).2 = (kpF g so i).map fun f => ⟨0, f.init⟩
 | 0 => rfl
 | i + 1 => by
  have ih := kpF_bg g so i
  unfold bgAt kpF stl
  cases h : so.getD i false with
  | true => simp only [if_true]; exact ih
  | false =>
   simp only [Bool.false_eq_true, if_false]
   rw [List.map_append, show (bgAt g (fun i => if so.getD i false = true then some (initAt g i) else none) i).2 = _ from ih]; rfl
theorem kpF_nx (g : Aig) (so : List Bool) (lits : List Int) : ∀ i, nextsAt g (stl g so) lits i = (kpF g so i).map fun f => ⟨moveL lits f.next, f.init⟩
 | 0 => rfl
 | i + 1 => by
  have ih := kpF_nx g so lits i
  unfold nextsAt kpF stl
  cases h : so.getD i false with
  | true => simp only [if_true]; exact ih
  | false =>
   simp only [Bool.false_eq_true, if_false]
   rw [List.map_append, show nextsAt g (fun i => if so.getD i false = true then some (initAt g i) else none) lits i = _ from ih]; rfl
theorem kpF_mem {g : Aig} (so : List Bool) : ∀ i, i ≤ g.flops.length → ∀ f ∈ kpF g so i, f ∈ g.flops
 | 0, _, f, hf => by simp [kpF] at hf
 | i + 1, hi, f, hf => by
  have ih := kpF_mem (g := g) so i (by omega)
  unfold kpF at hf
  split at hf
  ·exact ih f hf
  ·rcases List.mem_append.1 hf with q | q
   ·exact ih f q
   ·rw [List.mem_singleton.1 q]
    have : g.flops.getD i ⟨0, false⟩ = g.flops[i] := by simp [List.getD_eq_getElem?_getD, show i < g.flops.length by omega]
    rw [this]; exact List.getElem_mem _
theorem still_end {g : Aig} {so : List Bool} {b : B} (ho : b.g.outs = []) : endB g (stl g so) b = endG b.g { g with flops := kpF g so g.flops.length } b.lits := by
 unfold endB endG
 rw [kpF_nx, ho]; rfl
end Fil.Rw

