/- rewr: RewrQuiet. -/
import Derived.Test.YtapnlmhfacoceaaQRwStill
set_option linter.unusedSimpArgs false
set_option linter.unusedVariables false
namespace Go.Proofs.Ytapnlmhfacoceaa
open Abs Fil Fil.Rw
open Eqv (moveL)
set_option maxRecDepth 20000 in
set_option maxHeartbeats 16000000 in
theorem rf_Still (g : Aig) (σ : Sig) (hg : Sml g) : ACalls Try.prog 23 [encAig g] σ (fun r σ' => r = .ret (.tup [encAig (still g), .int .i64 0]) ∧ σ' = σ) := by
 refine ACalls.virt (callable_of Try.func23 b23 n23) 1 (fun oV1 hoV1 hnV1 hnV1' => ?_); (try simp only [upd_none, ne_eq, not_and] at hoV1); refine ACalls.virt (callable_of Try.func23 b23 n23) 2 (fun oV2 hoV2 hnV2 hnV2' => ?_); (try simp only [upd_none, ne_eq, not_and] at hoV2); refine ACalls.virt (callable_of Try.func23 b23 n23) 1 (fun oV3 hoV3 hnV3 hnV3' => ?_); (try simp only [upd_none, ne_eq, not_and] at hoV3); refine calls_x mixed Try.func23 b23 n23 rfl q23 (by simp) ?_; unfold c23 r23
 have ez : ((0 : Int) != 0) = false := by decide
 have hlo := hg.lo
 have h1 := hg.ins
 have h2 := hg.flops
 have h3 := hg.ands
 have h4 := hg.outs
 have hk := fun τ => A.ref_Check g τ hg.wf
 rw [hg.chk] at hk
 have hfst : g.first ≤ 200 ∧ 1 ≤ g.first := by simp only [Aig.first]; omega
 have hQ := fun τ => rf_Quiet g τ hg
 have hql := quiet_len g
 have hst0 : still g = Rw.hashed g (stl g (quietG g)) := rfl
 rw [hst0]
 obtain ⟨so, hso⟩ : ∃ so, quietG g = so := ⟨_, rfl⟩
 rw [hso] at hQ hql
 rw [hso]
 have cf := count_first g
 clear hst0 hso
 repeat' (first | simp (maxDischargeDepth := 9) -implicitDefEqProofs -dsimp only [go_sem, seval, *] | ((with_reducible refine Zt (fun oF hoF hnF hnF' => ?_)); (try simp only [upd_none, ne_eq, not_and] at hoF)) | ((with_reducible apply ACalls.one1); (focus ((first | with_reducible refine hk _ | with_reducible refine hQ _) <;> (first | (simp (maxDischargeDepth := 9) -implicitDefEqProofs -dsimp only [go_sem, seval, *]; done) | omega))); (focus (first | trivial | with_reducible exact rfl | (simp (maxDischargeDepth := 9) -implicitDefEqProofs -dsimp only [go_sem, seval]; done)))))
 rename_i oR nR nR' hoR
 obtain ⟨oL, eL⟩ : ∃ x, x = oF := ⟨oF, rfl⟩
 subst eL
 obtain ⟨a1, a2⟩ := hoV2
 obtain ⟨b1, b2, b3⟩ := hoV3
 obtain ⟨c1, c2, c3, c4⟩ := hoR
 obtain ⟨d1, d2, d3, d4, d5⟩ := hoF
 have e1 : ¬ oV1 = oV2 := fun e => a1 e.symm
 have e2 : ¬ oV2 = oV3 := fun e => b1 e.symm
 have e3 : ¬ oV1 = oV3 := fun e => b2 e.symm
 have e4 : ¬ oV3 = oR := fun e => c1 e.symm
 have e5 : ¬ oV2 = oR := fun e => c2 e.symm
 have e6 : ¬ oV1 = oR := fun e => c3 e.symm
 have e7 : ¬ oR = oL := fun e => d1 e.symm
 have e8 : ¬ oV3 = oL := fun e => d2 e.symm
 have e9 : ¬ oV2 = oL := fun e => d3 e.symm
 have e10 : ¬ oV1 = oL := fun e => d4 e.symm
 clear nR nR' hnF hnF' hnV1 hnV1' hnV2 hnV2' hnV3 hnV3' hk hQ
 refine loop_rule (fun i : Nat => [(9, some (.int .i64 i)), (5, some (.slice (so.map encBool) .no)), (7, some (.slice (((kpF g so i).map (·.init)).map encBool) (.own oV1))), (1, some (.cptr (aigL g))), (8, some (.slice ((kpF g so i).map encFlop) (.own oV2))), (6, some (.ptr oL 0)), (2, some (.ptr oR 0))])
  (fun i => upd (upd (upd (upd (upd σ oV1 (.grow 1 (kpF g so i).length)) oV2 (.grow 2 (kpF g so i).length)) oV3 (.virt 1)) oR (.cells [.int .i64 0, .slice [] .nil, .slice [] .nil, .slice [] .nil])) oL (.cells (aigL g)))
  (fun i => i ≤ so.length) (fun i => so.length - i) 0 ?_ ?_
 ·have e0 : kpF g so 0 = [] := rfl
  (repeat' simp (maxDischargeDepth := 9) -implicitDefEqProofs -dsimp only [go_sem, seval, e0, List.map_nil, List.length_nil, Int.natCast_zero, *]) <;> (first | omega | skip)
 ·intro i hi
  have hkl := kpF_len g so i
  by_cases hlt : i < so.length
  ·have hlt' : (i : Int) < so.length := by omega
   have hlf : i < g.flops.length := by omega
   have hgd : g.flops.getD i ⟨0, false⟩ = g.flops[i] := by simp [List.getD_eq_getElem?_getD, hlf]
   have hnx : kpF g so (i + 1) = if so.getD i false then kpF g so i else kpF g so i ++ [g.flops[i]] := by rw [← hgd]; rfl
   have hge : so[i] = so.getD i false := by simp [List.getD_eq_getElem?_getD, hlt]
   obtain ⟨f, hf⟩ : ∃ f, g.flops[i] = f := ⟨_, rfl⟩
   rw [hf] at hnx
   obtain ⟨K, hK⟩ : ∃ K, kpF g so i = K := ⟨_, rfl⟩
   rw [hK] at hnx hkl ⊢
   have hk1 : K.length ≤ 1000 := by omega
   clear hK hgd hql
   cases hb : so.getD i false with
   | true =>
    rw [hb, if_pos rfl] at hnx
    rw [hb] at hge
    clear hb
    repeat' (first | simp (maxDischargeDepth := 9) -implicitDefEqProofs -dsimp only [go_sem, seval, *] | simp (disch := omega) only [wrap64] | ((with_reducible refine Zu ?_ ?_); focus omega))
    refine loop_next _ _ _ _ (i + 1) ?_; (repeat' simp (maxDischargeDepth := 9) -implicitDefEqProofs -dsimp only [go_sem, seval, *]) <;> (repeat' refine And.intro ?_ ?_) <;> (first | omega | skip)
   | false =>
    rw [hb, if_neg (by simp)] at hnx
    rw [hb] at hge
    clear hb
    repeat' (first | simp (maxDischargeDepth := 9) -implicitDefEqProofs -dsimp only [go_sem, seval, *] | simp (disch := omega) only [wrap64] | ((with_reducible refine Zv ?_ ?_); focus (first | omega | exact rfl)) | ((with_reducible refine Zu ?_ ?_); focus omega))
    refine loop_next _ _ _ _ (i + 1) ?_; (repeat' simp (maxDischargeDepth := 9) -implicitDefEqProofs -dsimp only [go_sem, seval,  List.map_append, List.map_cons, List.map_nil, List.length_append, List.length_cons, List.length_nil, *]) <;> (repeat' refine And.intro ?_ ?_) <;> (first | omega | skip)
  ·have hlt' : ¬ (i : Int) < so.length := by omega
   have ei : i = g.flops.length := by omega
   have hil : so.length = i := by omega
   have hbg := kpF_bg g so i
   have hkm := kpF_mem (g := g) so i (by omega)
   obtain ⟨K, hK⟩ : ∃ K, kpF g so i = K := ⟨_, rfl⟩
   rw [hK] at hkl hbg hkm ⊢
   have hk1 : K.length ≤ 1000 := by omega
   have cN := fun τ => A.ref_New g.ins (K.map (·.init)) τ hg.wf.ins (by simp; omega)
   have hN : Aig.New g.ins (K.map (·.init)) = (⟨g.ins, K.map fun f => ⟨0, f.init⟩, [], []⟩, 0) := by
    unfold Aig.New
    rw [if_neg (by omega), if_neg (by simp; omega), List.map_map]; rfl
   rw [hN] at cN
   simp only at cN
   have hb0 : (bgn g (stl g so)).g = ⟨g.ins, K.map fun f => ⟨0, f.init⟩, [], []⟩ := by
    unfold bgn
    rw [← ei, hbg]
   rw [← hb0] at cN
   have hfi : g.flops.length = i := ei.symm
   have hbl : (bgn g (stl g so)).lits = (bgAt g (stl g so) i).1 := by unfold bgn; rw [hfi]
   obtain ⟨G0, hG0⟩ : ∃ G, (bgn g (stl g so)).g = G := ⟨_, rfl⟩
   rw [hG0] at cN
   clear hb0
   have hii : ¬ (i : Int) < (i : Int) := by omega
   clear hN hlt hlt' ei hql hi
   repeat' (first | simp (maxDischargeDepth := 9) -implicitDefEqProofs -dsimp only [go_sem, seval, *] | ((with_reducible refine Zt (fun oF hoF hnF hnF' => ?_)); (try simp only [upd_none, ne_eq, not_and] at hoF)) | ((with_reducible apply ACalls.one1); (focus ((with_reducible refine ACalls.flA (cN _) ?_) <;> (first | (simp (maxDischargeDepth := 9) -implicitDefEqProofs -dsimp only [go_sem, seval, *]; done) | omega))); (focus (first | trivial | with_reducible exact rfl | (simp (maxDischargeDepth := 9) -implicitDefEqProofs -dsimp only [go_sem, seval]; done)))))
   obtain ⟨oH, eH⟩ : ∃ x, x = oF := ⟨oF, rfl⟩
   subst eH
   obtain ⟨p1, p2, p3, p4, p5, p6⟩ := hoF
   have q1 : ¬ oL = oH := fun e => p1 e.symm
   have q2 : ¬ oR = oH := fun e => p2 e.symm
   have q3 : ¬ oV3 = oH := fun e => p3 e.symm
   clear hnF hnF' cN
   obtain ⟨M, hM⟩ : ∃ M : Nat, (M : Int) = 1 + g.ins := ⟨(1 + g.ins).toNat, by omega⟩
   have hM1 : M ≤ 100 := by omega
   refine loop_rule (fun j : Nat => [(13, some (.int .i64 j)), (1, some (.cptr (aigL g))), (12, some (ilist (evL j) (.own oV3))), (5, some (.slice (so.map encBool) .no)), (10, some (.ptr oH 0)), (6, some (.ptr oL 0)), (2, some (.ptr oR 0))])
    (fun j => upd (upd (upd (upd σ oV3 (.grow 1 j)) oR (.cells [.int .i64 0, .slice [] .nil, .slice [] .nil, .slice [] .nil])) oL (.cells (aigL { g with flops := K }))) oH (.cells (aigL G0)))
    (fun j => j ≤ M) (fun j => M - j) 0 ?_ ?_
   ·have e0 : evL 0 = [] := rfl
    (repeat' simp (maxDischargeDepth := 9) -implicitDefEqProofs -dsimp only [go_sem, seval, e0, ilist, List.map_nil, Int.natCast_zero, *]) <;> (first | omega | skip)
   ·intro j hj
    have hl := evL_len j
    by_cases hlt : j < M
    ·have hlt' : (j : Int) ≤ g.ins := by omega
     have hs := evL_succ j
     clear hM
     repeat' (first | simp (maxDischargeDepth := 9) -implicitDefEqProofs -dsimp only [go_sem, seval, *] | simp (disch := omega) only [wrap64] | ((with_reducible refine Zv ?_ ?_); focus (first | omega | exact rfl)))
     refine loop_next _ _ _ _ (j + 1) ?_; (repeat' simp (maxDischargeDepth := 9) -implicitDefEqProofs -dsimp only [go_sem, seval,  ilist, *]) <;> (repeat' refine And.intro ?_ ?_) <;> (first | omega | skip)
    ·have hlt' : ¬ (j : Int) ≤ g.ins := by omega
     have ej : j = M := by omega
     subst ej
     have e0 : evL j = (bgAt g (stl g so) 0).1 := by
      show evL j = evens (1 + g.ins).toNat
      rw [← hM]; rfl
     have e0l : (bgAt g (stl g so) 0).1.length = j := by rw [← e0, hl]
     rw [e0]
     have hM2 : 1 + g.ins = (j : Int) := hM.symm
     clear hlt hj hl e0 hM
     repeat' (first | simp (maxDischargeDepth := 9) -implicitDefEqProofs -dsimp only [go_sem, seval, *] | simp (disch := omega) only [wrap64])
     refine loop_rule (fun q : Nat => [(15, some (.int .i64 q)), (5, some (.slice (so.map encBool) .no)), (12, some (ilist (bgAt g (stl g so) q).1 (.own oV3))), (1, some (.cptr (aigL g))), (14, some (.int .i64 ((j : Int) + (bgAt g (stl g so) q).2.length))), (10, some (.ptr oH 0)), (6, some (.ptr oL 0)), (2, some (.ptr oR 0))])
      (fun q => upd (upd (upd (upd σ oV3 (.grow 1 (bgAt g (stl g so) q).1.length)) oR (.cells [.int .i64 0, .slice [] .nil, .slice [] .nil, .slice [] .nil])) oL (.cells (aigL { g with flops := K }))) oH (.cells (aigL G0)))
      (fun q => q ≤ i) (fun q => i - q) 0 ?_ ?_
     ·have e0 : (bgAt g (stl g so) 0).2 = [] := rfl
      (repeat' simp (maxDischargeDepth := 9) -implicitDefEqProofs -dsimp only [go_sem, seval, e0, List.length_nil, Int.natCast_zero, Int.add_zero, *]) <;> (first | omega | skip)
     ·intro q hq
      obtain ⟨L1, L2⟩ := bg_length g (stl g so) q
      by_cases hqi : q < i
      ·have hqi' : (q : Int) < i := by omega
       have hqf : q < g.flops.length := by omega
       have hqs : q < so.length := by omega
       have hge : so[q] = so.getD q false := by simp [List.getD_eq_getElem?_getD, hqs]
       have hgd : g.flops.getD q ⟨0, false⟩ = g.flops[q] := by simp [List.getD_eq_getElem?_getD, hqf]
       have hia : initAt g q = g.flops[q].init := by unfold initAt; rw [hgd]
       have hbn : bgAt g (stl g so) (q + 1) = if so.getD q false then ((bgAt g (stl g so) q).1 ++ [bit (initAt g q)], (bgAt g (stl g so) q).2) else ((bgAt g (stl g so) q).1 ++ [2 * (g.ins + ((bgAt g (stl g so) q).2.length + 1 : Nat))], (bgAt g (stl g so) q).2 ++ [⟨0, (g.flops.getD q ⟨0, false⟩).init⟩]) := by
        conv => lhs; unfold bgAt
        unfold stl
        cases so.getD q false <;> rfl
       rw [hia, hgd] at hbn
       obtain ⟨f, hf⟩ : ∃ f, g.flops[q] = f := ⟨_, rfl⟩
       rw [hf] at hbn
       obtain ⟨⟨P, Q⟩, hPQ⟩ : ∃ r, bgAt g (stl g so) q = r := ⟨_, rfl⟩
       rw [hPQ] at hbn L1 L2 ⊢
       simp only at hbn L1 L2 ⊢
       have hP1 : P.length ≤ 1000 := by omega
       have hQ1 : Q.length ≤ 1000 := by omega
       have hzz : 2 * (g.ins + ((Q.length + 1 : Nat) : Int)) = 2 * ((j : Int) + Q.length) := by omega
       rw [hzz] at hbn
       have hj1 : (j : Int) ≤ 100 := by omega
       clear hPQ L1 L2 hgd hia hzz hM2
       cases hb : so.getD q false with
       | true =>
        rw [hb, if_pos rfl] at hbn
        rw [hb] at hge
        have cs : ∀ τ, ACalls Try.prog 58 [encFlop f, .bool true] τ (fun r s => r = .ret (.int .i64 (bit f.init)) ∧ s = τ) := fun τ => by
         have := rf_start f true τ
         have e : knI (if (true : Bool) = true then some f.init else none) = bit f.init := by cases f.init <;> rfl
         rw [e] at this
         exact this
        clear hb
        repeat' (first | simp (maxDischargeDepth := 9) -implicitDefEqProofs -dsimp only [go_sem, seval, *] | simp (disch := omega) only [wrap64] | ((with_reducible refine Zv ?_ ?_); focus (first | omega | exact rfl)) | ((with_reducible refine Zu ?_ ?_); focus omega) | ((with_reducible apply ACalls.one1); (focus ((with_reducible refine cs _) <;> (first | (simp (maxDischargeDepth := 9) -implicitDefEqProofs -dsimp only [go_sem, seval, *]; done) | omega))); (focus (first | trivial | with_reducible exact rfl | (simp (maxDischargeDepth := 9) -implicitDefEqProofs -dsimp only [go_sem, seval]; done)))))
        refine loop_next _ _ _ _ (q + 1) ?_; (repeat' simp (maxDischargeDepth := 9) -implicitDefEqProofs -dsimp only [go_sem, seval,  ilist, List.map_append, List.map_cons, List.map_nil, List.length_append, List.length_cons, List.length_nil, *]) <;> (repeat' refine And.intro ?_ ?_) <;> (first | omega | skip)
       | false =>
        rw [hb, if_neg (by simp)] at hbn
        rw [hb] at hge
        clear hb
        repeat' (first | simp (maxDischargeDepth := 9) -implicitDefEqProofs -dsimp only [go_sem, seval, *] | simp (disch := omega) only [wrap64] | ((with_reducible refine Zv ?_ ?_); focus (first | omega | exact rfl)) | ((with_reducible refine Zu ?_ ?_); focus omega))
        refine loop_next _ _ _ _ (q + 1) ?_; (repeat' simp (maxDischargeDepth := 9) -implicitDefEqProofs -dsimp only [go_sem, seval,  ilist, List.map_append, List.map_cons, List.map_nil, List.length_append, List.length_cons, List.length_nil, *]) <;> (repeat' refine And.intro ?_ ?_) <;> (first | omega | skip)
      ·have hqi' : ¬ (q : Int) < i := by omega
       have eq : q = i := by omega
       subst eq
       have g1 : (hashAt g (stl g so) 0).lits = (bgAt g (stl g so) q).1 := hbl
       have g2 : (hashAt g (stl g so) 0).g = G0 := hG0
       have hKl : ∀ f ∈ K, 0 ≤ f.next ∧ f.next < 2 * (1 + g.count) := fun f hf => good_flops hg.good (hkm f hf)
       rw [← g1, ← g2]
       have hKe : kpF g so g.flops.length = K := by rw [hfi]; exact hK
       clear hqi hq L1 L2 e0l hM2 hlt' hii hkl hkm hbg hK g1 g2 hbl hG0
       repeat' simp (maxDischargeDepth := 9) -implicitDefEqProofs -dsimp only [go_sem, seval, *]
       refine loop_rule (fun m : Nat => [(16, some (.int .i64 m)), (1, some (.cptr (aigL g))), (10, some (.ptr oH 0)), (12, some (ilist (hashAt g (stl g so) m).lits (.own oV3))), (6, some (.ptr oL 0)), (2, some (.ptr oR 0))])
        (fun m => upd (upd (upd (upd σ oV3 (.grow 1 (hashAt g (stl g so) m).lits.length)) oR (.cells [.int .i64 0, .slice [] .nil, .slice [] .nil, .slice [] .nil])) oL (.cells (aigL { g with flops := K }))) oH (.cells (aigL (hashAt g (stl g so) m).g)))
        (fun m => m ≤ g.ands.length) (fun m => g.ands.length - m) 0 ?_ ?_
       ·(repeat' simp (maxDischargeDepth := 9) -implicitDefEqProofs -dsimp only [go_sem, seval, Int.natCast_zero, *]) <;> (first | omega | skip)
       ·intro m hm
        have J := hash_inv hg (stl g so) m hm
        have hc := J.cnt hg hm
        have l3 := J.len
        have l2 : ∀ x ∈ (hashAt g (stl g so) m).lits, 0 ≤ x ∧ x ≤ 1000000 := fun x hx => lit_le hc (J.lits x hx)
        by_cases hlt : m < g.ands.length
        ·have hlt' : (m : Int) < g.ands.length := by omega
         obtain ⟨⟨q1, q2⟩, q3, q4⟩ := gate_bounds hg hlt
         have hgd := ands_getD hlt
         have x1 := move_lit J.lits q1 (by omega)
         have x2 := move_lit J.lits q3 (by omega)
         obtain ⟨k0, _, _, _, _, _⟩ := andB_ok J.toBd x1 x2 (by omega)
         have hnx : hashAt g (stl g so) (m + 1) = { (andB (hashAt g (stl g so) m) (moveL (hashAt g (stl g so) m).lits g.ands[m].1) (moveL (hashAt g (stl g so) m).lits g.ands[m].2)).1 with lits := (hashAt g (stl g so) m).lits ++ [(andB (hashAt g (stl g so) m) (moveL (hashAt g (stl g so) m).lits g.ands[m].1) (moveL (hashAt g (stl g so) m).lits g.ands[m].2)).2] } := by
          conv => lhs; unfold hashAt
          simp only [hgd]
         have m1 := fun τ => rf_moved (hashAt g (stl g so) m).lits (.own oV3) g.ands[m].1 τ q1 (by omega) l2 (by omega)
         have m2 := fun τ => rf_moved (hashAt g (stl g so) m).lits (.own oV3) g.ands[m].2 τ q3 (by omega) l2 (by omega)
         have cA2 := fun τ => A.ref_And (hashAt g (stl g so) m).g (moveL (hashAt g (stl g so) m).lits g.ands[m].1) (moveL (hashAt g (stl g so) m).lits g.ands[m].2) τ J.fine.toWf
         rw [k0] at cA2
         have n1 : (hashAt g (stl g so) (m + 1)).g = ((hashAt g (stl g so) m).g.And (moveL (hashAt g (stl g so) m).lits g.ands[m].1) (moveL (hashAt g (stl g so) m).lits g.ands[m].2)).1 := by rw [hnx]; rfl
         have n2 : (hashAt g (stl g so) (m + 1)).lits = (hashAt g (stl g so) m).lits ++ [((hashAt g (stl g so) m).g.And (moveL (hashAt g (stl g so) m).lits g.ands[m].1) (moveL (hashAt g (stl g so) m).lits g.ands[m].2)).2.1] := by rw [hnx]; rfl
         obtain ⟨u, hu⟩ : ∃ u, moveL (hashAt g (stl g so) m).lits g.ands[m].1 = u := ⟨_, rfl⟩
         obtain ⟨v, hv⟩ : ∃ u, moveL (hashAt g (stl g so) m).lits g.ands[m].2 = u := ⟨_, rfl⟩
         rw [hu] at m1 cA2 n1 n2
         rw [hv] at m2 cA2 n1 n2
         obtain ⟨x0, hx0⟩ : ∃ x, g.ands[m].1 = x := ⟨_, rfl⟩
         obtain ⟨y0, hy0⟩ : ∃ x, g.ands[m].2 = x := ⟨_, rfl⟩
         rw [hx0] at m1
         rw [hy0] at m2
         obtain ⟨b, hb⟩ : ∃ b, hashAt g (stl g so) m = b := ⟨_, rfl⟩
         rw [hb] at m1 m2 cA2 n1 n2 l3 ⊢
         have hL : b.lits.length ≤ 1000 := by omega
         obtain ⟨⟨k, x, e⟩, hr⟩ : ∃ r, b.g.And u v = r := ⟨_, rfl⟩
         rw [hr] at cA2 n1 n2
         simp only at cA2 n1 n2
         clear hnx x1 x2 k0 J l2 hc hu hv hb hr hgd q1 q2 q3 q4 hKl hKe
         repeat' (first | simp (maxDischargeDepth := 9) -implicitDefEqProofs -dsimp only [go_sem, seval, *] | simp (disch := omega) only [wrap64] | ((with_reducible refine Zv ?_ ?_); focus (first | omega | exact rfl)) | ((with_reducible refine Zu ?_ ?_); focus omega) | ((with_reducible refine Zt (fun oF hoF hnF hnF' => ?_)); (try simp only [upd_none, ne_eq, not_and] at hoF)) | ((with_reducible apply id_one0); (focus (intro tS hS; ((first | with_reducible refine m1 _ | with_reducible refine m2 _ | with_reducible refine cA2 _) <;> (first | (simp (maxDischargeDepth := 9) -implicitDefEqProofs -dsimp only [go_sem, seval, *]; done) | omega | ((with_reducible refine Sub.get hS ?_); simp (maxDischargeDepth := 9) -implicitDefEqProofs -dsimp only [go_sem, seval, *]; done))))); (focus (first | trivial | (simp (maxDischargeDepth := 9) -implicitDefEqProofs -dsimp only [go_sem, seval, *]; done)))))
         refine loop_next _ _ _ _ (m + 1) ?_; (repeat' simp (maxDischargeDepth := 9) -implicitDefEqProofs -dsimp only [go_sem, seval,  ilist, List.map_append, List.map_cons, List.map_nil, List.length_append, List.length_cons, List.length_nil, *]) <;> (repeat' refine And.intro ?_ ?_) <;> (first | omega | skip)
        ·have hlt' : ¬ (m : Int) < g.ands.length := by omega
         have em : m = g.ands.length := by omega
         subst em
         have hnx : ∀ f ∈ ({ g with flops := K } : Aig).flops, 0 ≤ f.next ∧ (f.next / 2).toNat < (hashAt g (stl g so) g.ands.length).lits.length ∧ f.next ≤ 1000000 := fun f hf => by
          have := hKl f hf
          rw [l3]; omega
         have hol : ∀ a ∈ ({ g with flops := K } : Aig).outs, 0 ≤ a ∧ (a / 2).toNat < (hashAt g (stl g so) g.ands.length).lits.length ∧ a ≤ 1000000 := fun a ha => by
          have := good_outs hg.good (show a ∈ g.outs from ha)
          rw [l3]; omega
         have hend := fun τ => rf_ended (hashAt g (stl g so) g.ands.length).g { g with flops := K } (hashAt g (stl g so) g.ands.length).lits (.own oV3) τ l2 hnx hol (by show K.length ≤ _; omega) (by show g.outs.length ≤ _; omega)
         have e0 : endR (hashAt g (stl g so) g.ands.length).g { g with flops := K } (hashAt g (stl g so) g.ands.length).lits = Rw.hashed g (stl g so) := by
          have := still_end (g := g) (so := so) (b := hashAt g (stl g so) g.ands.length) J.outs
          rw [hKe] at this
          exact this.symm
         rw [e0] at hend
         obtain ⟨b, hb⟩ : ∃ b, hashAt g (stl g so) g.ands.length = b := ⟨_, rfl⟩
         rw [hb] at hend ⊢
         clear hnx hol l2 l3 hlt hm J hc hb hKl hKe
         repeat' (first | simp (maxDischargeDepth := 9) -implicitDefEqProofs -dsimp only [go_sem, seval, *] | ((with_reducible apply ACalls.one1); (focus ((with_reducible refine hend _) <;> (first | (simp (maxDischargeDepth := 9) -implicitDefEqProofs -dsimp only [go_sem, seval, *]; done) | omega))); (focus (first | trivial | with_reducible exact rfl | (simp (maxDischargeDepth := 9) -implicitDefEqProofs -dsimp only [go_sem, seval]; done)))))
         refine fin_eq ?_
         (repeat' simp (maxDischargeDepth := 9) -implicitDefEqProofs -dsimp only [go_sem, seval, *])
theorem rf_Best (g : Aig) (σ : Sig) (hg : Sml g) : ACalls Try.prog 25 [encAig g] σ (fun r σ' => r = .ret (.tup [encAig (best g), .int .i64 0]) ∧ σ' = σ) := by
 refine calls_x mixed Try.func25 b25 n25 rfl q25 (by simp) ?_; unfold c25 r25
 have ez : ((0 : Int) != 0) = false := by decide
 have hk := fun τ => A.ref_Check g τ hg.wf
 rw [hg.chk] at hk
 have k1 := (hash_less hg fun _ => none).sml
 have k2 := (still_less k1).sml
 have k3 := (bal_less k2).sml
 have c1 := fun τ => rf_Hash g τ hg
 have c2 := fun τ => rf_Still _ τ k1
 have c3 := fun τ => rf_Balance _ τ k2
 have c4 := fun τ => rf_Sweep _ τ k3
 have e0 : sweep (balance (still (Rw.hashed g fun _ => none))) = best g := rfl
 rw [e0] at c4
 obtain ⟨a, ha⟩ : ∃ a, (Rw.hashed g fun _ => none) = a := ⟨_, rfl⟩
 rw [ha] at c1 c2 c3 c4
 obtain ⟨b, hb⟩ : ∃ b, still a = b := ⟨_, rfl⟩
 rw [hb] at c2 c3 c4
 obtain ⟨c, hc⟩ : ∃ c, balance b = c := ⟨_, rfl⟩
 rw [hc] at c3 c4
 clear hg k1 k2 k3 e0 ha hb hc
 repeat' (first | simp (maxDischargeDepth := 9) -implicitDefEqProofs -dsimp only [go_sem, seval, *] | ((with_reducible refine Zt (fun oF hoF hnF hnF' => ?_)); (try simp only [upd_none, ne_eq, not_and] at hoF)) | ((with_reducible apply ACalls.one1); (focus ((first | with_reducible refine hk _ | with_reducible refine c1 _ | with_reducible refine c2 _ | with_reducible refine c3 _ | with_reducible refine c4 _) <;> (first | (simp (maxDischargeDepth := 9) -implicitDefEqProofs -dsimp only [go_sem, seval, *]; done) | omega))); (focus (first | trivial | with_reducible exact rfl | (simp (maxDischargeDepth := 9) -implicitDefEqProofs -dsimp only [go_sem, seval]; done)))))
 refine fin_eq ?_
 (repeat' simp (maxDischargeDepth := 9) -implicitDefEqProofs -dsimp only [go_sem, seval, *])
theorem rf_Still_err (g : Aig) (e : Int) (σ : Sig) (hs : Wf g) (he : g.check = e) (h0 : e ≠ 0) : ACalls Try.prog 23 [encAig g] σ (fun r σ' => r = .ret (.tup [encAig ⟨0, [], [], []⟩, .int .i64 e]) ∧ σ' = σ) := by
 refine calls_x mixed Try.func23 b23 n23 rfl q23 (by simp) ?_; unfold c23 r23
 have hb : (e != 0) = true := by simpa using h0
 have hck := fun τ => A.ref_Check g τ hs
 rw [he] at hck
 repeat' (first | simp (maxDischargeDepth := 9) -implicitDefEqProofs -dsimp only [go_sem, seval, *] | ((with_reducible refine Zt (fun oF hoF hnF hnF' => ?_)); (try simp only [upd_none, ne_eq, not_and] at hoF)) | ((with_reducible apply ACalls.one1); (focus ((with_reducible refine hck _) <;> (first | (simp (maxDischargeDepth := 9) -implicitDefEqProofs -dsimp only [go_sem, seval, *]; done) | omega))); (focus (first | trivial | with_reducible exact rfl | (simp (maxDischargeDepth := 9) -implicitDefEqProofs -dsimp only [go_sem, seval]; done)))))
 refine fin_eq ?_
 (repeat' simp (maxDischargeDepth := 9) -implicitDefEqProofs -dsimp only [go_sem, seval, List.map_nil, *])
theorem rf_Best_err (g : Aig) (e : Int) (σ : Sig) (hs : Wf g) (he : g.check = e) (h0 : e ≠ 0) : ACalls Try.prog 25 [encAig g] σ (fun r σ' => r = .ret (.tup [encAig ⟨0, [], [], []⟩, .int .i64 e]) ∧ σ' = σ) := by
 refine calls_x mixed Try.func25 b25 n25 rfl q25 (by simp) ?_; unfold c25 r25
 have hb : (e != 0) = true := by simpa using h0
 have hck := fun τ => A.ref_Check g τ hs
 rw [he] at hck
 repeat' (first | simp (maxDischargeDepth := 9) -implicitDefEqProofs -dsimp only [go_sem, seval, *] | ((with_reducible refine Zt (fun oF hoF hnF hnF' => ?_)); (try simp only [upd_none, ne_eq, not_and] at hoF)) | ((with_reducible apply ACalls.one1); (focus ((with_reducible refine hck _) <;> (first | (simp (maxDischargeDepth := 9) -implicitDefEqProofs -dsimp only [go_sem, seval, *]; done) | omega))); (focus (first | trivial | with_reducible exact rfl | (simp (maxDischargeDepth := 9) -implicitDefEqProofs -dsimp only [go_sem, seval]; done)))))
 refine fin_eq ?_
 (repeat' simp (maxDischargeDepth := 9) -implicitDefEqProofs -dsimp only [go_sem, seval, List.map_nil, *])
end Go.Proofs.Ytapnlmhfacoceaa

namespace Go.Proofs.Ytapnlmhfacoceaa
open Abs Fil Fil.Rw
set_option maxRecDepth 20000 in
set_option maxHeartbeats 8000000 in
theorem rewrQuiet_ok (g : Aig) (σ : Sig) (hw : Wide g) : ACalls Try.prog 5 [encAig g] σ (fun r σ' => r = .ret (.bool true) ∧ σ' = σ) := by
 refine calls_x mixed Try.func5 b5 n5 rfl q5 (by simp) ?_; unfold c5 r5
 have hf := law_few g
 cases hfw : fewR g with
 | false =>
  rw [hfw] at hf
  clear hfw hw
  repeat' (first | simp (maxDischargeDepth := 9) -implicitDefEqProofs -dsimp only [go_sem, seval, *] | ((with_reducible apply ACalls.one1); (focus ((first | with_reducible refine law_live _ | with_reducible refine hf _) <;> (first | (simp (maxDischargeDepth := 9) -implicitDefEqProofs -dsimp only [go_sem, seval, *]; done) | omega))); (focus (first | trivial | with_reducible exact rfl | (simp (maxDischargeDepth := 9) -implicitDefEqProofs -dsimp only [go_sem, seval]; done)))))
  refine fin_eq ?_
  (repeat' simp (maxDischargeDepth := 9) -implicitDefEqProofs -dsimp only [go_sem, seval, *])
 | true =>
  rw [hfw] at hf
  obtain ⟨wf, hs⟩ := few_sml hw hfw
  have key : ∃ (a c : Aig) (e : Int), (∀ τ, ACalls Try.prog 22 [encAig g] τ (fun r σ' => r = .ret (.tup [encAig a, .int .i64 e]) ∧ σ' = τ)) ∧ (∀ τ, ACalls Try.prog 23 [encAig g] τ (fun r σ' => r = .ret (.tup [encAig a, .int .i64 e]) ∧ σ' = τ)) ∧
    (∀ τ, ACalls Try.prog 24 [encAig g] τ (fun r σ' => r = .ret (.tup [encAig c, .int .i64 e]) ∧ σ' = τ)) ∧ (∀ τ, ACalls Try.prog 25 [encAig g] τ (fun r σ' => r = .ret (.tup [encAig c, .int .i64 e]) ∧ σ' = τ)) ∧
    (a.flops.length ≤ 60 ∧ a.ands.length ≤ 200 ∧ a.outs.length ≤ 60) ∧ c.flops.length ≤ 60 ∧ c.ands.length ≤ 200 ∧ c.outs.length ≤ 60 := by
   by_cases hc : g.check = 0
   ·have hg := hs hc
    have s1 := (still_less hg).sml
    have s2 := (best_less hg).sml
    exact ⟨still g, best g, 0, fun τ => rw_Still g τ hg, fun τ => rf_Still g τ hg, fun τ => rw_Best g τ hg, fun τ => rf_Best g τ hg, ⟨s1.flops, s1.ands, s1.outs⟩, s2.flops, s2.ands, s2.outs⟩
   ·exact ⟨⟨0, [], [], []⟩, ⟨0, [], [], []⟩, g.check, fun τ => rw_Still_err g _ τ wf rfl hc, fun τ => rf_Still_err g _ τ wf rfl hc, fun τ => rw_Best_err g _ τ wf rfl hc, fun τ => rf_Best_err g _ τ wf rfl hc, by simp, by simp⟩
  obtain ⟨a, c, e, c1, c2, c3, c4, ⟨b1, b2, b3⟩, b4, b5, b6⟩ := key
  have q1 := fun τ => A.ref_Same a a τ (by omega) (by omega) (by omega)
  have q2 := fun τ => A.ref_Same c c τ (by omega) (by omega) (by omega)
  have ee : (e == e) = true := by simp
  clear hfw hw hs wf b1 b2 b3 b4 b5 b6
  repeat' (first | simp (maxDischargeDepth := 9) -implicitDefEqProofs -dsimp only [go_sem, seval, decide_true, *] | ((with_reducible refine Zt (fun oF hoF hnF hnF' => ?_)); clear hnF hnF'; (try simp only [Zw, ne_eq] at hoF)) | ((with_reducible apply ACalls.one1); (focus ((first | with_reducible refine law_live _ | with_reducible refine hf _ | with_reducible refine c1 _ | with_reducible refine c2 _ | with_reducible refine c3 _ | with_reducible refine c4 _ | with_reducible refine q1 _ | with_reducible refine q2 _) <;> (first | (simp (maxDischargeDepth := 9) -implicitDefEqProofs -dsimp only [go_sem, seval, *]; done) | omega))); (focus (first | trivial | with_reducible exact rfl | (simp (maxDischargeDepth := 9) -implicitDefEqProofs -dsimp only [go_sem, seval]; done)))))
  refine fin_eq ?_
  (repeat' simp (maxDischargeDepth := 9) -implicitDefEqProofs -dsimp only [go_sem, seval, *])
end Go.Proofs.Ytapnlmhfacoceaa

