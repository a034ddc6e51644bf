/- equiv: contract of the document's Same; EquivTells. -/
import Derived.Test.YtjichkelfhcbcaaGreatEqzEqvN
set_option linter.unusedSimpArgs false
set_option linter.unusedVariables false
namespace Go.Proofs.YtjichkelfhcbcaaGreat
open Abs Fil Fil.Eqv
open Bd (D encB encF)
set_option maxRecDepth 20000 in
set_option maxHeartbeats 4000000 in
theorem ref_Forks (g : Aig) (hg : Ok g) (σ : Sig) :
    ACalls Tryz.prog 14 [encAig g] σ (fun r σ' => r = .ret (.tup [encB (forksS g).1.1 (forksS g).1.2, .slice ((forksS g).2.map encInt) .no, .int .i64 0]) ∧ σ' = σ) := by
  refine calls_x mixed Tryz.func14 b14 n14 rfl q14 (by simp) ?_; unfold c14 r14
  have ez : ((0 : Int) != 0) = false := by decide
  have hlo := hg.lo
  have h8 := hg.eight
  have hck := hg.check
  have hwf := hg.wf
  obtain ⟨n, hn⟩ : ∃ n : Nat, (n : Int) = g.ins + g.flops.length := ⟨(g.ins + g.flops.length).toNat, by omega⟩
  have hn8 : n ≤ 8 := by omega
  have hnn : g.ins + g.flops.length = (n : Int) := hn.symm
  have hnew := fun τ => B.ref_New (n : Int) τ
  rw [ref_new_ok hn8] at hnew
  have hand : g.ands.length ≤ 300 := hg.ands
  clear hn
  repeat' (first | simp (maxDischargeDepth := 9) -implicitDefEqProofs -dsimp only [go_sem, seval, *] | simp (disch := omega) only [wrap64] | ((with_reducible refine Zv ?_ ?_); focus (first | omega | exact rfl)) | ((with_reducible refine Zu ?_ ?_); focus omega) | ((with_reducible refine Zt (fun oF hoF hnF hnF' => ?_)); clear hnF hnF'; (try simp only [Zw, ne_eq] at hoF)) | ((with_reducible apply ACalls.one1); (focus ((first | with_reducible refine A.ref_Check g _ hwf | with_reducible refine hnew _ | with_reducible refine ACalls.flA (A.ref_Check g _ hwf) ?_ | with_reducible refine ACalls.flA (hnew _) ?_) <;> (first | (simp (maxDischargeDepth := 9) -implicitDefEqProofs -dsimp only [go_sem, seval, *]; done) | omega))); (focus (first | trivial | with_reducible exact rfl | (simp (maxDischargeDepth := 9) -implicitDefEqProofs -dsimp only [go_sem, seval]; done)))))
  rename_i o2 h2 o7 h7 oM hM
  obtain ⟨oN, eN⟩ : ∃ x, x = oF := ⟨oF, rfl⟩
  subst eN
  obtain ⟨l0, l1⟩ := vars_len hn8 (Nat.zero_le n)
  refine loop_rule (fun i : Nat => [(11, some (.int .i64 i)), (6, some (.int .i64 n)), (10, some (.slice ((stVars n i).2.map encInt) (.own oN))), (9, some (.ptr oM 0)), (1, some (.cptr (aigL g))), (2, some (.ptr o2 0))])
    (fun i => upd (upd (upd (upd σ o2 (.cells [.int .i64 0, .slice [] .nil])) o7 (.cells [.int .i64 (newB n).1, .slice ((newB n).2.map encF) .no])) oM (madC (stVars n i).1)) oN (.grow 1 (i + 1))) (fun i => i ≤ n) (fun i => n - i) 0 ?_ ?_
  · have e1 : (stVars n 0).1 = newB n := rfl
    have e2 : (stVars n 0).2 = [0] := rfl
    (repeat' (first | simp (maxDischargeDepth := 9) -implicitDefEqProofs -dsimp only [go_sem, seval, e1, e2, List.map_cons, List.map_nil, *] | simp (disch := omega) only [wrap64])) <;> (repeat' refine And.intro ?_ ?_) <;> (first | omega | rfl | assumption | skip)
  · intro i hi
    by_cases hlt : i < n
    · have hlt' : (i : Int) < n := by omega
      obtain ⟨x, k1, k2, k3⟩ := var_step hn8 hlt
      obtain ⟨k4, k5⟩ := vars_len hn8 hi
      obtain ⟨k3l, k3r, k3f⟩ := k3
      obtain ⟨⟨b, ns⟩, hb⟩ : ∃ s, stVars n i = s := ⟨_, rfl⟩
      obtain ⟨⟨c, ms⟩, hc⟩ : ∃ s, stVars n (i + 1) = s := ⟨_, rfl⟩
      rw [hb] at k1 k2 k3l k3r k3f k4 k5 ⊢
      rw [hc] at k1 k2
      simp only at k1 k2 k3l k3r k3f k4 k5
      subst k2
      have hns : ns.length ≤ 9 := by omega
      repeat' (first | simp (maxDischargeDepth := 9) -implicitDefEqProofs -dsimp only [go_sem, seval, *] | simp (disch := omega) only [wrap64] | ((with_reducible refine Zv ?_ ?_); focus (first | omega | exact rfl)) | ((with_reducible refine Zu ?_ ?_); focus omega) | ((with_reducible refine Zt (fun oF hoF hnF hnF' => ?_)); clear hnF hnF'; (try simp only [Zw, ne_eq] at hoF)) | ((with_reducible apply ACalls.one1); (focus ((first | with_reducible refine ref_variable oM b c i x _ ?_ k3l k1 | with_reducible refine ACalls.flA (ref_variable oM b c i x _ ?_ k3l k1) ?_) <;> (first | (simp (maxDischargeDepth := 9) -implicitDefEqProofs -dsimp only [go_sem, seval, *]; done) | omega))); (focus (first | trivial | with_reducible exact rfl | (simp (maxDischargeDepth := 9) -implicitDefEqProofs -dsimp only [go_sem, seval]; done)))))
      refine loop_next _ _ _ _ (i + 1) ?_; (repeat' (first | simp (maxDischargeDepth := 9) -implicitDefEqProofs -dsimp only [go_sem, seval,  List.map_append, List.map_cons, List.map_nil, *] | simp (disch := omega) only [wrap64])) <;> (repeat' refine And.intro ?_ ?_) <;> (first | omega | rfl | assumption | skip)
    · have e : i = n := by omega
      subst e
      have hlt' : ¬ (i : Int) < i := by omega
      clear hlt hi l0 l1 hnew
      have z0 : stAt g i 0 = stVars i i := by simp [stAt]
      rw [← z0]
      repeat' (first | simp (maxDischargeDepth := 9) -implicitDefEqProofs -dsimp only [go_sem, seval, *] | simp (disch := omega) only [wrap64] | ((with_reducible refine Zv ?_ ?_); focus (first | omega | exact rfl)) | ((with_reducible refine Zu ?_ ?_); focus omega) | ((with_reducible refine Zt (fun oF hoF hnF hnF' => ?_)); clear hnF hnF'; (try simp only [Zw, ne_eq] at hoF)))
      refine loop_rule (fun j : Nat => [(12, some (.int .i64 j)), (1, some (.cptr (aigL g))), (10, some (.slice ((stAt g i j).2.map encInt) (.own oN))), (9, some (.ptr oM 0)), (2, some (.ptr o2 0))])
        (fun j => upd (upd (upd (upd σ o2 (.cells [.int .i64 0, .slice [] .nil])) o7 (.cells [.int .i64 (newB i).1, .slice ((newB i).2.map encF) .no])) oM (madC (stAt g i j).1)) oN (.grow 1 (i + 1 + j))) (fun j => j ≤ g.ands.length) (fun j => g.ands.length - j) 0 ?_ ?_
      · (repeat' (first | simp (maxDischargeDepth := 9) -implicitDefEqProofs -dsimp only [go_sem, seval, *] | simp (disch := omega) only [wrap64])) <;> (repeat' refine And.intro ?_ ?_) <;> (first | omega | rfl | assumption | skip)
      · intro j hj
        by_cases hlt : j < g.ands.length
        · have hlj : (j : Int) < g.ands.length := by omega
          obtain ⟨p, q, y, b1, b2, a1, a2, a3, a4, a5, a6, a7, a8, a9⟩ := and_step hg hnn.symm hlt
          have hl2 := (stAt_rep hg hnn.symm (w := List.replicate i false) zeros hj).2
          obtain ⟨⟨b, ns⟩, hb⟩ : ∃ s, stAt g i j = s := ⟨_, rfl⟩
          obtain ⟨⟨c, ms⟩, hc⟩ : ∃ s, stAt g i (j + 1) = s := ⟨_, rfl⟩
          rw [hb] at a1 a2 a3 a4 a6 hl2 ⊢
          rw [hc] at a5 a6
          simp only at a1 a2 a3 a4 a5 a6 hl2
          subst a6
          obtain ⟨u1, u2, u3, u4, u5⟩ := a1
          obtain ⟨v1, v2, v3, v4, v5⟩ := a3
          rw [a2] at u4
          rw [a4] at v4
          have cl1 := fun τ h => ref_lit oM b ns g.ands[j].1 τ h u1 u2 u3 u5.len (by rw [a2]; exact u4)
          have cl2 := fun τ h => ref_lit oM b1 ns g.ands[j].2 τ h v1 v2 v3 v5.len (by rw [a4]; exact v4)
          rw [a2] at cl1
          rw [a4] at cl2
          simp only at cl1 cl2
          have a7l := a7.len
          clear hb u1 u2 u3 u4 u5 v1 v2 v3 v4 v5 a2 a4 hj z0
          have hns : ns.length ≤ 400 := by omega
          repeat' (first | simp (maxDischargeDepth := 9) -implicitDefEqProofs -dsimp only [go_sem, seval, List.getElem_map, List.length_map, *] | simp (disch := omega) only [wrap64] | ((with_reducible refine Zv ?_ ?_); focus (first | omega | exact rfl)) | ((with_reducible refine Zu ?_ ?_); focus omega) | ((with_reducible refine Zt (fun oF hoF hnF hnF' => ?_)); clear hnF hnF'; (try simp only [Zw, ne_eq] at hoF)) | ((with_reducible apply ACalls.one1); (focus ((first | with_reducible refine cl1 _ ?_ | with_reducible refine ACalls.flA (cl1 _ ?_) ?_) <;> (first | (simp (maxDischargeDepth := 9) -implicitDefEqProofs -dsimp only [go_sem, seval, *]; done) | omega))); (focus (first | trivial | with_reducible exact rfl | (simp (maxDischargeDepth := 9) -implicitDefEqProofs -dsimp only [go_sem, seval]; done)))))
          repeat' (first | simp (maxDischargeDepth := 9) -implicitDefEqProofs -dsimp only [go_sem, seval, List.getElem_map, List.length_map, *] | simp (disch := omega) only [wrap64] | ((with_reducible refine Zv ?_ ?_); focus (first | omega | exact rfl)) | ((with_reducible refine Zu ?_ ?_); focus omega) | ((with_reducible refine Zt (fun oF hoF hnF hnF' => ?_)); clear hnF hnF'; (try simp only [Zw, ne_eq] at hoF)) | ((with_reducible apply ACalls.one1); (focus ((first | with_reducible refine cl2 _ ?_ | with_reducible refine ref_and oM b2 c p q y _ ?_ a7l a5 | with_reducible refine ACalls.flA (cl2 _ ?_) ?_ | with_reducible refine ACalls.flA (ref_and oM b2 c p q y _ ?_ a7l a5) ?_) <;> (first | (simp (maxDischargeDepth := 9) -implicitDefEqProofs -dsimp only [go_sem, seval, *]; done) | omega))); (focus (first | trivial | with_reducible exact rfl | (simp (maxDischargeDepth := 9) -implicitDefEqProofs -dsimp only [go_sem, seval]; done)))))
          refine loop_next _ _ _ _ (j + 1) ?_; (repeat' (first | simp (maxDischargeDepth := 9) -implicitDefEqProofs -dsimp only [go_sem, seval,  List.map_append, List.map_cons, List.map_nil, *] | simp (disch := omega) only [wrap64])) <;> (repeat' refine And.intro ?_ ?_) <;> (first | omega | rfl | assumption | skip)
        · have e : j = g.ands.length := by omega
          have hlj : ¬ (g.ands.length : Int) < g.ands.length := by omega
          have hbd := body_at hnn.symm
          rw [e, ← hbd]
          have hfl := hwf.flops
          have hol := hwf.outs
          have hgo := hg.outs
          have hbl : (bodyS g).2.length ≤ 1000 := by
            have := (stAt_rep hg hnn.symm (w := List.replicate i false) zeros (Nat.le_refl g.ands.length)).2
            rw [← hbd] at this; omega
          clear hlt hj z0 hbd e
          repeat' (first | simp (maxDischargeDepth := 9) -implicitDefEqProofs -dsimp only [go_sem, seval, *] | simp (disch := omega) only [wrap64] | ((with_reducible refine Zv ?_ ?_); focus (first | omega | exact rfl)) | ((with_reducible refine Zu ?_ ?_); focus omega) | ((with_reducible refine Zt (fun oF hoF hnF hnF' => ?_)); clear hnF hnF'; (try simp only [Zw, ne_eq] at hoF)))
          obtain ⟨oQ, eQ⟩ : ∃ x, x = oF := ⟨oF, rfl⟩
          subst eQ
          have hstep : ∀ k (hk : k < (lits g).length), ∃ x, (∀ τ, τ oM = some (madC (outAt g k).1) → ACalls Tryz.prog 44 [.ptr oM 0, .slice ((bodyS g).2.map encInt) .no, .int .i64 (lits g)[k]] τ (fun r σ' => r = .ret (.int .i64 x) ∧ σ' = upd τ oM (madC (outAt g (k + 1)).1))) ∧ (outAt g (k + 1)).2 = (outAt g k).2 ++ [x] ∧ (outAt g k).2.length = k := fun k hk => by
            obtain ⟨⟨u1, u2, u3, u4, u5⟩, _, _⟩ := out_step hg hnn.symm (i := k) hk
            have e := out_next hk
            refine ⟨(litM (outAt g k).1 (bodyS g).2 (lits g)[k]).2, fun τ hτ => ?_, by rw [e], out_two (Nat.le_of_lt hk)⟩
            have := ref_lit oM (outAt g k).1 (bodyS g).2 (lits g)[k] τ hτ u1 u2 u3 u5.len u4
            rw [e]
            exact this
          have hll := lits_len g
          have ho0 : outAt g 0 = ((bodyS g).1, []) := rfl
          have hoe := out_all g
          rw [hll] at hoe
          have hl0 := out_two (g := g) (i := g.outs.length) (by omega)
          refine loop_rule (fun k : Nat => [(16, some (.int .i64 k)), (1, some (.cptr (aigL g))), (15, some (.slice ((outAt g k).2.map encInt) (.own oQ))), (10, some (.slice ((bodyS g).2.map encInt) (.own oN))), (9, some (.ptr oM 0)), (2, some (.ptr o2 0))])
            (fun k => upd (upd (upd (upd (upd σ o2 (.cells [.int .i64 0, .slice [] .nil])) o7 (.cells [.int .i64 (newB i).1, .slice ((newB i).2.map encF) .no])) oM (madC (outAt g k).1)) oN (.grow 1 (i + 1 + g.ands.length))) oQ (.grow 1 k)) (fun k => k ≤ g.outs.length) (fun k => g.outs.length - k) 0 ?_ ?_
          · clear hstep hoe hl0
            (repeat' (first | simp (maxDischargeDepth := 9) -implicitDefEqProofs -dsimp only [go_sem, seval, ho0, List.map_nil, *] | simp (disch := omega) only [wrap64])) <;> (repeat' refine And.intro ?_ ?_) <;> (first | omega | rfl | assumption | skip)
          · intro k hk
            by_cases hkl : k < g.outs.length
            · have hkl' : (k : Int) < g.outs.length := by omega
              obtain ⟨hk2, hk3⟩ := lits_outs hkl
              obtain ⟨x, c1, c2, c3⟩ := hstep k hk2
              rw [hk3] at c1
              obtain ⟨⟨b, ns⟩, hb⟩ : ∃ s, outAt g k = s := ⟨_, rfl⟩
              obtain ⟨⟨c, ms⟩, hc⟩ : ∃ s, outAt g (k + 1) = s := ⟨_, rfl⟩
              rw [hb] at c1 c2 c3 ⊢
              rw [hc] at c1 c2
              simp only at c1 c2 c3
              subst c2
              have hns : ns.length ≤ 20 := by omega
              clear hstep hoe ho0 hl0 hb hk3
              repeat' (first | simp (maxDischargeDepth := 9) -implicitDefEqProofs -dsimp only [go_sem, seval, List.getElem_map, List.length_map, *] | simp (disch := omega) only [wrap64] | ((with_reducible refine Zv ?_ ?_); focus (first | omega | exact rfl)) | ((with_reducible refine Zu ?_ ?_); focus omega) | ((with_reducible refine Zt (fun oF hoF hnF hnF' => ?_)); clear hnF hnF'; (try simp only [Zw, ne_eq] at hoF)) | ((with_reducible apply ACalls.one1); (focus ((first | with_reducible refine c1 _ ?_ | with_reducible refine ACalls.flA (c1 _ ?_) ?_) <;> (first | (simp (maxDischargeDepth := 9) -implicitDefEqProofs -dsimp only [go_sem, seval, *]; done) | omega))); (focus (first | trivial | with_reducible exact rfl | (simp (maxDischargeDepth := 9) -implicitDefEqProofs -dsimp only [go_sem, seval]; done)))))
              refine loop_next _ _ _ _ (k + 1) ?_; (repeat' (first | simp (maxDischargeDepth := 9) -implicitDefEqProofs -dsimp only [go_sem, seval,  List.map_append, List.map_cons, List.map_nil, *] | simp (disch := omega) only [wrap64])) <;> (repeat' refine And.intro ?_ ?_) <;> (first | omega | rfl | assumption | skip)
            · have e : k = g.outs.length := by omega
              subst e
              have hkl' : ¬ (g.outs.length : Int) < g.outs.length := by omega
              clear hkl hk ho0
              repeat' (first | simp (maxDischargeDepth := 9) -implicitDefEqProofs -dsimp only [go_sem, seval, *] | simp (disch := omega) only [wrap64] | ((with_reducible refine Zv ?_ ?_); focus (first | omega | exact rfl)) | ((with_reducible refine Zu ?_ ?_); focus omega) | ((with_reducible refine Zt (fun oF hoF hnF hnF' => ?_)); clear hnF hnF'; (try simp only [Zw, ne_eq] at hoF)))
              refine loop_rule (fun m : Nat => [(17, some (.int .i64 m)), (1, some (.cptr (aigL g))), (15, some (.slice ((outAt g (g.outs.length + m)).2.map encInt) (.own oQ))), (10, some (.slice ((bodyS g).2.map encInt) (.own oN))), (9, some (.ptr oM 0)), (2, some (.ptr o2 0))])
                (fun m => upd (upd (upd (upd (upd σ o2 (.cells [.int .i64 0, .slice [] .nil])) o7 (.cells [.int .i64 (newB i).1, .slice ((newB i).2.map encF) .no])) oM (madC (outAt g (g.outs.length + m)).1)) oN (.grow 1 (i + 1 + g.ands.length))) oQ (.grow 1 (g.outs.length + m))) (fun m => m ≤ g.flops.length) (fun m => g.flops.length - m) 0 ?_ ?_
              · clear hstep hoe
                (repeat' (first | simp (maxDischargeDepth := 9) -implicitDefEqProofs -dsimp only [go_sem, seval, Nat.add_zero, *] | simp (disch := omega) only [wrap64])) <;> (repeat' refine And.intro ?_ ?_) <;> (first | omega | rfl | assumption | skip)
              · intro m hm
                by_cases hml : m < g.flops.length
                · have hml' : (m : Int) < g.flops.length := by omega
                  obtain ⟨hm2, hm3⟩ := lits_next hml
                  obtain ⟨x, c1, c2, c3⟩ := hstep _ hm2
                  rw [hm3] at c1
                  obtain ⟨⟨b, ns⟩, hb⟩ : ∃ s, outAt g (g.outs.length + m) = s := ⟨_, rfl⟩
                  obtain ⟨⟨c, ms⟩, hc⟩ : ∃ s, outAt g (g.outs.length + m + 1) = s := ⟨_, rfl⟩
                  have hc' : outAt g (g.outs.length + (m + 1)) = (c, ms) := hc
                  rw [hb] at c1 c2 c3 ⊢
                  rw [hc] at c1 c2
                  simp only at c1 c2 c3
                  subst c2
                  have hns : ns.length ≤ 40 := by omega
                  clear hstep hoe hl0 hb hm3 hc
                  repeat' (first | simp (maxDischargeDepth := 9) -implicitDefEqProofs -dsimp only [go_sem, seval, List.getElem_map, List.length_map, *] | simp (disch := omega) only [wrap64] | ((with_reducible refine Zv ?_ ?_); focus (first | omega | exact rfl)) | ((with_reducible refine Zu ?_ ?_); focus omega) | ((with_reducible refine Zt (fun oF hoF hnF hnF' => ?_)); clear hnF hnF'; (try simp only [Zw, ne_eq] at hoF)) | ((with_reducible apply ACalls.one1); (focus ((first | with_reducible refine c1 _ ?_ | with_reducible refine ACalls.flA (c1 _ ?_) ?_) <;> (first | (simp (maxDischargeDepth := 9) -implicitDefEqProofs -dsimp only [go_sem, seval, *]; done) | omega))); (focus (first | trivial | with_reducible exact rfl | (simp (maxDischargeDepth := 9) -implicitDefEqProofs -dsimp only [go_sem, seval]; done)))))
                  refine loop_next _ _ _ _ (m + 1) ?_; (repeat' (first | simp (maxDischargeDepth := 9) -implicitDefEqProofs -dsimp only [go_sem, seval,  List.map_append, List.map_cons, List.map_nil, *] | simp (disch := omega) only [wrap64])) <;> (repeat' refine And.intro ?_ ?_) <;> (first | omega | rfl | assumption | skip)
                · have e : m = g.flops.length := by omega
                  subst e
                  have hml' : ¬ (g.flops.length : Int) < g.flops.length := by omega
                  clear hstep hml hm hl0
                  rw [hoe]
                  repeat' (first | simp (maxDischargeDepth := 9) -implicitDefEqProofs -dsimp only [go_sem, seval, *] | simp (disch := omega) only [wrap64] | ((with_reducible refine Zv ?_ ?_); focus (first | omega | exact rfl)) | ((with_reducible refine Zu ?_ ?_); focus omega) | ((with_reducible refine Zt (fun oF hoF hnF hnF' => ?_)); clear hnF hnF'; (try simp only [Zw, ne_eq] at hoF)))
                  refine fin_eq ?_
                  (repeat' (first | simp (maxDischargeDepth := 9) -implicitDefEqProofs -dsimp only [go_sem, seval, *] | simp (disch := omega) only [wrap64])) <;> (repeat' refine And.intro ?_ ?_) <;> (first | omega | rfl | assumption | skip)
end Go.Proofs.YtjichkelfhcbcaaGreat

namespace Go.Proofs.YtjichkelfhcbcaaGreat
open Abs Fil Fil.Eqv
theorem ref_checks (g h : Aig) (σ : Sig) (hg : Wf g) (hh : Wf h) : ACalls Tryz.prog 37 [encAig g, encAig h] σ (fun r σ' => r = .ret (.int .i64 (chk2 g h)) ∧ σ' = σ) := by
  refine calls_x mixed Tryz.func37 b37 n37 rfl q37 (by simp) ?_; unfold c37 r37
  have ez : ((0 : Int) != 0) = false := by decide
  by_cases hc : g.check = 0
  · have e : chk2 g h = h.check := by unfold chk2; rw [if_neg (by simp [hc])]
    rw [e]
    repeat' (first | simp (maxDischargeDepth := 9) -implicitDefEqProofs -dsimp only [go_sem, seval, *] | ((with_reducible apply ACalls.one1); (focus ((first | with_reducible refine A.ref_Check g _ hg | with_reducible refine A.ref_Check h _ hh) <;> (first | (simp (maxDischargeDepth := 9) -implicitDefEqProofs -dsimp only [go_sem, seval, *]; done) | omega))); (focus (first | trivial | with_reducible exact rfl | (simp (maxDischargeDepth := 9) -implicitDefEqProofs -dsimp only [go_sem, seval]; done)))))
    refine fin_eq ?_
    (repeat' (first | simp (maxDischargeDepth := 9) -implicitDefEqProofs -dsimp only [go_sem, seval, *])) <;> (repeat' refine And.intro ?_ ?_) <;> (first | omega | rfl | assumption | skip)
  · have e : chk2 g h = g.check := by unfold chk2; rw [if_pos hc]
    have hb : (g.check != 0) = true := by simpa using hc
    rw [e]
    clear hc
    repeat' (first | simp (maxDischargeDepth := 9) -implicitDefEqProofs -dsimp only [go_sem, seval, *] | ((with_reducible apply ACalls.one1); (focus ((first | with_reducible refine A.ref_Check g _ hg) <;> (first | (simp (maxDischargeDepth := 9) -implicitDefEqProofs -dsimp only [go_sem, seval, *]; done) | omega))); (focus (first | trivial | with_reducible exact rfl | (simp (maxDischargeDepth := 9) -implicitDefEqProofs -dsimp only [go_sem, seval]; done)))))
    refine fin_eq ?_
    (repeat' (first | simp (maxDischargeDepth := 9) -implicitDefEqProofs -dsimp only [go_sem, seval, *])) <;> (repeat' refine And.intro ?_ ?_) <;> (first | omega | rfl | assumption | skip)
theorem ref_stands (to : List Int) (l : Int) (σ : Sig) (h : Std to l) :
    ACalls Tryz.prog 39 [.slice (to.map encInt) .no, .int .i64 l] σ (fun r σ' => r = .ret (.int .i64 (moveL to l)) ∧ σ' = σ) := by
  refine calls_x mixed Tryz.func39 b39 n39 rfl q39 (by simp) ?_; unfold c39 r39
  obtain ⟨h0, h1, h2, h3, h4⟩ := h
  have hg : to[(l / 2).toNat] = to.getD (l / 2).toNat 0 := by simp [List.getD_eq_getElem?_getD, h1]
  obtain ⟨f, hf⟩ : ∃ f, to.getD (l / 2).toNat 0 = f := ⟨_, rfl⟩
  rw [hf] at hg h3 h4
  by_cases c : l % 2 = 0
  · have hw : moveL to l = f := by unfold moveL; rw [if_pos c, hf]
    rw [hw]
    repeat' (first | simp (maxDischargeDepth := 9) -implicitDefEqProofs -dsimp only [go_sem, seval, List.getElem_map, List.length_map, *] | simp (disch := omega) only [wrap64, tdiv2, tmod2] | ((with_reducible refine Zv ?_ ?_); focus (first | omega | exact rfl)) | ((with_reducible refine Zu ?_ ?_); focus omega))
    refine fin_eq ?_
    (repeat' (first | simp (maxDischargeDepth := 9) -implicitDefEqProofs -dsimp only [go_sem, seval, *] | simp (disch := omega) only [wrap64, tdiv2, tmod2])) <;> (repeat' refine And.intro ?_ ?_) <;> (first | omega | rfl | assumption | skip)
  · have c1 : l % 2 = 1 := by omega
    by_cases d : f % 2 = 0
    · have hw : moveL to l = f + 1 := by unfold moveL turn; rw [if_neg c, hf]; omega
      rw [hw]
      repeat' (first | simp (maxDischargeDepth := 9) -implicitDefEqProofs -dsimp only [go_sem, seval, List.getElem_map, List.length_map, *] | simp (disch := omega) only [wrap64, tdiv2, tmod2] | ((with_reducible refine Zv ?_ ?_); focus (first | omega | exact rfl)) | ((with_reducible refine Zu ?_ ?_); focus omega))
      refine fin_eq ?_
      (repeat' (first | simp (maxDischargeDepth := 9) -implicitDefEqProofs -dsimp only [go_sem, seval, *] | simp (disch := omega) only [wrap64, tdiv2, tmod2])) <;> (repeat' refine And.intro ?_ ?_) <;> (first | omega | rfl | assumption | skip)
    · have d1 : f % 2 = 1 := by omega
      have hw : moveL to l = f - 1 := by unfold moveL turn; rw [if_neg c, hf]; omega
      rw [hw]
      repeat' (first | simp (maxDischargeDepth := 9) -implicitDefEqProofs -dsimp only [go_sem, seval, List.getElem_map, List.length_map, *] | simp (disch := omega) only [wrap64, tdiv2, tmod2] | ((with_reducible refine Zv ?_ ?_); focus (first | omega | exact rfl)) | ((with_reducible refine Zu ?_ ?_); focus omega))
      refine fin_eq ?_
      (repeat' (first | simp (maxDischargeDepth := 9) -implicitDefEqProofs -dsimp only [go_sem, seval, *] | simp (disch := omega) only [wrap64, tdiv2, tmod2])) <;> (repeat' refine And.intro ?_ ?_) <;> (first | omega | rfl | assumption | skip)
theorem ref_differ (b m m' : Aig) (l u v d l' : Int) (σ : Sig) (hb : Wf b) (hu : I64 u) (hv : I64 v) (hm : Wf m) (hx : b.Xor u v = (m, d, 0)) (ho : m.Or l d = (m', l', 0)) :
    ACalls Tryz.prog 40 [encAig b, .int .i64 l, .int .i64 u, .int .i64 v] σ (fun r σ' => r = .ret (.tup [encAig m', .int .i64 l', .int .i64 0]) ∧ σ' = σ) := by
  refine calls_x mixed Tryz.func40 b40 n40 rfl q40 (by simp) ?_; unfold c40 r40
  have ez : ((0 : Int) != 0) = false := by decide
  have hX := fun τ => A.ref_Xor b u v τ hb hu hv
  have hO := fun τ => A.ref_Or m l d τ hm
  rw [hx] at hX
  rw [ho] at hO
  repeat' (first | simp (maxDischargeDepth := 9) -implicitDefEqProofs -dsimp only [go_sem, seval, *] | ((with_reducible refine Zt (fun oF hoF hnF hnF' => ?_)); (try simp only [upd_none, ne_eq, not_and] at hoF)) | ((with_reducible apply ACalls.one1); (focus ((first | with_reducible refine hX _ | with_reducible refine hO _) <;> (first | (simp (maxDischargeDepth := 9) -implicitDefEqProofs -dsimp only [go_sem, seval, *]; done) | omega))); (focus (first | trivial | with_reducible exact rfl | (simp (maxDischargeDepth := 9) -implicitDefEqProofs -dsimp only [go_sem, seval]; done)))))
  refine fin_eq ?_
  (repeat' (first | simp (maxDischargeDepth := 9) -implicitDefEqProofs -dsimp only [go_sem, seval, *])) <;> (repeat' refine And.intro ?_ ?_) <;> (first | omega | rfl | assumption | skip)
theorem ref_Miter_err (g h : Aig) (e : Int) (hg : Wf g) (hh : Wf h) (he : chk2 g h = e) (h0 : e ≠ 0) (σ : Sig) :
    ACalls Tryz.prog 13 [encAig g, encAig h] σ (fun r σ' => r = .ret (.tup [encAig noAig, .int .i64 e]) ∧ σ' = σ) := by
  refine calls_x mixed Tryz.func13 b13 n13 rfl q13 (by simp) ?_; unfold c13 r13
  have hb : (e != 0) = true := by simpa using h0
  repeat' (first | simp (maxDischargeDepth := 9) -implicitDefEqProofs -dsimp only [go_sem, seval, *] | ((with_reducible refine Zt (fun oF hoF hnF hnF' => ?_)); (try simp only [upd_none, ne_eq, not_and] at hoF)) | ((with_reducible apply ACalls.one1); (focus ((first | with_reducible refine ref_checks g h _ hg hh) <;> (first | (simp (maxDischargeDepth := 9) -implicitDefEqProofs -dsimp only [go_sem, seval, *]; done) | omega))); (focus (first | trivial | with_reducible exact rfl | (simp (maxDischargeDepth := 9) -implicitDefEqProofs -dsimp only [go_sem, seval]; done)))))
  refine fin_eq ?_
  (repeat' (first | simp (maxDischargeDepth := 9) -implicitDefEqProofs -dsimp only [go_sem, seval, List.map_nil, *])) <;> (repeat' refine And.intro ?_ ?_) <;> (first | omega | rfl | assumption | skip)
theorem ref_Miter_arg (g h : Aig) (hg : Wf g) (hh : Wf h) (he : chk2 g h = 0) (h0 : ¬ (g.ins = h.ins ∧ g.flops.length = h.flops.length ∧ g.outs.length = h.outs.length)) (σ : Sig) :
    ACalls Tryz.prog 13 [encAig g, encAig h] σ (fun r σ' => r = .ret (.tup [encAig noAig, .int .i64 1]) ∧ σ' = σ) := by
  refine calls_x mixed Tryz.func13 b13 n13 rfl q13 (by simp) ?_; unfold c13 r13
  have ez : ((0 : Int) != 0) = false := by decide
  by_cases h1 : g.ins = h.ins
  · have b1 : (g.ins != h.ins) = false := by simpa using h1
    by_cases h2 : g.flops.length = h.flops.length
    · have b2 : ((g.flops.length : Int) != h.flops.length) = false := by simp; omega
      have b3 : ((g.outs.length : Int) != h.outs.length) = true := by simp; omega
      clear h0 h1 h2
      repeat' (first | simp (maxDischargeDepth := 9) -implicitDefEqProofs -dsimp only [go_sem, seval, *] | ((with_reducible refine Zt (fun oF hoF hnF hnF' => ?_)); (try simp only [upd_none, ne_eq, not_and] at hoF)) | ((with_reducible apply ACalls.one1); (focus ((first | with_reducible refine ref_checks g h _ hg hh) <;> (first | (simp (maxDischargeDepth := 9) -implicitDefEqProofs -dsimp only [go_sem, seval, *]; done) | omega))); (focus (first | trivial | with_reducible exact rfl | (simp (maxDischargeDepth := 9) -implicitDefEqProofs -dsimp only [go_sem, seval]; done)))))
      refine fin_eq ?_
      (repeat' (first | simp (maxDischargeDepth := 9) -implicitDefEqProofs -dsimp only [go_sem, seval, List.map_nil, *])) <;> (repeat' refine And.intro ?_ ?_) <;> (first | omega | rfl | assumption | skip)
    · have b2 : ((g.flops.length : Int) != h.flops.length) = true := by simp; omega
      clear h0 h1 h2
      repeat' (first | simp (maxDischargeDepth := 9) -implicitDefEqProofs -dsimp only [go_sem, seval, *] | ((with_reducible refine Zt (fun oF hoF hnF hnF' => ?_)); (try simp only [upd_none, ne_eq, not_and] at hoF)) | ((with_reducible apply ACalls.one1); (focus ((first | with_reducible refine ref_checks g h _ hg hh) <;> (first | (simp (maxDischargeDepth := 9) -implicitDefEqProofs -dsimp only [go_sem, seval, *]; done) | omega))); (focus (first | trivial | with_reducible exact rfl | (simp (maxDischargeDepth := 9) -implicitDefEqProofs -dsimp only [go_sem, seval]; done)))))
      refine fin_eq ?_
      (repeat' (first | simp (maxDischargeDepth := 9) -implicitDefEqProofs -dsimp only [go_sem, seval, List.map_nil, *])) <;> (repeat' refine And.intro ?_ ?_) <;> (first | omega | rfl | assumption | skip)
  · have b1 : (g.ins != h.ins) = true := by simpa using h1
    clear h0 h1
    repeat' (first | simp (maxDischargeDepth := 9) -implicitDefEqProofs -dsimp only [go_sem, seval, *] | ((with_reducible refine Zt (fun oF hoF hnF hnF' => ?_)); (try simp only [upd_none, ne_eq, not_and] at hoF)) | ((with_reducible apply ACalls.one1); (focus ((first | with_reducible refine ref_checks g h _ hg hh) <;> (first | (simp (maxDischargeDepth := 9) -implicitDefEqProofs -dsimp only [go_sem, seval, *]; done) | omega))); (focus (first | trivial | with_reducible exact rfl | (simp (maxDischargeDepth := 9) -implicitDefEqProofs -dsimp only [go_sem, seval]; done)))))
    refine fin_eq ?_
    (repeat' (first | simp (maxDischargeDepth := 9) -implicitDefEqProofs -dsimp only [go_sem, seval, List.map_nil, *])) <;> (repeat' refine And.intro ?_ ?_) <;> (first | omega | rfl | assumption | skip)
end Go.Proofs.YtjichkelfhcbcaaGreat

namespace Go.Proofs.YtjichkelfhcbcaaGreat
open Abs Fil Fil.Eqv
theorem lits_grow (g : Aig) : ∃ la : Nat → List Int, la 0 = g.outs ∧ (∀ k (h : k < g.flops.length), la (k + 1) = la k ++ [g.flops[k].next]) ∧ (∀ k, k ≤ g.flops.length → (la k).length = g.outs.length + k) ∧ la g.flops.length = lits g := by
  refine ⟨fun k => g.outs ++ (g.flops.take k).map (·.next), by simp, fun k h => ?_, fun k h => by simp; omega, by simp [lits]⟩
  show g.outs ++ (g.flops.take (k + 1)).map (·.next) = g.outs ++ (g.flops.take k).map (·.next) ++ [g.flops[k].next]
  rw [List.take_add_one, List.getElem?_eq_getElem h, List.map_append, List.append_assoc]; rfl
set_option maxRecDepth 20000 in
set_option maxHeartbeats 8000000 in
theorem ref_Miter (g h : Aig) (t : Two g h) (σ : Sig) :
    ACalls Tryz.prog 13 [encAig g, encAig h] σ (fun r σ' => r = .ret (.tup [encAig (miterM g h), .int .i64 0]) ∧ σ' = σ) := by
  refine calls_x mixed Tryz.func13 b13 n13 rfl q13 (by simp) ?_; unfold c13 r13
  have ez : ((0 : Int) != 0) = false := by decide
  have hck : chk2 g h = 0 := by unfold chk2; rw [t.gg.check, if_neg (by simp), t.hh.check]
  have hg := t.gg.wf
  have hh := t.hh.wf
  have hins := t.ins
  have hfl := t.flops
  have hou := t.outs
  have hlo := t.gg.lo
  have h8 := t.gg.eight
  have hfew := t.few
  have hb1 : (g.ins != h.ins) = false := by simpa using hins
  have hb2 : ((g.flops.length : Int) != h.flops.length) = false := by simp [hfl]
  have hb3 : ((g.outs.length : Int) != h.outs.length) = false := by simp [hou]
  have hal : g.ands.length ≤ 1000000 := by omega
  have hfl1 : g.flops.length ≤ 8 := by omega
  have hfl2 : h.flops.length ≤ 8 := by omega
  have hou1 := t.gg.outs
  have hou2 := t.hh.outs
  obtain ⟨N, hN⟩ : ∃ N : Nat, (N : Int) = g.ins + g.flops.length := ⟨(g.ins + g.flops.length).toNat, by omega⟩
  have hN' : g.ins + g.flops.length = (N : Int) := hN.symm
  have hto : (to0 g).length = N + 1 := by simp [to0]; omega
  have htg : ∀ i, i < N + 1 → (to0 g).getD i 0 = 2 * (i : Int) := fun i hi => by
    have hi2 : i < (1 + g.ins + g.flops.length).toNat := by omega
    simp [to0, List.getD_eq_getElem?_getD, hi2]
  have hN10 : N ≤ 8 := by omega
  clear hN hins hfl hou
  have hr : List.replicate g.flops.length (AV.agg [.int .i64 0, .bool false]) = (List.replicate g.flops.length (⟨0, false⟩ : Flop)).map encFlop := by rw [List.map_replicate]
  repeat' (first | simp (maxDischargeDepth := 9) -implicitDefEqProofs -dsimp only [go_sem, seval, *] | simp (disch := omega) only [wrap64] | (with_reducible (first | apply Zs) <;> intro hq) | ((with_reducible refine Zv ?_ ?_); focus (first | omega | exact rfl)) | ((with_reducible refine Zu ?_ ?_); focus omega) | ((with_reducible refine Zt (fun oF hoF hnF hnF' => ?_)); clear hnF hnF'; (try simp only [Zw, ne_eq] at hoF)) | ((with_reducible apply ACalls.one1); (focus ((first | with_reducible refine ref_checks g h _ hg hh | with_reducible refine ACalls.flA (ref_checks g h _ hg hh) ?_) <;> (first | (simp (maxDischargeDepth := 9) -implicitDefEqProofs -dsimp only [go_sem, seval, *]; done) | omega))); (focus (first | trivial | with_reducible exact rfl | (simp (maxDischargeDepth := 9) -implicitDefEqProofs -dsimp only [go_sem, seval]; done)))))
  case' h1 => rename_i o4 h4 oL hL o7 h7
  case' h2 => rename_i o4 h4 oL hL oA hA o7 h7
  all_goals
    obtain ⟨oT, eT⟩ : ∃ x, x = oF := ⟨oF, rfl⟩
    subst eT
    refine loop_rule (fun i : Nat => [(9, some (.int .i64 i)), (2, some (.cptr (aigL g))), (8, some (.slice (((to0 g).take i).map encInt) (.own oT))), (3, some (.cptr (aigL h))), (7, some (.ptr o7 0)), (4, some (.ptr o4 0))])
      (fun i => upd (upd (upd σ o4 (.cells [.int .i64 0, .slice [] .nil, .slice [] .nil, .slice [] .nil])) o7 (.cells (aigL (m0 g)))) oT (.grow 1 i)) (fun i => i ≤ N + 1) (fun i => N + 1 - i) 0 ?_ ?_
    · clear htg hto
      (repeat' (first | simp (maxDischargeDepth := 9) -implicitDefEqProofs -dsimp only [go_sem, seval, m0, hr, *] | simp (disch := omega) only [wrap64])) <;> (repeat' refine And.intro ?_ ?_) <;> (first | omega | rfl | assumption | skip)
    · intro i hi
      by_cases hlt : i < N + 1
      · have hlt' : (i : Int) ≤ N := by omega
        have hs : (to0 g).take (i + 1) = (to0 g).take i ++ [2 * (i : Int)] := by
          have hLi : i < (to0 g).length := by omega
          rw [List.take_add_one, List.getElem?_eq_getElem hLi, ← htg i hlt]
          simp [List.getD_eq_getElem?_getD, hLi]
        have hlen : ((to0 g).take i).length = i := by simp; omega
        clear htg hr
        repeat' (first | simp (maxDischargeDepth := 9) -implicitDefEqProofs -dsimp only [go_sem, seval, *] | simp (disch := omega) only [wrap64] | (with_reducible (first | apply Zs) <;> intro hq) | ((with_reducible refine Zv ?_ ?_); focus (first | omega | exact rfl)) | ((with_reducible refine Zu ?_ ?_); focus omega) | ((with_reducible refine Zt (fun oF hoF hnF hnF' => ?_)); clear hnF hnF'; (try simp only [Zw, ne_eq] at hoF)))
        refine loop_next _ _ _ _ (i + 1) ?_; (repeat' (first | simp (maxDischargeDepth := 9) -implicitDefEqProofs -dsimp only [go_sem, seval,  List.map_append, List.map_cons, List.map_nil, *] | simp (disch := omega) only [wrap64])) <;> (repeat' refine And.intro ?_ ?_) <;> (first | omega | rfl | assumption | skip)
      · have e : i = N + 1 := by omega
        subst e
        have hlt' : ¬ (N : Int) + 1 ≤ N := by omega
        have e0 : (to0 g).take (N + 1) = to0 g := List.take_of_length_le (by omega)
        have z0 : mAt g h 0 = (m0 g, to0 g) := by simp [mAt]
        clear htg hr hlt
        repeat' (first | simp (maxDischargeDepth := 9) -implicitDefEqProofs -dsimp only [go_sem, seval, *] | simp (disch := omega) only [wrap64] | (with_reducible (first | apply Zs) <;> intro hq) | ((with_reducible refine Zv ?_ ?_); focus (first | omega | exact rfl)) | ((with_reducible refine Zu ?_ ?_); focus omega) | ((with_reducible refine Zt (fun oF hoF hnF hnF' => ?_)); clear hnF hnF'; (try simp only [Zw, ne_eq] at hoF)))
        refine loop_rule (fun j : Nat => [(10, some (.int .i64 j)), (3, some (.cptr (aigL h))), (7, some (.ptr o7 0)), (8, some (.slice ((mAt g h j).2.map encInt) (.own oT))), (4, some (.ptr o4 0)), (2, some (.cptr (aigL g)))])
          (fun j => upd (upd (upd σ o4 (.cells [.int .i64 0, .slice [] .nil, .slice [] .nil, .slice [] .nil])) o7 (.cells (aigL (mAt g h j).1))) oT (.grow 1 (N + 1 + j))) (fun j => j ≤ h.ands.length) (fun j => h.ands.length - j) 0 ?_ ?_
        · have z1 : (mAt g h 0).1 = m0 g := by rw [z0]
          have z2 : (mAt g h 0).2 = to0 g := by rw [z0]
          (repeat' (first | simp (maxDischargeDepth := 9) -implicitDefEqProofs -dsimp only [go_sem, seval, z1, z2, *] | simp (disch := omega) only [wrap64])) <;> (repeat' refine And.intro ?_ ?_) <;> (first | omega | rfl | assumption | skip)
        · intro j hj
          by_cases hlt : j < h.ands.length
          · have hlj : (j : Int) < h.ands.length := by omega
            obtain ⟨y, s1, s2, s3, s4, s5, s6, s7, s8⟩ := m_step t hlt
            have hl2 := (mAt_ok t (zs t.gg) hj).2
            rw [zeros] at hl2
            have hl3 : (mAt g h j).2.length = N + 1 + j := by omega
            obtain ⟨⟨m, to⟩, hb'⟩ : ∃ s, mAt g h j = s := ⟨_, rfl⟩
            obtain ⟨⟨m', to'⟩, hc⟩ : ∃ s, mAt g h (j + 1) = s := ⟨_, rfl⟩
            rw [hb'] at s1 s2 s3 s4 s5 s6 s7 s8 hl3 ⊢
            rw [hc] at s6 s7
            simp only at s1 s2 s3 s4 s5 s6 s7 s8 hl3
            subst s7
            have hA := fun τ => A.ref_And m (moveL to h.ands[j].1) (moveL to h.ands[j].2) τ s3
            rw [s6] at hA
            have f1 := fun τ => ref_stands to h.ands[j].1 τ s1
            have f2 := fun τ => ref_stands to h.ands[j].2 τ s2
            obtain ⟨p, hp⟩ : ∃ p, moveL to h.ands[j].1 = p := ⟨_, rfl⟩
            obtain ⟨q, hq⟩ : ∃ q, moveL to h.ands[j].2 = q := ⟨_, rfl⟩
            rw [hp] at hA f1
            rw [hq] at hA f2
            clear hb' hp hq s1 s2 s3 s4 s5 s6 hl2 z0 e0
            repeat' (first | simp (maxDischargeDepth := 9) -implicitDefEqProofs -dsimp only [go_sem, seval, List.getElem_map, List.length_map, *] | simp (disch := omega) only [wrap64] | (with_reducible (first | apply Zs) <;> intro hq) | ((with_reducible refine Zv ?_ ?_); focus (first | omega | exact rfl)) | ((with_reducible refine Zu ?_ ?_); focus omega) | ((with_reducible refine Zt (fun oF hoF hnF hnF' => ?_)); clear hnF hnF'; (try simp only [Zw, ne_eq] at hoF)) | ((with_reducible apply ACalls.one1); (focus ((first | with_reducible refine f1 _ | with_reducible refine ACalls.flA (f1 _) ?_) <;> (first | (simp (maxDischargeDepth := 9) -implicitDefEqProofs -dsimp only [go_sem, seval, *]; done) | omega))); (focus (first | trivial | with_reducible exact rfl | (simp (maxDischargeDepth := 9) -implicitDefEqProofs -dsimp only [go_sem, seval]; done)))) | ((with_reducible apply id_one0); (focus (intro tS hS; ((first | with_reducible refine f1 _ | with_reducible refine ACalls.flA (f1 _) ?_) <;> (first | (simp (maxDischargeDepth := 9) -implicitDefEqProofs -dsimp only [go_sem, seval, *]; done) | omega | ((with_reducible refine Sub.get hS ?_); simp (maxDischargeDepth := 9) -implicitDefEqProofs -dsimp only [go_sem, seval, *]; done))))); (focus (first | trivial | (simp (maxDischargeDepth := 9) -implicitDefEqProofs -dsimp only [go_sem, seval, *]; done)))))
            repeat' (first | simp (maxDischargeDepth := 9) -implicitDefEqProofs -dsimp only [go_sem, seval, List.getElem_map, List.length_map, *] | simp (disch := omega) only [wrap64] | (with_reducible (first | apply Zs) <;> intro hq) | ((with_reducible refine Zv ?_ ?_); focus (first | omega | exact rfl)) | ((with_reducible refine Zu ?_ ?_); focus omega) | ((with_reducible refine Zt (fun oF hoF hnF hnF' => ?_)); clear hnF hnF'; (try simp only [Zw, ne_eq] at hoF)) | ((with_reducible apply ACalls.one1); (focus ((first | with_reducible refine f2 _ | with_reducible refine ACalls.flA (f2 _) ?_) <;> (first | (simp (maxDischargeDepth := 9) -implicitDefEqProofs -dsimp only [go_sem, seval, *]; done) | omega))); (focus (first | trivial | with_reducible exact rfl | (simp (maxDischargeDepth := 9) -implicitDefEqProofs -dsimp only [go_sem, seval]; done)))) | ((with_reducible apply id_one0); (focus (intro tS hS; ((first | with_reducible refine f2 _ | with_reducible refine ACalls.flA (f2 _) ?_) <;> (first | (simp (maxDischargeDepth := 9) -implicitDefEqProofs -dsimp only [go_sem, seval, *]; done) | omega | ((with_reducible refine Sub.get hS ?_); simp (maxDischargeDepth := 9) -implicitDefEqProofs -dsimp only [go_sem, seval, *]; done))))); (focus (first | trivial | (simp (maxDischargeDepth := 9) -implicitDefEqProofs -dsimp only [go_sem, seval, *]; done)))))
            repeat' (first | simp (maxDischargeDepth := 9) -implicitDefEqProofs -dsimp only [go_sem, seval, List.getElem_map, List.length_map, *] | simp (disch := omega) only [wrap64] | (with_reducible (first | apply Zs) <;> intro hq) | ((with_reducible refine Zv ?_ ?_); focus (first | omega | exact rfl)) | ((with_reducible refine Zu ?_ ?_); focus omega) | ((with_reducible refine Zt (fun oF hoF hnF hnF' => ?_)); clear hnF hnF'; (try simp only [Zw, ne_eq] at hoF)) | ((with_reducible apply ACalls.one1); (focus ((first | with_reducible refine hA _ | with_reducible refine ACalls.flA (hA _) ?_) <;> (first | (simp (maxDischargeDepth := 9) -implicitDefEqProofs -dsimp only [go_sem, seval, *]; done) | omega))); (focus (first | trivial | with_reducible exact rfl | (simp (maxDischargeDepth := 9) -implicitDefEqProofs -dsimp only [go_sem, seval]; done)))) | ((with_reducible apply id_one0); (focus (intro tS hS; ((first | with_reducible refine hA _ | with_reducible refine ACalls.flA (hA _) ?_) <;> (first | (simp (maxDischargeDepth := 9) -implicitDefEqProofs -dsimp only [go_sem, seval, *]; done) | omega | ((with_reducible refine Sub.get hS ?_); simp (maxDischargeDepth := 9) -implicitDefEqProofs -dsimp only [go_sem, seval, *]; done))))); (focus (first | trivial | (simp (maxDischargeDepth := 9) -implicitDefEqProofs -dsimp only [go_sem, seval, *]; done)))))
            refine loop_next _ _ _ _ (j + 1) ?_; (repeat' (first | simp (maxDischargeDepth := 9) -implicitDefEqProofs -dsimp only [go_sem, seval,  List.map_append, List.map_cons, List.map_nil, *] | simp (disch := omega) only [wrap64])) <;> (repeat' refine And.intro ?_ ?_) <;> (first | omega | rfl | assumption | skip)
          · have e : j = h.ands.length := by omega
            subst e
            have hlj : ¬ (h.ands.length : Int) < h.ands.length := by omega
            rw [m_all]
            obtain ⟨bl, bn⟩ := body_lits t
            have dst := fun k hk => d_step t (i := k) hk
            have hpl := t.pairs
            have hd0 : dAt g h 0 = ((bodyM g h).1, 0) := rfl
            have hda := @d_all g h
            have hla := lits_len g
            have hlb := lits_len h
            have hpm : ∀ k (h1 : k < (pairsM g h).length) (h2 : k < (lits g).length) (h3 : k < (lits h).length), (pairsM g h)[k] = ((lits g)[k], moveL (bodyM g h).2 (lits h)[k]) := fun k h1 h2 h3 => by
              simp [pairsM]
            have hff := t.flops
            have hoo := t.outs
            have hfle : g.flops.length ≤ h.flops.length ∧ h.flops.length ≤ g.flops.length := by omega
            have hole : g.outs.length ≤ h.outs.length ∧ h.outs.length ≤ g.outs.length := by omega
            clear hlt z0 e0 hj hal hff hoo
            repeat' (first | simp (maxDischargeDepth := 9) -implicitDefEqProofs -dsimp only [go_sem, seval, *] | simp (disch := omega) only [wrap64] | (with_reducible (first | apply Zs) <;> intro hq) | ((with_reducible refine Zv ?_ ?_); focus (first | omega | exact rfl)) | ((with_reducible refine Zu ?_ ?_); focus omega) | ((with_reducible refine Zt (fun oF hoF hnF hnF' => ?_)); clear hnF hnF'; (try simp only [Zw, ne_eq] at hoF)))
            rename_i oA' hA'
            obtain ⟨oB, eB⟩ : ∃ x, x = oF := ⟨oF, rfl⟩
            subst eB
            obtain ⟨la, la0, la1, la2, la3⟩ := lits_grow g
            obtain ⟨lb, lb0, lb1, lb2, lb3⟩ := lits_grow h
            refine loop_rule (fun k : Nat => [(16, some (.int .i64 k)), (2, some (.cptr (aigL g))), (14, some (.slice ((la k).map encInt) (.own oA'))), (15, some (.slice ((lb k).map encInt) (.own oB))), (3, some (.cptr (aigL h))), (7, some (.ptr o7 0)), (8, some (.slice ((bodyM g h).2.map encInt) (.own oT))), (4, some (.ptr o4 0))])
              (fun k => upd (upd (upd (upd (upd σ o4 (.cells [.int .i64 0, .slice [] .nil, .slice [] .nil, .slice [] .nil])) o7 (.cells (aigL (bodyM g h).1))) oT (.grow 1 (N + 1 + h.ands.length))) oA' (.grow 1 (g.outs.length + k))) oB (.grow 1 (h.outs.length + k))) (fun k => k ≤ g.flops.length) (fun k => g.flops.length - k) 0 ?_ ?_
            · clear la1 la2 la3 lb1 lb2 lb3 hpm dst bl
              (repeat' (first | simp (maxDischargeDepth := 9) -implicitDefEqProofs -dsimp only [go_sem, seval, la0, lb0, *] | simp (disch := omega) only [wrap64])) <;> (repeat' refine And.intro ?_ ?_) <;> (first | omega | rfl | assumption | skip)
            · intro k hk
              by_cases hlt : k < g.flops.length
              · have hlk : (k : Int) < g.flops.length := by omega
                have hlh : k < h.flops.length := by omega
                have e1 := la1 k hlt
                have e2 := lb1 k hlh
                have e3 := la2 k hk
                have e4 := lb2 k (by omega)
                obtain ⟨u, hu⟩ : ∃ u, la k = u := ⟨_, rfl⟩
                obtain ⟨v, hv⟩ : ∃ v, lb k = v := ⟨_, rfl⟩
                rw [hu] at e1 e3 ⊢
                rw [hv] at e2 e4 ⊢
                clear dst hpm bl la0 la1 la2 la3 lb0 lb1 lb2 lb3 hu hv
                repeat' (first | simp (maxDischargeDepth := 9) -implicitDefEqProofs -dsimp only [go_sem, seval, List.getElem_map, List.length_map, *] | simp (disch := omega) only [wrap64] | (with_reducible (first | apply Zs) <;> intro hq) | ((with_reducible refine Zv ?_ ?_); focus (first | omega | exact rfl)) | ((with_reducible refine Zu ?_ ?_); focus omega) | ((with_reducible refine Zt (fun oF hoF hnF hnF' => ?_)); clear hnF hnF'; (try simp only [Zw, ne_eq] at hoF)))
                refine loop_next _ _ _ _ (k + 1) ?_; (repeat' (first | simp (maxDischargeDepth := 9) -implicitDefEqProofs -dsimp only [go_sem, seval,  List.map_append, List.map_cons, List.map_nil, *] | simp (disch := omega) only [wrap64])) <;> (repeat' refine And.intro ?_ ?_) <;> (first | omega | rfl | assumption | skip)
              · have e : k = g.flops.length := by omega
                subst e
                have hlk : ¬ (g.flops.length : Int) < g.flops.length := by omega
                have hfe : g.flops.length = h.flops.length := by omega
                have lb3' : lb g.flops.length = lits h := by rw [hfe]; exact lb3
                obtain ⟨K, hK⟩ : ∃ K, (pairsM g h).length = K := ⟨_, rfl⟩
                have ha : (lits g).length = K := by omega
                have hb : (lits h).length = K := by omega
                have hK' : K ≤ 40 := by omega
                have hs1 : g.outs.length + g.flops.length = K := by omega
                have hs2 : h.outs.length + g.flops.length = K := by omega
                rw [la3, lb3', hs1, hs2]
                clear la0 la1 la2 la3 lb0 lb1 lb2 lb3 hfe lb3' hpl hla hlb hlt hk
                repeat' (first | simp (maxDischargeDepth := 9) -implicitDefEqProofs -dsimp only [go_sem, seval, List.length_map, *] | simp (disch := omega) only [wrap64] | (with_reducible (first | apply Zs) <;> intro hq) | ((with_reducible refine Zv ?_ ?_); focus (first | omega | exact rfl)) | ((with_reducible refine Zu ?_ ?_); focus omega) | ((with_reducible refine Zt (fun oF hoF hnF hnF' => ?_)); clear hnF hnF'; (try simp only [Zw, ne_eq] at hoF)))
                refine loop_rule (fun k : Nat => [(18, some (.int .i64 k)), (14, some (.slice ((lits g).map encInt) (.own oA'))), (7, some (.ptr o7 0)), (17, some (.int .i64 (dAt g h k).2)), (8, some (.slice ((bodyM g h).2.map encInt) (.own oT))), (15, some (.slice ((lits h).map encInt) (.own oB))), (4, some (.ptr o4 0))])
                  (fun k => upd (upd (upd (upd (upd σ o4 (.cells [.int .i64 0, .slice [] .nil, .slice [] .nil, .slice [] .nil])) o7 (.cells (aigL (dAt g h k).1))) oT (.grow 1 (N + 1 + h.ands.length))) oA' (.grow 1 K)) oB (.grow 1 K)) (fun k => k ≤ K) (fun k => K - k) 0 ?_ ?_
                · have z1 : (dAt g h 0).1 = (bodyM g h).1 := rfl
                  have z2 : (dAt g h 0).2 = 0 := rfl
                  clear hpm dst bl
                  (repeat' (first | simp (maxDischargeDepth := 9) -implicitDefEqProofs -dsimp only [go_sem, seval, z1, z2, *] | simp (disch := omega) only [wrap64])) <;> (repeat' refine And.intro ?_ ?_) <;> (first | omega | rfl | assumption | skip)
                · intro k hk
                  by_cases hlt : k < K
                  · have hlk : (k : Int) < K := by omega
                    obtain ⟨m, d, s1, s2, s3, s4, s5, s6, s7, s8⟩ := dst k (by omega)
                    have hka : k < (lits g).length := by omega
                    have hkb : k < (lits h).length := by omega
                    rw [hpm k (by omega) hka hkb] at s2 s3 s4
                    simp only at s2 s3 s4
                    obtain ⟨⟨b, l⟩, hb'⟩ : ∃ s, dAt g h k = s := ⟨_, rfl⟩
                    obtain ⟨⟨m', l'⟩, hc⟩ : ∃ s, dAt g h (k + 1) = s := ⟨_, rfl⟩
                    rw [hb'] at s1 s4 s6 s8 ⊢
                    rw [hc] at s8
                    simp only at s1 s4 s6 s8
                    obtain ⟨u, hu⟩ : ∃ u, (lits g)[k] = u := ⟨_, rfl⟩
                    obtain ⟨w, hw⟩ : ∃ w, (lits h)[k] = w := ⟨_, rfl⟩
                    obtain ⟨v, hv⟩ : ∃ v, moveL (bodyM g h).2 w = v := ⟨_, rfl⟩
                    have f1 := fun τ => ref_stands (bodyM g h).2 w τ (bl _ (by rw [← hw]; exact List.getElem_mem hkb))
                    rw [hu] at s2 s4
                    rw [hw, hv] at s3 s4
                    rw [hv] at f1
                    have hD := fun τ => ref_differ b m m' l u v d l' τ s1 s2 s3 s5 s4 s8
                    clear dst hpm bl s1 s2 s3 s4 s5 s6 s7 s8 hb' hv hda
                    repeat' (first | simp (maxDischargeDepth := 9) -implicitDefEqProofs -dsimp only [go_sem, seval, List.getElem_map, List.length_map, *] | simp (disch := omega) only [wrap64] | (with_reducible (first | apply Zs) <;> intro hq) | ((with_reducible refine Zv ?_ ?_); focus (first | omega | exact rfl)) | ((with_reducible refine Zu ?_ ?_); focus omega) | ((with_reducible refine Zt (fun oF hoF hnF hnF' => ?_)); clear hnF hnF'; (try simp only [Zw, ne_eq] at hoF)) | ((with_reducible apply ACalls.one1); (focus ((first | with_reducible refine f1 _ | with_reducible refine ACalls.flA (f1 _) ?_) <;> (first | (simp (maxDischargeDepth := 9) -implicitDefEqProofs -dsimp only [go_sem, seval, *]; done) | omega))); (focus (first | trivial | with_reducible exact rfl | (simp (maxDischargeDepth := 9) -implicitDefEqProofs -dsimp only [go_sem, seval]; done)))) | ((with_reducible apply id_one0); (focus (intro tS hS; ((first | with_reducible refine f1 _ | with_reducible refine ACalls.flA (f1 _) ?_) <;> (first | (simp (maxDischargeDepth := 9) -implicitDefEqProofs -dsimp only [go_sem, seval, *]; done) | omega | ((with_reducible refine Sub.get hS ?_); simp (maxDischargeDepth := 9) -implicitDefEqProofs -dsimp only [go_sem, seval, *]; done))))); (focus (first | trivial | (simp (maxDischargeDepth := 9) -implicitDefEqProofs -dsimp only [go_sem, seval, *]; done)))))
                    repeat' (first | simp (maxDischargeDepth := 9) -implicitDefEqProofs -dsimp only [go_sem, seval, List.getElem_map, List.length_map, *] | simp (disch := omega) only [wrap64] | (with_reducible (first | apply Zs) <;> intro hq) | ((with_reducible refine Zv ?_ ?_); focus (first | omega | exact rfl)) | ((with_reducible refine Zu ?_ ?_); focus omega) | ((with_reducible refine Zt (fun oF hoF hnF hnF' => ?_)); clear hnF hnF'; (try simp only [Zw, ne_eq] at hoF)) | ((with_reducible apply ACalls.one1); (focus ((first | with_reducible refine hD _ | with_reducible refine ACalls.flA (hD _) ?_) <;> (first | (simp (maxDischargeDepth := 9) -implicitDefEqProofs -dsimp only [go_sem, seval, *]; done) | omega))); (focus (first | trivial | with_reducible exact rfl | (simp (maxDischargeDepth := 9) -implicitDefEqProofs -dsimp only [go_sem, seval]; done)))) | ((with_reducible apply id_one0); (focus (intro tS hS; ((first | with_reducible refine hD _ | with_reducible refine ACalls.flA (hD _) ?_) <;> (first | (simp (maxDischargeDepth := 9) -implicitDefEqProofs -dsimp only [go_sem, seval, *]; done) | omega | ((with_reducible refine Sub.get hS ?_); simp (maxDischargeDepth := 9) -implicitDefEqProofs -dsimp only [go_sem, seval, *]; done))))); (focus (first | trivial | (simp (maxDischargeDepth := 9) -implicitDefEqProofs -dsimp only [go_sem, seval, *]; done)))))
                    refine loop_next _ _ _ _ (k + 1) ?_; (repeat' (first | simp (maxDischargeDepth := 9) -implicitDefEqProofs -dsimp only [go_sem, seval, *] | simp (disch := omega) only [wrap64])) <;> (repeat' refine And.intro ?_ ?_) <;> (first | omega | rfl | assumption | skip)
                  · have e : k = K := by omega
                    subst e
                    have hlk : ¬ (k : Int) < k := by omega
                    rw [hK] at hda
                    obtain ⟨⟨b, l⟩, hb'⟩ : ∃ s, dAt g h k = s := ⟨_, rfl⟩
                    have hM : miterM g h = { b with outs := [l] } := by unfold miterM; rw [← hda, hb']
                    rw [hM]
                    clear dst hpm hda bl
                    repeat' (first | simp (maxDischargeDepth := 9) -implicitDefEqProofs -dsimp only [go_sem, seval, List.length_map, *] | simp (disch := omega) only [wrap64] | (with_reducible (first | apply Zs) <;> intro hq) | ((with_reducible refine Zv ?_ ?_); focus (first | omega | exact rfl)) | ((with_reducible refine Zu ?_ ?_); focus omega) | ((with_reducible refine Zt (fun oF hoF hnF hnF' => ?_)); clear hnF hnF'; (try simp only [Zw, ne_eq] at hoF)))
                    refine fin_eq ?_
                    (repeat' (first | simp (maxDischargeDepth := 9) -implicitDefEqProofs -dsimp only [go_sem, seval, List.map_cons, List.map_nil, *] | simp (disch := omega) only [wrap64])) <;> (repeat' refine And.intro ?_ ?_) <;> (first | omega | rfl | assumption | skip)
end Go.Proofs.YtjichkelfhcbcaaGreat

namespace Go.Proofs.YtjichkelfhcbcaaGreat
open Abs Fil Fil.Eqv
open Bd (D encB encF)
theorem ref_Tell_err (g h : Aig) (e : Int) (hg : Wf g) (hh : Wf h) (he : chk2 g h = e) (h0 : e ≠ 0) (σ : Sig) :
    ACalls Tryz.prog 7 [encAig g, encAig h] σ (fun r σ' => r = .ret (.tup [.bool false, .slice [] .no, .slice [] .no, .int .i64 e]) ∧ σ' = σ) := by
  refine calls_x mixed Tryz.func7 b7 n7 rfl q7 (by simp) ?_; unfold c7 r7
  have hb : (e != 0) = true := by simpa using h0
  repeat' (first | simp (maxDischargeDepth := 9) -implicitDefEqProofs -dsimp only [go_sem, seval, List.map_nil, *] | ((with_reducible refine Zt (fun oF hoF hnF hnF' => ?_)); clear hnF hnF'; (try simp only [Zw, ne_eq] at hoF)) | ((with_reducible apply ACalls.one1); (focus ((first | with_reducible refine ref_Miter_err g h e hg hh he h0 _) <;> (first | (simp (maxDischargeDepth := 9) -implicitDefEqProofs -dsimp only [go_sem, seval, *]; done) | omega))); (focus (first | trivial | with_reducible exact rfl | (simp (maxDischargeDepth := 9) -implicitDefEqProofs -dsimp only [go_sem, seval]; done)))))
  refine fin_eq ?_
  (repeat' (first | simp (maxDischargeDepth := 9) -implicitDefEqProofs -dsimp only [go_sem, seval, *])) <;> (repeat' refine And.intro ?_ ?_) <;> (first | omega | rfl | assumption | skip)
theorem ref_Tell_arg (g h : Aig) (hg : Wf g) (hh : Wf h) (he : chk2 g h = 0) (h0 : ¬ (g.ins = h.ins ∧ g.flops.length = h.flops.length ∧ g.outs.length = h.outs.length)) (σ : Sig) :
    ACalls Tryz.prog 7 [encAig g, encAig h] σ (fun r σ' => r = .ret (.tup [.bool false, .slice [] .no, .slice [] .no, .int .i64 1]) ∧ σ' = σ) := by
  refine calls_x mixed Tryz.func7 b7 n7 rfl q7 (by simp) ?_; unfold c7 r7
  have hb : ((1 : Int) != 0) = true := by decide
  repeat' (first | simp (maxDischargeDepth := 9) -implicitDefEqProofs -dsimp only [go_sem, seval, List.map_nil, *] | ((with_reducible refine Zt (fun oF hoF hnF hnF' => ?_)); clear hnF hnF'; (try simp only [Zw, ne_eq] at hoF)) | ((with_reducible apply ACalls.one1); (focus ((first | with_reducible refine ref_Miter_arg g h hg hh he h0 _) <;> (first | (simp (maxDischargeDepth := 9) -implicitDefEqProofs -dsimp only [go_sem, seval, *]; done) | omega))); (focus (first | trivial | with_reducible exact rfl | (simp (maxDischargeDepth := 9) -implicitDefEqProofs -dsimp only [go_sem, seval]; done)))))
  refine fin_eq ?_
  (repeat' (first | simp (maxDischargeDepth := 9) -implicitDefEqProofs -dsimp only [go_sem, seval, *])) <;> (repeat' refine And.intro ?_ ?_) <;> (first | omega | rfl | assumption | skip)
theorem ref_Tell (g h : Aig) (t : Two g h) (σ : Sig) :
    ACalls Tryz.prog 7 [encAig g, encAig h] σ (fun r σ' => r = .ret (.tup [.bool (sameS g h).1, .slice ((sameS g h).2.1.map encBool) .no, .slice ((sameS g h).2.2.map encBool) .no, .int .i64 0]) ∧ σ' = σ) := by
  refine calls_x mixed Tryz.func7 b7 n7 rfl q7 (by simp) ?_; unfold c7 r7
  have ez : ((0 : Int) != 0) = false := by decide
  have hm := (miter_ok t).1
  have hfl : (forksS (miterM g h)).2.length = 1 + g.flops.length := by
    rw [forks_len, (miter_ok t).2.2.2.1, (miter_ok t).2.2.1]; simp
  have hlo := t.gg.lo
  have h8 := t.gg.eight
  have hn := node_ok t (w := List.replicate (g.ins + g.flops.length).toNat false) (by rw [zeros]; omega)
  have hroom := (hn.1.room (by omega)).2.2.2
  have hM := fun τ => ref_Miter g h t τ
  have hF := fun τ => ref_Forks (miterM g h) hm τ
  obtain ⟨l, hl⟩ : ∃ l, (forksS (miterM g h)).2 = l := ⟨_, rfl⟩
  obtain ⟨b, hb⟩ : ∃ b, (forksS (miterM g h)).1 = b := ⟨_, rfl⟩
  have hnode : nodeS g h = (b, l.getD 0 0) := by unfold nodeS; rw [hl, hb]
  rw [hl] at hfl
  rw [hl, hb] at hF
  rw [hnode] at hroom
  have hl0 : 0 < l.length := by omega
  have hg0 : l[0] = l.getD 0 0 := by simp [List.getD_eq_getElem?_getD, hl0]
  have hll : l.length ≤ 10 := by omega
  obtain ⟨x, hx⟩ : ∃ x, l.getD 0 0 = x := ⟨_, rfl⟩
  rw [hx] at hnode hg0
  have hO := fun τ => B.ref_One b x τ hroom
  by_cases hy : x = 0
  · have hs : sameS g h = (true, [], []) := by unfold sameS; rw [hnode, if_pos hy]
    have hyb : (x == 0) = true := by simpa using hy
    rw [hs]
    clear hs hn hm hl hb hnode hx hfl hO hy
    repeat' (first | simp (maxDischargeDepth := 9) -implicitDefEqProofs -dsimp only [go_sem, seval, List.map_nil, List.getElem_map, List.length_map, *] | ((with_reducible refine Zv ?_ ?_); focus (first | omega | exact rfl)) | ((with_reducible refine Zu ?_ ?_); focus omega) | ((with_reducible refine Zt (fun oF hoF hnF hnF' => ?_)); clear hnF hnF'; (try simp only [Zw, ne_eq] at hoF)) | ((with_reducible apply ACalls.one1); (focus ((first | with_reducible refine hM _ | with_reducible refine hF _) <;> (first | (simp (maxDischargeDepth := 9) -implicitDefEqProofs -dsimp only [go_sem, seval, *]; done) | omega))); (focus (first | trivial | with_reducible exact rfl | (simp (maxDischargeDepth := 9) -implicitDefEqProofs -dsimp only [go_sem, seval]; done)))))
    refine fin_eq ?_
    (repeat' (first | simp (maxDischargeDepth := 9) -implicitDefEqProofs -dsimp only [go_sem, seval, *])) <;> (repeat' refine And.intro ?_ ?_) <;> (first | omega | rfl | assumption | skip)
  · obtain ⟨w, h1, h2, _⟩ := same_no t (by rw [hnode]; exact hy)
    have hs : sameS g h = (false, w.take g.ins.toNat, w.drop g.ins.toNat) := by
      unfold sameS
      rw [hnode, if_neg hy]
      rw [hnode] at h1
      simp only at h1 ⊢
      rw [h1]
    rw [hnode] at h1
    simp only at h1
    rw [h1] at hO
    rw [hs]
    have hyb : (x == 0) = false := by simpa using hy
    have hw : g.ins ≤ w.length := by omega
    have m1 : List.take g.ins.toNat (w.map encBool) = (w.take g.ins.toNat).map encBool := List.map_take.symm
    have m2 : List.drop g.ins.toNat (w.map encBool) = (w.drop g.ins.toNat).map encBool := List.map_drop.symm
    clear h1 hs hn hm hl hb hnode hx hfl hy
    repeat' (first | simp (maxDischargeDepth := 9) -implicitDefEqProofs -dsimp only [go_sem, seval, List.getElem_map, List.length_map, *] | ((with_reducible refine Zv ?_ ?_); focus (first | omega | exact rfl)) | ((with_reducible refine Zu ?_ ?_); focus omega) | ((with_reducible refine Zt (fun oF hoF hnF hnF' => ?_)); clear hnF hnF'; (try simp only [Zw, ne_eq] at hoF)) | ((with_reducible apply ACalls.one1); (focus ((first | with_reducible refine hM _ | with_reducible refine hF _ | with_reducible refine hO _) <;> (first | (simp (maxDischargeDepth := 9) -implicitDefEqProofs -dsimp only [go_sem, seval, *]; done) | omega))); (focus (first | trivial | with_reducible exact rfl | (simp (maxDischargeDepth := 9) -implicitDefEqProofs -dsimp only [go_sem, seval]; done)))) | ((with_reducible apply id_one0); (focus (intro tS hS; ((first | with_reducible refine hM _ | with_reducible refine hF _ | with_reducible refine hO _) <;> (first | (simp (maxDischargeDepth := 9) -implicitDefEqProofs -dsimp only [go_sem, seval, *]; done) | omega | ((with_reducible refine Sub.get hS ?_); simp (maxDischargeDepth := 9) -implicitDefEqProofs -dsimp only [go_sem, seval, *]; done))))); (focus (first | trivial | (simp (maxDischargeDepth := 9) -implicitDefEqProofs -dsimp only [go_sem, seval, *]; done)))))
    refine fin_eq ?_
    (repeat' (first | simp (maxDischargeDepth := 9) -implicitDefEqProofs -dsimp only [go_sem, seval, *])) <;> (repeat' refine And.intro ?_ ?_) <;> (first | omega | rfl | assumption | skip)
theorem both_same (g h : Aig) (fg : fewB g = true) (fh : fewB h = true) (wg : Wide g) (wh : Wide h) : ∃ (s : Bool) (a b : List Bool) (e : Int),
    (∀ τ, ACalls Tryz.prog 6 [encAig g, encAig h] τ (fun r σ' => r = .ret (.tup [.bool s, .slice (a.map encBool) .no, .slice (b.map encBool) .no, .int .i64 e]) ∧ σ' = τ)) ∧
    (∀ τ, ACalls Tryz.prog 7 [encAig g, encAig h] τ (fun r σ' => r = .ret (.tup [.bool s, .slice (a.map encBool) .no, .slice (b.map encBool) .no, .int .i64 e]) ∧ σ' = τ)) ∧
    a.length ≤ 1000000 ∧ b.length ≤ 1000000 := by
  have hwg := (few_spec fg wg).1
  have hwh := (few_spec fh wh).1
  rcases two_cases fg fh wg wh with hc | ⟨hc, hne⟩ | t
  · exact ⟨false, [], [], chk2 g h, fun τ => eq_Same_err g h _ hwg hwh rfl hc τ, fun τ => ref_Tell_err g h _ hwg hwh rfl hc τ, by simp, by simp⟩
  · exact ⟨false, [], [], 1, fun τ => eq_Same_arg g h hwg hwh hc hne τ, fun τ => ref_Tell_arg g h hwg hwh hc hne τ, by simp, by simp⟩
  · have h8 := t.gg.eight
    have hlo := t.gg.lo
    refine ⟨(sameS g h).1, (sameS g h).2.1, (sameS g h).2.2, 0, fun τ => eq_Same g h t τ, fun τ => ref_Tell g h t τ, ?_, ?_⟩
    · by_cases hy : (nodeS g h).2 = 0
      · unfold sameS; rw [if_pos hy]; simp
      · obtain ⟨w, h1, h2, _⟩ := same_no t hy
        unfold sameS; rw [if_neg hy, h1]; simp; omega
    · by_cases hy : (nodeS g h).2 = 0
      · unfold sameS; rw [if_pos hy]; simp
      · obtain ⟨w, h1, h2, _⟩ := same_no t hy
        unfold sameS; rw [if_neg hy, h1]; simp; omega
set_option maxRecDepth 20000 in
set_option maxHeartbeats 4000000 in
theorem tells_law (g h : Aig) (σ : Sig) (wg : Wide g) (wh : Wide h) :
    ACalls Tryz.prog 3 [encAig g, encAig h] σ (fun r σ' => r = .ret (.bool true) ∧ σ' = σ) := by
  refine calls_x mixed Tryz.func3 b3 n3 rfl q3 (by simp) ?_; unfold c3 r3
  cases fg : fewB g with
  | false =>
    repeat' (first | simp (maxDischargeDepth := 9) -implicitDefEqProofs -dsimp only [go_sem, seval, *] | ((with_reducible apply ACalls.one1); (focus ((first | with_reducible refine law_live _ | with_reducible refine law_few g _) <;> (first | (simp (maxDischargeDepth := 9) -implicitDefEqProofs -dsimp only [go_sem, seval, *]; done) | omega))); (focus (first | trivial | with_reducible exact rfl | (simp (maxDischargeDepth := 9) -implicitDefEqProofs -dsimp only [go_sem, seval]; done)))))
    refine fin_eq ?_
    (repeat' (first | simp (maxDischargeDepth := 9) -implicitDefEqProofs -dsimp only [go_sem, seval, *])) <;> (repeat' refine And.intro ?_ ?_) <;> (first | omega | rfl | assumption | skip)
  | true =>
  cases fh : fewB h with
  | false =>
    repeat' (first | simp (maxDischargeDepth := 9) -implicitDefEqProofs -dsimp only [go_sem, seval, *] | ((with_reducible apply ACalls.one1); (focus ((first | with_reducible refine law_live _ | with_reducible refine law_few g _ | with_reducible refine law_few h _) <;> (first | (simp (maxDischargeDepth := 9) -implicitDefEqProofs -dsimp only [go_sem, seval, *]; done) | omega))); (focus (first | trivial | with_reducible exact rfl | (simp (maxDischargeDepth := 9) -implicitDefEqProofs -dsimp only [go_sem, seval]; done)))))
    refine fin_eq ?_
    (repeat' (first | simp (maxDischargeDepth := 9) -implicitDefEqProofs -dsimp only [go_sem, seval, *])) <;> (repeat' refine And.intro ?_ ?_) <;> (first | omega | rfl | assumption | skip)
  | true =>
  obtain ⟨s, a, b, e, hS1, hS2, l1, l2⟩ := both_same g h fg fh wg wh
  have hA := fun τ => A.ref_Bools a a τ (by omega)
  have hB := fun τ => A.ref_Bools b b τ (by omega)
  rw [show decide (a = a) = true by simp] at hA
  rw [show decide (b = b) = true by simp] at hB
  have q1 : (e == e) = true := by simp
  have q2 : (s == s) = true := by simp
  clear l1 l2
  repeat' (first | simp (maxDischargeDepth := 9) -implicitDefEqProofs -dsimp only [go_sem, seval, *] | ((with_reducible apply ACalls.one1); (focus ((first | with_reducible refine law_live _ | with_reducible refine law_few g _ | with_reducible refine law_few h _ | with_reducible refine hS1 _ | with_reducible refine hS2 _ | with_reducible refine hA _ | with_reducible refine hB _) <;> (first | (simp (maxDischargeDepth := 9) -implicitDefEqProofs -dsimp only [go_sem, seval, *]; done) | omega))); (focus (first | trivial | with_reducible exact rfl | (simp (maxDischargeDepth := 9) -implicitDefEqProofs -dsimp only [go_sem, seval]; done)))))
  refine fin_eq ?_
  (repeat' (first | simp (maxDischargeDepth := 9) -implicitDefEqProofs -dsimp only [go_sem, seval, *])) <;> (repeat' refine And.intro ?_ ?_) <;> (first | omega | rfl | assumption | skip)
end Go.Proofs.YtjichkelfhcbcaaGreat

