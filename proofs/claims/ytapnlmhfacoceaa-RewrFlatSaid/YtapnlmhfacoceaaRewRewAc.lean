/- rewr: RewrFlat. -/
import Derived.Test.YtapnlmhfacoceaaRewRewS
set_option linter.unusedSimpArgs false
set_option linter.unusedVariables false
namespace Go.Proofs.Ytapnlmhfacoceaa
open Abs Fil Fil.Rw
open Eqv (moveL)
theorem unflat_1 : ∀ cs : List AV, unflat false 1 cs.length cs = some cs
  | [] => rfl
  | c :: cs => by
    have ih := unflat_1 cs
    simp only [List.length_cons, unflat, mkv, List.take_succ_cons, List.take_zero, List.head?_cons, List.drop_succ_cons, List.drop_zero, ih]
    rfl
def mvAt (lits L : List Int) (k : Nat) : List Int := (L.take k).map (moveL lits) ++ L.drop k
theorem mvAt_len (lits L : List Int) {k : Nat} (h : k ≤ L.length) : (mvAt lits L k).length = L.length := by simp [mvAt]; omega
theorem mvAt_get (lits : List Int) {L : List Int} {k : Nat} (h : k < L.length) : (mvAt lits L k).getD k 0 = L[k] := by
  unfold mvAt
  simp only [List.getD_eq_getElem?_getD]
  rw [List.getElem?_append_right (by simp; omega)]
  simp [show min k L.length = k by omega, h]
theorem mvAt_set (lits : List Int) {L : List Int} {k : Nat} (h : k < L.length) : (mvAt lits L k).set k (moveL lits L[k]) = mvAt lits L (k + 1) := by
  unfold mvAt
  rw [List.set_append_right _ _ (by simp; omega), List.take_add_one, List.getElem?_eq_getElem h, List.map_append]
  simp only [Option.toList_some, List.map_cons, List.map_nil, List.length_map, List.length_take, show min k L.length = k by omega, Nat.sub_self, List.append_assoc, List.singleton_append]
  rw [List.drop_eq_getElem_cons h, List.set_cons_zero]
theorem mvAt_all (lits L : List Int) : mvAt lits L L.length = L.map (moveL lits) := by simp [mvAt]
theorem mvAt_zero (lits L : List Int) : mvAt lits L 0 = L := by simp [mvAt]
set_option maxRecDepth 20000 in
set_option maxHeartbeats 16000000 in
theorem rf_Balance (g : Aig) (σ : Sig) (hg : Sml g) : ACalls Try.prog 21 [encAig g] σ (fun r σ' => r = .ret (.tup [encAig (balance g), .int .i64 0]) ∧ σ' = σ) := by
  refine calls_x mixed Try.func21 b21 n21 rfl q21 (by simp) ?_; unfold c21 r21
  have ez : ((0 : Int) != 0) = false := by decide
  have hlo := hg.lo
  have h1 := hg.ins
  have h2 := hg.flops
  have h3 := hg.ands
  have h4 := hg.outs
  have hsm : Small g := check_small hg.wf hg.chk
  have hk := fun τ => A.ref_Check g τ hg.wf
  rw [hg.chk] at hk
  have hfst : g.first ≤ 200 ∧ 1 ≤ g.first := by simp only [Aig.first]; omega
  have hbe := fun τ => rf_begun g τ hg
  have hfc := fun τ => rf_first g τ hsm
  have hsa := fun τ => rf_same g τ hsm (by omega)
  have cf := count_first g
  obtain ⟨N, hN⟩ : ∃ N : Nat, 1 + g.count = (N : Int) := ⟨(1 + g.count).toNat, by omega⟩
  have hin := fun τ => rf_inner g N τ hg hN
  obtain ⟨g1, g2⟩ := bgn_none hg
  rw [← g2] at hbe
  repeat' (first | simp (maxDischargeDepth := 9) -implicitDefEqProofs -dsimp only [go_sem, seval, *] | simp (disch := omega) only [wrap64] | ((with_reducible refine Zv ?_ ?_); focus (first | omega | exact rfl)) | ((with_reducible refine Zu ?_ ?_); focus omega) | ((with_reducible refine Zt (fun oF hoF hnF hnF' => ?_)); (try simp only [upd_none, ne_eq, not_and] at hoF)) | ((with_reducible apply ACalls.one1); (focus ((first | with_reducible refine hk _ | with_reducible refine hin _ | with_reducible refine hbe _ | with_reducible refine ACalls.flA (hk _) ?_ | with_reducible refine ACalls.flA (hin _) ?_ | with_reducible refine ACalls.flA (hbe _) ?_) <;> (first | (simp (maxDischargeDepth := 9) -implicitDefEqProofs -dsimp only [go_sem, seval, *]; done) | omega))); (focus (first | trivial | with_reducible exact rfl | (simp (maxDischargeDepth := 9) -implicitDefEqProofs -dsimp only [go_sem, seval]; done)))))
  rename_i oR hR nR nR'
  obtain ⟨oH, eH⟩ : ∃ x, x = oF := ⟨oF, rfl⟩
  subst eH
  obtain ⟨c1, c2⟩ := hoF
  clear nR nR' hnF hnF' hk hbe hin
  repeat' (first | simp (maxDischargeDepth := 9) -implicitDefEqProofs -dsimp only [go_sem, seval, *] | simp (disch := omega) only [wrap64] | ((with_reducible refine Zv ?_ ?_); focus (first | omega | exact rfl)) | ((with_reducible refine Zu ?_ ?_); focus omega) | ((with_reducible refine Zt (fun oF hoF hnF hnF' => ?_)); (try simp only [upd_none, ne_eq, not_and] at hoF)) | ((with_reducible apply ACalls.newO); (focus ((first | with_reducible refine hsa _ | with_reducible refine ACalls.flA (hsa _) ?_) <;> (first | (simp (maxDischargeDepth := 9) -implicitDefEqProofs -dsimp only [go_sem, seval, *]; done) | omega))); (intro oF hoF hnF hnF'); (try simp only [upd_none, ne_eq, not_and] at hoF)))
  obtain ⟨oM, eM⟩ : ∃ x, x = oF := ⟨oF, rfl⟩
  subst eM
  obtain ⟨b1, b2, b3⟩ := hoF
  have d1 : ¬ oR = oH := fun e => c1 e.symm
  have d2 : ¬ oR = oM := fun e => b2 e.symm
  have d3 : ¬ oH = oM := fun e => b1 e.symm
  clear hnF hnF' hsa
  refine loop_rule (fun i : Nat => [(8, some (.int .i64 i)), (1, some (.cptr (aigL g))), (5, some (.slice ((iRow g N N).map encBool) .no)), (7, some (ilist (balAt g i).lits (.own oM))), (6, some (.ptr oH 0)), (2, some (.ptr oR 0))])
    (fun i => upd (upd (upd σ oR (.cells [.int .i64 0, .slice [] .nil, .slice [] .nil, .slice [] .nil])) oH (.cells (aigL (balAt g i).g))) oM (.grow 1 (balAt g i).lits.length))
    (fun i => i ≤ g.ands.length) (fun i => g.ands.length - i) 0 ?_ ?_
  · have e0 : (balAt g 0).g = (bgn g fun _ => none).g := rfl
    have e1 : (balAt g 0).lits = evL g.first.toNat := g1
    have e2 := evL_len g.first.toNat
    (repeat' (first | simp (maxDischargeDepth := 9) -implicitDefEqProofs -dsimp only [go_sem, seval, e0, e1, e2, Int.natCast_zero, *] | simp (disch := omega) only [wrap64])) <;> (repeat' refine And.intro ?_ ?_) <;> (first | omega | rfl | assumption | skip)
  · intro i hi
    have J := bal_inv hg i hi
    have hc := J.cnt hg hi
    have l3 := J.len
    have l2 : ∀ x ∈ (balAt g i).lits, 0 ≤ x ∧ x ≤ 1000000 := fun x hx => lit_le hc (J.lits x hx)
    by_cases hlt : i < g.ands.length
    · have hlt' : (i : Int) < g.ands.length := by omega
      obtain ⟨I, hI, hh, hget⟩ : ∃ I : List Bool, iRow g N N = I ∧ ∃ hh : (g.first + (i : Int)).toNat < I.length, I[(g.first + (i : Int)).toNat] = innM g (g.first + i) := by
        obtain ⟨hh, hget⟩ := iRow_get g (N := N) (n := (g.first + (i : Int)).toNat) (by omega)
        rw [show (((g.first + (i : Int)).toNat : Nat) : Int) = g.first + i by omega] at hget
        exact ⟨_, rfl, hh, hget⟩
      rw [hI]
      have hb0 : 0 ≤ g.first + (i : Int) ∧ g.first + (i : Int) ≤ 1000 := by omega
      have hL : (balAt g i).lits.length ≤ 1000 := by omega
      have hnx : balAt g (i + 1) = if innM g (g.first + i) then ⟨(balAt g i).g, (balAt g i).lits ++ [0], (balAt g i).lev⟩ else ⟨(joinB ((leavesOf g i).map (moveL (balAt g i).lits)).length (balAt g i) ((leavesOf g i).map (moveL (balAt g i).lits))).1.g, (balAt g i).lits ++ [(joinB ((leavesOf g i).map (moveL (balAt g i).lits)).length (balAt g i) ((leavesOf g i).map (moveL (balAt g i).lits))).2], (joinB ((leavesOf g i).map (moveL (balAt g i).lits)).length (balAt g i) ((leavesOf g i).map (moveL (balAt g i).lits))).1.lev⟩ := by
        conv => lhs; unfold balAt
      cases hn : innM g (g.first + i) with
      | true =>
        rw [hn, if_pos rfl] at hnx
        rw [hn] at hget
        obtain ⟨b, hbe⟩ : ∃ b, balAt g i = b := ⟨_, rfl⟩
        rw [hbe] at hnx hL ⊢
        clear hn hI J hc l3 l2 hbe g1 g2 hsm
        repeat' (first | simp (maxDischargeDepth := 9) -implicitDefEqProofs -dsimp only [go_sem, seval, *] | simp (disch := omega) only [wrap64] | ((with_reducible refine Zv ?_ ?_); focus (first | omega | exact rfl)) | ((with_reducible refine Zu ?_ ?_); focus omega) | ((with_reducible refine Zt (fun oF hoF hnF hnF' => ?_)); (try simp only [upd_none, ne_eq, not_and] at hoF)) | ((with_reducible apply ACalls.one1); (focus ((first | with_reducible refine hfc _ | with_reducible refine ACalls.flA (hfc _) ?_) <;> (first | (simp (maxDischargeDepth := 9) -implicitDefEqProofs -dsimp only [go_sem, seval, *]; done) | omega))); (focus (first | trivial | with_reducible exact rfl | (simp (maxDischargeDepth := 9) -implicitDefEqProofs -dsimp only [go_sem, seval]; done)))))
        refine loop_next _ _ _ _ (i + 1) ?_; (repeat' (first | simp (maxDischargeDepth := 9) -implicitDefEqProofs -dsimp only [go_sem, seval,  ilist, List.map_append, List.map_cons, List.map_nil, List.length_append, List.length_cons, List.length_nil, *] | simp (disch := omega) only [wrap64])) <;> (repeat' refine And.intro ?_ ?_) <;> (first | omega | rfl | assumption | skip)
      | false =>
        rw [hn, if_neg (by simp)] at hnx
        rw [hn] at hget
        have hJI := J.ji hg hlt hn
        obtain ⟨⟨q1, q2⟩, q3, q4⟩ := gate_bounds hg hlt
        have v0 := rf_leaves g N hg hN (g.ands[i].1 / 2).toNat g.ands[i].1 (Nat.le_refl _) q1 (by omega)
        have v1 := rf_leaves g N hg hN (g.ands[i].2 / 2).toNat g.ands[i].2 (Nat.le_refl _) q3 (by omega)
        have hll := leavesOf_len hg hlt hn
        have hlm := fun x hx => leavesOf_mem hg hlt (x := x) hx
        have hlof : leavesOf g i = leavesG g g.ands[i].1 ++ leavesG g g.ands[i].2 := by unfold leavesOf; rw [ands_getD hlt]
        have hmv := fun x hx τ => rf_moved (balAt g i).lits (.own oM) x τ (hlm x hx).1 (by have := hlm x hx; omega) l2 (by have := hlm x hx; omega)
        unfold LvOk at v0 v1
        rw [hI] at v0 v1
        obtain ⟨x0, hx0⟩ : ∃ x, g.ands[i].1 = x := ⟨_, rfl⟩
        obtain ⟨x1, hx1⟩ : ∃ x, g.ands[i].2 = x := ⟨_, rfl⟩
        rw [hx0] at v0 hlof
        rw [hx1] at v1 hlof
        obtain ⟨L0, hL0⟩ : ∃ L, leavesG g x0 = L := ⟨_, rfl⟩
        obtain ⟨L1, hL1⟩ : ∃ L, leavesG g x1 = L := ⟨_, rfl⟩
        rw [hL0] at v0 hlof
        rw [hL1] at v1 hlof
        rw [hlof] at hll hmv hJI hnx
        rw [List.length_append] at hll
        have w0 := fun τ => (v0 τ).1 (by omega)
        have w1 := fun τ o h => (v1 τ).2 o L0 L0.length rfl h (by omega)
        obtain ⟨M, hM⟩ : ∃ M, L0 ++ L1 = M := ⟨_, rfl⟩
        have hMl : L0.length + L1.length = M.length := by rw [← hM, List.length_append]
        rw [hM] at hmv hJI hnx w1
        rw [hMl] at w1 hll
        have hM2 : M.length ≤ 1000 := by omega
        have cJ := fun τ => rf_joined (balAt g i) (M.map (moveL (balAt g i).lits)) τ hJI
        obtain ⟨⟨b2, z⟩, hz⟩ : ∃ r, joinB (M.map (moveL (balAt g i).lits)).length (balAt g i) (M.map (moveL (balAt g i).lits)) = r := ⟨_, rfl⟩
        rw [hz] at cJ hnx
        simp only at cJ hnx
        obtain ⟨b, hbe⟩ : ∃ b, balAt g i = b := ⟨_, rfl⟩
        rw [hbe] at hnx hL hmv cJ ⊢
        have hlt2 := hlt'
        clear v0 v1 hlof hlm hJI hM hMl hz hL0 hL1 hn hI J hc l3 l2 hbe g1 g2 q1 q2 q3 q4 hsm
        repeat' (first | simp (maxDischargeDepth := 9) -implicitDefEqProofs -dsimp only [go_sem, seval, *] | simp (disch := omega) only [wrap64] | ((with_reducible refine Zv ?_ ?_); focus (first | omega | exact rfl)) | ((with_reducible refine Zu ?_ ?_); focus omega) | ((with_reducible refine Zt (fun oF hoF hnF hnF' => ?_)); (try simp only [upd_none, ne_eq, not_and] at hoF)) | ((with_reducible apply ACalls.one1); (focus ((first | with_reducible refine hfc _ | with_reducible refine ACalls.flA (hfc _) ?_) <;> (first | (simp (maxDischargeDepth := 9) -implicitDefEqProofs -dsimp only [go_sem, seval, *]; done) | omega))); (focus (first | trivial | with_reducible exact rfl | (simp (maxDischargeDepth := 9) -implicitDefEqProofs -dsimp only [go_sem, seval]; done)))))
        refine id_new (ren_vec _) (fun τ _ => w0 τ) ?_
        intro oN hoN hnN hnN'
        simp only [upd_none, ne_eq, not_and] at hoN
        obtain ⟨e1, e2, e3, e4⟩ := hoN
        have e5 : ¬ oR = oN := fun e => e3 e.symm
        have e6 : ¬ oH = oN := fun e => e2 e.symm
        have e7 : ¬ oM = oN := fun e => e1 e.symm
        clear hnN hnN' w0
        repeat' (first | simp (maxDischargeDepth := 9) -implicitDefEqProofs -dsimp only [go_sem, seval, *] | simp (disch := omega) only [wrap64] | ((with_reducible refine Zv ?_ ?_); focus (first | omega | exact rfl)) | ((with_reducible refine Zu ?_ ?_); focus omega) | ((with_reducible refine Zt (fun oF hoF hnF hnF' => ?_)); (try simp only [upd_none, ne_eq, not_and] at hoF)) | ((with_reducible apply ACalls.one1); (focus ((first | with_reducible refine w1 _ _ ?_ | with_reducible refine ACalls.flA (w1 _ _ ?_) ?_) <;> (first | (simp (maxDischargeDepth := 9) -implicitDefEqProofs -dsimp only [go_sem, seval, *]; done) | omega))); (focus (first | trivial | with_reducible exact rfl | (simp (maxDischargeDepth := 9) -implicitDefEqProofs -dsimp only [go_sem, seval]; done)))) | ((with_reducible apply id_one1); (focus (intro tS hS; ((first | with_reducible refine w1 _ _ ?_ | with_reducible refine ACalls.flA (w1 _ _ ?_) ?_) <;> (first | (simp (maxDischargeDepth := 9) -implicitDefEqProofs -dsimp only [go_sem, seval, *]; done) | omega | ((with_reducible refine Sub.get hS ?_); simp (maxDischargeDepth := 9) -implicitDefEqProofs -dsimp only [go_sem, seval, *]; done))))); (focus (first | trivial | (simp (maxDischargeDepth := 9) -implicitDefEqProofs -dsimp only [go_sem, seval, *]; done)))))
        refine loop_rule (fun k : Nat => [(10, some (.int .i64 k)), (9, some (.vec oN M.length)), (7, some (ilist b.lits (.own oM))), (6, some (.ptr oH 0)), (8, some (.int .i64 i)), (1, some (.cptr (aigL g))), (5, some (.slice (I.map encBool) .no)), (2, some (.ptr oR 0))])
          (fun k => upd (upd (upd (upd σ oR (.cells [.int .i64 0, .slice [] .nil, .slice [] .nil, .slice [] .nil])) oH (.cells (aigL b.g))) oM (.grow 1 b.lits.length)) oN (.vec 1 M.length ((mvAt b.lits M k).map encInt)))
          (fun k => k ≤ M.length) (fun k => M.length - k) 0 ?_ ?_
        · have e0 := mvAt_zero b.lits M
          (repeat' (first | simp (maxDischargeDepth := 9) -implicitDefEqProofs -dsimp only [go_sem, seval, e0, Int.natCast_zero, *] | simp (disch := omega) only [wrap64])) <;> (repeat' refine And.intro ?_ ?_) <;> (first | omega | rfl | assumption | skip)
        · intro k hk
          have hml := mvAt_len b.lits M hk
          clear w1
          by_cases hkl : k < M.length
          · have hkl' : (k : Int) < M.length := by omega
            have hgt := mvAt_get b.lits hkl
            have hst := mvAt_set b.lits hkl
            have hm := hmv _ (List.getElem_mem hkl)
            have hp := put_int (mvAt b.lits M k) k (moveL b.lits M[k]) (by omega)
            have hhd := head_int (l := mvAt b.lits M k) (i := k) (by omega)
            rw [hst] at hp
            rw [hgt] at hhd
            obtain ⟨x, hx⟩ : ∃ x, M[k] = x := ⟨_, rfl⟩
            rw [hx] at hm hp hhd
            obtain ⟨u, hu⟩ : ∃ u, moveL b.lits x = u := ⟨_, rfl⟩
            rw [hu] at hm hp
            obtain ⟨R, hR⟩ : ∃ R, mvAt b.lits M k = R := ⟨_, rfl⟩
            rw [hR] at hp hhd hml ⊢
            clear hmv cJ hnx hgt hst hx hu hR hget hN hfc
            repeat' (first | simp (maxDischargeDepth := 9) -implicitDefEqProofs -dsimp only [go_sem, seval, *] | simp (disch := omega) only [wrap64] | ((with_reducible refine Zv ?_ ?_); focus (first | omega | exact rfl)) | ((with_reducible refine Zu ?_ ?_); focus omega) | ((with_reducible refine Zt (fun oF hoF hnF hnF' => ?_)); (try simp only [upd_none, ne_eq, not_and] at hoF)) | ((with_reducible apply ACalls.one1); (focus ((first | with_reducible refine hm _ | with_reducible refine ACalls.flA (hm _) ?_) <;> (first | (simp (maxDischargeDepth := 9) -implicitDefEqProofs -dsimp only [go_sem, seval, *]; done) | omega))); (focus (first | trivial | with_reducible exact rfl | (simp (maxDischargeDepth := 9) -implicitDefEqProofs -dsimp only [go_sem, seval]; done)))))
            refine loop_next _ _ _ _ (k + 1) ?_; (repeat' (first | simp (maxDischargeDepth := 9) -implicitDefEqProofs -dsimp only [go_sem, seval, *] | simp (disch := omega) only [wrap64])) <;> (repeat' refine And.intro ?_ ?_) <;> (first | omega | rfl | assumption | skip)
          · have hkl' : ¬ (k : Int) < M.length := by omega
            have ek : k = M.length := by omega
            subst ek
            rw [mvAt_all]
            have hun := unflat_1 ((M.map (moveL b.lits)).map encInt)
            rw [List.length_map, List.length_map] at hun
            obtain ⟨W, hW⟩ : ∃ W, M.map (moveL b.lits) = W := ⟨_, rfl⟩
            rw [hW] at hun cJ ⊢
            clear hmv hkl hk hml hW hget hN hfc
            repeat' (first | simp (maxDischargeDepth := 9) -implicitDefEqProofs -dsimp only [go_sem, seval, imp_self, true_implies, *] | simp (disch := omega) only [wrap64] | ((with_reducible refine Zv ?_ ?_); focus (first | omega | exact rfl)) | ((with_reducible refine Zu ?_ ?_); focus omega) | ((with_reducible refine Zt (fun oF hoF hnF hnF' => ?_)); (try simp only [upd_none, ne_eq, not_and] at hoF)) | ((with_reducible apply ACalls.one1); (focus ((first | with_reducible refine cJ _ | with_reducible refine ACalls.flA (cJ _) ?_) <;> (first | (simp (maxDischargeDepth := 9) -implicitDefEqProofs -dsimp only [go_sem, seval, *]; done) | omega))); (focus (first | trivial | with_reducible exact rfl | (simp (maxDischargeDepth := 9) -implicitDefEqProofs -dsimp only [go_sem, seval]; done)))))
            refine loop_next _ _ _ _ (i + 1) ?_; (repeat' (first | simp (maxDischargeDepth := 9) -implicitDefEqProofs -dsimp only [go_sem, seval,  ilist, List.map_append, List.map_cons, List.map_nil, List.length_append, List.length_cons, List.length_nil, *] | simp (disch := omega) only [wrap64])) <;> (repeat' refine And.intro ?_ ?_) <;> (first | omega | rfl | assumption | skip)
    · have hlt' : ¬ (i : Int) < g.ands.length := by omega
      have ei : i = g.ands.length := by omega
      subst ei
      have hnx : ∀ f ∈ g.flops, 0 ≤ f.next ∧ (f.next / 2).toNat < (balAt g g.ands.length).lits.length ∧ f.next ≤ 1000000 := fun f hf => by
        have := good_flops hg.good hf
        rw [l3]; omega
      have hol : ∀ a ∈ g.outs, 0 ≤ a ∧ (a / 2).toNat < (balAt g g.ands.length).lits.length ∧ a ≤ 1000000 := fun a ha => by
        have := good_outs hg.good ha
        rw [l3]; omega
      have hend := fun τ => rf_ended (balAt g g.ands.length).g g (balAt g g.ands.length).lits (.own oM) τ l2 hnx hol (by omega) (by omega)
      have e0 : endR (balAt g g.ands.length).g g (balAt g g.ands.length).lits = balance g := (endG_eq J.outs).symm
      rw [e0] at hend
      obtain ⟨b, hb⟩ : ∃ b, balAt g g.ands.length = b := ⟨_, rfl⟩
      rw [hb] at hend ⊢
      clear hnx hol l2 l3 hlt hi hsm J hc hb g1 g2 hN hfc
      repeat' (first | simp (maxDischargeDepth := 9) -implicitDefEqProofs -dsimp only [go_sem, seval, *] | simp (disch := omega) only [wrap64] | ((with_reducible refine Zv ?_ ?_); focus (first | omega | exact rfl)) | ((with_reducible refine Zu ?_ ?_); focus omega) | ((with_reducible refine Zt (fun oF hoF hnF hnF' => ?_)); (try simp only [upd_none, ne_eq, not_and] at hoF)) | ((with_reducible apply ACalls.one1); (focus ((first | with_reducible refine hend _ | with_reducible refine ACalls.flA (hend _) ?_) <;> (first | (simp (maxDischargeDepth := 9) -implicitDefEqProofs -dsimp only [go_sem, seval, *]; done) | omega))); (focus (first | trivial | with_reducible exact rfl | (simp (maxDischargeDepth := 9) -implicitDefEqProofs -dsimp only [go_sem, seval]; done)))))
      refine fin_eq ?_
      (repeat' (first | simp (maxDischargeDepth := 9) -implicitDefEqProofs -dsimp only [go_sem, seval, *] | simp (disch := omega) only [wrap64])) <;> (repeat' refine And.intro ?_ ?_) <;> (first | omega | rfl | assumption | skip)
theorem rf_Balance_err (g : Aig) (e : Int) (σ : Sig) (hs : Wf g) (he : g.check = e) (h0 : e ≠ 0) : ACalls Try.prog 21 [encAig g] σ (fun r σ' => r = .ret (.tup [encAig ⟨0, [], [], []⟩, .int .i64 e]) ∧ σ' = σ) := by
  refine calls_x mixed Try.func21 b21 n21 rfl q21 (by simp) ?_; unfold c21 r21
  have hb : (e != 0) = true := by simpa using h0
  have hck := fun τ => A.ref_Check g τ hs
  rw [he] at hck
  repeat' (first | simp (maxDischargeDepth := 9) -implicitDefEqProofs -dsimp only [go_sem, seval, *] | ((with_reducible refine Zt (fun oF hoF hnF hnF' => ?_)); (try simp only [upd_none, ne_eq, not_and] at hoF)) | ((with_reducible apply ACalls.one1); (focus ((first | with_reducible refine hck _) <;> (first | (simp (maxDischargeDepth := 9) -implicitDefEqProofs -dsimp only [go_sem, seval, *]; done) | omega))); (focus (first | trivial | with_reducible exact rfl | (simp (maxDischargeDepth := 9) -implicitDefEqProofs -dsimp only [go_sem, seval]; done)))))
  refine fin_eq ?_
  (repeat' (first | simp (maxDischargeDepth := 9) -implicitDefEqProofs -dsimp only [go_sem, seval, List.map_nil, *])) <;> (repeat' refine And.intro ?_ ?_) <;> (first | omega | rfl | assumption | skip)
end Go.Proofs.Ytapnlmhfacoceaa

namespace Go.Proofs.Ytapnlmhfacoceaa
open Abs Fil Fil.Rw
set_option maxRecDepth 20000 in
set_option maxHeartbeats 8000000 in
theorem rewrFlat_ok (g : Aig) (σ : Sig) (hw : Wide g) : ACalls Try.prog 4 [encAig g] σ (fun r σ' => r = .ret (.bool true) ∧ σ' = σ) := by
  refine calls_x mixed Try.func4 b4 n4 rfl q4 (by simp) ?_; unfold c4 r4
  have hf := law_few g
  cases hfw : fewR g with
  | false =>
    rw [hfw] at hf
    clear hfw hw
    repeat' (first | simp (maxDischargeDepth := 9) -implicitDefEqProofs -dsimp only [go_sem, seval, *] | ((with_reducible refine Zt (fun oF hoF hnF hnF' => ?_)); clear hnF hnF'; (try simp only [Zw, ne_eq] at hoF)) | ((with_reducible apply ACalls.one1); (focus ((first | with_reducible refine law_live _ | with_reducible refine hf _) <;> (first | (simp (maxDischargeDepth := 9) -implicitDefEqProofs -dsimp only [go_sem, seval, *]; done) | omega))); (focus (first | trivial | with_reducible exact rfl | (simp (maxDischargeDepth := 9) -implicitDefEqProofs -dsimp only [go_sem, seval]; done)))))
    refine fin_eq ?_
    (repeat' (first | simp (maxDischargeDepth := 9) -implicitDefEqProofs -dsimp only [go_sem, seval, *])) <;> (repeat' refine And.intro ?_ ?_) <;> (first | omega | rfl | assumption | skip)
  | true =>
    rw [hfw] at hf
    obtain ⟨wf, hs⟩ := few_sml hw hfw
    have key : ∃ (a : Aig) (e : Int), (∀ τ, ACalls Try.prog 20 [encAig g] τ (fun r σ' => r = .ret (.tup [encAig a, .int .i64 e]) ∧ σ' = τ)) ∧ (∀ τ, ACalls Try.prog 21 [encAig g] τ (fun r σ' => r = .ret (.tup [encAig a, .int .i64 e]) ∧ σ' = τ)) ∧
        a.flops.length ≤ 60 ∧ a.ands.length ≤ 200 ∧ a.outs.length ≤ 60 := by
      by_cases hc : g.check = 0
      · have hg := hs hc
        have s1 := (bal_less hg).sml
        exact ⟨balance g, 0, fun τ => rw_Balance g τ hg, fun τ => rf_Balance g τ hg, s1.flops, s1.ands, s1.outs⟩
      · exact ⟨⟨0, [], [], []⟩, g.check, fun τ => rw_Balance_err g _ τ wf rfl hc, fun τ => rf_Balance_err g _ τ wf rfl hc, by simp⟩
    obtain ⟨a, e, c1, c2, b1, b2, b3⟩ := key
    have q1 := fun τ => A.ref_Same a a τ (by omega) (by omega) (by omega)
    have ee : (e == e) = true := by simp
    clear hfw hw hs wf b1 b2 b3
    repeat' (first | simp (maxDischargeDepth := 9) -implicitDefEqProofs -dsimp only [go_sem, seval, decide_true, *] | ((with_reducible refine Zt (fun oF hoF hnF hnF' => ?_)); clear hnF hnF'; (try simp only [Zw, ne_eq] at hoF)) | ((with_reducible apply ACalls.one1); (focus ((first | with_reducible refine law_live _ | with_reducible refine hf _ | with_reducible refine c1 _ | with_reducible refine c2 _ | with_reducible refine q1 _) <;> (first | (simp (maxDischargeDepth := 9) -implicitDefEqProofs -dsimp only [go_sem, seval, *]; done) | omega))); (focus (first | trivial | with_reducible exact rfl | (simp (maxDischargeDepth := 9) -implicitDefEqProofs -dsimp only [go_sem, seval]; done)))))
    refine fin_eq ?_
    (repeat' (first | simp (maxDischargeDepth := 9) -implicitDefEqProofs -dsimp only [go_sem, seval, *])) <;> (repeat' refine And.intro ?_ ?_) <;> (first | omega | rfl | assumption | skip)
end Go.Proofs.Ytapnlmhfacoceaa

