/- equiv: EquivMiters. -/
import Derived.Test.YtjichkelfhcbcaaEqvEqvQ
set_option linter.unusedSimpArgs false
set_option linter.unusedVariables false
namespace Go.Proofs.Ytjichkelfhcbcaa
open Abs Fil Fil.Eqv
theorem lits_grow (g : Aig) : ∃ la : Nat → List Int, la 0 = g.outs ∧ (∀ k (h : k < g.flops.length), la (k + 1) = la k ++ [g.flops[k].next]) ∧ (∀ k, k ≤ g.flops.length → (la k).length = g.outs.length + k) ∧ la g.flops.length = lits g := by
  refine ⟨fun k => g.outs ++ (g.flops.take k).map (·.next), by simp, fun k h => ?_, fun k h => by simp; omega, by simp [lits]⟩
  show g.outs ++ (g.flops.take (k + 1)).map (·.next) = g.outs ++ (g.flops.take k).map (·.next) ++ [g.flops[k].next]
  rw [List.take_add_one, List.getElem?_eq_getElem h, List.map_append, List.append_assoc]; rfl
set_option maxRecDepth 20000 in
set_option maxHeartbeats 8000000 in
theorem ref_Miter (g h : Aig) (t : Two g h) (σ : Sig) :
    ACalls Try.prog 19 [encAig g, encAig h] σ (fun r σ' => r = .ret (.tup [encAig (miterM g h), .int .i64 0]) ∧ σ' = σ) := by
  refine calls_x mixed Try.func19 b19 n19 rfl q19 (by simp) ?_; unfold c19 r19; try dsimp only [Yi, Yj]
  have ez : ((0 : Int) != 0) = false := by decide
  have hck : chk2 g h = 0 := by unfold chk2; rw [t.gg.check, if_neg (by simp), t.hh.check]
  have hg := t.gg.wf
  have hh := t.hh.wf
  have hins := t.ins
  have hfl := t.flops
  have hou := t.outs
  have hlo := t.gg.lo
  have h8 := t.gg.eight
  have hfew := t.few
  have hb1 : (g.ins != h.ins) = false := by simpa using hins
  have hb2 : ((g.flops.length : Int) != h.flops.length) = false := by simp [hfl]
  have hb3 : ((g.outs.length : Int) != h.outs.length) = false := by simp [hou]
  have hal : g.ands.length ≤ 1000000 := by omega
  have hfl1 : g.flops.length ≤ 8 := by omega
  have hfl2 : h.flops.length ≤ 8 := by omega
  have hou1 := t.gg.outs
  have hou2 := t.hh.outs
  obtain ⟨N, hN⟩ : ∃ N : Nat, (N : Int) = g.ins + g.flops.length := ⟨(g.ins + g.flops.length).toNat, by omega⟩
  have hN' : g.ins + g.flops.length = (N : Int) := hN.symm
  have hto : (to0 g).length = N + 1 := by simp [to0]; omega
  have htg : ∀ i, i < N + 1 → (to0 g).getD i 0 = 2 * (i : Int) := fun i hi => by
    have hi2 : i < (1 + g.ins + g.flops.length).toNat := by omega
    simp [to0, List.getD_eq_getElem?_getD, hi2]
  have hN10 : N ≤ 8 := by omega
  clear hN hins hfl hou
  have hr : List.replicate g.flops.length (AV.agg [.int .i64 0, .bool false]) = (List.replicate g.flops.length (⟨0, false⟩ : Flop)).map encFlop := by rw [List.map_replicate]
  repeat' (first | simp (maxDischargeDepth := 9) -implicitDefEqProofs -dsimp only [go_sem, seval, *] | simp (disch := omega) only [wrap64] | (with_reducible (first | apply Zs) <;> intro hq) | ((with_reducible refine Zv ?_ ?_); focus (first | omega | exact rfl)) | ((with_reducible refine Zu ?_ ?_); focus omega) | ((with_reducible refine Zt (fun oF hoF hnF hnF' => ?_)); clear hnF hnF'; (try simp only [Zw, ne_eq] at hoF)) | ((with_reducible apply ACalls.one1); (focus ((first | with_reducible refine ref_checks g h _ hg hh | with_reducible refine ACalls.flA (ref_checks g h _ hg hh) ?_) <;> (first | (simp (maxDischargeDepth := 9) -implicitDefEqProofs -dsimp only [go_sem, seval, *]; done) | omega))); (focus (first | trivial | with_reducible exact rfl | (simp (maxDischargeDepth := 9) -implicitDefEqProofs -dsimp only [go_sem, seval]; done)))))
  case' h1 => rename_i o4 h4 oL hL o7 h7
  case' h2 => rename_i o4 h4 oL hL oA hA o7 h7
  all_goals
    obtain ⟨oT, eT⟩ : ∃ x, x = oF := ⟨oF, rfl⟩
    subst eT
    refine loop_rule (fun i : Nat => [(9, some (.int .i64 i)), (2, some (.cptr (aigL g))), (8, some (.slice (((to0 g).take i).map encInt) (.own oT))), (3, some (.cptr (aigL h))), (7, some (.ptr o7 0)), (4, some (.ptr o4 0))])
      (fun i => upd (upd (upd σ o4 (.cells [.int .i64 0, .slice [] .nil, .slice [] .nil, .slice [] .nil])) o7 (.cells (aigL (m0 g)))) oT (.grow 1 i)) (fun i => i ≤ N + 1) (fun i => N + 1 - i) 0 ?_ ?_
    · clear htg hto
      (repeat' (first | simp (maxDischargeDepth := 9) -implicitDefEqProofs -dsimp only [go_sem, seval, m0, hr, *] | simp (disch := omega) only [wrap64])) <;> (repeat' refine And.intro ?_ ?_) <;> (first | omega | rfl | assumption | skip)
    · intro i hi
      by_cases hlt : i < N + 1
      · have hlt' : (i : Int) ≤ N := by omega
        have hs : (to0 g).take (i + 1) = (to0 g).take i ++ [2 * (i : Int)] := by
          have hLi : i < (to0 g).length := by omega
          rw [List.take_add_one, List.getElem?_eq_getElem hLi, ← htg i hlt]
          simp [List.getD_eq_getElem?_getD, hLi]
        have hlen : ((to0 g).take i).length = i := by simp; omega
        clear htg hr
        repeat' (first | simp (maxDischargeDepth := 9) -implicitDefEqProofs -dsimp only [go_sem, seval, *] | simp (disch := omega) only [wrap64] | (with_reducible (first | apply Zs) <;> intro hq) | ((with_reducible refine Zv ?_ ?_); focus (first | omega | exact rfl)) | ((with_reducible refine Zu ?_ ?_); focus omega) | ((with_reducible refine Zt (fun oF hoF hnF hnF' => ?_)); clear hnF hnF'; (try simp only [Zw, ne_eq] at hoF)))
        refine loop_next _ _ _ _ (i + 1) ?_; (repeat' (first | simp (maxDischargeDepth := 9) -implicitDefEqProofs -dsimp only [go_sem, seval,  List.map_append, List.map_cons, List.map_nil, *] | simp (disch := omega) only [wrap64])) <;> (repeat' refine And.intro ?_ ?_) <;> (first | omega | rfl | assumption | skip)
      · have e : i = N + 1 := by omega
        subst e
        have hlt' : ¬ (N : Int) + 1 ≤ N := by omega
        have e0 : (to0 g).take (N + 1) = to0 g := List.take_of_length_le (by omega)
        have z0 : mAt g h 0 = (m0 g, to0 g) := by simp [mAt]
        clear htg hr hlt
        repeat' (first | simp (maxDischargeDepth := 9) -implicitDefEqProofs -dsimp only [go_sem, seval, *] | simp (disch := omega) only [wrap64] | (with_reducible (first | apply Zs) <;> intro hq) | ((with_reducible refine Zv ?_ ?_); focus (first | omega | exact rfl)) | ((with_reducible refine Zu ?_ ?_); focus omega) | ((with_reducible refine Zt (fun oF hoF hnF hnF' => ?_)); clear hnF hnF'; (try simp only [Zw, ne_eq] at hoF)))
        refine loop_rule (fun j : Nat => [(10, some (.int .i64 j)), (3, some (.cptr (aigL h))), (7, some (.ptr o7 0)), (8, some (.slice ((mAt g h j).2.map encInt) (.own oT))), (4, some (.ptr o4 0)), (2, some (.cptr (aigL g)))])
          (fun j => upd (upd (upd σ o4 (.cells [.int .i64 0, .slice [] .nil, .slice [] .nil, .slice [] .nil])) o7 (.cells (aigL (mAt g h j).1))) oT (.grow 1 (N + 1 + j))) (fun j => j ≤ h.ands.length) (fun j => h.ands.length - j) 0 ?_ ?_
        · have z1 : (mAt g h 0).1 = m0 g := by rw [z0]
          have z2 : (mAt g h 0).2 = to0 g := by rw [z0]
          (repeat' (first | simp (maxDischargeDepth := 9) -implicitDefEqProofs -dsimp only [go_sem, seval, z1, z2, *] | simp (disch := omega) only [wrap64])) <;> (repeat' refine And.intro ?_ ?_) <;> (first | omega | rfl | assumption | skip)
        · intro j hj
          by_cases hlt : j < h.ands.length
          · have hlj : (j : Int) < h.ands.length := by omega
            obtain ⟨y, s1, s2, s3, s4, s5, s6, s7, s8⟩ := m_step t hlt
            have hl2 := (mAt_ok t (zs t.gg) hj).2
            rw [zeros] at hl2
            have hl3 : (mAt g h j).2.length = N + 1 + j := by omega
            obtain ⟨⟨m, to⟩, hb'⟩ : ∃ s, mAt g h j = s := ⟨_, rfl⟩
            obtain ⟨⟨m', to'⟩, hc⟩ : ∃ s, mAt g h (j + 1) = s := ⟨_, rfl⟩
            rw [hb'] at s1 s2 s3 s4 s5 s6 s7 s8 hl3 ⊢
            rw [hc] at s6 s7
            simp only at s1 s2 s3 s4 s5 s6 s7 s8 hl3
            subst s7
            have hA := fun τ => A.ref_And m (moveL to h.ands[j].1) (moveL to h.ands[j].2) τ s3
            rw [s6] at hA
            have f1 := fun τ => ref_stands to h.ands[j].1 τ s1
            have f2 := fun τ => ref_stands to h.ands[j].2 τ s2
            obtain ⟨p, hp⟩ : ∃ p, moveL to h.ands[j].1 = p := ⟨_, rfl⟩
            obtain ⟨q, hq⟩ : ∃ q, moveL to h.ands[j].2 = q := ⟨_, rfl⟩
            rw [hp] at hA f1
            rw [hq] at hA f2
            clear hb' hp hq s1 s2 s3 s4 s5 s6 hl2 z0 e0
            repeat' (first | simp (maxDischargeDepth := 9) -implicitDefEqProofs -dsimp only [go_sem, seval, List.getElem_map, List.length_map, *] | simp (disch := omega) only [wrap64] | (with_reducible (first | apply Zs) <;> intro hq) | ((with_reducible refine Zv ?_ ?_); focus (first | omega | exact rfl)) | ((with_reducible refine Zu ?_ ?_); focus omega) | ((with_reducible refine Zt (fun oF hoF hnF hnF' => ?_)); clear hnF hnF'; (try simp only [Zw, ne_eq] at hoF)) | ((with_reducible apply ACalls.one1); (focus ((first | with_reducible refine f1 _ | with_reducible refine ACalls.flA (f1 _) ?_) <;> (first | (simp (maxDischargeDepth := 9) -implicitDefEqProofs -dsimp only [go_sem, seval, *]; done) | omega))); (focus (first | trivial | with_reducible exact rfl | (simp (maxDischargeDepth := 9) -implicitDefEqProofs -dsimp only [go_sem, seval]; done)))) | ((with_reducible apply id_one0); (focus (intro tS hS; ((first | with_reducible refine f1 _ | with_reducible refine ACalls.flA (f1 _) ?_) <;> (first | (simp (maxDischargeDepth := 9) -implicitDefEqProofs -dsimp only [go_sem, seval, *]; done) | omega | ((with_reducible refine Sub.get hS ?_); simp (maxDischargeDepth := 9) -implicitDefEqProofs -dsimp only [go_sem, seval, *]; done))))); (focus (first | trivial | (simp (maxDischargeDepth := 9) -implicitDefEqProofs -dsimp only [go_sem, seval, *]; done)))))
            repeat' (first | simp (maxDischargeDepth := 9) -implicitDefEqProofs -dsimp only [go_sem, seval, List.getElem_map, List.length_map, *] | simp (disch := omega) only [wrap64] | (with_reducible (first | apply Zs) <;> intro hq) | ((with_reducible refine Zv ?_ ?_); focus (first | omega | exact rfl)) | ((with_reducible refine Zu ?_ ?_); focus omega) | ((with_reducible refine Zt (fun oF hoF hnF hnF' => ?_)); clear hnF hnF'; (try simp only [Zw, ne_eq] at hoF)) | ((with_reducible apply ACalls.one1); (focus ((first | with_reducible refine f2 _ | with_reducible refine ACalls.flA (f2 _) ?_) <;> (first | (simp (maxDischargeDepth := 9) -implicitDefEqProofs -dsimp only [go_sem, seval, *]; done) | omega))); (focus (first | trivial | with_reducible exact rfl | (simp (maxDischargeDepth := 9) -implicitDefEqProofs -dsimp only [go_sem, seval]; done)))) | ((with_reducible apply id_one0); (focus (intro tS hS; ((first | with_reducible refine f2 _ | with_reducible refine ACalls.flA (f2 _) ?_) <;> (first | (simp (maxDischargeDepth := 9) -implicitDefEqProofs -dsimp only [go_sem, seval, *]; done) | omega | ((with_reducible refine Sub.get hS ?_); simp (maxDischargeDepth := 9) -implicitDefEqProofs -dsimp only [go_sem, seval, *]; done))))); (focus (first | trivial | (simp (maxDischargeDepth := 9) -implicitDefEqProofs -dsimp only [go_sem, seval, *]; done)))))
            repeat' (first | simp (maxDischargeDepth := 9) -implicitDefEqProofs -dsimp only [go_sem, seval, List.getElem_map, List.length_map, *] | simp (disch := omega) only [wrap64] | (with_reducible (first | apply Zs) <;> intro hq) | ((with_reducible refine Zv ?_ ?_); focus (first | omega | exact rfl)) | ((with_reducible refine Zu ?_ ?_); focus omega) | ((with_reducible refine Zt (fun oF hoF hnF hnF' => ?_)); clear hnF hnF'; (try simp only [Zw, ne_eq] at hoF)) | ((with_reducible apply ACalls.one1); (focus ((first | with_reducible refine hA _ | with_reducible refine ACalls.flA (hA _) ?_) <;> (first | (simp (maxDischargeDepth := 9) -implicitDefEqProofs -dsimp only [go_sem, seval, *]; done) | omega))); (focus (first | trivial | with_reducible exact rfl | (simp (maxDischargeDepth := 9) -implicitDefEqProofs -dsimp only [go_sem, seval]; done)))) | ((with_reducible apply id_one0); (focus (intro tS hS; ((first | with_reducible refine hA _ | with_reducible refine ACalls.flA (hA _) ?_) <;> (first | (simp (maxDischargeDepth := 9) -implicitDefEqProofs -dsimp only [go_sem, seval, *]; done) | omega | ((with_reducible refine Sub.get hS ?_); simp (maxDischargeDepth := 9) -implicitDefEqProofs -dsimp only [go_sem, seval, *]; done))))); (focus (first | trivial | (simp (maxDischargeDepth := 9) -implicitDefEqProofs -dsimp only [go_sem, seval, *]; done)))))
            refine loop_next _ _ _ _ (j + 1) ?_; (repeat' (first | simp (maxDischargeDepth := 9) -implicitDefEqProofs -dsimp only [go_sem, seval,  List.map_append, List.map_cons, List.map_nil, *] | simp (disch := omega) only [wrap64])) <;> (repeat' refine And.intro ?_ ?_) <;> (first | omega | rfl | assumption | skip)
          · have e : j = h.ands.length := by omega
            subst e
            have hlj : ¬ (h.ands.length : Int) < h.ands.length := by omega
            rw [m_all]
            obtain ⟨bl, bn⟩ := body_lits t
            have dst := fun k hk => d_step t (i := k) hk
            have hpl := t.pairs
            have hd0 : dAt g h 0 = ((bodyM g h).1, 0) := rfl
            have hda := @d_all g h
            have hla := lits_len g
            have hlb := lits_len h
            have hpm : ∀ k (h1 : k < (pairsM g h).length) (h2 : k < (lits g).length) (h3 : k < (lits h).length), (pairsM g h)[k] = ((lits g)[k], moveL (bodyM g h).2 (lits h)[k]) := fun k h1 h2 h3 => by
              simp [pairsM]
            have hff := t.flops
            have hoo := t.outs
            have hfle : g.flops.length ≤ h.flops.length ∧ h.flops.length ≤ g.flops.length := by omega
            have hole : g.outs.length ≤ h.outs.length ∧ h.outs.length ≤ g.outs.length := by omega
            clear hlt z0 e0 hj hal hff hoo
            repeat' (first | simp (maxDischargeDepth := 9) -implicitDefEqProofs -dsimp only [go_sem, seval, *] | simp (disch := omega) only [wrap64] | (with_reducible (first | apply Zs) <;> intro hq) | ((with_reducible refine Zv ?_ ?_); focus (first | omega | exact rfl)) | ((with_reducible refine Zu ?_ ?_); focus omega) | ((with_reducible refine Zt (fun oF hoF hnF hnF' => ?_)); clear hnF hnF'; (try simp only [Zw, ne_eq] at hoF)))
            rename_i oA' hA'
            obtain ⟨oB, eB⟩ : ∃ x, x = oF := ⟨oF, rfl⟩
            subst eB
            obtain ⟨la, la0, la1, la2, la3⟩ := lits_grow g
            obtain ⟨lb, lb0, lb1, lb2, lb3⟩ := lits_grow h
            refine loop_rule (fun k : Nat => [(16, some (.int .i64 k)), (2, some (.cptr (aigL g))), (14, some (.slice ((la k).map encInt) (.own oA'))), (15, some (.slice ((lb k).map encInt) (.own oB))), (3, some (.cptr (aigL h))), (7, some (.ptr o7 0)), (8, some (.slice ((bodyM g h).2.map encInt) (.own oT))), (4, some (.ptr o4 0))])
              (fun k => upd (upd (upd (upd (upd σ o4 (.cells [.int .i64 0, .slice [] .nil, .slice [] .nil, .slice [] .nil])) o7 (.cells (aigL (bodyM g h).1))) oT (.grow 1 (N + 1 + h.ands.length))) oA' (.grow 1 (g.outs.length + k))) oB (.grow 1 (h.outs.length + k))) (fun k => k ≤ g.flops.length) (fun k => g.flops.length - k) 0 ?_ ?_
            · clear la1 la2 la3 lb1 lb2 lb3 hpm dst bl
              (repeat' (first | simp (maxDischargeDepth := 9) -implicitDefEqProofs -dsimp only [go_sem, seval, la0, lb0, *] | simp (disch := omega) only [wrap64])) <;> (repeat' refine And.intro ?_ ?_) <;> (first | omega | rfl | assumption | skip)
            · intro k hk
              by_cases hlt : k < g.flops.length
              · have hlk : (k : Int) < g.flops.length := by omega
                have hlh : k < h.flops.length := by omega
                have e1 := la1 k hlt
                have e2 := lb1 k hlh
                have e3 := la2 k hk
                have e4 := lb2 k (by omega)
                obtain ⟨u, hu⟩ : ∃ u, la k = u := ⟨_, rfl⟩
                obtain ⟨v, hv⟩ : ∃ v, lb k = v := ⟨_, rfl⟩
                rw [hu] at e1 e3 ⊢
                rw [hv] at e2 e4 ⊢
                clear dst hpm bl la0 la1 la2 la3 lb0 lb1 lb2 lb3 hu hv
                repeat' (first | simp (maxDischargeDepth := 9) -implicitDefEqProofs -dsimp only [go_sem, seval, List.getElem_map, List.length_map, *] | simp (disch := omega) only [wrap64] | (with_reducible (first | apply Zs) <;> intro hq) | ((with_reducible refine Zv ?_ ?_); focus (first | omega | exact rfl)) | ((with_reducible refine Zu ?_ ?_); focus omega) | ((with_reducible refine Zt (fun oF hoF hnF hnF' => ?_)); clear hnF hnF'; (try simp only [Zw, ne_eq] at hoF)))
                refine loop_next _ _ _ _ (k + 1) ?_; (repeat' (first | simp (maxDischargeDepth := 9) -implicitDefEqProofs -dsimp only [go_sem, seval,  List.map_append, List.map_cons, List.map_nil, *] | simp (disch := omega) only [wrap64])) <;> (repeat' refine And.intro ?_ ?_) <;> (first | omega | rfl | assumption | skip)
              · have e : k = g.flops.length := by omega
                subst e
                have hlk : ¬ (g.flops.length : Int) < g.flops.length := by omega
                have hfe : g.flops.length = h.flops.length := by omega
                have lb3' : lb g.flops.length = lits h := by rw [hfe]; exact lb3
                obtain ⟨K, hK⟩ : ∃ K, (pairsM g h).length = K := ⟨_, rfl⟩
                have ha : (lits g).length = K := by omega
                have hb : (lits h).length = K := by omega
                have hK' : K ≤ 40 := by omega
                have hs1 : g.outs.length + g.flops.length = K := by omega
                have hs2 : h.outs.length + g.flops.length = K := by omega
                rw [la3, lb3', hs1, hs2]
                clear la0 la1 la2 la3 lb0 lb1 lb2 lb3 hfe lb3' hpl hla hlb hlt hk
                repeat' (first | simp (maxDischargeDepth := 9) -implicitDefEqProofs -dsimp only [go_sem, seval, List.length_map, *] | simp (disch := omega) only [wrap64] | (with_reducible (first | apply Zs) <;> intro hq) | ((with_reducible refine Zv ?_ ?_); focus (first | omega | exact rfl)) | ((with_reducible refine Zu ?_ ?_); focus omega) | ((with_reducible refine Zt (fun oF hoF hnF hnF' => ?_)); clear hnF hnF'; (try simp only [Zw, ne_eq] at hoF)))
                refine loop_rule (fun k : Nat => [(18, some (.int .i64 k)), (14, some (.slice ((lits g).map encInt) (.own oA'))), (7, some (.ptr o7 0)), (17, some (.int .i64 (dAt g h k).2)), (8, some (.slice ((bodyM g h).2.map encInt) (.own oT))), (15, some (.slice ((lits h).map encInt) (.own oB))), (4, some (.ptr o4 0))])
                  (fun k => upd (upd (upd (upd (upd σ o4 (.cells [.int .i64 0, .slice [] .nil, .slice [] .nil, .slice [] .nil])) o7 (.cells (aigL (dAt g h k).1))) oT (.grow 1 (N + 1 + h.ands.length))) oA' (.grow 1 K)) oB (.grow 1 K)) (fun k => k ≤ K) (fun k => K - k) 0 ?_ ?_
                · have z1 : (dAt g h 0).1 = (bodyM g h).1 := rfl
                  have z2 : (dAt g h 0).2 = 0 := rfl
                  clear hpm dst bl
                  (repeat' (first | simp (maxDischargeDepth := 9) -implicitDefEqProofs -dsimp only [go_sem, seval, z1, z2, *] | simp (disch := omega) only [wrap64])) <;> (repeat' refine And.intro ?_ ?_) <;> (first | omega | rfl | assumption | skip)
                · intro k hk
                  by_cases hlt : k < K
                  · have hlk : (k : Int) < K := by omega
                    obtain ⟨m, d, s1, s2, s3, s4, s5, s6, s7, s8⟩ := dst k (by omega)
                    have hka : k < (lits g).length := by omega
                    have hkb : k < (lits h).length := by omega
                    rw [hpm k (by omega) hka hkb] at s2 s3 s4
                    simp only at s2 s3 s4
                    obtain ⟨⟨b, l⟩, hb'⟩ : ∃ s, dAt g h k = s := ⟨_, rfl⟩
                    obtain ⟨⟨m', l'⟩, hc⟩ : ∃ s, dAt g h (k + 1) = s := ⟨_, rfl⟩
                    rw [hb'] at s1 s4 s6 s8 ⊢
                    rw [hc] at s8
                    simp only at s1 s4 s6 s8
                    obtain ⟨u, hu⟩ : ∃ u, (lits g)[k] = u := ⟨_, rfl⟩
                    obtain ⟨w, hw⟩ : ∃ w, (lits h)[k] = w := ⟨_, rfl⟩
                    obtain ⟨v, hv⟩ : ∃ v, moveL (bodyM g h).2 w = v := ⟨_, rfl⟩
                    have f1 := fun τ => ref_stands (bodyM g h).2 w τ (bl _ (by rw [← hw]; exact List.getElem_mem hkb))
                    rw [hu] at s2 s4
                    rw [hw, hv] at s3 s4
                    rw [hv] at f1
                    have hD := fun τ => ref_differ b m m' l u v d l' τ s1 s2 s3 s5 s4 s8
                    clear dst hpm bl s1 s2 s3 s4 s5 s6 s7 s8 hb' hv hda
                    repeat' (first | simp (maxDischargeDepth := 9) -implicitDefEqProofs -dsimp only [go_sem, seval, List.getElem_map, List.length_map, *] | simp (disch := omega) only [wrap64] | (with_reducible (first | apply Zs) <;> intro hq) | ((with_reducible refine Zv ?_ ?_); focus (first | omega | exact rfl)) | ((with_reducible refine Zu ?_ ?_); focus omega) | ((with_reducible refine Zt (fun oF hoF hnF hnF' => ?_)); clear hnF hnF'; (try simp only [Zw, ne_eq] at hoF)) | ((with_reducible apply ACalls.one1); (focus ((first | with_reducible refine f1 _ | with_reducible refine ACalls.flA (f1 _) ?_) <;> (first | (simp (maxDischargeDepth := 9) -implicitDefEqProofs -dsimp only [go_sem, seval, *]; done) | omega))); (focus (first | trivial | with_reducible exact rfl | (simp (maxDischargeDepth := 9) -implicitDefEqProofs -dsimp only [go_sem, seval]; done)))) | ((with_reducible apply id_one0); (focus (intro tS hS; ((first | with_reducible refine f1 _ | with_reducible refine ACalls.flA (f1 _) ?_) <;> (first | (simp (maxDischargeDepth := 9) -implicitDefEqProofs -dsimp only [go_sem, seval, *]; done) | omega | ((with_reducible refine Sub.get hS ?_); simp (maxDischargeDepth := 9) -implicitDefEqProofs -dsimp only [go_sem, seval, *]; done))))); (focus (first | trivial | (simp (maxDischargeDepth := 9) -implicitDefEqProofs -dsimp only [go_sem, seval, *]; done)))))
                    repeat' (first | simp (maxDischargeDepth := 9) -implicitDefEqProofs -dsimp only [go_sem, seval, List.getElem_map, List.length_map, *] | simp (disch := omega) only [wrap64] | (with_reducible (first | apply Zs) <;> intro hq) | ((with_reducible refine Zv ?_ ?_); focus (first | omega | exact rfl)) | ((with_reducible refine Zu ?_ ?_); focus omega) | ((with_reducible refine Zt (fun oF hoF hnF hnF' => ?_)); clear hnF hnF'; (try simp only [Zw, ne_eq] at hoF)) | ((with_reducible apply ACalls.one1); (focus ((first | with_reducible refine hD _ | with_reducible refine ACalls.flA (hD _) ?_) <;> (first | (simp (maxDischargeDepth := 9) -implicitDefEqProofs -dsimp only [go_sem, seval, *]; done) | omega))); (focus (first | trivial | with_reducible exact rfl | (simp (maxDischargeDepth := 9) -implicitDefEqProofs -dsimp only [go_sem, seval]; done)))) | ((with_reducible apply id_one0); (focus (intro tS hS; ((first | with_reducible refine hD _ | with_reducible refine ACalls.flA (hD _) ?_) <;> (first | (simp (maxDischargeDepth := 9) -implicitDefEqProofs -dsimp only [go_sem, seval, *]; done) | omega | ((with_reducible refine Sub.get hS ?_); simp (maxDischargeDepth := 9) -implicitDefEqProofs -dsimp only [go_sem, seval, *]; done))))); (focus (first | trivial | (simp (maxDischargeDepth := 9) -implicitDefEqProofs -dsimp only [go_sem, seval, *]; done)))))
                    refine loop_next _ _ _ _ (k + 1) ?_; (repeat' (first | simp (maxDischargeDepth := 9) -implicitDefEqProofs -dsimp only [go_sem, seval, *] | simp (disch := omega) only [wrap64])) <;> (repeat' refine And.intro ?_ ?_) <;> (first | omega | rfl | assumption | skip)
                  · have e : k = K := by omega
                    subst e
                    have hlk : ¬ (k : Int) < k := by omega
                    rw [hK] at hda
                    obtain ⟨⟨b, l⟩, hb'⟩ : ∃ s, dAt g h k = s := ⟨_, rfl⟩
                    have hM : miterM g h = { b with outs := [l] } := by unfold miterM; rw [← hda, hb']
                    rw [hM]
                    clear dst hpm hda bl
                    repeat' (first | simp (maxDischargeDepth := 9) -implicitDefEqProofs -dsimp only [go_sem, seval, List.length_map, *] | simp (disch := omega) only [wrap64] | (with_reducible (first | apply Zs) <;> intro hq) | ((with_reducible refine Zv ?_ ?_); focus (first | omega | exact rfl)) | ((with_reducible refine Zu ?_ ?_); focus omega) | ((with_reducible refine Zt (fun oF hoF hnF hnF' => ?_)); clear hnF hnF'; (try simp only [Zw, ne_eq] at hoF)))
                    refine fin_eq ?_
                    (repeat' (first | simp (maxDischargeDepth := 9) -implicitDefEqProofs -dsimp only [go_sem, seval, List.map_cons, List.map_nil, *] | simp (disch := omega) only [wrap64])) <;> (repeat' refine And.intro ?_ ?_) <;> (first | omega | rfl | assumption | skip)
end Go.Proofs.Ytjichkelfhcbcaa

namespace Go.Proofs.Ytjichkelfhcbcaa
open Abs Fil Fil.Eqv
open Bd (D encB encF)
theorem both_miter (g h : Aig) (fg : fewB g = true) (fh : fewB h = true) (wg : Wide g) (wh : Wide h) : ∃ (m : Aig) (e : Int),
    (∀ τ, ACalls Try.prog 18 [encAig g, encAig h] τ (fun r σ' => r = .ret (.tup [encAig m, .int .i64 e]) ∧ σ' = τ)) ∧
    (∀ τ, ACalls Try.prog 19 [encAig g, encAig h] τ (fun r σ' => r = .ret (.tup [encAig m, .int .i64 e]) ∧ σ' = τ)) ∧
    m.flops.length ≤ 1000000 ∧ m.ands.length ≤ 1000000 ∧ m.outs.length ≤ 1000000 := by
  have hwg := (few_spec fg wg).1
  have hwh := (few_spec fh wh).1
  rcases two_cases fg fh wg wh with hc | ⟨hc, hne⟩ | t
  · exact ⟨noAig, chk2 g h, fun τ => eq_Miter_err g h _ hwg hwh rfl hc τ, fun τ => ref_Miter_err g h _ hwg hwh rfl hc τ, by simp, by simp, by simp⟩
  · exact ⟨noAig, 1, fun τ => eq_Miter_arg g h hwg hwh hc hne τ, fun τ => ref_Miter_arg g h hwg hwh hc hne τ, by simp, by simp, by simp⟩
  · have k := (miter_ok t).1
    have := k.wf.flops
    have := k.ands
    have := k.outs
    exact ⟨miterM g h, 0, fun τ => eq_Miter g h t τ, fun τ => ref_Miter g h t τ, by omega, by omega, by omega⟩
theorem both_trace (g h : Aig) (ins : List (List Bool)) (fg : fewB g = true) (fh : fewB h = true) (wg : Wide g) (wh : Wide h) (hi : ins.length ≤ 20) : ∃ (n e : Int),
    (∀ τ, ACalls Try.prog 20 [encAig g, encAig h, .slice (ins.map (encRow encBool)) .no] τ (fun r σ' => r = .ret (.tup [.int .i64 n, .int .i64 e]) ∧ σ' = τ)) ∧
    (∀ τ, ACalls Try.prog 21 [encAig g, encAig h, .slice (ins.map (encRow encBool)) .no] τ (fun r σ' => r = .ret (.tup [.int .i64 n, .int .i64 e]) ∧ σ' = τ)) := by
  have hwg := (few_spec fg wg).1
  have hwh := (few_spec fh wh).1
  by_cases hc : chk2 g h = 0
  · by_cases hs : g.ins = h.ins ∧ g.outs.length = h.outs.length
    · obtain ⟨s1, s2⟩ := hs
      obtain ⟨f1, f2, f3, f4, f5, f6, f7⟩ := run_facts (ins := ins) hwg hwh hc s1 s2
      obtain ⟨f7, f8⟩ := f7 hi
      exact ⟨_, _, fun τ => eq_Trace g h ins τ hwg hwh (by omega) hc s1 s2 (fun h0 => by have := f4 h0; omega) (by omega) (fun x hx => by have := f5 x hx; omega),
        fun τ => ref_Trace g h ins τ hwg hwh (by omega) hc s1 s2 (fun h0 => by have := f4 h0; omega) (by omega) (fun x hx => by have := f5 x hx; omega)⟩
    · exact ⟨0, 1, fun τ => eq_Trace_arg g h _ hwg hwh hc hs τ, fun τ => ref_Trace_arg g h _ hwg hwh hc hs τ⟩
  · exact ⟨0, chk2 g h, fun τ => eq_Trace_err g h _ _ hwg hwh rfl hc τ, fun τ => ref_Trace_err g h _ _ hwg hwh rfl hc τ⟩
set_option maxRecDepth 20000 in
set_option maxHeartbeats 4000000 in
theorem miters_law (g h : Aig) (ins : List (List Bool)) (σ : Sig) (wg : Wide g) (wh : Wide h) (hi : ins.length ≤ 9223372036854775807) (hr : ∀ x ∈ ins, x.length ≤ 9223372036854775807) :
    ACalls Try.prog 4 [encAig g, encAig h, .slice (ins.map (encRow encBool)) .no] σ (fun r σ' => r = .ret (.bool true) ∧ σ' = σ) := by
  refine calls_x mixed Try.func4 b4 n4 rfl q4 (by simp) ?_; unfold c4 r4; try dsimp only [Yi, Yj]
  cases fg : fewB g with
  | false =>
    repeat' (first | simp (maxDischargeDepth := 9) -implicitDefEqProofs -dsimp only [go_sem, seval, *] | ((with_reducible refine Zt (fun oF hoF hnF hnF' => ?_)); clear hnF hnF'; (try simp only [Zw, ne_eq] at hoF)) | ((with_reducible apply ACalls.one1); (focus ((first | with_reducible refine law_live _ | with_reducible refine law_few g _) <;> (first | (simp (maxDischargeDepth := 9) -implicitDefEqProofs -dsimp only [go_sem, seval, *]; done) | omega))); (focus (first | trivial | with_reducible exact rfl | (simp (maxDischargeDepth := 9) -implicitDefEqProofs -dsimp only [go_sem, seval]; done)))))
    refine fin_eq ?_
    (repeat' (first | simp (maxDischargeDepth := 9) -implicitDefEqProofs -dsimp only [go_sem, seval, *])) <;> (repeat' refine And.intro ?_ ?_) <;> (first | omega | rfl | assumption | skip)
  | true =>
  cases fh : fewB h with
  | false =>
    repeat' (first | simp (maxDischargeDepth := 9) -implicitDefEqProofs -dsimp only [go_sem, seval, *] | ((with_reducible refine Zt (fun oF hoF hnF hnF' => ?_)); clear hnF hnF'; (try simp only [Zw, ne_eq] at hoF)) | ((with_reducible apply ACalls.one1); (focus ((first | with_reducible refine law_live _ | with_reducible refine law_few g _ | with_reducible refine law_few h _) <;> (first | (simp (maxDischargeDepth := 9) -implicitDefEqProofs -dsimp only [go_sem, seval, *]; done) | omega))); (focus (first | trivial | with_reducible exact rfl | (simp (maxDischargeDepth := 9) -implicitDefEqProofs -dsimp only [go_sem, seval]; done)))))
    refine fin_eq ?_
    (repeat' (first | simp (maxDischargeDepth := 9) -implicitDefEqProofs -dsimp only [go_sem, seval, *])) <;> (repeat' refine And.intro ?_ ?_) <;> (first | omega | rfl | assumption | skip)
  | true =>
  have hR := fun τ => law_rows ins τ hi hr
  clear hr
  cases fr : rowsB ins with
  | false =>
    rw [fr] at hR
    repeat' (first | simp (maxDischargeDepth := 9) -implicitDefEqProofs -dsimp only [go_sem, seval, *] | ((with_reducible refine Zt (fun oF hoF hnF hnF' => ?_)); clear hnF hnF'; (try simp only [Zw, ne_eq] at hoF)) | ((with_reducible apply ACalls.one1); (focus ((first | with_reducible refine law_live _ | with_reducible refine law_few g _ | with_reducible refine law_few h _ | with_reducible refine hR _) <;> (first | (simp (maxDischargeDepth := 9) -implicitDefEqProofs -dsimp only [go_sem, seval, *]; done) | omega))); (focus (first | trivial | with_reducible exact rfl | (simp (maxDischargeDepth := 9) -implicitDefEqProofs -dsimp only [go_sem, seval]; done)))))
    refine fin_eq ?_
    (repeat' (first | simp (maxDischargeDepth := 9) -implicitDefEqProofs -dsimp only [go_sem, seval, *])) <;> (repeat' refine And.intro ?_ ?_) <;> (first | omega | rfl | assumption | skip)
  | true =>
  rw [fr] at hR
  have hi20 : ins.length ≤ 20 := by
    unfold rowsB at fr
    simp only [Bool.and_eq_true, decide_eq_true_eq] at fr
    exact fr.2
  obtain ⟨m, e, hM1, hM2, l1, l2, l3⟩ := both_miter g h fg fh wg wh
  obtain ⟨n, k, hT1, hT2⟩ := both_trace g h ins fg fh wg wh hi20
  have hS := fun τ => A.ref_Same m m τ l1 l2 l3
  rw [show decide (m = m) = true by simp] at hS
  have q1 : (e == e) = true := by simp
  have q2 : (n == n) = true := by simp
  have q3 : (k == k) = true := by simp
  clear hi20 l1 l2 l3
  repeat' (first | simp (maxDischargeDepth := 9) -implicitDefEqProofs -dsimp only [go_sem, seval, *] | ((with_reducible refine Zt (fun oF hoF hnF hnF' => ?_)); clear hnF hnF'; (try simp only [Zw, ne_eq] at hoF)) | ((with_reducible apply ACalls.one1); (focus ((first | with_reducible refine law_live _ | with_reducible refine law_few g _ | with_reducible refine law_few h _ | with_reducible refine hR _ | with_reducible refine hM1 _ | with_reducible refine hM2 _ | with_reducible refine hT1 _ | with_reducible refine hT2 _ | with_reducible refine hS _) <;> (first | (simp (maxDischargeDepth := 9) -implicitDefEqProofs -dsimp only [go_sem, seval, *]; done) | omega))); (focus (first | trivial | with_reducible exact rfl | (simp (maxDischargeDepth := 9) -implicitDefEqProofs -dsimp only [go_sem, seval]; done)))))
  refine fin_eq ?_
  (repeat' (first | simp (maxDischargeDepth := 9) -implicitDefEqProofs -dsimp only [go_sem, seval, *])) <;> (repeat' refine And.intro ?_ ?_) <;> (first | omega | rfl | assumption | skip)
end Go.Proofs.Ytjichkelfhcbcaa

