/- rewr: contracts of the document's answer: what is moved, needed, ended. -/
import Derived.Test.YtapnlmhfacoceaaQRewRewM
set_option linter.unusedSimpArgs false
set_option linter.unusedVariables false
namespace Go.Proofs.Ytapnlmhfacoceaa
open Abs Fil Fil.Rw
open Eqv (moveL)
inductive Stk (v p : Nat) : AV → AObj → List Int → Prop
 | no (t : Tok) (ht : t = .nil ∨ t = .full) : Stk v p (.slice [] t) (.virt 1) []
 | all (l : List Int) (hl : l.length ≤ 1000) : Stk v p (.vec p l.length) (.vec 1 l.length (l.map encInt)) l
 | pre (l j : List Int) (hl : l.length + j.length ≤ 1000) : Stk v p (.pre p l.length (l.length + j.length)) (.vec 1 (l.length + j.length) (l.map encInt ++ j.map encInt)) l
theorem rts_len {g : Aig} (hg : Sml g) : (rts g).length ≤ 120 := by
 have := hg.outs; have := hg.flops
 simp only [rts, List.length_append, List.length_map]; omega
theorem Stk.last {v p : Nat} {V : AV} {O : AObj} {l : List Int} {a : Int} (h : Stk v p V O (l ++ [a])) : ∃ j : List Int, l.length + 1 + j.length ≤ 1000 ∧ O = .vec 1 (l.length + 1 + j.length) (l.map encInt ++ (a :: j).map encInt) ∧ ((V = .vec p (l.length + 1) ∧ j = []) ∨ V = .pre p (l.length + 1) (l.length + 1 + j.length)) := by
 generalize hl : l ++ [a] = m at h
 cases h with
 | no t ht => simp at hl
 | all _ hl' =>
  subst hl
  exact ⟨[], by simpa using hl', by simp, .inl ⟨by simp, rfl⟩⟩
 | pre _ j hl' =>
  subst hl
  exact ⟨j, by simpa [Nat.add_assoc] using hl', by simp, .inr (by simp)⟩
theorem Stk.emp {v p : Nat} {V : AV} {O : AObj} (h : Stk v p V O []) : (∃ t, V = .slice [] t) ∨ V = .vec p 0 ∨ ∃ n, V = .pre p 0 n := by
 generalize hl : ([] : List Int) = m at h
 cases h with
 | no t ht => exact .inl ⟨t, rfl⟩
 | all _ h => subst hl; exact .inr (.inl rfl)
 | pre _ j h => subst hl; exact .inr (.inr ⟨_, rfl⟩)
theorem flat_int2 (x y : Int) : flat [.int .i64 x, .int .i64 y] = [.int .i64 x, .int .i64 y] := rfl
theorem put_two (L J : List AV) (x y : AV) : putAt (L ++ J) L.length [x, y] = L ++ [x, y] ++ J.drop 2 := by
 unfold putAt
 simp [List.drop_append]
set_option maxRecDepth 20000 in
set_option maxHeartbeats 4000000 in
theorem rw_Sweep (g : Aig) (σ : Sig) (hg : Sml g) : ACalls Try.prog 15 [encAig g] σ (fun r σ' => r = .ret (.tup [encAig (sweep g), .int .i64 0]) ∧ σ' = σ) := by
 refine ACalls.virt (callable_of Try.func15 b15 n15) 1 (fun oV1 hoV1 hnV1 hnV1' => ?_); (try simp only [upd_none, ne_eq, not_and] at hoV1); refine ACalls.virt (callable_of Try.func15 b15 n15) 2 (fun oV2 hoV2 hnV2 hnV2' => ?_); (try simp only [upd_none, ne_eq, not_and] at hoV2); refine calls_x mixed Try.func15 b15 n15 rfl q15 (by simp) ?_; unfold c15 r15
 have ez : ((0 : Int) != 0) = false := by decide
 have hlo := hg.lo
 have h1 := hg.ins
 have h2 := hg.flops
 have h3 := hg.ands
 have hck := fun τ => A.aig_Check g τ hg.wf
 rw [hg.chk] at hck
 repeat' (first | simp (maxDischargeDepth := 9) -implicitDefEqProofs -dsimp only [go_sem, seval, *] | simp (disch := omega) only [wrap64, tdiv2] | ((with_reducible refine Zv ?_ ?_); focus (first | omega | exact rfl)) | ((with_reducible refine Zu ?_ ?_); focus omega) | ((with_reducible refine Zt (fun oF hoF hnF hnF' => ?_)); (try simp only [upd_none, ne_eq, not_and] at hoF)) | ((with_reducible apply ACalls.one1); (focus ((first | with_reducible refine hck _) <;> (first | (simp (maxDischargeDepth := 9) -implicitDefEqProofs -dsimp only [go_sem, seval, *]; done) | omega))); (focus (first | trivial | with_reducible exact rfl | (simp (maxDischargeDepth := 9) -implicitDefEqProofs -dsimp only [go_sem, seval]; done)))))
 obtain ⟨oR, eR⟩ : ∃ x, x = oF := ⟨oF, rfl⟩
 subst eR
 have hoR := hoF
 refine ACalls.new4 (rw_begin g (fun _ => none) .nilmap _ (.inl ⟨rfl, fun _ => rfl⟩) hlo (by omega) (by omega)) ?_
 intro oB oL oV oP hfr
 obtain ⟨f1, f2, f3⟩ := fr4_all hfr
 have hold := hfr.old
 simp only [upd_none] at f3
 repeat' (first | simp (maxDischargeDepth := 9) -implicitDefEqProofs -dsimp only [go_sem, seval, *] | simp (disch := omega) only [wrap64, tdiv2] | ((with_reducible refine Zv ?_ ?_); focus (first | omega | exact rfl)) | ((with_reducible refine Zu ?_ ?_); focus omega) | ((with_reducible refine Zt (fun oF hoF hnF hnF' => ?_)); (try simp only [upd_none, ne_eq, not_and] at hoF)))
 obtain ⟨om, eM⟩ : ∃ x, x = oF := ⟨oF, rfl⟩
 subst eM
 have hv1 : ¬ oV1 = om ∧ ¬ oV1 = oB ∧ ¬ oV1 = oL ∧ ¬ oV1 = oV ∧ ¬ oV1 = oP ∧ ¬ oV1 = oR ∧ ¬ oV1 = oV2 := by
  have c1 : ¬ oV1 = oR := fun e => by rw [← e] at hoR; exact hoR.2.1 rfl
  have c2 : ¬ oV1 = oV2 := hnV2 oV1 (by simp [upd])
  obtain ⟨a1, _, a2, _, a3, _, a4, _⟩ := hold oV1 (by simp [upd, c1, c2])
  obtain ⟨_, _, _, _, _, _, b1, _⟩ := hoF
  exact ⟨fun e => b1 e.symm, a1, a2, a3, a4, c1, c2⟩
 refine ((rw_roots g _ (by omega) (by have := hg.outs; omega)).mono fun r s h => Rts.toV (v := oV1) (by simp (maxDischargeDepth := 9) -implicitDefEqProofs -dsimp only [go_sem, seval, *]) h).mono ?_
 rintro r s ⟨t, p, ht, hp0, hp1, rfl, rfl⟩
 have hsm : Small g := check_small hg.wf hg.chk
 have hpf : ¬ p = om ∧ ¬ p = oB ∧ ¬ p = oL ∧ ¬ p = oV ∧ ¬ p = oP ∧ ¬ p = oR ∧ ¬ p = oV2 := by
  by_cases hr : rts g = []
  ·rw [hp0 hr]; exact hv1
  ·have := hp1 hr
   simp only [upd_none] at this
   simp_all
 have hpf' : ¬ om = p ∧ ¬ oB = p ∧ ¬ oL = p ∧ ¬ oV = p ∧ ¬ oP = p ∧ ¬ oR = p ∧ ¬ oV2 = p := by
  obtain ⟨a1, a2, a3, a4, a5, a6, a7⟩ := hpf
  exact ⟨fun e => a1 e.symm, fun e => a2 e.symm, fun e => a3 e.symm, fun e => a4 e.symm, fun e => a5 e.symm, fun e => a6 e.symm, fun e => a7 e.symm⟩
 have hσp : σ p = none := by
  by_cases hr : rts g = []
  ·rw [hp0 hr]; exact hoV1
  ·have := hp1 hr
   by_cases e : p = oV1
   ·rw [e]; exact hoV1
   ·simp only [upd_none] at this
    simp_all
 have hrl := rts_len hg
 repeat' (first | simp (maxDischargeDepth := 9) -implicitDefEqProofs -dsimp only [go_sem, seval, *] | simp (disch := omega) only [wrap64, tdiv2] | ((with_reducible refine Zv ?_ ?_); focus (first | omega | exact rfl)) | ((with_reducible refine Zu ?_ ?_); focus omega) | ((with_reducible refine Zt (fun oF hoF hnF hnF' => ?_)); (try simp only [upd_none, ne_eq, not_and] at hoF)))
 refine loop_rule (fun x : AV × AObj × List Int × List (Int × Bool) => [(7, some x.1), (6, some (.map om)), (5, some (.ptr oB 0)), (2, some (.ptr oR 0)), (1, some (.cptr (aigL g)))])
  (fun x => upd (upd (begS (upd (upd (upd σ oV1 (.virt 1)) oV2 (.virt 2)) oR (.cells [.int .i64 0, .slice [] .nil, .slice [] .nil, .slice [] .nil])) g (fun _ => none) oB oL oV oP) om (.map true (encK .bool x.2.2.2))) p x.2.1)
  (fun x => Stk oV1 p x.1 x.2.1 x.2.2.1 ∧ SwI g x.2.2.1 x.2.2.2 ∧ unm g x.2.2.2 g.ands.length * 3 + x.2.2.1.length ≤ 720) (fun x => unm g x.2.2.2 g.ands.length * 3 + x.2.2.1.length) (inN t p (rts g), inO (rts g), rts g, []) ?_ ?_
 ·have i1 : Stk oV1 p (inN t p (rts g)) (inO (rts g)) (rts g) := by
   by_cases hr : rts g = []
   ·rw [hr]
    rcases ht with rfl | rfl
    ·exact .no _ (.inl rfl)
    ·exact .no _ (.inr rfl)
   ·rw [inN_ne _ _ hr, inO_ne hr]; exact .all _ (by omega)
  have i2 := sw_start hg
  have i3 : unm g [] g.ands.length * 3 + (rts g).length ≤ 720 := by have := unm_le g [] g.ands.length; omega
  clear hp0 hp1
  (repeat' (first | simp (maxDischargeDepth := 9) -implicitDefEqProofs -dsimp only [go_sem, seval, encK_nil, *] | simp (disch := omega) only [wrap64, tdiv2])) <;> (repeat' refine And.intro ?_ ?_) <;> (first | omega | rfl | assumption | skip)
 ·rintro ⟨V, O, l, m⟩ ⟨hS, hI, hM⟩
  simp only at hS hI hM ⊢
  clear hp0 hp1
  rcases List.eq_nil_or_concat l with rfl | ⟨l', a, rfl⟩
  ·have hlk0 : ∀ i, i < g.ands.length → ((gk m (g.first + i)).map AV.bool).getD (.bool false) = .bool (ndG g (g.first + i).toNat) := fun i hi => by
    rw [← sw_done hg hI hi]
    cases gk m (g.first + i) <;> rfl
   obtain ⟨c0, c0', c3, _⟩ := bgn_bd hg fun _ => none
   have hfst : g.first ≤ 200 ∧ 1 ≤ g.first := by simp only [Aig.first]; omega
   rcases hS.emp with ⟨t', rfl⟩ | rfl | ⟨n', rfl⟩
   all_goals
    clear hS hI hM
    repeat' (first | simp (maxDischargeDepth := 9) -implicitDefEqProofs -dsimp only [go_sem, seval, gt_iff_lt, *] | simp (disch := omega) only [wrap64, tdiv2] | ((with_reducible refine Zv ?_ ?_); focus (first | omega | exact rfl)) | ((with_reducible refine Zu ?_ ?_); focus omega) | ((with_reducible refine Zt (fun oF hoF hnF hnF' => ?_)); (try simp only [upd_none, ne_eq, not_and] at hoF)))
    refine loop_rule (fun i : Nat => [(69, some (.int .i64 i)), (68, some (.int .i64 g.ands.length)), (67, some (.slice (g.ands.map encGate) .no)), (6, some (.map om)), (5, some (.ptr oB 0)), (2, some (.ptr oR 0))])
     (fun i => upd (upd (upd (upd (upd (upd (upd σ oR (.cells [.int .i64 0, .slice [] .nil, .slice [] .nil, .slice [] .nil])) om (.map true (encK .bool m))) oB (bldC g (swAt g i).g (flV oP (swAt g i).g.flops) (.own oV2) .nil (ilist (swAt g i).lits (.own oL)) (ilist (swAt g i).lev (.own oV)))) oL (.grow 1 (swAt g i).lits.length)) oV (.grow 1 (swAt g i).lev.length)) oP (flO (swAt g i).g.flops)) oV2 (.grow 2 (swAt g i).g.ands.length))
     (fun i => i ≤ g.ands.length) (fun i => g.ands.length - i) 0 ?_ ?_
    ·have e0 : swAt g 0 = bgn g (fun _ => none) := rfl
     have e1 : (bgn g (fun _ => none)).g.ands = [] := rfl
     have e2 : (bgn g (fun _ => none)).g.outs = [] := rfl
     (repeat' (first | simp (maxDischargeDepth := 9) -implicitDefEqProofs -dsimp only [go_sem, seval, e0, e1, e2, List.map_nil, List.length_nil, *] | simp (disch := omega) only [wrap64, tdiv2])) <;> (repeat' refine And.intro ?_ ?_) <;> (first | omega | rfl | assumption | skip)
    ·intro i hi
     have J := sw_inv hg i hi
     have hfs := J.flops
     have hfew := J.few
     have hout := J.outs
     have hins := J.ins
     have hlen := J.len
     have hlits := J.lits
     have hlev := J.lev
     have hl2 : ∀ x ∈ (swAt g i).lits, 0 ≤ x ∧ x ≤ 1000000 := fun x hx => by
      have := hlits x hx; omega
     by_cases hlt : i < g.ands.length
     ·have hlt' : (i : Int) < g.ands.length := by omega
      obtain ⟨⟨a1, a2⟩, a3, a4⟩ := gate_bounds hg hlt
      have hgd := ands_getD hlt
      have hlk := hlk0 i hlt
      have hnx : swAt g (i + 1) = if ndG g (g.first + i).toNat then ⟨{ (swAt g i).g with ands := (swAt g i).g.ands ++ [(moveL ((swAt g i).lits ++ [2 * (g.first + (swAt g i).g.ands.length)]) g.ands[i].1, moveL ((swAt g i).lits ++ [2 * (g.first + (swAt g i).g.ands.length)]) g.ands[i].2)] }, (swAt g i).lits ++ [2 * (g.first + (swAt g i).g.ands.length)], (swAt g i).lev⟩ else ⟨(swAt g i).g, (swAt g i).lits ++ [0], (swAt g i).lev⟩ := by
       conv => lhs; unfold swAt
       simp only [hgd]
      obtain ⟨b, hbe⟩ : ∃ b, swAt g i = b := ⟨_, rfl⟩
      rw [hbe] at hnx hfew hout hlen hl2 hlits hlev hfs ⊢
      have hll2 : b.lits.length ≤ 1000 := by omega
      have c1 := flV_cells oP b.g.flops
      have c2 := flV_one oP b.g.flops
      obtain ⟨F, hF⟩ : ∃ F, flV oP b.g.flops = F := ⟨_, rfl⟩
      obtain ⟨FO, hFO⟩ : ∃ F, flO b.g.flops = F := ⟨_, rfl⟩
      rw [hF] at c1 c2 ⊢
      rw [hFO]
      have hfc := fun τ hB => rw_first oB g [.slice (g.ands.map encGate) .no, .slice (g.outs.map encInt) .no, .int .i64 b.g.ins, F, .slice (b.g.ands.map encGate) (.own oV2), .slice (b.g.outs.map encInt) .nil, ilist b.lits (.own oL), ilist b.lev (.own oV)] τ hB hsm
      cases hnd : ndG g (g.first + i).toNat with
      | false =>
       rw [hnd, if_neg (by simp)] at hnx
       rw [hnd] at hlk
       clear hlits hl2 hlk0 hnd hbe J hlev hout hfs
       repeat' (first | simp (maxDischargeDepth := 9) -implicitDefEqProofs -dsimp only [go_sem, seval, *] | simp (disch := omega) only [wrap64, tdiv2] | ((with_reducible refine Zv ?_ ?_); focus (first | omega | exact rfl)) | ((with_reducible refine Zu ?_ ?_); focus omega) | ((with_reducible refine Zt (fun oF hoF hnF hnF' => ?_)); (try simp only [upd_none, ne_eq, not_and] at hoF)) | ((with_reducible apply ACalls.one1); (focus ((first | with_reducible refine hfc _ ?_) <;> (first | (simp (maxDischargeDepth := 9) -implicitDefEqProofs -dsimp only [go_sem, seval, *]; done) | omega))); (focus (first | trivial | with_reducible exact rfl | (simp (maxDischargeDepth := 9) -implicitDefEqProofs -dsimp only [go_sem, seval]; done)))))
       refine loop_next _ _ _ _ (i + 1) ?_; (repeat' (first | simp (maxDischargeDepth := 9) -implicitDefEqProofs -dsimp only [go_sem, seval,  ilist, List.map_append, List.map_cons, List.map_nil, List.length_append, List.length_cons, List.length_nil, *] | simp (disch := omega) only [wrap64, tdiv2])) <;> (repeat' refine And.intro ?_ ?_) <;> (first | omega | rfl | assumption | skip)
      | true =>
       rw [hnd, if_pos rfl] at hnx
       rw [hnd] at hlk
       obtain ⟨Z, hZ⟩ : ∃ Z, 2 * (g.first + (b.g.ands.length : Int)) = Z := ⟨_, rfl⟩
       rw [hZ] at hnx
       have hl3 : ∀ x ∈ b.lits ++ [Z], 0 ≤ x ∧ x ≤ 1000000 := fun x hx => by
        rcases List.mem_append.1 hx with q | q
        ·exact hl2 x q
        ·simp at q; omega
       have hl4 : (b.lits ++ [Z]).length = g.first.toNat + i + 1 := by simp [hlen]
       have hlc := fun a h0 h1 h2 τ hB => rw_lit oB (.int .i64 g.ins) (.slice (g.flops.map encFlop) .no) (.slice (g.ands.map encGate) .no) (.slice (g.outs.map encInt) .no) (.int .i64 b.g.ins) F (.slice (b.g.ands.map encGate) (.own oV2)) (.slice (b.g.outs.map encInt) .nil) (ilist b.lev (.own oV)) (b.lits ++ [Z]) (.own oL) a τ hB h0 h1 hl3 h2
       have hl1 := hlc g.ands[i].1 a1 (by rw [hl4]; omega) (by omega)
       have hl5 := hlc g.ands[i].2 a3 (by rw [hl4]; omega) (by omega)
       obtain ⟨u, hu⟩ : ∃ u, moveL (b.lits ++ [Z]) g.ands[i].1 = u := ⟨_, rfl⟩
       obtain ⟨v, hv⟩ : ∃ v, moveL (b.lits ++ [Z]) g.ands[i].2 = v := ⟨_, rfl⟩
       rw [hu] at hl1 hnx
       rw [hv] at hl5 hnx
       simp only [ilist, List.map_append, List.map_cons, List.map_nil] at hl1 hl5
       clear hlits hl2 hl3 hlc hlk0 hnd hbe J hlev hu hv hout hfs
       repeat' (first | simp (maxDischargeDepth := 9) -implicitDefEqProofs -dsimp only [go_sem, seval, *] | simp (disch := omega) only [wrap64, tdiv2] | ((with_reducible refine Zv ?_ ?_); focus (first | omega | exact rfl)) | ((with_reducible refine Zu ?_ ?_); focus omega) | ((with_reducible refine Zt (fun oF hoF hnF hnF' => ?_)); (try simp only [upd_none, ne_eq, not_and] at hoF)) | ((with_reducible apply ACalls.one1); (focus ((first | with_reducible refine hfc _ ?_ | with_reducible refine hl1 _ ?_ | with_reducible refine hl5 _ ?_) <;> (first | (simp (maxDischargeDepth := 9) -implicitDefEqProofs -dsimp only [go_sem, seval, *]; done) | omega))); (focus (first | trivial | with_reducible exact rfl | (simp (maxDischargeDepth := 9) -implicitDefEqProofs -dsimp only [go_sem, seval]; done)))) | ((with_reducible apply id_one0); (focus (intro tS hS; ((first | with_reducible refine hfc _ ?_ | with_reducible refine hl1 _ ?_ | with_reducible refine hl5 _ ?_) <;> (first | (simp (maxDischargeDepth := 9) -implicitDefEqProofs -dsimp only [go_sem, seval, *]; done) | omega | ((with_reducible refine Sub.get hS ?_); simp (maxDischargeDepth := 9) -implicitDefEqProofs -dsimp only [go_sem, seval, *]; done))))); (focus (first | trivial | (simp (maxDischargeDepth := 9) -implicitDefEqProofs -dsimp only [go_sem, seval, *]; done)))))
       refine loop_next _ _ _ _ (i + 1) ?_; (repeat' (first | simp (maxDischargeDepth := 9) -implicitDefEqProofs -dsimp only [go_sem, seval,  ilist, List.map_append, List.map_cons, List.map_nil, List.length_append, List.length_cons, List.length_nil, *] | simp (disch := omega) only [wrap64, tdiv2])) <;> (repeat' refine And.intro ?_ ?_) <;> (first | omega | rfl | assumption | skip)
     ·have hlt' : ¬ (i : Int) < g.ands.length := by omega
      have ei : i = g.ands.length := by omega
      subst ei
      have hnx : ∀ f ∈ g.flops, 0 ≤ f.next ∧ (f.next / 2).toNat < (swAt g g.ands.length).lits.length ∧ f.next ≤ 1000000 := fun f hf => by
       have := good_flops hg.good hf
       have cf := count_first g
       rw [hlen]; simp only [Aig.first] at cf ⊢; omega
      have hol : ∀ a ∈ g.outs, 0 ≤ a ∧ (a / 2).toNat < (swAt g g.ands.length).lits.length ∧ a ≤ 1000000 := fun a ha => by
       have := good_outs hg.good ha
       have cf := count_first g
       rw [hlen]; simp only [Aig.first] at cf ⊢; omega
      have hO := hg.outs
      have hend := fun τ st' hst' hB hp => rw_end oB oP g (fun _ => none) st' (swAt g g.ands.length) (.own oV2) (.own oL) (ilist (swAt g g.ands.length).lev (.own oV)) τ (upd σ oR (.cells [.int .i64 0, .slice [] .nil, .slice [] .nil, .slice [] .nil])) hst' hB hp rfl rfl f1.2.2.2.2.1 f1.2.2.2.2.2 hfs hout (by omega) (by omega) hl2 hnx hol
      have e0 : endB g (fun _ => none) (swAt g g.ands.length) = sweep g := rfl
      rw [e0] at hend
      obtain ⟨b, hbe⟩ : ∃ b, swAt g g.ands.length = b := ⟨_, rfl⟩
      rw [hbe] at hend hout ⊢
      clear hnx hol hl2 J hlev hlen hfs hlits hlk0 hfew hins
      repeat' (first | simp (maxDischargeDepth := 9) -implicitDefEqProofs -dsimp only [go_sem, seval, *] | simp (disch := omega) only [wrap64, tdiv2] | ((with_reducible refine Zv ?_ ?_); focus (first | omega | exact rfl)) | ((with_reducible refine Zu ?_ ?_); focus omega) | ((with_reducible refine Zt (fun oF hoF hnF hnF' => ?_)); (try simp only [upd_none, ne_eq, not_and] at hoF)))
      refine ACalls.one (hend _ .nilmap (.inl ⟨rfl, fun _ => rfl⟩) ?_ ?_ ?_) ?_
      ·simp only [bldC, hout, List.map_nil]
       simp (maxDischargeDepth := 9) -implicitDefEqProofs -dsimp only [go_sem, seval, *]
      ·simp (maxDischargeDepth := 9) -implicitDefEqProofs -dsimp only [go_sem, seval, *]
      ·intro q x hq
       have q0 : ¬ q = oV2 := fun e => by subst e; simp only [upd] at hq; split at hq <;> simp_all
       have q1 : ¬ q = oB := fun e => by subst e; simp only [upd] at hq; split at hq <;> simp_all
       have q2 : ¬ q = oL := fun e => by subst e; simp only [upd] at hq; split at hq <;> simp_all
       have q3 : ¬ q = oV := fun e => by subst e; simp only [upd] at hq; split at hq <;> simp_all
       have q4 : ¬ q = oP := fun e => by subst e; simp only [upd] at hq; split at hq <;> simp_all
       have q5 : ¬ q = om := fun e => by subst e; simp only [upd] at hq; split at hq <;> simp_all
       refine ⟨?_, q1, q4⟩
       simp only [upd, q0, q1, q2, q3, q4, q5, if_false] at hq ⊢
       exact hq
      ·repeat' (first | simp (maxDischargeDepth := 9) -implicitDefEqProofs -dsimp only [go_sem, seval, *] | simp (disch := omega) only [wrap64, tdiv2] | ((with_reducible refine Zv ?_ ?_); focus (first | omega | exact rfl)) | ((with_reducible refine Zu ?_ ?_); focus omega) | ((with_reducible refine Zt (fun oF hoF hnF hnF' => ?_)); (try simp only [upd_none, ne_eq, not_and] at hoF)))
       refine fin_eq ?_
       (repeat' (first | simp (maxDischargeDepth := 9) -implicitDefEqProofs -dsimp only [go_sem, seval, *] | simp (disch := omega) only [wrap64, tdiv2])) <;> (repeat' refine And.intro ?_ ?_) <;> (first | omega | rfl | assumption | skip)
  ·rw [List.concat_eq_append] at *
   obtain ⟨j, hj, rfl, hV⟩ := hS.last
   obtain ⟨s1, s2, s3⟩ := hI.stk a (by simp)
   clear hS
   have cf := count_first g
   have hfst : g.first ≤ 200 ∧ 1 ≤ g.first := by simp only [Aig.first]; omega
   have hfc := fun τ hB => rw_first oB g [.slice (g.ands.map encGate) .no, .slice (g.outs.map encInt) .no, .int .i64 (bgn g fun _ => none).g.ins, flV oP (bgn g fun _ => none).g.flops, .slice ((bgn g fun _ => none).g.ands.map encGate) .nil, .slice ((bgn g fun _ => none).g.outs.map encInt) .nil, ilist (bgn g fun _ => none).lits (.own oL), ilist (bgn g fun _ => none).lev (.own oV)] τ hB hsm
   obtain ⟨n, hn⟩ : ∃ n, n = l'.length + 1 + j.length := ⟨_, rfl⟩
   obtain ⟨C, hC⟩ : ∃ C, List.map encInt l' ++ List.map encInt (a :: j) = C := ⟨_, rfl⟩
   rw [← hn, hC]
   have c1 : C.length = n := by rw [← hC, hn]; simp; omega
   have c2 : (List.take 1 (List.drop l'.length C)).head? = some (.int .i64 a) := by
    rw [show l'.length = (l'.map encInt).length by simp, ← hC, List.drop_left]; rfl
   have c3 : C.take l'.length = l'.map encInt := by rw [← hC]; simp
   have hgt : (0 : Int) < l'.length + 1 := by omega
   have hn2 : l'.length + 1 ≤ n := by omega
   have hn3 : n ≤ 1000 := by omega
   have hll : (l' ++ [a]).length = l'.length + 1 := by simp
   rw [hll] at hM
   have hstk : Stk oV1 p (.pre p l'.length n) (.vec 1 n C) l' := by
    have h := Stk.pre (v := oV1) (p := p) l' (a :: j) (by simp; omega)
    rw [hC, show l'.length + (a :: j).length = n by simp; omega] at h
    exact h
   by_cases hs : a / 2 < g.first ∨ gk m (a / 2) = some true
   ·have hI' := sw_skip hI hs
    have hM' : unm g m g.ands.length * 3 + l'.length < unm g m g.ands.length * 3 + (l'.length + 1) ∧ unm g m g.ands.length * 3 + l'.length ≤ 720 := by omega
    have hV' : (V = .vec p (l'.length + 1) ∧ n = l'.length + 1) ∨ V = .pre p (l'.length + 1) n := by
     rcases hV with ⟨h1, h2⟩ | h1
     ·exact .inl ⟨h1, by subst h2; simpa using hn⟩
     ·exact .inr (by rw [h1, hn])
    clear hV hn hC
    by_cases hs0 : g.first ≤ a / 2
    ·have hk : gk m (a / 2) = some true := by rcases hs with h | h; omega; exact h
     clear hs
     rcases hV' with ⟨rfl, rfl⟩ | rfl
     all_goals
      repeat' (first | simp (maxDischargeDepth := 9) -implicitDefEqProofs -dsimp only [go_sem, seval, gt_iff_lt, ge_iff_le, Nat.mul_one, Int.add_sub_cancel, Int.toNat_natCast, Option.map_some, Option.getD_some, *] | simp (disch := omega) only [wrap64, tdiv2] | ((with_reducible refine Zv ?_ ?_); focus (first | omega | exact rfl)) | ((with_reducible refine Zu ?_ ?_); focus omega) | ((with_reducible refine Zt (fun oF hoF hnF hnF' => ?_)); (try simp only [upd_none, ne_eq, not_and] at hoF)) | ((with_reducible apply ACalls.one1); (focus ((first | with_reducible refine hfc _ ?_) <;> (first | (simp (maxDischargeDepth := 9) -implicitDefEqProofs -dsimp only [go_sem, seval, *]; done) | omega))); (focus (first | trivial | with_reducible exact rfl | (simp (maxDischargeDepth := 9) -implicitDefEqProofs -dsimp only [go_sem, seval]; done)))))
      refine loop_next _ _ _ _ (_, _, l', m) ⟨?_, ?_, ⟨hstk, hI', hM'.2⟩, hM'.1⟩
      ·(repeat' (first | simp (maxDischargeDepth := 9) -implicitDefEqProofs -dsimp only [go_sem, seval, *] | simp (disch := omega) only [wrap64, tdiv2])) <;> (repeat' refine And.intro ?_ ?_) <;> (first | omega | rfl | assumption | skip)
      ·(repeat' (first | simp (maxDischargeDepth := 9) -implicitDefEqProofs -dsimp only [go_sem, seval, *] | simp (disch := omega) only [wrap64, tdiv2])) <;> (repeat' refine And.intro ?_ ?_) <;> (first | omega | rfl | assumption | skip)
    ·clear hs
     rcases hV' with ⟨rfl, rfl⟩ | rfl
     all_goals
      repeat' (first | simp (maxDischargeDepth := 9) -implicitDefEqProofs -dsimp only [go_sem, seval, gt_iff_lt, ge_iff_le, Nat.mul_one, Int.add_sub_cancel, Int.toNat_natCast, *] | simp (disch := omega) only [wrap64, tdiv2] | ((with_reducible refine Zv ?_ ?_); focus (first | omega | exact rfl)) | ((with_reducible refine Zu ?_ ?_); focus omega) | ((with_reducible refine Zt (fun oF hoF hnF hnF' => ?_)); (try simp only [upd_none, ne_eq, not_and] at hoF)) | ((with_reducible apply ACalls.one1); (focus ((first | with_reducible refine hfc _ ?_) <;> (first | (simp (maxDischargeDepth := 9) -implicitDefEqProofs -dsimp only [go_sem, seval, *]; done) | omega))); (focus (first | trivial | with_reducible exact rfl | (simp (maxDischargeDepth := 9) -implicitDefEqProofs -dsimp only [go_sem, seval]; done)))))
      refine loop_next _ _ _ _ (_, _, l', m) ⟨?_, ?_, ⟨hstk, hI', hM'.2⟩, hM'.1⟩
      ·(repeat' (first | simp (maxDischargeDepth := 9) -implicitDefEqProofs -dsimp only [go_sem, seval, *] | simp (disch := omega) only [wrap64, tdiv2])) <;> (repeat' refine And.intro ?_ ?_) <;> (first | omega | rfl | assumption | skip)
      ·(repeat' (first | simp (maxDischargeDepth := 9) -implicitDefEqProofs -dsimp only [go_sem, seval, *] | simp (disch := omega) only [wrap64, tdiv2])) <;> (repeat' refine And.intro ?_ ?_) <;> (first | omega | rfl | assumption | skip)
   ·have hs0 : g.first ≤ a / 2 := by omega
    have hk : gk m (a / 2) = none := by
     cases hq : gk m (a / 2) with
     | none => rfl
     | some v =>
      have := (hI.keys _ _ hq).1
      subst this
      exact absurd (.inr hq) hs
    obtain ⟨i, he⟩ : ∃ i : Nat, a / 2 = g.first + i := ⟨(a / 2 - g.first).toNat, by omega⟩
    have hi : i < g.ands.length := by omega
    have hi' : (i : Int) < g.ands.length := by omega
    have hI' := sw_take hg hI hs0 he hi
    have hun := unm_set (v := true) (he ▸ hk) g.ands.length
    rw [if_pos hi, ← he] at hun
    have hL2 : (l' ++ [g.ands[i].1, g.ands[i].2]).length = l'.length + 2 := by simp
    have hM' : unm g (sk m (a / 2) true) g.ands.length * 3 + (l' ++ [g.ands[i].1, g.ands[i].2]).length < unm g m g.ands.length * 3 + (l'.length + 1) ∧ unm g (sk m (a / 2) true) g.ands.length * 3 + (l' ++ [g.ands[i].1, g.ands[i].2]).length ≤ 720 := by
     rw [hL2]; omega
    have hsub : a / 2 - g.first = i := by omega
    have hV' : (V = .vec p (l'.length + 1) ∧ n = l'.length + 1) ∨ V = .pre p (l'.length + 1) n := by
     rcases hV with ⟨h1, h2⟩ | h1
     ·exact .inl ⟨h1, by subst h2; simpa using hn⟩
     ·exact .inr (by rw [h1, hn])
    obtain ⟨x0, hx0⟩ : ∃ x, g.ands[i].1 = x := ⟨_, rfl⟩
    obtain ⟨x1, hx1⟩ : ∃ x, g.ands[i].2 = x := ⟨_, rfl⟩
    rw [hx0, hx1] at hI' hL2 hM'
    rw [he] at hI' hM' hs0 hk hsub
    clear hs hun
    by_cases hin : l'.length + 2 ≤ n
    ·have hput : putAt C l'.length [.int .i64 x0, .int .i64 x1] = (l' ++ [x0, x1]).map encInt ++ (j.drop 1).map encInt := by
      have := put_two (l'.map encInt) ((a :: j).map encInt) (.int .i64 x0) (.int .i64 x1)
      rw [hC, List.length_map] at this
      rw [this]; simp
     have hstk' : Stk oV1 p (.pre p (l'.length + 2) n) (.vec 1 n (putAt C l'.length [.int .i64 x0, .int .i64 x1])) (l' ++ [x0, x1]) := by
      have h := Stk.pre (v := oV1) (p := p) (l' ++ [x0, x1]) (j.drop 1) (by simp; omega)
      rw [hput]
      rw [show (l' ++ [x0, x1]).length + (j.drop 1).length = n by simp; omega, hL2] at h
      exact h
     clear hput hstk hC hn hV
     rcases hV' with ⟨rfl, hn0⟩ | rfl
     ·omega
     ·repeat' (first | simp (maxDischargeDepth := 9) -implicitDefEqProofs -dsimp only [go_sem, seval, gt_iff_lt, ge_iff_le, Nat.mul_one, flat_int2, List.length_cons, List.length_nil, Nat.zero_add, Int.add_sub_cancel, Int.toNat_natCast, Option.map_none, Option.getD_none, *] | simp (disch := omega) only [wrap64, tdiv2] | ((with_reducible refine Zv ?_ ?_); focus (first | omega | exact rfl)) | ((with_reducible refine Zu ?_ ?_); focus omega) | ((with_reducible refine Zt (fun oF hoF hnF hnF' => ?_)); (try simp only [upd_none, ne_eq, not_and] at hoF)) | ((with_reducible apply ACalls.one1); (focus ((first | with_reducible refine hfc _ ?_) <;> (first | (simp (maxDischargeDepth := 9) -implicitDefEqProofs -dsimp only [go_sem, seval, *]; done) | omega))); (focus (first | trivial | with_reducible exact rfl | (simp (maxDischargeDepth := 9) -implicitDefEqProofs -dsimp only [go_sem, seval]; done)))) | ((with_reducible apply id_one0); (focus (intro tS hS; ((first | with_reducible refine hfc _ ?_) <;> (first | (simp (maxDischargeDepth := 9) -implicitDefEqProofs -dsimp only [go_sem, seval, *]; done) | omega | ((with_reducible refine Sub.get hS ?_); simp (maxDischargeDepth := 9) -implicitDefEqProofs -dsimp only [go_sem, seval, *]; done))))); (focus (first | trivial | (simp (maxDischargeDepth := 9) -implicitDefEqProofs -dsimp only [go_sem, seval, *]; done)))))
      refine loop_next _ _ _ _ (_, _, l' ++ [x0, x1], sk m (g.first + i) true) ⟨?_, ?_, ⟨hstk', hI', hM'.2⟩, hM'.1⟩
      ·(repeat' (first | simp (maxDischargeDepth := 9) -implicitDefEqProofs -dsimp only [go_sem, seval, *] | simp (disch := omega) only [wrap64, tdiv2])) <;> (repeat' refine And.intro ?_ ?_) <;> (first | omega | rfl | assumption | skip)
      ·(repeat' (first | simp (maxDischargeDepth := 9) -implicitDefEqProofs -dsimp only [go_sem, seval, flat_int2, List.length_cons, List.length_nil, Nat.zero_add, *] | simp (disch := omega) only [wrap64, tdiv2])) <;> (repeat' refine And.intro ?_ ?_) <;> (first | omega | rfl | assumption | skip)
    ·have hn0 : n = l'.length + 1 := by omega
     have hstk' : Stk oV1 p (.vec p (l'.length + 2)) (.vec 1 (l'.length + 2) (l'.map encInt ++ [.int .i64 x0, .int .i64 x1])) (l' ++ [x0, x1]) := by
      have h := Stk.all (v := oV1) (p := p) (l' ++ [x0, x1]) (by simp; omega)
      rw [hL2, List.map_append] at h
      exact h
     have hin2 : ¬ l'.length + 1 ≤ l'.length := by omega
     clear hstk hC hV hn
     subst hn0
     rcases hV' with ⟨rfl, _⟩ | rfl
     all_goals
      repeat' (first | simp (maxDischargeDepth := 9) -implicitDefEqProofs -dsimp only [go_sem, seval, gt_iff_lt, ge_iff_le, Nat.mul_one, flat_int2, List.length_cons, List.length_nil, Nat.zero_add, Int.add_sub_cancel, Int.toNat_natCast, Option.map_none, Option.getD_none, *] | simp (disch := omega) only [wrap64, tdiv2] | ((with_reducible refine Zv ?_ ?_); focus (first | omega | exact rfl)) | ((with_reducible refine Zu ?_ ?_); focus omega) | ((with_reducible refine Zt (fun oF hoF hnF hnF' => ?_)); (try simp only [upd_none, ne_eq, not_and] at hoF)) | ((with_reducible apply ACalls.one1); (focus ((first | with_reducible refine hfc _ ?_) <;> (first | (simp (maxDischargeDepth := 9) -implicitDefEqProofs -dsimp only [go_sem, seval, *]; done) | omega))); (focus (first | trivial | with_reducible exact rfl | (simp (maxDischargeDepth := 9) -implicitDefEqProofs -dsimp only [go_sem, seval]; done)))) | ((with_reducible apply id_one0); (focus (intro tS hS; ((first | with_reducible refine hfc _ ?_) <;> (first | (simp (maxDischargeDepth := 9) -implicitDefEqProofs -dsimp only [go_sem, seval, *]; done) | omega | ((with_reducible refine Sub.get hS ?_); simp (maxDischargeDepth := 9) -implicitDefEqProofs -dsimp only [go_sem, seval, *]; done))))); (focus (first | trivial | (simp (maxDischargeDepth := 9) -implicitDefEqProofs -dsimp only [go_sem, seval, *]; done)))))
      refine loop_next _ _ _ _ (_, _, l' ++ [x0, x1], sk m (g.first + i) true) ⟨?_, ?_, ⟨hstk', hI', hM'.2⟩, hM'.1⟩
      ·(repeat' (first | simp (maxDischargeDepth := 9) -implicitDefEqProofs -dsimp only [go_sem, seval, *] | simp (disch := omega) only [wrap64, tdiv2])) <;> (repeat' refine And.intro ?_ ?_) <;> (first | omega | rfl | assumption | skip)
      ·(repeat' (first | simp (maxDischargeDepth := 9) -implicitDefEqProofs -dsimp only [go_sem, seval, flat_int2, List.length_cons, List.length_nil, Nat.zero_add, *] | simp (disch := omega) only [wrap64, tdiv2])) <;> (repeat' refine And.intro ?_ ?_) <;> (first | omega | rfl | assumption | skip)
end Go.Proofs.Ytapnlmhfacoceaa

namespace Fil.Rw
open Abs
open Eqv (moveL)
structure Ended (g : Aig) (s : Nat → Option Bool) (b : B) : Prop where
 ins : b.g.ins = g.ins
 flops : b.g.flops = (bgAt g s g.flops.length).2
 outs : b.g.outs = []
 len : b.lits.length = g.first.toNat + g.ands.length
 few : b.g.ands.length ≤ g.ands.length
 lits : ∀ x ∈ b.lits, b.g.lit x = true
 gok : Aig.gatesOk b.g.first b.g.ands = true
theorem nx_len (g : Aig) (s : Nat → Option Bool) (lits : List Int) : ∀ i, (nextsAt g s lits i).length = (bgAt g s i).2.length
 | 0 => rfl
 | i + 1 => by
  have ih := nx_len g s lits i
  unfold nextsAt bgAt
  cases s i with
  | some v => exact ih
  | none => simp [ih]
theorem nx_mem (g : Aig) (s : Nat → Option Bool) (lits : List Int) : ∀ i, i ≤ g.flops.length → ∀ f ∈ nextsAt g s lits i, ∃ h ∈ g.flops, f = ⟨moveL lits h.next, h.init⟩
 | 0, _, f, hf => by simp [nextsAt] at hf
 | i + 1, hi, f, hf => by
  have ih := nx_mem g s lits i (by omega)
  unfold nextsAt at hf
  have hg : g.flops.getD i ⟨0, false⟩ = g.flops[i] := by simp [List.getD_eq_getElem?_getD, show i < g.flops.length by omega]
  cases hs : s i with
  | some v => rw [hs] at hf; exact ih f hf
  | none =>
   rw [hs] at hf
   rcases List.mem_append.1 hf with h | h
   ·exact ih f h
   ·rw [List.mem_singleton.1 h, hg]
    exact ⟨_, List.getElem_mem (by omega), rfl⟩
theorem Ended.count {g : Aig} {s : Nat → Option Bool} {b : B} (h : Ended g s b) : (endB g s b).count = b.g.count ∧ (endB g s b).first = b.g.first := by
 have := nx_len g s b.lits g.flops.length
 have e : (endB g s b).flops.length = b.g.flops.length := by rw [h.flops]; exact this
 have e1 : (endB g s b).ins = b.g.ins := rfl
 have e2 : (endB g s b).ands = b.g.ands := rfl
 simp only [Aig.count, Aig.first, e, e1, e2, and_self]
theorem Ended.move {g : Aig} (hg : Sml g) {s : Nat → Option Bool} {b : B} (h : Ended g s b) {a : Int} (h0 : 0 ≤ a) (h1 : a < 2 * (1 + g.count)) : b.g.lit (moveL b.lits a) = true := by
 have cf := count_first g
 have hlo := hg.lo
 have hf : 1 ≤ g.first := by unfold Aig.first; omega
 exact move_lit h.lits h0 (by rw [h.len]; omega)
theorem Ended.sml {g : Aig} (hg : Sml g) {s : Nat → Option Bool} {b : B} (h : Ended g s b) : Sml (endB g s b) := by
 have hlo := hg.lo
 have h1 := hg.ins
 have h2 := hg.flops
 have h3 := hg.ands
 have h4 := hg.outs
 have h5 := h.few
 have hnl := nx_len g s b.lits g.flops.length
 have hbl := (bg_length g s g.flops.length).2
 obtain ⟨hc, hf⟩ := h.count
 have hcnt : (endB g s b).count = g.ins + (bgAt g s g.flops.length).2.length + b.g.ands.length := by rw [hc]; simp only [Aig.count, h.ins, h.flops]
 have hl : ∀ a, b.g.lit a = true → (endB g s b).lit a = true := fun a ha => by
  simp only [Aig.lit] at ha ⊢; rw [hc]; exact ha
 have hI : ∀ a, (endB g s b).lit a = true → I64 a := fun a ha => by
  have := litN_iff.1 ha
  exact ⟨by omega, by omega⟩
 have hfl : ∀ f ∈ (endB g s b).flops, (endB g s b).lit f.next = true := fun f hm => by
  obtain ⟨k, hk, rfl⟩ := nx_mem g s b.lits g.flops.length (Nat.le_refl _) f hm
  have := good_flops hg.good hk
  exact hl _ (h.move hg this.1 this.2)
 have hou : ∀ a ∈ (endB g s b).outs, (endB g s b).lit a = true := fun a hm => by
  simp only [endB, h.outs, List.nil_append] at hm
  obtain ⟨k, hk, rfl⟩ := List.mem_map.1 hm
  have := good_outs hg.good hk
  exact hl _ (h.move hg this.1 this.2)
 have hga : Aig.gatesOk (endB g s b).first (endB g s b).ands = true := by rw [hf]; exact h.gok
 have hfst : (endB g s b).first ≤ 200 := by rw [hf]; simp only [Aig.first, h.ins, h.flops]; omega
 have hgI : ∀ x ∈ (endB g s b).ands, I64 x.1 ∧ I64 x.2 := fun x hm => by
  obtain ⟨i, hi, rfl⟩ := List.getElem_of_mem hm
  have := gatesOk_iff.1 hga i hi
  have hi2 : i < b.g.ands.length := hi
  exact ⟨⟨by omega, by omega⟩, ⟨by omega, by omega⟩⟩
 have hil : (endB g s b).ins = g.ins := h.ins
 have hol : (endB g s b).outs.length = g.outs.length := by simp [endB, h.outs]
 have hfll : (endB g s b).flops.length = (bgAt g s g.flops.length).2.length := hnl
 have hal : (endB g s b).ands.length = b.g.ands.length := rfl
 refine ⟨⟨by rw [hil]; exact hg.wf.ins, by omega, by omega, by omega, fun f hm => hI _ (hfl f hm), hgI, fun a hm => hI _ (hou a hm)⟩, ?_, by omega, by omega, by omega, by omega⟩
 have hgd : (endB g s b).good = true := by
  simp only [Aig.good, Bool.and_eq_true, Bool.not_eq_true', List.any_eq_false, Bool.not_eq_true, Bool.not_eq_false']
  exact ⟨⟨hga, fun f hm => by rw [hfl f hm]; simp⟩, fun a hm => by rw [hou a hm]; simp⟩
 unfold Aig.check
 rw [if_neg (by omega), if_neg (by omega), if_pos hgd]
structure Less (g h : Aig) : Prop where
 sml : Sml h
 ins : h.ins = g.ins
 flops : h.flops.length ≤ g.flops.length
 ands : h.ands.length ≤ g.ands.length
 outs : h.outs.length = g.outs.length
theorem Ended.less {g : Aig} (hg : Sml g) {s : Nat → Option Bool} {b : B} (h : Ended g s b) : Less g (endB g s b) := by
 have hnl := nx_len g s b.lits g.flops.length
 have hbl := (bg_length g s g.flops.length).2
 exact ⟨h.sml hg, h.ins, by show (nextsAt g s b.lits g.flops.length).length ≤ _; omega, h.few, by simp [endB, h.outs]⟩
theorem Less.trans {g h k : Aig} (a : Less g h) (b : Less h k) : Less g k :=
 ⟨b.sml, b.ins.trans a.ins, Nat.le_trans b.flops a.flops, Nat.le_trans b.ands a.ands, b.outs.trans a.outs⟩
theorem hash_ended {g : Aig} (hg : Sml g) (s : Nat → Option Bool) : Ended g s (hashAt g s g.ands.length) := by
 have h := hash_inv hg s g.ands.length (Nat.le_refl _)
 exact ⟨h.ins, h.flops, h.outs, h.len, h.few, h.lits, h.fine.gok⟩
theorem bal_ended {g : Aig} (hg : Sml g) : Ended g (fun _ => none) (balAt g g.ands.length) := by
 have h := bal_inv hg g.ands.length (Nat.le_refl _)
 exact ⟨h.ins, h.flops, h.outs, h.len, h.few, h.lits, h.fine.gok⟩
theorem sw_first {g : Aig} {i : Nat} {b : B} (h : SwJ g i b) : b.g.first = g.first := by
 simp only [Aig.first, h.ins, h.flops, none_len]
theorem sw_gok {g : Aig} (hg : Sml g) : ∀ i, i ≤ g.ands.length → Aig.gatesOk (swAt g i).g.first (swAt g i).g.ands = true
 | 0, _ => rfl
 | i + 1, hi => by
  have ih := sw_gok hg i (by omega)
  have J := sw_inv hg i (by omega)
  have J' := sw_inv hg (i + 1) hi
  have hlo := hg.lo
  have hf : 1 ≤ g.first := by unfold Aig.first; omega
  rw [sw_first J] at ih
  rw [sw_first J']
  unfold swAt
  simp only
  split
  ·have hlt : i < g.ands.length := by omega
   obtain ⟨⟨a1, a2⟩, a3, a4⟩ := gate_bounds hg hlt
   rw [ands_getD hlt]
   simp only
   rw [gatesOk_append, ih]
   have hm : ∀ a, 0 ≤ a → a < 2 * (g.first + i) → 0 ≤ moveL ((swAt g i).lits ++ [2 * (g.first + (swAt g i).g.ands.length)]) a ∧ moveL ((swAt g i).lits ++ [2 * (g.first + (swAt g i).g.ands.length)]) a < 2 * (g.first + (swAt g i).g.ands.length) := fun a h0 h1 => by
    have hl : (a / 2).toNat < (swAt g i).lits.length := by rw [J.len]; omega
    have e : ((swAt g i).lits ++ [2 * (g.first + (swAt g i).g.ands.length)]).getD (a / 2).toNat 0 = (swAt g i).lits[(a / 2).toNat] := by
     rw [List.getD_eq_getElem?_getD, List.getElem?_append_left hl, List.getElem?_eq_getElem hl]; rfl
    have := J.lits _ (List.getElem_mem hl)
    unfold moveL
    rw [e]
    split
    ·exact this
    ·unfold turn; omega
   have q1 := hm _ a1 a2
   have q2 := hm _ a3 a4
   simp only [Aig.gatesOk, Bool.and_true, Bool.true_and, Bool.and_eq_true, litN_iff]
   exact ⟨⟨q1.1, by omega⟩, ⟨q2.1, by omega⟩⟩
  ·exact ih
theorem sweep_ended {g : Aig} (hg : Sml g) : Ended g (fun _ => none) (swAt g g.ands.length) := by
 have h := sw_inv hg g.ands.length (Nat.le_refl _)
 refine ⟨h.ins, h.flops, h.outs, h.len, h.few, fun x hx => ?_, sw_gok hg _ (Nat.le_refl _)⟩
 have := h.lits x hx
 have cf := count_first (swAt g g.ands.length).g
 have := sw_first h
 simp only [Aig.lit, litN_iff]; omega
theorem sweep_less {g : Aig} (hg : Sml g) : Less g (sweep g) := (sweep_ended hg).less hg
theorem hash_less {g : Aig} (hg : Sml g) (s : Nat → Option Bool) : Less g (hashed g s) := (hash_ended hg s).less hg
theorem bal_less {g : Aig} (hg : Sml g) : Less g (balance g) := (bal_ended hg).less hg
theorem still_less {g : Aig} (hg : Sml g) : Less g (still g) := hash_less hg _
def best (g : Aig) : Aig := sweep (balance (still (hashed g fun _ => none)))
theorem best_less {g : Aig} (hg : Sml g) : Less g (best g) := by
 have a := hash_less hg fun _ => none
 have b := still_less a.sml
 have c := bal_less b.sml
 exact ((a.trans b).trans c).trans (sweep_less c.sml)
end Fil.Rw

namespace Go.Proofs.Ytapnlmhfacoceaa
open Abs Fil Fil.Rw
def bsAt (g : Aig) : Nat → Aig
 | 0 => g
 | 1 => hashM g
 | 2 => still (hashM g)
 | 3 => balance (still (hashM g))
 | _ => best g
set_option maxHeartbeats 4000000 in
theorem rw_Best (g : Aig) (σ : Sig) (hg : Sml g) : ACalls Try.prog 24 [encAig g] σ (fun r σ' => r = .ret (.tup [encAig (best g), .int .i64 0]) ∧ σ' = σ) := by
 refine calls_x mixed Try.func24 b24 n24 rfl q24 (by simp) ?_; unfold c24 r24
 have ez : ((0 : Int) != 0) = false := by decide
 have k1 : Sml (bsAt g 1) := (hash_less hg fun _ => none).sml
 have k2 : Sml (bsAt g 2) := (still_less k1).sml
 have k3 : Sml (bsAt g 3) := (bal_less k2).sml
 have h0 := fun τ => rw_Hash (bsAt g 0) τ hg
 have h1 := fun τ => rw_Still (bsAt g 1) τ k1
 have h2 := fun τ => rw_Balance (bsAt g 2) τ k2
 have h3 := fun τ => rw_Sweep (bsAt g 3) τ k3
 have e0 : hashM (bsAt g 0) = bsAt g 1 := rfl
 have e1 : still (bsAt g 1) = bsAt g 2 := rfl
 have e2 : balance (bsAt g 2) = bsAt g 3 := rfl
 have e3 : sweep (bsAt g 3) = bsAt g 4 := rfl
 have e4 : best g = bsAt g 4 := rfl
 rw [e0] at h0
 rw [e1] at h1
 rw [e2] at h2
 rw [e3] at h3
 rw [e4]
 have hG : encAig g = encAig (bsAt g 0) := rfl
 rw [hG]
 clear k1 k2 k3 e0 e1 e2 e3 e4 hG hg
 obtain ⟨gs, hgs⟩ : ∃ gs, bsAt g = gs := ⟨_, rfl⟩
 rw [hgs] at h0 h1 h2 h3 ⊢
 clear hgs
 repeat' (first | simp (maxDischargeDepth := 9) -implicitDefEqProofs -dsimp only [go_sem, seval, *] | ((with_reducible refine Zt (fun oF hoF hnF hnF' => ?_)); (try simp only [upd_none, ne_eq, not_and] at hoF)))
 rename_i oG hoG hnG hnG'
 obtain ⟨oR, eR⟩ : ∃ x, x = oF := ⟨oF, rfl⟩
 subst eR
 obtain ⟨r1, r2⟩ := hoF
 have r3 : ¬ oG = oR := fun e => r1 e.symm
 clear hnG hnG' hnF hnF'
 refine loop_rule (fun i : Nat => [(10, some (.int .i64 i)), (9, some (.int .i64 4)), (8, some (.slice [.fn 17 [] [], .fn 22 [] [], .fn 20 [] [], .fn 15 [] []] .no)), (1, some (.ptr oG 0)), (2, some (.ptr oR 0))])
  (fun i => upd (upd σ oG (.cells (aigL (gs i)))) oR (.cells [.int .i64 0, .slice [] .nil, .slice [] .nil, .slice [] .nil])) (fun i => i ≤ 4) (fun i => 4 - i) 0 ?_ ?_
 ·(repeat' simp (maxDischargeDepth := 9) -implicitDefEqProofs -dsimp only [go_sem, seval, Int.natCast_zero, *])
 ·intro i hi
  by_cases hlt : i < 4
  ·rcases (show i = 0 ∨ i = 1 ∨ i = 2 ∨ i = 3 by omega) with rfl | rfl | rfl | rfl
   ·clear h1 h2 h3 hi hlt
    repeat' (first | simp (maxDischargeDepth := 9) -implicitDefEqProofs -dsimp only [go_sem, seval, Int.natCast_zero, *] | simp (disch := omega) only [wrap64] | ((with_reducible refine Zt (fun oF hoF hnF hnF' => ?_)); (try simp only [upd_none, ne_eq, not_and] at hoF)) | ((with_reducible apply ACalls.one1); (focus ((with_reducible refine h0 _) <;> (first | (simp (maxDischargeDepth := 9) -implicitDefEqProofs -dsimp only [go_sem, seval, *]; done) | omega))); (focus (first | trivial | with_reducible exact rfl | (simp (maxDischargeDepth := 9) -implicitDefEqProofs -dsimp only [go_sem, seval]; done)))))
    refine loop_next _ _ _ _ (1) ?_; (repeat' simp (maxDischargeDepth := 9) -implicitDefEqProofs -dsimp only [go_sem, seval,  Int.natCast_one, Int.zero_add, *])
   ·clear h0 h2 h3 hi hlt
    repeat' (first | simp (maxDischargeDepth := 9) -implicitDefEqProofs -dsimp only [go_sem, seval, Int.natCast_one, *] | simp (disch := omega) only [wrap64] | ((with_reducible refine Zt (fun oF hoF hnF hnF' => ?_)); (try simp only [upd_none, ne_eq, not_and] at hoF)) | ((with_reducible apply ACalls.one1); (focus ((with_reducible refine h1 _) <;> (first | (simp (maxDischargeDepth := 9) -implicitDefEqProofs -dsimp only [go_sem, seval, *]; done) | omega))); (focus (first | trivial | with_reducible exact rfl | (simp (maxDischargeDepth := 9) -implicitDefEqProofs -dsimp only [go_sem, seval]; done)))))
    refine loop_next _ _ _ _ (2) ?_; (repeat' simp (maxDischargeDepth := 9) -implicitDefEqProofs -dsimp only [go_sem, seval,  Int.natCast_one, Int.zero_add, *])
   ·clear h1 h0 h3 hi hlt
    have en : ((2 : Nat) : Int) = 2 := rfl
    repeat' (first | simp (maxDischargeDepth := 9) -implicitDefEqProofs -dsimp only [go_sem, seval, en, *] | simp (disch := omega) only [wrap64] | ((with_reducible refine Zt (fun oF hoF hnF hnF' => ?_)); (try simp only [upd_none, ne_eq, not_and] at hoF)) | ((with_reducible apply ACalls.one1); (focus ((with_reducible refine h2 _) <;> (first | (simp (maxDischargeDepth := 9) -implicitDefEqProofs -dsimp only [go_sem, seval, *]; done) | omega))); (focus (first | trivial | with_reducible exact rfl | (simp (maxDischargeDepth := 9) -implicitDefEqProofs -dsimp only [go_sem, seval]; done)))))
    refine loop_next _ _ _ _ (3) ?_; (repeat' simp (maxDischargeDepth := 9) -implicitDefEqProofs -dsimp only [go_sem, seval,  en, *])
   ·clear h1 h2 h0 hi hlt
    have en : ((3 : Nat) : Int) = 3 := rfl
    repeat' (first | simp (maxDischargeDepth := 9) -implicitDefEqProofs -dsimp only [go_sem, seval, en, *] | simp (disch := omega) only [wrap64] | ((with_reducible refine Zt (fun oF hoF hnF hnF' => ?_)); (try simp only [upd_none, ne_eq, not_and] at hoF)) | ((with_reducible apply ACalls.one1); (focus ((with_reducible refine h3 _) <;> (first | (simp (maxDischargeDepth := 9) -implicitDefEqProofs -dsimp only [go_sem, seval, *]; done) | omega))); (focus (first | trivial | with_reducible exact rfl | (simp (maxDischargeDepth := 9) -implicitDefEqProofs -dsimp only [go_sem, seval]; done)))))
    refine loop_next _ _ _ _ (4) ?_; (repeat' simp (maxDischargeDepth := 9) -implicitDefEqProofs -dsimp only [go_sem, seval,  en, *])
  ·have e : i = 4 := by omega
   subst e
   have en : ((4 : Nat) : Int) = 4 := rfl
   clear h0 h1 h2 h3 hi hlt
   repeat' simp (maxDischargeDepth := 9) -implicitDefEqProofs -dsimp only [go_sem, seval, en, *]
   refine fin_eq ?_
   (repeat' simp (maxDischargeDepth := 9) -implicitDefEqProofs -dsimp only [go_sem, seval, *])
theorem rw_Best_err (g : Aig) (e : Int) (σ : Sig) (hs : Wf g) (he : g.check = e) (h0 : e ≠ 0) : ACalls Try.prog 24 [encAig g] σ (fun r σ' => r = .ret (.tup [encAig ⟨0, [], [], []⟩, .int .i64 e]) ∧ σ' = σ) := by
 refine calls_x mixed Try.func24 b24 n24 rfl q24 (by simp) ?_; unfold c24 r24
 have hb : (e != 0) = true := by simpa using h0
 have hh := fun τ => rw_Hash_err g e τ hs he h0
 clear hs he h0
 repeat' (first | simp (maxDischargeDepth := 9) -implicitDefEqProofs -dsimp only [go_sem, seval, *] | ((with_reducible refine Zt (fun oF hoF hnF hnF' => ?_)); (try simp only [upd_none, ne_eq, not_and] at hoF)))
 rename_i oG hoG hnG hnG'
 obtain ⟨oR, eR⟩ : ∃ x, x = oF := ⟨oF, rfl⟩
 subst eR
 obtain ⟨r1, r2⟩ := hoF
 have r3 : ¬ oG = oR := fun e => r1 e.symm
 clear hnG hnG' hnF hnF'
 refine loop_rule (fun i : Nat => [(10, some (.int .i64 i)), (9, some (.int .i64 4)), (8, some (.slice [.fn 17 [] [], .fn 22 [] [], .fn 20 [] [], .fn 15 [] []] .no)), (1, some (.ptr oG 0)), (2, some (.ptr oR 0))])
  (fun i => upd (upd σ oG (.cells (aigL g))) oR (.cells [.int .i64 0, .slice [] .nil, .slice [] .nil, .slice [] .nil])) (fun i => i = 0) (fun i => 4 - i) 0 ?_ ?_
 ·(repeat' simp (maxDischargeDepth := 9) -implicitDefEqProofs -dsimp only [go_sem, seval, Int.natCast_zero, *])
 ·intro i hi
  subst hi
  repeat' (first | simp (maxDischargeDepth := 9) -implicitDefEqProofs -dsimp only [go_sem, seval, Int.natCast_zero, *] | ((with_reducible refine Zt (fun oF hoF hnF hnF' => ?_)); (try simp only [upd_none, ne_eq, not_and] at hoF)) | ((with_reducible apply ACalls.one1); (focus ((with_reducible refine hh _) <;> (first | (simp (maxDischargeDepth := 9) -implicitDefEqProofs -dsimp only [go_sem, seval, *]; done) | omega))); (focus (first | trivial | with_reducible exact rfl | (simp (maxDischargeDepth := 9) -implicitDefEqProofs -dsimp only [go_sem, seval]; done)))))
  refine fin_eq ?_
  (repeat' simp (maxDischargeDepth := 9) -implicitDefEqProofs -dsimp only [go_sem, seval, List.map_nil, *])
end Go.Proofs.Ytapnlmhfacoceaa

namespace Go.Proofs.Ytapnlmhfacoceaa
open Abs Fil Fil.Rw
theorem Zw (σ : Sig) (o o' : Nat) (x : AObj) : (upd σ o x o' = none) = (¬ o' = o ∧ ¬ o = o' ∧ σ o' = none) := by
 simp only [upd]
 by_cases h : o' = o
 ·subst h; simp
 ·have h' : ¬ o = o' := fun e => h e.symm
  simp [h, h']
def gB : Aig := ⟨4, [], [(2, 4), (10, 6), (12, 8)], [14]⟩
def gF : Aig := ⟨1, [⟨6, false⟩], [(2, 4)], [4]⟩
def gT : Aig := ⟨2, [], [(2, 4), (4, 2), (2, 5)], [6, 9]⟩
theorem sml_of {g : Aig} (h : decide (g.check = 0 ∧ 0 ≤ g.ins ∧ g.ins ≤ 60 ∧ g.flops.length ≤ 60 ∧ g.ands.length ≤ 200 ∧ g.outs.length ≤ 60 ∧ (∀ f ∈ g.flops, -9223372036854775808 ≤ f.next ∧ f.next ≤ 9223372036854775807) ∧ (∀ x ∈ g.ands, (-9223372036854775808 ≤ x.1 ∧ x.1 ≤ 9223372036854775807) ∧ -9223372036854775808 ≤ x.2 ∧ x.2 ≤ 9223372036854775807) ∧ ∀ a ∈ g.outs, -9223372036854775808 ≤ a ∧ a ≤ 9223372036854775807) = true) : Sml g := by
 obtain ⟨h1, h2, h3, h4, h5, h6, h7, h8, h9⟩ := of_decide_eq_true h
 exact ⟨⟨⟨by omega, by omega⟩, by omega, by omega, by omega, h7, h8, h9⟩, h1, h3, h4, h5, h6⟩
theorem sB : Sml gB := sml_of (by decide +kernel)
theorem sF : Sml gF := sml_of (by decide +kernel)
theorem sT : Sml gT := sml_of (by decide +kernel)
theorem eB : balance gB = ⟨4, [], [(2, 4), (6, 8), (10, 12)], [14]⟩ := by decide +kernel
theorem eF : still gF = ⟨1, [], [], [0]⟩ := by decide +kernel
theorem eT : sweep gT = ⟨2, [], [(2, 4), (4, 2)], [6, 9]⟩ := by decide +kernel
theorem eH : hashM gT = ⟨2, [], [(2, 4), (2, 5)], [6, 7]⟩ := by decide +kernel
theorem eX : best gT = ⟨2, [], [(2, 4)], [6, 7]⟩ := by decide +kernel
abbrev iI (a : Int) : AV := .int .i64 a
abbrev pG (a b : Int) : AV := .agg [.int .i64 a, .int .i64 b]
set_option maxRecDepth 20000 in
set_option maxHeartbeats 8000000 in
theorem law_live (σ : Sig) : ACalls Try.prog 13 [] σ (fun r σ' => r = .ret (.bool true) ∧ σ' = σ) := by
 have cB : ∀ τ, ACalls Try.prog 20 [.agg [iI 4, .slice [] .no, .slice [pG 2 4, pG 10 6, pG 12 8] .no, .slice [iI 14] .no]] τ (fun r σ' => r = .ret (.tup [.agg [iI 4, .slice [] .no, .slice [pG 2 4, pG 6 8, pG 10 12] .no, .slice [iI 14] .no], iI 0]) ∧ σ' = τ) := fun τ => by
  have := rw_Balance gB τ sB
  rw [eB] at this; exact this
 have cF : ∀ τ, ACalls Try.prog 22 [.agg [iI 1, .slice [.agg [iI 6, .bool false]] .no, .slice [pG 2 4] .no, .slice [iI 4] .no]] τ (fun r σ' => r = .ret (.tup [.agg [iI 1, .slice [] .no, .slice [] .no, .slice [iI 0] .no], iI 0]) ∧ σ' = τ) := fun τ => by
  have := rw_Still gF τ sF
  rw [eF] at this; exact this
 have cT : ∀ τ, ACalls Try.prog 15 [.agg [iI 2, .slice [] .no, .slice [pG 2 4, pG 4 2, pG 2 5] .no, .slice [iI 6, iI 9] .no]] τ (fun r σ' => r = .ret (.tup [.agg [iI 2, .slice [] .no, .slice [pG 2 4, pG 4 2] .no, .slice [iI 6, iI 9] .no], iI 0]) ∧ σ' = τ) := fun τ => by
  have := rw_Sweep gT τ sT
  rw [eT] at this; exact this
 have cH : ∀ τ, ACalls Try.prog 17 [.agg [iI 2, .slice [] .no, .slice [pG 2 4, pG 4 2, pG 2 5] .no, .slice [iI 6, iI 9] .no]] τ (fun r σ' => r = .ret (.tup [.agg [iI 2, .slice [] .no, .slice [pG 2 4, pG 2 5] .no, .slice [iI 6, iI 7] .no], iI 0]) ∧ σ' = τ) := fun τ => by
  have := rw_Hash gT τ sT
  rw [eH] at this; exact this
 have cX : ∀ τ, ACalls Try.prog 24 [.agg [iI 2, .slice [] .no, .slice [pG 2 4, pG 4 2, pG 2 5] .no, .slice [iI 6, iI 9] .no]] τ (fun r σ' => r = .ret (.tup [.agg [iI 2, .slice [] .no, .slice [pG 2 4] .no, .slice [iI 6, iI 7] .no], iI 0]) ∧ σ' = τ) := fun τ => by
  have := rw_Best gT τ sT
  rw [eX] at this; exact this
 refine calls_x mixed Try.func13 b13 n13 rfl q13 (by simp) ?_; unfold c13 r13
 repeat' (first | simp (maxDischargeDepth := 9) -implicitDefEqProofs -dsimp only [go_sem, seval, Int.reduceBNe, Int.reduceBEq, *] | ((with_reducible refine Zt (fun oF hoF hnF hnF' => ?_)); clear hnF hnF'; (try simp only [Zw, ne_eq] at hoF)) | ((with_reducible apply ACalls.one1); (focus ((first | with_reducible refine ACalls.flA (cB _) ?_ | with_reducible refine ACalls.flA (cF _) ?_ | with_reducible refine ACalls.flA (cT _) ?_ | with_reducible refine ACalls.flA (cH _) ?_ | with_reducible refine ACalls.flA (cX _) ?_) <;> (first | (simp (maxDischargeDepth := 9) -implicitDefEqProofs -dsimp only [go_sem, seval, *]; done) | omega))); (focus (first | trivial | with_reducible exact rfl | (simp (maxDischargeDepth := 9) -implicitDefEqProofs -dsimp only [go_sem, seval]; done)))))
 refine fin_eq ?_
 (repeat' simp (maxDischargeDepth := 9) -implicitDefEqProofs -dsimp only [go_sem, seval, *])
end Go.Proofs.Ytapnlmhfacoceaa

namespace Fil
open Abs Go
theorem i64_min : IntKind.i64.min = -9223372036854775808 := by decide
theorem i64_max : IntKind.i64.max = 9223372036854775807 := by decide
theorem I64_of {n : Int} (h : IntKind.i64.min ≤ n ∧ n ≤ IntKind.i64.max) : I64 n := by rw [i64_min, i64_max] at h; exact h
theorem arg_int {a : AV} (h : ShV false (.int .i64) a) : ∃ n, a = encInt n ∧ I64 n := by
 obtain ⟨n, e, hn⟩ := shv_int h
 exact ⟨n, e, I64_of hn⟩
theorem arg_gate {a : AV} (h : ShV true (.row [.int .i64, .int .i64]) a) : ∃ x : Int × Int, a = encGate x ∧ I64 x.1 ∧ I64 x.2 := by
 obtain ⟨es, e, p, q, rfl, ⟨n, rfl, hn⟩, p', q', rfl, ⟨m, rfl, hm⟩, rfl⟩ := h
 simp [mkv] at e
 exact ⟨(n, m), e.symm, I64_of hn, I64_of hm⟩
theorem arg_flop {a : AV} (h : ShV true (.row [.int .i64, .bool]) a) : ∃ x : Flop, a = encFlop x ∧ I64 x.next := by
 obtain ⟨es, e, p, q, rfl, ⟨n, rfl, hn⟩, p', q', rfl, ⟨m, rfl⟩, rfl⟩ := h
 simp [mkv] at e
 exact ⟨⟨n, m⟩, e.symm, I64_of hn⟩
structure Wide (g : Aig) : Prop where
 ins : I64 g.ins
 nexts : ∀ f ∈ g.flops, I64 f.next
 gates : ∀ x ∈ g.ands, I64 x.1 ∧ I64 x.2
 lits : ∀ a ∈ g.outs, I64 a
theorem arg_aig {a : AV} (h : ShV true (.row [.int .i64, .slice true (.row [.int .i64, .bool]), .slice true (.row [.int .i64, .int .i64]), .slice false (.int .i64)]) a) : ∃ g : Aig, a = encAig g ∧ Wide g := by
 obtain ⟨es, e, p, q, rfl, ⟨n, rfl, hn⟩, p1, q1, rfl, h1, p2, q2, rfl, h2, p3, q3, rfl, h3, rfl⟩ := h
 obtain ⟨fl, rfl, _, k1⟩ := shc_slice (f := encFlop) (p := fun x : Flop => I64 x.next) h1 fun x hx => arg_flop hx
 obtain ⟨an, rfl, _, k2⟩ := shc_slice (f := encGate) (p := fun x : Int × Int => I64 x.1 ∧ I64 x.2) h2 fun x hx => arg_gate hx
 obtain ⟨ou, rfl, _, k3⟩ := shc_slice (f := encInt) (p := I64) h3 fun x hx => arg_int hx
 simp [mkv] at e
 exact ⟨⟨n, fl, an, ou⟩, e.symm, I64_of hn, k1, k2, k3⟩
end Fil

namespace Go.Proofs.Ytapnlmhfacoceaa
open Abs Fil Fil.Rw
def fewR (g : Aig) : Bool := decide (g.ins ≤ 50) && decide ((g.flops.length : Int) ≤ 50) && decide ((g.ands.length : Int) ≤ 150) && decide ((g.outs.length : Int) ≤ 50)
theorem law_few (g : Aig) (σ : Sig) : ACalls Try.prog 14 [encAig g] σ (fun r σ' => r = .ret (.bool (fewR g)) ∧ σ' = σ) := by
 refine calls_x mixed Try.func14 b14 n14 rfl q14 (by simp) ?_; unfold c14 r14
 unfold fewR
 cases h1 : decide (g.ins ≤ 50) <;> cases h2 : decide ((g.flops.length : Int) ≤ 50) <;> cases h3 : decide ((g.ands.length : Int) ≤ 150) <;> cases h4 : decide ((g.outs.length : Int) ≤ 50) <;> first
  | (have h1' := of_decide_eq_false h1; skip)
  | skip
 all_goals
  repeat' simp (maxDischargeDepth := 9) -implicitDefEqProofs -dsimp only [go_sem, seval, Bool.and_true, Bool.and_false, Bool.true_and, Bool.false_and, *]
  refine fin_eq ?_
  (repeat' simp (maxDischargeDepth := 9) -implicitDefEqProofs -dsimp only [go_sem, seval, *])
theorem few_sml {g : Aig} (hw : Wide g) (h : fewR g = true) : Wf g ∧ (g.check = 0 → Sml g) := by
 simp only [fewR, Bool.and_eq_true, decide_eq_true_eq] at h
 obtain ⟨⟨⟨h1, h2⟩, h3⟩, h4⟩ := h
 have wf : Wf g := ⟨hw.ins, by omega, by omega, by omega, hw.nexts, hw.gates, hw.lits⟩
 exact ⟨wf, fun hc => ⟨wf, hc, by omega, by omega, by omega, by omega⟩⟩
end Go.Proofs.Ytapnlmhfacoceaa

namespace Go.Proofs.Ytapnlmhfacoceaa
open Abs Fil Fil.Rw
open Eqv (moveL)
theorem rf_first (g : Aig) (σ : Sig) (hs : Small g) : ACalls Try.prog 45 [encAig g] σ (fun r σ' => r = .ret (.int .i64 g.first) ∧ σ' = σ) := by
 refine calls_x mixed Try.func45 b45 n45 rfl q45 (by simp) ?_; unfold c45 r45
 obtain ⟨⟨h0, h1, h2, h3, h4, h5, h6⟩, h7, h8⟩ := hs
 repeat' (first | simp (maxDischargeDepth := 9) -implicitDefEqProofs -dsimp only [go_sem, seval, *] | simp (disch := omega) only [wrap64])
 refine fin_eq ?_
 (repeat' simp (maxDischargeDepth := 9) -implicitDefEqProofs -dsimp only [go_sem, seval, Aig.first, *])
theorem rf_moved (lits : List Int) (t : Tok) (a : Int) (σ : Sig) (h0 : 0 ≤ a) (h1 : (a / 2).toNat < lits.length) (hl : ∀ x ∈ lits, 0 ≤ x ∧ x ≤ 1000000) (ha : a ≤ 1000000) :
  ACalls Try.prog 46 [ilist lits t, .int .i64 a] σ (fun r σ' => r = .ret (.int .i64 (moveL lits a)) ∧ σ' = σ) := by
 refine calls_x mixed Try.func46 b46 n46 rfl q46 (by simp) ?_; unfold c46 r46
 have hg : lits[(a / 2).toNat] = lits.getD (a / 2).toNat 0 := by simp [List.getD_eq_getElem?_getD, h1]
 obtain ⟨hf0, hf1⟩ := hl _ (List.getElem_mem h1)
 rw [hg] at hf0 hf1
 obtain ⟨f, hf⟩ : ∃ f, lits.getD (a / 2).toNat 0 = f := ⟨_, rfl⟩
 rw [hf] at hg hf0 hf1
 have hx := xor_bit f a hf0 (by omega) h0
 have hm : moveL lits a = if a % 2 = 0 then f else turn f := by unfold moveL; rw [hf]
 rw [hm]
 rw [← hx]
 clear hx hm hl
 repeat' (first | simp (maxDischargeDepth := 9) -implicitDefEqProofs -dsimp only [go_sem, seval, *] | simp (disch := omega) only [wrap64, tdiv2, tmod2] | ((with_reducible refine Zv ?_ ?_); focus (first | omega | exact rfl)) | ((with_reducible refine Zu ?_ ?_); focus omega))
 refine fin_eq ?_
 (repeat' simp (maxDischargeDepth := 9) -implicitDefEqProofs -dsimp only [go_sem, seval, *])
def evL (n : Nat) : List Int := (List.range n).map fun k : Nat => 2 * (k : Int)
theorem evL_succ (n : Nat) : (evL (n + 1)).map encInt = (evL n).map encInt ++ [.int .i64 (2 * (n : Int))] := by simp [evL, List.range_succ]
theorem evL_len (n : Nat) : (evL n).length = n := by simp [evL]
theorem rf_same (g : Aig) (σ : Sig) (hs : Small g) (hn : g.first ≤ 1000000) : ACalls Try.prog 44 [encAig g] σ (NewO σ (fun o => ilist (evL g.first.toNat) (.own o)) (.grow 1 g.first.toNat)) := by
 refine ACalls.virt (callable_of Try.func44 b44 n44) 1 (fun oV1 hoV1 hnV1 hnV1' => ?_); (try simp only [upd_none, ne_eq, not_and] at hoV1); refine calls_x mixed Try.func44 b44 n44 rfl q44 (by simp) ?_; unfold c44 r44
 have hf := fun τ => rf_first g τ hs
 have hlo := hs.lo
 have h1 : 1 ≤ g.first := by simp only [Aig.first]; omega
 obtain ⟨N, hN⟩ : ∃ N, g.first.toNat = N := ⟨_, rfl⟩
 have hN' : g.first = (N : Int) := by omega
 rw [hN'] at hf
 rw [hN]
 have hN1 : N ≤ 1000000 := by omega
 clear hs hN hN' hn
 repeat' simp (maxDischargeDepth := 9) -implicitDefEqProofs -dsimp only [go_sem, seval, *]
 refine loop_rule (fun i : Nat => [(4, some (.int .i64 i)), (1, some (.cptr (aigL g))), (3, some (ilist (evL i) (.own oV1)))])
  (fun i => upd σ oV1 (.grow 1 i)) (fun i => i ≤ N) (fun i => N - i) 0 ?_ ?_
 ·have e0 : evL 0 = [] := rfl
  (repeat' simp (maxDischargeDepth := 9) -implicitDefEqProofs -dsimp only [go_sem, seval, e0, ilist, List.map_nil, Int.natCast_zero, *]) <;> (first | omega | skip)
 ·intro i hi
  have hl := evL_len i
  by_cases hlt : i < N
  ·have hlt' : (i : Int) < N := by omega
   have hs := evL_succ i
   repeat' (first | simp (maxDischargeDepth := 9) -implicitDefEqProofs -dsimp only [go_sem, seval, *] | simp (disch := omega) only [wrap64] | ((with_reducible refine Zv ?_ ?_); focus (first | omega | exact rfl)) | ((with_reducible apply ACalls.one1); (focus ((with_reducible refine hf _) <;> (first | (simp (maxDischargeDepth := 9) -implicitDefEqProofs -dsimp only [go_sem, seval, *]; done) | omega))); (focus (first | trivial | with_reducible exact rfl | (simp (maxDischargeDepth := 9) -implicitDefEqProofs -dsimp only [go_sem, seval]; done)))))
   refine loop_next _ _ _ _ (i + 1) ?_; (repeat' simp (maxDischargeDepth := 9) -implicitDefEqProofs -dsimp only [go_sem, seval,  ilist, *]) <;> (repeat' refine And.intro ?_ ?_) <;> (first | omega | skip)
  ·have hlt' : ¬ (i : Int) < N := by omega
   have ei : i = N := by omega
   subst ei
   repeat' (first | simp (maxDischargeDepth := 9) -implicitDefEqProofs -dsimp only [go_sem, seval, *] | ((with_reducible apply ACalls.one1); (focus ((with_reducible refine hf _) <;> (first | (simp (maxDischargeDepth := 9) -implicitDefEqProofs -dsimp only [go_sem, seval, *]; done) | omega))); (focus (first | trivial | with_reducible exact rfl | (simp (maxDischargeDepth := 9) -implicitDefEqProofs -dsimp only [go_sem, seval]; done)))))
   refine fin_new oV1 hoV1 ?_
   (repeat' simp (maxDischargeDepth := 9) -implicitDefEqProofs -dsimp only [go_sem, seval, *])
theorem put_bool (l : List Bool) (i : Nat) (v : Bool) (h : i < l.length) : List.take (i * 1) (l.map encBool) ++ [AV.bool v] ++ List.drop (i * 1 + 1) (l.map encBool) = (l.set i v).map encBool := by
 have h1 : (l.set i v).map encBool = (l.map encBool).set i (encBool v) := by rw [List.map_set]
 rw [h1, List.set_eq_take_append_cons_drop]
 simp [h]
theorem rep_bool (n : Nat) : (List.replicate n [AV.bool false]).flatten = (List.replicate n false).map encBool := by
 induction n with
 | zero => rfl
 | succ n ih => simp only [List.replicate_succ, List.flatten_cons, ih, List.map_cons]; rfl
theorem head_bool {l : List Bool} {i : Nat} (h : i < l.length) : (List.take 1 (List.drop (i * 1) (l.map encBool))).head? = some (.bool (l.getD i false)) := by
 rw [Nat.mul_one, List.drop_eq_getElem_cons (by simpa using h)]
 simp [List.getD_eq_getElem?_getD, h]
theorem flat_bools (l : List Bool) : flat (l.map encBool) = l.map encBool := by
 induction l with
 | nil => rfl
 | cons a l ih => rw [List.map_cons, flat_cons, ih]; rfl
theorem bool_all (l : List Bool) : ∀ x ∈ l.map encBool, (cellsA x).length = 1 := fun x hx => by
 obtain ⟨a, _, rfl⟩ := List.mem_map.1 hx
 rfl
theorem fin_bools {v : AV} {σ τ : Sig} {o n : Nat} {l : List Bool} (h : σ o = some (.vec 1 n (l.map encBool))) (hl : l.length = n) (hv : v = .vec o n) (hs : SubX [] τ (upd σ o (.grow 1 n))) :
  fin (fun r s => r = .ret (.slice (l.map encBool) .no) ∧ s = τ) v σ := by
 subst hv
 have ht : FL (upd σ o (.grow 1 n)) (.slice (l.map encBool) .no) (.slice (l.map encBool) .no) := by simp (maxDischargeDepth := 9) -implicitDefEqProofs -dsimp only [go_sem, seval]
 exact fin_frz o (sz := 1) (n := n) (cs := l.map encBool) (l := l.map encBool) (v0 := .slice (l.map encBool) .no) (v1 := .slice (l.map encBool) .no) (τ := τ) h (flat_bools l) (by simpa using hl) (bool_all l) (.base _ _ ⟨rfl, .inr rfl⟩) ht hs ⟨rfl, rfl⟩
theorem mark_snoc (v : List Bool) (l : List Int) (a : Int) : Rw.mark v (l ++ [a]) = (Rw.mark v l).set (a / 2).toNat true := by simp [Rw.mark]
theorem mark_app (v : List Bool) (l m : List Int) : Rw.mark v (l ++ m) = Rw.mark (Rw.mark v l) m := by simp [Rw.mark]
theorem take_snoc {α : Type} {l : List α} {i : Nat} (h : i < l.length) : l.take (i + 1) = l.take i ++ [l[i]] := by
 rw [List.take_add_one, List.getElem?_eq_getElem h]; rfl
theorem rf_needed (g : Aig) (σ : Sig) (hg : Sml g) : ACalls Try.prog 43 [encAig g] σ (fun r σ' => r = .ret (.slice ((ndAt g g.ands.length).map encBool) .no) ∧ σ' = σ) := by
 refine calls_x mixed Try.func43 b43 n43 rfl q43 (by simp) ?_; unfold c43 r43
 have hlo := hg.lo
 have h1 := hg.ins
 have h2 := hg.flops
 have h3 := hg.ands
 have h4 := hg.outs
 have hsm : Small g := check_small hg.wf hg.chk
 have hf := fun τ => rf_first g τ hsm
 have hc := fun τ => A.ref_Count g τ hsm
 obtain ⟨N, hN⟩ : ∃ N, (1 + g.count).toNat = N := ⟨_, rfl⟩
 have hcnt : g.count = g.ins + g.flops.length + g.ands.length := rfl
 have hN' : 1 + g.count = (N : Int) := by omega
 have hN1 : N ≤ 400 := by omega
 rw [hN'] at hc
 repeat' (first | simp (maxDischargeDepth := 9) -implicitDefEqProofs -dsimp only [go_sem, seval, *] | ((with_reducible refine Zv ?_ ?_); focus (first | omega | exact rfl)) | ((with_reducible refine Zt (fun oF hoF hnF hnF' => ?_)); (try simp only [upd_none, ne_eq, not_and] at hoF)) | ((with_reducible apply ACalls.one1); (focus ((with_reducible refine hc _) <;> (first | (simp (maxDischargeDepth := 9) -implicitDefEqProofs -dsimp only [go_sem, seval, *]; done) | omega))); (focus (first | trivial | with_reducible exact rfl | (simp (maxDischargeDepth := 9) -implicitDefEqProofs -dsimp only [go_sem, seval]; done)))))
 obtain ⟨o, eo⟩ : ∃ x, x = oF := ⟨oF, rfl⟩
 subst eo
 have ho : σ o = none := hoF
 clear hoF hnF hnF' hc
 obtain ⟨v0, hv0⟩ : ∃ v, List.replicate N false = v := ⟨_, rfl⟩
 have hv0l : v0.length = N := by rw [← hv0]; simp
 have hrep : (List.replicate N [AV.bool false]).flatten = v0.map encBool := by rw [rep_bool, hv0]
 have hrl := fun a (ha : a ∈ rts g) => root_lit hg ha
 have hmo : ∀ i, i < g.outs.length → 0 ≤ g.outs[i]! ∧ g.outs[i]! < 2 * N := fun i hi => by
  have := hrl g.outs[i] (by unfold rts; exact List.mem_append_left _ (List.getElem_mem hi))
  rw [List.getElem!_eq_getElem?_getD, List.getElem?_eq_getElem hi]
  simp only [Option.getD_some]; omega
 refine loop_rule (fun i : Nat => [(4, some (.int .i64 i)), (1, some (.cptr (aigL g))), (3, some (.vec o N))])
  (fun i => upd σ o (.vec 1 N ((Rw.mark v0 (g.outs.take i)).map encBool))) (fun i => i ≤ g.outs.length) (fun i => g.outs.length - i) 0 ?_ ?_
 ·have e0 : Rw.mark v0 [] = v0 := rfl
  (repeat' simp (maxDischargeDepth := 9) -implicitDefEqProofs -dsimp only [go_sem, seval, e0, Int.natCast_zero, *]) <;> (first | omega | skip)
 ·intro i hi
  have hml : (Rw.mark v0 (g.outs.take i)).length = N := by rw [mark_len, hv0l]
  by_cases hlt : i < g.outs.length
  ·have hlt' : (i : Int) < g.outs.length := by omega
   have hms := mark_snoc v0 (g.outs.take i) g.outs[i]
   rw [← take_snoc hlt] at hms
   have hb := hrl g.outs[i] (by unfold rts; exact List.mem_append_left _ (List.getElem_mem hlt))
   obtain ⟨a, ha⟩ : ∃ a, g.outs[i] = a := ⟨_, rfl⟩
   rw [ha] at hms hb
   obtain ⟨l, hl⟩ : ∃ l, Rw.mark v0 (g.outs.take i) = l := ⟨_, rfl⟩
   rw [hl] at hms hml ⊢
   have hp := put_bool l (a / 2).toNat true (by omega)
   have hb1 := hb.1
   have hb2 : a / 2 < N := by omega
   have hb3 : a ≤ 1000000 := by omega
   clear hrl hmo hl hb hN hN' hcnt hv0 hrep hv0l
   repeat' (first | simp (maxDischargeDepth := 9) -implicitDefEqProofs -dsimp only [go_sem, seval, *] | simp (disch := omega) only [wrap64, tdiv2] | ((with_reducible refine Zv ?_ ?_); focus (first | omega | exact rfl)) | ((with_reducible refine Zu ?_ ?_); focus omega))
   refine loop_next _ _ _ _ (i + 1) ?_; (repeat' simp (maxDischargeDepth := 9) -implicitDefEqProofs -dsimp only [go_sem, seval, *]) <;> (repeat' refine And.intro ?_ ?_) <;> (first | omega | skip)
  ·have hlt' : ¬ (i : Int) < g.outs.length := by omega
   have ei : i = g.outs.length := by omega
   subst ei
   have e0 : g.outs.take g.outs.length = g.outs := List.take_length
   rw [e0] at hml ⊢
   obtain ⟨v1, hv1⟩ : ∃ v, Rw.mark v0 g.outs = v := ⟨_, rfl⟩
   rw [hv1] at hml ⊢
   repeat' simp (maxDischargeDepth := 9) -implicitDefEqProofs -dsimp only [go_sem, seval, *]
   refine loop_rule (fun i : Nat => [(5, some (.int .i64 i)), (1, some (.cptr (aigL g))), (3, some (.vec o N))])
    (fun i => upd σ o (.vec 1 N ((Rw.mark v1 ((g.flops.map (·.next)).take i)).map encBool))) (fun i => i ≤ g.flops.length) (fun i => g.flops.length - i) 0 ?_ ?_
   ·have e0 : Rw.mark v1 [] = v1 := rfl
    (repeat' simp (maxDischargeDepth := 9) -implicitDefEqProofs -dsimp only [go_sem, seval, e0, Int.natCast_zero, *]) <;> (first | omega | skip)
   ·intro i hi
    have hml2 : (Rw.mark v1 ((g.flops.map (·.next)).take i)).length = N := by rw [mark_len, hml]
    by_cases hlt : i < g.flops.length
    ·have hlt' : (i : Int) < g.flops.length := by omega
     have hms := mark_snoc v1 ((g.flops.map (·.next)).take i) (g.flops.map (·.next))[i]!
     have hge : (g.flops.map (·.next))[i]! = g.flops[i].next := by simp [List.getElem!_eq_getElem?_getD, hlt]
     have hsn := take_snoc (l := g.flops.map (·.next)) (i := i) (by simpa using hlt)
     rw [List.getElem_map] at hsn
     rw [hge, ← hsn] at hms
     have hb := hrl g.flops[i].next (by unfold rts; exact List.mem_append_right _ (List.mem_map_of_mem (List.getElem_mem hlt)))
     obtain ⟨f, hf'⟩ : ∃ f, g.flops[i] = f := ⟨_, rfl⟩
     rw [hf'] at hms hb
     obtain ⟨a, ha⟩ : ∃ a, f.next = a := ⟨_, rfl⟩
     rw [ha] at hms hb
     obtain ⟨l, hl⟩ : ∃ l, Rw.mark v1 ((g.flops.map (·.next)).take i) = l := ⟨_, rfl⟩
     rw [hl] at hms hml2 ⊢
     have hp := put_bool l (a / 2).toNat true (by omega)
     have hb1 := hb.1
     have hb2 : a / 2 < N := by omega
     have hb3 : a ≤ 1000000 := by omega
     clear hrl hmo hl hb hN hN' hcnt hv0 hrep hv0l hsn hge hml e0 hv1
     repeat' (first | simp (maxDischargeDepth := 9) -implicitDefEqProofs -dsimp only [go_sem, seval, *] | simp (disch := omega) only [wrap64, tdiv2] | ((with_reducible refine Zv ?_ ?_); focus (first | omega | exact rfl)) | ((with_reducible refine Zu ?_ ?_); focus omega))
     refine loop_next _ _ _ _ (i + 1) ?_; (repeat' simp (maxDischargeDepth := 9) -implicitDefEqProofs -dsimp only [go_sem, seval, *]) <;> (repeat' refine And.intro ?_ ?_) <;> (first | omega | skip)
    ·have hlt' : ¬ (i : Int) < g.flops.length := by omega
     have ei : i = g.flops.length := by omega
     subst ei
     have e1 : (g.flops.map (·.next)).take g.flops.length = g.flops.map (·.next) := List.take_of_length_le (by simp)
     have e2 : Rw.mark v1 (g.flops.map (·.next)) = ndAt g 0 := by
      show _ = Rw.mark (List.replicate (1 + g.count).toNat false) (rts g)
      rw [hN, hv0, ← hv1, ← mark_app]; rfl
     rw [e1, e2]
     rw [e1, e2] at hml2
     clear hlt hi e1 e2 e0 hml hv1 hmo
     repeat' (first | simp (maxDischargeDepth := 9) -implicitDefEqProofs -dsimp only [go_sem, seval, *] | simp (disch := omega) only [wrap64, tdiv2])
     refine loop_rule (fun k : Nat => [(6, some (.int .i64 ((g.ands.length : Int) - 1 - k))), (1, some (.cptr (aigL g))), (3, some (.vec o N))])
      (fun k => upd σ o (.vec 1 N ((ndAt g k).map encBool))) (fun k => k ≤ g.ands.length) (fun k => g.ands.length - k) 0 ?_ ?_
     ·(repeat' simp (maxDischargeDepth := 9) -implicitDefEqProofs -dsimp only [go_sem, seval, Int.natCast_zero, Int.sub_zero, *]) <;> (first | omega | skip)
     ·intro k hk
      have hnl := ndAt_len g k
      rw [hN] at hnl
      by_cases hlt : k < g.ands.length
      ·have hi : g.ands.length - 1 - k < g.ands.length := by omega
       obtain ⟨i, hie⟩ : ∃ i, g.ands.length - 1 - k = i := ⟨_, rfl⟩
       have hsuc : ndAt g (k + 1) = if (ndAt g k).getD (g.first + i).toNat false then Rw.mark (ndAt g k) [(g.ands.getD i (0, 0)).1, (g.ands.getD i (0, 0)).2] else ndAt g k := by
        rw [← hie]; rfl
       rw [hie] at hi
       have hik : (g.ands.length : Int) - 1 - k = i := by omega
       have hik2 : (g.ands.length : Int) - 1 - ((k + 1 : Nat) : Int) = i - 1 := by omega
       obtain ⟨⟨a1, a2⟩, a3, a4⟩ := gate_bounds hg hi
       rw [ands_getD hi] at hsuc
       have hfst : g.first = 1 + g.ins + g.flops.length := rfl
       have hi' : (i : Int) < g.ands.length := by omega
       obtain ⟨x0, hx0⟩ : ∃ x, g.ands[i].1 = x := ⟨_, rfl⟩
       obtain ⟨x1, hx1⟩ : ∃ x, g.ands[i].2 = x := ⟨_, rfl⟩
       rw [hx0, hx1] at hsuc
       rw [hx0] at a1 a2
       rw [hx1] at a3 a4
       obtain ⟨l, hl⟩ : ∃ l, ndAt g k = l := ⟨_, rfl⟩
       rw [hl] at hsuc hnl ⊢
       have hgl : (g.first + (i : Int)).toNat < l.length := by omega
       have hge := head_bool hgl
       have hp := put_bool l (x0 / 2).toNat true (by omega)
       have hp2 := put_bool (l.set (x0 / 2).toNat true) (x1 / 2).toNat true (by rw [List.length_set]; omega)
       have hpl : (List.take ((x0 / 2).toNat * 1) (l.map encBool)).length + 1 + (List.drop ((x0 / 2).toNat * 1 + 1) (l.map encBool)).length = N := by
        simp only [List.length_take, List.length_drop, List.length_map]; omega
       have b1 : g.first + i < N := by omega
       have b2 : x0 / 2 < N := by omega
       have b3 : x1 / 2 < N := by omega
       have b4 : 0 ≤ g.first := by omega
       have b5 : x0 ≤ 1000000 := by omega
       have b6 : x1 ≤ 1000000 := by omega
       rw [hik]
       clear hrl hl hN hN' hcnt hv0 hrep hv0l hml2 hfst a2 a4 hie
       cases hc : l.getD (g.first + (i : Int)).toNat false with
       | true =>
        rw [hc, if_pos rfl] at hsuc
        rw [hc] at hge
        have hmk : Rw.mark l [x0, x1] = (l.set (x0 / 2).toNat true).set (x1 / 2).toNat true := rfl
        rw [hmk] at hsuc
        clear hc hmk
        repeat' (first | simp (maxDischargeDepth := 9) -implicitDefEqProofs -dsimp only [go_sem, seval, *] | simp (disch := omega) only [wrap64, tdiv2] | ((with_reducible refine Zv ?_ ?_); focus (first | omega | exact rfl)) | ((with_reducible refine Zu ?_ ?_); focus omega) | ((with_reducible apply ACalls.one1); (focus ((with_reducible refine hf _) <;> (first | (simp (maxDischargeDepth := 9) -implicitDefEqProofs -dsimp only [go_sem, seval, *]; done) | omega))); (focus (first | trivial | with_reducible exact rfl | (simp (maxDischargeDepth := 9) -implicitDefEqProofs -dsimp only [go_sem, seval]; done)))))
        refine loop_next _ _ _ _ (k + 1) ?_; (repeat' simp (maxDischargeDepth := 9) -implicitDefEqProofs -dsimp only [go_sem, seval, *]) <;> (repeat' refine And.intro ?_ ?_) <;> (first | omega | skip)
       | false =>
        rw [hc, if_neg (by simp)] at hsuc
        rw [hc] at hge
        clear hc
        repeat' (first | simp (maxDischargeDepth := 9) -implicitDefEqProofs -dsimp only [go_sem, seval, *] | simp (disch := omega) only [wrap64, tdiv2] | ((with_reducible refine Zv ?_ ?_); focus (first | omega | exact rfl)) | ((with_reducible apply ACalls.one1); (focus ((with_reducible refine hf _) <;> (first | (simp (maxDischargeDepth := 9) -implicitDefEqProofs -dsimp only [go_sem, seval, *]; done) | omega))); (focus (first | trivial | with_reducible exact rfl | (simp (maxDischargeDepth := 9) -implicitDefEqProofs -dsimp only [go_sem, seval]; done)))))
        refine loop_next _ _ _ _ (k + 1) ?_; (repeat' simp (maxDischargeDepth := 9) -implicitDefEqProofs -dsimp only [go_sem, seval, *]) <;> (repeat' refine And.intro ?_ ?_) <;> (first | omega | skip)
      ·have ek : k = g.ands.length := by omega
       subst ek
       have hneg : (g.ands.length : Int) - 1 - g.ands.length = -1 := by omega
       rw [hneg]
       clear hrl hN hN' hcnt hv0 hrep hv0l hml2
       repeat' simp (maxDischargeDepth := 9) -implicitDefEqProofs -dsimp only [go_sem, seval, *]
       refine fin_bools (o := o) (n := N) ?_ hnl rfl ?_
       ·simp (maxDischargeDepth := 9) -implicitDefEqProofs -dsimp only [go_sem, seval, *]
       ·(repeat' simp (maxDischargeDepth := 9) -implicitDefEqProofs -dsimp only [go_sem, seval, *])
def endR (h g : Aig) (lits : List Int) : Aig := ⟨h.ins, g.flops.map fun f => ⟨moveL lits f.next, f.init⟩, h.ands, g.outs.map (moveL lits)⟩
set_option maxHeartbeats 4000000 in
theorem rf_ended (h g : Aig) (lits : List Int) (t : Tok) (σ : Sig) (hl : ∀ x ∈ lits, 0 ≤ x ∧ x ≤ 1000000) (hfl : ∀ f ∈ g.flops, 0 ≤ f.next ∧ (f.next / 2).toNat < lits.length ∧ f.next ≤ 1000000)
  (hou : ∀ a ∈ g.outs, 0 ≤ a ∧ (a / 2).toNat < lits.length ∧ a ≤ 1000000) (l1 : g.flops.length ≤ 1000000) (l2 : g.outs.length ≤ 1000000) :
  ACalls Try.prog 47 [encAig h, encAig g, ilist lits t] σ (fun r σ' => r = .ret (encAig (endR h g lits)) ∧ σ' = σ) := by
 refine ACalls.virt (callable_of Try.func47 b47 n47) 2 (fun oV1 hoV1 hnV1 hnV1' => ?_); (try simp only [upd_none, ne_eq, not_and] at hoV1); refine ACalls.virt (callable_of Try.func47 b47 n47) 1 (fun oV2 hoV2 hnV2 hnV2' => ?_); (try simp only [upd_none, ne_eq, not_and] at hoV2); refine calls_x mixed Try.func47 b47 n47 rfl q47 (by simp) ?_; unfold c47 r47
 repeat' (first | simp (maxDischargeDepth := 9) -implicitDefEqProofs -dsimp only [go_sem, seval, *] | ((with_reducible refine Zt (fun oF hoF hnF hnF' => ?_)); (try simp only [upd_none, ne_eq, not_and] at hoF)))
 rename_i o6 n6 n6' h6
 obtain ⟨o7, e7⟩ : ∃ x, x = oF := ⟨oF, rfl⟩
 subst e7
 obtain ⟨a1, a2, a3⟩ := h6
 obtain ⟨b1, b2, b3, b4⟩ := hoF
 obtain ⟨c1, c2⟩ := hoV2
 have d1 : ¬ oV1 = oV2 := fun e => c1 e.symm
 have d2 : ¬ oV1 = o6 := fun e => a2 e.symm
 have d3 : ¬ oV2 = o6 := fun e => a1 e.symm
 have d4 : ¬ oV1 = o7 := fun e => b3 e.symm
 have d5 : ¬ oV2 = o7 := fun e => b2 e.symm
 have d6 : ¬ o6 = o7 := fun e => b1 e.symm
 clear n6 n6' hnF hnF' hnV1 hnV1' hnV2 hnV2'
 have hmv := fun a h0 h1 h2 τ => rf_moved lits t a τ h0 h1 hl h2
 obtain ⟨L, hL⟩ : ∃ L, ilist lits t = L := ⟨_, rfl⟩
 rw [hL] at hmv ⊢
 clear hl hL
 refine loop_rule (fun i : Nat => [(9, some (.int .i64 i)), (4, some (.cptr (aigL g))), (8, some (.slice (((g.flops.take i).map fun f => (⟨moveL lits f.next, f.init⟩ : Flop)).map encFlop) (.own oV1))), (2, some L), (7, some (.ptr o7 0)), (6, some (.ptr o6 0))])
  (fun i => upd (upd (upd (upd σ oV1 (.grow 2 i)) oV2 (.virt 1)) o6 (.cells [.int .i64 0, .slice [] .nil, .slice [] .nil, .slice [] .nil])) o7 (.cells (aigL h))) (fun i => i ≤ g.flops.length) (fun i => g.flops.length - i) 0 ?_ ?_
 ·(repeat' simp (maxDischargeDepth := 9) -implicitDefEqProofs -dsimp only [go_sem, seval, List.take_zero, List.map_nil, Int.natCast_zero, *]) <;> (first | omega | skip)
 ·intro i hi
  by_cases hlt : i < g.flops.length
  ·have hlt' : (i : Int) < g.flops.length := by omega
   obtain ⟨q1, q2, q3⟩ := hfl _ (List.getElem_mem hlt)
   have hs := take_snoc hlt
   obtain ⟨f, hf⟩ : ∃ f, g.flops[i] = f := ⟨_, rfl⟩
   rw [hf] at q1 q2 q3 hs
   have hm := hmv f.next q1 q2 q3
   obtain ⟨u, hu⟩ : ∃ u, moveL lits f.next = u := ⟨_, rfl⟩
   rw [hu] at hm
   have hlen : ((g.flops.take i).map fun f => (⟨moveL lits f.next, f.init⟩ : Flop)).length = i := by simp; omega
   have hmap : ((g.flops.take (i + 1)).map fun f => (⟨moveL lits f.next, f.init⟩ : Flop)).map encFlop = ((g.flops.take i).map fun f => (⟨moveL lits f.next, f.init⟩ : Flop)).map encFlop ++ [.agg [.int .i64 u, .bool f.init]] := by
    rw [hs, List.map_append, List.map_append]; simp only [List.map_cons, List.map_nil, hu]
   obtain ⟨l, hl⟩ : ∃ l, ((g.flops.take i).map fun f => (⟨moveL lits f.next, f.init⟩ : Flop)) = l := ⟨_, rfl⟩
   rw [hl] at hlen hmap ⊢
   clear hmv hfl hou hl hs hu q1 q2 q3
   repeat' (first | simp (maxDischargeDepth := 9) -implicitDefEqProofs -dsimp only [go_sem, seval, *] | simp (disch := omega) only [wrap64] | ((with_reducible refine Zv ?_ ?_); focus (first | omega | exact rfl)) | ((with_reducible refine Zu ?_ ?_); focus omega) | ((with_reducible apply id_one0); (focus (intro tS hS; ((with_reducible refine hm _) <;> (first | (simp (maxDischargeDepth := 9) -implicitDefEqProofs -dsimp only [go_sem, seval, *]; done) | omega | ((with_reducible refine Sub.get hS ?_); simp (maxDischargeDepth := 9) -implicitDefEqProofs -dsimp only [go_sem, seval, *]; done))))); (focus (first | trivial | (simp (maxDischargeDepth := 9) -implicitDefEqProofs -dsimp only [go_sem, seval, *]; done)))))
   refine loop_next _ _ _ _ (i + 1) ?_; (repeat' simp (maxDischargeDepth := 9) -implicitDefEqProofs -dsimp only [go_sem, seval, *]) <;> (repeat' refine And.intro ?_ ?_) <;> (first | omega | skip)
  ·have hlt' : ¬ (i : Int) < g.flops.length := by omega
   have ei : i = g.flops.length := by omega
   subst ei
   have e0 : g.flops.take g.flops.length = g.flops := List.take_length
   rw [e0]
   obtain ⟨l, hl⟩ : ∃ l, (g.flops.map fun f => (⟨moveL lits f.next, f.init⟩ : Flop)) = l := ⟨_, rfl⟩
   have hend : endR h g lits = ⟨h.ins, l, h.ands, g.outs.map (moveL lits)⟩ := by unfold endR; rw [hl]
   have hll : l.length = g.flops.length := by rw [← hl]; simp
   rw [hl, hend]
   clear hlt hi hl hend e0 hfl
   repeat' simp (maxDischargeDepth := 9) -implicitDefEqProofs -dsimp only [go_sem, seval, *]
   refine loop_rule (fun i : Nat => [(11, some (.int .i64 i)), (4, some (.cptr (aigL g))), (10, some (.slice (((g.outs.take i).map (moveL lits)).map encInt) (.own oV2))), (8, some (.slice (l.map encFlop) .no)), (2, some L), (7, some (.ptr o7 0)), (6, some (.ptr o6 0))])
    (fun i => upd (upd (upd σ oV2 (.grow 1 i)) o6 (.cells [.int .i64 0, .slice [] .nil, .slice [] .nil, .slice [] .nil])) o7 (.cells (aigL h))) (fun i => i ≤ g.outs.length) (fun i => g.outs.length - i) 0 ?_ ?_
   ·(repeat' simp (maxDischargeDepth := 9) -implicitDefEqProofs -dsimp only [go_sem, seval, List.take_zero, List.map_nil, Int.natCast_zero, *]) <;> (first | omega | skip)
   ·intro i hi
    by_cases hlt : i < g.outs.length
    ·have hlt' : (i : Int) < g.outs.length := by omega
     obtain ⟨q1, q2, q3⟩ := hou _ (List.getElem_mem hlt)
     have hs := take_snoc hlt
     obtain ⟨a, ha⟩ : ∃ f, g.outs[i] = f := ⟨_, rfl⟩
     rw [ha] at q1 q2 q3 hs
     have hm := hmv a q1 q2 q3
     obtain ⟨u, hu⟩ : ∃ u, moveL lits a = u := ⟨_, rfl⟩
     rw [hu] at hm
     have hlen : ((g.outs.take i).map (moveL lits)).length = i := by simp; omega
     have hmap : ((g.outs.take (i + 1)).map (moveL lits)).map encInt = ((g.outs.take i).map (moveL lits)).map encInt ++ [.int .i64 u] := by
      rw [hs, List.map_append, List.map_append]; simp only [List.map_cons, List.map_nil, hu]
     obtain ⟨m, hm2⟩ : ∃ l, (g.outs.take i).map (moveL lits) = l := ⟨_, rfl⟩
     rw [hm2] at hlen hmap ⊢
     clear hmv hou hm2 hs hu q1 q2 q3
     repeat' (first | simp (maxDischargeDepth := 9) -implicitDefEqProofs -dsimp only [go_sem, seval, *] | simp (disch := omega) only [wrap64] | ((with_reducible refine Zv ?_ ?_); focus (first | omega | exact rfl)) | ((with_reducible refine Zu ?_ ?_); focus omega) | ((with_reducible apply ACalls.one1); (focus ((with_reducible refine hm _) <;> (first | (simp (maxDischargeDepth := 9) -implicitDefEqProofs -dsimp only [go_sem, seval, *]; done) | omega))); (focus (first | trivial | with_reducible exact rfl | (simp (maxDischargeDepth := 9) -implicitDefEqProofs -dsimp only [go_sem, seval]; done)))))
     refine loop_next _ _ _ _ (i + 1) ?_; (repeat' simp (maxDischargeDepth := 9) -implicitDefEqProofs -dsimp only [go_sem, seval, *]) <;> (repeat' refine And.intro ?_ ?_) <;> (first | omega | skip)
    ·have hlt' : ¬ (i : Int) < g.outs.length := by omega
     have ei : i = g.outs.length := by omega
     subst ei
     have e0 : g.outs.take g.outs.length = g.outs := List.take_length
     rw [e0]
     clear hlt hi e0 hou hmv
     repeat' simp (maxDischargeDepth := 9) -implicitDefEqProofs -dsimp only [go_sem, seval, *]
     refine fin_eq ?_
     (repeat' simp (maxDischargeDepth := 9) -implicitDefEqProofs -dsimp only [go_sem, seval, *])
end Go.Proofs.Ytapnlmhfacoceaa

