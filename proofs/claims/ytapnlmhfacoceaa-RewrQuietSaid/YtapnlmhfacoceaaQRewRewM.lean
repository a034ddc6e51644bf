/- rewr: contracts of Still, and of what is told of gates that may not be. -/
import Derived.Test.YtapnlmhfacoceaaQRwBal
set_option linter.unusedSimpArgs false
set_option linter.unusedVariables false
namespace Go.Proofs.Ytapnlmhfacoceaa
open Abs Fil Fil.Rw
open Eqv (moveL)
structure Hd (p : Prop) : Prop where
 out : p
inductive Stq (p : Nat) : AV → AObj → List Int → Prop
 | all (l : List Int) (hl : l.length ≤ 1000) : Stq p (.vec p l.length) (.vec 1 l.length (l.map encInt)) l
 | pre (l j : List Int) (hl : l.length + j.length ≤ 1000) : Stq p (.pre p l.length (l.length + j.length)) (.vec 1 (l.length + j.length) (l.map encInt ++ j.map encInt)) l
theorem Stq.last {p : Nat} {V : AV} {O : AObj} {l : List Int} {a : Int} (h : Stq p V O (l ++ [a])) : ∃ j : List Int, l.length + 1 + j.length ≤ 1000 ∧ O = .vec 1 (l.length + 1 + j.length) (l.map encInt ++ (a :: j).map encInt) ∧ ((V = .vec p (l.length + 1) ∧ j = []) ∨ V = .pre p (l.length + 1) (l.length + 1 + j.length)) := by
 generalize hl : l ++ [a] = m at h
 cases h with
 | all _ hl' =>
  subst hl
  exact ⟨[], by simpa using hl', by simp, .inl ⟨by simp, rfl⟩⟩
 | pre _ j hl' =>
  subst hl
  exact ⟨j, by simpa [Nat.add_assoc] using hl', by simp, .inr (by simp)⟩
theorem Stq.emp {p : Nat} {V : AV} {O : AObj} (h : Stq p V O []) : V = .vec p 0 ∨ ∃ n, V = .pre p 0 n := by
 generalize hl : ([] : List Int) = m at h
 cases h with
 | all _ h => subst hl; exact .inl rfl
 | pre _ j h => subst hl; exact .inr ⟨_, rfl⟩
theorem flat_i2 (x y : Int) : flat [.int .i64 x, .int .i64 y] = [.int .i64 x, .int .i64 y] := rfl
theorem put_2 (L J : List AV) (x y : AV) : putAt (L ++ J) L.length [x, y] = L ++ [x, y] ++ J.drop 2 := by
 unfold putAt
 simp [List.drop_append]
theorem lit_room {f a : Int} {i n : Nat} (h0 : 0 ≤ a) (h : a / 2 < f + i) (hf : f ≤ 200) (hf1 : 1 ≤ f) (hi : i ≤ 200) (hn : f.toNat + i ≤ n) : (a / 2).toNat < n ∧ a ≤ 1000000 := by omega
theorem lit_cnt {g : Aig} {a : Int} {i : Nat} (h : a / 2 < g.first + i) (hi : i < g.ands.length) : a < 2 * (1 + g.count) := by
 have := count_first g; omega
theorem ms2 {L d l p : Nat} (hz : d + p = L) (hq : l + 2 ≤ p) : 2 * (L - d) - (l + 2) < 2 * (L - d) - (l + 1) := by omega
theorem sub_eq {a b c : Int} (h : a = b + c) : a - b = c := by omega
theorem sz3 {d p L i n l : Nat} (hz : d + p = L) (hll : L ≤ i + 2) (hi : i ≤ n) (h3 : n ≤ 200) (hq : l + 2 ≤ p) : l + 2 ≤ 1000 := by omega
theorem pend_len (g : Aig) : ∀ l : List Int, l.length ≤ (l.flatMap (leavesG g)).length
 | [] => Nat.le_refl _
 | a :: l => by
  have := pend_len g l
  have := leaves_pos g a
  simp only [List.flatMap_cons, List.length_append, List.length_cons]; omega
set_option maxRecDepth 20000 in
set_option maxHeartbeats 8000000 in
theorem rw_Balance (g : Aig) (σ : Sig) (hg : Sml g) : ACalls Try.prog 20 [encAig g] σ (fun r σ' => r = .ret (.tup [encAig (balance g), .int .i64 0]) ∧ σ' = σ) := by
 refine calls_x mixed Try.func20 b20 n20 rfl q20 (by simp) ?_; unfold c20 r20
 have ez : ((0 : Int) != 0) = false := by decide
 have hlo := hg.lo
 have h1 := hg.ins
 have h2 := hg.flops
 have h3 := hg.ands
 have hck := fun τ => A.aig_Check g τ hg.wf
 rw [hg.chk] at hck
 repeat' (first | simp (maxDischargeDepth := 9) -implicitDefEqProofs -dsimp only [go_sem, seval, *] | ((with_reducible refine Zt (fun oF hoF hnF hnF' => ?_)); (try simp only [upd_none, ne_eq, not_and] at hoF)) | ((with_reducible apply ACalls.one1); (focus ((with_reducible refine hck _) <;> (first | (simp (maxDischargeDepth := 9) -implicitDefEqProofs -dsimp only [go_sem, seval, *]; done) | omega))); (focus (first | trivial | with_reducible exact rfl | (simp (maxDischargeDepth := 9) -implicitDefEqProofs -dsimp only [go_sem, seval]; done)))))
 obtain ⟨oR, eR⟩ : ∃ x, x = oF := ⟨oF, rfl⟩
 subst eR
 have hoR := hoF
 have hσR : σ oR = none := by simp_all
 clear hoF hnF hnF'
 refine ACalls.new4 (rw_begin g (fun _ => none) .nilmap _ (.inl ⟨rfl, fun _ => rfl⟩) hlo (by omega) (by omega)) ?_
 intro oB oL oV oP hfr
 obtain ⟨f1, f2, f3⟩ := fr4_all hfr
 have hold := hfr.old
 simp only [upd_none] at f3
 have hsm : Small g := check_small hg.wf hg.chk
 repeat' simp (maxDischargeDepth := 9) -implicitDefEqProofs -dsimp only [go_sem, seval, *]
 refine (rw_inner oB g [.int .i64 (bgn g fun _ => none).g.ins, flV oP (bgn g fun _ => none).g.flops, .slice ((bgn g fun _ => none).g.ands.map encGate) .nil, .slice ((bgn g fun _ => none).g.outs.map encInt) .nil, ilist (bgn g fun _ => none).lits (.own oL), ilist (bgn g fun _ => none).lev (.own oV)] _ (by simp (maxDischargeDepth := 9) -implicitDefEqProofs -dsimp only [go_sem, seval, *]) hg).mono ?_
 rintro r s ⟨om, m, hom, rfl, rfl, hm⟩
 simp only [upd_none] at hom
 have hσ4 : σ om = none ∧ σ oB = none ∧ σ oL = none ∧ σ oV = none ∧ σ oP = none := by simp_all
 have hne : (¬ om = oR ∧ ¬ oR = om) ∧ (¬ om = oB ∧ ¬ oB = om) ∧ (¬ om = oL ∧ ¬ oL = om) ∧ (¬ om = oV ∧ ¬ oV = om) ∧ (¬ om = oP ∧ ¬ oP = om) ∧ (¬ oR = oB ∧ ¬ oB = oR) ∧ (¬ oR = oL ∧ ¬ oL = oR) ∧ (¬ oR = oV ∧ ¬ oV = oR) ∧ (¬ oR = oP ∧ ¬ oP = oR) := by
  refine ⟨⟨?_, ?_⟩, ⟨?_, ?_⟩, ⟨?_, ?_⟩, ⟨?_, ?_⟩, ⟨?_, ?_⟩, ⟨?_, ?_⟩, ⟨?_, ?_⟩, ⟨?_, ?_⟩, ⟨?_, ?_⟩⟩ <;> intro e <;> simp_all
 repeat' simp (maxDischargeDepth := 9) -implicitDefEqProofs -dsimp only [go_sem, seval, *]
 refine loop_rule (fun i : Nat => [(26, some (.int .i64 i)), (25, some (.int .i64 g.ands.length)), (24, some (.slice (g.ands.map encGate) .no)), (6, some (.map om)), (5, some (.ptr oB 0)), (2, some (.ptr oR 0)), (1, some (.cptr (aigL g)))])
  (fun i => upd (upd (upd (upd (upd (upd σ oR (.cells [.int .i64 0, .slice [] .nil, .slice [] .nil, .slice [] .nil])) om (.map true (encK .bool m))) oB (bldC g (balAt g i).g (flV oP (balAt g i).g.flops) .no .nil (ilist (balAt g i).lits (.own oL)) (ilist (balAt g i).lev (.own oV)))) oL (.grow 1 (balAt g i).lits.length)) oV (.grow 1 (balAt g i).lev.length)) oP (flO (balAt g i).g.flops))
  (fun i => i ≤ g.ands.length) (fun i => g.ands.length - i) 0 ?_ ?_
 ·have e0 : balAt g 0 = bgn g (fun _ => none) := rfl
  have e1 : (bgn g (fun _ => none)).g.ands = [] := rfl
  have e2 : (bgn g (fun _ => none)).g.outs = [] := rfl
  (repeat' simp (maxDischargeDepth := 9) -implicitDefEqProofs -dsimp only [go_sem, seval, e0, e1, e2, List.map_nil, List.length_nil, *]) <;> (first | omega | skip)
  all_goals (try exact fun h => h)
 ·intro i hi
  have J := bal_inv hg i hi
  have hfs := J.flops
  have hfew := J.few
  have hout := J.outs
  have hins := J.ins
  have hlen := J.len
  have hfst : g.first ≤ 200 ∧ 1 ≤ g.first := by simp only [Aig.first]; omega
  have hcnt := J.cnt hg hi
  have hl2 : ∀ x ∈ (balAt g i).lits, 0 ≤ x ∧ x ≤ 1000000 := fun x hx => by
   have := litN_iff.1 (J.lits x hx); omega
  by_cases hlt : i < g.ands.length
  ·have hlt' : (i : Int) < g.ands.length := by omega
   have hb := gate_bounds hg hlt
   have hgd := ands_getD hlt
   have hnx : balAt g (i + 1) = if innM g (g.first + i) then ⟨(balAt g i).g, (balAt g i).lits ++ [0], (balAt g i).lev⟩ else ⟨(joinB ((leavesOf g i).map (moveL (balAt g i).lits)).length (balAt g i) ((leavesOf g i).map (moveL (balAt g i).lits))).1.g, (balAt g i).lits ++ [(joinB ((leavesOf g i).map (moveL (balAt g i).lits)).length (balAt g i) ((leavesOf g i).map (moveL (balAt g i).lits))).2], (joinB ((leavesOf g i).map (moveL (balAt g i).lits)).length (balAt g i) ((leavesOf g i).map (moveL (balAt g i).lits))).1.lev⟩ := by
    conv => lhs; unfold balAt
   have hji := fun hn => J.ji hg hlt hn
   obtain ⟨b, hbe⟩ : ∃ b, balAt g i = b := ⟨_, rfl⟩
   rw [hbe] at hnx hfew hout hlen hl2 hfs hji ⊢
   have hll2 : b.lits.length ≤ 1000 := by omega
   have c1 := flV_cells oP b.g.flops
   have c2 := flV_one oP b.g.flops
   have hfc := fun τ hB => rw_first oB g [.slice (g.ands.map encGate) .no, .slice (g.outs.map encInt) .no, .int .i64 b.g.ins, flV oP b.g.flops, .slice (b.g.ands.map encGate) .no, .slice (b.g.outs.map encInt) .nil, ilist b.lits (.own oL), ilist b.lev (.own oV)] τ hB hsm
   have hmi := hm (g.first + i)
   cases hn : innM g (g.first + i) with
   | true =>
    rw [hn, if_pos rfl] at hnx
    rw [hn] at hmi
    obtain ⟨F, hF⟩ : ∃ F, flV oP b.g.flops = F := ⟨_, rfl⟩
    rw [hF] at c1 c2 hfc ⊢
    clear hl2 hn hbe J hout hfs hm hji hb
    repeat' (first | simp (maxDischargeDepth := 9) -implicitDefEqProofs -dsimp only [go_sem, seval, map_bool, *] | simp (disch := omega) only [wrap64, tdiv2, and1] | ((with_reducible refine Zv ?_ ?_); focus (first | omega | exact rfl)) | ((with_reducible refine Zu ?_ ?_); focus omega) | ((with_reducible refine Zt (fun oF hoF hnF hnF' => ?_)); (try simp only [upd_none, ne_eq, not_and] at hoF)) | ((with_reducible apply ACalls.one1); (focus ((with_reducible refine hfc _ ?_) <;> (first | (simp (maxDischargeDepth := 9) -implicitDefEqProofs -dsimp only [go_sem, seval, *]; done) | omega))); (focus (first | trivial | with_reducible exact rfl | (simp (maxDischargeDepth := 9) -implicitDefEqProofs -dsimp only [go_sem, seval]; done)))))
    refine loop_next _ _ _ _ (i + 1) ?_; (repeat' simp (maxDischargeDepth := 9) -implicitDefEqProofs -dsimp only [go_sem, seval,  ilist, List.map_append, List.map_cons, List.map_nil, List.length_append, List.length_cons, List.length_nil, *]) <;> (repeat' refine And.intro ?_ ?_) <;> (first | omega | skip)
   | false =>
    rw [hn, if_neg (by simp)] at hnx
    rw [hn] at hmi
    have hJI := hji hn
    rw [hbe] at J
    have hlp := leavesOf_pos g i
    have hll := leavesOf_len hg hlt hn
    have hlm := fun x hx => leavesOf_mem hg hlt (x := x) hx
    have hlo2 : leavesOf g i = leavesG g g.ands[i].1 ++ leavesG g g.ands[i].2 := by unfold leavesOf; rw [hgd]
    obtain ⟨x0, hx0⟩ : ∃ x, g.ands[i].1 = x := ⟨_, rfl⟩
    obtain ⟨x1, hx1⟩ : ∃ x, g.ands[i].2 = x := ⟨_, rfl⟩
    rw [hx0, hx1] at hb hlo2
    obtain ⟨F, hF⟩ : ∃ F, flV oP b.g.flops = F := ⟨_, rfl⟩
    obtain ⟨FO, hFO⟩ : ∃ F, flO b.g.flops = F := ⟨_, rfl⟩
    rw [hF] at c1 c2 hfc ⊢
    rw [hFO]
    clear hji hbe
    obtain ⟨L0, hL0⟩ : ∃ L, leavesOf g i = L := ⟨_, rfl⟩
    rw [hL0] at hnx hJI hlp hll hlm hlo2
    have hlenA : g.first.toNat + i ≤ b.lits.length := by omega
    have hJb : BInv g i b := J
    clear hlen hout hfs hins J
    repeat' (first | simp (maxDischargeDepth := 9) -implicitDefEqProofs -dsimp only [go_sem, seval, map_bool, *] | simp (disch := omega) only [wrap64, tdiv2, and1] | ((with_reducible refine Zv ?_ ?_); focus (first | omega | exact rfl)) | ((with_reducible refine Zu ?_ ?_); focus omega) | ((with_reducible refine Zt (fun oF hoF hnF hnF' => ?_)); (try simp only [upd_none, ne_eq, not_and] at hoF)) | ((with_reducible apply ACalls.one1); (focus ((with_reducible refine hfc _ ?_) <;> (first | (simp (maxDischargeDepth := 9) -implicitDefEqProofs -dsimp only [go_sem, seval, *]; done) | omega))); (focus (first | trivial | with_reducible exact rfl | (simp (maxDischargeDepth := 9) -implicitDefEqProofs -dsimp only [go_sem, seval]; done)))))
    rename_i oX hnX hnX' hoX ol hnl hnl' hol
    obtain ⟨os, eos⟩ : ∃ x, x = oF := ⟨oF, rfl⟩
    subst eos
    obtain ⟨_, l1, l2, l3, l4, l5, l6, l7⟩ := id hol
    obtain ⟨s0, _, s1, s2, s3, s4, s5, s6, s7⟩ := id hoF
    have hnn : (¬ oP = ol ∧ ¬ oV = ol ∧ ¬ oL = ol ∧ ¬ oB = ol ∧ ¬ om = ol ∧ ¬ oR = ol) ∧ (¬ ol = os ∧ ¬ oP = os ∧ ¬ oV = os ∧ ¬ oL = os ∧ ¬ oB = os ∧ ¬ om = os ∧ ¬ oR = os) :=
     ⟨⟨fun e => l1 e.symm, fun e => l2 e.symm, fun e => l3 e.symm, fun e => l4 e.symm, fun e => l5 e.symm, fun e => l6 e.symm⟩, fun e => s0 e.symm, fun e => s1 e.symm, fun e => s2 e.symm, fun e => s3 e.symm, fun e => s4 e.symm, fun e => s5 e.symm, fun e => s6 e.symm⟩
    obtain ⟨S0, hS0⟩ : ∃ S : Sig, S = upd (upd (upd (upd (upd (upd σ oR (.cells [.int .i64 0, .slice [] .nil, .slice [] .nil, .slice [] .nil])) om (.map true (encK .bool m))) oB (bldC g b.g F .no .nil (ilist b.lits (.own oL)) (ilist b.lev (.own oV)))) oL (.grow 1 b.lits.length)) oV (.grow 1 b.lev.length)) oP FO := ⟨_, rfl⟩
    have hSm : S0 om = some (.map true (encK .bool m)) := by rw [hS0]; simp (maxDischargeDepth := 9) -implicitDefEqProofs -dsimp only [go_sem, seval, *]
    have hSB : S0 oB = some (bldC g b.g F .no .nil (ilist b.lits (.own oL)) (ilist b.lev (.own oV))) := by rw [hS0]; simp (maxDischargeDepth := 9) -implicitDefEqProofs -dsimp only [go_sem, seval, *]
    have hSL : S0 oL = some (.grow 1 b.lits.length) := by rw [hS0]; simp (maxDischargeDepth := 9) -implicitDefEqProofs -dsimp only [go_sem, seval, *]
    have hSV : S0 oV = some (.grow 1 b.lev.length) := by rw [hS0]; simp (maxDischargeDepth := 9) -implicitDefEqProofs -dsimp only [go_sem, seval, *]
    have hSP : S0 oP = some FO := by rw [hS0]; simp (maxDischargeDepth := 9) -implicitDefEqProofs -dsimp only [go_sem, seval, *]
    have hnm : (¬ om = ol ∧ ¬ ol = om ∧ ¬ om = os ∧ ¬ os = om) ∧ (¬ oB = ol ∧ ¬ ol = oB ∧ ¬ oB = os ∧ ¬ os = oB) ∧ (¬ oL = ol ∧ ¬ ol = oL ∧ ¬ oL = os ∧ ¬ os = oL) ∧ (¬ oV = ol ∧ ¬ ol = oV ∧ ¬ oV = os ∧ ¬ os = oV) ∧ (¬ oP = ol ∧ ¬ ol = oP ∧ ¬ oP = os ∧ ¬ os = oP) ∧ (¬ ol = os ∧ ¬ os = ol) := by
     refine ⟨⟨?_, ?_, ?_, ?_⟩, ⟨?_, ?_, ?_, ?_⟩, ⟨?_, ?_, ?_, ?_⟩, ⟨?_, ?_, ?_, ?_⟩, ⟨?_, ?_, ?_, ?_⟩, ?_, ?_⟩ <;> first | assumption | simp_all
    have hpk := Hd.mk (And.intro hnm (And.intro f1 (And.intro f2 (And.intro hne (And.intro hnn (And.intro hol (And.intro hoX hoF)))))))
    clear hnm f1 f2 hne hnn hol hoX hoF
    refine loop_rule (fun x : AV × AObj × List Int × List Int => [(10, some x.1), (9, some (.slice ((x.2.2.2.map (moveL b.lits)).map encInt) (.own ol))), (26, some (.int .i64 i)), (25, some (.int .i64 g.ands.length)), (24, some (.slice (g.ands.map encGate) .no)), (6, some (.map om)), (5, some (.ptr oB 0)), (2, some (.ptr oR 0)), (1, some (.cptr (aigL g)))])
     (fun x => upd (upd S0 ol (.grow 1 x.2.2.2.length)) os x.2.1)
     (fun x => Stq os x.1 x.2.1 x.2.2.1 ∧ (∀ a ∈ x.2.2.1, 0 ≤ a ∧ a / 2 < g.first + i) ∧ x.2.2.2 ++ x.2.2.1.reverse.flatMap (leavesG g) = L0) (fun x => 2 * (L0.length - x.2.2.2.length) - x.2.2.1.length) (.vec os 2, .vec 1 2 [.int .i64 x1, .int .i64 x0], [x1, x0], []) ?_ ?_
    ·have i1 : Stq os (.vec os 2) (.vec 1 2 [.int .i64 x1, .int .i64 x0]) [x1, x0] := Stq.all [x1, x0] (by simp)
     have i2 : ∀ a ∈ [x1, x0], 0 ≤ a ∧ a / 2 < g.first + i := fun a ha => by
      simp only [List.mem_cons, List.not_mem_nil, or_false] at ha
      rcases ha with rfl | rfl <;> omega
     have i3 : [] ++ [x1, x0].reverse.flatMap (leavesG g) = L0 := by rw [hlo2]; simp
     obtain ⟨hnm, f1, f2, hne, hnn, hol, hoX, hoF⟩ := hpk.out
     subst hS0
     refine ⟨?_, ?_, i1, i2, i3⟩
     ·(repeat' simp (maxDischargeDepth := 9) -implicitDefEqProofs -dsimp only [go_sem, seval, List.map_nil, *])
     ·(repeat' simp (maxDischargeDepth := 9) -implicitDefEqProofs -dsimp only [go_sem, seval, flat_i2, List.length_nil, *])
      all_goals (try exact fun h => h)
    ·rintro ⟨V, O, l, dl⟩ ⟨hS, hI, hT⟩
     simp only at hS hI hT ⊢
     have hP := pend_len g l.reverse
     rw [List.length_reverse] at hP
     have hTL : dl.length + (l.reverse.flatMap (leavesG g)).length = L0.length := by rw [← hT, List.length_append]
     rcases List.eq_nil_or_concat l with rfl | ⟨l', a, rfl⟩
     ·simp only [List.reverse_nil, List.flatMap_nil, List.append_nil] at hT
      subst hT
      obtain ⟨k1, k2, k3, k4, k5⟩ := hJI.join
      obtain ⟨⟨⟨q1, q2, q3, q4⟩, ⟨q5, q6, q7, q8⟩, ⟨q11, q12, q13, q14⟩, ⟨q15, q16, q17, q18⟩, ⟨q19, q20, q21, q22⟩, q9, q10⟩, f1, f2, hne, hnn, hol, hoX, hoF⟩ := hpk.out
      have hjo := fun τ hB hp hV => rw_joined oB oP oV g b (dl.map (moveL b.lits)) (.own ol) .nil (ilist b.lits (.own oL)) τ hB rfl rfl hp hV f1.2.2.2.2.1 f1.2.2.2.2.2 f1.2.2.1 f1.2.2.2.1 f2.2.2.2.2.2 f2.2.2.2.2.1 hJI
      have hfe := k3.flops
      rw [hF, hFO] at hjo
      obtain ⟨⟨b2, z⟩, hz⟩ : ∃ r, joinB (dl.map (moveL b.lits)).length b (dl.map (moveL b.lits)) = r := ⟨_, rfl⟩
      rw [hz] at hjo hnx hfe k4
      simp only at hjo hnx hfe k4
      have hF2 : flV oP b2.g.flops = F := by rw [hfe, hF]
      have hFO2 : flO b2.g.flops = FO := by rw [hfe, hFO]
      have hV := hS.emp
      clear hpk hS hI hP hTL hJI hJb k1 k2 k3 k4 k5 hz hlm hll hlp hlo2 hl2 hlenA hm hfe hF hFO hmi
      have hS1 := Hd.mk hS0
      clear hS0
      obtain ⟨g1, g2, g3, g4, g5, g6⟩ := f1
      obtain ⟨g7, g8, g9, g10, g11, g12⟩ := f2
      rcases hV with rfl | ⟨n', rfl⟩
      all_goals
       have hpk := Hd.mk (And.intro hne (And.intro hnn (And.intro hol (And.intro hoX hoF))))
       clear hne hnn hol hoX hoF
       repeat' (first | simp (maxDischargeDepth := 9) -implicitDefEqProofs -dsimp only [go_sem, seval, gt_iff_lt, *] | simp (disch := omega) only [wrap64, tdiv2, and1] | ((with_reducible refine Zv ?_ ?_); focus (first | omega | exact rfl)) | ((with_reducible apply id_one2); (focus (intro tS hS; ((with_reducible refine hjo _ ?_ ?_ ?_) <;> (first | (simp (maxDischargeDepth := 9) -implicitDefEqProofs -dsimp only [go_sem, seval, *]; done) | omega | ((with_reducible refine Sub.get hS ?_); simp (maxDischargeDepth := 9) -implicitDefEqProofs -dsimp only [go_sem, seval, *]; done))))); (focus (first | trivial | (simp (maxDischargeDepth := 9) -implicitDefEqProofs -dsimp only [go_sem, seval, *]; done)))))
       obtain ⟨hne, hnn, hol, hoX, hoF⟩ := hpk.out
       have hS0 := hS1.out
       subst hS0
       refine loop_next _ _ _ _ (i + 1) ?_; (repeat' simp (maxDischargeDepth := 9) -implicitDefEqProofs -dsimp only [go_sem, seval,  ilist, List.map_append, List.map_cons, List.map_nil, List.length_append, List.length_cons, List.length_nil, *]) <;> (repeat' refine And.intro ?_ ?_) <;> (first | omega | skip)
     ·rw [List.concat_eq_append] at *
      obtain ⟨j, hj, rfl, hV⟩ := hS.last
      obtain ⟨s1', s2'⟩ := hI a (by simp)
      have hI' : ∀ x ∈ l', 0 ≤ x ∧ x / 2 < g.first + i := fun x hx => hI x (List.mem_append_left _ hx)
      clear hS
      have cf := count_first g
      obtain ⟨n, hn'⟩ : ∃ n, n = l'.length + 1 + j.length := ⟨_, rfl⟩
      obtain ⟨C, hC⟩ : ∃ C, List.map encInt l' ++ List.map encInt (a :: j) = C := ⟨_, rfl⟩
      rw [← hn', hC]
      have d1 : C.length = n := by rw [← hC, hn']; simp; omega
      have d2 : (List.take 1 (List.drop l'.length C)).head? = some (.int .i64 a) := by
       rw [show l'.length = (l'.map encInt).length by simp, ← hC, List.drop_left]; rfl
      have d3 : C.take l'.length = l'.map encInt := by rw [← hC]; simp
      have hgt : (0 : Int) < l'.length + 1 := by omega
      have hn2 : l'.length + 1 ≤ n := by omega
      have hn3 : n ≤ 1000 := by omega
      have hlq : (l' ++ [a]).length = l'.length + 1 := by simp
      rw [hlq] at hP ⊢
      rw [List.reverse_append, List.reverse_cons, List.reverse_nil, List.nil_append, List.singleton_append, List.flatMap_cons] at hT hP hTL
      have hstk : Stq os (.pre os l'.length n) (.vec 1 n C) l' := by
       have h := Stq.pre (p := os) l' (a :: j) (by simp; omega)
       rw [hC, show l'.length + (a :: j).length = n by simp; omega] at h
       exact h
      have hV' : (V = .vec os (l'.length + 1) ∧ n = l'.length + 1) ∨ V = .pre os (l'.length + 1) n := by
       rcases hV with ⟨h1, h2⟩ | h1
       ·exact .inl ⟨h1, by rw [hn', h2]; rfl⟩
       ·exact .inr (by rw [h1, hn'])
      have hlit := rw_lit oB (.int .i64 g.ins) (.slice (g.flops.map encFlop) .no) (.slice (g.ands.map encGate) .no) (.slice (g.outs.map encInt) .no) (.int .i64 b.g.ins) F (.slice (b.g.ands.map encGate) .no) (.slice (b.g.outs.map encInt) .nil) (ilist b.lev (.own oV)) b.lits (.own oL) a
      have hlr := lit_room s1' s2' hfst.1 hfst.2 (Nat.le_trans hi h3) hlenA
      have hlc := fun τ hB => hlit τ hB s1' hlr.1 hl2 hlr.2
      by_cases hin : a % 2 = 0 ∧ innM g (a / 2) = true
      ·obtain ⟨k, hk, he, hgN, ⟨kk1, kk2⟩, kk3, kk4⟩ := inner_kids hg (lit_cnt s2' hlt) hin.2
       have hkl : (k : Int) < g.ands.length := Int.ofNat_lt.2 hk
       have hlv := leaves_inner hg s1' (lit_cnt s2' hlt) hin.1 hin.2 hk he
       obtain ⟨y0, hy0⟩ : ∃ x, g.ands[k].1 = x := ⟨_, rfl⟩
       obtain ⟨y1, hy1⟩ : ∃ x, g.ands[k].2 = x := ⟨_, rfl⟩
       rw [hy0, hy1] at hlv
       rw [hy0] at kk1 kk2
       rw [hy1] at kk3 kk4
       rw [hlv] at hT
       have hL2 : (l' ++ [y1, y0]).length = l'.length + 2 := by simp
       have hT' : dl ++ (l' ++ [y1, y0]).reverse.flatMap (leavesG g) = L0 := by rw [← hT]; simp
       have hz := congrArg List.length hT'
       rw [List.length_append] at hz
       have hq := pend_len g (l' ++ [y1, y0]).reverse
       rw [List.length_reverse, hL2] at hq
       have hms : 2 * (L0.length - dl.length) - (l' ++ [y1, y0]).length < 2 * (L0.length - dl.length) - (l'.length + 1) := by rw [hL2]; exact ms2 hz hq
       have hI2 : ∀ x ∈ l' ++ [y1, y0], 0 ≤ x ∧ x / 2 < g.first + i := fun x hx => by
        rcases List.mem_append.1 hx with h | h
        ·exact hI' x h
        ·simp only [List.mem_cons, List.not_mem_nil, or_false] at h
         rcases h with rfl | rfl
         ·exact ⟨kk3, Int.lt_trans kk4 s2'⟩
         ·exact ⟨kk1, Int.lt_trans kk2 s2'⟩
       have hni : (gk m (a / 2)).getD false = true := by rw [hm (a / 2)]; exact hin.2
       have hbe2 : (a % 2 == 0) = true := by simp [hin.1]
       have hsub : a / 2 - g.first = k := sub_eq he
       have ha1 := hlr.2
       have hfst1 := hfst.1
       have hfst2 := hfst.2
       have hfl : g.first ≤ a / 2 := by rw [he]; exact Int.le_add_of_nonneg_right (Int.natCast_nonneg k)
       have hm2 : l'.length + 2 ≤ 1000 := sz3 hz hll hi h3 hq
       clear hlit hlc hlr hP hTL hI hI' hJI hJb hlm hlp hll hlo2 hl2 hm hF hFO hlenA hSL hSV hSP hS0 f3 hold hlv hT hz hq hin kk1 kk2 kk3 kk4 hgN he
       by_cases hroom : l'.length + 2 ≤ n
       ·have hput : putAt C l'.length [.int .i64 y1, .int .i64 y0] = (l' ++ [y1, y0]).map encInt ++ (j.drop 1).map encInt := by
         have := put_2 (l'.map encInt) ((a :: j).map encInt) (.int .i64 y1) (.int .i64 y0)
         rw [hC, List.length_map] at this
         rw [this]; simp
        have hstk' : Stq os (.pre os (l'.length + 2) n) (.vec 1 n (putAt C l'.length [.int .i64 y1, .int .i64 y0])) (l' ++ [y1, y0]) := by
         have hjl : 1 ≤ j.length := by clear hpk; omega
         have hlen2 : (l' ++ [y1, y0]).length + (j.drop 1).length = n := by clear hpk; rw [hL2, List.length_drop]; omega
         have h := Stq.pre (p := os) (l' ++ [y1, y0]) (j.drop 1) (by rw [hlen2]; exact hn3)
         rw [hput]
         rw [hlen2, hL2] at h
         exact h
        clear hput hstk hC hn' hV
        obtain ⟨⟨⟨q1, q2, q3, q4⟩, ⟨q5, q6, q7, q8⟩, ⟨q11, q12, q13, q14⟩, _, _, q9, q10⟩, _⟩ := hpk.out
        clear hpk
        rcases hV' with ⟨rfl, hn0⟩ | rfl
        ·rw [hn0] at hroom
         exact absurd hroom (Nat.not_succ_le_self _)
        ·repeat' (first | simp (maxDischargeDepth := 9) -implicitDefEqProofs -dsimp only [go_sem, seval, gt_iff_lt, ge_iff_le, Nat.mul_one, flat_i2, List.length_cons, List.length_nil, Nat.zero_add, Int.add_sub_cancel, Int.toNat_natCast, map_bool, *] | simp (disch := omega) only [wrap64, tdiv2, and1] | ((with_reducible refine Zv ?_ ?_); focus (first | omega | exact rfl)) | ((with_reducible refine Zu ?_ ?_); focus omega) | ((with_reducible refine Zt (fun oF hoF hnF hnF' => ?_)); (try simp only [upd_none, ne_eq, not_and] at hoF)) | ((with_reducible apply id_one0); (focus (intro tS hS; ((with_reducible refine hfc _ ?_) <;> (first | (simp (maxDischargeDepth := 9) -implicitDefEqProofs -dsimp only [go_sem, seval, *]; done) | omega | ((with_reducible refine Sub.get hS ?_); simp (maxDischargeDepth := 9) -implicitDefEqProofs -dsimp only [go_sem, seval, *]; done))))); (focus (first | trivial | (simp (maxDischargeDepth := 9) -implicitDefEqProofs -dsimp only [go_sem, seval, *]; done)))))
         refine loop_next _ _ _ _ (_, _, l' ++ [y1, y0], dl) ⟨?_, ?_, ⟨hstk', hI2, hT'⟩, hms⟩
         ·(repeat' simp (maxDischargeDepth := 9) -implicitDefEqProofs -dsimp only [go_sem, seval, *])
         ·(repeat' simp (maxDischargeDepth := 9) -implicitDefEqProofs -dsimp only [go_sem, seval, flat_i2, List.length_cons, List.length_nil, Nat.zero_add, *])
          all_goals (try exact fun h => h)
       ·have hn0 : n = l'.length + 1 := Nat.le_antisymm (Nat.le_of_lt_succ (Nat.lt_of_not_le hroom)) hn2
        have hstk' : Stq os (.vec os (l'.length + 2)) (.vec 1 (l'.length + 2) (l'.map encInt ++ [.int .i64 y1, .int .i64 y0])) (l' ++ [y1, y0]) := by
         have h := Stq.all (p := os) (l' ++ [y1, y0]) (by rw [hL2]; exact hm2)
         rw [hL2, List.map_append] at h
         exact h
        have hin2 : ¬ l'.length + 1 ≤ l'.length := Nat.not_succ_le_self _
        clear hstk hC hV hn'
        subst hn0
        obtain ⟨⟨⟨q1, q2, q3, q4⟩, ⟨q5, q6, q7, q8⟩, ⟨q11, q12, q13, q14⟩, _, _, q9, q10⟩, _⟩ := hpk.out
        clear hpk
        rcases hV' with ⟨rfl, _⟩ | rfl
        all_goals
         repeat' (first | simp (maxDischargeDepth := 9) -implicitDefEqProofs -dsimp only [go_sem, seval, gt_iff_lt, ge_iff_le, Nat.mul_one, flat_i2, List.length_cons, List.length_nil, Nat.zero_add, Int.add_sub_cancel, Int.toNat_natCast, map_bool, *] | simp (disch := omega) only [wrap64, tdiv2, and1] | ((with_reducible refine Zv ?_ ?_); focus (first | omega | exact rfl)) | ((with_reducible refine Zu ?_ ?_); focus omega) | ((with_reducible refine Zt (fun oF hoF hnF hnF' => ?_)); (try simp only [upd_none, ne_eq, not_and] at hoF)) | ((with_reducible apply id_one0); (focus (intro tS hS; ((with_reducible refine hfc _ ?_) <;> (first | (simp (maxDischargeDepth := 9) -implicitDefEqProofs -dsimp only [go_sem, seval, *]; done) | omega | ((with_reducible refine Sub.get hS ?_); simp (maxDischargeDepth := 9) -implicitDefEqProofs -dsimp only [go_sem, seval, *]; done))))); (focus (first | trivial | (simp (maxDischargeDepth := 9) -implicitDefEqProofs -dsimp only [go_sem, seval, *]; done)))))
         refine loop_next _ _ _ _ (_, _, l' ++ [y1, y0], dl) ⟨?_, ?_, ⟨hstk', hI2, hT'⟩, hms⟩
         ·(repeat' simp (maxDischargeDepth := 9) -implicitDefEqProofs -dsimp only [go_sem, seval, *])
         ·(repeat' simp (maxDischargeDepth := 9) -implicitDefEqProofs -dsimp only [go_sem, seval, flat_i2, List.length_cons, List.length_nil, Nat.zero_add, *])
          all_goals (try exact fun h => h)
      ·have hlf := leaves_leaf a hin
       rw [hlf] at hT hP hTL
       simp only [List.length_append, List.length_cons, List.length_nil] at hP hTL
       have hT' : (dl ++ [a]) ++ l'.reverse.flatMap (leavesG g) = L0 := by rw [← hT]; simp
       have hms : 2 * (L0.length - (dl ++ [a]).length) - l'.length < 2 * (L0.length - dl.length) - (l'.length + 1) := by
        simp only [List.length_append, List.length_cons, List.length_nil]; omega
       have hdl : (dl ++ [a]).length = dl.length + 1 := by simp
       have hdlb : dl.length ≤ 300 := by omega
       obtain ⟨u, hu⟩ : ∃ u, moveL b.lits a = u := ⟨_, rfl⟩
       have hmap : ((dl ++ [a]).map (moveL b.lits)).map encInt = (dl.map (moveL b.lits)).map encInt ++ [.int .i64 u] := by rw [← hu]; simp
       rw [hu] at hlc
       have hmi2 := hm (a / 2)
       obtain ⟨hSm, hSB⟩ := And.intro hSm hSB
       clear hlit hV hn' hC hT hP hTL hI hJI hJb hlm hlp hll hlo2 hl2 hm hF hFO hlf hlenA hSL hSV hSP hS0 f3 hold
       by_cases hev : a % 2 = 0
       ·have hni : (gk m (a / 2)).getD false = false := by
         rw [hmi2]
         cases hq : innM g (a / 2) with
         | false => rfl
         | true => exact absurd ⟨hev, hq⟩ hin
        have hbe2 : (a % 2 == 0) = true := by simp [hev]
        clear hev hin hmi2
        obtain ⟨⟨⟨q1, q2, q3, q4⟩, ⟨q5, q6, q7, q8⟩, ⟨q11, q12, q13, q14⟩, _, _, q9, q10⟩, _⟩ := hpk.out
        clear hpk
        rcases hV' with ⟨rfl, rfl⟩ | rfl
        all_goals
         repeat' (first | simp (maxDischargeDepth := 9) -implicitDefEqProofs -dsimp only [go_sem, seval, gt_iff_lt, Nat.mul_one, Int.add_sub_cancel, Int.toNat_natCast, map_bool, *] | simp (disch := omega) only [wrap64, tdiv2, and1] | ((with_reducible refine Zv ?_ ?_); focus (first | omega | exact rfl)) | ((with_reducible apply ACalls.one1); (focus ((with_reducible refine hlc _ ?_) <;> (first | (simp (maxDischargeDepth := 9) -implicitDefEqProofs -dsimp only [go_sem, seval, *]; done) | omega))); (focus (first | trivial | with_reducible exact rfl | (simp (maxDischargeDepth := 9) -implicitDefEqProofs -dsimp only [go_sem, seval]; done)))))
         refine loop_next _ _ _ _ (_, _, l', dl ++ [a]) ⟨?_, ?_, ⟨hstk, hI', hT'⟩, hms⟩
         ·(repeat' simp (maxDischargeDepth := 9) -implicitDefEqProofs -dsimp only [go_sem, seval, *])
         ·(repeat' simp (maxDischargeDepth := 9) -implicitDefEqProofs -dsimp only [go_sem, seval, List.length_append, List.length_cons, List.length_nil, *])
          all_goals (try exact fun h => h)
       ·have hbe2 : (a % 2 == 0) = false := by simpa using hev
        clear hev hin hmi2
        obtain ⟨⟨⟨q1, q2, q3, q4⟩, ⟨q5, q6, q7, q8⟩, ⟨q11, q12, q13, q14⟩, _, _, q9, q10⟩, _⟩ := hpk.out
        clear hpk
        rcases hV' with ⟨rfl, rfl⟩ | rfl
        all_goals
         repeat' (first | simp (maxDischargeDepth := 9) -implicitDefEqProofs -dsimp only [go_sem, seval, gt_iff_lt, Nat.mul_one, Int.add_sub_cancel, Int.toNat_natCast, map_bool, *] | simp (disch := omega) only [wrap64, tdiv2, and1] | ((with_reducible refine Zv ?_ ?_); focus (first | omega | exact rfl)) | ((with_reducible apply ACalls.one1); (focus ((with_reducible refine hlc _ ?_) <;> (first | (simp (maxDischargeDepth := 9) -implicitDefEqProofs -dsimp only [go_sem, seval, *]; done) | omega))); (focus (first | trivial | with_reducible exact rfl | (simp (maxDischargeDepth := 9) -implicitDefEqProofs -dsimp only [go_sem, seval]; done)))))
         refine loop_next _ _ _ _ (_, _, l', dl ++ [a]) ⟨?_, ?_, ⟨hstk, hI', hT'⟩, hms⟩
         ·(repeat' simp (maxDischargeDepth := 9) -implicitDefEqProofs -dsimp only [go_sem, seval, *])
         ·(repeat' simp (maxDischargeDepth := 9) -implicitDefEqProofs -dsimp only [go_sem, seval, List.length_append, List.length_cons, List.length_nil, *])
          all_goals (try exact fun h => h)
  ·have hlt' : ¬ (i : Int) < g.ands.length := by omega
   have ei : i = g.ands.length := by omega
   subst ei
   have hnx : ∀ f ∈ g.flops, 0 ≤ f.next ∧ (f.next / 2).toNat < (balAt g g.ands.length).lits.length ∧ f.next ≤ 1000000 := fun f hf => by
    have := good_flops hg.good hf
    have cf := count_first g
    rw [hlen]; simp only [Aig.first] at cf ⊢; omega
   have hol : ∀ a ∈ g.outs, 0 ≤ a ∧ (a / 2).toNat < (balAt g g.ands.length).lits.length ∧ a ≤ 1000000 := fun a ha => by
    have := good_outs hg.good ha
    have cf := count_first g
    rw [hlen]; simp only [Aig.first] at cf ⊢; omega
   have hO := hg.outs
   have hend := fun τ st' hst' hB hp => rw_end oB oP g (fun _ => none) st' (balAt g g.ands.length) .no (.own oL) (ilist (balAt g g.ands.length).lev (.own oV)) τ (upd σ oR (.cells [.int .i64 0, .slice [] .nil, .slice [] .nil, .slice [] .nil])) hst' hB hp rfl rfl f1.2.2.2.2.1 f1.2.2.2.2.2 hfs hout (by omega) (by omega) hl2 hnx hol
   have e0 : endB g (fun _ => none) (balAt g g.ands.length) = balance g := rfl
   rw [e0] at hend
   obtain ⟨b, hbe⟩ : ∃ b, balAt g g.ands.length = b := ⟨_, rfl⟩
   rw [hbe] at hend hout ⊢
   clear hnx hol hl2 J hlen hfs hfew hins hm
   repeat' simp (maxDischargeDepth := 9) -implicitDefEqProofs -dsimp only [go_sem, seval, *]
   refine ACalls.one (hend _ .nilmap (.inl ⟨rfl, fun _ => rfl⟩) ?_ ?_ ?_) ?_
   ·simp only [bldC, hout, List.map_nil]
    simp (maxDischargeDepth := 9) -implicitDefEqProofs -dsimp only [go_sem, seval, *]
   ·simp (maxDischargeDepth := 9) -implicitDefEqProofs -dsimp only [go_sem, seval, *]
   ·intro q x hq
    have q1 : ¬ q = oB := fun e => by subst e; simp only [upd] at hq; split at hq <;> simp_all
    have q2 : ¬ q = oL := fun e => by subst e; simp only [upd] at hq; split at hq <;> simp_all
    have q3 : ¬ q = oV := fun e => by subst e; simp only [upd] at hq; split at hq <;> simp_all
    have q4 : ¬ q = oP := fun e => by subst e; simp only [upd] at hq; split at hq <;> simp_all
    have q5 : ¬ q = om := fun e => by subst e; simp only [upd] at hq; split at hq <;> simp_all
    refine ⟨?_, q1, q4⟩
    simp only [upd, q1, q2, q3, q4, q5, if_false] at hq ⊢
    exact hq
   ·repeat' simp (maxDischargeDepth := 9) -implicitDefEqProofs -dsimp only [go_sem, seval, *]
    refine fin_eq ?_
    (repeat' simp (maxDischargeDepth := 9) -implicitDefEqProofs -dsimp only [go_sem, seval, *])
end Go.Proofs.Ytapnlmhfacoceaa

namespace Fil.Rw
open Abs
abbrev Kn := Option Bool
def kTurn : Kn → Kn
 | some b => some (!b)
 | none => none
def kOf (v : List Kn) (a : Int) : Kn := if a % 2 = 1 then kTurn (v.getD (a / 2).toNat none) else v.getD (a / 2).toNat none
def kBoth : Kn → Kn → Kn
 | some false, _ => some false
 | some true, b => b
 | none, some false => some false
 | none, _ => none
def initAt (g : Aig) (i : Nat) : Bool := (g.flops.getD i ⟨0, false⟩).init
def nextAt (g : Aig) (i : Nat) : Int := (g.flops.getD i ⟨0, false⟩).next
def stl (g : Aig) (so : List Bool) (i : Nat) : Option Bool := if so.getD i false then some (initAt g i) else none
def kFl (g : Aig) (so : List Bool) : Nat → List Kn
 | 0 => some false :: List.replicate g.ins.toNat none
 | i + 1 => kFl g so i ++ [stl g so i]
def kAt (g : Aig) (so : List Bool) : Nat → List Kn
 | 0 => kFl g so g.flops.length
 | i + 1 => kAt g so i ++ [kBoth (kOf (kAt g so i) (g.ands.getD i (0, 0)).1) (kOf (kAt g so i) (g.ands.getD i (0, 0)).2)]
def qDel (g : Aig) (v : List Kn) (so : List Bool) : Nat → List Bool
 | 0 => so
 | i + 1 => if kOf v (nextAt g i) = some (initAt g i) then qDel g v so i else (qDel g v so i).set i false
def qStep (g : Aig) (so : List Bool) : List Bool := qDel g (kAt g so g.ands.length) so g.flops.length
def qAll (g : Aig) : List Bool := List.replicate g.flops.length true
def qIt (g : Aig) : Nat → List Bool
 | 0 => qAll g
 | k + 1 => qStep g (qIt g k)
def quietG (g : Aig) : List Bool := qIt g g.flops.length
def still (g : Aig) : Aig := hashed g (stl g (quietG g))
def mKat (g : Aig) (so : List Bool) : Nat → List (Int × Bool)
 | 0 => []
 | i + 1 => mKat g so i ++ if so.getD i false then [((i : Int), initAt g i)] else []
def cT (so : List Bool) : Nat → Nat
 | 0 => 0
 | i + 1 => cT so i + if so.getD i false then 1 else 0
theorem kFl_len (g : Aig) (so : List Bool) : ∀ i, (kFl g so i).length = 1 + g.ins.toNat + i
 | 0 => by simp [kFl]; omega
 | i + 1 => by simp [kFl, kFl_len g so i]; omega
theorem kAt_len (g : Aig) (so : List Bool) : ∀ i, (kAt g so i).length = 1 + g.ins.toNat + g.flops.length + i
 | 0 => by simp [kAt, kFl_len]
 | i + 1 => by simp [kAt, kAt_len g so i]; omega
theorem qDel_len (g : Aig) (v : List Kn) (so : List Bool) : ∀ i, (qDel g v so i).length = so.length
 | 0 => rfl
 | i + 1 => by
  unfold qDel
  split
  ·exact qDel_len g v so i
  ·rw [List.length_set]; exact qDel_len g v so i
theorem qStep_len (g : Aig) (so : List Bool) : (qStep g so).length = so.length := qDel_len _ _ _ _
theorem qIt_len (g : Aig) : ∀ k, (qIt g k).length = g.flops.length
 | 0 => by simp [qIt, qAll]
 | k + 1 => by rw [qIt, qStep_len, qIt_len g k]
theorem set_getD (l : List Bool) (i j : Nat) : (l.set i false).getD j false = if i = j then false else l.getD j false := by
 simp only [List.getD_eq_getElem?_getD, List.getElem?_set]
 by_cases h : i = j
 ·subst h
  by_cases h2 : i < l.length <;> simp [h2]
 ·simp [h]
theorem qDel_get (g : Aig) (v : List Kn) (so : List Bool) (j : Nat) : ∀ i, (qDel g v so i).getD j false = if j < i then so.getD j false && decide (kOf v (nextAt g j) = some (initAt g j)) else so.getD j false
 | 0 => by simp [qDel]
 | i + 1 => by
  have ih := qDel_get g v so j i
  unfold qDel
  split
  ·rename_i hc
   rw [ih]
   by_cases h : j < i
   ·rw [if_pos h, if_pos (by omega)]
   ·by_cases h2 : j = i
    ·subst h2
     rw [if_neg h, if_pos (by omega)]
     simp [hc]
    ·rw [if_neg h, if_neg (by omega)]
  ·rename_i hc
   rw [set_getD, ih]
   by_cases h2 : i = j
   ·subst h2
    rw [if_pos rfl, if_pos (by omega)]
    simp [hc]
   ·rw [if_neg h2]
    by_cases h : j < i
    ·rw [if_pos h, if_pos (by omega)]
    ·rw [if_neg h, if_neg (by omega)]
theorem qStep_le (g : Aig) (so : List Bool) (j : Nat) (h : (qStep g so).getD j false = true) : so.getD j false = true := by
 unfold qStep at h
 rw [qDel_get] at h
 split at h
 ·simp only [Bool.and_eq_true] at h; exact h.1
 ·exact h
theorem bl_ext {a b : List Bool} (hl : a.length = b.length) (h : ∀ i, i < a.length → a.getD i false = b.getD i false) : a = b := by
 apply List.ext_getElem hl
 intro i h1 h2
 have := h i h1
 simp only [List.getD_eq_getElem?_getD, List.getElem?_eq_getElem h1, List.getElem?_eq_getElem h2, Option.getD_some] at this
 exact this
theorem cT_le {a b : List Bool} (h : ∀ j, a.getD j false = true → b.getD j false = true) : ∀ n, cT a n ≤ cT b n
 | 0 => Nat.le_refl _
 | n + 1 => by
  have ih := cT_le h n
  have := h n
  unfold cT
  cases ha : a.getD n false with
  | false => simp only [Bool.false_eq_true, if_false]; split <;> omega
  | true => rw [this ha]; simp only [if_true]; omega
theorem cT_lt {a b : List Bool} (h : ∀ j, a.getD j false = true → b.getD j false = true) {i : Nat} (ha : a.getD i false = false) (hb : b.getD i false = true) : ∀ n, i < n → cT a n < cT b n
 | n + 1, hi => by
  unfold cT
  by_cases e : i = n
  ·subst e
   have := cT_le h i
   rw [ha, hb]; simp only [Bool.false_eq_true, if_false, if_true]; omega
  ·have ih := cT_lt h ha hb n (by omega)
   have := h n
   cases hq : a.getD n false with
   | false => simp only [Bool.false_eq_true, if_false]; split <;> omega
   | true => rw [this hq]; simp only [if_true]; omega
theorem cT_bound (a : List Bool) : ∀ n, cT a n ≤ n
 | 0 => Nat.le_refl _
 | n + 1 => by have := cT_bound a n; unfold cT; split <;> omega
theorem qStep_cases {g : Aig} {so : List Bool} (hl : so.length = g.flops.length) : (qStep g so = so ∧ cT (qStep g so) g.flops.length = cT so g.flops.length) ∨ (qStep g so ≠ so ∧ cT (qStep g so) g.flops.length < cT so g.flops.length) := by
 by_cases h : ∀ i, i < (qStep g so).length → (qStep g so).getD i false = so.getD i false
 ·have := bl_ext (qStep_len g so) h
  exact .inl ⟨this, by rw [this]⟩
 ·obtain ⟨i, hi⟩ := Classical.not_forall.1 h
  obtain ⟨h1, h2⟩ := Classical.not_imp.1 hi
  have hle := qStep_le g so
  have hs : (qStep g so).getD i false = false ∧ so.getD i false = true := by
   cases ha : (qStep g so).getD i false with
   | true => rw [ha, hle i ha] at h2; exact absurd rfl h2
   | false =>
    cases hb : so.getD i false with
    | true => exact ⟨rfl, rfl⟩
    | false => rw [ha, hb] at h2; exact absurd rfl h2
  refine .inr ⟨fun e => h2 (by rw [e]), cT_lt hle hs.1 hs.2 _ ?_⟩
  rw [qStep_len, hl] at h1; exact h1
theorem qIt_more {g : Aig} {k : Nat} (h : qStep g (qIt g k) = qIt g k) : ∀ d, qIt g (k + d) = qIt g k
 | 0 => rfl
 | d + 1 => by
  show qStep g (qIt g (k + d)) = _
  rw [qIt_more h d, h]
theorem quiet_end {g : Aig} {k : Nat} (hk : k ≤ g.flops.length) (h : qStep g (qIt g k) = qIt g k) : qIt g k = quietG g := by
 unfold quietG
 rw [show g.flops.length = k + (g.flops.length - k) by omega, qIt_more h]
theorem quiet_len (g : Aig) : (quietG g).length = g.flops.length := qIt_len g _

/-! ### The map -/
theorem gk_app {α : Type} (x : Int) : ∀ (l m : List (Int × α)), gk (l ++ m) x = match gk l x with | some v => some v | none => gk m x
 | [], m => rfl
 | p :: l, m => by
  have ih := gk_app x l m
  simp only [List.cons_append, gk]
  split
  ·rfl
  ·exact ih
theorem dk_app {α : Type} (x : Int) : ∀ (l m : List (Int × α)), dk (l ++ m) x = if (gk l x).isSome then dk l x ++ m else l ++ dk m x
 | [], m => rfl
 | p :: l, m => by
  have ih := dk_app x l m
  simp only [List.cons_append, gk, dk]
  by_cases h : p.1 = x
  ·simp [h]
  ·simp only [h, if_false, ih]
   split <;> simp
theorem dk_none {α : Type} (x : Int) : ∀ (l : List (Int × α)), gk l x = none → dk l x = l
 | [], _ => rfl
 | p :: l, h => by
  simp only [gk] at h
  simp only [dk]
  split at h
  ·simp at h
  ·rename_i hp
   rw [if_neg hp, dk_none x l h]
theorem sk_none {α : Type} (x : Int) (v : α) : ∀ (l : List (Int × α)), gk l x = none → sk l x v = l ++ [(x, v)]
 | [], _ => rfl
 | p :: l, h => by
  simp only [gk] at h
  simp only [sk, List.cons_append]
  split at h
  ·simp at h
  ·rename_i hp
   rw [if_neg hp, sk_none x v l h]
theorem gk_mKat (g : Aig) (so : List Bool) (j : Nat) : ∀ k, gk (mKat g so k) (j : Int) = if j < k then stl g so j else none
 | 0 => by simp [mKat, gk]
 | k + 1 => by
  have ih := gk_mKat g so j k
  unfold mKat
  rw [gk_app, ih]
  have hk : gk (if so.getD k false then [((k : Int), initAt g k)] else []) (j : Int) = if j = k then stl g so j else none := by
   unfold stl
   by_cases e : j = k
   ·subst e
    cases so.getD j false <;> simp [gk]
   ·have : ¬ ((k : Int) = j) := by omega
    rw [if_neg e]
    cases so.getD k false <;> simp [gk, this]
  rw [hk]
  by_cases h : j < k
  ·have c : j < k + 1 := by omega
   have c2 : ¬ j = k := by omega
   rw [if_pos h, if_pos c, if_neg c2]
   cases stl g so j <;> rfl
  ·rw [if_neg h]
   by_cases h2 : j = k
   ·have c : j < k + 1 := by omega
    rw [if_pos h2, if_pos c]
   ·have c : ¬ j < k + 1 := by omega
    rw [if_neg h2, if_neg c]
theorem dk_mKat (g : Aig) (so : List Bool) (j : Nat) : ∀ k, dk (mKat g so k) (j : Int) = mKat g (so.set j false) k
 | 0 => rfl
 | k + 1 => by
  have ih := dk_mKat g so j k
  have hg := gk_mKat g so j k
  unfold mKat
  rw [dk_app, set_getD]
  by_cases hs : (gk (mKat g so k) (j : Int)).isSome = true
  ·rw [if_pos hs, ih]
   have hjk : j < k := by
    rw [hg] at hs
    split at hs
    ·assumption
    ·simp at hs
   have c : ¬ j = k := by omega
   rw [if_neg c]
  ·rw [if_neg hs]
   have hn : gk (mKat g so k) (j : Int) = none := by
    cases hq : gk (mKat g so k) (j : Int) with
    | none => rfl
    | some v => rw [hq] at hs; simp at hs
   rw [dk_none _ _ hn] at ih
   rw [← ih]
   by_cases e : j = k
   ·subst e
    rw [if_pos rfl]
    cases so.getD j false <;> simp [dk]
   ·rw [if_neg e]
    cases so.getD k false with
    | false => simp [dk]
    | true =>
     have : ¬ ((k : Int) = j) := by omega
     simp [dk, this]
theorem mKat_len (g : Aig) (so : List Bool) : ∀ k, (mKat g so k).length = cT so k
 | 0 => rfl
 | k + 1 => by
  unfold mKat cT
  rw [List.length_append, mKat_len g so k]
  split <;> rfl
theorem sk_mKat (g : Aig) (i : Nat) (hi : i < g.flops.length) : sk (mKat g (qAll g) i) (i : Int) (initAt g i) = mKat g (qAll g) (i + 1) := by
 have hn : gk (mKat g (qAll g) i) (i : Int) = none := by rw [gk_mKat, if_neg (by omega)]
 rw [sk_none _ _ _ hn]
 conv => rhs; unfold mKat
 have : (qAll g).getD i false = true := by simp [qAll, List.getD_eq_getElem?_getD, hi]
 rw [this]; rfl
end Fil.Rw

namespace Go.Proofs.Ytapnlmhfacoceaa
open Abs Fil Fil.Rw
def encKn : Kn → AV
 | some b => .iface 94 (.bool b)
 | none => .iface 97 (.agg [])
theorem encKn_cells (k : Kn) : cellsA (encKn k) = [encKn k] := by cases k <;> rfl
theorem encKn_one (k : Kn) : oneA (encKn k) = true := by cases k <;> rfl
theorem szs_kn (l : List Kn) : szs 1 (l.map encKn) = True := szs_map _ _ _ fun k => by rw [encKn_cells]; rfl
theorem rw_sure (b : Bool) (σ : Sig) : ACalls Try.prog 114 [.bool b] σ (fun r σ' => r = .ret (encKn (some (!b))) ∧ σ' = σ) := by
 refine calls_x mixed Try.func114 b114 n114 rfl q114 (by simp) ?_; unfold c114 r114
 repeat' simp (maxDischargeDepth := 9) -implicitDefEqProofs -dsimp only [go_sem, seval, *]
 refine fin_eq ?_
 (repeat' simp (maxDischargeDepth := 9) -implicitDefEqProofs -dsimp only [go_sem, seval, encKn, *])
theorem rw_nothing (σ : Sig) : ACalls Try.prog 115 [.agg []] σ (fun r σ' => r = .ret (encKn none) ∧ σ' = σ) := by
 refine calls_x mixed Try.func115 b115 n115 rfl q115 (by simp) ?_; unfold c115 r115
 repeat' simp (maxDischargeDepth := 9) -implicitDefEqProofs -dsimp only [go_sem, seval, List.length_nil, List.take_nil, List.drop_nil, *]
 refine fin_eq ?_
 (repeat' simp (maxDischargeDepth := 9) -implicitDefEqProofs -dsimp only [go_sem, seval, encKn, *])
theorem kn_get {v : List Kn} {n : Nat} (h : n < v.length) : v[n] = v.getD n none := by simp [List.getD_eq_getElem?_getD, h]
theorem rw_of (o : Nat) (v : List Kn) (t : Tok) (a : Int) (σ : Sig) (h : σ o = some (.cells [.slice (v.map encKn) t])) (h0 : 0 ≤ a) (h1 : (a / 2).toNat < v.length) (h2 : a ≤ 1000000) :
  ACalls Try.prog 78 [.int .i64 a, .ptr o 0] σ (fun r σ' => r = .ret (encKn (kOf v a)) ∧ σ' = σ) := by
 refine calls_x mixed Try.func78 b78 n78 rfl q78 (by simp) ?_; unfold c78 r78
 have hg := kn_get h1
 obtain ⟨k, hk⟩ : ∃ k, v.getD (a / 2).toNat none = k := ⟨_, rfl⟩
 rw [hk] at hg
 have ho : kOf v a = if a % 2 = 1 then kTurn k else k := by unfold kOf; rw [hk]
 rw [ho]
 have c1 := encKn_cells k
 have c2 := encKn_one k
 clear ho hk
 by_cases he : a % 2 = 1
 ·have hb : (a % 2 == 1) = true := by simp [he]
  rw [if_pos he]
  clear he
  cases k with
  | some b =>
   have hs := rw_sure b
   simp only [encKn] at c1 c2 hs
   repeat' (first | simp (maxDischargeDepth := 9) -implicitDefEqProofs -dsimp only [go_sem, seval, encKn, kTurn, *] | simp (disch := omega) only [wrap64, tdiv2, and1] | ((with_reducible refine Zv ?_ ?_); focus (first | omega | exact rfl)) | ((with_reducible refine Zu ?_ ?_); focus omega) | ((with_reducible apply ACalls.one1); (focus ((with_reducible refine hs _) <;> (first | (simp (maxDischargeDepth := 9) -implicitDefEqProofs -dsimp only [go_sem, seval, *]; done) | omega))); (focus (first | trivial | with_reducible exact rfl | (simp (maxDischargeDepth := 9) -implicitDefEqProofs -dsimp only [go_sem, seval]; done)))))
   refine fin_eq ?_
   (repeat' simp (maxDischargeDepth := 9) -implicitDefEqProofs -dsimp only [go_sem, seval, encKn, kTurn, *])
  | none =>
   have hs := rw_nothing
   simp only [encKn] at c1 c2 hs
   repeat' (first | simp (maxDischargeDepth := 9) -implicitDefEqProofs -dsimp only [go_sem, seval, encKn, kTurn, *] | simp (disch := omega) only [wrap64, tdiv2, and1] | ((with_reducible refine Zv ?_ ?_); focus (first | omega | exact rfl)) | ((with_reducible refine Zu ?_ ?_); focus omega) | ((with_reducible apply ACalls.one1); (focus ((with_reducible refine hs _) <;> (first | (simp (maxDischargeDepth := 9) -implicitDefEqProofs -dsimp only [go_sem, seval, *]; done) | omega))); (focus (first | trivial | with_reducible exact rfl | (simp (maxDischargeDepth := 9) -implicitDefEqProofs -dsimp only [go_sem, seval]; done)))))
   refine fin_eq ?_
   (repeat' simp (maxDischargeDepth := 9) -implicitDefEqProofs -dsimp only [go_sem, seval, encKn, kTurn, *])
 ·have hb : (a % 2 == 1) = false := by simp [he]
  rw [if_neg he]
  clear he
  repeat' (first | simp (maxDischargeDepth := 9) -implicitDefEqProofs -dsimp only [go_sem, seval, *] | simp (disch := omega) only [wrap64, tdiv2, and1] | ((with_reducible refine Zv ?_ ?_); focus (first | omega | exact rfl)) | ((with_reducible refine Zu ?_ ?_); focus omega))
  refine fin_eq ?_
  (repeat' simp (maxDischargeDepth := 9) -implicitDefEqProofs -dsimp only [go_sem, seval, *])
def kk (a b : Kn) (i : Nat) : Kn := if i = 0 then a else b
def allK (a b : Kn) : Nat → Bool
 | 0 => true
 | 1 => a.isSome
 | _ => a.isSome && b.isSome
set_option maxHeartbeats 4000000 in
theorem rw_both (a b : Kn) (σ : Sig) : ACalls Try.prog 79 [encKn a, encKn b] σ (fun r σ' => r = .ret (encKn (kBoth a b)) ∧ σ' = σ) := by
 refine calls_x mixed Try.func79 b79 n79 rfl q79 (by simp) ?_; unfold c79 r79
 have c1 := encKn_cells a
 have c2 := encKn_one a
 have c3 := encKn_cells b
 have c4 := encKn_one b
 repeat' simp (maxDischargeDepth := 9) -implicitDefEqProofs -dsimp only [go_sem, seval, *]
 refine loop_rule (fun i : Nat => [(14, some (.int .i64 i)), (13, some (.int .i64 2)), (12, some (.slice [encKn a, encKn b] .no)), (5, some (.bool (allK a b i)))]) (fun _ => σ) (fun i => i ≤ 2 ∧ ∀ j, j < i → kk a b j ≠ some false) (fun i => 2 - i) 0 ?_ ?_
 ·(repeat' simp (maxDischargeDepth := 9) -implicitDefEqProofs -dsimp only [go_sem, seval, allK, Int.natCast_zero, *]) <;> (first | omega | skip)
 ·rintro i ⟨hi, hn⟩
  by_cases hlt : i < 2
  ·rcases (show i = 0 ∨ i = 1 by omega) with rfl | rfl
   ·clear hlt hi hn
    rcases a with _ | _ | _
    ·simp only [encKn] at c1 c2 ⊢
     repeat' (first | simp (maxDischargeDepth := 9) -implicitDefEqProofs -dsimp only [go_sem, seval, true_implies, false_implies, and_true, true_and, ne_eq, not_true_eq_false, not_false_eq_true, Nat.reduceEqDiff, encKn, Int.natCast_zero, allK, *] | simp (disch := omega) only [wrap64] | ((with_reducible refine Zt (fun oF hoF hnF hnF' => ?_)); (try simp only [upd_none, ne_eq, not_and] at hoF)))
     refine loop_next _ _ _ _ 1 ⟨?_, ?_, ⟨by omega, fun j hj => ?_⟩, by omega⟩
     ·(repeat' simp (maxDischargeDepth := 9) -implicitDefEqProofs -dsimp only [go_sem, seval, allK, encKn, Int.natCast_one, Int.zero_add, Option.isSome_none, *])
     ·(repeat' simp (maxDischargeDepth := 9) -implicitDefEqProofs -dsimp only [go_sem, seval, *])
     ·rw [show j = 0 by omega]; simp [kk]
    ·simp only [encKn] at c1 c2 ⊢
     repeat' simp (maxDischargeDepth := 9) -implicitDefEqProofs -dsimp only [go_sem, seval, true_implies, false_implies, and_true, true_and, ne_eq, not_true_eq_false, not_false_eq_true, Nat.reduceEqDiff, encKn, Int.natCast_zero, allK, *]
     refine fin_eq ?_
     (repeat' simp (maxDischargeDepth := 9) -implicitDefEqProofs -dsimp only [go_sem, seval, encKn, kBoth, *])
    ·simp only [encKn] at c1 c2 ⊢
     repeat' (first | simp (maxDischargeDepth := 9) -implicitDefEqProofs -dsimp only [go_sem, seval, true_implies, false_implies, and_true, true_and, ne_eq, not_true_eq_false, not_false_eq_true, Nat.reduceEqDiff, encKn, Int.natCast_zero, allK, *] | simp (disch := omega) only [wrap64])
     refine loop_next _ _ _ _ 1 ⟨?_, ?_, ⟨by omega, fun j hj => ?_⟩, by omega⟩
     ·(repeat' simp (maxDischargeDepth := 9) -implicitDefEqProofs -dsimp only [go_sem, seval, allK, encKn, Int.natCast_one, Int.zero_add, Option.isSome_some, *])
     ·(repeat' simp (maxDischargeDepth := 9) -implicitDefEqProofs -dsimp only [go_sem, seval, *])
     ·rw [show j = 0 by omega]; simp [kk]
   ·clear hlt hi
    have hn0 := hn 0 (by omega)
    clear hn
    have e2 : kk a b 0 = a := rfl
    rw [e2] at hn0
    rcases b with _ | _ | _
    ·simp only [encKn] at c3 c4 ⊢
     repeat' (first | simp (maxDischargeDepth := 9) -implicitDefEqProofs -dsimp only [go_sem, seval, true_implies, false_implies, and_true, true_and, ne_eq, not_true_eq_false, not_false_eq_true, Nat.reduceEqDiff, Int.natCast_one, allK, *] | simp (disch := omega) only [wrap64] | ((with_reducible refine Zt (fun oF hoF hnF hnF' => ?_)); (try simp only [upd_none, ne_eq, not_and] at hoF)))
     refine loop_next _ _ _ _ 2 ⟨?_, ?_, ⟨by omega, fun j hj => ?_⟩, by omega⟩
     ·(repeat' simp (maxDischargeDepth := 9) -implicitDefEqProofs -dsimp only [go_sem, seval, allK, encKn, Int.natCast_one, Option.isSome_none, Bool.and_false, *])
     ·(repeat' simp (maxDischargeDepth := 9) -implicitDefEqProofs -dsimp only [go_sem, seval, *])
     ·rcases (show j = 0 ∨ j = 1 by omega) with rfl | rfl
      ·exact hn0
      ·simp [kk]
    ·simp only [encKn] at c3 c4 ⊢
     have hr : kBoth a (some false) = some false := by rcases a with _ | _ | _ <;> rfl
     repeat' simp (maxDischargeDepth := 9) -implicitDefEqProofs -dsimp only [go_sem, seval, true_implies, false_implies, and_true, true_and, ne_eq, not_true_eq_false, not_false_eq_true, Nat.reduceEqDiff, Int.natCast_one, allK, *]
     refine fin_eq ?_
     (repeat' simp (maxDischargeDepth := 9) -implicitDefEqProofs -dsimp only [go_sem, seval, encKn, hr, *])
    ·simp only [encKn] at c3 c4 ⊢
     repeat' (first | simp (maxDischargeDepth := 9) -implicitDefEqProofs -dsimp only [go_sem, seval, true_implies, false_implies, and_true, true_and, ne_eq, not_true_eq_false, not_false_eq_true, Nat.reduceEqDiff, Int.natCast_one, allK, *] | simp (disch := omega) only [wrap64])
     refine loop_next _ _ _ _ 2 ⟨?_, ?_, ⟨by omega, fun j hj => ?_⟩, by omega⟩
     ·(repeat' simp (maxDischargeDepth := 9) -implicitDefEqProofs -dsimp only [go_sem, seval, allK, encKn, Int.natCast_one, Option.isSome_some, Bool.and_true, *])
     ·(repeat' simp (maxDischargeDepth := 9) -implicitDefEqProofs -dsimp only [go_sem, seval, *])
     ·rcases (show j = 0 ∨ j = 1 by omega) with rfl | rfl
      ·exact hn0
      ·simp [kk]
  ·have e : i = 2 := by omega
   subst e
   have h0 := hn 0 (by omega)
   have h1 := hn 1 (by omega)
   have e0 : kk a b 0 = a := rfl
   have e1 : kk a b 1 = b := rfl
   rw [e0] at h0
   rw [e1] at h1
   clear hn hi hlt c1 c2 c3 c4
   rcases a with _ | _ | _
   ·have hr : kBoth none b = none := by
     rcases b with _ | _ | _
     ·rfl
     ·exact absurd rfl h1
     ·rfl
    rw [hr]
    clear h0 h1
    repeat' simp (maxDischargeDepth := 9) -implicitDefEqProofs -dsimp only [go_sem, seval, allK, Option.isSome_none, Bool.false_and, List.length_nil, List.take_nil, *]
    refine fin_eq ?_
    (repeat' simp (maxDischargeDepth := 9) -implicitDefEqProofs -dsimp only [go_sem, seval, encKn, *])
   ·exact absurd rfl h0
   ·have hr : kBoth (some true) b = b := rfl
    rw [hr]
    rcases b with _ | _ | _
    ·clear h0 h1
     repeat' simp (maxDischargeDepth := 9) -implicitDefEqProofs -dsimp only [go_sem, seval, allK, Option.isSome_none, Option.isSome_some, Bool.and_false, *]
     refine fin_eq ?_
     (repeat' simp (maxDischargeDepth := 9) -implicitDefEqProofs -dsimp only [go_sem, seval, encKn, *])
    ·exact absurd rfl h1
    ·clear h0 h1
     repeat' simp (maxDischargeDepth := 9) -implicitDefEqProofs -dsimp only [go_sem, seval, allK, Option.isSome_some, Bool.and_true, *]
     refine fin_eq ?_
     (repeat' simp (maxDischargeDepth := 9) -implicitDefEqProofs -dsimp only [go_sem, seval, encKn, *])
end Go.Proofs.Ytapnlmhfacoceaa

namespace Go.Proofs.Ytapnlmhfacoceaa
open Abs Fil Fil.Rw
theorem initAt_eq {g : Aig} {i : Nat} (h : i < g.flops.length) : initAt g i = g.flops[i].init := by simp [initAt, List.getD_eq_getElem?_getD, h]
theorem nextAt_eq {g : Aig} {i : Nat} (h : i < g.flops.length) : nextAt g i = g.flops[i].next := by simp [nextAt, List.getD_eq_getElem?_getD, h]
theorem qDel_all {g : Aig} {v : List Kn} {so : List Bool} {i : Nat} (h : i < so.length) (hl : so.length = g.flops.length) : decide (so.set i false = qAll g) = false := by
 simp only [decide_eq_false_iff_not]
 intro e
 have := congrArg (fun l : List Bool => l.getD i true) e
 simp [qAll, List.getD_eq_getElem?_getD, h, ← hl] at this
theorem wrapN (n : Nat) (h : n ≤ 1000000) : IntKind.i64.wrap ((n : Int) + 1) = ((n + 1 : Nat) : Int) := wrap64 _ (by omega) (by omega)
def kOf_d (k : Kn) (b : Bool) : Bool := decide (k = some b)
def kIn (j : Nat) : List Kn := some false :: List.replicate j none
theorem kIn_map (j : Nat) : (kIn (j + 1)).map encKn = (kIn j).map encKn ++ [.iface 97 (.agg [])] := by
 unfold kIn
 rw [List.replicate_succ', ← List.cons_append, List.map_append]; rfl
theorem kIn_len (j : Nat) : (kIn j).length = j + 1 := by simp [kIn]
theorem kFl_map (g : Aig) (so : List Bool) (i : Nat) : (kFl g so (i + 1)).map encKn = (kFl g so i).map encKn ++ [encKn (stl g so i)] := by
 show (kFl g so i ++ [stl g so i]).map encKn = _
 rw [List.map_append]; rfl
theorem kAt_map (g : Aig) (so : List Bool) (i : Nat) : (kAt g so (i + 1)).map encKn = (kAt g so i).map encKn ++ [encKn (kBoth (kOf (kAt g so i) (g.ands.getD i (0, 0)).1) (kOf (kAt g so i) (g.ands.getD i (0, 0)).2))] := by
 show (kAt g so i ++ [_]).map encKn = _
 rw [List.map_append]; rfl
set_option maxRecDepth 20000 in
set_option maxHeartbeats 8000000 in
theorem rw_quiet (g : Aig) (σ : Sig) (hg : Sml g) : ACalls Try.prog 56 [encAig g] σ (NewO σ .map (.map (decide (quietG g = qAll g)) (encK .bool (mKat g (quietG g) g.flops.length)))) := by
 refine calls_x mixed Try.func56 b56 n56 rfl q56 (by simp) ?_; unfold c56 r56
 have hlo := hg.lo
 have h1 := hg.ins
 have h2 := hg.flops
 have h3 := hg.ands
 obtain ⟨N, hN⟩ : ∃ N : Nat, (N : Int) = g.ins := ⟨g.ins.toNat, by omega⟩
 have hN' : g.ins = (N : Int) := hN.symm
 have hN1 : N ≤ 60 := by omega
 have hNt : g.ins.toNat = N := by omega
 clear hN
 repeat' (first | simp (maxDischargeDepth := 9) -implicitDefEqProofs -dsimp only [go_sem, seval, *] | ((with_reducible refine Zt (fun oF hoF hnF hnF' => ?_)); (try simp only [upd_none, ne_eq, not_and] at hoF)))
 obtain ⟨om, eM⟩ : ∃ x, x = oF := ⟨oF, rfl⟩
 subst eM
 have hσm : σ om = none := hoF
 clear hoF hnF hnF'
 refine loop_rule (fun i : Nat => [(20, some (.int .i64 i)), (19, some (.int .i64 g.flops.length)), (18, some (.slice (g.flops.map encFlop) .no)), (3, some (.map om)), (1, some (.cptr (aigL g)))])
  (fun i => upd σ om (.map true (encK .bool (mKat g (qAll g) i)))) (fun i => i ≤ g.flops.length) (fun i => g.flops.length - i) 0 ?_ ?_
 ·(repeat' simp (maxDischargeDepth := 9) -implicitDefEqProofs -dsimp only [go_sem, seval, mKat, encK_nil, Int.natCast_zero, *]) <;> (first | omega | skip)
 ·intro i hi
  by_cases hlt : i < g.flops.length
  ·have hlt' : (i : Int) < g.flops.length := by omega
   have hs := sk_mKat g i hlt
   have hset := set_k AV.bool i (initAt g i) (mKat g (qAll g) i)
   rw [hs] at hset
   have hin := initAt_eq hlt
   obtain ⟨f, hf⟩ : ∃ f, g.flops[i] = f := ⟨_, rfl⟩
   rw [hf] at hin
   rw [hin] at hset
   clear hs hin
   repeat' (first | simp (maxDischargeDepth := 9) -implicitDefEqProofs -dsimp only [go_sem, seval, *] | simp (disch := omega) only [wrap64] | ((with_reducible refine Zv ?_ ?_); focus (first | omega | exact rfl)) | ((with_reducible refine Zu ?_ ?_); focus omega) | ((with_reducible refine Zt (fun oF hoF hnF hnF' => ?_)); (try simp only [upd_none, ne_eq, not_and] at hoF)))
   refine loop_next _ _ _ _ (i + 1) ?_; (repeat' simp (maxDischargeDepth := 9) -implicitDefEqProofs -dsimp only [go_sem, seval, *]) <;> (repeat' refine And.intro ?_ ?_) <;> (first | omega | skip)
  ·have hlt' : ¬ (i : Int) < g.flops.length := by omega
   have ei : i = g.flops.length := by omega
   subst ei
   clear hi hlt
   repeat' simp (maxDischargeDepth := 9) -implicitDefEqProofs -dsimp only [go_sem, seval, *]
   refine loop_rule (fun _ : List Bool => [(3, some (.map om)), (1, some (.cptr (aigL g)))])
    (fun x => upd σ om (.map (decide (x = qAll g)) (encK .bool (mKat g x g.flops.length)))) (fun x => x.length = g.flops.length ∧ ∃ k, x = qIt g k ∧ k + cT x g.flops.length ≤ g.flops.length) (fun x => cT x g.flops.length) (qAll g) ?_ ?_
   ·refine ⟨?_, ?_, qIt_len g 0, 0, rfl, by have := cT_bound (qAll g) g.flops.length; omega⟩
    ·(repeat' simp (maxDischargeDepth := 9) -implicitDefEqProofs -dsimp only [go_sem, seval, *])
    ·(repeat' simp (maxDischargeDepth := 9) -implicitDefEqProofs -dsimp only [go_sem, seval, decide_true, *])
   ·rintro so ⟨hsl, hso⟩
    have hcb := cT_bound so g.flops.length
    repeat' (first | simp (maxDischargeDepth := 9) -implicitDefEqProofs -dsimp only [go_sem, seval, *] | ((with_reducible refine Zt (fun oF hoF hnF hnF' => ?_)); (try simp only [upd_none, ne_eq, not_and] at hoF)))
    rename_i oX hnX hnX' hoX
    obtain ⟨ov, eV⟩ : ∃ x, x = oF := ⟨oF, rfl⟩
    subst eV
    have hoV := hoF
    clear hnX hnX' hnF hnF' hoF
    obtain ⟨x1, x2⟩ := hoX
    obtain ⟨v1, v2, v3⟩ := hoV
    have w1 : ¬ oX = ov := fun e => v1 e.symm
    have w2 : ¬ om = ov := fun e => v2 e.symm
    have w3 : ¬ om = oX := fun e => x1 e.symm
    obtain ⟨M, hM⟩ : ∃ M, mKat g so g.flops.length = M := ⟨_, rfl⟩
    have hMl : (encK AV.bool M).length = cT so g.flops.length := by rw [encK_len, ← hM, mKat_len]
    have hMg : ∀ j, j < g.flops.length → gk M (j : Int) = stl g so j := fun j hj => by rw [← hM, gk_mKat, if_pos hj]
    rw [hM]
    obtain ⟨d, hd⟩ : ∃ d, decide (so = qAll g) = d := ⟨_, rfl⟩
    rw [hd]
    refine loop_rule (fun j : Nat => [(34, some (.int .i64 j)), (33, some (.int .i64 N)), (6, some (.ptr ov 0)), (3, some (.map om)), (1, some (.cptr (aigL g)))])
     (fun j => upd (upd (upd σ om (.map d (encK .bool M))) oX (.grow 1 (j + 1))) ov (.cells [.slice ((kIn j).map encKn) (.own oX)])) (fun j => j ≤ N) (fun j => N - j) 0 ?_ ?_
    ·have e0 : (kIn 0).map encKn = [.iface 94 (.bool false)] := rfl
     (repeat' simp (maxDischargeDepth := 9) -implicitDefEqProofs -dsimp only [go_sem, seval, e0, Int.natCast_zero, Nat.zero_add, *]) <;> (first | omega | skip)
    ·intro j hj
     have hkl := kIn_len j
     by_cases hlt : j < N
     ·have hlt' : (j : Int) < N := by omega
      have hkm := kIn_map j
      obtain ⟨L, hL⟩ : ∃ L, (kIn j).map encKn = L := ⟨_, rfl⟩
      have hLl : L.length = j + 1 := by rw [← hL, List.length_map, hkl]
      have hsz : szs 1 L = True := by rw [← hL]; exact szs_kn _
      rw [hL] at hkm ⊢
      clear hkl hL hM hMl hMg hso hsl hcb
      repeat' (first | simp (maxDischargeDepth := 9) -implicitDefEqProofs -dsimp only [go_sem, seval, *] | simp (disch := omega) only [wrap64] | ((with_reducible refine Zv ?_ ?_); focus (first | omega | exact rfl)))
      refine loop_next _ _ _ _ (j + 1) ?_; (repeat' simp (maxDischargeDepth := 9) -implicitDefEqProofs -dsimp only [go_sem, seval, *]) <;> (repeat' refine And.intro ?_ ?_) <;> (first | omega | skip)
     ·have hlt' : ¬ (j : Int) < N := by omega
      have ej : N = j := by omega
      subst ej
      have e0 : kIn N = kFl g so 0 := by
       unfold kIn kFl; rw [hNt]
      rw [e0] at hkl ⊢
      clear hlt hj
      repeat' simp (maxDischargeDepth := 9) -implicitDefEqProofs -dsimp only [go_sem, seval, *]
      refine loop_rule (fun i : Nat => [(45, some (.int .i64 i)), (44, some (.int .i64 g.flops.length)), (6, some (.ptr ov 0)), (3, some (.map om)), (1, some (.cptr (aigL g)))])
       (fun i => upd (upd (upd σ om (.map d (encK .bool M))) oX (.grow 1 (kFl g so i).length)) ov (.cells [.slice ((kFl g so i).map encKn) (.own oX)])) (fun i => i ≤ g.flops.length) (fun i => g.flops.length - i) 0 ?_ ?_
      ·(repeat' simp (maxDischargeDepth := 9) -implicitDefEqProofs -dsimp only [go_sem, seval, Int.natCast_zero, *]) <;> (first | omega | skip)
      ·intro i hi
       have hkl := kFl_len g so i
       by_cases hlt : i < g.flops.length
       ·have hlt' : (i : Int) < g.flops.length := by omega
        have hkm := kFl_map g so i
        have hlk := look_k AV.bool (i : Int) M
        rw [hMg i hlt] at hlk
        have hl1 : (kFl g so (i + 1)).length = (kFl g so i).length + 1 := by rw [kFl_len, kFl_len]; omega
        have hl2 : (kFl g so i).length ≤ 1000 := by omega
        obtain ⟨l, hl⟩ : ∃ l, kFl g so i = l := ⟨_, rfl⟩
        rw [hl] at hkm hl1 hl2 ⊢
        have hsz := szs_kn l
        have hki := key_int i
        clear hkl hl hM hMl hMg hso hsl hcb
        obtain ⟨s, hs⟩ : ∃ s, stl g so i = s := ⟨_, rfl⟩
        rw [hs] at hlk hkm
        cases s with
        | none =>
         simp only [encKn] at hkm
         repeat' (first | simp (maxDischargeDepth := 9) -implicitDefEqProofs -dsimp only [go_sem, seval, Option.map_none, Option.getD_none, Option.isSome_none, *] | simp (disch := omega) only [wrap64] | ((with_reducible refine Zv ?_ ?_); focus (first | omega | exact rfl)))
         refine loop_next _ _ _ _ (i + 1) ?_; (repeat' simp (maxDischargeDepth := 9) -implicitDefEqProofs -dsimp only [go_sem, seval, *]) <;> (repeat' refine And.intro ?_ ?_) <;> (first | omega | skip)
        | some b =>
         simp only [encKn] at hkm
         repeat' (first | simp (maxDischargeDepth := 9) -implicitDefEqProofs -dsimp only [go_sem, seval, Option.map_some, Option.getD_some, Option.isSome_some, *] | simp (disch := omega) only [wrap64] | ((with_reducible refine Zv ?_ ?_); focus (first | omega | exact rfl)))
         refine loop_next _ _ _ _ (i + 1) ?_; (repeat' simp (maxDischargeDepth := 9) -implicitDefEqProofs -dsimp only [go_sem, seval, *]) <;> (repeat' refine And.intro ?_ ?_) <;> (first | omega | skip)
       ·have hlt' : ¬ (i : Int) < g.flops.length := by omega
        have ei : i = g.flops.length := by omega
        subst ei
        have e0 : kFl g so g.flops.length = kAt g so 0 := rfl
        rw [e0] at hkl ⊢
        clear hlt hi
        repeat' simp (maxDischargeDepth := 9) -implicitDefEqProofs -dsimp only [go_sem, seval, *]
        refine loop_rule (fun i : Nat => [(70, some (.int .i64 i)), (69, some (.int .i64 g.ands.length)), (68, some (.slice (g.ands.map encGate) .no)), (10, some (.fn 78 [] [.ptr ov 0])), (6, some (.ptr ov 0)), (3, some (.map om)), (1, some (.cptr (aigL g)))])
         (fun i => upd (upd (upd σ om (.map d (encK .bool M))) oX (.grow 1 (kAt g so i).length)) ov (.cells [.slice ((kAt g so i).map encKn) (.own oX)])) (fun i => i ≤ g.ands.length) (fun i => g.ands.length - i) 0 ?_ ?_
        ·(repeat' simp (maxDischargeDepth := 9) -implicitDefEqProofs -dsimp only [go_sem, seval, Int.natCast_zero, *]) <;> (first | omega | skip)
        ·intro i hi
         have hkl := kAt_len g so i
         rw [hNt] at hkl
         by_cases hlt : i < g.ands.length
         ·have hlt' : (i : Int) < g.ands.length := by omega
          have hkm := kAt_map g so i
          obtain ⟨⟨a1, a2⟩, a3, a4⟩ := gate_bounds hg hlt
          have hgd := ands_getD hlt
          rw [hgd] at hkm
          have hfst : g.first = 1 + N + g.flops.length := by simp only [Aig.first, hN']
          have hl1 : (kAt g so (i + 1)).length = (kAt g so i).length + 1 := by rw [kAt_len, kAt_len]; omega
          have hl2 : (kAt g so i).length ≤ 1000 := by omega
          obtain ⟨l, hl⟩ : ∃ l, kAt g so i = l := ⟨_, rfl⟩
          rw [hl] at hkm hl1 hl2 hkl ⊢
          have hsz := szs_kn l
          have o1 := fun τ hB => rw_of ov l (.own oX) g.ands[i].1 τ hB a1 (by omega) (by omega)
          have o2 := fun τ hB => rw_of ov l (.own oX) g.ands[i].2 τ hB a3 (by omega) (by omega)
          obtain ⟨k1, hk1⟩ : ∃ k, kOf l g.ands[i].1 = k := ⟨_, rfl⟩
          obtain ⟨k2, hk2⟩ : ∃ k, kOf l g.ands[i].2 = k := ⟨_, rfl⟩
          rw [hk1] at o1 hkm
          rw [hk2] at o2 hkm
          have o3 := rw_both k1 k2
          obtain ⟨k3, hk3⟩ : ∃ k, kBoth k1 k2 = k := ⟨_, rfl⟩
          rw [hk3] at o3 hkm
          have c1 := encKn_cells k3
          have c2 := encKn_one k3
          clear hkl hl hM hMl hMg hso hsl hcb hk1 hk2 hk3 a1 a2 a3 a4 hgd hfst
          repeat' (first | simp (maxDischargeDepth := 9) -implicitDefEqProofs -dsimp only [go_sem, seval, *] | simp (disch := omega) only [wrap64] | ((with_reducible refine Zv ?_ ?_); focus (first | omega | exact rfl)) | ((with_reducible refine Zu ?_ ?_); focus omega) | ((with_reducible refine Zt (fun oF hoF hnF hnF' => ?_)); (try simp only [upd_none, ne_eq, not_and] at hoF)) | ((with_reducible apply id_one0); (focus (intro tS hS; ((first | with_reducible refine o1 _ ?_ | with_reducible refine o2 _ ?_ | with_reducible refine o3 _) <;> (first | (simp (maxDischargeDepth := 9) -implicitDefEqProofs -dsimp only [go_sem, seval, *]; done) | omega | ((with_reducible refine Sub.get hS ?_); simp (maxDischargeDepth := 9) -implicitDefEqProofs -dsimp only [go_sem, seval, *]; done))))); (focus (first | trivial | (simp (maxDischargeDepth := 9) -implicitDefEqProofs -dsimp only [go_sem, seval, *]; done)))))
          refine loop_next _ _ _ _ (i + 1) ?_; (repeat' simp (maxDischargeDepth := 9) -implicitDefEqProofs -dsimp only [go_sem, seval, *]) <;> (repeat' refine And.intro ?_ ?_) <;> (first | omega | skip)
         ·have hlt' : ¬ (i : Int) < g.ands.length := by omega
          have ei : i = g.ands.length := by omega
          subst ei
          clear hlt hi
          repeat' simp (maxDischargeDepth := 9) -implicitDefEqProofs -dsimp only [go_sem, seval, *]
          obtain ⟨v, hv⟩ : ∃ v, kAt g so g.ands.length = v := ⟨_, rfl⟩
          rw [hv] at hkl ⊢
          have hstep : qStep g so = qDel g v so g.flops.length := by unfold qStep; rw [hv]
          subst hd
          subst hM
          refine loop_rule (fun i : Nat => [(92, some (.int .i64 i)), (91, some (.int .i64 g.flops.length)), (90, some (.slice (g.flops.map encFlop) .no)), (10, some (.fn 78 [] [.ptr ov 0])), (13, some (.int .i64 (cT so g.flops.length))), (3, some (.map om)), (1, some (.cptr (aigL g)))])
           (fun i => upd (upd (upd σ om (.map (decide (qDel g v so i = qAll g)) (encK .bool (mKat g (qDel g v so i) g.flops.length)))) oX (.grow 1 v.length)) ov (.cells [.slice (v.map encKn) (.own oX)])) (fun i => i ≤ g.flops.length) (fun i => g.flops.length - i) 0 ?_ ?_
          ·have e0 : qDel g v so 0 = so := rfl
           (repeat' simp (maxDischargeDepth := 9) -implicitDefEqProofs -dsimp only [go_sem, seval, Int.natCast_zero, e0, *]) <;> (first | omega | skip)
          ·intro i hi
           have hql := qDel_len g v so i
           rw [hsl] at hql
           by_cases hlt : i < g.flops.length
           ·have hlt' : (i : Int) < g.flops.length := by omega
            have hnx := good_flops hg.good (List.getElem_mem hlt)
            have cf := count_first g
            have hfst : g.first = 1 + N + g.flops.length := by simp only [Aig.first, hN']
            have e1 := nextAt_eq hlt
            have e2 := initAt_eq hlt
            have hqs : qDel g v so (i + 1) = if kOf v (nextAt g i) = some (initAt g i) then qDel g v so i else (qDel g v so i).set i false := rfl
            rw [e1, e2] at hqs
            have hdk := dk_mKat g (qDel g v so i) i g.flops.length
            have hda := qDel_all (g := g) (v := v) (so := qDel g v so i) (i := i) (by omega) hql
            have hdel := del_k AV.bool (i : Int) (mKat g (qDel g v so i) g.flops.length)
            rw [hdk] at hdel
            obtain ⟨f, hf⟩ : ∃ f, g.flops[i] = f := ⟨_, rfl⟩
            rw [hf] at hnx hqs
            have o1 := fun τ hB => rw_of ov v (.own oX) f.next τ hB hnx.1 (by omega) (by omega)
            obtain ⟨k, hk⟩ : ∃ k, kOf v f.next = k := ⟨_, rfl⟩
            rw [hk] at o1 hqs
            obtain ⟨q, hq⟩ : ∃ q, qDel g v so i = q := ⟨_, rfl⟩
            rw [hq] at hqs hdel hda hql ⊢
            have hki := key_int i
            clear hkl hso hsl hcb hk hq e1 e2 hnx cf hfst hstep hdk hMl hMg hv
            have hdel2 : ∀ b, kOf_d k f.init = b → b = false → qDel g v so (i + 1) = q.set i false := fun b h1 h2 => by
             rw [hqs, if_neg]
             intro e
             rw [e] at h1
             rw [h2] at h1
             simp [kOf_d] at h1
            have hkeep : kOf_d k f.init = true → qDel g v so (i + 1) = q := fun h1 => by
             rw [hqs, if_pos]
             simpa [kOf_d] using h1
            have hi1 : IntKind.i64.wrap ((i : Int) + 1) = ((i + 1 : Nat) : Int) := wrapN i (by omega)
            clear hqs
            rcases k with _ | b
            ·have hS := hdel2 _ rfl rfl
             simp only [encKn] at o1
             clear hdel2 hkeep
             repeat' (first | simp (maxDischargeDepth := 9) -implicitDefEqProofs -dsimp only [go_sem, seval, Nat.reduceEqDiff, *] | ((with_reducible refine Zu ?_ ?_); focus omega) | ((with_reducible refine Zt (fun oF hoF hnF hnF' => ?_)); (try simp only [upd_none, ne_eq, not_and] at hoF)) | ((with_reducible apply id_one0); (focus (intro tS hS; ((with_reducible refine o1 _ ?_) <;> (first | (simp (maxDischargeDepth := 9) -implicitDefEqProofs -dsimp only [go_sem, seval, *]; done) | omega | ((with_reducible refine Sub.get hS ?_); simp (maxDischargeDepth := 9) -implicitDefEqProofs -dsimp only [go_sem, seval, *]; done))))); (focus (first | trivial | (simp (maxDischargeDepth := 9) -implicitDefEqProofs -dsimp only [go_sem, seval, *]; done)))))
             refine loop_next _ _ _ _ (i + 1) ?_; (repeat' simp (maxDischargeDepth := 9) -implicitDefEqProofs -dsimp only [go_sem, seval, *]) <;> (repeat' refine And.intro ?_ ?_) <;> (first | omega | skip)
            ·by_cases hb : b = f.init
             ·have hS := hkeep (by simp [kOf_d, hb])
              have hb2 : (b == f.init) = true := by simp [hb]
              simp only [encKn] at o1
              clear hdel2 hkeep hb hdel hda
              repeat' (first | simp (maxDischargeDepth := 9) -implicitDefEqProofs -dsimp only [go_sem, seval, Nat.reduceEqDiff, *] | ((with_reducible refine Zu ?_ ?_); focus omega) | ((with_reducible refine Zt (fun oF hoF hnF hnF' => ?_)); (try simp only [upd_none, ne_eq, not_and] at hoF)) | ((with_reducible apply id_one0); (focus (intro tS hS; ((with_reducible refine o1 _ ?_) <;> (first | (simp (maxDischargeDepth := 9) -implicitDefEqProofs -dsimp only [go_sem, seval, *]; done) | omega | ((with_reducible refine Sub.get hS ?_); simp (maxDischargeDepth := 9) -implicitDefEqProofs -dsimp only [go_sem, seval, *]; done))))); (focus (first | trivial | (simp (maxDischargeDepth := 9) -implicitDefEqProofs -dsimp only [go_sem, seval, *]; done)))))
              refine loop_next _ _ _ _ (i + 1) ?_; (repeat' simp (maxDischargeDepth := 9) -implicitDefEqProofs -dsimp only [go_sem, seval, *]) <;> (repeat' refine And.intro ?_ ?_) <;> (first | omega | skip)
             ·have hS := hdel2 _ rfl (by simp [kOf_d, hb])
              have hb2 : (b == f.init) = false := by simp [hb]
              simp only [encKn] at o1
              clear hdel2 hkeep hb
              repeat' (first | simp (maxDischargeDepth := 9) -implicitDefEqProofs -dsimp only [go_sem, seval, Nat.reduceEqDiff, *] | ((with_reducible refine Zu ?_ ?_); focus omega) | ((with_reducible refine Zt (fun oF hoF hnF hnF' => ?_)); (try simp only [upd_none, ne_eq, not_and] at hoF)) | ((with_reducible apply id_one0); (focus (intro tS hS; ((with_reducible refine o1 _ ?_) <;> (first | (simp (maxDischargeDepth := 9) -implicitDefEqProofs -dsimp only [go_sem, seval, *]; done) | omega | ((with_reducible refine Sub.get hS ?_); simp (maxDischargeDepth := 9) -implicitDefEqProofs -dsimp only [go_sem, seval, *]; done))))); (focus (first | trivial | (simp (maxDischargeDepth := 9) -implicitDefEqProofs -dsimp only [go_sem, seval, *]; done)))))
              refine loop_next _ _ _ _ (i + 1) ?_; (repeat' simp (maxDischargeDepth := 9) -implicitDefEqProofs -dsimp only [go_sem, seval, *]) <;> (repeat' refine And.intro ?_ ?_) <;> (first | omega | skip)
           ·have hlt' : ¬ (i : Int) < g.flops.length := by omega
            have ei : i = g.flops.length := by omega
            subst ei
            rw [← hstep] at hql ⊢
            obtain ⟨k, hk, hks⟩ := hso
            have hlen : (encK AV.bool (mKat g (qStep g so) g.flops.length)).length = cT (qStep g so) g.flops.length := by rw [encK_len, mKat_len]
            rcases qStep_cases hsl with ⟨he, hc⟩ | ⟨hne, hc⟩
            ·have hq : so = quietG g := by rw [hk]; exact quiet_end (by omega) (by rw [← hk]; exact he)
             have hb : (((cT (qStep g so) g.flops.length : Nat) : Int) == ((cT so g.flops.length : Nat) : Int)) = true := by simp [hc]
             rw [← hq]
             rw [he] at hlen hb ⊢
             clear hk hks hq hMl hMg hv hstep hc he hkl
             repeat' simp (maxDischargeDepth := 9) -implicitDefEqProofs -dsimp only [go_sem, seval, *]
             refine fin_new om hσm ?_
             (repeat' simp (maxDischargeDepth := 9) -implicitDefEqProofs -dsimp only [go_sem, seval, *])
            ·have hb : (((cT (qStep g so) g.flops.length : Nat) : Int) == ((cT so g.flops.length : Nat) : Int)) = false := by
              simp only [beq_eq_false_iff_ne, ne_eq]; omega
             have hso2 : qStep g so = qIt g (k + 1) := by rw [hk]; rfl
             have hsl2 : (qStep g so).length = g.flops.length := by rw [qStep_len]; exact hsl
             have hks2 : k + 1 + cT (qStep g so) g.flops.length ≤ g.flops.length := by omega
             obtain ⟨q, hq⟩ : ∃ q, qStep g so = q := ⟨_, rfl⟩
             rw [hq] at hlen hb hso2 hsl2 hks2 hc ⊢
             have hinv : Hd (q.length = g.flops.length ∧ ∃ k, q = qIt g k ∧ k + cT q g.flops.length ≤ g.flops.length) := ⟨⟨hsl2, k + 1, hso2, hks2⟩⟩
             clear hk hks hq hMl hMg hv hstep hne hkl hql hso2 hsl2 hks2
             repeat' simp (maxDischargeDepth := 9) -implicitDefEqProofs -dsimp only [go_sem, seval, *]
             refine loop_next _ _ _ _ q ⟨?_, ?_, hinv.out, hc⟩
             ·(repeat' simp (maxDischargeDepth := 9) -implicitDefEqProofs -dsimp only [go_sem, seval, *])
             ·(repeat' simp (maxDischargeDepth := 9) -implicitDefEqProofs -dsimp only [go_sem, seval, *])
end Go.Proofs.Ytapnlmhfacoceaa

namespace Go.Proofs.Ytapnlmhfacoceaa
open Abs Fil Fil.Rw
set_option maxHeartbeats 4000000 in
theorem rw_Still (g : Aig) (σ : Sig) (hg : Sml g) : ACalls Try.prog 22 [encAig g] σ (fun r σ' => r = .ret (.tup [encAig (still g), .int .i64 0]) ∧ σ' = σ) := by
 refine calls_x mixed Try.func22 b22 n22 rfl q22 (by simp) ?_; unfold c22 r22
 have ez : ((0 : Int) != 0) = false := by decide
 have hck := fun τ => A.aig_Check g τ hg.wf
 rw [hg.chk] at hck
 repeat' (first | simp (maxDischargeDepth := 9) -implicitDefEqProofs -dsimp only [go_sem, seval, *] | ((with_reducible refine Zt (fun oF hoF hnF hnF' => ?_)); (try simp only [upd_none, ne_eq, not_and] at hoF)) | ((with_reducible apply ACalls.one1); (focus ((with_reducible refine hck _) <;> (first | (simp (maxDischargeDepth := 9) -implicitDefEqProofs -dsimp only [go_sem, seval, *]; done) | omega))); (focus (first | trivial | with_reducible exact rfl | (simp (maxDischargeDepth := 9) -implicitDefEqProofs -dsimp only [go_sem, seval]; done)))))
 refine id_new ren_map (fun τ _ => rw_quiet g τ hg) ?_
 intro oQ hoQ hnQ hnQ'
 simp only [upd_none, ne_eq, not_and] at hoQ
 have hQ2 : ¬ oF = oQ := fun e => hoQ.1 e.symm
 have hh := fun τ (h : τ oQ = some (.map (decide (quietG g = qAll g)) (encK .bool (mKat g (quietG g) g.flops.length)))) => rw_hashed g (stl g (quietG g)) (.map oQ) τ (.inr ⟨oQ, _, _, rfl, h, fun i hi => by rw [look_k, gk_mKat, if_pos hi]⟩) hg
 have e0 : Rw.hashed g (stl g (quietG g)) = still g := rfl
 rw [e0] at hh
 repeat' (first | simp (maxDischargeDepth := 9) -implicitDefEqProofs -dsimp only [go_sem, seval, *] | ((with_reducible apply id_one0); (focus (intro tS hS; ((with_reducible refine hh _ ?_) <;> (first | (simp (maxDischargeDepth := 9) -implicitDefEqProofs -dsimp only [go_sem, seval, *]; done) | omega | ((with_reducible refine Sub.get hS ?_); simp (maxDischargeDepth := 9) -implicitDefEqProofs -dsimp only [go_sem, seval, *]; done))))); (focus (first | trivial | (simp (maxDischargeDepth := 9) -implicitDefEqProofs -dsimp only [go_sem, seval, *]; done)))))
 refine fin_eq ?_
 (repeat' simp (maxDischargeDepth := 9) -implicitDefEqProofs -dsimp only [go_sem, seval, *])
theorem rw_Still_err (g : Aig) (e : Int) (σ : Sig) (hs : Wf g) (he : g.check = e) (h0 : e ≠ 0) : ACalls Try.prog 22 [encAig g] σ (fun r σ' => r = .ret (.tup [encAig ⟨0, [], [], []⟩, .int .i64 e]) ∧ σ' = σ) := by
 refine calls_x mixed Try.func22 b22 n22 rfl q22 (by simp) ?_; unfold c22 r22
 have hb : (e != 0) = true := by simpa using h0
 have hck := fun τ => A.aig_Check g τ hs
 rw [he] at hck
 repeat' (first | simp (maxDischargeDepth := 9) -implicitDefEqProofs -dsimp only [go_sem, seval, *] | ((with_reducible refine Zt (fun oF hoF hnF hnF' => ?_)); (try simp only [upd_none, ne_eq, not_and] at hoF)) | ((with_reducible apply ACalls.one1); (focus ((with_reducible refine hck _) <;> (first | (simp (maxDischargeDepth := 9) -implicitDefEqProofs -dsimp only [go_sem, seval, *]; done) | omega))); (focus (first | trivial | with_reducible exact rfl | (simp (maxDischargeDepth := 9) -implicitDefEqProofs -dsimp only [go_sem, seval]; done)))))
 refine fin_eq ?_
 (repeat' simp (maxDischargeDepth := 9) -implicitDefEqProofs -dsimp only [go_sem, seval, List.map_nil, *])
end Go.Proofs.Ytapnlmhfacoceaa

