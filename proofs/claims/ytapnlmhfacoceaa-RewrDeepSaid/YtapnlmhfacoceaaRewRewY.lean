/- rewr: RewrDeep. -/
import Derived.Test.YtapnlmhfacoceaaRewRewO
set_option linter.unusedSimpArgs false
set_option linter.unusedVariables false
namespace Go.Proofs.Ytapnlmhfacoceaa
open Abs Fil Fil.Rw
theorem ops_mem' {g : Aig} {i : Nat} (h : i < g.ands.length) : g.ands[i].1 ∈ opsG g ∧ g.ands[i].2 ∈ opsG g := by
  unfold opsG
  exact ⟨List.mem_flatMap.2 ⟨_, List.getElem_mem h, by simp⟩, List.mem_flatMap.2 ⟨_, List.getElem_mem h, by simp⟩⟩
theorem mark_one {v : List Bool} {l : List Int} {n : Nat} (hn : n < v.length) (h : ∃ a ∈ l, (a / 2).toNat = n) : (Rw.mark v l).getD n false = true := (mark_get n l v).2 (.inr ⟨hn, h⟩)
set_option maxHeartbeats 8000000 in
theorem law_named (g : Aig) (σ : Sig) (hg : Sml g) (hn : ∀ j, j < g.ands.length → Nmd g (g.first + j)) : ACalls Try.prog 28 [encAig g] σ (fun r σ' => r = .ret (.bool true) ∧ σ' = σ) := by
  refine calls_x mixed Try.func28 b28 n28 rfl q28 (by simp) ?_; unfold c28 r28
  have hlo := hg.lo
  have h1 := hg.ins
  have h2 := hg.flops
  have h3 := hg.ands
  have h4 := hg.outs
  have ez : ((0 : Int) != 0) = false := by decide
  have hsm : Small g := check_small hg.wf hg.chk
  have hk := fun τ => A.ref_Check g τ hg.wf
  rw [hg.chk] at hk
  have hc := fun τ => A.ref_Count g τ hsm
  obtain ⟨N, hN⟩ : ∃ N, (1 + g.count).toNat = N := ⟨_, rfl⟩
  have hcnt : g.count = g.ins + g.flops.length + g.ands.length := rfl
  have hN' : 1 + g.count = (N : Int) := by omega
  have hN1 : N ≤ 400 := by omega
  rw [hN'] at hc
  repeat' (first | simp (maxDischargeDepth := 9) -implicitDefEqProofs -dsimp only [go_sem, seval, *] | simp (disch := omega) only [wrap64, tdiv2] | ((with_reducible refine Zv ?_ ?_); focus (first | omega | exact rfl)) | ((with_reducible refine Zu ?_ ?_); focus omega) | ((with_reducible refine Zt (fun oF hoF hnF hnF' => ?_)); clear hnF hnF'; (try simp only [Zw, ne_eq] at hoF)) | ((with_reducible apply ACalls.one1); (focus ((first | with_reducible refine hk _ | with_reducible refine hc _) <;> (first | (simp (maxDischargeDepth := 9) -implicitDefEqProofs -dsimp only [go_sem, seval, *]; done) | omega))); (focus (first | trivial | with_reducible exact rfl | (simp (maxDischargeDepth := 9) -implicitDefEqProofs -dsimp only [go_sem, seval]; done)))))
  obtain ⟨o, eo⟩ : ∃ x, x = oF := ⟨oF, rfl⟩
  subst eo
  have ho : σ o = none := hoF
  clear hoF hc hk
  obtain ⟨v0, hv0⟩ : ∃ v, List.replicate N false = v := ⟨_, rfl⟩
  have hv0l : v0.length = N := by rw [← hv0]; simp
  have hrep : (List.replicate N [AV.bool false]).flatten = v0.map encBool := by rw [rep_bool, hv0]
  have hrl := fun a (ha : a ∈ rts g) => root_lit hg ha
  refine loop_rule (fun i : Nat => [(4, some (.int .i64 i)), (1, some (.cptr (aigL g))), (3, some (.vec o N))])
    (fun i => upd σ o (.vec 1 N ((Rw.mark v0 ((opsG g).take (2 * i))).map encBool))) (fun i => i ≤ g.ands.length) (fun i => g.ands.length - i) 0 ?_ ?_
  · have e0 : Rw.mark v0 ((opsG g).take 0) = v0 := rfl
    have e1 : Rw.mark v0 [] = v0 := rfl
    (repeat' (first | simp (maxDischargeDepth := 9) -implicitDefEqProofs -dsimp only [go_sem, seval, e0, e1, Int.natCast_zero, Nat.mul_zero, *] | simp (disch := omega) only [wrap64, tdiv2])) <;> (repeat' refine And.intro ?_ ?_) <;> (first | omega | rfl | assumption | skip)
  · intro i hi
    have hml : (Rw.mark v0 ((opsG g).take (2 * i))).length = N := by rw [mark_len, hv0l]
    by_cases hlt : i < g.ands.length
    · have hlt' : (i : Int) < g.ands.length := by omega
      obtain ⟨t1, t2⟩ := ops_take g hlt
      have hms := mark_snoc v0 ((opsG g).take (2 * i)) g.ands[i].1
      have hms2 := mark_snoc v0 ((opsG g).take (2 * i) ++ [g.ands[i].1]) g.ands[i].2
      rw [hms] at hms2
      rw [← t1, ← t2] at hms2
      obtain ⟨⟨a1, a2⟩, a3, a4⟩ := gate_bounds hg hlt
      have hfst : g.first = 1 + g.ins + g.flops.length := rfl
      obtain ⟨x0, hx0⟩ : ∃ x, g.ands[i].1 = x := ⟨_, rfl⟩
      obtain ⟨x1, hx1⟩ : ∃ x, g.ands[i].2 = x := ⟨_, rfl⟩
      rw [hx0, hx1] at hms2
      rw [hx0] at a1 a2
      rw [hx1] at a3 a4
      obtain ⟨l, hl⟩ : ∃ l, Rw.mark v0 ((opsG g).take (2 * i)) = l := ⟨_, rfl⟩
      rw [hl] at hms2 hml ⊢
      have hp := put_bool l (x0 / 2).toNat true (by omega)
      have hp2 := put_bool (l.set (x0 / 2).toNat true) (x1 / 2).toNat true (by rw [List.length_set]; omega)
      have hpl : (List.take ((x0 / 2).toNat * 1) (l.map encBool)).length + 1 + (List.drop ((x0 / 2).toNat * 1 + 1) (l.map encBool)).length = N := by
        simp only [List.length_take, List.length_drop, List.length_map]; omega
      have b2 : x0 / 2 < N := by omega
      have b3 : x1 / 2 < N := by omega
      have b5 : x0 ≤ 1000000 := by omega
      have b6 : x1 ≤ 1000000 := by omega
      have e2 : 2 * (i + 1) = 2 * i + 2 := by omega
      rw [← e2] at hms2
      clear hrl hl hN hN' hcnt hv0 hrep hv0l hfst a2 a4 hms t1 t2 hn e2
      repeat' (first | simp (maxDischargeDepth := 9) -implicitDefEqProofs -dsimp only [go_sem, seval, *] | simp (disch := omega) only [wrap64, tdiv2] | ((with_reducible refine Zv ?_ ?_); focus (first | omega | exact rfl)) | ((with_reducible refine Zu ?_ ?_); focus omega) | ((with_reducible refine Zt (fun oF hoF hnF hnF' => ?_)); clear hnF hnF'; (try simp only [Zw, ne_eq] at hoF)))
      refine loop_next _ _ _ _ (i + 1) ?_; (repeat' (first | simp (maxDischargeDepth := 9) -implicitDefEqProofs -dsimp only [go_sem, seval, *] | simp (disch := omega) only [wrap64, tdiv2])) <;> (repeat' refine And.intro ?_ ?_) <;> (first | omega | rfl | assumption | skip)
    · have hlt' : ¬ (i : Int) < g.ands.length := by omega
      have ei : i = g.ands.length := by omega
      subst ei
      have e0 : (opsG g).take (2 * g.ands.length) = opsG g := List.take_of_length_le (by rw [opsG_len]; exact Nat.le_refl _)
      rw [e0] at hml ⊢
      obtain ⟨v1, hv1⟩ : ∃ v, Rw.mark v0 (opsG g) = v := ⟨_, rfl⟩
      rw [hv1] at hml ⊢
      clear hlt hi e0
      repeat' (first | simp (maxDischargeDepth := 9) -implicitDefEqProofs -dsimp only [go_sem, seval, *] | simp (disch := omega) only [wrap64, tdiv2] | ((with_reducible refine Zv ?_ ?_); focus (first | omega | exact rfl)) | ((with_reducible refine Zu ?_ ?_); focus omega) | ((with_reducible refine Zt (fun oF hoF hnF hnF' => ?_)); clear hnF hnF'; (try simp only [Zw, ne_eq] at hoF)))
      refine loop_rule (fun i : Nat => [(5, some (.int .i64 i)), (1, some (.cptr (aigL g))), (3, some (.vec o N))])
        (fun i => upd σ o (.vec 1 N ((Rw.mark v1 (g.outs.take i)).map encBool))) (fun i => i ≤ g.outs.length) (fun i => g.outs.length - i) 0 ?_ ?_
      · have e0 : Rw.mark v1 [] = v1 := rfl
        (repeat' (first | simp (maxDischargeDepth := 9) -implicitDefEqProofs -dsimp only [go_sem, seval, e0, Int.natCast_zero, *] | simp (disch := omega) only [wrap64, tdiv2])) <;> (repeat' refine And.intro ?_ ?_) <;> (first | omega | rfl | assumption | skip)
      · intro i hi
        have hml2 : (Rw.mark v1 (g.outs.take i)).length = N := by rw [mark_len, hml]
        by_cases hlt : i < g.outs.length
        · have hlt' : (i : Int) < g.outs.length := by omega
          have hms := mark_snoc v1 (g.outs.take i) g.outs[i]
          rw [← take_snoc hlt] at hms
          have hb := hrl g.outs[i] (by unfold rts; exact List.mem_append_left _ (List.getElem_mem hlt))
          obtain ⟨a, ha⟩ : ∃ a, g.outs[i] = a := ⟨_, rfl⟩
          rw [ha] at hms hb
          obtain ⟨l, hl⟩ : ∃ l, Rw.mark v1 (g.outs.take i) = l := ⟨_, rfl⟩
          rw [hl] at hms hml2 ⊢
          have hp := put_bool l (a / 2).toNat true (by omega)
          have hb1 := hb.1
          have hb2 : a / 2 < N := by omega
          have hb3 : a ≤ 1000000 := by omega
          clear hrl hl hb hN hN' hcnt hv0 hrep hv0l hn hml hv1
          repeat' (first | simp (maxDischargeDepth := 9) -implicitDefEqProofs -dsimp only [go_sem, seval, *] | simp (disch := omega) only [wrap64, tdiv2] | ((with_reducible refine Zv ?_ ?_); focus (first | omega | exact rfl)) | ((with_reducible refine Zu ?_ ?_); focus omega) | ((with_reducible refine Zt (fun oF hoF hnF hnF' => ?_)); clear hnF hnF'; (try simp only [Zw, ne_eq] at hoF)))
          refine loop_next _ _ _ _ (i + 1) ?_; (repeat' (first | simp (maxDischargeDepth := 9) -implicitDefEqProofs -dsimp only [go_sem, seval, *] | simp (disch := omega) only [wrap64, tdiv2])) <;> (repeat' refine And.intro ?_ ?_) <;> (first | omega | rfl | assumption | skip)
        · have hlt' : ¬ (i : Int) < g.outs.length := by omega
          have ei : i = g.outs.length := by omega
          subst ei
          have e0 : g.outs.take g.outs.length = g.outs := List.take_length
          rw [e0] at hml2 ⊢
          obtain ⟨v2, hv2⟩ : ∃ v, Rw.mark v1 g.outs = v := ⟨_, rfl⟩
          rw [hv2] at hml2 ⊢
          clear hlt hi e0
          repeat' (first | simp (maxDischargeDepth := 9) -implicitDefEqProofs -dsimp only [go_sem, seval, *] | simp (disch := omega) only [wrap64, tdiv2] | ((with_reducible refine Zv ?_ ?_); focus (first | omega | exact rfl)) | ((with_reducible refine Zu ?_ ?_); focus omega) | ((with_reducible refine Zt (fun oF hoF hnF hnF' => ?_)); clear hnF hnF'; (try simp only [Zw, ne_eq] at hoF)))
          refine loop_rule (fun i : Nat => [(6, some (.int .i64 i)), (1, some (.cptr (aigL g))), (3, some (.vec o N))])
            (fun i => upd σ o (.vec 1 N ((Rw.mark v2 ((g.flops.map (·.next)).take i)).map encBool))) (fun i => i ≤ g.flops.length) (fun i => g.flops.length - i) 0 ?_ ?_
          · have e0 : Rw.mark v2 [] = v2 := rfl
            (repeat' (first | simp (maxDischargeDepth := 9) -implicitDefEqProofs -dsimp only [go_sem, seval, e0, Int.natCast_zero, *] | simp (disch := omega) only [wrap64, tdiv2])) <;> (repeat' refine And.intro ?_ ?_) <;> (first | omega | rfl | assumption | skip)
          · intro i hi
            have hml3 : (Rw.mark v2 ((g.flops.map (·.next)).take i)).length = N := by rw [mark_len, hml2]
            by_cases hlt : i < g.flops.length
            · have hlt' : (i : Int) < g.flops.length := by omega
              have hms := mark_snoc v2 ((g.flops.map (·.next)).take i) g.flops[i].next
              have hsn := take_snoc (l := g.flops.map (·.next)) (i := i) (by simpa using hlt)
              rw [List.getElem_map] at hsn
              rw [← hsn] at hms
              have hb := hrl g.flops[i].next (by unfold rts; exact List.mem_append_right _ (List.mem_map_of_mem (List.getElem_mem hlt)))
              obtain ⟨f, hf'⟩ : ∃ f, g.flops[i] = f := ⟨_, rfl⟩
              rw [hf'] at hms hb
              obtain ⟨a, ha⟩ : ∃ a, f.next = a := ⟨_, rfl⟩
              rw [ha] at hms hb
              obtain ⟨l, hl⟩ : ∃ l, Rw.mark v2 ((g.flops.map (·.next)).take i) = l := ⟨_, rfl⟩
              rw [hl] at hms hml3 ⊢
              have hp := put_bool l (a / 2).toNat true (by omega)
              have hb1 := hb.1
              have hb2 : a / 2 < N := by omega
              have hb3 : a ≤ 1000000 := by omega
              clear hrl hl hb hN hN' hcnt hv0 hrep hv0l hsn hn hml hml2 hv1 hv2
              repeat' (first | simp (maxDischargeDepth := 9) -implicitDefEqProofs -dsimp only [go_sem, seval, *] | simp (disch := omega) only [wrap64, tdiv2] | ((with_reducible refine Zv ?_ ?_); focus (first | omega | exact rfl)) | ((with_reducible refine Zu ?_ ?_); focus omega) | ((with_reducible refine Zt (fun oF hoF hnF hnF' => ?_)); clear hnF hnF'; (try simp only [Zw, ne_eq] at hoF)))
              refine loop_next _ _ _ _ (i + 1) ?_; (repeat' (first | simp (maxDischargeDepth := 9) -implicitDefEqProofs -dsimp only [go_sem, seval, *] | simp (disch := omega) only [wrap64, tdiv2])) <;> (repeat' refine And.intro ?_ ?_) <;> (first | omega | rfl | assumption | skip)
            · have hlt' : ¬ (i : Int) < g.flops.length := by omega
              have ei : i = g.flops.length := by omega
              subst ei
              have e1 : (g.flops.map (·.next)).take g.flops.length = g.flops.map (·.next) := List.take_of_length_le (by simp)
              rw [e1] at hml3 ⊢
              obtain ⟨v3, hv3⟩ : ∃ v, Rw.mark v2 (g.flops.map (·.next)) = v := ⟨_, rfl⟩
              rw [hv3] at hml3 ⊢
              have hfst : g.first = 1 + g.ins + g.flops.length := rfl
              obtain ⟨f, hfN⟩ : ∃ f, g.first.toNat = f := ⟨_, rfl⟩
              have hff : g.first = (f : Int) := by omega
              have hft : 1 + g.ins + (g.flops.length : Int) = (f : Int) := by omega
              have hall : ∀ n, f ≤ n → n < N → v3.getD n false = true := fun n q1 q2 => by
                have hj := hn (n - f) (by omega)
                rw [hff, show (f : Int) + ((n - f : Nat) : Int) = (n : Int) by omega] at hj
                rw [← hv3, ← hv2, ← hv1]
                rcases hj with ⟨a, ha, e⟩ | ⟨k, hk, e⟩
                · unfold rts at ha
                  rcases List.mem_append.1 ha with q | q
                  · refine (mark_get _ _ _).2 (.inl (mark_one (by rw [mark_len, hv0l]; exact q2) ⟨a, q, by omega⟩))
                  · exact mark_one (by rw [mark_len, mark_len, hv0l]; exact q2) ⟨a, q, by omega⟩
                · have hom := ops_mem' hk
                  refine (mark_get _ _ _).2 (.inl ((mark_get _ _ _).2 (.inl ?_)))
                  rcases e with e | e
                  · exact mark_one (by rw [hv0l]; exact q2) ⟨_, hom.1, by omega⟩
                  · exact mark_one (by rw [hv0l]; exact q2) ⟨_, hom.2, by omega⟩
              have hf1 : f ≤ N := by omega
              have hf2 : (g.flops.length : Int) ≤ 60 := by omega
              have hi1 : g.ins ≤ 60 := h1
              clear hlt hi e1 hv1 hv2 hv3 hn hrl hcnt hN hN' hv0 hrep hv0l hml hml2 hff hfN hfst
              repeat' (first | simp (maxDischargeDepth := 9) -implicitDefEqProofs -dsimp only [go_sem, seval, *] | simp (disch := omega) only [wrap64, tdiv2] | ((with_reducible refine Zv ?_ ?_); focus (first | omega | exact rfl)) | ((with_reducible refine Zu ?_ ?_); focus omega) | ((with_reducible refine Zt (fun oF hoF hnF hnF' => ?_)); clear hnF hnF'; (try simp only [Zw, ne_eq] at hoF)))
              refine loop_rule (fun n : Nat => [(7, some (.int .i64 n)), (3, some (.vec o N))])
                (fun n => upd σ o (.vec 1 N (v3.map encBool))) (fun n => f ≤ n ∧ n ≤ N) (fun n => N - n) f ?_ ?_
              · (repeat' (first | simp (maxDischargeDepth := 9) -implicitDefEqProofs -dsimp only [go_sem, seval, *] | simp (disch := omega) only [wrap64, tdiv2])) <;> (repeat' refine And.intro ?_ ?_) <;> (first | omega | rfl | assumption | skip)
              · rintro n ⟨hn1, hn2⟩
                by_cases hlt : n < N
                · have hlt' : (n : Int) < N := by omega
                  have hb := hall n hn1 hlt
                  have hd := head_bool (l := v3) (i := n) (by omega)
                  rw [hb] at hd
                  clear hall hb
                  repeat' (first | simp (maxDischargeDepth := 9) -implicitDefEqProofs -dsimp only [go_sem, seval, *] | simp (disch := omega) only [wrap64, tdiv2] | ((with_reducible refine Zv ?_ ?_); focus (first | omega | exact rfl)) | ((with_reducible refine Zu ?_ ?_); focus omega) | ((with_reducible refine Zt (fun oF hoF hnF hnF' => ?_)); clear hnF hnF'; (try simp only [Zw, ne_eq] at hoF)))
                  refine loop_next _ _ _ _ (n + 1) ?_; (repeat' (first | simp (maxDischargeDepth := 9) -implicitDefEqProofs -dsimp only [go_sem, seval, *] | simp (disch := omega) only [wrap64, tdiv2])) <;> (repeat' refine And.intro ?_ ?_) <;> (first | omega | rfl | assumption | skip)
                · have hlt' : ¬ (n : Int) < N := by omega
                  clear hall
                  repeat' (first | simp (maxDischargeDepth := 9) -implicitDefEqProofs -dsimp only [go_sem, seval, *] | simp (disch := omega) only [wrap64, tdiv2] | ((with_reducible refine Zv ?_ ?_); focus (first | omega | exact rfl)) | ((with_reducible refine Zu ?_ ?_); focus omega) | ((with_reducible refine Zt (fun oF hoF hnF hnF' => ?_)); clear hnF hnF'; (try simp only [Zw, ne_eq] at hoF)))
                  refine fin_eq ?_
                  (repeat' (first | simp (maxDischargeDepth := 9) -implicitDefEqProofs -dsimp only [go_sem, seval, *] | simp (disch := omega) only [wrap64, tdiv2])) <;> (repeat' refine And.intro ?_ ?_) <;> (first | omega | rfl | assumption | skip)
set_option maxRecDepth 20000 in
set_option maxHeartbeats 8000000 in
theorem rewrNeeded_ok (g : Aig) (σ : Sig) (hw : Wide g) : ACalls Try.prog 8 [encAig g] σ (fun r σ' => r = .ret (.bool true) ∧ σ' = σ) := by
  refine calls_x mixed Try.func8 b8 n8 rfl q8 (by simp) ?_; unfold c8 r8
  have hf := law_few g
  have ez : ((0 : Int) != 0) = false := by decide
  have ee : ((0 : Int) == 0) = true := by decide
  cases hfw : fewR g with
  | false =>
    rw [hfw] at hf
    clear hfw hw
    repeat' (first | simp (maxDischargeDepth := 9) -implicitDefEqProofs -dsimp only [go_sem, seval, *] | ((with_reducible refine Zt (fun oF hoF hnF hnF' => ?_)); clear hnF hnF'; (try simp only [Zw, ne_eq] at hoF)) | ((with_reducible apply ACalls.one1); (focus ((first | with_reducible refine law_live _ | with_reducible refine hf _) <;> (first | (simp (maxDischargeDepth := 9) -implicitDefEqProofs -dsimp only [go_sem, seval, *]; done) | omega))); (focus (first | trivial | with_reducible exact rfl | (simp (maxDischargeDepth := 9) -implicitDefEqProofs -dsimp only [go_sem, seval]; done)))))
    refine fin_eq ?_
    (repeat' (first | simp (maxDischargeDepth := 9) -implicitDefEqProofs -dsimp only [go_sem, seval, *])) <;> (repeat' refine And.intro ?_ ?_) <;> (first | omega | rfl | assumption | skip)
  | true =>
    rw [hfw] at hf
    obtain ⟨wf, hs⟩ := few_sml hw hfw
    have hck := fun τ => A.aig_Check g τ wf
    by_cases hc : g.check = 0
    · have hg := hs hc
      rw [hc] at hck
      have s0 := (bal_less (still_less (hash_less hg fun _ => none).sml).sml).sml
      have c1 := fun τ => rw_Sweep g τ hg
      have c2 := fun τ => rw_Best g τ hg
      have n1 := fun τ => law_named (sweep g) τ (sweep_less hg).sml fun j hj => by rw [sweep_first hg]; exact sweep_named hg hj
      have n2 := fun τ => law_named (best g) τ (best_less hg).sml fun j hj => by
        unfold best at hj ⊢
        rw [sweep_first s0]; exact sweep_named s0 hj
      have b1 : (((sweep g).outs.length : Int) == (g.outs.length : Int)) = true := by rw [(sweep_less hg).outs]; simp
      have b2 : (((best g).outs.length : Int) == (g.outs.length : Int)) = true := by rw [(best_less hg).outs]; simp
      clear hfw hw hs wf hc hg s0
      repeat' (first | simp (maxDischargeDepth := 9) -implicitDefEqProofs -dsimp only [go_sem, seval, *] | ((with_reducible refine Zt (fun oF hoF hnF hnF' => ?_)); clear hnF hnF'; (try simp only [Zw, ne_eq] at hoF)) | ((with_reducible apply ACalls.one1); (focus ((first | with_reducible refine law_live _ | with_reducible refine hf _ | with_reducible refine hck _ | with_reducible refine c1 _ | with_reducible refine c2 _ | with_reducible refine n1 _ | with_reducible refine n2 _) <;> (first | (simp (maxDischargeDepth := 9) -implicitDefEqProofs -dsimp only [go_sem, seval, *]; done) | omega))); (focus (first | trivial | with_reducible exact rfl | (simp (maxDischargeDepth := 9) -implicitDefEqProofs -dsimp only [go_sem, seval]; done)))))
      refine fin_eq ?_
      (repeat' (first | simp (maxDischargeDepth := 9) -implicitDefEqProofs -dsimp only [go_sem, seval, *])) <;> (repeat' refine And.intro ?_ ?_) <;> (first | omega | rfl | assumption | skip)
    · have hb : (g.check != 0) = true := by simpa using hc
      clear hfw hw hs wf
      repeat' (first | simp (maxDischargeDepth := 9) -implicitDefEqProofs -dsimp only [go_sem, seval, *] | ((with_reducible refine Zt (fun oF hoF hnF hnF' => ?_)); clear hnF hnF'; (try simp only [Zw, ne_eq] at hoF)) | ((with_reducible apply ACalls.one1); (focus ((first | with_reducible refine law_live _ | with_reducible refine hf _ | with_reducible refine hck _) <;> (first | (simp (maxDischargeDepth := 9) -implicitDefEqProofs -dsimp only [go_sem, seval, *]; done) | omega))); (focus (first | trivial | with_reducible exact rfl | (simp (maxDischargeDepth := 9) -implicitDefEqProofs -dsimp only [go_sem, seval]; done)))))
      refine fin_eq ?_
      (repeat' (first | simp (maxDischargeDepth := 9) -implicitDefEqProofs -dsimp only [go_sem, seval, *])) <;> (repeat' refine And.intro ?_ ?_) <;> (first | omega | rfl | assumption | skip)
end Go.Proofs.Ytapnlmhfacoceaa

namespace Fil.Rw
open Abs
open Eqv (moveL)

/-! ### Balanced -/
theorem cnt_pos {l : List Int} {a n : Int} (h : a ∈ l) (e : a / 2 = n) : 1 ≤ cntL l n := by
  unfold cntL
  exact List.length_pos_of_mem (List.mem_filter.2 ⟨h, by simpa using e⟩)
theorem last_one {a n : Int} (e : a / 2 = n) (l : List Int) : cntL l n = 1 → a ∈ l → lastP l n = decide (a % 2 = 0) := by
  induction l using snoc_ind with
  | h0 => intro _ h; simp at h
  | h1 l b ih =>
    intro h1 h2
    rw [cntL_snoc] at h1
    rw [lastP_snoc]
    by_cases hb : b / 2 = n
    · rw [if_pos hb] at h1 ⊢
      rcases List.mem_append.1 h2 with q | q
      · have := cnt_pos q e; omega
      · rw [List.mem_singleton.1 q]
    · rw [if_neg hb] at h1 ⊢
      rcases List.mem_append.1 h2 with q | q
      · exact ih (by omega) q
      · rw [List.mem_singleton.1 q] at e; exact absurd e hb
theorem ops_mem {g : Aig} {i : Nat} (h : i < g.ands.length) : g.ands[i].1 ∈ opsG g ∧ g.ands[i].2 ∈ opsG g := by
  unfold opsG
  exact ⟨List.mem_flatMap.2 ⟨_, List.getElem_mem h, by simp⟩, List.mem_flatMap.2 ⟨_, List.getElem_mem h, by simp⟩⟩
theorem lvs_leaf {g : Aig} (hg : Sml g) : ∀ (f : Nat) (a : Int), 0 ≤ a → a < 2 * (1 + g.count) → (a / 2).toNat ≤ f → a ∈ opsG g → ∀ x ∈ lvs g f a, x ∈ opsG g ∧ ¬ (x % 2 = 0 ∧ innM g (x / 2) = true)
  | 0, a, h0, h1, hf, ho, x, hx => by
    simp [lvs] at hx; subst hx
    refine ⟨ho, fun h => ?_⟩
    have := innM_first h.2
    have hlo := hg.lo
    simp only [Aig.first] at this
    omega
  | f + 1, a, h0, h1, hf, ho, x, hx => by
    unfold lvs at hx
    by_cases hc : a % 2 = 0 ∧ innM g (a / 2) = true
    · rw [if_pos hc] at hx
      obtain ⟨m, hm, e1, e2, k1, k2⟩ := inner_kids hg h1 hc.2
      rw [e2] at hx
      have hom := ops_mem hm
      rcases List.mem_append.1 hx with q | q
      · exact lvs_leaf hg f _ k1.1 (by omega) (by omega) hom.1 x q
      · exact lvs_leaf hg f _ k2.1 (by omega) (by omega) hom.2 x q
    · rw [if_neg hc] at hx
      rw [List.mem_singleton.1 hx]
      exact ⟨ho, hc⟩
theorem leaf_not {g : Aig} {x : Int} (h : x ∈ opsG g) (h2 : ¬ (x % 2 = 0 ∧ innM g (x / 2) = true)) : innM g (x / 2) = false := by
  cases hi : innM g (x / 2) with
  | false => rfl
  | true =>
    exfalso
    have hc := (innM_cnt hi).1
    have hl := last_one (a := x) rfl (opsG g) hc h
    have hp : lastP (opsG g) (x / 2) = true := by
      unfold innM at hi
      simp only [Bool.and_eq_true] at hi
      exact hi.2
    rw [hp] at hl
    exact h2 ⟨by simpa using hl.symm, hi⟩
theorem leavesOf_not {g : Aig} (hg : Sml g) {i : Nat} (hi : i < g.ands.length) {x : Int} (hx : x ∈ leavesOf g i) : innM g (x / 2) = false := by
  obtain ⟨⟨a1, a2⟩, a3, a4⟩ := gate_bounds hg hi
  have cf := count_first g
  have hom := ops_mem hi
  unfold leavesOf leavesG at hx
  rw [ands_getD hi] at hx
  rcases List.mem_append.1 hx with q | q
  · have := lvs_leaf hg _ _ a1 (by omega) (by omega) hom.1 x q
    exact leaf_not this.1 this.2
  · have := lvs_leaf hg _ _ a3 (by omega) (by omega) hom.2 x q
    exact leaf_not this.1 this.2
theorem all_erase (f : Int → Bool) : ∀ (l : List Int) (i : Nat), i < l.length → l.all f = (f (l.getD i 0) && (l.eraseIdx i).all f)
  | a :: l, 0, _ => by simp
  | a :: l, i + 1, h => by
    have ih := all_erase f l i (by simpa using h)
    simp only [List.all_cons, List.eraseIdx_cons_succ, List.getD_cons_succ, ih]
    cases f a <;> simp
theorem pair_all (f : Int → Bool) {lev l : List Int} (h2 : 2 ≤ l.length) : l.all f = (f (pairJ lev l).1 && f (pairJ lev l).2 && (restJ lev l).all f) := by
  have q1 := lst_lt (lev := lev) (show 0 < l.length by omega)
  have q2 := erase_len q1
  have q3 := lst_lt (lev := lev) (show 0 < (l.eraseIdx (lst lev l)).length by omega)
  rw [all_erase f l _ q1, all_erase f (l.eraseIdx (lst lev l)) _ q3]
  unfold pairJ restJ
  simp only
  split
  · simp only [← Bool.and_assoc]; congr 1; exact Bool.and_comm _ _
  · simp only [Bool.and_assoc]
theorem JI.val {b : B} {l : List Int} (h : JI b l) {s : List Bool} (hb : ((s.length + 1 : Nat) : Int) = b.g.first) :
    Aig.val (Aig.vals (false :: s) (joinB l.length b l).1.g.ands) (joinB l.length b l).2 = l.all fun a => Aig.val (Aig.vals (false :: s) b.g.ands) a := by
  obtain ⟨n, hn⟩ : ∃ n, l.length = n := ⟨_, rfl⟩
  induction n generalizing b l with
  | zero => have := h.ne; omega
  | succ n ih =>
    by_cases h2 : 2 ≤ l.length
    · obtain ⟨_, k1, k2, k3, k4, k5⟩ := h.step h2
      rw [joinB_step h h2, ih k1 (by rw [k3.first]; exact hb) (by omega), pair_all _ (lev := b.lev) h2]
      obtain ⟨m1, m2⟩ := pairJ_mem (b := b) h2
      have hc := h.cnt
      have hv := andB_val (s := s) h.toBd hb (h.lits _ m1) (h.lits _ m2) (by omega)
      unfold stepJ
      simp only [List.all_append, List.all_cons, List.all_nil, Bool.and_true]
      rw [hv, Bool.and_comm]
      congr 1
      have hx : Ext b.g (andB b (pairJ b.lev l).1 (pairJ b.lev l).2).1.g := k3
      rw [Bool.eq_iff_iff]
      simp only [List.all_eq_true]
      constructor
      · intro q x hx'
        rw [← val_ext h.fine hb hx (h.lits x (mem_erase (mem_erase hx')))]; exact q x hx'
      · intro q x hx'
        rw [val_ext h.fine hb hx (h.lits x (mem_erase (mem_erase hx')))]; exact q x hx'
    · have h1 : l.length = 1 := by have := h.ne; omega
      rw [joinB_one h1]
      obtain ⟨a, rfl⟩ := List.length_eq_one_iff.1 h1
      simp
theorem bal_root {g : Aig} (hg : Sml g) {a : Int} (ha : a ∈ rts g) : innM g ((a / 2).toNat : Nat) = false := by
  have hb := root_lit hg ha
  rw [show (((a / 2).toNat : Nat) : Int) = a / 2 by omega]
  cases hi : innM g (a / 2) with
  | false => rfl
  | true =>
    have := (innM_cnt hi).2
    have := cnt_pos ha (n := a / 2) rfl
    omega
end Fil.Rw

namespace Fil.Rw
open Abs
open Eqv (moveL)
def lvl (lev : List Int) (a : Int) : Nat := (lev.getD (a / 2).toNat 0).toNat
theorem lv_nonneg {g : Aig} (hf : Fine g) (n : Nat) : 0 ≤ g.lv.getD n 0 := by
  rcases Nat.lt_or_ge n g.lv.length with h | h
  · exact (lv_bound hf _ (getD_mem h)).1
  · simp [List.getD_eq_getElem?_getD, List.getElem?_eq_none h]
theorem lv_ext {g h : Aig} (hx : Ext g h) : ∃ m, h.lv = g.lv ++ m := by
  have hfi := hx.first
  obtain ⟨_, _, _, l, e⟩ := hx
  unfold Aig.lv
  rw [hfi, e, levs_append]
  exact levs_prefix _ _
theorem lvl_ext {g h : Aig} (hf : Fine g) (hx : Ext g h) {a : Int} (ha : g.lit a = true) : lvl h.lv a = lvl g.lv a := by
  obtain ⟨m, e⟩ := lv_ext hx
  have := litN_iff.1 ha
  have := lv_length hf
  unfold lvl
  rw [e, getD_app (by omega)]
theorem lvl_gate {g : Aig} (hf : Fine g) {k : Nat} (hk : k < g.ands.length) : (g.lv.getD (g.first + k).toNat 0).toNat = 1 + max (lvl g.lv g.ands[k].1) (lvl g.lv g.ands[k].2) := by
  have hlo := hf.lo
  have hff : 1 ≤ g.first := by unfold Aig.first; omega
  have hl := lv_length hf
  have cf := count_first g
  have hlt : (g.first + (k : Int)).toNat < g.lv.length := by omega
  obtain ⟨h1, h2, e⟩ := lv_gate hf hk (i := (g.first + k).toNat) (by omega) hlt
  have b1 := (lv_bound hf _ (List.getElem_mem h1)).1
  have b2 := (lv_bound hf _ (List.getElem_mem h2)).1
  have g1 : g.lv.getD (g.ands[k].1 / 2).toNat 0 = g.lv[(g.ands[k].1 / 2).toNat] := by simp [List.getD_eq_getElem?_getD, h1]
  have g2 : g.lv.getD (g.ands[k].2 / 2).toNat 0 = g.lv[(g.ands[k].2 / 2).toNat] := by simp [List.getD_eq_getElem?_getD, h2]
  have g3 : g.lv.getD (g.first + (k : Int)).toNat 0 = g.lv[(g.first + (k : Int)).toNat] := by simp [List.getD_eq_getElem?_getD, hlt]
  unfold lvl
  rw [g1, g2, g3, e]
  omega
theorem lvl_zero {g : Aig} (hf : Fine g) {n : Nat} (h : (n : Int) < g.first) : g.lv.getD n 0 = 0 := by
  have hl := lv_length hf
  have cf := count_first g
  have hlt : n < g.lv.length := by omega
  have := lv_zero h hlt
  simp [List.getD_eq_getElem?_getD, hlt, this]
theorem andO_lvl {g h : Aig} {p q x : Int} (hf : Fine g) (hp : g.lit p = true) (hq : g.lit q = true) (ho : g.andO p q = some (h, x)) : lvl h.lv x ≤ 1 + max (lvl g.lv p) (lvl g.lv q) := by
  have hp' := litN_iff.1 hp
  have hq' := litN_iff.1 hq
  have hlo := hf.lo
  have hff : 1 ≤ g.first := by unfold Aig.first; omega
  have hmm : max (lvl g.lv (min p q)) (lvl g.lv (max p q)) = max (lvl g.lv p) (lvl g.lv q) := by
    rcases Int.le_total p q with h | h
    · rw [Int.min_eq_left h, Int.max_eq_right h]
    · rw [Int.min_eq_right h, Int.max_eq_left h, Nat.max_comm]
  rw [← hmm]
  unfold Aig.andO at ho
  simp only at ho
  split at ho
  · simp at ho; obtain ⟨rfl, rfl⟩ := ho
    have : g.lv.getD 0 0 = 0 := lvl_zero hf (by omega)
    have e0 : lvl g.lv 0 = 0 := by
      unfold lvl
      rw [show ((0 : Int) / 2).toNat = 0 from rfl, this]; rfl
    omega
  · split at ho
    · simp at ho; obtain ⟨rfl, rfl⟩ := ho
      have := Nat.le_max_right (lvl g.lv (min p q)) (lvl g.lv (max p q))
      omega
    · split at ho
      · rename_i c
        simp at ho; obtain ⟨rfl, rfl⟩ := ho
        obtain ⟨k, hk⟩ := idxF_get _ _ c
        have e := lvl_gate hf k
        have e4 : (((idxF (fun x : Int × Int => decide (min x.1 x.2 = min p q) && decide (max x.1 x.2 = max p q)) g.ands).toNat : Nat) : Int) = g.find (min p q) (max p q) := by
          have : 0 ≤ g.find (min p q) (max p q) := c
          show (((g.find (min p q) (max p q)).toNat : Nat) : Int) = _
          omega
        rw [e4] at e
        simp only [Bool.and_eq_true, decide_eq_true_eq] at hk
        have hix : (2 * (g.first + g.find (min p q) (max p q)) / 2).toNat = (g.first + g.find (min p q) (max p q)).toNat := by omega
        show (g.lv.getD (2 * (g.first + g.find (min p q) (max p q)) / 2).toNat 0).toNat ≤ _
        rw [hix, e]
        have hgm : ∀ (u v : Int), max (lvl g.lv (min u v)) (lvl g.lv (max u v)) = max (lvl g.lv u) (lvl g.lv v) := fun u v => by
          rcases Int.le_total u v with h | h
          · rw [Int.min_eq_left h, Int.max_eq_right h]
          · rw [Int.min_eq_right h, Int.max_eq_left h, Nat.max_comm]
        rw [← hgm, hk.1, hk.2]
        exact Nat.le_refl _
      · split at ho
        · simp at ho
        · simp at ho; obtain ⟨rfl, rfl⟩ := ho
          have hl := lv_length hf
          have b1 := lv_nonneg hf (min p q / 2).toNat
          have b2 := lv_nonneg hf (max p q / 2).toNat
          show ((Aig.lv { g with ands := g.ands ++ [(min p q, max p q)] }).getD (2 * (g.count + 1) / 2).toNat 0).toNat ≤ _
          rw [lv_push, getD_last (by omega)]
          unfold lvl
          simp only
          omega
theorem andB_lvl {b : B} (hb : Bd b) {x y : Int} (hx : b.g.lit x = true) (hy : b.g.lit y = true) (hn : b.g.count < 65536) : lvl (andB b x y).1.lev (andB b x y).2 ≤ 1 + max (lvl b.lev x) (lvl b.lev y) := by
  obtain ⟨_, k1, _⟩ := andB_ok hb hx hy hn
  obtain ⟨h, z, e1, e2⟩ := and_some hb.chk hx hy hn
  have := andO_lvl hb.fine hx hy e1
  rw [k1.lev, hb.lev]
  unfold andB
  rw [e2]
  exact this

/-! ### What is joined is not deeper than it must be -/
def wS (lev : List Int) (l : List Int) : Nat := (l.map fun a => 2 ^ lvl lev a).sum
theorem sum_erase (f : Int → Nat) : ∀ (l : List Int) (i : Nat), i < l.length → (l.map f).sum = f (l.getD i 0) + ((l.eraseIdx i).map f).sum
  | a :: l, 0, _ => by simp
  | a :: l, i + 1, h => by
    have ih := sum_erase f l i (by simpa using h)
    simp only [List.map_cons, List.sum_cons, List.eraseIdx_cons_succ, List.getD_cons_succ, ih]
    omega
theorem lstAt_min {lev l : List Int} (hn : ∀ n, 0 ≤ lev.getD n 0) : ∀ i, ∀ j, j < i → lvl lev (l.getD (lstAt lev l i) 0) ≤ lvl lev (l.getD j 0)
  | 0, j, hj => by omega
  | i + 1, j, hj => by
    have ih := lstAt_min (l := l) hn i
    have b1 := hn (l.getD i 0 / 2).toNat
    have b2 := hn (l.getD (lstAt lev l i) 0 / 2).toNat
    unfold lstAt
    by_cases h : lev.getD (l.getD i 0 / 2).toNat 0 < lev.getD (l.getD (lstAt lev l i) 0 / 2).toNat 0
    · rw [if_pos h]
      by_cases e : j = i
      · rw [e]; exact Nat.le_refl _
      · have := ih j (by omega)
        unfold lvl at this ⊢
        omega
    · rw [if_neg h]
      by_cases e : j = i
      · rw [e]; unfold lvl; omega
      · exact ih j (by omega)
theorem lst_min {lev l : List Int} (hn : ∀ n, 0 ≤ lev.getD n 0) {a : Int} (ha : a ∈ l) : lvl lev (l.getD (lst lev l) 0) ≤ lvl lev a := by
  obtain ⟨j, hj, rfl⟩ := List.getElem_of_mem ha
  have := lstAt_min (l := l) hn l.length j hj
  have e : l.getD j 0 = l[j] := by simp [List.getD_eq_getElem?_getD, hj]
  rw [e] at this
  exact this
theorem pow_dvd_sum (m : Nat) : ∀ l : List Nat, (∀ e ∈ l, m ≤ e) → 2 ^ m ∣ (l.map (2 ^ ·)).sum
  | [], _ => by simp
  | e :: l, h => by
    simp only [List.map_cons, List.sum_cons]
    exact Nat.dvd_add (Nat.pow_dvd_pow 2 (h e (by simp))) (pow_dvd_sum m l fun x hx => h x (List.mem_cons_of_mem _ hx))
theorem huff {m1 m2 D R : Nat} (h : 2 ^ m1 + 2 ^ m2 + R ≤ 2 ^ D) (hd : 2 ^ m2 ∣ R) : R + 2 ^ (1 + m2) ≤ 2 ^ D := by
  have p1 : 0 < 2 ^ m1 := Nat.pow_pos (by omega)
  have p2 : 0 < 2 ^ m2 := Nat.pow_pos (by omega)
  have hlt : m2 < D := (Nat.pow_lt_pow_iff_right (a := 2) (by omega)).1 (by omega)
  obtain ⟨r, rfl⟩ := hd
  obtain ⟨K, hK⟩ := Nat.pow_dvd_pow 2 (Nat.le_of_lt hlt)
  rw [hK] at h ⊢
  have e : 2 ^ (1 + m2) = 2 ^ m2 * 2 := by rw [Nat.add_comm, Nat.pow_succ]
  rw [e]
  have h1 : 2 ^ m2 * (1 + r) < 2 ^ m2 * K := by rw [Nat.mul_add, Nat.mul_one]; omega
  have h2 : 1 + r < K := Nat.lt_of_mul_lt_mul_left h1
  have h3 : 2 ^ m2 * (r + 2) ≤ 2 ^ m2 * K := Nat.mul_le_mul_left _ (by omega)
  rw [Nat.mul_add] at h3
  exact h3
theorem JI.deep {b : B} {l : List Int} (h : JI b l) {D : Nat} (hD : wS b.lev l ≤ 2 ^ D) : lvl (joinB l.length b l).1.lev (joinB l.length b l).2 ≤ D := by
  obtain ⟨n, hn⟩ : ∃ n, l.length = n := ⟨_, rfl⟩
  induction n generalizing b l with
  | zero => have := h.ne; omega
  | succ n ih =>
    by_cases h2 : 2 ≤ l.length
    · obtain ⟨_, k1, k2, k3, k4, k5⟩ := h.step h2
      rw [joinB_step h h2]
      refine ih k1 ?_ (by omega)
      have hnn : ∀ n, 0 ≤ b.lev.getD n 0 := fun n => by rw [h.toBd.lev]; exact lv_nonneg h.fine n
      have q1 := lst_lt (lev := b.lev) (show 0 < l.length by omega)
      have q2 := erase_len q1
      have q3 := lst_lt (lev := b.lev) (show 0 < (l.eraseIdx (lst b.lev l)).length by omega)
      obtain ⟨m1, m2⟩ := pairJ_mem (b := b) h2
      have hc := h.cnt
      have hz := andB_lvl h.toBd (h.lits _ m1) (h.lits _ m2) (by omega)
      -- the levels of the two
      obtain ⟨x, hx⟩ : ∃ x, l.getD (lst b.lev l) 0 = x := ⟨_, rfl⟩
      obtain ⟨y, hy⟩ : ∃ y, (l.eraseIdx (lst b.lev l)).getD (lst b.lev (l.eraseIdx (lst b.lev l))) 0 = y := ⟨_, rfl⟩
      have hxy : lvl b.lev x ≤ lvl b.lev y := by
        rw [← hx]; exact lst_min hnn (mem_erase (by rw [← hy]; exact getD_mem q3))
      have hmax : max (lvl b.lev (pairJ b.lev l).1) (lvl b.lev (pairJ b.lev l).2) = lvl b.lev y := by
        unfold pairJ
        simp only [hx, hy]
        split <;> simp only <;> omega
      rw [hmax] at hz
      have hsum : wS b.lev l = 2 ^ lvl b.lev x + 2 ^ lvl b.lev y + wS b.lev (restJ b.lev l) := by
        unfold wS restJ
        rw [sum_erase _ l _ q1, sum_erase _ (l.eraseIdx (lst b.lev l)) _ q3, hx, hy]; omega
      have hdv : 2 ^ lvl b.lev y ∣ wS b.lev (restJ b.lev l) := by
        unfold wS
        have : (restJ b.lev l).map (fun a => 2 ^ lvl b.lev a) = ((restJ b.lev l).map (lvl b.lev)).map (2 ^ ·) := by rw [List.map_map]; rfl
        rw [this]
        refine pow_dvd_sum _ _ fun e he => ?_
        obtain ⟨a, ha, rfl⟩ := List.mem_map.1 he
        rw [← hy]; exact lst_min hnn (mem_erase ha)
      rw [hsum] at hD
      have hh := huff hD hdv
      have hold : ∀ a ∈ restJ b.lev l, lvl (stepJ b l).1.lev a = lvl b.lev a := fun a ha => by
        rw [k1.toBd.lev, h.toBd.lev]
        exact lvl_ext h.fine k3 (h.lits a (mem_erase (mem_erase ha)))
      have hw : wS (stepJ b l).1.lev (stepJ b l).2 = wS b.lev (restJ b.lev l) + 2 ^ lvl (stepJ b l).1.lev (andB b (pairJ b.lev l).1 (pairJ b.lev l).2).2 := by
        have e : (stepJ b l).2 = restJ b.lev l ++ [(andB b (pairJ b.lev l).1 (pairJ b.lev l).2).2] := rfl
        rw [e]
        unfold wS
        rw [List.map_append, List.sum_append]
        congr 1
        congr 1
        exact List.map_congr_left fun a ha => by rw [hold a ha]
      rw [hw]
      have hp : 2 ^ lvl (stepJ b l).1.lev (andB b (pairJ b.lev l).1 (pairJ b.lev l).2).2 ≤ 2 ^ (1 + lvl b.lev y) := Nat.pow_le_pow_right (by omega) hz
      omega
    · have h1 : l.length = 1 := by have := h.ne; omega
      rw [joinB_one h1]
      obtain ⟨a, rfl⟩ := List.length_eq_one_iff.1 h1
      simp only [wS, List.map_cons, List.map_nil, List.sum_cons, List.sum_nil, Nat.add_zero] at hD
      exact (Nat.pow_le_pow_iff_right (a := 2) (by omega)).1 hD

/-! ### Nodes are not deeper -/
def Dp (g : Aig) (b : B) (k : Nat) (P : Nat → Prop) : Prop := ∀ n : Nat, n < g.first.toNat + k → P n → lvl b.lev (b.lits.getD n 0) ≤ (g.lv.getD n 0).toNat
theorem lvl_move {lev lits : List Int} {a : Int} (h : 0 ≤ lits.getD (a / 2).toNat 0) : lvl lev (moveL lits a) = lvl lev (lits.getD (a / 2).toNat 0) := by
  unfold moveL
  split
  · rfl
  · unfold lvl
    congr 3
    unfold turn; omega
theorem dp_bgn {g : Aig} (hg : Sml g) (s : Nat → Option Bool) (P : Nat → Prop) : Dp g (bgn g s) 0 P := fun n hn _ => by
  have : lvl (bgn g s).lev ((bgn g s).lits.getD n 0) = 0 := by
    unfold lvl bgn
    simp only
    have : ∀ m k, (List.replicate m (0 : Int)).getD k 0 = 0 := fun m k => by
      simp only [List.getD_eq_getElem?_getD, List.getElem?_replicate]
      split <;> rfl
    rw [this]; rfl
  omega
theorem dp_hash {g : Aig} (hg : Sml g) : ∀ k, k ≤ g.ands.length → Dp g (hashAt g (fun _ => none) k) k fun _ => True
  | 0, _ => dp_bgn hg _ _
  | k + 1, hk => fun n hn _ => by
    have ih := dp_hash hg k (by omega)
    have J := hash_inv hg (fun _ => none) k (by omega)
    have hc := J.cnt hg (by omega)
    have hlt : k < g.ands.length := by omega
    obtain ⟨⟨a1, a2⟩, a3, a4⟩ := gate_bounds hg hlt
    have hlo := hg.lo
    have hf : 1 ≤ g.first := by unfold Aig.first; omega
    have hlen := J.len
    have x1 := move_lit J.lits a1 (by omega)
    have x2 := move_lit J.lits a3 (by omega)
    obtain ⟨_, k1, k2, k3, _, _⟩ := andB_ok J.toBd x1 x2 (by omega)
    have hz := andB_lvl J.toBd x1 x2 (by omega)
    have hnn : ∀ m : Nat, m < (hashAt g (fun _ => none) k).lits.length → 0 ≤ (hashAt g (fun _ => none) k).lits.getD m 0 ∧ (hashAt g (fun _ => none) k).g.lit ((hashAt g (fun _ => none) k).lits.getD m 0) = true := fun m hm => by
      have := J.lits _ (getD_mem hm)
      exact ⟨(litN_iff.1 this).1, this⟩
    have d1 : lvl (hashAt g (fun _ => none) k).lev (moveL (hashAt g (fun _ => none) k).lits g.ands[k].1) ≤ lvl g.lv g.ands[k].1 := by
      rw [lvl_move (hnn _ (by omega)).1]; exact ih _ (by omega) trivial
    have d2 : lvl (hashAt g (fun _ => none) k).lev (moveL (hashAt g (fun _ => none) k).lits g.ands[k].2) ≤ lvl g.lv g.ands[k].2 := by
      rw [lvl_move (hnn _ (by omega)).1]; exact ih _ (by omega) trivial
    have hgv := lvl_gate hg.fine hlt
    unfold hashAt
    simp only [ands_getD hlt]
    by_cases hlast : n < g.first.toNat + k
    · rw [getD_app (by omega), k1.lev, lvl_ext J.fine k3 (hnn n (by omega)).2, ← J.lev]
      exact ih n hlast trivial
    · rw [getD_last (by omega), show n = (g.first + (k : Int)).toNat by omega, hgv]
      omega
theorem lvs_sum {g : Aig} (hg : Sml g) : ∀ (f : Nat) (a : Int), 0 ≤ a → a < 2 * (1 + g.count) → wS g.lv (lvs g f a) ≤ 2 ^ lvl g.lv a
  | 0, a, h0, h1 => by simp [lvs, wS]
  | f + 1, a, h0, h1 => by
    unfold lvs
    by_cases hc : a % 2 = 0 ∧ innM g (a / 2) = true
    · rw [if_pos hc]
      obtain ⟨m, hm, e1, e2, k1, k2⟩ := inner_kids hg h1 hc.2
      have i1 := lvs_sum hg f _ k1.1 (by omega)
      have i2 := lvs_sum hg f _ k2.1 (by omega)
      have hgv := lvl_gate hg.fine hm
      have hla : lvl g.lv a = 1 + max (lvl g.lv g.ands[m].1) (lvl g.lv g.ands[m].2) := by
        rw [← hgv, ← e1]; rfl
      rw [e2]
      have : wS g.lv (lvs g f g.ands[m].1 ++ lvs g f g.ands[m].2) = wS g.lv (lvs g f g.ands[m].1) + wS g.lv (lvs g f g.ands[m].2) := by simp [wS]
      rw [this, hla, Nat.add_comm 1, Nat.pow_succ]
      have p1 : 2 ^ lvl g.lv g.ands[m].1 ≤ 2 ^ max (lvl g.lv g.ands[m].1) (lvl g.lv g.ands[m].2) := Nat.pow_le_pow_right (by omega) (Nat.le_max_left _ _)
      have p2 : 2 ^ lvl g.lv g.ands[m].2 ≤ 2 ^ max (lvl g.lv g.ands[m].1) (lvl g.lv g.ands[m].2) := Nat.pow_le_pow_right (by omega) (Nat.le_max_right _ _)
      omega
    · rw [if_neg hc]; simp [wS]
theorem leavesOf_sum {g : Aig} (hg : Sml g) {i : Nat} (hi : i < g.ands.length) : wS g.lv (leavesOf g i) ≤ 2 ^ (g.lv.getD (g.first + i).toNat 0).toNat := by
  obtain ⟨⟨a1, a2⟩, a3, a4⟩ := gate_bounds hg hi
  have cf := count_first g
  have i1 := lvs_sum hg (1 + g.count).toNat _ a1 (by omega)
  have i2 := lvs_sum hg (1 + g.count).toNat _ a3 (by omega)
  rw [lvl_gate hg.fine hi]
  unfold leavesOf leavesG
  rw [ands_getD hi]
  have : ∀ l m, wS g.lv (l ++ m) = wS g.lv l + wS g.lv m := fun l m => by simp [wS]
  rw [this, Nat.add_comm 1, Nat.pow_succ]
  have p1 : 2 ^ lvl g.lv g.ands[i].1 ≤ 2 ^ max (lvl g.lv g.ands[i].1) (lvl g.lv g.ands[i].2) := Nat.pow_le_pow_right (by omega) (Nat.le_max_left _ _)
  have p2 : 2 ^ lvl g.lv g.ands[i].2 ≤ 2 ^ max (lvl g.lv g.ands[i].1) (lvl g.lv g.ands[i].2) := Nat.pow_le_pow_right (by omega) (Nat.le_max_right _ _)
  omega
theorem sum_le (f h : Int → Nat) : ∀ l : List Int, (∀ a ∈ l, f a ≤ h a) → (l.map f).sum ≤ (l.map h).sum
  | [], _ => Nat.le_refl _
  | a :: l, q => by
    have := sum_le f h l fun x hx => q x (List.mem_cons_of_mem _ hx)
    have := q a (by simp)
    simp only [List.map_cons, List.sum_cons]; omega
theorem dp_bal {g : Aig} (hg : Sml g) : ∀ k, k ≤ g.ands.length → Dp g (balAt g k) k fun n => innM g n = false
  | 0, _ => dp_bgn hg _ _
  | k + 1, hk => fun n hn hP => by
    have ih := dp_bal hg k (by omega)
    have J := bal_inv hg k (by omega)
    have hlt : k < g.ands.length := by omega
    have hlo := hg.lo
    have hf : 1 ≤ g.first := by unfold Aig.first; omega
    have hlen := J.len
    have hnn : ∀ m : Nat, m < (balAt g k).lits.length → 0 ≤ (balAt g k).lits.getD m 0 ∧ (balAt g k).g.lit ((balAt g k).lits.getD m 0) = true := fun m hm => by
      have := J.lits _ (getD_mem hm)
      exact ⟨(litN_iff.1 this).1, this⟩
    unfold balAt
    simp only
    cases hin : innM g (g.first + k) with
    | true =>
      simp only [if_true]
      by_cases hlast : n < g.first.toNat + k
      · rw [getD_app (by omega)]; exact ih n hlast hP
      · exfalso
        have e : ((n : Nat) : Int) = g.first + k := by omega
        have hP' : innM g n = false := hP
        rw [e, hin] at hP'; simp at hP'
    | false =>
      simp only [Bool.false_eq_true, if_false]
      have hJ := J.ji hg hlt hin
      obtain ⟨k1, k2, k3, k4, k5⟩ := hJ.join
      have hs : wS (balAt g k).lev ((leavesOf g k).map (moveL (balAt g k).lits)) ≤ 2 ^ (g.lv.getD (g.first + k).toNat 0).toNat := by
        refine Nat.le_trans ?_ (leavesOf_sum hg hlt)
        unfold wS
        rw [List.map_map]
        refine sum_le _ _ _ fun x hx => ?_
        have hm := leavesOf_mem hg hlt hx
        have hni := leavesOf_not hg hlt hx
        refine Nat.pow_le_pow_right (by omega) ?_
        show lvl _ (moveL _ x) ≤ _
        rw [lvl_move (hnn _ (by omega)).1]
        exact ih (x / 2).toNat (by omega) (by
          show innM g ((x / 2).toNat : Nat) = false
          rw [show (((x / 2).toNat : Nat) : Int) = x / 2 by omega]; exact hni)
      have hd := hJ.deep hs
      by_cases hlast : n < g.first.toNat + k
      · rw [getD_app (by omega), k1.lev, lvl_ext J.fine k3 (hnn n (by omega)).2, ← J.lev]
        exact ih n hlast hP
      · rw [getD_last (by omega), show n = (g.first + (k : Int)).toNat by omega]
        exact hd
theorem deep_end {g : Aig} (hg : Sml g) {b : B} (he : Ended g (fun _ => none) b) (hb : b.lev = b.g.lv) {P : Nat → Prop} (hd : Dp g b g.ands.length P) (hr : ∀ a ∈ rts g, P (a / 2).toNat) {a : Int} (ha : a ∈ rts g) :
    lvl (endB g (fun _ => none) b).lv (moveL b.lits a) ≤ lvl g.lv a := by
  have hlo := hg.lo
  have hf : 1 ≤ g.first := by unfold Aig.first; omega
  have cf := count_first g
  have e : (endB g (fun _ => none) b).lv = b.g.lv := by
    unfold Aig.lv
    rw [he.count.2]; rfl
  have hb' := root_lit hg ha
  have hlt : (a / 2).toNat < b.lits.length := by rw [he.len]; omega
  have := litN_iff.1 (he.lits _ (getD_mem hlt))
  rw [e, ← hb, lvl_move this.1]
  exact hd _ (by omega) (hr a ha)
theorem deep_hash {g : Aig} (hg : Sml g) {a : Int} (ha : a ∈ rts g) : lvl (hashed g fun _ => none).lv (moveL (hashAt g (fun _ => none) g.ands.length).lits a) ≤ lvl g.lv a :=
  deep_end hg (hash_ended hg _) (hash_inv hg _ _ (Nat.le_refl _)).lev (dp_hash hg _ (Nat.le_refl _)) (fun _ _ => trivial) ha
theorem deep_bal {g : Aig} (hg : Sml g) {a : Int} (ha : a ∈ rts g) : lvl (balance g).lv (moveL (balAt g g.ands.length).lits a) ≤ lvl g.lv a :=
  deep_end hg (bal_ended hg) (bal_inv hg _ (Nat.le_refl _)).lev (dp_bal hg _ (Nat.le_refl _)) (fun a ha => bal_root hg ha) ha
end Fil.Rw

namespace Go.Proofs.Ytapnlmhfacoceaa
open Abs Fil Fil.Rw
open Eqv (moveL)
theorem law_measured (g : Aig) (σ : Sig) (hg : Sml g) : ACalls Try.prog 62 [encAig g, .slice (g.lv.map encInt) .no] σ (fun r σ' => r = .ret (.bool true) ∧ σ' = σ) := by
  refine calls_x mixed Try.func62 b62 n62 rfl q62 (by simp) ?_; unfold c62 r62
  have hk := fun τ => A.ref_Check g τ hg.wf
  rw [hg.chk] at hk
  have hsm : Small g := check_small hg.wf hg.chk
  have hc := fun τ => A.ref_Count g τ hsm
  have hl := lv_length hg.fine
  have e : ((g.lv.length : Int) == 1 + g.count) = true := by rw [hl]; simp
  clear hl hsm
  repeat' (first | simp (maxDischargeDepth := 9) -implicitDefEqProofs -dsimp only [go_sem, seval, *] | ((with_reducible apply ACalls.one1); (focus ((first | with_reducible refine hk _ | with_reducible refine hc _) <;> (first | (simp (maxDischargeDepth := 9) -implicitDefEqProofs -dsimp only [go_sem, seval, *]; done) | omega))); (focus (first | trivial | with_reducible exact rfl | (simp (maxDischargeDepth := 9) -implicitDefEqProofs -dsimp only [go_sem, seval]; done)))))
  refine fin_eq ?_
  (repeat' (first | simp (maxDischargeDepth := 9) -implicitDefEqProofs -dsimp only [go_sem, seval, *])) <;> (repeat' refine And.intro ?_ ?_) <;> (first | omega | rfl | assumption | skip)
theorem lvl_get {g : Aig} (hf : Fine g) {a : Int} (ha : g.lit a = true) : ∃ h : (a / 2).toNat < g.lv.length, g.lv[(a / 2).toNat] = (lvl g.lv a : Int) ∧ 0 ≤ a ∧ a ≤ 1000000 := by
  have := litN_iff.1 ha
  have hl := lv_length hf
  have hc := hf.cnt
  have hlt : (a / 2).toNat < g.lv.length := by omega
  refine ⟨hlt, ?_, by omega, by omega⟩
  have hb := (lv_bound hf _ (List.getElem_mem hlt)).1
  have e : g.lv.getD (a / 2).toNat 0 = g.lv[(a / 2).toNat] := by simp [List.getD_eq_getElem?_getD, hlt]
  unfold lvl
  rw [e]; omega
set_option maxHeartbeats 8000000 in
theorem law_flat (g h : Aig) (lits : List Int) (σ : Sig) (hg : Sml g) (hh : Sml h) (ho : h.outs = g.outs.map (moveL lits)) (hfl : h.flops = g.flops.map fun f => ⟨moveL lits f.next, f.init⟩) (hd : ∀ a ∈ rts g, lvl h.lv (moveL lits a) ≤ lvl g.lv a) :
    ACalls Try.prog 29 [encAig g, encAig h] σ (fun r σ' => r = .ret (.bool true) ∧ σ' = σ) := by
  refine calls_x mixed Try.func29 b29 n29 rfl q29 (by simp) ?_; unfold c29 r29
  have ez : ((0 : Int) != 0) = false := by decide
  have l1 := fun τ => A.aig_Levels g τ hg.wf
  have l2 := fun τ => A.aig_Levels h τ hh.wf
  rw [levels_eq hg.chk] at l1
  rw [levels_eq hh.chk] at l2
  have m1 := law_measured g
  have m2 := law_measured h
  have m1 := fun τ => m1 τ hg
  have m2 := fun τ => m2 τ hh
  have n1 : ((g.outs.length : Int) != (h.outs.length : Int)) = false := by rw [ho]; simp
  have n2 : ((g.flops.length : Int) != (h.flops.length : Int)) = false := by rw [hfl]; simp
  have n3 : h.outs.length = g.outs.length := by rw [ho]; simp
  have n4 : h.flops.length = g.flops.length := by rw [hfl]; simp
  have hgl : ∀ a ∈ rts g, g.lit a = true := fun a ha => by
    have := root_lit hg ha; exact litN_iff.2 this
  have hhl : ∀ a ∈ rts h, h.lit a = true := fun a ha => by
    have := root_lit hh ha; exact litN_iff.2 this
  have hout : ∀ i, (h1 : i < g.outs.length) → (h2 : i < h.outs.length) → h.outs[i] = moveL lits g.outs[i] := fun i h1 h2 => by
    have : h.outs[i]? = (g.outs.map (moveL lits))[i]? := by rw [ho]
    rw [List.getElem?_eq_getElem h2, List.getElem?_map, List.getElem?_eq_getElem h1] at this
    simpa using this
  have hflo : ∀ i, (h1 : i < g.flops.length) → (h2 : i < h.flops.length) → h.flops[i].next = moveL lits g.flops[i].next := fun i h1 h2 => by
    have : h.flops[i]? = (g.flops.map fun f => (⟨moveL lits f.next, f.init⟩ : Flop))[i]? := by rw [hfl]
    rw [List.getElem?_eq_getElem h2, List.getElem?_map, List.getElem?_eq_getElem h1] at this
    simp only [Option.map_some, Option.some.injEq] at this
    rw [this]
  have hf1 := hg.fine
  have hf2 := hh.fine
  have k1 := hg.outs
  have k2 := hg.flops
  clear ho hfl hg hh
  repeat' (first | simp (maxDischargeDepth := 9) -implicitDefEqProofs -dsimp only [go_sem, seval, *] | simp (disch := omega) only [wrap64, tdiv2] | ((with_reducible refine Zv ?_ ?_); focus (first | omega | exact rfl)) | ((with_reducible refine Zu ?_ ?_); focus omega) | ((with_reducible apply ACalls.one1); (focus ((first | with_reducible refine l1 _ | with_reducible refine l2 _ | with_reducible refine m1 _ | with_reducible refine m2 _) <;> (first | (simp (maxDischargeDepth := 9) -implicitDefEqProofs -dsimp only [go_sem, seval, *]; done) | omega))); (focus (first | trivial | with_reducible exact rfl | (simp (maxDischargeDepth := 9) -implicitDefEqProofs -dsimp only [go_sem, seval]; done)))))
  refine loop_rule (fun i : Nat => [(9, some (.int .i64 i)), (2, some (.cptr (aigL g))), (3, some (.cptr (aigL h))), (7, some (.slice (h.lv.map encInt) .no)), (5, some (.slice (g.lv.map encInt) .no))])
    (fun _ => σ) (fun i => i ≤ g.outs.length) (fun i => g.outs.length - i) 0 ?_ ?_
  · (repeat' (first | simp (maxDischargeDepth := 9) -implicitDefEqProofs -dsimp only [go_sem, seval, Int.natCast_zero, *] | simp (disch := omega) only [wrap64, tdiv2])) <;> (repeat' refine And.intro ?_ ?_) <;> (first | omega | rfl | assumption | skip)
  · intro i hi
    by_cases hlt : i < g.outs.length
    · have hlt' : (i : Int) < g.outs.length := by omega
      have hlt2 : i < h.outs.length := by omega
      have hga : g.outs[i] ∈ rts g := by unfold rts; exact List.mem_append_left _ (List.getElem_mem hlt)
      have hha : h.outs[i] ∈ rts h := by unfold rts; exact List.mem_append_left _ (List.getElem_mem hlt2)
      have hle := hd _ hga
      rw [← hout i hlt hlt2] at hle
      obtain ⟨u1, u2, u3, u4⟩ := lvl_get hf1 (hgl _ hga)
      obtain ⟨v1, v2, v3, v4⟩ := lvl_get hf2 (hhl _ hha)
      obtain ⟨a, ha⟩ : ∃ a, g.outs[i] = a := ⟨_, rfl⟩
      obtain ⟨b, hb⟩ : ∃ a, h.outs[i] = a := ⟨_, rfl⟩
      simp only [ha] at u1 u2 u3 u4 hle
      simp only [hb] at v1 v2 v3 v4 hle
      have hle' : ¬ (lvl g.lv a : Int) < lvl h.lv b := by omega
      clear hd hgl hhl hout hflo hga hha hf1 hf2 l1 l2 m1 m2 n1 n2 hle
      repeat' (first | simp (maxDischargeDepth := 9) -implicitDefEqProofs -dsimp only [go_sem, seval, gt_iff_lt, *] | simp (disch := omega) only [wrap64, tdiv2] | ((with_reducible refine Zv ?_ ?_); focus (first | omega | exact rfl)) | ((with_reducible refine Zu ?_ ?_); focus omega))
      refine loop_next _ _ _ _ (i + 1) ?_; (repeat' (first | simp (maxDischargeDepth := 9) -implicitDefEqProofs -dsimp only [go_sem, seval, *] | simp (disch := omega) only [wrap64, tdiv2])) <;> (repeat' refine And.intro ?_ ?_) <;> (first | omega | rfl | assumption | skip)
    · have hlt' : ¬ (i : Int) < g.outs.length := by omega
      clear hlt hi
      repeat' (first | simp (maxDischargeDepth := 9) -implicitDefEqProofs -dsimp only [go_sem, seval, *] | simp (disch := omega) only [wrap64, tdiv2] | ((with_reducible refine Zv ?_ ?_); focus (first | omega | exact rfl)) | ((with_reducible refine Zu ?_ ?_); focus omega))
      refine loop_rule (fun i : Nat => [(10, some (.int .i64 i)), (2, some (.cptr (aigL g))), (3, some (.cptr (aigL h))), (7, some (.slice (h.lv.map encInt) .no)), (5, some (.slice (g.lv.map encInt) .no))])
        (fun _ => σ) (fun i => i ≤ g.flops.length) (fun i => g.flops.length - i) 0 ?_ ?_
      · (repeat' (first | simp (maxDischargeDepth := 9) -implicitDefEqProofs -dsimp only [go_sem, seval, Int.natCast_zero, *] | simp (disch := omega) only [wrap64, tdiv2])) <;> (repeat' refine And.intro ?_ ?_) <;> (first | omega | rfl | assumption | skip)
      · intro i hi
        by_cases hlt : i < g.flops.length
        · have hlt' : (i : Int) < g.flops.length := by omega
          have hlt2 : i < h.flops.length := by omega
          have hga : g.flops[i].next ∈ rts g := by unfold rts; exact List.mem_append_right _ (List.mem_map_of_mem (List.getElem_mem hlt))
          have hha : h.flops[i].next ∈ rts h := by unfold rts; exact List.mem_append_right _ (List.mem_map_of_mem (List.getElem_mem hlt2))
          have hle := hd _ hga
          rw [← hflo i hlt hlt2] at hle
          obtain ⟨u1, u2, u3, u4⟩ := lvl_get hf1 (hgl _ hga)
          obtain ⟨v1, v2, v3, v4⟩ := lvl_get hf2 (hhl _ hha)
          obtain ⟨p, hp⟩ : ∃ a, g.flops[i] = a := ⟨_, rfl⟩
          obtain ⟨q, hq⟩ : ∃ a, h.flops[i] = a := ⟨_, rfl⟩
          simp only [hp] at u1 u2 u3 u4 hle
          simp only [hq] at v1 v2 v3 v4 hle
          obtain ⟨a, ha⟩ : ∃ a, p.next = a := ⟨_, rfl⟩
          obtain ⟨b, hb⟩ : ∃ a, q.next = a := ⟨_, rfl⟩
          simp only [ha] at u1 u2 u3 u4 hle
          simp only [hb] at v1 v2 v3 v4 hle
          have hle' : ¬ (lvl g.lv a : Int) < lvl h.lv b := by omega
          clear hd hgl hhl hout hflo hga hha hf1 hf2 l1 l2 m1 m2 n1 n2 hle
          repeat' (first | simp (maxDischargeDepth := 9) -implicitDefEqProofs -dsimp only [go_sem, seval, gt_iff_lt, *] | simp (disch := omega) only [wrap64, tdiv2] | ((with_reducible refine Zv ?_ ?_); focus (first | omega | exact rfl)) | ((with_reducible refine Zu ?_ ?_); focus omega))
          refine loop_next _ _ _ _ (i + 1) ?_; (repeat' (first | simp (maxDischargeDepth := 9) -implicitDefEqProofs -dsimp only [go_sem, seval, *] | simp (disch := omega) only [wrap64, tdiv2])) <;> (repeat' refine And.intro ?_ ?_) <;> (first | omega | rfl | assumption | skip)
        · have hlt' : ¬ (i : Int) < g.flops.length := by omega
          clear hlt hi
          repeat' (first | simp (maxDischargeDepth := 9) -implicitDefEqProofs -dsimp only [go_sem, seval, *] | simp (disch := omega) only [wrap64, tdiv2] | ((with_reducible refine Zv ?_ ?_); focus (first | omega | exact rfl)) | ((with_reducible refine Zu ?_ ?_); focus omega))
          refine fin_eq ?_
          (repeat' (first | simp (maxDischargeDepth := 9) -implicitDefEqProofs -dsimp only [go_sem, seval, *] | simp (disch := omega) only [wrap64, tdiv2])) <;> (repeat' refine And.intro ?_ ?_) <;> (first | omega | rfl | assumption | skip)
theorem flops_none {g : Aig} (b : B) : (endB g (fun _ => none) b).flops = g.flops.map fun f => ⟨moveL b.lits f.next, f.init⟩ := by
  show nextsAt g (fun _ => none) b.lits g.flops.length = _
  rw [nx_none g b.lits g.flops.length (Nat.le_refl _), List.take_length]
theorem outs_none {g : Aig} {b : B} (h : b.g.outs = []) : (endB g (fun _ => none) b).outs = g.outs.map (moveL b.lits) := by
  show b.g.outs ++ _ = _
  rw [h]; rfl
set_option maxRecDepth 20000 in
set_option maxHeartbeats 8000000 in
theorem rewrDeep_ok (g : Aig) (σ : Sig) (hw : Wide g) : ACalls Try.prog 9 [encAig g] σ (fun r σ' => r = .ret (.bool true) ∧ σ' = σ) := by
  refine calls_x mixed Try.func9 b9 n9 rfl q9 (by simp) ?_; unfold c9 r9
  have hf := law_few g
  have ez : ((0 : Int) != 0) = false := by decide
  have ee : ((0 : Int) == 0) = true := by decide
  cases hfw : fewR g with
  | false =>
    rw [hfw] at hf
    clear hfw hw
    repeat' (first | simp (maxDischargeDepth := 9) -implicitDefEqProofs -dsimp only [go_sem, seval, *] | ((with_reducible refine Zt (fun oF hoF hnF hnF' => ?_)); clear hnF hnF'; (try simp only [Zw, ne_eq] at hoF)) | ((with_reducible apply ACalls.one1); (focus ((first | with_reducible refine law_live _ | with_reducible refine hf _) <;> (first | (simp (maxDischargeDepth := 9) -implicitDefEqProofs -dsimp only [go_sem, seval, *]; done) | omega))); (focus (first | trivial | with_reducible exact rfl | (simp (maxDischargeDepth := 9) -implicitDefEqProofs -dsimp only [go_sem, seval]; done)))))
    refine fin_eq ?_
    (repeat' (first | simp (maxDischargeDepth := 9) -implicitDefEqProofs -dsimp only [go_sem, seval, *])) <;> (repeat' refine And.intro ?_ ?_) <;> (first | omega | rfl | assumption | skip)
  | true =>
    rw [hfw] at hf
    obtain ⟨wf, hs⟩ := few_sml hw hfw
    have hck := fun τ => A.aig_Check g τ wf
    by_cases hc : g.check = 0
    · have hg := hs hc
      rw [hc] at hck
      have c1 := fun τ => rw_Balance g τ hg
      have c2 := fun τ => rw_Hash g τ hg
      have n1 := fun τ => law_flat g (balance g) _ τ hg (bal_less hg).sml (outs_none (bal_ended hg).outs) (flops_none _) fun a ha => deep_bal hg ha
      have n2 := fun τ => law_flat g (hashM g) _ τ hg (hash_less hg fun _ => none).sml (outs_none (hash_ended hg _).outs) (flops_none _) fun a ha => deep_hash hg ha
      clear hfw hw hs wf hc hg
      repeat' (first | simp (maxDischargeDepth := 9) -implicitDefEqProofs -dsimp only [go_sem, seval, *] | ((with_reducible refine Zt (fun oF hoF hnF hnF' => ?_)); clear hnF hnF'; (try simp only [Zw, ne_eq] at hoF)) | ((with_reducible apply ACalls.one1); (focus ((first | with_reducible refine law_live _ | with_reducible refine hf _ | with_reducible refine hck _ | with_reducible refine c1 _ | with_reducible refine c2 _ | with_reducible refine n1 _ | with_reducible refine n2 _) <;> (first | (simp (maxDischargeDepth := 9) -implicitDefEqProofs -dsimp only [go_sem, seval, *]; done) | omega))); (focus (first | trivial | with_reducible exact rfl | (simp (maxDischargeDepth := 9) -implicitDefEqProofs -dsimp only [go_sem, seval]; done)))))
      refine fin_eq ?_
      (repeat' (first | simp (maxDischargeDepth := 9) -implicitDefEqProofs -dsimp only [go_sem, seval, *])) <;> (repeat' refine And.intro ?_ ?_) <;> (first | omega | rfl | assumption | skip)
    · have hb : (g.check != 0) = true := by simpa using hc
      clear hfw hw hs wf
      repeat' (first | simp (maxDischargeDepth := 9) -implicitDefEqProofs -dsimp only [go_sem, seval, *] | ((with_reducible refine Zt (fun oF hoF hnF hnF' => ?_)); clear hnF hnF'; (try simp only [Zw, ne_eq] at hoF)) | ((with_reducible apply ACalls.one1); (focus ((first | with_reducible refine law_live _ | with_reducible refine hf _ | with_reducible refine hck _) <;> (first | (simp (maxDischargeDepth := 9) -implicitDefEqProofs -dsimp only [go_sem, seval, *]; done) | omega))); (focus (first | trivial | with_reducible exact rfl | (simp (maxDischargeDepth := 9) -implicitDefEqProofs -dsimp only [go_sem, seval]; done)))))
      refine fin_eq ?_
      (repeat' (first | simp (maxDischargeDepth := 9) -implicitDefEqProofs -dsimp only [go_sem, seval, *])) <;> (repeat' refine And.intro ?_ ?_) <;> (first | omega | rfl | assumption | skip)
end Go.Proofs.Ytapnlmhfacoceaa

