/- equiv: EquivOwn. -/
import Derived.Test.YtjichkelfhcbcaaAbsX
import Derived.Test.YtjichkelfhcbcaaEqOwn
set_option linter.unusedSimpArgs false
set_option linter.unusedVariables false
namespace Go.Proofs.Ytjichkelfhcbcaa
open Abs Fil Fil.Eqv
open Bd (D encB encF)
theorem gate_all (l : List (Int × Int)) : ∀ x ∈ l.map encGate, (cellsA x).length = 2 := fun x hx => by
  obtain ⟨y, _, rfl⟩ := List.mem_map.1 hx; rfl
theorem int_all (l : List Int) : ∀ x ∈ l.map encInt, (cellsA x).length = 1 := fun x hx => by
  obtain ⟨y, _, rfl⟩ := List.mem_map.1 hx; rfl
theorem same_gates (g h : Aig) (t : Two g h) (o : Nat) (n : Nat) (hn : h.ands.length = n) (cs : List AV) (hcs : flat (h.ands.map encGate) = cs) (τ : Sig) (hτ : τ o = some (.vec 2 n cs)) :
    ACalls Try.prog 23 [encAig g, .agg [.int .i64 h.ins, .slice (h.flops.map encFlop) .no, .vec o n, .slice (h.outs.map encInt) .no]] τ (fun r σ' => r = .ret (.tup [.bool (sameS g h).1, .slice ((sameS g h).2.1.map encBool) .no, .slice ((sameS g h).2.2.map encBool) .no, .int .i64 0]) ∧ σ' = upd τ o (.grow 2 n)) := by
  refine ACalls.viewIn (view_frz hτ hcs (by simpa using hn) (gate_all _)) (args0 := [encAig g, encAig h]) rfl ?_ (eq_Same g h t _)
  intro i h0 h1
  match i, h0 with
  | 0, _ => exact .refl _
  | 1, _ =>
    refine .agg _ _ rfl ?_
    intro j j0 j1
    match j, j0 with
    | 0, _ => exact .refl _
    | 1, _ => exact .refl _
    | 2, _ => exact .base _ _ ⟨rfl, .inr rfl⟩
    | 3, _ => exact .refl _
theorem same_outs (g h : Aig) (t : Two g h) (o : Nat) (n : Nat) (hn : h.outs.length = n) (cs : List AV) (hcs : flat (h.outs.map encInt) = cs) (τ : Sig) (hτ : τ o = some (.vec 1 n cs)) :
    ACalls Try.prog 23 [encAig g, .agg [.int .i64 h.ins, .slice (h.flops.map encFlop) .no, .slice (h.ands.map encGate) .no, .vec o n]] τ (fun r σ' => r = .ret (.tup [.bool (sameS g h).1, .slice ((sameS g h).2.1.map encBool) .no, .slice ((sameS g h).2.2.map encBool) .no, .int .i64 0]) ∧ σ' = upd τ o (.grow 1 n)) := by
  refine ACalls.viewIn (view_frz hτ hcs (by simpa using hn) (int_all _)) (args0 := [encAig g, encAig h]) rfl ?_ (eq_Same g h t _)
  intro i h0 h1
  match i, h0 with
  | 0, _ => exact .refl _
  | 1, _ =>
    refine .agg _ _ rfl ?_
    intro j j0 j1
    match j, j0 with
    | 0, _ => exact .refl _
    | 1, _ => exact .refl _
    | 2, _ => exact .refl _
    | 3, _ => exact .base _ _ ⟨rfl, .inr rfl⟩
set_option maxRecDepth 20000 in
set_option maxHeartbeats 8000000 in
theorem own_law (g : Aig) (k a b : Int) (σ : Sig) (wg : Wide g) (hk0 : 0 ≤ k) (hk1 : k ≤ 255) (ha : I64 a) (hb : I64 b) :
    ACalls Try.prog 9 [encAig g, .int .u8 k, .int .i64 a, .int .i64 b] σ (fun r σ' => r = .ret (.bool true) ∧ σ' = σ) := by
  refine calls_x mixed Try.func9 b9 n9 rfl q9 (by simp) ?_; unfold c9 r9
  have ez : ((0 : Int) != 0) = false := by decide
  cases fg : fewB g with
  | false =>
    repeat' (first | simp (maxDischargeDepth := 9) -implicitDefEqProofs -dsimp only [go_sem, seval, *] | simp (disch := omega) only [wrap64, tmod2, xor1] | (with_reducible (first | apply Zf | apply Zs) <;> intro hq) | ((with_reducible refine Zv ?_ ?_); focus (first | omega | exact rfl)) | ((with_reducible refine Zu ?_ ?_); focus omega) | ((with_reducible refine Zt (fun oF hoF hnF hnF' => ?_)); clear hnF hnF'; (try simp only [Zw, ne_eq] at hoF)) | ((with_reducible apply ACalls.one1); (focus ((first | with_reducible refine law_live _ | with_reducible refine law_few g _ | with_reducible refine ACalls.flA (law_live _) ?_ | with_reducible refine ACalls.flA (law_few g _) ?_) <;> (first | (simp (maxDischargeDepth := 9) -implicitDefEqProofs -dsimp only [go_sem, seval, *]; done) | omega))); (focus (first | trivial | with_reducible exact rfl | (simp (maxDischargeDepth := 9) -implicitDefEqProofs -dsimp only [go_sem, seval]; done)))))
    refine fin_eq ?_
    (repeat' (first | simp (maxDischargeDepth := 9) -implicitDefEqProofs -dsimp only [go_sem, seval, *] | simp (disch := omega) only [wrap64, tmod2, xor1])) <;> (repeat' refine And.intro ?_ ?_) <;> (first | omega | rfl | assumption | skip)
  | true =>
  obtain ⟨hwg, f1, f2, f3, hok⟩ := few_spec fg wg
  by_cases hc : g.check ≠ 0
  · have hb1 : (g.check != 0) = true := by simpa using hc
    clear hc hok
    repeat' (first | simp (maxDischargeDepth := 9) -implicitDefEqProofs -dsimp only [go_sem, seval, *] | simp (disch := omega) only [wrap64, tmod2, xor1] | (with_reducible (first | apply Zf | apply Zs) <;> intro hq) | ((with_reducible refine Zv ?_ ?_); focus (first | omega | exact rfl)) | ((with_reducible refine Zu ?_ ?_); focus omega) | ((with_reducible refine Zt (fun oF hoF hnF hnF' => ?_)); clear hnF hnF'; (try simp only [Zw, ne_eq] at hoF)) | ((with_reducible apply ACalls.one1); (focus ((first | with_reducible refine law_live _ | with_reducible refine law_few g _ | with_reducible refine A.ref_Check g _ hwg | with_reducible refine ACalls.flA (law_live _) ?_ | with_reducible refine ACalls.flA (law_few g _) ?_ | with_reducible refine ACalls.flA (A.ref_Check g _ hwg) ?_) <;> (first | (simp (maxDischargeDepth := 9) -implicitDefEqProofs -dsimp only [go_sem, seval, *]; done) | omega))); (focus (first | trivial | with_reducible exact rfl | (simp (maxDischargeDepth := 9) -implicitDefEqProofs -dsimp only [go_sem, seval]; done)))))
    refine fin_eq ?_
    (repeat' (first | simp (maxDischargeDepth := 9) -implicitDefEqProofs -dsimp only [go_sem, seval, *] | simp (disch := omega) only [wrap64, tmod2, xor1])) <;> (repeat' refine And.intro ?_ ?_) <;> (first | omega | rfl | assumption | skip)
  have hc := Decidable.not_not.1 hc
  have ok := hok hc
  clear hok
  have hlo := ok.lo
  have h8 := ok.eight
  have hsm := check_small hwg hc
  obtain ⟨ha0, ha1⟩ := ha
  obtain ⟨hb0, hb1⟩ := hb
  have hcnt : g.count = g.ins + g.flops.length + g.ands.length := rfl
  obtain ⟨N, hN⟩ : ∃ N, 1 + g.count = N := ⟨_, rfl⟩
  have hCount := fun τ => A.ref_Count g τ hsm
  rw [hN] at hCount
  have hN1 : 0 ≤ N ∧ N ≤ 1000 := by omega
  obtain ⟨n, hn⟩ : ∃ n, g.ands.length = n := ⟨_, rfl⟩
  have hpar : IntKind.i64.wrap k = k := wrap64 k (by omega) (by omega)
  have hout : g.outs ≠ [] → ∃ (aL bL : List Bool) (j : Nat) (x : Int), ((aL.length : Int) != g.ins) = false ∧ ((bL.length : Int) != g.flops.length) = false ∧ aL.length ≤ 1000 ∧ (∀ x ∈ aL, x = false) ∧
      (((flat (g.outs.map encInt)).drop (j * 1)).take 1).head? = some (.int .i64 x) ∧ 0 ≤ x ∧ x ≤ 1000000 ∧ j < g.outs.length ∧ k.tmod (g.outs.length : Int) = (j : Int) ∧
      (∀ τ o, τ o = some (.vec 1 g.outs.length (List.take (j * 1) (flat (g.outs.map encInt)) ++ [.int .i64 (turn x)] ++ List.drop (j * 1 + 1) (flat (g.outs.map encInt)))) →
        ACalls Try.prog 23 [encAig g, .agg [.int .i64 g.ins, .slice (g.flops.map encFlop) .no, .slice (g.ands.map encGate) .no, .vec o g.outs.length]] τ (fun r σ' => r = .ret (.tup [.bool false, .slice (aL.map encBool) .no, .slice (bL.map encBool) .no, .int .i64 0]) ∧ σ' = upd τ o (.grow 1 g.outs.length))) := fun ho => by
    have hpos := List.length_pos_iff.2 ho
    have htm : k.tmod (g.outs.length : Int) = k % (g.outs.length : Int) := Int.tmod_eq_emod_of_nonneg hk0
    have hm0 := Int.emod_nonneg k (show (g.outs.length : Int) ≠ 0 by omega)
    have hm1 := Int.emod_lt_of_pos k (show (0 : Int) < g.outs.length by omega)
    obtain ⟨j, hj⟩ : ∃ j : Nat, (j : Int) = k % (g.outs.length : Int) := ⟨(k % (g.outs.length : Int)).toNat, by omega⟩
    have hjl : j < g.outs.length := by omega
    obtain ⟨t, aL, bL, e1, e2, e3, e4⟩ := own_not ok f2 hjl
    have hlj : g.lit g.outs[j] = true := ok.lits _ (by simp only [lits, List.mem_append]; exact .inl (List.getElem_mem hjl))
    simp only [Aig.lit, litN_iff] at hlj
    refine ⟨aL, bL, j, g.outs[j], by simpa using e2, by simp [e3], by omega, e4, ?_, hlj.1, by omega, hjl, by rw [htm, hj], fun τ o hτ => ?_⟩
    · exact mkv_one (flat_get encInt 1 (fun _ => rfl) g.outs j 0 hjl (by omega))
    · have hw : List.take (j * 1) (flat (g.outs.map encInt)) ++ [.int .i64 (turn g.outs[j])] ++ List.drop (j * 1 + 1) (flat (g.outs.map encInt)) = flat ((g.outs.set j (turn g.outs[j])).map encInt) := flat_set encInt 1 (fun _ => rfl) (turn g.outs[j]) g.outs j hjl
      have := same_outs g _ t o g.outs.length (by simp) _ hw.symm τ hτ
      rw [e1] at this
      exact this
  by_cases he : g.ands = []
  · have hz : g.ands.map encGate = [] := by simp [he]
    have hal : (a < 2 * N ∧ b < 2 * N) → 0 ≤ a → 0 ≤ b → g.lit a = true ∧ g.lit b = true := fun h c d => by
      simp only [Aig.lit, litN_iff]; omega
    have h1 := fun ex hx => own_ok ok f2 (m := []) (ex := ex) (by rw [he]; exact trivial) hx
    repeat' (first | simp (maxDischargeDepth := 9) -implicitDefEqProofs -dsimp only [go_sem, seval, Nat.zero_add, flat_nil, List.nil_append, *] | simp (disch := omega) only [wrap64, tmod2, xor1] | (with_reducible (first | apply Zf | apply Zs) <;> intro hq) | ((with_reducible refine Zv ?_ ?_); focus (first | omega | exact rfl)) | ((with_reducible refine Zu ?_ ?_); focus omega) | ((with_reducible refine Zt (fun oF hoF hnF hnF' => ?_)); clear hnF hnF'; (try simp only [Zw, ne_eq] at hoF)) | ((with_reducible apply ACalls.one1); (focus ((first | with_reducible refine law_live _ | with_reducible refine law_few g _ | with_reducible refine A.ref_Check g _ hwg | with_reducible refine ACalls.flA (law_live _) ?_ | with_reducible refine ACalls.flA (law_few g _) ?_ | with_reducible refine ACalls.flA (A.ref_Check g _ hwg) ?_) <;> (first | (simp (maxDischargeDepth := 9) -implicitDefEqProofs -dsimp only [go_sem, seval, *]; done) | omega))); (focus (first | trivial | with_reducible exact rfl | (simp (maxDischargeDepth := 9) -implicitDefEqProofs -dsimp only [go_sem, seval]; done)))))
    obtain ⟨oH, eH⟩ : ∃ x, x = oF := ⟨oF, rfl⟩
    subst eH
    have hE : encAig g = .agg [.int .i64 g.ins, .slice (g.flops.map encFlop) .no, .slice [] .no, .slice (g.outs.map encInt) .no] := by simp only [encAig, aigL, hz]
    refine loop_rule (fun _ : Unit => [(11, some (.int .i64 0)), (10, some (.ptr oH 0)), (1, some (.int .u8 k)), (4, some (.cptr (aigL g))), (2, some (.int .i64 a)), (3, some (.int .i64 b)), (9, some (.bool true))])
      (fun _ => upd σ oH (.cells [.int .i64 g.ins, .slice (g.flops.map encFlop) .no, .slice [] .full, .slice (g.outs.map encInt) .no])) (fun _ => True) (fun _ => 0) () ?_ ?_
    · (repeat' (first | simp (maxDischargeDepth := 9) -implicitDefEqProofs -dsimp only [go_sem, seval, *] | simp (disch := omega) only [wrap64, tmod2, xor1])) <;> (repeat' refine And.intro ?_ ?_) <;> (first | omega | rfl | assumption | skip)
    · intro _ _
      by_cases hx : (0 ≤ a ∧ 0 ≤ b) ∧ (a < 2 * N ∧ b < 2 * N)
      · obtain ⟨⟨x1, x2⟩, x3, x4⟩ := hx
        have x5 := hal ⟨x3, x4⟩ x1 x2
        obtain ⟨t, hso⟩ := h1 [(a, b)] (.inr ⟨a, b, rfl, x5.1, x5.2⟩)
        have hS := fun o => same_gates g _ t o 1 (by simp) (flat [.agg [.int .i64 a, .int .i64 b]]) (by simp)
        rw [hso, hE] at hS
        clear hso t h1 hal he
        by_cases ho : g.outs = []
        · have hol : g.outs.length = 0 := by simp [ho]
          clear hout ho
          repeat' (first | simp (maxDischargeDepth := 9) -implicitDefEqProofs -dsimp only [go_sem, seval, gt_iff_lt, ge_iff_le, Nat.zero_add, flat_nil, List.nil_append, *] | simp (disch := omega) only [wrap64, tmod2, xor1] | (with_reducible (first | apply Zf | apply Zs) <;> intro hq) | ((with_reducible refine Zv ?_ ?_); focus (first | omega | exact rfl)) | ((with_reducible refine Zu ?_ ?_); focus omega) | ((with_reducible refine Zt (fun oF hoF hnF hnF' => ?_)); clear hnF hnF'; (try simp only [Zw, ne_eq] at hoF)) | ((with_reducible apply ACalls.one1); (focus ((first | with_reducible refine hCount _ | with_reducible refine hS _ _ ?_ | with_reducible refine ACalls.flA (hCount _) ?_ | with_reducible refine ACalls.flA (hS _ _ ?_) ?_) <;> (first | (simp (maxDischargeDepth := 9) -implicitDefEqProofs -dsimp only [go_sem, seval, *]; done) | omega))); (focus (first | trivial | with_reducible exact rfl | (simp (maxDischargeDepth := 9) -implicitDefEqProofs -dsimp only [go_sem, seval]; done)))))
          refine fin_eq ?_
          (repeat' (first | simp (maxDischargeDepth := 9) -implicitDefEqProofs -dsimp only [go_sem, seval, *] | simp (disch := omega) only [wrap64, tmod2, xor1])) <;> (repeat' refine And.intro ?_ ?_) <;> (first | omega | rfl | assumption | skip)
        · obtain ⟨aL, bL, j, x, q1, q2, q3, q4, r1, hx0, hxt, hjl, htm, hS2⟩ := hout ho
          have hfl2 : (flat (g.outs.map encInt)).length = g.outs.length := by rw [flat_map_len encInt 1 (fun _ => rfl)]; omega
          have hmo : g.outs.map encInt ≠ [] := by simpa using ho
          rw [hz, hE] at hS2
          clear hout
          repeat' (first | simp (maxDischargeDepth := 9) -implicitDefEqProofs -dsimp only [go_sem, seval, gt_iff_lt, ge_iff_le, Nat.zero_add, flat_nil, List.nil_append, *] | simp (disch := omega) only [wrap64, tmod2, xor1] | (with_reducible (first | apply Zf | apply Zs) <;> intro hq) | ((with_reducible refine Zv ?_ ?_); focus (first | omega | exact rfl)) | ((with_reducible refine Zu ?_ ?_); focus omega) | ((with_reducible refine Zt (fun oF hoF hnF hnF' => ?_)); clear hnF hnF'; (try simp only [Zw, ne_eq] at hoF)) | ((with_reducible apply ACalls.one1); (focus ((first | with_reducible refine hCount _ | with_reducible refine hS _ _ ?_ | with_reducible refine hS2 _ _ ?_ | with_reducible refine ACalls.flA (hCount _) ?_ | with_reducible refine ACalls.flA (hS _ _ ?_) ?_ | with_reducible refine ACalls.flA (hS2 _ _ ?_) ?_) <;> (first | (simp (maxDischargeDepth := 9) -implicitDefEqProofs -dsimp only [go_sem, seval, *]; done) | omega))); (focus (first | trivial | with_reducible exact rfl | (simp (maxDischargeDepth := 9) -implicitDefEqProofs -dsimp only [go_sem, seval]; done)))))
          all_goals first | exact absurd hq hmo | skip
          all_goals first | (exfalso; omega) | skip
          refine loop_rule (fun i : Nat => [(23, some (.int .i64 i)), (20, some (.slice (aL.map encBool) .no)), (9, some (.bool true))]) (fun _ => σ) (fun i => i ≤ aL.length) (fun i => aL.length - i) 0 ?_ ?_
          · (repeat' (first | simp (maxDischargeDepth := 9) -implicitDefEqProofs -dsimp only [go_sem, seval, *] | simp (disch := omega) only [wrap64, tmod2, xor1])) <;> (repeat' refine And.intro ?_ ?_) <;> (first | omega | rfl | assumption | skip)
          · intro i hi
            by_cases hlt : i < aL.length
            · have hx : aL[i] = false := q4 _ (List.getElem_mem hlt)
              clear q4 hS2 r1
              repeat' (first | simp (maxDischargeDepth := 9) -implicitDefEqProofs -dsimp only [go_sem, seval, *] | simp (disch := omega) only [wrap64, tmod2, xor1] | (with_reducible (first | apply Zf | apply Zs) <;> intro hq) | ((with_reducible refine Zv ?_ ?_); focus (first | omega | exact rfl)) | ((with_reducible refine Zu ?_ ?_); focus omega) | ((with_reducible refine Zt (fun oF hoF hnF hnF' => ?_)); clear hnF hnF'; (try simp only [Zw, ne_eq] at hoF)))
              refine loop_next _ _ _ _ (i + 1) ?_; (repeat' (first | simp (maxDischargeDepth := 9) -implicitDefEqProofs -dsimp only [go_sem, seval, *] | simp (disch := omega) only [wrap64, tmod2, xor1])) <;> (repeat' refine And.intro ?_ ?_) <;> (first | omega | rfl | assumption | skip)
            · clear q4 hS2 r1
              repeat' (first | simp (maxDischargeDepth := 9) -implicitDefEqProofs -dsimp only [go_sem, seval, *] | simp (disch := omega) only [wrap64, tmod2, xor1] | (with_reducible (first | apply Zf | apply Zs) <;> intro hq) | ((with_reducible refine Zv ?_ ?_); focus (first | omega | exact rfl)) | ((with_reducible refine Zu ?_ ?_); focus omega) | ((with_reducible refine Zt (fun oF hoF hnF hnF' => ?_)); clear hnF hnF'; (try simp only [Zw, ne_eq] at hoF)))
              refine fin_eq ?_
              (repeat' (first | simp (maxDischargeDepth := 9) -implicitDefEqProofs -dsimp only [go_sem, seval, *] | simp (disch := omega) only [wrap64, tmod2, xor1])) <;> (repeat' refine And.intro ?_ ?_) <;> (first | omega | rfl | assumption | skip)
      · obtain ⟨t, hso⟩ := h1 [] (.inl rfl)
        have hS : ∀ τ, ACalls Try.prog 23 [encAig g, .agg [.int .i64 g.ins, .slice (g.flops.map encFlop) .no, .slice [] .no, .slice (g.outs.map encInt) .no]] τ _ := fun τ => eq_Same g _ t τ
        rw [hso, hE] at hS
        have hx1 : ¬ ((0 ≤ a ∧ 0 ≤ b) ∧ (a < 2 * N ∧ b < 2 * N)) := hx
        clear hso t h1 hal hx he
        by_cases x1 : 0 ≤ a
        · by_cases x2 : 0 ≤ b
          · by_cases x3 : a < 2 * N
            · have x4 : ¬ b < 2 * N := by omega
              clear hx1
              by_cases ho : g.outs = []
              · have hol : g.outs.length = 0 := by simp [ho]
                clear hout ho
                repeat' (first | simp (maxDischargeDepth := 9) -implicitDefEqProofs -dsimp only [go_sem, seval, gt_iff_lt, ge_iff_le, Nat.zero_add, flat_nil, List.nil_append, *] | simp (disch := omega) only [wrap64, tmod2, xor1] | (with_reducible (first | apply Zf | apply Zs) <;> intro hq) | ((with_reducible refine Zv ?_ ?_); focus (first | omega | exact rfl)) | ((with_reducible refine Zu ?_ ?_); focus omega) | ((with_reducible refine Zt (fun oF hoF hnF hnF' => ?_)); clear hnF hnF'; (try simp only [Zw, ne_eq] at hoF)) | ((with_reducible apply ACalls.one1); (focus ((first | with_reducible refine hCount _ | with_reducible refine hS _ | with_reducible refine ACalls.flA (hCount _) ?_ | with_reducible refine ACalls.flA (hS _) ?_) <;> (first | (simp (maxDischargeDepth := 9) -implicitDefEqProofs -dsimp only [go_sem, seval, *]; done) | omega))); (focus (first | trivial | with_reducible exact rfl | (simp (maxDischargeDepth := 9) -implicitDefEqProofs -dsimp only [go_sem, seval]; done)))))
                refine fin_eq ?_
                (repeat' (first | simp (maxDischargeDepth := 9) -implicitDefEqProofs -dsimp only [go_sem, seval, *] | simp (disch := omega) only [wrap64, tmod2, xor1])) <;> (repeat' refine And.intro ?_ ?_) <;> (first | omega | rfl | assumption | skip)
              · obtain ⟨aL, bL, j, x, q1, q2, q3, q4, r1, hx0, hxt, hjl, htm, hS2⟩ := hout ho
                have hfl2 : (flat (g.outs.map encInt)).length = g.outs.length := by rw [flat_map_len encInt 1 (fun _ => rfl)]; omega
                have hmo : g.outs.map encInt ≠ [] := by simpa using ho
                rw [hz, hE] at hS2
                clear hout
                repeat' (first | simp (maxDischargeDepth := 9) -implicitDefEqProofs -dsimp only [go_sem, seval, gt_iff_lt, ge_iff_le, Nat.zero_add, flat_nil, List.nil_append, *] | simp (disch := omega) only [wrap64, tmod2, xor1] | (with_reducible (first | apply Zf | apply Zs) <;> intro hq) | ((with_reducible refine Zv ?_ ?_); focus (first | omega | exact rfl)) | ((with_reducible refine Zu ?_ ?_); focus omega) | ((with_reducible refine Zt (fun oF hoF hnF hnF' => ?_)); clear hnF hnF'; (try simp only [Zw, ne_eq] at hoF)) | ((with_reducible apply ACalls.one1); (focus ((first | with_reducible refine hCount _ | with_reducible refine hS _ | with_reducible refine hS2 _ _ ?_ | with_reducible refine ACalls.flA (hCount _) ?_ | with_reducible refine ACalls.flA (hS _) ?_ | with_reducible refine ACalls.flA (hS2 _ _ ?_) ?_) <;> (first | (simp (maxDischargeDepth := 9) -implicitDefEqProofs -dsimp only [go_sem, seval, *]; done) | omega))); (focus (first | trivial | with_reducible exact rfl | (simp (maxDischargeDepth := 9) -implicitDefEqProofs -dsimp only [go_sem, seval]; done)))))
                all_goals first | exact absurd hq hmo | skip
                all_goals first | (exfalso; omega) | skip
                refine loop_rule (fun i : Nat => [(23, some (.int .i64 i)), (20, some (.slice (aL.map encBool) .no)), (9, some (.bool true))]) (fun _ => σ) (fun i => i ≤ aL.length) (fun i => aL.length - i) 0 ?_ ?_
                · (repeat' (first | simp (maxDischargeDepth := 9) -implicitDefEqProofs -dsimp only [go_sem, seval, *] | simp (disch := omega) only [wrap64, tmod2, xor1])) <;> (repeat' refine And.intro ?_ ?_) <;> (first | omega | rfl | assumption | skip)
                · intro i hi
                  by_cases hlt : i < aL.length
                  · have hx : aL[i] = false := q4 _ (List.getElem_mem hlt)
                    clear q4 hS2 r1
                    repeat' (first | simp (maxDischargeDepth := 9) -implicitDefEqProofs -dsimp only [go_sem, seval, *] | simp (disch := omega) only [wrap64, tmod2, xor1] | (with_reducible (first | apply Zf | apply Zs) <;> intro hq) | ((with_reducible refine Zv ?_ ?_); focus (first | omega | exact rfl)) | ((with_reducible refine Zu ?_ ?_); focus omega) | ((with_reducible refine Zt (fun oF hoF hnF hnF' => ?_)); clear hnF hnF'; (try simp only [Zw, ne_eq] at hoF)))
                    refine loop_next _ _ _ _ (i + 1) ?_; (repeat' (first | simp (maxDischargeDepth := 9) -implicitDefEqProofs -dsimp only [go_sem, seval, *] | simp (disch := omega) only [wrap64, tmod2, xor1])) <;> (repeat' refine And.intro ?_ ?_) <;> (first | omega | rfl | assumption | skip)
                  · clear q4 hS2 r1
                    repeat' (first | simp (maxDischargeDepth := 9) -implicitDefEqProofs -dsimp only [go_sem, seval, *] | simp (disch := omega) only [wrap64, tmod2, xor1] | (with_reducible (first | apply Zf | apply Zs) <;> intro hq) | ((with_reducible refine Zv ?_ ?_); focus (first | omega | exact rfl)) | ((with_reducible refine Zu ?_ ?_); focus omega) | ((with_reducible refine Zt (fun oF hoF hnF hnF' => ?_)); clear hnF hnF'; (try simp only [Zw, ne_eq] at hoF)))
                    refine fin_eq ?_
                    (repeat' (first | simp (maxDischargeDepth := 9) -implicitDefEqProofs -dsimp only [go_sem, seval, *] | simp (disch := omega) only [wrap64, tmod2, xor1])) <;> (repeat' refine And.intro ?_ ?_) <;> (first | omega | rfl | assumption | skip)
            · clear hx1
              by_cases ho : g.outs = []
              · have hol : g.outs.length = 0 := by simp [ho]
                clear hout ho
                repeat' (first | simp (maxDischargeDepth := 9) -implicitDefEqProofs -dsimp only [go_sem, seval, gt_iff_lt, ge_iff_le, Nat.zero_add, flat_nil, List.nil_append, *] | simp (disch := omega) only [wrap64, tmod2, xor1] | (with_reducible (first | apply Zf | apply Zs) <;> intro hq) | ((with_reducible refine Zv ?_ ?_); focus (first | omega | exact rfl)) | ((with_reducible refine Zu ?_ ?_); focus omega) | ((with_reducible refine Zt (fun oF hoF hnF hnF' => ?_)); clear hnF hnF'; (try simp only [Zw, ne_eq] at hoF)) | ((with_reducible apply ACalls.one1); (focus ((first | with_reducible refine hCount _ | with_reducible refine hS _ | with_reducible refine ACalls.flA (hCount _) ?_ | with_reducible refine ACalls.flA (hS _) ?_) <;> (first | (simp (maxDischargeDepth := 9) -implicitDefEqProofs -dsimp only [go_sem, seval, *]; done) | omega))); (focus (first | trivial | with_reducible exact rfl | (simp (maxDischargeDepth := 9) -implicitDefEqProofs -dsimp only [go_sem, seval]; done)))))
                refine fin_eq ?_
                (repeat' (first | simp (maxDischargeDepth := 9) -implicitDefEqProofs -dsimp only [go_sem, seval, *] | simp (disch := omega) only [wrap64, tmod2, xor1])) <;> (repeat' refine And.intro ?_ ?_) <;> (first | omega | rfl | assumption | skip)
              · obtain ⟨aL, bL, j, x, q1, q2, q3, q4, r1, hx0, hxt, hjl, htm, hS2⟩ := hout ho
                have hfl2 : (flat (g.outs.map encInt)).length = g.outs.length := by rw [flat_map_len encInt 1 (fun _ => rfl)]; omega
                have hmo : g.outs.map encInt ≠ [] := by simpa using ho
                rw [hz, hE] at hS2
                clear hout
                repeat' (first | simp (maxDischargeDepth := 9) -implicitDefEqProofs -dsimp only [go_sem, seval, gt_iff_lt, ge_iff_le, Nat.zero_add, flat_nil, List.nil_append, *] | simp (disch := omega) only [wrap64, tmod2, xor1] | (with_reducible (first | apply Zf | apply Zs) <;> intro hq) | ((with_reducible refine Zv ?_ ?_); focus (first | omega | exact rfl)) | ((with_reducible refine Zu ?_ ?_); focus omega) | ((with_reducible refine Zt (fun oF hoF hnF hnF' => ?_)); clear hnF hnF'; (try simp only [Zw, ne_eq] at hoF)) | ((with_reducible apply ACalls.one1); (focus ((first | with_reducible refine hCount _ | with_reducible refine hS _ | with_reducible refine hS2 _ _ ?_ | with_reducible refine ACalls.flA (hCount _) ?_ | with_reducible refine ACalls.flA (hS _) ?_ | with_reducible refine ACalls.flA (hS2 _ _ ?_) ?_) <;> (first | (simp (maxDischargeDepth := 9) -implicitDefEqProofs -dsimp only [go_sem, seval, *]; done) | omega))); (focus (first | trivial | with_reducible exact rfl | (simp (maxDischargeDepth := 9) -implicitDefEqProofs -dsimp only [go_sem, seval]; done)))))
                all_goals first | exact absurd hq hmo | skip
                all_goals first | (exfalso; omega) | skip
                refine loop_rule (fun i : Nat => [(23, some (.int .i64 i)), (20, some (.slice (aL.map encBool) .no)), (9, some (.bool true))]) (fun _ => σ) (fun i => i ≤ aL.length) (fun i => aL.length - i) 0 ?_ ?_
                · (repeat' (first | simp (maxDischargeDepth := 9) -implicitDefEqProofs -dsimp only [go_sem, seval, *] | simp (disch := omega) only [wrap64, tmod2, xor1])) <;> (repeat' refine And.intro ?_ ?_) <;> (first | omega | rfl | assumption | skip)
                · intro i hi
                  by_cases hlt : i < aL.length
                  · have hx : aL[i] = false := q4 _ (List.getElem_mem hlt)
                    clear q4 hS2 r1
                    repeat' (first | simp (maxDischargeDepth := 9) -implicitDefEqProofs -dsimp only [go_sem, seval, *] | simp (disch := omega) only [wrap64, tmod2, xor1] | (with_reducible (first | apply Zf | apply Zs) <;> intro hq) | ((with_reducible refine Zv ?_ ?_); focus (first | omega | exact rfl)) | ((with_reducible refine Zu ?_ ?_); focus omega) | ((with_reducible refine Zt (fun oF hoF hnF hnF' => ?_)); clear hnF hnF'; (try simp only [Zw, ne_eq] at hoF)))
                    refine loop_next _ _ _ _ (i + 1) ?_; (repeat' (first | simp (maxDischargeDepth := 9) -implicitDefEqProofs -dsimp only [go_sem, seval, *] | simp (disch := omega) only [wrap64, tmod2, xor1])) <;> (repeat' refine And.intro ?_ ?_) <;> (first | omega | rfl | assumption | skip)
                  · clear q4 hS2 r1
                    repeat' (first | simp (maxDischargeDepth := 9) -implicitDefEqProofs -dsimp only [go_sem, seval, *] | simp (disch := omega) only [wrap64, tmod2, xor1] | (with_reducible (first | apply Zf | apply Zs) <;> intro hq) | ((with_reducible refine Zv ?_ ?_); focus (first | omega | exact rfl)) | ((with_reducible refine Zu ?_ ?_); focus omega) | ((with_reducible refine Zt (fun oF hoF hnF hnF' => ?_)); clear hnF hnF'; (try simp only [Zw, ne_eq] at hoF)))
                    refine fin_eq ?_
                    (repeat' (first | simp (maxDischargeDepth := 9) -implicitDefEqProofs -dsimp only [go_sem, seval, *] | simp (disch := omega) only [wrap64, tmod2, xor1])) <;> (repeat' refine And.intro ?_ ?_) <;> (first | omega | rfl | assumption | skip)
          · clear hx1
            by_cases ho : g.outs = []
            · have hol : g.outs.length = 0 := by simp [ho]
              clear hout ho
              repeat' (first | simp (maxDischargeDepth := 9) -implicitDefEqProofs -dsimp only [go_sem, seval, gt_iff_lt, ge_iff_le, Nat.zero_add, flat_nil, List.nil_append, *] | simp (disch := omega) only [wrap64, tmod2, xor1] | (with_reducible (first | apply Zf | apply Zs) <;> intro hq) | ((with_reducible refine Zv ?_ ?_); focus (first | omega | exact rfl)) | ((with_reducible refine Zu ?_ ?_); focus omega) | ((with_reducible refine Zt (fun oF hoF hnF hnF' => ?_)); clear hnF hnF'; (try simp only [Zw, ne_eq] at hoF)) | ((with_reducible apply ACalls.one1); (focus ((first | with_reducible refine hCount _ | with_reducible refine hS _ | with_reducible refine ACalls.flA (hCount _) ?_ | with_reducible refine ACalls.flA (hS _) ?_) <;> (first | (simp (maxDischargeDepth := 9) -implicitDefEqProofs -dsimp only [go_sem, seval, *]; done) | omega))); (focus (first | trivial | with_reducible exact rfl | (simp (maxDischargeDepth := 9) -implicitDefEqProofs -dsimp only [go_sem, seval]; done)))))
              refine fin_eq ?_
              (repeat' (first | simp (maxDischargeDepth := 9) -implicitDefEqProofs -dsimp only [go_sem, seval, *] | simp (disch := omega) only [wrap64, tmod2, xor1])) <;> (repeat' refine And.intro ?_ ?_) <;> (first | omega | rfl | assumption | skip)
            · obtain ⟨aL, bL, j, x, q1, q2, q3, q4, r1, hx0, hxt, hjl, htm, hS2⟩ := hout ho
              have hfl2 : (flat (g.outs.map encInt)).length = g.outs.length := by rw [flat_map_len encInt 1 (fun _ => rfl)]; omega
              have hmo : g.outs.map encInt ≠ [] := by simpa using ho
              rw [hz, hE] at hS2
              clear hout
              repeat' (first | simp (maxDischargeDepth := 9) -implicitDefEqProofs -dsimp only [go_sem, seval, gt_iff_lt, ge_iff_le, Nat.zero_add, flat_nil, List.nil_append, *] | simp (disch := omega) only [wrap64, tmod2, xor1] | (with_reducible (first | apply Zf | apply Zs) <;> intro hq) | ((with_reducible refine Zv ?_ ?_); focus (first | omega | exact rfl)) | ((with_reducible refine Zu ?_ ?_); focus omega) | ((with_reducible refine Zt (fun oF hoF hnF hnF' => ?_)); clear hnF hnF'; (try simp only [Zw, ne_eq] at hoF)) | ((with_reducible apply ACalls.one1); (focus ((first | with_reducible refine hCount _ | with_reducible refine hS _ | with_reducible refine hS2 _ _ ?_ | with_reducible refine ACalls.flA (hCount _) ?_ | with_reducible refine ACalls.flA (hS _) ?_ | with_reducible refine ACalls.flA (hS2 _ _ ?_) ?_) <;> (first | (simp (maxDischargeDepth := 9) -implicitDefEqProofs -dsimp only [go_sem, seval, *]; done) | omega))); (focus (first | trivial | with_reducible exact rfl | (simp (maxDischargeDepth := 9) -implicitDefEqProofs -dsimp only [go_sem, seval]; done)))))
              all_goals first | exact absurd hq hmo | skip
              all_goals first | (exfalso; omega) | skip
              refine loop_rule (fun i : Nat => [(23, some (.int .i64 i)), (20, some (.slice (aL.map encBool) .no)), (9, some (.bool true))]) (fun _ => σ) (fun i => i ≤ aL.length) (fun i => aL.length - i) 0 ?_ ?_
              · (repeat' (first | simp (maxDischargeDepth := 9) -implicitDefEqProofs -dsimp only [go_sem, seval, *] | simp (disch := omega) only [wrap64, tmod2, xor1])) <;> (repeat' refine And.intro ?_ ?_) <;> (first | omega | rfl | assumption | skip)
              · intro i hi
                by_cases hlt : i < aL.length
                · have hx : aL[i] = false := q4 _ (List.getElem_mem hlt)
                  clear q4 hS2 r1
                  repeat' (first | simp (maxDischargeDepth := 9) -implicitDefEqProofs -dsimp only [go_sem, seval, *] | simp (disch := omega) only [wrap64, tmod2, xor1] | (with_reducible (first | apply Zf | apply Zs) <;> intro hq) | ((with_reducible refine Zv ?_ ?_); focus (first | omega | exact rfl)) | ((with_reducible refine Zu ?_ ?_); focus omega) | ((with_reducible refine Zt (fun oF hoF hnF hnF' => ?_)); clear hnF hnF'; (try simp only [Zw, ne_eq] at hoF)))
                  refine loop_next _ _ _ _ (i + 1) ?_; (repeat' (first | simp (maxDischargeDepth := 9) -implicitDefEqProofs -dsimp only [go_sem, seval, *] | simp (disch := omega) only [wrap64, tmod2, xor1])) <;> (repeat' refine And.intro ?_ ?_) <;> (first | omega | rfl | assumption | skip)
                · clear q4 hS2 r1
                  repeat' (first | simp (maxDischargeDepth := 9) -implicitDefEqProofs -dsimp only [go_sem, seval, *] | simp (disch := omega) only [wrap64, tmod2, xor1] | (with_reducible (first | apply Zf | apply Zs) <;> intro hq) | ((with_reducible refine Zv ?_ ?_); focus (first | omega | exact rfl)) | ((with_reducible refine Zu ?_ ?_); focus omega) | ((with_reducible refine Zt (fun oF hoF hnF hnF' => ?_)); clear hnF hnF'; (try simp only [Zw, ne_eq] at hoF)))
                  refine fin_eq ?_
                  (repeat' (first | simp (maxDischargeDepth := 9) -implicitDefEqProofs -dsimp only [go_sem, seval, *] | simp (disch := omega) only [wrap64, tmod2, xor1])) <;> (repeat' refine And.intro ?_ ?_) <;> (first | omega | rfl | assumption | skip)
        · clear hx1
          by_cases ho : g.outs = []
          · have hol : g.outs.length = 0 := by simp [ho]
            clear hout ho
            repeat' (first | simp (maxDischargeDepth := 9) -implicitDefEqProofs -dsimp only [go_sem, seval, gt_iff_lt, ge_iff_le, Nat.zero_add, flat_nil, List.nil_append, *] | simp (disch := omega) only [wrap64, tmod2, xor1] | (with_reducible (first | apply Zf | apply Zs) <;> intro hq) | ((with_reducible refine Zv ?_ ?_); focus (first | omega | exact rfl)) | ((with_reducible refine Zu ?_ ?_); focus omega) | ((with_reducible refine Zt (fun oF hoF hnF hnF' => ?_)); clear hnF hnF'; (try simp only [Zw, ne_eq] at hoF)) | ((with_reducible apply ACalls.one1); (focus ((first | with_reducible refine hCount _ | with_reducible refine hS _ | with_reducible refine ACalls.flA (hCount _) ?_ | with_reducible refine ACalls.flA (hS _) ?_) <;> (first | (simp (maxDischargeDepth := 9) -implicitDefEqProofs -dsimp only [go_sem, seval, *]; done) | omega))); (focus (first | trivial | with_reducible exact rfl | (simp (maxDischargeDepth := 9) -implicitDefEqProofs -dsimp only [go_sem, seval]; done)))))
            refine fin_eq ?_
            (repeat' (first | simp (maxDischargeDepth := 9) -implicitDefEqProofs -dsimp only [go_sem, seval, *] | simp (disch := omega) only [wrap64, tmod2, xor1])) <;> (repeat' refine And.intro ?_ ?_) <;> (first | omega | rfl | assumption | skip)
          · obtain ⟨aL, bL, j, x, q1, q2, q3, q4, r1, hx0, hxt, hjl, htm, hS2⟩ := hout ho
            have hfl2 : (flat (g.outs.map encInt)).length = g.outs.length := by rw [flat_map_len encInt 1 (fun _ => rfl)]; omega
            have hmo : g.outs.map encInt ≠ [] := by simpa using ho
            rw [hz, hE] at hS2
            clear hout
            repeat' (first | simp (maxDischargeDepth := 9) -implicitDefEqProofs -dsimp only [go_sem, seval, gt_iff_lt, ge_iff_le, Nat.zero_add, flat_nil, List.nil_append, *] | simp (disch := omega) only [wrap64, tmod2, xor1] | (with_reducible (first | apply Zf | apply Zs) <;> intro hq) | ((with_reducible refine Zv ?_ ?_); focus (first | omega | exact rfl)) | ((with_reducible refine Zu ?_ ?_); focus omega) | ((with_reducible refine Zt (fun oF hoF hnF hnF' => ?_)); clear hnF hnF'; (try simp only [Zw, ne_eq] at hoF)) | ((with_reducible apply ACalls.one1); (focus ((first | with_reducible refine hCount _ | with_reducible refine hS _ | with_reducible refine hS2 _ _ ?_ | with_reducible refine ACalls.flA (hCount _) ?_ | with_reducible refine ACalls.flA (hS _) ?_ | with_reducible refine ACalls.flA (hS2 _ _ ?_) ?_) <;> (first | (simp (maxDischargeDepth := 9) -implicitDefEqProofs -dsimp only [go_sem, seval, *]; done) | omega))); (focus (first | trivial | with_reducible exact rfl | (simp (maxDischargeDepth := 9) -implicitDefEqProofs -dsimp only [go_sem, seval]; done)))))
            all_goals first | exact absurd hq hmo | skip
            all_goals first | (exfalso; omega) | skip
            refine loop_rule (fun i : Nat => [(23, some (.int .i64 i)), (20, some (.slice (aL.map encBool) .no)), (9, some (.bool true))]) (fun _ => σ) (fun i => i ≤ aL.length) (fun i => aL.length - i) 0 ?_ ?_
            · (repeat' (first | simp (maxDischargeDepth := 9) -implicitDefEqProofs -dsimp only [go_sem, seval, *] | simp (disch := omega) only [wrap64, tmod2, xor1])) <;> (repeat' refine And.intro ?_ ?_) <;> (first | omega | rfl | assumption | skip)
            · intro i hi
              by_cases hlt : i < aL.length
              · have hx : aL[i] = false := q4 _ (List.getElem_mem hlt)
                clear q4 hS2 r1
                repeat' (first | simp (maxDischargeDepth := 9) -implicitDefEqProofs -dsimp only [go_sem, seval, *] | simp (disch := omega) only [wrap64, tmod2, xor1] | (with_reducible (first | apply Zf | apply Zs) <;> intro hq) | ((with_reducible refine Zv ?_ ?_); focus (first | omega | exact rfl)) | ((with_reducible refine Zu ?_ ?_); focus omega) | ((with_reducible refine Zt (fun oF hoF hnF hnF' => ?_)); clear hnF hnF'; (try simp only [Zw, ne_eq] at hoF)))
                refine loop_next _ _ _ _ (i + 1) ?_; (repeat' (first | simp (maxDischargeDepth := 9) -implicitDefEqProofs -dsimp only [go_sem, seval, *] | simp (disch := omega) only [wrap64, tmod2, xor1])) <;> (repeat' refine And.intro ?_ ?_) <;> (first | omega | rfl | assumption | skip)
              · clear q4 hS2 r1
                repeat' (first | simp (maxDischargeDepth := 9) -implicitDefEqProofs -dsimp only [go_sem, seval, *] | simp (disch := omega) only [wrap64, tmod2, xor1] | (with_reducible (first | apply Zf | apply Zs) <;> intro hq) | ((with_reducible refine Zv ?_ ?_); focus (first | omega | exact rfl)) | ((with_reducible refine Zu ?_ ?_); focus omega) | ((with_reducible refine Zt (fun oF hoF hnF hnF' => ?_)); clear hnF hnF'; (try simp only [Zw, ne_eq] at hoF)))
                refine fin_eq ?_
                (repeat' (first | simp (maxDischargeDepth := 9) -implicitDefEqProofs -dsimp only [go_sem, seval, *] | simp (disch := omega) only [wrap64, tmod2, xor1])) <;> (repeat' refine And.intro ?_ ?_) <;> (first | omega | rfl | assumption | skip)
  · have hne : g.ands.map encGate ≠ [] := by simpa using he
    repeat' (first | simp (maxDischargeDepth := 9) -implicitDefEqProofs -dsimp only [go_sem, seval, Nat.zero_add, flat_nil, List.nil_append, *] | simp (disch := omega) only [wrap64, tmod2, xor1] | (with_reducible (first | apply Zf | apply Zs) <;> intro hq) | ((with_reducible refine Zv ?_ ?_); focus (first | omega | exact rfl)) | ((with_reducible refine Zu ?_ ?_); focus omega) | ((with_reducible refine Zt (fun oF hoF hnF hnF' => ?_)); clear hnF hnF'; (try simp only [Zw, ne_eq] at hoF)) | ((with_reducible apply ACalls.one1); (focus ((first | with_reducible refine law_live _ | with_reducible refine law_few g _ | with_reducible refine A.ref_Check g _ hwg | with_reducible refine ACalls.flA (law_live _) ?_ | with_reducible refine ACalls.flA (law_few g _) ?_ | with_reducible refine ACalls.flA (A.ref_Check g _ hwg) ?_) <;> (first | (simp (maxDischargeDepth := 9) -implicitDefEqProofs -dsimp only [go_sem, seval, *]; done) | omega))); (focus (first | trivial | with_reducible exact rfl | (simp (maxDischargeDepth := 9) -implicitDefEqProofs -dsimp only [go_sem, seval]; done)))))
    · exact absurd hq hne
    clear hq hne he
    rename_i oH hH
    obtain ⟨oV, eV⟩ : ∃ x, x = oF := ⟨oF, rfl⟩
    subst eV
    refine loop_rule (fun x : Nat × List (Int × Int) => [(11, some (.int .i64 x.1)), (10, some (.ptr oH 0)), (1, some (.int .u8 k)), (4, some (.cptr (aigL g))), (2, some (.int .i64 a)), (3, some (.int .i64 b)), (9, some (.bool true))])
      (fun x => upd (upd σ oH (.cells [.int .i64 g.ins, .slice (g.flops.map encFlop) .no, .vec oV n, .slice (g.outs.map encInt) .no])) oV (.vec 2 n (flat (x.2.map encGate)))) (fun x => x.1 ≤ n ∧ SwL g.ands x.2) (fun x => n - x.1) (0, g.ands) ?_ ?_
    · have := swl_refl g.ands
      (repeat' (first | simp (maxDischargeDepth := 9) -implicitDefEqProofs -dsimp only [go_sem, seval, *] | simp (disch := omega) only [wrap64, tmod2, xor1])) <;> (repeat' refine And.intro ?_ ?_) <;> (first | omega | rfl | assumption | skip)
    · rintro ⟨i, m⟩ ⟨hi, hm⟩
      simp only at hi hm ⊢
      have hml : m.length = n := by rw [swl_len hm, hn]
      have hfl := flat_map_len encGate 2 (fun _ => rfl) m
      rw [hml] at hfl
      by_cases hlt : i < n
      · have hlt' : (i : Int) < n := by omega
        have him : i < m.length := by omega
        have r1 : (((flat (m.map encGate)).drop (i * 2 + 1)).take 1).head? = some (.int .i64 m[i].2) := mkv_one (flat_get encGate 2 (fun _ => rfl) m i 1 him (by omega))
        have r0 : (((flat (m.map encGate)).drop (i * 2 + 0)).take 1).head? = some (.int .i64 m[i].1) := mkv_one (flat_get encGate 2 (fun _ => rfl) m i 0 him (by omega))
        have hw : List.take (i * 2) (flat (m.map encGate)) ++ [.int .i64 m[i].2, .int .i64 m[i].1] ++ List.drop (i * 2 + 2) (flat (m.map encGate)) = flat ((m.set i (m[i].2, m[i].1)).map encGate) := flat_set encGate 2 (fun _ => rfl) (m[i].2, m[i].1) m i him
        have hs := swl_set (y := m[i]) hm (List.getElem?_eq_getElem him)
        obtain ⟨u, hu⟩ : ∃ u, m[i].1 = u := ⟨_, rfl⟩
        obtain ⟨v, hv⟩ : ∃ v, m[i].2 = v := ⟨_, rfl⟩
        rw [hu, hv] at hw hs
        rw [hv] at r1
        rw [hu] at r0
        cases hp : ((i : Int) % 2 == k % 2) with
        | true =>
          repeat' (first | simp (maxDischargeDepth := 9) -implicitDefEqProofs -dsimp only [go_sem, seval, *] | simp (disch := omega) only [wrap64, tmod2, xor1] | (with_reducible (first | apply Zf | apply Zs) <;> intro hq) | ((with_reducible refine Zv ?_ ?_); focus (first | omega | exact rfl)) | ((with_reducible refine Zu ?_ ?_); focus omega) | ((with_reducible refine Zt (fun oF hoF hnF hnF' => ?_)); clear hnF hnF'; (try simp only [Zw, ne_eq] at hoF)))
          refine loop_next _ _ _ _ ((i + 1, m.set i (v, u))) ?_; (repeat' (first | simp (maxDischargeDepth := 9) -implicitDefEqProofs -dsimp only [go_sem, seval, *] | simp (disch := omega) only [wrap64, tmod2, xor1])) <;> (repeat' refine And.intro ?_ ?_) <;> (first | omega | rfl | assumption | skip)
        | false =>
          repeat' (first | simp (maxDischargeDepth := 9) -implicitDefEqProofs -dsimp only [go_sem, seval, *] | simp (disch := omega) only [wrap64, tmod2, xor1] | (with_reducible (first | apply Zf | apply Zs) <;> intro hq) | ((with_reducible refine Zv ?_ ?_); focus (first | omega | exact rfl)) | ((with_reducible refine Zu ?_ ?_); focus omega) | ((with_reducible refine Zt (fun oF hoF hnF hnF' => ?_)); clear hnF hnF'; (try simp only [Zw, ne_eq] at hoF)))
          refine loop_next _ _ _ _ ((i + 1, m)) ?_; (repeat' (first | simp (maxDischargeDepth := 9) -implicitDefEqProofs -dsimp only [go_sem, seval, *] | simp (disch := omega) only [wrap64, tmod2, xor1])) <;> (repeat' refine And.intro ?_ ?_) <;> (first | omega | rfl | assumption | skip)
      · have hi' : ¬ (i : Int) < n := by omega
        have h1 := fun hx => own_ok ok f2 (ex := []) hm hx
        have hal : (a < 2 * N ∧ b < 2 * N) → 0 ≤ a → 0 ≤ b → g.lit a = true ∧ g.lit b = true := fun h c d => by
          simp only [Aig.lit, litN_iff]; omega
        by_cases hx : (0 ≤ a ∧ 0 ≤ b) ∧ (a < 2 * N ∧ b < 2 * N)
        · obtain ⟨⟨x1, x2⟩, x3, x4⟩ := hx
          have x5 := hal ⟨x3, x4⟩ x1 x2
          obtain ⟨t, hso⟩ := own_ok ok f2 (ex := [(a, b)]) hm (.inr ⟨a, b, rfl, x5.1, x5.2⟩)
          have hS := same_gates g _ t oV (n + 1) (by simp [hml]) (flat (m.map encGate) ++ flat [.agg [.int .i64 a, .int .i64 b]]) (by simp [flat])
          rw [hso] at hS
          clear hso t h1 hal hm hlt hi
          by_cases ho : g.outs = []
          · have hol : g.outs.length = 0 := by simp [ho]
            clear hout ho
            repeat' (first | simp (maxDischargeDepth := 9) -implicitDefEqProofs -dsimp only [go_sem, seval, gt_iff_lt, ge_iff_le, List.map_append, List.map_cons, List.map_nil, Nat.zero_add, flat_nil, List.nil_append, *] | simp (disch := omega) only [wrap64, tmod2, xor1] | (with_reducible (first | apply Zf | apply Zs) <;> intro hq) | ((with_reducible refine Zv ?_ ?_); focus (first | omega | exact rfl)) | ((with_reducible refine Zu ?_ ?_); focus omega) | ((with_reducible refine Zt (fun oF hoF hnF hnF' => ?_)); clear hnF hnF'; (try simp only [Zw, ne_eq] at hoF)) | ((with_reducible apply ACalls.one1); (focus ((first | with_reducible refine hCount _ | with_reducible refine hS _ ?_ | with_reducible refine ACalls.flA (hCount _) ?_ | with_reducible refine ACalls.flA (hS _ ?_) ?_) <;> (first | (simp (maxDischargeDepth := 9) -implicitDefEqProofs -dsimp only [go_sem, seval, *]; done) | omega))); (focus (first | trivial | with_reducible exact rfl | (simp (maxDischargeDepth := 9) -implicitDefEqProofs -dsimp only [go_sem, seval]; done)))))
            refine fin_eq ?_
            (repeat' (first | simp (maxDischargeDepth := 9) -implicitDefEqProofs -dsimp only [go_sem, seval, *] | simp (disch := omega) only [wrap64, tmod2, xor1])) <;> (repeat' refine And.intro ?_ ?_) <;> (first | omega | rfl | assumption | skip)
          · obtain ⟨aL, bL, j, x, q1, q2, q3, q4, r1, hx0, hxt, hjl, htm, hS2⟩ := hout ho
            have hfl2 : (flat (g.outs.map encInt)).length = g.outs.length := by rw [flat_map_len encInt 1 (fun _ => rfl)]; omega
            have hmo : g.outs.map encInt ≠ [] := by simpa using ho
            clear hout
            repeat' (first | simp (maxDischargeDepth := 9) -implicitDefEqProofs -dsimp only [go_sem, seval, gt_iff_lt, ge_iff_le, List.map_append, List.map_cons, List.map_nil, Nat.zero_add, flat_nil, List.nil_append, *] | simp (disch := omega) only [wrap64, tmod2, xor1] | (with_reducible (first | apply Zf | apply Zs) <;> intro hq) | ((with_reducible refine Zv ?_ ?_); focus (first | omega | exact rfl)) | ((with_reducible refine Zu ?_ ?_); focus omega) | ((with_reducible refine Zt (fun oF hoF hnF hnF' => ?_)); clear hnF hnF'; (try simp only [Zw, ne_eq] at hoF)) | ((with_reducible apply ACalls.one1); (focus ((first | with_reducible refine hCount _ | with_reducible refine hS _ ?_ | with_reducible refine hS2 _ _ ?_ | with_reducible refine ACalls.flA (hCount _) ?_ | with_reducible refine ACalls.flA (hS _ ?_) ?_ | with_reducible refine ACalls.flA (hS2 _ _ ?_) ?_) <;> (first | (simp (maxDischargeDepth := 9) -implicitDefEqProofs -dsimp only [go_sem, seval, *]; done) | omega))); (focus (first | trivial | with_reducible exact rfl | (simp (maxDischargeDepth := 9) -implicitDefEqProofs -dsimp only [go_sem, seval]; done)))))
            all_goals first | exact absurd hq hmo | skip
            all_goals first | (exfalso; omega) | skip
            refine loop_rule (fun i : Nat => [(23, some (.int .i64 i)), (20, some (.slice (aL.map encBool) .no)), (9, some (.bool true))]) (fun _ => σ) (fun i => i ≤ aL.length) (fun i => aL.length - i) 0 ?_ ?_
            · (repeat' (first | simp (maxDischargeDepth := 9) -implicitDefEqProofs -dsimp only [go_sem, seval, *] | simp (disch := omega) only [wrap64, tmod2, xor1])) <;> (repeat' refine And.intro ?_ ?_) <;> (first | omega | rfl | assumption | skip)
            · intro i hi
              by_cases hlt : i < aL.length
              · have hx : aL[i] = false := q4 _ (List.getElem_mem hlt)
                clear q4 hS2 r1
                repeat' (first | simp (maxDischargeDepth := 9) -implicitDefEqProofs -dsimp only [go_sem, seval, *] | simp (disch := omega) only [wrap64, tmod2, xor1] | (with_reducible (first | apply Zf | apply Zs) <;> intro hq) | ((with_reducible refine Zv ?_ ?_); focus (first | omega | exact rfl)) | ((with_reducible refine Zu ?_ ?_); focus omega) | ((with_reducible refine Zt (fun oF hoF hnF hnF' => ?_)); clear hnF hnF'; (try simp only [Zw, ne_eq] at hoF)))
                refine loop_next _ _ _ _ (i + 1) ?_; (repeat' (first | simp (maxDischargeDepth := 9) -implicitDefEqProofs -dsimp only [go_sem, seval, *] | simp (disch := omega) only [wrap64, tmod2, xor1])) <;> (repeat' refine And.intro ?_ ?_) <;> (first | omega | rfl | assumption | skip)
              · clear q4 hS2 r1
                repeat' (first | simp (maxDischargeDepth := 9) -implicitDefEqProofs -dsimp only [go_sem, seval, *] | simp (disch := omega) only [wrap64, tmod2, xor1] | (with_reducible (first | apply Zf | apply Zs) <;> intro hq) | ((with_reducible refine Zv ?_ ?_); focus (first | omega | exact rfl)) | ((with_reducible refine Zu ?_ ?_); focus omega) | ((with_reducible refine Zt (fun oF hoF hnF hnF' => ?_)); clear hnF hnF'; (try simp only [Zw, ne_eq] at hoF)))
                refine fin_eq ?_
                (repeat' (first | simp (maxDischargeDepth := 9) -implicitDefEqProofs -dsimp only [go_sem, seval, *] | simp (disch := omega) only [wrap64, tmod2, xor1])) <;> (repeat' refine And.intro ?_ ?_) <;> (first | omega | rfl | assumption | skip)
        · obtain ⟨t, hso⟩ := h1 (.inl rfl)
          have hS := same_gates g _ t oV n (by simp [hml]) (flat (m.map encGate)) (by simp)
          rw [hso] at hS
          have hx1 : ¬ ((0 ≤ a ∧ 0 ≤ b) ∧ (a < 2 * N ∧ b < 2 * N)) := hx
          clear hso t h1 hal hm hlt hi hx
          by_cases x1 : 0 ≤ a
          · by_cases x2 : 0 ≤ b
            · by_cases x3 : a < 2 * N
              · have x4 : ¬ b < 2 * N := by omega
                clear hx1
                by_cases ho : g.outs = []
                · have hol : g.outs.length = 0 := by simp [ho]
                  clear hout ho
                  repeat' (first | simp (maxDischargeDepth := 9) -implicitDefEqProofs -dsimp only [go_sem, seval, gt_iff_lt, ge_iff_le, List.map_append, List.map_cons, List.map_nil, Nat.zero_add, flat_nil, List.nil_append, *] | simp (disch := omega) only [wrap64, tmod2, xor1] | (with_reducible (first | apply Zf | apply Zs) <;> intro hq) | ((with_reducible refine Zv ?_ ?_); focus (first | omega | exact rfl)) | ((with_reducible refine Zu ?_ ?_); focus omega) | ((with_reducible refine Zt (fun oF hoF hnF hnF' => ?_)); clear hnF hnF'; (try simp only [Zw, ne_eq] at hoF)) | ((with_reducible apply ACalls.one1); (focus ((first | with_reducible refine hCount _ | with_reducible refine hS _ ?_ | with_reducible refine ACalls.flA (hCount _) ?_ | with_reducible refine ACalls.flA (hS _ ?_) ?_) <;> (first | (simp (maxDischargeDepth := 9) -implicitDefEqProofs -dsimp only [go_sem, seval, *]; done) | omega))); (focus (first | trivial | with_reducible exact rfl | (simp (maxDischargeDepth := 9) -implicitDefEqProofs -dsimp only [go_sem, seval]; done)))))
                  refine fin_eq ?_
                  (repeat' (first | simp (maxDischargeDepth := 9) -implicitDefEqProofs -dsimp only [go_sem, seval, *] | simp (disch := omega) only [wrap64, tmod2, xor1])) <;> (repeat' refine And.intro ?_ ?_) <;> (first | omega | rfl | assumption | skip)
                · obtain ⟨aL, bL, j, x, q1, q2, q3, q4, r1, hx0, hxt, hjl, htm, hS2⟩ := hout ho
                  have hfl2 : (flat (g.outs.map encInt)).length = g.outs.length := by rw [flat_map_len encInt 1 (fun _ => rfl)]; omega
                  have hmo : g.outs.map encInt ≠ [] := by simpa using ho
                  clear hout
                  repeat' (first | simp (maxDischargeDepth := 9) -implicitDefEqProofs -dsimp only [go_sem, seval, gt_iff_lt, ge_iff_le, List.map_append, List.map_cons, List.map_nil, Nat.zero_add, flat_nil, List.nil_append, *] | simp (disch := omega) only [wrap64, tmod2, xor1] | (with_reducible (first | apply Zf | apply Zs) <;> intro hq) | ((with_reducible refine Zv ?_ ?_); focus (first | omega | exact rfl)) | ((with_reducible refine Zu ?_ ?_); focus omega) | ((with_reducible refine Zt (fun oF hoF hnF hnF' => ?_)); clear hnF hnF'; (try simp only [Zw, ne_eq] at hoF)) | ((with_reducible apply ACalls.one1); (focus ((first | with_reducible refine hCount _ | with_reducible refine hS _ ?_ | with_reducible refine hS2 _ _ ?_ | with_reducible refine ACalls.flA (hCount _) ?_ | with_reducible refine ACalls.flA (hS _ ?_) ?_ | with_reducible refine ACalls.flA (hS2 _ _ ?_) ?_) <;> (first | (simp (maxDischargeDepth := 9) -implicitDefEqProofs -dsimp only [go_sem, seval, *]; done) | omega))); (focus (first | trivial | with_reducible exact rfl | (simp (maxDischargeDepth := 9) -implicitDefEqProofs -dsimp only [go_sem, seval]; done)))))
                  all_goals first | exact absurd hq hmo | skip
                  all_goals first | (exfalso; omega) | skip
                  refine loop_rule (fun i : Nat => [(23, some (.int .i64 i)), (20, some (.slice (aL.map encBool) .no)), (9, some (.bool true))]) (fun _ => σ) (fun i => i ≤ aL.length) (fun i => aL.length - i) 0 ?_ ?_
                  · (repeat' (first | simp (maxDischargeDepth := 9) -implicitDefEqProofs -dsimp only [go_sem, seval, *] | simp (disch := omega) only [wrap64, tmod2, xor1])) <;> (repeat' refine And.intro ?_ ?_) <;> (first | omega | rfl | assumption | skip)
                  · intro i hi
                    by_cases hlt : i < aL.length
                    · have hx : aL[i] = false := q4 _ (List.getElem_mem hlt)
                      clear q4 hS2 r1
                      repeat' (first | simp (maxDischargeDepth := 9) -implicitDefEqProofs -dsimp only [go_sem, seval, *] | simp (disch := omega) only [wrap64, tmod2, xor1] | (with_reducible (first | apply Zf | apply Zs) <;> intro hq) | ((with_reducible refine Zv ?_ ?_); focus (first | omega | exact rfl)) | ((with_reducible refine Zu ?_ ?_); focus omega) | ((with_reducible refine Zt (fun oF hoF hnF hnF' => ?_)); clear hnF hnF'; (try simp only [Zw, ne_eq] at hoF)))
                      refine loop_next _ _ _ _ (i + 1) ?_; (repeat' (first | simp (maxDischargeDepth := 9) -implicitDefEqProofs -dsimp only [go_sem, seval, *] | simp (disch := omega) only [wrap64, tmod2, xor1])) <;> (repeat' refine And.intro ?_ ?_) <;> (first | omega | rfl | assumption | skip)
                    · clear q4 hS2 r1
                      repeat' (first | simp (maxDischargeDepth := 9) -implicitDefEqProofs -dsimp only [go_sem, seval, *] | simp (disch := omega) only [wrap64, tmod2, xor1] | (with_reducible (first | apply Zf | apply Zs) <;> intro hq) | ((with_reducible refine Zv ?_ ?_); focus (first | omega | exact rfl)) | ((with_reducible refine Zu ?_ ?_); focus omega) | ((with_reducible refine Zt (fun oF hoF hnF hnF' => ?_)); clear hnF hnF'; (try simp only [Zw, ne_eq] at hoF)))
                      refine fin_eq ?_
                      (repeat' (first | simp (maxDischargeDepth := 9) -implicitDefEqProofs -dsimp only [go_sem, seval, *] | simp (disch := omega) only [wrap64, tmod2, xor1])) <;> (repeat' refine And.intro ?_ ?_) <;> (first | omega | rfl | assumption | skip)
              · clear hx1
                by_cases ho : g.outs = []
                · have hol : g.outs.length = 0 := by simp [ho]
                  clear hout ho
                  repeat' (first | simp (maxDischargeDepth := 9) -implicitDefEqProofs -dsimp only [go_sem, seval, gt_iff_lt, ge_iff_le, List.map_append, List.map_cons, List.map_nil, Nat.zero_add, flat_nil, List.nil_append, *] | simp (disch := omega) only [wrap64, tmod2, xor1] | (with_reducible (first | apply Zf | apply Zs) <;> intro hq) | ((with_reducible refine Zv ?_ ?_); focus (first | omega | exact rfl)) | ((with_reducible refine Zu ?_ ?_); focus omega) | ((with_reducible refine Zt (fun oF hoF hnF hnF' => ?_)); clear hnF hnF'; (try simp only [Zw, ne_eq] at hoF)) | ((with_reducible apply ACalls.one1); (focus ((first | with_reducible refine hCount _ | with_reducible refine hS _ ?_ | with_reducible refine ACalls.flA (hCount _) ?_ | with_reducible refine ACalls.flA (hS _ ?_) ?_) <;> (first | (simp (maxDischargeDepth := 9) -implicitDefEqProofs -dsimp only [go_sem, seval, *]; done) | omega))); (focus (first | trivial | with_reducible exact rfl | (simp (maxDischargeDepth := 9) -implicitDefEqProofs -dsimp only [go_sem, seval]; done)))))
                  refine fin_eq ?_
                  (repeat' (first | simp (maxDischargeDepth := 9) -implicitDefEqProofs -dsimp only [go_sem, seval, *] | simp (disch := omega) only [wrap64, tmod2, xor1])) <;> (repeat' refine And.intro ?_ ?_) <;> (first | omega | rfl | assumption | skip)
                · obtain ⟨aL, bL, j, x, q1, q2, q3, q4, r1, hx0, hxt, hjl, htm, hS2⟩ := hout ho
                  have hfl2 : (flat (g.outs.map encInt)).length = g.outs.length := by rw [flat_map_len encInt 1 (fun _ => rfl)]; omega
                  have hmo : g.outs.map encInt ≠ [] := by simpa using ho
                  clear hout
                  repeat' (first | simp (maxDischargeDepth := 9) -implicitDefEqProofs -dsimp only [go_sem, seval, gt_iff_lt, ge_iff_le, List.map_append, List.map_cons, List.map_nil, Nat.zero_add, flat_nil, List.nil_append, *] | simp (disch := omega) only [wrap64, tmod2, xor1] | (with_reducible (first | apply Zf | apply Zs) <;> intro hq) | ((with_reducible refine Zv ?_ ?_); focus (first | omega | exact rfl)) | ((with_reducible refine Zu ?_ ?_); focus omega) | ((with_reducible refine Zt (fun oF hoF hnF hnF' => ?_)); clear hnF hnF'; (try simp only [Zw, ne_eq] at hoF)) | ((with_reducible apply ACalls.one1); (focus ((first | with_reducible refine hCount _ | with_reducible refine hS _ ?_ | with_reducible refine hS2 _ _ ?_ | with_reducible refine ACalls.flA (hCount _) ?_ | with_reducible refine ACalls.flA (hS _ ?_) ?_ | with_reducible refine ACalls.flA (hS2 _ _ ?_) ?_) <;> (first | (simp (maxDischargeDepth := 9) -implicitDefEqProofs -dsimp only [go_sem, seval, *]; done) | omega))); (focus (first | trivial | with_reducible exact rfl | (simp (maxDischargeDepth := 9) -implicitDefEqProofs -dsimp only [go_sem, seval]; done)))))
                  all_goals first | exact absurd hq hmo | skip
                  all_goals first | (exfalso; omega) | skip
                  refine loop_rule (fun i : Nat => [(23, some (.int .i64 i)), (20, some (.slice (aL.map encBool) .no)), (9, some (.bool true))]) (fun _ => σ) (fun i => i ≤ aL.length) (fun i => aL.length - i) 0 ?_ ?_
                  · (repeat' (first | simp (maxDischargeDepth := 9) -implicitDefEqProofs -dsimp only [go_sem, seval, *] | simp (disch := omega) only [wrap64, tmod2, xor1])) <;> (repeat' refine And.intro ?_ ?_) <;> (first | omega | rfl | assumption | skip)
                  · intro i hi
                    by_cases hlt : i < aL.length
                    · have hx : aL[i] = false := q4 _ (List.getElem_mem hlt)
                      clear q4 hS2 r1
                      repeat' (first | simp (maxDischargeDepth := 9) -implicitDefEqProofs -dsimp only [go_sem, seval, *] | simp (disch := omega) only [wrap64, tmod2, xor1] | (with_reducible (first | apply Zf | apply Zs) <;> intro hq) | ((with_reducible refine Zv ?_ ?_); focus (first | omega | exact rfl)) | ((with_reducible refine Zu ?_ ?_); focus omega) | ((with_reducible refine Zt (fun oF hoF hnF hnF' => ?_)); clear hnF hnF'; (try simp only [Zw, ne_eq] at hoF)))
                      refine loop_next _ _ _ _ (i + 1) ?_; (repeat' (first | simp (maxDischargeDepth := 9) -implicitDefEqProofs -dsimp only [go_sem, seval, *] | simp (disch := omega) only [wrap64, tmod2, xor1])) <;> (repeat' refine And.intro ?_ ?_) <;> (first | omega | rfl | assumption | skip)
                    · clear q4 hS2 r1
                      repeat' (first | simp (maxDischargeDepth := 9) -implicitDefEqProofs -dsimp only [go_sem, seval, *] | simp (disch := omega) only [wrap64, tmod2, xor1] | (with_reducible (first | apply Zf | apply Zs) <;> intro hq) | ((with_reducible refine Zv ?_ ?_); focus (first | omega | exact rfl)) | ((with_reducible refine Zu ?_ ?_); focus omega) | ((with_reducible refine Zt (fun oF hoF hnF hnF' => ?_)); clear hnF hnF'; (try simp only [Zw, ne_eq] at hoF)))
                      refine fin_eq ?_
                      (repeat' (first | simp (maxDischargeDepth := 9) -implicitDefEqProofs -dsimp only [go_sem, seval, *] | simp (disch := omega) only [wrap64, tmod2, xor1])) <;> (repeat' refine And.intro ?_ ?_) <;> (first | omega | rfl | assumption | skip)
            · clear hx1
              by_cases ho : g.outs = []
              · have hol : g.outs.length = 0 := by simp [ho]
                clear hout ho
                repeat' (first | simp (maxDischargeDepth := 9) -implicitDefEqProofs -dsimp only [go_sem, seval, gt_iff_lt, ge_iff_le, List.map_append, List.map_cons, List.map_nil, Nat.zero_add, flat_nil, List.nil_append, *] | simp (disch := omega) only [wrap64, tmod2, xor1] | (with_reducible (first | apply Zf | apply Zs) <;> intro hq) | ((with_reducible refine Zv ?_ ?_); focus (first | omega | exact rfl)) | ((with_reducible refine Zu ?_ ?_); focus omega) | ((with_reducible refine Zt (fun oF hoF hnF hnF' => ?_)); clear hnF hnF'; (try simp only [Zw, ne_eq] at hoF)) | ((with_reducible apply ACalls.one1); (focus ((first | with_reducible refine hCount _ | with_reducible refine hS _ ?_ | with_reducible refine ACalls.flA (hCount _) ?_ | with_reducible refine ACalls.flA (hS _ ?_) ?_) <;> (first | (simp (maxDischargeDepth := 9) -implicitDefEqProofs -dsimp only [go_sem, seval, *]; done) | omega))); (focus (first | trivial | with_reducible exact rfl | (simp (maxDischargeDepth := 9) -implicitDefEqProofs -dsimp only [go_sem, seval]; done)))))
                refine fin_eq ?_
                (repeat' (first | simp (maxDischargeDepth := 9) -implicitDefEqProofs -dsimp only [go_sem, seval, *] | simp (disch := omega) only [wrap64, tmod2, xor1])) <;> (repeat' refine And.intro ?_ ?_) <;> (first | omega | rfl | assumption | skip)
              · obtain ⟨aL, bL, j, x, q1, q2, q3, q4, r1, hx0, hxt, hjl, htm, hS2⟩ := hout ho
                have hfl2 : (flat (g.outs.map encInt)).length = g.outs.length := by rw [flat_map_len encInt 1 (fun _ => rfl)]; omega
                have hmo : g.outs.map encInt ≠ [] := by simpa using ho
                clear hout
                repeat' (first | simp (maxDischargeDepth := 9) -implicitDefEqProofs -dsimp only [go_sem, seval, gt_iff_lt, ge_iff_le, List.map_append, List.map_cons, List.map_nil, Nat.zero_add, flat_nil, List.nil_append, *] | simp (disch := omega) only [wrap64, tmod2, xor1] | (with_reducible (first | apply Zf | apply Zs) <;> intro hq) | ((with_reducible refine Zv ?_ ?_); focus (first | omega | exact rfl)) | ((with_reducible refine Zu ?_ ?_); focus omega) | ((with_reducible refine Zt (fun oF hoF hnF hnF' => ?_)); clear hnF hnF'; (try simp only [Zw, ne_eq] at hoF)) | ((with_reducible apply ACalls.one1); (focus ((first | with_reducible refine hCount _ | with_reducible refine hS _ ?_ | with_reducible refine hS2 _ _ ?_ | with_reducible refine ACalls.flA (hCount _) ?_ | with_reducible refine ACalls.flA (hS _ ?_) ?_ | with_reducible refine ACalls.flA (hS2 _ _ ?_) ?_) <;> (first | (simp (maxDischargeDepth := 9) -implicitDefEqProofs -dsimp only [go_sem, seval, *]; done) | omega))); (focus (first | trivial | with_reducible exact rfl | (simp (maxDischargeDepth := 9) -implicitDefEqProofs -dsimp only [go_sem, seval]; done)))))
                all_goals first | exact absurd hq hmo | skip
                all_goals first | (exfalso; omega) | skip
                refine loop_rule (fun i : Nat => [(23, some (.int .i64 i)), (20, some (.slice (aL.map encBool) .no)), (9, some (.bool true))]) (fun _ => σ) (fun i => i ≤ aL.length) (fun i => aL.length - i) 0 ?_ ?_
                · (repeat' (first | simp (maxDischargeDepth := 9) -implicitDefEqProofs -dsimp only [go_sem, seval, *] | simp (disch := omega) only [wrap64, tmod2, xor1])) <;> (repeat' refine And.intro ?_ ?_) <;> (first | omega | rfl | assumption | skip)
                · intro i hi
                  by_cases hlt : i < aL.length
                  · have hx : aL[i] = false := q4 _ (List.getElem_mem hlt)
                    clear q4 hS2 r1
                    repeat' (first | simp (maxDischargeDepth := 9) -implicitDefEqProofs -dsimp only [go_sem, seval, *] | simp (disch := omega) only [wrap64, tmod2, xor1] | (with_reducible (first | apply Zf | apply Zs) <;> intro hq) | ((with_reducible refine Zv ?_ ?_); focus (first | omega | exact rfl)) | ((with_reducible refine Zu ?_ ?_); focus omega) | ((with_reducible refine Zt (fun oF hoF hnF hnF' => ?_)); clear hnF hnF'; (try simp only [Zw, ne_eq] at hoF)))
                    refine loop_next _ _ _ _ (i + 1) ?_; (repeat' (first | simp (maxDischargeDepth := 9) -implicitDefEqProofs -dsimp only [go_sem, seval, *] | simp (disch := omega) only [wrap64, tmod2, xor1])) <;> (repeat' refine And.intro ?_ ?_) <;> (first | omega | rfl | assumption | skip)
                  · clear q4 hS2 r1
                    repeat' (first | simp (maxDischargeDepth := 9) -implicitDefEqProofs -dsimp only [go_sem, seval, *] | simp (disch := omega) only [wrap64, tmod2, xor1] | (with_reducible (first | apply Zf | apply Zs) <;> intro hq) | ((with_reducible refine Zv ?_ ?_); focus (first | omega | exact rfl)) | ((with_reducible refine Zu ?_ ?_); focus omega) | ((with_reducible refine Zt (fun oF hoF hnF hnF' => ?_)); clear hnF hnF'; (try simp only [Zw, ne_eq] at hoF)))
                    refine fin_eq ?_
                    (repeat' (first | simp (maxDischargeDepth := 9) -implicitDefEqProofs -dsimp only [go_sem, seval, *] | simp (disch := omega) only [wrap64, tmod2, xor1])) <;> (repeat' refine And.intro ?_ ?_) <;> (first | omega | rfl | assumption | skip)
          · clear hx1
            by_cases ho : g.outs = []
            · have hol : g.outs.length = 0 := by simp [ho]
              clear hout ho
              repeat' (first | simp (maxDischargeDepth := 9) -implicitDefEqProofs -dsimp only [go_sem, seval, gt_iff_lt, ge_iff_le, List.map_append, List.map_cons, List.map_nil, Nat.zero_add, flat_nil, List.nil_append, *] | simp (disch := omega) only [wrap64, tmod2, xor1] | (with_reducible (first | apply Zf | apply Zs) <;> intro hq) | ((with_reducible refine Zv ?_ ?_); focus (first | omega | exact rfl)) | ((with_reducible refine Zu ?_ ?_); focus omega) | ((with_reducible refine Zt (fun oF hoF hnF hnF' => ?_)); clear hnF hnF'; (try simp only [Zw, ne_eq] at hoF)) | ((with_reducible apply ACalls.one1); (focus ((first | with_reducible refine hCount _ | with_reducible refine hS _ ?_ | with_reducible refine ACalls.flA (hCount _) ?_ | with_reducible refine ACalls.flA (hS _ ?_) ?_) <;> (first | (simp (maxDischargeDepth := 9) -implicitDefEqProofs -dsimp only [go_sem, seval, *]; done) | omega))); (focus (first | trivial | with_reducible exact rfl | (simp (maxDischargeDepth := 9) -implicitDefEqProofs -dsimp only [go_sem, seval]; done)))))
              refine fin_eq ?_
              (repeat' (first | simp (maxDischargeDepth := 9) -implicitDefEqProofs -dsimp only [go_sem, seval, *] | simp (disch := omega) only [wrap64, tmod2, xor1])) <;> (repeat' refine And.intro ?_ ?_) <;> (first | omega | rfl | assumption | skip)
            · obtain ⟨aL, bL, j, x, q1, q2, q3, q4, r1, hx0, hxt, hjl, htm, hS2⟩ := hout ho
              have hfl2 : (flat (g.outs.map encInt)).length = g.outs.length := by rw [flat_map_len encInt 1 (fun _ => rfl)]; omega
              have hmo : g.outs.map encInt ≠ [] := by simpa using ho
              clear hout
              repeat' (first | simp (maxDischargeDepth := 9) -implicitDefEqProofs -dsimp only [go_sem, seval, gt_iff_lt, ge_iff_le, List.map_append, List.map_cons, List.map_nil, Nat.zero_add, flat_nil, List.nil_append, *] | simp (disch := omega) only [wrap64, tmod2, xor1] | (with_reducible (first | apply Zf | apply Zs) <;> intro hq) | ((with_reducible refine Zv ?_ ?_); focus (first | omega | exact rfl)) | ((with_reducible refine Zu ?_ ?_); focus omega) | ((with_reducible refine Zt (fun oF hoF hnF hnF' => ?_)); clear hnF hnF'; (try simp only [Zw, ne_eq] at hoF)) | ((with_reducible apply ACalls.one1); (focus ((first | with_reducible refine hCount _ | with_reducible refine hS _ ?_ | with_reducible refine hS2 _ _ ?_ | with_reducible refine ACalls.flA (hCount _) ?_ | with_reducible refine ACalls.flA (hS _ ?_) ?_ | with_reducible refine ACalls.flA (hS2 _ _ ?_) ?_) <;> (first | (simp (maxDischargeDepth := 9) -implicitDefEqProofs -dsimp only [go_sem, seval, *]; done) | omega))); (focus (first | trivial | with_reducible exact rfl | (simp (maxDischargeDepth := 9) -implicitDefEqProofs -dsimp only [go_sem, seval]; done)))))
              all_goals first | exact absurd hq hmo | skip
              all_goals first | (exfalso; omega) | skip
              refine loop_rule (fun i : Nat => [(23, some (.int .i64 i)), (20, some (.slice (aL.map encBool) .no)), (9, some (.bool true))]) (fun _ => σ) (fun i => i ≤ aL.length) (fun i => aL.length - i) 0 ?_ ?_
              · (repeat' (first | simp (maxDischargeDepth := 9) -implicitDefEqProofs -dsimp only [go_sem, seval, *] | simp (disch := omega) only [wrap64, tmod2, xor1])) <;> (repeat' refine And.intro ?_ ?_) <;> (first | omega | rfl | assumption | skip)
              · intro i hi
                by_cases hlt : i < aL.length
                · have hx : aL[i] = false := q4 _ (List.getElem_mem hlt)
                  clear q4 hS2 r1
                  repeat' (first | simp (maxDischargeDepth := 9) -implicitDefEqProofs -dsimp only [go_sem, seval, *] | simp (disch := omega) only [wrap64, tmod2, xor1] | (with_reducible (first | apply Zf | apply Zs) <;> intro hq) | ((with_reducible refine Zv ?_ ?_); focus (first | omega | exact rfl)) | ((with_reducible refine Zu ?_ ?_); focus omega) | ((with_reducible refine Zt (fun oF hoF hnF hnF' => ?_)); clear hnF hnF'; (try simp only [Zw, ne_eq] at hoF)))
                  refine loop_next _ _ _ _ (i + 1) ?_; (repeat' (first | simp (maxDischargeDepth := 9) -implicitDefEqProofs -dsimp only [go_sem, seval, *] | simp (disch := omega) only [wrap64, tmod2, xor1])) <;> (repeat' refine And.intro ?_ ?_) <;> (first | omega | rfl | assumption | skip)
                · clear q4 hS2 r1
                  repeat' (first | simp (maxDischargeDepth := 9) -implicitDefEqProofs -dsimp only [go_sem, seval, *] | simp (disch := omega) only [wrap64, tmod2, xor1] | (with_reducible (first | apply Zf | apply Zs) <;> intro hq) | ((with_reducible refine Zv ?_ ?_); focus (first | omega | exact rfl)) | ((with_reducible refine Zu ?_ ?_); focus omega) | ((with_reducible refine Zt (fun oF hoF hnF hnF' => ?_)); clear hnF hnF'; (try simp only [Zw, ne_eq] at hoF)))
                  refine fin_eq ?_
                  (repeat' (first | simp (maxDischargeDepth := 9) -implicitDefEqProofs -dsimp only [go_sem, seval, *] | simp (disch := omega) only [wrap64, tmod2, xor1])) <;> (repeat' refine And.intro ?_ ?_) <;> (first | omega | rfl | assumption | skip)
end Go.Proofs.Ytjichkelfhcbcaa

