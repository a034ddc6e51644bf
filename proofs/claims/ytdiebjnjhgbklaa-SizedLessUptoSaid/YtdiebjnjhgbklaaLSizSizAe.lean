/- sized: contracts: the sizer's statements. -/
import Derived.Test.YtdiebjnjhgbklaaLSzSh
set_option linter.unusedSimpArgs false
set_option linter.unusedVariables false
namespace Go.Proofs.Ytdiebjnjhgbklaa
open Abs Fil Fil.Sz
theorem thr_len {β : Type} {l : List (Int → β × Int)} {i : Nat} (h : i ≤ l.length) (e : Int) : (thrL (l.take i) e).1.length = i := by
  rw [thrL_len, List.length_take]; omega
theorem encT_mk (a b c d : Int) (X : List E) (Y : List T) : encT (T.mk a b c d X Y) = .agg [.int .i64 a, .int .i64 b, .int .i64 c, .int .i64 d, .slice (X.map encE) .no, .slice (Y.map encT) .no] := by
  unfold encT tL; rw [encTs_eq]; rfl
theorem role_cases {c1 clk c4 : Bool} {e0 R : Int} (h : (e0 = 0 ∧ (c1 = true ∨ clk ≠ c4) ∧ R = 85) ∨ ((e0 = 0 ∧ ¬ c1 = true ∧ clk = c4) ∧ R = e0) ∨ (¬ e0 = 0 ∧ R = e0)) :
    (e0 = 0 ∧ c1 = true ∧ R = 85) ∨ (e0 = 0 ∧ c1 = false ∧ clk = true ∧ c4 = false ∧ R = 85) ∨ (e0 = 0 ∧ c1 = false ∧ clk = false ∧ c4 = true ∧ R = 85) ∨
        (e0 = 0 ∧ c1 = false ∧ clk = true ∧ c4 = true ∧ R = 0) ∨ (e0 = 0 ∧ c1 = false ∧ clk = false ∧ c4 = false ∧ R = 0) ∨ (¬ e0 = 0 ∧ R = e0) := by
  rcases h with ⟨q1, q2, q3⟩ | ⟨⟨q1, q2, q3⟩, q4⟩ | ⟨q1, q2⟩
  · cases c1 <;> cases clk <;> cases c4 <;> simp_all
  · cases c1 <;> cases clk <;> cases c4 <;> simp_all
  · simp [q1, q2]
theorem headD_w {l : List E} (h : 0 < l.length) : part0 l = (l[0]).w := by
  cases l with
  | nil => simp at h
  | cons a l => simp [part0]
set_option maxRecDepth 20000 in
set_option maxHeartbeats 8000000 in
theorem sz_statement_step (g : List Sg) (hg : SgOk g) (hgl : g.length ≤ 1000000000000) (clk : Bool) (t : T) (o : Nat) (lab e0 : Int) (σ : Sig) (h : σ o = some (szrC g e0)) (hs : ShT g t) (hn : nodesT t ≤ 16777216) (hw : WfT t) (hlab : -1 ≤ lab)
    (ih : ∀ x ∈ t.l, ∀ (lab e0 : Int) (σ : Sig), σ o = some (szrC g e0) → -1 ≤ lab → ACalls Try.prog 49 [.ptr o 0, encT x, .bool clk, .int .i64 lab] σ (fun r σ' => r = .ret (encT (stT g clk x lab e0).1) ∧ σ' = upd σ o (szrC g (stT g clk x lab e0).2))) :
    ACalls Try.prog 49 [.ptr o 0, encT t, .bool clk, .int .i64 lab] σ (fun r σ' => r = .ret (encT (stT g clk t lab e0).1) ∧ σ' = upd σ o (szrC g (stT g clk t lab e0).2)) := by
  have h1 := encTs_eq t
  have l1 := lenE_nodes t
  have l2 := lenL_nodes t
  obtain ⟨⟨s1, s2, s3⟩, _⟩ := (ShT_iff g t).1 hs
  have w8 := (WfT_iff t).1 hw
  have hwg := wantT_ge (lab := lab) s2 hlab
  have hlg := labT_ge (clk := clk) (e0 := e0) hg s1 s2 hlab
  have hst := stT_eq g clk t lab e0
  obtain ⟨W, hW⟩ : ∃ W, wantT t lab = W := ⟨_, rfl⟩
  obtain ⟨R, hR⟩ : ∃ R, roleE g clk t e0 = R := ⟨_, rfl⟩
  have hes : esT g clk t lab e0 = thrL (t.e.map fun x => exprS x W) R := by unfold esT; rw [hW, hR]
  rw [hes] at hst hlg
  have cE := fun (x : E) (hx : x ∈ t.e) (e1 : Int) (τ : Sig) (hτ : τ o = some (szrC g e1)) => sz_expr o g hg e1 x W τ hτ (s1 x hx) (by have := partE_nodes hx; omega) (w8.2.1 x hx) (by omega)
  have hsort : (t.op = 1 ∧ W = t.hi - t.lo + 1 ∧ (e0 = 0 ∧ (kindOf g t = 1 ∨ clk ≠ decide (kindOf g t = 4)) ∧ R = 85 ∨ (e0 = 0 ∧ ¬ kindOf g t = 1 ∧ clk = decide (kindOf g t = 4)) ∧ R = e0 ∨ ¬ e0 = 0 ∧ R = e0)) ∨
      (t.op = 2 ∧ W = -1 ∧ R = e0) ∨ (t.op = 3 ∧ W = 0 ∧ R = e0) ∨ (¬ t.op = 1 ∧ ¬ t.op = 2 ∧ ¬ t.op = 3 ∧ W = lab ∧ R = e0) := by
    rw [← hW, ← hR]
    unfold wantT roleE
    by_cases o1 : t.op = 1
    · refine .inl ⟨o1, by rw [if_pos o1], ?_⟩
      by_cases e1 : e0 = 0
      · by_cases k1 : kindOf g t = 1 ∨ clk ≠ decide (kindOf g t = 4)
        · exact .inl ⟨e1, k1, by rw [if_pos ⟨o1, e1, k1⟩]⟩
        · refine .inr (.inl ⟨⟨e1, fun q => k1 (.inl q), Classical.byContradiction fun q => k1 (.inr q)⟩, by rw [if_neg (fun q => k1 q.2.2)]⟩)
      · exact .inr (.inr ⟨e1, by rw [if_neg (fun q => e1 q.2.1)]⟩)
    · have q1 : (if t.op = 1 ∧ e0 = 0 ∧ (kindOf g t = 1 ∨ clk ≠ decide (kindOf g t = 4)) then (85 : Int) else e0) = e0 := by rw [if_neg (fun q => o1 q.1)]
      rw [q1]
      by_cases o2 : t.op = 2
      · exact .inr (.inl ⟨o2, by rw [if_neg o1, if_pos o2], rfl⟩)
      · by_cases o3 : t.op = 3
        · exact .inr (.inr (.inl ⟨o3, by rw [if_neg o1, if_neg o2, if_pos o3], rfl⟩))
        · exact .inr (.inr (.inr ⟨o1, o2, o3, by rw [if_neg o1, if_neg o2, if_neg o3], rfl⟩))
  have hlt : labT t lab (thrL (t.e.map fun x => exprS x W) R).1 = if t.op = 3 then part0 (thrL (t.e.map fun x => exprS x W) R).1 else lab := rfl
  clear hs hw hW hR hes w8 hlab
  -- what is made of the expressions, up to one of them
  obtain ⟨P, hP⟩ : ∃ P : Nat → List E × Int, ∀ i, P i = thrL ((t.e.map fun x => exprS x W).take i) R := ⟨_, fun _ => rfl⟩
  have hP0 : P 0 = ([], R) := by rw [hP]; rfl
  have hPs : ∀ i, (hi : i < t.e.length) → P (i + 1) = ((P i).1 ++ [(exprS t.e[i] W (P i).2).1], (exprS t.e[i] W (P i).2).2) := fun i hi => by
    rw [hP, hP, thrL_take (by simpa using hi), List.getElem_map]
  have hPl : ∀ i, i ≤ t.e.length → (P i).1.length = i := fun i hi => by rw [hP, thr_len (by simpa using hi)]
  have hPe : P t.e.length = thrL (t.e.map fun x => exprS x W) R := by
    rw [hP]; congr 1; exact List.take_of_length_le (by simp)
  rw [← hPe] at hst hlg hlt
  clear hP hPe
  obtain ⟨L, hL⟩ : ∃ L, labT t lab (P t.e.length).1 = L := ⟨_, rfl⟩
  rw [hL] at hst hlg hlt
  obtain ⟨Q, hQ⟩ : ∃ Q : Nat → List T × Int, ∀ i, Q i = thrL ((t.l.map fun x => stT g clk x L).take i) (P t.e.length).2 := ⟨_, fun _ => rfl⟩
  have hQ0 : Q 0 = ([], (P t.e.length).2) := by rw [hQ]; rfl
  have hQs : ∀ i, (hi : i < t.l.length) → Q (i + 1) = ((Q i).1 ++ [(stT g clk t.l[i] L (Q i).2).1], (stT g clk t.l[i] L (Q i).2).2) := fun i hi => by
    rw [hQ, hQ, thrL_take (by simpa using hi), List.getElem_map]
  have hQl : ∀ i, i ≤ t.l.length → (Q i).1.length = i := fun i hi => by rw [hQ, thr_len (by simpa using hi)]
  have hQe : Q t.l.length = lsT g clk t.l L (P t.e.length).2 := by
    rw [hQ]; unfold lsT; congr 1; exact List.take_of_length_le (by simp)
  rw [← hQe] at hst
  clear hQ hQe hL
  have cT := fun (x : T) (hx : x ∈ t.l) (e1 : Int) (τ : Sig) (hτ : τ o = some (szrC g e1)) => ih x hx L e1 τ hτ hlg
  clear ih hlg hwg
  obtain ⟨S, hS⟩ : ∃ S, stT g clk t lab e0 = S := ⟨_, rfl⟩
  rw [hS] at hst ⊢
  subst hst
  clear hS
  rw [encT_mk]
  refine ACalls.virt (callable_of Try.func49 b49 n49) 8 (fun oV1 hoV1 hnV1 hnV1' => ?_); (try simp only [upd_none, ne_eq, not_and] at hoV1); refine ACalls.virt (callable_of Try.func49 b49 n49) 6 (fun oV2 hoV2 hnV2 hnV2' => ?_); (try simp only [upd_none, ne_eq, not_and] at hoV2); refine calls_x mixed Try.func49 b49 n49 rfl q49 (by simp) ?_; unfold c49 r49
  have n1 : ¬ oV1 = o := fun e => by rw [e, h] at hoV1; cases hoV1
  have n2 : ¬ oV2 = o := fun e => by
    have := hoV2
    simp_all
  have hlo : t.op = 3 → (h : 0 < (P t.e.length).1.length) → L = ((P t.e.length).1[0]).w := fun o3 hh => by
    rw [hlt, if_pos o3]
    exact headD_w hh
  have hln : ¬ t.op = 3 → L = lab := fun o3 => by rw [hlt, if_neg o3]
  have hPL := hPl t.e.length (Nat.le_refl _)
  clear hlt
  rcases hsort with ⟨o1, hWv, hr⟩ | ⟨o2, hWv, hRv⟩ | ⟨o3, hWv, hRv⟩ | ⟨o1, o2, o3, hWv, hRv⟩
  case inl =>
    obtain ⟨p1, p2, p3, p4, p5⟩ := place_iff.1 (s2 o1)
    have p6 : t.sig.toNat < g.length := by omega
    have hgs : g.getD t.sig.toNat zS = g[t.sig.toNat] := by rw [List.getD_eq_getElem?_getD, List.getElem?_eq_getElem p6]; rfl
    have p7 := hg _ (List.getElem_mem p6)
    have hk : kindOf g t = (g[t.sig.toNat]).kind := by unfold Fil.Sz.kindOf; rw [hgs]
    rw [hgs] at p5
    rw [hk] at hr
    clear hk hgs
    obtain ⟨K, hK⟩ : ∃ K, (g[t.sig.toNat]).kind = K := ⟨_, rfl⟩
    rw [hK] at hr
    subst hWv
    replace hln := hln (by omega)
    subst hln
    clear hlo
    have bft : ((false : Bool) == true) = false := rfl
    have btf : ((true : Bool) == false) = false := rfl
    obtain ⟨c4, hc4⟩ : ∃ c, (K == 4) = c := ⟨_, rfl⟩
    obtain ⟨c1, hc1⟩ : ∃ c, (K == 1) = c := ⟨_, rfl⟩
    have hd4 : decide (K = 4) = c4 := hc4
    have hd1 : K = 1 ↔ c1 = true := by rw [← hc1]; simp
    rw [hd4, hd1] at hr
    clear hd4 hd1
    have hcase := role_cases hr
    clear hr
    rcases hcase with ⟨q1, q2, q5⟩ | ⟨q1, q2, q3, q4, q5⟩ | ⟨q1, q2, q3, q4, q5⟩ | ⟨q1, q2, q3, q4, q5⟩ | ⟨q1, q2, q3, q4, q5⟩ | ⟨q1, q5⟩
    case inl =>
      subst q1 q2 q5
      repeat' (first | simp (maxDischargeDepth := 9) -implicitDefEqProofs -dsimp only [go_sem, seval, *] | simp (disch := omega) only [wrap64] | ((with_reducible refine Zv ?_ ?_); focus (first | omega | exact rfl)) | ((with_reducible refine Zu ?_ ?_); focus omega) | ((with_reducible refine Zt (fun oF hoF hnF hnF' => ?_)); (try simp only [upd_none, ne_eq, not_and] at hoF)))
      rename_i oT nx1 nx2 hoT
      obtain ⟨oR, eR⟩ : ∃ x, x = oF := ⟨oF, rfl⟩
      subst eR
      obtain ⟨a1, a2, a3⟩ := hoT
      obtain ⟨a4, a5, a6, a7⟩ := hoF
      obtain ⟨a8, a9⟩ := hoV2
      have n3 : ¬ oT = o := fun e => by rw [e, h] at a3; cases a3
      have n4 : ¬ oR = o := fun e => by rw [e, h] at a7; cases a7
      have m1 : ¬ o = oV1 := fun e => n1 e.symm
      have m2 : ¬ o = oV2 := fun e => n2 e.symm
      have m3 : ¬ o = oT := fun e => n3 e.symm
      have m4 : ¬ o = oR := fun e => n4 e.symm
      have b1 : ¬ oV2 = oT := fun e => a1 e.symm
      have b2 : ¬ oV1 = oT := fun e => a2 e.symm
      have b4 : ¬ oT = oR := fun e => a4 e.symm
      have b5 : ¬ oV2 = oR := fun e => a5 e.symm
      have b6 : ¬ oV1 = oR := fun e => a6 e.symm
      have b8 : ¬ oV1 = oV2 := fun e => a8 e.symm
      clear nx1 nx2 hnF hnF' hnV1 hnV1' hnV2 hnV2'
      refine loop_rule (fun i : Nat => [(62, some (.int .i64 i)), (61, some (.int .i64 t.e.length)), (60, some (.slice (t.e.map encE) .no)), (11, some (.slice ((P i).1.map encE) (.own oV1))), (0, some (.ptr o 0)), (9, some (.int .i64 (t.hi - t.lo + 1))), (5, some (.ptr oT 0)), (2, some (.bool clk)), (8, some (.ptr oR 0)), (3, some (.int .i64 L))])
        (fun i => upd (upd (upd (upd (upd σ oV1 (.grow 8 i)) oV2 (.virt 6)) oT (.cells [.int .i64 t.op, .int .i64 t.sig, .int .i64 t.hi, .int .i64 t.lo, .slice (t.e.map encE) .no, .slice (t.l.map encT) .no])) oR (.cells [.int .i64 0, .int .i64 0, .int .i64 0, .int .i64 0, .slice [] .nil, .slice [] .nil])) o (szrC g (P i).2))
        (fun i => i ≤ t.e.length) (fun i => t.e.length - i) 0 ?_ ?_
      · (try clear hlo); clear cE cT hPs hQs hPl hQl hQ0
        (repeat' (first | simp (maxDischargeDepth := 9) -implicitDefEqProofs -dsimp only [go_sem, seval, List.map_nil, *] | simp (disch := omega) only [wrap64])) <;> (repeat' refine And.intro ?_ ?_) <;> (first | omega | rfl | assumption | skip)
      · intro i hi
        by_cases hlt : i < t.e.length
        · have hc := cE t.e[i] (List.getElem_mem hlt)
          have hps := hPs i hlt
          have hpl := hPl i (by omega)
          (try clear hlo); clear cE cT hPs hQs hPl hQl hQ0 hP0 hPL
          obtain ⟨⟨X, e1⟩, hX⟩ : ∃ X, P i = X := ⟨_, rfl⟩
          rw [hX] at hps hpl ⊢
          clear hX
          simp only at hps hpl
          replace hc := hc e1
          repeat' (first | simp (maxDischargeDepth := 9) -implicitDefEqProofs -dsimp only [go_sem, seval, *] | simp (disch := omega) only [wrap64] | ((with_reducible refine Zv ?_ ?_); focus (first | omega | exact rfl)) | ((with_reducible refine Zu ?_ ?_); focus omega) | ((with_reducible refine Zt (fun oF hoF hnF hnF' => ?_)); (try simp only [upd_none, ne_eq, not_and] at hoF)) | ((with_reducible apply ACalls.one1); (focus ((first | with_reducible refine hc _ ?_ | with_reducible refine ACalls.flA (hc _ ?_) ?_) <;> (first | (simp (maxDischargeDepth := 9) -implicitDefEqProofs -dsimp only [go_sem, seval, *]; done) | omega))); (focus (first | trivial | with_reducible exact rfl | (simp (maxDischargeDepth := 9) -implicitDefEqProofs -dsimp only [go_sem, seval]; done)))))
          refine loop_next _ _ _ _ (i + 1) ?_; (repeat' (first | simp (maxDischargeDepth := 9) -implicitDefEqProofs -dsimp only [go_sem, seval, *] | simp (disch := omega) only [wrap64])) <;> (repeat' refine And.intro ?_ ?_) <;> (first | omega | rfl | assumption | skip)
        · have ei : i = t.e.length := by omega
          subst ei
          clear cE hPs hP0 hPl
          repeat' (first | simp (maxDischargeDepth := 9) -implicitDefEqProofs -dsimp only [go_sem, seval, *] | simp (disch := omega) only [wrap64] | ((with_reducible refine Zv ?_ ?_); focus (first | omega | exact rfl)) | ((with_reducible refine Zu ?_ ?_); focus omega) | ((with_reducible refine Zt (fun oF hoF hnF hnF' => ?_)); (try simp only [upd_none, ne_eq, not_and] at hoF)))
          refine loop_rule (fun k : Nat => [(84, some (.int .i64 k)), (83, some (.int .i64 t.l.length)), (82, some (.slice (t.l.map encT) .no)), (14, some (.slice ((Q k).1.map encT) (.own oV2))), (0, some (.ptr o 0)), (2, some (.bool clk)), (3, some (.int .i64 L)), (11, some (.slice ((P t.e.length).1.map encE) (.own oV1))), (5, some (.ptr oT 0)), (8, some (.ptr oR 0))])
            (fun k => upd (upd (upd (upd (upd σ oV1 (.grow 8 t.e.length)) oV2 (.grow 6 k)) oT (.cells [.int .i64 t.op, .int .i64 t.sig, .int .i64 t.hi, .int .i64 t.lo, .slice (t.e.map encE) .no, .slice (t.l.map encT) .no])) oR (.cells [.int .i64 0, .int .i64 0, .int .i64 0, .int .i64 0, .slice [] .nil, .slice [] .nil])) o (szrC g (Q k).2))
            (fun k => k ≤ t.l.length) (fun k => t.l.length - k) 0 ?_ ?_
          · clear cT hQs hQl
            (repeat' (first | simp (maxDischargeDepth := 9) -implicitDefEqProofs -dsimp only [go_sem, seval, List.map_nil, *] | simp (disch := omega) only [wrap64])) <;> (repeat' refine And.intro ?_ ?_) <;> (first | omega | rfl | assumption | skip)
          · intro k hk
            by_cases hkt : k < t.l.length
            · have hx := encTs_eq t.l[k]
              have hc := cT t.l[k] (List.getElem_mem hkt)
              have hqs := hQs k hkt
              have hql := hQl k (by omega)
              clear cT hQs hQl hQ0 hx
              obtain ⟨⟨X, e1⟩, hX⟩ : ∃ X, Q k = X := ⟨_, rfl⟩
              rw [hX] at hqs hql ⊢
              clear hX
              simp only at hqs hql
              replace hc := hc e1
              repeat' (first | simp (maxDischargeDepth := 9) -implicitDefEqProofs -dsimp only [go_sem, seval, *] | simp (disch := omega) only [wrap64] | ((with_reducible refine Zv ?_ ?_); focus (first | omega | exact rfl)) | ((with_reducible refine Zu ?_ ?_); focus omega) | ((with_reducible refine Zt (fun oF hoF hnF hnF' => ?_)); (try simp only [upd_none, ne_eq, not_and] at hoF)) | ((with_reducible apply ACalls.one1); (focus ((first | with_reducible refine hc _ ?_ | with_reducible refine ACalls.flA (hc _ ?_) ?_) <;> (first | (simp (maxDischargeDepth := 9) -implicitDefEqProofs -dsimp only [go_sem, seval, *]; done) | omega))); (focus (first | trivial | with_reducible exact rfl | (simp (maxDischargeDepth := 9) -implicitDefEqProofs -dsimp only [go_sem, seval]; done)))))
              refine loop_next _ _ _ _ (k + 1) ?_; (repeat' (first | simp (maxDischargeDepth := 9) -implicitDefEqProofs -dsimp only [go_sem, seval, *] | simp (disch := omega) only [wrap64])) <;> (repeat' refine And.intro ?_ ?_) <;> (first | omega | rfl | assumption | skip)
            · have ek : k = t.l.length := by omega
              subst ek
              clear cT hQs hQ0
              replace hQl := hQl t.l.length (Nat.le_refl _)
              repeat' (first | simp (maxDischargeDepth := 9) -implicitDefEqProofs -dsimp only [go_sem, seval, *] | simp (disch := omega) only [wrap64] | ((with_reducible refine Zv ?_ ?_); focus (first | omega | exact rfl)) | ((with_reducible refine Zu ?_ ?_); focus omega) | ((with_reducible refine Zt (fun oF hoF hnF hnF' => ?_)); (try simp only [upd_none, ne_eq, not_and] at hoF)))
              refine fin_eq ?_
              (repeat' (first | simp (maxDischargeDepth := 9) -implicitDefEqProofs -dsimp only [go_sem, seval, *] | simp (disch := omega) only [wrap64])) <;> (repeat' refine And.intro ?_ ?_) <;> (first | omega | rfl | assumption | skip)
    case inr.inl =>
      subst q1 q2 q3 q4 q5
      repeat' (first | simp (maxDischargeDepth := 9) -implicitDefEqProofs -dsimp only [go_sem, seval, *] | simp (disch := omega) only [wrap64] | ((with_reducible refine Zv ?_ ?_); focus (first | omega | exact rfl)) | ((with_reducible refine Zu ?_ ?_); focus omega) | ((with_reducible refine Zt (fun oF hoF hnF hnF' => ?_)); (try simp only [upd_none, ne_eq, not_and] at hoF)))
      rename_i oT nx1 nx2 hoT
      obtain ⟨oR, eR⟩ : ∃ x, x = oF := ⟨oF, rfl⟩
      subst eR
      obtain ⟨a1, a2, a3⟩ := hoT
      obtain ⟨a4, a5, a6, a7⟩ := hoF
      obtain ⟨a8, a9⟩ := hoV2
      have n3 : ¬ oT = o := fun e => by rw [e, h] at a3; cases a3
      have n4 : ¬ oR = o := fun e => by rw [e, h] at a7; cases a7
      have m1 : ¬ o = oV1 := fun e => n1 e.symm
      have m2 : ¬ o = oV2 := fun e => n2 e.symm
      have m3 : ¬ o = oT := fun e => n3 e.symm
      have m4 : ¬ o = oR := fun e => n4 e.symm
      have b1 : ¬ oV2 = oT := fun e => a1 e.symm
      have b2 : ¬ oV1 = oT := fun e => a2 e.symm
      have b4 : ¬ oT = oR := fun e => a4 e.symm
      have b5 : ¬ oV2 = oR := fun e => a5 e.symm
      have b6 : ¬ oV1 = oR := fun e => a6 e.symm
      have b8 : ¬ oV1 = oV2 := fun e => a8 e.symm
      clear nx1 nx2 hnF hnF' hnV1 hnV1' hnV2 hnV2'
      refine loop_rule (fun i : Nat => [(62, some (.int .i64 i)), (61, some (.int .i64 t.e.length)), (60, some (.slice (t.e.map encE) .no)), (11, some (.slice ((P i).1.map encE) (.own oV1))), (0, some (.ptr o 0)), (9, some (.int .i64 (t.hi - t.lo + 1))), (5, some (.ptr oT 0)), (2, some (.bool true)), (8, some (.ptr oR 0)), (3, some (.int .i64 L))])
        (fun i => upd (upd (upd (upd (upd σ oV1 (.grow 8 i)) oV2 (.virt 6)) oT (.cells [.int .i64 t.op, .int .i64 t.sig, .int .i64 t.hi, .int .i64 t.lo, .slice (t.e.map encE) .no, .slice (t.l.map encT) .no])) oR (.cells [.int .i64 0, .int .i64 0, .int .i64 0, .int .i64 0, .slice [] .nil, .slice [] .nil])) o (szrC g (P i).2))
        (fun i => i ≤ t.e.length) (fun i => t.e.length - i) 0 ?_ ?_
      · (try clear hlo); clear cE cT hPs hQs hPl hQl hQ0
        (repeat' (first | simp (maxDischargeDepth := 9) -implicitDefEqProofs -dsimp only [go_sem, seval, List.map_nil, *] | simp (disch := omega) only [wrap64])) <;> (repeat' refine And.intro ?_ ?_) <;> (first | omega | rfl | assumption | skip)
      · intro i hi
        by_cases hlt : i < t.e.length
        · have hc := cE t.e[i] (List.getElem_mem hlt)
          have hps := hPs i hlt
          have hpl := hPl i (by omega)
          (try clear hlo); clear cE cT hPs hQs hPl hQl hQ0 hP0 hPL
          obtain ⟨⟨X, e1⟩, hX⟩ : ∃ X, P i = X := ⟨_, rfl⟩
          rw [hX] at hps hpl ⊢
          clear hX
          simp only at hps hpl
          replace hc := hc e1
          repeat' (first | simp (maxDischargeDepth := 9) -implicitDefEqProofs -dsimp only [go_sem, seval, *] | simp (disch := omega) only [wrap64] | ((with_reducible refine Zv ?_ ?_); focus (first | omega | exact rfl)) | ((with_reducible refine Zu ?_ ?_); focus omega) | ((with_reducible refine Zt (fun oF hoF hnF hnF' => ?_)); (try simp only [upd_none, ne_eq, not_and] at hoF)) | ((with_reducible apply ACalls.one1); (focus ((first | with_reducible refine hc _ ?_ | with_reducible refine ACalls.flA (hc _ ?_) ?_) <;> (first | (simp (maxDischargeDepth := 9) -implicitDefEqProofs -dsimp only [go_sem, seval, *]; done) | omega))); (focus (first | trivial | with_reducible exact rfl | (simp (maxDischargeDepth := 9) -implicitDefEqProofs -dsimp only [go_sem, seval]; done)))))
          refine loop_next _ _ _ _ (i + 1) ?_; (repeat' (first | simp (maxDischargeDepth := 9) -implicitDefEqProofs -dsimp only [go_sem, seval, *] | simp (disch := omega) only [wrap64])) <;> (repeat' refine And.intro ?_ ?_) <;> (first | omega | rfl | assumption | skip)
        · have ei : i = t.e.length := by omega
          subst ei
          clear cE hPs hP0 hPl
          repeat' (first | simp (maxDischargeDepth := 9) -implicitDefEqProofs -dsimp only [go_sem, seval, *] | simp (disch := omega) only [wrap64] | ((with_reducible refine Zv ?_ ?_); focus (first | omega | exact rfl)) | ((with_reducible refine Zu ?_ ?_); focus omega) | ((with_reducible refine Zt (fun oF hoF hnF hnF' => ?_)); (try simp only [upd_none, ne_eq, not_and] at hoF)))
          refine loop_rule (fun k : Nat => [(84, some (.int .i64 k)), (83, some (.int .i64 t.l.length)), (82, some (.slice (t.l.map encT) .no)), (14, some (.slice ((Q k).1.map encT) (.own oV2))), (0, some (.ptr o 0)), (2, some (.bool true)), (3, some (.int .i64 L)), (11, some (.slice ((P t.e.length).1.map encE) (.own oV1))), (5, some (.ptr oT 0)), (8, some (.ptr oR 0))])
            (fun k => upd (upd (upd (upd (upd σ oV1 (.grow 8 t.e.length)) oV2 (.grow 6 k)) oT (.cells [.int .i64 t.op, .int .i64 t.sig, .int .i64 t.hi, .int .i64 t.lo, .slice (t.e.map encE) .no, .slice (t.l.map encT) .no])) oR (.cells [.int .i64 0, .int .i64 0, .int .i64 0, .int .i64 0, .slice [] .nil, .slice [] .nil])) o (szrC g (Q k).2))
            (fun k => k ≤ t.l.length) (fun k => t.l.length - k) 0 ?_ ?_
          · clear cT hQs hQl
            (repeat' (first | simp (maxDischargeDepth := 9) -implicitDefEqProofs -dsimp only [go_sem, seval, List.map_nil, *] | simp (disch := omega) only [wrap64])) <;> (repeat' refine And.intro ?_ ?_) <;> (first | omega | rfl | assumption | skip)
          · intro k hk
            by_cases hkt : k < t.l.length
            · have hx := encTs_eq t.l[k]
              have hc := cT t.l[k] (List.getElem_mem hkt)
              have hqs := hQs k hkt
              have hql := hQl k (by omega)
              clear cT hQs hQl hQ0 hx
              obtain ⟨⟨X, e1⟩, hX⟩ : ∃ X, Q k = X := ⟨_, rfl⟩
              rw [hX] at hqs hql ⊢
              clear hX
              simp only at hqs hql
              replace hc := hc e1
              repeat' (first | simp (maxDischargeDepth := 9) -implicitDefEqProofs -dsimp only [go_sem, seval, *] | simp (disch := omega) only [wrap64] | ((with_reducible refine Zv ?_ ?_); focus (first | omega | exact rfl)) | ((with_reducible refine Zu ?_ ?_); focus omega) | ((with_reducible refine Zt (fun oF hoF hnF hnF' => ?_)); (try simp only [upd_none, ne_eq, not_and] at hoF)) | ((with_reducible apply ACalls.one1); (focus ((first | with_reducible refine hc _ ?_ | with_reducible refine ACalls.flA (hc _ ?_) ?_) <;> (first | (simp (maxDischargeDepth := 9) -implicitDefEqProofs -dsimp only [go_sem, seval, *]; done) | omega))); (focus (first | trivial | with_reducible exact rfl | (simp (maxDischargeDepth := 9) -implicitDefEqProofs -dsimp only [go_sem, seval]; done)))))
              refine loop_next _ _ _ _ (k + 1) ?_; (repeat' (first | simp (maxDischargeDepth := 9) -implicitDefEqProofs -dsimp only [go_sem, seval, *] | simp (disch := omega) only [wrap64])) <;> (repeat' refine And.intro ?_ ?_) <;> (first | omega | rfl | assumption | skip)
            · have ek : k = t.l.length := by omega
              subst ek
              clear cT hQs hQ0
              replace hQl := hQl t.l.length (Nat.le_refl _)
              repeat' (first | simp (maxDischargeDepth := 9) -implicitDefEqProofs -dsimp only [go_sem, seval, *] | simp (disch := omega) only [wrap64] | ((with_reducible refine Zv ?_ ?_); focus (first | omega | exact rfl)) | ((with_reducible refine Zu ?_ ?_); focus omega) | ((with_reducible refine Zt (fun oF hoF hnF hnF' => ?_)); (try simp only [upd_none, ne_eq, not_and] at hoF)))
              refine fin_eq ?_
              (repeat' (first | simp (maxDischargeDepth := 9) -implicitDefEqProofs -dsimp only [go_sem, seval, *] | simp (disch := omega) only [wrap64])) <;> (repeat' refine And.intro ?_ ?_) <;> (first | omega | rfl | assumption | skip)
    case inr.inr.inl =>
      subst q1 q2 q3 q4 q5
      repeat' (first | simp (maxDischargeDepth := 9) -implicitDefEqProofs -dsimp only [go_sem, seval, *] | simp (disch := omega) only [wrap64] | ((with_reducible refine Zv ?_ ?_); focus (first | omega | exact rfl)) | ((with_reducible refine Zu ?_ ?_); focus omega) | ((with_reducible refine Zt (fun oF hoF hnF hnF' => ?_)); (try simp only [upd_none, ne_eq, not_and] at hoF)))
      rename_i oT nx1 nx2 hoT
      obtain ⟨oR, eR⟩ : ∃ x, x = oF := ⟨oF, rfl⟩
      subst eR
      obtain ⟨a1, a2, a3⟩ := hoT
      obtain ⟨a4, a5, a6, a7⟩ := hoF
      obtain ⟨a8, a9⟩ := hoV2
      have n3 : ¬ oT = o := fun e => by rw [e, h] at a3; cases a3
      have n4 : ¬ oR = o := fun e => by rw [e, h] at a7; cases a7
      have m1 : ¬ o = oV1 := fun e => n1 e.symm
      have m2 : ¬ o = oV2 := fun e => n2 e.symm
      have m3 : ¬ o = oT := fun e => n3 e.symm
      have m4 : ¬ o = oR := fun e => n4 e.symm
      have b1 : ¬ oV2 = oT := fun e => a1 e.symm
      have b2 : ¬ oV1 = oT := fun e => a2 e.symm
      have b4 : ¬ oT = oR := fun e => a4 e.symm
      have b5 : ¬ oV2 = oR := fun e => a5 e.symm
      have b6 : ¬ oV1 = oR := fun e => a6 e.symm
      have b8 : ¬ oV1 = oV2 := fun e => a8 e.symm
      clear nx1 nx2 hnF hnF' hnV1 hnV1' hnV2 hnV2'
      refine loop_rule (fun i : Nat => [(62, some (.int .i64 i)), (61, some (.int .i64 t.e.length)), (60, some (.slice (t.e.map encE) .no)), (11, some (.slice ((P i).1.map encE) (.own oV1))), (0, some (.ptr o 0)), (9, some (.int .i64 (t.hi - t.lo + 1))), (5, some (.ptr oT 0)), (2, some (.bool false)), (8, some (.ptr oR 0)), (3, some (.int .i64 L))])
        (fun i => upd (upd (upd (upd (upd σ oV1 (.grow 8 i)) oV2 (.virt 6)) oT (.cells [.int .i64 t.op, .int .i64 t.sig, .int .i64 t.hi, .int .i64 t.lo, .slice (t.e.map encE) .no, .slice (t.l.map encT) .no])) oR (.cells [.int .i64 0, .int .i64 0, .int .i64 0, .int .i64 0, .slice [] .nil, .slice [] .nil])) o (szrC g (P i).2))
        (fun i => i ≤ t.e.length) (fun i => t.e.length - i) 0 ?_ ?_
      · (try clear hlo); clear cE cT hPs hQs hPl hQl hQ0
        (repeat' (first | simp (maxDischargeDepth := 9) -implicitDefEqProofs -dsimp only [go_sem, seval, List.map_nil, *] | simp (disch := omega) only [wrap64])) <;> (repeat' refine And.intro ?_ ?_) <;> (first | omega | rfl | assumption | skip)
      · intro i hi
        by_cases hlt : i < t.e.length
        · have hc := cE t.e[i] (List.getElem_mem hlt)
          have hps := hPs i hlt
          have hpl := hPl i (by omega)
          (try clear hlo); clear cE cT hPs hQs hPl hQl hQ0 hP0 hPL
          obtain ⟨⟨X, e1⟩, hX⟩ : ∃ X, P i = X := ⟨_, rfl⟩
          rw [hX] at hps hpl ⊢
          clear hX
          simp only at hps hpl
          replace hc := hc e1
          repeat' (first | simp (maxDischargeDepth := 9) -implicitDefEqProofs -dsimp only [go_sem, seval, *] | simp (disch := omega) only [wrap64] | ((with_reducible refine Zv ?_ ?_); focus (first | omega | exact rfl)) | ((with_reducible refine Zu ?_ ?_); focus omega) | ((with_reducible refine Zt (fun oF hoF hnF hnF' => ?_)); (try simp only [upd_none, ne_eq, not_and] at hoF)) | ((with_reducible apply ACalls.one1); (focus ((first | with_reducible refine hc _ ?_ | with_reducible refine ACalls.flA (hc _ ?_) ?_) <;> (first | (simp (maxDischargeDepth := 9) -implicitDefEqProofs -dsimp only [go_sem, seval, *]; done) | omega))); (focus (first | trivial | with_reducible exact rfl | (simp (maxDischargeDepth := 9) -implicitDefEqProofs -dsimp only [go_sem, seval]; done)))))
          refine loop_next _ _ _ _ (i + 1) ?_; (repeat' (first | simp (maxDischargeDepth := 9) -implicitDefEqProofs -dsimp only [go_sem, seval, *] | simp (disch := omega) only [wrap64])) <;> (repeat' refine And.intro ?_ ?_) <;> (first | omega | rfl | assumption | skip)
        · have ei : i = t.e.length := by omega
          subst ei
          clear cE hPs hP0 hPl
          repeat' (first | simp (maxDischargeDepth := 9) -implicitDefEqProofs -dsimp only [go_sem, seval, *] | simp (disch := omega) only [wrap64] | ((with_reducible refine Zv ?_ ?_); focus (first | omega | exact rfl)) | ((with_reducible refine Zu ?_ ?_); focus omega) | ((with_reducible refine Zt (fun oF hoF hnF hnF' => ?_)); (try simp only [upd_none, ne_eq, not_and] at hoF)))
          refine loop_rule (fun k : Nat => [(84, some (.int .i64 k)), (83, some (.int .i64 t.l.length)), (82, some (.slice (t.l.map encT) .no)), (14, some (.slice ((Q k).1.map encT) (.own oV2))), (0, some (.ptr o 0)), (2, some (.bool false)), (3, some (.int .i64 L)), (11, some (.slice ((P t.e.length).1.map encE) (.own oV1))), (5, some (.ptr oT 0)), (8, some (.ptr oR 0))])
            (fun k => upd (upd (upd (upd (upd σ oV1 (.grow 8 t.e.length)) oV2 (.grow 6 k)) oT (.cells [.int .i64 t.op, .int .i64 t.sig, .int .i64 t.hi, .int .i64 t.lo, .slice (t.e.map encE) .no, .slice (t.l.map encT) .no])) oR (.cells [.int .i64 0, .int .i64 0, .int .i64 0, .int .i64 0, .slice [] .nil, .slice [] .nil])) o (szrC g (Q k).2))
            (fun k => k ≤ t.l.length) (fun k => t.l.length - k) 0 ?_ ?_
          · clear cT hQs hQl
            (repeat' (first | simp (maxDischargeDepth := 9) -implicitDefEqProofs -dsimp only [go_sem, seval, List.map_nil, *] | simp (disch := omega) only [wrap64])) <;> (repeat' refine And.intro ?_ ?_) <;> (first | omega | rfl | assumption | skip)
          · intro k hk
            by_cases hkt : k < t.l.length
            · have hx := encTs_eq t.l[k]
              have hc := cT t.l[k] (List.getElem_mem hkt)
              have hqs := hQs k hkt
              have hql := hQl k (by omega)
              clear cT hQs hQl hQ0 hx
              obtain ⟨⟨X, e1⟩, hX⟩ : ∃ X, Q k = X := ⟨_, rfl⟩
              rw [hX] at hqs hql ⊢
              clear hX
              simp only at hqs hql
              replace hc := hc e1
              repeat' (first | simp (maxDischargeDepth := 9) -implicitDefEqProofs -dsimp only [go_sem, seval, *] | simp (disch := omega) only [wrap64] | ((with_reducible refine Zv ?_ ?_); focus (first | omega | exact rfl)) | ((with_reducible refine Zu ?_ ?_); focus omega) | ((with_reducible refine Zt (fun oF hoF hnF hnF' => ?_)); (try simp only [upd_none, ne_eq, not_and] at hoF)) | ((with_reducible apply ACalls.one1); (focus ((first | with_reducible refine hc _ ?_ | with_reducible refine ACalls.flA (hc _ ?_) ?_) <;> (first | (simp (maxDischargeDepth := 9) -implicitDefEqProofs -dsimp only [go_sem, seval, *]; done) | omega))); (focus (first | trivial | with_reducible exact rfl | (simp (maxDischargeDepth := 9) -implicitDefEqProofs -dsimp only [go_sem, seval]; done)))))
              refine loop_next _ _ _ _ (k + 1) ?_; (repeat' (first | simp (maxDischargeDepth := 9) -implicitDefEqProofs -dsimp only [go_sem, seval, *] | simp (disch := omega) only [wrap64])) <;> (repeat' refine And.intro ?_ ?_) <;> (first | omega | rfl | assumption | skip)
            · have ek : k = t.l.length := by omega
              subst ek
              clear cT hQs hQ0
              replace hQl := hQl t.l.length (Nat.le_refl _)
              repeat' (first | simp (maxDischargeDepth := 9) -implicitDefEqProofs -dsimp only [go_sem, seval, *] | simp (disch := omega) only [wrap64] | ((with_reducible refine Zv ?_ ?_); focus (first | omega | exact rfl)) | ((with_reducible refine Zu ?_ ?_); focus omega) | ((with_reducible refine Zt (fun oF hoF hnF hnF' => ?_)); (try simp only [upd_none, ne_eq, not_and] at hoF)))
              refine fin_eq ?_
              (repeat' (first | simp (maxDischargeDepth := 9) -implicitDefEqProofs -dsimp only [go_sem, seval, *] | simp (disch := omega) only [wrap64])) <;> (repeat' refine And.intro ?_ ?_) <;> (first | omega | rfl | assumption | skip)
    case inr.inr.inr.inl =>
      subst q1 q2 q3 q4 q5
      repeat' (first | simp (maxDischargeDepth := 9) -implicitDefEqProofs -dsimp only [go_sem, seval, *] | simp (disch := omega) only [wrap64] | ((with_reducible refine Zv ?_ ?_); focus (first | omega | exact rfl)) | ((with_reducible refine Zu ?_ ?_); focus omega) | ((with_reducible refine Zt (fun oF hoF hnF hnF' => ?_)); (try simp only [upd_none, ne_eq, not_and] at hoF)))
      rename_i oT nx1 nx2 hoT
      obtain ⟨oR, eR⟩ : ∃ x, x = oF := ⟨oF, rfl⟩
      subst eR
      obtain ⟨a1, a2, a3⟩ := hoT
      obtain ⟨a4, a5, a6, a7⟩ := hoF
      obtain ⟨a8, a9⟩ := hoV2
      have n3 : ¬ oT = o := fun e => by rw [e, h] at a3; cases a3
      have n4 : ¬ oR = o := fun e => by rw [e, h] at a7; cases a7
      have m1 : ¬ o = oV1 := fun e => n1 e.symm
      have m2 : ¬ o = oV2 := fun e => n2 e.symm
      have m3 : ¬ o = oT := fun e => n3 e.symm
      have m4 : ¬ o = oR := fun e => n4 e.symm
      have b1 : ¬ oV2 = oT := fun e => a1 e.symm
      have b2 : ¬ oV1 = oT := fun e => a2 e.symm
      have b4 : ¬ oT = oR := fun e => a4 e.symm
      have b5 : ¬ oV2 = oR := fun e => a5 e.symm
      have b6 : ¬ oV1 = oR := fun e => a6 e.symm
      have b8 : ¬ oV1 = oV2 := fun e => a8 e.symm
      clear nx1 nx2 hnF hnF' hnV1 hnV1' hnV2 hnV2'
      refine loop_rule (fun i : Nat => [(62, some (.int .i64 i)), (61, some (.int .i64 t.e.length)), (60, some (.slice (t.e.map encE) .no)), (11, some (.slice ((P i).1.map encE) (.own oV1))), (0, some (.ptr o 0)), (9, some (.int .i64 (t.hi - t.lo + 1))), (5, some (.ptr oT 0)), (2, some (.bool true)), (8, some (.ptr oR 0)), (3, some (.int .i64 L))])
        (fun i => upd (upd (upd (upd (upd σ oV1 (.grow 8 i)) oV2 (.virt 6)) oT (.cells [.int .i64 t.op, .int .i64 t.sig, .int .i64 t.hi, .int .i64 t.lo, .slice (t.e.map encE) .no, .slice (t.l.map encT) .no])) oR (.cells [.int .i64 0, .int .i64 0, .int .i64 0, .int .i64 0, .slice [] .nil, .slice [] .nil])) o (szrC g (P i).2))
        (fun i => i ≤ t.e.length) (fun i => t.e.length - i) 0 ?_ ?_
      · (try clear hlo); clear cE cT hPs hQs hPl hQl hQ0
        (repeat' (first | simp (maxDischargeDepth := 9) -implicitDefEqProofs -dsimp only [go_sem, seval, List.map_nil, *] | simp (disch := omega) only [wrap64])) <;> (repeat' refine And.intro ?_ ?_) <;> (first | omega | rfl | assumption | skip)
      · intro i hi
        by_cases hlt : i < t.e.length
        · have hc := cE t.e[i] (List.getElem_mem hlt)
          have hps := hPs i hlt
          have hpl := hPl i (by omega)
          (try clear hlo); clear cE cT hPs hQs hPl hQl hQ0 hP0 hPL
          obtain ⟨⟨X, e1⟩, hX⟩ : ∃ X, P i = X := ⟨_, rfl⟩
          rw [hX] at hps hpl ⊢
          clear hX
          simp only at hps hpl
          replace hc := hc e1
          repeat' (first | simp (maxDischargeDepth := 9) -implicitDefEqProofs -dsimp only [go_sem, seval, *] | simp (disch := omega) only [wrap64] | ((with_reducible refine Zv ?_ ?_); focus (first | omega | exact rfl)) | ((with_reducible refine Zu ?_ ?_); focus omega) | ((with_reducible refine Zt (fun oF hoF hnF hnF' => ?_)); (try simp only [upd_none, ne_eq, not_and] at hoF)) | ((with_reducible apply ACalls.one1); (focus ((first | with_reducible refine hc _ ?_ | with_reducible refine ACalls.flA (hc _ ?_) ?_) <;> (first | (simp (maxDischargeDepth := 9) -implicitDefEqProofs -dsimp only [go_sem, seval, *]; done) | omega))); (focus (first | trivial | with_reducible exact rfl | (simp (maxDischargeDepth := 9) -implicitDefEqProofs -dsimp only [go_sem, seval]; done)))))
          refine loop_next _ _ _ _ (i + 1) ?_; (repeat' (first | simp (maxDischargeDepth := 9) -implicitDefEqProofs -dsimp only [go_sem, seval, *] | simp (disch := omega) only [wrap64])) <;> (repeat' refine And.intro ?_ ?_) <;> (first | omega | rfl | assumption | skip)
        · have ei : i = t.e.length := by omega
          subst ei
          clear cE hPs hP0 hPl
          repeat' (first | simp (maxDischargeDepth := 9) -implicitDefEqProofs -dsimp only [go_sem, seval, *] | simp (disch := omega) only [wrap64] | ((with_reducible refine Zv ?_ ?_); focus (first | omega | exact rfl)) | ((with_reducible refine Zu ?_ ?_); focus omega) | ((with_reducible refine Zt (fun oF hoF hnF hnF' => ?_)); (try simp only [upd_none, ne_eq, not_and] at hoF)))
          refine loop_rule (fun k : Nat => [(84, some (.int .i64 k)), (83, some (.int .i64 t.l.length)), (82, some (.slice (t.l.map encT) .no)), (14, some (.slice ((Q k).1.map encT) (.own oV2))), (0, some (.ptr o 0)), (2, some (.bool true)), (3, some (.int .i64 L)), (11, some (.slice ((P t.e.length).1.map encE) (.own oV1))), (5, some (.ptr oT 0)), (8, some (.ptr oR 0))])
            (fun k => upd (upd (upd (upd (upd σ oV1 (.grow 8 t.e.length)) oV2 (.grow 6 k)) oT (.cells [.int .i64 t.op, .int .i64 t.sig, .int .i64 t.hi, .int .i64 t.lo, .slice (t.e.map encE) .no, .slice (t.l.map encT) .no])) oR (.cells [.int .i64 0, .int .i64 0, .int .i64 0, .int .i64 0, .slice [] .nil, .slice [] .nil])) o (szrC g (Q k).2))
            (fun k => k ≤ t.l.length) (fun k => t.l.length - k) 0 ?_ ?_
          · clear cT hQs hQl
            (repeat' (first | simp (maxDischargeDepth := 9) -implicitDefEqProofs -dsimp only [go_sem, seval, List.map_nil, *] | simp (disch := omega) only [wrap64])) <;> (repeat' refine And.intro ?_ ?_) <;> (first | omega | rfl | assumption | skip)
          · intro k hk
            by_cases hkt : k < t.l.length
            · have hx := encTs_eq t.l[k]
              have hc := cT t.l[k] (List.getElem_mem hkt)
              have hqs := hQs k hkt
              have hql := hQl k (by omega)
              clear cT hQs hQl hQ0 hx
              obtain ⟨⟨X, e1⟩, hX⟩ : ∃ X, Q k = X := ⟨_, rfl⟩
              rw [hX] at hqs hql ⊢
              clear hX
              simp only at hqs hql
              replace hc := hc e1
              repeat' (first | simp (maxDischargeDepth := 9) -implicitDefEqProofs -dsimp only [go_sem, seval, *] | simp (disch := omega) only [wrap64] | ((with_reducible refine Zv ?_ ?_); focus (first | omega | exact rfl)) | ((with_reducible refine Zu ?_ ?_); focus omega) | ((with_reducible refine Zt (fun oF hoF hnF hnF' => ?_)); (try simp only [upd_none, ne_eq, not_and] at hoF)) | ((with_reducible apply ACalls.one1); (focus ((first | with_reducible refine hc _ ?_ | with_reducible refine ACalls.flA (hc _ ?_) ?_) <;> (first | (simp (maxDischargeDepth := 9) -implicitDefEqProofs -dsimp only [go_sem, seval, *]; done) | omega))); (focus (first | trivial | with_reducible exact rfl | (simp (maxDischargeDepth := 9) -implicitDefEqProofs -dsimp only [go_sem, seval]; done)))))
              refine loop_next _ _ _ _ (k + 1) ?_; (repeat' (first | simp (maxDischargeDepth := 9) -implicitDefEqProofs -dsimp only [go_sem, seval, *] | simp (disch := omega) only [wrap64])) <;> (repeat' refine And.intro ?_ ?_) <;> (first | omega | rfl | assumption | skip)
            · have ek : k = t.l.length := by omega
              subst ek
              clear cT hQs hQ0
              replace hQl := hQl t.l.length (Nat.le_refl _)
              repeat' (first | simp (maxDischargeDepth := 9) -implicitDefEqProofs -dsimp only [go_sem, seval, *] | simp (disch := omega) only [wrap64] | ((with_reducible refine Zv ?_ ?_); focus (first | omega | exact rfl)) | ((with_reducible refine Zu ?_ ?_); focus omega) | ((with_reducible refine Zt (fun oF hoF hnF hnF' => ?_)); (try simp only [upd_none, ne_eq, not_and] at hoF)))
              refine fin_eq ?_
              (repeat' (first | simp (maxDischargeDepth := 9) -implicitDefEqProofs -dsimp only [go_sem, seval, *] | simp (disch := omega) only [wrap64])) <;> (repeat' refine And.intro ?_ ?_) <;> (first | omega | rfl | assumption | skip)
    case inr.inr.inr.inr.inl =>
      subst q1 q2 q3 q4 q5
      repeat' (first | simp (maxDischargeDepth := 9) -implicitDefEqProofs -dsimp only [go_sem, seval, *] | simp (disch := omega) only [wrap64] | ((with_reducible refine Zv ?_ ?_); focus (first | omega | exact rfl)) | ((with_reducible refine Zu ?_ ?_); focus omega) | ((with_reducible refine Zt (fun oF hoF hnF hnF' => ?_)); (try simp only [upd_none, ne_eq, not_and] at hoF)))
      rename_i oT nx1 nx2 hoT
      obtain ⟨oR, eR⟩ : ∃ x, x = oF := ⟨oF, rfl⟩
      subst eR
      obtain ⟨a1, a2, a3⟩ := hoT
      obtain ⟨a4, a5, a6, a7⟩ := hoF
      obtain ⟨a8, a9⟩ := hoV2
      have n3 : ¬ oT = o := fun e => by rw [e, h] at a3; cases a3
      have n4 : ¬ oR = o := fun e => by rw [e, h] at a7; cases a7
      have m1 : ¬ o = oV1 := fun e => n1 e.symm
      have m2 : ¬ o = oV2 := fun e => n2 e.symm
      have m3 : ¬ o = oT := fun e => n3 e.symm
      have m4 : ¬ o = oR := fun e => n4 e.symm
      have b1 : ¬ oV2 = oT := fun e => a1 e.symm
      have b2 : ¬ oV1 = oT := fun e => a2 e.symm
      have b4 : ¬ oT = oR := fun e => a4 e.symm
      have b5 : ¬ oV2 = oR := fun e => a5 e.symm
      have b6 : ¬ oV1 = oR := fun e => a6 e.symm
      have b8 : ¬ oV1 = oV2 := fun e => a8 e.symm
      clear nx1 nx2 hnF hnF' hnV1 hnV1' hnV2 hnV2'
      refine loop_rule (fun i : Nat => [(62, some (.int .i64 i)), (61, some (.int .i64 t.e.length)), (60, some (.slice (t.e.map encE) .no)), (11, some (.slice ((P i).1.map encE) (.own oV1))), (0, some (.ptr o 0)), (9, some (.int .i64 (t.hi - t.lo + 1))), (5, some (.ptr oT 0)), (2, some (.bool false)), (8, some (.ptr oR 0)), (3, some (.int .i64 L))])
        (fun i => upd (upd (upd (upd (upd σ oV1 (.grow 8 i)) oV2 (.virt 6)) oT (.cells [.int .i64 t.op, .int .i64 t.sig, .int .i64 t.hi, .int .i64 t.lo, .slice (t.e.map encE) .no, .slice (t.l.map encT) .no])) oR (.cells [.int .i64 0, .int .i64 0, .int .i64 0, .int .i64 0, .slice [] .nil, .slice [] .nil])) o (szrC g (P i).2))
        (fun i => i ≤ t.e.length) (fun i => t.e.length - i) 0 ?_ ?_
      · (try clear hlo); clear cE cT hPs hQs hPl hQl hQ0
        (repeat' (first | simp (maxDischargeDepth := 9) -implicitDefEqProofs -dsimp only [go_sem, seval, List.map_nil, *] | simp (disch := omega) only [wrap64])) <;> (repeat' refine And.intro ?_ ?_) <;> (first | omega | rfl | assumption | skip)
      · intro i hi
        by_cases hlt : i < t.e.length
        · have hc := cE t.e[i] (List.getElem_mem hlt)
          have hps := hPs i hlt
          have hpl := hPl i (by omega)
          (try clear hlo); clear cE cT hPs hQs hPl hQl hQ0 hP0 hPL
          obtain ⟨⟨X, e1⟩, hX⟩ : ∃ X, P i = X := ⟨_, rfl⟩
          rw [hX] at hps hpl ⊢
          clear hX
          simp only at hps hpl
          replace hc := hc e1
          repeat' (first | simp (maxDischargeDepth := 9) -implicitDefEqProofs -dsimp only [go_sem, seval, *] | simp (disch := omega) only [wrap64] | ((with_reducible refine Zv ?_ ?_); focus (first | omega | exact rfl)) | ((with_reducible refine Zu ?_ ?_); focus omega) | ((with_reducible refine Zt (fun oF hoF hnF hnF' => ?_)); (try simp only [upd_none, ne_eq, not_and] at hoF)) | ((with_reducible apply ACalls.one1); (focus ((first | with_reducible refine hc _ ?_ | with_reducible refine ACalls.flA (hc _ ?_) ?_) <;> (first | (simp (maxDischargeDepth := 9) -implicitDefEqProofs -dsimp only [go_sem, seval, *]; done) | omega))); (focus (first | trivial | with_reducible exact rfl | (simp (maxDischargeDepth := 9) -implicitDefEqProofs -dsimp only [go_sem, seval]; done)))))
          refine loop_next _ _ _ _ (i + 1) ?_; (repeat' (first | simp (maxDischargeDepth := 9) -implicitDefEqProofs -dsimp only [go_sem, seval, *] | simp (disch := omega) only [wrap64])) <;> (repeat' refine And.intro ?_ ?_) <;> (first | omega | rfl | assumption | skip)
        · have ei : i = t.e.length := by omega
          subst ei
          clear cE hPs hP0 hPl
          repeat' (first | simp (maxDischargeDepth := 9) -implicitDefEqProofs -dsimp only [go_sem, seval, *] | simp (disch := omega) only [wrap64] | ((with_reducible refine Zv ?_ ?_); focus (first | omega | exact rfl)) | ((with_reducible refine Zu ?_ ?_); focus omega) | ((with_reducible refine Zt (fun oF hoF hnF hnF' => ?_)); (try simp only [upd_none, ne_eq, not_and] at hoF)))
          refine loop_rule (fun k : Nat => [(84, some (.int .i64 k)), (83, some (.int .i64 t.l.length)), (82, some (.slice (t.l.map encT) .no)), (14, some (.slice ((Q k).1.map encT) (.own oV2))), (0, some (.ptr o 0)), (2, some (.bool false)), (3, some (.int .i64 L)), (11, some (.slice ((P t.e.length).1.map encE) (.own oV1))), (5, some (.ptr oT 0)), (8, some (.ptr oR 0))])
            (fun k => upd (upd (upd (upd (upd σ oV1 (.grow 8 t.e.length)) oV2 (.grow 6 k)) oT (.cells [.int .i64 t.op, .int .i64 t.sig, .int .i64 t.hi, .int .i64 t.lo, .slice (t.e.map encE) .no, .slice (t.l.map encT) .no])) oR (.cells [.int .i64 0, .int .i64 0, .int .i64 0, .int .i64 0, .slice [] .nil, .slice [] .nil])) o (szrC g (Q k).2))
            (fun k => k ≤ t.l.length) (fun k => t.l.length - k) 0 ?_ ?_
          · clear cT hQs hQl
            (repeat' (first | simp (maxDischargeDepth := 9) -implicitDefEqProofs -dsimp only [go_sem, seval, List.map_nil, *] | simp (disch := omega) only [wrap64])) <;> (repeat' refine And.intro ?_ ?_) <;> (first | omega | rfl | assumption | skip)
          · intro k hk
            by_cases hkt : k < t.l.length
            · have hx := encTs_eq t.l[k]
              have hc := cT t.l[k] (List.getElem_mem hkt)
              have hqs := hQs k hkt
              have hql := hQl k (by omega)
              clear cT hQs hQl hQ0 hx
              obtain ⟨⟨X, e1⟩, hX⟩ : ∃ X, Q k = X := ⟨_, rfl⟩
              rw [hX] at hqs hql ⊢
              clear hX
              simp only at hqs hql
              replace hc := hc e1
              repeat' (first | simp (maxDischargeDepth := 9) -implicitDefEqProofs -dsimp only [go_sem, seval, *] | simp (disch := omega) only [wrap64] | ((with_reducible refine Zv ?_ ?_); focus (first | omega | exact rfl)) | ((with_reducible refine Zu ?_ ?_); focus omega) | ((with_reducible refine Zt (fun oF hoF hnF hnF' => ?_)); (try simp only [upd_none, ne_eq, not_and] at hoF)) | ((with_reducible apply ACalls.one1); (focus ((first | with_reducible refine hc _ ?_ | with_reducible refine ACalls.flA (hc _ ?_) ?_) <;> (first | (simp (maxDischargeDepth := 9) -implicitDefEqProofs -dsimp only [go_sem, seval, *]; done) | omega))); (focus (first | trivial | with_reducible exact rfl | (simp (maxDischargeDepth := 9) -implicitDefEqProofs -dsimp only [go_sem, seval]; done)))))
              refine loop_next _ _ _ _ (k + 1) ?_; (repeat' (first | simp (maxDischargeDepth := 9) -implicitDefEqProofs -dsimp only [go_sem, seval, *] | simp (disch := omega) only [wrap64])) <;> (repeat' refine And.intro ?_ ?_) <;> (first | omega | rfl | assumption | skip)
            · have ek : k = t.l.length := by omega
              subst ek
              clear cT hQs hQ0
              replace hQl := hQl t.l.length (Nat.le_refl _)
              repeat' (first | simp (maxDischargeDepth := 9) -implicitDefEqProofs -dsimp only [go_sem, seval, *] | simp (disch := omega) only [wrap64] | ((with_reducible refine Zv ?_ ?_); focus (first | omega | exact rfl)) | ((with_reducible refine Zu ?_ ?_); focus omega) | ((with_reducible refine Zt (fun oF hoF hnF hnF' => ?_)); (try simp only [upd_none, ne_eq, not_and] at hoF)))
              refine fin_eq ?_
              (repeat' (first | simp (maxDischargeDepth := 9) -implicitDefEqProofs -dsimp only [go_sem, seval, *] | simp (disch := omega) only [wrap64])) <;> (repeat' refine And.intro ?_ ?_) <;> (first | omega | rfl | assumption | skip)
    case inr.inr.inr.inr.inr =>
      have q1b : (e0 == 0) = false := by simp [q1]
      subst q5
      clear q1
      repeat' (first | simp (maxDischargeDepth := 9) -implicitDefEqProofs -dsimp only [go_sem, seval, *] | simp (disch := omega) only [wrap64] | ((with_reducible refine Zv ?_ ?_); focus (first | omega | exact rfl)) | ((with_reducible refine Zu ?_ ?_); focus omega) | ((with_reducible refine Zt (fun oF hoF hnF hnF' => ?_)); (try simp only [upd_none, ne_eq, not_and] at hoF)))
      rename_i oT nx1 nx2 hoT
      obtain ⟨oR, eR⟩ : ∃ x, x = oF := ⟨oF, rfl⟩
      subst eR
      obtain ⟨a1, a2, a3⟩ := hoT
      obtain ⟨a4, a5, a6, a7⟩ := hoF
      obtain ⟨a8, a9⟩ := hoV2
      have n3 : ¬ oT = o := fun e => by rw [e, h] at a3; cases a3
      have n4 : ¬ oR = o := fun e => by rw [e, h] at a7; cases a7
      have m1 : ¬ o = oV1 := fun e => n1 e.symm
      have m2 : ¬ o = oV2 := fun e => n2 e.symm
      have m3 : ¬ o = oT := fun e => n3 e.symm
      have m4 : ¬ o = oR := fun e => n4 e.symm
      have b1 : ¬ oV2 = oT := fun e => a1 e.symm
      have b2 : ¬ oV1 = oT := fun e => a2 e.symm
      have b4 : ¬ oT = oR := fun e => a4 e.symm
      have b5 : ¬ oV2 = oR := fun e => a5 e.symm
      have b6 : ¬ oV1 = oR := fun e => a6 e.symm
      have b8 : ¬ oV1 = oV2 := fun e => a8 e.symm
      clear nx1 nx2 hnF hnF' hnV1 hnV1' hnV2 hnV2'
      refine loop_rule (fun i : Nat => [(62, some (.int .i64 i)), (61, some (.int .i64 t.e.length)), (60, some (.slice (t.e.map encE) .no)), (11, some (.slice ((P i).1.map encE) (.own oV1))), (0, some (.ptr o 0)), (9, some (.int .i64 (t.hi - t.lo + 1))), (5, some (.ptr oT 0)), (2, some (.bool clk)), (8, some (.ptr oR 0)), (3, some (.int .i64 L))])
        (fun i => upd (upd (upd (upd (upd σ oV1 (.grow 8 i)) oV2 (.virt 6)) oT (.cells [.int .i64 t.op, .int .i64 t.sig, .int .i64 t.hi, .int .i64 t.lo, .slice (t.e.map encE) .no, .slice (t.l.map encT) .no])) oR (.cells [.int .i64 0, .int .i64 0, .int .i64 0, .int .i64 0, .slice [] .nil, .slice [] .nil])) o (szrC g (P i).2))
        (fun i => i ≤ t.e.length) (fun i => t.e.length - i) 0 ?_ ?_
      · (try clear hlo); clear cE cT hPs hQs hPl hQl hQ0
        (repeat' (first | simp (maxDischargeDepth := 9) -implicitDefEqProofs -dsimp only [go_sem, seval, List.map_nil, *] | simp (disch := omega) only [wrap64])) <;> (repeat' refine And.intro ?_ ?_) <;> (first | omega | rfl | assumption | skip)
      · intro i hi
        by_cases hlt : i < t.e.length
        · have hc := cE t.e[i] (List.getElem_mem hlt)
          have hps := hPs i hlt
          have hpl := hPl i (by omega)
          (try clear hlo); clear cE cT hPs hQs hPl hQl hQ0 hP0 hPL
          obtain ⟨⟨X, e1⟩, hX⟩ : ∃ X, P i = X := ⟨_, rfl⟩
          rw [hX] at hps hpl ⊢
          clear hX
          simp only at hps hpl
          replace hc := hc e1
          repeat' (first | simp (maxDischargeDepth := 9) -implicitDefEqProofs -dsimp only [go_sem, seval, *] | simp (disch := omega) only [wrap64] | ((with_reducible refine Zv ?_ ?_); focus (first | omega | exact rfl)) | ((with_reducible refine Zu ?_ ?_); focus omega) | ((with_reducible refine Zt (fun oF hoF hnF hnF' => ?_)); (try simp only [upd_none, ne_eq, not_and] at hoF)) | ((with_reducible apply ACalls.one1); (focus ((first | with_reducible refine hc _ ?_ | with_reducible refine ACalls.flA (hc _ ?_) ?_) <;> (first | (simp (maxDischargeDepth := 9) -implicitDefEqProofs -dsimp only [go_sem, seval, *]; done) | omega))); (focus (first | trivial | with_reducible exact rfl | (simp (maxDischargeDepth := 9) -implicitDefEqProofs -dsimp only [go_sem, seval]; done)))))
          refine loop_next _ _ _ _ (i + 1) ?_; (repeat' (first | simp (maxDischargeDepth := 9) -implicitDefEqProofs -dsimp only [go_sem, seval, *] | simp (disch := omega) only [wrap64])) <;> (repeat' refine And.intro ?_ ?_) <;> (first | omega | rfl | assumption | skip)
        · have ei : i = t.e.length := by omega
          subst ei
          clear cE hPs hP0 hPl
          repeat' (first | simp (maxDischargeDepth := 9) -implicitDefEqProofs -dsimp only [go_sem, seval, *] | simp (disch := omega) only [wrap64] | ((with_reducible refine Zv ?_ ?_); focus (first | omega | exact rfl)) | ((with_reducible refine Zu ?_ ?_); focus omega) | ((with_reducible refine Zt (fun oF hoF hnF hnF' => ?_)); (try simp only [upd_none, ne_eq, not_and] at hoF)))
          refine loop_rule (fun k : Nat => [(84, some (.int .i64 k)), (83, some (.int .i64 t.l.length)), (82, some (.slice (t.l.map encT) .no)), (14, some (.slice ((Q k).1.map encT) (.own oV2))), (0, some (.ptr o 0)), (2, some (.bool clk)), (3, some (.int .i64 L)), (11, some (.slice ((P t.e.length).1.map encE) (.own oV1))), (5, some (.ptr oT 0)), (8, some (.ptr oR 0))])
            (fun k => upd (upd (upd (upd (upd σ oV1 (.grow 8 t.e.length)) oV2 (.grow 6 k)) oT (.cells [.int .i64 t.op, .int .i64 t.sig, .int .i64 t.hi, .int .i64 t.lo, .slice (t.e.map encE) .no, .slice (t.l.map encT) .no])) oR (.cells [.int .i64 0, .int .i64 0, .int .i64 0, .int .i64 0, .slice [] .nil, .slice [] .nil])) o (szrC g (Q k).2))
            (fun k => k ≤ t.l.length) (fun k => t.l.length - k) 0 ?_ ?_
          · clear cT hQs hQl
            (repeat' (first | simp (maxDischargeDepth := 9) -implicitDefEqProofs -dsimp only [go_sem, seval, List.map_nil, *] | simp (disch := omega) only [wrap64])) <;> (repeat' refine And.intro ?_ ?_) <;> (first | omega | rfl | assumption | skip)
          · intro k hk
            by_cases hkt : k < t.l.length
            · have hx := encTs_eq t.l[k]
              have hc := cT t.l[k] (List.getElem_mem hkt)
              have hqs := hQs k hkt
              have hql := hQl k (by omega)
              clear cT hQs hQl hQ0 hx
              obtain ⟨⟨X, e1⟩, hX⟩ : ∃ X, Q k = X := ⟨_, rfl⟩
              rw [hX] at hqs hql ⊢
              clear hX
              simp only at hqs hql
              replace hc := hc e1
              repeat' (first | simp (maxDischargeDepth := 9) -implicitDefEqProofs -dsimp only [go_sem, seval, *] | simp (disch := omega) only [wrap64] | ((with_reducible refine Zv ?_ ?_); focus (first | omega | exact rfl)) | ((with_reducible refine Zu ?_ ?_); focus omega) | ((with_reducible refine Zt (fun oF hoF hnF hnF' => ?_)); (try simp only [upd_none, ne_eq, not_and] at hoF)) | ((with_reducible apply ACalls.one1); (focus ((first | with_reducible refine hc _ ?_ | with_reducible refine ACalls.flA (hc _ ?_) ?_) <;> (first | (simp (maxDischargeDepth := 9) -implicitDefEqProofs -dsimp only [go_sem, seval, *]; done) | omega))); (focus (first | trivial | with_reducible exact rfl | (simp (maxDischargeDepth := 9) -implicitDefEqProofs -dsimp only [go_sem, seval]; done)))))
              refine loop_next _ _ _ _ (k + 1) ?_; (repeat' (first | simp (maxDischargeDepth := 9) -implicitDefEqProofs -dsimp only [go_sem, seval, *] | simp (disch := omega) only [wrap64])) <;> (repeat' refine And.intro ?_ ?_) <;> (first | omega | rfl | assumption | skip)
            · have ek : k = t.l.length := by omega
              subst ek
              clear cT hQs hQ0
              replace hQl := hQl t.l.length (Nat.le_refl _)
              repeat' (first | simp (maxDischargeDepth := 9) -implicitDefEqProofs -dsimp only [go_sem, seval, *] | simp (disch := omega) only [wrap64] | ((with_reducible refine Zv ?_ ?_); focus (first | omega | exact rfl)) | ((with_reducible refine Zu ?_ ?_); focus omega) | ((with_reducible refine Zt (fun oF hoF hnF hnF' => ?_)); (try simp only [upd_none, ne_eq, not_and] at hoF)))
              refine fin_eq ?_
              (repeat' (first | simp (maxDischargeDepth := 9) -implicitDefEqProofs -dsimp only [go_sem, seval, *] | simp (disch := omega) only [wrap64])) <;> (repeat' refine And.intro ?_ ?_) <;> (first | omega | rfl | assumption | skip)
  case inr.inl =>
    subst hWv hRv
    replace hln := hln (by omega)
    subst hln
    have hob : (t.op == 3) = false := by simp [o2]
    clear hlo
    repeat' (first | simp (maxDischargeDepth := 9) -implicitDefEqProofs -dsimp only [go_sem, seval, *] | simp (disch := omega) only [wrap64] | ((with_reducible refine Zv ?_ ?_); focus (first | omega | exact rfl)) | ((with_reducible refine Zu ?_ ?_); focus omega) | ((with_reducible refine Zt (fun oF hoF hnF hnF' => ?_)); (try simp only [upd_none, ne_eq, not_and] at hoF)))
    rename_i oT nx1 nx2 hoT
    obtain ⟨oR, eR⟩ : ∃ x, x = oF := ⟨oF, rfl⟩
    subst eR
    obtain ⟨a1, a2, a3⟩ := hoT
    obtain ⟨a4, a5, a6, a7⟩ := hoF
    obtain ⟨a8, a9⟩ := hoV2
    have n3 : ¬ oT = o := fun e => by rw [e, h] at a3; cases a3
    have n4 : ¬ oR = o := fun e => by rw [e, h] at a7; cases a7
    have m1 : ¬ o = oV1 := fun e => n1 e.symm
    have m2 : ¬ o = oV2 := fun e => n2 e.symm
    have m3 : ¬ o = oT := fun e => n3 e.symm
    have m4 : ¬ o = oR := fun e => n4 e.symm
    have b1 : ¬ oV2 = oT := fun e => a1 e.symm
    have b2 : ¬ oV1 = oT := fun e => a2 e.symm
    have b4 : ¬ oT = oR := fun e => a4 e.symm
    have b5 : ¬ oV2 = oR := fun e => a5 e.symm
    have b6 : ¬ oV1 = oR := fun e => a6 e.symm
    have b8 : ¬ oV1 = oV2 := fun e => a8 e.symm
    clear nx1 nx2 hnF hnF' hnV1 hnV1' hnV2 hnV2'
    refine loop_rule (fun i : Nat => [(62, some (.int .i64 i)), (61, some (.int .i64 t.e.length)), (60, some (.slice (t.e.map encE) .no)), (11, some (.slice ((P i).1.map encE) (.own oV1))), (0, some (.ptr o 0)), (9, some (.int .i64 (-1))), (5, some (.ptr oT 0)), (2, some (.bool clk)), (8, some (.ptr oR 0)), (3, some (.int .i64 L))])
      (fun i => upd (upd (upd (upd (upd σ oV1 (.grow 8 i)) oV2 (.virt 6)) oT (.cells [.int .i64 t.op, .int .i64 t.sig, .int .i64 t.hi, .int .i64 t.lo, .slice (t.e.map encE) .no, .slice (t.l.map encT) .no])) oR (.cells [.int .i64 0, .int .i64 0, .int .i64 0, .int .i64 0, .slice [] .nil, .slice [] .nil])) o (szrC g (P i).2))
      (fun i => i ≤ t.e.length) (fun i => t.e.length - i) 0 ?_ ?_
    · (try clear hlo); clear cE cT hPs hQs hPl hQl hQ0
      (repeat' (first | simp (maxDischargeDepth := 9) -implicitDefEqProofs -dsimp only [go_sem, seval, List.map_nil, *] | simp (disch := omega) only [wrap64])) <;> (repeat' refine And.intro ?_ ?_) <;> (first | omega | rfl | assumption | skip)
    · intro i hi
      by_cases hlt : i < t.e.length
      · have hc := cE t.e[i] (List.getElem_mem hlt)
        have hps := hPs i hlt
        have hpl := hPl i (by omega)
        (try clear hlo); clear cE cT hPs hQs hPl hQl hQ0 hP0 hPL
        obtain ⟨⟨X, e1⟩, hX⟩ : ∃ X, P i = X := ⟨_, rfl⟩
        rw [hX] at hps hpl ⊢
        clear hX
        simp only at hps hpl
        replace hc := hc e1
        repeat' (first | simp (maxDischargeDepth := 9) -implicitDefEqProofs -dsimp only [go_sem, seval, *] | simp (disch := omega) only [wrap64] | ((with_reducible refine Zv ?_ ?_); focus (first | omega | exact rfl)) | ((with_reducible refine Zu ?_ ?_); focus omega) | ((with_reducible refine Zt (fun oF hoF hnF hnF' => ?_)); (try simp only [upd_none, ne_eq, not_and] at hoF)) | ((with_reducible apply ACalls.one1); (focus ((first | with_reducible refine hc _ ?_ | with_reducible refine ACalls.flA (hc _ ?_) ?_) <;> (first | (simp (maxDischargeDepth := 9) -implicitDefEqProofs -dsimp only [go_sem, seval, *]; done) | omega))); (focus (first | trivial | with_reducible exact rfl | (simp (maxDischargeDepth := 9) -implicitDefEqProofs -dsimp only [go_sem, seval]; done)))))
        refine loop_next _ _ _ _ (i + 1) ?_; (repeat' (first | simp (maxDischargeDepth := 9) -implicitDefEqProofs -dsimp only [go_sem, seval, *] | simp (disch := omega) only [wrap64])) <;> (repeat' refine And.intro ?_ ?_) <;> (first | omega | rfl | assumption | skip)
      · have ei : i = t.e.length := by omega
        subst ei
        clear cE hPs hP0 hPl
        repeat' (first | simp (maxDischargeDepth := 9) -implicitDefEqProofs -dsimp only [go_sem, seval, *] | simp (disch := omega) only [wrap64] | ((with_reducible refine Zv ?_ ?_); focus (first | omega | exact rfl)) | ((with_reducible refine Zu ?_ ?_); focus omega) | ((with_reducible refine Zt (fun oF hoF hnF hnF' => ?_)); (try simp only [upd_none, ne_eq, not_and] at hoF)))
        refine loop_rule (fun k : Nat => [(84, some (.int .i64 k)), (83, some (.int .i64 t.l.length)), (82, some (.slice (t.l.map encT) .no)), (14, some (.slice ((Q k).1.map encT) (.own oV2))), (0, some (.ptr o 0)), (2, some (.bool clk)), (3, some (.int .i64 L)), (11, some (.slice ((P t.e.length).1.map encE) (.own oV1))), (5, some (.ptr oT 0)), (8, some (.ptr oR 0))])
          (fun k => upd (upd (upd (upd (upd σ oV1 (.grow 8 t.e.length)) oV2 (.grow 6 k)) oT (.cells [.int .i64 t.op, .int .i64 t.sig, .int .i64 t.hi, .int .i64 t.lo, .slice (t.e.map encE) .no, .slice (t.l.map encT) .no])) oR (.cells [.int .i64 0, .int .i64 0, .int .i64 0, .int .i64 0, .slice [] .nil, .slice [] .nil])) o (szrC g (Q k).2))
          (fun k => k ≤ t.l.length) (fun k => t.l.length - k) 0 ?_ ?_
        · clear cT hQs hQl
          (repeat' (first | simp (maxDischargeDepth := 9) -implicitDefEqProofs -dsimp only [go_sem, seval, List.map_nil, *] | simp (disch := omega) only [wrap64])) <;> (repeat' refine And.intro ?_ ?_) <;> (first | omega | rfl | assumption | skip)
        · intro k hk
          by_cases hkt : k < t.l.length
          · have hx := encTs_eq t.l[k]
            have hc := cT t.l[k] (List.getElem_mem hkt)
            have hqs := hQs k hkt
            have hql := hQl k (by omega)
            clear cT hQs hQl hQ0 hx
            obtain ⟨⟨X, e1⟩, hX⟩ : ∃ X, Q k = X := ⟨_, rfl⟩
            rw [hX] at hqs hql ⊢
            clear hX
            simp only at hqs hql
            replace hc := hc e1
            repeat' (first | simp (maxDischargeDepth := 9) -implicitDefEqProofs -dsimp only [go_sem, seval, *] | simp (disch := omega) only [wrap64] | ((with_reducible refine Zv ?_ ?_); focus (first | omega | exact rfl)) | ((with_reducible refine Zu ?_ ?_); focus omega) | ((with_reducible refine Zt (fun oF hoF hnF hnF' => ?_)); (try simp only [upd_none, ne_eq, not_and] at hoF)) | ((with_reducible apply ACalls.one1); (focus ((first | with_reducible refine hc _ ?_ | with_reducible refine ACalls.flA (hc _ ?_) ?_) <;> (first | (simp (maxDischargeDepth := 9) -implicitDefEqProofs -dsimp only [go_sem, seval, *]; done) | omega))); (focus (first | trivial | with_reducible exact rfl | (simp (maxDischargeDepth := 9) -implicitDefEqProofs -dsimp only [go_sem, seval]; done)))))
            refine loop_next _ _ _ _ (k + 1) ?_; (repeat' (first | simp (maxDischargeDepth := 9) -implicitDefEqProofs -dsimp only [go_sem, seval, *] | simp (disch := omega) only [wrap64])) <;> (repeat' refine And.intro ?_ ?_) <;> (first | omega | rfl | assumption | skip)
          · have ek : k = t.l.length := by omega
            subst ek
            clear cT hQs hQ0
            replace hQl := hQl t.l.length (Nat.le_refl _)
            repeat' (first | simp (maxDischargeDepth := 9) -implicitDefEqProofs -dsimp only [go_sem, seval, *] | simp (disch := omega) only [wrap64] | ((with_reducible refine Zv ?_ ?_); focus (first | omega | exact rfl)) | ((with_reducible refine Zu ?_ ?_); focus omega) | ((with_reducible refine Zt (fun oF hoF hnF hnF' => ?_)); (try simp only [upd_none, ne_eq, not_and] at hoF)))
            refine fin_eq ?_
            (repeat' (first | simp (maxDischargeDepth := 9) -implicitDefEqProofs -dsimp only [go_sem, seval, *] | simp (disch := omega) only [wrap64])) <;> (repeat' refine And.intro ?_ ?_) <;> (first | omega | rfl | assumption | skip)
  case inr.inr.inl =>
    subst hWv hRv
    have hle := s3 o3
    have hlx : 0 < (P t.e.length).1.length := by omega
    replace hlo := hlo o3 hlx
    clear hln
    repeat' (first | simp (maxDischargeDepth := 9) -implicitDefEqProofs -dsimp only [go_sem, seval, *] | simp (disch := omega) only [wrap64] | ((with_reducible refine Zv ?_ ?_); focus (first | omega | exact rfl)) | ((with_reducible refine Zu ?_ ?_); focus omega) | ((with_reducible refine Zt (fun oF hoF hnF hnF' => ?_)); (try simp only [upd_none, ne_eq, not_and] at hoF)))
    rename_i oT nx1 nx2 hoT
    obtain ⟨oR, eR⟩ : ∃ x, x = oF := ⟨oF, rfl⟩
    subst eR
    obtain ⟨a1, a2, a3⟩ := hoT
    obtain ⟨a4, a5, a6, a7⟩ := hoF
    obtain ⟨a8, a9⟩ := hoV2
    have n3 : ¬ oT = o := fun e => by rw [e, h] at a3; cases a3
    have n4 : ¬ oR = o := fun e => by rw [e, h] at a7; cases a7
    have m1 : ¬ o = oV1 := fun e => n1 e.symm
    have m2 : ¬ o = oV2 := fun e => n2 e.symm
    have m3 : ¬ o = oT := fun e => n3 e.symm
    have m4 : ¬ o = oR := fun e => n4 e.symm
    have b1 : ¬ oV2 = oT := fun e => a1 e.symm
    have b2 : ¬ oV1 = oT := fun e => a2 e.symm
    have b4 : ¬ oT = oR := fun e => a4 e.symm
    have b5 : ¬ oV2 = oR := fun e => a5 e.symm
    have b6 : ¬ oV1 = oR := fun e => a6 e.symm
    have b8 : ¬ oV1 = oV2 := fun e => a8 e.symm
    clear nx1 nx2 hnF hnF' hnV1 hnV1' hnV2 hnV2'
    refine loop_rule (fun i : Nat => [(62, some (.int .i64 i)), (61, some (.int .i64 t.e.length)), (60, some (.slice (t.e.map encE) .no)), (11, some (.slice ((P i).1.map encE) (.own oV1))), (0, some (.ptr o 0)), (9, some (.int .i64 0)), (5, some (.ptr oT 0)), (2, some (.bool clk)), (8, some (.ptr oR 0)), (3, some (.int .i64 lab))])
      (fun i => upd (upd (upd (upd (upd σ oV1 (.grow 8 i)) oV2 (.virt 6)) oT (.cells [.int .i64 t.op, .int .i64 t.sig, .int .i64 t.hi, .int .i64 t.lo, .slice (t.e.map encE) .no, .slice (t.l.map encT) .no])) oR (.cells [.int .i64 0, .int .i64 0, .int .i64 0, .int .i64 0, .slice [] .nil, .slice [] .nil])) o (szrC g (P i).2))
      (fun i => i ≤ t.e.length) (fun i => t.e.length - i) 0 ?_ ?_
    · (try clear hlo); clear cE cT hPs hQs hPl hQl hQ0
      (repeat' (first | simp (maxDischargeDepth := 9) -implicitDefEqProofs -dsimp only [go_sem, seval, List.map_nil, *] | simp (disch := omega) only [wrap64])) <;> (repeat' refine And.intro ?_ ?_) <;> (first | omega | rfl | assumption | skip)
    · intro i hi
      by_cases hlt : i < t.e.length
      · have hc := cE t.e[i] (List.getElem_mem hlt)
        have hps := hPs i hlt
        have hpl := hPl i (by omega)
        (try clear hlo); clear cE cT hPs hQs hPl hQl hQ0 hP0 hPL
        obtain ⟨⟨X, e1⟩, hX⟩ : ∃ X, P i = X := ⟨_, rfl⟩
        rw [hX] at hps hpl ⊢
        clear hX
        simp only at hps hpl
        replace hc := hc e1
        repeat' (first | simp (maxDischargeDepth := 9) -implicitDefEqProofs -dsimp only [go_sem, seval, *] | simp (disch := omega) only [wrap64] | ((with_reducible refine Zv ?_ ?_); focus (first | omega | exact rfl)) | ((with_reducible refine Zu ?_ ?_); focus omega) | ((with_reducible refine Zt (fun oF hoF hnF hnF' => ?_)); (try simp only [upd_none, ne_eq, not_and] at hoF)) | ((with_reducible apply ACalls.one1); (focus ((first | with_reducible refine hc _ ?_ | with_reducible refine ACalls.flA (hc _ ?_) ?_) <;> (first | (simp (maxDischargeDepth := 9) -implicitDefEqProofs -dsimp only [go_sem, seval, *]; done) | omega))); (focus (first | trivial | with_reducible exact rfl | (simp (maxDischargeDepth := 9) -implicitDefEqProofs -dsimp only [go_sem, seval]; done)))))
        refine loop_next _ _ _ _ (i + 1) ?_; (repeat' (first | simp (maxDischargeDepth := 9) -implicitDefEqProofs -dsimp only [go_sem, seval, *] | simp (disch := omega) only [wrap64])) <;> (repeat' refine And.intro ?_ ?_) <;> (first | omega | rfl | assumption | skip)
      · have ei : i = t.e.length := by omega
        subst ei
        clear cE hPs hP0 hPl
        repeat' (first | simp (maxDischargeDepth := 9) -implicitDefEqProofs -dsimp only [go_sem, seval, *] | simp (disch := omega) only [wrap64] | ((with_reducible refine Zv ?_ ?_); focus (first | omega | exact rfl)) | ((with_reducible refine Zu ?_ ?_); focus omega) | ((with_reducible refine Zt (fun oF hoF hnF hnF' => ?_)); (try simp only [upd_none, ne_eq, not_and] at hoF)))
        refine loop_rule (fun k : Nat => [(84, some (.int .i64 k)), (83, some (.int .i64 t.l.length)), (82, some (.slice (t.l.map encT) .no)), (14, some (.slice ((Q k).1.map encT) (.own oV2))), (0, some (.ptr o 0)), (2, some (.bool clk)), (3, some (.int .i64 L)), (11, some (.slice ((P t.e.length).1.map encE) (.own oV1))), (5, some (.ptr oT 0)), (8, some (.ptr oR 0))])
          (fun k => upd (upd (upd (upd (upd σ oV1 (.grow 8 t.e.length)) oV2 (.grow 6 k)) oT (.cells [.int .i64 t.op, .int .i64 t.sig, .int .i64 t.hi, .int .i64 t.lo, .slice (t.e.map encE) .no, .slice (t.l.map encT) .no])) oR (.cells [.int .i64 0, .int .i64 0, .int .i64 0, .int .i64 0, .slice [] .nil, .slice [] .nil])) o (szrC g (Q k).2))
          (fun k => k ≤ t.l.length) (fun k => t.l.length - k) 0 ?_ ?_
        · clear cT hQs hQl
          (repeat' (first | simp (maxDischargeDepth := 9) -implicitDefEqProofs -dsimp only [go_sem, seval, List.map_nil, *] | simp (disch := omega) only [wrap64])) <;> (repeat' refine And.intro ?_ ?_) <;> (first | omega | rfl | assumption | skip)
        · intro k hk
          by_cases hkt : k < t.l.length
          · have hx := encTs_eq t.l[k]
            have hc := cT t.l[k] (List.getElem_mem hkt)
            have hqs := hQs k hkt
            have hql := hQl k (by omega)
            clear cT hQs hQl hQ0 hx
            obtain ⟨⟨X, e1⟩, hX⟩ : ∃ X, Q k = X := ⟨_, rfl⟩
            rw [hX] at hqs hql ⊢
            clear hX
            simp only at hqs hql
            replace hc := hc e1
            repeat' (first | simp (maxDischargeDepth := 9) -implicitDefEqProofs -dsimp only [go_sem, seval, *] | simp (disch := omega) only [wrap64] | ((with_reducible refine Zv ?_ ?_); focus (first | omega | exact rfl)) | ((with_reducible refine Zu ?_ ?_); focus omega) | ((with_reducible refine Zt (fun oF hoF hnF hnF' => ?_)); (try simp only [upd_none, ne_eq, not_and] at hoF)) | ((with_reducible apply ACalls.one1); (focus ((first | with_reducible refine hc _ ?_ | with_reducible refine ACalls.flA (hc _ ?_) ?_) <;> (first | (simp (maxDischargeDepth := 9) -implicitDefEqProofs -dsimp only [go_sem, seval, *]; done) | omega))); (focus (first | trivial | with_reducible exact rfl | (simp (maxDischargeDepth := 9) -implicitDefEqProofs -dsimp only [go_sem, seval]; done)))))
            refine loop_next _ _ _ _ (k + 1) ?_; (repeat' (first | simp (maxDischargeDepth := 9) -implicitDefEqProofs -dsimp only [go_sem, seval, *] | simp (disch := omega) only [wrap64])) <;> (repeat' refine And.intro ?_ ?_) <;> (first | omega | rfl | assumption | skip)
          · have ek : k = t.l.length := by omega
            subst ek
            clear cT hQs hQ0
            replace hQl := hQl t.l.length (Nat.le_refl _)
            repeat' (first | simp (maxDischargeDepth := 9) -implicitDefEqProofs -dsimp only [go_sem, seval, *] | simp (disch := omega) only [wrap64] | ((with_reducible refine Zv ?_ ?_); focus (first | omega | exact rfl)) | ((with_reducible refine Zu ?_ ?_); focus omega) | ((with_reducible refine Zt (fun oF hoF hnF hnF' => ?_)); (try simp only [upd_none, ne_eq, not_and] at hoF)))
            refine fin_eq ?_
            (repeat' (first | simp (maxDischargeDepth := 9) -implicitDefEqProofs -dsimp only [go_sem, seval, *] | simp (disch := omega) only [wrap64])) <;> (repeat' refine And.intro ?_ ?_) <;> (first | omega | rfl | assumption | skip)
  case inr.inr.inr =>
    subst hWv hRv
    replace hln := hln o3
    subst hln
    have ob1 : (t.op == 1) = false := by simp [o1]
    have ob2 : (t.op == 2) = false := by simp [o2]
    have ob3 : (t.op == 3) = false := by simp [o3]
    clear hlo o1 o2 o3
    repeat' (first | simp (maxDischargeDepth := 9) -implicitDefEqProofs -dsimp only [go_sem, seval, *] | simp (disch := omega) only [wrap64] | ((with_reducible refine Zv ?_ ?_); focus (first | omega | exact rfl)) | ((with_reducible refine Zu ?_ ?_); focus omega) | ((with_reducible refine Zt (fun oF hoF hnF hnF' => ?_)); (try simp only [upd_none, ne_eq, not_and] at hoF)))
    rename_i oT nx1 nx2 hoT
    obtain ⟨oR, eR⟩ : ∃ x, x = oF := ⟨oF, rfl⟩
    subst eR
    obtain ⟨a1, a2, a3⟩ := hoT
    obtain ⟨a4, a5, a6, a7⟩ := hoF
    obtain ⟨a8, a9⟩ := hoV2
    have n3 : ¬ oT = o := fun e => by rw [e, h] at a3; cases a3
    have n4 : ¬ oR = o := fun e => by rw [e, h] at a7; cases a7
    have m1 : ¬ o = oV1 := fun e => n1 e.symm
    have m2 : ¬ o = oV2 := fun e => n2 e.symm
    have m3 : ¬ o = oT := fun e => n3 e.symm
    have m4 : ¬ o = oR := fun e => n4 e.symm
    have b1 : ¬ oV2 = oT := fun e => a1 e.symm
    have b2 : ¬ oV1 = oT := fun e => a2 e.symm
    have b4 : ¬ oT = oR := fun e => a4 e.symm
    have b5 : ¬ oV2 = oR := fun e => a5 e.symm
    have b6 : ¬ oV1 = oR := fun e => a6 e.symm
    have b8 : ¬ oV1 = oV2 := fun e => a8 e.symm
    clear nx1 nx2 hnF hnF' hnV1 hnV1' hnV2 hnV2'
    refine loop_rule (fun i : Nat => [(62, some (.int .i64 i)), (61, some (.int .i64 t.e.length)), (60, some (.slice (t.e.map encE) .no)), (11, some (.slice ((P i).1.map encE) (.own oV1))), (0, some (.ptr o 0)), (9, some (.int .i64 L)), (5, some (.ptr oT 0)), (2, some (.bool clk)), (8, some (.ptr oR 0)), (3, some (.int .i64 L))])
      (fun i => upd (upd (upd (upd (upd σ oV1 (.grow 8 i)) oV2 (.virt 6)) oT (.cells [.int .i64 t.op, .int .i64 t.sig, .int .i64 t.hi, .int .i64 t.lo, .slice (t.e.map encE) .no, .slice (t.l.map encT) .no])) oR (.cells [.int .i64 0, .int .i64 0, .int .i64 0, .int .i64 0, .slice [] .nil, .slice [] .nil])) o (szrC g (P i).2))
      (fun i => i ≤ t.e.length) (fun i => t.e.length - i) 0 ?_ ?_
    · (try clear hlo); clear cE cT hPs hQs hPl hQl hQ0
      (repeat' (first | simp (maxDischargeDepth := 9) -implicitDefEqProofs -dsimp only [go_sem, seval, List.map_nil, *] | simp (disch := omega) only [wrap64])) <;> (repeat' refine And.intro ?_ ?_) <;> (first | omega | rfl | assumption | skip)
    · intro i hi
      by_cases hlt : i < t.e.length
      · have hc := cE t.e[i] (List.getElem_mem hlt)
        have hps := hPs i hlt
        have hpl := hPl i (by omega)
        (try clear hlo); clear cE cT hPs hQs hPl hQl hQ0 hP0 hPL
        obtain ⟨⟨X, e1⟩, hX⟩ : ∃ X, P i = X := ⟨_, rfl⟩
        rw [hX] at hps hpl ⊢
        clear hX
        simp only at hps hpl
        replace hc := hc e1
        repeat' (first | simp (maxDischargeDepth := 9) -implicitDefEqProofs -dsimp only [go_sem, seval, *] | simp (disch := omega) only [wrap64] | ((with_reducible refine Zv ?_ ?_); focus (first | omega | exact rfl)) | ((with_reducible refine Zu ?_ ?_); focus omega) | ((with_reducible refine Zt (fun oF hoF hnF hnF' => ?_)); (try simp only [upd_none, ne_eq, not_and] at hoF)) | ((with_reducible apply ACalls.one1); (focus ((first | with_reducible refine hc _ ?_ | with_reducible refine ACalls.flA (hc _ ?_) ?_) <;> (first | (simp (maxDischargeDepth := 9) -implicitDefEqProofs -dsimp only [go_sem, seval, *]; done) | omega))); (focus (first | trivial | with_reducible exact rfl | (simp (maxDischargeDepth := 9) -implicitDefEqProofs -dsimp only [go_sem, seval]; done)))))
        refine loop_next _ _ _ _ (i + 1) ?_; (repeat' (first | simp (maxDischargeDepth := 9) -implicitDefEqProofs -dsimp only [go_sem, seval, *] | simp (disch := omega) only [wrap64])) <;> (repeat' refine And.intro ?_ ?_) <;> (first | omega | rfl | assumption | skip)
      · have ei : i = t.e.length := by omega
        subst ei
        clear cE hPs hP0 hPl
        repeat' (first | simp (maxDischargeDepth := 9) -implicitDefEqProofs -dsimp only [go_sem, seval, *] | simp (disch := omega) only [wrap64] | ((with_reducible refine Zv ?_ ?_); focus (first | omega | exact rfl)) | ((with_reducible refine Zu ?_ ?_); focus omega) | ((with_reducible refine Zt (fun oF hoF hnF hnF' => ?_)); (try simp only [upd_none, ne_eq, not_and] at hoF)))
        refine loop_rule (fun k : Nat => [(84, some (.int .i64 k)), (83, some (.int .i64 t.l.length)), (82, some (.slice (t.l.map encT) .no)), (14, some (.slice ((Q k).1.map encT) (.own oV2))), (0, some (.ptr o 0)), (2, some (.bool clk)), (3, some (.int .i64 L)), (11, some (.slice ((P t.e.length).1.map encE) (.own oV1))), (5, some (.ptr oT 0)), (8, some (.ptr oR 0))])
          (fun k => upd (upd (upd (upd (upd σ oV1 (.grow 8 t.e.length)) oV2 (.grow 6 k)) oT (.cells [.int .i64 t.op, .int .i64 t.sig, .int .i64 t.hi, .int .i64 t.lo, .slice (t.e.map encE) .no, .slice (t.l.map encT) .no])) oR (.cells [.int .i64 0, .int .i64 0, .int .i64 0, .int .i64 0, .slice [] .nil, .slice [] .nil])) o (szrC g (Q k).2))
          (fun k => k ≤ t.l.length) (fun k => t.l.length - k) 0 ?_ ?_
        · clear cT hQs hQl
          (repeat' (first | simp (maxDischargeDepth := 9) -implicitDefEqProofs -dsimp only [go_sem, seval, List.map_nil, *] | simp (disch := omega) only [wrap64])) <;> (repeat' refine And.intro ?_ ?_) <;> (first | omega | rfl | assumption | skip)
        · intro k hk
          by_cases hkt : k < t.l.length
          · have hx := encTs_eq t.l[k]
            have hc := cT t.l[k] (List.getElem_mem hkt)
            have hqs := hQs k hkt
            have hql := hQl k (by omega)
            clear cT hQs hQl hQ0 hx
            obtain ⟨⟨X, e1⟩, hX⟩ : ∃ X, Q k = X := ⟨_, rfl⟩
            rw [hX] at hqs hql ⊢
            clear hX
            simp only at hqs hql
            replace hc := hc e1
            repeat' (first | simp (maxDischargeDepth := 9) -implicitDefEqProofs -dsimp only [go_sem, seval, *] | simp (disch := omega) only [wrap64] | ((with_reducible refine Zv ?_ ?_); focus (first | omega | exact rfl)) | ((with_reducible refine Zu ?_ ?_); focus omega) | ((with_reducible refine Zt (fun oF hoF hnF hnF' => ?_)); (try simp only [upd_none, ne_eq, not_and] at hoF)) | ((with_reducible apply ACalls.one1); (focus ((first | with_reducible refine hc _ ?_ | with_reducible refine ACalls.flA (hc _ ?_) ?_) <;> (first | (simp (maxDischargeDepth := 9) -implicitDefEqProofs -dsimp only [go_sem, seval, *]; done) | omega))); (focus (first | trivial | with_reducible exact rfl | (simp (maxDischargeDepth := 9) -implicitDefEqProofs -dsimp only [go_sem, seval]; done)))))
            refine loop_next _ _ _ _ (k + 1) ?_; (repeat' (first | simp (maxDischargeDepth := 9) -implicitDefEqProofs -dsimp only [go_sem, seval, *] | simp (disch := omega) only [wrap64])) <;> (repeat' refine And.intro ?_ ?_) <;> (first | omega | rfl | assumption | skip)
          · have ek : k = t.l.length := by omega
            subst ek
            clear cT hQs hQ0
            replace hQl := hQl t.l.length (Nat.le_refl _)
            repeat' (first | simp (maxDischargeDepth := 9) -implicitDefEqProofs -dsimp only [go_sem, seval, *] | simp (disch := omega) only [wrap64] | ((with_reducible refine Zv ?_ ?_); focus (first | omega | exact rfl)) | ((with_reducible refine Zu ?_ ?_); focus omega) | ((with_reducible refine Zt (fun oF hoF hnF hnF' => ?_)); (try simp only [upd_none, ne_eq, not_and] at hoF)))
            refine fin_eq ?_
            (repeat' (first | simp (maxDischargeDepth := 9) -implicitDefEqProofs -dsimp only [go_sem, seval, *] | simp (disch := omega) only [wrap64])) <;> (repeat' refine And.intro ?_ ?_) <;> (first | omega | rfl | assumption | skip)
theorem sz_statement (g : List Sg) (hg : SgOk g) (hgl : g.length ≤ 1000000000000) (clk : Bool) (o : Nat) (t : T) : ∀ (lab e0 : Int) (σ : Sig), σ o = some (szrC g e0) → ShT g t → nodesT t ≤ 16777216 → WfT t → -1 ≤ lab →
    ACalls Try.prog 49 [.ptr o 0, encT t, .bool clk, .int .i64 lab] σ (fun r σ' => r = .ret (encT (stT g clk t lab e0).1) ∧ σ' = upd σ o (szrC g (stT g clk t lab e0).2)) := by
  refine T.ind (P := fun t => ∀ (lab e0 : Int) (σ : Sig), σ o = some (szrC g e0) → ShT g t → nodesT t ≤ 16777216 → WfT t → -1 ≤ lab →
    ACalls Try.prog 49 [.ptr o 0, encT t, .bool clk, .int .i64 lab] σ (fun r σ' => r = .ret (encT (stT g clk t lab e0).1) ∧ σ' = upd σ o (szrC g (stT g clk t lab e0).2))) (fun t ih lab e0 σ h hs hn hw hl => ?_) t
  exact sz_statement_step g hg hgl clk t o lab e0 σ h hs hn hw hl fun x hx lab e0 σ h hl => ih x hx lab e0 σ h (((ShT_iff g t).1 hs).2 x hx) (by have := partT_nodes hx; omega) (((WfT_iff t).1 hw).2.2 x hx) hl
end Go.Proofs.Ytdiebjnjhgbklaa

