/- Gates as_ a statement's argument. -/
import Derived.Test.YtdiebjnjhgbklaaQSizSizAf
set_option linter.unusedSimpArgs false
set_option linter.unusedVariables false
namespace Go.Proofs.Ytdiebjnjhgbklaa
open Abs Fil Fil.Sz
theorem sizeD_2 {d : Flat} (h : fitsD d = false) : sizeD d = (zD, 2) := by unfold sizeD; rw [if_pos h]
theorem sizeD_1 {d : Flat} (h : fitsD d = true) (h2 : shapedD d = false) : sizeD d = (zD, 1) := by unfold sizeD; rw [if_neg (by simp [h]), if_pos h2]
theorem sizeD_92 {d : Flat} (h : fitsD d = true) (h2 : shapedD d = true) (h3 : fillsD d = false) : sizeD d = (zD, 92) := by unfold sizeD; rw [if_neg (by simp [h]), if_neg (by simp [h2]), if_pos h3]
theorem encD_zero : encD zD = .agg [.slice [] .no, .slice [] .no, .slice [] .no] := rfl
set_option maxRecDepth 20000 in
set_option maxHeartbeats 4000000 in
theorem rf_Size (d : Flat) (σ : Sig) (hd : Sm d) (hw : WfD d) : ACalls Try.prog 22 [encD d] σ (fun r σ' => r = .ret (.tup [encD (sizeD d).1, .int .i64 (sizeD d).2]) ∧ σ' = σ) := by
 have l1 := hd.1
 have l2 := hd.2.1
 have l3 := hd.2.2.1
 have c1 := fun τ => rf_bound d τ hd
 have c2 := fun τ => rf_shaped d τ hd hw
 have c3 := fun (h : SgOk d.sigs) τ => rf_fills d.sigs (by omega) hw.sigs h τ
 have k2 := sizeD_2 (d := d)
 have k1 := sizeD_1 (d := d)
 have k9 := sizeD_92 (d := d)
 have kg := sizeD_go (d := d)
 have hso : shapedD d = true → SgOk d.sigs := fun h => sigsOk_ok (shapedD_iff.1 h).1
 have conP := fun (h : shapedD d = true) (p : Pr) (hp : p ∈ d.procs) τ => rf_some d.sigs (hso h) (by omega) p.clk p.l (by have h := sm_pr hd hp; unfold nodesP at h; omega) (hw.procs p hp) (List.all_eq_true.1 (shapedD_iff.1 h).2.1 p hp) τ
 have conC := fun (h : shapedD d = true) (x : Ck) (hx : x ∈ d.chks) τ => rf_bit d.sigs (hso h) x.e τ (List.all_eq_true.1 (shapedD_iff.1 h).2.2 x hx) (sm_ck hd hx) (hw.chks x hx)
 have hfl : fillsD d = d.sigs.all fun s => holds s.w s.init := rfl
 rw [← hfl] at c3
 clear hfl hw hd
 obtain ⟨R, hR⟩ : ∃ R, sizeD d = R := ⟨_, rfl⟩
 rw [hR] at k2 k1 k9 kg ⊢
 clear hR
 obtain ⟨P, hP⟩ : ∃ P : Nat → List Pr × Int, ∀ i, P i = thrL ((d.procs.map (prS d.sigs)).take i) 0 := ⟨_, fun _ => rfl⟩
 obtain ⟨p0, pl, pe, ps, pb⟩ := prs_at hP
 obtain ⟨Q, hQ⟩ : ∃ Q : Nat → List Ck × Int, ∀ i, Q i = thrL ((d.chks.map ckS).take i) 0 := ⟨_, fun _ => rfl⟩
 have hQA := fun h => cks_at (d := d) h hQ
 have hce := cks_err (d := d)
 clear hP hQ
 obtain ⟨A, hA⟩ : ∃ A, fitsD d = A := ⟨_, rfl⟩
 obtain ⟨B, hB⟩ : ∃ A, shapedD d = A := ⟨_, rfl⟩
 obtain ⟨C, hC⟩ : ∃ A, fillsD d = A := ⟨_, rfl⟩
 rw [hA] at c1 k2 k1 k9 kg
 rw [hB] at c2 k1 k9 kg hso conP conC
 rw [hC] at c3 k9 kg
 clear hA hB hC
 refine ACalls.virt (callable_of Try.func22 b22 n22) 2 (fun oV1 hoV1 hnV1 hnV1' => ?_); (try simp only [upd_none, ne_eq, not_and] at hoV1); refine ACalls.virt (callable_of Try.func22 b22 n22) 9 (fun oV2 hoV2 hnV2 hnV2' => ?_); (try simp only [upd_none, ne_eq, not_and] at hoV2); refine calls_x mixed Try.func22 b22 n22 rfl q22 (by simp) ?_; unfold c22 r22
 cases A
 ·rw [k2 rfl, encD_zero]
  clear k2 k1 k9 kg hso conP conC hQA hce pl ps pb pe p0 c2 c3
  repeat' (first | simp (maxDischargeDepth := 9) -implicitDefEqProofs -dsimp only [go_sem, seval, *] | simp (disch := omega) only [wrap64] | ((with_reducible refine Zt (fun oF hoF hnF hnF' => ?_)); (try simp only [upd_none, ne_eq, not_and] at hoF)) | ((with_reducible apply ACalls.one1); (focus ((with_reducible refine c1 _) <;> (first | (simp (maxDischargeDepth := 9) -implicitDefEqProofs -dsimp only [go_sem, seval, *]; done) | omega))); (focus (first | trivial | with_reducible exact rfl | (simp (maxDischargeDepth := 9) -implicitDefEqProofs -dsimp only [go_sem, seval]; done)))))
  refine fin_eq ?_
  (repeat' simp (maxDischargeDepth := 9) -implicitDefEqProofs -dsimp only [go_sem, seval, *])
 cases B
 ·rw [k1 rfl rfl, encD_zero]
  clear k2 k1 k9 kg hso conP conC hQA hce pl ps pb pe p0 c3
  repeat' (first | simp (maxDischargeDepth := 9) -implicitDefEqProofs -dsimp only [go_sem, seval, *] | simp (disch := omega) only [wrap64] | ((with_reducible refine Zt (fun oF hoF hnF hnF' => ?_)); (try simp only [upd_none, ne_eq, not_and] at hoF)) | ((with_reducible apply ACalls.one1); (focus ((first | with_reducible refine c1 _ | with_reducible refine c2 _) <;> (first | (simp (maxDischargeDepth := 9) -implicitDefEqProofs -dsimp only [go_sem, seval, *]; done) | omega))); (focus (first | trivial | with_reducible exact rfl | (simp (maxDischargeDepth := 9) -implicitDefEqProofs -dsimp only [go_sem, seval]; done)))))
  refine fin_eq ?_
  (repeat' simp (maxDischargeDepth := 9) -implicitDefEqProofs -dsimp only [go_sem, seval, *])
 have c3' := c3 (hso rfl)
 cases C
 ·rw [k9 rfl rfl rfl, encD_zero]
  clear k2 k1 k9 kg hso conP conC hQA hce pl ps pb pe p0 c3
  repeat' (first | simp (maxDischargeDepth := 9) -implicitDefEqProofs -dsimp only [go_sem, seval, *] | simp (disch := omega) only [wrap64] | ((with_reducible refine Zt (fun oF hoF hnF hnF' => ?_)); (try simp only [upd_none, ne_eq, not_and] at hoF)) | ((with_reducible apply ACalls.one1); (focus ((first | with_reducible refine c1 _ | with_reducible refine c2 _ | with_reducible refine c3' _) <;> (first | (simp (maxDischargeDepth := 9) -implicitDefEqProofs -dsimp only [go_sem, seval, *]; done) | omega))); (focus (first | trivial | with_reducible exact rfl | (simp (maxDischargeDepth := 9) -implicitDefEqProofs -dsimp only [go_sem, seval]; done)))))
  refine fin_eq ?_
  (repeat' simp (maxDischargeDepth := 9) -implicitDefEqProofs -dsimp only [go_sem, seval, *])
 have kg := kg rfl rfl rfl
 replace conP := conP rfl
 replace conC := conC rfl
 clear k2 k1 k9 hso c3
 -- an error among the processes, or the checks
 have bad : ∀ f, f ≠ 0 → (prsD d).2 = f → R = (zD, f) := fun f hf h => by
  have h2 : (cksD d).2 = f := by rw [hce (by omega), h]
  rw [kg, h2, if_pos hf]
 have bad2 : ∀ f, f ≠ 0 → (cksD d).2 = f → R = (zD, f) := fun f hf h => by rw [kg, h, if_pos hf]
 have good : ∀ ps cs, (prsD d).1 = ps → cksD d = (cs, 0) → R = (⟨d.sigs, ps, cs⟩, 0) := fun ps cs h1 h2 => by rw [kg, h2, h1]; simp
 clear kg hce
 repeat' (first | simp (maxDischargeDepth := 9) -implicitDefEqProofs -dsimp only [go_sem, seval, *] | ((with_reducible refine Zt (fun oF hoF hnF hnF' => ?_)); (try simp only [upd_none, ne_eq, not_and] at hoF)) | ((with_reducible apply ACalls.one1); (focus ((first | with_reducible refine c1 _ | with_reducible refine c2 _ | with_reducible refine c3' _) <;> (first | (simp (maxDischargeDepth := 9) -implicitDefEqProofs -dsimp only [go_sem, seval, *]; done) | omega))); (focus (first | trivial | with_reducible exact rfl | (simp (maxDischargeDepth := 9) -implicitDefEqProofs -dsimp only [go_sem, seval]; done)))))
 rename_i oA nx1 nx2 hoA oB nx3 nx4 hoB
 obtain ⟨oC, eC⟩ : ∃ x, x = oF := ⟨oF, rfl⟩
 subst eC
 obtain ⟨a1, a2, a3⟩ := hoA
 obtain ⟨a4, a5, a6, a7⟩ := hoB
 obtain ⟨a8, a9, a10, a11, a12⟩ := hoF
 obtain ⟨a13, a14⟩ := hoV2
 have b1 : ¬ oV2 = oA := fun e => a1 e.symm
 have b2 : ¬ oV1 = oA := fun e => a2 e.symm
 have b3 : ¬ oA = oB := fun e => a4 e.symm
 have b4 : ¬ oV2 = oB := fun e => a5 e.symm
 have b5 : ¬ oV1 = oB := fun e => a6 e.symm
 have b6 : ¬ oB = oC := fun e => a8 e.symm
 have b7 : ¬ oA = oC := fun e => a9 e.symm
 have b8 : ¬ oV2 = oC := fun e => a10 e.symm
 have b9 : ¬ oV1 = oC := fun e => a11 e.symm
 have b10 : ¬ oV1 = oV2 := fun e => a13 e.symm
 clear nx1 nx2 nx3 nx4 hnF hnF' hnV1 hnV1' hnV2 hnV2' c1 c2 c3'
 refine loop_rule (fun i : Nat => [(6, some (.int .i64 i)), (1, some (.cptr (dL d))), (4, some (.ptr oB 0)), (2, some (.ptr oA 0)), (5, some (.ptr oC 0))])
  (fun i => upd (upd (upd (upd (upd σ oV1 (.grow 2 i)) oV2 (.virt 9)) oA (.cells [.slice [] .nil, .slice [] .nil, .slice [] .nil])) oB (.cells [.slice [] .nil, .slice [] .nil, .slice [] .nil])) oC (.cells [.slice (d.sigs.map encS) .no, .slice ((P i).1.map encP) (.own oV1), .slice [] .nil]))
  (fun i => i ≤ d.procs.length ∧ (P i).2 = 0) (fun i => d.procs.length - i) 0 ?_ ?_
 ·clear conP conC hQA pl ps pb pe bad bad2 good
  (repeat' simp (maxDischargeDepth := 9) -implicitDefEqProofs -dsimp only [go_sem, seval, List.map_nil, *]) <;> (first | omega | skip)
 ·rintro i ⟨hi, hok⟩
  by_cases hlt : i < d.procs.length
  ·have hc := conP d.procs[i] (List.getElem_mem hlt)
   have h3 := ps i hlt hok
   have h4 := pb i hlt hok
   have h5 := pl i hi
   have hs2 : (someR d.sigs d.procs[i].clk d.procs[i].l 0).2 = (lsT d.sigs d.procs[i].clk d.procs[i].l 0 0).2 := resV_2
   have hs1 : (someR d.sigs d.procs[i].clk d.procs[i].l 0).2 = 0 → (someR d.sigs d.procs[i].clk d.procs[i].l 0).1 = (lsT d.sigs d.procs[i].clk d.procs[i].l 0 0).1 := fun h => by
    unfold someR at h ⊢
    rw [resV_2] at h
    rw [resV_of h]
   obtain ⟨⟨m, h⟩, hM⟩ : ∃ M, someR d.sigs d.procs[i].clk d.procs[i].l 0 = M := ⟨_, rfl⟩
   rw [hM] at hc hs1 hs2
   simp only at hs1 hs2
   rw [← hs2] at h3 h4
   obtain ⟨X, hX⟩ : ∃ X, (P i).1 = X := ⟨_, rfl⟩
   rw [hX] at h3 h5 ⊢
   clear conP conC hQA pl ps pb pe bad2 good hM hX hok p0 hs2
   by_cases hh : h = 0
   ·have g4 := h3 hh
    rw [← hs1 hh] at g4
    have g5 : (P (i + 1)).1.map encP = X.map encP ++ [.agg [.bool d.procs[i].clk, .slice (m.map encT) .no]] := by
     rw [g4, List.map_append, List.map_cons, List.map_nil]
    have g6 : (P (i + 1)).2 = 0 := by rw [g4]
    subst hh
    clear h3 h4 hs1 bad g4
    repeat' (first | simp (maxDischargeDepth := 9) -implicitDefEqProofs -dsimp only [go_sem, seval, *] | simp (disch := omega) only [wrap64] | ((with_reducible refine Zv ?_ ?_); focus (first | omega | exact rfl)) | ((with_reducible refine Zu ?_ ?_); focus omega) | ((with_reducible apply id_one0); (focus (intro tS hS; ((with_reducible refine hc _) <;> (first | (simp (maxDischargeDepth := 9) -implicitDefEqProofs -dsimp only [go_sem, seval, *]; done) | omega | ((with_reducible refine Sub.get hS ?_); simp (maxDischargeDepth := 9) -implicitDefEqProofs -dsimp only [go_sem, seval, *]; done))))); (focus (first | trivial | (simp (maxDischargeDepth := 9) -implicitDefEqProofs -dsimp only [go_sem, seval, *]; done)))))
    refine loop_next _ _ _ _ (i + 1) ?_; (repeat' simp (maxDischargeDepth := 9) -implicitDefEqProofs -dsimp only [go_sem, seval, *]) <;> (repeat' refine And.intro ?_ ?_) <;> (first | omega | skip)
   ·have g5 := bad h hh (h4 hh)
    have hfb : (h != 0) = true := by simpa using hh
    rw [g5, encD_zero]
    clear h3 h4 hs1 bad g5 hh
    repeat' (first | simp (maxDischargeDepth := 9) -implicitDefEqProofs -dsimp only [go_sem, seval, *] | simp (disch := omega) only [wrap64] | ((with_reducible refine Zu ?_ ?_); focus omega) | ((with_reducible apply id_one0); (focus (intro tS hS; ((with_reducible refine hc _) <;> (first | (simp (maxDischargeDepth := 9) -implicitDefEqProofs -dsimp only [go_sem, seval, *]; done) | omega | ((with_reducible refine Sub.get hS ?_); simp (maxDischargeDepth := 9) -implicitDefEqProofs -dsimp only [go_sem, seval, *]; done))))); (focus (first | trivial | (simp (maxDischargeDepth := 9) -implicitDefEqProofs -dsimp only [go_sem, seval, *]; done)))))
    refine fin_eq ?_
    (repeat' simp (maxDischargeDepth := 9) -implicitDefEqProofs -dsimp only [go_sem, seval, *])
  ·have ei : i = d.procs.length := by omega
   subst ei
   rw [pe] at hok
   obtain ⟨q0, ql, qe, qs, qb⟩ := hQA hok
   have hX := pl _ (Nat.le_refl _)
   rw [pe] at hX ⊢
   have good1 := fun cs h => good (prsD d).1 cs rfl h
   obtain ⟨X, hXX⟩ : ∃ X, (prsD d).1 = X := ⟨_, rfl⟩
   rw [hXX] at hX good1 ⊢
   clear conP hQA pl ps pb pe bad hXX hok p0 good
   repeat' simp (maxDischargeDepth := 9) -implicitDefEqProofs -dsimp only [go_sem, seval, *]
   refine loop_rule (fun k : Nat => [(9, some (.int .i64 k)), (1, some (.cptr (dL d))), (4, some (.ptr oB 0)), (2, some (.ptr oA 0)), (5, some (.ptr oC 0))])
    (fun k => upd (upd (upd (upd (upd σ oV1 (.grow 2 d.procs.length)) oV2 (.grow 9 k)) oA (.cells [.slice [] .nil, .slice [] .nil, .slice [] .nil])) oB (.cells [.slice [] .nil, .slice [] .nil, .slice [] .nil])) oC (.cells [.slice (d.sigs.map encS) .no, .slice (X.map encP) (.own oV1), .slice ((Q k).1.map encC) (.own oV2)]))
    (fun k => k ≤ d.chks.length ∧ (Q k).2 = 0) (fun k => d.chks.length - k) 0 ?_ ?_
   ·clear conC ql qs qb qe bad2 good1
    (repeat' simp (maxDischargeDepth := 9) -implicitDefEqProofs -dsimp only [go_sem, seval, List.map_nil, *]) <;> (first | omega | skip)
   ·rintro k ⟨hk, hqk⟩
    by_cases hkt : k < d.chks.length
    ·have hc := conC d.chks[k] (List.getElem_mem hkt)
     have h3 := qs k hkt hqk
     have h4 := qb k hkt hqk
     have h5 := ql k hk
     obtain ⟨⟨y, f⟩, hY⟩ : ∃ Y, size d.chks[k].e (-1) = Y := ⟨_, rfl⟩
     rw [hY] at hc h3 h4
     simp only at h3 h4
     obtain ⟨Z, hZ⟩ : ∃ Z, (Q k).1 = Z := ⟨_, rfl⟩
     rw [hZ] at h3 h5 ⊢
     clear conC ql qs qb qe q0 good1 hY hZ hqk
     by_cases hf : f = 0
     ·have g4 := h3 hf
      have g5 : (Q (k + 1)).1.map encC = Z.map encC ++ [encC ⟨d.chks[k].name, y⟩] := by
       rw [g4, List.map_append, List.map_cons, List.map_nil]
      have g6 : (Q (k + 1)).2 = 0 := by rw [g4]
      subst hf
      clear h3 h4 bad2 g4
      repeat' (first | simp (maxDischargeDepth := 9) -implicitDefEqProofs -dsimp only [go_sem, seval, *] | simp (disch := omega) only [wrap64] | ((with_reducible refine Zv ?_ ?_); focus (first | omega | exact rfl)) | ((with_reducible refine Zu ?_ ?_); focus omega) | ((with_reducible refine Zt (fun oF hoF hnF hnF' => ?_)); (try simp only [upd_none, ne_eq, not_and] at hoF)) | ((with_reducible apply ACalls.one1); (focus ((with_reducible refine hc _) <;> (first | (simp (maxDischargeDepth := 9) -implicitDefEqProofs -dsimp only [go_sem, seval, *]; done) | omega))); (focus (first | trivial | with_reducible exact rfl | (simp (maxDischargeDepth := 9) -implicitDefEqProofs -dsimp only [go_sem, seval]; done)))))
      refine loop_next _ _ _ _ (k + 1) ?_; (repeat' simp (maxDischargeDepth := 9) -implicitDefEqProofs -dsimp only [go_sem, seval, *]) <;> (repeat' refine And.intro ?_ ?_) <;> (first | omega | skip)
     ·have g5 := bad2 f hf (h4 hf)
      have hfb : (f != 0) = true := by simpa using hf
      rw [g5, encD_zero]
      clear h3 h4 bad2 g5 hf
      repeat' (first | simp (maxDischargeDepth := 9) -implicitDefEqProofs -dsimp only [go_sem, seval, *] | simp (disch := omega) only [wrap64] | ((with_reducible refine Zu ?_ ?_); focus omega) | ((with_reducible refine Zt (fun oF hoF hnF hnF' => ?_)); (try simp only [upd_none, ne_eq, not_and] at hoF)) | ((with_reducible apply ACalls.one1); (focus ((with_reducible refine hc _) <;> (first | (simp (maxDischargeDepth := 9) -implicitDefEqProofs -dsimp only [go_sem, seval, *]; done) | omega))); (focus (first | trivial | with_reducible exact rfl | (simp (maxDischargeDepth := 9) -implicitDefEqProofs -dsimp only [go_sem, seval]; done)))))
      refine fin_eq ?_
      (repeat' simp (maxDischargeDepth := 9) -implicitDefEqProofs -dsimp only [go_sem, seval, *])
    ·have ek : k = d.chks.length := by omega
     subst ek
     have g4 := good1 (Q d.chks.length).1 (by rw [← qe]; exact Prod.ext rfl hqk)
     rw [g4]
     have hZ := ql _ (Nat.le_refl _)
     obtain ⟨Z, hZZ⟩ : ∃ Z, (Q d.chks.length).1 = Z := ⟨_, rfl⟩
     rw [hZZ] at hZ ⊢
     clear conC ql qs qb qe q0 good1 hZZ hqk bad2 g4
     repeat' (first | simp (maxDischargeDepth := 9) -implicitDefEqProofs -dsimp only [go_sem, seval, *] | simp (disch := omega) only [wrap64])
     refine fin_eq ?_
     (repeat' simp (maxDischargeDepth := 9) -implicitDefEqProofs -dsimp only [go_sem, seval, *])
theorem sm_sized {d : Flat} (hd : Sm d) : Sm (sizeD d).1 := by
 by_cases h : (sizeD d).2 = 0
 ·have k := sizeD_ok h
  exact ⟨by rw [k.sigs]; exact hd.1, by rw [k.procs]; exact hd.2.1, by rw [k.chks]; exact hd.2.2.1, by rw [k.nodes]; exact hd.2.2.2⟩
 ·rw [sizeD_bad h]; exact ⟨by simp [zD], by simp [zD], by simp [zD], by simp [zD, nodesD]⟩
theorem checkD_cases {d : Flat} : checkD d = if (sizeD d).2 ≠ 0 then (sizeD d).2 else if same (sizeD d).1 d = false then 90 else 0 := by
 by_cases h : (sizeD d).2 = 0
 ·have h2 := checkD_same h
  rw [if_neg (by omega), ← h2]
  by_cases h3 : checkD d = 0
  ·rw [h3]; simp
  ·unfold checkD at h3 ⊢
   split
   ·rename_i q; rw [if_pos q] at h3; simp
   ·rename_i q; rw [if_neg q] at h3; exact (h3 h).elim
 ·rw [if_pos h, checkD_err h]
theorem rf_Check (d : Flat) (σ : Sig) (hd : Sm d) (hw : WfD d) : ACalls Try.prog 25 [encD d] σ (fun r σ' => r = .ret (.int .i64 (checkD d)) ∧ σ' = σ) := by
 have c1 := fun τ => rf_Size d τ hd hw
 have hm := sm_sized hd
 have c2 := fun τ => rf_Same (sizeD d).1 d τ hm hd
 have hc := checkD_cases (d := d)
 obtain ⟨⟨x, f⟩, hR⟩ : ∃ R, sizeD d = R := ⟨_, rfl⟩
 rw [hR] at c1 c2 hc
 simp only at hc
 obtain ⟨C, hC⟩ : ∃ C, checkD d = C := ⟨_, rfl⟩
 rw [hC] at hc ⊢
 obtain ⟨s, hs⟩ : ∃ C, same x d = C := ⟨_, rfl⟩
 rw [hs] at c2 hc
 clear hR hC hs hm hd hw
 refine calls_x mixed Try.func25 b25 n25 rfl q25 (by simp) ?_; unfold c25 r25
 by_cases hf : f = 0
 ·rw [if_neg (by omega)] at hc
  subst hf
  cases s
  ·rw [if_pos rfl] at hc
   subst hc
   repeat' (first | simp (maxDischargeDepth := 9) -implicitDefEqProofs -dsimp only [go_sem, seval, *] | ((with_reducible refine Zt (fun oF hoF hnF hnF' => ?_)); (try simp only [upd_none, ne_eq, not_and] at hoF)) | ((with_reducible apply ACalls.one1); (focus ((first | with_reducible refine c1 _ | with_reducible refine c2 _) <;> (first | (simp (maxDischargeDepth := 9) -implicitDefEqProofs -dsimp only [go_sem, seval, *]; done) | omega))); (focus (first | trivial | with_reducible exact rfl | (simp (maxDischargeDepth := 9) -implicitDefEqProofs -dsimp only [go_sem, seval]; done)))))
   refine fin_eq ?_
   (repeat' simp (maxDischargeDepth := 9) -implicitDefEqProofs -dsimp only [go_sem, seval, *])
  ·rw [if_neg (by simp)] at hc
   subst hc
   repeat' (first | simp (maxDischargeDepth := 9) -implicitDefEqProofs -dsimp only [go_sem, seval, *] | ((with_reducible refine Zt (fun oF hoF hnF hnF' => ?_)); (try simp only [upd_none, ne_eq, not_and] at hoF)) | ((with_reducible apply ACalls.one1); (focus ((first | with_reducible refine c1 _ | with_reducible refine c2 _) <;> (first | (simp (maxDischargeDepth := 9) -implicitDefEqProofs -dsimp only [go_sem, seval, *]; done) | omega))); (focus (first | trivial | with_reducible exact rfl | (simp (maxDischargeDepth := 9) -implicitDefEqProofs -dsimp only [go_sem, seval]; done)))))
   refine fin_eq ?_
   (repeat' simp (maxDischargeDepth := 9) -implicitDefEqProofs -dsimp only [go_sem, seval, *])
 ·rw [if_pos hf] at hc
  have hfb : (f != 0) = true := by simpa using hf
  subst hc
  clear hf c2
  repeat' (first | simp (maxDischargeDepth := 9) -implicitDefEqProofs -dsimp only [go_sem, seval, *] | ((with_reducible refine Zt (fun oF hoF hnF hnF' => ?_)); (try simp only [upd_none, ne_eq, not_and] at hoF)) | ((with_reducible apply ACalls.one1); (focus ((with_reducible refine c1 _) <;> (first | (simp (maxDischargeDepth := 9) -implicitDefEqProofs -dsimp only [go_sem, seval, *]; done) | omega))); (focus (first | trivial | with_reducible exact rfl | (simp (maxDischargeDepth := 9) -implicitDefEqProofs -dsimp only [go_sem, seval]; done)))))
  refine fin_eq ?_
  (repeat' simp (maxDischargeDepth := 9) -implicitDefEqProofs -dsimp only [go_sem, seval, *])
end Go.Proofs.Ytdiebjnjhgbklaa

namespace Go.Proofs.Ytdiebjnjhgbklaa
open Abs Fil Fil.Sz
theorem sl_indexS (p : Sg → Bool) (l : List Sg) (hl : l.length ≤ 1000000000000) (σ : Sig) {F : Nat} {caps : List AV} (hF : ∀ x ∈ l, ACalls Try.prog F (encS x :: caps) σ (fun r σ' => r = .ret (.bool (p x)) ∧ σ' = σ)) :
  ACalls Try.prog 91 [.slice (l.map encS) .no, .fn F [] caps] σ (fun r σ' => r = .ret (.int .i64 (idxF p l)) ∧ σ' = σ) :=
 lib_indexFunc (sz := 4) (g := true) mixed Try.func91 b91 n91 rfl q91 (fun _ => rfl) (fun _ => rfl) p l hl hF
theorem sl_containsS (p : Sg → Bool) (l : List Sg) (hl : l.length ≤ 1000000000000) (σ : Sig) {F : Nat} {caps : List AV} (hF : ∀ x ∈ l, ACalls Try.prog F (encS x :: caps) σ (fun r σ' => r = .ret (.bool (p x)) ∧ σ' = σ)) :
  ACalls Try.prog 45 [.slice (l.map encS) .no, .fn F [] caps] σ (fun r σ' => r = .ret (.bool (l.any p)) ∧ σ' = σ) :=
 lib_containsFunc mixed Try.func45 b45 n45 rfl q45 p l (sl_indexS p l hl σ hF)
theorem sl_Clone (l : List Sg) (σ : Sig) (h : l.length ≤ 1000000) :
  ACalls Try.prog 48 [.slice (l.map encS) .no] σ (fun r σ' => r = .ret (.slice (l.map encS) .no) ∧ σ' = σ) := by
 refine calls_x mixed Try.func48 b48 n48 rfl q48 (by simp) ?_; unfold c48 r48
 cases l with
 | nil =>
  repeat' simp (maxDischargeDepth := 9) -implicitDefEqProofs -dsimp only [go_sem, seval, List.map_nil, *]
  refine ⟨?_, ?_⟩
  ·refine fin_eq ?_
   (repeat' simp (maxDischargeDepth := 9) -implicitDefEqProofs -dsimp only [go_sem, seval, List.map_nil, *])
  ·refine fin_eq ?_
   (repeat' simp (maxDischargeDepth := 9) -implicitDefEqProofs -dsimp only [go_sem, seval, List.map_nil, *])
 | cons x l =>
  have h' : l.length ≤ 999999 := by simp only [List.length_cons] at h; omega
  repeat' (first | simp (maxDischargeDepth := 9) -implicitDefEqProofs -dsimp only [go_sem, seval, List.map_cons, *] | ((with_reducible refine Zv ?_ ?_); focus (first | omega | exact rfl)) | ((with_reducible refine Zt (fun oF hoF hnF hnF' => ?_)); (try simp only [upd_none, ne_eq, not_and] at hoF)))
  all_goals first | (exfalso; simp at hq; done) | skip
  refine fin_eq ?_
  (repeat' simp (maxDischargeDepth := 9) -implicitDefEqProofs -dsimp only [go_sem, seval, List.map_cons, List.nil_append, *])
theorem sz_Size1 (s : Sg) (σ : Sig) (h : 1 ≤ s.w ∧ s.w ≤ 64) (hw : WfS s) : ACalls Try.prog 46 [encS s] σ (fun r σ' => r = .ret (.bool (!holds s.w s.init)) ∧ σ' = σ) := by
 have hc := fun τ => sz_holds s.w s.init τ (by omega) hw.2.2
 clear hw
 refine calls_x mixed Try.func46 b46 n46 rfl q46 (by simp) ?_; unfold c46 r46
 repeat' (first | simp (maxDischargeDepth := 9) -implicitDefEqProofs -dsimp only [go_sem, seval, *] | ((with_reducible apply ACalls.one1); (focus ((with_reducible refine hc _) <;> (first | (simp (maxDischargeDepth := 9) -implicitDefEqProofs -dsimp only [go_sem, seval, *]; done) | omega))); (focus (first | trivial | with_reducible exact rfl | (simp (maxDischargeDepth := 9) -implicitDefEqProofs -dsimp only [go_sem, seval]; done)))))
 refine fin_eq ?_
 (repeat' simp (maxDischargeDepth := 9) -implicitDefEqProofs -dsimp only [go_sem, seval, *])
theorem sz_Size0 (g : List Sg) (σ : Sig) (hg : g.length ≤ 1000000) (hw : ∀ s ∈ g, WfS s) (hn : fitsD ⟨g, [], []⟩ = true) (hs : shapedD ⟨g, [], []⟩ = true) (hf : fillsD ⟨g, [], []⟩ = true) :
  ACalls Try.prog 21 [encD ⟨g, [], []⟩] σ (fun r σ' => r = .ret (.tup [encD ⟨g, [], []⟩, .int .i64 0]) ∧ σ' = σ) := by
 have hd : Sm ⟨g, [], []⟩ := ⟨by show g.length ≤ _; omega, by simp, by simp, by simp [nodesD]⟩
 have hwd : WfD ⟨g, [], []⟩ := ⟨hw, by simp, by simp⟩
 have c1 := fun τ => sz_fits ⟨g, [], []⟩ τ hd
 have c2 := fun τ => sz_shaped ⟨g, [], []⟩ τ hd hwd
 have hso : SgOk g := sigsOk_ok (by
  unfold shapedD at hs
  simp only [Bool.and_eq_true] at hs
  exact hs.1.1)
 have c3 := fun τ => sl_containsS (fun s => !holds s.w s.init) g (by omega) τ (F := 46) (caps := []) fun x hx => sz_Size1 x τ (hso x hx) (hw x hx)
 have c4 := fun τ => sl_Clone g τ hg
 have hb : (g.any fun s => !holds s.w s.init) = false := by
  unfold fillsD at hf
  rw [all_any] at hf
  simpa using hf
 rw [hn] at c1
 rw [hs] at c2
 rw [hb] at c3
 clear hn hs hf hb hso hd hwd hw
 refine calls_x mixed Try.func21 b21 n21 rfl q21 (by simp) ?_; unfold c21 r21
 repeat' (first | simp (maxDischargeDepth := 9) -implicitDefEqProofs -dsimp only [go_sem, seval, *] | ((with_reducible refine Zt (fun oF hoF hnF hnF' => ?_)); (try simp only [upd_none, ne_eq, not_and] at hoF)) | ((with_reducible apply ACalls.one1); (focus ((first | with_reducible refine c3 _ | with_reducible refine c4 _ | with_reducible refine ACalls.flA (c1 _) ?_ | with_reducible refine ACalls.flA (c2 _) ?_) <;> (first | (simp (maxDischargeDepth := 9) -implicitDefEqProofs -dsimp only [go_sem, seval, *]; done) | omega))); (focus (first | trivial | with_reducible exact rfl | (simp (maxDischargeDepth := 9) -implicitDefEqProofs -dsimp only [go_sem, seval]; done)))))
 rename_i oA hoA _ _ oB _ _ hoB
 obtain ⟨oC, eo⟩ : ∃ x, x = oF := ⟨oF, rfl⟩
 subst eo
 have ho : ¬ oC = oB ∧ ¬ oC = oA ∧ σ oC = none := hoF
 obtain ⟨q1, q2, q3⟩ := ho
 have p1 : ¬ oB = oC := fun e => q1 e.symm
 have p2 : ¬ oA = oC := fun e => q2 e.symm
 have p3 : ¬ oB = oA := hoB.1
 have p4 : ¬ oA = oB := fun e => p3 e.symm
 clear hoF hnF hnF'
 refine loop_rule (fun _ : Nat => [(39, some (.int .i64 0)), (38, some (.int .i64 0)), (37, some (.slice [] .no)), (4, some (.ptr oB 0)), (5, some (.ptr oC 0)), (1, some (.cptr (dL ⟨g, [], []⟩))), (2, some (.ptr oA 0))])
  (fun _ => upd (upd (upd σ oA (.cells [.slice [] .nil, .slice [] .nil, .slice [] .nil])) oB (.cells [.slice (g.map encS) .no, .int .i64 0])) oC (.cells [.slice (g.map encS) .no, .slice [] .nil, .slice [] .nil])) (fun _ => True) (fun _ => 0) 0 ?_ ?_
 ·(repeat' simp (maxDischargeDepth := 9) -implicitDefEqProofs -dsimp only [go_sem, seval, *])
 ·intro i _
  repeat' simp (maxDischargeDepth := 9) -implicitDefEqProofs -dsimp only [go_sem, seval, *]
  refine loop_rule (fun _ : Nat => [(74, some (.int .i64 0)), (73, some (.int .i64 0)), (72, some (.slice [] .no)), (5, some (.ptr oC 0)), (4, some (.ptr oB 0)), (2, some (.ptr oA 0))])
   (fun _ => upd (upd (upd σ oA (.cells [.slice [] .nil, .slice [] .nil, .slice [] .nil])) oB (.cells [.slice (g.map encS) .no, .int .i64 0])) oC (.cells [.slice (g.map encS) .no, .slice [] .nil, .slice [] .nil])) (fun _ => True) (fun _ => 0) 0 ?_ ?_
  ·(repeat' simp (maxDischargeDepth := 9) -implicitDefEqProofs -dsimp only [go_sem, seval, *])
  ·intro i _
   repeat' simp (maxDischargeDepth := 9) -implicitDefEqProofs -dsimp only [go_sem, seval, *]
   refine fin_eq ?_
   (repeat' simp (maxDischargeDepth := 9) -implicitDefEqProofs -dsimp only [go_sem, seval, *])
theorem sz_Check0 (g : List Sg) (σ : Sig) (hg : g.length ≤ 1000000) (hw : ∀ s ∈ g, WfS s) (hn : fitsD ⟨g, [], []⟩ = true) (hs : shapedD ⟨g, [], []⟩ = true) (hf : fillsD ⟨g, [], []⟩ = true) :
  ACalls Try.prog 24 [encD ⟨g, [], []⟩] σ (fun r σ' => r = .ret (.int .i64 0) ∧ σ' = σ) := by
 have hd : Sm ⟨g, [], []⟩ := ⟨by show g.length ≤ _; omega, by simp, by simp, by simp [nodesD]⟩
 have c1 := fun τ => sz_Size0 g τ hg hw hn hs hf
 have c2 := fun τ => sz_Same ⟨g, [], []⟩ ⟨g, [], []⟩ τ hd hd
 rw [same_self] at c2
 clear hd hw hn hs hf
 refine calls_x mixed Try.func24 b24 n24 rfl q24 (by simp) ?_; unfold c24 r24
 repeat' (first | simp (maxDischargeDepth := 9) -implicitDefEqProofs -dsimp only [go_sem, seval, *] | ((with_reducible refine Zt (fun oF hoF hnF hnF' => ?_)); (try simp only [upd_none, ne_eq, not_and] at hoF)) | ((with_reducible apply ACalls.one1); (focus ((first | with_reducible refine ACalls.flA (c1 _) ?_ | with_reducible refine ACalls.flA (c2 _) ?_) <;> (first | (simp (maxDischargeDepth := 9) -implicitDefEqProofs -dsimp only [go_sem, seval, *]; done) | omega))); (focus (first | trivial | with_reducible exact rfl | (simp (maxDischargeDepth := 9) -implicitDefEqProofs -dsimp only [go_sem, seval]; done)))))
 refine fin_eq ?_
 (repeat' simp (maxDischargeDepth := 9) -implicitDefEqProofs -dsimp only [go_sem, seval, *])
theorem encE_bin (op : Int) (a b : E) : encE (binE op a b) = .agg [.int .i64 5, .int .i64 0, .int .u64 0, .int .i64 0, .int .i64 0, .int .i64 0, .int .i64 op, .slice [encE a, encE b] .no] := by
 unfold encE eL; rw [encEs_eq]; rfl
theorem encE_sig (hi lo : Int) : encE (sigE hi lo) = .agg [.int .i64 2, .int .i64 0, .int .u64 0, .int .i64 0, .int .i64 hi, .int .i64 lo, .int .i64 0, .slice [] .no] := by
 unfold encE eL; rw [encEs_eq]; rfl
theorem encE_numE (v : Int) : encE (numE v) = .agg [.int .i64 1, .int .i64 0, .int .u64 v, .int .i64 0, .int .i64 0, .int .i64 0, .int .i64 0, .slice [] .no] := by
 unfold encE eL; rw [encEs_eq]; rfl
theorem encD_one : encD oneD = .agg [.slice [.agg [.str ⟨#[97]⟩, .int .i64 8, .int .i64 1, .int .u64 0]] .no, .slice [] .no, .slice [] .no] := rfl
theorem lw_one (σ : Sig) : ACalls Try.prog 28 [] σ (fun r σ' => r = .ret (encD oneD) ∧ σ' = σ) := by
 rw [encD_one]
 refine calls_x mixed Try.func28 b28 n28 rfl q28 (by simp) ?_; unfold c28 r28
 repeat' (first | simp (maxDischargeDepth := 9) -implicitDefEqProofs -dsimp only [go_sem, seval, *] | ((with_reducible refine Zt (fun oF hoF hnF hnF' => ?_)); (try simp only [upd_none, ne_eq, not_and] at hoF)))
 refine fin_eq ?_
 (repeat' simp (maxDischargeDepth := 9) -implicitDefEqProofs -dsimp only [go_sem, seval, *])
theorem lw_num (v : Int) (σ : Sig) : ACalls Try.prog 29 [.int .u64 v] σ (fun r σ' => r = .ret (encE (numE v)) ∧ σ' = σ) := by
 rw [encE_numE]
 refine calls_x mixed Try.func29 b29 n29 rfl q29 (by simp) ?_; unfold c29 r29
 repeat' (first | simp (maxDischargeDepth := 9) -implicitDefEqProofs -dsimp only [go_sem, seval, *] | ((with_reducible refine Zt (fun oF hoF hnF hnF' => ?_)); (try simp only [upd_none, ne_eq, not_and] at hoF)))
 refine fin_eq ?_
 (repeat' simp (maxDischargeDepth := 9) -implicitDefEqProofs -dsimp only [go_sem, seval, *])
theorem lw_sig (hi lo : Int) (σ : Sig) : ACalls Try.prog 32 [.int .i64 hi, .int .i64 lo] σ (fun r σ' => r = .ret (encE (sigE hi lo)) ∧ σ' = σ) := by
 rw [encE_sig]
 refine calls_x mixed Try.func32 b32 n32 rfl q32 (by simp) ?_; unfold c32 r32
 repeat' (first | simp (maxDischargeDepth := 9) -implicitDefEqProofs -dsimp only [go_sem, seval, *] | ((with_reducible refine Zt (fun oF hoF hnF hnF' => ?_)); (try simp only [upd_none, ne_eq, not_and] at hoF)))
 refine fin_eq ?_
 (repeat' simp (maxDischargeDepth := 9) -implicitDefEqProofs -dsimp only [go_sem, seval, *])
theorem lw_bin (op : Int) (a b : E) (σ : Sig) : ACalls Try.prog 31 [.int .i64 op, encE a, encE b] σ (fun r σ' => r = .ret (encE (binE op a b)) ∧ σ' = σ) := by
 rw [encE_bin]
 refine calls_x mixed Try.func31 b31 n31 rfl q31 (by simp) ?_; unfold c31 r31
 repeat' (first | simp (maxDischargeDepth := 9) -implicitDefEqProofs -dsimp only [go_sem, seval, *] | ((with_reducible refine Zt (fun oF hoF hnF hnF' => ?_)); (try simp only [upd_none, ne_eq, not_and] at hoF)))
 refine fin_eq ?_
 (repeat' simp (maxDischargeDepth := 9) -implicitDefEqProofs -dsimp only [go_sem, seval, *])
end Go.Proofs.Ytdiebjnjhgbklaa

namespace Go.Proofs.Ytdiebjnjhgbklaa
open Abs Fil Fil.Sz
theorem thr_at {β γ : Type} {l : List γ} {f : γ → Int → β × Int} {e : Int} {P : Nat → List β × Int} (hP : ∀ i, P i = thrL ((l.map f).take i) e) :
  P 0 = ([], e) ∧ (∀ i, i ≤ l.length → (P i).1.length = i) ∧ P l.length = thrL (l.map f) e ∧
  (∀ i, (h : i < l.length) → P (i + 1) = ((P i).1 ++ [(f l[i] (P i).2).1], (f l[i] (P i).2).2)) := by
 refine ⟨by rw [hP]; rfl, fun i hi => ?_, ?_, fun i h => ?_⟩
 ·rw [hP, thrL_len, List.length_take, List.length_map]; omega
 ·rw [hP]; congr 1; exact List.take_of_length_le (by simp)
 ·rw [hP, hP, thrL_take (by simpa using h), List.getElem_map]
theorem Zw (σ : Sig) (o o' : Nat) (x : AObj) : (upd σ o x o' = none) = (¬ o' = o ∧ ¬ o = o' ∧ σ o' = none) := by
 simp only [upd]
 by_cases h : o' = o
 ·simp [h]
 ·have h2 : ¬ o = o' := fun e => h e.symm
  simp [h, h2]
set_option maxRecDepth 20000 in
set_option maxHeartbeats 8000000 in
theorem sz_Size (d : Flat) (σ : Sig) (hd : Sm d) (hw : WfD d) : ACalls Try.prog 21 [encD d] σ (fun r σ' => r = .ret (.tup [encD (sizeD d).1, .int .i64 (sizeD d).2]) ∧ σ' = σ) := by
 have l1 := hd.1
 have l2 := hd.2.1
 have l3 := hd.2.2.1
 have c1 := fun τ => sz_fits d τ hd
 have c2 := fun τ => sz_shaped d τ hd hw
 have c3 := fun (h : SgOk d.sigs) τ => sl_containsS (fun s => !holds s.w s.init) d.sigs (by omega) τ (F := 46) (caps := []) fun x hx => sz_Size1 x τ (h x hx) (hw.sigs x hx)
 have c4 := fun (h : d.sigs.length ≤ 1000000) τ => sl_Clone d.sigs τ h
 have hlen : fitsD d = true → d.sigs.length ≤ 1000000 := fun h => by
  unfold fitsD at h
  simp only [decide_eq_true_eq] at h
  omega
 have k2 := sizeD_2 (d := d)
 have k1 := sizeD_1 (d := d)
 have k9 := sizeD_92 (d := d)
 have kg := sizeD_go (d := d)
 have hso : shapedD d = true → SgOk d.sigs := fun h => sigsOk_ok (shapedD_iff.1 h).1
 have conP := fun (h : shapedD d = true) (p : Pr) (hp : p ∈ d.procs) (t : T) (ht : t ∈ p.l) (o : Nat) (e0 : Int) (τ : Sig) (hτ : τ o = some (szrC d.sigs e0)) =>
  sz_statement d.sigs (hso h) (by omega) p.clk o t 0 e0 τ hτ (shpT_sh _ _ (.inl (List.all_eq_true.1 (List.all_eq_true.1 (shapedD_iff.1 h).2.1 p hp) t ht))) (by have h := sm_pr hd hp; unfold nodesP at h; have := mem_sum (f := nodesT) ht; omega) (hw.procs p hp t ht) (by omega)
 have conL := fun (p : Pr) (hp : p ∈ d.procs) => (show p.l.length ≤ 16777216 by have h := sm_pr hd hp; unfold nodesP at h; have := len_sum nodesT_pos p.l; omega)
 have conC := fun (h : shapedD d = true) (x : Ck) (hx : x ∈ d.chks) (o : Nat) (e0 : Int) (τ : Sig) (hτ : τ o = some (szrC d.sigs e0)) =>
  sz_expr o d.sigs (hso h) e0 x.e (-1) τ hτ (List.all_eq_true.1 (shapedD_iff.1 h).2.2 x hx) (sm_ck hd hx) (hw.chks x hx) (by omega)
 have hfl : (d.sigs.any fun s => !holds s.w s.init) = !fillsD d := by
  have : fillsD d = d.sigs.all fun s => holds s.w s.init := rfl
  rw [this, all_any, Bool.not_not]
 rw [hfl] at c3
 clear hfl hw hd
 obtain ⟨R, hR⟩ : ∃ R, sizeD d = R := ⟨_, rfl⟩
 rw [hR] at k2 k1 k9 kg ⊢
 clear hR
 obtain ⟨P, hP⟩ : ∃ P : Nat → List Pr × Int, ∀ i, P i = thrL ((d.procs.map (prS d.sigs)).take i) 0 := ⟨_, fun _ => rfl⟩
 obtain ⟨p0, pl, pe, ps⟩ := thr_at hP
 have hpe : thrL (d.procs.map (prS d.sigs)) 0 = prsD d := rfl
 rw [hpe] at pe
 obtain ⟨Q, hQ⟩ : ∃ Q : Nat → List Ck × Int, ∀ i, Q i = thrL ((d.chks.map ckS).take i) (prsD d).2 := ⟨_, fun _ => rfl⟩
 obtain ⟨q0, ql, qe, qs⟩ := thr_at hQ
 have hqe : thrL (d.chks.map ckS) (prsD d).2 = cksD d := rfl
 rw [hqe] at qe
 clear hP hQ hpe hqe
 obtain ⟨A, hA⟩ : ∃ A, fitsD d = A := ⟨_, rfl⟩
 obtain ⟨B, hB⟩ : ∃ A, shapedD d = A := ⟨_, rfl⟩
 obtain ⟨C, hC⟩ : ∃ A, fillsD d = A := ⟨_, rfl⟩
 rw [hA] at c1 k2 k1 k9 kg hlen
 rw [hB] at c2 k1 k9 kg hso conP conC
 rw [hC] at c3 k9 kg
 clear hA hB hC
 refine ACalls.virt (callable_of Try.func21 b21 n21) 2 (fun oV1 hoV1 hnV1 hnV1' => ?_); (try simp only [upd_none, ne_eq, not_and] at hoV1); refine ACalls.virt (callable_of Try.func21 b21 n21) 9 (fun oV2 hoV2 hnV2 hnV2' => ?_); (try simp only [upd_none, ne_eq, not_and] at hoV2); refine calls_x mixed Try.func21 b21 n21 rfl q21 (by simp) ?_; unfold c21 r21
 cases A
 ·rw [k2 rfl, encD_zero]
  clear k2 k1 k9 kg hso conP conL conC pl ps pe p0 ql qs qe q0 c2 c3 c4 hlen
  repeat' (first | simp (maxDischargeDepth := 9) -implicitDefEqProofs -dsimp only [go_sem, seval, *] | simp (disch := omega) only [wrap64] | ((with_reducible refine Zt (fun oF hoF hnF hnF' => ?_)); clear hnF hnF'; (try simp only [Zw, ne_eq] at hoF)) | ((with_reducible apply ACalls.one1); (focus ((with_reducible refine c1 _) <;> (first | (simp (maxDischargeDepth := 9) -implicitDefEqProofs -dsimp only [go_sem, seval, *]; done) | omega))); (focus (first | trivial | with_reducible exact rfl | (simp (maxDischargeDepth := 9) -implicitDefEqProofs -dsimp only [go_sem, seval]; done)))))
  refine fin_eq ?_
  (repeat' simp (maxDischargeDepth := 9) -implicitDefEqProofs -dsimp only [go_sem, seval, *])
 cases B
 ·rw [k1 rfl rfl, encD_zero]
  clear k2 k1 k9 kg hso conP conL conC pl ps pe p0 ql qs qe q0 c3 c4 hlen
  repeat' (first | simp (maxDischargeDepth := 9) -implicitDefEqProofs -dsimp only [go_sem, seval, *] | simp (disch := omega) only [wrap64] | ((with_reducible refine Zt (fun oF hoF hnF hnF' => ?_)); clear hnF hnF'; (try simp only [Zw, ne_eq] at hoF)) | ((with_reducible apply ACalls.one1); (focus ((first | with_reducible refine c1 _ | with_reducible refine c2 _) <;> (first | (simp (maxDischargeDepth := 9) -implicitDefEqProofs -dsimp only [go_sem, seval, *]; done) | omega))); (focus (first | trivial | with_reducible exact rfl | (simp (maxDischargeDepth := 9) -implicitDefEqProofs -dsimp only [go_sem, seval]; done)))))
  refine fin_eq ?_
  (repeat' simp (maxDischargeDepth := 9) -implicitDefEqProofs -dsimp only [go_sem, seval, *])
 have c3' := c3 (hso rfl)
 cases C
 ·rw [k9 rfl rfl rfl, encD_zero]
  clear k2 k1 k9 kg hso conP conL conC pl ps pe p0 ql qs qe q0 c3 c4 hlen
  repeat' (first | simp (maxDischargeDepth := 9) -implicitDefEqProofs -dsimp only [go_sem, seval, *] | simp (disch := omega) only [wrap64] | ((with_reducible refine Zt (fun oF hoF hnF hnF' => ?_)); clear hnF hnF'; (try simp only [Zw, ne_eq] at hoF)) | ((with_reducible apply ACalls.one1); (focus ((first | with_reducible refine c1 _ | with_reducible refine c2 _ | with_reducible refine c3' _) <;> (first | (simp (maxDischargeDepth := 9) -implicitDefEqProofs -dsimp only [go_sem, seval, *]; done) | omega))); (focus (first | trivial | with_reducible exact rfl | (simp (maxDischargeDepth := 9) -implicitDefEqProofs -dsimp only [go_sem, seval]; done)))))
  refine fin_eq ?_
  (repeat' simp (maxDischargeDepth := 9) -implicitDefEqProofs -dsimp only [go_sem, seval, *])
 have kg := kg rfl rfl rfl
 replace conP := conP rfl
 replace conC := conC rfl
 replace c4 := c4 (hlen rfl)
 clear k2 k1 k9 hso c3 hlen
 repeat' (first | simp (maxDischargeDepth := 9) -implicitDefEqProofs -dsimp only [go_sem, seval, *] | ((with_reducible refine Zt (fun oF hoF hnF hnF' => ?_)); clear hnF hnF'; (try simp only [Zw, ne_eq] at hoF)) | ((with_reducible apply ACalls.one1); (focus ((first | with_reducible refine c1 _ | with_reducible refine c2 _ | with_reducible refine c3' _ | with_reducible refine c4 _) <;> (first | (simp (maxDischargeDepth := 9) -implicitDefEqProofs -dsimp only [go_sem, seval, *]; done) | omega))); (focus (first | trivial | with_reducible exact rfl | (simp (maxDischargeDepth := 9) -implicitDefEqProofs -dsimp only [go_sem, seval]; done)))))
 rename_i oA hoA oB hoB
 obtain ⟨oC, eC⟩ : ∃ x, x = oF := ⟨oF, rfl⟩
 subst eC
 have hoC := hoF
 obtain ⟨a13, a14⟩ := hoV2
 have b10 : ¬ oV1 = oV2 := fun e => a13 e.symm
 clear hoF hnV1 hnV1' hnV2 hnV2' c1 c2 c3' c4
 refine loop_rule (fun i : Nat => [(39, some (.int .i64 i)), (38, some (.int .i64 d.procs.length)), (37, some (.slice (d.procs.map encP) .no)), (4, some (.ptr oB 0)), (5, some (.ptr oC 0)), (1, some (.cptr (dL d))), (2, some (.ptr oA 0))])
  (fun i => upd (upd (upd (upd (upd σ oV1 (.grow 2 i)) oV2 (.virt 9)) oA (.cells [.slice [] .nil, .slice [] .nil, .slice [] .nil])) oC (.cells [.slice (d.sigs.map encS) .no, .slice ((P i).1.map encP) (.own oV1), .slice [] .nil])) oB (szrC d.sigs (P i).2))
  (fun i => i ≤ d.procs.length) (fun i => d.procs.length - i) 0 ?_ ?_
 ·clear conP conL conC pl ps pe ql qs qe q0 kg
  (repeat' simp (maxDischargeDepth := 9) -implicitDefEqProofs -dsimp only [go_sem, seval, List.map_nil, *]) <;> (first | omega | skip)
 ·intro i hi
  by_cases hlt : i < d.procs.length
  ·have hc := conP d.procs[i] (List.getElem_mem hlt)
   have hll := conL d.procs[i] (List.getElem_mem hlt)
   have h3 := ps i hlt
   have h5 := pl i hi
   clear conP conL conC pl ps pe p0 ql qs qe q0 kg
   obtain ⟨⟨X, e0⟩, hX⟩ : ∃ X, P i = X := ⟨_, rfl⟩
   rw [hX] at h3 h5 ⊢
   simp only at h3 h5
   clear hX
   repeat' (first | simp (maxDischargeDepth := 9) -implicitDefEqProofs -dsimp only [go_sem, seval, *] | simp (disch := omega) only [wrap64] | ((with_reducible refine Zu ?_ ?_); focus omega) | ((with_reducible refine Zt (fun oF hoF hnF hnF' => ?_)); clear hnF hnF'; (try simp only [Zw, ne_eq] at hoF)))
   rename_i oP hoP
   obtain ⟨oX, eX⟩ : ∃ x, x = oF := ⟨oF, rfl⟩
   subst eX
   have hoX := hoF
   clear hoF
   obtain ⟨U, hU⟩ : ∃ U : Nat → List T × Int, ∀ k, U k = thrL ((d.procs[i].l.map fun x => stT d.sigs d.procs[i].clk x 0).take k) e0 := ⟨_, fun _ => rfl⟩
   obtain ⟨u0, ul, ue, us⟩ := thr_at hU
   have hpr : P (i + 1) = (X ++ [⟨d.procs[i].clk, (U d.procs[i].l.length).1⟩], (U d.procs[i].l.length).2) := by rw [h3, ue]; rfl
   clear h3 ue hU
   refine loop_rule (X := Option (Nat × Nat)) (fun x => match x with | none => [(49, some (.int .i64 0)), (48, some (.int .i64 d.procs[i].l.length)), (47, some (.slice (d.procs[i].l.map encT) .no)), (8, some (.ptr oX 0)), (4, some (.ptr oB 0)), (7, some (.ptr oP 0)), (5, some (.ptr oC 0)), (39, some (.int .i64 i)), (1, some (.cptr (dL d))), (2, some (.ptr oA 0)), (38, some (.int .i64 d.procs.length)), (37, some (.slice (d.procs.map encP) .no))] | some (k, _) => [(49, some (.int .i64 k)), (48, some (.int .i64 d.procs[i].l.length)), (47, some (.slice (d.procs[i].l.map encT) .no)), (8, some (.ptr oX 0)), (4, some (.ptr oB 0)), (7, some (.ptr oP 0)), (5, some (.ptr oC 0)), (39, some (.int .i64 i)), (1, some (.cptr (dL d))), (2, some (.ptr oA 0)), (38, some (.int .i64 d.procs.length)), (37, some (.slice (d.procs.map encP) .no))])
    (fun x => match x with
     | none => upd (upd (upd (upd (upd (upd (upd σ oV1 (.grow 2 i)) oV2 (.virt 9)) oA (.cells [.slice [] .nil, .slice [] .nil, .slice [] .nil])) oC (.cells [.slice (d.sigs.map encS) .no, .slice (X.map encP) (.own oV1), .slice [] .nil])) oP (.cells [.bool d.procs[i].clk, .slice (d.procs[i].l.map encT) .no])) oX (.cells [.bool d.procs[i].clk, .slice [] .nil])) oB (szrC d.sigs e0)
     | some (k, o) => upd (upd (upd (upd (upd (upd (upd (upd σ oV1 (.grow 2 i)) oV2 (.virt 9)) oA (.cells [.slice [] .nil, .slice [] .nil, .slice [] .nil])) oC (.cells [.slice (d.sigs.map encS) .no, .slice (X.map encP) (.own oV1), .slice [] .nil])) oP (.cells [.bool d.procs[i].clk, .slice (d.procs[i].l.map encT) .no])) oX (.cells [.bool d.procs[i].clk, .slice ((U k).1.map encT) (.own o)])) o (.grow 6 k)) oB (szrC d.sigs (U k).2))
    (fun x => match x with
     | none => True
     | some (k, o) => (1 ≤ k ∧ k ≤ d.procs[i].l.length) ∧ (¬ o = oB ∧ ¬ oB = o) ∧ (¬ o = oX ∧ ¬ oX = o) ∧ (¬ o = oP ∧ ¬ oP = o) ∧ (¬ o = oC ∧ ¬ oC = o) ∧ (¬ o = oA ∧ ¬ oA = o) ∧ (¬ o = oV2 ∧ ¬ oV2 = o) ∧ (¬ o = oV1 ∧ ¬ oV1 = o) ∧ σ o = none)
    (fun x => match x with | none => d.procs[i].l.length + 1 | some (k, _) => d.procs[i].l.length - k) none ?_ ?_
   ·clear hc hpr us ul u0
    (repeat' simp (maxDischargeDepth := 9) -implicitDefEqProofs -dsimp only [go_sem, seval, *])
   ·rintro (_ | ⟨k, o⟩) hiv
    ·dsimp only at hiv ⊢
     by_cases hpos : 0 < d.procs[i].l.length
     ·have hposI : (0 : Int) < (d.procs[i].l.length : Nat) := by omega
      have hx := encTs_eq d.procs[i].l[0]
      have hcs := hc d.procs[i].l[0] (List.getElem_mem hpos) oB e0
      have g1 := us 0 hpos
      rw [u0] at g1
      obtain ⟨⟨y, f⟩, hY⟩ : ∃ Y, stT d.sigs d.procs[i].clk d.procs[i].l[0] 0 e0 = Y := ⟨_, rfl⟩
      simp only at g1
      rw [hY] at g1 hcs
      simp only [List.nil_append, Nat.zero_add] at g1
      clear hc hpr us ul u0 hY hiv
      repeat' (first | simp (maxDischargeDepth := 9) -implicitDefEqProofs -dsimp only [go_sem, seval, *] | simp (disch := omega) only [wrap64] | ((with_reducible refine Zu ?_ ?_); focus omega) | ((with_reducible refine Zt (fun oF hoF hnF hnF' => ?_)); clear hnF hnF'; (try simp only [Zw, ne_eq] at hoF)) | ((with_reducible apply id_one1); (focus (intro tS hS; ((with_reducible refine ACalls.flA (hcs _ ?_) ?_) <;> (first | (simp (maxDischargeDepth := 9) -implicitDefEqProofs -dsimp only [go_sem, seval, *]; done) | omega | ((with_reducible refine Sub.get hS ?_); simp (maxDischargeDepth := 9) -implicitDefEqProofs -dsimp only [go_sem, seval, *]; done))))); (focus (first | trivial | (simp (maxDischargeDepth := 9) -implicitDefEqProofs -dsimp only [go_sem, seval, *]; done)))))
      refine loop_next _ _ _ _ (some (1, oF)) ?_; (repeat' simp (maxDischargeDepth := 9) -implicitDefEqProofs -dsimp only [go_sem, seval,  List.map_cons, List.map_nil, *]) <;> (repeat' refine And.intro ?_ ?_) <;> (first | omega | skip)
     ·have hz : d.procs[i].l.length = 0 := by omega
      rw [hz, u0] at hpr
      have g5 : (P (i + 1)).1.map encP = X.map encP ++ [.agg [.bool d.procs[i].clk, .slice [] .no]] := by
       rw [hpr, List.map_append, List.map_cons, List.map_nil]; rfl
      have g6 : (P (i + 1)).2 = e0 := by rw [hpr]
      clear hc hpr us ul u0 hiv
      repeat' (first | simp (maxDischargeDepth := 9) -implicitDefEqProofs -dsimp only [go_sem, seval, *] | simp (disch := omega) only [wrap64] | ((with_reducible refine Zv ?_ ?_); focus (first | omega | exact rfl)))
      refine loop_next _ _ _ _ (i + 1) ?_; (repeat' simp (maxDischargeDepth := 9) -implicitDefEqProofs -dsimp only [go_sem, seval, *]) <;> (repeat' refine And.intro ?_ ?_) <;> (first | omega | skip)
      rw [fl_sliceT]
      refine fls_app _ _ ?_
      (repeat' simp (maxDischargeDepth := 9) -implicitDefEqProofs -dsimp only [go_sem, seval, *])
    ·dsimp only at hiv ⊢
     obtain ⟨⟨hk1, hk2⟩, hof⟩ := hiv
     by_cases hkt : k < d.procs[i].l.length
     ·have hx := encTs_eq d.procs[i].l[k]
      have hcs := hc d.procs[i].l[k] (List.getElem_mem hkt) oB (U k).2
      have g1 := us k hkt
      have g2 := ul k (by omega)
      obtain ⟨⟨Z, e1⟩, hZ⟩ : ∃ Z, U k = Z := ⟨_, rfl⟩
      rw [hZ] at g1 g2 hcs ⊢
      simp only at g1 g2
      obtain ⟨⟨y, f⟩, hY⟩ : ∃ Y, stT d.sigs d.procs[i].clk d.procs[i].l[k] 0 e1 = Y := ⟨_, rfl⟩
      simp only at hcs
      rw [hY] at g1 hcs
      simp only at g1
      clear hc hpr us ul u0 hY hZ
      repeat' (first | simp (maxDischargeDepth := 9) -implicitDefEqProofs -dsimp only [go_sem, seval, *] | simp (disch := omega) only [wrap64] | ((with_reducible refine Zv ?_ ?_); focus (first | omega | exact rfl)) | ((with_reducible refine Zu ?_ ?_); focus omega) | ((with_reducible refine Zt (fun oF hoF hnF hnF' => ?_)); clear hnF hnF'; (try simp only [Zw, ne_eq] at hoF)) | ((with_reducible apply id_one1); (focus (intro tS hS; ((with_reducible refine ACalls.flA (hcs _ ?_) ?_) <;> (first | (simp (maxDischargeDepth := 9) -implicitDefEqProofs -dsimp only [go_sem, seval, *]; done) | omega | ((with_reducible refine Sub.get hS ?_); simp (maxDischargeDepth := 9) -implicitDefEqProofs -dsimp only [go_sem, seval, *]; done))))); (focus (first | trivial | (simp (maxDischargeDepth := 9) -implicitDefEqProofs -dsimp only [go_sem, seval, *]; done)))))
      refine loop_next _ _ _ _ (some (k + 1, o)) ?_; (repeat' simp (maxDischargeDepth := 9) -implicitDefEqProofs -dsimp only [go_sem, seval,  List.map_append, List.map_cons, List.map_nil, *]) <;> (repeat' refine And.intro ?_ ?_) <;> (first | omega | skip)
     ·have ek : k = d.procs[i].l.length := by omega
      subst ek
      have g2 := ul _ hk2
      obtain ⟨⟨Z, e1⟩, hZ⟩ : ∃ Z, U d.procs[i].l.length = Z := ⟨_, rfl⟩
      rw [hZ] at hpr g2 ⊢
      simp only at hpr g2
      have g5 : (P (i + 1)).1.map encP = X.map encP ++ [.agg [.bool d.procs[i].clk, .slice (Z.map encT) .no]] := by
       rw [hpr, List.map_append, List.map_cons, List.map_nil]
      have g6 : (P (i + 1)).2 = e1 := by rw [hpr]
      clear hc hpr us ul u0 hZ
      repeat' (first | simp (maxDischargeDepth := 9) -implicitDefEqProofs -dsimp only [go_sem, seval, *] | simp (disch := omega) only [wrap64] | ((with_reducible refine Zv ?_ ?_); focus (first | omega | exact rfl)))
      refine loop_next _ _ _ _ (i + 1) ?_; (repeat' simp (maxDischargeDepth := 9) -implicitDefEqProofs -dsimp only [go_sem, seval, *]) <;> (repeat' refine And.intro ?_ ?_) <;> (first | omega | skip)
      rw [fl_sliceT]
      refine fls_app _ _ ?_
      (repeat' simp (maxDischargeDepth := 9) -implicitDefEqProofs -dsimp only [go_sem, seval, *])
  ·have ei : i = d.procs.length := by omega
   subst ei
   have hX := pl _ (Nat.le_refl _)
   rw [pe] at hX ⊢
   clear conP conL pl ps pe p0
   have good : ∀ cs f, cksD d = (cs, f) → R = if f ≠ 0 then (zD, f) else (⟨d.sigs, (prsD d).1, cs⟩, 0) := fun cs f h => by rw [kg, h]
   obtain ⟨⟨X, e0⟩, hXX⟩ : ∃ X, prsD d = X := ⟨_, rfl⟩
   rw [hXX] at hX good q0 ⊢
   simp only at hX good q0
   clear hXX kg
   repeat' simp (maxDischargeDepth := 9) -implicitDefEqProofs -dsimp only [go_sem, seval, *]
   refine loop_rule (fun k : Nat => [(74, some (.int .i64 k)), (73, some (.int .i64 d.chks.length)), (72, some (.slice (d.chks.map encC) .no)), (5, some (.ptr oC 0)), (4, some (.ptr oB 0)), (2, some (.ptr oA 0))])
    (fun k => upd (upd (upd (upd (upd σ oV1 (.grow 2 d.procs.length)) oV2 (.grow 9 k)) oA (.cells [.slice [] .nil, .slice [] .nil, .slice [] .nil])) oC (.cells [.slice (d.sigs.map encS) .no, .slice (X.map encP) (.own oV1), .slice ((Q k).1.map encC) (.own oV2)])) oB (szrC d.sigs (Q k).2))
    (fun k => k ≤ d.chks.length) (fun k => d.chks.length - k) 0 ?_ ?_
   ·clear conC ql qs qe good
    (repeat' simp (maxDischargeDepth := 9) -implicitDefEqProofs -dsimp only [go_sem, seval, List.map_nil, *]) <;> (first | omega | skip)
   ·intro k hk
    by_cases hkt : k < d.chks.length
    ·have hc := conC d.chks[k] (List.getElem_mem hkt) oB
     have h3 := qs k hkt
     have h5 := ql k hk
     obtain ⟨⟨Z, e1⟩, hZ⟩ : ∃ Z, Q k = Z := ⟨_, rfl⟩
     rw [hZ] at h3 h5 ⊢
     simp only at h3 h5
     replace hc := hc e1
     have hck : ckS d.chks[k] e1 = (⟨d.chks[k].name, (exprS d.chks[k].e (-1) e1).1⟩, (exprS d.chks[k].e (-1) e1).2) := rfl
     obtain ⟨⟨y, f⟩, hY⟩ : ∃ Y, exprS d.chks[k].e (-1) e1 = Y := ⟨_, rfl⟩
     rw [hY] at hc hck
     rw [hck] at h3
     have g5 : (Q (k + 1)).1.map encC = Z.map encC ++ [encC ⟨d.chks[k].name, y⟩] := by
      rw [h3, List.map_append, List.map_cons, List.map_nil]
     have g6 : (Q (k + 1)).2 = f := by rw [h3]
     clear conC ql qs qe q0 good hY hZ hck h3
     repeat' (first | simp (maxDischargeDepth := 9) -implicitDefEqProofs -dsimp only [go_sem, seval, *] | simp (disch := omega) only [wrap64] | ((with_reducible refine Zv ?_ ?_); focus (first | omega | exact rfl)) | ((with_reducible refine Zu ?_ ?_); focus omega) | ((with_reducible refine Zt (fun oF hoF hnF hnF' => ?_)); clear hnF hnF'; (try simp only [Zw, ne_eq] at hoF)) | ((with_reducible apply id_one1); (focus (intro tS hS; ((with_reducible refine hc _ ?_) <;> (first | (simp (maxDischargeDepth := 9) -implicitDefEqProofs -dsimp only [go_sem, seval, *]; done) | omega | ((with_reducible refine Sub.get hS ?_); simp (maxDischargeDepth := 9) -implicitDefEqProofs -dsimp only [go_sem, seval, *]; done))))); (focus (first | trivial | (simp (maxDischargeDepth := 9) -implicitDefEqProofs -dsimp only [go_sem, seval, *]; done)))))
     refine loop_next _ _ _ _ (k + 1) ?_; (repeat' simp (maxDischargeDepth := 9) -implicitDefEqProofs -dsimp only [go_sem, seval, *]) <;> (repeat' refine And.intro ?_ ?_) <;> (first | omega | skip)
    ·have ek : k = d.chks.length := by omega
     subst ek
     have hZ := ql _ (Nat.le_refl _)
     rw [qe] at hZ ⊢
     have g4 := good (cksD d).1 (cksD d).2 rfl
     obtain ⟨⟨Z, f⟩, hZZ⟩ : ∃ Z, cksD d = Z := ⟨_, rfl⟩
     rw [hZZ] at hZ g4 ⊢
     simp only at hZ g4
     clear conC ql qs qe q0 good hZZ
     by_cases hf : f = 0
     ·rw [if_neg (by omega)] at g4
      subst hf
      rw [g4]
      clear g4
      repeat' (first | simp (maxDischargeDepth := 9) -implicitDefEqProofs -dsimp only [go_sem, seval, *] | simp (disch := omega) only [wrap64])
      refine fin_eq ?_
      (repeat' simp (maxDischargeDepth := 9) -implicitDefEqProofs -dsimp only [go_sem, seval, *])
     ·have hfb : (f != 0) = true := by simpa using hf
      rw [if_pos hf] at g4
      rw [g4, encD_zero]
      clear g4 hf
      repeat' (first | simp (maxDischargeDepth := 9) -implicitDefEqProofs -dsimp only [go_sem, seval, *] | simp (disch := omega) only [wrap64])
      refine fin_eq ?_
      (repeat' simp (maxDischargeDepth := 9) -implicitDefEqProofs -dsimp only [go_sem, seval, *])
theorem sz_Check (d : Flat) (σ : Sig) (hd : Sm d) (hw : WfD d) : ACalls Try.prog 24 [encD d] σ (fun r σ' => r = .ret (.int .i64 (checkD d)) ∧ σ' = σ) := by
 have c1 := fun τ => sz_Size d τ hd hw
 have hm := sm_sized hd
 have c2 := fun τ => sz_Same (sizeD d).1 d τ hm hd
 have hc := checkD_cases (d := d)
 obtain ⟨⟨x, f⟩, hR⟩ : ∃ R, sizeD d = R := ⟨_, rfl⟩
 rw [hR] at c1 c2 hc
 simp only at hc
 obtain ⟨C, hC⟩ : ∃ C, checkD d = C := ⟨_, rfl⟩
 rw [hC] at hc ⊢
 obtain ⟨s, hs⟩ : ∃ C, same x d = C := ⟨_, rfl⟩
 rw [hs] at c2 hc
 clear hR hC hs hm hd hw
 refine calls_x mixed Try.func24 b24 n24 rfl q24 (by simp) ?_; unfold c24 r24
 by_cases hf : f = 0
 ·rw [if_neg (by omega)] at hc
  subst hf
  cases s
  ·rw [if_pos rfl] at hc
   subst hc
   repeat' (first | simp (maxDischargeDepth := 9) -implicitDefEqProofs -dsimp only [go_sem, seval, *] | ((with_reducible refine Zt (fun oF hoF hnF hnF' => ?_)); clear hnF hnF'; (try simp only [Zw, ne_eq] at hoF)) | ((with_reducible apply ACalls.one1); (focus ((first | with_reducible refine c1 _ | with_reducible refine c2 _) <;> (first | (simp (maxDischargeDepth := 9) -implicitDefEqProofs -dsimp only [go_sem, seval, *]; done) | omega))); (focus (first | trivial | with_reducible exact rfl | (simp (maxDischargeDepth := 9) -implicitDefEqProofs -dsimp only [go_sem, seval]; done)))))
   refine fin_eq ?_
   (repeat' simp (maxDischargeDepth := 9) -implicitDefEqProofs -dsimp only [go_sem, seval, *])
  ·rw [if_neg (by simp)] at hc
   subst hc
   repeat' (first | simp (maxDischargeDepth := 9) -implicitDefEqProofs -dsimp only [go_sem, seval, *] | ((with_reducible refine Zt (fun oF hoF hnF hnF' => ?_)); clear hnF hnF'; (try simp only [Zw, ne_eq] at hoF)) | ((with_reducible apply ACalls.one1); (focus ((first | with_reducible refine c1 _ | with_reducible refine c2 _) <;> (first | (simp (maxDischargeDepth := 9) -implicitDefEqProofs -dsimp only [go_sem, seval, *]; done) | omega))); (focus (first | trivial | with_reducible exact rfl | (simp (maxDischargeDepth := 9) -implicitDefEqProofs -dsimp only [go_sem, seval]; done)))))
   refine fin_eq ?_
   (repeat' simp (maxDischargeDepth := 9) -implicitDefEqProofs -dsimp only [go_sem, seval, *])
 ·rw [if_pos hf] at hc
  have hfb : (f == 0) = false := by simpa using hf
  subst hc
  clear hf c2
  repeat' (first | simp (maxDischargeDepth := 9) -implicitDefEqProofs -dsimp only [go_sem, seval, *] | ((with_reducible refine Zt (fun oF hoF hnF hnF' => ?_)); clear hnF hnF'; (try simp only [Zw, ne_eq] at hoF)) | ((with_reducible apply ACalls.one1); (focus ((with_reducible refine c1 _) <;> (first | (simp (maxDischargeDepth := 9) -implicitDefEqProofs -dsimp only [go_sem, seval, *]; done) | omega))); (focus (first | trivial | with_reducible exact rfl | (simp (maxDischargeDepth := 9) -implicitDefEqProofs -dsimp only [go_sem, seval]; done)))))
  refine fin_eq ?_
  (repeat' simp (maxDischargeDepth := 9) -implicitDefEqProofs -dsimp only [go_sem, seval, *])
end Go.Proofs.Ytdiebjnjhgbklaa

namespace Go.Proofs.Ytdiebjnjhgbklaa
open Abs Fil Fil.Sz
theorem one_sm : Sm oneD := ⟨by simp [oneD, oneG], by simp [oneD], by simp [oneD], by simp [oneD, nodesD]⟩
def liveP : E := .mk 2 8 0 0 7 0 0 []
def liveQ : E := .mk 1 8 1 0 0 0 0 []
theorem wfE_do {e : E} (h : (I64 e.op ∧ I64 e.w ∧ U64 e.v ∧ I64 e.sig ∧ I64 e.hi ∧ I64 e.lo ∧ I64 e.n) ∧ ∀ x ∈ e.l, WfE x) : WfE e := (WfE_iff e).2 h
theorem i0 : I64 0 := by unfold I64; omega
theorem i1 : I64 1 := by unfold I64; omega
theorem i2 : I64 2 := by unfold I64; omega
theorem i5 : I64 5 := by unfold I64; omega
theorem u0 : U64 0 := by unfold U64; omega
theorem wf_sig (hi lo : Int) (h : I64 hi ∧ I64 lo) : WfE (sigE hi lo) := wfE_do ⟨⟨i2, i0, u0, i0, h.1, h.2, i0⟩, fun x hx => by cases hx⟩
theorem wf_num (v : Int) (h : U64 v) : WfE (numE v) := wfE_do ⟨⟨i1, i0, h, i0, i0, i0, i0⟩, fun x hx => by cases hx⟩
theorem wf_bin (op : Int) {a b : E} (h : I64 op) (ha : WfE a) (hb : WfE b) : WfE (binE op a b) := wfE_do ⟨⟨i5, i0, u0, i0, i0, i0, h⟩, fun x hx => by
 rcases List.mem_cons.1 hx with rfl | hx
 ·exact ha
 rcases List.mem_cons.1 hx with rfl | hx
 ·exact hb
 ·cases hx⟩
theorem nodes_sig (hi lo : Int) : nodes (sigE hi lo) = 1 := by rw [nodes_eq]; rfl
theorem nodes_num (v : Int) : nodes (numE v) = 1 := by rw [nodes_eq]; rfl
theorem nodes_bin (op : Int) (a b : E) : nodes (binE op a b) = 1 + nodes a + nodes b := by
 rw [nodes_eq]
 show 1 + (nodes a + (nodes b + 0)) = _
 omega
set_option maxRecDepth 20000 in
set_option maxHeartbeats 2000000 in
theorem lw_live (σ : Sig) : ACalls Try.prog 13 [] σ (fun r σ' => r = .ret (.bool true) ∧ σ' = σ) := by
 have hd : oneD.sigs.length ≤ 1000000000000 := by simp [oneD, oneG]
 have hs := fun h l (q : I64 h ∧ I64 l) => wf_sig h l q
 have c1 := fun τ => lw_one τ
 have c2 := fun τ => lw_sig 7 0 τ
 have c2' := fun τ => lw_sig 2 0 τ
 have c3 := fun τ => lw_num 1 τ
 have c4 := fun τ => lw_num 300 τ
 have c5 := fun τ => lw_bin 14 (sigE 7 0) (numE 1) τ
 have c6 := fun τ => lw_bin 19 (sigE 7 0) (numE 300) τ
 have c7 := fun τ => lw_bin 14 (sigE 2 0) (sigE 7 0) τ
 have w1 := wf_sig 7 0 (by unfold I64; omega)
 have w2 := wf_sig 2 0 (by unfold I64; omega)
 have w3 := wf_num 1 (by unfold U64; omega)
 have w4 := wf_num 300 (by unfold U64; omega)
 have k1 := fun τ => sz_Expr oneD (binE 14 (sigE 7 0) (numE 1)) 0 τ hd (by rw [nodes_bin, nodes_sig, nodes_num]; omega) (wf_bin 14 (by unfold I64; omega) w1 w3)
 have k2 := fun τ => sz_Expr oneD (binE 19 (sigE 7 0) (numE 300)) 0 τ hd (by rw [nodes_bin, nodes_sig, nodes_num]; omega) (wf_bin 19 (by unfold I64; omega) w1 w4)
 have k3 := fun τ => sz_Expr oneD (binE 14 (sigE 2 0) (sigE 7 0)) 0 τ hd (by rw [nodes_bin, nodes_sig, nodes_sig]; omega) (wf_bin 14 (by unfold I64; omega) w2 w1)
 have w5 : WfE liveX := wfE_do ⟨by simp [I64, U64, liveX, liveP, liveQ, E.op, E.w, E.v, E.sig, E.hi, E.lo, E.n], fun x hx => by
  have hx : x ∈ [liveP, liveQ] := hx
  rcases List.mem_cons.1 hx with rfl | hx
  ·exact wfE_do ⟨by simp [I64, U64, liveX, liveP, liveQ, E.op, E.w, E.v, E.sig, E.hi, E.lo, E.n], fun x hx => by cases hx⟩
  rcases List.mem_cons.1 hx with rfl | hx
  ·exact wfE_do ⟨by simp [I64, U64, liveX, liveP, liveQ, E.op, E.w, E.v, E.sig, E.hi, E.lo, E.n], fun x hx => by cases hx⟩
  ·cases hx⟩
 have n5 : nodes liveX ≤ 16777216 := by simp [liveX, nodes_eq, E.l]
 have k4 := fun τ => sz_CheckE oneD liveX τ hd n5 w5
 have k5 := fun τ => sz_CheckE oneD (numE 1) τ hd (by rw [nodes_num]; omega) w3
 have k6 := fun τ => sz_SameE liveX liveX τ n5 n5
 have k7 := fun τ => sz_SameE liveX (numE 1) τ n5 (by rw [nodes_num]; omega)
 have k8 := fun τ => sz_Size0 oneG τ (by simp [oneG]) one_wf one_fits one_shaped one_fills
 have k9 := fun τ => sz_Check0 oneG τ (by simp [oneG]) one_wf one_fits one_shaped one_fills
 have k10 := fun τ => sz_Same oneD oneD τ one_sm one_sm
 rw [live_a] at k1
 rw [live_b] at k2
 rw [live_c] at k3
 rw [live_d] at k4
 rw [live_e] at k5
 rw [same_self] at k6 k10
 rw [live_f] at k7
 rw [show (⟨oneG, [], []⟩ : Flat) = oneD from rfl] at k8 k9
 have hx : encE liveX = .agg [.int .i64 5, .int .i64 8, .int .u64 0, .int .i64 0, .int .i64 0, .int .i64 0, .int .i64 14, .slice [encE liveP, encE liveQ] .no] := by
  unfold encE eL; rw [encEs_eq]; rfl
 rw [hx] at k1 k4 k6 k7
 rw [encE_zero] at k2 k3
 have hq : liveQ.w = 8 := rfl
 have hlen : (oneD.sigs.length : Int) = 1 := rfl
 clear hx hd hs w1 w2 w3 w4 w5 n5
 refine calls_x mixed Try.func13 b13 n13 rfl q13 (by simp) ?_; unfold c13 r13
 repeat' (first | simp (maxDischargeDepth := 9) -implicitDefEqProofs -dsimp only [go_sem, seval, *] | ((with_reducible refine Zt (fun oF hoF hnF hnF' => ?_)); (try simp only [upd_none, ne_eq, not_and] at hoF)) | ((with_reducible apply ACalls.one1); (focus ((first | with_reducible refine c1 _ | with_reducible refine k8 _) <;> (first | (simp (maxDischargeDepth := 9) -implicitDefEqProofs -dsimp only [go_sem, seval, *]; done) | omega))); (focus (first | trivial | with_reducible exact rfl | (simp (maxDischargeDepth := 9) -implicitDefEqProofs -dsimp only [go_sem, seval]; done)))) | ((with_reducible apply id_one0); (focus (intro tS hS; ((first | with_reducible refine c2 _ | with_reducible refine c2' _ | with_reducible refine c3 _ | with_reducible refine c4 _ | with_reducible refine c5 _ | with_reducible refine c6 _ | with_reducible refine c7 _ | with_reducible refine k1 _ | with_reducible refine k2 _ | with_reducible refine k3 _ | with_reducible refine k4 _ | with_reducible refine k5 _ | with_reducible refine k6 _ | with_reducible refine k7 _ | with_reducible refine k9 _ | with_reducible refine k10 _) <;> (first | (simp (maxDischargeDepth := 9) -implicitDefEqProofs -dsimp only [go_sem, seval, *]; done) | omega | ((with_reducible refine Sub.get hS ?_); simp (maxDischargeDepth := 9) -implicitDefEqProofs -dsimp only [go_sem, seval, *]; done))))); (focus (first | trivial | (simp (maxDischargeDepth := 9) -implicitDefEqProofs -dsimp only [go_sem, seval, *]; done)))))
 refine fin_eq ?_
 (repeat' simp (maxDischargeDepth := 9) -implicitDefEqProofs -dsimp only [go_sem, seval, *])
end Go.Proofs.Ytdiebjnjhgbklaa

namespace Abs
open Go
inductive Sh where
 | bool
 | int (k : IntKind)
 | str
 | slice (agg : Bool) (e : Sh)
 | row (l : List Sh)
end Abs

namespace Abs
open Go
mutual
def szA : AV → Nat
 | .str s => s.size + 1
 | .slice l _ => szAs l + 1
 | .agg l => szAs l + 1
 | _ => 1
def szAs : List AV → Nat
 | [] => 0
 | a :: l => szA a + szAs l
end
theorem szAs_append : ∀ (l m : List AV), szAs (l ++ m) = szAs l + szAs m
 | [], m => by simp [szAs]
 | a :: l, m => by simp only [List.cons_append, szAs, szAs_append l m]; omega
theorem szAs_le {b : Nat → Nat} : ∀ (l : List AV) (k : Nat), (∀ i, (h : i < l.length) → szA l[i] ≤ b (k + i)) → szAs l ≤ ((List.range' k l.length).map b).sum
 | [], _, _ => by simp [szAs]
 | a :: l, k, h => by
  have h0 := h 0 (by simp)
  have ih := szAs_le (b := b) l (k + 1) fun i hi => by
   have := h (i + 1) (by simpa using hi)
   simp only [List.getElem_cons_succ] at this
   rw [show k + 1 + i = k + (i + 1) by omega]; exact this
  simp only [List.getElem_cons_zero, Nat.add_zero] at h0
  simp only [szAs, List.length_cons, List.range'_succ, List.map_cons, List.sum_cons]
  omega
structure Bulk (H : Type) where
 B : DataW H → Nat
 BA : List (DataW H) → Nat
 lit : ∀ l, 1 ≤ B (.lit l)
 str : ∀ s, s.length + 1 ≤ B (.lit (.string s))
 nil : 1 ≤ B .nil
 slice : ∀ l r, BA l + 1 ≤ B (.slice l r)
 agg : ∀ l, BA l + 1 ≤ B (.agg l)
 bnil : BA [] = 0
 bcons : ∀ d l, BA (d :: l) = B d + BA l
def bOf {H : Type} (b : Bulk H) : Option (DataW H × List MemPlace) → Nat
 | some y => b.B y.1
 | none => 0
theorem bulk_mapM {H : Type} (b : Bulk H) {α : Type} {f : α → Option (DataW H × List MemPlace)} : ∀ {l : List α} {ys}, l.mapM f = some ys → b.BA (ys.map (·.1)) = (l.map fun a => bOf b (f a)).sum
 | [], ys, h => by simp at h; subst h; simpa using b.bnil
 | x :: l, ys, h => by
  simp only [List.mapM_cons, Option.bind_eq_bind, Option.bind_eq_some_iff, Option.pure_def, Option.some.injEq] at h
  obtain ⟨y, h1, zs, h2, rfl⟩ := h
  simp only [List.map_cons, b.bcons, List.sum_cons, bulk_mapM b h2, h1, bOf]
def agN (P : Program) (t : TypeId) : Nat := if isAgg P t then 1 else 0
def plainS (P : Program) (S : List TypeId) (t : TypeId) : Bool :=
 match P.underlying t with
 | some .bool => P.cellsOf t == 1
 | some (.int _) => P.cellsOf t == 1
 | some .string => P.cellsOf t == 1
 | some (.slice e) => P.cellsOf t == 1 && S.contains e && decide (0 < P.cellsOf e)
 | some (.struct fs) => fs.toList.all (fun f => S.contains f.type) && laid P fs.toList 0 (P.cellsOf t)
 | some (.array n e) => S.contains e && n * P.cellsOf e == P.cellsOf t
 | _ => false
def plainAll (P : Program) (S : List TypeId) : Bool := S.all (plainS P S)
theorem plainAll_mem {P : Program} {S : List TypeId} {t : TypeId} (h : plainAll P S = true) (ht : t ∈ S) : plainS P S t = true := List.all_eq_true.1 h t ht
theorem plain_one_r {P : Program} {S : List TypeId} {t : TypeId} (h : plainS P S t = true) (ha : isAgg P t = false) : P.cellsOf t = 1 := by
 unfold plainS at h
 unfold isAgg at ha
 split at h <;> simp_all
def OpenedZ (P : Program) (W : World) (g : Nat) (t : TypeId) (n : Nat) (cs : List Value) : Prop :=
 ∃ as_, RelL (ghOf W) as_ cs ∧ Cells P g t as_ ∧ as_.all oneA = true ∧ as_.length = P.cellsOf t ∧ szAs as_ + agN P t ≤ n
theorem openedZ_fields {P : Program} {W : World} {g n : Nat} {cs : List Value} (hn : cs.length = n) {b : Field → Nat} : ∀ (fs : List Field) (off : Nat), laid P fs off n = true → off ≤ n →
  (∀ f ∈ fs, OpenedZ P W g f.type (b f) ((cs.drop f.offset).take (P.cellsOf f.type))) → ∃ as_, RelL (ghOf W) as_ (cs.drop off) ∧ CellsL (Cells P g) (fs.map (·.type)) as_ ∧ as_.all oneA = true ∧ szAs as_ ≤ (fs.map b).sum
 | [], off, hl, ho, _ => by
  simp [laid] at hl; subst hl
  refine ⟨[], ?_, rfl, rfl, by simp [szAs]⟩
  rw [List.drop_eq_nil_of_le (by omega)]
  exact .nil
 | f :: fs, off, hl, ho, h => by
  simp only [laid, Bool.and_eq_true, beq_iff_eq] at hl
  obtain ⟨rfl, hl⟩ := hl
  obtain ⟨as_, h1, h2, h3, h4, h5⟩ := h f (by simp)
  have hle : f.offset + P.cellsOf f.type ≤ n := by
   have := h1.1
   rw [h4] at this
   simp at this
   omega
  obtain ⟨bs, k1, k2, k3, k4⟩ := openedZ_fields hn fs _ hl hle fun f' hf' => h f' (by simp [hf'])
  refine ⟨as_ ++ bs, ?_, ⟨as_, bs, rfl, h2, k2⟩, by simp [List.all_append, h3, k3], by rw [szAs_append, List.map_cons, List.sum_cons]; omega⟩
  have e : cs.drop f.offset = (cs.drop f.offset).take (P.cellsOf f.type) ++ cs.drop (f.offset + P.cellsOf f.type) := by
   rw [← List.drop_drop, List.take_append_drop]
  rw [e]
  exact h1.append k1
theorem openedZ_array {P : Program} {W : World} {g : Nat} {e : TypeId} {cs : List Value} {b : Nat → Nat} : ∀ (m k : Nat), cs.length = (k + m) * P.cellsOf e →
  (∀ i, k ≤ i → i < k + m → OpenedZ P W g e (b i) ((cs.drop (i * P.cellsOf e)).take (P.cellsOf e))) → ∃ as_, RelL (ghOf W) as_ (cs.drop (k * P.cellsOf e)) ∧ CellsL (Cells P g) (List.replicate m e) as_ ∧ as_.all oneA = true ∧ szAs as_ ≤ ((List.range' k m).map b).sum
 | 0, k, hl, _ => by
  refine ⟨[], ?_, rfl, rfl, by simp [szAs]⟩
  rw [List.drop_eq_nil_of_le (by simp at hl; omega)]
  exact .nil
 | m + 1, k, hl, h => by
  obtain ⟨as_, h1, h2, h3, h4, h5⟩ := h k (by omega) (by omega)
  obtain ⟨bs, k1, k2, k3, k4⟩ := openedZ_array (P := P) (W := W) (g := g) (e := e) (cs := cs) (b := b) m (k + 1) (by rw [hl]; congr 1; omega) fun i h1 h2 => h i (by omega) (by omega)
  refine ⟨as_ ++ bs, ?_, by rw [List.replicate_succ]; exact ⟨as_, bs, rfl, h2, k2⟩, by simp [List.all_append, h3, k3], by rw [szAs_append, List.range'_succ, List.map_cons, List.sum_cons]; omega⟩
  have e' : cs.drop (k * P.cellsOf e) = (cs.drop (k * P.cellsOf e)).take (P.cellsOf e) ++ cs.drop ((k + 1) * P.cellsOf e) := by
   rw [Nat.succ_mul, ← List.drop_drop, List.take_append_drop]
  rw [e']
  exact h1.append k1
theorem openedZ_slice {P : Program} {W : World} {g : Nat} {b : Nat → Nat} {t e : TypeId} {a : Addr} {len cap : Nat} (ht : P.underlying t = some (.slice e)) (h1 : P.cellsOf t = 1) (hpe : isAgg P e = false → P.cellsOf e = 1) (hpos : 0 < P.cellsOf e) (hlc : len ≤ cap) (hcm : cap ≤ maxLen)
  (hel : ∀ i, i < len → ∃ es, W.cells? 0 (a.add (i * P.cellsOf e)) (P.cellsOf e) = some es ∧ OpenedZ P W g e (b i) es) : OpenedZ P W (g + 1) t (((List.range len).map b).sum + 1) [.slice (some a) len cap] := by
 have hag : agN P t = 0 := by simp [agN, isAgg, ht]
 rcases Nat.eq_zero_or_pos len with hz | hz
 ·subst hz
  refine ⟨[.slice [] .no], .cons (.sl0 (some a) cap .no (.inl rfl)) .nil, ?_, rfl, by rw [h1]; rfl, by simp [szAs, szA, hag]⟩
  simp only [Cells, ht]
  exact ⟨[], rfl, by simp, by simp⟩
 let p : Nat → AV → Prop := fun i x => ∃ es as_, W.cells? 0 (a.add (i * P.cellsOf e)) (P.cellsOf e) = some es ∧ RelL (ghOf W) as_ es ∧ Cells P g e as_ ∧ as_.all oneA = true ∧ mkv (isAgg P e) as_ = some x ∧ cellsA x = as_ ∧ as_.length = P.cellsOf e ∧ szA x ≤ b i
 have hp : ∀ i, i < len → ∃ x, p i x := by
  intro i hi
  obtain ⟨es, q1, as_, q2, q3, q4, q5, q6⟩ := hel i hi
  have hmk : ∃ x, mkv (isAgg P e) as_ = some x := by
   unfold mkv
   split
   ·exact ⟨_, rfl⟩
   ·match as_, q5 with
    | [], q5 => simp at q5; omega
    | v :: r, _ => exact ⟨v, rfl⟩
  obtain ⟨x, hx⟩ := hmk
  refine ⟨x, es, as_, q1, q2, q3, q4, hx, mkv_cells hx q4 (fun hg => by rw [q5]; exact hpe hg), q5, ?_⟩
  unfold mkv at hx
  unfold agN at q6
  split at hx
  ·rename_i hg
   rw [if_pos hg] at q6
   simp at hx; subst hx; simp only [szA]; exact q6
  ·rename_i hg
   have hl := q5.trans (hpe (by simpa using hg))
   match as_, hl with
   | [v], _ => simp at hx; subst hx; simp only [szAs] at q6; omega
 obtain ⟨l, hl, hg⟩ := build_list len hp
 have hsz : ∀ x ∈ l, (cellsA x).length = P.cellsOf e := by
  intro x hx
  obtain ⟨i, hi⟩ := List.getElem?_of_mem hx
  obtain ⟨es, as_, _, _, _, _, _, q, q', _⟩ := hg i x hi
  rw [q, q']
 -- the address
 have ha : a.spot = none := by
  obtain ⟨es, q1, _⟩ := hel 0 hz
  unfold World.cells? at q1
  rw [if_pos (Nat.zero_le _)] at q1
  obtain ⟨v, hv⟩ := mapM_mem q1 0 (by simpa using hpos)
  have := (cell_addr hv).1
  simp [Addr.add] at this
  exact this
 -- one cell of it
 have hcell : ∀ i, (hi : i < (flat l).length) → ∃ v, W.cell? ⟨a.block, a.off + i, none⟩ = some v ∧ Rel (ghOf W) (flat l)[i] v ∧ v.oneCell' = true := by
  intro i hi
  have hfl := flat_length hsz
  have hq : i / P.cellsOf e < l.length := by
   rw [Nat.div_lt_iff_lt_mul hpos]; rw [← hfl]; exact hi
  have hr : i % P.cellsOf e < P.cellsOf e := Nat.mod_lt _ hpos
  have hx : l[i / P.cellsOf e]? = some l[i / P.cellsOf e] := List.getElem?_eq_getElem hq
  obtain ⟨es, as_, q1, q2, _, q4, _, q6, q7, _⟩ := hg _ _ hx
  have hat := flat_at hsz hx
  unfold World.cells? at q1
  rw [if_pos (Nat.zero_le _)] at q1
  obtain ⟨m1, m2⟩ := mapM_get q1
  have hes : es.length = P.cellsOf e := by simpa using m1
  have hv := m2 (i % P.cellsOf e) (i % P.cellsOf e) (es[i % P.cellsOf e]'(by omega)) (by simp [hr]) (List.getElem?_eq_getElem (by omega))
  rw [add_spot ha, add_spot (a := ⟨a.block, _, none⟩) rfl] at hv
  simp only [Nat.add_assoc] at hv
  have hdm : i / P.cellsOf e * P.cellsOf e + i % P.cellsOf e = i := Nat.div_add_mod' i _
  rw [hdm] at hv
  refine ⟨_, hv, ?_, ?_⟩
  ·have hrel := q2.2 (i % P.cellsOf e) (by omega) (by omega)
   have : (flat l)[i]? = some (as_[i % P.cellsOf e]'(by omega)) := by
    have h5 := congrArg (fun z => z[i % P.cellsOf e]?) hat
    simp only [q6] at h5
    rw [List.getElem?_take_of_lt hr, List.getElem?_drop, hdm] at h5
    rw [h5]; exact List.getElem?_eq_getElem (by omega)
   rw [List.getElem?_eq_getElem hi] at this
   rw [Option.some.inj this]; exact hrel
  ·exact q2.ones q4 _ _
 let vv : Nat → Value := fun i => (W.cell? ⟨a.block, a.off + i, none⟩).getD undef
 refine ⟨[.slice l .no], .cons ?_ .nil, ?_, rfl, by rw [h1]; rfl, ?_⟩
 ·have e1 : a = ⟨a.block, a.off, none⟩ := by cases a; simp at ha; subst ha; rfl
  rw [e1, ← hl]
  refine .slice l .no a.block a.off cap (P.cellsOf e) vv hsz (fun i hi => ?_) (fun i hi => ?_) trivial (by omega)
  ·obtain ⟨v, k1, _, k3⟩ := hcell i hi
   simp only [vv, k1, Option.getD_some]
   exact claim_all k1 k3
  ·obtain ⟨v, k1, k2, _⟩ := hcell i hi
   simp only [vv, k1, Option.getD_some]
   exact k2
 ·simp only [Cells, ht]
  refine ⟨l, rfl, by omega, fun x hx => ?_⟩
  obtain ⟨i, hi⟩ := List.getElem?_of_mem hx
  obtain ⟨es, as_, _, _, q3, _, q5, _⟩ := hg i x hi
  exact ⟨as_, q5, q3⟩
 ·have hs := szAs_le (b := b) l 0 fun i hi => by
   obtain ⟨_, _, _, _, _, _, _, _, _, q⟩ := hg i l[i] (List.getElem?_eq_getElem hi)
   rw [Nat.zero_add]; exact q
  rw [hl, ← List.range_eq_range'] at hs
  simp only [szAs, szA, hag]; omega
theorem open_trod_z {H : Type} (b : Bulk H) {enc : TypeId × Value → H} {P : Program} {W : World} {sp : Nat → Bool} {held : Bool} {S : List TypeId} (hS : plainAll P S = true) : ∀ (fuel : Nat) (t : TypeId) (cs : List Value) (d : DataW H) (ps : List MemPlace),
  DataW.trod enc P W 0 sp held fuel t cs = some (d, ps) → t ∈ S → OpenedZ P W fuel t (b.B d) cs
 | 0, _, _, _, _, h, _ => by simp [DataW.trod] at h
 | fuel + 1, t, cs, d, ps, h, hp => by
  have ih := open_trod_z b (enc := enc) (P := P) (W := W) (sp := sp) (held := held) hS fuel
  simp only [DataW.trod] at h
  replace hp := plainAll_mem hS hp
  simp only [plainS] at hp
  split at h
  case h_1 v hu =>
   rw [hu] at hp
   simp only [Option.some.injEq, Prod.mk.injEq] at h
   refine ⟨[.bool v], .cons (.bool v) .nil, ?_, rfl, by simpa using (beq_iff_eq.1 hp).symm, ?_⟩
   ·simp only [Cells, hu]; exact ⟨v, rfl⟩
   ·rw [← h.1]; have := b.lit (.bool v); simp [szAs, szA, agN, isAgg, hu]; omega
  case h_2 k k' n hu =>
   rw [hu] at hp
   split at h <;> simp at h
   rename_i hc
   obtain ⟨rfl, hwf⟩ := hc
   refine ⟨[.int k' n], .cons (.int k' n) .nil, ?_, rfl, by simpa using (beq_iff_eq.1 hp).symm, ?_⟩
   ·simp only [Cells, hu]
    simp [Lit.wf] at hwf
    exact ⟨n, rfl, hwf.1, hwf.2⟩
   ·rw [← h.1]; have := b.lit (.int k' n); simp [szAs, szA, agN, isAgg, hu]; omega
  case h_4 s hu =>
   rw [hu] at hp
   split at h <;> simp at h
   rename_i hc
   refine ⟨[.str s], .cons (.str s) .nil, ?_, rfl, by simpa using (beq_iff_eq.1 hp).symm, ?_⟩
   ·simp only [Cells, hu]
    exact ⟨s, rfl, hc⟩
   ·rw [← h.1]; have := b.str s.data.toList; simp [szAs, szA, agN, isAgg, hu] at this ⊢; exact this
  all_goals first
   | (rename_i hu; rw [hu] at hp; simp at hp; done)
   | (rename_i hu _; rw [hu] at hp; simp at hp; done)
   | (simp at h; done)
   | skip
  case h_7 e hu =>
   rw [hu] at hp
   simp only [Bool.and_eq_true, beq_iff_eq, List.contains_iff_mem] at hp
   simp only [Option.some.injEq, Prod.mk.injEq] at h
   refine ⟨[.slice [] .no], .cons (.sl0 none 0 .no (.inl rfl)) .nil, ?_, rfl, by rw [hp.1.1]; rfl, ?_⟩
   ·simp only [Cells, hu]
    exact ⟨[], rfl, by simp, by simp⟩
   ·rw [← h.1]; have := b.nil; simp [szAs, szA, agN, isAgg, hu]; omega
  case h_8 e a len cap hu =>
   rw [hu] at hp
   simp only [Bool.and_eq_true, beq_iff_eq, decide_eq_true_eq, List.contains_iff_mem] at hp
   obtain ⟨⟨h1, h2⟩, h3⟩ := hp
   split at h
   ·rename_i hc
    obtain ⟨c1, c2, c3⟩ := hc
    simp only [Option.bind_eq_some_iff] at h
    obtain ⟨elems, he, h⟩ := h
    simp only [Option.map_eq_some_iff] at h
    obtain ⟨rest, _, h⟩ := h
    simp only [Prod.mk.injEq] at h
    have hbm := bulk_mapM b he
    have hop : OpenedZ P W (fuel + 1) t (((List.range len).map fun i => bOf b ((W.cells? 0 (a.add (i * P.cellsOf e)) (P.cellsOf e)).bind (DataW.trod enc P W 0 sp held fuel e))).sum + 1) [.slice (some a) len cap] := by
     refine openedZ_slice hu h1 (plain_one_r (plainAll_mem hS h2)) h3 c2 c3 fun i hi => ?_
     obtain ⟨y, hy⟩ := mapM_mem he i (by simpa using hi)
     have hy' := hy
     simp only [Option.bind_eq_some_iff] at hy
     obtain ⟨es, q1, q2⟩ := hy
     refine ⟨es, q1, ?_⟩
     simp only [hy', bOf]
     exact ih e es _ _ q2 h2
    obtain ⟨as_, z1, z2, z3, z4, z5⟩ := hop
    refine ⟨as_, z1, z2, z3, z4, ?_⟩
    rw [← h.1]
    have := b.slice (elems.map (·.1)) (rest.map (·.1))
    omega
   ·simp at h
  case h_9 fs hu =>
   rw [hu] at hp
   simp only [Bool.and_eq_true, List.all_eq_true, List.contains_iff_mem] at hp
   obtain ⟨h1, h2⟩ := hp
   split at h
   ·rename_i hlen
    simp only [Option.map_eq_some_iff] at h
    obtain ⟨xs, hx, h⟩ := h
    simp only [Prod.mk.injEq] at h
    have hbm := bulk_mapM b hx
    rename_i cc _ _
    obtain ⟨as_, k1, k2, k3, k4⟩ := openedZ_fields (P := P) (W := W) (g := fuel) hlen (b := fun f => bOf b (DataW.trod enc P W 0 sp held fuel f.type ((cc.drop f.offset).take (P.cellsOf f.type)))) fs.toList 0 h2 (Nat.zero_le _) fun f hf => by
     obtain ⟨y, hy⟩ := mapM_mem hx f hf
     simp only [hy, bOf]
     exact ih _ _ _ _ hy (h1 f hf)
    rw [List.drop_zero] at k1
    refine ⟨as_, k1, ?_, k3, by rw [k1.1, hlen], ?_⟩
    ·simp only [Cells, hu]; exact k2
    ·rw [← h.1]
     have := b.agg (xs.map (·.1))
     have : agN P t ≤ 1 := by unfold agN; split <;> omega
     omega
   ·simp at h
  case h_10 n e hu =>
   rw [hu] at hp
   simp only [Bool.and_eq_true, beq_iff_eq, List.contains_iff_mem] at hp
   obtain ⟨h1, h2⟩ := hp
   split at h
   ·rename_i hlen
    simp only [Option.map_eq_some_iff] at h
    obtain ⟨xs, hx, h⟩ := h
    simp only [Prod.mk.injEq] at h
    have hbm := bulk_mapM b hx
    rename_i cc _ _
    obtain ⟨as_, k1, k2, k3, k4⟩ := openedZ_array (P := P) (W := W) (g := fuel) (e := e) (b := fun i => bOf b (DataW.trod enc P W 0 sp held fuel e ((cc.drop (i * P.cellsOf e)).take (P.cellsOf e)))) n 0 (by rw [hlen, ← h2]; simp) fun i _ hi => by
     obtain ⟨y, hy⟩ := mapM_mem hx i (by simpa using hi)
     simp only [hy, bOf]
     exact ih _ _ _ _ hy h1
    rw [Nat.zero_mul, List.drop_zero] at k1
    rw [← List.range_eq_range'] at k4
    refine ⟨as_, k1, ?_, k3, by rw [k1.1, hlen], ?_⟩
    ·simp only [Cells, hu]; exact k2
    ·rw [← h.1]
     have := b.agg (xs.map (·.1))
     have : agN P t ≤ 1 := by unfold agN; split <;> omega
     omega
   ·simp at h
theorem open_arg_z {H : Type} (b : Bulk H) {enc : TypeId × Value → H} {P : Program} {W : World} {sp : Nat → Bool} {held : Bool} {r : Reach} {base : Nat} {S : List TypeId} (hS : plainAll P S = true) {t : TypeId} {v : Value} {d : DataW H} {ps : List MemPlace}
  (hv : Value.okWide P W r base t v) (hd : DataW.Trod enc P W 0 sp held t v d ps) (hp : t ∈ S) : ∃ g es a, mkv (isAgg P t) es = some a ∧ Cells P g t es ∧ Rel (ghOf W) a v ∧ szA a ≤ b.B d := by
 obtain ⟨fuel, hd⟩ := hd
 obtain ⟨as_, h1, h2, h3, h4, h5⟩ := open_trod_z b hS fuel t _ d ps hd hp
 by_cases ha : isAgg P t = true
 ·have : ∃ cs, v = .agg cs := by
   unfold isAgg at ha
   unfold Value.okWide at hv
   split at ha
   ·rename_i hu; rw [hu] at hv; obtain ⟨cs, e, _⟩ := hv; exact ⟨cs, e⟩
   ·rename_i hu; rw [hu] at hv; obtain ⟨cs, e, _⟩ := hv; exact ⟨cs, e⟩
   ·simp at ha
  obtain ⟨cs, rfl⟩ := this
  exact ⟨fuel, as_, .agg as_, by simp [mkv, ha], h2, .aggL (by simpa [Value.cells] using h1), by simp only [agN, ha, if_true] at h5; simp only [szA]; exact h5⟩
 ·have ha' : isAgg P t = false := by simpa using ha
  have hone := plain_one_r (plainAll_mem hS hp) ha'
  rw [hone] at h4
  match as_, h4 with
  | [a], _ =>
   obtain ⟨u, rest, e, k1, k2⟩ := h1.cons_inv
   have hu : v = u := by
    have hl := h1.1
    have hne : ∀ cs, v ≠ .agg cs := by
     rintro cs rfl
     have hrest : rest = [] := by
      have := k2.1; simpa using this.symm
     unfold Value.okWide at hv
     unfold isAgg at ha'
     split at hv
     ·rename_i hu; rw [hu] at ha'; simp at ha'
     ·rename_i hu; rw [hu] at ha'; simp at ha'
     ·unfold Cell.okWide Cell.ok at hv
      repeat' split at hv
      all_goals first | exact hv.elim | simp_all
    cases v <;> first | exact absurd rfl (hne _) | (simp [Value.cells] at e; exact e.1)
   subst hu
   exact ⟨fuel, [a], a, by simp [mkv, ha'], h2, k1, by simp only [szAs] at h5; omega⟩
def ArgsR (P : Program) : List TypeId → List AV → Prop
 | [], [] => True
 | t :: ts, a :: as_ => (∃ g es, mkv (isAgg P t) es = some a ∧ Cells P g t es) ∧ ArgsR P ts as_
 | _, _ => False
theorem open_args_z {H : Type} (b : Bulk H) {enc : TypeId × Value → H} {P : Program} {W : World} {sp : Nat → Bool} {held : Bool} {r : Reach} {base : Nat} {S : List TypeId} (hS : plainAll P S = true) : ∀ {ts : List TypeId} {vs : List Value} {ds : List (DataW H)} {ps : List MemPlace},
  (∀ (j : Nat) t v, ts[j]? = some t → vs[j]? = some v → Value.okWide P W r base t v) → DataW.TrodAll enc P W 0 sp held ts vs ds ps → (∀ t ∈ ts, t ∈ S) → ∃ as_, ArgsR P ts as_ ∧ RelL (ghOf W) as_ vs ∧ szAs as_ ≤ b.BA ds
 | [], [], [], _, _, _, _ => ⟨[], trivial, .nil, by simp [szAs]⟩
 | t :: ts, v :: vs, d :: ds, _, hv, ⟨p, q, h1, h2, _⟩, hp => by
  obtain ⟨g, es, a, k1, k2, k3, k4⟩ := open_arg_z b hS (hv 0 t v rfl rfl) h1 (hp t (by simp))
  obtain ⟨as_, m1, m2, m3⟩ := open_args_z b hS (fun j t v h h' => hv (j + 1) t v (by simpa using h) (by simpa using h')) h2 (fun t ht => hp t (by simp [ht]))
  exact ⟨a :: as_, ⟨⟨g, es, k1, k2⟩, m1⟩, .cons k3 m2, by rw [b.bcons]; simp only [szAs]; omega⟩
 | [], _ :: _, _, _, _, h, _ => h.elim
 | [], [], _ :: _, _, _, h, _ => h.elim
 | _ :: _, [], _, _, _, h, _ => h.elim
 | _ :: _, _ :: _, [], _, _, h, _ => h.elim
theorem post_true_z {H : Type} (b : Bulk H) {N : Nat} {enc : TypeId × Value → H} {P : Program} {k : FuncId} {f : Func} {s : ChangeSpec} {S : List TypeId} {tb : TypeId} {W : World} {base : Nat} {args : Array Value} {ds gs : List (DataW H)} {before : List MemPlace} {r : Reach}
  (hl : laidOutB P = true) (hS : plainAll P S = true) (hts : f.params.toList.all (fun t => P.readableRec t && decide (t < P.types.size) && S.contains t) = true) (hvars : s.vars = [])
  (hfn : ∀ ds : List (DataW H), ds.length = f.params.size → s.fn H ds = { results := [.lit (.bool true)], args := ds }) (hrt : f.resultTypes = #[tb]) (htb : P.underlying tb = some .bool)
  (hval : ∀ (j : Nat) t v, f.params[j]? = some t → args[j]? = some v → Value.okWide P W r base t v)
  (hW : DataW.Whole enc P f.params.toList s.vars false W args.toList ds gs before)
  (hN : b.BA (ds ++ gs) ≤ N)
  (hc : ∀ as_, ArgsR P f.params.toList as_ → szAs as_ ≤ N → ACalls P k as_ (fun _ => none) (fun r _ => r = .ret (.bool true))) :
  Calls P k args W fun e W' => ∃ v, e = .returned v ∧ s.post enc P f false true false false W args v W' := by
 have hW' := hW
 obtain ⟨p, q, hA, hV, rfl, hfz, hnd⟩ := hW
 rw [hvars] at hV
 obtain ⟨rfl, rfl⟩ := Go.ChangeShapes.trodVars_none hV
 have hlen : ∀ {ts : List TypeId} {vs : List Value} {ds : List (DataW H)} {ps : List MemPlace}, DataW.TrodAll enc P W 0 (fun _ => true) true ts vs ds ps → ds.length = ts.length := by
  intro ts
  induction ts with
  | nil => intro vs ds ps h; cases vs <;> cases ds <;> first | exact h.elim | rfl
  | cons t ts ih =>
   intro vs ds ps h
   cases vs <;> cases ds <;> first | exact h.elim | skip
   obtain ⟨_, _, _, h2, _⟩ := h
   simp [ih h2]
 have hd := hlen hA
 have hall : ∀ t ∈ f.params.toList, (P.readableRec t = true ∧ t < P.types.size) ∧ t ∈ S := by
  intro t ht
  have := List.all_eq_true.1 hts t ht
  simpa using this
 obtain ⟨as_, ha, hrel, hsz⟩ := open_args_z b hS (fun j t v h h' => hval j t v (by simpa using h) (by simpa using h')) hA (fun t ht => (hall t ht).2)
 refine (calls_true hrel (hc as_ ha (by rw [List.append_nil] at hN; omega))).mono fun e W' ⟨he, hg, hold⟩ => ?_
 subst he
 have hs : s.fn H (ds ++ []) = { results := [.lit (.bool true)], args := ds } := by
  rw [List.append_nil]; exact hfn ds (by simpa using hd)
 refine ⟨_, rfl, Go.ChangeShapes.post_of_same (pa := p) (pv := []) hW' ?_ ?_ ?_ rfl (hg.frame _) hg.2.1 (Go.RowKit.ok_one hrt rfl (Go.RowKit.okWide_bool_mk htb _))⟩
 ·intro b sp hd
  rw [hs, hrt]
  exact trodAll_cons_mk (Go.RowKit.shut_bool htb _) Go.ChangeShapes.trodAll_mk0
 ·intro sp hsp
  rw [hs]
  have hlt : ∀ x ∈ p, x.block < W.heap.size := fun x hx => hW'.lt x (by simpa using hx)
  exact trodAll_stays hl (fun t ht => (hall t ht).1) hA (fun x hx => grown_same hg hold (hlt x hx)) (fun x hx => hsp x (by simpa using hx))
 ·intro sp _
  rw [hs, hvars]
  rfl
end Abs

namespace Fil
open Abs Go
theorem i64_min : IntKind.i64.min = -9223372036854775808 := by decide
theorem i64_max : IntKind.i64.max = 9223372036854775807 := by decide
theorem I64_of {n : Int} (h : IntKind.i64.min ≤ n ∧ n ≤ IntKind.i64.max) : I64 n := by rw [i64_min, i64_max] at h; exact h
end Fil

