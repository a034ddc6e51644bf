/- blast: contracts: what is made, if it may. -/
import Derived.Test.YtbbihmmobfmadaaGreatOBlzBlzH
set_option linter.unusedSimpArgs false
set_option linter.unusedVariables false
namespace Go.Proofs.YtbbihmmobfmadaaGreat
open Abs Fil Fil.Bl A
set_option maxRecDepth 20000 in
set_option maxHeartbeats 8000000 in
theorem r19_Bin (g : Aig) (op : Int) (x y : List Int) (tx ty : Tok) (σ : Sig) (hs : Wf g) (hxl : x.length ≤ 1000000) (hyl : y.length ≤ 1000000) :
    ACalls Tryz.prog 26 [encAig g, .int .i64 op, encW x tx, encW y ty] σ (fun r σ' => r = .ret (.tup [encAig (Bin g op x y).1, encW (Bin g op x y).2.1 .no, .int .i64 (Bin g op x y).2.2]) ∧ σ' = σ) := by
  have z1 := fun τ => ref_Check g τ hs
  unfold Bin
  by_cases h0 : g.check = 0
  case neg =>
    rw [made_check h0]
    have h0' : (g.check != 0) = true := by simpa using h0
    obtain ⟨c, hc⟩ : ∃ c, g.check = c := ⟨_, rfl⟩
    rw [hc] at z1 h0' ⊢
    clear h0 hs hc
    refine calls_x mixed Tryz.func26 b26 n26 rfl q26 (by simp) ?_; unfold c26 r26
    repeat' (first | simp (maxDischargeDepth := 9) -implicitDefEqProofs -dsimp only [go_sem, seval, *] | (with_reducible (first | apply Ze) <;> intro hq) | ((with_reducible refine Zt (fun oF hoF hnF hnF' => ?_)); (try simp only [upd_none, ne_eq, not_and] at hoF)) | ((with_reducible apply ACalls.one1); (focus ((first | with_reducible refine z1 _) <;> (first | (simp (maxDischargeDepth := 9) -implicitDefEqProofs -dsimp only [go_sem, seval, *]; done) | omega))); (focus (first | trivial | with_reducible exact rfl | (simp (maxDischargeDepth := 9) -implicitDefEqProofs -dsimp only [go_sem, seval]; done)))))
    refine fin_eq ?_
    (repeat' (first | simp (maxDischargeDepth := 9) -implicitDefEqProofs -dsimp only [go_sem, seval, zG, encW, List.map_nil, *])) <;> (repeat' refine And.intro ?_ ?_) <;> (first | omega | rfl | assumption | skip)
  have hf := check_fine hs h0
  have z2 := fun τ => r19_WordG g x tx τ hf hxl
  have z5 := fun τ => r19_WordG g y ty τ hf hyl
  have hM : mayBin g op x y = (word g x && word g y && decide (11 ≤ op ∧ op ≤ 26 ∧ (op = 17 ∨ op = 18 ∨ (x.length = y.length ∧ (op < 25 ∨ x.length = 1))))) := rfl
  have hwl := fun h => word_Lw (a := x) hf h
  have hwm := fun h => word_Lw (a := y) hf h
  rw [h0] at z1
  obtain ⟨X, hX⟩ : ∃ X, word g x = X := ⟨_, rfl⟩
  rw [hX] at z2 hM hwl
  obtain ⟨Y, hY⟩ : ∃ X, word g y = X := ⟨_, rfl⟩
  rw [hY] at z5 hM hwm
  cases hm : mayBin g op x y with
  | false =>
    rw [made_no h0]
    rw [hm] at hM
    clear hs hf h0 hX hY hm hwl hwm
    cases X with
    | false =>
      clear hM
      refine calls_x mixed Tryz.func26 b26 n26 rfl q26 (by simp) ?_; unfold c26 r26
      repeat' (first | simp (maxDischargeDepth := 9) -implicitDefEqProofs -dsimp only [go_sem, seval, *] | (with_reducible (first | apply Ze) <;> intro hq) | ((with_reducible refine Zt (fun oF hoF hnF hnF' => ?_)); (try simp only [upd_none, ne_eq, not_and] at hoF)) | ((with_reducible apply ACalls.one1); (focus ((first | with_reducible refine z1 _ | with_reducible refine z2 _ | with_reducible refine z5 _) <;> (first | (simp (maxDischargeDepth := 9) -implicitDefEqProofs -dsimp only [go_sem, seval, *]; done) | omega))); (focus (first | trivial | with_reducible exact rfl | (simp (maxDischargeDepth := 9) -implicitDefEqProofs -dsimp only [go_sem, seval]; done)))))
      all_goals
        refine fin_eq ?_
        (repeat' (first | simp (maxDischargeDepth := 9) -implicitDefEqProofs -dsimp only [go_sem, seval, zG, encW, List.map_nil, *])) <;> (repeat' refine And.intro ?_ ?_) <;> (first | omega | rfl | assumption | skip)
    | true =>
    cases Y with
    | false =>
      clear hM
      refine calls_x mixed Tryz.func26 b26 n26 rfl q26 (by simp) ?_; unfold c26 r26
      repeat' (first | simp (maxDischargeDepth := 9) -implicitDefEqProofs -dsimp only [go_sem, seval, *] | (with_reducible (first | apply Ze) <;> intro hq) | ((with_reducible refine Zt (fun oF hoF hnF hnF' => ?_)); (try simp only [upd_none, ne_eq, not_and] at hoF)) | ((with_reducible apply ACalls.one1); (focus ((first | with_reducible refine z1 _ | with_reducible refine z2 _ | with_reducible refine z5 _) <;> (first | (simp (maxDischargeDepth := 9) -implicitDefEqProofs -dsimp only [go_sem, seval, *]; done) | omega))); (focus (first | trivial | with_reducible exact rfl | (simp (maxDischargeDepth := 9) -implicitDefEqProofs -dsimp only [go_sem, seval]; done)))))
      all_goals
        refine fin_eq ?_
        (repeat' (first | simp (maxDischargeDepth := 9) -implicitDefEqProofs -dsimp only [go_sem, seval, zG, encW, List.map_nil, *])) <;> (repeat' refine And.intro ?_ ?_) <;> (first | omega | rfl | assumption | skip)
    | true =>
      simp only [Bool.true_and] at hM
      replace hM := of_decide_eq_false hM.symm
      refine calls_x mixed Tryz.func26 b26 n26 rfl q26 (by simp) ?_; unfold c26 r26
      by_cases o1 : op < 11
      · have b17 : (op == 17) = false := by rw [beq_eq_false_iff_ne]; omega
        have b18 : (op == 18) = false := by rw [beq_eq_false_iff_ne]; omega
        have b25 : (op == 25) = false := by rw [beq_eq_false_iff_ne]; omega
        have b26 : (op == 26) = false := by rw [beq_eq_false_iff_ne]; omega
        clear hM
        repeat' (first | simp (maxDischargeDepth := 9) -implicitDefEqProofs -dsimp only [go_sem, seval, gt_iff_lt, *] | (with_reducible (first | apply Ze) <;> intro hq) | ((with_reducible refine Zt (fun oF hoF hnF hnF' => ?_)); (try simp only [upd_none, ne_eq, not_and] at hoF)) | ((with_reducible apply ACalls.one1); (focus ((first | with_reducible refine z1 _ | with_reducible refine z2 _ | with_reducible refine z5 _) <;> (first | (simp (maxDischargeDepth := 9) -implicitDefEqProofs -dsimp only [go_sem, seval, *]; done) | omega))); (focus (first | trivial | with_reducible exact rfl | (simp (maxDischargeDepth := 9) -implicitDefEqProofs -dsimp only [go_sem, seval]; done)))))
        all_goals
          refine fin_eq ?_
          (repeat' (first | simp (maxDischargeDepth := 9) -implicitDefEqProofs -dsimp only [go_sem, seval, zG, encW, List.map_nil, *])) <;> (repeat' refine And.intro ?_ ?_) <;> (first | omega | rfl | assumption | skip)
      by_cases o2 : 26 < op
      · have b17 : (op == 17) = false := by rw [beq_eq_false_iff_ne]; omega
        have b18 : (op == 18) = false := by rw [beq_eq_false_iff_ne]; omega
        have b25 : (op == 25) = false := by rw [beq_eq_false_iff_ne]; omega
        have b26 : (op == 26) = false := by rw [beq_eq_false_iff_ne]; omega
        clear hM
        repeat' (first | simp (maxDischargeDepth := 9) -implicitDefEqProofs -dsimp only [go_sem, seval, gt_iff_lt, *] | (with_reducible (first | apply Ze) <;> intro hq) | ((with_reducible refine Zt (fun oF hoF hnF hnF' => ?_)); (try simp only [upd_none, ne_eq, not_and] at hoF)) | ((with_reducible apply ACalls.one1); (focus ((first | with_reducible refine z1 _ | with_reducible refine z2 _ | with_reducible refine z5 _) <;> (first | (simp (maxDischargeDepth := 9) -implicitDefEqProofs -dsimp only [go_sem, seval, *]; done) | omega))); (focus (first | trivial | with_reducible exact rfl | (simp (maxDischargeDepth := 9) -implicitDefEqProofs -dsimp only [go_sem, seval]; done)))))
        all_goals
          refine fin_eq ?_
          (repeat' (first | simp (maxDischargeDepth := 9) -implicitDefEqProofs -dsimp only [go_sem, seval, zG, encW, List.map_nil, *])) <;> (repeat' refine And.intro ?_ ?_) <;> (first | omega | rfl | assumption | skip)
      have b17 : (op == 17) = false := by rw [beq_eq_false_iff_ne]; omega
      have b18 : (op == 18) = false := by rw [beq_eq_false_iff_ne]; omega
      by_cases hle : x.length = y.length
      · have b3 : ((x.length : Int) != 1) = true := by rw [bne_iff_ne]; omega
        have b4 : ((x.length : Int) != (y.length : Int)) = false := by rw [bne_eq_false_iff_eq]; omega
        have hop : op = 25 ∨ op = 26 := by omega
        clear hM hle o1 o2 b17 b18
        rcases hop with rfl | rfl
        all_goals
          repeat' (first | simp (maxDischargeDepth := 9) -implicitDefEqProofs -dsimp only [go_sem, seval, gt_iff_lt, List.length_map, *] | (with_reducible (first | apply Ze) <;> intro hq) | ((with_reducible refine Zt (fun oF hoF hnF hnF' => ?_)); (try simp only [upd_none, ne_eq, not_and] at hoF)) | ((with_reducible apply ACalls.one1); (focus ((first | with_reducible refine z1 _ | with_reducible refine z2 _ | with_reducible refine z5 _) <;> (first | (simp (maxDischargeDepth := 9) -implicitDefEqProofs -dsimp only [go_sem, seval, *]; done) | omega))); (focus (first | trivial | with_reducible exact rfl | (simp (maxDischargeDepth := 9) -implicitDefEqProofs -dsimp only [go_sem, seval]; done)))))
          refine fin_eq ?_
          (repeat' (first | simp (maxDischargeDepth := 9) -implicitDefEqProofs -dsimp only [go_sem, seval, zG, encW, List.map_nil, *])) <;> (repeat' refine And.intro ?_ ?_) <;> (first | omega | rfl | assumption | skip)
      · have b4 : ((x.length : Int) != (y.length : Int)) = true := by rw [bne_iff_ne]; omega
        clear hM hle
        repeat' (first | simp (maxDischargeDepth := 9) -implicitDefEqProofs -dsimp only [go_sem, seval, gt_iff_lt, List.length_map, *] | (with_reducible (first | apply Ze) <;> intro hq) | ((with_reducible refine Zt (fun oF hoF hnF hnF' => ?_)); (try simp only [upd_none, ne_eq, not_and] at hoF)) | ((with_reducible apply ACalls.one1); (focus ((first | with_reducible refine z1 _ | with_reducible refine z2 _ | with_reducible refine z5 _) <;> (first | (simp (maxDischargeDepth := 9) -implicitDefEqProofs -dsimp only [go_sem, seval, *]; done) | omega))); (focus (first | trivial | with_reducible exact rfl | (simp (maxDischargeDepth := 9) -implicitDefEqProofs -dsimp only [go_sem, seval]; done)))))
        all_goals
          refine fin_eq ?_
          (repeat' (first | simp (maxDischargeDepth := 9) -implicitDefEqProofs -dsimp only [go_sem, seval, zG, encW, List.map_nil, *])) <;> (repeat' refine And.intro ?_ ?_) <;> (first | omega | rfl | assumption | skip)
  | true =>
    rw [made_yes h0]
    rw [hm] at hM
    replace hM := hM.symm
    simp only [Bool.and_eq_true, decide_eq_true_eq] at hM
    obtain ⟨⟨rfl, rfl⟩, o1, o2, o3⟩ := hM
    obtain ⟨⟨l1, l2⟩, l3⟩ := hwl rfl
    obtain ⟨⟨m1, m2⟩, m3⟩ := hwm rfl
    have z3 := fun bo τ h => r19_bin bo ⟨g, 0⟩ op x y tx ty τ h hs l3 m3 l1 l2 m2 ⟨o1, o2⟩ (by omega)
    obtain ⟨⟨l, g', e'⟩, hZ⟩ : ∃ Z, (binP op x y).run ⟨g, 0⟩ = Z := ⟨_, rfl⟩
    rw [hZ] at z3 ⊢
    have z4 := fun τ => r19_done g' e' l .no τ
    obtain ⟨⟨t1, t2, t3⟩, hT⟩ : ∃ T, told (l, (⟨g', e'⟩ : Bu)) = T := ⟨_, rfl⟩
    rw [hT] at z4 ⊢
    simp only at z3 z4 ⊢
    have w1 : ¬ op < 11 := by omega
    have w2 : ¬ 26 < op := by omega
    have hc : ((op == 17) = true ∧ (op == 25) = false ∧ (op == 26) = false) ∨ ((op == 17) = false ∧ (op == 18) = true ∧ (op == 25) = false ∧ (op == 26) = false) ∨
        ((op == 17) = false ∧ (op == 18) = false ∧ (op == 25) = false ∧ (op == 26) = false ∧ ((x.length : Int) != (y.length : Int)) = false) ∨
        ((op == 17) = false ∧ (op == 18) = false ∧ (op == 25) = true ∧ ((x.length : Int) != (y.length : Int)) = false ∧ ((x.length : Int) != 1) = false) ∨
        ((op == 17) = false ∧ (op == 18) = false ∧ (op == 25) = false ∧ (op == 26) = true ∧ ((x.length : Int) != (y.length : Int)) = false ∧ ((x.length : Int) != 1) = false) := by
      simp only [beq_iff_eq, beq_eq_false_iff_ne, bne_eq_false_iff_eq, ne_eq]
      omega
    clear hs hf h0 hX hY hm hwl hwm hZ hT l1 l2 l3 m1 m2 m3 o1 o2 o3
    refine calls_x mixed Tryz.func26 b26 n26 rfl q26 (by simp) ?_; unfold c26 r26
    rcases hc with ⟨c1, c2, c3⟩ | ⟨c1, c2, c3, c4⟩ | ⟨c1, c2, c3, c4, c5⟩ | ⟨c1, c2, c3, c4, c5⟩ | ⟨c1, c2, c3, c4, c5, c6⟩
    all_goals
      repeat' (first | simp (maxDischargeDepth := 9) -implicitDefEqProofs -dsimp only [go_sem, seval, gt_iff_lt, List.length_map, *] | (with_reducible (first | apply Ze) <;> intro hq) | ((with_reducible refine Zt (fun oF hoF hnF hnF' => ?_)); (try simp only [upd_none, ne_eq, not_and] at hoF)) | ((with_reducible apply ACalls.one1); (focus ((first | with_reducible refine z1 _ | with_reducible refine z2 _ | with_reducible refine z5 _ | with_reducible refine z3 _ _ ?_ | with_reducible refine z4 _) <;> (first | (simp (maxDischargeDepth := 9) -implicitDefEqProofs -dsimp only [go_sem, seval, *]; done) | omega))); (focus (first | trivial | with_reducible exact rfl | (simp (maxDischargeDepth := 9) -implicitDefEqProofs -dsimp only [go_sem, seval]; done)))))
      refine fin_eq ?_
      (repeat' (first | simp (maxDischargeDepth := 9) -implicitDefEqProofs -dsimp only [go_sem, seval, encW, *])) <;> (repeat' refine And.intro ?_ ?_) <;> (first | omega | rfl | assumption | skip)
set_option maxRecDepth 20000 in
set_option maxHeartbeats 8000000 in
theorem r19_Cond (g : Aig) (c : Int) (x y : List Int) (tx ty : Tok) (σ : Sig) (hs : Wf g) (hc : I64 c) (hxl : x.length ≤ 1000000) (hyl : y.length ≤ 1000000) :
    ACalls Tryz.prog 28 [encAig g, .int .i64 c, encW x tx, encW y ty] σ (fun r σ' => r = .ret (.tup [encAig (Cond g c x y).1, encW (Cond g c x y).2.1 .no, .int .i64 (Cond g c x y).2.2]) ∧ σ' = σ) := by
  have z1 := fun τ => ref_Check g τ hs
  unfold Cond
  by_cases h0 : g.check = 0
  case neg =>
    rw [made_check h0]
    have h0' : (g.check != 0) = true := by simpa using h0
    obtain ⟨c, hc⟩ : ∃ c, g.check = c := ⟨_, rfl⟩
    rw [hc] at z1 h0' ⊢
    clear h0 hs hc
    refine calls_x mixed Tryz.func28 b28 n28 rfl q28 (by simp) ?_; unfold c28 r28
    repeat' (first | simp (maxDischargeDepth := 9) -implicitDefEqProofs -dsimp only [go_sem, seval, *] | ((with_reducible refine Zt (fun oF hoF hnF hnF' => ?_)); (try simp only [upd_none, ne_eq, not_and] at hoF)) | ((with_reducible apply ACalls.one1); (focus ((first | with_reducible refine z1 _) <;> (first | (simp (maxDischargeDepth := 9) -implicitDefEqProofs -dsimp only [go_sem, seval, *]; done) | omega))); (focus (first | trivial | with_reducible exact rfl | (simp (maxDischargeDepth := 9) -implicitDefEqProofs -dsimp only [go_sem, seval]; done)))))
    refine fin_eq ?_
    (repeat' (first | simp (maxDischargeDepth := 9) -implicitDefEqProofs -dsimp only [go_sem, seval, zG, encW, List.map_nil, *])) <;> (repeat' refine And.intro ?_ ?_) <;> (first | omega | rfl | assumption | skip)
  have hf := check_fine hs h0
  have z2 := fun τ => r19_WordG g x tx τ hf hxl
  have z5 := fun τ => r19_WordG g y ty τ hf hyl
  have z6 : ∀ τ, ACalls Tryz.prog 47 [encAig g, .slice [.int .i64 c] .full] τ (fun r σ' => r = .ret (.bool (word g [c])) ∧ σ' = τ) := fun τ => r19_WordG g [c] .full τ hf (by simp)
  have hM : mayCond g c x y = (word g x && word g y && word g [c] && decide (x.length = y.length)) := rfl
  have hwl := fun h => word_Lw (a := x) hf h
  rw [h0] at z1
  obtain ⟨X, hX⟩ : ∃ X, word g x = X := ⟨_, rfl⟩
  rw [hX] at z2 hM hwl
  obtain ⟨Y, hY⟩ : ∃ X, word g y = X := ⟨_, rfl⟩
  rw [hY] at z5 hM
  obtain ⟨C, hC⟩ : ∃ X, word g [c] = X := ⟨_, rfl⟩
  rw [hC] at z6 hM
  have hbl : (decide (x.length = y.length)) = !((x.length : Int) != (y.length : Int)) := by
    rw [Bool.eq_iff_iff, decide_eq_true_iff, Bool.not_eq_true', bne_eq_false_iff_eq]; omega
  rw [hbl] at hM
  by_cases hle : x.length = y.length
  case neg =>
    have b4 : ((x.length : Int) != (y.length : Int)) = true := by rw [bne_iff_ne]; omega
    rw [b4] at hM
    have hM : mayCond g c x y = false := by rw [hM]; simp
    rw [hM, made_no h0]
    clear hs hf h0 hX hY hC hM hbl hle hwl
    refine calls_x mixed Tryz.func28 b28 n28 rfl q28 (by simp) ?_; unfold c28 r28
    cases X <;> cases Y <;> cases C
    all_goals
      repeat' (first | simp (maxDischargeDepth := 9) -implicitDefEqProofs -dsimp only [go_sem, seval, List.length_map, *] | ((with_reducible refine Zt (fun oF hoF hnF hnF' => ?_)); (try simp only [upd_none, ne_eq, not_and] at hoF)) | ((with_reducible apply ACalls.one1); (focus ((first | with_reducible refine z1 _ | with_reducible refine z2 _ | with_reducible refine z5 _ | with_reducible refine z6 _) <;> (first | (simp (maxDischargeDepth := 9) -implicitDefEqProofs -dsimp only [go_sem, seval, *]; done) | omega))); (focus (first | trivial | with_reducible exact rfl | (simp (maxDischargeDepth := 9) -implicitDefEqProofs -dsimp only [go_sem, seval]; done)))))
      refine fin_eq ?_
      (repeat' (first | simp (maxDischargeDepth := 9) -implicitDefEqProofs -dsimp only [go_sem, seval, zG, encW, List.map_nil, *])) <;> (repeat' refine And.intro ?_ ?_) <;> (first | omega | rfl | assumption | skip)
  have b4 : ((x.length : Int) != (y.length : Int)) = false := by rw [bne_eq_false_iff_eq]; omega
  rw [b4] at hM
  simp only [Bool.not_false, Bool.and_true] at hM
  cases hm : mayCond g c x y with
  | false =>
    rw [made_no h0]
    rw [hm] at hM
    clear hs hf h0 hX hY hC hm hwl hbl hle
    refine calls_x mixed Tryz.func28 b28 n28 rfl q28 (by simp) ?_; unfold c28 r28
    cases X <;> cases Y <;> cases C
    all_goals
      first
      | (exfalso; simp at hM; done)
      | (clear hM
         repeat' (first | simp (maxDischargeDepth := 9) -implicitDefEqProofs -dsimp only [go_sem, seval, List.length_map, *] | ((with_reducible refine Zt (fun oF hoF hnF hnF' => ?_)); (try simp only [upd_none, ne_eq, not_and] at hoF)) | ((with_reducible apply ACalls.one1); (focus ((first | with_reducible refine z1 _ | with_reducible refine z2 _ | with_reducible refine z5 _ | with_reducible refine z6 _) <;> (first | (simp (maxDischargeDepth := 9) -implicitDefEqProofs -dsimp only [go_sem, seval, *]; done) | omega))); (focus (first | trivial | with_reducible exact rfl | (simp (maxDischargeDepth := 9) -implicitDefEqProofs -dsimp only [go_sem, seval]; done)))))
         refine fin_eq ?_
         (repeat' (first | simp (maxDischargeDepth := 9) -implicitDefEqProofs -dsimp only [go_sem, seval, zG, encW, List.map_nil, *])) <;> (repeat' refine And.intro ?_ ?_) <;> (first | omega | rfl | assumption | skip))
  | true =>
    rw [made_yes h0]
    rw [hm] at hM
    replace hM := hM.symm
    simp only [Bool.and_eq_true] at hM
    obtain ⟨⟨rfl, rfl⟩, rfl⟩ := hM
    obtain ⟨⟨l1, l2⟩, l3⟩ := hwl rfl
    have z3 := fun bo τ h => r19_cond bo ⟨g, 0⟩ c x y tx ty τ h hs hc (by omega) (by omega)
    obtain ⟨⟨l, g', e'⟩, hZ⟩ : ∃ Z, (condP c x y).run ⟨g, 0⟩ = Z := ⟨_, rfl⟩
    rw [hZ] at z3 ⊢
    have z4 := fun τ => r19_done g' e' l .no τ
    obtain ⟨⟨t1, t2, t3⟩, hT⟩ : ∃ T, told (l, (⟨g', e'⟩ : Bu)) = T := ⟨_, rfl⟩
    rw [hT] at z4 ⊢
    simp only at z3 z4 ⊢
    clear hs hf h0 hX hY hC hm hwl hZ hT l1 l2 l3 hbl hle
    refine calls_x mixed Tryz.func28 b28 n28 rfl q28 (by simp) ?_; unfold c28 r28
    repeat' (first | simp (maxDischargeDepth := 9) -implicitDefEqProofs -dsimp only [go_sem, seval, List.length_map, *] | ((with_reducible refine Zt (fun oF hoF hnF hnF' => ?_)); (try simp only [upd_none, ne_eq, not_and] at hoF)) | ((with_reducible apply ACalls.one1); (focus ((first | with_reducible refine z1 _ | with_reducible refine z2 _ | with_reducible refine z5 _ | with_reducible refine z6 _ | with_reducible refine z3 _ _ ?_ | with_reducible refine z4 _) <;> (first | (simp (maxDischargeDepth := 9) -implicitDefEqProofs -dsimp only [go_sem, seval, *]; done) | omega))); (focus (first | trivial | with_reducible exact rfl | (simp (maxDischargeDepth := 9) -implicitDefEqProofs -dsimp only [go_sem, seval]; done)))))
    refine fin_eq ?_
    (repeat' (first | simp (maxDischargeDepth := 9) -implicitDefEqProofs -dsimp only [go_sem, seval, encW, *])) <;> (repeat' refine And.intro ?_ ?_) <;> (first | omega | rfl | assumption | skip)
end Go.Proofs.YtbbihmmobfmadaaGreat

namespace Go.Proofs.YtbbihmmobfmadaaGreat
open Abs Fil Fil.Bl A
set_option maxHeartbeats 4000000 in
theorem r19_ext (op : Int) (w : Nat) (a : List Int) (t : Tok) (σ : Sig) (h1 : 1 ≤ a.length) (hl : a.length ≤ 64) (hw : 1 ≤ w ∧ w ≤ 64) (ho : (op = 31 ∨ op = 32) ∧ a.length ≤ w ∨ op = 33 ∧ w ≤ a.length) :
    ACalls Tryz.prog 57 [.int .i64 op, .int .i64 w, encW a t] σ (fun r σ' => r = .ret (encW (extW op w a) .no) ∧ σ' = σ) := by
  rcases ho with ⟨hop, hle⟩ | ⟨h33, hle⟩
  · obtain ⟨m, hm⟩ : ∃ m, (if op = 32 then gt a (a.length - 1) else 0) = m := ⟨_, rfl⟩
    have e : extW op w a = a ++ List.replicate (w - a.length) m := by
      unfold extW
      rw [if_neg (by omega), hm]; simp
    rw [e]
    have hgx : op = 32 → (a.map fun x => AV.int .i64 x)[a.length - 1]? = some (.int .i64 m) := fun h => by
      rw [← hm, if_pos h]; simp [gt, List.getD_eq_getElem?_getD, show a.length - 1 < a.length by omega]
    have hsub1 : (a.length : Int) - 1 = ((a.length - 1 : Nat) : Int) := by omega
    have hlt : a.length - 1 < a.length := by omega
    have hm0 : op = 31 → m = 0 := fun h => by rw [← hm, if_neg (by omega)]
    clear e hm
    rcases hop with rfl | rfl
    · have hm0 := hm0 rfl
      subst hm0
      clear hgx
      refine calls_x mixed Tryz.func57 b57 n57 rfl q57 (by simp) ?_; unfold c57 r57
      repeat' (first | simp (maxDischargeDepth := 9) -implicitDefEqProofs -dsimp only [go_sem, seval, List.length_map, *] | simp (disch := omega) only [wrap64] | ((with_reducible refine Zv ?_ ?_); focus (first | omega | exact rfl)) | ((with_reducible refine Zt (fun oF hoF hnF hnF' => ?_)); (try simp only [upd_none, ne_eq, not_and] at hoF)))
      refine loop_rule (fun k : Nat => [(8, some (encW (a ++ List.replicate k 0) (.own oF))), (1, some (.int .i64 w)), (7, some (.int .i64 0))]) (fun k => upd σ oF (.grow 1 (a.length + k))) (fun k => k ≤ w - a.length) (fun k => w - a.length - k) 0 ?_ ?_
      · (repeat' (first | simp (maxDischargeDepth := 9) -implicitDefEqProofs -dsimp only [go_sem, seval, encW, List.replicate_zero, List.append_nil, Nat.add_zero, List.nil_append, *] | simp (disch := omega) only [wrap64])) <;> (repeat' refine And.intro ?_ ?_) <;> (first | omega | rfl | assumption | skip)
      intro k hk
      by_cases hlk : k < w - a.length
      · have hlk' : ((a.length : Int) + (k : Int)) < (w : Int) := by omega
        have hbd : (a.length + k + 1) * 8 ≤ 35184372088832 := by omega
        repeat' (first | simp (maxDischargeDepth := 9) -implicitDefEqProofs -dsimp only [go_sem, seval, List.length_map, List.length_append, List.length_replicate, Int.natCast_add, *] | simp (disch := omega) only [wrap64] | ((with_reducible refine Zv ?_ ?_); focus (first | omega | exact rfl)) | ((with_reducible refine Zt (fun oF hoF hnF hnF' => ?_)); (try simp only [upd_none, ne_eq, not_and] at hoF)))
        have hadd : a.length + (k + 1) = a.length + k + 1 := rfl
        refine loop_next _ _ _ _ (k + 1) ?_; (repeat' (first | simp (maxDischargeDepth := 9) -implicitDefEqProofs -dsimp only [go_sem, seval,  hadd, encW, List.map_append, List.map_cons, List.map_nil, List.replicate_succ', List.append_assoc, *] | simp (disch := omega) only [wrap64])) <;> (repeat' refine And.intro ?_ ?_) <;> (first | omega | rfl | assumption | skip)
      · have : k = w - a.length := by omega
        subst this
        have hlk' : ¬ ((a.length : Int) + ((w - a.length : Nat) : Int)) < (w : Int) := by omega
        repeat' (first | simp (maxDischargeDepth := 9) -implicitDefEqProofs -dsimp only [go_sem, seval, List.length_map, List.length_append, List.length_replicate, Int.natCast_add, *] | simp (disch := omega) only [wrap64] | ((with_reducible refine Zv ?_ ?_); focus (first | omega | exact rfl)) | ((with_reducible refine Zt (fun oF hoF hnF hnF' => ?_)); (try simp only [upd_none, ne_eq, not_and] at hoF)))
        refine fin_eq ?_
        (repeat' (first | simp (maxDischargeDepth := 9) -implicitDefEqProofs -dsimp only [go_sem, seval, encW, *] | simp (disch := omega) only [wrap64])) <;> (repeat' refine And.intro ?_ ?_) <;> (first | omega | rfl | assumption | skip)
    · have hgx := hgx rfl
      clear hm0
      refine calls_x mixed Tryz.func57 b57 n57 rfl q57 (by simp) ?_; unfold c57 r57
      repeat' (first | simp (maxDischargeDepth := 9) -implicitDefEqProofs -dsimp only [go_sem, seval, List.length_map, *] | simp (disch := omega) only [wrap64] | ((with_reducible refine Zv ?_ ?_); focus (first | omega | exact rfl)) | ((with_reducible refine Zt (fun oF hoF hnF hnF' => ?_)); (try simp only [upd_none, ne_eq, not_and] at hoF)))
      refine loop_rule (fun k : Nat => [(8, some (encW (a ++ List.replicate k m) (.own oF))), (1, some (.int .i64 w)), (7, some (.int .i64 m))]) (fun k => upd σ oF (.grow 1 (a.length + k))) (fun k => k ≤ w - a.length) (fun k => w - a.length - k) 0 ?_ ?_
      · (repeat' (first | simp (maxDischargeDepth := 9) -implicitDefEqProofs -dsimp only [go_sem, seval, encW, List.replicate_zero, List.append_nil, Nat.add_zero, List.nil_append, *] | simp (disch := omega) only [wrap64])) <;> (repeat' refine And.intro ?_ ?_) <;> (first | omega | rfl | assumption | skip)
      clear hgx
      intro k hk
      by_cases hlk : k < w - a.length
      · have hlk' : ((a.length : Int) + (k : Int)) < (w : Int) := by omega
        have hbd : (a.length + k + 1) * 8 ≤ 35184372088832 := by omega
        repeat' (first | simp (maxDischargeDepth := 9) -implicitDefEqProofs -dsimp only [go_sem, seval, List.length_map, List.length_append, List.length_replicate, Int.natCast_add, *] | simp (disch := omega) only [wrap64] | ((with_reducible refine Zv ?_ ?_); focus (first | omega | exact rfl)) | ((with_reducible refine Zt (fun oF hoF hnF hnF' => ?_)); (try simp only [upd_none, ne_eq, not_and] at hoF)))
        have hadd : a.length + (k + 1) = a.length + k + 1 := rfl
        refine loop_next _ _ _ _ (k + 1) ?_; (repeat' (first | simp (maxDischargeDepth := 9) -implicitDefEqProofs -dsimp only [go_sem, seval,  hadd, encW, List.map_append, List.map_cons, List.map_nil, List.replicate_succ', List.append_assoc, *] | simp (disch := omega) only [wrap64])) <;> (repeat' refine And.intro ?_ ?_) <;> (first | omega | rfl | assumption | skip)
      · have : k = w - a.length := by omega
        subst this
        have hlk' : ¬ ((a.length : Int) + ((w - a.length : Nat) : Int)) < (w : Int) := by omega
        repeat' (first | simp (maxDischargeDepth := 9) -implicitDefEqProofs -dsimp only [go_sem, seval, List.length_map, List.length_append, List.length_replicate, Int.natCast_add, *] | simp (disch := omega) only [wrap64] | ((with_reducible refine Zv ?_ ?_); focus (first | omega | exact rfl)) | ((with_reducible refine Zt (fun oF hoF hnF hnF' => ?_)); (try simp only [upd_none, ne_eq, not_and] at hoF)))
        refine fin_eq ?_
        (repeat' (first | simp (maxDischargeDepth := 9) -implicitDefEqProofs -dsimp only [go_sem, seval, encW, *] | simp (disch := omega) only [wrap64])) <;> (repeat' refine And.intro ?_ ?_) <;> (first | omega | rfl | assumption | skip)
  · subst h33
    have e : extW 33 w a = a.take w := by unfold extW; rw [if_pos rfl]; simp
    rw [e]
    obtain ⟨x, l, hxl⟩ : ∃ x l, a.take w = x :: l := by
      cases h : a.take w with
      | nil => have := congrArg List.length h; rw [List.length_take, List.length_nil] at this; omega
      | cons x l => exact ⟨x, l, rfl⟩
    have hll : (x :: l).length ≤ 64 := by rw [← hxl, List.length_take]; omega
    have htk : List.take w (a.map fun x => AV.int .i64 x) = (AV.int .i64 x) :: l.map fun x => AV.int .i64 x := by rw [← List.map_take, hxl, List.map_cons]
    rw [hxl]
    have hll' : l.length ≤ 63 := by simpa using hll
    clear e hxl hll
    refine calls_x mixed Tryz.func57 b57 n57 rfl q57 (by simp) ?_; unfold c57 r57
    repeat' (first | simp (maxDischargeDepth := 9) -implicitDefEqProofs -dsimp only [go_sem, seval, List.length_map, List.length_cons, *] | simp (disch := omega) only [wrap64] | ((with_reducible refine Zv ?_ ?_); focus (first | omega | exact rfl)) | ((with_reducible refine Zt (fun oF hoF hnF hnF' => ?_)); (try simp only [upd_none, ne_eq, not_and] at hoF)))
    all_goals first | (exfalso; simp at hq; done) | skip
    refine fin_eq ?_
    (repeat' (first | simp (maxDischargeDepth := 9) -implicitDefEqProofs -dsimp only [go_sem, seval, encW, List.map_cons, List.nil_append, *] | simp (disch := omega) only [wrap64])) <;> (repeat' refine And.intro ?_ ?_) <;> (first | omega | rfl | assumption | skip)
set_option maxRecDepth 20000 in
set_option maxHeartbeats 8000000 in
theorem r19_Ext (g : Aig) (op w : Int) (x : List Int) (t : Tok) (σ : Sig) (hs : Wf g) (hxl : x.length ≤ 1000000) :
    ACalls Tryz.prog 22 [encAig g, .int .i64 op, .int .i64 w, encW x t] σ (fun r σ' => r = .ret (.tup [encAig (Bl.Ext g op w x).1, encW (Bl.Ext g op w x).2.1 .no, .int .i64 (Bl.Ext g op w x).2.2]) ∧ σ' = σ) := by
  have z1 := fun τ => ref_Check g τ hs
  unfold Bl.Ext
  by_cases h0 : g.check = 0
  case neg =>
    rw [made_check h0]
    have h0' : (g.check != 0) = true := by simpa using h0
    obtain ⟨c, hc⟩ : ∃ c, g.check = c := ⟨_, rfl⟩
    rw [hc] at z1 h0' ⊢
    clear h0 hs hc
    refine calls_x mixed Tryz.func22 b22 n22 rfl q22 (by simp) ?_; unfold c22 r22
    repeat' (first | simp (maxDischargeDepth := 9) -implicitDefEqProofs -dsimp only [go_sem, seval, *] | ((with_reducible refine Zt (fun oF hoF hnF hnF' => ?_)); (try simp only [upd_none, ne_eq, not_and] at hoF)) | ((with_reducible apply ACalls.one1); (focus ((first | with_reducible refine z1 _) <;> (first | (simp (maxDischargeDepth := 9) -implicitDefEqProofs -dsimp only [go_sem, seval, *]; done) | omega))); (focus (first | trivial | with_reducible exact rfl | (simp (maxDischargeDepth := 9) -implicitDefEqProofs -dsimp only [go_sem, seval]; done)))))
    refine fin_eq ?_
    (repeat' (first | simp (maxDischargeDepth := 9) -implicitDefEqProofs -dsimp only [go_sem, seval, zG, encW, List.map_nil, *])) <;> (repeat' refine And.intro ?_ ?_) <;> (first | omega | rfl | assumption | skip)
  have hf := check_fine hs h0
  have z2 := fun τ => r19_WordG g x t τ hf hxl
  have hM : mayExt g op w x = (word g x && decide (1 ≤ w ∧ w ≤ 64 ∧ 31 ≤ op ∧ op ≤ 33 ∧ (w = x.length ∨ (w < x.length ↔ op = 33)))) := rfl
  have hwl := fun h => word_Lw (a := x) hf h
  rw [h0] at z1
  obtain ⟨X, hX⟩ : ∃ X, word g x = X := ⟨_, rfl⟩
  rw [hX] at z2 hM hwl
  have hN : mayExt g op w x = (X && decide (1 ≤ w ∧ w ≤ 64 ∧ ((31 ≤ op ∧ op ≤ 32 ∧ x.length ≤ w) ∨ (op = 33 ∧ w ≤ x.length)))) := by
    have key : (w = (x.length : Int) ∨ (w < (x.length : Int) ↔ op = 33)) ↔ ((op = 33 ∧ w ≤ (x.length : Int)) ∨ (op ≠ 33 ∧ (x.length : Int) ≤ w)) := by
      by_cases h33 : op = 33
      · simp only [h33, iff_true, true_and, ne_eq, not_true_eq_false, false_and, or_false]; omega
      · simp only [h33, iff_false, false_and, ne_eq, not_false_eq_true, true_and, false_or]; omega
    rw [hM]; congr 1
    rw [Bool.eq_iff_iff, decide_eq_true_iff, decide_eq_true_iff, key]
    omega
  clear hM
  obtain ⟨M, hMM⟩ : ∃ M, mayExt g op w x = M := ⟨_, rfl⟩
  rw [hMM] at hN ⊢
  cases M with
  | false =>
    rw [made_no h0]
    clear hs hf h0 hX hMM hwl
    refine calls_x mixed Tryz.func22 b22 n22 rfl q22 (by simp) ?_; unfold c22 r22
    cases X with
    | false =>
      clear hN
      repeat' (first | simp (maxDischargeDepth := 9) -implicitDefEqProofs -dsimp only [go_sem, seval, *] | ((with_reducible refine Zt (fun oF hoF hnF hnF' => ?_)); (try simp only [upd_none, ne_eq, not_and] at hoF)) | ((with_reducible apply ACalls.one1); (focus ((first | with_reducible refine z1 _ | with_reducible refine z2 _) <;> (first | (simp (maxDischargeDepth := 9) -implicitDefEqProofs -dsimp only [go_sem, seval, *]; done) | omega))); (focus (first | trivial | with_reducible exact rfl | (simp (maxDischargeDepth := 9) -implicitDefEqProofs -dsimp only [go_sem, seval]; done)))))
      all_goals
        refine fin_eq ?_
        (repeat' (first | simp (maxDischargeDepth := 9) -implicitDefEqProofs -dsimp only [go_sem, seval, zG, encW, List.map_nil, *])) <;> (repeat' refine And.intro ?_ ?_) <;> (first | omega | rfl | assumption | skip)
    | true =>
      simp only [Bool.true_and] at hN
      replace hN := of_decide_eq_false hN.symm
      have hc : w < 1 ∨ (¬ w < 1 ∧ 64 < w) ∨ ((¬ w < 1 ∧ ¬ 64 < w) ∧ op < 31) ∨ (((¬ w < 1 ∧ ¬ 64 < w) ∧ ¬ op < 31) ∧ 33 < op) ∨ ((((¬ w < 1 ∧ ¬ 64 < w) ∧ ¬ op < 31) ∧ ¬ 33 < op) ∧ (op == 33) = true ∧ (op != 33) = false ∧ (x.length : Int) < w) ∨ ((((¬ w < 1 ∧ ¬ 64 < w) ∧ ¬ op < 31) ∧ ¬ 33 < op) ∧ (op == 33) = false ∧ (op != 33) = true ∧ w < (x.length : Int)) := by
        simp only [beq_iff_eq, beq_eq_false_iff_ne, bne_iff_ne, bne_eq_false_iff_eq, ne_eq]
        omega
      clear hN
      rcases hc with p1 | ⟨p1, p2⟩ | ⟨⟨p1, p2⟩, p3⟩ | ⟨⟨⟨p1, p2⟩, p3⟩, p4⟩ | ⟨⟨⟨⟨p1, p2⟩, p3⟩, p4⟩, p5, p6, p7⟩ | ⟨⟨⟨⟨p1, p2⟩, p3⟩, p4⟩, p5, p6, p7⟩
      all_goals
        repeat' (first | simp (maxDischargeDepth := 9) -implicitDefEqProofs -dsimp only [go_sem, seval, gt_iff_lt, List.length_map, *] | ((with_reducible refine Zt (fun oF hoF hnF hnF' => ?_)); (try simp only [upd_none, ne_eq, not_and] at hoF)) | ((with_reducible apply ACalls.one1); (focus ((first | with_reducible refine z1 _ | with_reducible refine z2 _) <;> (first | (simp (maxDischargeDepth := 9) -implicitDefEqProofs -dsimp only [go_sem, seval, *]; done) | omega))); (focus (first | trivial | with_reducible exact rfl | (simp (maxDischargeDepth := 9) -implicitDefEqProofs -dsimp only [go_sem, seval]; done)))))
        all_goals
          refine fin_eq ?_
          (repeat' (first | simp (maxDischargeDepth := 9) -implicitDefEqProofs -dsimp only [go_sem, seval, zG, encW, List.map_nil, *])) <;> (repeat' refine And.intro ?_ ?_) <;> (first | omega | rfl | assumption | skip)
  | true =>
    rw [made_yes h0]
    replace hN := hN.symm
    simp only [Bool.and_eq_true, decide_eq_true_eq] at hN
    obtain ⟨rfl, p1, p2, p3⟩ := hN
    obtain ⟨⟨l1, l2⟩, l3⟩ := hwl rfl
    obtain ⟨n, rfl⟩ : ∃ n : Nat, w = n := ⟨w.toNat, by omega⟩
    have z3 := fun τ => r19_ext op n x t τ l1 l2 (by omega) (by omega)
    rw [show told ((Pg.ret (extW op n x)).run ⟨g, 0⟩) = (g, extW op n x, 0) by unfold told Pg.run; rw [if_neg (by simp)]]
    obtain ⟨l, hl⟩ : ∃ l, extW op n x = l := ⟨_, rfl⟩
    rw [hl] at z3 ⊢
    have q1 : ¬ (n : Int) < 1 := by omega
    have q2 : ¬ (64 : Int) < (n : Int) := by omega
    have q3 : ¬ op < 31 := by omega
    have q4 : ¬ 33 < op := by omega
    have hc : ((op == 33) = true ∧ (op != 33) = false ∧ ¬ (x.length : Int) < n) ∨ ((op == 33) = false ∧ (op != 33) = true ∧ ¬ (n : Int) < (x.length : Int)) := by
      simp only [beq_iff_eq, beq_eq_false_iff_ne, bne_iff_ne, bne_eq_false_iff_eq, ne_eq]
      omega
    clear hs hf h0 hX hMM hwl l1 l2 l3 p1 p2 p3 hl
    refine calls_x mixed Tryz.func22 b22 n22 rfl q22 (by simp) ?_; unfold c22 r22
    rcases hc with ⟨c1, c2, c3⟩ | ⟨c1, c2, c3⟩
    all_goals
      repeat' (first | simp (maxDischargeDepth := 9) -implicitDefEqProofs -dsimp only [go_sem, seval, gt_iff_lt, List.length_map, *] | ((with_reducible refine Zt (fun oF hoF hnF hnF' => ?_)); (try simp only [upd_none, ne_eq, not_and] at hoF)) | ((with_reducible apply ACalls.one1); (focus ((first | with_reducible refine z1 _ | with_reducible refine z2 _ | with_reducible refine z3 _) <;> (first | (simp (maxDischargeDepth := 9) -implicitDefEqProofs -dsimp only [go_sem, seval, *]; done) | omega))); (focus (first | trivial | with_reducible exact rfl | (simp (maxDischargeDepth := 9) -implicitDefEqProofs -dsimp only [go_sem, seval]; done)))) | ((with_reducible apply id_one0); (focus (intro tS hS; ((first | with_reducible refine z1 _ | with_reducible refine z2 _ | with_reducible refine z3 _) <;> (first | (simp (maxDischargeDepth := 9) -implicitDefEqProofs -dsimp only [go_sem, seval, *]; done) | omega | ((with_reducible refine Sub.get hS ?_); simp (maxDischargeDepth := 9) -implicitDefEqProofs -dsimp only [go_sem, seval, *]; done))))); (focus (first | trivial | (simp (maxDischargeDepth := 9) -implicitDefEqProofs -dsimp only [go_sem, seval, *]; done)))))
      refine fin_eq ?_
      (repeat' (first | simp (maxDischargeDepth := 9) -implicitDefEqProofs -dsimp only [go_sem, seval, encW, *])) <;> (repeat' refine And.intro ?_ ?_) <;> (first | omega | rfl | assumption | skip)
set_option maxHeartbeats 4000000 in
theorem r19_Num (w : Int) (v : Nat) (hv : v < 18446744073709551616) (σ : Sig) :
    ACalls Tryz.prog 24 [.int .i64 w, .int .u64 v] σ (fun r σ' => r = .ret (.tup [encW (if bitsN w v then numW w v else []) .no, .int .i64 (if bitsN w v then 0 else 1)]) ∧ σ' = σ) := by
  have z1 := fun τ => rf_Check01 w v τ
  have hb : bitsN w v = decide (1 ≤ w ∧ w ≤ 64 ∧ v ≤ maskN w) := rfl
  obtain ⟨B, hB⟩ : ∃ B, bitsN w v = B := ⟨_, rfl⟩
  rw [hB] at z1 hb ⊢
  clear hB
  cases B with
  | false =>
    rw [show (if (false : Bool) = true then (0 : Int) else 1) = 1 from rfl] at z1
    rw [if_neg (by simp), if_neg (by simp)]
    refine calls_x mixed Tryz.func24 b24 n24 rfl q24 (by simp) ?_; unfold c24 r24
    repeat' (first | simp (maxDischargeDepth := 9) -implicitDefEqProofs -dsimp only [go_sem, seval, *] | simp (disch := omega) only [wrap64] | ((with_reducible refine Zt (fun oF hoF hnF hnF' => ?_)); (try simp only [upd_none, ne_eq, not_and] at hoF)) | ((with_reducible apply ACalls.one1); (focus ((first | with_reducible refine z1 _) <;> (first | (simp (maxDischargeDepth := 9) -implicitDefEqProofs -dsimp only [go_sem, seval, *]; done) | omega))); (focus (first | trivial | with_reducible exact rfl | (simp (maxDischargeDepth := 9) -implicitDefEqProofs -dsimp only [go_sem, seval]; done)))))
    refine fin_eq ?_
    (repeat' (first | simp (maxDischargeDepth := 9) -implicitDefEqProofs -dsimp only [go_sem, seval, encW, List.map_nil, *] | simp (disch := omega) only [wrap64])) <;> (repeat' refine And.intro ?_ ?_) <;> (first | omega | rfl | assumption | skip)
  | true =>
    rw [show (if (true : Bool) = true then (0 : Int) else 1) = 0 from rfl] at z1
    rw [if_pos rfl, if_pos rfl]
    have hb' := of_decide_eq_true hb.symm
    obtain ⟨n, rfl⟩ : ∃ n : Nat, w = n := ⟨w.toNat, by omega⟩
    have hn : n ≤ 64 := by omega
    clear hb
    refine calls_x mixed Tryz.func24 b24 n24 rfl q24 (by simp) ?_; unfold c24 r24
    repeat' (first | simp (maxDischargeDepth := 9) -implicitDefEqProofs -dsimp only [go_sem, seval, *] | simp (disch := omega) only [wrap64] | ((with_reducible refine Zt (fun oF hoF hnF hnF' => ?_)); (try simp only [upd_none, ne_eq, not_and] at hoF)) | ((with_reducible apply ACalls.one1); (focus ((first | with_reducible refine z1 _) <;> (first | (simp (maxDischargeDepth := 9) -implicitDefEqProofs -dsimp only [go_sem, seval, *]; done) | omega))); (focus (first | trivial | with_reducible exact rfl | (simp (maxDischargeDepth := 9) -implicitDefEqProofs -dsimp only [go_sem, seval]; done)))))
    refine loop_rule (fun i : Nat => [(7, some (.int .i64 i)), (0, some (.int .i64 n)), (6, some (encW ((List.range i).map fun i => (v : Int) / 2 ^ i % 2) (.own oF))), (1, some (.int .u64 v))]) (fun i => upd σ oF (.grow 1 i)) (fun i => i ≤ n) (fun i => n - i) 0 ?_ ?_
    · (repeat' (first | simp (maxDischargeDepth := 9) -implicitDefEqProofs -dsimp only [go_sem, seval, encW, List.range_zero, List.map_nil, *] | simp (disch := omega) only [wrap64])) <;> (repeat' refine And.intro ?_ ?_) <;> (first | omega | rfl | assumption | skip)
    intro i hi
    by_cases hlt : i < n
    · have hmn : Nat.min i 64 = i := Nat.min_eq_left (by omega)
      have hfd := fdivU v i
      have hdv : v / 2 ^ i ≤ v := Nat.div_le_self _ _
      have hor := and1U (v / 2 ^ i) (by omega)
      have hr : (List.range (i + 1)).map (fun i => (v : Int) / 2 ^ i % 2) = (List.range i).map (fun i => (v : Int) / 2 ^ i % 2) ++ [((v / 2 ^ i % 2 : Nat) : Int)] := by
        rw [List.range_succ, List.map_append]
        simp
      have hlt2 : v / 2 ^ i % 2 < 2 := Nat.mod_lt _ (by omega)
      have hm2 : (v : Int) / 2 ^ i % 2 = ((v / 2 ^ i % 2 : Nat) : Int) := by simp
      obtain ⟨D, hD⟩ : ∃ D, v / 2 ^ i = D := ⟨_, rfl⟩
      rw [hD] at hfd hor hr hlt2 hm2
      obtain ⟨M, hM⟩ : ∃ M, D % 2 = M := ⟨_, rfl⟩
      rw [hM] at hor hr hlt2 hm2
      have hcv : IntKind.i64.wrap (M : Int) = (M : Int) := wrap64 _ (by omega) (by omega)
      have hbd : (i + 1) * 8 ≤ 35184372088832 := by omega
      have hni : ¬ (i : Int) < 0 := by omega
      clear hD hM hdv
      repeat' (first | simp (maxDischargeDepth := 9) -implicitDefEqProofs -dsimp only [go_sem, seval, List.length_map, List.length_range, *] | simp (disch := omega) only [wrap64] | ((with_reducible refine Zt (fun oF hoF hnF hnF' => ?_)); (try simp only [upd_none, ne_eq, not_and] at hoF)))
      refine loop_next _ _ _ _ (i + 1) ?_; (repeat' (first | simp (maxDischargeDepth := 9) -implicitDefEqProofs -dsimp only [go_sem, seval,  encW, hr, List.map_append, List.map_cons, List.map_nil, *] | simp (disch := omega) only [wrap64])) <;> (repeat' refine And.intro ?_ ?_) <;> (first | omega | rfl | assumption | skip)
    · have : i = n := by omega
      subst this
      repeat' (first | simp (maxDischargeDepth := 9) -implicitDefEqProofs -dsimp only [go_sem, seval, *] | simp (disch := omega) only [wrap64] | ((with_reducible refine Zt (fun oF hoF hnF hnF' => ?_)); (try simp only [upd_none, ne_eq, not_and] at hoF)))
      refine fin_eq ?_
      (repeat' (first | simp (maxDischargeDepth := 9) -implicitDefEqProofs -dsimp only [go_sem, seval, encW, numW, Int.toNat_natCast, *] | simp (disch := omega) only [wrap64])) <;> (repeat' refine And.intro ?_ ?_) <;> (first | omega | rfl | assumption | skip)
end Go.Proofs.YtbbihmmobfmadaaGreat

namespace Go.Proofs.YtbbihmmobfmadaaGreat
open Abs Fil Fil.Bl A
structure Two (op : Int) (x y : List Int) : Prop where
  x1 : 1 ≤ x.length
  y1 : 1 ≤ y.length
  xl : x.length ≤ 1000000
  yl : y.length ≤ 1000000
  hx : ∀ z ∈ x, I64 z
  hy : ∀ z ∈ y, I64 z
  ho : 11 ≤ op ∧ op ≤ 26
  len : op = 17 ∨ op = 18 ∨ x.length = y.length
abbrev BinC (bo : Nat) (b : Bu) (op : Int) (x y : List Int) (tx ty : Tok) (σ : Sig) : Prop :=
  ACalls Tryz.prog 62 [.ptr bo 0, .int .i64 op, encW x tx, encW y ty] σ (fun r σ' => r = .ret (encW ((binP op x y).run b).1 .no) ∧ σ' = upd σ bo (buC ((binP op x y).run b).2))
theorem bin_11 (bo : Nat) (b : Bu) (x y : List Int) (tx ty : Tok) (σ : Sig) (h : σ bo = some (buC b)) (hs : Wf b.g) (ht : Two 11 x y) : BinC bo b 11 x y tx ty σ := by
  have hl : x.length = y.length := by rcases ht.len with h | h | h <;> first | exact h | exact absurd h (by decide)
  have e : (binP 11 x y).run b = (zipP andP x y x.length).run b := rfl
  unfold BinC
  rw [e]
  have c1 := fun τ h => zip_and bo b x y tx ty τ h hs ht.hx ht.hy (by omega) ht.xl
  obtain ⟨Z, hZ⟩ : ∃ Z, (zipP andP x y x.length).run b = Z := ⟨_, rfl⟩
  rw [hZ] at c1 ⊢
  clear hs ht hl e hZ
  refine calls_x mixed Tryz.func62 b62 n62 rfl q62 (by simp) ?_; unfold c62 r62
  repeat' (first | simp (maxDischargeDepth := 9) -implicitDefEqProofs -dsimp only [go_sem, seval, *] | ((with_reducible apply ACalls.one1); (focus ((first | with_reducible refine c1 _ ?_) <;> (first | (simp (maxDischargeDepth := 9) -implicitDefEqProofs -dsimp only [go_sem, seval, *]; done) | omega))); (focus (first | trivial | with_reducible exact rfl | (simp (maxDischargeDepth := 9) -implicitDefEqProofs -dsimp only [go_sem, seval]; done)))))
  refine fin_eq ?_
  (repeat' (first | simp (maxDischargeDepth := 9) -implicitDefEqProofs -dsimp only [go_sem, seval, encW, *])) <;> (repeat' refine And.intro ?_ ?_) <;> (first | omega | rfl | assumption | skip)
theorem bin_25 (bo : Nat) (b : Bu) (x y : List Int) (tx ty : Tok) (σ : Sig) (h : σ bo = some (buC b)) (hs : Wf b.g) (ht : Two 25 x y) : BinC bo b 25 x y tx ty σ := by
  have hl : x.length = y.length := by rcases ht.len with h | h | h <;> first | exact h | exact absurd h (by decide)
  have e : (binP 25 x y).run b = (zipP andP x y x.length).run b := rfl
  unfold BinC
  rw [e]
  have c1 := fun τ h => zip_and bo b x y tx ty τ h hs ht.hx ht.hy (by omega) ht.xl
  obtain ⟨Z, hZ⟩ : ∃ Z, (zipP andP x y x.length).run b = Z := ⟨_, rfl⟩
  rw [hZ] at c1 ⊢
  clear hs ht hl e hZ
  refine calls_x mixed Tryz.func62 b62 n62 rfl q62 (by simp) ?_; unfold c62 r62
  repeat' (first | simp (maxDischargeDepth := 9) -implicitDefEqProofs -dsimp only [go_sem, seval, *] | ((with_reducible apply ACalls.one1); (focus ((first | with_reducible refine c1 _ ?_) <;> (first | (simp (maxDischargeDepth := 9) -implicitDefEqProofs -dsimp only [go_sem, seval, *]; done) | omega))); (focus (first | trivial | with_reducible exact rfl | (simp (maxDischargeDepth := 9) -implicitDefEqProofs -dsimp only [go_sem, seval]; done)))))
  refine fin_eq ?_
  (repeat' (first | simp (maxDischargeDepth := 9) -implicitDefEqProofs -dsimp only [go_sem, seval, encW, *])) <;> (repeat' refine And.intro ?_ ?_) <;> (first | omega | rfl | assumption | skip)
theorem bin_12 (bo : Nat) (b : Bu) (x y : List Int) (tx ty : Tok) (σ : Sig) (h : σ bo = some (buC b)) (hs : Wf b.g) (ht : Two 12 x y) : BinC bo b 12 x y tx ty σ := by
  have hl : x.length = y.length := by rcases ht.len with h | h | h <;> first | exact h | exact absurd h (by decide)
  have e : (binP 12 x y).run b = (zipP orP x y x.length).run b := rfl
  unfold BinC
  rw [e]
  have c1 := fun τ h => zip_or bo b x y tx ty τ h hs ht.hx ht.hy (by omega) ht.xl
  obtain ⟨Z, hZ⟩ : ∃ Z, (zipP orP x y x.length).run b = Z := ⟨_, rfl⟩
  rw [hZ] at c1 ⊢
  clear hs ht hl e hZ
  refine calls_x mixed Tryz.func62 b62 n62 rfl q62 (by simp) ?_; unfold c62 r62
  repeat' (first | simp (maxDischargeDepth := 9) -implicitDefEqProofs -dsimp only [go_sem, seval, *] | ((with_reducible apply ACalls.one1); (focus ((first | with_reducible refine c1 _ ?_) <;> (first | (simp (maxDischargeDepth := 9) -implicitDefEqProofs -dsimp only [go_sem, seval, *]; done) | omega))); (focus (first | trivial | with_reducible exact rfl | (simp (maxDischargeDepth := 9) -implicitDefEqProofs -dsimp only [go_sem, seval]; done)))))
  refine fin_eq ?_
  (repeat' (first | simp (maxDischargeDepth := 9) -implicitDefEqProofs -dsimp only [go_sem, seval, encW, *])) <;> (repeat' refine And.intro ?_ ?_) <;> (first | omega | rfl | assumption | skip)
theorem bin_26 (bo : Nat) (b : Bu) (x y : List Int) (tx ty : Tok) (σ : Sig) (h : σ bo = some (buC b)) (hs : Wf b.g) (ht : Two 26 x y) : BinC bo b 26 x y tx ty σ := by
  have hl : x.length = y.length := by rcases ht.len with h | h | h <;> first | exact h | exact absurd h (by decide)
  have e : (binP 26 x y).run b = (zipP orP x y x.length).run b := rfl
  unfold BinC
  rw [e]
  have c1 := fun τ h => zip_or bo b x y tx ty τ h hs ht.hx ht.hy (by omega) ht.xl
  obtain ⟨Z, hZ⟩ : ∃ Z, (zipP orP x y x.length).run b = Z := ⟨_, rfl⟩
  rw [hZ] at c1 ⊢
  clear hs ht hl e hZ
  refine calls_x mixed Tryz.func62 b62 n62 rfl q62 (by simp) ?_; unfold c62 r62
  repeat' (first | simp (maxDischargeDepth := 9) -implicitDefEqProofs -dsimp only [go_sem, seval, *] | ((with_reducible apply ACalls.one1); (focus ((first | with_reducible refine c1 _ ?_) <;> (first | (simp (maxDischargeDepth := 9) -implicitDefEqProofs -dsimp only [go_sem, seval, *]; done) | omega))); (focus (first | trivial | with_reducible exact rfl | (simp (maxDischargeDepth := 9) -implicitDefEqProofs -dsimp only [go_sem, seval]; done)))))
  refine fin_eq ?_
  (repeat' (first | simp (maxDischargeDepth := 9) -implicitDefEqProofs -dsimp only [go_sem, seval, encW, *])) <;> (repeat' refine And.intro ?_ ?_) <;> (first | omega | rfl | assumption | skip)
theorem bin_13 (bo : Nat) (b : Bu) (x y : List Int) (tx ty : Tok) (σ : Sig) (h : σ bo = some (buC b)) (hs : Wf b.g) (ht : Two 13 x y) : BinC bo b 13 x y tx ty σ := by
  have hl : x.length = y.length := by rcases ht.len with h | h | h <;> first | exact h | exact absurd h (by decide)
  have e : (binP 13 x y).run b = (zipP xorP x y x.length).run b := rfl
  unfold BinC
  rw [e]
  have c1 := fun τ h => zip_xor bo b x y tx ty τ h hs ht.hx ht.hy (by omega) ht.xl
  obtain ⟨Z, hZ⟩ : ∃ Z, (zipP xorP x y x.length).run b = Z := ⟨_, rfl⟩
  rw [hZ] at c1 ⊢
  clear hs ht hl e hZ
  refine calls_x mixed Tryz.func62 b62 n62 rfl q62 (by simp) ?_; unfold c62 r62
  repeat' (first | simp (maxDischargeDepth := 9) -implicitDefEqProofs -dsimp only [go_sem, seval, *] | ((with_reducible apply ACalls.one1); (focus ((first | with_reducible refine c1 _ ?_) <;> (first | (simp (maxDischargeDepth := 9) -implicitDefEqProofs -dsimp only [go_sem, seval, *]; done) | omega))); (focus (first | trivial | with_reducible exact rfl | (simp (maxDischargeDepth := 9) -implicitDefEqProofs -dsimp only [go_sem, seval]; done)))))
  refine fin_eq ?_
  (repeat' (first | simp (maxDischargeDepth := 9) -implicitDefEqProofs -dsimp only [go_sem, seval, encW, *])) <;> (repeat' refine And.intro ?_ ?_) <;> (first | omega | rfl | assumption | skip)
theorem bin_14 (bo : Nat) (b : Bu) (x y : List Int) (tx ty : Tok) (σ : Sig) (h : σ bo = some (buC b)) (hs : Wf b.g) (ht : Two 14 x y) : BinC bo b 14 x y tx ty σ := by
  have hl : x.length = y.length := by rcases ht.len with h | h | h <;> first | exact h | exact absurd h (by decide)
  have e : (binP 14 x y).run b = (((sumW x y 0).run b).1.1, ((sumW x y 0).run b).2) := by
    show ((sumW x y 0).bind fun r => .ret r.1).run b = _
    rw [run_bind]; rfl
  unfold BinC
  rw [e]
  have c1 := fun τ h => bu_sum bo b x y tx ty 0 τ h hs ht.hx ht.hy ⟨by decide, by decide⟩ (by omega) ht.xl
  obtain ⟨Z, hZ⟩ : ∃ Z, (sumW x y 0).run b = Z := ⟨_, rfl⟩
  rw [hZ] at c1 ⊢
  clear hs ht hl e hZ
  refine calls_x mixed Tryz.func62 b62 n62 rfl q62 (by simp) ?_; unfold c62 r62
  repeat' (first | simp (maxDischargeDepth := 9) -implicitDefEqProofs -dsimp only [go_sem, seval, *] | ((with_reducible apply ACalls.one1); (focus ((first | with_reducible refine c1 _ ?_) <;> (first | (simp (maxDischargeDepth := 9) -implicitDefEqProofs -dsimp only [go_sem, seval, *]; done) | omega))); (focus (first | trivial | with_reducible exact rfl | (simp (maxDischargeDepth := 9) -implicitDefEqProofs -dsimp only [go_sem, seval]; done)))))
  refine fin_eq ?_
  (repeat' (first | simp (maxDischargeDepth := 9) -implicitDefEqProofs -dsimp only [go_sem, seval, encW, *])) <;> (repeat' refine And.intro ?_ ?_) <;> (first | omega | rfl | assumption | skip)
theorem bin_15 (bo : Nat) (b : Bu) (x y : List Int) (tx ty : Tok) (σ : Sig) (h : σ bo = some (buC b)) (hs : Wf b.g) (ht : Two 15 x y) : BinC bo b 15 x y tx ty σ := by
  have hl : x.length = y.length := by rcases ht.len with h | h | h <;> first | exact h | exact absurd h (by decide)
  have e : (binP 15 x y).run b = (((sumW x (notW y) 1).run b).1.1, ((sumW x (notW y) 1).run b).2) := by
    show ((sumW x (notW y) 1).bind fun r => .ret r.1).run b = _
    rw [run_bind]; rfl
  unfold BinC
  rw [e]
  have hnl : (notW y).length = y.length := by simp [notW]
  have c0 := fun τ => bl_not y ty τ ht.yl ht.hy
  have c1 := fun τ h => bu_sum bo b x (notW y) tx .no 1 τ h hs ht.hx (i64_not ht.hy) ⟨by decide, by decide⟩ (by omega) ht.xl
  obtain ⟨Z, hZ⟩ : ∃ Z, (sumW x (notW y) 1).run b = Z := ⟨_, rfl⟩
  rw [hZ] at c1 ⊢
  clear hs ht hl e hZ hnl
  refine calls_x mixed Tryz.func62 b62 n62 rfl q62 (by simp) ?_; unfold c62 r62
  repeat' (first | simp (maxDischargeDepth := 9) -implicitDefEqProofs -dsimp only [go_sem, seval, *] | ((with_reducible apply ACalls.one1); (focus ((first | with_reducible refine c0 _ | with_reducible refine c1 _ ?_) <;> (first | (simp (maxDischargeDepth := 9) -implicitDefEqProofs -dsimp only [go_sem, seval, *]; done) | omega))); (focus (first | trivial | with_reducible exact rfl | (simp (maxDischargeDepth := 9) -implicitDefEqProofs -dsimp only [go_sem, seval]; done)))))
  refine fin_eq ?_
  (repeat' (first | simp (maxDischargeDepth := 9) -implicitDefEqProofs -dsimp only [go_sem, seval, encW, *])) <;> (repeat' refine And.intro ?_ ?_) <;> (first | omega | rfl | assumption | skip)
theorem bin_16 (bo : Nat) (b : Bu) (x y : List Int) (tx ty : Tok) (σ : Sig) (h : σ bo = some (buC b)) (hs : Wf b.g) (ht : Two 16 x y) : BinC bo b 16 x y tx ty σ := by
  have hl : x.length = y.length := by rcases ht.len with h | h | h <;> first | exact h | exact absurd h (by decide)
  have e : (binP 16 x y).run b = MulAt x y b y.length := rfl
  unfold BinC
  rw [e]
  have c1 := fun τ h => bu_mul bo b x y tx ty τ h hs ht.hx ht.hy (by omega) ht.x1 ht.xl
  obtain ⟨Z, hZ⟩ : ∃ Z, MulAt x y b y.length = Z := ⟨_, rfl⟩
  rw [hZ] at c1 ⊢
  clear hs ht hl e hZ
  refine calls_x mixed Tryz.func62 b62 n62 rfl q62 (by simp) ?_; unfold c62 r62
  repeat' (first | simp (maxDischargeDepth := 9) -implicitDefEqProofs -dsimp only [go_sem, seval, *] | ((with_reducible apply ACalls.one1); (focus ((first | with_reducible refine c1 _ ?_) <;> (first | (simp (maxDischargeDepth := 9) -implicitDefEqProofs -dsimp only [go_sem, seval, *]; done) | omega))); (focus (first | trivial | with_reducible exact rfl | (simp (maxDischargeDepth := 9) -implicitDefEqProofs -dsimp only [go_sem, seval]; done)))))
  refine fin_eq ?_
  (repeat' (first | simp (maxDischargeDepth := 9) -implicitDefEqProofs -dsimp only [go_sem, seval, encW, *])) <;> (repeat' refine And.intro ?_ ?_) <;> (first | omega | rfl | assumption | skip)
theorem bin_17 (bo : Nat) (b : Bu) (x y : List Int) (tx ty : Tok) (σ : Sig) (h : σ bo = some (buC b)) (hs : Wf b.g) (ht : Two 17 x y) : BinC bo b 17 x y tx ty σ := by
  have e : (binP 17 x y).run b = ShAt x y true b y.length := rfl
  unfold BinC
  rw [e]
  have c1 := fun τ h => bu_shift bo b x y tx ty true τ h hs ht.hx ht.hy ht.x1 ht.xl ht.yl
  simp only [if_true, if_false, Bool.false_eq_true] at c1
  obtain ⟨Z, hZ⟩ : ∃ Z, ShAt x y true b y.length = Z := ⟨_, rfl⟩
  rw [hZ] at c1 ⊢
  clear hs ht e hZ
  refine calls_x mixed Tryz.func62 b62 n62 rfl q62 (by simp) ?_; unfold c62 r62
  repeat' (first | simp (maxDischargeDepth := 9) -implicitDefEqProofs -dsimp only [go_sem, seval, *] | ((with_reducible apply ACalls.one1); (focus ((first | with_reducible refine c1 _ ?_) <;> (first | (simp (maxDischargeDepth := 9) -implicitDefEqProofs -dsimp only [go_sem, seval, *]; done) | omega))); (focus (first | trivial | with_reducible exact rfl | (simp (maxDischargeDepth := 9) -implicitDefEqProofs -dsimp only [go_sem, seval]; done)))))
  refine fin_eq ?_
  (repeat' (first | simp (maxDischargeDepth := 9) -implicitDefEqProofs -dsimp only [go_sem, seval, encW, *])) <;> (repeat' refine And.intro ?_ ?_) <;> (first | omega | rfl | assumption | skip)
theorem bin_18 (bo : Nat) (b : Bu) (x y : List Int) (tx ty : Tok) (σ : Sig) (h : σ bo = some (buC b)) (hs : Wf b.g) (ht : Two 18 x y) : BinC bo b 18 x y tx ty σ := by
  have e : (binP 18 x y).run b = ShAt x y false b y.length := rfl
  unfold BinC
  rw [e]
  have c1 := fun τ h => bu_shift bo b x y tx ty false τ h hs ht.hx ht.hy ht.x1 ht.xl ht.yl
  simp only [if_true, if_false, Bool.false_eq_true] at c1
  obtain ⟨Z, hZ⟩ : ∃ Z, ShAt x y false b y.length = Z := ⟨_, rfl⟩
  rw [hZ] at c1 ⊢
  clear hs ht e hZ
  refine calls_x mixed Tryz.func62 b62 n62 rfl q62 (by simp) ?_; unfold c62 r62
  repeat' (first | simp (maxDischargeDepth := 9) -implicitDefEqProofs -dsimp only [go_sem, seval, *] | ((with_reducible apply ACalls.one1); (focus ((first | with_reducible refine c1 _ ?_) <;> (first | (simp (maxDischargeDepth := 9) -implicitDefEqProofs -dsimp only [go_sem, seval, *]; done) | omega))); (focus (first | trivial | with_reducible exact rfl | (simp (maxDischargeDepth := 9) -implicitDefEqProofs -dsimp only [go_sem, seval]; done)))))
  refine fin_eq ?_
  (repeat' (first | simp (maxDischargeDepth := 9) -implicitDefEqProofs -dsimp only [go_sem, seval, encW, *])) <;> (repeat' refine And.intro ?_ ?_) <;> (first | omega | rfl | assumption | skip)
theorem eqW_run (x y : List Int) (b : Bu) : (eqW x y).run b = (allW (notW ((zipP xorP x y x.length).run b).1)).run ((zipP xorP x y x.length).run b).2 := by unfold eqW; rw [run_bind]
theorem eqW_wf {x y : List Int} {b : Bu} (hs : Wf b.g) : Wf ((eqW x y).run b).2.g ∧ I64 ((eqW x y).run b).1 := by rw [eqW_run]; exact allW_wf (zip_wf (wff_op .xor) hs x.length).1
theorem bin_eq (bo : Nat) (b : Bu) (x y : List Int) (tx ty : Tok) (σ : Sig) (h : σ bo = some (buC b)) (hs : Wf b.g) (hx : ∀ z ∈ x, I64 z) (hy : ∀ z ∈ y, I64 z) (hl : x.length = y.length) (hxl : x.length ≤ 1000000) :
    ACalls Tryz.prog 62 [.ptr bo 0, .int .i64 19, encW x tx, encW y ty] σ (fun r σ' => r = .ret (encW [((eqW x y).run b).1] .no) ∧ σ' = upd σ bo (buC ((eqW x y).run b).2)) := by
  rw [eqW_run]
  have c1 := fun τ h => zip_xor bo b x y tx ty τ h hs hx hy (by omega) hxl
  have hz := zip_wf (wff_op .xor) (x := x) (y := y) hs x.length
  rw [show ZipAt (fun p q => Pg.op Bl.Op.xor p q 0 .ret) x y b x.length = (zipP xorP x y x.length).run b from rfl] at hz
  obtain ⟨Z, hZ⟩ : ∃ Z, (zipP xorP x y x.length).run b = Z := ⟨_, rfl⟩
  rw [hZ] at c1 hz ⊢
  have c2 := fun o τ h ho => fold_nand bo o Z.2 Z.1 .no τ h ho hz.1 hz.2.2 (by rw [hz.2.1]; exact hxl)
  have c3 := fun τ => bl_turned Z.1 .no τ
  obtain ⟨Y, hY⟩ : ∃ Y, (allW (notW Z.1)).run Z.2 = Y := ⟨_, rfl⟩
  rw [hY] at c2 ⊢
  clear hs hx hy hl hz hZ hY
  refine calls_x mixed Tryz.func62 b62 n62 rfl q62 (by simp) ?_; unfold c62 r62
  repeat' (first | simp (maxDischargeDepth := 9) -implicitDefEqProofs -dsimp only [go_sem, seval, *] | ((with_reducible apply ACalls.one1); (focus ((first | with_reducible refine c1 _ ?_ | with_reducible refine c2 _ _ ?_ ?_) <;> (first | (simp (maxDischargeDepth := 9) -implicitDefEqProofs -dsimp only [go_sem, seval, *]; done) | omega))); (focus (first | trivial | with_reducible exact rfl | (simp (maxDischargeDepth := 9) -implicitDefEqProofs -dsimp only [go_sem, seval]; done)))) | ((with_reducible apply ACalls.newO); (focus ((first | with_reducible refine c3 _) <;> (first | (simp (maxDischargeDepth := 9) -implicitDefEqProofs -dsimp only [go_sem, seval, *]; done) | omega))); (intro oF hoF hnF hnF'); (try simp only [upd_none, ne_eq, not_and] at hoF)))
  refine fin_eq ?_
  (repeat' (first | simp (maxDischargeDepth := 9) -implicitDefEqProofs -dsimp only [go_sem, seval, encW, List.map_cons, List.map_nil, *])) <;> (repeat' refine And.intro ?_ ?_) <;> (first | omega | rfl | assumption | skip)
theorem bin_19 (bo : Nat) (b : Bu) (x y : List Int) (tx ty : Tok) (σ : Sig) (h : σ bo = some (buC b)) (hs : Wf b.g) (ht : Two 19 x y) : BinC bo b 19 x y tx ty σ := by
  have hl : x.length = y.length := by rcases ht.len with h | h | h <;> first | exact h | exact absurd h (by decide)
  have e : (binP 19 x y).run b = ([((eqW x y).run b).1], ((eqW x y).run b).2) := by
    show ((eqW x y).bind fun r => .ret [r]).run b = _
    rw [run_bind]; rfl
  unfold BinC
  rw [e]
  exact bin_eq bo b x y tx ty σ h hs ht.hx ht.hy hl ht.xl
theorem bin_20 (bo : Nat) (b : Bu) (x y : List Int) (tx ty : Tok) (σ : Sig) (h : σ bo = some (buC b)) (hs : Wf b.g) (ht : Two 20 x y) : BinC bo b 20 x y tx ty σ := by
  have hl : x.length = y.length := by rcases ht.len with h | h | h <;> first | exact h | exact absurd h (by decide)
  have e : (binP 20 x y).run b = ([turn ((eqW x y).run b).1], ((eqW x y).run b).2) := by
    show ((eqW x y).bind fun r => .ret [turn r]).run b = _
    rw [run_bind]; rfl
  unfold BinC
  rw [e]
  have c1 := fun τ h => bin_eq bo b x y tx ty τ h hs ht.hx ht.hy hl ht.xl
  have hw := (eqW_wf (x := x) (y := y) hs).2
  obtain ⟨Z, hZ⟩ : ∃ Z, (eqW x y).run b = Z := ⟨_, rfl⟩
  rw [hZ] at c1 hw ⊢
  have c2 := fun τ => bl_not [Z.1] .no τ (by simp) (by simpa using hw)
  have e1 : notW [Z.1] = [turn Z.1] := rfl
  rw [e1] at c2
  clear hs ht hl e hZ hw e1
  refine calls_x mixed Tryz.func62 b62 n62 rfl q62 (by simp) ?_; unfold c62 r62
  repeat' (first | simp (maxDischargeDepth := 9) -implicitDefEqProofs -dsimp only [go_sem, seval, *] | ((with_reducible apply ACalls.one1); (focus ((first | with_reducible refine c1 _ ?_ | with_reducible refine c2 _) <;> (first | (simp (maxDischargeDepth := 9) -implicitDefEqProofs -dsimp only [go_sem, seval, *]; done) | omega))); (focus (first | trivial | with_reducible exact rfl | (simp (maxDischargeDepth := 9) -implicitDefEqProofs -dsimp only [go_sem, seval]; done)))))
  refine fin_eq ?_
  (repeat' (first | simp (maxDischargeDepth := 9) -implicitDefEqProofs -dsimp only [go_sem, seval, encW, *])) <;> (repeat' refine And.intro ?_ ?_) <;> (first | omega | rfl | assumption | skip)
theorem less_wf {x y : List Int} {b : Bu} (hs : Wf b.g) : Wf ((lessW x y).run b).2.g ∧ I64 ((lessW x y).run b).1 := by
  have e : (lessW x y).run b = (turn ((sumW x (notW y) 1).run b).1.2, ((sumW x (notW y) 1).run b).2) := by unfold lessW; rw [run_bind]; rfl
  rw [e]
  have h := sumW_wf (x := x) (y := notW y) (c := 1) hs ⟨by decide, by decide⟩
  exact ⟨h.1, i64_turn h.2.1⟩
theorem bin_21 (bo : Nat) (b : Bu) (x y : List Int) (tx ty : Tok) (σ : Sig) (h : σ bo = some (buC b)) (hs : Wf b.g) (ht : Two 21 x y) : BinC bo b 21 x y tx ty σ := by
  have hl : x.length = y.length := by rcases ht.len with h | h | h <;> first | exact h | exact absurd h (by decide)
  have e : (binP 21 x y).run b = ([((lessW x y).run b).1], ((lessW x y).run b).2) := by
    show ((lessW x y).bind fun r => .ret [r]).run b = _
    rw [run_bind]; rfl
  unfold BinC
  rw [e]
  have c1 := fun τ h => bu_less bo b x y tx ty τ h hs ht.hx ht.hy (by omega) ht.yl
  have hw := (less_wf (x := x) (y := y) hs).2
  obtain ⟨Z, hZ⟩ : ∃ Z, (lessW x y).run b = Z := ⟨_, rfl⟩
  rw [hZ] at c1 hw ⊢
  have hxx := xor1' Z.1 hw
  clear hs ht hl e hZ hw
  refine calls_x mixed Tryz.func62 b62 n62 rfl q62 (by simp) ?_; unfold c62 r62
  repeat' (first | simp (maxDischargeDepth := 9) -implicitDefEqProofs -dsimp only [go_sem, seval, *] | ((with_reducible apply ACalls.one1); (focus ((first | with_reducible refine c1 _ ?_) <;> (first | (simp (maxDischargeDepth := 9) -implicitDefEqProofs -dsimp only [go_sem, seval, *]; done) | omega))); (focus (first | trivial | with_reducible exact rfl | (simp (maxDischargeDepth := 9) -implicitDefEqProofs -dsimp only [go_sem, seval]; done)))))
  refine fin_eq ?_
  (repeat' (first | simp (maxDischargeDepth := 9) -implicitDefEqProofs -dsimp only [go_sem, seval, encW, List.map_cons, List.map_nil, *])) <;> (repeat' refine And.intro ?_ ?_) <;> (first | omega | rfl | assumption | skip)
theorem bin_23 (bo : Nat) (b : Bu) (x y : List Int) (tx ty : Tok) (σ : Sig) (h : σ bo = some (buC b)) (hs : Wf b.g) (ht : Two 23 x y) : BinC bo b 23 x y tx ty σ := by
  have hl : x.length = y.length := by rcases ht.len with h | h | h <;> first | exact h | exact absurd h (by decide)
  have e : (binP 23 x y).run b = ([((lessW y x).run b).1], ((lessW y x).run b).2) := by
    show ((lessW y x).bind fun r => .ret [r]).run b = _
    rw [run_bind]; rfl
  unfold BinC
  rw [e]
  have c1 := fun τ h => bu_less bo b y x ty tx τ h hs ht.hy ht.hx (by omega) ht.xl
  have hw := (less_wf (x := y) (y := x) hs).2
  obtain ⟨Z, hZ⟩ : ∃ Z, (lessW y x).run b = Z := ⟨_, rfl⟩
  rw [hZ] at c1 hw ⊢
  have hxx := xor1' Z.1 hw
  clear hs ht hl e hZ hw
  refine calls_x mixed Tryz.func62 b62 n62 rfl q62 (by simp) ?_; unfold c62 r62
  repeat' (first | simp (maxDischargeDepth := 9) -implicitDefEqProofs -dsimp only [go_sem, seval, *] | ((with_reducible apply ACalls.one1); (focus ((first | with_reducible refine c1 _ ?_) <;> (first | (simp (maxDischargeDepth := 9) -implicitDefEqProofs -dsimp only [go_sem, seval, *]; done) | omega))); (focus (first | trivial | with_reducible exact rfl | (simp (maxDischargeDepth := 9) -implicitDefEqProofs -dsimp only [go_sem, seval]; done)))))
  refine fin_eq ?_
  (repeat' (first | simp (maxDischargeDepth := 9) -implicitDefEqProofs -dsimp only [go_sem, seval, encW, List.map_cons, List.map_nil, *])) <;> (repeat' refine And.intro ?_ ?_) <;> (first | omega | rfl | assumption | skip)
theorem bin_22 (bo : Nat) (b : Bu) (x y : List Int) (tx ty : Tok) (σ : Sig) (h : σ bo = some (buC b)) (hs : Wf b.g) (ht : Two 22 x y) : BinC bo b 22 x y tx ty σ := by
  have hl : x.length = y.length := by rcases ht.len with h | h | h <;> first | exact h | exact absurd h (by decide)
  have e : (binP 22 x y).run b = ([turn ((lessW y x).run b).1], ((lessW y x).run b).2) := by
    show ((lessW y x).bind fun r => .ret [turn r]).run b = _
    rw [run_bind]; rfl
  unfold BinC
  rw [e]
  have c1 := fun τ h => bu_less bo b y x ty tx τ h hs ht.hy ht.hx (by omega) ht.xl
  have hw := (less_wf (x := y) (y := x) hs).2
  obtain ⟨Z, hZ⟩ : ∃ Z, (lessW y x).run b = Z := ⟨_, rfl⟩
  rw [hZ] at c1 hw ⊢
  have hxx := xor1' Z.1 hw
  clear hs ht hl e hZ hw
  refine calls_x mixed Tryz.func62 b62 n62 rfl q62 (by simp) ?_; unfold c62 r62
  repeat' (first | simp (maxDischargeDepth := 9) -implicitDefEqProofs -dsimp only [go_sem, seval, *] | ((with_reducible apply ACalls.one1); (focus ((first | with_reducible refine c1 _ ?_) <;> (first | (simp (maxDischargeDepth := 9) -implicitDefEqProofs -dsimp only [go_sem, seval, *]; done) | omega))); (focus (first | trivial | with_reducible exact rfl | (simp (maxDischargeDepth := 9) -implicitDefEqProofs -dsimp only [go_sem, seval]; done)))))
  refine fin_eq ?_
  (repeat' (first | simp (maxDischargeDepth := 9) -implicitDefEqProofs -dsimp only [go_sem, seval, encW, List.map_cons, List.map_nil, *])) <;> (repeat' refine And.intro ?_ ?_) <;> (first | omega | rfl | assumption | skip)
theorem bin_24 (bo : Nat) (b : Bu) (x y : List Int) (tx ty : Tok) (σ : Sig) (h : σ bo = some (buC b)) (hs : Wf b.g) (ht : Two 24 x y) : BinC bo b 24 x y tx ty σ := by
  have hl : x.length = y.length := by rcases ht.len with h | h | h <;> first | exact h | exact absurd h (by decide)
  have e : (binP 24 x y).run b = ([turn ((lessW x y).run b).1], ((lessW x y).run b).2) := by
    show ((lessW x y).bind fun r => .ret [turn r]).run b = _
    rw [run_bind]; rfl
  unfold BinC
  rw [e]
  have c1 := fun τ h => bu_less bo b x y tx ty τ h hs ht.hx ht.hy (by omega) ht.yl
  have hw := (less_wf (x := x) (y := y) hs).2
  obtain ⟨Z, hZ⟩ : ∃ Z, (lessW x y).run b = Z := ⟨_, rfl⟩
  rw [hZ] at c1 hw ⊢
  have hxx := xor1' Z.1 hw
  clear hs ht hl e hZ hw
  refine calls_x mixed Tryz.func62 b62 n62 rfl q62 (by simp) ?_; unfold c62 r62
  repeat' (first | simp (maxDischargeDepth := 9) -implicitDefEqProofs -dsimp only [go_sem, seval, *] | ((with_reducible apply ACalls.one1); (focus ((first | with_reducible refine c1 _ ?_) <;> (first | (simp (maxDischargeDepth := 9) -implicitDefEqProofs -dsimp only [go_sem, seval, *]; done) | omega))); (focus (first | trivial | with_reducible exact rfl | (simp (maxDischargeDepth := 9) -implicitDefEqProofs -dsimp only [go_sem, seval]; done)))))
  refine fin_eq ?_
  (repeat' (first | simp (maxDischargeDepth := 9) -implicitDefEqProofs -dsimp only [go_sem, seval, encW, List.map_cons, List.map_nil, *])) <;> (repeat' refine And.intro ?_ ?_) <;> (first | omega | rfl | assumption | skip)
theorem bu_bin (bo : Nat) (b : Bu) (op : Int) (x y : List Int) (tx ty : Tok) (σ : Sig) (h : σ bo = some (buC b)) (hs : Wf b.g) (ht : Two op x y) : BinC bo b op x y tx ty σ := by
  have hc : op = 11 ∨ op = 12 ∨ op = 13 ∨ op = 14 ∨ op = 15 ∨ op = 16 ∨ op = 17 ∨ op = 18 ∨ op = 19 ∨ op = 20 ∨ op = 21 ∨ op = 22 ∨ op = 23 ∨ op = 24 ∨ op = 25 ∨ op = 26 := by
    have := ht.ho; omega
  rcases hc with rfl | rfl | rfl | rfl | rfl | rfl | rfl | rfl | rfl | rfl | rfl | rfl | rfl | rfl | rfl | rfl
  · exact bin_11 bo b x y tx ty σ h hs ht
  · exact bin_12 bo b x y tx ty σ h hs ht
  · exact bin_13 bo b x y tx ty σ h hs ht
  · exact bin_14 bo b x y tx ty σ h hs ht
  · exact bin_15 bo b x y tx ty σ h hs ht
  · exact bin_16 bo b x y tx ty σ h hs ht
  · exact bin_17 bo b x y tx ty σ h hs ht
  · exact bin_18 bo b x y tx ty σ h hs ht
  · exact bin_19 bo b x y tx ty σ h hs ht
  · exact bin_20 bo b x y tx ty σ h hs ht
  · exact bin_21 bo b x y tx ty σ h hs ht
  · exact bin_22 bo b x y tx ty σ h hs ht
  · exact bin_23 bo b x y tx ty σ h hs ht
  · exact bin_24 bo b x y tx ty σ h hs ht
  · exact bin_25 bo b x y tx ty σ h hs ht
  · exact bin_26 bo b x y tx ty σ h hs ht
theorem bu_cond1 (bo p q : Nat) (b : Bu) (c x y : Int) (σ : Sig) (h : σ bo = some (buC b)) (hs : Wf b.g) (hc : I64 c) (hx : I64 x) (hy : I64 y) (hp : σ p = some (.cells [.ptr bo 0])) (hq : σ q = some (.cells [.int .i64 c])) :
    ACalls Tryz.prog 117 [.int .i64 x, .int .i64 y, .ptr p 0, .ptr q 0] σ (fun r σ' => r = .ret (.int .i64 (b.op Bl.Op.mux c x y).1) ∧ σ' = upd σ bo (buC (b.op Bl.Op.mux c x y).2)) := by
  have c1 := fun τ h => bu_mux bo b c x y τ h hs hc hx hy
  obtain ⟨Z, hZ⟩ : ∃ Z, b.op Bl.Op.mux c x y = Z := ⟨_, rfl⟩
  rw [hZ] at c1 ⊢
  clear hs hc hx hy hZ
  refine calls_x mixed Tryz.func117 b117 n117 rfl q117 (by simp) ?_; unfold c117 r117
  repeat' (first | simp (maxDischargeDepth := 9) -implicitDefEqProofs -dsimp only [go_sem, seval, *] | ((with_reducible apply ACalls.one1); (focus ((first | with_reducible refine c1 _ ?_) <;> (first | (simp (maxDischargeDepth := 9) -implicitDefEqProofs -dsimp only [go_sem, seval, *]; done) | omega))); (focus (first | trivial | with_reducible exact rfl | (simp (maxDischargeDepth := 9) -implicitDefEqProofs -dsimp only [go_sem, seval]; done)))))
  refine fin_eq ?_
  (repeat' (first | simp (maxDischargeDepth := 9) -implicitDefEqProofs -dsimp only [go_sem, seval, *])) <;> (repeat' refine And.intro ?_ ?_) <;> (first | omega | rfl | assumption | skip)
theorem bu_cond (bo : Nat) (b : Bu) (c : Int) (x y : List Int) (tx ty : Tok) (σ : Sig) (h : σ bo = some (buC b)) (hs : Wf b.g) (hc : I64 c) (hx : ∀ z ∈ x, I64 z) (hy : ∀ z ∈ y, I64 z) (hl : x.length ≤ y.length) (hxl : x.length ≤ 1000000) :
    ACalls Tryz.prog 66 [.ptr bo 0, .int .i64 c, encW x tx, encW y ty] σ (fun r σ' => r = .ret (encW ((condP c x y).run b).1 .no) ∧ σ' = upd σ bo (buC ((condP c x y).run b).2)) := by
  have key : ∀ p q, σ p = none → σ q = none → ¬ p = q → ACalls Tryz.prog 109 [encW x tx, encW y ty, .fn 117 [] [.ptr p 0, .ptr q 0]] (upd (upd σ p (.cells [.ptr bo 0])) q (.cells [.int .i64 c])) (fun r σ' => r = .ret (encW ((condP c x y).run b).1 .no) ∧ σ' = upd (upd (upd σ p (.cells [.ptr bo 0])) q (.cells [.int .i64 c])) bo (buC ((condP c x y).run b).2)) := by
    intro p q hp hq hpq
    have n1 : ¬ bo = q := fun e => by rw [e, hq] at h; simp at h
    have n2 : ¬ bo = p := fun e => by rw [e, hp] at h; simp at h
    exact bl_zipf _ (wff_mux c) _ _ _ bo b x y tx ty _ (by simp [upd, n1, n2, h]) hs hl hxl fun b τ k _ h1 h2 h3 => bu_cond1 bo p q b c _ _ τ h1 h2 hc (i64_gt hx k) (i64_gt hy k) (h3 p _ (Ne.symm n2) (by simp [upd, hpq])) (h3 q _ (Ne.symm n1) (by simp [upd]))
  obtain ⟨Z, hZ⟩ : ∃ Z, (condP c x y).run b = Z := ⟨_, rfl⟩
  rw [hZ] at key ⊢
  clear hs hc hx hy hl hxl hZ
  refine calls_x mixed Tryz.func66 b66 n66 rfl q66 (by simp) ?_; unfold c66 r66
  repeat' (first | simp (maxDischargeDepth := 9) -implicitDefEqProofs -dsimp only [go_sem, seval, *] | ((with_reducible refine Zt (fun oF hoF hnF hnF' => ?_)); (try simp only [upd_none, ne_eq, not_and] at hoF)) | ((with_reducible apply ACalls.one1); (focus ((first | with_reducible refine key _ _ ?_ ?_ ?_) <;> (first | (simp (maxDischargeDepth := 9) -implicitDefEqProofs -dsimp only [go_sem, seval, *]; done) | omega))); (focus (first | trivial | with_reducible exact rfl | (simp (maxDischargeDepth := 9) -implicitDefEqProofs -dsimp only [go_sem, seval]; done)))))
  refine fin_eq ?_
  (repeat' (first | simp (maxDischargeDepth := 9) -implicitDefEqProofs -dsimp only [go_sem, seval, encW, *])) <;> (repeat' refine And.intro ?_ ?_) <;> (first | omega | rfl | assumption | skip)
end Go.Proofs.YtbbihmmobfmadaaGreat

namespace Go.Proofs.YtbbihmmobfmadaaGreat
open Abs Fil Fil.Bl A
theorem bl_word1 (p : Nat) (l n : Int) (σ : Sig) (h : σ p = some (.cells [.int .i64 n])) :
    ACalls Tryz.prog 74 [.int .i64 l, .ptr p 0] σ (fun r σ' => r = .ret (.bool (decide (l < 0) || decide (n ≤ l))) ∧ σ' = σ) := by
  refine calls_x mixed Tryz.func74 b74 n74 rfl q74 (by simp) ?_; unfold c74 r74
  by_cases h1 : l < 0
  · repeat' (first | simp (maxDischargeDepth := 9) -implicitDefEqProofs -dsimp only [go_sem, seval, *])
    refine fin_eq ?_
    (repeat' (first | simp (maxDischargeDepth := 9) -implicitDefEqProofs -dsimp only [go_sem, seval, decide_true, Bool.true_or, *])) <;> (repeat' refine And.intro ?_ ?_) <;> (first | omega | rfl | assumption | skip)
  · repeat' (first | simp (maxDischargeDepth := 9) -implicitDefEqProofs -dsimp only [go_sem, seval, ge_iff_le, *])
    refine fin_eq ?_
    (repeat' (first | simp (maxDischargeDepth := 9) -implicitDefEqProofs -dsimp only [go_sem, seval, decide_false, Bool.false_or, ge_iff_le, *])) <;> (repeat' refine And.intro ?_ ?_) <;> (first | omega | rfl | assumption | skip)
theorem lit_any (g : Aig) (a : List Int) : (!a.any fun l => decide (l < 0) || decide (2 * (1 + g.count) ≤ l)) = a.all g.lit := by
  induction a with
  | nil => rfl
  | cons x a ih =>
    simp only [List.any_cons, List.all_cons, Bool.not_or, ih]
    congr 1
    unfold Aig.lit Aig.litN
    by_cases h1 : x < 0 <;> by_cases h2 : 2 * (1 + g.count) ≤ x <;> simp [h1, h2, Int.not_lt, Int.not_le] <;> omega
theorem bl_word (g : Aig) (a : List Int) (t : Tok) (σ : Sig) (hf : Fine g) (hl : a.length ≤ 1000000) :
    ACalls Tryz.prog 36 [encAig g, encW a t] σ (fun r σ' => r = .ret (.bool (word g a)) ∧ σ' = σ) := by
  have hw : word g a = (decide (0 < a.length) && decide (a.length ≤ 64) && !a.any fun l => decide (l < 0) || decide (2 * (1 + g.count) ≤ l)) := by rw [lit_any]; rfl
  have c1 : ∀ p τ, τ p = some (.cells [.int .i64 (2 * (1 + g.count))]) → ACalls Tryz.prog 73 [encW a t, .fn 74 [] [.ptr p 0]] τ (fun r σ' => r = .ret (.bool (a.any fun l => decide (l < 0) || decide (2 * (1 + g.count) ≤ l))) ∧ σ' = τ) :=
    fun p τ h => ACalls.fl (sl_containsInt (fun l => decide (l < 0) || decide (2 * (1 + g.count) ≤ l)) a (by omega) τ (F := 74) (caps := [.ptr p 0]) (fun x _ => bl_word1 p x _ τ h)) (.cons (.slice _ _ _ _ (.inl rfl) rfl fun _ _ _ => .refl _) (.refl _ _)) (fun o _ x e => ⟨x, e, .refl _ x⟩)
  obtain ⟨B, hB⟩ : ∃ B, (a.any fun l => decide (l < 0) || decide (2 * (1 + g.count) ≤ l)) = B := ⟨_, rfl⟩
  rw [hB] at c1 hw
  have hc : g.count = g.ins + g.flops.length + g.ands.length := rfl
  have hcb := hf.cnt
  have hlo := hf.lo
  have hb1 : g.ins ≤ 65536 := by omega
  have hb2 : g.flops.length ≤ 65536 := by omega
  have hb3 : g.ands.length ≤ 65536 := by omega
  have hn : 2 * (1 + g.ins + (g.flops.length : Int) + (g.ands.length : Int)) = 2 * (1 + g.count) := by omega
  obtain ⟨W, hW⟩ : ∃ W, word g a = W := ⟨_, rfl⟩
  rw [hW] at hw ⊢
  obtain ⟨N, hN⟩ : ∃ N, 2 * (1 + g.count) = N := ⟨_, rfl⟩
  rw [hN] at c1 hn
  clear hB hW hf hc hcb hN
  by_cases h1 : 0 < a.length
  · have h1' : (0 : Int) < (a.length : Int) := by omega
    by_cases h2 : a.length ≤ 64
    · have h2' : (a.length : Int) ≤ 64 := by omega
      have e : W = !B := by rw [hw]; simp [h1, h2]
      subst e
      clear hw h1 h2
      refine calls_x mixed Tryz.func36 b36 n36 rfl q36 (by simp) ?_; unfold c36 r36
      repeat' (first | simp (maxDischargeDepth := 9) -implicitDefEqProofs -dsimp only [go_sem, seval, List.length_map, gt_iff_lt, *] | simp (disch := omega) only [wrap64] | ((with_reducible refine Zt (fun oF hoF hnF hnF' => ?_)); (try simp only [upd_none, ne_eq, not_and] at hoF)) | ((with_reducible apply ACalls.one1); (focus ((first | with_reducible refine c1 _ _ ?_) <;> (first | (simp (maxDischargeDepth := 9) -implicitDefEqProofs -dsimp only [go_sem, seval, *]; done) | omega))); (focus (first | trivial | with_reducible exact rfl | (simp (maxDischargeDepth := 9) -implicitDefEqProofs -dsimp only [go_sem, seval]; done)))))
      refine fin_eq ?_
      (repeat' (first | simp (maxDischargeDepth := 9) -implicitDefEqProofs -dsimp only [go_sem, seval, *] | simp (disch := omega) only [wrap64])) <;> (repeat' refine And.intro ?_ ?_) <;> (first | omega | rfl | assumption | skip)
    · have h2' : ¬ (a.length : Int) ≤ 64 := by omega
      have e : W = false := by rw [hw]; simp [h2]
      subst e
      clear hw h1 h2
      refine calls_x mixed Tryz.func36 b36 n36 rfl q36 (by simp) ?_; unfold c36 r36
      repeat' (first | simp (maxDischargeDepth := 9) -implicitDefEqProofs -dsimp only [go_sem, seval, List.length_map, gt_iff_lt, *] | simp (disch := omega) only [wrap64] | ((with_reducible refine Zt (fun oF hoF hnF hnF' => ?_)); (try simp only [upd_none, ne_eq, not_and] at hoF)))
      refine fin_eq ?_
      (repeat' (first | simp (maxDischargeDepth := 9) -implicitDefEqProofs -dsimp only [go_sem, seval, *] | simp (disch := omega) only [wrap64])) <;> (repeat' refine And.intro ?_ ?_) <;> (first | omega | rfl | assumption | skip)
  · have h1' : ¬ (0 : Int) < (a.length : Int) := by omega
    have e : W = false := by rw [hw]; simp [h1]
    subst e
    clear hw h1
    refine calls_x mixed Tryz.func36 b36 n36 rfl q36 (by simp) ?_; unfold c36 r36
    repeat' (first | simp (maxDischargeDepth := 9) -implicitDefEqProofs -dsimp only [go_sem, seval, List.length_map, gt_iff_lt, *] | simp (disch := omega) only [wrap64] | ((with_reducible refine Zt (fun oF hoF hnF hnF' => ?_)); (try simp only [upd_none, ne_eq, not_and] at hoF)))
    refine fin_eq ?_
    (repeat' (first | simp (maxDischargeDepth := 9) -implicitDefEqProofs -dsimp only [go_sem, seval, *] | simp (disch := omega) only [wrap64])) <;> (repeat' refine And.intro ?_ ?_) <;> (first | omega | rfl | assumption | skip)
end Go.Proofs.YtbbihmmobfmadaaGreat

