/- blast: few gates; the law that nothing is made again. -/
import Derived.Shelf.Bits.Mul64
import Derived.Laws.CopyOwn
import Derived.Test.YtbbihmmobfmadaaGreatOBlzBlaP
set_option linter.unusedSimpArgs false
set_option linter.unusedVariables false
namespace Go.Proofs.YtbbihmmobfmadaaGreat
open Abs Fil Fil.Bl A
theorem bl_made (g : Aig) (mF dF : Nat) (mc dc : List AV) (may : Bool) (p : Pg (List Int)) (σ : Sig) (hs : Wf g)
    (hm : g.check = 0 → ∀ o x, σ o = none → ACalls Tryz.prog mF mc (upd σ o x) (fun r τ' => r = .ret (.bool may) ∧ τ' = upd σ o x))
    (hd : g.check = 0 → may = true → ∀ o x bo, σ o = none → σ bo = none → ¬ bo = o → ACalls Tryz.prog dF (.ptr bo 0 :: dc) (upd (upd σ o x) bo (buC ⟨g, 0⟩)) (fun r τ' => r = .ret (encW (p.run ⟨g, 0⟩).1 .no) ∧ τ' = upd (upd σ o x) bo (buC (p.run ⟨g, 0⟩).2))) :
    ACalls Tryz.prog 37 [encAig g, .fn mF [] mc, .fn dF [] dc] σ (fun r σ' => r = .ret (.tup [encAig (made g may p).1, encW (made g may p).2.1 .no, .int .i64 (made g may p).2.2]) ∧ σ' = σ) := by
  have c1 := fun τ => aig_Check g τ hs
  by_cases h0 : g.check = 0
  · have hm := hm h0
    rw [h0] at c1
    cases may with
    | false =>
      have e : made g false p = (zG, [], 1) := by unfold made; rw [if_neg (by omega), if_pos rfl]
      rw [e]
      clear hd hs h0 e
      refine calls_x mixed Tryz.func37 b37 n37 rfl q37 (by simp) ?_; unfold c37 r37
      repeat' (first | simp (maxDischargeDepth := 9) -implicitDefEqProofs -dsimp only [go_sem, seval, *] | ((with_reducible refine Zt (fun oF hoF hnF hnF' => ?_)); (try simp only [upd_none, ne_eq, not_and] at hoF)) | ((with_reducible apply ACalls.one1); (focus ((first | with_reducible refine c1 _ | with_reducible refine hm _ _ ?_) <;> (first | (simp (maxDischargeDepth := 9) -implicitDefEqProofs -dsimp only [go_sem, seval, *]; done) | omega))); (focus (first | trivial | with_reducible exact rfl | (simp (maxDischargeDepth := 9) -implicitDefEqProofs -dsimp only [go_sem, seval]; done)))))
      refine fin_eq ?_
      (repeat' (first | simp (maxDischargeDepth := 9) -implicitDefEqProofs -dsimp only [go_sem, seval, zG, encW, List.map_nil, *])) <;> (repeat' refine And.intro ?_ ?_) <;> (first | omega | rfl | assumption | skip)
    | true =>
      have hd := hd h0 rfl
      have e : made g true p = told (p.run ⟨g, 0⟩) := by unfold made; rw [if_neg (by omega), if_neg (by simp)]
      rw [e]
      obtain ⟨Z, hZ⟩ : ∃ Z, p.run ⟨g, 0⟩ = Z := ⟨_, rfl⟩
      rw [hZ] at hd ⊢
      obtain ⟨l, g2, e2⟩ := Z
      simp only at hd
      by_cases he : e2 = 0
      · subst he
        rw [show told (l, ⟨g2, 0⟩) = (g2, l, 0) from rfl]
        clear hs h0 e hZ
        refine calls_x mixed Tryz.func37 b37 n37 rfl q37 (by simp) ?_; unfold c37 r37
        repeat' (first | simp (maxDischargeDepth := 9) -implicitDefEqProofs -dsimp only [go_sem, seval, *] | ((with_reducible refine Zt (fun oF hoF hnF hnF' => ?_)); (try simp only [upd_none, ne_eq, not_and] at hoF)) | ((with_reducible apply ACalls.one1); (focus ((first | with_reducible refine c1 _ | with_reducible refine hm _ _ ?_ | with_reducible refine hd _ _ _ ?_ ?_ ?_) <;> (first | (simp (maxDischargeDepth := 9) -implicitDefEqProofs -dsimp only [go_sem, seval, *]; done) | omega))); (focus (first | trivial | with_reducible exact rfl | (simp (maxDischargeDepth := 9) -implicitDefEqProofs -dsimp only [go_sem, seval]; done)))))
        refine fin_eq ?_
        (repeat' (first | simp (maxDischargeDepth := 9) -implicitDefEqProofs -dsimp only [go_sem, seval, encW, *])) <;> (repeat' refine And.intro ?_ ?_) <;> (first | omega | rfl | assumption | skip)
      · have he' : (e2 != 0) = true := by simpa using he
        rw [show told (l, ⟨g2, e2⟩) = (zG, [], e2) by unfold told; rw [if_pos he]]
        clear hs h0 e hZ he
        refine calls_x mixed Tryz.func37 b37 n37 rfl q37 (by simp) ?_; unfold c37 r37
        repeat' (first | simp (maxDischargeDepth := 9) -implicitDefEqProofs -dsimp only [go_sem, seval, *] | ((with_reducible refine Zt (fun oF hoF hnF hnF' => ?_)); (try simp only [upd_none, ne_eq, not_and] at hoF)) | ((with_reducible apply ACalls.one1); (focus ((first | with_reducible refine c1 _ | with_reducible refine hm _ _ ?_ | with_reducible refine hd _ _ _ ?_ ?_ ?_) <;> (first | (simp (maxDischargeDepth := 9) -implicitDefEqProofs -dsimp only [go_sem, seval, *]; done) | omega))); (focus (first | trivial | with_reducible exact rfl | (simp (maxDischargeDepth := 9) -implicitDefEqProofs -dsimp only [go_sem, seval]; done)))))
        refine fin_eq ?_
        (repeat' (first | simp (maxDischargeDepth := 9) -implicitDefEqProofs -dsimp only [go_sem, seval, zG, encW, List.map_nil, *])) <;> (repeat' refine And.intro ?_ ?_) <;> (first | omega | rfl | assumption | skip)
  · have e : made g may p = (zG, [], g.check) := by unfold made; rw [if_pos h0]
    rw [e]
    have h0' : (g.check != 0) = true := by simpa using h0
    obtain ⟨c, hc⟩ : ∃ c, g.check = c := ⟨_, rfl⟩
    rw [hc] at c1 h0' ⊢
    clear hm hd hs h0 e hc
    refine calls_x mixed Tryz.func37 b37 n37 rfl q37 (by simp) ?_; unfold c37 r37
    repeat' (first | simp (maxDischargeDepth := 9) -implicitDefEqProofs -dsimp only [go_sem, seval, *] | ((with_reducible refine Zt (fun oF hoF hnF hnF' => ?_)); (try simp only [upd_none, ne_eq, not_and] at hoF)) | ((with_reducible apply ACalls.one1); (focus ((first | with_reducible refine c1 _) <;> (first | (simp (maxDischargeDepth := 9) -implicitDefEqProofs -dsimp only [go_sem, seval, *]; done) | omega))); (focus (first | trivial | with_reducible exact rfl | (simp (maxDischargeDepth := 9) -implicitDefEqProofs -dsimp only [go_sem, seval]; done)))))
    refine fin_eq ?_
    (repeat' (first | simp (maxDischargeDepth := 9) -implicitDefEqProofs -dsimp only [go_sem, seval, zG, encW, List.map_nil, *])) <;> (repeat' refine And.intro ?_ ?_) <;> (first | omega | rfl | assumption | skip)
theorem bl_Bin1 (og oa ob oo : Nat) (g : Aig) (op : Int) (x y : List Int) (tx ty : Tok) (σ : Sig) (hf : Fine g) (hx : x.length ≤ 1000000) (hy : y.length ≤ 1000000)
    (h1 : σ og = some (.cells (aigL g))) (h2 : σ oa = some (.cells [encW x tx])) (h3 : σ ob = some (.cells [encW y ty])) (h4 : σ oo = some (.cells [.int .i64 op])) :
    ACalls Tryz.prog 60 [.ptr og 0, .ptr oa 0, .ptr ob 0, .ptr oo 0] σ (fun r σ' => r = .ret (.bool (mayBin g op x y)) ∧ σ' = σ) := by
  have c1 := fun τ => bl_word g x tx τ hf hx
  have c2 := fun τ => bl_word g y ty τ hf hy
  have hM : mayBin g op x y = (word g x && word g y && decide (11 ≤ op ∧ op ≤ 26 ∧ (op = 17 ∨ op = 18 ∨ (x.length = y.length ∧ (op < 25 ∨ x.length = 1))))) := rfl
  obtain ⟨M, hMM⟩ : ∃ M, mayBin g op x y = M := ⟨_, rfl⟩
  rw [hMM] at hM ⊢
  obtain ⟨X, hX⟩ : ∃ X, word g x = X := ⟨_, rfl⟩
  rw [hX] at c1 hM
  obtain ⟨Y, hY⟩ : ∃ Y, word g y = Y := ⟨_, rfl⟩
  rw [hY] at c2 hM
  clear hMM hX hY hf
  cases X with
  | false =>
    simp only [Bool.false_and] at hM
    subst hM
    refine calls_x mixed Tryz.func60 b60 n60 rfl q60 (by simp) ?_; unfold c60 r60
    repeat' (first | simp (maxDischargeDepth := 9) -implicitDefEqProofs -dsimp only [go_sem, seval, *] | ((with_reducible apply ACalls.one1); (focus ((first | with_reducible refine c1 _) <;> (first | (simp (maxDischargeDepth := 9) -implicitDefEqProofs -dsimp only [go_sem, seval, *]; done) | omega))); (focus (first | trivial | with_reducible exact rfl | (simp (maxDischargeDepth := 9) -implicitDefEqProofs -dsimp only [go_sem, seval]; done)))))
    refine fin_eq ?_
    (repeat' (first | simp (maxDischargeDepth := 9) -implicitDefEqProofs -dsimp only [go_sem, seval, *])) <;> (repeat' refine And.intro ?_ ?_) <;> (first | omega | rfl | assumption | skip)
  | true =>
    cases Y with
    | false =>
      simp only [Bool.false_and, Bool.and_false] at hM
      subst hM
      refine calls_x mixed Tryz.func60 b60 n60 rfl q60 (by simp) ?_; unfold c60 r60
      repeat' (first | simp (maxDischargeDepth := 9) -implicitDefEqProofs -dsimp only [go_sem, seval, *] | ((with_reducible apply ACalls.one1); (focus ((first | with_reducible refine c1 _ | with_reducible refine c2 _) <;> (first | (simp (maxDischargeDepth := 9) -implicitDefEqProofs -dsimp only [go_sem, seval, *]; done) | omega))); (focus (first | trivial | with_reducible exact rfl | (simp (maxDischargeDepth := 9) -implicitDefEqProofs -dsimp only [go_sem, seval]; done)))))
      refine fin_eq ?_
      (repeat' (first | simp (maxDischargeDepth := 9) -implicitDefEqProofs -dsimp only [go_sem, seval, *])) <;> (repeat' refine And.intro ?_ ?_) <;> (first | omega | rfl | assumption | skip)
    | true =>
      simp only [Bool.true_and] at hM
      by_cases o1 : op < 11
      · have e : M = false := by rw [hM, decide_eq_false_iff_not]; omega
        subst e
        clear hM
        refine calls_x mixed Tryz.func60 b60 n60 rfl q60 (by simp) ?_; unfold c60 r60
        repeat' (first | simp (maxDischargeDepth := 9) -implicitDefEqProofs -dsimp only [go_sem, seval, gt_iff_lt, *] | ((with_reducible apply ACalls.one1); (focus ((first | with_reducible refine c1 _ | with_reducible refine c2 _) <;> (first | (simp (maxDischargeDepth := 9) -implicitDefEqProofs -dsimp only [go_sem, seval, *]; done) | omega))); (focus (first | trivial | with_reducible exact rfl | (simp (maxDischargeDepth := 9) -implicitDefEqProofs -dsimp only [go_sem, seval]; done)))))
        refine fin_eq ?_
        (repeat' (first | simp (maxDischargeDepth := 9) -implicitDefEqProofs -dsimp only [go_sem, seval, *])) <;> (repeat' refine And.intro ?_ ?_) <;> (first | omega | rfl | assumption | skip)
      by_cases o2 : 26 < op
      · have e : M = false := by rw [hM, decide_eq_false_iff_not]; omega
        subst e
        clear hM
        refine calls_x mixed Tryz.func60 b60 n60 rfl q60 (by simp) ?_; unfold c60 r60
        repeat' (first | simp (maxDischargeDepth := 9) -implicitDefEqProofs -dsimp only [go_sem, seval, gt_iff_lt, *] | ((with_reducible apply ACalls.one1); (focus ((first | with_reducible refine c1 _ | with_reducible refine c2 _) <;> (first | (simp (maxDischargeDepth := 9) -implicitDefEqProofs -dsimp only [go_sem, seval, *]; done) | omega))); (focus (first | trivial | with_reducible exact rfl | (simp (maxDischargeDepth := 9) -implicitDefEqProofs -dsimp only [go_sem, seval]; done)))))
        refine fin_eq ?_
        (repeat' (first | simp (maxDischargeDepth := 9) -implicitDefEqProofs -dsimp only [go_sem, seval, *])) <;> (repeat' refine And.intro ?_ ?_) <;> (first | omega | rfl | assumption | skip)
      by_cases o3 : op = 17
      · have e : M = true := by rw [hM, decide_eq_true_iff]; omega
        subst e o3
        clear hM
        refine calls_x mixed Tryz.func60 b60 n60 rfl q60 (by simp) ?_; unfold c60 r60
        repeat' (first | simp (maxDischargeDepth := 9) -implicitDefEqProofs -dsimp only [go_sem, seval, gt_iff_lt, *] | ((with_reducible apply ACalls.one1); (focus ((first | with_reducible refine c1 _ | with_reducible refine c2 _) <;> (first | (simp (maxDischargeDepth := 9) -implicitDefEqProofs -dsimp only [go_sem, seval, *]; done) | omega))); (focus (first | trivial | with_reducible exact rfl | (simp (maxDischargeDepth := 9) -implicitDefEqProofs -dsimp only [go_sem, seval]; done)))))
        refine fin_eq ?_
        (repeat' (first | simp (maxDischargeDepth := 9) -implicitDefEqProofs -dsimp only [go_sem, seval, *])) <;> (repeat' refine And.intro ?_ ?_) <;> (first | omega | rfl | assumption | skip)
      by_cases o4 : op = 18
      · have e : M = true := by rw [hM, decide_eq_true_iff]; omega
        subst e o4
        clear hM
        refine calls_x mixed Tryz.func60 b60 n60 rfl q60 (by simp) ?_; unfold c60 r60
        repeat' (first | simp (maxDischargeDepth := 9) -implicitDefEqProofs -dsimp only [go_sem, seval, gt_iff_lt, *] | ((with_reducible apply ACalls.one1); (focus ((first | with_reducible refine c1 _ | with_reducible refine c2 _) <;> (first | (simp (maxDischargeDepth := 9) -implicitDefEqProofs -dsimp only [go_sem, seval, *]; done) | omega))); (focus (first | trivial | with_reducible exact rfl | (simp (maxDischargeDepth := 9) -implicitDefEqProofs -dsimp only [go_sem, seval]; done)))))
        refine fin_eq ?_
        (repeat' (first | simp (maxDischargeDepth := 9) -implicitDefEqProofs -dsimp only [go_sem, seval, *])) <;> (repeat' refine And.intro ?_ ?_) <;> (first | omega | rfl | assumption | skip)
      have b3 : (op == 17) = false := by simpa using o3
      have b4 : (op == 18) = false := by simpa using o4
      by_cases o5 : x.length = y.length
      · have b5 : ((x.length : Int) == (y.length : Int)) = true := by rw [beq_iff_eq]; omega
        by_cases o6 : op < 25
        · have e : M = true := by rw [hM, decide_eq_true_iff]; omega
          subst e
          clear hM o3 o4 o5
          refine calls_x mixed Tryz.func60 b60 n60 rfl q60 (by simp) ?_; unfold c60 r60
          repeat' (first | simp (maxDischargeDepth := 9) -implicitDefEqProofs -dsimp only [go_sem, seval, gt_iff_lt, List.length_map, *] | ((with_reducible apply ACalls.one1); (focus ((first | with_reducible refine c1 _ | with_reducible refine c2 _) <;> (first | (simp (maxDischargeDepth := 9) -implicitDefEqProofs -dsimp only [go_sem, seval, *]; done) | omega))); (focus (first | trivial | with_reducible exact rfl | (simp (maxDischargeDepth := 9) -implicitDefEqProofs -dsimp only [go_sem, seval]; done)))))
          refine fin_eq ?_
          (repeat' (first | simp (maxDischargeDepth := 9) -implicitDefEqProofs -dsimp only [go_sem, seval, *])) <;> (repeat' refine And.intro ?_ ?_) <;> (first | omega | rfl | assumption | skip)
        · have e : M = ((x.length : Int) == 1) := by
            rw [hM, Bool.eq_iff_iff, decide_eq_true_iff, beq_iff_eq]; omega
          subst e
          clear hM o3 o4 o5
          refine calls_x mixed Tryz.func60 b60 n60 rfl q60 (by simp) ?_; unfold c60 r60
          repeat' (first | simp (maxDischargeDepth := 9) -implicitDefEqProofs -dsimp only [go_sem, seval, gt_iff_lt, List.length_map, *] | ((with_reducible apply ACalls.one1); (focus ((first | with_reducible refine c1 _ | with_reducible refine c2 _) <;> (first | (simp (maxDischargeDepth := 9) -implicitDefEqProofs -dsimp only [go_sem, seval, *]; done) | omega))); (focus (first | trivial | with_reducible exact rfl | (simp (maxDischargeDepth := 9) -implicitDefEqProofs -dsimp only [go_sem, seval]; done)))))
          refine fin_eq ?_
          (repeat' (first | simp (maxDischargeDepth := 9) -implicitDefEqProofs -dsimp only [go_sem, seval, *])) <;> (repeat' refine And.intro ?_ ?_) <;> (first | omega | rfl | assumption | skip)
      · have b5 : ((x.length : Int) == (y.length : Int)) = false := by
          rw [beq_eq_false_iff_ne]; omega
        have e : M = false := by rw [hM, decide_eq_false_iff_not]; omega
        subst e
        clear hM o3 o4 o5
        refine calls_x mixed Tryz.func60 b60 n60 rfl q60 (by simp) ?_; unfold c60 r60
        repeat' (first | simp (maxDischargeDepth := 9) -implicitDefEqProofs -dsimp only [go_sem, seval, gt_iff_lt, List.length_map, *] | ((with_reducible apply ACalls.one1); (focus ((first | with_reducible refine c1 _ | with_reducible refine c2 _) <;> (first | (simp (maxDischargeDepth := 9) -implicitDefEqProofs -dsimp only [go_sem, seval, *]; done) | omega))); (focus (first | trivial | with_reducible exact rfl | (simp (maxDischargeDepth := 9) -implicitDefEqProofs -dsimp only [go_sem, seval]; done)))))
        refine fin_eq ?_
        (repeat' (first | simp (maxDischargeDepth := 9) -implicitDefEqProofs -dsimp only [go_sem, seval, *])) <;> (repeat' refine And.intro ?_ ?_) <;> (first | omega | rfl | assumption | skip)
theorem bl_Bin2 (bo oo oa ob : Nat) (b : Bu) (op : Int) (x y : List Int) (tx ty : Tok) (σ : Sig) (h : σ bo = some (buC b)) (hs : Wf b.g) (ht : Two op x y) (h2 : σ oa = some (.cells [encW x tx])) (h3 : σ ob = some (.cells [encW y ty])) (h4 : σ oo = some (.cells [.int .i64 op])) :
    ACalls Tryz.prog 61 [.ptr bo 0, .ptr oo 0, .ptr oa 0, .ptr ob 0] σ (fun r σ' => r = .ret (encW ((binP op x y).run b).1 .no) ∧ σ' = upd σ bo (buC ((binP op x y).run b).2)) := by
  have c1 := fun τ h => bu_bin bo b op x y tx ty τ h hs ht
  unfold BinC at c1
  obtain ⟨Z, hZ⟩ : ∃ Z, (binP op x y).run b = Z := ⟨_, rfl⟩
  rw [hZ] at c1 ⊢
  clear hZ hs ht
  refine calls_x mixed Tryz.func61 b61 n61 rfl q61 (by simp) ?_; unfold c61 r61
  repeat' (first | simp (maxDischargeDepth := 9) -implicitDefEqProofs -dsimp only [go_sem, seval, *] | ((with_reducible apply ACalls.one1); (focus ((first | with_reducible refine c1 _ ?_) <;> (first | (simp (maxDischargeDepth := 9) -implicitDefEqProofs -dsimp only [go_sem, seval, *]; done) | omega))); (focus (first | trivial | with_reducible exact rfl | (simp (maxDischargeDepth := 9) -implicitDefEqProofs -dsimp only [go_sem, seval]; done)))))
  refine fin_eq ?_
  (repeat' (first | simp (maxDischargeDepth := 9) -implicitDefEqProofs -dsimp only [go_sem, seval, encW, *])) <;> (repeat' refine And.intro ?_ ?_) <;> (first | omega | rfl | assumption | skip)
theorem two_of {g : Aig} {op : Int} {x y : List Int} (h : mayBin g op x y = true) (hx : ∀ z ∈ x, I64 z) (hy : ∀ z ∈ y, I64 z) (hxl : x.length ≤ 1000000) (hyl : y.length ≤ 1000000) : Two op x y := by
  unfold mayBin word at h
  simp only [Bool.and_eq_true, decide_eq_true_eq] at h
  exact ⟨by omega, by omega, hxl, hyl, hx, hy, by omega, by omega⟩
theorem kept {σ : Sig} {o o' : Nat} {x y : AObj} (ho : σ o' = none) (h : σ o = some x) : upd σ o' y o = some x := by
  have : ¬ o = o' := fun e => by rw [e, ho] at h; simp at h
  simp [upd, this, h]
set_option maxHeartbeats 2000000 in
theorem bl_Bin (g : Aig) (op : Int) (x y : List Int) (tx ty : Tok) (σ : Sig) (hs : Wf g) (hx : ∀ z ∈ x, I64 z) (hy : ∀ z ∈ y, I64 z) (hxl : x.length ≤ 1000000) (hyl : y.length ≤ 1000000) :
    ACalls Tryz.prog 25 [encAig g, .int .i64 op, encW x tx, encW y ty] σ (fun r σ' => r = .ret (.tup [encAig (Bin g op x y).1, encW (Bin g op x y).2.1 .no, .int .i64 (Bin g op x y).2.2]) ∧ σ' = σ) := by
  have key : ∀ τ og oo oa ob, τ og = some (.cells (aigL g)) → τ oa = some (.cells [encW x tx]) → τ ob = some (.cells [encW y ty]) → τ oo = some (.cells [.int .i64 op]) →
      ACalls Tryz.prog 37 [encAig g, .fn 60 [] [.ptr og 0, .ptr oa 0, .ptr ob 0, .ptr oo 0], .fn 61 [] [.ptr oo 0, .ptr oa 0, .ptr ob 0]] τ (fun r σ' => r = .ret (.tup [encAig (Bin g op x y).1, encW (Bin g op x y).2.1 .no, .int .i64 (Bin g op x y).2.2]) ∧ σ' = τ) := fun τ og oo oa ob h1 h2 h3 h4 =>
    bl_made g _ _ _ _ (mayBin g op x y) (binP op x y) τ hs
      (fun h0 o z ho => bl_Bin1 og oa ob oo g op x y tx ty _ (check_fine hs h0) hxl hyl (kept ho h1) (kept ho h2) (kept ho h3) (kept ho h4))
      (fun h0 hm o z bo ho hb hne => by
        have hb' : upd τ o z bo = none := by simp [upd, hne, hb]
        refine (bl_Bin2 bo oo oa ob ⟨g, 0⟩ op x y tx ty _ (by simp [upd]) hs (two_of hm hx hy hxl hyl) (kept hb' (kept ho h2)) (kept hb' (kept ho h3)) (kept hb' (kept ho h4))).mono fun r σ' ⟨q1, q2⟩ => ⟨q1, ?_⟩
        rw [q2, upd_upd])
  obtain ⟨Z, hZ⟩ : ∃ Z, Bin g op x y = Z := ⟨_, rfl⟩
  rw [hZ] at key ⊢
  obtain ⟨z1, z2, z3⟩ := Z
  simp only at key ⊢
  clear hZ hs hx hy hxl hyl
  refine calls_x mixed Tryz.func25 b25 n25 rfl q25 (by simp) ?_; unfold c25 r25
  repeat' (first | simp (maxDischargeDepth := 9) -implicitDefEqProofs -dsimp only [go_sem, seval, *] | ((with_reducible refine Zt (fun oF hoF hnF hnF' => ?_)); (try simp only [upd_none, ne_eq, not_and] at hoF)) | ((with_reducible apply ACalls.one1); (focus ((first | with_reducible refine key _ _ _ _ _ ?_ ?_ ?_ ?_) <;> (first | (simp (maxDischargeDepth := 9) -implicitDefEqProofs -dsimp only [go_sem, seval, *]; done) | omega))); (focus (first | trivial | with_reducible exact rfl | (simp (maxDischargeDepth := 9) -implicitDefEqProofs -dsimp only [go_sem, seval]; done)))))
  refine fin_eq ?_
  (repeat' (first | simp (maxDischargeDepth := 9) -implicitDefEqProofs -dsimp only [go_sem, seval, encW, *])) <;> (repeat' refine And.intro ?_ ?_) <;> (first | omega | rfl | assumption | skip)
end Go.Proofs.YtbbihmmobfmadaaGreat

namespace Go.Proofs.YtbbihmmobfmadaaGreat
open Abs Fil Fil.Bl A
set_option maxHeartbeats 2000000 in
theorem bl_Num (w : Int) (v : Nat) (hv : v < 18446744073709551616) (σ : Sig) :
    ACalls Tryz.prog 23 [.int .i64 w, .int .u64 v] σ (fun r σ' => r = .ret (.tup [encW (if bitsN w v then numW w v else []) .no, .int .i64 (if bitsN w v then 0 else 1)]) ∧ σ' = σ) := by
  have c1 := fun τ => bv_Check w v hv τ
  have hb : bitsN w v = decide (1 ≤ w ∧ w ≤ 64 ∧ v ≤ maskN w) := rfl
  obtain ⟨B, hB⟩ : ∃ B, bitsN w v = B := ⟨_, rfl⟩
  rw [hB] at c1 hb ⊢
  clear hB
  cases B with
  | false =>
    rw [show (if (false : Bool) = true then (0 : Int) else 1) = 1 from rfl] at c1
    rw [if_neg (by simp), if_neg (by simp)]
    refine calls_x mixed Tryz.func23 b23 n23 rfl q23 (by simp) ?_; unfold c23 r23
    repeat' (first | simp (maxDischargeDepth := 9) -implicitDefEqProofs -dsimp only [go_sem, seval, *] | simp (disch := omega) only [wrap64] | ((with_reducible apply ACalls.one1); (focus ((first | with_reducible refine c1 _) <;> (first | (simp (maxDischargeDepth := 9) -implicitDefEqProofs -dsimp only [go_sem, seval, *]; done) | omega))); (focus (first | trivial | with_reducible exact rfl | (simp (maxDischargeDepth := 9) -implicitDefEqProofs -dsimp only [go_sem, seval]; done)))))
    refine fin_eq ?_
    (repeat' (first | simp (maxDischargeDepth := 9) -implicitDefEqProofs -dsimp only [go_sem, seval, encW, List.map_nil, *] | simp (disch := omega) only [wrap64])) <;> (repeat' refine And.intro ?_ ?_) <;> (first | omega | rfl | assumption | skip)
  | true =>
    rw [show (if (true : Bool) = true then (0 : Int) else 1) = 0 from rfl] at c1
    rw [if_pos rfl, if_pos rfl]
    have hb' := of_decide_eq_true hb.symm
    obtain ⟨n, rfl⟩ : ∃ n : Nat, w = n := ⟨w.toNat, by omega⟩
    have hn : n ≤ 64 := by omega
    clear hb
    refine ACalls.virt (callable_of Tryz.func23 b23 n23) 1 (fun oV1 hoV1 hnV1 hnV1' => ?_); (try simp only [upd_none, ne_eq, not_and] at hoV1); refine calls_x mixed Tryz.func23 b23 n23 rfl q23 (by simp) ?_; unfold c23 r23
    repeat' (first | simp (maxDischargeDepth := 9) -implicitDefEqProofs -dsimp only [go_sem, seval, *] | simp (disch := omega) only [wrap64] | ((with_reducible apply ACalls.one1); (focus ((first | with_reducible refine c1 _) <;> (first | (simp (maxDischargeDepth := 9) -implicitDefEqProofs -dsimp only [go_sem, seval, *]; done) | omega))); (focus (first | trivial | with_reducible exact rfl | (simp (maxDischargeDepth := 9) -implicitDefEqProofs -dsimp only [go_sem, seval]; done)))))
    refine loop_rule (fun i : Nat => [(15, some (.int .i64 i)), (14, some (.int .i64 n)), (4, some (encW ((List.range i).map fun i => (v : Int) / 2 ^ i % 2) (.own oV1))), (1, some (.int .u64 v)), (5, some (.int .i64 0))]) (fun i => upd σ oV1 (.grow 1 i)) (fun i => i ≤ n) (fun i => n - i) 0 ?_ ?_
    · (repeat' (first | simp (maxDischargeDepth := 9) -implicitDefEqProofs -dsimp only [go_sem, seval, encW, List.range_zero, List.map_nil, *] | simp (disch := omega) only [wrap64])) <;> (repeat' refine And.intro ?_ ?_) <;> (first | omega | rfl | assumption | skip)
    intro i hi
    by_cases hlt : i < n
    · have hmn : Nat.min i 64 = i := Nat.min_eq_left (by omega)
      have hfd := fdivU v i
      have hdv : v / 2 ^ i ≤ v := Nat.div_le_self _ _
      have hor := and1U (v / 2 ^ i) (by omega)
      have hr : (List.range (i + 1)).map (fun i => (v : Int) / 2 ^ i % 2) = (List.range i).map (fun i => (v : Int) / 2 ^ i % 2) ++ [((v / 2 ^ i % 2 : Nat) : Int)] := by
        rw [List.range_succ, List.map_append]
        simp
      have hlt2 : v / 2 ^ i % 2 < 2 := Nat.mod_lt _ (by omega)
      have hm2 : (v : Int) / 2 ^ i % 2 = ((v / 2 ^ i % 2 : Nat) : Int) := by simp
      obtain ⟨D, hD⟩ : ∃ D, v / 2 ^ i = D := ⟨_, rfl⟩
      rw [hD] at hfd hor hr hlt2 hm2
      obtain ⟨M, hM⟩ : ∃ M, D % 2 = M := ⟨_, rfl⟩
      rw [hM] at hor hr hlt2 hm2
      have hcv : IntKind.i64.wrap (M : Int) = (M : Int) := wrap64 _ (by omega) (by omega)
      have hbd : (i + 1) * 8 ≤ 35184372088832 := by omega
      have hni : ¬ (i : Int) < 0 := by omega
      clear hD hM hdv
      repeat' (first | simp (maxDischargeDepth := 9) -implicitDefEqProofs -dsimp only [go_sem, seval, List.length_map, List.length_range, *] | simp (disch := omega) only [wrap64])
      refine loop_next _ _ _ _ (i + 1) ?_; (repeat' (first | simp (maxDischargeDepth := 9) -implicitDefEqProofs -dsimp only [go_sem, seval,  encW, hr, List.map_append, List.map_cons, List.map_nil, *] | simp (disch := omega) only [wrap64])) <;> (repeat' refine And.intro ?_ ?_) <;> (first | omega | rfl | assumption | skip)
    · have : i = n := by omega
      subst this
      repeat' (first | simp (maxDischargeDepth := 9) -implicitDefEqProofs -dsimp only [go_sem, seval, *] | simp (disch := omega) only [wrap64])
      refine fin_eq ?_
      (repeat' (first | simp (maxDischargeDepth := 9) -implicitDefEqProofs -dsimp only [go_sem, seval, encW, numW, Int.toNat_natCast, *] | simp (disch := omega) only [wrap64])) <;> (repeat' refine And.intro ?_ ?_) <;> (first | omega | rfl | assumption | skip)
theorem bl_Un1 (og oa oo : Nat) (g : Aig) (op : Int) (x : List Int) (tx : Tok) (σ : Sig) (hf : Fine g) (hx : x.length ≤ 1000000)
    (h1 : σ og = some (.cells (aigL g))) (h2 : σ oa = some (.cells [encW x tx])) (h4 : σ oo = some (.cells [.int .i64 op])) :
    ACalls Tryz.prog 50 [.ptr og 0, .ptr oa 0, .ptr oo 0] σ (fun r σ' => r = .ret (.bool (mayUn g op x)) ∧ σ' = σ) := by
  have c1 := fun τ => bl_word g x tx τ hf hx
  have hM : mayUn g op x = (word g x && decide (1 ≤ op ∧ op ≤ 6 ∧ (op ≠ 6 ∨ x.length = 1))) := rfl
  obtain ⟨M, hMM⟩ : ∃ M, mayUn g op x = M := ⟨_, rfl⟩
  rw [hMM] at hM ⊢
  obtain ⟨X, hX⟩ : ∃ X, word g x = X := ⟨_, rfl⟩
  rw [hX] at c1 hM
  clear hMM hX hf
  cases X with
  | false =>
    simp only [Bool.false_and] at hM
    subst hM
    refine calls_x mixed Tryz.func50 b50 n50 rfl q50 (by simp) ?_; unfold c50 r50
    repeat' (first | simp (maxDischargeDepth := 9) -implicitDefEqProofs -dsimp only [go_sem, seval, *] | ((with_reducible apply ACalls.one1); (focus ((first | with_reducible refine c1 _) <;> (first | (simp (maxDischargeDepth := 9) -implicitDefEqProofs -dsimp only [go_sem, seval, *]; done) | omega))); (focus (first | trivial | with_reducible exact rfl | (simp (maxDischargeDepth := 9) -implicitDefEqProofs -dsimp only [go_sem, seval]; done)))))
    refine fin_eq ?_
    (repeat' (first | simp (maxDischargeDepth := 9) -implicitDefEqProofs -dsimp only [go_sem, seval, *])) <;> (repeat' refine And.intro ?_ ?_) <;> (first | omega | rfl | assumption | skip)
  | true =>
    simp only [Bool.true_and] at hM
    by_cases o1 : 1 ≤ op
    case neg =>
      have e : M = false := by rw [hM, decide_eq_false_iff_not]; omega
      subst e
      clear hM
      refine calls_x mixed Tryz.func50 b50 n50 rfl q50 (by simp) ?_; unfold c50 r50
      repeat' (first | simp (maxDischargeDepth := 9) -implicitDefEqProofs -dsimp only [go_sem, seval, gt_iff_lt, *] | ((with_reducible apply ACalls.one1); (focus ((first | with_reducible refine c1 _) <;> (first | (simp (maxDischargeDepth := 9) -implicitDefEqProofs -dsimp only [go_sem, seval, *]; done) | omega))); (focus (first | trivial | with_reducible exact rfl | (simp (maxDischargeDepth := 9) -implicitDefEqProofs -dsimp only [go_sem, seval]; done)))))
      refine fin_eq ?_
      (repeat' (first | simp (maxDischargeDepth := 9) -implicitDefEqProofs -dsimp only [go_sem, seval, *])) <;> (repeat' refine And.intro ?_ ?_) <;> (first | omega | rfl | assumption | skip)
    by_cases o2 : op ≤ 6
    case neg =>
      have e : M = false := by rw [hM, decide_eq_false_iff_not]; omega
      subst e
      clear hM
      refine calls_x mixed Tryz.func50 b50 n50 rfl q50 (by simp) ?_; unfold c50 r50
      repeat' (first | simp (maxDischargeDepth := 9) -implicitDefEqProofs -dsimp only [go_sem, seval, gt_iff_lt, *] | ((with_reducible apply ACalls.one1); (focus ((first | with_reducible refine c1 _) <;> (first | (simp (maxDischargeDepth := 9) -implicitDefEqProofs -dsimp only [go_sem, seval, *]; done) | omega))); (focus (first | trivial | with_reducible exact rfl | (simp (maxDischargeDepth := 9) -implicitDefEqProofs -dsimp only [go_sem, seval]; done)))))
      refine fin_eq ?_
      (repeat' (first | simp (maxDischargeDepth := 9) -implicitDefEqProofs -dsimp only [go_sem, seval, *])) <;> (repeat' refine And.intro ?_ ?_) <;> (first | omega | rfl | assumption | skip)
    by_cases o3 : op = 6
    · have e : M = ((x.length : Int) == 1) := by rw [hM, Bool.eq_iff_iff, decide_eq_true_iff, beq_iff_eq]; omega
      subst e o3
      clear hM
      refine calls_x mixed Tryz.func50 b50 n50 rfl q50 (by simp) ?_; unfold c50 r50
      repeat' (first | simp (maxDischargeDepth := 9) -implicitDefEqProofs -dsimp only [go_sem, seval, gt_iff_lt, List.length_map, *] | ((with_reducible apply ACalls.one1); (focus ((first | with_reducible refine c1 _) <;> (first | (simp (maxDischargeDepth := 9) -implicitDefEqProofs -dsimp only [go_sem, seval, *]; done) | omega))); (focus (first | trivial | with_reducible exact rfl | (simp (maxDischargeDepth := 9) -implicitDefEqProofs -dsimp only [go_sem, seval]; done)))))
      refine fin_eq ?_
      (repeat' (first | simp (maxDischargeDepth := 9) -implicitDefEqProofs -dsimp only [go_sem, seval, *])) <;> (repeat' refine And.intro ?_ ?_) <;> (first | omega | rfl | assumption | skip)
    · have e : M = true := by rw [hM, decide_eq_true_iff]; omega
      have b3 : (op != 6) = true := by simpa using o3
      subst e
      clear hM o3
      refine calls_x mixed Tryz.func50 b50 n50 rfl q50 (by simp) ?_; unfold c50 r50
      repeat' (first | simp (maxDischargeDepth := 9) -implicitDefEqProofs -dsimp only [go_sem, seval, gt_iff_lt, List.length_map, *] | ((with_reducible apply ACalls.one1); (focus ((first | with_reducible refine c1 _) <;> (first | (simp (maxDischargeDepth := 9) -implicitDefEqProofs -dsimp only [go_sem, seval, *]; done) | omega))); (focus (first | trivial | with_reducible exact rfl | (simp (maxDischargeDepth := 9) -implicitDefEqProofs -dsimp only [go_sem, seval]; done)))))
      refine fin_eq ?_
      (repeat' (first | simp (maxDischargeDepth := 9) -implicitDefEqProofs -dsimp only [go_sem, seval, *])) <;> (repeat' refine And.intro ?_ ?_) <;> (first | omega | rfl | assumption | skip)
theorem bl_Un2 (bo oo oa : Nat) (b : Bu) (op : Int) (x : List Int) (tx : Tok) (σ : Sig) (h : σ bo = some (buC b)) (hs : Wf b.g) (hx : ∀ z ∈ x, I64 z) (h1 : 1 ≤ x.length) (hl : x.length ≤ 1000000) (ho : 1 ≤ op ∧ op ≤ 6) (h6 : op = 6 → x.length = 1) (h2 : σ oa = some (.cells [encW x tx])) (h4 : σ oo = some (.cells [.int .i64 op])) :
    ACalls Tryz.prog 51 [.ptr bo 0, .ptr oo 0, .ptr oa 0] σ (fun r σ' => r = .ret (encW ((unP op x).run b).1 .no) ∧ σ' = upd σ bo (buC ((unP op x).run b).2)) := by
  have c1 := fun τ h => bu_un bo b op x tx τ h hs hx h1 hl ho h6
  obtain ⟨Z, hZ⟩ : ∃ Z, (unP op x).run b = Z := ⟨_, rfl⟩
  rw [hZ] at c1 ⊢
  clear hZ hs hx h1 hl ho h6
  refine calls_x mixed Tryz.func51 b51 n51 rfl q51 (by simp) ?_; unfold c51 r51
  repeat' (first | simp (maxDischargeDepth := 9) -implicitDefEqProofs -dsimp only [go_sem, seval, *] | ((with_reducible apply ACalls.one1); (focus ((first | with_reducible refine c1 _ ?_) <;> (first | (simp (maxDischargeDepth := 9) -implicitDefEqProofs -dsimp only [go_sem, seval, *]; done) | omega))); (focus (first | trivial | with_reducible exact rfl | (simp (maxDischargeDepth := 9) -implicitDefEqProofs -dsimp only [go_sem, seval]; done)))))
  refine fin_eq ?_
  (repeat' (first | simp (maxDischargeDepth := 9) -implicitDefEqProofs -dsimp only [go_sem, seval, encW, *])) <;> (repeat' refine And.intro ?_ ?_) <;> (first | omega | rfl | assumption | skip)
set_option maxHeartbeats 2000000 in
theorem bl_Un (g : Aig) (op : Int) (x : List Int) (tx : Tok) (σ : Sig) (hs : Wf g) (hx : ∀ z ∈ x, I64 z) (hxl : x.length ≤ 1000000) :
    ACalls Tryz.prog 19 [encAig g, .int .i64 op, encW x tx] σ (fun r σ' => r = .ret (.tup [encAig (Un g op x).1, encW (Un g op x).2.1 .no, .int .i64 (Un g op x).2.2]) ∧ σ' = σ) := by
  have key : ∀ τ og oo oa, τ og = some (.cells (aigL g)) → τ oa = some (.cells [encW x tx]) → τ oo = some (.cells [.int .i64 op]) →
      ACalls Tryz.prog 37 [encAig g, .fn 50 [] [.ptr og 0, .ptr oa 0, .ptr oo 0], .fn 51 [] [.ptr oo 0, .ptr oa 0]] τ (fun r σ' => r = .ret (.tup [encAig (Un g op x).1, encW (Un g op x).2.1 .no, .int .i64 (Un g op x).2.2]) ∧ σ' = τ) := fun τ og oo oa h1 h2 h4 =>
    bl_made g _ _ _ _ (mayUn g op x) (unP op x) τ hs
      (fun h0 o z ho => bl_Un1 og oa oo g op x tx _ (check_fine hs h0) hxl (kept ho h1) (kept ho h2) (kept ho h4))
      (fun h0 hm o z bo ho hb hne => by
        have hb' : upd τ o z bo = none := by simp [upd, hne, hb]
        unfold mayUn word at hm
        simp only [Bool.and_eq_true, decide_eq_true_eq] at hm
        refine (bl_Un2 bo oo oa ⟨g, 0⟩ op x tx _ (by simp [upd]) hs hx (by omega) hxl (by omega) (by omega) (kept hb' (kept ho h2)) (kept hb' (kept ho h4))).mono fun r σ' ⟨q1, q2⟩ => ⟨q1, ?_⟩
        rw [q2, upd_upd])
  obtain ⟨Z, hZ⟩ : ∃ Z, Un g op x = Z := ⟨_, rfl⟩
  rw [hZ] at key ⊢
  obtain ⟨z1, z2, z3⟩ := Z
  simp only at key ⊢
  clear hZ hs hx hxl
  refine calls_x mixed Tryz.func19 b19 n19 rfl q19 (by simp) ?_; unfold c19 r19
  repeat' (first | simp (maxDischargeDepth := 9) -implicitDefEqProofs -dsimp only [go_sem, seval, *] | ((with_reducible refine Zt (fun oF hoF hnF hnF' => ?_)); (try simp only [upd_none, ne_eq, not_and] at hoF)) | ((with_reducible apply ACalls.one1); (focus ((first | with_reducible refine key _ _ _ _ ?_ ?_ ?_) <;> (first | (simp (maxDischargeDepth := 9) -implicitDefEqProofs -dsimp only [go_sem, seval, *]; done) | omega))); (focus (first | trivial | with_reducible exact rfl | (simp (maxDischargeDepth := 9) -implicitDefEqProofs -dsimp only [go_sem, seval]; done)))))
  refine fin_eq ?_
  (repeat' (first | simp (maxDischargeDepth := 9) -implicitDefEqProofs -dsimp only [go_sem, seval, encW, *])) <;> (repeat' refine And.intro ?_ ?_) <;> (first | omega | rfl | assumption | skip)
end Go.Proofs.YtbbihmmobfmadaaGreat

namespace Go.Proofs.YtbbihmmobfmadaaGreat
open Abs Fil Fil.Bl A Go.RowKit Go.Shelf Go.Lib
def ren212 : Ren where
  f := fun x => match x with
    | 212 => 171
    | 263 => 218
    | 264 => 219
    | n => n
  t := fun x => match x with
    | 46 => 195
    | 51 => 227
    | 53 => 33
    | 146 => 228
    | 148 => 230
    | n => n
  g := fun x => x
theorem body212 : Tryz.f171 = Body.n212 ren212 := by kernel_rfl
theorem body263 : Tryz.f218 = Body.n263 ren212 := by kernel_rfl
theorem body264 : Tryz.f219 = Body.n264 ren212 := by kernel_rfl
theorem lays212 : Lays.n212 Tryz.prog ren212 :=
  { mixed := by kernel_rfl, f212 := Eq.trans Tryz.func171 (congrArg some body212), f263 := Eq.trans Tryz.func218 (congrArg some body263), f264 := Eq.trans Tryz.func219 (congrArg some body264),
    t46 := Tryz.underlying195, a46 := Tryz.isAgg195, z46 := Tryz.sizeOf195, v46 := Tryz.zeroValue195,
    t51 := Tryz.underlying227, a51 := Tryz.isAgg227, z51 := Tryz.sizeOf227, v51 := Tryz.zeroValue227,
    t53 := Tryz.underlying33, a53 := Tryz.isAgg33, z53 := Tryz.sizeOf33, v53 := Tryz.zeroValue33,
    t146 := Tryz.underlying228, a146 := Tryz.isAgg228, z146 := Tryz.sizeOf228, v146 := Tryz.zeroValue228,
    t148 := Tryz.underlying230, a148 := Tryz.isAgg230, z148 := Tryz.sizeOf230, v148 := Tryz.zeroValue230 }
theorem mul_run (x y : Nat) (hx : x < 18446744073709551616) (hy : y < 18446744073709551616) (w : World) :
    CallsIn Fence.wide 7 Tryz.prog 171 #[.int .u64 x, .int .u64 y] w fun e w' => e = .returned (.tuple #[.int .u64 ((x * y / 18446744073709551616 : Nat) : Int), .int .u64 ((x * y % 18446744073709551616 : Nat) : Int)]) ∧ w' = w :=
  callsIn_wide.2 (Any.bits_Mul lays212 x y hx hy w)
theorem make_run (c : Nat) (hc : c ≤ 64) (W : World) : ∃ Z : Array Value, Z.size = c ∧ (Instr.makeSlice 29 (.int .i64 (c : Int)) (.int .i64 (c : Int))).run Tryz.prog W = .ok (.slice (some ⟨W.heap.size, 0, none⟩) c c) (W.alloc (.cells Z 3)) := by
  obtain ⟨i, h1, h2, h3, h4⟩ : ∃ i, Tryz.prog.info? 3 = some i ∧ i.size = 1 ∧ i.bytes = 8 ∧ i.zero = some (.int .i64 0) := by
    cases h : Tryz.prog.info? 3 with
    | none => exact absurd (show (Tryz.prog.info? 3).isSome = true by kernel_rfl) (by rw [h]; simp)
    | some i =>
      refine ⟨i, rfl, ?_, ?_, ?_⟩
      · have : (Tryz.prog.info? 3).map (·.size) = some 1 := by kernel_rfl
        rw [h] at this; simpa using this
      · have : (Tryz.prog.info? 3).map (·.bytes) = some 8 := by kernel_rfl
        rw [h] at this; simpa using this
      · have : (Tryz.prog.info? 3).bind (·.zero) = some (.int .i64 0) := by kernel_rfl
        rw [h] at this; simpa using this
  have := run_makeSlice (P := Tryz.prog) W 29 3 i (.int .i64 0) Tryz.underlying29 h1 h4 .i64 .i64 c c (by omega) (Int.le_refl _) (by rw [h2]; simp; omega) (by rw [h3]; omega) (by omega)
  simp only [Int.toNat_natCast, h2, Nat.mul_one] at this
  exact ⟨_, size_madeCells _ _, this⟩
section walks
attribute [local go_sem] Oper.semAt_some
set_option maxRecDepth 100000 in
set_option maxHeartbeats 2000000 in
theorem repeat0_in (b off cap : Nat) (W : World) :
    CallsIn Fence.wide 8 Tryz.prog 107 #[.slice (some ⟨b, off, none⟩) 1 cap, .int .i64 0] W fun e W' => e = .returned (.slice (some ⟨W.heap.size, 0, none⟩) 0 0) ∧ Below W.heap.size W W' ∧ W'.heap.size = W.heap.size + 1 ∧ ∃ Z t, W'.heap[W.heap.size]? = some (.cells Z t (0, 0)) := by
  have hmul := mul_run 1 0 (by omega) (by omega) W
  have e1 : 1 * 0 / 18446744073709551616 = 0 := by omega
  have e2 : 1 * 0 % 18446744073709551616 = 0 := by omega
  rw [e1, e2] at hmul
  obtain ⟨Z, hZ, hmake⟩ := make_run 0 (by omega) W
  obtain ⟨W1, hW1⟩ : ∃ W1, W.alloc (.cells Z 3) = W1 := ⟨_, rfl⟩
  rw [hW1] at hmake
  have hB1 : Below W.heap.size W W1 := by rw [← hW1]; exact (Below.refl _ _).alloc (Nat.le_refl _) _
  have hs1 : W1.heap.size = W.heap.size + 1 := by rw [← hW1]; simp
  have hr1 : W1.heap[W.heap.size]? = some (.cells Z 3 (0, 0)) := by rw [← hW1]; exact World.alloc_heap_new _ _
  obtain ⟨B, hB⟩ : ∃ B, W.heap.size = B := ⟨_, rfl⟩
  rw [hB] at hmake hB1 hs1 hr1 ⊢
  have hcp1 := run_copy_none (P := Tryz.prog) W1 29 29 3 3 (some ⟨B, 0, none⟩) (some ⟨b, off, none⟩) 0 0 1 cap Tryz.underlying29 (by kernel_rfl) (by rfl)
  clear hW1 hZ
  simp only [Int.natCast_zero] at hmul hmake
  refine callsIn_of_wp Tryz.func107 rfl trivial ?_ rfl
  simp only [Tryz.ntmps107, List.size_toArray, List.length_cons, List.length_nil, Nat.reduceAdd, Nat.reduceSub, Array.replicate_succ, Array.replicate_zero, List.push_toArray, List.append_toArray, List.nil_append, List.cons_append]
  gi_wp2
  refine ⟨trivial, CallsIn.mono hmul ?_⟩
  rintro e w' ⟨rfl, hww⟩
  rw [hww]
  clear hww w'
  gi_wp2
  gi_loopw [8] (fun i wr => i = .int .i64 0 ∧ wr = W1) (fun _ _ => 0)
  case atStart => exact ⟨rfl, rfl⟩
  case round =>
    obtain ⟨rfl, rfl⟩ := hrel
    gi_wp2
    go_ret
    exact ⟨rfl, hB1, hs1, _, _, hr1⟩
set_option maxRecDepth 100000 in
set_option maxHeartbeats 4000000 in
theorem repeat1_in (b off cap : Nat) (m : Int) (c : Nat) (hc : 1 ≤ c ∧ c ≤ 64) (W : World) (hcell : W.cell? ⟨b, off, none⟩ = some (.int .i64 m)) :
    CallsIn Fence.wide 8 Tryz.prog 107 #[.slice (some ⟨b, off, none⟩) 1 cap, .int .i64 c] W fun e W' => e = .returned (.slice (some ⟨W.heap.size, 0, none⟩) c c) ∧ Below W.heap.size W W' ∧ W'.heap.size = W.heap.size + 1 ∧ ∃ t, W'.heap[W.heap.size]? = some (.cells (Array.replicate c (.int .i64 m)) t (0, 0)) := by
  have hmul := mul_run 1 c (by omega) (by omega) W
  have e1 : 1 * c / 18446744073709551616 = 0 := by omega
  have e2 : 1 * c % 18446744073709551616 = c := by omega
  rw [e1, e2] at hmul
  obtain ⟨Z, hZ, hmake⟩ : ∃ Z : Array Value, Z.size = c ∧ (Instr.makeSlice 29 (.int .i64 (c : Int)) (.int .i64 (c : Int))).run Tryz.prog W = .ok (.slice (some ⟨W.heap.size, 0, none⟩) c c) (W.alloc (.cells Z 3)) := make_run c (by omega) W
  obtain ⟨W1, hW1⟩ : ∃ W1, W.alloc (.cells Z 3) = W1 := ⟨_, rfl⟩
  rw [hW1] at hmake
  have hB1 : Below W.heap.size W W1 := by rw [← hW1]; exact (Below.refl _ _).alloc (Nat.le_refl _) _
  have hs1 : W1.heap.size = W.heap.size + 1 := by rw [← hW1]; simp
  have hr1 : W1.heap[W.heap.size]? = some (.cells Z 3 (0, 0)) := by rw [← hW1]; exact World.alloc_heap_new _ _
  have hblt : b < W.heap.size := block_lt_of_cell hcell
  have hc1 : W1.cell? ⟨b, off, none⟩ = some (.int .i64 m) := (hB1.cell (p := ⟨b, off, none⟩) hblt).trans hcell
  obtain ⟨B, hB⟩ : ∃ B, W.heap.size = B := ⟨_, rfl⟩
  rw [hB] at hmake hB1 hs1 hr1 hblt ⊢
  have hcp1 := run_copy_row (P := Tryz.prog) W1 29 29 3 3 B 0 c c ⟨b, off, none⟩ 1 cap Z 3 [.int .i64 m] Tryz.underlying29 (by kernel_rfl) hr1 (by show 1 = min 1 c; omega) (fun j v h => by
    cases j with
    | zero => simp at h; subst h; simpa [Addr.add] using hc1
    | succ j => simp at h) (by simp; omega) (by simp [Value.oneCell'])
  simp only [List.length_singleton] at hcp1
  clear hW1
  refine callsIn_of_wp Tryz.func107 rfl trivial ?_ rfl
  simp only [Tryz.ntmps107, List.size_toArray, List.length_cons, List.length_nil, Nat.reduceAdd, Nat.reduceSub, Array.replicate_succ, Array.replicate_zero, List.push_toArray, List.append_toArray, List.nil_append, List.cons_append]
  gi_wp2
  refine ⟨trivial, CallsIn.mono hmul ?_⟩
  rintro e w' ⟨rfl, hww⟩
  rw [hww]
  clear hww w'
  gi_wp2
  have hmix : Tryz.prog.follows .mixedOrders = true := mixed
  gi_loopw [8] (fun i wr => ∃ n : Nat, 1 ≤ n ∧ n ≤ c ∧ i = .int .i64 n ∧ Below B W wr ∧ wr.heap.size = B + 1 ∧ wr.heap[B]? = some (.cells (List.replicate n (Value.int .i64 m) ++ Z.toList.drop n).toArray 3 (0, 0)))
    (fun i _ => c - (intOf i).toNat)
  case atStart =>
    refine ⟨1, by omega, by omega, rfl, below_setRow hB1 (Nat.le_refl _) _, ?_, ?_⟩
    · simp [World.setRow, hs1]
    · rw [setRow_heap _ _ _ _ _ _ hr1]
      simp
  case round =>
    obtain ⟨n, hn1, hnc, rfl, hBw, hsw, hrw⟩ := hrel
    by_cases hlt : n < c
    · obtain ⟨k, hk⟩ : ∃ k, min n (c - n) = k := ⟨_, rfl⟩
      have hcp2 := run_copy_row (P := Tryz.prog) wr.drew 29 29 3 3 B n (c - n) (c - n) ⟨B, 0, none⟩ n c (List.replicate n (Value.int .i64 m) ++ Z.toList.drop n).toArray 3 (List.replicate k (.int .i64 m)) Tryz.underlying29 (by kernel_rfl) hrw (by rw [List.length_replicate]; exact hk.symm) (fun j v h => by
        have hj : j < k := by
          have := (List.getElem?_eq_some_iff.1 h).1
          simpa using this
        have hv : v = .int .i64 m := by
          rw [List.getElem?_replicate, if_pos hj] at h
          simpa using h.symm
        subst hv
        have hadd : (⟨B, 0, none⟩ : Addr).add j = ⟨B, j, none⟩ := by unfold Addr.add; split <;> simp_all
        rw [hadd]
        show wr.cell? ⟨B, j, none⟩ = _
        simp only [World.cell?, hrw]
        have : (List.replicate n (Value.int .i64 m) ++ Z.toList.drop n)[j]? = some (.int .i64 m) := by
          rw [List.getElem?_append_left (by simp; omega), List.getElem?_replicate, if_pos (by omega)]
        simpa using this) (by simp [hZ]; omega) (fun v hv => by rw [(List.mem_replicate.1 hv).2]; rfl)
      simp only [List.length_replicate] at hcp2
      gi_wp2
      gi_region
      go_roundw
      case rel =>
        refine ⟨_, _, _, _, _, _, _, _, _, _, _, _, _, _, ⟨n + k, by omega, by omega, by simp, below_setRow hBw.drew (Nat.le_refl _) _, ?_, ?_⟩, rfl⟩
        · rw [setRow_size]; exact hsw
        · rw [setRow_heap wr.drew _ _ _ _ _ hrw]
          have e : List.drop (n + k) (List.replicate n (Value.int .i64 m) ++ Z.toList.drop n) = Z.toList.drop (n + k) := by
            rw [List.drop_append, List.length_replicate, Nat.add_sub_cancel_left, List.drop_drop, List.drop_eq_nil_of_le (by simp), List.nil_append]
          rw [e]
      case measure => simp [intOf]; omega
    · obtain rfl : n = c := by omega
      gi_wp2
      go_ret
      refine ⟨rfl, hBw, hsw, 3, ?_⟩
      rw [hrw, List.drop_eq_nil_of_le (by simp [hZ])]
      simp
end walks
theorem pushed_of {w w' : World} {ob : Obj} (h : Below w.heap.size w w') (hs : w'.heap.size = w.heap.size + 1) (ho : w'.heap[w.heap.size]? = some ob) : Pushed w w' ob := by
  refine ⟨h.os, h.tape, h.output, Array.ext_getElem? fun i => ?_⟩
  rcases Nat.lt_trichotomy i w.heap.size with hi | hi | hi
  · rw [h.block i hi, Array.getElem?_push, if_neg (by omega)]
  · subst hi; rw [ho]; simp
  · rw [Array.getElem?_eq_none (by omega), Array.getElem?_eq_none (by simp; omega)]
theorem sl_repeat (m : Int) (t : Tok) (c : Nat) (hc : c ≤ 64) (σ : Sig) :
    ACalls Tryz.prog 107 [encW [m] t, .int .i64 c] σ (fun r σ' => r = .ret (encW (List.replicate c m) .no) ∧ σ' = σ) := by
  refine ⟨by kernel_rfl, fun S K w vals hS hr hs => ?_⟩
  obtain ⟨v0, r, hv, h1, h2⟩ := hr.cons_inv
  obtain ⟨v1, r', rfl, h3, h4⟩ := h2.cons_inv
  have hr0 : r' = [] := by have := h4.1; simpa using this.symm
  subst hr0
  obtain rfl := array_two hv
  obtain rfl := rel_int h3
  rcases rel_slice h1 with ⟨a, cap, rfl, e1, _⟩ | ⟨b, off, cap, sz, u, rfl, u1, u2, u3, _, _⟩
  · simp at e1
  have hcl : K.claim b off = some (.int .i64 m) := by
    have h5 := u2 0 (by simp [flat, cellsA])
    have h6 := u3 0 (by simp [flat, cellsA])
    have h7 : Rel K (.int .i64 m) (u 0) := by simpa [flat, cellsA] using h6
    rw [rel_int h7] at h5
    simpa using h5
  by_cases hc0 : c = 0
  · subst hc0
    refine (callsIn_wide.1 (repeat0_in b off cap w)).mono ?_
    rintro e w' ⟨rfl, h5, h6, Z, tt, h7⟩
    obtain ⟨k1, k2⟩ := hs.push (pushed_of h5 h6 h7) rfl (fun _ => none) (fun i v e => by simp at e)
    exact ⟨_, .ret (encW [] .no), σ, Gh.leS_own k1 rfl, k2, .sl0 _ _ _ (.inl rfl), rfl, rfl⟩
  · refine (callsIn_wide.1 (repeat1_in b off cap m c (by omega) w (hs.claim b off _ hcl))).mono ?_
    rintro e w' ⟨rfl, h5, h6, tt, h7⟩
    obtain ⟨k1, k2⟩ := hs.push (pushed_of h5 h6 h7) rfl (fun i => if i < c then some (.int .i64 m) else none) (fun i v e => by
      split at e <;> simp at e
      rename_i hi
      subst e
      exact ⟨by simp [World.cell?, h7, hi], rfl⟩)
    have hfl := flat_ints (List.replicate c m)
    refine ⟨_, .ret (encW (List.replicate c m) .no), σ, Gh.leS_own k1 rfl, k2, ?_, rfl, rfl⟩
    have hlen : ((List.replicate c m).map fun x => AV.int .i64 x).length = c := by simp
    show Rel _ (encW (List.replicate c m) .no) _
    have := Rel.slice (K := K.claimed w.heap.size fun i => if i < c then some (.int .i64 m) else none) ((List.replicate c m).map fun x => AV.int .i64 x) .no w.heap.size 0 c 1 (fun _ => .int .i64 m) (fun x hx => by
      obtain ⟨y, _, rfl⟩ := List.mem_map.1 hx; rfl) (fun i hi => by
      rw [hfl, hlen] at hi
      simp [Gh.claimed, hi]) (fun i hi => by
      rw [hfl, hlen] at hi
      simp only [hfl, List.getElem_map, List.getElem_replicate]
      exact .int _ _) trivial (by rw [hlen]; exact Nat.le_refl _)
    rw [hlen] at this
    exact this
end Go.Proofs.YtbbihmmobfmadaaGreat

namespace Go.Proofs.YtbbihmmobfmadaaGreat
open Abs Fil Fil.Bl A
theorem no_listB {P : Program} {f : FuncId} {args : List AV} {σ : Sig} {l : List AV} {sz n : Nat} (h : ACalls P f args σ (fun r σ' => (l = [] ∧ r = .ret (.slice [] .nil) ∧ σ' = σ) ∨ NewO σ (fun o => .slice l (.own o)) (.grow sz n) r σ')) :
    ACalls P f args σ (fun r σ' => r = .ret (.slice l .no) ∧ σ' = σ) := by
  refine h.view fun r s h => ?_
  rcases h with ⟨rfl, rfl, rfl⟩ | ⟨o, ho, rfl, rfl⟩
  · exact ⟨_, .slice [] .no, _, rfl, vr_of (by simp only [go_sem]) (by simp only [go_sem]), rfl, rfl⟩
  · exact ⟨_, .slice l .no, _, rfl, vr_of (by simp only [go_sem]) (by simp only [go_sem, ho, implies_true, ne_eq, not_true_eq_false, reduceCtorEq, not_false_eq_true]), rfl, rfl⟩
theorem sl_growIntB (n : Int) (σ : Sig) (h0 : 0 < n) (hb1 : n * 8 ≤ 35184372088832) (hn2 : n ≤ 1000000000000) :
    ACalls Tryz.prog 146 [.slice [] .nil, .int .i64 n] σ (fun r σ' => ∃ o, σ o = none ∧ r = .ret (.slice [] (.own o)) ∧ σ' = upd σ o (.grow 1 0)) :=
  lib_grow (sz := 1) (bytes := 8) mixed Tryz.func146 b146 n146 rfl q146 n h0 (by simpa using hb1) hn2
theorem sl_growIntB0 (σ : Sig) : ACalls Tryz.prog 146 [.slice [] .nil, .int .i64 0] σ (fun r σ' => r = .ret (.slice [] .nil) ∧ σ' = σ) :=
  lib_grow0 (sz := 1) (bytes := 8) mixed Tryz.func146 b146 n146 rfl q146
theorem sl_concatB (ls : List (List Int)) (σ : Sig) (hlen : ls.length ≤ 1000000) (htot : ls.flatten.length ≤ 1000000000) :
    ACalls Tryz.prog 79 [.slice (ls.map (encRow encInt)) .no] σ (fun r σ' => r = .ret (.slice (ls.flatten.map encInt) .no) ∧ σ' = σ) := by
  refine no_listB (sz := 1) (n := ls.flatten.length) ?_
  refine (lib_concat (sz := 1) (bytes := 8) mixed Tryz.func79 b79 n79 rfl q79 (fun _ => rfl) (fun σ n h1 h2 h3 => sl_growIntB n σ h1 (by simpa using h2) h3) sl_growIntB0 ls hlen htot (by decide)).mono fun r s h => ?_
  rcases h with ⟨h1, h2, h3⟩ | h
  · exact .inl ⟨by rw [h1]; rfl, h2, h3⟩
  · exact .inr h
theorem sl_concat2B (a b : List Int) (σ : Sig) (h : a.length + b.length ≤ 1000000000) :
    ACalls Tryz.prog 79 [.slice [encW a .no, encW b .no] .no] σ (fun r σ' => r = .ret (encW (a ++ b) .no) ∧ σ' = σ) := by
  have := sl_concatB [a, b] σ (by simp) (by simpa using h)
  rw [show [a, b].flatten = a ++ b by simp] at this
  exact this
theorem sl_concat2T (a b : List Int) (t : Tok) (σ : Sig) (h : a.length + b.length ≤ 1000000000) :
    ACalls Tryz.prog 79 [.slice [encW a t, encW b .no] .full] σ (fun r σ' => r = .ret (encW (a ++ b) .no) ∧ σ' = σ) :=
  ACalls.fl (sl_concat2B a b σ h) (.cons (.slice _ _ _ _ (.inl rfl) rfl fun i h0 h1 => by
    match i, h0, h1 with
    | 0, _, _ => exact .slice _ _ _ _ (.inl rfl) rfl fun _ _ _ => .refl _
    | 1, _, _ => exact .refl _) (.refl _ _)) (fun o _ x e => ⟨x, e, .refl _ x⟩)
theorem sl_repeatT (m : Int) (t : Tok) (c : Nat) (hc : c ≤ 64) (σ : Sig) :
    ACalls Tryz.prog 107 [.slice [.int .i64 m] t, .int .i64 c] σ (fun r σ' => r = .ret (encW (List.replicate c m) .no) ∧ σ' = σ) := sl_repeat m t c hc σ
theorem sl_cloneB (l : List Int) (t : Tok) (σ : Sig) (h : l.length ≤ 1000000) :
    ACalls Tryz.prog 76 [encW l t] σ (fun r σ' => r = .ret (encW l .no) ∧ σ' = σ) := by
  refine calls_x mixed Tryz.func76 b76 n76 rfl q76 (by simp) ?_; unfold c76 r76
  cases l with
  | nil =>
    repeat' (first | simp (maxDischargeDepth := 9) -implicitDefEqProofs -dsimp only [go_sem, seval, List.map_nil, *] | ((with_reducible refine Zv ?_ ?_); focus (first | omega | exact rfl)) | ((with_reducible refine Zt (fun oF hoF hnF hnF' => ?_)); (try simp only [upd_none, ne_eq, not_and] at hoF)))
    refine ⟨?_, ?_⟩
    · refine fin_eq ?_
      (repeat' (first | simp (maxDischargeDepth := 9) -implicitDefEqProofs -dsimp only [go_sem, seval, List.map_nil, encW, *])) <;> (repeat' refine And.intro ?_ ?_) <;> (first | omega | rfl | assumption | skip)
    · refine fin_eq ?_
      (repeat' (first | simp (maxDischargeDepth := 9) -implicitDefEqProofs -dsimp only [go_sem, seval, List.map_nil, encW, *])) <;> (repeat' refine And.intro ?_ ?_) <;> (first | omega | rfl | assumption | skip)
  | cons x l =>
    have h' : l.length ≤ 999999 := by simp only [List.length_cons] at h; omega
    repeat' (first | simp (maxDischargeDepth := 9) -implicitDefEqProofs -dsimp only [go_sem, seval, List.map_cons, *] | ((with_reducible refine Zv ?_ ?_); focus (first | omega | exact rfl)) | ((with_reducible refine Zt (fun oF hoF hnF hnF' => ?_)); (try simp only [upd_none, ne_eq, not_and] at hoF)))
    all_goals first | (exfalso; simp at hq; done) | skip
    refine fin_eq ?_
    (repeat' (first | simp (maxDischargeDepth := 9) -implicitDefEqProofs -dsimp only [go_sem, seval, List.map_cons, List.nil_append, encW, *])) <;> (repeat' refine And.intro ?_ ?_) <;> (first | omega | rfl | assumption | skip)
theorem bl_extended (op : Int) (w : Nat) (a : List Int) (t : Tok) (σ : Sig) (h1 : 1 ≤ a.length) (hl : a.length ≤ 64) (hw : 1 ≤ w ∧ w ≤ 64) (ho : (op = 31 ∨ op = 32) ∧ a.length ≤ w ∨ op = 33 ∧ w ≤ a.length) :
    ACalls Tryz.prog 56 [.int .i64 op, .int .i64 w, encW a t] σ (fun r σ' => r = .ret (encW (extW op w a) .no) ∧ σ' = σ) := by
  rcases ho with ⟨h31 | h32, hle⟩ | ⟨h33, hle⟩
  · subst h31
    have e : extW 31 w a = a ++ List.replicate (w - a.length) 0 := by unfold extW; rw [if_neg (by decide), if_neg (by decide)]; simp
    rw [e]
    have c1 := fun τ => sl_repeatT 0 .full (w - a.length) (by omega) τ
    have c2 := fun τ => sl_concat2T a (List.replicate (w - a.length) 0) t τ (by simp; omega)
    have hsub : (w : Int) - (a.length : Int) = ((w - a.length : Nat) : Int) := by omega
    clear e
    refine calls_x mixed Tryz.func56 b56 n56 rfl q56 (by simp) ?_; unfold c56 r56
    repeat' (first | simp (maxDischargeDepth := 9) -implicitDefEqProofs -dsimp only [go_sem, seval, List.length_map, *] | simp (disch := omega) only [wrap64] | ((with_reducible apply ACalls.one1); (focus ((first | with_reducible refine c1 _ | with_reducible refine c2 _) <;> (first | (simp (maxDischargeDepth := 9) -implicitDefEqProofs -dsimp only [go_sem, seval, *]; done) | omega))); (focus (first | trivial | with_reducible exact rfl | (simp (maxDischargeDepth := 9) -implicitDefEqProofs -dsimp only [go_sem, seval]; done)))))
    refine fin_eq ?_
    (repeat' (first | simp (maxDischargeDepth := 9) -implicitDefEqProofs -dsimp only [go_sem, seval, encW, *] | simp (disch := omega) only [wrap64])) <;> (repeat' refine And.intro ?_ ?_) <;> (first | omega | rfl | assumption | skip)
  · subst h32
    have e : extW 32 w a = a ++ List.replicate (w - a.length) (gt a (a.length - 1)) := by unfold extW; rw [if_neg (by decide), if_pos rfl]; simp
    rw [e]
    obtain ⟨m, hm⟩ : ∃ m, gt a (a.length - 1) = m := ⟨_, rfl⟩
    have hgx : (a.map fun x => AV.int .i64 x)[a.length - 1]? = some (.int .i64 m) := by
      rw [← hm]; simp [gt, List.getD_eq_getElem?_getD, show a.length - 1 < a.length by omega]
    rw [hm]
    have c1 := fun τ => sl_repeatT m .full (w - a.length) (by omega) τ
    have c2 := fun τ => sl_concat2T a (List.replicate (w - a.length) m) t τ (by simp; omega)
    have hsub : (w : Int) - (a.length : Int) = ((w - a.length : Nat) : Int) := by omega
    have hsub1 : (a.length : Int) - 1 = ((a.length - 1 : Nat) : Int) := by omega
    have hlt : a.length - 1 < a.length := by omega
    clear e hm
    refine calls_x mixed Tryz.func56 b56 n56 rfl q56 (by simp) ?_; unfold c56 r56
    repeat' (first | simp (maxDischargeDepth := 9) -implicitDefEqProofs -dsimp only [go_sem, seval, List.length_map, *] | simp (disch := omega) only [wrap64] | ((with_reducible apply ACalls.one1); (focus ((first | with_reducible refine c1 _ | with_reducible refine c2 _) <;> (first | (simp (maxDischargeDepth := 9) -implicitDefEqProofs -dsimp only [go_sem, seval, *]; done) | omega))); (focus (first | trivial | with_reducible exact rfl | (simp (maxDischargeDepth := 9) -implicitDefEqProofs -dsimp only [go_sem, seval]; done)))))
    refine fin_eq ?_
    (repeat' (first | simp (maxDischargeDepth := 9) -implicitDefEqProofs -dsimp only [go_sem, seval, encW, *] | simp (disch := omega) only [wrap64])) <;> (repeat' refine And.intro ?_ ?_) <;> (first | omega | rfl | assumption | skip)
  · subst h33
    have e : extW 33 w a = a.take w := by unfold extW; rw [if_pos rfl]; simp
    rw [e]
    have c1 : ∀ τ, ACalls Tryz.prog 76 [.slice (List.take w (a.map fun x => AV.int .i64 x)) .no] τ (fun r σ' => r = .ret (encW (a.take w) .no) ∧ σ' = τ) := fun τ => by
      have := sl_cloneB (a.take w) .no τ (by simp; omega)
      rw [show encW (a.take w) .no = .slice (List.take w (a.map fun x => AV.int .i64 x)) .no by rw [encW, List.map_take]] at this ⊢
      exact this
    clear e
    refine calls_x mixed Tryz.func56 b56 n56 rfl q56 (by simp) ?_; unfold c56 r56
    repeat' (first | simp (maxDischargeDepth := 9) -implicitDefEqProofs -dsimp only [go_sem, seval, List.length_map, *] | simp (disch := omega) only [wrap64] | ((with_reducible apply ACalls.one1); (focus ((first | with_reducible refine c1 _) <;> (first | (simp (maxDischargeDepth := 9) -implicitDefEqProofs -dsimp only [go_sem, seval, *]; done) | omega))); (focus (first | trivial | with_reducible exact rfl | (simp (maxDischargeDepth := 9) -implicitDefEqProofs -dsimp only [go_sem, seval]; done)))))
    refine fin_eq ?_
    (repeat' (first | simp (maxDischargeDepth := 9) -implicitDefEqProofs -dsimp only [go_sem, seval, encW, *] | simp (disch := omega) only [wrap64])) <;> (repeat' refine And.intro ?_ ?_) <;> (first | omega | rfl | assumption | skip)
theorem bl_Ext1 (og oa ow oo : Nat) (g : Aig) (op w : Int) (x : List Int) (tx : Tok) (σ : Sig) (hf : Fine g) (hx : x.length ≤ 1000000)
    (h1 : σ og = some (.cells (aigL g))) (h2 : σ oa = some (.cells [encW x tx])) (h3 : σ ow = some (.cells [.int .i64 w])) (h4 : σ oo = some (.cells [.int .i64 op])) :
    ACalls Tryz.prog 54 [.ptr og 0, .ptr oa 0, .ptr ow 0, .ptr oo 0] σ (fun r σ' => r = .ret (.bool (mayExt g op w x)) ∧ σ' = σ) := by
  have c1 := fun τ => bl_word g x tx τ hf hx
  have hM : mayExt g op w x = (word g x && decide (1 ≤ w ∧ w ≤ 64 ∧ 31 ≤ op ∧ op ≤ 33 ∧ (w = x.length ∨ (w < x.length ↔ op = 33)))) := rfl
  obtain ⟨M, hMM⟩ : ∃ M, mayExt g op w x = M := ⟨_, rfl⟩
  rw [hMM] at hM ⊢
  obtain ⟨X, hX⟩ : ∃ X, word g x = X := ⟨_, rfl⟩
  rw [hX] at c1 hM
  clear hMM hX hf
  cases X with
  | false =>
    simp only [Bool.false_and] at hM
    subst hM
    refine calls_x mixed Tryz.func54 b54 n54 rfl q54 (by simp) ?_; unfold c54 r54
    repeat' (first | simp (maxDischargeDepth := 9) -implicitDefEqProofs -dsimp only [go_sem, seval, *] | ((with_reducible apply ACalls.one1); (focus ((first | with_reducible refine c1 _) <;> (first | (simp (maxDischargeDepth := 9) -implicitDefEqProofs -dsimp only [go_sem, seval, *]; done) | omega))); (focus (first | trivial | with_reducible exact rfl | (simp (maxDischargeDepth := 9) -implicitDefEqProofs -dsimp only [go_sem, seval]; done)))))
    refine fin_eq ?_
    (repeat' (first | simp (maxDischargeDepth := 9) -implicitDefEqProofs -dsimp only [go_sem, seval, *])) <;> (repeat' refine And.intro ?_ ?_) <;> (first | omega | rfl | assumption | skip)
  | true =>
    simp only [Bool.true_and] at hM
    by_cases o1 : w < 1
    · have e : M = false := by rw [hM, decide_eq_false_iff_not]; omega
      subst e
      clear hM
      refine calls_x mixed Tryz.func54 b54 n54 rfl q54 (by simp) ?_; unfold c54 r54
      repeat' (first | simp (maxDischargeDepth := 9) -implicitDefEqProofs -dsimp only [go_sem, seval, gt_iff_lt, *] | ((with_reducible apply ACalls.one1); (focus ((first | with_reducible refine c1 _) <;> (first | (simp (maxDischargeDepth := 9) -implicitDefEqProofs -dsimp only [go_sem, seval, *]; done) | omega))); (focus (first | trivial | with_reducible exact rfl | (simp (maxDischargeDepth := 9) -implicitDefEqProofs -dsimp only [go_sem, seval]; done)))))
      refine fin_eq ?_
      (repeat' (first | simp (maxDischargeDepth := 9) -implicitDefEqProofs -dsimp only [go_sem, seval, *])) <;> (repeat' refine And.intro ?_ ?_) <;> (first | omega | rfl | assumption | skip)
    by_cases o2 : 64 < w
    · have e : M = false := by rw [hM, decide_eq_false_iff_not]; omega
      subst e
      clear hM
      refine calls_x mixed Tryz.func54 b54 n54 rfl q54 (by simp) ?_; unfold c54 r54
      repeat' (first | simp (maxDischargeDepth := 9) -implicitDefEqProofs -dsimp only [go_sem, seval, gt_iff_lt, *] | ((with_reducible apply ACalls.one1); (focus ((first | with_reducible refine c1 _) <;> (first | (simp (maxDischargeDepth := 9) -implicitDefEqProofs -dsimp only [go_sem, seval, *]; done) | omega))); (focus (first | trivial | with_reducible exact rfl | (simp (maxDischargeDepth := 9) -implicitDefEqProofs -dsimp only [go_sem, seval]; done)))))
      refine fin_eq ?_
      (repeat' (first | simp (maxDischargeDepth := 9) -implicitDefEqProofs -dsimp only [go_sem, seval, *])) <;> (repeat' refine And.intro ?_ ?_) <;> (first | omega | rfl | assumption | skip)
    by_cases o3 : op < 31
    · have e : M = false := by rw [hM, decide_eq_false_iff_not]; omega
      subst e
      clear hM
      refine calls_x mixed Tryz.func54 b54 n54 rfl q54 (by simp) ?_; unfold c54 r54
      repeat' (first | simp (maxDischargeDepth := 9) -implicitDefEqProofs -dsimp only [go_sem, seval, gt_iff_lt, *] | ((with_reducible apply ACalls.one1); (focus ((first | with_reducible refine c1 _) <;> (first | (simp (maxDischargeDepth := 9) -implicitDefEqProofs -dsimp only [go_sem, seval, *]; done) | omega))); (focus (first | trivial | with_reducible exact rfl | (simp (maxDischargeDepth := 9) -implicitDefEqProofs -dsimp only [go_sem, seval]; done)))))
      refine fin_eq ?_
      (repeat' (first | simp (maxDischargeDepth := 9) -implicitDefEqProofs -dsimp only [go_sem, seval, *])) <;> (repeat' refine And.intro ?_ ?_) <;> (first | omega | rfl | assumption | skip)
    by_cases o4 : 33 < op
    · have e : M = false := by rw [hM, decide_eq_false_iff_not]; omega
      subst e
      clear hM
      refine calls_x mixed Tryz.func54 b54 n54 rfl q54 (by simp) ?_; unfold c54 r54
      repeat' (first | simp (maxDischargeDepth := 9) -implicitDefEqProofs -dsimp only [go_sem, seval, gt_iff_lt, *] | ((with_reducible apply ACalls.one1); (focus ((first | with_reducible refine c1 _) <;> (first | (simp (maxDischargeDepth := 9) -implicitDefEqProofs -dsimp only [go_sem, seval, *]; done) | omega))); (focus (first | trivial | with_reducible exact rfl | (simp (maxDischargeDepth := 9) -implicitDefEqProofs -dsimp only [go_sem, seval]; done)))))
      refine fin_eq ?_
      (repeat' (first | simp (maxDischargeDepth := 9) -implicitDefEqProofs -dsimp only [go_sem, seval, *])) <;> (repeat' refine And.intro ?_ ?_) <;> (first | omega | rfl | assumption | skip)
    by_cases o5 : w = x.length
    · have e : M = true := by rw [hM, decide_eq_true_iff]; exact ⟨by omega, by omega, by omega, by omega, .inl o5⟩
      have b5 : (w == (x.length : Int)) = true := by rw [beq_iff_eq]; exact o5
      subst e
      clear hM o5
      refine calls_x mixed Tryz.func54 b54 n54 rfl q54 (by simp) ?_; unfold c54 r54
      repeat' (first | simp (maxDischargeDepth := 9) -implicitDefEqProofs -dsimp only [go_sem, seval, gt_iff_lt, List.length_map, *] | ((with_reducible apply ACalls.one1); (focus ((first | with_reducible refine c1 _) <;> (first | (simp (maxDischargeDepth := 9) -implicitDefEqProofs -dsimp only [go_sem, seval, *]; done) | omega))); (focus (first | trivial | with_reducible exact rfl | (simp (maxDischargeDepth := 9) -implicitDefEqProofs -dsimp only [go_sem, seval]; done)))))
      refine fin_eq ?_
      (repeat' (first | simp (maxDischargeDepth := 9) -implicitDefEqProofs -dsimp only [go_sem, seval, *])) <;> (repeat' refine And.intro ?_ ?_) <;> (first | omega | rfl | assumption | skip)
    · have b5 : (w == (x.length : Int)) = false := by rw [beq_eq_false_iff_ne]; exact o5
      have e : M = (decide (w < (x.length : Int)) == (op == 33)) := by
        rw [hM, Bool.eq_iff_iff, decide_eq_true_iff, beq_iff_eq, Bool.eq_iff_iff, decide_eq_true_iff, beq_iff_eq]
        constructor
        · rintro ⟨_, _, _, _, h | h⟩
          · exact absurd h o5
          · exact h
        · intro h
          exact ⟨by omega, by omega, by omega, by omega, .inr h⟩
      subst e
      clear hM o5
      refine calls_x mixed Tryz.func54 b54 n54 rfl q54 (by simp) ?_; unfold c54 r54
      repeat' (first | simp (maxDischargeDepth := 9) -implicitDefEqProofs -dsimp only [go_sem, seval, gt_iff_lt, List.length_map, *] | ((with_reducible apply ACalls.one1); (focus ((first | with_reducible refine c1 _) <;> (first | (simp (maxDischargeDepth := 9) -implicitDefEqProofs -dsimp only [go_sem, seval, *]; done) | omega))); (focus (first | trivial | with_reducible exact rfl | (simp (maxDischargeDepth := 9) -implicitDefEqProofs -dsimp only [go_sem, seval]; done)))))
      refine fin_eq ?_
      (repeat' (first | simp (maxDischargeDepth := 9) -implicitDefEqProofs -dsimp only [go_sem, seval, *])) <;> (repeat' refine And.intro ?_ ?_) <;> (first | omega | rfl | assumption | skip)
theorem bl_Ext2 (bo oo ow oa : Nat) (b : Bu) (op : Int) (w : Nat) (x : List Int) (tx : Tok) (σ : Sig) (h : σ bo = some (buC b)) (h1 : 1 ≤ x.length) (hl : x.length ≤ 64) (hw : 1 ≤ w ∧ w ≤ 64) (ho : (op = 31 ∨ op = 32) ∧ x.length ≤ w ∨ op = 33 ∧ w ≤ x.length) (h2 : σ oa = some (.cells [encW x tx])) (h3 : σ ow = some (.cells [.int .i64 w])) (h4 : σ oo = some (.cells [.int .i64 op])) :
    ACalls Tryz.prog 55 [.ptr bo 0, .ptr oo 0, .ptr ow 0, .ptr oa 0] σ (fun r σ' => r = .ret (encW (extW op w x) .no) ∧ σ' = σ) := by
  have c1 := fun τ => bl_extended op w x tx τ h1 hl hw ho
  obtain ⟨Z, hZ⟩ : ∃ Z, extW op w x = Z := ⟨_, rfl⟩
  rw [hZ] at c1 ⊢
  clear hZ h1 hl hw ho
  refine calls_x mixed Tryz.func55 b55 n55 rfl q55 (by simp) ?_; unfold c55 r55
  repeat' (first | simp (maxDischargeDepth := 9) -implicitDefEqProofs -dsimp only [go_sem, seval, *] | ((with_reducible apply ACalls.one1); (focus ((first | with_reducible refine c1 _) <;> (first | (simp (maxDischargeDepth := 9) -implicitDefEqProofs -dsimp only [go_sem, seval, *]; done) | omega))); (focus (first | trivial | with_reducible exact rfl | (simp (maxDischargeDepth := 9) -implicitDefEqProofs -dsimp only [go_sem, seval]; done)))))
  refine fin_eq ?_
  (repeat' (first | simp (maxDischargeDepth := 9) -implicitDefEqProofs -dsimp only [go_sem, seval, encW, *])) <;> (repeat' refine And.intro ?_ ?_) <;> (first | omega | rfl | assumption | skip)
set_option maxHeartbeats 2000000 in
theorem bl_Ext (g : Aig) (op w : Int) (x : List Int) (tx : Tok) (σ : Sig) (hs : Wf g) (hxl : x.length ≤ 1000000) :
    ACalls Tryz.prog 21 [encAig g, .int .i64 op, .int .i64 w, encW x tx] σ (fun r σ' => r = .ret (.tup [encAig (Ext g op w x).1, encW (Ext g op w x).2.1 .no, .int .i64 (Ext g op w x).2.2]) ∧ σ' = σ) := by
  have key : ∀ τ og oo ow oa, τ og = some (.cells (aigL g)) → τ oa = some (.cells [encW x tx]) → τ ow = some (.cells [.int .i64 w]) → τ oo = some (.cells [.int .i64 op]) →
      ACalls Tryz.prog 37 [encAig g, .fn 54 [] [.ptr og 0, .ptr oa 0, .ptr ow 0, .ptr oo 0], .fn 55 [] [.ptr oo 0, .ptr ow 0, .ptr oa 0]] τ (fun r σ' => r = .ret (.tup [encAig (Ext g op w x).1, encW (Ext g op w x).2.1 .no, .int .i64 (Ext g op w x).2.2]) ∧ σ' = τ) := fun τ og oo ow oa h1 h2 h3 h4 =>
    bl_made g _ _ _ _ (mayExt g op w x) (.ret (extW op w x)) τ hs
      (fun h0 o z ho => bl_Ext1 og oa ow oo g op w x tx _ (check_fine hs h0) hxl (kept ho h1) (kept ho h2) (kept ho h3) (kept ho h4))
      (fun h0 hm o z bo ho hb hne => by
        have hb' : upd τ o z bo = none := by simp [upd, hne, hb]
        unfold mayExt word at hm
        simp only [Bool.and_eq_true, decide_eq_true_eq] at hm
        obtain ⟨⟨⟨m1, m2⟩, m3⟩, m4, m5, m6, m7, m8⟩ := hm
        obtain ⟨n, rfl⟩ : ∃ n : Nat, w = n := ⟨w.toNat, by omega⟩
        have hn : (op = 31 ∨ op = 32) ∧ x.length ≤ n ∨ op = 33 ∧ n ≤ x.length := by
          rcases m8 with m8 | m8
          · omega
          · by_cases h33 : op = 33
            · exact .inr ⟨h33, by have := m8.2 h33; omega⟩
            · refine .inl ⟨by omega, ?_⟩
              have := fun h => h33 (m8.1 h)
              omega
        refine (bl_Ext2 bo oo ow oa ⟨g, 0⟩ op n x tx _ (by simp [upd]) (by omega) m2 (by omega) hn (kept hb' (kept ho h2)) (kept hb' (kept ho h3)) (kept hb' (kept ho h4))).mono fun r σ' ⟨q1, q2⟩ => ⟨q1, q2⟩)
  obtain ⟨Z, hZ⟩ : ∃ Z, Ext g op w x = Z := ⟨_, rfl⟩
  rw [hZ] at key ⊢
  obtain ⟨z1, z2, z3⟩ := Z
  simp only at key ⊢
  clear hZ hs hxl
  refine calls_x mixed Tryz.func21 b21 n21 rfl q21 (by simp) ?_; unfold c21 r21
  repeat' (first | simp (maxDischargeDepth := 9) -implicitDefEqProofs -dsimp only [go_sem, seval, *] | ((with_reducible refine Zt (fun oF hoF hnF hnF' => ?_)); (try simp only [upd_none, ne_eq, not_and] at hoF)) | ((with_reducible apply ACalls.one1); (focus ((first | with_reducible refine key _ _ _ _ _ ?_ ?_ ?_ ?_) <;> (first | (simp (maxDischargeDepth := 9) -implicitDefEqProofs -dsimp only [go_sem, seval, *]; done) | omega))); (focus (first | trivial | with_reducible exact rfl | (simp (maxDischargeDepth := 9) -implicitDefEqProofs -dsimp only [go_sem, seval]; done)))))
  refine fin_eq ?_
  (repeat' (first | simp (maxDischargeDepth := 9) -implicitDefEqProofs -dsimp only [go_sem, seval, encW, *])) <;> (repeat' refine And.intro ?_ ?_) <;> (first | omega | rfl | assumption | skip)
end Go.Proofs.YtbbihmmobfmadaaGreat

namespace Go.Proofs.YtbbihmmobfmadaaGreat
open Abs Fil Fil.Bl A
theorem wf_two2 : Wf ⟨2, [], [], []⟩ := ⟨by simp [I64], by simp, by simp, by simp, by simp, by simp, by simp⟩
theorem sm2 {x y : Int} (hx : I64 x) (hy : I64 y) : ∀ z ∈ [x, y], I64 z := by simp [hx, hy]
theorem sm1 {x : Int} (hx : I64 x) : ∀ z ∈ [x], I64 z := by simp [hx]
abbrev aig2 : AV := .agg [.int .i64 2, .slice [] .no, .slice [] .no, .slice [] .no]
abbrev aig0 : AV := .agg [.int .i64 0, .slice [] .no, .slice [] .no, .slice [] .no]
theorem i64_small {x : Int} (h : -100 ≤ x ∧ x ≤ 100) : I64 x := by unfold I64; omega
theorem ex_New (τ : Sig) : ACalls Tryz.prog 29 [.int .i64 2, .slice [] .nil] τ (fun r σ' => r = .ret (.tup [aig2, .int .i64 0]) ∧ σ' = τ) := by
  have h := aig_New 2 [] τ (i64_small (by decide)) (by simp)
  rw [show Aig.New 2 [] = (⟨2, [], [], []⟩, 0) by decide] at h
  exact ACalls.fl h (.cons (.refl _) (.cons (.slice _ _ _ _ (.inl rfl) rfl fun i h _ => by simp at h) (.nil _))) (fun o _ x e => ⟨x, e, .refl _ x⟩)
theorem ex_Bin (τ : Sig) : ACalls Tryz.prog 25 [aig2, .int .i64 14, .slice [.int .i64 2] .full, .slice [.int .i64 4] .full] τ
    (fun r σ' => r = .ret (.tup [.agg [.int .i64 2, .slice [] .no, .slice [encGate (2, 5), encGate (3, 4), encGate (7, 9), encGate (2, 4)] .no, .slice [] .no], .slice [.int .i64 11] .no, .int .i64 0]) ∧ σ' = τ) := by
  have h := bl_Bin ⟨2, [], [], []⟩ 14 [2] [4] .full .full τ wf_two2 (sm1 (i64_small (by decide))) (sm1 (i64_small (by decide))) (by simp) (by simp)
  rw [show Bin ⟨2, [], [], []⟩ 14 [2] [4] = (⟨2, [], [(2, 5), (3, 4), (7, 9), (2, 4)], []⟩, [11], 0) by decide] at h
  exact h
theorem ex_Bin2 (τ : Sig) : ACalls Tryz.prog 25 [aig2, .int .i64 14, .slice [.int .i64 2] .full, .slice [.int .i64 4, .int .i64 0] .full] τ
    (fun r σ' => r = .ret (.tup [aig0, .slice [] .no, .int .i64 1]) ∧ σ' = τ) := by
  have h := bl_Bin ⟨2, [], [], []⟩ 14 [2] [4, 0] .full .full τ wf_two2 (sm1 (i64_small (by decide))) (sm2 (i64_small (by decide)) (i64_small (by decide))) (by simp) (by simp)
  rw [show Bin ⟨2, [], [], []⟩ 14 [2] [4, 0] = (⟨0, [], [], []⟩, [], 1) by decide] at h
  exact h
theorem ex_Un (τ : Sig) : ACalls Tryz.prog 19 [aig2, .int .i64 1, .slice [.int .i64 2, .int .i64 5] .full] τ
    (fun r σ' => r = .ret (.tup [aig2, .slice [.int .i64 3, .int .i64 4] .no, .int .i64 0]) ∧ σ' = τ) := by
  have h := bl_Un ⟨2, [], [], []⟩ 1 [2, 5] .full τ wf_two2 (sm2 (i64_small (by decide)) (i64_small (by decide))) (by simp)
  rw [show Un ⟨2, [], [], []⟩ 1 [2, 5] = (⟨2, [], [], []⟩, [3, 4], 0) by decide] at h
  exact h
theorem ex_Un2 (τ : Sig) : ACalls Tryz.prog 19 [aig2, .int .i64 1, .slice [.int .i64 6] .full] τ
    (fun r σ' => r = .ret (.tup [aig0, .slice [] .no, .int .i64 1]) ∧ σ' = τ) := by
  have h := bl_Un ⟨2, [], [], []⟩ 1 [6] .full τ wf_two2 (sm1 (i64_small (by decide))) (by simp)
  rw [show Un ⟨2, [], [], []⟩ 1 [6] = (⟨0, [], [], []⟩, [], 1) by decide] at h
  exact h
theorem ex_Ext (τ : Sig) : ACalls Tryz.prog 21 [aig2, .int .i64 32, .int .i64 3, .slice [.int .i64 2, .int .i64 4] .full] τ
    (fun r σ' => r = .ret (.tup [aig2, .slice [.int .i64 2, .int .i64 4, .int .i64 4] .no, .int .i64 0]) ∧ σ' = τ) := by
  have h := bl_Ext ⟨2, [], [], []⟩ 32 3 [2, 4] .full τ wf_two2 (by simp)
  rw [show Ext ⟨2, [], [], []⟩ 32 3 [2, 4] = (⟨2, [], [], []⟩, [2, 4, 4], 0) by decide] at h
  exact h
theorem ex_Num (τ : Sig) : ACalls Tryz.prog 23 [.int .i64 4, .int .u64 10] τ
    (fun r σ' => r = .ret (.tup [.slice [.int .i64 0, .int .i64 1, .int .i64 0, .int .i64 1] .no, .int .i64 0]) ∧ σ' = τ) := by
  have h := bl_Num 4 10 (by decide) τ
  rw [show bitsN 4 10 = true by decide, if_pos rfl, if_pos rfl, show numW 4 ((10 : Nat) : Int) = [0, 1, 0, 1] by decide] at h
  exact h
theorem ex_Num2 (τ : Sig) : ACalls Tryz.prog 23 [.int .i64 2, .int .u64 4] τ
    (fun r σ' => r = .ret (.tup [.slice [] .no, .int .i64 1]) ∧ σ' = τ) := by
  have h := bl_Num 2 4 (by decide) τ
  rw [show bitsN 2 4 = false by decide, if_neg (by simp), if_neg (by simp)] at h
  exact h
set_option maxHeartbeats 8000000 in
set_option maxRecDepth 20000 in
theorem law_live (σ : Sig) : ACalls Tryz.prog 7 [] σ (fun r σ' => r = .ret (.bool true) ∧ σ' = σ) := by
  refine calls_x mixed Tryz.func7 b7 n7 rfl q7 (by simp) ?_; unfold c7 r7
  repeat' (first | simp (maxDischargeDepth := 9) -implicitDefEqProofs -dsimp only [go_sem, seval, *] | ((with_reducible refine Zt (fun oF hoF hnF hnF' => ?_)); (try simp only [upd_none, ne_eq, not_and] at hoF)) | ((with_reducible apply ACalls.one1); (focus ((first | with_reducible refine ex_New _ | with_reducible refine ex_Bin _ | with_reducible refine ex_Bin2 _ | with_reducible refine ex_Un _ | with_reducible refine ex_Un2 _ | with_reducible refine ex_Ext _ | with_reducible refine ex_Num _ | with_reducible refine ex_Num2 _) <;> (first | (simp (maxDischargeDepth := 9) -implicitDefEqProofs -dsimp only [go_sem, seval, *]; done) | omega))); (focus (first | trivial | with_reducible exact rfl | (simp (maxDischargeDepth := 9) -implicitDefEqProofs -dsimp only [go_sem, seval]; done)))))
  refine fin_eq ?_
  (repeat' (first | simp (maxDischargeDepth := 9) -implicitDefEqProofs -dsimp only [go_sem, seval, *])) <;> (repeat' refine And.intro ?_ ?_) <;> (first | omega | rfl | assumption | skip)
end Go.Proofs.YtbbihmmobfmadaaGreat

namespace Abs
open Go
inductive Sh where
  | bool
  | int (k : IntKind)
  | str
  | slice (agg : Bool) (e : Sh)
  | row (l : List Sh)
def shAll (f : TypeId → Option Sh) : List TypeId → Option (List Sh)
  | [] => some []
  | t :: ts => match f t, shAll f ts with
    | some s, some l => some (s :: l)
    | _, _ => none
def shOf (P : Program) : Nat → TypeId → Option Sh
  | 0, _ => none
  | g + 1, t =>
    match P.underlying t with
    | some .bool => some .bool
    | some (.int k) => some (.int k)
    | some .string => some .str
    | some (.slice e) => (shOf P g e).map (.slice (isAgg P e))
    | some (.struct fs) => (shAll (shOf P g) (fs.toList.map (·.type))).map .row
    | some (.array n e) => (shAll (shOf P g) (List.replicate n e)).map .row
    | _ => none
mutual
def ShC : Sh → List AV → Prop
  | .bool, cs => ∃ b, cs = [.bool b]
  | .int k, cs => ∃ n, cs = [.int k n] ∧ k.min ≤ n ∧ n ≤ k.max
  | .str, cs => ∃ s : ByteArray, cs = [.str s] ∧ s.size ≤ maxLen
  | .slice b e, cs => ∃ l, cs = [.slice l .no] ∧ l.length ≤ maxLen ∧ ∀ x ∈ l, ∃ es, mkv b es = some x ∧ ShC e es
  | .row l, cs => ShL l cs
def ShL : List Sh → List AV → Prop
  | [], cs => cs = []
  | s :: l, cs => ∃ p q, cs = p ++ q ∧ ShC s p ∧ ShL l q
end
theorem cells_sh {P : Program} : ∀ (g : Nat) (t : TypeId) (s : Sh) (cs : List AV), shOf P g t = some s → Cells P g t cs → ShC s cs
  | 0, _, _, _, h, _ => by simp [shOf] at h
  | g + 1, t, s, cs, h, hc => by
    have all : ∀ (ts : List TypeId) (l : List Sh) (cs : List AV), shAll (shOf P g) ts = some l → CellsL (Cells P g) ts cs → ShL l cs := by
      intro ts
      induction ts with
      | nil => intro l cs h hc; simp [shAll] at h; subst h; simpa [ShL, CellsL] using hc
      | cons t ts ih =>
        intro l cs h hc
        simp only [shAll] at h
        split at h <;> simp at h
        rename_i s' l' h1 h2
        subst h
        obtain ⟨p, q, e, c1, c2⟩ := hc
        exact ⟨p, q, e, cells_sh g t s' p h1 c1, ih l' q h2 c2⟩
    simp only [shOf] at h
    simp only [Cells] at hc
    split at h
    · rename_i hu; rw [hu] at hc; simp at h; subst h; exact hc
    · rename_i k hu; rw [hu] at hc; simp at h; subst h; exact hc
    · rename_i hu; rw [hu] at hc; simp at h; subst h; exact hc
    · rename_i e hu
      rw [hu] at hc
      simp only [Option.map_eq_some_iff] at h
      obtain ⟨s', h1, rfl⟩ := h
      obtain ⟨l, e1, e2, e3⟩ := hc
      refine ⟨l, e1, e2, fun x hx => ?_⟩
      obtain ⟨es, k1, k2⟩ := e3 x hx
      exact ⟨es, k1, cells_sh g e s' es h1 k2⟩
    · rename_i fs hu
      rw [hu] at hc
      simp only [Option.map_eq_some_iff] at h
      obtain ⟨l, h1, rfl⟩ := h
      exact all _ l cs h1 hc
    · rename_i n e hu
      rw [hu] at hc
      simp only [Option.map_eq_some_iff] at h
      obtain ⟨l, h1, rfl⟩ := h
      exact all _ l cs h1 hc
    · simp at h
def ShV (b : Bool) (s : Sh) (a : AV) : Prop := ∃ es, mkv b es = some a ∧ ShC s es
def ShVs : List (Bool × Sh) → List AV → Prop
  | [], as_ => as_ = []
  | p :: l, as_ => ∃ a r, as_ = a :: r ∧ ShV p.1 p.2 a ∧ ShVs l r
def argSh (P : Program) (g : Nat) : List TypeId → Option (List (Bool × Sh))
  | [] => some []
  | t :: ts => match shOf P g t, argSh P g ts with
    | some s, some l => some ((isAgg P t, s) :: l)
    | _, _ => none
theorem args_sh {P : Program} {g : Nat} : ∀ {ts : List TypeId} {l : List (Bool × Sh)} {as_ : List AV}, argSh P g ts = some l → ArgsAre P g ts as_ → ShVs l as_
  | [], l, [], h, _ => by simp [argSh] at h; subst h; rfl
  | [], _, _ :: _, _, ha => ha.elim
  | t :: ts, _, [], _, ha => ha.elim
  | t :: ts, l, a :: as_, h, ha => by
    simp only [argSh] at h
    split at h <;> simp at h
    rename_i s l' h1 h2
    subst h
    obtain ⟨⟨es, k1, k2⟩, k3⟩ := ha
    exact ⟨a, as_, rfl, ⟨es, k1, cells_sh g t s es h1 k2⟩, args_sh h2 k3⟩
theorem list_dec {α : Type} {f : α → AV} {p : α → Prop} : ∀ {l : List AV}, (∀ x ∈ l, ∃ y, x = f y ∧ p y) → ∃ m : List α, l = m.map f ∧ ∀ y ∈ m, p y
  | [], _ => ⟨[], rfl, by simp⟩
  | x :: l, h => by
    obtain ⟨y, e, hy⟩ := h x (by simp)
    obtain ⟨m, e', hm⟩ := list_dec (l := l) fun x hx => h x (by simp [hx])
    exact ⟨y :: m, by simp [e, e'], by simpa using ⟨hy, hm⟩⟩
theorem shv_int {k : IntKind} {a : AV} (h : ShV false (.int k) a) : ∃ n, a = .int k n ∧ k.min ≤ n ∧ n ≤ k.max := by
  obtain ⟨es, h1, n, rfl, h2⟩ := h
  simp [mkv] at h1
  exact ⟨n, h1.symm, h2⟩
theorem shv_slice {b : Bool} {e : Sh} {a : AV} (h : ShV false (.slice b e) a) {α : Type} {f : α → AV} {p : α → Prop} (hd : ∀ x, ShV b e x → ∃ y, x = f y ∧ p y) : ∃ m : List α, a = .slice (m.map f) .no ∧ m.length ≤ maxLen ∧ ∀ y ∈ m, p y := by
  obtain ⟨es, h1, l, rfl, h2, h3⟩ := h
  simp [mkv] at h1
  obtain ⟨m, rfl, hm⟩ := list_dec (f := f) (p := p) (l := l) fun x hx => hd x (h3 x hx)
  exact ⟨m, h1.symm, by simpa using h2, hm⟩
theorem shc_slice {b : Bool} {e : Sh} {cs : List AV} (h : ShC (.slice b e) cs) {α : Type} {f : α → AV} {p : α → Prop} (hd : ∀ x, ShV b e x → ∃ y, x = f y ∧ p y) : ∃ m : List α, cs = [.slice (m.map f) .no] ∧ m.length ≤ maxLen ∧ ∀ y ∈ m, p y := by
  obtain ⟨l, rfl, h2, h3⟩ := h
  obtain ⟨m, rfl, hm⟩ := list_dec (f := f) (p := p) (l := l) fun x hx => hd x (h3 x hx)
  exact ⟨m, rfl, by simpa using h2, hm⟩
end Abs

namespace Fil
open Abs Go
theorem i64_min : IntKind.i64.min = -9223372036854775808 := by decide
theorem i64_max : IntKind.i64.max = 9223372036854775807 := by decide
theorem I64_of {n : Int} (h : IntKind.i64.min ≤ n ∧ n ≤ IntKind.i64.max) : I64 n := by rw [i64_min, i64_max] at h; exact h
theorem arg_int {a : AV} (h : ShV false (.int .i64) a) : ∃ n, a = encInt n ∧ I64 n := by
  obtain ⟨n, e, hn⟩ := shv_int h
  exact ⟨n, e, I64_of hn⟩
theorem arg_gate {a : AV} (h : ShV true (.row [.int .i64, .int .i64]) a) : ∃ x : Int × Int, a = encGate x ∧ I64 x.1 ∧ I64 x.2 := by
  obtain ⟨es, e, p, q, rfl, ⟨n, rfl, hn⟩, p', q', rfl, ⟨m, rfl, hm⟩, rfl⟩ := h
  simp [mkv] at e
  exact ⟨(n, m), e.symm, I64_of hn, I64_of hm⟩
theorem arg_flop {a : AV} (h : ShV true (.row [.int .i64, .bool]) a) : ∃ x : Flop, a = encFlop x ∧ I64 x.next := by
  obtain ⟨es, e, p, q, rfl, ⟨n, rfl, hn⟩, p', q', rfl, ⟨m, rfl⟩, rfl⟩ := h
  simp [mkv] at e
  exact ⟨⟨n, m⟩, e.symm, I64_of hn⟩
structure Wide (g : Aig) : Prop where
  ins : I64 g.ins
  nexts : ∀ f ∈ g.flops, I64 f.next
  gates : ∀ x ∈ g.ands, I64 x.1 ∧ I64 x.2
  lits : ∀ a ∈ g.outs, I64 a
theorem arg_aig {a : AV} (h : ShV true (.row [.int .i64, .slice true (.row [.int .i64, .bool]), .slice true (.row [.int .i64, .int .i64]), .slice false (.int .i64)]) a) : ∃ g : Aig, a = encAig g ∧ Wide g := by
  obtain ⟨es, e, p, q, rfl, ⟨n, rfl, hn⟩, p1, q1, rfl, h1, p2, q2, rfl, h2, p3, q3, rfl, h3, rfl⟩ := h
  obtain ⟨fl, rfl, _, k1⟩ := shc_slice (f := encFlop) (p := fun x : Flop => I64 x.next) h1 fun x hx => arg_flop hx
  obtain ⟨an, rfl, _, k2⟩ := shc_slice (f := encGate) (p := fun x : Int × Int => I64 x.1 ∧ I64 x.2) h2 fun x hx => arg_gate hx
  obtain ⟨ou, rfl, _, k3⟩ := shc_slice (f := encInt) (p := I64) h3 fun x hx => arg_int hx
  simp [mkv] at e
  exact ⟨⟨n, fl, an, ou⟩, e.symm, I64_of hn, k1, k2, k3⟩
def Few (g : Aig) : Prop := g.ins ≤ 200 ∧ g.flops.length ≤ 200 ∧ g.ands.length ≤ 1000 ∧ g.outs.length ≤ 200
theorem few_wf {g : Aig} (h : Wide g) (hf : Few g) : Wf g :=
  ⟨h.ins, by have := hf.2.1; omega, by have := hf.2.2.1; omega, by have := hf.2.2.2; omega, h.nexts, h.gates, h.lits⟩
end Fil

namespace Go.Proofs.YtbbihmmobfmadaaGreat
open Abs Fil Fil.Bl A
def fewG (g : Aig) : Bool := decide (g.ins ≤ 40) && decide (g.flops.length ≤ 20) && decide (g.ands.length ≤ 80) && decide (g.outs.length ≤ 60)
theorem bl_few (g : Aig) (ls : List (List Int)) (t : Tok) (σ : Sig) (hl : ls.length ≤ 1000) :
    ACalls Tryz.prog 8 [encAig g, .slice (ls.map fun l => encW l .no) t] σ (fun r σ' => r = .ret (.bool ((ls.all fun l => decide (l.length ≤ 8)) && fewG g)) ∧ σ' = σ) := by
  refine calls_x mixed Tryz.func8 b8 n8 rfl q8 (by simp) ?_; unfold c8 r8
  repeat' (first | simp (maxDischargeDepth := 9) -implicitDefEqProofs -dsimp only [go_sem, seval, *] | simp (disch := omega) only [wrap64])
  refine loop_rule (fun i : Nat => [(5, some (.int .i64 i)), (1, some (.slice (ls.map fun l => encW l .no) t)), (2, some (.cptr (aigL g)))]) (fun _ => σ) (fun i => i ≤ ls.length ∧ (ls.take i).all (fun l => decide (l.length ≤ 8)) = true) (fun i => ls.length - i) 0 ?_ ?_
  · (repeat' (first | simp (maxDischargeDepth := 9) -implicitDefEqProofs -dsimp only [go_sem, seval, List.take_zero, List.all_nil, *] | simp (disch := omega) only [wrap64])) <;> (repeat' refine And.intro ?_ ?_) <;> (first | omega | rfl | assumption | skip)
  rintro i ⟨hi, hall⟩
  by_cases hlt : i < ls.length
  · have hgx : (ls.map fun l => encW l .no)[i]? = some (encW ls[i] .no) := by simp [hlt]
    have htk : ls.take (i + 1) = ls.take i ++ [ls[i]] := by rw [List.take_add_one]; simp [hlt]
    have hmem : ls[i] ∈ ls := List.getElem_mem _
    obtain ⟨x, hx⟩ : ∃ x, ls[i] = x := ⟨_, rfl⟩
    rw [hx] at hgx htk hmem
    clear hx
    by_cases h8 : (8 : Int) < (x.length : Int)
    · have hf : (ls.all fun l => decide (l.length ≤ 8)) = false := by
        rw [List.all_eq_false]
        exact ⟨x, hmem, by simp; omega⟩
      rw [hf, Bool.false_and]
      clear hf htk hall hmem
      repeat' (first | simp (maxDischargeDepth := 9) -implicitDefEqProofs -dsimp only [go_sem, seval, gt_iff_lt, List.length_map, *] | simp (disch := omega) only [wrap64])
      refine fin_eq ?_
      (repeat' (first | simp (maxDischargeDepth := 9) -implicitDefEqProofs -dsimp only [go_sem, seval, *] | simp (disch := omega) only [wrap64])) <;> (repeat' refine And.intro ?_ ?_) <;> (first | omega | rfl | assumption | skip)
    · have hall2 : (ls.take (i + 1)).all (fun l => decide (l.length ≤ 8)) = true := by
        rw [htk, List.all_append, hall]; simp; omega
      clear htk hall hmem
      repeat' (first | simp (maxDischargeDepth := 9) -implicitDefEqProofs -dsimp only [go_sem, seval, gt_iff_lt, List.length_map, *] | simp (disch := omega) only [wrap64])
      refine loop_next _ _ _ _ (i + 1) ?_; (repeat' (first | simp (maxDischargeDepth := 9) -implicitDefEqProofs -dsimp only [go_sem, seval,  hall2, *] | simp (disch := omega) only [wrap64])) <;> (repeat' refine And.intro ?_ ?_) <;> (first | omega | rfl | assumption | skip)
  · have : i = ls.length := by omega
    subst this
    rw [List.take_length] at hall
    rw [hall, Bool.true_and]
    have hM : fewG g = (decide (g.ins ≤ 40) && decide (g.flops.length ≤ 20) && decide (g.ands.length ≤ 80) && decide (g.outs.length ≤ 60)) := rfl
    obtain ⟨M, hMM⟩ : ∃ M, fewG g = M := ⟨_, rfl⟩
    rw [hMM] at hM ⊢
    clear hMM hall
    by_cases h1 : g.ins ≤ 40
    case neg =>
      have e : M = false := by rw [hM]; simp [h1]
      subst e
      clear hM
      repeat' (first | simp (maxDischargeDepth := 9) -implicitDefEqProofs -dsimp only [go_sem, seval, List.length_map, *] | simp (disch := omega) only [wrap64])
      refine fin_eq ?_
      (repeat' (first | simp (maxDischargeDepth := 9) -implicitDefEqProofs -dsimp only [go_sem, seval, *] | simp (disch := omega) only [wrap64])) <;> (repeat' refine And.intro ?_ ?_) <;> (first | omega | rfl | assumption | skip)
    by_cases h2 : (g.flops.length : Int) ≤ 20
    case neg =>
      have e : M = false := by rw [hM, show decide (g.flops.length ≤ 20) = false by rw [decide_eq_false_iff_not]; omega]; simp
      subst e
      clear hM
      repeat' (first | simp (maxDischargeDepth := 9) -implicitDefEqProofs -dsimp only [go_sem, seval, List.length_map, *] | simp (disch := omega) only [wrap64])
      refine fin_eq ?_
      (repeat' (first | simp (maxDischargeDepth := 9) -implicitDefEqProofs -dsimp only [go_sem, seval, *] | simp (disch := omega) only [wrap64])) <;> (repeat' refine And.intro ?_ ?_) <;> (first | omega | rfl | assumption | skip)
    by_cases h3 : (g.ands.length : Int) ≤ 80
    case neg =>
      have e : M = false := by rw [hM, show decide (g.ands.length ≤ 80) = false by rw [decide_eq_false_iff_not]; omega]; simp
      subst e
      clear hM
      repeat' (first | simp (maxDischargeDepth := 9) -implicitDefEqProofs -dsimp only [go_sem, seval, List.length_map, *] | simp (disch := omega) only [wrap64])
      refine fin_eq ?_
      (repeat' (first | simp (maxDischargeDepth := 9) -implicitDefEqProofs -dsimp only [go_sem, seval, *] | simp (disch := omega) only [wrap64])) <;> (repeat' refine And.intro ?_ ?_) <;> (first | omega | rfl | assumption | skip)
    have e : M = decide ((g.outs.length : Int) ≤ 60) := by
      rw [hM, show decide (g.ins ≤ 40) = true by simpa using h1, show decide (g.flops.length ≤ 20) = true by rw [decide_eq_true_iff]; omega, show decide (g.ands.length ≤ 80) = true by rw [decide_eq_true_iff]; omega]
      simp only [Bool.true_and]
      rw [Bool.eq_iff_iff, decide_eq_true_iff, decide_eq_true_iff]; omega
    subst e
    clear hM
    repeat' (first | simp (maxDischargeDepth := 9) -implicitDefEqProofs -dsimp only [go_sem, seval, List.length_map, *] | simp (disch := omega) only [wrap64])
    refine fin_eq ?_
    (repeat' (first | simp (maxDischargeDepth := 9) -implicitDefEqProofs -dsimp only [go_sem, seval, *] | simp (disch := omega) only [wrap64])) <;> (repeat' refine And.intro ?_ ?_) <;> (first | omega | rfl | assumption | skip)
theorem few_of {g : Aig} (h : fewG g = true) : Few g := by
  unfold fewG at h
  simp only [Bool.and_eq_true, decide_eq_true_eq] at h
  exact ⟨by omega, by omega, by omega, by omega⟩
theorem few2 (g : Aig) (a b : List Int) (τ : Sig) : ACalls Tryz.prog 8 [encAig g, .slice [encW a .no, encW b .no] .full] τ (fun r σ' => r = .ret (.bool (decide (a.length ≤ 8) && decide (b.length ≤ 8) && fewG g)) ∧ σ' = τ) := by
  have h := bl_few g [a, b] .full τ (by simp)
  rw [show ([a, b].all fun l => decide (l.length ≤ 8)) = (decide (a.length ≤ 8) && decide (b.length ≤ 8)) by simp] at h
  exact h
end Go.Proofs.YtbbihmmobfmadaaGreat

