/- blast: contracts: the document's words, operations of one word, and other widths. -/
import Derived.Test.YtbbihmmobfmadaaGreatOBlzBlzB
set_option linter.unusedSimpArgs false
set_option linter.unusedVariables false
namespace Go.Proofs.YtbbihmmobfmadaaGreat
open Abs Fil Fil.Bl A
theorem fold_L0 (op : Bl.Op) {a : Int} (xs : List Int) {b : Bu} (hb : Wf b.g) (ha : L0 a) : ∀ k, L0 (FoldAt op a xs b k).1
  | 0 => ha
  | k + 1 => by rw [fold_next]; exact bu_L0 (fold_wf op xs hb ha.i64 k).1 _ _ _ _
theorem eq_run (x y : List Int) (b : Bu) : (eqW x y).run b = (allW (notW (ZipAt xorP x y b x.length).1)).run (ZipAt xorP x y b x.length).2 := run_bind _ _ _
theorem eq_L0 {x y : List Int} {b : Bu} (hs : Wf b.g) : L0 ((eqW x y).run b).1 := by
  rw [eq_run]
  exact fold_L0 .and _ (zip_wf (wff_op .xor) hs _).1 ⟨by decide, by decide⟩ _
set_option maxHeartbeats 4000000 in
theorem r19_equal (bo : Nat) (b : Bu) (x y : List Int) (tx ty : Tok) (σ : Sig) (h : σ bo = some (buC b)) (hs : Wf b.g) (hx : ∀ z ∈ x, I64 z) (hy : ∀ z ∈ y, I64 z) (hlen : x.length ≤ y.length) (hxl : x.length ≤ 1000000) :
    ACalls Tryz.prog 175 [.ptr bo 0, encW x tx, encW y ty] σ (fun r σ' => r = .ret (.int .i64 ((eqW x y).run b).1) ∧ σ' = upd σ bo (buC ((eqW x y).run b).2)) := by
  rw [eq_run]
  have hw := fun k => zip_wf (wff_op .xor) (x := x) (y := y) hs k
  have hnx : ∀ k, ZipAt xorP x y b (k + 1) = ((ZipAt xorP x y b k).1 ++ [((ZipAt xorP x y b k).2.op Bl.Op.xor (Bl.gt x k) (Bl.gt y k) 0).1], ((ZipAt xorP x y b k).2.op Bl.Op.xor (Bl.gt x k) (Bl.gt y k) 0).2) := fun k => zip_next xorP x y b k
  have h0 : ZipAt xorP x y b 0 = ([], b) := rfl
  have hw : ∀ k, Wf (ZipAt xorP x y b k).2.g ∧ (ZipAt xorP x y b k).1.length = k := fun k => ⟨(hw k).1, (hw k).2.1⟩
  obtain ⟨G, hG⟩ : ∃ G, ZipAt xorP x y b = G := ⟨_, rfl⟩
  rw [hG] at hw hnx h0 ⊢
  clear hG
  refine calls_x mixed Tryz.func175 b175 n175 rfl q175 (by simp) ?_; unfold c175 r175
  repeat' (first | simp (maxDischargeDepth := 9) -implicitDefEqProofs -dsimp only [go_sem, seval, *] | simp (disch := omega) only [wrap64] | ((with_reducible refine Zt (fun oF hoF hnF hnF' => ?_)); (try simp only [upd_none, ne_eq, not_and] at hoF)))
  have nb : ¬ bo = oF := fun e => by rw [e, hoF] at h; simp at h
  have nb' := Ne.symm nb
  refine loop_rule (fun i : Nat => [(8, some (.int .i64 i)), (1, some (encW x tx)), (0, some (.ptr bo 0)), (2, some (encW y ty)), (7, some (encW (notW (G i).1) (.own oF)))]) (fun i => upd (upd σ bo (buC (G i).2)) oF (.grow 1 i)) (fun i => i ≤ x.length) (fun i => x.length - i) 0 ?_ ?_
  · (repeat' (first | simp (maxDischargeDepth := 9) -implicitDefEqProofs -dsimp only [go_sem, seval, h0, encW, notW, List.map_nil, *] | simp (disch := omega) only [wrap64])) <;> (repeat' refine And.intro ?_ ?_) <;> (first | omega | rfl | assumption | skip)
  intro i hi
  by_cases hlt : i < x.length
  · have hgx : (x.map fun x => AV.int .i64 x)[i]? = some (.int .i64 (Bl.gt x i)) := by simp [Bl.gt, List.getD_eq_getElem?_getD, hlt]
    have hgy : (y.map fun x => AV.int .i64 x)[i]? = some (.int .i64 (Bl.gt y i)) := by simp [Bl.gt, List.getD_eq_getElem?_getD, show i < y.length by omega]
    obtain ⟨w1, w2⟩ := hw i
    have hn := hnx i
    have z1 := fun τ h => r19_xor bo (G i).2 (Bl.gt x i) (Bl.gt y i) τ h w1 (i64_gt hx i) (i64_gt hy i)
    have hL := bu_L0 w1 Bl.Op.xor (Bl.gt x i) (Bl.gt y i) 0
    obtain ⟨r, hr⟩ : ∃ r, (G i).2.op Bl.Op.xor (Bl.gt x i) (Bl.gt y i) 0 = r := ⟨_, rfl⟩
    rw [hr] at z1 hn hL
    have z2 := fun τ => r19_turned r.1 τ (by unfold L0 at hL; omega)
    have hln : (notW (G i).1).length = i := by simp [notW, w2]
    have hn1 : notW (G (i + 1)).1 = notW (G i).1 ++ [turn r.1] := by rw [hn]; simp [notW]
    have hn2 : (G (i + 1)).2 = r.2 := by rw [hn]
    have hbd : (i + 1) * 8 ≤ 35184372088832 := by omega
    clear hr hn hw hnx hs hx hy hL w1 w2
    repeat' (first | simp (maxDischargeDepth := 9) -implicitDefEqProofs -dsimp only [go_sem, seval, List.length_map, *] | simp (disch := omega) only [wrap64] | ((with_reducible refine Zt (fun oF hoF hnF hnF' => ?_)); (try simp only [upd_none, ne_eq, not_and] at hoF)) | ((with_reducible apply ACalls.one1); (focus ((first | with_reducible refine z1 _ ?_ | with_reducible refine z2 _) <;> (first | (simp (maxDischargeDepth := 9) -implicitDefEqProofs -dsimp only [go_sem, seval, *]; done) | omega))); (focus (first | trivial | with_reducible exact rfl | (simp (maxDischargeDepth := 9) -implicitDefEqProofs -dsimp only [go_sem, seval]; done)))) | ((with_reducible apply id_one0); (focus (intro tS hS; ((first | with_reducible refine z1 _ ?_ | with_reducible refine z2 _) <;> (first | (simp (maxDischargeDepth := 9) -implicitDefEqProofs -dsimp only [go_sem, seval, *]; done) | omega | ((with_reducible refine Sub.get hS ?_); simp (maxDischargeDepth := 9) -implicitDefEqProofs -dsimp only [go_sem, seval, *]; done))))); (focus (first | trivial | (simp (maxDischargeDepth := 9) -implicitDefEqProofs -dsimp only [go_sem, seval, *]; done)))) | ((with_reducible apply id_one1); (focus (intro tS hS; ((first | with_reducible refine z1 _ ?_ | with_reducible refine z2 _) <;> (first | (simp (maxDischargeDepth := 9) -implicitDefEqProofs -dsimp only [go_sem, seval, *]; done) | omega | ((with_reducible refine Sub.get hS ?_); simp (maxDischargeDepth := 9) -implicitDefEqProofs -dsimp only [go_sem, seval, *]; done))))); (focus (first | trivial | (simp (maxDischargeDepth := 9) -implicitDefEqProofs -dsimp only [go_sem, seval, *]; done)))))
    refine loop_next _ _ _ _ (i + 1) ?_; (repeat' (first | simp (maxDischargeDepth := 9) -implicitDefEqProofs -dsimp only [go_sem, seval,  hn1, hn2, encW, List.map_append, List.map_cons, List.map_nil, *] | simp (disch := omega) only [wrap64])) <;> (repeat' refine And.intro ?_ ?_) <;> (first | omega | rfl | assumption | skip)
  · have : i = x.length := by omega
    subst this
    have z1 := fun τ h => r19_all bo (G x.length).2 (notW (G x.length).1) (.own oF) τ h (hw x.length).1 (by simp [notW, (hw x.length).2]; omega)
    obtain ⟨r, hr⟩ : ∃ r, (allW (notW (G x.length).1)).run (G x.length).2 = r := ⟨_, rfl⟩
    rw [hr] at z1 ⊢
    clear hr hw hnx hs hx hy
    repeat' (first | simp (maxDischargeDepth := 9) -implicitDefEqProofs -dsimp only [go_sem, seval, List.length_map, *] | simp (disch := omega) only [wrap64] | ((with_reducible refine Zt (fun oF hoF hnF hnF' => ?_)); (try simp only [upd_none, ne_eq, not_and] at hoF)) | ((with_reducible apply ACalls.one1); (focus ((first | with_reducible refine z1 _ ?_) <;> (first | (simp (maxDischargeDepth := 9) -implicitDefEqProofs -dsimp only [go_sem, seval, *]; done) | omega))); (focus (first | trivial | with_reducible exact rfl | (simp (maxDischargeDepth := 9) -implicitDefEqProofs -dsimp only [go_sem, seval]; done)))))
    refine fin_eq ?_
    (repeat' (first | simp (maxDischargeDepth := 9) -implicitDefEqProofs -dsimp only [go_sem, seval, *] | simp (disch := omega) only [wrap64])) <;> (repeat' refine And.intro ?_ ?_) <;> (first | omega | rfl | assumption | skip)
set_option maxHeartbeats 4000000 in
theorem r19_cond (bo : Nat) (b : Bu) (c : Int) (x y : List Int) (tx ty : Tok) (σ : Sig) (h : σ bo = some (buC b)) (hs : Wf b.g) (hc : I64 c) (hlen : x.length ≤ y.length) (hxl : x.length ≤ 1000000) :
    ACalls Tryz.prog 67 [.ptr bo 0, .int .i64 c, encW x tx, encW y ty] σ (fun r σ' => r = .ret (encW ((condP c x y).run b).1 .no) ∧ σ' = upd σ bo (buC ((condP c x y).run b).2)) := by
  show ACalls Tryz.prog 67 _ σ (fun r σ' => r = .ret (encW (ZipAt (fun p q => muxP c p q) x y b x.length).1 .no) ∧ σ' = upd σ bo (buC (ZipAt (fun p q => muxP c p q) x y b x.length).2))
  have hw := fun k => zip_wf (wff_mux c) (x := x) (y := y) hs k
  have hnx : ∀ k, ZipAt (fun p q => muxP c p q) x y b (k + 1) = ((ZipAt (fun p q => muxP c p q) x y b k).1 ++ [((ZipAt (fun p q => muxP c p q) x y b k).2.op Bl.Op.mux c (Bl.gt x k) (Bl.gt y k)).1], ((ZipAt (fun p q => muxP c p q) x y b k).2.op Bl.Op.mux c (Bl.gt x k) (Bl.gt y k)).2) := fun k => zip_next _ x y b k
  have h0 : ZipAt (fun p q => muxP c p q) x y b 0 = ([], b) := rfl
  obtain ⟨G, hG⟩ : ∃ G, ZipAt (fun p q => muxP c p q) x y b = G := ⟨_, rfl⟩
  rw [hG] at hw hnx h0 ⊢
  clear hG
  refine calls_x mixed Tryz.func67 b67 n67 rfl q67 (by simp) ?_; unfold c67 r67
  repeat' (first | simp (maxDischargeDepth := 9) -implicitDefEqProofs -dsimp only [go_sem, seval, *] | simp (disch := omega) only [wrap64] | ((with_reducible refine Zt (fun oF hoF hnF hnF' => ?_)); (try simp only [upd_none, ne_eq, not_and] at hoF)))
  have nb : ¬ bo = oF := fun e => by rw [e, hoF] at h; simp at h
  have nb' := Ne.symm nb
  refine loop_rule (fun i : Nat => [(10, some (.int .i64 i)), (1, some (.int .i64 c)), (2, some (encW x tx)), (0, some (.ptr bo 0)), (3, some (encW y ty)), (9, some (encW (G i).1 (.own oF)))]) (fun i => upd (upd σ bo (buC (G i).2)) oF (.grow 1 i)) (fun i => i ≤ x.length) (fun i => x.length - i) 0 ?_ ?_
  · (repeat' (first | simp (maxDischargeDepth := 9) -implicitDefEqProofs -dsimp only [go_sem, seval, h0, encW, List.map_nil, *] | simp (disch := omega) only [wrap64])) <;> (repeat' refine And.intro ?_ ?_) <;> (first | omega | rfl | assumption | skip)
  intro i hi
  by_cases hlt : i < x.length
  · have hgx : (x.map fun x => AV.int .i64 x)[i]? = some (.int .i64 (Bl.gt x i)) := by simp [Bl.gt, List.getD_eq_getElem?_getD, hlt]
    have hgy : (y.map fun x => AV.int .i64 x)[i]? = some (.int .i64 (Bl.gt y i)) := by simp [Bl.gt, List.getD_eq_getElem?_getD, show i < y.length by omega]
    obtain ⟨w1, w2, _⟩ := hw i
    have hn := hnx i
    have z1 := fun τ h => r19_mux bo (G i).2 c (Bl.gt x i) (Bl.gt y i) τ h w1 hc
    obtain ⟨r, hr⟩ : ∃ r, (G i).2.op Bl.Op.mux c (Bl.gt x i) (Bl.gt y i) = r := ⟨_, rfl⟩
    rw [hr] at z1 hn
    have hbd : (i + 1) * 8 ≤ 35184372088832 := by omega
    clear hr hw hnx hs hc w1
    repeat' (first | simp (maxDischargeDepth := 9) -implicitDefEqProofs -dsimp only [go_sem, seval, List.length_map, *] | simp (disch := omega) only [wrap64] | ((with_reducible refine Zt (fun oF hoF hnF hnF' => ?_)); (try simp only [upd_none, ne_eq, not_and] at hoF)) | ((with_reducible apply id_one1); (focus (intro tS hS; ((first | with_reducible refine z1 _ ?_) <;> (first | (simp (maxDischargeDepth := 9) -implicitDefEqProofs -dsimp only [go_sem, seval, *]; done) | omega | ((with_reducible refine Sub.get hS ?_); simp (maxDischargeDepth := 9) -implicitDefEqProofs -dsimp only [go_sem, seval, *]; done))))); (focus (first | trivial | (simp (maxDischargeDepth := 9) -implicitDefEqProofs -dsimp only [go_sem, seval, *]; done)))))
    refine loop_next _ _ _ _ (i + 1) ?_; (repeat' (first | simp (maxDischargeDepth := 9) -implicitDefEqProofs -dsimp only [go_sem, seval,  hn, encW, List.map_append, List.map_cons, List.map_nil, *] | simp (disch := omega) only [wrap64])) <;> (repeat' refine And.intro ?_ ?_) <;> (first | omega | rfl | assumption | skip)
  · have : i = x.length := by omega
    subst this
    clear hw hnx hs
    repeat' (first | simp (maxDischargeDepth := 9) -implicitDefEqProofs -dsimp only [go_sem, seval, List.length_map, *] | simp (disch := omega) only [wrap64] | ((with_reducible refine Zt (fun oF hoF hnF hnF' => ?_)); (try simp only [upd_none, ne_eq, not_and] at hoF)))
    refine fin_eq ?_
    (repeat' (first | simp (maxDischargeDepth := 9) -implicitDefEqProofs -dsimp only [go_sem, seval, encW, *] | simp (disch := omega) only [wrap64])) <;> (repeat' refine And.intro ?_ ?_) <;> (first | omega | rfl | assumption | skip)
theorem less_run (x y : List Int) (b : Bu) : (lessW x y).run b = (turn ((sumW x (notW y) 1).run b).1.2, ((sumW x (notW y) 1).run b).2) := by unfold lessW; rw [run_bind]; rfl
theorem less_L0 {x y : List Int} {b : Bu} (hs : Wf b.g) : L0 ((lessW x y).run b).1 := by
  rw [less_run]
  exact (sum_L0 hs ⟨by decide, by decide⟩ x.length).1.turn
theorem r19_less (bo : Nat) (b : Bu) (x y : List Int) (tx ty : Tok) (σ : Sig) (h : σ bo = some (buC b)) (hs : Wf b.g) (hx : Lw x) (hy : Lw y) (hlen : x.length ≤ y.length) (hyl : y.length ≤ 1000000) :
    ACalls Tryz.prog 176 [.ptr bo 0, encW x tx, encW y ty] σ (fun r σ' => r = .ret (.int .i64 ((lessW x y).run b).1) ∧ σ' = upd σ bo (buC ((lessW x y).run b).2)) := by
  rw [less_run]
  have z1 := fun τ => r19_not y ty τ hy hyl
  have hl2 : x.length ≤ (notW y).length := by simpa [notW] using hlen
  have z2 := fun τ h => r19_sum bo b x (notW y) tx .no 1 τ h hs hx.i64 hy.not.i64 ⟨by decide, by decide⟩ hl2 (by omega)
  have hL : L0 ((sumW x (notW y) 1).run b).1.2 := (sum_L0 hs ⟨by decide, by decide⟩ x.length).1
  obtain ⟨⟨⟨g1, g2⟩, g3⟩, hG⟩ : ∃ G, (sumW x (notW y) 1).run b = G := ⟨_, rfl⟩
  rw [hG] at z2 hL ⊢
  simp only at z2 hL ⊢
  have z3 := fun τ => r19_turned g2 τ (by unfold L0 at hL; omega)
  clear hG hs hx hy hlen hyl hl2 hL
  refine calls_x mixed Tryz.func176 b176 n176 rfl q176 (by simp) ?_; unfold c176 r176
  repeat' (first | simp (maxDischargeDepth := 9) -implicitDefEqProofs -dsimp only [go_sem, seval, *] | ((with_reducible apply ACalls.one1); (focus ((first | with_reducible refine z1 _ | with_reducible refine z2 _ ?_ | with_reducible refine z3 _) <;> (first | (simp (maxDischargeDepth := 9) -implicitDefEqProofs -dsimp only [go_sem, seval, *]; done) | omega))); (focus (first | trivial | with_reducible exact rfl | (simp (maxDischargeDepth := 9) -implicitDefEqProofs -dsimp only [go_sem, seval]; done)))))
  refine fin_eq ?_
  (repeat' (first | simp (maxDischargeDepth := 9) -implicitDefEqProofs -dsimp only [go_sem, seval, *])) <;> (repeat' refine And.intro ?_ ?_) <;> (first | omega | rfl | assumption | skip)
def cmpP (op : Int) (x y : List Int) : Pg Int :=
  if op = 19 then eqW x y
  else if op = 20 then (eqW x y).bind fun r => .ret (turn r)
  else if op = 21 then lessW x y
  else if op = 23 then lessW y x
  else if op = 22 then (lessW y x).bind fun r => .ret (turn r)
  else (lessW x y).bind fun r => .ret (turn r)
theorem bin_cmp {op : Int} (x y : List Int) (b : Bu) (h : 19 ≤ op ∧ op ≤ 24) : (binP op x y).run b = ([((cmpP op x y).run b).1], ((cmpP op x y).run b).2) := by
  have ho : op = 19 ∨ op = 20 ∨ op = 21 ∨ op = 22 ∨ op = 23 ∨ op = 24 := by omega
  rcases ho with rfl | rfl | rfl | rfl | rfl | rfl <;> simp only [binP, cmpP, run_bind, run_ret, reduceIte, Int.reduceEq, or_self]
set_option maxHeartbeats 4000000 in
theorem r19_compare (bo : Nat) (b : Bu) (op : Int) (x y : List Int) (tx ty : Tok) (σ : Sig) (h : σ bo = some (buC b)) (hs : Wf b.g) (hx : Lw x) (hy : Lw y) (hlen : x.length = y.length) (hyl : y.length ≤ 1000000) (ho : 19 ≤ op ∧ op ≤ 24) :
    ACalls Tryz.prog 114 [.ptr bo 0, .int .i64 op, encW x tx, encW y ty] σ (fun r σ' => r = .ret (.int .i64 ((cmpP op x y).run b).1) ∧ σ' = upd σ bo (buC ((cmpP op x y).run b).2)) := by
  have z1 := fun τ h => r19_equal bo b x y tx ty τ h hs hx.i64 hy.i64 (by omega) (by omega)
  have z2 := fun τ h => r19_less bo b x y tx ty τ h hs hx hy (by omega) (by omega)
  have z3 := fun τ h => r19_less bo b y x ty tx τ h hs hy hx (by omega) (by omega)
  have l1 := eq_L0 (x := x) (y := y) hs
  have l2 := less_L0 (x := x) (y := y) hs
  have l3 := less_L0 (x := y) (y := x) hs
  have hU : (cmpP op x y).run b = if op = 19 then (eqW x y).run b else if op = 20 then (turn ((eqW x y).run b).1, ((eqW x y).run b).2) else if op = 21 then (lessW x y).run b else if op = 23 then (lessW y x).run b
      else if op = 22 then (turn ((lessW y x).run b).1, ((lessW y x).run b).2) else (turn ((lessW x y).run b).1, ((lessW x y).run b).2) := by
    unfold cmpP
    repeat' split
    all_goals first | rfl | rw [run_bind]; rfl
  obtain ⟨U, hUU⟩ : ∃ U, (cmpP op x y).run b = U := ⟨_, rfl⟩
  rw [hUU] at hU ⊢
  obtain ⟨⟨A, bA⟩, hA⟩ : ∃ Z, (eqW x y).run b = Z := ⟨_, rfl⟩
  obtain ⟨⟨B, bB⟩, hB⟩ : ∃ Z, (lessW x y).run b = Z := ⟨_, rfl⟩
  obtain ⟨⟨C, bC⟩, hC⟩ : ∃ Z, (lessW y x).run b = Z := ⟨_, rfl⟩
  rw [hA] at z1 l1 hU
  rw [hB] at z2 l2 hU
  rw [hC] at z3 l3 hU
  simp only at z1 z2 z3 l1 l2 l3 hU
  unfold L0 at l1 l2 l3
  have t1 := fun τ => r19_turned A τ (by omega)
  have t2 := fun τ => r19_turned B τ (by omega)
  have t3 := fun τ => r19_turned C τ (by omega)
  clear hUU hA hB hC hs hx hy hlen hyl l1 l2 l3
  refine calls_x mixed Tryz.func114 b114 n114 rfl q114 (by simp) ?_; unfold c114 r114
  by_cases o1 : op = 19
  · rw [if_pos o1] at hU
    subst hU o1
    repeat' (first | simp (maxDischargeDepth := 9) -implicitDefEqProofs -dsimp only [go_sem, seval, *] | ((with_reducible apply ACalls.one1); (focus ((first | with_reducible refine z1 _ ?_) <;> (first | (simp (maxDischargeDepth := 9) -implicitDefEqProofs -dsimp only [go_sem, seval, *]; done) | omega))); (focus (first | trivial | with_reducible exact rfl | (simp (maxDischargeDepth := 9) -implicitDefEqProofs -dsimp only [go_sem, seval]; done)))))
    refine fin_eq ?_
    (repeat' (first | simp (maxDischargeDepth := 9) -implicitDefEqProofs -dsimp only [go_sem, seval, *])) <;> (repeat' refine And.intro ?_ ?_) <;> (first | omega | rfl | assumption | skip)
  rw [if_neg o1] at hU
  have b1 : (op == 19) = false := by simp [o1]
  by_cases o2 : op = 20
  · rw [if_pos o2] at hU
    subst hU o2
    repeat' (first | simp (maxDischargeDepth := 9) -implicitDefEqProofs -dsimp only [go_sem, seval, *] | ((with_reducible apply ACalls.one1); (focus ((first | with_reducible refine z1 _ ?_ | with_reducible refine t1 _) <;> (first | (simp (maxDischargeDepth := 9) -implicitDefEqProofs -dsimp only [go_sem, seval, *]; done) | omega))); (focus (first | trivial | with_reducible exact rfl | (simp (maxDischargeDepth := 9) -implicitDefEqProofs -dsimp only [go_sem, seval]; done)))))
    refine fin_eq ?_
    (repeat' (first | simp (maxDischargeDepth := 9) -implicitDefEqProofs -dsimp only [go_sem, seval, *])) <;> (repeat' refine And.intro ?_ ?_) <;> (first | omega | rfl | assumption | skip)
  rw [if_neg o2] at hU
  have b2 : (op == 20) = false := by simp [o2]
  by_cases o3 : op = 21
  · rw [if_pos o3] at hU
    subst hU o3
    repeat' (first | simp (maxDischargeDepth := 9) -implicitDefEqProofs -dsimp only [go_sem, seval, *] | ((with_reducible apply ACalls.one1); (focus ((first | with_reducible refine z2 _ ?_) <;> (first | (simp (maxDischargeDepth := 9) -implicitDefEqProofs -dsimp only [go_sem, seval, *]; done) | omega))); (focus (first | trivial | with_reducible exact rfl | (simp (maxDischargeDepth := 9) -implicitDefEqProofs -dsimp only [go_sem, seval]; done)))))
    refine fin_eq ?_
    (repeat' (first | simp (maxDischargeDepth := 9) -implicitDefEqProofs -dsimp only [go_sem, seval, *])) <;> (repeat' refine And.intro ?_ ?_) <;> (first | omega | rfl | assumption | skip)
  rw [if_neg o3] at hU
  have b3 : (op == 21) = false := by simp [o3]
  by_cases o4 : op = 23
  · rw [if_pos o4] at hU
    subst hU o4
    repeat' (first | simp (maxDischargeDepth := 9) -implicitDefEqProofs -dsimp only [go_sem, seval, *] | ((with_reducible apply ACalls.one1); (focus ((first | with_reducible refine z3 _ ?_) <;> (first | (simp (maxDischargeDepth := 9) -implicitDefEqProofs -dsimp only [go_sem, seval, *]; done) | omega))); (focus (first | trivial | with_reducible exact rfl | (simp (maxDischargeDepth := 9) -implicitDefEqProofs -dsimp only [go_sem, seval]; done)))))
    refine fin_eq ?_
    (repeat' (first | simp (maxDischargeDepth := 9) -implicitDefEqProofs -dsimp only [go_sem, seval, *])) <;> (repeat' refine And.intro ?_ ?_) <;> (first | omega | rfl | assumption | skip)
  rw [if_neg o4] at hU
  have b4 : (op == 23) = false := by simp [o4]
  by_cases o5 : op = 22
  · rw [if_pos o5] at hU
    subst hU o5
    repeat' (first | simp (maxDischargeDepth := 9) -implicitDefEqProofs -dsimp only [go_sem, seval, *] | ((with_reducible apply ACalls.one1); (focus ((first | with_reducible refine z3 _ ?_ | with_reducible refine t3 _) <;> (first | (simp (maxDischargeDepth := 9) -implicitDefEqProofs -dsimp only [go_sem, seval, *]; done) | omega))); (focus (first | trivial | with_reducible exact rfl | (simp (maxDischargeDepth := 9) -implicitDefEqProofs -dsimp only [go_sem, seval]; done)))))
    refine fin_eq ?_
    (repeat' (first | simp (maxDischargeDepth := 9) -implicitDefEqProofs -dsimp only [go_sem, seval, *])) <;> (repeat' refine And.intro ?_ ?_) <;> (first | omega | rfl | assumption | skip)
  rw [if_neg o5] at hU
  have b5 : (op == 22) = false := by simp [o5]
  subst hU
  repeat' (first | simp (maxDischargeDepth := 9) -implicitDefEqProofs -dsimp only [go_sem, seval, *] | ((with_reducible apply ACalls.one1); (focus ((first | with_reducible refine z2 _ ?_ | with_reducible refine t2 _) <;> (first | (simp (maxDischargeDepth := 9) -implicitDefEqProofs -dsimp only [go_sem, seval, *]; done) | omega))); (focus (first | trivial | with_reducible exact rfl | (simp (maxDischargeDepth := 9) -implicitDefEqProofs -dsimp only [go_sem, seval]; done)))))
  refine fin_eq ?_
  (repeat' (first | simp (maxDischargeDepth := 9) -implicitDefEqProofs -dsimp only [go_sem, seval, *])) <;> (repeat' refine And.intro ?_ ?_) <;> (first | omega | rfl | assumption | skip)
end Go.Proofs.YtbbihmmobfmadaaGreat

namespace Go.Proofs.YtbbihmmobfmadaaGreat
open Abs Fil Fil.Bl A
set_option maxHeartbeats 4000000 in
theorem r19_mul (bo : Nat) (b : Bu) (x y : List Int) (tx ty : Tok) (σ : Sig) (h : σ bo = some (buC b)) (hs : Wf b.g) (hx : ∀ z ∈ x, I64 z) (hy : ∀ z ∈ y, I64 z) (hlen : y.length ≤ x.length) (hxl : x.length ≤ 1000000) :
    ACalls Tryz.prog 113 [.ptr bo 0, encW x tx, encW y ty] σ (fun r σ' => r = .ret (encW (MulAt x y b y.length).1 .no) ∧ σ' = upd σ bo (buC (MulAt x y b y.length).2)) := by
  have hmw := fun i => mul_wf (x := x) (y := y) hs i
  have hmn := mul_next x y b
  have h0 : MulAt x y b 0 = (List.replicate x.length 0, b) := rfl
  obtain ⟨G, hG⟩ : ∃ G, MulAt x y b = G := ⟨_, rfl⟩
  rw [hG] at hmw hmn h0 ⊢
  clear hG
  have z0 := fun τ => r19_zeros x.length τ hxl
  refine calls_x mixed Tryz.func113 b113 n113 rfl q113 (by simp) ?_; unfold c113 r113
  repeat' (first | simp (maxDischargeDepth := 9) -implicitDefEqProofs -dsimp only [go_sem, seval, List.length_map, *] | simp (disch := omega) only [wrap64] | ((with_reducible apply ACalls.newO); (focus ((first | with_reducible refine z0 _) <;> (first | (simp (maxDischargeDepth := 9) -implicitDefEqProofs -dsimp only [go_sem, seval, *]; done) | omega))); (intro oF hoF hnF hnF'); (try simp only [upd_none, ne_eq, not_and] at hoF)))
  refine loop_rule (fun i : Nat => [(8, some (.int .i64 i)), (2, some (encW y ty)), (1, some (encW x tx)), (0, some (.ptr bo 0)), (7, some (encW (G i).1 .no))]) (fun i => upd σ bo (buC (G i).2)) (fun i => i ≤ y.length) (fun i => y.length - i) 0 ?_ ?_
  · have nb : ¬ bo = oF := fun e => by rw [e, hoF] at h; simp at h
    have nb' := Ne.symm nb
    (repeat' (first | simp (maxDischargeDepth := 9) -implicitDefEqProofs -dsimp only [go_sem, seval, h0, encW, *] | simp (disch := omega) only [wrap64])) <;> (repeat' refine And.intro ?_ ?_) <;> (first | omega | rfl | assumption | skip)
  clear hoF hnF hnF' oF
  intro i hi
  by_cases hlt : i < y.length
  · have hgy : (y.map fun x => AV.int .i64 x)[i]? = some (.int .i64 (Bl.gt y i)) := by simp [Bl.gt, List.getD_eq_getElem?_getD, hlt]
    have hix : i ≤ x.length := by omega
    have hbi := i64_gt hy i
    have hrw := fun j => row_wf (x := x) (bit := Bl.gt y i) (i := i) (hmw i).1 j
    have hrn := row_next x (Bl.gt y i) i (G i).2
    have hr0 : RowAt x (Bl.gt y i) i (G i).2 0 = (List.replicate i 0, (G i).2) := rfl
    have hG1 := hmn i
    have hGi := hmw i
    obtain ⟨R, hR⟩ : ∃ R, RowAt x (Bl.gt y i) i (G i).2 = R := ⟨_, rfl⟩
    rw [hR] at hrw hrn hr0 hG1
    obtain ⟨bit, hbit⟩ : ∃ B, Bl.gt y i = B := ⟨_, rfl⟩
    rw [hbit] at hgy hbi hrn
    have z1 := fun τ => r19_zeros i τ (by omega)
    clear hR hbit z0
    repeat' (first | simp (maxDischargeDepth := 9) -implicitDefEqProofs -dsimp only [go_sem, seval, List.length_map, *] | simp (disch := omega) only [wrap64] | ((with_reducible apply ACalls.newO); (focus ((first | with_reducible refine z1 _) <;> (first | (simp (maxDischargeDepth := 9) -implicitDefEqProofs -dsimp only [go_sem, seval, *]; done) | omega))); (intro oF hoF hnF hnF'); (try simp only [upd_none, ne_eq, not_and] at hoF)))
    have nb : ¬ bo = oF := fun e => by rw [e] at hoF; simp [upd] at hoF
    have nb' := Ne.symm nb
    refine loop_rule (fun j : Nat => [(10, some (.int .i64 j)), (9, some (encW (R j).1 (.own oF))), (0, some (.ptr bo 0)), (7, some (encW (G i).1 .no)), (8, some (.int .i64 i)), (2, some (encW y ty)), (1, some (encW x tx))])
      (fun j => upd (upd σ bo (buC (R j).2)) oF (.grow 1 (i + j))) (fun j => j ≤ x.length - i) (fun j => x.length - i - j) 0 ?_ ?_
    · (repeat' (first | simp (maxDischargeDepth := 9) -implicitDefEqProofs -dsimp only [go_sem, seval, hr0, encW, List.map_replicate, Nat.add_zero, *] | simp (disch := omega) only [wrap64])) <;> (repeat' refine And.intro ?_ ?_) <;> (first | omega | rfl | assumption | skip)
    intro j hj
    by_cases hlj : j < x.length - i
    · have hgx : (x.map fun x => AV.int .i64 x)[j]? = some (.int .i64 (Bl.gt x j)) := by
        simp [Bl.gt, List.getD_eq_getElem?_getD, show j < x.length by omega]
      have z2 := fun τ h => r19_and bo (R j).2 (Bl.gt x j) bit τ h (hrw j).1
      have hn := hrn j
      have hRl := (hrw j).2.1
      obtain ⟨r, hr⟩ : ∃ r, (R j).2.op Bl.Op.and (Bl.gt x j) bit 0 = r := ⟨_, rfl⟩
      rw [hr] at z2 hn
      have hjj : ((i : Int) + (j : Int)) < (x.length : Int) := by omega
      have hbd : (i + j + 1) * 8 ≤ 35184372088832 := by omega
      clear hr hrw hrn hG1 hGi hmw hmn hs hx hy hbi
      repeat' (first | simp (maxDischargeDepth := 9) -implicitDefEqProofs -dsimp only [go_sem, seval, List.length_map, *] | simp (disch := omega) only [wrap64] | ((with_reducible apply ACalls.one1); (focus ((first | with_reducible refine z2 _ ?_) <;> (first | (simp (maxDischargeDepth := 9) -implicitDefEqProofs -dsimp only [go_sem, seval, *]; done) | omega))); (focus (first | trivial | with_reducible exact rfl | (simp (maxDischargeDepth := 9) -implicitDefEqProofs -dsimp only [go_sem, seval]; done)))) | ((with_reducible apply id_one1); (focus (intro tS hS; ((first | with_reducible refine z2 _ ?_) <;> (first | (simp (maxDischargeDepth := 9) -implicitDefEqProofs -dsimp only [go_sem, seval, *]; done) | omega | ((with_reducible refine Sub.get hS ?_); simp (maxDischargeDepth := 9) -implicitDefEqProofs -dsimp only [go_sem, seval, *]; done))))); (focus (first | trivial | (simp (maxDischargeDepth := 9) -implicitDefEqProofs -dsimp only [go_sem, seval, *]; done)))))
      have hadd : i + (j + 1) = i + j + 1 := rfl
      refine loop_next _ _ _ _ (j + 1) ?_; (repeat' (first | simp (maxDischargeDepth := 9) -implicitDefEqProofs -dsimp only [go_sem, seval,  hn, encW, hadd, List.map_append, List.map_cons, List.map_nil, *] | simp (disch := omega) only [wrap64])) <;> (repeat' refine And.intro ?_ ?_) <;> (first | omega | rfl | assumption | skip)
    · have : j = x.length - i := by omega
      subst this
      have hRl := hrw (x.length - i)
      have hrl : (G i).1.length ≤ (R (x.length - i)).1.length := by rw [hRl.2.1, hGi.2.1]; omega
      have z2 := fun τ h => r19_sum bo (R (x.length - i)).2 (G i).1 (R (x.length - i)).1 .no (.own oF) 0 τ h hRl.1 hGi.2.2 hRl.2.2 ⟨by decide, by decide⟩ hrl (by rw [hGi.2.1]; exact hxl)
      obtain ⟨Z, hZ⟩ : ∃ Z, (sumW (G i).1 (R (x.length - i)).1 0).run (R (x.length - i)).2 = Z := ⟨_, rfl⟩
      rw [hZ] at z2 hG1
      have hjj : ¬ ((i : Int) + ((x.length - i : Nat) : Int)) < (x.length : Int) := by omega
      have hwr : IntKind.i64.wrap ((i : Int) + ((x.length - i : Nat) : Int)) = (i : Int) + ((x.length - i : Nat) : Int) := wrap64 _ (by omega) (by omega)
      clear hZ hrw hrn hmw hmn hs hx hy hbi hrl hRl hGi
      repeat' (first | simp (maxDischargeDepth := 9) -implicitDefEqProofs -dsimp only [go_sem, seval, List.length_map, *] | simp (disch := omega) only [wrap64] | ((with_reducible apply ACalls.one1); (focus ((first | with_reducible refine z2 _ ?_) <;> (first | (simp (maxDischargeDepth := 9) -implicitDefEqProofs -dsimp only [go_sem, seval, *]; done) | omega))); (focus (first | trivial | with_reducible exact rfl | (simp (maxDischargeDepth := 9) -implicitDefEqProofs -dsimp only [go_sem, seval]; done)))))
      refine loop_next _ _ _ _ (i + 1) ?_; (repeat' (first | simp (maxDischargeDepth := 9) -implicitDefEqProofs -dsimp only [go_sem, seval,  hG1, encW, *] | simp (disch := omega) only [wrap64])) <;> (repeat' refine And.intro ?_ ?_) <;> (first | omega | rfl | assumption | skip)
  · have : i = y.length := by omega
    subst this
    clear hmw hmn hs hx hy z0
    repeat' (first | simp (maxDischargeDepth := 9) -implicitDefEqProofs -dsimp only [go_sem, seval, List.length_map, *] | simp (disch := omega) only [wrap64])
    refine fin_eq ?_
    (repeat' (first | simp (maxDischargeDepth := 9) -implicitDefEqProofs -dsimp only [go_sem, seval, encW, *] | simp (disch := omega) only [wrap64])) <;> (repeat' refine And.intro ?_ ?_) <;> (first | omega | rfl | assumption | skip)
def farN (n i : Nat) : Nat := if i < 10 then 2 ^ i else n
def farD (up : Bool) (n i : Nat) (j : Int) : Int := if up then j - (farN n i : Int) else j + (farN n i : Int)
theorem farN_le (n i : Nat) (h : n ≤ 64) : farN n i ≤ 512 := by
  unfold farN
  split
  · exact (Nat.pow_le_pow_right (by omega) (by omega) : 2 ^ i ≤ 2 ^ 9)
  · omega
theorem far_doc {x : List Int} (hx : x.length ≤ 64) (up : Bool) (i j : Nat) (hj : j < x.length) : far x (farI up i j) = far x (farD up x.length i j) := by
  have hc : ∀ k : Nat, (2 : Int) ^ k = ((2 ^ k : Nat) : Int) := fun k => by simp
  by_cases h8 : i ≤ 8
  · have e : min i 8 = i := Nat.min_eq_left h8
    have e2 : farN x.length i = 2 ^ i := if_pos (by omega)
    unfold farI farD
    rw [e, e2, hc]
  · have e : min i 8 = 8 := Nat.min_eq_right (by omega)
    have hz : ∀ k : Int, (k < 0 ∨ (x.length : Int) ≤ k) → far x k = 0 := fun k hk => by
      unfold far
      rw [if_neg (by omega)]
    have h2 : x.length ≤ farN x.length i := by
      unfold farN
      split
      · have : i = 9 := by omega
        subst this; omega
      · exact Nat.le_refl _
    rw [hz, hz]
    · unfold farD
      cases up
      · right; rw [if_neg (by simp)]; omega
      · left; rw [if_pos rfl]; omega
    · unfold farI
      rw [e]
      cases up
      · right; rw [if_neg (by simp)]; omega
      · left; rw [if_pos rfl]; omega
set_option maxHeartbeats 8000000 in
theorem r19_shift (bo : Nat) (b : Bu) (x y : List Int) (tx ty : Tok) (up : Bool) (σ : Sig) (h : σ bo = some (buC b)) (hs : Wf b.g) (hx : ∀ z ∈ x, I64 z) (hy : ∀ z ∈ y, I64 z) (hxl : x.length ≤ 64) (hyl : y.length ≤ 1000000) :
    ACalls Tryz.prog 86 [.ptr bo 0, encW x tx, encW y ty, .bool up] σ (fun r σ' => r = .ret (encW (ShAt x y up b y.length).1 .no) ∧ σ' = upd σ bo (buC (ShAt x y up b y.length).2)) := by
  have hmw := fun i => sh_wf (y := y) (up := up) hs hx i
  have hmn := sh_next x y up b
  have h0 : ShAt x y up b 0 = (x, b) := rfl
  obtain ⟨G, hG⟩ : ∃ G, ShAt x y up b = G := ⟨_, rfl⟩
  rw [hG] at hmw hmn h0 ⊢
  clear hG
  refine calls_x mixed Tryz.func86 b86 n86 rfl q86 (by simp) ?_; unfold c86 r86
  repeat' (first | simp (maxDischargeDepth := 9) -implicitDefEqProofs -dsimp only [go_sem, seval, List.length_map, *] | simp (disch := omega) only [wrap64] | ((with_reducible refine Zt (fun oF hoF hnF hnF' => ?_)); (try simp only [upd_none, ne_eq, not_and] at hoF)))
  refine loop_rule (fun i : Nat => [(9, some (.int .i64 i)), (2, some (encW y ty)), (3, some (.bool up)), (0, some (.ptr bo 0)), (1, some (encW (G i).1 .no))]) (fun i => upd σ bo (buC (G i).2)) (fun i => i ≤ y.length) (fun i => y.length - i) 0 ?_ ?_
  · (repeat' (first | simp (maxDischargeDepth := 9) -implicitDefEqProofs -dsimp only [go_sem, seval, h0, encW, *] | simp (disch := omega) only [wrap64])) <;> (repeat' refine And.intro ?_ ?_) <;> (first | omega | rfl | assumption | skip)
  intro i hi
  by_cases hlt : i < y.length
  · have hgy : (y.map fun x => AV.int .i64 x)[i]? = some (.int .i64 (Bl.gt y i)) := by simp [Bl.gt, List.getD_eq_getElem?_getD, hlt]
    have hbi := i64_gt hy i
    have hG1 := hmn i
    have hGi := hmw i
    have hGl := hGi.2.1
    have hfd := fun j hj => far_doc (x := (G i).1) (by omega) up i j hj
    rw [hGl] at hfd
    obtain ⟨bit, hbit⟩ : ∃ B, Bl.gt y i = B := ⟨_, rfl⟩
    rw [hbit] at hgy hbi hG1
    have hrw := fun j => s1_wf (x := (G i).1) (bit := bit) (up := up) (i := i) hGi.1 j
    have hrn := s1_next (G i).1 bit up i (G i).2
    have hr0 : S1At (G i).1 bit up i (G i).2 0 = ([], (G i).2) := rfl
    obtain ⟨R, hR⟩ : ∃ R, S1At (G i).1 bit up i (G i).2 = R := ⟨_, rfl⟩
    rw [hR] at hrw hrn hr0 hG1
    have hF := farN_le x.length i hxl
    have hcase : (((i : Int) < 10 ∧ IntKind.i64.wrap (1 * 2 ^ i) = (farN x.length i : Int)) ∧ Nat.min i 64 = i) ∨ (¬ (i : Int) < 10) := by
      by_cases h10 : i < 10
      · have e : farN x.length i = 2 ^ i := if_pos h10
        refine .inl ⟨⟨by omega, ?_⟩, Nat.min_eq_left (by omega)⟩
        rw [e] at hF ⊢
        have hc : (2 : Int) ^ i = ((2 ^ i : Nat) : Int) := by simp
        rw [Int.one_mul, hc, wrap64 _ (by omega) (by omega)]
      · exact .inr (by omega)
    have hdf : ∀ j : Nat, farD up x.length i j = if up then (j : Int) - (farN x.length i : Int) else (j : Int) + (farN x.length i : Int) := fun j => rfl
    have hn10 : PLift (¬ (i : Int) < 10 → (x.length : Int) = (farN x.length i : Int)) := ⟨fun h => by rw [show farN x.length i = x.length from if_neg (by omega)]⟩
    obtain ⟨FAR, hFAR⟩ : ∃ F, farN x.length i = F := ⟨_, rfl⟩
    rw [hFAR] at hF hcase hn10
    have hdf : ∀ j : Nat, farD up x.length i j = if up then (j : Int) - (FAR : Int) else (j : Int) + (FAR : Int) := fun j => by rw [hdf, hFAR]
    have hni : ¬ (i : Int) < 0 := by omega
    have hh : ∀ j, (R j).2.op Bl.Op.mux bit (far (G i).1 (farI up i j)) (Bl.gt (G i).1 j) = (R j).2.op Bl.Op.mux bit (far (G i).1 (farI up i j)) (Bl.gt (G i).1 j) := fun _ => rfl
    clear hR hFAR hbit hh
    obtain ⟨⟨hl10, hsh⟩, hmn10⟩ | hl10 := hcase
    all_goals
      repeat' (first | simp (maxDischargeDepth := 9) -implicitDefEqProofs -dsimp only [go_sem, seval, List.length_map, *] | simp (disch := omega) only [wrap64] | ((with_reducible refine Zt (fun oF hoF hnF hnF' => ?_)); (try simp only [upd_none, ne_eq, not_and] at hoF)))
      have nb : ¬ bo = oF := fun e => by rw [e] at hoF; simp [upd] at hoF
      have nb' := Ne.symm nb
      refine loop_rule (fun j : Nat => [(12, some (.int .i64 j)), (1, some (encW (G i).1 .no)), (10, some (.int .i64 FAR)), (3, some (.bool up)), (11, some (encW (R j).1 (.own oF))), (0, some (.ptr bo 0)), (2, some (encW y ty)), (9, some (.int .i64 i))])
        (fun j => upd (upd σ bo (buC (R j).2)) oF (.grow 1 j)) (fun j => j ≤ x.length) (fun j => x.length - j) 0 ?_ ?_
      · have hn10 := hn10.down
        (repeat' (first | simp (maxDischargeDepth := 9) -implicitDefEqProofs -dsimp only [go_sem, seval, hr0, encW, List.map_nil, *] | simp (disch := omega) only [wrap64])) <;> (repeat' refine And.intro ?_ ?_) <;> (first | omega | rfl | assumption | skip)
      clear hn10
      intro j hj
      by_cases hlj : j < x.length
      · have hgx : ((G i).1.map fun x => AV.int .i64 x)[j]? = some (.int .i64 (Bl.gt (G i).1 j)) := by
          simp [Bl.gt, List.getD_eq_getElem?_getD, hGl, hlj]
        have z1 := fun τ h => r19_mux bo (R j).2 bit (far (G i).1 (farI up i j)) (Bl.gt (G i).1 j) τ h (hrw j).1 hbi
        have hn := hrn j
        have hRl := (hrw j).2.1
        rw [hfd j hlj] at z1 hn
        have hdj := hdf j
        obtain ⟨KK, hKK⟩ : ∃ K, farD up x.length i j = K := ⟨_, rfl⟩
        rw [hKK] at z1 hn hdj
        obtain ⟨r, hr⟩ : ∃ r, (R j).2.op Bl.Op.mux bit (far (G i).1 KK) (Bl.gt (G i).1 j) = r := ⟨_, rfl⟩
        rw [hr] at z1 hn
        have hbd : (j + 1) * 8 ≤ 35184372088832 := by omega
        obtain ⟨V, hV⟩ : ∃ V, far (G i).1 KK = V := ⟨_, rfl⟩
        rw [hV] at z1
        have hk : (KK ≥ 0 ∧ KK < (x.length : Int) ∧ ((G i).1.map fun x => AV.int .i64 x)[KK.toNat]? = some (.int .i64 V)) ∨ (KK ≥ 0 ∧ ¬ KK < (x.length : Int) ∧ V = 0) ∨ (¬ KK ≥ 0 ∧ V = 0) := by
          by_cases k0 : KK ≥ 0
          · by_cases k1 : KK < (x.length : Int)
            · refine .inl ⟨k0, k1, ?_⟩
              rw [← hV, far, if_pos ⟨k0, by rw [hGl]; exact k1⟩]
              simp [Bl.gt, List.getD_eq_getElem?_getD, hGl, show KK.toNat < x.length by omega]
            · exact .inr (.inl ⟨k0, k1, by rw [← hV, far, if_neg (by rw [hGl]; omega)]⟩)
          · exact .inr (.inr ⟨k0, by rw [← hV, far, if_neg (by omega)]⟩)
        clear hr hrw hrn hG1 hGi hmw hmn hs hx hy hbi hfd hdf hV hKK
        cases up
        all_goals
          simp only [if_true, Bool.false_eq_true, if_false] at hdj
          have hdj' := hdj.symm
          obtain ⟨k0, k1, k2⟩ | ⟨k0, k1, rfl⟩ | ⟨k0, rfl⟩ := hk
          all_goals
            clear hdj
            repeat' (first | simp (maxDischargeDepth := 9) -implicitDefEqProofs -dsimp only [go_sem, seval, List.length_map, *] | simp (disch := omega) only [wrap64] | ((with_reducible refine Zt (fun oF hoF hnF hnF' => ?_)); (try simp only [upd_none, ne_eq, not_and] at hoF)) | ((with_reducible apply id_one1); (focus (intro tS hS; ((first | with_reducible refine z1 _ ?_) <;> (first | (simp (maxDischargeDepth := 9) -implicitDefEqProofs -dsimp only [go_sem, seval, *]; done) | omega | ((with_reducible refine Sub.get hS ?_); simp (maxDischargeDepth := 9) -implicitDefEqProofs -dsimp only [go_sem, seval, *]; done))))); (focus (first | trivial | (simp (maxDischargeDepth := 9) -implicitDefEqProofs -dsimp only [go_sem, seval, *]; done)))))
            refine loop_next _ _ _ _ (j + 1) ?_; (repeat' (first | simp (maxDischargeDepth := 9) -implicitDefEqProofs -dsimp only [go_sem, seval,  hn, encW, List.map_append, List.map_cons, List.map_nil, *] | simp (disch := omega) only [wrap64])) <;> (repeat' refine And.intro ?_ ?_) <;> (first | omega | rfl | assumption | skip)
      · have : j = x.length := by omega
        subst this
        rw [hGl] at hG1
        clear hrw hrn hmw hmn hs hx hy hbi hGi hfd hdf
        repeat' (first | simp (maxDischargeDepth := 9) -implicitDefEqProofs -dsimp only [go_sem, seval, List.length_map, *] | simp (disch := omega) only [wrap64] | ((with_reducible refine Zt (fun oF hoF hnF hnF' => ?_)); (try simp only [upd_none, ne_eq, not_and] at hoF)))
        refine loop_next _ _ _ _ (i + 1) ?_; (repeat' (first | simp (maxDischargeDepth := 9) -implicitDefEqProofs -dsimp only [go_sem, seval,  hG1, encW, *] | simp (disch := omega) only [wrap64])) <;> (repeat' refine And.intro ?_ ?_) <;> (first | omega | rfl | assumption | skip)
  · have : i = y.length := by omega
    subst this
    clear hmw hmn hs hx hy
    repeat' (first | simp (maxDischargeDepth := 9) -implicitDefEqProofs -dsimp only [go_sem, seval, List.length_map, *] | simp (disch := omega) only [wrap64] | ((with_reducible refine Zt (fun oF hoF hnF hnF' => ?_)); (try simp only [upd_none, ne_eq, not_and] at hoF)))
    refine fin_eq ?_
    (repeat' (first | simp (maxDischargeDepth := 9) -implicitDefEqProofs -dsimp only [go_sem, seval, encW, *] | simp (disch := omega) only [wrap64])) <;> (repeat' refine And.intro ?_ ?_) <;> (first | omega | rfl | assumption | skip)
end Go.Proofs.YtbbihmmobfmadaaGreat

namespace Go.Proofs.YtbbihmmobfmadaaGreat
open Abs Fil Fil.Bl A
set_option maxHeartbeats 8000000 in
theorem r19_un (bo : Nat) (b : Bu) (op : Int) (x : List Int) (t : Tok) (σ : Sig) (h : σ bo = some (buC b)) (hs : Wf b.g) (hx : Lw x) (h1 : 1 ≤ x.length) (hl : x.length ≤ 1000000) (ho : 1 ≤ op ∧ op ≤ 6) :
    ACalls Tryz.prog 53 [.ptr bo 0, .int .i64 op, encW x t] σ (fun r σ' => r = .ret (encW ((unP op x).run b).1 .no) ∧ σ' = upd σ bo (buC ((unP op x).run b).2)) := by
  have hU : (unP op x).run b = if op = 1 then (notW x, b) else if op = 2 then (((sumW (notW x) (List.replicate x.length 0) 1).run b).1.1, ((sumW (notW x) (List.replicate x.length 0) 1).run b).2)
      else if op = 3 then ([((allW x).run b).1], ((allW x).run b).2) else if op = 4 then ([turn ((allW (notW x)).run b).1], ((allW (notW x)).run b).2)
      else if op = 5 then ([(FoldAt .xor 0 x b x.length).1], (FoldAt .xor 0 x b x.length).2) else ([turn (Bl.gt x 0)], b) := by
    unfold unP
    repeat' split
    all_goals first | rfl | (rw [run_bind]; rfl)
  obtain ⟨U, hUU⟩ : ∃ U, (unP op x).run b = U := ⟨_, rfl⟩
  rw [hUU] at hU ⊢
  clear hUU
  have z1 := fun τ => r19_not x t τ hx hl
  by_cases o1 : op = 1
  · rw [if_pos o1] at hU
    subst hU o1
    clear hs hx
    rw [upd_same h]
    refine calls_x mixed Tryz.func53 b53 n53 rfl q53 (by simp) ?_; unfold c53 r53
    repeat' (first | simp (maxDischargeDepth := 9) -implicitDefEqProofs -dsimp only [go_sem, seval, *] | simp (disch := omega) only [wrap64] | ((with_reducible apply ACalls.one1); (focus ((first | with_reducible refine z1 _) <;> (first | (simp (maxDischargeDepth := 9) -implicitDefEqProofs -dsimp only [go_sem, seval, *]; done) | omega))); (focus (first | trivial | with_reducible exact rfl | (simp (maxDischargeDepth := 9) -implicitDefEqProofs -dsimp only [go_sem, seval]; done)))))
    refine fin_eq ?_
    (repeat' (first | simp (maxDischargeDepth := 9) -implicitDefEqProofs -dsimp only [go_sem, seval, *] | simp (disch := omega) only [wrap64])) <;> (repeat' refine And.intro ?_ ?_) <;> (first | omega | rfl | assumption | skip)
  rw [if_neg o1] at hU
  have b1 : (op == 1) = false := by simp [o1]
  by_cases o2 : op = 2
  · rw [if_pos o2] at hU
    subst o2
    have z2 := fun τ => r19_zeros x.length τ hl
    have z3 := fun o τ h => r19_sum bo b (notW x) (List.replicate x.length 0) .no (.own o) 1 τ h hs hx.not.i64 (Lw.zeros _).i64 ⟨by decide, by decide⟩ (by simp [notW]) (by simpa [notW] using hl)
    obtain ⟨⟨⟨A, a2⟩, bA⟩, hA⟩ : ∃ Z, (sumW (notW x) (List.replicate x.length 0) 1).run b = Z := ⟨_, rfl⟩
    rw [hA] at z3 hU
    simp only at z3 hU
    subst hU
    clear hA hs hx
    refine calls_x mixed Tryz.func53 b53 n53 rfl q53 (by simp) ?_; unfold c53 r53
    repeat' (first | simp (maxDischargeDepth := 9) -implicitDefEqProofs -dsimp only [go_sem, seval, List.length_map, *] | simp (disch := omega) only [wrap64] | ((with_reducible apply ACalls.one1); (focus ((first | with_reducible refine z1 _ | with_reducible refine z3 _ _ ?_) <;> (first | (simp (maxDischargeDepth := 9) -implicitDefEqProofs -dsimp only [go_sem, seval, *]; done) | omega))); (focus (first | trivial | with_reducible exact rfl | (simp (maxDischargeDepth := 9) -implicitDefEqProofs -dsimp only [go_sem, seval]; done)))) | ((with_reducible apply ACalls.newO); (focus ((first | with_reducible refine z2 _) <;> (first | (simp (maxDischargeDepth := 9) -implicitDefEqProofs -dsimp only [go_sem, seval, *]; done) | omega))); (intro oF hoF hnF hnF'); (try simp only [upd_none, ne_eq, not_and] at hoF)))
    have nb : ¬ bo = oF := fun e => by rw [e, hoF] at h; simp at h
    have nb' := Ne.symm nb
    repeat' (first | simp (maxDischargeDepth := 9) -implicitDefEqProofs -dsimp only [go_sem, seval, List.length_map, *] | simp (disch := omega) only [wrap64] | ((with_reducible apply ACalls.one1); (focus ((first | with_reducible refine z3 _ _ ?_) <;> (first | (simp (maxDischargeDepth := 9) -implicitDefEqProofs -dsimp only [go_sem, seval, *]; done) | omega))); (focus (first | trivial | with_reducible exact rfl | (simp (maxDischargeDepth := 9) -implicitDefEqProofs -dsimp only [go_sem, seval]; done)))))
    refine fin_eq ?_
    (repeat' (first | simp (maxDischargeDepth := 9) -implicitDefEqProofs -dsimp only [go_sem, seval, *] | simp (disch := omega) only [wrap64])) <;> (repeat' refine And.intro ?_ ?_) <;> (first | omega | rfl | assumption | skip)
  rw [if_neg o2] at hU
  have b2 : (op == 2) = false := by simp [o2]
  by_cases o3 : op = 3
  · rw [if_pos o3] at hU
    subst o3
    have z2 := fun τ h => r19_all bo b x t τ h hs hl
    obtain ⟨⟨A, bA⟩, hA⟩ : ∃ Z, (allW x).run b = Z := ⟨_, rfl⟩
    rw [hA] at z2 hU
    simp only at z2 hU
    subst hU
    clear hA hs hx z1
    refine calls_x mixed Tryz.func53 b53 n53 rfl q53 (by simp) ?_; unfold c53 r53
    repeat' (first | simp (maxDischargeDepth := 9) -implicitDefEqProofs -dsimp only [go_sem, seval, *] | simp (disch := omega) only [wrap64] | ((with_reducible apply ACalls.one1); (focus ((first | with_reducible refine z2 _ ?_) <;> (first | (simp (maxDischargeDepth := 9) -implicitDefEqProofs -dsimp only [go_sem, seval, *]; done) | omega))); (focus (first | trivial | with_reducible exact rfl | (simp (maxDischargeDepth := 9) -implicitDefEqProofs -dsimp only [go_sem, seval]; done)))))
    refine fin_eq ?_
    (repeat' (first | simp (maxDischargeDepth := 9) -implicitDefEqProofs -dsimp only [go_sem, seval, encW, List.map_cons, List.map_nil, *] | simp (disch := omega) only [wrap64])) <;> (repeat' refine And.intro ?_ ?_) <;> (first | omega | rfl | assumption | skip)
  rw [if_neg o3] at hU
  have b3 : (op == 3) = false := by simp [o3]
  by_cases o4 : op = 4
  · rw [if_pos o4] at hU
    subst o4
    have z2 := fun τ h => r19_all bo b (notW x) .no τ h hs (by simpa [notW] using hl)
    have hL : L0 ((allW (notW x)).run b).1 := fold_L0 .and _ hs ⟨by decide, by decide⟩ _
    obtain ⟨⟨A, bA⟩, hA⟩ : ∃ Z, (allW (notW x)).run b = Z := ⟨_, rfl⟩
    rw [hA] at z2 hU hL
    simp only at z2 hU hL
    have z3 := fun τ => r19_turned A τ (by unfold L0 at hL; omega)
    subst hU
    clear hA hs hx hL
    refine calls_x mixed Tryz.func53 b53 n53 rfl q53 (by simp) ?_; unfold c53 r53
    repeat' (first | simp (maxDischargeDepth := 9) -implicitDefEqProofs -dsimp only [go_sem, seval, *] | simp (disch := omega) only [wrap64] | ((with_reducible apply ACalls.one1); (focus ((first | with_reducible refine z1 _ | with_reducible refine z2 _ ?_ | with_reducible refine z3 _) <;> (first | (simp (maxDischargeDepth := 9) -implicitDefEqProofs -dsimp only [go_sem, seval, *]; done) | omega))); (focus (first | trivial | with_reducible exact rfl | (simp (maxDischargeDepth := 9) -implicitDefEqProofs -dsimp only [go_sem, seval]; done)))))
    refine fin_eq ?_
    (repeat' (first | simp (maxDischargeDepth := 9) -implicitDefEqProofs -dsimp only [go_sem, seval, encW, List.map_cons, List.map_nil, *] | simp (disch := omega) only [wrap64])) <;> (repeat' refine And.intro ?_ ?_) <;> (first | omega | rfl | assumption | skip)
  rw [if_neg o4] at hU
  have b4 : (op == 4) = false := by simp [o4]
  by_cases o5 : op = 5
  · rw [if_pos o5] at hU
    subst o5
    have hw := fold_wf .xor x hs (a := 0) ⟨by decide, by decide⟩
    have hnx := fold_next .xor 0 x b
    have h0 : FoldAt .xor 0 x b 0 = (0, b) := rfl
    obtain ⟨G, hG⟩ : ∃ G, FoldAt .xor 0 x b = G := ⟨_, rfl⟩
    rw [hG] at hw hnx h0 hU
    subst hU
    clear hG z1
    refine calls_x mixed Tryz.func53 b53 n53 rfl q53 (by simp) ?_; unfold c53 r53
    repeat' (first | simp (maxDischargeDepth := 9) -implicitDefEqProofs -dsimp only [go_sem, seval, *] | simp (disch := omega) only [wrap64])
    refine loop_rule (fun i : Nat => [(10, some (.int .i64 i)), (2, some (encW x t)), (0, some (.ptr bo 0)), (9, some (.int .i64 (G i).1))]) (fun i => upd σ bo (buC (G i).2)) (fun i => i ≤ x.length) (fun i => x.length - i) 0 ?_ ?_
    · (repeat' (first | simp (maxDischargeDepth := 9) -implicitDefEqProofs -dsimp only [go_sem, seval, h0, *] | simp (disch := omega) only [wrap64])) <;> (repeat' refine And.intro ?_ ?_) <;> (first | omega | rfl | assumption | skip)
    intro i hi
    by_cases hlt : i < x.length
    · have hgx : (x.map fun x => AV.int .i64 x)[i]? = some (.int .i64 (Bl.gt x i)) := by simp [Bl.gt, List.getD_eq_getElem?_getD, hlt]
      have z1 := fun τ h => r19_xor bo (G i).2 (G i).1 (Bl.gt x i) τ h (hw i).1 (hw i).2 (hx.gt i).i64
      have hn := hnx i
      rw [← hn] at z1
      clear hw hnx hs hn hx
      repeat' (first | simp (maxDischargeDepth := 9) -implicitDefEqProofs -dsimp only [go_sem, seval, List.length_map, *] | simp (disch := omega) only [wrap64] | ((with_reducible apply ACalls.one1); (focus ((first | with_reducible refine z1 _ ?_) <;> (first | (simp (maxDischargeDepth := 9) -implicitDefEqProofs -dsimp only [go_sem, seval, *]; done) | omega))); (focus (first | trivial | with_reducible exact rfl | (simp (maxDischargeDepth := 9) -implicitDefEqProofs -dsimp only [go_sem, seval]; done)))))
      refine loop_next _ _ _ _ (i + 1) ?_; (repeat' (first | simp (maxDischargeDepth := 9) -implicitDefEqProofs -dsimp only [go_sem, seval, *] | simp (disch := omega) only [wrap64])) <;> (repeat' refine And.intro ?_ ?_) <;> (first | omega | rfl | assumption | skip)
    · have : i = x.length := by omega
      subst this
      clear hw hnx hs hx
      repeat' (first | simp (maxDischargeDepth := 9) -implicitDefEqProofs -dsimp only [go_sem, seval, List.length_map, *] | simp (disch := omega) only [wrap64])
      refine fin_eq ?_
      (repeat' (first | simp (maxDischargeDepth := 9) -implicitDefEqProofs -dsimp only [go_sem, seval, encW, List.map_cons, List.map_nil, *] | simp (disch := omega) only [wrap64])) <;> (repeat' refine And.intro ?_ ?_) <;> (first | omega | rfl | assumption | skip)
  rw [if_neg o5] at hU
  have b5 : (op == 5) = false := by simp [o5]
  have z2 := fun τ => r19_turned (Bl.gt x 0) τ (by have := hx.gt 0; unfold L0 at this; omega)
  have hgx : (x.map fun x => AV.int .i64 x)[0]? = some (.int .i64 (Bl.gt x 0)) := by simp [Bl.gt, List.getD_eq_getElem?_getD, show 0 < x.length by omega]
  subst hU
  have hx0 : (0 : Int) < (x.length : Int) := by omega
  clear hs hx z1
  rw [upd_same h]
  refine calls_x mixed Tryz.func53 b53 n53 rfl q53 (by simp) ?_; unfold c53 r53
  repeat' (first | simp (maxDischargeDepth := 9) -implicitDefEqProofs -dsimp only [go_sem, seval, List.length_map, *] | simp (disch := omega) only [wrap64] | ((with_reducible apply ACalls.one1); (focus ((first | with_reducible refine z2 _) <;> (first | (simp (maxDischargeDepth := 9) -implicitDefEqProofs -dsimp only [go_sem, seval, *]; done) | omega))); (focus (first | trivial | with_reducible exact rfl | (simp (maxDischargeDepth := 9) -implicitDefEqProofs -dsimp only [go_sem, seval]; done)))))
  refine fin_eq ?_
  (repeat' (first | simp (maxDischargeDepth := 9) -implicitDefEqProofs -dsimp only [go_sem, seval, encW, List.map_cons, List.map_nil, *] | simp (disch := omega) only [wrap64])) <;> (repeat' refine And.intro ?_ ?_) <;> (first | omega | rfl | assumption | skip)
end Go.Proofs.YtbbihmmobfmadaaGreat

namespace Go.Proofs.YtbbihmmobfmadaaGreat
open Abs Fil Fil.Bl A
def opOf (op : Int) : Bl.Op := if op = 11 ∨ op = 25 then .and else if op = 12 ∨ op = 26 then .or else .xor
theorem bin_zip {op : Int} (x y : List Int) (h : op = 11 ∨ op = 25 ∨ op = 12 ∨ op = 26 ∨ op = 13) : binP op x y = zipP (fun p q => .op (opOf op) p q 0 .ret) x y x.length := by
  rcases h with rfl | rfl | rfl | rfl | rfl <;> simp [binP, opOf] <;> rfl
set_option maxRecDepth 20000 in
set_option maxHeartbeats 8000000 in
theorem r19_bin (bo : Nat) (b : Bu) (op : Int) (x y : List Int) (tx ty : Tok) (σ : Sig) (h : σ bo = some (buC b)) (hs : Wf b.g) (hx : Lw x) (hy : Lw y) (hx1 : 1 ≤ x.length) (hxl : x.length ≤ 64) (hyl : y.length ≤ 64) (ho : 11 ≤ op ∧ op ≤ 26) (hlen : op = 17 ∨ op = 18 ∨ x.length = y.length) :
    ACalls Tryz.prog 63 [.ptr bo 0, .int .i64 op, encW x tx, encW y ty] σ (fun r σ' => r = .ret (encW ((binP op x y).run b).1 .no) ∧ σ' = upd σ bo (buC ((binP op x y).run b).2)) := by
  by_cases oz : op = 11 ∨ op = 25 ∨ op = 12 ∨ op = 26 ∨ op = 13
  · rw [bin_zip x y oz]
    have hle : x.length = y.length := by omega
    have hw := fun k => zip_wf (wff_op (opOf op)) (x := x) (y := y) hs k
    have hnx : ∀ k, ZipAt (fun p q => .op (opOf op) p q 0 .ret) x y b (k + 1) = ((ZipAt (fun p q => .op (opOf op) p q 0 .ret) x y b k).1 ++ [((ZipAt (fun p q => .op (opOf op) p q 0 .ret) x y b k).2.op (opOf op) (Bl.gt x k) (Bl.gt y k) 0).1], ((ZipAt (fun p q => .op (opOf op) p q 0 .ret) x y b k).2.op (opOf op) (Bl.gt x k) (Bl.gt y k) 0).2) := fun k => zip_next _ x y b k
    have h0 : ZipAt (fun p q => .op (opOf op) p q 0 .ret) x y b 0 = ([], b) := rfl
    show ACalls Tryz.prog 63 _ σ (fun r σ' => r = .ret (encW (ZipAt (fun p q => .op (opOf op) p q 0 .ret) x y b x.length).1 .no) ∧ σ' = upd σ bo (buC (ZipAt (fun p q => .op (opOf op) p q 0 .ret) x y b x.length).2))
    obtain ⟨G, hG⟩ : ∃ G, ZipAt (fun p q => .op (opOf op) p q 0 .ret) x y b = G := ⟨_, rfl⟩
    rw [hG] at hw hnx h0 ⊢
    have hix := fun k => (hx.gt k).i64
    have hiy := fun k => (hy.gt k).i64
    clear hG hs hx hy ho hlen
    replace hle := PLift.up hle
    refine calls_x mixed Tryz.func63 b63 n63 rfl q63 (by simp) ?_; unfold c63 r63
    rcases oz with o | o | o | o | o
    all_goals
      repeat' (first | simp (maxDischargeDepth := 9) -implicitDefEqProofs -dsimp only [go_sem, seval, *] | simp (disch := omega) only [wrap64] | ((with_reducible refine Zt (fun oF hoF hnF hnF' => ?_)); (try simp only [upd_none, ne_eq, not_and] at hoF)))
      have nb : ¬ bo = oF := fun e => by rw [e, hoF] at h; simp at h
      have nb' := Ne.symm nb
      refine loop_rule (fun i : Nat => [(14, some (.int .i64 i)), (1, some (.int .i64 op)), (2, some (encW x tx)), (0, some (.ptr bo 0)), (3, some (encW y ty)), (13, some (encW (G i).1 (.own oF)))]) (fun i => upd (upd σ bo (buC (G i).2)) oF (.grow 1 i)) (fun i => i ≤ x.length) (fun i => x.length - i) 0 ?_ ?_
      · (repeat' (first | simp (maxDischargeDepth := 9) -implicitDefEqProofs -dsimp only [go_sem, seval, h0, encW, List.map_nil, *] | simp (disch := omega) only [wrap64])) <;> (repeat' refine And.intro ?_ ?_) <;> (first | omega | rfl | assumption | skip)
      intro i hi
      by_cases hlt : i < x.length
      · have hgx : (x.map fun x => AV.int .i64 x)[i]? = some (.int .i64 (Bl.gt x i)) := by simp [Bl.gt, List.getD_eq_getElem?_getD, hlt]
        have hgy : (y.map fun x => AV.int .i64 x)[i]? = some (.int .i64 (Bl.gt y i)) := by simp [Bl.gt, List.getD_eq_getElem?_getD, show i < y.length by have := hle.down; omega]
        obtain ⟨w1, w2, _⟩ := hw i
        have hn := hnx i
        have hix := hix i
        have hiy := hiy i
        have hbd : (i + 1) * 8 ≤ 35184372088832 := by omega
        simp only [o, opOf, reduceIte, Int.reduceEq, or_self, or_true, true_or] at hn
        obtain ⟨X, hX⟩ : ∃ X, Bl.gt x i = X := ⟨_, rfl⟩
        obtain ⟨Y, hY⟩ : ∃ X, Bl.gt y i = X := ⟨_, rfl⟩
        rw [hX] at hgx hix hn
        rw [hY] at hgy hiy hn
        clear hw hnx hX hY hle
        first
        | (have z1 := fun τ h => r19_and bo (G i).2 X Y τ h w1
           obtain ⟨r, hr⟩ : ∃ r, (G i).2.op Bl.Op.and X Y 0 = r := ⟨_, rfl⟩
           rw [hr] at z1 hn
           clear hr w1
           repeat' (first | simp (maxDischargeDepth := 9) -implicitDefEqProofs -dsimp only [go_sem, seval, List.length_map, *] | simp (disch := omega) only [wrap64] | ((with_reducible refine Zt (fun oF hoF hnF hnF' => ?_)); (try simp only [upd_none, ne_eq, not_and] at hoF)) | ((with_reducible apply ACalls.one1); (focus ((first | with_reducible refine z1 _ ?_) <;> (first | (simp (maxDischargeDepth := 9) -implicitDefEqProofs -dsimp only [go_sem, seval, *]; done) | omega))); (focus (first | trivial | with_reducible exact rfl | (simp (maxDischargeDepth := 9) -implicitDefEqProofs -dsimp only [go_sem, seval]; done)))) | ((with_reducible apply id_one1); (focus (intro tS hS; ((first | with_reducible refine z1 _ ?_) <;> (first | (simp (maxDischargeDepth := 9) -implicitDefEqProofs -dsimp only [go_sem, seval, *]; done) | omega | ((with_reducible refine Sub.get hS ?_); simp (maxDischargeDepth := 9) -implicitDefEqProofs -dsimp only [go_sem, seval, *]; done))))); (focus (first | trivial | (simp (maxDischargeDepth := 9) -implicitDefEqProofs -dsimp only [go_sem, seval, *]; done)))))
           refine loop_next _ _ _ _ (i + 1) ?_; (repeat' (first | simp (maxDischargeDepth := 9) -implicitDefEqProofs -dsimp only [go_sem, seval,  hn, encW, List.map_append, List.map_cons, List.map_nil, *] | simp (disch := omega) only [wrap64])) <;> (repeat' refine And.intro ?_ ?_) <;> (first | omega | rfl | assumption | skip); done)
        | (have z1 := fun τ h => r19_or bo (G i).2 X Y τ h w1
           obtain ⟨r, hr⟩ : ∃ r, (G i).2.op Bl.Op.or X Y 0 = r := ⟨_, rfl⟩
           rw [hr] at z1 hn
           clear hr w1
           repeat' (first | simp (maxDischargeDepth := 9) -implicitDefEqProofs -dsimp only [go_sem, seval, List.length_map, *] | simp (disch := omega) only [wrap64] | ((with_reducible refine Zt (fun oF hoF hnF hnF' => ?_)); (try simp only [upd_none, ne_eq, not_and] at hoF)) | ((with_reducible apply ACalls.one1); (focus ((first | with_reducible refine z1 _ ?_) <;> (first | (simp (maxDischargeDepth := 9) -implicitDefEqProofs -dsimp only [go_sem, seval, *]; done) | omega))); (focus (first | trivial | with_reducible exact rfl | (simp (maxDischargeDepth := 9) -implicitDefEqProofs -dsimp only [go_sem, seval]; done)))) | ((with_reducible apply id_one1); (focus (intro tS hS; ((first | with_reducible refine z1 _ ?_) <;> (first | (simp (maxDischargeDepth := 9) -implicitDefEqProofs -dsimp only [go_sem, seval, *]; done) | omega | ((with_reducible refine Sub.get hS ?_); simp (maxDischargeDepth := 9) -implicitDefEqProofs -dsimp only [go_sem, seval, *]; done))))); (focus (first | trivial | (simp (maxDischargeDepth := 9) -implicitDefEqProofs -dsimp only [go_sem, seval, *]; done)))))
           refine loop_next _ _ _ _ (i + 1) ?_; (repeat' (first | simp (maxDischargeDepth := 9) -implicitDefEqProofs -dsimp only [go_sem, seval,  hn, encW, List.map_append, List.map_cons, List.map_nil, *] | simp (disch := omega) only [wrap64])) <;> (repeat' refine And.intro ?_ ?_) <;> (first | omega | rfl | assumption | skip); done)
        | (have z1 := fun τ h => r19_xor bo (G i).2 X Y τ h w1 hix hiy
           obtain ⟨r, hr⟩ : ∃ r, (G i).2.op Bl.Op.xor X Y 0 = r := ⟨_, rfl⟩
           rw [hr] at z1 hn
           clear hr w1
           repeat' (first | simp (maxDischargeDepth := 9) -implicitDefEqProofs -dsimp only [go_sem, seval, List.length_map, *] | simp (disch := omega) only [wrap64] | ((with_reducible refine Zt (fun oF hoF hnF hnF' => ?_)); (try simp only [upd_none, ne_eq, not_and] at hoF)) | ((with_reducible apply ACalls.one1); (focus ((first | with_reducible refine z1 _ ?_) <;> (first | (simp (maxDischargeDepth := 9) -implicitDefEqProofs -dsimp only [go_sem, seval, *]; done) | omega))); (focus (first | trivial | with_reducible exact rfl | (simp (maxDischargeDepth := 9) -implicitDefEqProofs -dsimp only [go_sem, seval]; done)))) | ((with_reducible apply id_one1); (focus (intro tS hS; ((first | with_reducible refine z1 _ ?_) <;> (first | (simp (maxDischargeDepth := 9) -implicitDefEqProofs -dsimp only [go_sem, seval, *]; done) | omega | ((with_reducible refine Sub.get hS ?_); simp (maxDischargeDepth := 9) -implicitDefEqProofs -dsimp only [go_sem, seval, *]; done))))); (focus (first | trivial | (simp (maxDischargeDepth := 9) -implicitDefEqProofs -dsimp only [go_sem, seval, *]; done)))))
           refine loop_next _ _ _ _ (i + 1) ?_; (repeat' (first | simp (maxDischargeDepth := 9) -implicitDefEqProofs -dsimp only [go_sem, seval,  hn, encW, List.map_append, List.map_cons, List.map_nil, *] | simp (disch := omega) only [wrap64])) <;> (repeat' refine And.intro ?_ ?_) <;> (first | omega | rfl | assumption | skip); done)
      · have : i = x.length := by omega
        subst this
        clear hw hnx hle
        repeat' (first | simp (maxDischargeDepth := 9) -implicitDefEqProofs -dsimp only [go_sem, seval, List.length_map, *] | simp (disch := omega) only [wrap64] | ((with_reducible refine Zt (fun oF hoF hnF hnF' => ?_)); (try simp only [upd_none, ne_eq, not_and] at hoF)))
        refine fin_eq ?_
        (repeat' (first | simp (maxDischargeDepth := 9) -implicitDefEqProofs -dsimp only [go_sem, seval, encW, *] | simp (disch := omega) only [wrap64])) <;> (repeat' refine And.intro ?_ ?_) <;> (first | omega | rfl | assumption | skip)
  by_cases oc : 19 ≤ op ∧ op ≤ 24
  · rw [bin_cmp x y b oc]
    have z1 := fun τ h => r19_compare bo b op x y tx ty τ h hs hx hy (by omega) (by omega) oc
    obtain ⟨⟨A, bA⟩, hA⟩ : ∃ Z, (cmpP op x y).run b = Z := ⟨_, rfl⟩
    rw [hA] at z1 ⊢
    simp only at z1 ⊢
    have hop : op = 19 ∨ op = 20 ∨ op = 21 ∨ op = 22 ∨ op = 23 ∨ op = 24 := by omega
    clear hA hs hx hy ho hlen oz oc
    refine calls_x mixed Tryz.func63 b63 n63 rfl q63 (by simp) ?_; unfold c63 r63
    rcases hop with rfl | rfl | rfl | rfl | rfl | rfl
    all_goals
      repeat' (first | simp (maxDischargeDepth := 9) -implicitDefEqProofs -dsimp only [go_sem, seval, *] | simp (disch := omega) only [wrap64] | ((with_reducible refine Zt (fun oF hoF hnF hnF' => ?_)); (try simp only [upd_none, ne_eq, not_and] at hoF)) | ((with_reducible apply ACalls.one1); (focus ((first | with_reducible refine z1 _ ?_) <;> (first | (simp (maxDischargeDepth := 9) -implicitDefEqProofs -dsimp only [go_sem, seval, *]; done) | omega))); (focus (first | trivial | with_reducible exact rfl | (simp (maxDischargeDepth := 9) -implicitDefEqProofs -dsimp only [go_sem, seval]; done)))))
      refine fin_eq ?_
      (repeat' (first | simp (maxDischargeDepth := 9) -implicitDefEqProofs -dsimp only [go_sem, seval, encW, List.map_cons, List.map_nil, *] | simp (disch := omega) only [wrap64])) <;> (repeat' refine And.intro ?_ ?_) <;> (first | omega | rfl | assumption | skip)
  have hop : op = 14 ∨ op = 15 ∨ op = 16 ∨ op = 17 ∨ op = 18 := by omega
  clear oz oc ho
  refine calls_x mixed Tryz.func63 b63 n63 rfl q63 (by simp) ?_; unfold c63 r63
  rcases hop with rfl | rfl | rfl | rfl | rfl
  · have z1 := fun τ h => r19_sum bo b x y tx ty 0 τ h hs hx.i64 hy.i64 ⟨by decide, by decide⟩ (by omega) (by omega)
    have e : (binP 14 x y).run b = (((sumW x y 0).run b).1.1, ((sumW x y 0).run b).2) := by
      simp only [binP, reduceIte, Int.reduceEq, or_self]; rw [run_bind]; rfl
    rw [e]
    obtain ⟨⟨⟨A, a2⟩, bA⟩, hA⟩ : ∃ Z, (sumW x y 0).run b = Z := ⟨_, rfl⟩
    rw [hA] at z1 ⊢
    simp only at z1 ⊢
    clear hA hs hx hy hlen e
    repeat' (first | simp (maxDischargeDepth := 9) -implicitDefEqProofs -dsimp only [go_sem, seval, *] | simp (disch := omega) only [wrap64] | ((with_reducible refine Zt (fun oF hoF hnF hnF' => ?_)); (try simp only [upd_none, ne_eq, not_and] at hoF)) | ((with_reducible apply ACalls.one1); (focus ((first | with_reducible refine z1 _ ?_) <;> (first | (simp (maxDischargeDepth := 9) -implicitDefEqProofs -dsimp only [go_sem, seval, *]; done) | omega))); (focus (first | trivial | with_reducible exact rfl | (simp (maxDischargeDepth := 9) -implicitDefEqProofs -dsimp only [go_sem, seval]; done)))))
    refine fin_eq ?_
    (repeat' (first | simp (maxDischargeDepth := 9) -implicitDefEqProofs -dsimp only [go_sem, seval, *] | simp (disch := omega) only [wrap64])) <;> (repeat' refine And.intro ?_ ?_) <;> (first | omega | rfl | assumption | skip)
  · have z0 := fun τ => r19_not y ty τ hy (by omega)
    have z1 := fun τ h => r19_sum bo b x (notW y) tx .no 1 τ h hs hx.i64 hy.not.i64 ⟨by decide, by decide⟩ (by simp [notW]; omega) (by omega)
    have e : (binP 15 x y).run b = (((sumW x (notW y) 1).run b).1.1, ((sumW x (notW y) 1).run b).2) := by
      simp only [binP, reduceIte, Int.reduceEq, or_self]; rw [run_bind]; rfl
    rw [e]
    obtain ⟨⟨⟨A, a2⟩, bA⟩, hA⟩ : ∃ Z, (sumW x (notW y) 1).run b = Z := ⟨_, rfl⟩
    rw [hA] at z1 ⊢
    simp only at z1 ⊢
    clear hA hs hx hy hlen e
    repeat' (first | simp (maxDischargeDepth := 9) -implicitDefEqProofs -dsimp only [go_sem, seval, *] | simp (disch := omega) only [wrap64] | ((with_reducible refine Zt (fun oF hoF hnF hnF' => ?_)); (try simp only [upd_none, ne_eq, not_and] at hoF)) | ((with_reducible apply ACalls.one1); (focus ((first | with_reducible refine z0 _ | with_reducible refine z1 _ ?_) <;> (first | (simp (maxDischargeDepth := 9) -implicitDefEqProofs -dsimp only [go_sem, seval, *]; done) | omega))); (focus (first | trivial | with_reducible exact rfl | (simp (maxDischargeDepth := 9) -implicitDefEqProofs -dsimp only [go_sem, seval]; done)))))
    refine fin_eq ?_
    (repeat' (first | simp (maxDischargeDepth := 9) -implicitDefEqProofs -dsimp only [go_sem, seval, *] | simp (disch := omega) only [wrap64])) <;> (repeat' refine And.intro ?_ ?_) <;> (first | omega | rfl | assumption | skip)
  · have z1 := fun τ h => r19_mul bo b x y tx ty τ h hs hx.i64 hy.i64 (by omega) (by omega)
    have e : (binP 16 x y).run b = MulAt x y b y.length := rfl
    rw [e]
    obtain ⟨⟨A, bA⟩, hA⟩ : ∃ Z, MulAt x y b y.length = Z := ⟨_, rfl⟩
    rw [hA] at z1 ⊢
    simp only at z1 ⊢
    clear hA hs hx hy hlen e
    repeat' (first | simp (maxDischargeDepth := 9) -implicitDefEqProofs -dsimp only [go_sem, seval, *] | simp (disch := omega) only [wrap64] | ((with_reducible refine Zt (fun oF hoF hnF hnF' => ?_)); (try simp only [upd_none, ne_eq, not_and] at hoF)) | ((with_reducible apply ACalls.one1); (focus ((first | with_reducible refine z1 _ ?_) <;> (first | (simp (maxDischargeDepth := 9) -implicitDefEqProofs -dsimp only [go_sem, seval, *]; done) | omega))); (focus (first | trivial | with_reducible exact rfl | (simp (maxDischargeDepth := 9) -implicitDefEqProofs -dsimp only [go_sem, seval]; done)))))
    refine fin_eq ?_
    (repeat' (first | simp (maxDischargeDepth := 9) -implicitDefEqProofs -dsimp only [go_sem, seval, *] | simp (disch := omega) only [wrap64])) <;> (repeat' refine And.intro ?_ ?_) <;> (first | omega | rfl | assumption | skip)
  · have z1 := fun τ h => r19_shift bo b x y tx ty true τ h hs hx.i64 hy.i64 (by omega) (by omega)
    have e : (binP 17 x y).run b = ShAt x y true b y.length := rfl
    rw [e]
    obtain ⟨⟨A, bA⟩, hA⟩ : ∃ Z, ShAt x y true b y.length = Z := ⟨_, rfl⟩
    rw [hA] at z1 ⊢
    simp only at z1 ⊢
    clear hA hs hx hy hlen e
    repeat' (first | simp (maxDischargeDepth := 9) -implicitDefEqProofs -dsimp only [go_sem, seval, *] | simp (disch := omega) only [wrap64] | ((with_reducible refine Zt (fun oF hoF hnF hnF' => ?_)); (try simp only [upd_none, ne_eq, not_and] at hoF)) | ((with_reducible apply ACalls.one1); (focus ((first | with_reducible refine z1 _ ?_) <;> (first | (simp (maxDischargeDepth := 9) -implicitDefEqProofs -dsimp only [go_sem, seval, *]; done) | omega))); (focus (first | trivial | with_reducible exact rfl | (simp (maxDischargeDepth := 9) -implicitDefEqProofs -dsimp only [go_sem, seval]; done)))))
    refine fin_eq ?_
    (repeat' (first | simp (maxDischargeDepth := 9) -implicitDefEqProofs -dsimp only [go_sem, seval, *] | simp (disch := omega) only [wrap64])) <;> (repeat' refine And.intro ?_ ?_) <;> (first | omega | rfl | assumption | skip)
  · have z1 := fun τ h => r19_shift bo b x y tx ty false τ h hs hx.i64 hy.i64 (by omega) (by omega)
    have e : (binP 18 x y).run b = ShAt x y false b y.length := rfl
    rw [e]
    obtain ⟨⟨A, bA⟩, hA⟩ : ∃ Z, ShAt x y false b y.length = Z := ⟨_, rfl⟩
    rw [hA] at z1 ⊢
    simp only at z1 ⊢
    clear hA hs hx hy hlen e
    repeat' (first | simp (maxDischargeDepth := 9) -implicitDefEqProofs -dsimp only [go_sem, seval, *] | simp (disch := omega) only [wrap64] | ((with_reducible refine Zt (fun oF hoF hnF hnF' => ?_)); (try simp only [upd_none, ne_eq, not_and] at hoF)) | ((with_reducible apply ACalls.one1); (focus ((first | with_reducible refine z1 _ ?_) <;> (first | (simp (maxDischargeDepth := 9) -implicitDefEqProofs -dsimp only [go_sem, seval, *]; done) | omega))); (focus (first | trivial | with_reducible exact rfl | (simp (maxDischargeDepth := 9) -implicitDefEqProofs -dsimp only [go_sem, seval]; done)))))
    refine fin_eq ?_
    (repeat' (first | simp (maxDischargeDepth := 9) -implicitDefEqProofs -dsimp only [go_sem, seval, *] | simp (disch := omega) only [wrap64])) <;> (repeat' refine And.intro ?_ ?_) <;> (first | omega | rfl | assumption | skip)
end Go.Proofs.YtbbihmmobfmadaaGreat

namespace Go.Proofs.YtbbihmmobfmadaaGreat
open Abs Fil Fil.Bl A
set_option maxHeartbeats 4000000 in
theorem r19_WordG (g : Aig) (a : List Int) (t : Tok) (σ : Sig) (hf : Fine g) (hl : a.length ≤ 1000000) :
    ACalls Tryz.prog 47 [encAig g, encW a t] σ (fun r σ' => r = .ret (.bool (word g a)) ∧ σ' = σ) := by
  have hcb := hf.cnt
  have hlo := hf.lo
  have hc0 : 0 ≤ g.count := by unfold Aig.count; omega
  have z1 := fun τ => ref_Count g τ hf.toSmall
  have z2 := fun x τ => ref_Lit (1 + g.count) x τ (by omega) (by omega)
  have hW : word g a = (decide (0 < a.length) && decide (a.length ≤ 64) && a.all fun z => Aig.litN (1 + g.count) z) := rfl
  obtain ⟨W, hWW⟩ : ∃ W, word g a = W := ⟨_, rfl⟩
  rw [hWW] at hW ⊢
  clear hWW hf
  by_cases h1 : (a.length : Int) < 1
  · have e : W = false := by rw [hW, show decide (0 < a.length) = false by rw [decide_eq_false_iff_not]; omega]; rfl
    subst e
    clear hW
    refine calls_x mixed Tryz.func47 b47 n47 rfl q47 (by simp) ?_; unfold c47 r47
    repeat' (first | simp (maxDischargeDepth := 9) -implicitDefEqProofs -dsimp only [go_sem, seval, gt_iff_lt, List.length_map, *] | simp (disch := omega) only [wrap64])
    refine fin_eq ?_
    (repeat' (first | simp (maxDischargeDepth := 9) -implicitDefEqProofs -dsimp only [go_sem, seval, *] | simp (disch := omega) only [wrap64])) <;> (repeat' refine And.intro ?_ ?_) <;> (first | omega | rfl | assumption | skip)
  by_cases h2 : (64 : Int) < (a.length : Int)
  · have e : W = false := by rw [hW, show decide (a.length ≤ 64) = false by rw [decide_eq_false_iff_not]; omega]; simp
    subst e
    clear hW
    refine calls_x mixed Tryz.func47 b47 n47 rfl q47 (by simp) ?_; unfold c47 r47
    repeat' (first | simp (maxDischargeDepth := 9) -implicitDefEqProofs -dsimp only [go_sem, seval, gt_iff_lt, List.length_map, *] | simp (disch := omega) only [wrap64])
    refine fin_eq ?_
    (repeat' (first | simp (maxDischargeDepth := 9) -implicitDefEqProofs -dsimp only [go_sem, seval, *] | simp (disch := omega) only [wrap64])) <;> (repeat' refine And.intro ?_ ?_) <;> (first | omega | rfl | assumption | skip)
  replace hW : W = a.all fun z => Aig.litN (1 + g.count) z := by
    rw [hW, show decide (0 < a.length) = true by rw [decide_eq_true_iff]; omega, show decide (a.length ≤ 64) = true by rw [decide_eq_true_iff]; omega]; rfl
  obtain ⟨L, hL⟩ : ∃ L : Int → Bool, Aig.litN (1 + g.count) = L := ⟨_, rfl⟩
  rw [hL] at hW z2
  clear hL
  refine calls_x mixed Tryz.func47 b47 n47 rfl q47 (by simp) ?_; unfold c47 r47
  repeat' (first | simp (maxDischargeDepth := 9) -implicitDefEqProofs -dsimp only [go_sem, seval, gt_iff_lt, List.length_map, *] | simp (disch := omega) only [wrap64])
  refine loop_rule (fun i : Nat => [(5, some (.int .i64 i)), (1, some (encW a t)), (2, some (.cptr (aigL g)))]) (fun _ => σ) (fun i => i ≤ a.length ∧ (a.take i).all L = true) (fun i => a.length - i) 0 ?_ ?_
  · (repeat' (first | simp (maxDischargeDepth := 9) -implicitDefEqProofs -dsimp only [go_sem, seval, List.take_zero, List.all_nil, *] | simp (disch := omega) only [wrap64])) <;> (repeat' refine And.intro ?_ ?_) <;> (first | omega | rfl | assumption | skip)
  rintro i ⟨hi, hall⟩
  by_cases hlt : i < a.length
  · obtain ⟨l, hl⟩ : ∃ l, a[i] = l := ⟨_, rfl⟩
    have hgx : (a.map fun x => AV.int .i64 x)[i]? = some (.int .i64 l) := by simp [hlt, hl]
    have htk : a.take (i + 1) = a.take i ++ [l] := by rw [List.take_add_one]; simp [hlt, hl]
    have hmem : l ∈ a := hl ▸ List.getElem_mem _
    have z3 := fun τ => z2 l τ
    cases hLl : L l with
    | false =>
      have e : W = false := by rw [hW, List.all_eq_false]; exact ⟨l, hmem, by rw [hLl]; simp⟩
      rw [hLl] at z3
      subst e
      clear hl z2 htk hmem hW hLl hall
      repeat' (first | simp (maxDischargeDepth := 9) -implicitDefEqProofs -dsimp only [go_sem, seval, List.length_map, *] | simp (disch := omega) only [wrap64] | ((with_reducible apply id_one0); (focus (intro tS hS; ((first | with_reducible refine z1 _ | with_reducible refine z3 _) <;> (first | (simp (maxDischargeDepth := 9) -implicitDefEqProofs -dsimp only [go_sem, seval, *]; done) | omega | ((with_reducible refine Sub.get hS ?_); simp (maxDischargeDepth := 9) -implicitDefEqProofs -dsimp only [go_sem, seval, *]; done))))); (focus (first | trivial | (simp (maxDischargeDepth := 9) -implicitDefEqProofs -dsimp only [go_sem, seval, *]; done)))))
      refine fin_eq ?_
      (repeat' (first | simp (maxDischargeDepth := 9) -implicitDefEqProofs -dsimp only [go_sem, seval, *] | simp (disch := omega) only [wrap64])) <;> (repeat' refine And.intro ?_ ?_) <;> (first | omega | rfl | assumption | skip)
    | true =>
      have hall2 : (a.take (i + 1)).all L = true := by rw [htk, List.all_append, hall]; simp [hLl]
      rw [hLl] at z3
      clear hl z2 htk hmem hW hLl hall
      repeat' (first | simp (maxDischargeDepth := 9) -implicitDefEqProofs -dsimp only [go_sem, seval, List.length_map, *] | simp (disch := omega) only [wrap64] | ((with_reducible apply id_one0); (focus (intro tS hS; ((first | with_reducible refine z1 _ | with_reducible refine z3 _) <;> (first | (simp (maxDischargeDepth := 9) -implicitDefEqProofs -dsimp only [go_sem, seval, *]; done) | omega | ((with_reducible refine Sub.get hS ?_); simp (maxDischargeDepth := 9) -implicitDefEqProofs -dsimp only [go_sem, seval, *]; done))))); (focus (first | trivial | (simp (maxDischargeDepth := 9) -implicitDefEqProofs -dsimp only [go_sem, seval, *]; done)))))
      refine loop_next _ _ _ _ (i + 1) ?_; (repeat' (first | simp (maxDischargeDepth := 9) -implicitDefEqProofs -dsimp only [go_sem, seval,  hall2, *] | simp (disch := omega) only [wrap64])) <;> (repeat' refine And.intro ?_ ?_) <;> (first | omega | rfl | assumption | skip)
  · have : i = a.length := by omega
    subst this
    have e : W = true := by rw [hW]; rw [List.take_length] at hall; exact hall
    subst e
    clear hW hall z2
    repeat' (first | simp (maxDischargeDepth := 9) -implicitDefEqProofs -dsimp only [go_sem, seval, List.length_map, *] | simp (disch := omega) only [wrap64])
    refine fin_eq ?_
    (repeat' (first | simp (maxDischargeDepth := 9) -implicitDefEqProofs -dsimp only [go_sem, seval, *] | simp (disch := omega) only [wrap64])) <;> (repeat' refine And.intro ?_ ?_) <;> (first | omega | rfl | assumption | skip)
theorem r19_done (g : Aig) (e : Int) (l : List Int) (t : Tok) (σ : Sig) :
    ACalls Tryz.prog 45 [.agg [.int .i64 g.ins, .slice (g.flops.map encFlop) .no, .slice (g.ands.map encGate) .no, .slice (g.outs.map encInt) .no, .int .i64 e], encW l t] σ
      (fun r σ' => r = .ret (.tup [encAig (told (l, ⟨g, e⟩)).1, encW (told (l, ⟨g, e⟩)).2.1 .no, .int .i64 (told (l, ⟨g, e⟩)).2.2]) ∧ σ' = σ) := by
  by_cases he : e = 0
  · rw [show told (l, ⟨g, e⟩) = (g, l, 0) by unfold told; rw [if_neg (by simpa using he)]]
    subst he
    refine calls_x mixed Tryz.func45 b45 n45 rfl q45 (by simp) ?_; unfold c45 r45
    repeat' (first | simp (maxDischargeDepth := 9) -implicitDefEqProofs -dsimp only [go_sem, seval, *] | ((with_reducible refine Zt (fun oF hoF hnF hnF' => ?_)); (try simp only [upd_none, ne_eq, not_and] at hoF)))
    refine fin_eq ?_
    (repeat' (first | simp (maxDischargeDepth := 9) -implicitDefEqProofs -dsimp only [go_sem, seval, encW, *])) <;> (repeat' refine And.intro ?_ ?_) <;> (first | omega | rfl | assumption | skip)
  · rw [show told (l, ⟨g, e⟩) = (zG, [], e) by unfold told; rw [if_pos he]]
    have he' : (e != 0) = true := by simpa using he
    clear he
    refine calls_x mixed Tryz.func45 b45 n45 rfl q45 (by simp) ?_; unfold c45 r45
    repeat' (first | simp (maxDischargeDepth := 9) -implicitDefEqProofs -dsimp only [go_sem, seval, *] | ((with_reducible refine Zt (fun oF hoF hnF hnF' => ?_)); (try simp only [upd_none, ne_eq, not_and] at hoF)))
    refine fin_eq ?_
    (repeat' (first | simp (maxDischargeDepth := 9) -implicitDefEqProofs -dsimp only [go_sem, seval, zG, encW, List.map_nil, *])) <;> (repeat' refine And.intro ?_ ?_) <;> (first | omega | rfl | assumption | skip)
theorem word_Lw {g : Aig} (hf : Fine g) {a : List Int} (h : word g a = true) : (1 ≤ a.length ∧ a.length ≤ 64) ∧ Lw a := by
  unfold word at h
  simp only [Bool.and_eq_true, decide_eq_true_eq, List.all_eq_true] at h
  exact ⟨by omega, fun z hz => lit_L0 hf (h.2 z hz)⟩
theorem made_check {g : Aig} {may : Bool} {p : Pg (List Int)} (h : g.check ≠ 0) : made g may p = (zG, [], g.check) := if_pos h
theorem made_no {g : Aig} {p : Pg (List Int)} (h : g.check = 0) : made g false p = (zG, [], 1) := by unfold made; rw [if_neg (by omega), if_pos rfl]
theorem made_yes {g : Aig} {p : Pg (List Int)} (h : g.check = 0) : made g true p = told (p.run ⟨g, 0⟩) := by unfold made; rw [if_neg (by omega), if_neg (by simp)]
set_option maxRecDepth 20000 in
set_option maxHeartbeats 4000000 in
theorem r19_Un (g : Aig) (op : Int) (x : List Int) (t : Tok) (σ : Sig) (hs : Wf g) (hxl : x.length ≤ 1000000) :
    ACalls Tryz.prog 20 [encAig g, .int .i64 op, encW x t] σ (fun r σ' => r = .ret (.tup [encAig (Un g op x).1, encW (Un g op x).2.1 .no, .int .i64 (Un g op x).2.2]) ∧ σ' = σ) := by
  have z1 := fun τ => ref_Check g τ hs
  unfold Un
  by_cases h0 : g.check = 0
  case neg =>
    rw [made_check h0]
    have h0' : (g.check != 0) = true := by simpa using h0
    obtain ⟨c, hc⟩ : ∃ c, g.check = c := ⟨_, rfl⟩
    rw [hc] at z1 h0' ⊢
    clear h0 hs hc
    refine calls_x mixed Tryz.func20 b20 n20 rfl q20 (by simp) ?_; unfold c20 r20
    repeat' (first | simp (maxDischargeDepth := 9) -implicitDefEqProofs -dsimp only [go_sem, seval, *] | ((with_reducible refine Zt (fun oF hoF hnF hnF' => ?_)); (try simp only [upd_none, ne_eq, not_and] at hoF)) | ((with_reducible apply ACalls.one1); (focus ((first | with_reducible refine z1 _) <;> (first | (simp (maxDischargeDepth := 9) -implicitDefEqProofs -dsimp only [go_sem, seval, *]; done) | omega))); (focus (first | trivial | with_reducible exact rfl | (simp (maxDischargeDepth := 9) -implicitDefEqProofs -dsimp only [go_sem, seval]; done)))))
    refine fin_eq ?_
    (repeat' (first | simp (maxDischargeDepth := 9) -implicitDefEqProofs -dsimp only [go_sem, seval, zG, encW, List.map_nil, *])) <;> (repeat' refine And.intro ?_ ?_) <;> (first | omega | rfl | assumption | skip)
  have hf := check_fine hs h0
  have z2 := fun τ => r19_WordG g x t τ hf hxl
  have hM : mayUn g op x = (word g x && decide (1 ≤ op ∧ op ≤ 6 ∧ (op ≠ 6 ∨ x.length = 1))) := rfl
  have hwl := fun h => word_Lw (a := x) hf h
  rw [h0] at z1
  obtain ⟨X, hX⟩ : ∃ X, word g x = X := ⟨_, rfl⟩
  rw [hX] at z2 hM hwl
  cases hm : mayUn g op x with
  | false =>
    rw [made_no h0]
    rw [hm] at hM
    clear hs hf h0 hX hm hwl
    cases X with
    | false =>
      clear hM
      refine calls_x mixed Tryz.func20 b20 n20 rfl q20 (by simp) ?_; unfold c20 r20
      repeat' (first | simp (maxDischargeDepth := 9) -implicitDefEqProofs -dsimp only [go_sem, seval, *] | ((with_reducible refine Zt (fun oF hoF hnF hnF' => ?_)); (try simp only [upd_none, ne_eq, not_and] at hoF)) | ((with_reducible apply ACalls.one1); (focus ((first | with_reducible refine z1 _ | with_reducible refine z2 _) <;> (first | (simp (maxDischargeDepth := 9) -implicitDefEqProofs -dsimp only [go_sem, seval, *]; done) | omega))); (focus (first | trivial | with_reducible exact rfl | (simp (maxDischargeDepth := 9) -implicitDefEqProofs -dsimp only [go_sem, seval]; done)))))
      refine fin_eq ?_
      (repeat' (first | simp (maxDischargeDepth := 9) -implicitDefEqProofs -dsimp only [go_sem, seval, zG, encW, List.map_nil, *])) <;> (repeat' refine And.intro ?_ ?_) <;> (first | omega | rfl | assumption | skip)
    | true =>
      simp only [Bool.true_and] at hM
      replace hM := of_decide_eq_false hM.symm
      refine calls_x mixed Tryz.func20 b20 n20 rfl q20 (by simp) ?_; unfold c20 r20
      by_cases o1 : op < 1
      · clear hM
        repeat' (first | simp (maxDischargeDepth := 9) -implicitDefEqProofs -dsimp only [go_sem, seval, gt_iff_lt, *] | ((with_reducible refine Zt (fun oF hoF hnF hnF' => ?_)); (try simp only [upd_none, ne_eq, not_and] at hoF)) | ((with_reducible apply ACalls.one1); (focus ((first | with_reducible refine z1 _ | with_reducible refine z2 _) <;> (first | (simp (maxDischargeDepth := 9) -implicitDefEqProofs -dsimp only [go_sem, seval, *]; done) | omega))); (focus (first | trivial | with_reducible exact rfl | (simp (maxDischargeDepth := 9) -implicitDefEqProofs -dsimp only [go_sem, seval]; done)))))
        refine fin_eq ?_
        (repeat' (first | simp (maxDischargeDepth := 9) -implicitDefEqProofs -dsimp only [go_sem, seval, zG, encW, List.map_nil, *])) <;> (repeat' refine And.intro ?_ ?_) <;> (first | omega | rfl | assumption | skip)
      by_cases o2 : 6 < op
      · clear hM
        repeat' (first | simp (maxDischargeDepth := 9) -implicitDefEqProofs -dsimp only [go_sem, seval, gt_iff_lt, *] | ((with_reducible refine Zt (fun oF hoF hnF hnF' => ?_)); (try simp only [upd_none, ne_eq, not_and] at hoF)) | ((with_reducible apply ACalls.one1); (focus ((first | with_reducible refine z1 _ | with_reducible refine z2 _) <;> (first | (simp (maxDischargeDepth := 9) -implicitDefEqProofs -dsimp only [go_sem, seval, *]; done) | omega))); (focus (first | trivial | with_reducible exact rfl | (simp (maxDischargeDepth := 9) -implicitDefEqProofs -dsimp only [go_sem, seval]; done)))))
        refine fin_eq ?_
        (repeat' (first | simp (maxDischargeDepth := 9) -implicitDefEqProofs -dsimp only [go_sem, seval, zG, encW, List.map_nil, *])) <;> (repeat' refine And.intro ?_ ?_) <;> (first | omega | rfl | assumption | skip)
      have o3 : op = 6 := by omega
      have b3 : ((x.length : Int) != 1) = true := by rw [bne_iff_ne]; omega
      subst o3
      clear hM
      repeat' (first | simp (maxDischargeDepth := 9) -implicitDefEqProofs -dsimp only [go_sem, seval, gt_iff_lt, List.length_map, *] | ((with_reducible refine Zt (fun oF hoF hnF hnF' => ?_)); (try simp only [upd_none, ne_eq, not_and] at hoF)) | ((with_reducible apply ACalls.one1); (focus ((first | with_reducible refine z1 _ | with_reducible refine z2 _) <;> (first | (simp (maxDischargeDepth := 9) -implicitDefEqProofs -dsimp only [go_sem, seval, *]; done) | omega))); (focus (first | trivial | with_reducible exact rfl | (simp (maxDischargeDepth := 9) -implicitDefEqProofs -dsimp only [go_sem, seval]; done)))))
      refine fin_eq ?_
      (repeat' (first | simp (maxDischargeDepth := 9) -implicitDefEqProofs -dsimp only [go_sem, seval, zG, encW, List.map_nil, *])) <;> (repeat' refine And.intro ?_ ?_) <;> (first | omega | rfl | assumption | skip)
  | true =>
    rw [made_yes h0]
    rw [hm] at hM
    replace hM := hM.symm
    simp only [Bool.and_eq_true, decide_eq_true_eq] at hM
    obtain ⟨rfl, o1, o2, o3⟩ := hM
    obtain ⟨⟨l1, l2⟩, l3⟩ := hwl rfl
    have z3 := fun bo τ h => r19_un bo ⟨g, 0⟩ op x t τ h hs l3 l1 hxl ⟨o1, o2⟩
    obtain ⟨⟨l, g', e'⟩, hZ⟩ : ∃ Z, (unP op x).run ⟨g, 0⟩ = Z := ⟨_, rfl⟩
    rw [hZ] at z3 ⊢
    have z4 := fun τ => r19_done g' e' l .no τ
    obtain ⟨⟨t1, t2, t3⟩, hT⟩ : ∃ T, told (l, (⟨g', e'⟩ : Bu)) = T := ⟨_, rfl⟩
    rw [hT] at z4 ⊢
    simp only at z3 z4 ⊢
    have w1 : ¬ op < 1 := by omega
    have w2 : ¬ 6 < op := by omega
    clear hs hf h0 hX hm hwl hZ hT l1 l2 l3
    by_cases o6 : op = 6
    · have b1 : ((x.length : Int) != 1) = false := by rw [bne_eq_false_iff_eq]; omega
      have b0 : (op == 6) = true := by simpa using o6
      clear o3 o6
      refine calls_x mixed Tryz.func20 b20 n20 rfl q20 (by simp) ?_; unfold c20 r20
      repeat' (first | simp (maxDischargeDepth := 9) -implicitDefEqProofs -dsimp only [go_sem, seval, gt_iff_lt, List.length_map, *] | ((with_reducible refine Zt (fun oF hoF hnF hnF' => ?_)); (try simp only [upd_none, ne_eq, not_and] at hoF)) | ((with_reducible apply ACalls.one1); (focus ((first | with_reducible refine z1 _ | with_reducible refine z2 _ | with_reducible refine z3 _ _ ?_ | with_reducible refine z4 _) <;> (first | (simp (maxDischargeDepth := 9) -implicitDefEqProofs -dsimp only [go_sem, seval, *]; done) | omega))); (focus (first | trivial | with_reducible exact rfl | (simp (maxDischargeDepth := 9) -implicitDefEqProofs -dsimp only [go_sem, seval]; done)))))
      refine fin_eq ?_
      (repeat' (first | simp (maxDischargeDepth := 9) -implicitDefEqProofs -dsimp only [go_sem, seval, encW, *])) <;> (repeat' refine And.intro ?_ ?_) <;> (first | omega | rfl | assumption | skip)
    · have b0 : (op == 6) = false := by simpa using o6
      clear o3 o6
      refine calls_x mixed Tryz.func20 b20 n20 rfl q20 (by simp) ?_; unfold c20 r20
      repeat' (first | simp (maxDischargeDepth := 9) -implicitDefEqProofs -dsimp only [go_sem, seval, gt_iff_lt, List.length_map, *] | ((with_reducible refine Zt (fun oF hoF hnF hnF' => ?_)); (try simp only [upd_none, ne_eq, not_and] at hoF)) | ((with_reducible apply ACalls.one1); (focus ((first | with_reducible refine z1 _ | with_reducible refine z2 _ | with_reducible refine z3 _ _ ?_ | with_reducible refine z4 _) <;> (first | (simp (maxDischargeDepth := 9) -implicitDefEqProofs -dsimp only [go_sem, seval, *]; done) | omega))); (focus (first | trivial | with_reducible exact rfl | (simp (maxDischargeDepth := 9) -implicitDefEqProofs -dsimp only [go_sem, seval]; done)))))
      refine fin_eq ?_
      (repeat' (first | simp (maxDischargeDepth := 9) -implicitDefEqProofs -dsimp only [go_sem, seval, encW, *])) <;> (repeat' refine And.intro ?_ ?_) <;> (first | omega | rfl | assumption | skip)
end Go.Proofs.YtbbihmmobfmadaaGreat

