/- Plain laws of layer 9: what is sized is sized once. -/
import Derived.Test.YtdiebjnjhgbklaaLSizSizG
set_option linter.unusedSimpArgs false
set_option linter.unusedVariables false
namespace Go.Proofs.Ytdiebjnjhgbklaa
open Abs Fil Fil.Sz
theorem sl_indexE (p : E → Bool) (l : List E) (hl : l.length ≤ 1000000000000) (σ : Sig) {F : Nat} {caps : List AV} (hF : ∀ x ∈ l, ACalls Try.prog F (encE x :: caps) σ (fun r σ' => r = .ret (.bool (p x)) ∧ σ' = σ)) :
    ACalls Try.prog 95 [.slice (l.map encE) .no, .fn F [] caps] σ (fun r σ' => r = .ret (.int .i64 (idxF p l)) ∧ σ' = σ) :=
  lib_indexFunc (sz := 8) (g := true) mixed Try.func95 b95 n95 rfl q95 (fun _ => rfl) (fun _ => rfl) p l hl hF
theorem sl_containsE (p : E → Bool) (l : List E) (hl : l.length ≤ 1000000000000) (σ : Sig) {F : Nat} {caps : List AV} (hF : ∀ x ∈ l, ACalls Try.prog F (encE x :: caps) σ (fun r σ' => r = .ret (.bool (p x)) ∧ σ' = σ)) :
    ACalls Try.prog 68 [.slice (l.map encE) .no, .fn F [] caps] σ (fun r σ' => r = .ret (.bool (l.any p)) ∧ σ' = σ) :=
  lib_containsFunc mixed Try.func68 b68 n68 rfl q68 p l (sl_indexE p l hl σ hF)
theorem sz_left (v s h l n : Int) (σ : Sig) : ACalls Try.prog 27 [.agg [.int .i64 0, .int .i64 0, .int .u64 v, .int .i64 s, .int .i64 h, .int .i64 l, .int .i64 n, .slice [] .no], .agg [.int .i64 0, .int .i64 0, .int .u64 0, .int .i64 0, .int .i64 0, .int .i64 0, .int .i64 0, .slice [] .no]] σ
    (fun r σ' => r = .ret (.bool (decide (v = 0 ∧ s = 0 ∧ h = 0 ∧ l = 0 ∧ n = 0))) ∧ σ' = σ) := by
  have h1 := sz_SameE (.mk 0 0 v s h l n []) zE σ (by simp [nodes_eq, E.l]) (by simp [nodes_eq, zE, E.l])
  have e1 : encEs (.mk 0 0 v s h l n []) = [] := by rw [encEs_eq]; rfl
  have e2 : encEs zE = [] := by rw [encEs_eq]; rfl
  have e3 : same (E.mk 0 0 v s h l n []) zE = decide (v = 0 ∧ s = 0 ∧ h = 0 ∧ l = 0 ∧ n = 0) := by
    rw [Bool.eq_iff_iff, same_iff, decide_eq_true_eq]
    simp only [zE, E.mk.injEq, true_and, and_true]
  rw [e3] at h1
  simp only [encE, eL, e1, e2] at h1
  exact h1
set_option maxRecDepth 20000 in
set_option maxHeartbeats 1000000 in
theorem sz_shape (g : List Sg) (hg : g.length ≤ 1000000000000) (e : E) : ∀ (σ : Sig), nodes e ≤ 16777216 → WfE e → ACalls Try.prog 36 [.slice (g.map encS) .no, encE e] σ (fun r σ' => r = .ret (.bool (shp g e)) ∧ σ' = σ) := by
  refine E.ind (P := fun e => ∀ (σ : Sig), nodes e ≤ 16777216 → WfE e → ACalls Try.prog 36 [.slice (g.map encS) .no, encE e] σ (fun r σ' => r = .ret (.bool (shp g e)) ∧ σ' = σ)) (fun e ih σ he hw => ?_) e
  have h1 := encEs_eq e
  have l1 := len_nodes e
  obtain ⟨⟨w1, w2, w3, w4, w5, w6, w7⟩, w8⟩ := (WfE_iff e).1 hw
  obtain ⟨w2a, w2b⟩ := w2
  have hs := shp_eq g e
  have hall : e.l.all (shp g) = !e.l.any fun x => !shp g x := by
    rw [Bool.eq_iff_iff]; simp [List.any_eq_true, List.all_eq_true]
  have hclo : ∀ (b : Nat) (τ : Sig), τ b = some (.cells [.slice (g.map encS) .no]) → ∀ x ∈ e.l, ACalls Try.prog 69 (encE x :: [.ptr b 0]) τ (fun r σ' => r = .ret (.bool (!shp g x)) ∧ σ' = τ) := fun b τ hb x hx => by
    have hc := fun τ => ih x hx τ (by have := part_nodes hx; omega) (w8 x hx)
    refine calls_x mixed Try.func69 b69 n69 rfl q69 (by simp) ?_; unfold c69 r69
    repeat' (first | simp (maxDischargeDepth := 9) -implicitDefEqProofs -dsimp only [go_sem, seval, *] | (with_reducible (first | apply Za | apply Zc | apply Zd | apply Ze | apply Zf) <;> intro hq) | ((with_reducible refine Zt (fun oF hoF hnF hnF' => ?_)); (try simp only [upd_none, ne_eq, not_and] at hoF)) | ((with_reducible apply ACalls.one1); (focus ((first | with_reducible refine hc _ | with_reducible refine ACalls.flA (hc _) ?_) <;> (first | (simp (maxDischargeDepth := 9) -implicitDefEqProofs -dsimp only [go_sem, seval, *]; done) | omega))); (focus (first | trivial | with_reducible exact rfl | (simp (maxDischargeDepth := 9) -implicitDefEqProofs -dsimp only [go_sem, seval]; done)))))
    refine fin_eq ?_
    (repeat' (first | simp (maxDischargeDepth := 9) -implicitDefEqProofs -dsimp only [go_sem, seval, *])) <;> (repeat' refine And.intro ?_ ?_) <;> (first | omega | rfl | assumption | skip)
  have hcon := fun (b : Nat) (τ : Sig) (hb : τ b = some (.cells [.slice (g.map encS) .no])) => sl_containsE (fun x => !shp g x) e.l (by omega) τ (hclo b τ hb)
  rw [hall] at hs
  obtain ⟨A, hA⟩ : ∃ A, (e.l.any fun x => !shp g x) = A := ⟨_, rfl⟩
  rw [hA] at hs hcon
  clear ih hclo hA hall hw w8
  refine calls_x mixed Try.func36 b36 n36 rfl q36 (by simp) ?_; unfold c36 r36
  by_cases hn : node g e = true
  · rw [hn, Bool.true_and] at hs
    cases node_nd hn with
    | num ho h2 h3 h4 h5 h6 h7 h8 h9 =>
      have hh := fun τ => sz_holds e.w e.v τ h7 w3
      have hle : e.l.length = 0 := by rw [h6]; rfl
      have hL := fun τ => sz_left 0 e.sig e.hi e.lo e.n τ
      rw [h2, h3, h4, h5] at hL
      clear h6 hn
      rcases h9 with h9 | h9
      · repeat' (first | simp (maxDischargeDepth := 9) -implicitDefEqProofs -dsimp only [go_sem, seval, ge_iff_le, *] | (with_reducible (first | apply Za | apply Zc | apply Zd | apply Ze | apply Zf) <;> intro hq) | ((with_reducible refine Zt (fun oF hoF hnF hnF' => ?_)); (try simp only [upd_none, ne_eq, not_and] at hoF)) | ((with_reducible apply ACalls.one1); (focus ((first | with_reducible refine hL _ | with_reducible refine hcon _ _ ?_ | with_reducible refine ACalls.flA (hL _) ?_ | with_reducible refine ACalls.flA (hcon _ _ ?_) ?_) <;> (first | (simp (maxDischargeDepth := 9) -implicitDefEqProofs -dsimp only [go_sem, seval, *]; done) | omega))); (focus (first | trivial | with_reducible exact rfl | (simp (maxDischargeDepth := 9) -implicitDefEqProofs -dsimp only [go_sem, seval]; done)))))
        refine fin_eq ?_
        (repeat' (first | simp (maxDischargeDepth := 9) -implicitDefEqProofs -dsimp only [go_sem, seval, *])) <;> (repeat' refine And.intro ?_ ?_) <;> (first | omega | rfl | assumption | skip)
      · rw [h9] at hh
        repeat' (first | simp (maxDischargeDepth := 9) -implicitDefEqProofs -dsimp only [go_sem, seval, ge_iff_le, *] | (with_reducible (first | apply Za | apply Zc | apply Zd | apply Ze | apply Zf) <;> intro hq) | ((with_reducible refine Zt (fun oF hoF hnF hnF' => ?_)); (try simp only [upd_none, ne_eq, not_and] at hoF)) | ((with_reducible apply ACalls.one1); (focus ((first | with_reducible refine hL _ | with_reducible refine hh _ | with_reducible refine hcon _ _ ?_ | with_reducible refine ACalls.flA (hL _) ?_ | with_reducible refine ACalls.flA (hh _) ?_ | with_reducible refine ACalls.flA (hcon _ _ ?_) ?_) <;> (first | (simp (maxDischargeDepth := 9) -implicitDefEqProofs -dsimp only [go_sem, seval, *]; done) | omega))); (focus (first | trivial | with_reducible exact rfl | (simp (maxDischargeDepth := 9) -implicitDefEqProofs -dsimp only [go_sem, seval]; done)))))
        all_goals
          refine fin_eq ?_
          (repeat' (first | simp (maxDischargeDepth := 9) -implicitDefEqProofs -dsimp only [go_sem, seval, *])) <;> (repeat' refine And.intro ?_ ?_) <;> (first | omega | rfl | assumption | skip)
    | sig ho h2 h5 h6 h7 =>
      have hh := fun τ => sz_slice g e.sig e.hi e.lo τ hg
      rw [h7] at hh
      have hle : e.l.length = 0 := by rw [h6]; rfl
      have hL := fun τ => sz_left e.v 0 0 0 e.n τ
      rw [h2, h5] at hL
      clear h6 hn
      repeat' (first | simp (maxDischargeDepth := 9) -implicitDefEqProofs -dsimp only [go_sem, seval, ge_iff_le, *] | (with_reducible (first | apply Za | apply Zc | apply Zd | apply Ze | apply Zf) <;> intro hq) | ((with_reducible refine Zt (fun oF hoF hnF hnF' => ?_)); (try simp only [upd_none, ne_eq, not_and] at hoF)) | ((with_reducible apply ACalls.one1); (focus ((first | with_reducible refine hL _ | with_reducible refine hh _ | with_reducible refine hcon _ _ ?_ | with_reducible refine ACalls.flA (hL _) ?_ | with_reducible refine ACalls.flA (hh _) ?_ | with_reducible refine ACalls.flA (hcon _ _ ?_) ?_) <;> (first | (simp (maxDischargeDepth := 9) -implicitDefEqProofs -dsimp only [go_sem, seval, *]; done) | omega))); (focus (first | trivial | with_reducible exact rfl | (simp (maxDischargeDepth := 9) -implicitDefEqProofs -dsimp only [go_sem, seval]; done)))))
      refine fin_eq ?_
      (repeat' (first | simp (maxDischargeDepth := 9) -implicitDefEqProofs -dsimp only [go_sem, seval, *])) <;> (repeat' refine And.intro ?_ ?_) <;> (first | omega | rfl | assumption | skip)
    | idx ho h2 h3 h4 h5 a h6 h7 h8 =>
      have hle : e.l.length = 1 := by rw [h6]; rfl
      have hL := fun τ => sz_left e.v 0 e.hi e.lo e.n τ
      rw [h2, h3, h4, h5] at hL
      clear h6 hn
      repeat' (first | simp (maxDischargeDepth := 9) -implicitDefEqProofs -dsimp only [go_sem, seval, ge_iff_le, *] | (with_reducible (first | apply Za | apply Zc | apply Zd | apply Ze | apply Zf) <;> intro hq) | ((with_reducible refine Zt (fun oF hoF hnF hnF' => ?_)); (try simp only [upd_none, ne_eq, not_and] at hoF)) | ((with_reducible apply ACalls.one1); (focus ((first | with_reducible refine hL _ | with_reducible refine hcon _ _ ?_ | with_reducible refine ACalls.flA (hL _) ?_ | with_reducible refine ACalls.flA (hcon _ _ ?_) ?_) <;> (first | (simp (maxDischargeDepth := 9) -implicitDefEqProofs -dsimp only [go_sem, seval, *]; done) | omega))); (focus (first | trivial | with_reducible exact rfl | (simp (maxDischargeDepth := 9) -implicitDefEqProofs -dsimp only [go_sem, seval]; done)))))
      refine fin_eq ?_
      (repeat' (first | simp (maxDischargeDepth := 9) -implicitDefEqProofs -dsimp only [go_sem, seval, *])) <;> (repeat' refine And.intro ?_ ?_) <;> (first | omega | rfl | assumption | skip)
    | un ho h2 h3 h4 h5 a h6 h7 h8 =>
      have hle : e.l.length = 1 := by rw [h6]; rfl
      have hL := fun τ => sz_left e.v e.sig e.hi e.lo 0 τ
      rw [h2, h3, h4, h5] at hL
      clear h6 hn
      repeat' (first | simp (maxDischargeDepth := 9) -implicitDefEqProofs -dsimp only [go_sem, seval, ge_iff_le, *] | (with_reducible (first | apply Za | apply Zc | apply Zd | apply Ze | apply Zf) <;> intro hq) | ((with_reducible refine Zt (fun oF hoF hnF hnF' => ?_)); (try simp only [upd_none, ne_eq, not_and] at hoF)) | ((with_reducible apply ACalls.one1); (focus ((first | with_reducible refine hL _ | with_reducible refine hcon _ _ ?_ | with_reducible refine ACalls.flA (hL _) ?_ | with_reducible refine ACalls.flA (hcon _ _ ?_) ?_) <;> (first | (simp (maxDischargeDepth := 9) -implicitDefEqProofs -dsimp only [go_sem, seval, *]; done) | omega))); (focus (first | trivial | with_reducible exact rfl | (simp (maxDischargeDepth := 9) -implicitDefEqProofs -dsimp only [go_sem, seval]; done)))))
      refine fin_eq ?_
      (repeat' (first | simp (maxDischargeDepth := 9) -implicitDefEqProofs -dsimp only [go_sem, seval, *])) <;> (repeat' refine And.intro ?_ ?_) <;> (first | omega | rfl | assumption | skip)
    | bin ho h2 h3 h4 h5 a b h6 h7 h8 =>
      have hle : e.l.length = 2 := by rw [h6]; rfl
      have hL := fun τ => sz_left e.v e.sig e.hi e.lo 0 τ
      rw [h2, h3, h4, h5] at hL
      clear h6 hn
      repeat' (first | simp (maxDischargeDepth := 9) -implicitDefEqProofs -dsimp only [go_sem, seval, ge_iff_le, *] | (with_reducible (first | apply Za | apply Zc | apply Zd | apply Ze | apply Zf) <;> intro hq) | ((with_reducible refine Zt (fun oF hoF hnF hnF' => ?_)); (try simp only [upd_none, ne_eq, not_and] at hoF)) | ((with_reducible apply ACalls.one1); (focus ((first | with_reducible refine hL _ | with_reducible refine hcon _ _ ?_ | with_reducible refine ACalls.flA (hL _) ?_ | with_reducible refine ACalls.flA (hcon _ _ ?_) ?_) <;> (first | (simp (maxDischargeDepth := 9) -implicitDefEqProofs -dsimp only [go_sem, seval, *]; done) | omega))); (focus (first | trivial | with_reducible exact rfl | (simp (maxDischargeDepth := 9) -implicitDefEqProofs -dsimp only [go_sem, seval]; done)))))
      refine fin_eq ?_
      (repeat' (first | simp (maxDischargeDepth := 9) -implicitDefEqProofs -dsimp only [go_sem, seval, *])) <;> (repeat' refine And.intro ?_ ?_) <;> (first | omega | rfl | assumption | skip)
    | cond ho h2 h3 h4 h5 h7 a b c h6 =>
      have hle : e.l.length = 3 := by rw [h6]; rfl
      have hL := fun τ => sz_left e.v e.sig e.hi e.lo e.n τ
      rw [h2, h3, h4, h5, h7] at hL
      clear h6 hn
      repeat' (first | simp (maxDischargeDepth := 9) -implicitDefEqProofs -dsimp only [go_sem, seval, ge_iff_le, *] | (with_reducible (first | apply Za | apply Zc | apply Zd | apply Ze | apply Zf) <;> intro hq) | ((with_reducible refine Zt (fun oF hoF hnF hnF' => ?_)); (try simp only [upd_none, ne_eq, not_and] at hoF)) | ((with_reducible apply ACalls.one1); (focus ((first | with_reducible refine hL _ | with_reducible refine hcon _ _ ?_ | with_reducible refine ACalls.flA (hL _) ?_ | with_reducible refine ACalls.flA (hcon _ _ ?_) ?_) <;> (first | (simp (maxDischargeDepth := 9) -implicitDefEqProofs -dsimp only [go_sem, seval, *]; done) | omega))); (focus (first | trivial | with_reducible exact rfl | (simp (maxDischargeDepth := 9) -implicitDefEqProofs -dsimp only [go_sem, seval]; done)))))
      refine fin_eq ?_
      (repeat' (first | simp (maxDischargeDepth := 9) -implicitDefEqProofs -dsimp only [go_sem, seval, *])) <;> (repeat' refine And.intro ?_ ?_) <;> (first | omega | rfl | assumption | skip)
    | cat ho h2 h3 h4 h5 h7 h6 =>
      have hL := fun τ => sz_left e.v e.sig e.hi e.lo e.n τ
      rw [h2, h3, h4, h5, h7] at hL
      have hle : 0 < (e.l.length : Int) := by omega
      clear hn h6
      repeat' (first | simp (maxDischargeDepth := 9) -implicitDefEqProofs -dsimp only [go_sem, seval, gt_iff_lt, *] | (with_reducible (first | apply Za | apply Zc | apply Zd | apply Ze | apply Zf) <;> intro hq) | ((with_reducible refine Zt (fun oF hoF hnF hnF' => ?_)); (try simp only [upd_none, ne_eq, not_and] at hoF)) | ((with_reducible apply ACalls.one1); (focus ((first | with_reducible refine hL _ | with_reducible refine hcon _ _ ?_ | with_reducible refine ACalls.flA (hL _) ?_ | with_reducible refine ACalls.flA (hcon _ _ ?_) ?_) <;> (first | (simp (maxDischargeDepth := 9) -implicitDefEqProofs -dsimp only [go_sem, seval, *]; done) | omega))); (focus (first | trivial | with_reducible exact rfl | (simp (maxDischargeDepth := 9) -implicitDefEqProofs -dsimp only [go_sem, seval]; done)))))
      refine fin_eq ?_
      (repeat' (first | simp (maxDischargeDepth := 9) -implicitDefEqProofs -dsimp only [go_sem, seval, *])) <;> (repeat' refine And.intro ?_ ?_) <;> (first | omega | rfl | assumption | skip)
    | ext ho h2 h3 h4 h5 a h6 h7 h8 h9 h10 =>
      have hle : e.l.length = 1 := by rw [h6]; rfl
      have hL := fun τ => sz_left e.v e.sig e.hi e.lo 0 τ
      rw [h2, h3, h4, h5] at hL
      clear h6 hn
      repeat' (first | simp (maxDischargeDepth := 9) -implicitDefEqProofs -dsimp only [go_sem, seval, ge_iff_le, *] | (with_reducible (first | apply Za | apply Zc | apply Zd | apply Ze | apply Zf) <;> intro hq) | ((with_reducible refine Zt (fun oF hoF hnF hnF' => ?_)); (try simp only [upd_none, ne_eq, not_and] at hoF)) | ((with_reducible apply ACalls.one1); (focus ((first | with_reducible refine hL _ | with_reducible refine hcon _ _ ?_ | with_reducible refine ACalls.flA (hL _) ?_ | with_reducible refine ACalls.flA (hcon _ _ ?_) ?_) <;> (first | (simp (maxDischargeDepth := 9) -implicitDefEqProofs -dsimp only [go_sem, seval, *]; done) | omega))); (focus (first | trivial | with_reducible exact rfl | (simp (maxDischargeDepth := 9) -implicitDefEqProofs -dsimp only [go_sem, seval]; done)))))
      refine fin_eq ?_
      (repeat' (first | simp (maxDischargeDepth := 9) -implicitDefEqProofs -dsimp only [go_sem, seval, *])) <;> (repeat' refine And.intro ?_ ?_) <;> (first | omega | rfl | assumption | skip)
  · have hn' : node g e = false := by simpa using hn
    rw [hn', Bool.false_and] at hs
    clear hn'
    by_cases ho1 : e.op = 1
    · obtain ⟨b, hb⟩ : ∃ b, holds e.w e.v = b := ⟨_, rfl⟩
      have hh := fun τ h => sz_holds e.w e.v τ h w3
      rw [hb] at hh
      have hnf : ¬ (e.sig = 0 ∧ e.hi = 0 ∧ e.lo = 0 ∧ e.n = 0 ∧ e.l.length = 0 ∧ 0 ≤ e.w ∧ e.w ≤ 64 ∧ (e.w = 0 ∨ b = true)) := fun h => hn (by unfold node; simp only [ho1]; simp [h, hb])
      have hL := fun τ => sz_left 0 e.sig e.hi e.lo e.n τ
      clear hn hb
      cases b
      all_goals
        try simp only [Bool.false_eq_true, or_false, or_true, and_true, and_false, not_false_eq_true] at hnf
        repeat' (first | simp (maxDischargeDepth := 9) -implicitDefEqProofs -dsimp only [go_sem, seval, ge_iff_le, gt_iff_lt, *] | (with_reducible (first | apply Za | apply Zc | apply Zd | apply Ze | apply Zf) <;> intro hq) | ((with_reducible refine Zt (fun oF hoF hnF hnF' => ?_)); (try simp only [upd_none, ne_eq, not_and] at hoF)) | ((with_reducible apply ACalls.one1); (focus ((first | with_reducible refine hL _ | with_reducible refine hh _ ?_ | with_reducible refine hcon _ _ ?_ | with_reducible refine ACalls.flA (hL _) ?_ | with_reducible refine ACalls.flA (hh _ ?_) ?_ | with_reducible refine ACalls.flA (hcon _ _ ?_) ?_) <;> (first | (simp (maxDischargeDepth := 9) -implicitDefEqProofs -dsimp only [go_sem, seval, *]; done) | omega))); (focus (first | trivial | with_reducible exact rfl | (simp (maxDischargeDepth := 9) -implicitDefEqProofs -dsimp only [go_sem, seval]; done)))))
        all_goals first | (exfalso; apply hnf; clear hL hcon; omega) | skip
        all_goals
          refine fin_eq ?_
          (repeat' (first | simp (maxDischargeDepth := 9) -implicitDefEqProofs -dsimp only [go_sem, seval, *])) <;> (repeat' refine And.intro ?_ ?_) <;> (first | omega | rfl | assumption | skip)
    by_cases ho2 : e.op = 2
    · obtain ⟨b, hb⟩ : ∃ b, place g e.sig e.hi e.lo = b := ⟨_, rfl⟩
      have hh := fun τ => sz_slice g e.sig e.hi e.lo τ hg
      rw [hb] at hh
      have hnf : ¬ (e.v = 0 ∧ e.n = 0 ∧ e.l.length = 0 ∧ b = true) := fun h => hn (by unfold node; simp only [ho2]; simp [h, hb])
      have hL := fun τ => sz_left e.v 0 0 0 e.n τ
      clear hn hb
      cases b
      all_goals
        try simp only [Bool.false_eq_true, or_false, or_true, and_true, and_false, not_false_eq_true] at hnf
        repeat' (first | simp (maxDischargeDepth := 9) -implicitDefEqProofs -dsimp only [go_sem, seval, ge_iff_le, gt_iff_lt, *] | (with_reducible (first | apply Za | apply Zc | apply Zd | apply Ze | apply Zf) <;> intro hq) | ((with_reducible refine Zt (fun oF hoF hnF hnF' => ?_)); (try simp only [upd_none, ne_eq, not_and] at hoF)) | ((with_reducible apply ACalls.one1); (focus ((first | with_reducible refine hL _ | with_reducible refine hh _ | with_reducible refine hcon _ _ ?_ | with_reducible refine ACalls.flA (hL _) ?_ | with_reducible refine ACalls.flA (hh _) ?_ | with_reducible refine ACalls.flA (hcon _ _ ?_) ?_) <;> (first | (simp (maxDischargeDepth := 9) -implicitDefEqProofs -dsimp only [go_sem, seval, *]; done) | omega))); (focus (first | trivial | with_reducible exact rfl | (simp (maxDischargeDepth := 9) -implicitDefEqProofs -dsimp only [go_sem, seval]; done)))))
        all_goals first | (exfalso; apply hnf; clear hL hcon; omega) | skip
        all_goals
          refine fin_eq ?_
          (repeat' (first | simp (maxDischargeDepth := 9) -implicitDefEqProofs -dsimp only [go_sem, seval, *])) <;> (repeat' refine And.intro ?_ ?_) <;> (first | omega | rfl | assumption | skip)
    by_cases ho3 : e.op = 3
    · have hnf : ¬ (e.v = 0 ∧ e.hi = 0 ∧ e.lo = 0 ∧ e.n = 0 ∧ e.l.length = 1 ∧ 0 ≤ e.sig ∧ e.sig < g.length) := fun h => hn (by unfold node; simp only [ho3]; simp [h])
      have hL := fun τ => sz_left e.v 0 e.hi e.lo e.n τ
      clear hn
      repeat' (first | simp (maxDischargeDepth := 9) -implicitDefEqProofs -dsimp only [go_sem, seval, ge_iff_le, gt_iff_lt, *] | (with_reducible (first | apply Za | apply Zc | apply Zd | apply Ze | apply Zf) <;> intro hq) | ((with_reducible refine Zt (fun oF hoF hnF hnF' => ?_)); (try simp only [upd_none, ne_eq, not_and] at hoF)) | ((with_reducible apply ACalls.one1); (focus ((first | with_reducible refine hL _ | with_reducible refine hcon _ _ ?_ | with_reducible refine ACalls.flA (hL _) ?_ | with_reducible refine ACalls.flA (hcon _ _ ?_) ?_) <;> (first | (simp (maxDischargeDepth := 9) -implicitDefEqProofs -dsimp only [go_sem, seval, *]; done) | omega))); (focus (first | trivial | with_reducible exact rfl | (simp (maxDischargeDepth := 9) -implicitDefEqProofs -dsimp only [go_sem, seval]; done)))))
      all_goals first | (exfalso; apply hnf; clear hL hcon; omega) | skip
      all_goals
        refine fin_eq ?_
        (repeat' (first | simp (maxDischargeDepth := 9) -implicitDefEqProofs -dsimp only [go_sem, seval, *])) <;> (repeat' refine And.intro ?_ ?_) <;> (first | omega | rfl | assumption | skip)
    by_cases ho4 : e.op = 4
    · have hnf : ¬ (e.v = 0 ∧ e.sig = 0 ∧ e.hi = 0 ∧ e.lo = 0 ∧ e.l.length = 1 ∧ 1 ≤ e.n ∧ e.n ≤ 6) := fun h => hn (by unfold node; simp only [ho4]; simp [h])
      have hL := fun τ => sz_left e.v e.sig e.hi e.lo 0 τ
      clear hn
      repeat' (first | simp (maxDischargeDepth := 9) -implicitDefEqProofs -dsimp only [go_sem, seval, ge_iff_le, gt_iff_lt, *] | (with_reducible (first | apply Za | apply Zc | apply Zd | apply Ze | apply Zf) <;> intro hq) | ((with_reducible refine Zt (fun oF hoF hnF hnF' => ?_)); (try simp only [upd_none, ne_eq, not_and] at hoF)) | ((with_reducible apply ACalls.one1); (focus ((first | with_reducible refine hL _ | with_reducible refine hcon _ _ ?_ | with_reducible refine ACalls.flA (hL _) ?_ | with_reducible refine ACalls.flA (hcon _ _ ?_) ?_) <;> (first | (simp (maxDischargeDepth := 9) -implicitDefEqProofs -dsimp only [go_sem, seval, *]; done) | omega))); (focus (first | trivial | with_reducible exact rfl | (simp (maxDischargeDepth := 9) -implicitDefEqProofs -dsimp only [go_sem, seval]; done)))))
      all_goals first | (exfalso; apply hnf; clear hL hcon; omega) | skip
      all_goals
        refine fin_eq ?_
        (repeat' (first | simp (maxDischargeDepth := 9) -implicitDefEqProofs -dsimp only [go_sem, seval, *])) <;> (repeat' refine And.intro ?_ ?_) <;> (first | omega | rfl | assumption | skip)
    by_cases ho5 : e.op = 5
    · have hnf : ¬ (e.v = 0 ∧ e.sig = 0 ∧ e.hi = 0 ∧ e.lo = 0 ∧ e.l.length = 2 ∧ 11 ≤ e.n ∧ e.n ≤ 26) := fun h => hn (by unfold node; simp only [ho5]; simp [h])
      have hL := fun τ => sz_left e.v e.sig e.hi e.lo 0 τ
      clear hn
      repeat' (first | simp (maxDischargeDepth := 9) -implicitDefEqProofs -dsimp only [go_sem, seval, ge_iff_le, gt_iff_lt, *] | (with_reducible (first | apply Za | apply Zc | apply Zd | apply Ze | apply Zf) <;> intro hq) | ((with_reducible refine Zt (fun oF hoF hnF hnF' => ?_)); (try simp only [upd_none, ne_eq, not_and] at hoF)) | ((with_reducible apply ACalls.one1); (focus ((first | with_reducible refine hL _ | with_reducible refine hcon _ _ ?_ | with_reducible refine ACalls.flA (hL _) ?_ | with_reducible refine ACalls.flA (hcon _ _ ?_) ?_) <;> (first | (simp (maxDischargeDepth := 9) -implicitDefEqProofs -dsimp only [go_sem, seval, *]; done) | omega))); (focus (first | trivial | with_reducible exact rfl | (simp (maxDischargeDepth := 9) -implicitDefEqProofs -dsimp only [go_sem, seval]; done)))))
      all_goals first | (exfalso; apply hnf; clear hL hcon; omega) | skip
      all_goals
        refine fin_eq ?_
        (repeat' (first | simp (maxDischargeDepth := 9) -implicitDefEqProofs -dsimp only [go_sem, seval, *])) <;> (repeat' refine And.intro ?_ ?_) <;> (first | omega | rfl | assumption | skip)
    by_cases ho6 : e.op = 6
    · have hnf : ¬ (e.v = 0 ∧ e.sig = 0 ∧ e.hi = 0 ∧ e.lo = 0 ∧ e.n = 0 ∧ e.l.length = 3) := fun h => hn (by unfold node; simp only [ho6]; simp [h])
      have hL := fun τ => sz_left e.v e.sig e.hi e.lo e.n τ
      clear hn
      repeat' (first | simp (maxDischargeDepth := 9) -implicitDefEqProofs -dsimp only [go_sem, seval, ge_iff_le, gt_iff_lt, *] | (with_reducible (first | apply Za | apply Zc | apply Zd | apply Ze | apply Zf) <;> intro hq) | ((with_reducible refine Zt (fun oF hoF hnF hnF' => ?_)); (try simp only [upd_none, ne_eq, not_and] at hoF)) | ((with_reducible apply ACalls.one1); (focus ((first | with_reducible refine hL _ | with_reducible refine hcon _ _ ?_ | with_reducible refine ACalls.flA (hL _) ?_ | with_reducible refine ACalls.flA (hcon _ _ ?_) ?_) <;> (first | (simp (maxDischargeDepth := 9) -implicitDefEqProofs -dsimp only [go_sem, seval, *]; done) | omega))); (focus (first | trivial | with_reducible exact rfl | (simp (maxDischargeDepth := 9) -implicitDefEqProofs -dsimp only [go_sem, seval]; done)))))
      all_goals first | (exfalso; apply hnf; clear hL hcon; omega) | skip
      all_goals
        refine fin_eq ?_
        (repeat' (first | simp (maxDischargeDepth := 9) -implicitDefEqProofs -dsimp only [go_sem, seval, *])) <;> (repeat' refine And.intro ?_ ?_) <;> (first | omega | rfl | assumption | skip)
    by_cases ho7 : e.op = 7
    · have hnf : ¬ (e.v = 0 ∧ e.sig = 0 ∧ e.hi = 0 ∧ e.lo = 0 ∧ e.n = 0 ∧ 0 < e.l.length) := fun h => hn (by unfold node; simp only [ho7]; simp [h])
      have hL := fun τ => sz_left e.v e.sig e.hi e.lo e.n τ
      clear hn
      repeat' (first | simp (maxDischargeDepth := 9) -implicitDefEqProofs -dsimp only [go_sem, seval, ge_iff_le, gt_iff_lt, *] | (with_reducible (first | apply Za | apply Zc | apply Zd | apply Ze | apply Zf) <;> intro hq) | ((with_reducible refine Zt (fun oF hoF hnF hnF' => ?_)); (try simp only [upd_none, ne_eq, not_and] at hoF)) | ((with_reducible apply ACalls.one1); (focus ((first | with_reducible refine hL _ | with_reducible refine hcon _ _ ?_ | with_reducible refine ACalls.flA (hL _) ?_ | with_reducible refine ACalls.flA (hcon _ _ ?_) ?_) <;> (first | (simp (maxDischargeDepth := 9) -implicitDefEqProofs -dsimp only [go_sem, seval, *]; done) | omega))); (focus (first | trivial | with_reducible exact rfl | (simp (maxDischargeDepth := 9) -implicitDefEqProofs -dsimp only [go_sem, seval]; done)))))
      all_goals first | (exfalso; apply hnf; clear hL hcon; omega) | skip
      all_goals
        refine fin_eq ?_
        (repeat' (first | simp (maxDischargeDepth := 9) -implicitDefEqProofs -dsimp only [go_sem, seval, *])) <;> (repeat' refine And.intro ?_ ?_) <;> (first | omega | rfl | assumption | skip)
    by_cases ho8 : e.op = 8
    · have hnf : ¬ (e.v = 0 ∧ e.sig = 0 ∧ e.hi = 0 ∧ e.lo = 0 ∧ e.l.length = 1 ∧ 31 ≤ e.n ∧ e.n ≤ 33 ∧ 1 ≤ e.w ∧ e.w ≤ 64) := fun h => hn (by unfold node; simp only [ho8]; simp [h])
      have hL := fun τ => sz_left e.v e.sig e.hi e.lo 0 τ
      clear hn
      repeat' (first | simp (maxDischargeDepth := 9) -implicitDefEqProofs -dsimp only [go_sem, seval, ge_iff_le, gt_iff_lt, *] | (with_reducible (first | apply Za | apply Zc | apply Zd | apply Ze | apply Zf) <;> intro hq) | ((with_reducible refine Zt (fun oF hoF hnF hnF' => ?_)); (try simp only [upd_none, ne_eq, not_and] at hoF)) | ((with_reducible apply ACalls.one1); (focus ((first | with_reducible refine hL _ | with_reducible refine hcon _ _ ?_ | with_reducible refine ACalls.flA (hL _) ?_ | with_reducible refine ACalls.flA (hcon _ _ ?_) ?_) <;> (first | (simp (maxDischargeDepth := 9) -implicitDefEqProofs -dsimp only [go_sem, seval, *]; done) | omega))); (focus (first | trivial | with_reducible exact rfl | (simp (maxDischargeDepth := 9) -implicitDefEqProofs -dsimp only [go_sem, seval]; done)))))
      all_goals first | (exfalso; apply hnf; clear hL hcon; omega) | skip
      all_goals
        refine fin_eq ?_
        (repeat' (first | simp (maxDischargeDepth := 9) -implicitDefEqProofs -dsimp only [go_sem, seval, *])) <;> (repeat' refine And.intro ?_ ?_) <;> (first | omega | rfl | assumption | skip)
    clear hn
    repeat' (first | simp (maxDischargeDepth := 9) -implicitDefEqProofs -dsimp only [go_sem, seval, *] | (with_reducible (first | apply Za | apply Zc | apply Zd | apply Ze | apply Zf) <;> intro hq) | ((with_reducible refine Zt (fun oF hoF hnF hnF' => ?_)); (try simp only [upd_none, ne_eq, not_and] at hoF)))
    all_goals first | (exfalso; omega) | skip
    all_goals
      refine fin_eq ?_
      (repeat' (first | simp (maxDischargeDepth := 9) -implicitDefEqProofs -dsimp only [go_sem, seval, *])) <;> (repeat' refine And.intro ?_ ?_) <;> (first | omega | rfl | assumption | skip)
end Go.Proofs.Ytdiebjnjhgbklaa

namespace Fil.Sz
open Abs
theorem fst0_at {α : Type} {f : α → Int} : ∀ {l : List α} {i : Nat} (h : i < l.length), (∀ j, (hj : j < i) → f (l[j]'(by omega)) = 0) → f l[i] ≠ 0 → fst0 (l.map f) = f l[i]
  | [], _, h, _, _ => by simp at h
  | a :: l, 0, _, _, hn => by simp only [List.getElem_cons_zero] at hn ⊢; simp [fst0, hn]
  | a :: l, i + 1, h, hz, hn => by
    have h0 := hz 0 (by omega)
    simp only [List.getElem_cons_zero] at h0
    simp only [List.map_cons, fst0, h0, if_true, List.getElem_cons_succ]
    exact fst0_at (l := l) (i := i) (by simpa using h) (fun j hj => by have := hz (j + 1) (by omega); simpa using this) (by simpa using hn)
theorem fst0_none {α : Type} {f : α → Int} {l : List α} (h : ∀ j, (hj : j < l.length) → f l[j] = 0) : fst0 (l.map f) = 0 :=
  fst0_zero fun a ha => by
    obtain ⟨x, hx, rfl⟩ := List.mem_map.1 ha
    obtain ⟨j, hj, rfl⟩ := List.getElem_of_mem hx
    exact h j hj
def sumI {α : Type} (f : α → Int) (l : List α) (i : Nat) : Int := ((l.take i).map f).sum
theorem sumI_zero {α : Type} {f : α → Int} {l : List α} : sumI f l 0 = 0 := by simp [sumI]
theorem sumI_succ {α : Type} {f : α → Int} {l : List α} {i : Nat} (h : i < l.length) : sumI f l (i + 1) = sumI f l i + f l[i] := by
  unfold sumI
  rw [List.take_add_one, List.getElem?_eq_getElem h, List.map_append, List.sum_append, Option.toList_some, List.map_cons, List.map_nil, List.sum_cons, List.sum_nil, Int.add_zero]
theorem sumI_all {α : Type} {f : α → Int} {l : List α} : sumI f l l.length = (l.map f).sum := by simp [sumI]
theorem sumI_bounds {l : List E} {f : E → Int} (h0 : ∀ x ∈ l, 0 ≤ f x) (h : ∀ x ∈ l, f x ≤ 64 * nodes x) (i : Nat) : 0 ≤ sumI f l i ∧ sumI f l i ≤ 64 * ((l.map nodes).sum : Nat) := by
  unfold sumI
  refine ⟨sum_nonneg fun a ha => ?_, ?_⟩
  · obtain ⟨x, hx, rfl⟩ := List.mem_map.1 ha
    exact h0 x (List.mem_of_mem_take hx)
  · have h1 := sum_le (l := l.take i) (f := f) fun x hx => h x (List.mem_of_mem_take hx)
    have h2 : sumTo nodes l i ≤ (l.map nodes).sum := sumTo_le
    unfold sumTo at h2
    omega
theorem cat0_zero {l : List E} {f : E → Int} {x : E} (hx : x ∈ l) (h : f x = 0) : cat0 (l.map f) = 0 := by
  unfold cat0; rw [if_pos (List.mem_map.2 ⟨x, hx, h⟩)]
theorem cat0_sum {l : List E} {f : E → Int} (h : ∀ j, (hj : j < l.length) → ¬ f l[j] = 0) : cat0 (l.map f) = (l.map f).sum := by
  unfold cat0
  rw [if_neg]
  intro hm
  obtain ⟨x, hx, e⟩ := List.mem_map.1 hm
  obtain ⟨j, hj, rfl⟩ := List.getElem_of_mem hx
  exact h j hj e
theorem headD_get {α : Type} {f : α → Int} {l : List α} (h : 0 < l.length) : (l.map f).headD 0 = f l[0] := by
  cases l with
  | nil => simp at h
  | cons a l => rfl
end Fil.Sz

namespace Go.Proofs.Ytdiebjnjhgbklaa
open Abs Fil Fil.Sz
theorem sz_told (w o : Int) (σ : Sig) : ACalls Try.prog 73 [.int .i64 w, .int .i64 o] σ (fun r σ' => r = .ret (.int .i64 (told w o)) ∧ σ' = σ) := by
  refine calls_x mixed Try.func73 b73 n73 rfl q73 (by simp) ?_; unfold c73 r73
  repeat' (first | simp (maxDischargeDepth := 9) -implicitDefEqProofs -dsimp only [go_sem, seval, *] | (with_reducible (first | apply Zf) <;> intro hq))
  all_goals
    have hv : told w o = if w = 0 then o else w := rfl
    refine fin_eq ?_
    (repeat' (first | simp (maxDischargeDepth := 9) -implicitDefEqProofs -dsimp only [go_sem, seval, if_true, if_false, *])) <;> (repeat' refine And.intro ?_ ?_) <;> (first | omega | rfl | assumption | skip)
theorem sz_first_step (l : List E) (hl : l.length ≤ 1000000000000) (ih : ∀ x ∈ l, ∀ τ, ACalls Try.prog 72 [encE x] τ (fun r σ' => r = .ret (.int .i64 (own x)) ∧ σ' = τ)) (σ : Sig) :
    ACalls Try.prog 96 [.slice (l.map encE) .no] σ (fun r σ' => r = .ret (.int .i64 (fst0 (l.map own))) ∧ σ' = σ) := by
  refine calls_x mixed Try.func96 b96 n96 rfl q96 (by simp) ?_; unfold c96 r96
  repeat' (first | simp (maxDischargeDepth := 9) -implicitDefEqProofs -dsimp only [go_sem, seval, *] | simp (disch := omega) only [wrap64] | ((with_reducible refine Zu ?_ ?_); focus omega) | ((with_reducible refine Zt (fun oF hoF hnF hnF' => ?_)); (try simp only [upd_none, ne_eq, not_and] at hoF)))
  refine loop_rule (fun i : Nat => [(8, some (.int .i64 i)), (7, some (.int .i64 l.length)), (6, some (.slice (l.map encE) .no))]) (fun _ => σ) (fun i => i ≤ l.length ∧ ∀ j, (h : j < l.length) → j < i → own l[j] = 0) (fun i => l.length - i) 0 ?_ ?_
  · clear ih
    (repeat' (first | simp (maxDischargeDepth := 9) -implicitDefEqProofs -dsimp only [go_sem, seval, *] | simp (disch := omega) only [wrap64])) <;> (repeat' refine And.intro ?_ ?_) <;> (first | omega | rfl | assumption | skip)
  · rintro i ⟨hi, hok⟩
    by_cases hlt : i < l.length
    · have hc := fun τ => ih l[i] (List.getElem_mem hlt) τ
      obtain ⟨w, hw⟩ : ∃ w, own l[i] = w := ⟨_, rfl⟩
      rw [hw] at hc
      by_cases hz : w = 0
      · have hn : ∀ j, (h : j < l.length) → j < i + 1 → own l[j] = 0 := fun j h h1 => by
          rcases Nat.lt_or_ge j i with q | q
          · exact hok j h q
          · obtain rfl : j = i := by omega
            rw [hw, hz]
        subst hz
        clear ih hok hw
        repeat' (first | simp (maxDischargeDepth := 9) -implicitDefEqProofs -dsimp only [go_sem, seval, *] | simp (disch := omega) only [wrap64] | ((with_reducible refine Zu ?_ ?_); focus omega) | ((with_reducible refine Zt (fun oF hoF hnF hnF' => ?_)); (try simp only [upd_none, ne_eq, not_and] at hoF)) | ((with_reducible apply ACalls.one1); (focus ((first | with_reducible refine hc _) <;> (first | (simp (maxDischargeDepth := 9) -implicitDefEqProofs -dsimp only [go_sem, seval, *]; done) | omega))); (focus (first | trivial | with_reducible exact rfl | (simp (maxDischargeDepth := 9) -implicitDefEqProofs -dsimp only [go_sem, seval]; done)))))
        refine loop_next _ _ _ _ (i + 1) ?_; (repeat' (first | simp (maxDischargeDepth := 9) -implicitDefEqProofs -dsimp only [go_sem, seval, *] | simp (disch := omega) only [wrap64])) <;> (repeat' refine And.intro ?_ ?_) <;> (first | omega | rfl | assumption | skip)
      · have hv := fst0_at (f := own) hlt (fun j hj => hok j (by omega) hj) (by rw [hw]; exact hz)
        rw [hw] at hv
        have hb : (w != 0) = true := by simpa using hz
        clear ih hok hw
        repeat' (first | simp (maxDischargeDepth := 9) -implicitDefEqProofs -dsimp only [go_sem, seval, *] | simp (disch := omega) only [wrap64] | ((with_reducible refine Zu ?_ ?_); focus omega) | ((with_reducible refine Zt (fun oF hoF hnF hnF' => ?_)); (try simp only [upd_none, ne_eq, not_and] at hoF)) | ((with_reducible apply ACalls.one1); (focus ((first | with_reducible refine hc _) <;> (first | (simp (maxDischargeDepth := 9) -implicitDefEqProofs -dsimp only [go_sem, seval, *]; done) | omega))); (focus (first | trivial | with_reducible exact rfl | (simp (maxDischargeDepth := 9) -implicitDefEqProofs -dsimp only [go_sem, seval]; done)))))
        refine fin_eq ?_
        (repeat' (first | simp (maxDischargeDepth := 9) -implicitDefEqProofs -dsimp only [go_sem, seval, *] | simp (disch := omega) only [wrap64])) <;> (repeat' refine And.intro ?_ ?_) <;> (first | omega | rfl | assumption | skip)
    · have hv := fst0_none (f := own) fun j hj => hok j hj (by omega)
      clear ih hok
      repeat' (first | simp (maxDischargeDepth := 9) -implicitDefEqProofs -dsimp only [go_sem, seval, *] | simp (disch := omega) only [wrap64] | ((with_reducible refine Zu ?_ ?_); focus omega) | ((with_reducible refine Zt (fun oF hoF hnF hnF' => ?_)); (try simp only [upd_none, ne_eq, not_and] at hoF)))
      refine fin_eq ?_
      (repeat' (first | simp (maxDischargeDepth := 9) -implicitDefEqProofs -dsimp only [go_sem, seval, *] | simp (disch := omega) only [wrap64])) <;> (repeat' refine And.intro ?_ ?_) <;> (first | omega | rfl | assumption | skip)
set_option maxRecDepth 20000 in
set_option maxHeartbeats 1000000 in
theorem sz_own (g : List Sg) (hg : SgOk g) (e : E) : ∀ (σ : Sig), shp g e = true → nodes e ≤ 16777216 → ACalls Try.prog 72 [encE e] σ (fun r σ' => r = .ret (.int .i64 (own e)) ∧ σ' = σ) := by
  refine E.ind (P := fun e => ∀ (σ : Sig), shp g e = true → nodes e ≤ 16777216 → ACalls Try.prog 72 [encE e] σ (fun r σ' => r = .ret (.int .i64 (own e)) ∧ σ' = σ)) (fun e ih σ hs he => ?_) e
  have h1 := encEs_eq e
  have l1 := len_nodes e
  have hE := fun (x : E) (hx : x ∈ e.l) τ => ih x hx τ (shp_part hs hx) (by have := part_nodes hx; omega)
  have hfst := fun τ => sz_first_step e.l (by omega) hE τ
  have hfst1 := fun τ => sz_first_step (e.l.drop 1) (by rw [List.length_drop]; omega) (fun x hx τ => hE x (List.mem_of_mem_drop hx) τ) τ
  clear ih
  have hnd := shp_nd hs
  cases hnd with
  | num ho => 
    have hv := own1 ho
    clear hE hfst hfst1
    refine calls_x mixed Try.func72 b72 n72 rfl q72 (by simp) ?_; unfold c72 r72
    repeat' (first | simp (maxDischargeDepth := 9) -implicitDefEqProofs -dsimp only [go_sem, seval, *] | simp (disch := omega) only [wrap64] | (with_reducible (first | apply Zc) <;> intro hq) | ((with_reducible refine Zu ?_ ?_); focus omega) | ((with_reducible refine Zt (fun oF hoF hnF hnF' => ?_)); (try simp only [upd_none, ne_eq, not_and] at hoF)))
    refine fin_eq ?_
    (repeat' (first | simp (maxDischargeDepth := 9) -implicitDefEqProofs -dsimp only [go_sem, seval, *] | simp (disch := omega) only [wrap64])) <;> (repeat' refine And.intro ?_ ?_) <;> (first | omega | rfl | assumption | skip)
  | ext ho =>
    have hv := own8 ho
    clear hE hfst hfst1
    refine calls_x mixed Try.func72 b72 n72 rfl q72 (by simp) ?_; unfold c72 r72
    repeat' (first | simp (maxDischargeDepth := 9) -implicitDefEqProofs -dsimp only [go_sem, seval, *] | simp (disch := omega) only [wrap64] | (with_reducible (first | apply Zc) <;> intro hq) | ((with_reducible refine Zu ?_ ?_); focus omega) | ((with_reducible refine Zt (fun oF hoF hnF hnF' => ?_)); (try simp only [upd_none, ne_eq, not_and] at hoF)))
    refine fin_eq ?_
    (repeat' (first | simp (maxDischargeDepth := 9) -implicitDefEqProofs -dsimp only [go_sem, seval, *] | simp (disch := omega) only [wrap64])) <;> (repeat' refine And.intro ?_ ?_) <;> (first | omega | rfl | assumption | skip)
  | sig ho h2 h3 h4 h5 =>
    have hv := own2 ho
    obtain ⟨p1, p2, p3⟩ := place_bits hg h5
    clear hE hfst hfst1
    refine calls_x mixed Try.func72 b72 n72 rfl q72 (by simp) ?_; unfold c72 r72
    repeat' (first | simp (maxDischargeDepth := 9) -implicitDefEqProofs -dsimp only [go_sem, seval, *] | simp (disch := omega) only [wrap64] | (with_reducible (first | apply Zc) <;> intro hq) | ((with_reducible refine Zu ?_ ?_); focus omega) | ((with_reducible refine Zt (fun oF hoF hnF hnF' => ?_)); (try simp only [upd_none, ne_eq, not_and] at hoF)))
    refine fin_eq ?_
    (repeat' (first | simp (maxDischargeDepth := 9) -implicitDefEqProofs -dsimp only [go_sem, seval, *] | simp (disch := omega) only [wrap64])) <;> (repeat' refine And.intro ?_ ?_) <;> (first | omega | rfl | assumption | skip)
  | idx ho =>
    have hv := own3 ho
    clear hE hfst hfst1
    refine calls_x mixed Try.func72 b72 n72 rfl q72 (by simp) ?_; unfold c72 r72
    repeat' (first | simp (maxDischargeDepth := 9) -implicitDefEqProofs -dsimp only [go_sem, seval, *] | simp (disch := omega) only [wrap64] | (with_reducible (first | apply Zc) <;> intro hq) | ((with_reducible refine Zu ?_ ?_); focus omega) | ((with_reducible refine Zt (fun oF hoF hnF hnF' => ?_)); (try simp only [upd_none, ne_eq, not_and] at hoF)))
    refine fin_eq ?_
    (repeat' (first | simp (maxDischargeDepth := 9) -implicitDefEqProofs -dsimp only [go_sem, seval, *] | simp (disch := omega) only [wrap64])) <;> (repeat' refine And.intro ?_ ?_) <;> (first | omega | rfl | assumption | skip)
  | un ho h2 h3 h4 h5 a h6 h7 h8 =>
    have hv := own4 ho
    have hle : 0 < e.l.length := by rw [h6]; simp
    have hle2 : (0 : Int) < e.l.length := by omega
    rw [headD_get hle] at hv
    have hc := fun τ => hE e.l[0] (List.getElem_mem hle) τ
    clear hE hfst hfst1 h6
    refine calls_x mixed Try.func72 b72 n72 rfl q72 (by simp) ?_; unfold c72 r72
    repeat' (first | simp (maxDischargeDepth := 9) -implicitDefEqProofs -dsimp only [go_sem, seval, *] | simp (disch := omega) only [wrap64] | (with_reducible (first | apply Zc) <;> intro hq) | ((with_reducible refine Zu ?_ ?_); focus omega) | ((with_reducible refine Zt (fun oF hoF hnF hnF' => ?_)); (try simp only [upd_none, ne_eq, not_and] at hoF)) | ((with_reducible apply ACalls.one1); (focus ((first | with_reducible refine hc _) <;> (first | (simp (maxDischargeDepth := 9) -implicitDefEqProofs -dsimp only [go_sem, seval, *]; done) | omega))); (focus (first | trivial | with_reducible exact rfl | (simp (maxDischargeDepth := 9) -implicitDefEqProofs -dsimp only [go_sem, seval]; done)))))
    all_goals
      refine fin_eq ?_
      (repeat' (first | simp (maxDischargeDepth := 9) -implicitDefEqProofs -dsimp only [go_sem, seval, if_true, if_false, *] | simp (disch := omega) only [wrap64])) <;> (repeat' refine And.intro ?_ ?_) <;> (first | omega | rfl | assumption | skip)
  | bin ho h2 h3 h4 h5 a b h6 h7 h8 =>
    have hv := own5 ho
    have hle : 0 < e.l.length := by rw [h6]; simp
    have hle2 : (0 : Int) < e.l.length := by omega
    rw [headD_get hle] at hv
    have hc := fun τ => hE e.l[0] (List.getElem_mem hle) τ
    clear hE hfst1 h6
    refine calls_x mixed Try.func72 b72 n72 rfl q72 (by simp) ?_; unfold c72 r72
    repeat' (first | simp (maxDischargeDepth := 9) -implicitDefEqProofs -dsimp only [go_sem, seval, *] | simp (disch := omega) only [wrap64] | (with_reducible (first | apply Zc) <;> intro hq) | ((with_reducible refine Zu ?_ ?_); focus omega) | ((with_reducible refine Zt (fun oF hoF hnF hnF' => ?_)); (try simp only [upd_none, ne_eq, not_and] at hoF)) | ((with_reducible apply ACalls.one1); (focus ((first | with_reducible refine hc _ | with_reducible refine hfst _) <;> (first | (simp (maxDischargeDepth := 9) -implicitDefEqProofs -dsimp only [go_sem, seval, *]; done) | omega))); (focus (first | trivial | with_reducible exact rfl | (simp (maxDischargeDepth := 9) -implicitDefEqProofs -dsimp only [go_sem, seval]; done)))))
    all_goals
      refine fin_eq ?_
      (repeat' (first | simp (maxDischargeDepth := 9) -implicitDefEqProofs -dsimp only [go_sem, seval, if_true, if_false, *] | simp (disch := omega) only [wrap64])) <;> (repeat' refine And.intro ?_ ?_) <;> (first | omega | rfl | assumption | skip)
  | cond ho h2 h3 h4 h5 h7 a b c h6 =>
    have hv := own6 ho
    rw [← List.map_drop] at hv
    have hle : e.l.length = 3 := by rw [h6]; rfl
    have hdm : List.drop 1 (List.take 3 (e.l.map encE)) = (e.l.drop 1).map encE := by rw [h6]; rfl
    clear hE hfst h6
    refine calls_x mixed Try.func72 b72 n72 rfl q72 (by simp) ?_; unfold c72 r72
    repeat' (first | simp (maxDischargeDepth := 9) -implicitDefEqProofs -dsimp only [go_sem, seval, *] | simp (disch := omega) only [wrap64] | (with_reducible (first | apply Zc) <;> intro hq) | ((with_reducible refine Zu ?_ ?_); focus omega) | ((with_reducible refine Zt (fun oF hoF hnF hnF' => ?_)); (try simp only [upd_none, ne_eq, not_and] at hoF)) | ((with_reducible apply ACalls.one1); (focus ((first | with_reducible refine hfst1 _) <;> (first | (simp (maxDischargeDepth := 9) -implicitDefEqProofs -dsimp only [go_sem, seval, *]; done) | omega))); (focus (first | trivial | with_reducible exact rfl | (simp (maxDischargeDepth := 9) -implicitDefEqProofs -dsimp only [go_sem, seval]; done)))))
    refine fin_eq ?_
    (repeat' (first | simp (maxDischargeDepth := 9) -implicitDefEqProofs -dsimp only [go_sem, seval, *] | simp (disch := omega) only [wrap64])) <;> (repeat' refine And.intro ?_ ?_) <;> (first | omega | rfl | assumption | skip)
  | cat ho h2 h3 h4 h5 h7 h6 =>
    have hv := own7 ho
    have hon := fun (x : E) (hx : x ∈ e.l) => own_nonneg hg x (shp_part hs hx)
    have hol := fun (x : E) (hx : x ∈ e.l) => own_le hg x (shp_part hs hx)
    have hsb := sumI_bounds hon hol
    have hns := nodes_eq e
    have hz := fun (x : E) (hx : x ∈ e.l) (h : own x = 0) => cat0_zero (f := own) hx h
    clear hfst hfst1 hon hol
    refine calls_x mixed Try.func72 b72 n72 rfl q72 (by simp) ?_; unfold c72 r72
    repeat' (first | simp (maxDischargeDepth := 9) -implicitDefEqProofs -dsimp only [go_sem, seval, *] | simp (disch := omega) only [wrap64] | (with_reducible (first | apply Zc) <;> intro hq) | ((with_reducible refine Zu ?_ ?_); focus omega) | ((with_reducible refine Zt (fun oF hoF hnF hnF' => ?_)); (try simp only [upd_none, ne_eq, not_and] at hoF)))
    refine loop_rule (fun i : Nat => [(27, some (.int .i64 i)), (26, some (.int .i64 e.l.length)), (25, some (.slice (e.l.map encE) .no)), (3, some (.int .i64 (sumI own e.l i)))]) (fun _ => σ) (fun i => i ≤ e.l.length ∧ ∀ j, (h : j < e.l.length) → j < i → ¬ own e.l[j] = 0) (fun i => e.l.length - i) 0 ?_ ?_
    · clear hE hsb hz
      have e0 := sumI_zero (f := own) (l := e.l)
      (repeat' (first | simp (maxDischargeDepth := 9) -implicitDefEqProofs -dsimp only [go_sem, seval, *] | simp (disch := omega) only [wrap64])) <;> (repeat' refine And.intro ?_ ?_) <;> (first | omega | rfl | assumption | skip)
    · rintro i ⟨hi, hok⟩
      obtain ⟨s1, s2⟩ := hsb i
      by_cases hlt : i < e.l.length
      · have hc := fun τ => hE e.l[i] (List.getElem_mem hlt) τ
        have hss := sumI_succ (f := own) hlt
        obtain ⟨t1, t2⟩ := hsb (i + 1)
        by_cases hw : own e.l[i] = 0
        · rw [hz _ (List.getElem_mem hlt) hw] at hv
          rw [hw] at hc
          clear hE hok hsb hz hw hss
          repeat' (first | simp (maxDischargeDepth := 9) -implicitDefEqProofs -dsimp only [go_sem, seval, *] | simp (disch := omega) only [wrap64] | (with_reducible (first | apply Zc) <;> intro hq) | ((with_reducible refine Zu ?_ ?_); focus omega) | ((with_reducible refine Zt (fun oF hoF hnF hnF' => ?_)); (try simp only [upd_none, ne_eq, not_and] at hoF)) | ((with_reducible apply ACalls.one1); (focus ((first | with_reducible refine hc _) <;> (first | (simp (maxDischargeDepth := 9) -implicitDefEqProofs -dsimp only [go_sem, seval, *]; done) | omega))); (focus (first | trivial | with_reducible exact rfl | (simp (maxDischargeDepth := 9) -implicitDefEqProofs -dsimp only [go_sem, seval]; done)))))
          refine fin_eq ?_
          (repeat' (first | simp (maxDischargeDepth := 9) -implicitDefEqProofs -dsimp only [go_sem, seval, *] | simp (disch := omega) only [wrap64])) <;> (repeat' refine And.intro ?_ ?_) <;> (first | omega | rfl | assumption | skip)
        · have hn : ∀ j, (h : j < e.l.length) → j < i + 1 → ¬ own e.l[j] = 0 := fun j h h1 => by
            rcases Nat.lt_or_ge j i with q | q
            · exact hok j h q
            · obtain rfl : j = i := by omega
              exact hw
          have hwb : (own e.l[i] == 0) = false := by simpa using hw
          clear hE hok hsb hz
          repeat' (first | simp (maxDischargeDepth := 9) -implicitDefEqProofs -dsimp only [go_sem, seval, *] | simp (disch := omega) only [wrap64] | (with_reducible (first | apply Zc) <;> intro hq) | ((with_reducible refine Zu ?_ ?_); focus omega) | ((with_reducible refine Zt (fun oF hoF hnF hnF' => ?_)); (try simp only [upd_none, ne_eq, not_and] at hoF)) | ((with_reducible apply ACalls.one1); (focus ((first | with_reducible refine hc _) <;> (first | (simp (maxDischargeDepth := 9) -implicitDefEqProofs -dsimp only [go_sem, seval, *]; done) | omega))); (focus (first | trivial | with_reducible exact rfl | (simp (maxDischargeDepth := 9) -implicitDefEqProofs -dsimp only [go_sem, seval]; done)))))
          refine loop_next _ _ _ _ (i + 1) ?_; (repeat' (first | simp (maxDischargeDepth := 9) -implicitDefEqProofs -dsimp only [go_sem, seval, *] | simp (disch := omega) only [wrap64])) <;> (repeat' refine And.intro ?_ ?_) <;> (first | omega | rfl | assumption | skip)
      · have ei : i = e.l.length := by omega
        subst ei
        rw [cat0_sum fun j hj => hok j hj hj] at hv
        rw [sumI_all]
        clear hE hok hsb hz
        repeat' (first | simp (maxDischargeDepth := 9) -implicitDefEqProofs -dsimp only [go_sem, seval, *] | simp (disch := omega) only [wrap64] | (with_reducible (first | apply Zc) <;> intro hq) | ((with_reducible refine Zu ?_ ?_); focus omega) | ((with_reducible refine Zt (fun oF hoF hnF hnF' => ?_)); (try simp only [upd_none, ne_eq, not_and] at hoF)))
        refine fin_eq ?_
        (repeat' (first | simp (maxDischargeDepth := 9) -implicitDefEqProofs -dsimp only [go_sem, seval, *] | simp (disch := omega) only [wrap64])) <;> (repeat' refine And.intro ?_ ?_) <;> (first | omega | rfl | assumption | skip)
theorem sz_first (g : List Sg) (hg : SgOk g) (l : List E) (hs : ∀ x ∈ l, shp g x = true) (hn : (l.map nodes).sum ≤ 16777216) (σ : Sig) :
    ACalls Try.prog 96 [.slice (l.map encE) .no] σ (fun r σ' => r = .ret (.int .i64 (fst0 (l.map own))) ∧ σ' = σ) :=
  sz_first_step l (by have := len_sum nodes_pos l; omega) (fun x hx τ => sz_own g hg x τ (hs x hx) (by have := mem_sum (f := nodes) hx; omega)) σ
end Go.Proofs.Ytdiebjnjhgbklaa

namespace Abs
open Go
def frzB (o n : Nat) (l : List AV) (a b : AV) : Prop := b = .vec o n ∧ (a = .slice l (.own o) ∨ a = .slice l .no)
theorem frzB_plain (o n : Nat) (l : List AV) : PlainB (frzB o n l) := fun a b ⟨h1, h2⟩ => by
  subst h1
  rcases h2 with rfl | rfl <;> exact ⟨rfl, rfl⟩
theorem view_frz {σ : Sig} {o sz n : Nat} {cs l : List AV} (h : σ o = some (.vec sz n cs)) (hf : flat l = cs) (hl : l.length = n) (hall : ∀ x ∈ l, (cellsA x).length = sz) :
    View (Lift (frzB o n l)) (upd σ o (.grow sz n)) σ := fun S K w hS hs => by
  obtain ⟨e0, h1, h2⟩ := hs.live o _ h
  cases e0 <;> simp only [ObjSat] at h2
  rename_i b cap sz' n'
  obtain ⟨rfl, rfl, h3⟩ := h2
  obtain ⟨K', k1, k2, k3⟩ := hs.freeze h h1 hf hl hall S
  refine ⟨K', k1, k3, fun a0 a v hab hr => ?_⟩
  refine Rel.lift (frzB_plain o _ l) k1.le (fun x y v ⟨e1, e2⟩ hr => ?_) hab hr
  subst e1
  obtain ⟨b', cap', rfl, hown, _⟩ := vec_at hs h hr
  rw [h1] at hown
  simp only [Option.some.injEq, Own.vec.injEq] at hown
  obtain ⟨rfl, rfl, _, _⟩ := hown
  rcases e2 with rfl | rfl
  · exact k2
  · exact Rel.lift (nilB_plain (fun _ => none)) (Gh.le.refl K') (fun a b v ⟨o, sz, _, _, h3⟩ hr => by simp at h3) (.slice l l .no (.own o) (.inl rfl) rfl fun i _ _ => .refl _) k2
theorem ACalls.viewIn {P : Program} {f : FuncId} {args args0 : List AV} {σ σ0 : Sig} {R : ARes → Sig → Prop} {F : AV → AV → Prop} (hv : View F σ0 σ) (ha : args0.length = args.length) (hF : ∀ i, (h0 : i < args0.length) → (h1 : i < args.length) → F args0[i] args[i])
    (h : ACalls P f args0 σ0 R) : ACalls P f args σ R :=
  ⟨h.1, fun S K w vals hS hr hs => by
    obtain ⟨K1, k1, k2, k3⟩ := hv S K w hS hs
    refine (h.2 S K1 w vals hS ⟨ha.trans hr.1, fun i h1 h2 => k3 _ _ _ (hF i h1 (by omega)) (hr.2 i (by omega) h2)⟩ k2).mono ?_
    rintro e w' ⟨K', r, σ', a, b, c, d⟩
    exact ⟨K', r, σ', k1.trans a, b, c, d⟩⟩

/-! ### Rows of elements of several cells -/
theorem flat_map_len {α : Type} (e : α → AV) (sz : Nat) (he : ∀ x, (cellsA (e x)).length = sz) : ∀ l : List α, (flat (l.map e)).length = l.length * sz
  | [] => by simp [flat]
  | x :: l => by
    have := flat_map_len e sz he l
    simp only [List.map_cons, flat_cons, List.length_append, he, this, List.length_cons]
    rw [Nat.succ_mul]; omega
theorem fin_frz {R : ARes → Sig → Prop} {v v0 v1 : AV} {σ τ : Sig} (o : Nat) {sz n : Nat} {cs l : List AV} (h : σ o = some (.vec sz n cs)) (hf : flat l = cs) (hl : l.length = n) (hall : ∀ x ∈ l, (cellsA x).length = sz)
    (hv : Lift (frzB o n l) v1 v) (hv0 : FL (upd σ o (.grow sz n)) v0 v1) (hs : SubX [] τ (upd σ o (.grow sz n))) (hR : R (.ret v0) τ) : fin R v σ :=
  ⟨v0, τ, Vr.comp (vr_of hv0 hs) ⟨_, view_frz h hf hl hall, hv⟩, hR⟩
structure Fr4 (σ : Sig) (a b c d : Nat) : Prop where
  ha : σ a = none
  hb : σ b = none
  hc : σ c = none
  hd : σ d = none
  ab : ¬ a = b
  ba : ¬ b = a
  ac : ¬ a = c
  ca : ¬ c = a
  ad : ¬ a = d
  da : ¬ d = a
  bc : ¬ b = c
  cb : ¬ c = b
  bd : ¬ b = d
  db : ¬ d = b
  cd : ¬ c = d
  dc : ¬ d = c
theorem Fr4.old {σ : Sig} {a b c d : Nat} (h : Fr4 σ a b c d) : ∀ o, ¬ σ o = none → ¬ o = a ∧ ¬ a = o ∧ ¬ o = b ∧ ¬ b = o ∧ ¬ o = c ∧ ¬ c = o ∧ ¬ o = d ∧ ¬ d = o := fun o ho =>
  ⟨fun e => ho (e ▸ h.ha), fun e => ho (e ▸ h.ha), fun e => ho (e ▸ h.hb), fun e => ho (e ▸ h.hb), fun e => ho (e ▸ h.hc), fun e => ho (e ▸ h.hc), fun e => ho (e ▸ h.hd), fun e => ho (e ▸ h.hd)⟩
end Abs

namespace Fil.Sz
open Abs
theorem runL_ok : ∀ (es : List E) (ws : List Int), es.length = ws.length → (runL (es.map size) ws).2 = 0 →
    ∃ h : (runL (es.map size) ws).1.length = es.length, ∀ i, (h1 : i < es.length) → (h2 : i < ws.length) → size es[i] ws[i] = ((runL (es.map size) ws).1[i]'(by omega), 0)
  | [], [], _, _ => ⟨rfl, fun i h => by simp at h⟩
  | a :: es, w :: ws, hl, h => by
    simp only [List.map_cons, runL] at h ⊢
    by_cases h1 : (size a w).2 ≠ 0
    · rw [if_pos h1] at h; exact (h1 h).elim
    · rw [if_neg h1] at h
      by_cases h2 : (runL (es.map size) ws).2 ≠ 0
      · rw [if_pos h2] at h; exact (h2 h).elim
      · obtain ⟨k1, k2⟩ := runL_ok es ws (by simpa using hl) (by simpa using h2)
        simp only [h1, h2, if_false]
        refine ⟨by simp [k1], fun i q1 q2 => ?_⟩
        match i, q1, q2 with
        | 0, _, _ => 
          have : (size a w).2 = 0 := by simpa using h1
          simp only [List.getElem_cons_zero]
          rw [← this]
        | i + 1, q1, q2 => simpa using k2 i (by simpa using q1) (by simpa using q2)
theorem runL_of : ∀ (es : List E) (ws : List Int) (xs : List E), es.length = ws.length → xs.length = es.length →
    (∀ i, (h1 : i < es.length) → (h2 : i < ws.length) → (h3 : i < xs.length) → size es[i] ws[i] = (xs[i], 0)) → runL (es.map size) ws = (xs, 0)
  | [], [], [], _, _, _ => rfl
  | a :: es, w :: ws, x :: xs, hl, hx, h => by
    have h0 := h 0 (by simp) (by simp) (by simp)
    simp only [List.getElem_cons_zero] at h0
    have ih := runL_of es ws xs (by simpa using hl) (by simpa using hx) fun i h1 h2 h3 => by
      have := h (i + 1) (by simpa using h1) (by simpa using h2) (by simpa using h3)
      simpa using this
    simp only [List.map_cons, runL, h0, ih]
    simp
theorem wide_pos {e : E} {w : Int} (ho : 0 ≤ own e) (hw : -1 ≤ w) : 1 ≤ wide e w := by
  unfold wide told
  by_cases h1 : w = -1
  · simp [h1]
  · by_cases h2 : w = 0
    · subst h2; simp; split <;> omega
    · simp [h1, h2]; omega
theorem wide_bit (e : E) : wide e (-1) = 1 := by simp [wide, told]
theorem wide_of {e : E} {w : Int} (h1 : w ≠ 0) (h2 : w ≠ -1) : wide e w = w := by simp [wide, told, h1, h2]
theorem wide_zero (e : E) : wide e 0 = told (own e) 32 := by simp [wide, told]
theorem wants6 {e : E} {w : Int} (h : e.op = 6) : wants e w = some [-1, w, w] := by simp [wants, h]
theorem wants7 {e : E} {w : Int} (h : e.op = 7) : wants e w = if own e = 0 ∨ own e ≠ w ∨ 64 < own e then none else some (List.replicate e.l.length 0) := by simp [wants, h]
theorem wants0 {e : E} {w : Int} (h : e.op = 1 ∨ e.op = 2 ∨ e.op = 3 ∨ e.op = 8) : wants e w = if own e ≠ w then none else some (List.replicate e.l.length 0) := by
  have h1 : ¬ e.op = 6 := by omega
  have h2 : ¬ e.op = 7 := by omega
  have h3 : ¬ (e.op = 4 ∨ e.op = 5) := by omega
  simp [wants, h1, h2, h3]
theorem wants4 {e : E} {w : Int} (h : e.op = 4 ∨ e.op = 5) : wants e w =
    if e.n = 6 ∨ e.n = 25 ∨ e.n = 26 then if w ≠ 1 then none else some (List.replicate e.l.length (-1))
    else if e.n = 3 ∨ e.n = 4 ∨ e.n = 5 then if w ≠ 1 then none else some (List.replicate e.l.length 0)
    else if 19 ≤ e.n ∧ e.n ≤ 24 then if w ≠ 1 then none else some (List.replicate e.l.length (told (fst0 (e.l.map own)) 32))
    else if e.n = 17 ∨ e.n = 18 then some [w, 0]
    else some (List.replicate e.l.length w) := by
  have h1 : ¬ e.op = 6 := by omega
  have h2 : ¬ e.op = 7 := by omega
  simp [wants, h1, h2, h]
inductive Wt (e : E) (w : Int) : List Int → Prop
  | leaf (ho : e.op = 1 ∨ e.op = 2 ∨ e.op = 3 ∨ e.op = 8) (h : own e = w) : Wt e w (List.replicate e.l.length 0)
  | cat (ho : e.op = 7) (h1 : own e ≠ 0) (h2 : own e = w) (h3 : own e ≤ 64) : Wt e w (List.replicate e.l.length 0)
  | cond (ho : e.op = 6) : Wt e w [-1, w, w]
  | bits (ho : e.op = 4 ∨ e.op = 5) (hn : e.n = 6 ∨ e.n = 25 ∨ e.n = 26) (h : w = 1) : Wt e w (List.replicate e.l.length (-1))
  | all (ho : e.op = 4 ∨ e.op = 5) (hn : e.n = 3 ∨ e.n = 4 ∨ e.n = 5) (h : w = 1) : Wt e w (List.replicate e.l.length 0)
  | cmp (ho : e.op = 4 ∨ e.op = 5) (hn : 19 ≤ e.n) (hn2 : e.n ≤ 24) (h : w = 1) : Wt e w (List.replicate e.l.length (told (fst0 (e.l.map own)) 32))
  | sh (ho : e.op = 4 ∨ e.op = 5) (hn : e.n = 17 ∨ e.n = 18) : Wt e w [w, 0]
  | ari (ho : e.op = 4 ∨ e.op = 5) (hn : ¬ (e.n = 6 ∨ e.n = 25 ∨ e.n = 26)) (hn2 : ¬ (e.n = 3 ∨ e.n = 4 ∨ e.n = 5)) (hn3 : ¬ (19 ≤ e.n ∧ e.n ≤ 24)) (hn4 : ¬ (e.n = 17 ∨ e.n = 18)) : Wt e w (List.replicate e.l.length w)
theorem wants_wt {g : List Sg} {e : E} (hs : shp g e = true) {w : Int} {ws : List Int} (h : wants e w = some ws) : Wt e w ws := by
  have hop : (e.op = 1 ∨ e.op = 2 ∨ e.op = 3 ∨ e.op = 8) ∨ e.op = 7 ∨ e.op = 6 ∨ (e.op = 4 ∨ e.op = 5) := by
    cases shp_nd hs <;> omega
  rcases hop with ho | ho | ho | ho
  · rw [wants0 ho] at h
    split at h
    · simp at h
    · simp only [Option.some.injEq] at h; subst h
      exact .leaf ho (by omega)
  · rw [wants7 ho] at h
    split at h
    · simp at h
    · simp only [Option.some.injEq] at h; subst h
      exact .cat ho (by omega) (by omega) (by omega)
  · rw [wants6 ho] at h
    simp only [Option.some.injEq] at h; subst h
    exact .cond ho
  · rw [wants4 ho] at h
    split at h
    · split at h
      · simp at h
      · simp only [Option.some.injEq] at h; subst h
        exact .bits ho (by assumption) (by omega)
    split at h
    · split at h
      · simp at h
      · simp only [Option.some.injEq] at h; subst h
        exact .all ho (by assumption) (by omega)
    split at h
    · split at h
      · simp at h
      · simp only [Option.some.injEq] at h; subst h
        exact .cmp ho (by omega) (by omega) (by omega)
    split at h
    · simp only [Option.some.injEq] at h; subst h
      exact .sh ho (by assumption)
    · simp only [Option.some.injEq] at h; subst h
      exact .ari ho (by assumption) (by assumption) (by assumption) (by assumption)
theorem wt_wants {e : E} {w : Int} {ws : List Int} (h : Wt e w ws) : wants e w = some ws := by
  cases h with
  | leaf ho h => rw [wants0 ho, if_neg (by omega)]
  | cat ho h1 h2 h3 => rw [wants7 ho, if_neg (by omega)]
  | cond ho => exact wants6 ho
  | bits ho hn h => rw [wants4 ho, if_pos hn, if_neg (by omega)]
  | all ho hn h => rw [wants4 ho, if_neg (by omega), if_pos hn, if_neg (by omega)]
  | cmp ho hn hn2 h => rw [wants4 ho, if_neg (by omega), if_neg (by omega), if_pos ⟨hn, hn2⟩, if_neg (by omega)]
  | sh ho hn => rw [wants4 ho, if_neg (by omega), if_neg (by omega), if_neg (by omega), if_pos hn]
  | ari ho hn hn2 hn3 hn4 => rw [wants4 ho, if_neg hn, if_neg hn2, if_neg hn3, if_neg hn4]
theorem wt_len {g : List Sg} {e : E} (hs : shp g e = true) {w : Int} {ws : List Int} (h : Wt e w ws) : ws.length = e.l.length := by
  cases h with
  | cond ho =>
    cases shp_nd hs <;> first | omega | skip
    rename_i h5; rw [h5]; rfl
  | sh ho hn =>
    cases shp_nd hs <;> first | omega | skip
    rename_i h5 _ _; rw [h5]; rfl
  | _ => simp
theorem size_ok {e x : E} {w : Int} (h : size e w = (x, 0)) : ¬ (w = -1 ∧ 1 < own e) ∧
    ((e.op = 1 ∧ e.w = 0 ∧ holds (wide e w) e.v = true ∧ x = .mk 1 (wide e w) e.v 0 0 0 0 []) ∨
     (¬ (e.op = 1 ∧ e.w = 0) ∧ ∃ ws, wants e (wide e w) = some ws ∧ (runL (e.l.map size) ws).2 = 0 ∧
       ¬ (e.op = 8 ∧ (e.n = 33 ∧ part0 (runL (e.l.map size) ws).1 < wide e w ∨ e.n ≠ 33 ∧ wide e w < part0 (runL (e.l.map size) ws).1)) ∧ x = e.set (wide e w) (runL (e.l.map size) ws).1)) := by
  rw [size_eq] at h
  split at h
  · simp at h
  rename_i h1
  refine ⟨h1, ?_⟩
  split at h
  · rename_i h2
    split at h
    · simp only [Prod.mk.injEq, and_true] at h
      exact .inl ⟨h2.1, h2.2, by assumption, h.symm⟩
    · simp at h
  · rename_i h2
    refine .inr ⟨h2, ?_⟩
    split at h
    · simp at h
    · rename_i ws hws
      unfold sizeK at h
      split at h
      · rename_i h3
        simp only [Prod.mk.injEq] at h
        exact (h3 h.2).elim
      · rename_i h3
        split at h
        · simp at h
        · rename_i h4
          simp only [Prod.mk.injEq, and_true] at h
          exact ⟨ws, hws, by simpa using h3, h4, h.symm⟩
theorem size_of {e : E} {w : Int} {ws : List Int} {xs : List E} (h1 : ¬ (w = -1 ∧ 1 < own e)) (h2 : ¬ (e.op = 1 ∧ e.w = 0)) (h3 : wants e (wide e w) = some ws) (h4 : runL (e.l.map size) ws = (xs, 0))
    (h5 : ¬ (e.op = 8 ∧ (e.n = 33 ∧ part0 xs < wide e w ∨ e.n ≠ 33 ∧ wide e w < part0 xs))) : size e w = (e.set (wide e w) xs, 0) := by
  rw [size_eq, if_neg h1, if_neg h2, h3]
  simp only [h4, sizeK]
  rw [if_neg (by simp), if_neg h5]
end Fil.Sz

