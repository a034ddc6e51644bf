/- Parts sized one by one. -/
import Derived.Test.YtdiebjnjhgbklaaQSizSizH
set_option linter.unusedSimpArgs false
set_option linter.unusedVariables false
namespace Go.Proofs.Ytdiebjnjhgbklaa
open Abs Fil Fil.Sz
def nodeP (e : E) : Bool :=
 if e.op = 1 ∨ e.op = 2 then decide (e.l.length = 0) else if e.op = 3 ∨ e.op = 4 ∨ e.op = 8 then decide (e.l.length = 1)
 else if e.op = 5 then decide (e.l.length = 2) else if e.op = 6 then decide (e.l.length = 3) else if e.op = 7 then decide (1 ≤ e.l.length) else false
theorem rf_parts (e : E) (σ : Sig) (he : nodes e ≤ 16777216) : ACalls Try.prog 75 [encE e] σ (fun r σ' => r = .ret (.bool (nodeP e)) ∧ σ' = σ) := by
 have h1 := encEs_eq e
 have l1 := len_nodes e
 refine calls_x mixed Try.func75 b75 n75 rfl q75 (by simp) ?_; unfold c75 r75
 repeat' (first | simp (maxDischargeDepth := 9) -implicitDefEqProofs -dsimp only [go_sem, seval, ge_iff_le, *] | (with_reducible (first | apply Zf) <;> intro hq))
 all_goals
  refine fin_eq ?_
  (repeat' simp (maxDischargeDepth := 9) -implicitDefEqProofs -dsimp only [go_sem, seval, *])
 all_goals
  unfold nodeP
  (repeat' split) <;> first | (exfalso; omega) | (rw [Bool.eq_iff_iff]; done) | (rw [Bool.eq_iff_iff]; simp; done) | (rw [Bool.eq_iff_iff]; simp; omega)
def nodeF (g : List Sg) (e : E) : Bool :=
 if e.op = 1 then decide (e.sig = 0 ∧ e.hi = 0 ∧ e.lo = 0 ∧ e.n = 0 ∧ 0 ≤ e.w ∧ e.w ≤ 64) && (decide (e.w = 0) || holds e.w e.v)
 else if e.op = 2 then decide (e.v = 0 ∧ e.n = 0) && place g e.sig e.hi e.lo
 else if e.op = 3 then decide (e.v = 0 ∧ e.hi = 0 ∧ e.lo = 0 ∧ e.n = 0 ∧ 0 ≤ e.sig ∧ e.sig < g.length)
 else if e.op = 4 then decide (e.v = 0 ∧ e.sig = 0 ∧ e.hi = 0 ∧ e.lo = 0 ∧ 1 ≤ e.n ∧ e.n ≤ 6)
 else if e.op = 5 then decide (e.v = 0 ∧ e.sig = 0 ∧ e.hi = 0 ∧ e.lo = 0 ∧ 11 ≤ e.n ∧ e.n ≤ 26)
 else if e.op = 6 then decide (e.v = 0 ∧ e.sig = 0 ∧ e.hi = 0 ∧ e.lo = 0 ∧ e.n = 0)
 else if e.op = 7 then decide (e.v = 0 ∧ e.sig = 0 ∧ e.hi = 0 ∧ e.lo = 0 ∧ e.n = 0)
 else if e.op = 8 then decide (e.v = 0 ∧ e.sig = 0 ∧ e.hi = 0 ∧ e.lo = 0 ∧ 31 ≤ e.n ∧ e.n ≤ 33 ∧ 1 ≤ e.w ∧ e.w ≤ 64)
 else false
theorem node_split (g : List Sg) (e : E) : node g e = (nodeP e && nodeF g e) := by
 unfold node nodeP nodeF
 by_cases h1 : e.op = 1
 ·simp only [h1]; simp; rw [Bool.eq_iff_iff]; simp; grind
 by_cases h2 : e.op = 2
 ·simp only [h2]; simp; rw [Bool.eq_iff_iff]; simp; grind
 by_cases h3 : e.op = 3
 ·simp only [h3]; simp; rw [Bool.eq_iff_iff]; simp; grind
 by_cases h4 : e.op = 4
 ·simp only [h4]; simp; rw [Bool.eq_iff_iff]; simp; grind
 by_cases h5 : e.op = 5
 ·simp only [h5]; simp; rw [Bool.eq_iff_iff]; simp; grind
 by_cases h6 : e.op = 6
 ·simp only [h6]; simp; rw [Bool.eq_iff_iff]; simp; grind
 by_cases h7 : e.op = 7
 ·simp only [h7]; simp; rw [Bool.eq_iff_iff]; simp; grind
 by_cases h8 : e.op = 8
 ·simp only [h8]; simp; rw [Bool.eq_iff_iff]; simp; grind
 simp [h1, h2, h3, h4, h5, h6, h7, h8]
set_option maxRecDepth 20000 in
set_option maxHeartbeats 1000000 in
theorem rf_fields (g : List Sg) (hg : g.length ≤ 1000000000000) (e : E) (σ : Sig) (hw : WfE e) (hop : 1 ≤ e.op ∧ e.op ≤ 8) : ACalls Try.prog 76 [.slice (g.map encS) .no, encE e] σ (fun r σ' => r = .ret (.bool (nodeF g e)) ∧ σ' = σ) := by
 obtain ⟨⟨w1, w2, w3, w4, w5, w6, w7⟩, w8⟩ := (WfE_iff e).1 hw
 obtain ⟨w2a, w2b⟩ := w2
 obtain ⟨x, hx⟩ : ∃ x, nodeF g e = x := ⟨_, rfl⟩
 clear hw w8
 refine calls_x mixed Try.func76 b76 n76 rfl q76 (by simp) ?_; unfold c76 r76
 by_cases ho1 : e.op = 1
 ·obtain ⟨b, hb⟩ : ∃ b, holds e.w e.v = b := ⟨_, rfl⟩
  have hh := fun τ h => rf_Holds e.w e.v τ h w2b w3
  rw [hb] at hh
  have hnf : nodeF g e = true ↔ (e.sig = 0 ∧ e.hi = 0 ∧ e.lo = 0 ∧ e.n = 0 ∧ 0 ≤ e.w ∧ e.w ≤ 64 ∧ (e.w = 0 ∨ b = true)) := by unfold nodeF; simp only [ho1]; simp [hb]; try grind
  rw [hx] at hnf
  clear hb
  cases b
  all_goals
   try simp only [Bool.false_eq_true, or_false, or_true, and_true, and_false, iff_false, Bool.not_eq_true] at hnf
   cases x
   all_goals
    try simp only [Bool.false_eq_true, true_iff, false_iff] at hnf
    repeat' (first | simp (maxDischargeDepth := 9) -implicitDefEqProofs -dsimp only [go_sem, seval, ge_iff_le, *] | (with_reducible (first | apply Za | apply Ze | apply Zh | apply Zi) <;> intro hq) | ((with_reducible apply ACalls.one1); (focus ((with_reducible refine hh _ ?_) <;> (first | (simp (maxDischargeDepth := 9) -implicitDefEqProofs -dsimp only [go_sem, seval, *]; done) | omega))); (focus (first | trivial | with_reducible exact rfl | (simp (maxDischargeDepth := 9) -implicitDefEqProofs -dsimp only [go_sem, seval]; done)))))
    all_goals first | (exfalso; omega) | (exfalso; cases hnf; done) | skip
    all_goals
     refine fin_eq ?_
     (repeat' simp (maxDischargeDepth := 9) -implicitDefEqProofs -dsimp only [go_sem, seval, *])
    all_goals first | (rw [eq_comm, decide_eq_true_iff]; omega) | (rw [eq_comm, decide_eq_false_iff_not]; omega)
 by_cases ho2 : e.op = 2
 ·obtain ⟨b, hb⟩ : ∃ b, place g e.sig e.hi e.lo = b := ⟨_, rfl⟩
  have hh := fun τ => rf_place g e.sig e.hi e.lo τ hg
  rw [hb] at hh
  have hnf : nodeF g e = true ↔ (e.v = 0 ∧ e.n = 0 ∧ b = true) := by unfold nodeF; simp only [ho2]; simp [hb]; try grind
  rw [hx] at hnf
  clear hb
  cases b
  all_goals
   try simp only [Bool.false_eq_true, or_false, or_true, and_true, and_false, iff_false, Bool.not_eq_true] at hnf
   cases x
   all_goals
    try simp only [Bool.false_eq_true, true_iff, false_iff] at hnf
    repeat' (first | simp (maxDischargeDepth := 9) -implicitDefEqProofs -dsimp only [go_sem, seval, ge_iff_le, *] | (with_reducible (first | apply Za | apply Ze | apply Zh | apply Zi) <;> intro hq) | ((with_reducible apply ACalls.one1); (focus ((with_reducible refine hh _) <;> (first | (simp (maxDischargeDepth := 9) -implicitDefEqProofs -dsimp only [go_sem, seval, *]; done) | omega))); (focus (first | trivial | with_reducible exact rfl | (simp (maxDischargeDepth := 9) -implicitDefEqProofs -dsimp only [go_sem, seval]; done)))))
    all_goals first | (exfalso; omega) | (exfalso; cases hnf; done) | skip
    all_goals
     refine fin_eq ?_
     (repeat' simp (maxDischargeDepth := 9) -implicitDefEqProofs -dsimp only [go_sem, seval, *])
    all_goals first | (rw [eq_comm, decide_eq_true_iff]; omega) | (rw [eq_comm, decide_eq_false_iff_not]; omega)
 by_cases ho3 : e.op = 3
 ·have hnf : nodeF g e = true ↔ (e.v = 0 ∧ e.hi = 0 ∧ e.lo = 0 ∧ e.n = 0 ∧ 0 ≤ e.sig ∧ e.sig < g.length) := by unfold nodeF; simp only [ho3]; simp; try grind
  rw [hx] at hnf
  cases x
  all_goals
   try simp only [Bool.false_eq_true, true_iff, false_iff] at hnf
   repeat' (first | simp (maxDischargeDepth := 9) -implicitDefEqProofs -dsimp only [go_sem, seval, ge_iff_le, *] | (with_reducible (first | apply Za | apply Ze | apply Zh | apply Zi) <;> intro hq))
   all_goals first | (exfalso; omega) | (exfalso; cases hnf; done) | skip
   all_goals
    refine fin_eq ?_
    (repeat' simp (maxDischargeDepth := 9) -implicitDefEqProofs -dsimp only [go_sem, seval, *])
   all_goals first | (rw [eq_comm, decide_eq_true_iff]; omega) | (rw [eq_comm, decide_eq_false_iff_not]; omega)
 by_cases ho4 : e.op = 4
 ·have hnf : nodeF g e = true ↔ (e.v = 0 ∧ e.sig = 0 ∧ e.hi = 0 ∧ e.lo = 0 ∧ 1 ≤ e.n ∧ e.n ≤ 6) := by unfold nodeF; simp only [ho4]; simp; try grind
  rw [hx] at hnf
  cases x
  all_goals
   try simp only [Bool.false_eq_true, true_iff, false_iff] at hnf
   repeat' (first | simp (maxDischargeDepth := 9) -implicitDefEqProofs -dsimp only [go_sem, seval, ge_iff_le, *] | (with_reducible (first | apply Za | apply Ze | apply Zh | apply Zi) <;> intro hq))
   all_goals first | (exfalso; omega) | (exfalso; cases hnf; done) | skip
   all_goals
    refine fin_eq ?_
    (repeat' simp (maxDischargeDepth := 9) -implicitDefEqProofs -dsimp only [go_sem, seval, *])
   all_goals first | (rw [eq_comm, decide_eq_true_iff]; omega) | (rw [eq_comm, decide_eq_false_iff_not]; omega)
 by_cases ho5 : e.op = 5
 ·have hnf : nodeF g e = true ↔ (e.v = 0 ∧ e.sig = 0 ∧ e.hi = 0 ∧ e.lo = 0 ∧ 11 ≤ e.n ∧ e.n ≤ 26) := by unfold nodeF; simp only [ho5]; simp; try grind
  rw [hx] at hnf
  cases x
  all_goals
   try simp only [Bool.false_eq_true, true_iff, false_iff] at hnf
   repeat' (first | simp (maxDischargeDepth := 9) -implicitDefEqProofs -dsimp only [go_sem, seval, ge_iff_le, *] | (with_reducible (first | apply Za | apply Ze | apply Zh | apply Zi) <;> intro hq))
   all_goals first | (exfalso; omega) | (exfalso; cases hnf; done) | skip
   all_goals
    refine fin_eq ?_
    (repeat' simp (maxDischargeDepth := 9) -implicitDefEqProofs -dsimp only [go_sem, seval, *])
   all_goals first | (rw [eq_comm, decide_eq_true_iff]; omega) | (rw [eq_comm, decide_eq_false_iff_not]; omega)
 by_cases ho6 : e.op = 6
 ·have hnf : nodeF g e = true ↔ (e.v = 0 ∧ e.sig = 0 ∧ e.hi = 0 ∧ e.lo = 0 ∧ e.n = 0) := by unfold nodeF; simp only [ho6]; simp; try grind
  rw [hx] at hnf
  cases x
  all_goals
   try simp only [Bool.false_eq_true, true_iff, false_iff] at hnf
   repeat' (first | simp (maxDischargeDepth := 9) -implicitDefEqProofs -dsimp only [go_sem, seval, ge_iff_le, *] | (with_reducible (first | apply Za | apply Ze | apply Zh | apply Zi) <;> intro hq))
   all_goals first | (exfalso; omega) | (exfalso; cases hnf; done) | skip
   all_goals
    refine fin_eq ?_
    (repeat' simp (maxDischargeDepth := 9) -implicitDefEqProofs -dsimp only [go_sem, seval, *])
   all_goals first | (rw [eq_comm, decide_eq_true_iff]; omega) | (rw [eq_comm, decide_eq_false_iff_not]; omega)
 by_cases ho7 : e.op = 7
 ·have hnf : nodeF g e = true ↔ (e.v = 0 ∧ e.sig = 0 ∧ e.hi = 0 ∧ e.lo = 0 ∧ e.n = 0) := by unfold nodeF; simp only [ho7]; simp; try grind
  rw [hx] at hnf
  cases x
  all_goals
   try simp only [Bool.false_eq_true, true_iff, false_iff] at hnf
   repeat' (first | simp (maxDischargeDepth := 9) -implicitDefEqProofs -dsimp only [go_sem, seval, ge_iff_le, *] | (with_reducible (first | apply Za | apply Ze | apply Zh | apply Zi) <;> intro hq))
   all_goals first | (exfalso; omega) | (exfalso; cases hnf; done) | skip
   all_goals
    refine fin_eq ?_
    (repeat' simp (maxDischargeDepth := 9) -implicitDefEqProofs -dsimp only [go_sem, seval, *])
   all_goals first | (rw [eq_comm, decide_eq_true_iff]; omega) | (rw [eq_comm, decide_eq_false_iff_not]; omega)
 by_cases ho8 : e.op = 8
 ·have hnf : nodeF g e = true ↔ (e.v = 0 ∧ e.sig = 0 ∧ e.hi = 0 ∧ e.lo = 0 ∧ 31 ≤ e.n ∧ e.n ≤ 33 ∧ 1 ≤ e.w ∧ e.w ≤ 64) := by unfold nodeF; simp only [ho8]; simp; try grind
  rw [hx] at hnf
  cases x
  all_goals
   try simp only [Bool.false_eq_true, true_iff, false_iff] at hnf
   repeat' (first | simp (maxDischargeDepth := 9) -implicitDefEqProofs -dsimp only [go_sem, seval, ge_iff_le, *] | (with_reducible (first | apply Za | apply Ze | apply Zh | apply Zi) <;> intro hq))
   all_goals first | (exfalso; omega) | (exfalso; cases hnf; done) | skip
   all_goals
    refine fin_eq ?_
    (repeat' simp (maxDischargeDepth := 9) -implicitDefEqProofs -dsimp only [go_sem, seval, *])
   all_goals first | (rw [eq_comm, decide_eq_true_iff]; omega) | (rw [eq_comm, decide_eq_false_iff_not]; omega)
 exfalso; omega
theorem nodeP_op {e : E} (h : nodeP e = true) : 1 ≤ e.op ∧ e.op ≤ 8 := by
 unfold nodeP at h
 repeat' split at h
 all_goals first | omega | (simp at h)
theorem rf_shapes_step (g : List Sg) (l : List E) (hl : l.length ≤ 1000000000000) (ih : ∀ x ∈ l, ∀ τ, ACalls Try.prog 41 [.slice (g.map encS) .no, encE x] τ (fun r σ' => r = .ret (.bool (shp g x)) ∧ σ' = τ)) (σ : Sig) :
  ACalls Try.prog 77 [.slice (g.map encS) .no, .slice (l.map encE) .no] σ (fun r σ' => r = .ret (.bool (l.all (shp g))) ∧ σ' = σ) := by
 refine calls_x mixed Try.func77 b77 n77 rfl q77 (by simp) ?_; unfold c77 r77
 repeat' simp (maxDischargeDepth := 9) -implicitDefEqProofs -dsimp only [go_sem, seval, *]
 refine loop_rule (fun i : Nat => [(5, some (.int .i64 i)), (1, some (.slice (l.map encE) .no)), (0, some (.slice (g.map encS) .no))]) (fun _ => σ) (fun i => i ≤ l.length ∧ ∀ j, (h : j < l.length) → j < i → shp g l[j] = true) (fun i => l.length - i) 0 ?_ ?_
 ·clear ih
  (repeat' simp (maxDischargeDepth := 9) -implicitDefEqProofs -dsimp only [go_sem, seval, *]) <;> (repeat' refine And.intro ?_ ?_) <;> (first | omega | skip)
 ·rintro i ⟨hi, hok⟩
  by_cases hlt : i < l.length
  ·have hc := fun τ => ih l[i] (List.getElem_mem hlt) τ
   obtain ⟨b, hb⟩ : ∃ b, shp g l[i] = b := ⟨_, rfl⟩
   rw [hb] at hc
   cases b with
   | false =>
    have hv : l.all (shp g) = false := by rw [List.all_eq_false]; exact ⟨_, List.getElem_mem hlt, by rw [hb]; simp⟩
    clear ih hok hb
    repeat' (first | simp (maxDischargeDepth := 9) -implicitDefEqProofs -dsimp only [go_sem, seval, *] | ((with_reducible refine Zu ?_ ?_); focus omega) | ((with_reducible apply ACalls.one1); (focus ((with_reducible refine hc _) <;> (first | (simp (maxDischargeDepth := 9) -implicitDefEqProofs -dsimp only [go_sem, seval, *]; done) | omega))); (focus (first | trivial | with_reducible exact rfl | (simp (maxDischargeDepth := 9) -implicitDefEqProofs -dsimp only [go_sem, seval]; done)))))
    refine fin_eq ?_
    (repeat' simp (maxDischargeDepth := 9) -implicitDefEqProofs -dsimp only [go_sem, seval, *])
   | true =>
    have hn : ∀ j, (h : j < l.length) → j < i + 1 → shp g l[j] = true := fun j h h1 => by
     rcases Nat.lt_or_ge j i with q | q
     ·exact hok j h q
     ·obtain rfl : j = i := by omega
      exact hb
    clear ih hok hb
    repeat' (first | simp (maxDischargeDepth := 9) -implicitDefEqProofs -dsimp only [go_sem, seval, *] | simp (disch := omega) only [wrap64] | ((with_reducible refine Zu ?_ ?_); focus omega) | ((with_reducible apply ACalls.one1); (focus ((with_reducible refine hc _) <;> (first | (simp (maxDischargeDepth := 9) -implicitDefEqProofs -dsimp only [go_sem, seval, *]; done) | omega))); (focus (first | trivial | with_reducible exact rfl | (simp (maxDischargeDepth := 9) -implicitDefEqProofs -dsimp only [go_sem, seval]; done)))))
    refine loop_next _ _ _ _ (i + 1) ?_; (repeat' simp (maxDischargeDepth := 9) -implicitDefEqProofs -dsimp only [go_sem, seval, *]) <;> (repeat' refine And.intro ?_ ?_) <;> (first | omega | skip)
  ·have hv : l.all (shp g) = true := by
    rw [List.all_eq_true]
    intro x hx
    obtain ⟨j, hj, rfl⟩ := List.getElem_of_mem hx
    exact hok j hj (by omega)
   clear ih hok
   repeat' simp (maxDischargeDepth := 9) -implicitDefEqProofs -dsimp only [go_sem, seval, *]
   refine fin_eq ?_
   (repeat' simp (maxDischargeDepth := 9) -implicitDefEqProofs -dsimp only [go_sem, seval, *])
theorem rf_Shape (g : List Sg) (hg : g.length ≤ 1000000000000) (e : E) : ∀ (σ : Sig), nodes e ≤ 16777216 → WfE e → ACalls Try.prog 41 [.slice (g.map encS) .no, encE e] σ (fun r σ' => r = .ret (.bool (shp g e)) ∧ σ' = σ) := by
 refine E.ind (P := fun e => ∀ (σ : Sig), nodes e ≤ 16777216 → WfE e → ACalls Try.prog 41 [.slice (g.map encS) .no, encE e] σ (fun r σ' => r = .ret (.bool (shp g e)) ∧ σ' = σ)) (fun e ih σ he hw => ?_) e
 have h1 := encEs_eq e
 have l1 := len_nodes e
 have w8 := ((WfE_iff e).1 hw).2
 have hs := shp_eq g e
 rw [node_split] at hs
 have c1 := fun τ => rf_parts e τ he
 have c2 := fun τ h => rf_fields g hg e τ hw h
 have c3 := fun τ => rf_shapes_step g e.l (by omega) (fun x hx τ => ih x hx τ (by have := part_nodes hx; omega) (w8 x hx)) τ
 have hop := nodeP_op (e := e)
 obtain ⟨a, ha⟩ : ∃ a, nodeP e = a := ⟨_, rfl⟩
 obtain ⟨b, hb⟩ : ∃ a, nodeF g e = a := ⟨_, rfl⟩
 rw [ha] at c1 hs hop
 rw [hb] at c2 hs
 clear ih w8 hw ha hb
 refine calls_x mixed Try.func41 b41 n41 rfl q41 (by simp) ?_; unfold c41 r41
 cases a with
 | false =>
  rw [Bool.false_and, Bool.false_and] at hs
  repeat' (first | simp (maxDischargeDepth := 9) -implicitDefEqProofs -dsimp only [go_sem, seval, *] | ((with_reducible apply ACalls.one1); (focus ((with_reducible refine ACalls.flA (c1 _) ?_) <;> (first | (simp (maxDischargeDepth := 9) -implicitDefEqProofs -dsimp only [go_sem, seval, *]; done) | omega))); (focus (first | trivial | with_reducible exact rfl | (simp (maxDischargeDepth := 9) -implicitDefEqProofs -dsimp only [go_sem, seval]; done)))))
  refine fin_eq ?_
  (repeat' simp (maxDischargeDepth := 9) -implicitDefEqProofs -dsimp only [go_sem, seval, *])
 | true =>
  have hop := hop rfl
  replace c2 := fun τ => c2 τ hop
  rw [Bool.true_and] at hs
  cases b
  ·rw [Bool.false_and] at hs
   repeat' (first | simp (maxDischargeDepth := 9) -implicitDefEqProofs -dsimp only [go_sem, seval, *] | ((with_reducible apply ACalls.one1); (focus ((first | with_reducible refine ACalls.flA (c1 _) ?_ | with_reducible refine ACalls.flA (c2 _) ?_) <;> (first | (simp (maxDischargeDepth := 9) -implicitDefEqProofs -dsimp only [go_sem, seval, *]; done) | omega))); (focus (first | trivial | with_reducible exact rfl | (simp (maxDischargeDepth := 9) -implicitDefEqProofs -dsimp only [go_sem, seval]; done)))))
   refine fin_eq ?_
   (repeat' simp (maxDischargeDepth := 9) -implicitDefEqProofs -dsimp only [go_sem, seval, *])
  ·rw [Bool.true_and] at hs
   repeat' (first | simp (maxDischargeDepth := 9) -implicitDefEqProofs -dsimp only [go_sem, seval, *] | ((with_reducible apply ACalls.one1); (focus ((first | with_reducible refine c3 _ | with_reducible refine ACalls.flA (c1 _) ?_ | with_reducible refine ACalls.flA (c2 _) ?_) <;> (first | (simp (maxDischargeDepth := 9) -implicitDefEqProofs -dsimp only [go_sem, seval, *]; done) | omega))); (focus (first | trivial | with_reducible exact rfl | (simp (maxDischargeDepth := 9) -implicitDefEqProofs -dsimp only [go_sem, seval]; done)))))
   refine fin_eq ?_
   (repeat' simp (maxDischargeDepth := 9) -implicitDefEqProofs -dsimp only [go_sem, seval, *])
theorem rf_shapes (g : List Sg) (hg : g.length ≤ 1000000000000) (l : List E) (hn : (l.map nodes).sum ≤ 16777216) (hw : ∀ x ∈ l, WfE x) (σ : Sig) :
  ACalls Try.prog 77 [.slice (g.map encS) .no, .slice (l.map encE) .no] σ (fun r σ' => r = .ret (.bool (l.all (shp g))) ∧ σ' = σ) :=
 rf_shapes_step g l (by have := len_sum nodes_pos l; omega) (fun x hx τ => rf_Shape g hg x τ (by have := mem_sum (f := nodes) hx; omega) (hw x hx)) σ
end Go.Proofs.Ytdiebjnjhgbklaa

namespace Fil.Sz
open Abs
theorem fst0_at {α : Type} {f : α → Int} : ∀ {l : List α} {i : Nat} (h : i < l.length), (∀ j, (hj : j < i) → f (l[j]'(by omega)) = 0) → f l[i] ≠ 0 → fst0 (l.map f) = f l[i]
 | [], _, h, _, _ => by simp at h
 | a :: l, 0, _, _, hn => by simp only [List.getElem_cons_zero] at hn ⊢; simp [fst0, hn]
 | a :: l, i + 1, h, hz, hn => by
  have h0 := hz 0 (by omega)
  simp only [List.getElem_cons_zero] at h0
  simp only [List.map_cons, fst0, h0, if_true, List.getElem_cons_succ]
  exact fst0_at (l := l) (i := i) (by simpa using h) (fun j hj => by have := hz (j + 1) (by omega); simpa using this) (by simpa using hn)
theorem fst0_none {α : Type} {f : α → Int} {l : List α} (h : ∀ j, (hj : j < l.length) → f l[j] = 0) : fst0 (l.map f) = 0 :=
 fst0_zero fun a ha => by
  obtain ⟨x, hx, rfl⟩ := List.mem_map.1 ha
  obtain ⟨j, hj, rfl⟩ := List.getElem_of_mem hx
  exact h j hj
def sumI {α : Type} (f : α → Int) (l : List α) (i : Nat) : Int := ((l.take i).map f).sum
theorem sumI_zero {α : Type} {f : α → Int} {l : List α} : sumI f l 0 = 0 := by simp [sumI]
theorem sumI_succ {α : Type} {f : α → Int} {l : List α} {i : Nat} (h : i < l.length) : sumI f l (i + 1) = sumI f l i + f l[i] := by
 unfold sumI
 rw [List.take_add_one, List.getElem?_eq_getElem h, List.map_append, List.sum_append, Option.toList_some, List.map_cons, List.map_nil, List.sum_cons, List.sum_nil, Int.add_zero]
theorem sumI_all {α : Type} {f : α → Int} {l : List α} : sumI f l l.length = (l.map f).sum := by simp [sumI]
theorem sumI_bounds {l : List E} {f : E → Int} (h0 : ∀ x ∈ l, 0 ≤ f x) (h : ∀ x ∈ l, f x ≤ 64 * nodes x) (i : Nat) : 0 ≤ sumI f l i ∧ sumI f l i ≤ 64 * ((l.map nodes).sum : Nat) := by
 unfold sumI
 refine ⟨sum_nonneg fun a ha => ?_, ?_⟩
 ·obtain ⟨x, hx, rfl⟩ := List.mem_map.1 ha
  exact h0 x (List.mem_of_mem_take hx)
 ·have h1 := sum_le (l := l.take i) (f := f) fun x hx => h x (List.mem_of_mem_take hx)
  have h2 : sumTo nodes l i ≤ (l.map nodes).sum := sumTo_le
  unfold sumTo at h2
  omega
theorem cat0_zero {l : List E} {f : E → Int} {x : E} (hx : x ∈ l) (h : f x = 0) : cat0 (l.map f) = 0 := by
 unfold cat0; rw [if_pos (List.mem_map.2 ⟨x, hx, h⟩)]
theorem cat0_sum {l : List E} {f : E → Int} (h : ∀ j, (hj : j < l.length) → ¬ f l[j] = 0) : cat0 (l.map f) = (l.map f).sum := by
 unfold cat0
 rw [if_neg]
 intro hm
 obtain ⟨x, hx, e⟩ := List.mem_map.1 hm
 obtain ⟨j, hj, rfl⟩ := List.getElem_of_mem hx
 exact h j hj e
theorem headD_get {α : Type} {f : α → Int} {l : List α} (h : 0 < l.length) : (l.map f).headD 0 = f l[0] := by
 cases l with
 | nil => simp at h
 | cons a l => rfl
theorem fst0_two {α : Type} {f : α → Int} {l : List α} (h : l.length = 2) : fst0 (l.map f) = if f l[0] = 0 then f l[1] else f l[0] := by
 obtain ⟨a, b, rfl⟩ := len2 h
 simp only [List.map_cons, List.map_nil, fst0, List.getElem_cons_zero, List.getElem_cons_succ]
 split
 ·split <;> simp_all
 ·rfl
end Fil.Sz

namespace Go.Proofs.Ytdiebjnjhgbklaa
open Abs Fil Fil.Sz
theorem sz_told (w o : Int) (σ : Sig) : ACalls Try.prog 73 [.int .i64 w, .int .i64 o] σ (fun r σ' => r = .ret (.int .i64 (told w o)) ∧ σ' = σ) := by
 refine calls_x mixed Try.func73 b73 n73 rfl q73 (by simp) ?_; unfold c73 r73
 repeat' (first | simp (maxDischargeDepth := 9) -implicitDefEqProofs -dsimp only [go_sem, seval, *] | (with_reducible (first | apply Zf) <;> intro hq))
 all_goals
  have hv : told w o = if w = 0 then o else w := rfl
  refine fin_eq ?_
  (repeat' simp (maxDischargeDepth := 9) -implicitDefEqProofs -dsimp only [go_sem, seval, if_true, if_false, *]) <;> (first | rfl | skip)
theorem sz_first_step (l : List E) (hl : l.length ≤ 1000000000000) (ih : ∀ x ∈ l, ∀ τ, ACalls Try.prog 72 [encE x] τ (fun r σ' => r = .ret (.int .i64 (own x)) ∧ σ' = τ)) (σ : Sig) :
  ACalls Try.prog 96 [.slice (l.map encE) .no] σ (fun r σ' => r = .ret (.int .i64 (fst0 (l.map own))) ∧ σ' = σ) := by
 refine calls_x mixed Try.func96 b96 n96 rfl q96 (by simp) ?_; unfold c96 r96
 repeat' simp (maxDischargeDepth := 9) -implicitDefEqProofs -dsimp only [go_sem, seval, *]
 refine loop_rule (fun i : Nat => [(8, some (.int .i64 i)), (7, some (.int .i64 l.length)), (6, some (.slice (l.map encE) .no))]) (fun _ => σ) (fun i => i ≤ l.length ∧ ∀ j, (h : j < l.length) → j < i → own l[j] = 0) (fun i => l.length - i) 0 ?_ ?_
 ·clear ih
  (repeat' simp (maxDischargeDepth := 9) -implicitDefEqProofs -dsimp only [go_sem, seval, *]) <;> (repeat' refine And.intro ?_ ?_) <;> (first | omega | skip)
 ·rintro i ⟨hi, hok⟩
  by_cases hlt : i < l.length
  ·have hc := fun τ => ih l[i] (List.getElem_mem hlt) τ
   obtain ⟨w, hw⟩ : ∃ w, own l[i] = w := ⟨_, rfl⟩
   rw [hw] at hc
   by_cases hz : w = 0
   ·have hn : ∀ j, (h : j < l.length) → j < i + 1 → own l[j] = 0 := fun j h h1 => by
     rcases Nat.lt_or_ge j i with q | q
     ·exact hok j h q
     ·obtain rfl : j = i := by omega
      rw [hw, hz]
    subst hz
    clear ih hok hw
    repeat' (first | simp (maxDischargeDepth := 9) -implicitDefEqProofs -dsimp only [go_sem, seval, *] | simp (disch := omega) only [wrap64] | ((with_reducible refine Zu ?_ ?_); focus omega) | ((with_reducible refine Zt (fun oF hoF hnF hnF' => ?_)); (try simp only [upd_none, ne_eq, not_and] at hoF)) | ((with_reducible apply ACalls.one1); (focus ((with_reducible refine hc _) <;> (first | (simp (maxDischargeDepth := 9) -implicitDefEqProofs -dsimp only [go_sem, seval, *]; done) | omega))); (focus (first | trivial | with_reducible exact rfl | (simp (maxDischargeDepth := 9) -implicitDefEqProofs -dsimp only [go_sem, seval]; done)))))
    refine loop_next _ _ _ _ (i + 1) ?_; (repeat' simp (maxDischargeDepth := 9) -implicitDefEqProofs -dsimp only [go_sem, seval, *]) <;> (repeat' refine And.intro ?_ ?_) <;> (first | omega | skip)
   ·have hv := fst0_at (f := own) hlt (fun j hj => hok j (by omega) hj) (by rw [hw]; exact hz)
    rw [hw] at hv
    have hb : (w != 0) = true := by simpa using hz
    clear ih hok hw
    repeat' (first | simp (maxDischargeDepth := 9) -implicitDefEqProofs -dsimp only [go_sem, seval, *] | ((with_reducible refine Zu ?_ ?_); focus omega) | ((with_reducible refine Zt (fun oF hoF hnF hnF' => ?_)); (try simp only [upd_none, ne_eq, not_and] at hoF)) | ((with_reducible apply ACalls.one1); (focus ((with_reducible refine hc _) <;> (first | (simp (maxDischargeDepth := 9) -implicitDefEqProofs -dsimp only [go_sem, seval, *]; done) | omega))); (focus (first | trivial | with_reducible exact rfl | (simp (maxDischargeDepth := 9) -implicitDefEqProofs -dsimp only [go_sem, seval]; done)))))
    refine fin_eq ?_
    (repeat' simp (maxDischargeDepth := 9) -implicitDefEqProofs -dsimp only [go_sem, seval, *])
  ·have hv := fst0_none (f := own) fun j hj => hok j hj (by omega)
   clear ih hok
   repeat' simp (maxDischargeDepth := 9) -implicitDefEqProofs -dsimp only [go_sem, seval, *]
   refine fin_eq ?_
   (repeat' simp (maxDischargeDepth := 9) -implicitDefEqProofs -dsimp only [go_sem, seval, *])
set_option maxRecDepth 20000 in
set_option maxHeartbeats 1000000 in
theorem sz_own (g : List Sg) (hg : SgOk g) (e : E) : ∀ (σ : Sig), shp g e = true → nodes e ≤ 16777216 → ACalls Try.prog 72 [encE e] σ (fun r σ' => r = .ret (.int .i64 (own e)) ∧ σ' = σ) := by
 refine E.ind (P := fun e => ∀ (σ : Sig), shp g e = true → nodes e ≤ 16777216 → ACalls Try.prog 72 [encE e] σ (fun r σ' => r = .ret (.int .i64 (own e)) ∧ σ' = σ)) (fun e ih σ hs he => ?_) e
 have h1 := encEs_eq e
 have l1 := len_nodes e
 have hE := fun (x : E) (hx : x ∈ e.l) τ => ih x hx τ (shp_part hs hx) (by have := part_nodes hx; omega)
 have hfst := fun τ => sz_first_step e.l (by omega) hE τ
 have hfst1 := fun τ => sz_first_step (e.l.drop 1) (by rw [List.length_drop]; omega) (fun x hx τ => hE x (List.mem_of_mem_drop hx) τ) τ
 clear ih
 have hnd := shp_nd hs
 cases hnd with
 | num ho => 
  have hv := own1 ho
  clear hE hfst hfst1
  refine calls_x mixed Try.func72 b72 n72 rfl q72 (by simp) ?_; unfold c72 r72
  repeat' simp (maxDischargeDepth := 9) -implicitDefEqProofs -dsimp only [go_sem, seval, *]
  refine fin_eq ?_
  (repeat' simp (maxDischargeDepth := 9) -implicitDefEqProofs -dsimp only [go_sem, seval, *])
 | ext ho =>
  have hv := own8 ho
  clear hE hfst hfst1
  refine calls_x mixed Try.func72 b72 n72 rfl q72 (by simp) ?_; unfold c72 r72
  repeat' simp (maxDischargeDepth := 9) -implicitDefEqProofs -dsimp only [go_sem, seval, *]
  refine fin_eq ?_
  (repeat' simp (maxDischargeDepth := 9) -implicitDefEqProofs -dsimp only [go_sem, seval, *])
 | sig ho h2 h3 h4 h5 =>
  have hv := own2 ho
  obtain ⟨p1, p2, p3⟩ := place_bits hg h5
  clear hE hfst hfst1
  refine calls_x mixed Try.func72 b72 n72 rfl q72 (by simp) ?_; unfold c72 r72
  repeat' (first | simp (maxDischargeDepth := 9) -implicitDefEqProofs -dsimp only [go_sem, seval, *] | simp (disch := omega) only [wrap64])
  refine fin_eq ?_
  (repeat' simp (maxDischargeDepth := 9) -implicitDefEqProofs -dsimp only [go_sem, seval, *])
 | idx ho =>
  have hv := own3 ho
  clear hE hfst hfst1
  refine calls_x mixed Try.func72 b72 n72 rfl q72 (by simp) ?_; unfold c72 r72
  repeat' simp (maxDischargeDepth := 9) -implicitDefEqProofs -dsimp only [go_sem, seval, *]
  refine fin_eq ?_
  (repeat' simp (maxDischargeDepth := 9) -implicitDefEqProofs -dsimp only [go_sem, seval, *])
 | un ho h2 h3 h4 h5 a h6 h7 h8 =>
  have hv := own4 ho
  have hle : 0 < e.l.length := by rw [h6]; simp
  have hle2 : (0 : Int) < e.l.length := by omega
  rw [headD_get hle] at hv
  have hc := fun τ => hE e.l[0] (List.getElem_mem hle) τ
  clear hE hfst hfst1 h6
  refine calls_x mixed Try.func72 b72 n72 rfl q72 (by simp) ?_; unfold c72 r72
  repeat' (first | simp (maxDischargeDepth := 9) -implicitDefEqProofs -dsimp only [go_sem, seval, *] | (with_reducible (first | apply Zc) <;> intro hq) | ((with_reducible refine Zu ?_ ?_); focus omega) | ((with_reducible apply ACalls.one1); (focus ((with_reducible refine hc _) <;> (first | (simp (maxDischargeDepth := 9) -implicitDefEqProofs -dsimp only [go_sem, seval, *]; done) | omega))); (focus (first | trivial | with_reducible exact rfl | (simp (maxDischargeDepth := 9) -implicitDefEqProofs -dsimp only [go_sem, seval]; done)))))
  all_goals
   refine fin_eq ?_
   (repeat' simp (maxDischargeDepth := 9) -implicitDefEqProofs -dsimp only [go_sem, seval, if_true, if_false, *])
 | bin ho h2 h3 h4 h5 a b h6 h7 h8 =>
  have hv := own5 ho
  have hle : 0 < e.l.length := by rw [h6]; simp
  have hle2 : (0 : Int) < e.l.length := by omega
  rw [headD_get hle] at hv
  have hc := fun τ => hE e.l[0] (List.getElem_mem hle) τ
  clear hE hfst1 h6
  refine calls_x mixed Try.func72 b72 n72 rfl q72 (by simp) ?_; unfold c72 r72
  repeat' (first | simp (maxDischargeDepth := 9) -implicitDefEqProofs -dsimp only [go_sem, seval, *] | (with_reducible (first | apply Zc) <;> intro hq) | ((with_reducible refine Zu ?_ ?_); focus omega) | ((with_reducible apply ACalls.one1); (focus ((first | with_reducible refine hc _ | with_reducible refine hfst _) <;> (first | (simp (maxDischargeDepth := 9) -implicitDefEqProofs -dsimp only [go_sem, seval, *]; done) | omega))); (focus (first | trivial | with_reducible exact rfl | (simp (maxDischargeDepth := 9) -implicitDefEqProofs -dsimp only [go_sem, seval]; done)))))
  all_goals
   refine fin_eq ?_
   (repeat' simp (maxDischargeDepth := 9) -implicitDefEqProofs -dsimp only [go_sem, seval, if_true, if_false, *])
 | cond ho h2 h3 h4 h5 h7 a b c h6 =>
  have hv := own6 ho
  rw [← List.map_drop] at hv
  have hle : e.l.length = 3 := by rw [h6]; rfl
  have hdm : List.drop 1 (List.take 3 (e.l.map encE)) = (e.l.drop 1).map encE := by rw [h6]; rfl
  clear hE hfst h6
  refine calls_x mixed Try.func72 b72 n72 rfl q72 (by simp) ?_; unfold c72 r72
  repeat' (first | simp (maxDischargeDepth := 9) -implicitDefEqProofs -dsimp only [go_sem, seval, *] | ((with_reducible apply ACalls.one1); (focus ((with_reducible refine hfst1 _) <;> (first | (simp (maxDischargeDepth := 9) -implicitDefEqProofs -dsimp only [go_sem, seval, *]; done) | omega))); (focus (first | trivial | with_reducible exact rfl | (simp (maxDischargeDepth := 9) -implicitDefEqProofs -dsimp only [go_sem, seval]; done)))))
  refine fin_eq ?_
  (repeat' simp (maxDischargeDepth := 9) -implicitDefEqProofs -dsimp only [go_sem, seval, *])
 | cat ho h2 h3 h4 h5 h7 h6 =>
  have hv := own7 ho
  have hon := fun (x : E) (hx : x ∈ e.l) => own_nonneg hg x (shp_part hs hx)
  have hol := fun (x : E) (hx : x ∈ e.l) => own_le hg x (shp_part hs hx)
  have hsb := sumI_bounds hon hol
  have hns := nodes_eq e
  have hz := fun (x : E) (hx : x ∈ e.l) (h : own x = 0) => cat0_zero (f := own) hx h
  clear hfst hfst1 hon hol
  refine calls_x mixed Try.func72 b72 n72 rfl q72 (by simp) ?_; unfold c72 r72
  repeat' simp (maxDischargeDepth := 9) -implicitDefEqProofs -dsimp only [go_sem, seval, *]
  refine loop_rule (fun i : Nat => [(27, some (.int .i64 i)), (26, some (.int .i64 e.l.length)), (25, some (.slice (e.l.map encE) .no)), (3, some (.int .i64 (sumI own e.l i)))]) (fun _ => σ) (fun i => i ≤ e.l.length ∧ ∀ j, (h : j < e.l.length) → j < i → ¬ own e.l[j] = 0) (fun i => e.l.length - i) 0 ?_ ?_
  ·clear hE hsb hz
   have e0 := sumI_zero (f := own) (l := e.l)
   (repeat' simp (maxDischargeDepth := 9) -implicitDefEqProofs -dsimp only [go_sem, seval, *]) <;> (repeat' refine And.intro ?_ ?_) <;> (first | omega | skip)
  ·rintro i ⟨hi, hok⟩
   obtain ⟨s1, s2⟩ := hsb i
   by_cases hlt : i < e.l.length
   ·have hc := fun τ => hE e.l[i] (List.getElem_mem hlt) τ
    have hss := sumI_succ (f := own) hlt
    obtain ⟨t1, t2⟩ := hsb (i + 1)
    by_cases hw : own e.l[i] = 0
    ·rw [hz _ (List.getElem_mem hlt) hw] at hv
     rw [hw] at hc
     clear hE hok hsb hz hw hss
     repeat' (first | simp (maxDischargeDepth := 9) -implicitDefEqProofs -dsimp only [go_sem, seval, *] | ((with_reducible refine Zu ?_ ?_); focus omega) | ((with_reducible refine Zt (fun oF hoF hnF hnF' => ?_)); (try simp only [upd_none, ne_eq, not_and] at hoF)) | ((with_reducible apply ACalls.one1); (focus ((with_reducible refine hc _) <;> (first | (simp (maxDischargeDepth := 9) -implicitDefEqProofs -dsimp only [go_sem, seval, *]; done) | omega))); (focus (first | trivial | with_reducible exact rfl | (simp (maxDischargeDepth := 9) -implicitDefEqProofs -dsimp only [go_sem, seval]; done)))))
     refine fin_eq ?_
     (repeat' simp (maxDischargeDepth := 9) -implicitDefEqProofs -dsimp only [go_sem, seval, *])
    ·have hn : ∀ j, (h : j < e.l.length) → j < i + 1 → ¬ own e.l[j] = 0 := fun j h h1 => by
      rcases Nat.lt_or_ge j i with q | q
      ·exact hok j h q
      ·obtain rfl : j = i := by omega
       exact hw
     have hwb : (own e.l[i] == 0) = false := by simpa using hw
     clear hE hok hsb hz
     repeat' (first | simp (maxDischargeDepth := 9) -implicitDefEqProofs -dsimp only [go_sem, seval, *] | simp (disch := omega) only [wrap64] | ((with_reducible refine Zu ?_ ?_); focus omega) | ((with_reducible refine Zt (fun oF hoF hnF hnF' => ?_)); (try simp only [upd_none, ne_eq, not_and] at hoF)) | ((with_reducible apply ACalls.one1); (focus ((with_reducible refine hc _) <;> (first | (simp (maxDischargeDepth := 9) -implicitDefEqProofs -dsimp only [go_sem, seval, *]; done) | omega))); (focus (first | trivial | with_reducible exact rfl | (simp (maxDischargeDepth := 9) -implicitDefEqProofs -dsimp only [go_sem, seval]; done)))))
     refine loop_next _ _ _ _ (i + 1) ?_; (repeat' simp (maxDischargeDepth := 9) -implicitDefEqProofs -dsimp only [go_sem, seval, *]) <;> (repeat' refine And.intro ?_ ?_) <;> (first | omega | skip)
   ·have ei : i = e.l.length := by omega
    subst ei
    rw [cat0_sum fun j hj => hok j hj hj] at hv
    rw [sumI_all]
    clear hE hok hsb hz
    repeat' simp (maxDischargeDepth := 9) -implicitDefEqProofs -dsimp only [go_sem, seval, *]
    refine fin_eq ?_
    (repeat' simp (maxDischargeDepth := 9) -implicitDefEqProofs -dsimp only [go_sem, seval, *])
theorem sz_first (g : List Sg) (hg : SgOk g) (l : List E) (hs : ∀ x ∈ l, shp g x = true) (hn : (l.map nodes).sum ≤ 16777216) (σ : Sig) :
  ACalls Try.prog 96 [.slice (l.map encE) .no] σ (fun r σ' => r = .ret (.int .i64 (fst0 (l.map own))) ∧ σ' = σ) :=
 sz_first_step l (by have := len_sum nodes_pos l; omega) (fun x hx τ => sz_own g hg x τ (hs x hx) (by have := mem_sum (f := nodes) hx; omega)) σ
def eitherM (a b : E) : Int := if own a = 0 then own b else own a
theorem rf_either_step (a b : E) (σ : Sig) (ha : ∀ τ, ACalls Try.prog 78 [encE a] τ (fun r σ' => r = .ret (.int .i64 (own a)) ∧ σ' = τ)) (hb : ∀ τ, ACalls Try.prog 78 [encE b] τ (fun r σ' => r = .ret (.int .i64 (own b)) ∧ σ' = τ)) :
  ACalls Try.prog 99 [encE a, encE b] σ (fun r σ' => r = .ret (.int .i64 (eitherM a b)) ∧ σ' = σ) := by
 have hv : eitherM a b = if own a = 0 then own b else own a := rfl
 refine calls_x mixed Try.func99 b99 n99 rfl q99 (by simp) ?_; unfold c99 r99
 repeat' (first | simp (maxDischargeDepth := 9) -implicitDefEqProofs -dsimp only [go_sem, seval, *] | (with_reducible (first | apply Zf) <;> intro hq) | ((with_reducible apply ACalls.one1); (focus ((first | with_reducible refine ha _ | with_reducible refine hb _) <;> (first | (simp (maxDischargeDepth := 9) -implicitDefEqProofs -dsimp only [go_sem, seval, *]; done) | omega))); (focus (first | trivial | with_reducible exact rfl | (simp (maxDischargeDepth := 9) -implicitDefEqProofs -dsimp only [go_sem, seval]; done)))))
 all_goals
  refine fin_eq ?_
  (repeat' simp (maxDischargeDepth := 9) -implicitDefEqProofs -dsimp only [go_sem, seval, if_true, if_false, *])
theorem either_fst {l : List E} (h : l.length = 2) : fst0 (l.map own) = eitherM l[0] l[1] := fst0_two h
set_option maxRecDepth 20000 in
set_option maxHeartbeats 1000000 in
theorem rf_own (g : List Sg) (hg : SgOk g) (e : E) : ∀ (σ : Sig), shp g e = true → nodes e ≤ 16777216 → ACalls Try.prog 78 [encE e] σ (fun r σ' => r = .ret (.int .i64 (own e)) ∧ σ' = σ) := by
 refine E.ind (P := fun e => ∀ (σ : Sig), shp g e = true → nodes e ≤ 16777216 → ACalls Try.prog 78 [encE e] σ (fun r σ' => r = .ret (.int .i64 (own e)) ∧ σ' = σ)) (fun e ih σ hs he => ?_) e
 have h1 := encEs_eq e
 have l1 := len_nodes e
 have hE := fun (x : E) (hx : x ∈ e.l) τ => ih x hx τ (shp_part hs hx) (by have := part_nodes hx; omega)
 clear ih
 have hnd := shp_nd hs
 cases hnd with
 | num ho => 
  have hv := own1 ho
  clear hE
  refine calls_x mixed Try.func78 b78 n78 rfl q78 (by simp) ?_; unfold c78 r78
  repeat' simp (maxDischargeDepth := 9) -implicitDefEqProofs -dsimp only [go_sem, seval, *]
  refine fin_eq ?_
  (repeat' simp (maxDischargeDepth := 9) -implicitDefEqProofs -dsimp only [go_sem, seval, *])
 | ext ho =>
  have hv := own8 ho
  clear hE
  refine calls_x mixed Try.func78 b78 n78 rfl q78 (by simp) ?_; unfold c78 r78
  repeat' simp (maxDischargeDepth := 9) -implicitDefEqProofs -dsimp only [go_sem, seval, *]
  refine fin_eq ?_
  (repeat' simp (maxDischargeDepth := 9) -implicitDefEqProofs -dsimp only [go_sem, seval, *])
 | sig ho h2 h3 h4 h5 =>
  have hv := own2 ho
  obtain ⟨p1, p2, p3⟩ := place_bits hg h5
  clear hE
  refine calls_x mixed Try.func78 b78 n78 rfl q78 (by simp) ?_; unfold c78 r78
  repeat' (first | simp (maxDischargeDepth := 9) -implicitDefEqProofs -dsimp only [go_sem, seval, *] | simp (disch := omega) only [wrap64])
  refine fin_eq ?_
  (repeat' simp (maxDischargeDepth := 9) -implicitDefEqProofs -dsimp only [go_sem, seval, *])
 | idx ho =>
  have hv := own3 ho
  clear hE
  refine calls_x mixed Try.func78 b78 n78 rfl q78 (by simp) ?_; unfold c78 r78
  repeat' simp (maxDischargeDepth := 9) -implicitDefEqProofs -dsimp only [go_sem, seval, *]
  refine fin_eq ?_
  (repeat' simp (maxDischargeDepth := 9) -implicitDefEqProofs -dsimp only [go_sem, seval, *])
 | un ho h2 h3 h4 h5 a h6 h7 h8 =>
  have hv := own4 ho
  have hle : 0 < e.l.length := by rw [h6]; simp
  have hle2 : (0 : Int) < e.l.length := by omega
  rw [headD_get hle] at hv
  have hc := fun τ => hE e.l[0] (List.getElem_mem hle) τ
  clear hE h6
  refine calls_x mixed Try.func78 b78 n78 rfl q78 (by simp) ?_; unfold c78 r78
  repeat' (first | simp (maxDischargeDepth := 9) -implicitDefEqProofs -dsimp only [go_sem, seval, *] | (with_reducible (first | apply Zc) <;> intro hq) | ((with_reducible refine Zu ?_ ?_); focus omega) | ((with_reducible apply ACalls.one1); (focus ((with_reducible refine hc _) <;> (first | (simp (maxDischargeDepth := 9) -implicitDefEqProofs -dsimp only [go_sem, seval, *]; done) | omega))); (focus (first | trivial | with_reducible exact rfl | (simp (maxDischargeDepth := 9) -implicitDefEqProofs -dsimp only [go_sem, seval]; done)))))
  all_goals
   refine fin_eq ?_
   (repeat' simp (maxDischargeDepth := 9) -implicitDefEqProofs -dsimp only [go_sem, seval, if_true, if_false, *])
 | bin ho h2 h3 h4 h5 a b h6 h7 h8 =>
  have hv := own5 ho
  have hle : e.l.length = 2 := by rw [h6]; rfl
  have hle1 : 0 < e.l.length := by omega
  have hle2 : 1 < e.l.length := by omega
  have hle3 : (0 : Int) < e.l.length := by omega
  have hle4 : (1 : Int) < e.l.length := by omega
  rw [headD_get hle1, either_fst hle] at hv
  have hc := fun τ => hE e.l[0] (List.getElem_mem hle1) τ
  have hei := fun τ => rf_either_step e.l[0] e.l[1] τ (hE _ (List.getElem_mem hle1)) (hE _ (List.getElem_mem hle2))
  clear hE h6
  refine calls_x mixed Try.func78 b78 n78 rfl q78 (by simp) ?_; unfold c78 r78
  repeat' (first | simp (maxDischargeDepth := 9) -implicitDefEqProofs -dsimp only [go_sem, seval, ge_iff_le, *] | (with_reducible (first | apply Zc) <;> intro hq) | ((with_reducible refine Zu ?_ ?_); focus omega) | ((with_reducible apply ACalls.one1); (focus ((with_reducible refine hc _) <;> (first | (simp (maxDischargeDepth := 9) -implicitDefEqProofs -dsimp only [go_sem, seval, *]; done) | omega))); (focus (first | trivial | with_reducible exact rfl | (simp (maxDischargeDepth := 9) -implicitDefEqProofs -dsimp only [go_sem, seval]; done)))) | ((with_reducible apply id_one0); (focus (intro tS hS; ((with_reducible refine hei _) <;> (first | (simp (maxDischargeDepth := 9) -implicitDefEqProofs -dsimp only [go_sem, seval, *]; done) | omega | ((with_reducible refine Sub.get hS ?_); simp (maxDischargeDepth := 9) -implicitDefEqProofs -dsimp only [go_sem, seval, *]; done))))); (focus (first | trivial | (simp (maxDischargeDepth := 9) -implicitDefEqProofs -dsimp only [go_sem, seval, *]; done)))))
  all_goals first | (exfalso; omega) | skip
  all_goals
   have q1 : ∀ p : Prop, [Decidable p] → True := fun _ => trivial
   refine fin_eq ?_
   (repeat' simp (maxDischargeDepth := 9) -implicitDefEqProofs -dsimp only [go_sem, seval, if_true, if_false, *]) <;> (first | omega | skip)
  all_goals
   first | (rw [if_neg (by omega), if_neg (by omega)]) | (rw [if_neg (by omega), if_pos (by omega)]) | (rw [if_pos (by omega)])
 | cond ho h2 h3 h4 h5 h7 a b c h6 =>
  have hv := own6 ho
  have hle : e.l.length = 3 := by rw [h6]; rfl
  have hle1 : 1 < e.l.length := by omega
  have hle2 : 2 < e.l.length := by omega
  have hle3 : (1 : Int) < e.l.length := by omega
  have hle4 : (2 : Int) < e.l.length := by omega
  have hei := fun τ => rf_either_step e.l[1] e.l[2] τ (hE _ (List.getElem_mem hle1)) (hE _ (List.getElem_mem hle2))
  have hvv : own e = eitherM e.l[1] e.l[2] := by
   rw [hv]
   simp only [h6, List.map_cons, List.map_nil, List.drop_succ_cons, List.drop_zero, fst0, eitherM, List.getElem_cons_succ, List.getElem_cons_zero]
   split
   ·split <;> simp_all
   ·rfl
  clear hE h6 hv
  refine calls_x mixed Try.func78 b78 n78 rfl q78 (by simp) ?_; unfold c78 r78
  repeat' (first | simp (maxDischargeDepth := 9) -implicitDefEqProofs -dsimp only [go_sem, seval, *] | ((with_reducible refine Zu ?_ ?_); focus omega) | ((with_reducible apply id_one0); (focus (intro tS hS; ((with_reducible refine hei _) <;> (first | (simp (maxDischargeDepth := 9) -implicitDefEqProofs -dsimp only [go_sem, seval, *]; done) | omega | ((with_reducible refine Sub.get hS ?_); simp (maxDischargeDepth := 9) -implicitDefEqProofs -dsimp only [go_sem, seval, *]; done))))); (focus (first | trivial | (simp (maxDischargeDepth := 9) -implicitDefEqProofs -dsimp only [go_sem, seval, *]; done)))))
  refine fin_eq ?_
  (repeat' simp (maxDischargeDepth := 9) -implicitDefEqProofs -dsimp only [go_sem, seval, *])
 | cat ho h2 h3 h4 h5 h7 h6 =>
  have hv := own7 ho
  have hon := fun (x : E) (hx : x ∈ e.l) => own_nonneg hg x (shp_part hs hx)
  have hol := fun (x : E) (hx : x ∈ e.l) => own_le hg x (shp_part hs hx)
  have hsb := sumI_bounds hon hol
  have hns := nodes_eq e
  have hz := fun (x : E) (hx : x ∈ e.l) (h : own x = 0) => cat0_zero (f := own) hx h
  clear hon hol
  refine calls_x mixed Try.func78 b78 n78 rfl q78 (by simp) ?_; unfold c78 r78
  repeat' simp (maxDischargeDepth := 9) -implicitDefEqProofs -dsimp only [go_sem, seval, *]
  refine loop_rule (fun i : Nat => [(4, some (.int .i64 i)), (1, some (.cptr (eL e))), (3, some (.int .i64 (sumI own e.l i)))]) (fun _ => σ) (fun i => i ≤ e.l.length ∧ ∀ j, (h : j < e.l.length) → j < i → ¬ own e.l[j] = 0) (fun i => e.l.length - i) 0 ?_ ?_
  ·clear hE hsb hz
   have e0 := sumI_zero (f := own) (l := e.l)
   (repeat' simp (maxDischargeDepth := 9) -implicitDefEqProofs -dsimp only [go_sem, seval, *]) <;> (repeat' refine And.intro ?_ ?_) <;> (first | omega | skip)
  ·rintro i ⟨hi, hok⟩
   obtain ⟨s1, s2⟩ := hsb i
   by_cases hlt : i < e.l.length
   ·have hc := fun τ => hE e.l[i] (List.getElem_mem hlt) τ
    have hss := sumI_succ (f := own) hlt
    obtain ⟨t1, t2⟩ := hsb (i + 1)
    by_cases hw : own e.l[i] = 0
    ·rw [hz _ (List.getElem_mem hlt) hw] at hv
     rw [hw] at hc
     clear hE hok hsb hz hw hss
     repeat' (first | simp (maxDischargeDepth := 9) -implicitDefEqProofs -dsimp only [go_sem, seval, *] | ((with_reducible refine Zu ?_ ?_); focus omega) | ((with_reducible apply ACalls.one1); (focus ((with_reducible refine hc _) <;> (first | (simp (maxDischargeDepth := 9) -implicitDefEqProofs -dsimp only [go_sem, seval, *]; done) | omega))); (focus (first | trivial | with_reducible exact rfl | (simp (maxDischargeDepth := 9) -implicitDefEqProofs -dsimp only [go_sem, seval]; done)))))
     refine fin_eq ?_
     (repeat' simp (maxDischargeDepth := 9) -implicitDefEqProofs -dsimp only [go_sem, seval, *])
    ·have hn : ∀ j, (h : j < e.l.length) → j < i + 1 → ¬ own e.l[j] = 0 := fun j h h1 => by
      rcases Nat.lt_or_ge j i with q | q
      ·exact hok j h q
      ·obtain rfl : j = i := by omega
       exact hw
     have hwb : (own e.l[i] == 0) = false := by simpa using hw
     clear hE hok hsb hz
     repeat' (first | simp (maxDischargeDepth := 9) -implicitDefEqProofs -dsimp only [go_sem, seval, *] | simp (disch := omega) only [wrap64] | ((with_reducible refine Zu ?_ ?_); focus omega) | ((with_reducible apply ACalls.one1); (focus ((with_reducible refine hc _) <;> (first | (simp (maxDischargeDepth := 9) -implicitDefEqProofs -dsimp only [go_sem, seval, *]; done) | omega))); (focus (first | trivial | with_reducible exact rfl | (simp (maxDischargeDepth := 9) -implicitDefEqProofs -dsimp only [go_sem, seval]; done)))))
     refine loop_next _ _ _ _ (i + 1) ?_; (repeat' simp (maxDischargeDepth := 9) -implicitDefEqProofs -dsimp only [go_sem, seval, *]) <;> (repeat' refine And.intro ?_ ?_) <;> (first | omega | skip)
   ·have ei : i = e.l.length := by omega
    subst ei
    rw [cat0_sum fun j hj => hok j hj hj] at hv
    rw [sumI_all]
    clear hE hok hsb hz
    repeat' simp (maxDischargeDepth := 9) -implicitDefEqProofs -dsimp only [go_sem, seval, *]
    refine fin_eq ?_
    (repeat' simp (maxDischargeDepth := 9) -implicitDefEqProofs -dsimp only [go_sem, seval, *])
theorem rf_either (g : List Sg) (hg : SgOk g) (a b : E) (ha : shp g a = true) (hb : shp g b = true) (na : nodes a ≤ 16777216) (nb : nodes b ≤ 16777216) (σ : Sig) :
  ACalls Try.prog 99 [encE a, encE b] σ (fun r σ' => r = .ret (.int .i64 (eitherM a b)) ∧ σ' = σ) :=
 rf_either_step a b σ (fun τ => rf_own g hg a τ ha na) (fun τ => rf_own g hg b τ hb nb)
end Go.Proofs.Ytdiebjnjhgbklaa

namespace Abs
open Go
def frzB (o n : Nat) (l : List AV) (a b : AV) : Prop := b = .vec o n ∧ (a = .slice l (.own o) ∨ a = .slice l .no)
theorem frzB_plain (o n : Nat) (l : List AV) : PlainB (frzB o n l) := fun a b ⟨h1, h2⟩ => by
 subst h1
 rcases h2 with rfl | rfl <;> exact ⟨rfl, rfl⟩
theorem view_frz {σ : Sig} {o sz n : Nat} {cs l : List AV} (h : σ o = some (.vec sz n cs)) (hf : flat l = cs) (hl : l.length = n) (hall : ∀ x ∈ l, (cellsA x).length = sz) :
  View (Lift (frzB o n l)) (upd σ o (.grow sz n)) σ := fun S K w hS hs => by
 obtain ⟨e0, h1, h2⟩ := hs.live o _ h
 cases e0 <;> simp only [ObjSat] at h2
 rename_i b cap sz' n'
 obtain ⟨rfl, rfl, h3⟩ := h2
 obtain ⟨K', k1, k2, k3⟩ := hs.freeze h h1 hf hl hall S
 refine ⟨K', k1, k3, fun a0 a v hab hr => ?_⟩
 refine Rel.lift (frzB_plain o _ l) k1.le (fun x y v ⟨e1, e2⟩ hr => ?_) hab hr
 subst e1
 obtain ⟨b', cap', rfl, hown, _⟩ := vec_at hs h hr
 rw [h1] at hown
 simp only [Option.some.injEq, Own.vec.injEq] at hown
 obtain ⟨rfl, rfl, _, _⟩ := hown
 rcases e2 with rfl | rfl
 ·exact k2
 ·exact Rel.lift (nilB_plain (fun _ => none)) (Gh.le.refl K') (fun a b v ⟨o, sz, _, _, h3⟩ hr => by simp at h3) (.slice l l .no (.own o) (.inl rfl) rfl fun i _ _ => .refl _) k2
theorem flat_map_len {α : Type} (e : α → AV) (sz : Nat) (he : ∀ x, (cellsA (e x)).length = sz) : ∀ l : List α, (flat (l.map e)).length = l.length * sz
 | [] => by simp [flat]
 | x :: l => by
  have := flat_map_len e sz he l
  simp only [List.map_cons, flat_cons, List.length_append, he, this, List.length_cons]
  rw [Nat.succ_mul]; omega
theorem fin_frz {R : ARes → Sig → Prop} {v v0 v1 : AV} {σ τ : Sig} (o : Nat) {sz n : Nat} {cs l : List AV} (h : σ o = some (.vec sz n cs)) (hf : flat l = cs) (hl : l.length = n) (hall : ∀ x ∈ l, (cellsA x).length = sz)
  (hv : Lift (frzB o n l) v1 v) (hv0 : FL (upd σ o (.grow sz n)) v0 v1) (hs : SubX [] τ (upd σ o (.grow sz n))) (hR : R (.ret v0) τ) : fin R v σ :=
 ⟨v0, τ, Vr.comp (vr_of hv0 hs) ⟨_, view_frz h hf hl hall, hv⟩, hR⟩
structure Fr4 (σ : Sig) (a b c d : Nat) : Prop where
 ha : σ a = none
 hb : σ b = none
 hc : σ c = none
 hd : σ d = none
 ab : ¬ a = b
 ba : ¬ b = a
 ac : ¬ a = c
 ca : ¬ c = a
 ad : ¬ a = d
 da : ¬ d = a
 bc : ¬ b = c
 cb : ¬ c = b
 bd : ¬ b = d
 db : ¬ d = b
 cd : ¬ c = d
 dc : ¬ d = c
theorem Fr4.old {σ : Sig} {a b c d : Nat} (h : Fr4 σ a b c d) : ∀ o, ¬ σ o = none → ¬ o = a ∧ ¬ a = o ∧ ¬ o = b ∧ ¬ b = o ∧ ¬ o = c ∧ ¬ c = o ∧ ¬ o = d ∧ ¬ d = o := fun o ho =>
 ⟨fun e => ho (e ▸ h.ha), fun e => ho (e ▸ h.ha), fun e => ho (e ▸ h.hb), fun e => ho (e ▸ h.hb), fun e => ho (e ▸ h.hc), fun e => ho (e ▸ h.hc), fun e => ho (e ▸ h.hd), fun e => ho (e ▸ h.hd)⟩
end Abs

namespace Fil.Sz
open Abs
theorem runL_ok : ∀ (es : List E) (ws : List Int), es.length = ws.length → (runL (es.map size) ws).2 = 0 →
  ∃ h : (runL (es.map size) ws).1.length = es.length, ∀ i, (h1 : i < es.length) → (h2 : i < ws.length) → size es[i] ws[i] = ((runL (es.map size) ws).1[i]'(by omega), 0)
 | [], [], _, _ => ⟨rfl, fun i h => by simp at h⟩
 | a :: es, w :: ws, hl, h => by
  simp only [List.map_cons, runL] at h ⊢
  by_cases h1 : (size a w).2 ≠ 0
  ·rw [if_pos h1] at h; exact (h1 h).elim
  ·rw [if_neg h1] at h
   by_cases h2 : (runL (es.map size) ws).2 ≠ 0
   ·rw [if_pos h2] at h; exact (h2 h).elim
   ·obtain ⟨k1, k2⟩ := runL_ok es ws (by simpa using hl) (by simpa using h2)
    simp only [h1, h2, if_false]
    refine ⟨by simp [k1], fun i q1 q2 => ?_⟩
    match i, q1, q2 with
    | 0, _, _ => 
     have : (size a w).2 = 0 := by simpa using h1
     simp only [List.getElem_cons_zero]
     rw [← this]
    | i + 1, q1, q2 => simpa using k2 i (by simpa using q1) (by simpa using q2)
theorem runL_of : ∀ (es : List E) (ws : List Int) (xs : List E), es.length = ws.length → xs.length = es.length →
  (∀ i, (h1 : i < es.length) → (h2 : i < ws.length) → (h3 : i < xs.length) → size es[i] ws[i] = (xs[i], 0)) → runL (es.map size) ws = (xs, 0)
 | [], [], [], _, _, _ => rfl
 | a :: es, w :: ws, x :: xs, hl, hx, h => by
  have h0 := h 0 (by simp) (by simp) (by simp)
  simp only [List.getElem_cons_zero] at h0
  have ih := runL_of es ws xs (by simpa using hl) (by simpa using hx) fun i h1 h2 h3 => by
   have := h (i + 1) (by simpa using h1) (by simpa using h2) (by simpa using h3)
   simpa using this
  simp only [List.map_cons, runL, h0, ih]
  simp
theorem wide_pos {e : E} {w : Int} (ho : 0 ≤ own e) (hw : -1 ≤ w) : 1 ≤ wide e w := by
 unfold wide told
 by_cases h1 : w = -1
 ·simp [h1]
 ·by_cases h2 : w = 0
  ·subst h2; simp; split <;> omega
  ·simp [h1, h2]; omega
theorem wide_bit (e : E) : wide e (-1) = 1 := by simp [wide, told]
theorem wide_of {e : E} {w : Int} (h1 : w ≠ 0) (h2 : w ≠ -1) : wide e w = w := by simp [wide, told, h1, h2]
theorem wide_zero (e : E) : wide e 0 = told (own e) 32 := by simp [wide, told]
theorem wants6 {e : E} {w : Int} (h : e.op = 6) : wants e w = some [-1, w, w] := by simp [wants, h]
theorem wants7 {e : E} {w : Int} (h : e.op = 7) : wants e w = if own e = 0 ∨ own e ≠ w ∨ 64 < own e then none else some (List.replicate e.l.length 0) := by simp [wants, h]
theorem wants0 {e : E} {w : Int} (h : e.op = 1 ∨ e.op = 2 ∨ e.op = 3 ∨ e.op = 8) : wants e w = if own e ≠ w then none else some (List.replicate e.l.length 0) := by
 have h1 : ¬ e.op = 6 := by omega
 have h2 : ¬ e.op = 7 := by omega
 have h3 : ¬ (e.op = 4 ∨ e.op = 5) := by omega
 simp [wants, h1, h2, h3]
theorem wants4 {e : E} {w : Int} (h : e.op = 4 ∨ e.op = 5) : wants e w =
  if e.n = 6 ∨ e.n = 25 ∨ e.n = 26 then if w ≠ 1 then none else some (List.replicate e.l.length (-1))
  else if e.n = 3 ∨ e.n = 4 ∨ e.n = 5 then if w ≠ 1 then none else some (List.replicate e.l.length 0)
  else if 19 ≤ e.n ∧ e.n ≤ 24 then if w ≠ 1 then none else some (List.replicate e.l.length (told (fst0 (e.l.map own)) 32))
  else if e.n = 17 ∨ e.n = 18 then some [w, 0]
  else some (List.replicate e.l.length w) := by
 have h1 : ¬ e.op = 6 := by omega
 have h2 : ¬ e.op = 7 := by omega
 simp [wants, h1, h2, h]
inductive Wt (e : E) (w : Int) : List Int → Prop
 | leaf (ho : e.op = 1 ∨ e.op = 2 ∨ e.op = 3 ∨ e.op = 8) (h : own e = w) : Wt e w (List.replicate e.l.length 0)
 | cat (ho : e.op = 7) (h1 : own e ≠ 0) (h2 : own e = w) (h3 : own e ≤ 64) : Wt e w (List.replicate e.l.length 0)
 | cond (ho : e.op = 6) : Wt e w [-1, w, w]
 | bits (ho : e.op = 4 ∨ e.op = 5) (hn : e.n = 6 ∨ e.n = 25 ∨ e.n = 26) (h : w = 1) : Wt e w (List.replicate e.l.length (-1))
 | all (ho : e.op = 4 ∨ e.op = 5) (hn : e.n = 3 ∨ e.n = 4 ∨ e.n = 5) (h : w = 1) : Wt e w (List.replicate e.l.length 0)
 | cmp (ho : e.op = 4 ∨ e.op = 5) (hn : 19 ≤ e.n) (hn2 : e.n ≤ 24) (h : w = 1) : Wt e w (List.replicate e.l.length (told (fst0 (e.l.map own)) 32))
 | sh (ho : e.op = 4 ∨ e.op = 5) (hn : e.n = 17 ∨ e.n = 18) : Wt e w [w, 0]
 | ari (ho : e.op = 4 ∨ e.op = 5) (hn : ¬ (e.n = 6 ∨ e.n = 25 ∨ e.n = 26)) (hn2 : ¬ (e.n = 3 ∨ e.n = 4 ∨ e.n = 5)) (hn3 : ¬ (19 ≤ e.n ∧ e.n ≤ 24)) (hn4 : ¬ (e.n = 17 ∨ e.n = 18)) : Wt e w (List.replicate e.l.length w)
theorem wants_wt {g : List Sg} {e : E} (hs : shp g e = true) {w : Int} {ws : List Int} (h : wants e w = some ws) : Wt e w ws := by
 have hop : (e.op = 1 ∨ e.op = 2 ∨ e.op = 3 ∨ e.op = 8) ∨ e.op = 7 ∨ e.op = 6 ∨ (e.op = 4 ∨ e.op = 5) := by
  cases shp_nd hs <;> omega
 rcases hop with ho | ho | ho | ho
 ·rw [wants0 ho] at h
  split at h
  ·simp at h
  ·simp only [Option.some.injEq] at h; subst h
   exact .leaf ho (by omega)
 ·rw [wants7 ho] at h
  split at h
  ·simp at h
  ·simp only [Option.some.injEq] at h; subst h
   exact .cat ho (by omega) (by omega) (by omega)
 ·rw [wants6 ho] at h
  simp only [Option.some.injEq] at h; subst h
  exact .cond ho
 ·rw [wants4 ho] at h
  split at h
  ·split at h
   ·simp at h
   ·simp only [Option.some.injEq] at h; subst h
    exact .bits ho (by assumption) (by omega)
  split at h
  ·split at h
   ·simp at h
   ·simp only [Option.some.injEq] at h; subst h
    exact .all ho (by assumption) (by omega)
  split at h
  ·split at h
   ·simp at h
   ·simp only [Option.some.injEq] at h; subst h
    exact .cmp ho (by omega) (by omega) (by omega)
  split at h
  ·simp only [Option.some.injEq] at h; subst h
   exact .sh ho (by assumption)
  ·simp only [Option.some.injEq] at h; subst h
   exact .ari ho (by assumption) (by assumption) (by assumption) (by assumption)
theorem wt_wants {e : E} {w : Int} {ws : List Int} (h : Wt e w ws) : wants e w = some ws := by
 cases h with
 | leaf ho h => rw [wants0 ho, if_neg (by omega)]
 | cat ho h1 h2 h3 => rw [wants7 ho, if_neg (by omega)]
 | cond ho => exact wants6 ho
 | bits ho hn h => rw [wants4 ho, if_pos hn, if_neg (by omega)]
 | all ho hn h => rw [wants4 ho, if_neg (by omega), if_pos hn, if_neg (by omega)]
 | cmp ho hn hn2 h => rw [wants4 ho, if_neg (by omega), if_neg (by omega), if_pos ⟨hn, hn2⟩, if_neg (by omega)]
 | sh ho hn => rw [wants4 ho, if_neg (by omega), if_neg (by omega), if_neg (by omega), if_pos hn]
 | ari ho hn hn2 hn3 hn4 => rw [wants4 ho, if_neg hn, if_neg hn2, if_neg hn3, if_neg hn4]
theorem wt_len {g : List Sg} {e : E} (hs : shp g e = true) {w : Int} {ws : List Int} (h : Wt e w ws) : ws.length = e.l.length := by
 cases h with
 | cond ho =>
  cases shp_nd hs <;> first | omega | skip
  rename_i h5; rw [h5]; rfl
 | sh ho hn =>
  cases shp_nd hs <;> first | omega | skip
  rename_i h5 _ _; rw [h5]; rfl
 | _ => simp
theorem size_ok {e x : E} {w : Int} (h : size e w = (x, 0)) : ¬ (w = -1 ∧ 1 < own e) ∧
    ((e.op = 1 ∧ e.w = 0 ∧ holds (wide e w) e.v = true ∧ x = .mk 1 (wide e w) e.v 0 0 0 0 []) ∨
     (¬ (e.op = 1 ∧ e.w = 0) ∧ ∃ ws, wants e (wide e w) = some ws ∧ (runL (e.l.map size) ws).2 = 0 ∧
       ¬ (e.op = 8 ∧ (e.n = 33 ∧ part0 (runL (e.l.map size) ws).1 < wide e w ∨ e.n ≠ 33 ∧ wide e w < part0 (runL (e.l.map size) ws).1)) ∧ x = e.set (wide e w) (runL (e.l.map size) ws).1)) := by
  rw [size_eq] at h
  split at h
  · simp at h
  rename_i h1
  refine ⟨h1, ?_⟩
  split at h
  · rename_i h2
    split at h
    · simp only [Prod.mk.injEq, and_true] at h
      exact .inl ⟨h2.1, h2.2, by assumption, h.symm⟩
    · simp at h
  · rename_i h2
    refine .inr ⟨h2, ?_⟩
    split at h
    · simp at h
    · rename_i ws hws
      unfold sizeK at h
      split at h
      · rename_i h3
        simp only [Prod.mk.injEq] at h
        exact (h3 h.2).elim
      · rename_i h3
        split at h
        · simp at h
        · rename_i h4
          simp only [Prod.mk.injEq, and_true] at h
          exact ⟨ws, hws, by simpa using h3, h4, h.symm⟩
theorem size_of {e : E} {w : Int} {ws : List Int} {xs : List E} (h1 : ¬ (w = -1 ∧ 1 < own e)) (h2 : ¬ (e.op = 1 ∧ e.w = 0)) (h3 : wants e (wide e w) = some ws) (h4 : runL (e.l.map size) ws = (xs, 0))
  (h5 : ¬ (e.op = 8 ∧ (e.n = 33 ∧ part0 xs < wide e w ∨ e.n ≠ 33 ∧ wide e w < part0 xs))) : size e w = (e.set (wide e w) xs, 0) := by
 rw [size_eq, if_neg h1, if_neg h2, h3]
 simp only [h4, sizeK]
 rw [if_neg (by simp), if_neg h5]
end Fil.Sz

namespace Go.Proofs.Ytdiebjnjhgbklaa
open Abs Fil Fil.Sz
theorem put_int (l : List Int) (i : Nat) (v : Int) (h : i < l.length) : List.take (i * 1) (l.map encInt) ++ [AV.int .i64 v] ++ List.drop (i * 1 + 1) (l.map encInt) = (l.set i v).map encInt := by
 have h1 : (l.set i v).map encInt = (l.map encInt).set i (encInt v) := by rw [List.map_set]
 rw [h1, List.set_eq_take_append_cons_drop]
 simp [h]
theorem put_int0 (l : List Int) (v : Int) (h : 0 < l.length) : AV.int .i64 v :: List.drop 1 (l.map encInt) = (l.set 0 v).map encInt := by
 cases l with
 | nil => simp at h
 | cons a l => rfl
theorem rep_int (n : Nat) : (List.replicate n [AV.int .i64 0]).flatten = (List.replicate n (0 : Int)).map encInt := by
 induction n with
 | zero => rfl
 | succ n ih => simp only [List.replicate_succ, List.flatten_cons, ih, List.map_cons]; rfl
theorem flat_ints (l : List Int) : flat (l.map encInt) = l.map encInt := by
 induction l with
 | nil => rfl
 | cons a l ih => rw [List.map_cons, flat_cons, ih]; rfl
theorem int_all (l : List Int) : ∀ x ∈ l.map encInt, (cellsA x).length = 1 := fun x hx => by
 obtain ⟨a, _, rfl⟩ := List.mem_map.1 hx
 rfl
def setTo (w : Int) (c : List Int) (i : Nat) : List Int := List.replicate i w ++ c.drop i
theorem setTo_len (w : Int) (c : List Int) {i : Nat} (h : i ≤ c.length) : (setTo w c i).length = c.length := by simp [setTo]; omega
theorem setTo_succ (w : Int) (c : List Int) {i : Nat} (h : i < c.length) : (setTo w c i).set i w = setTo w c (i + 1) := by
 unfold setTo
 rw [List.drop_eq_getElem_cons h, List.replicate_succ', List.set_append_right _ _ (by simp), List.length_replicate, Nat.sub_self, List.set_cons_zero]
 simp
theorem setTo_all (w : Int) (c : List Int) : setTo w c c.length = List.replicate c.length w := by simp [setTo]
theorem sz_set (w : Int) (b o n : Nat) (c : List Int) (σ : Sig) (hb : σ b = some (.cells [.vec o n])) (ho : σ o = some (.vec 1 n (c.map encInt))) (hc : c.length = n) (hn : n ≤ 1000000000000) (h1 : ¬ b = o) (h2 : ¬ o = b) :
  ACalls Try.prog 97 [.int .i64 w, .ptr b 0] σ (fun r σ' => r = .ret (.tup []) ∧ σ' = upd σ o (.vec 1 n ((List.replicate n w).map encInt))) := by
 refine calls_x mixed Try.func97 b97 n97 rfl q97 (by simp) ?_; unfold c97 r97
 repeat' simp (maxDischargeDepth := 9) -implicitDefEqProofs -dsimp only [go_sem, seval, *]
 refine loop_rule (fun i : Nat => [(6, some (.int .i64 i)), (5, some (.int .i64 n)), (1, some (.ptr b 0)), (0, some (.int .i64 w))]) (fun i => upd σ o (.vec 1 n ((setTo w c i).map encInt))) (fun i => i ≤ n) (fun i => n - i) 0 ?_ ?_
 ·have e0 : setTo w c 0 = c := rfl
  (repeat' simp (maxDischargeDepth := 9) -implicitDefEqProofs -dsimp only [go_sem, seval, *]) <;> (first | omega | skip)
 ·intro i hi
  have hl := setTo_len w c (i := i) (by omega)
  by_cases hlt : i < n
  ·have hp := put_int (setTo w c i) i w (by omega)
   rw [setTo_succ w c (by omega)] at hp
   have hlt' : (i : Int) < n := by omega
   obtain ⟨d, hd⟩ : ∃ d, setTo w c i = d := ⟨_, rfl⟩
   rw [hd] at hp hl ⊢
   clear hd
   repeat' (first | simp (maxDischargeDepth := 9) -implicitDefEqProofs -dsimp only [go_sem, seval, *] | simp (disch := omega) only [wrap64] | ((with_reducible refine Zv ?_ ?_); focus (first | omega | exact rfl)))
   refine loop_next _ _ _ _ (i + 1) ?_; (repeat' simp (maxDischargeDepth := 9) -implicitDefEqProofs -dsimp only [go_sem, seval, *]) <;> (repeat' refine And.intro ?_ ?_) <;> (first | omega | skip)
  ·have ei : i = n := by omega
   subst ei
   have hlt' : ¬ (i : Int) < i := by omega
   have hs := setTo_all w c
   rw [hc] at hs
   rw [hs]
   repeat' simp (maxDischargeDepth := 9) -implicitDefEqProofs -dsimp only [go_sem, seval, *]
   refine fin_eq ?_
   (repeat' simp (maxDischargeDepth := 9) -implicitDefEqProofs -dsimp only [go_sem, seval, *])
theorem fin_ints2 {v : AV} {σ τ : Sig} {o n : Nat} {l : List Int} (h : σ o = some (.vec 1 n (l.map encInt))) (hl : l.length = n) (hv : v = .tup [.vec o n, .int .i64 0]) (hs : SubX [] τ (upd σ o (.grow 1 n))) :
  fin (fun r s => r = .ret (.tup [.slice (l.map encInt) .no, .int .i64 0]) ∧ s = τ) v σ := by
 subst hv
 refine fin_frz o (sz := 1) (n := n) (cs := l.map encInt) (l := l.map encInt) (v0 := .tup [.slice (l.map encInt) .no, .int .i64 0]) (v1 := .tup [.slice (l.map encInt) .no, .int .i64 0]) (τ := τ) h (flat_ints l) (by simpa using hl) (int_all l) ?_ (by simp (maxDischargeDepth := 9) -implicitDefEqProofs -dsimp only [go_sem, seval]) hs ⟨rfl, rfl⟩
 refine .tup _ _ rfl ?_
 intro a a0 a1
 match a, a0 with
 | 0, _ => exact .base _ _ ⟨rfl, .inr rfl⟩
 | 1, _ => exact .refl _
def wantV : Option (List Int) → AV
 | none => .tup [.slice [] .no, .int .i64 90]
 | some ws => .tup [.slice (ws.map encInt) .no, .int .i64 0]
set_option maxRecDepth 20000 in
set_option maxHeartbeats 2000000 in
theorem sz_wanted (g : List Sg) (hg : SgOk g) (e : E) (w : Int) (σ : Sig) (hs : shp g e = true) (he : nodes e ≤ 16777216) : ACalls Try.prog 74 [encE e, .int .i64 w] σ (fun r σ' => r = .ret (wantV (wants e w)) ∧ σ' = σ) := by
 have h1 := encEs_eq e
 have l1 := len_nodes e
 have hown := fun τ => sz_own g hg e τ hs he
 have hns := nodes_eq e
 have hfst := fun τ => sz_first g hg e.l (fun x hx => shp_part hs hx) (by omega) τ
 have htold := fun τ => sz_told (fst0 (e.l.map own)) 32 τ
 have hnd := shp_nd hs
 clear hs hns
 obtain ⟨n, hn⟩ : ∃ n, e.l.length = n := ⟨_, rfl⟩
 have hrep := rep_int n
 have hset := fun v b o τ h2 h3 h4 h5 => sz_set v b o n (List.replicate n 0) τ h2 h3 (by simp) (by omega) h4 h5
 have vn : wantV none = .tup [.slice [] .no, .int .i64 90] := rfl
 have vs : ∀ ws, wantV (some ws) = .tup [.slice (ws.map encInt) .no, .int .i64 0] := fun _ => rfl
 refine calls_x mixed Try.func74 b74 n74 rfl q74 (by simp) ?_; unfold c74 r74
 by_cases hA : e.op = 1 ∨ e.op = 2 ∨ e.op = 3 ∨ e.op = 8
 ·have h6 : (e.op == 6) = false := by simp; omega
  have h7 : (e.op == 7) = false := by simp; omega
  have h4 : (e.op == 4) = false := by simp; omega
  have h5 : (e.op == 5) = false := by simp; omega
  rw [wants0 hA, hn]
  clear hnd hfst htold hset hA
  by_cases hw : own e = w
  ·have hb : (own e != w) = false := by simp [hw]
   rw [if_neg (by omega), vs]
   rw [hw] at hown
   clear hw hb
   repeat' (first | simp (maxDischargeDepth := 9) -implicitDefEqProofs -dsimp only [go_sem, seval, *] | ((with_reducible refine Zv ?_ ?_); focus (first | omega | exact rfl)) | ((with_reducible refine Zt (fun oF hoF hnF hnF' => ?_)); (try simp only [upd_none, ne_eq, not_and] at hoF)) | ((with_reducible apply ACalls.one1); (focus ((with_reducible refine ACalls.flA (hown _) ?_) <;> (first | (simp (maxDischargeDepth := 9) -implicitDefEqProofs -dsimp only [go_sem, seval, *]; done) | omega))); (focus (first | trivial | with_reducible exact rfl | (simp (maxDischargeDepth := 9) -implicitDefEqProofs -dsimp only [go_sem, seval]; done)))))
   refine fin_ints2 (l := List.replicate n 0) ?_ ?_ rfl ?_
   ·simp (maxDischargeDepth := 9) -implicitDefEqProofs -dsimp only [go_sem, seval, *]
   ·simp
   ·(repeat' simp (maxDischargeDepth := 9) -implicitDefEqProofs -dsimp only [go_sem, seval, *])
  ·have hb : (own e != w) = true := by simp [hw]
   rw [if_pos hw, vn]
   clear hw
   repeat' (first | simp (maxDischargeDepth := 9) -implicitDefEqProofs -dsimp only [go_sem, seval, *] | ((with_reducible refine Zv ?_ ?_); focus (first | omega | exact rfl)) | ((with_reducible refine Zt (fun oF hoF hnF hnF' => ?_)); (try simp only [upd_none, ne_eq, not_and] at hoF)) | ((with_reducible apply ACalls.one1); (focus ((with_reducible refine ACalls.flA (hown _) ?_) <;> (first | (simp (maxDischargeDepth := 9) -implicitDefEqProofs -dsimp only [go_sem, seval, *]; done) | omega))); (focus (first | trivial | with_reducible exact rfl | (simp (maxDischargeDepth := 9) -implicitDefEqProofs -dsimp only [go_sem, seval]; done)))))
   refine fin_eq ?_
   (repeat' simp (maxDischargeDepth := 9) -implicitDefEqProofs -dsimp only [go_sem, seval, *])
 by_cases h7 : e.op = 7
 ·rw [wants7 h7, hn]
  clear hnd hfst htold hset hA
  by_cases hz : own e = 0
  ·rw [if_pos (.inl hz), vn]
   rw [hz] at hown
   clear hz
   repeat' (first | simp (maxDischargeDepth := 9) -implicitDefEqProofs -dsimp only [go_sem, seval, *] | ((with_reducible refine Zv ?_ ?_); focus (first | omega | exact rfl)) | ((with_reducible refine Zt (fun oF hoF hnF hnF' => ?_)); (try simp only [upd_none, ne_eq, not_and] at hoF)) | ((with_reducible apply ACalls.one1); (focus ((with_reducible refine ACalls.flA (hown _) ?_) <;> (first | (simp (maxDischargeDepth := 9) -implicitDefEqProofs -dsimp only [go_sem, seval, *]; done) | omega))); (focus (first | trivial | with_reducible exact rfl | (simp (maxDischargeDepth := 9) -implicitDefEqProofs -dsimp only [go_sem, seval]; done)))))
   refine fin_eq ?_
   (repeat' simp (maxDischargeDepth := 9) -implicitDefEqProofs -dsimp only [go_sem, seval, *])
  by_cases hw : own e = w
  ·have hz2 : (w == 0) = false := by simp; omega
   rw [hw] at hown hz ⊢
   by_cases h64 : 64 < w
   ·rw [if_pos (.inr (.inr h64)), vn]
    repeat' (first | simp (maxDischargeDepth := 9) -implicitDefEqProofs -dsimp only [go_sem, seval, gt_iff_lt, *] | ((with_reducible refine Zv ?_ ?_); focus (first | omega | exact rfl)) | ((with_reducible refine Zt (fun oF hoF hnF hnF' => ?_)); (try simp only [upd_none, ne_eq, not_and] at hoF)) | ((with_reducible apply ACalls.one1); (focus ((with_reducible refine ACalls.flA (hown _) ?_) <;> (first | (simp (maxDischargeDepth := 9) -implicitDefEqProofs -dsimp only [go_sem, seval, *]; done) | omega))); (focus (first | trivial | with_reducible exact rfl | (simp (maxDischargeDepth := 9) -implicitDefEqProofs -dsimp only [go_sem, seval]; done)))))
    refine fin_eq ?_
    (repeat' simp (maxDischargeDepth := 9) -implicitDefEqProofs -dsimp only [go_sem, seval, *])
   ·rw [if_neg (by omega), vs]
    repeat' (first | simp (maxDischargeDepth := 9) -implicitDefEqProofs -dsimp only [go_sem, seval, gt_iff_lt, *] | ((with_reducible refine Zv ?_ ?_); focus (first | omega | exact rfl)) | ((with_reducible refine Zt (fun oF hoF hnF hnF' => ?_)); (try simp only [upd_none, ne_eq, not_and] at hoF)) | ((with_reducible apply ACalls.one1); (focus ((with_reducible refine ACalls.flA (hown _) ?_) <;> (first | (simp (maxDischargeDepth := 9) -implicitDefEqProofs -dsimp only [go_sem, seval, *]; done) | omega))); (focus (first | trivial | with_reducible exact rfl | (simp (maxDischargeDepth := 9) -implicitDefEqProofs -dsimp only [go_sem, seval]; done)))))
    refine fin_ints2 (l := List.replicate n 0) ?_ ?_ rfl ?_
    ·simp (maxDischargeDepth := 9) -implicitDefEqProofs -dsimp only [go_sem, seval, *]
    ·simp
    ·(repeat' simp (maxDischargeDepth := 9) -implicitDefEqProofs -dsimp only [go_sem, seval, *])
  ·have hz2 : (own e == 0) = false := by simp [hz]
   have hw2 : (own e != w) = true := by simp [hw]
   rw [if_pos (.inr (.inl hw)), vn]
   clear hw hz
   repeat' (first | simp (maxDischargeDepth := 9) -implicitDefEqProofs -dsimp only [go_sem, seval, *] | ((with_reducible refine Zv ?_ ?_); focus (first | omega | exact rfl)) | ((with_reducible refine Zt (fun oF hoF hnF hnF' => ?_)); (try simp only [upd_none, ne_eq, not_and] at hoF)) | ((with_reducible apply ACalls.one1); (focus ((with_reducible refine ACalls.flA (hown _) ?_) <;> (first | (simp (maxDischargeDepth := 9) -implicitDefEqProofs -dsimp only [go_sem, seval, *]; done) | omega))); (focus (first | trivial | with_reducible exact rfl | (simp (maxDischargeDepth := 9) -implicitDefEqProofs -dsimp only [go_sem, seval]; done)))))
   refine fin_eq ?_
   (repeat' simp (maxDischargeDepth := 9) -implicitDefEqProofs -dsimp only [go_sem, seval, *])
 by_cases h6 : e.op = 6
 ·have h3 : n = 3 := by
   cases hnd <;> first | omega | skip
   rename_i hl; rw [hl] at hn; simpa using hn.symm
  rw [wants6 h6, vs]
  have hq : (List.replicate n w).set 0 (-1) = [-1, w, w] := by subst h3; rfl
  have hp := put_int0 (List.replicate n w) (-1) (by simp; omega)
  rw [← hq]
  have hn0 : (0 : Int) < n := by omega
  have hn1 : 1 ≤ n := by omega
  clear hnd hfst htold hown hA hq h3
  repeat' (first | simp (maxDischargeDepth := 9) -implicitDefEqProofs -dsimp only [go_sem, seval, *] | ((with_reducible refine Zv ?_ ?_); focus (first | omega | exact rfl)) | ((with_reducible refine Zt (fun oF hoF hnF hnF' => ?_)); (try simp only [upd_none, ne_eq, not_and] at hoF)))
  rename_i ox hox nx1 nx2
  obtain ⟨ob, eob⟩ : ∃ x, x = oF := ⟨oF, rfl⟩
  subst eob
  obtain ⟨q1, q2⟩ := hoF
  have q3 : ¬ ox = ob := fun e => q1 e.symm
  clear nx1 nx2 hnF hnF'
  repeat' (first | simp (maxDischargeDepth := 9) -implicitDefEqProofs -dsimp only [go_sem, seval, List.length_replicate, *] | ((with_reducible apply ACalls.one1); (focus ((with_reducible refine hset w ob ox _ ?_ ?_ q1 q3) <;> (first | (simp (maxDischargeDepth := 9) -implicitDefEqProofs -dsimp only [go_sem, seval, *]; done) | omega))); (focus (first | trivial | with_reducible exact rfl | (simp (maxDischargeDepth := 9) -implicitDefEqProofs -dsimp only [go_sem, seval]; done)))))
  refine fin_ints2 (l := (List.replicate n w).set 0 (-1)) ?_ ?_ rfl ?_
  ·simp (maxDischargeDepth := 9) -implicitDefEqProofs -dsimp only [go_sem, seval, *]
  ·simp
  ·(repeat' simp (maxDischargeDepth := 9) -implicitDefEqProofs -dsimp only [go_sem, seval, *])
 have hop : e.op = 4 ∨ e.op = 5 := by cases hnd <;> omega
 have hln : e.op = 5 → n = 2 := fun h => by
  cases hnd <;> first | omega | skip
  rename_i hl _ _; rw [hl] at hn; simpa using hn.symm
 have hun : e.op = 4 → e.n ≤ 6 := fun h => by cases hnd <;> omega
 rw [wants4 hop, hn]
 clear hnd hown hA
 by_cases c1 : e.n = 6 ∨ e.n = 25 ∨ e.n = 26
 ·rw [if_pos c1]
  clear hfst htold hln hun
  by_cases hw : w = 1
  ·rw [if_neg (by omega), vs]
   have hw2 : (w != 1) = false := by simp [hw]
   clear hw
   rcases hop with ho | ho <;> rcases c1 with c | c | c
   all_goals
    repeat' (first | simp (maxDischargeDepth := 9) -implicitDefEqProofs -dsimp only [go_sem, seval, *] | ((with_reducible refine Zv ?_ ?_); focus (first | omega | exact rfl)) | ((with_reducible refine Zt (fun oF hoF hnF hnF' => ?_)); (try simp only [upd_none, ne_eq, not_and] at hoF)))
    rename_i ox hox nx1 nx2
    obtain ⟨ob, eob⟩ : ∃ x, x = oF := ⟨oF, rfl⟩
    subst eob
    obtain ⟨q1, q2⟩ := hoF
    have q3 : ¬ ox = ob := fun e => q1 e.symm
    clear nx1 nx2 hnF hnF'
    repeat' (first | simp (maxDischargeDepth := 9) -implicitDefEqProofs -dsimp only [go_sem, seval, *] | ((with_reducible apply ACalls.one1); (focus ((with_reducible refine hset (-1) ob ox _ ?_ ?_ q1 q3) <;> (first | (simp (maxDischargeDepth := 9) -implicitDefEqProofs -dsimp only [go_sem, seval, *]; done) | omega))); (focus (first | trivial | with_reducible exact rfl | (simp (maxDischargeDepth := 9) -implicitDefEqProofs -dsimp only [go_sem, seval]; done)))))
    refine fin_ints2 (l := List.replicate n (-1)) ?_ ?_ rfl ?_
    ·simp (maxDischargeDepth := 9) -implicitDefEqProofs -dsimp only [go_sem, seval, *]
    ·simp
    ·(repeat' simp (maxDischargeDepth := 9) -implicitDefEqProofs -dsimp only [go_sem, seval, *])
  ·rw [if_pos hw, vn]
   have hw2 : (w != 1) = true := by simp [hw]
   clear hw
   rcases hop with ho | ho <;> rcases c1 with c | c | c
   all_goals
    repeat' (first | simp (maxDischargeDepth := 9) -implicitDefEqProofs -dsimp only [go_sem, seval, *] | ((with_reducible refine Zv ?_ ?_); focus (first | omega | exact rfl)) | ((with_reducible refine Zt (fun oF hoF hnF hnF' => ?_)); (try simp only [upd_none, ne_eq, not_and] at hoF)))
    rename_i ox hox nx1 nx2
    obtain ⟨ob, eob⟩ : ∃ x, x = oF := ⟨oF, rfl⟩
    subst eob
    obtain ⟨q1, q2⟩ := hoF
    have q3 : ¬ ox = ob := fun e => q1 e.symm
    clear nx1 nx2 hnF hnF'
    repeat' (first | simp (maxDischargeDepth := 9) -implicitDefEqProofs -dsimp only [go_sem, seval, *] | ((with_reducible apply ACalls.one1); (focus ((with_reducible refine hset (-1) ob ox _ ?_ ?_ q1 q3) <;> (first | (simp (maxDischargeDepth := 9) -implicitDefEqProofs -dsimp only [go_sem, seval, *]; done) | omega))); (focus (first | trivial | with_reducible exact rfl | (simp (maxDischargeDepth := 9) -implicitDefEqProofs -dsimp only [go_sem, seval]; done)))))
    refine fin_eq ?_
    (repeat' simp (maxDischargeDepth := 9) -implicitDefEqProofs -dsimp only [go_sem, seval, *])
 by_cases c2 : e.n = 3 ∨ e.n = 4 ∨ e.n = 5
 ·rw [if_neg c1, if_pos c2]
  clear hfst htold hset hln hun c1
  by_cases hw : w = 1
  ·rw [if_neg (by omega), vs]
   have hw2 : (w != 1) = false := by simp [hw]
   clear hw
   rcases hop with ho | ho <;> rcases c2 with c | c | c
   all_goals
    repeat' (first | simp (maxDischargeDepth := 9) -implicitDefEqProofs -dsimp only [go_sem, seval, *] | ((with_reducible refine Zv ?_ ?_); focus (first | omega | exact rfl)) | ((with_reducible refine Zt (fun oF hoF hnF hnF' => ?_)); (try simp only [upd_none, ne_eq, not_and] at hoF)))
    refine fin_ints2 (l := List.replicate n 0) ?_ ?_ rfl ?_
    ·simp (maxDischargeDepth := 9) -implicitDefEqProofs -dsimp only [go_sem, seval, *]
    ·simp
    ·(repeat' simp (maxDischargeDepth := 9) -implicitDefEqProofs -dsimp only [go_sem, seval, *])
  ·rw [if_pos hw, vn]
   have hw2 : (w != 1) = true := by simp [hw]
   clear hw
   rcases hop with ho | ho <;> rcases c2 with c | c | c
   all_goals
    repeat' (first | simp (maxDischargeDepth := 9) -implicitDefEqProofs -dsimp only [go_sem, seval, *] | ((with_reducible refine Zv ?_ ?_); focus (first | omega | exact rfl)) | ((with_reducible refine Zt (fun oF hoF hnF hnF' => ?_)); (try simp only [upd_none, ne_eq, not_and] at hoF)))
    refine fin_eq ?_
    (repeat' simp (maxDischargeDepth := 9) -implicitDefEqProofs -dsimp only [go_sem, seval, *])
 by_cases c3 : 19 ≤ e.n ∧ e.n ≤ 24
 ·rw [if_neg c1, if_neg c2, if_pos c3]
  have ho : e.op = 5 := by
   rcases hop with h | h
   ·have := hun h; omega
   ·exact h
  have c4 : e.n = 19 ∨ e.n = 20 ∨ e.n = 21 ∨ e.n = 22 ∨ e.n = 23 ∨ e.n = 24 := by omega
  obtain ⟨F, hF⟩ : ∃ F, fst0 (e.l.map own) = F := ⟨_, rfl⟩
  rw [hF] at hfst htold ⊢
  obtain ⟨K, hK⟩ : ∃ K, told F 32 = K := ⟨_, rfl⟩
  rw [hK] at htold ⊢
  clear hop hln hun c1 c2 c3 hF hK
  by_cases hw : w = 1
  ·rw [if_neg (by omega), vs]
   have hw2 : (w != 1) = false := by simp [hw]
   clear hw
   rcases c4 with c | c | c | c | c | c
   all_goals
    repeat' (first | simp (maxDischargeDepth := 9) -implicitDefEqProofs -dsimp only [go_sem, seval, *] | ((with_reducible refine Zv ?_ ?_); focus (first | omega | exact rfl)) | ((with_reducible refine Zt (fun oF hoF hnF hnF' => ?_)); (try simp only [upd_none, ne_eq, not_and] at hoF)) | ((with_reducible apply ACalls.one1); (focus ((first | with_reducible refine hfst _ | with_reducible refine htold _) <;> (first | (simp (maxDischargeDepth := 9) -implicitDefEqProofs -dsimp only [go_sem, seval, *]; done) | omega))); (focus (first | trivial | with_reducible exact rfl | (simp (maxDischargeDepth := 9) -implicitDefEqProofs -dsimp only [go_sem, seval]; done)))))
    rename_i ox hox nx1 nx2
    obtain ⟨ob, eob⟩ : ∃ x, x = oF := ⟨oF, rfl⟩
    subst eob
    obtain ⟨q1, q2⟩ := hoF
    have q3 : ¬ ox = ob := fun e => q1 e.symm
    clear nx1 nx2 hnF hnF'
    repeat' (first | simp (maxDischargeDepth := 9) -implicitDefEqProofs -dsimp only [go_sem, seval, *] | ((with_reducible apply ACalls.one1); (focus ((with_reducible refine hset K ob ox _ ?_ ?_ q1 q3) <;> (first | (simp (maxDischargeDepth := 9) -implicitDefEqProofs -dsimp only [go_sem, seval, *]; done) | omega))); (focus (first | trivial | with_reducible exact rfl | (simp (maxDischargeDepth := 9) -implicitDefEqProofs -dsimp only [go_sem, seval]; done)))))
    refine fin_ints2 (l := List.replicate n K) ?_ ?_ rfl ?_
    ·simp (maxDischargeDepth := 9) -implicitDefEqProofs -dsimp only [go_sem, seval, *]
    ·simp
    ·(repeat' simp (maxDischargeDepth := 9) -implicitDefEqProofs -dsimp only [go_sem, seval, *])
  ·rw [if_pos hw, vn]
   have hw2 : (w != 1) = true := by simp [hw]
   clear hw
   rcases c4 with c | c | c | c | c | c
   all_goals
    repeat' (first | simp (maxDischargeDepth := 9) -implicitDefEqProofs -dsimp only [go_sem, seval, *] | ((with_reducible refine Zv ?_ ?_); focus (first | omega | exact rfl)) | ((with_reducible refine Zt (fun oF hoF hnF hnF' => ?_)); (try simp only [upd_none, ne_eq, not_and] at hoF)))
    refine fin_eq ?_
    (repeat' simp (maxDischargeDepth := 9) -implicitDefEqProofs -dsimp only [go_sem, seval, *])
 by_cases c4 : e.n = 17 ∨ e.n = 18
 ·rw [if_neg c1, if_neg c2, if_neg c3, if_pos c4, vs]
  have ho : e.op = 5 := by
   rcases hop with h | h
   ·have := hun h; omega
   ·exact h
  have hn2 := hln ho
  have hq : (List.replicate n (0 : Int)).set 0 w = [w, 0] := by subst hn2; rfl
  have hp := put_int0 (List.replicate n 0) w (by simp; omega)
  have hn0 : (0 : Int) < n := by omega
  have hn1 : 1 ≤ n := by omega
  rw [← hq]
  clear hop hln hun c1 c2 c3 hq hn2 hfst htold hset
  rcases c4 with c | c
  all_goals
   repeat' (first | simp (maxDischargeDepth := 9) -implicitDefEqProofs -dsimp only [go_sem, seval, List.length_replicate, *] | ((with_reducible refine Zv ?_ ?_); focus (first | omega | exact rfl)) | ((with_reducible refine Zt (fun oF hoF hnF hnF' => ?_)); (try simp only [upd_none, ne_eq, not_and] at hoF)))
   refine fin_ints2 (l := (List.replicate n 0).set 0 w) ?_ ?_ rfl ?_
   ·simp (maxDischargeDepth := 9) -implicitDefEqProofs -dsimp only [go_sem, seval, *]
   ·simp
   ·(repeat' simp (maxDischargeDepth := 9) -implicitDefEqProofs -dsimp only [go_sem, seval, *])
 ·rw [if_neg c1, if_neg c2, if_neg c3, if_neg c4, vs]
  have e1 : (e.n == 6) = false := by simp; omega
  have e2 : (e.n == 25) = false := by simp; omega
  have e3 : (e.n == 26) = false := by simp; omega
  have e4 : (e.n == 3) = false := by simp; omega
  have e5 : (e.n == 4) = false := by simp; omega
  have e6 : (e.n == 5) = false := by simp; omega
  have e7 : (e.n == 19) = false := by simp; omega
  have e8 : (e.n == 20) = false := by simp; omega
  have e9 : (e.n == 21) = false := by simp; omega
  have e10 : (e.n == 22) = false := by simp; omega
  have e11 : (e.n == 23) = false := by simp; omega
  have e12 : (e.n == 24) = false := by simp; omega
  have e13 : (e.n == 17) = false := by simp; omega
  have e14 : (e.n == 18) = false := by simp; omega
  clear hln hun c1 c2 c3 c4 hfst htold
  rcases hop with ho | ho
  all_goals
   repeat' (first | simp (maxDischargeDepth := 9) -implicitDefEqProofs -dsimp only [go_sem, seval, *] | ((with_reducible refine Zv ?_ ?_); focus (first | omega | exact rfl)) | ((with_reducible refine Zt (fun oF hoF hnF hnF' => ?_)); (try simp only [upd_none, ne_eq, not_and] at hoF)))
   rename_i ox hox nx1 nx2
   obtain ⟨ob, eob⟩ : ∃ x, x = oF := ⟨oF, rfl⟩
   subst eob
   obtain ⟨q1, q2⟩ := hoF
   have q3 : ¬ ox = ob := fun e => q1 e.symm
   clear nx1 nx2 hnF hnF'
   repeat' (first | simp (maxDischargeDepth := 9) -implicitDefEqProofs -dsimp only [go_sem, seval, *] | ((with_reducible apply ACalls.one1); (focus ((with_reducible refine hset w ob ox _ ?_ ?_ q1 q3) <;> (first | (simp (maxDischargeDepth := 9) -implicitDefEqProofs -dsimp only [go_sem, seval, *]; done) | omega))); (focus (first | trivial | with_reducible exact rfl | (simp (maxDischargeDepth := 9) -implicitDefEqProofs -dsimp only [go_sem, seval]; done)))))
   refine fin_ints2 (l := List.replicate n w) ?_ ?_ rfl ?_
   ·simp (maxDischargeDepth := 9) -implicitDefEqProofs -dsimp only [go_sem, seval, *]
   ·simp
   ·(repeat' simp (maxDischargeDepth := 9) -implicitDefEqProofs -dsimp only [go_sem, seval, *])
end Go.Proofs.Ytdiebjnjhgbklaa

namespace Fil.Sz
open Abs
def resTo (l : List E) (ws : List Int) (i : Nat) : List E := ((l.zip ws).take i).map fun q => (size q.1 q.2).1
theorem resTo_len {l : List E} {ws : List Int} (hl : ws.length = l.length) {i : Nat} (hi : i ≤ l.length) : (resTo l ws i).length = i := by
 simp [resTo, hl]; omega
theorem resTo_succ {l : List E} {ws : List Int} {i : Nat} (h1 : i < l.length) (h2 : i < ws.length) : resTo l ws (i + 1) = resTo l ws i ++ [(size l[i] ws[i]).1] := by
 unfold resTo
 have h : i < (l.zip ws).length := by simp; omega
 rw [List.take_add_one, List.getElem?_eq_getElem h]
 simp
theorem resTo_get {l : List E} {ws : List Int} {n i : Nat} (h1 : i < l.length) (h2 : i < ws.length) (h3 : i < (resTo l ws n).length) : (resTo l ws n)[i] = (size l[i] ws[i]).1 := by
 simp [resTo]
theorem runL_all {l : List E} {ws : List Int} (hl : ws.length = l.length) (h : ∀ j, (h1 : j < l.length) → (h2 : j < ws.length) → (size l[j] ws[j]).2 = 0) : runL (l.map size) ws = (resTo l ws l.length, 0) := by
 refine runL_of l ws _ hl.symm (resTo_len hl (Nat.le_refl _)) fun i h1 h2 h3 => ?_
 rw [resTo_get h1 h2 h3]
 have := h i h1 h2
 rw [← this]
theorem runL_err : ∀ {l : List E} {ws : List Int} {i : Nat} (h1 : i < l.length) (h2 : i < ws.length), (∀ j, (h3 : j < i) → (size (l[j]'(by omega)) (ws[j]'(by omega))).2 = 0) → (size l[i] ws[i]).2 ≠ 0 → runL (l.map size) ws = ([], (size l[i] ws[i]).2)
 | [], _, _, h1, _, _, _ => by simp at h1
 | a :: l, [], _, _, h2, _, _ => by simp at h2
 | a :: l, w :: ws, 0, _, _, _, hn => by
  simp only [List.getElem_cons_zero] at hn
  simp only [List.map_cons, runL, List.getElem_cons_zero]
  rw [if_pos hn]
 | a :: l, w :: ws, i + 1, h1, h2, hz, hn => by
  have h0 := hz 0 (by omega)
  simp only [List.getElem_cons_zero] at h0
  simp only [List.getElem_cons_succ] at hn
  have ih := runL_err (l := l) (ws := ws) (i := i) (by simpa using h1) (by simpa using h2) (fun j hj => by have := hz (j + 1) (by omega); simpa using this) hn
  simp only [List.map_cons, runL, List.getElem_cons_succ, ih]
  rw [if_neg (by simp [h0]), if_pos hn]
theorem size_bit {e : E} (h : 1 < own e) : size e (-1) = (zE, 91) := by rw [size_eq, if_pos ⟨rfl, h⟩]
theorem size_num {e : E} {w : Int} (h : ¬ (w = -1 ∧ 1 < own e)) (ho : e.op = 1) (hw : e.w = 0) : size e w = if holds (wide e w) e.v then (.mk 1 (wide e w) e.v 0 0 0 0 [], 0) else (zE, 92) := by
 rw [size_eq, if_neg h, if_pos ⟨ho, hw⟩]
theorem size_none {e : E} {w : Int} (h : ¬ (w = -1 ∧ 1 < own e)) (ho : ¬ (e.op = 1 ∧ e.w = 0)) (hw : wants e (wide e w) = none) : size e w = (zE, 90) := by
 rw [size_eq, if_neg h, if_neg ho, hw]
theorem size_some {e : E} {w : Int} {ws : List Int} (h : ¬ (w = -1 ∧ 1 < own e)) (ho : ¬ (e.op = 1 ∧ e.w = 0)) (hw : wants e (wide e w) = some ws) : size e w = sizeK e w (runL (e.l.map size) ws) := by
 rw [size_eq, if_neg h, if_neg ho, hw]
theorem wt_ge {g : List Sg} (hg : SgOk g) {e : E} (hs : shp g e = true) {w : Int} (hw : 1 ≤ w) {ws : List Int} (h : Wt e w ws) : ∀ v ∈ ws, -1 ≤ v := by
 have hf : 0 ≤ fst0 (e.l.map own) := fst0_nonneg fun a ha => by
  obtain ⟨x, hx, rfl⟩ := List.mem_map.1 ha
  exact own_nonneg hg x (shp_part hs hx)
 intro v hv
 cases h with
 | cond ho => simp at hv; omega
 | sh ho hn => simp at hv; omega
 | cmp ho hn hn2 h =>
  have := (List.mem_replicate.1 hv).2
  subst this
  unfold told
  split <;> omega
 | _ => have := (List.mem_replicate.1 hv).2; omega
end Fil.Sz

