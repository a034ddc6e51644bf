/- sized: contracts: the sizer's statements. -/
import Derived.Test.YtdiebjnjhgbklaaQSizSizQ
set_option linter.unusedSimpArgs false
set_option linter.unusedVariables false
namespace Go.Proofs.Ytdiebjnjhgbklaa
open Abs Fil Fil.Sz
theorem rf_statements_step (g : List Sg) (l : List T) (hl : l.length ≤ 1000000000000) (ih : ∀ x ∈ l, ∀ τ, ACalls Try.prog 106 [.slice (g.map encS) .no, encT x] τ (fun r σ' => r = .ret (.bool (shpT g x)) ∧ σ' = τ)) (σ : Sig) :
  ACalls Try.prog 93 [.slice (g.map encS) .no, .slice (l.map encT) .no] σ (fun r σ' => r = .ret (.bool (l.all (shpT g))) ∧ σ' = σ) := by
 refine calls_x mixed Try.func93 b93 n93 rfl q93 (by simp) ?_; unfold c93 r93
 repeat' simp (maxDischargeDepth := 9) -implicitDefEqProofs -dsimp only [go_sem, seval, *]
 refine loop_rule (fun i : Nat => [(5, some (.int .i64 i)), (1, some (.slice (l.map encT) .no)), (0, some (.slice (g.map encS) .no))]) (fun _ => σ) (fun i => i ≤ l.length ∧ ∀ j, (h : j < l.length) → j < i → shpT g l[j] = true) (fun i => l.length - i) 0 ?_ ?_
 ·clear ih
  (repeat' simp (maxDischargeDepth := 9) -implicitDefEqProofs -dsimp only [go_sem, seval, *]) <;> (repeat' refine And.intro ?_ ?_) <;> (first | omega | skip)
 ·rintro i ⟨hi, hok⟩
  by_cases hlt : i < l.length
  ·have hx := encTs_eq l[i]
   have hc := fun τ => ih l[i] (List.getElem_mem hlt) τ
   obtain ⟨b, hb⟩ : ∃ b, shpT g l[i] = b := ⟨_, rfl⟩
   rw [hb] at hc
   cases b with
   | false =>
    have hv : l.all (shpT g) = false := by rw [List.all_eq_false]; exact ⟨_, List.getElem_mem hlt, by rw [hb]; simp⟩
    clear ih hok hb hx
    repeat' (first | simp (maxDischargeDepth := 9) -implicitDefEqProofs -dsimp only [go_sem, seval, *] | ((with_reducible refine Zu ?_ ?_); focus omega) | ((with_reducible apply ACalls.one1); (focus ((with_reducible refine hc _) <;> (first | (simp (maxDischargeDepth := 9) -implicitDefEqProofs -dsimp only [go_sem, seval, *]; done) | omega))); (focus (first | trivial | with_reducible exact rfl | (simp (maxDischargeDepth := 9) -implicitDefEqProofs -dsimp only [go_sem, seval]; done)))))
    refine fin_eq ?_
    (repeat' simp (maxDischargeDepth := 9) -implicitDefEqProofs -dsimp only [go_sem, seval, *])
   | true =>
    have hn : ∀ j, (h : j < l.length) → j < i + 1 → shpT g l[j] = true := fun j h h1 => by
     rcases Nat.lt_or_ge j i with q | q
     ·exact hok j h q
     ·obtain rfl : j = i := by omega
      exact hb
    clear ih hok hb hx
    repeat' (first | simp (maxDischargeDepth := 9) -implicitDefEqProofs -dsimp only [go_sem, seval, *] | simp (disch := omega) only [wrap64] | ((with_reducible refine Zu ?_ ?_); focus omega) | ((with_reducible apply ACalls.one1); (focus ((with_reducible refine hc _) <;> (first | (simp (maxDischargeDepth := 9) -implicitDefEqProofs -dsimp only [go_sem, seval, *]; done) | omega))); (focus (first | trivial | with_reducible exact rfl | (simp (maxDischargeDepth := 9) -implicitDefEqProofs -dsimp only [go_sem, seval]; done)))))
    refine loop_next _ _ _ _ (i + 1) ?_; (repeat' simp (maxDischargeDepth := 9) -implicitDefEqProofs -dsimp only [go_sem, seval, *]) <;> (repeat' refine And.intro ?_ ?_) <;> (first | omega | skip)
  ·have hv : l.all (shpT g) = true := by
    rw [List.all_eq_true]
    intro x hx
    obtain ⟨j, hj, rfl⟩ := List.getElem_of_mem hx
    exact hok j hj (by omega)
   clear ih hok
   repeat' simp (maxDischargeDepth := 9) -implicitDefEqProofs -dsimp only [go_sem, seval, *]
   refine fin_eq ?_
   (repeat' simp (maxDischargeDepth := 9) -implicitDefEqProofs -dsimp only [go_sem, seval, *])
theorem armT_doc (g : List Sg) (t : T) : armT g t = (decide (t.op = 4 ∧ t.sig = 0 ∧ t.hi = 0 ∧ t.lo = 0) && (t.e.all (shp g) && (t.l.all (shpT g) && t.e.all fun x => decide (x.op = 1)))) := by
 rw [armT_eq, Bool.eq_iff_iff]
 simp only [Bool.and_eq_true, List.all_eq_true, decide_eq_true_eq]
 constructor
 ·rintro ⟨⟨h1, h2⟩, h3⟩
  exact ⟨h1, fun x hx => (h2 x hx).2, h3, fun x hx => (h2 x hx).1⟩
 ·rintro ⟨h1, h2, h3, h4⟩
  exact ⟨⟨h1, fun x hx => ⟨h4 x hx, h2 x hx⟩⟩, h3⟩
set_option maxRecDepth 20000 in
set_option maxHeartbeats 2000000 in
theorem rf_arms_step (g : List Sg) (hg : g.length ≤ 1000000000000) (l : List T) (hn : (l.map nodesT).sum ≤ 16777216) (hw : ∀ t ∈ l, WfT t)
  (ih : ∀ a ∈ l, ∀ τ, ACalls Try.prog 93 [.slice (g.map encS) .no, .slice (a.l.map encT) .no] τ (fun r σ' => r = .ret (.bool (a.l.all (shpT g))) ∧ σ' = τ)) (σ : Sig) :
  ACalls Try.prog 110 [.slice (g.map encS) .no, .slice (l.map encT) .no] σ (fun r σ' => r = .ret (.bool (armsT g l)) ∧ σ' = σ) := by
 have l1 := len_sum nodesT_pos l
 have con1 := fun (a : T) (ha : a ∈ l) (τ : Sig) => rf_shapes g hg a.e (by have := mem_sum (f := nodesT) ha; have := nodesT_eq a; omega) (((WfT_iff a).1 (hw a ha)).2.1) τ
 clear hw
 refine calls_x mixed Try.func110 b110 n110 rfl q110 (by simp) ?_; unfold c110 r110
 repeat' (first | simp (maxDischargeDepth := 9) -implicitDefEqProofs -dsimp only [go_sem, seval, *] | simp (disch := omega) only [wrap64])
 refine loop_rule (fun i : Nat => [(5, some (.int .i64 i)), (1, some (.slice (l.map encT) .no)), (0, some (.slice (g.map encS) .no))])
  (fun _ => σ) (fun i => i ≤ l.length ∧ ∀ j, (h : j < l.length) → j < i → armT g l[j] = true ∧ (l[j].e.length = 0 ↔ j + 1 = l.length)) (fun i => l.length - i) 0 ?_ ?_
 ·clear con1 ih
  (repeat' simp (maxDischargeDepth := 9) -implicitDefEqProofs -dsimp only [go_sem, seval, *]) <;> (repeat' refine And.intro ?_ ?_) <;> (first | omega | skip)
 ·rintro i ⟨hi, hok⟩
  by_cases hlt : i < l.length
  ·have hx := encTs_eq l[i]
   have hbad : ¬ (armT g l[i] = true ∧ (l[i].e.length = 0 ↔ i + 1 = l.length)) → armsT g l = false := fun h => by
    cases hh : armsT g l with
    | false => rfl
    | true =>
     unfold armsT at hh
     rw [Bool.and_eq_true, decide_eq_true_eq, List.all_eq_true] at hh
     exact (h ⟨hh.2 _ (List.getElem_mem hlt), hh.1.2 i hlt⟩).elim
   have hstep : (armT g l[i] = true ∧ (l[i].e.length = 0 ↔ i + 1 = l.length)) → ∀ j, (h : j < l.length) → j < i + 1 → armT g l[j] = true ∧ (l[j].e.length = 0 ↔ j + 1 = l.length) := fun hp j h1 h => by
    rcases Nat.lt_or_ge j i with h' | h'
    ·exact hok j h1 h'
    ·obtain rfl : j = i := by omega
     exact hp
   have le1 := lenE_nodes l[i]
   have le2 := mem_sum (f := nodesT) (List.getElem_mem hlt)
   have c1 := con1 l[i] (List.getElem_mem hlt)
   have c2 := ih l[i] (List.getElem_mem hlt)
   have ha := armT_doc g l[i]
   clear con1 ih hok
   obtain ⟨A, hA⟩ : ∃ A, l[i].e.all (shp g) = A := ⟨_, rfl⟩
   obtain ⟨B, hB⟩ : ∃ A, l[i].l.all (shpT g) = A := ⟨_, rfl⟩
   rw [hA] at c1 ha
   rw [hB] at c2 ha
   clear hA hB
   obtain ⟨p1, hp1⟩ : ∃ p, ((l[i].e.length : Int) == 0) = p := ⟨_, rfl⟩
   obtain ⟨p2, hp2⟩ : ∃ p, ((i : Int) == l.length - 1) = p := ⟨_, rfl⟩
   have hpos : (l[i].e.length = 0 ↔ i + 1 = l.length) ↔ p1 = p2 := by
    rw [← hp1, ← hp2, Bool.eq_iff_iff]; simp; omega
   rw [hpos] at hbad hstep
   clear hpos
   have bft : ((false : Bool) == true) = false := rfl
   have btf : ((true : Bool) == false) = false := rfl
   by_cases hf : l[i].op = 4 ∧ l[i].sig = 0 ∧ l[i].hi = 0 ∧ l[i].lo = 0
   ·rw [show decide (l[i].op = 4 ∧ l[i].sig = 0 ∧ l[i].hi = 0 ∧ l[i].lo = 0) = true from decide_eq_true hf, Bool.true_and] at ha
    obtain ⟨f1, f2, f3, f4⟩ := hf
    by_cases hpp : p1 = p2
    ·subst hpp
     have hpp : (p1 != p1) = false := by simp
     cases A
     ·rw [hbad (fun h => by rw [ha] at h; simp at h)]
      clear hbad hstep ha
      repeat' (first | simp (maxDischargeDepth := 9) -implicitDefEqProofs -dsimp only [go_sem, seval, *] | simp (disch := omega) only [wrap64] | ((with_reducible refine Zu ?_ ?_); focus omega) | ((with_reducible refine Zt (fun oF hoF hnF hnF' => ?_)); (try simp only [upd_none, ne_eq, not_and] at hoF)) | ((with_reducible apply ACalls.one1); (focus ((with_reducible refine c1 _) <;> (first | (simp (maxDischargeDepth := 9) -implicitDefEqProofs -dsimp only [go_sem, seval, *]; done) | omega))); (focus (first | trivial | with_reducible exact rfl | (simp (maxDischargeDepth := 9) -implicitDefEqProofs -dsimp only [go_sem, seval]; done)))))
      refine fin_eq ?_
      (repeat' simp (maxDischargeDepth := 9) -implicitDefEqProofs -dsimp only [go_sem, seval, *])
     cases B
     ·rw [hbad (fun h => by rw [ha] at h; simp at h)]
      clear hbad hstep ha
      repeat' (first | simp (maxDischargeDepth := 9) -implicitDefEqProofs -dsimp only [go_sem, seval, *] | simp (disch := omega) only [wrap64] | ((with_reducible refine Zu ?_ ?_); focus omega) | ((with_reducible refine Zt (fun oF hoF hnF hnF' => ?_)); (try simp only [upd_none, ne_eq, not_and] at hoF)) | ((with_reducible apply ACalls.one1); (focus ((first | with_reducible refine c1 _ | with_reducible refine c2 _) <;> (first | (simp (maxDischargeDepth := 9) -implicitDefEqProofs -dsimp only [go_sem, seval, *]; done) | omega))); (focus (first | trivial | with_reducible exact rfl | (simp (maxDischargeDepth := 9) -implicitDefEqProofs -dsimp only [go_sem, seval]; done)))))
      refine fin_eq ?_
      (repeat' simp (maxDischargeDepth := 9) -implicitDefEqProofs -dsimp only [go_sem, seval, *])
     simp only [Bool.true_and] at ha
     have hyes : (∀ j, (h : j < l[i].e.length) → l[i].e[j].op = 1) → ∀ j, (h : j < l.length) → j < i + 1 → armT g l[j] = true ∧ (l[j].e.length = 0 ↔ j + 1 = l.length) := fun h => hstep ⟨by
      rw [ha, List.all_eq_true]
      intro x hx
      obtain ⟨j, hj, rfl⟩ := List.getElem_of_mem hx
      exact decide_eq_true (h j hj), rfl⟩
     have hno : ∀ j, (h : j < l[i].e.length) → ¬ l[i].e[j].op = 1 → armsT g l = false := fun j h hj => hbad fun q => by
      have q1 := q.1
      rw [ha, List.all_eq_true] at q1
      have := q1 _ (List.getElem_mem h)
      rw [decide_eq_true_eq] at this
      exact hj this
     clear hbad hstep ha
     repeat' (first | simp (maxDischargeDepth := 9) -implicitDefEqProofs -dsimp only [go_sem, seval, *] | simp (disch := omega) only [wrap64] | ((with_reducible refine Zu ?_ ?_); focus omega) | ((with_reducible refine Zt (fun oF hoF hnF hnF' => ?_)); (try simp only [upd_none, ne_eq, not_and] at hoF)) | ((with_reducible apply ACalls.one1); (focus ((first | with_reducible refine c1 _ | with_reducible refine c2 _) <;> (first | (simp (maxDischargeDepth := 9) -implicitDefEqProofs -dsimp only [go_sem, seval, *]; done) | omega))); (focus (first | trivial | with_reducible exact rfl | (simp (maxDischargeDepth := 9) -implicitDefEqProofs -dsimp only [go_sem, seval]; done)))))
     obtain ⟨o, eo⟩ : ∃ x, x = oF := ⟨oF, rfl⟩
     subst eo
     have ho : σ o = none := hoF
     clear hoF hnF hnF' c1 c2 hp1 hp2 hpp
     refine loop_rule (fun k : Nat => [(7, some (.int .i64 k)), (6, some (.ptr o 0)), (5, some (.int .i64 i)), (1, some (.slice (l.map encT) .no)), (0, some (.slice (g.map encS) .no))])
      (fun _ => upd σ o (.cells [.int .i64 4, .int .i64 0, .int .i64 0, .int .i64 0, .slice (l[i].e.map encE) .no, .slice (l[i].l.map encT) .no]))
      (fun k => k ≤ l[i].e.length ∧ ∀ j, (h : j < l[i].e.length) → j < k → l[i].e[j].op = 1) (fun k => l[i].e.length - k) 0 ?_ ?_
     ·clear hyes hno
      (repeat' simp (maxDischargeDepth := 9) -implicitDefEqProofs -dsimp only [go_sem, seval, *]) <;> (repeat' refine And.intro ?_ ?_) <;> (first | omega | skip)
     ·rintro k ⟨hk, hokk⟩
      by_cases hkt : k < l[i].e.length
      ·have hno1 := hno k hkt
       by_cases hop : l[i].e[k].op = 1
       ·have hn1 : ∀ j, (h : j < l[i].e.length) → j < k + 1 → l[i].e[j].op = 1 := fun j h h1 => by
         rcases Nat.lt_or_ge j k with q | q
         ·exact hokk j h q
         ·obtain rfl : j = k := by omega
          exact hop
        have hob : (l[i].e[k].op != 1) = false := by simp [hop]
        clear hno1 hno hyes hokk hop
        repeat' (first | simp (maxDischargeDepth := 9) -implicitDefEqProofs -dsimp only [go_sem, seval, *] | simp (disch := omega) only [wrap64] | ((with_reducible refine Zu ?_ ?_); focus omega))
        refine loop_next _ _ _ _ (k + 1) ?_; (repeat' simp (maxDischargeDepth := 9) -implicitDefEqProofs -dsimp only [go_sem, seval, *]) <;> (repeat' refine And.intro ?_ ?_) <;> (first | omega | skip)
       ·have hno1 := hno1 hop
        have hob : (l[i].e[k].op != 1) = true := by simp [hop]
        clear hno hyes hokk hop
        repeat' (first | simp (maxDischargeDepth := 9) -implicitDefEqProofs -dsimp only [go_sem, seval, *] | ((with_reducible refine Zu ?_ ?_); focus omega))
        refine fin_eq ?_
        (repeat' simp (maxDischargeDepth := 9) -implicitDefEqProofs -dsimp only [go_sem, seval, *])
      ·have hn1 := hyes fun j h => hokk j h (by omega)
       clear hno hyes hokk
       repeat' (first | simp (maxDischargeDepth := 9) -implicitDefEqProofs -dsimp only [go_sem, seval, *] | simp (disch := omega) only [wrap64])
       refine loop_next _ _ _ _ (i + 1) ?_; (repeat' simp (maxDischargeDepth := 9) -implicitDefEqProofs -dsimp only [go_sem, seval, *]) <;> (repeat' refine And.intro ?_ ?_) <;> (first | omega | skip)
    ·rw [hbad (fun h => hpp h.2)]
     clear hbad hstep
     cases p1 <;> cases p2
     ·exact (hpp rfl).elim
     ·clear hpp
      repeat' (first | simp (maxDischargeDepth := 9) -implicitDefEqProofs -dsimp only [go_sem, seval, *] | simp (disch := omega) only [wrap64] | ((with_reducible refine Zu ?_ ?_); focus omega) | ((with_reducible refine Zt (fun oF hoF hnF hnF' => ?_)); (try simp only [upd_none, ne_eq, not_and] at hoF)))
      refine fin_eq ?_
      (repeat' simp (maxDischargeDepth := 9) -implicitDefEqProofs -dsimp only [go_sem, seval, *])
     ·clear hpp
      repeat' (first | simp (maxDischargeDepth := 9) -implicitDefEqProofs -dsimp only [go_sem, seval, *] | simp (disch := omega) only [wrap64] | ((with_reducible refine Zu ?_ ?_); focus omega) | ((with_reducible refine Zt (fun oF hoF hnF hnF' => ?_)); (try simp only [upd_none, ne_eq, not_and] at hoF)))
      refine fin_eq ?_
      (repeat' simp (maxDischargeDepth := 9) -implicitDefEqProofs -dsimp only [go_sem, seval, *])
     ·exact (hpp rfl).elim
   ·rw [show decide (l[i].op = 4 ∧ l[i].sig = 0 ∧ l[i].hi = 0 ∧ l[i].lo = 0) = false from decide_eq_false hf, Bool.false_and] at ha
    rw [hbad (fun h => by rw [ha] at h; simp at h)]
    clear hbad hstep ha
    repeat' (first | simp (maxDischargeDepth := 9) -implicitDefEqProofs -dsimp only [go_sem, seval, *] | simp (disch := omega) only [wrap64] | (with_reducible (first | apply Zh | apply Zp | apply Zr) <;> intro hq) | ((with_reducible refine Zu ?_ ?_); focus omega) | ((with_reducible refine Zt (fun oF hoF hnF hnF' => ?_)); (try simp only [upd_none, ne_eq, not_and] at hoF)) | ((with_reducible apply ACalls.one1); (focus ((first | with_reducible refine c1 _ | with_reducible refine c2 _) <;> (first | (simp (maxDischargeDepth := 9) -implicitDefEqProofs -dsimp only [go_sem, seval, *]; done) | omega))); (focus (first | trivial | with_reducible exact rfl | (simp (maxDischargeDepth := 9) -implicitDefEqProofs -dsimp only [go_sem, seval]; done)))))
    all_goals first | (exfalso; apply hf; clear c1 c2; omega) | skip
    all_goals
     refine fin_eq ?_
     (repeat' simp (maxDischargeDepth := 9) -implicitDefEqProofs -dsimp only [go_sem, seval, *])
  ·have ei : i = l.length := by omega
   subst ei
   have hv : armsT g l = decide (1 ≤ (l.length : Int)) := by
    by_cases h0 : 0 < l.length
    ·rw [decide_eq_true (by omega)]
     unfold armsT
     rw [Bool.and_eq_true, decide_eq_true_eq, List.all_eq_true]
     refine ⟨⟨h0, fun j hj => (hok j hj hj).2⟩, fun x hx => ?_⟩
     obtain ⟨j, hj, rfl⟩ := List.getElem_of_mem hx
     exact (hok j hj hj).1
    ·rw [decide_eq_false (by omega)]
     unfold armsT
     rw [Bool.and_eq_false_iff]
     exact .inl (decide_eq_false fun h => h0 h.1)
   clear con1 ih hok
   repeat' simp (maxDischargeDepth := 9) -implicitDefEqProofs -dsimp only [go_sem, seval, ge_iff_le, *]
   refine fin_eq ?_
   (repeat' simp (maxDischargeDepth := 9) -implicitDefEqProofs -dsimp only [go_sem, seval, *])
set_option maxRecDepth 20000 in
set_option maxHeartbeats 2000000 in
theorem rf_statement_step (g : List Sg) (hg : g.length ≤ 1000000000000) (t : T) (hn : nodesT t ≤ 16777216) (hw : WfT t)
  (ih : ∀ τ, ACalls Try.prog 93 [.slice (g.map encS) .no, .slice (t.l.map encT) .no] τ (fun r σ' => r = .ret (.bool (t.l.all (shpT g))) ∧ σ' = τ))
  (ih2 : ∀ a ∈ t.l, ∀ τ, ACalls Try.prog 93 [.slice (g.map encS) .no, .slice (a.l.map encT) .no] τ (fun r σ' => r = .ret (.bool (a.l.all (shpT g))) ∧ σ' = τ)) (σ : Sig) :
  ACalls Try.prog 106 [.slice (g.map encS) .no, encT t] σ (fun r σ' => r = .ret (.bool (shpT g t)) ∧ σ' = σ) := by
 have h1 := encTs_eq t
 have l1 := lenE_nodes t
 have l2 := lenL_nodes t
 have l3 := sub_nodesT t
 have w8 := (WfT_iff t).1 hw
 have c1 := fun τ => rf_shapes g hg t.e (by have := nodesT_eq t; omega) w8.2.1 τ
 have c2 := ih
 have c3 := fun τ => rf_arms_step g hg t.l (by omega) w8.2.2 ih2 τ
 have c4 := fun τ => rf_place g t.sig t.hi t.lo τ hg
 have hs := shpT_eq g t
 obtain ⟨A, hA⟩ : ∃ A, t.e.all (shp g) = A := ⟨_, rfl⟩
 obtain ⟨B, hB⟩ : ∃ A, t.l.all (shpT g) = A := ⟨_, rfl⟩
 obtain ⟨C, hC⟩ : ∃ A, armsT g t.l = A := ⟨_, rfl⟩
 obtain ⟨D, hD⟩ : ∃ A, place g t.sig t.hi t.lo = A := ⟨_, rfl⟩
 rw [hA] at c1 hs
 rw [hB] at c2 hs
 rw [hC] at c3 hs
 rw [hD] at c4 hs
 clear ih ih2 w8 hw hA hB hC hD
 refine calls_x mixed Try.func106 b106 n106 rfl q106 (by simp) ?_; unfold c106 r106
 by_cases o1 : t.op = 1
 ·rw [if_pos o1] at hs
  cases A
  case false =>
   simp only [Bool.false_and] at hs
   clear c2 c3 c4
   repeat' (first | simp (maxDischargeDepth := 9) -implicitDefEqProofs -dsimp only [go_sem, seval, *] | ((with_reducible apply ACalls.one1); (focus ((with_reducible refine c1 _) <;> (first | (simp (maxDischargeDepth := 9) -implicitDefEqProofs -dsimp only [go_sem, seval, *]; done) | omega))); (focus (first | trivial | with_reducible exact rfl | (simp (maxDischargeDepth := 9) -implicitDefEqProofs -dsimp only [go_sem, seval]; done)))))
   refine fin_eq ?_
   (repeat' simp (maxDischargeDepth := 9) -implicitDefEqProofs -dsimp only [go_sem, seval, *])
  have hdx : decide (t.e.length = 1 ∧ t.l.length = 0) = (((t.e.length : Int) == 1) && ((t.l.length : Int) == 0)) := by
   rw [Bool.eq_iff_iff]; simp; omega
  rw [hdx] at hs
  obtain ⟨x, hx⟩ : ∃ x, ((t.e.length : Int) == 1) = x := ⟨_, rfl⟩
  obtain ⟨y, hy⟩ : ∃ x, ((t.l.length : Int) == 0) = x := ⟨_, rfl⟩
  rw [hx, hy] at hs
  clear c2 c3 hdx
  cases D <;> cases x <;> cases y <;> simp only [Bool.true_and, Bool.false_and, Bool.and_false, Bool.and_true] at hs
  all_goals
   repeat' (first | simp (maxDischargeDepth := 9) -implicitDefEqProofs -dsimp only [go_sem, seval, *] | ((with_reducible apply ACalls.one1); (focus ((first | with_reducible refine c1 _ | with_reducible refine c4 _) <;> (first | (simp (maxDischargeDepth := 9) -implicitDefEqProofs -dsimp only [go_sem, seval, *]; done) | omega))); (focus (first | trivial | with_reducible exact rfl | (simp (maxDischargeDepth := 9) -implicitDefEqProofs -dsimp only [go_sem, seval]; done)))))
   refine fin_eq ?_
   (repeat' simp (maxDischargeDepth := 9) -implicitDefEqProofs -dsimp only [go_sem, seval, *])
 rw [if_neg o1] at hs
 have ob1 : (t.op != 1) = true := by simp [o1]
 by_cases hz : t.sig = 0 ∧ t.hi = 0 ∧ t.lo = 0
 case neg =>
  have hv : shpT g t = false := by rw [hs, decide_eq_false hz]; simp
  clear hs c2 c3 c4
  repeat' (first | simp (maxDischargeDepth := 9) -implicitDefEqProofs -dsimp only [go_sem, seval, *] | (with_reducible (first | apply Zd | apply Zf | apply Zh | apply Zr) <;> intro hq) | ((with_reducible refine Zu ?_ ?_); focus omega) | ((with_reducible apply ACalls.one1); (focus ((with_reducible refine c1 _) <;> (first | (simp (maxDischargeDepth := 9) -implicitDefEqProofs -dsimp only [go_sem, seval, *]; done) | omega))); (focus (first | trivial | with_reducible exact rfl | (simp (maxDischargeDepth := 9) -implicitDefEqProofs -dsimp only [go_sem, seval]; done)))))
  all_goals first | (exfalso; apply hz; clear c1; omega) | skip
  all_goals
   refine fin_eq ?_
   (repeat' simp (maxDischargeDepth := 9) -implicitDefEqProofs -dsimp only [go_sem, seval, *])
 rw [decide_eq_true hz] at hs
 simp only [Bool.true_and] at hs
 obtain ⟨z1, z2, z3⟩ := hz
 cases A
 case false =>
  simp only [Bool.false_and] at hs
  clear c2 c3 c4
  repeat' (first | simp (maxDischargeDepth := 9) -implicitDefEqProofs -dsimp only [go_sem, seval, *] | ((with_reducible apply ACalls.one1); (focus ((with_reducible refine c1 _) <;> (first | (simp (maxDischargeDepth := 9) -implicitDefEqProofs -dsimp only [go_sem, seval, *]; done) | omega))); (focus (first | trivial | with_reducible exact rfl | (simp (maxDischargeDepth := 9) -implicitDefEqProofs -dsimp only [go_sem, seval]; done)))))
  refine fin_eq ?_
  (repeat' simp (maxDischargeDepth := 9) -implicitDefEqProofs -dsimp only [go_sem, seval, *])
 simp only [Bool.true_and] at hs
 by_cases o2 : t.op = 2
 ·rw [if_pos o2] at hs
  clear c3 c4
  by_cases hb : t.e.length = 1 ∧ t.l.length = 2
  ·obtain ⟨b1, b2⟩ := hb
   have b3 : (0 : Int) < t.l.length := by omega
   have b4 : (1 : Int) < t.l.length := by omega
   have b5 : 0 < t.l.length := by omega
   have b6 : 1 < t.l.length := by omega
   have hall : (t.l.all fun x => decide (x.op = 5)) = (decide (t.l[0].op = 5) && decide (t.l[1].op = 5)) := by
    obtain ⟨x, y, hxy⟩ := len2 b2
    simp [hxy]
   rw [decide_eq_true ⟨b1, b2⟩, Bool.true_and, hall] at hs
   clear hall
   obtain ⟨u, hu⟩ : ∃ u, (t.l[0].op == 5) = u := ⟨_, rfl⟩
   obtain ⟨v, hv⟩ : ∃ u, (t.l[1].op == 5) = u := ⟨_, rfl⟩
   have hu2 : decide (t.l[0].op = 5) = u := by rw [← hu]; rfl
   have hv2 : decide (t.l[1].op = 5) = v := by rw [← hv]; rfl
   rw [hu2, hv2] at hs
   clear hu2 hv2
   cases u <;> cases v <;> simp only [Bool.true_and, Bool.false_and, Bool.and_false] at hs
   all_goals
    repeat' (first | simp (maxDischargeDepth := 9) -implicitDefEqProofs -dsimp only [go_sem, seval, *] | ((with_reducible refine Zu ?_ ?_); focus omega) | ((with_reducible apply ACalls.one1); (focus ((first | with_reducible refine c1 _ | with_reducible refine c2 _) <;> (first | (simp (maxDischargeDepth := 9) -implicitDefEqProofs -dsimp only [go_sem, seval, *]; done) | omega))); (focus (first | trivial | with_reducible exact rfl | (simp (maxDischargeDepth := 9) -implicitDefEqProofs -dsimp only [go_sem, seval]; done)))))
    refine fin_eq ?_
    (repeat' simp (maxDischargeDepth := 9) -implicitDefEqProofs -dsimp only [go_sem, seval, *])
  ·rw [decide_eq_false hb] at hs
   simp only [Bool.false_and] at hs
   repeat' (first | simp (maxDischargeDepth := 9) -implicitDefEqProofs -dsimp only [go_sem, seval, *] | (with_reducible (first | apply Zd | apply Zf | apply Zh | apply Zr) <;> intro hq) | ((with_reducible refine Zu ?_ ?_); focus omega) | ((with_reducible apply ACalls.one1); (focus ((first | with_reducible refine c1 _ | with_reducible refine c2 _) <;> (first | (simp (maxDischargeDepth := 9) -implicitDefEqProofs -dsimp only [go_sem, seval, *]; done) | omega))); (focus (first | trivial | with_reducible exact rfl | (simp (maxDischargeDepth := 9) -implicitDefEqProofs -dsimp only [go_sem, seval]; done)))))
   all_goals first | (exfalso; apply hb; clear c1 c2; omega) | skip
   all_goals
    refine fin_eq ?_
    (repeat' simp (maxDischargeDepth := 9) -implicitDefEqProofs -dsimp only [go_sem, seval, *])
 rw [if_neg o2] at hs
 by_cases o3 : t.op = 3
 ·rw [if_pos o3] at hs
  by_cases hb : t.e.length = 1
  ·rw [decide_eq_true hb, Bool.true_and] at hs
   clear c2 c4
   repeat' (first | simp (maxDischargeDepth := 9) -implicitDefEqProofs -dsimp only [go_sem, seval, *] | ((with_reducible apply ACalls.one1); (focus ((first | with_reducible refine c1 _ | with_reducible refine c3 _) <;> (first | (simp (maxDischargeDepth := 9) -implicitDefEqProofs -dsimp only [go_sem, seval, *]; done) | omega))); (focus (first | trivial | with_reducible exact rfl | (simp (maxDischargeDepth := 9) -implicitDefEqProofs -dsimp only [go_sem, seval]; done)))))
   refine fin_eq ?_
   (repeat' simp (maxDischargeDepth := 9) -implicitDefEqProofs -dsimp only [go_sem, seval, *])
  ·rw [decide_eq_false hb, Bool.false_and] at hs
   have hb2 : ((t.e.length : Int) == 1) = false := by simp; omega
   clear c2 c4 hb
   repeat' (first | simp (maxDischargeDepth := 9) -implicitDefEqProofs -dsimp only [go_sem, seval, *] | ((with_reducible apply ACalls.one1); (focus ((with_reducible refine c1 _) <;> (first | (simp (maxDischargeDepth := 9) -implicitDefEqProofs -dsimp only [go_sem, seval, *]; done) | omega))); (focus (first | trivial | with_reducible exact rfl | (simp (maxDischargeDepth := 9) -implicitDefEqProofs -dsimp only [go_sem, seval]; done)))))
   refine fin_eq ?_
   (repeat' simp (maxDischargeDepth := 9) -implicitDefEqProofs -dsimp only [go_sem, seval, *])
 rw [if_neg o3] at hs
 by_cases o5 : t.op = 5
 ·rw [if_pos o5] at hs
  clear c3 c4
  by_cases hb : t.e.length = 0
  ·rw [decide_eq_true hb, Bool.true_and] at hs
   repeat' (first | simp (maxDischargeDepth := 9) -implicitDefEqProofs -dsimp only [go_sem, seval, gt_iff_lt, *] | ((with_reducible apply ACalls.one1); (focus ((first | with_reducible refine c1 _ | with_reducible refine c2 _) <;> (first | (simp (maxDischargeDepth := 9) -implicitDefEqProofs -dsimp only [go_sem, seval, *]; done) | omega))); (focus (first | trivial | with_reducible exact rfl | (simp (maxDischargeDepth := 9) -implicitDefEqProofs -dsimp only [go_sem, seval]; done)))))
   refine fin_eq ?_
   (repeat' simp (maxDischargeDepth := 9) -implicitDefEqProofs -dsimp only [go_sem, seval, *])
  ·rw [decide_eq_false hb, Bool.false_and] at hs
   have hb2 : ((t.e.length : Int) == 0) = false := by
    rw [beq_eq_false_iff_ne]; omega
   clear hb
   repeat' (first | simp (maxDischargeDepth := 9) -implicitDefEqProofs -dsimp only [go_sem, seval, gt_iff_lt, *] | ((with_reducible apply ACalls.one1); (focus ((with_reducible refine c1 _) <;> (first | (simp (maxDischargeDepth := 9) -implicitDefEqProofs -dsimp only [go_sem, seval, *]; done) | omega))); (focus (first | trivial | with_reducible exact rfl | (simp (maxDischargeDepth := 9) -implicitDefEqProofs -dsimp only [go_sem, seval]; done)))))
   refine fin_eq ?_
   (repeat' simp (maxDischargeDepth := 9) -implicitDefEqProofs -dsimp only [go_sem, seval, *])
 rw [if_neg o5] at hs
 have ob2 : (t.op == 2) = false := by simp [o2]
 have ob3 : (t.op == 3) = false := by simp [o3]
 have ob5 : (t.op == 5) = false := by simp [o5]
 have ob6 : (t.op == 1) = false := by simp [o1]
 clear o1 o2 o3 o5 c2 c3 c4
 repeat' (first | simp (maxDischargeDepth := 9) -implicitDefEqProofs -dsimp only [go_sem, seval, *] | ((with_reducible apply ACalls.one1); (focus ((with_reducible refine c1 _) <;> (first | (simp (maxDischargeDepth := 9) -implicitDefEqProofs -dsimp only [go_sem, seval, *]; done) | omega))); (focus (first | trivial | with_reducible exact rfl | (simp (maxDischargeDepth := 9) -implicitDefEqProofs -dsimp only [go_sem, seval]; done)))))
 refine fin_eq ?_
 (repeat' simp (maxDischargeDepth := 9) -implicitDefEqProofs -dsimp only [go_sem, seval, *])
theorem rf_statement (g : List Sg) (hg : g.length ≤ 1000000000000) (t : T) (hn : nodesT t ≤ 16777216) (hw : WfT t) :
  (∀ τ, ACalls Try.prog 106 [.slice (g.map encS) .no, encT t] τ (fun r σ' => r = .ret (.bool (shpT g t)) ∧ σ' = τ)) ∧
   ∀ τ, ACalls Try.prog 93 [.slice (g.map encS) .no, .slice (t.l.map encT) .no] τ (fun r σ' => r = .ret (.bool (t.l.all (shpT g))) ∧ σ' = τ) := by
 refine T.ind (P := fun t => nodesT t ≤ 16777216 → WfT t → (∀ τ, ACalls Try.prog 106 [.slice (g.map encS) .no, encT t] τ (fun r σ' => r = .ret (.bool (shpT g t)) ∧ σ' = τ)) ∧
   ∀ τ, ACalls Try.prog 93 [.slice (g.map encS) .no, .slice (t.l.map encT) .no] τ (fun r σ' => r = .ret (.bool (t.l.all (shpT g))) ∧ σ' = τ)) (fun t ih hn hw => ?_) t hn hw
 have h := fun (x : T) (hx : x ∈ t.l) => ih x hx (by have := partT_nodes hx; omega) (((WfT_iff t).1 hw).2.2 x hx)
 have h2 := fun τ => rf_statements_step g t.l (by have := lenL_nodes t; omega) (fun x hx => (h x hx).1) τ
 exact ⟨fun τ => rf_statement_step g hg t hn hw h2 (fun a ha => (h a ha).2) τ, h2⟩
theorem rf_statements (g : List Sg) (hg : g.length ≤ 1000000000000) (l : List T) (hn : (l.map nodesT).sum ≤ 16777216) (hw : ∀ t ∈ l, WfT t) (σ : Sig) :
  ACalls Try.prog 93 [.slice (g.map encS) .no, .slice (l.map encT) .no] σ (fun r σ' => r = .ret (.bool (l.all (shpT g))) ∧ σ' = σ) :=
 rf_statements_step g l (by have := len_sum nodesT_pos l; omega) (fun x hx => (rf_statement g hg x (by have := mem_sum (f := nodesT) hx; omega) (hw x hx)).1) σ
end Go.Proofs.Ytdiebjnjhgbklaa

namespace Go.Proofs.Ytdiebjnjhgbklaa
open Abs Fil Fil.Sz
theorem all_false {α : Type} {p : α → Bool} {l : List α} {i : Nat} (h : i < l.length) (hp : p l[i] = false) : l.all p = false := by
 rw [List.all_eq_false]; exact ⟨_, List.getElem_mem h, by rw [hp]; simp⟩
theorem all_true {α : Type} {p : α → Bool} {l : List α} (h : ∀ j, (hj : j < l.length) → p l[j] = true) : l.all p = true := by
 rw [List.all_eq_true]
 intro x hx
 obtain ⟨j, hj, rfl⟩ := List.getElem_of_mem hx
 exact h j hj
theorem all_next {α : Type} {p : α → Bool} {l : List α} {i : Nat} (h : i < l.length) (hok : ∀ j, (hj : j < l.length) → j < i → p l[j] = true) (hp : p l[i] = true) : ∀ j, (hj : j < l.length) → j < i + 1 → p l[j] = true := fun j hj h1 => by
 rcases Nat.lt_or_ge j i with q | q
 ·exact hok j hj q
 ·obtain rfl : j = i := by omega
  exact hp
theorem rf_fills (l : List Sg) (hl : l.length ≤ 1000000000000) (hw : ∀ s ∈ l, WfS s) (hg : SgOk l) (σ : Sig) : ACalls Try.prog 53 [.slice (l.map encS) .no] σ (fun r σ' => r = .ret (.bool (l.all fun s => holds s.w s.init)) ∧ σ' = σ) := by
 have con := fun (s : Sg) (hs : s ∈ l) τ => rf_Holds s.w s.init τ (by have := hg s hs; omega) (by have := hg s hs; omega) (hw s hs).2.2
 clear hw hg
 refine calls_x mixed Try.func53 b53 n53 rfl q53 (by simp) ?_; unfold c53 r53
 repeat' simp (maxDischargeDepth := 9) -implicitDefEqProofs -dsimp only [go_sem, seval, *]
 refine loop_rule (fun i : Nat => [(3, some (.int .i64 i)), (0, some (.slice (l.map encS) .no))]) (fun _ => σ) (fun i => i ≤ l.length ∧ ∀ j, (h : j < l.length) → j < i → (fun s => holds s.w s.init) l[j] = true) (fun i => l.length - i) 0 ?_ ?_
 ·clear con
  (repeat' simp (maxDischargeDepth := 9) -implicitDefEqProofs -dsimp only [go_sem, seval, *]) <;> (repeat' refine And.intro ?_ ?_) <;> (first | omega | skip)
 ·rintro i ⟨hi, hok⟩
  by_cases hlt : i < l.length
  ·have hc := con l[i] (List.getElem_mem hlt)
   have hn := all_next (p := fun s : Sg => holds s.w s.init) hlt hok
   have hf := all_false (p := fun s : Sg => holds s.w s.init) hlt
   obtain ⟨b, hb⟩ : ∃ b, holds l[i].w l[i].init = b := ⟨_, rfl⟩
   rw [hb] at hc
   cases b with
   | false =>
    have hv := hf hb
    clear con hok hn hf hb
    repeat' (first | simp (maxDischargeDepth := 9) -implicitDefEqProofs -dsimp only [go_sem, seval, *] | simp (disch := omega) only [wrap64] | ((with_reducible refine Zu ?_ ?_); focus omega) | ((with_reducible apply id_one0); (focus (intro tS hS; ((with_reducible refine hc _) <;> (first | (simp (maxDischargeDepth := 9) -implicitDefEqProofs -dsimp only [go_sem, seval, *]; done) | omega | ((with_reducible refine Sub.get hS ?_); simp (maxDischargeDepth := 9) -implicitDefEqProofs -dsimp only [go_sem, seval, *]; done))))); (focus (first | trivial | (simp (maxDischargeDepth := 9) -implicitDefEqProofs -dsimp only [go_sem, seval, *]; done)))))
    refine fin_eq ?_
    (repeat' simp (maxDischargeDepth := 9) -implicitDefEqProofs -dsimp only [go_sem, seval, *])
   | true =>
    have hn := hn hb
    clear con hok hf hb
    repeat' (first | simp (maxDischargeDepth := 9) -implicitDefEqProofs -dsimp only [go_sem, seval, *] | simp (disch := omega) only [wrap64] | ((with_reducible refine Zu ?_ ?_); focus omega) | ((with_reducible apply id_one0); (focus (intro tS hS; ((with_reducible refine hc _) <;> (first | (simp (maxDischargeDepth := 9) -implicitDefEqProofs -dsimp only [go_sem, seval, *]; done) | omega | ((with_reducible refine Sub.get hS ?_); simp (maxDischargeDepth := 9) -implicitDefEqProofs -dsimp only [go_sem, seval, *]; done))))); (focus (first | trivial | (simp (maxDischargeDepth := 9) -implicitDefEqProofs -dsimp only [go_sem, seval, *]; done)))))
    refine loop_next _ _ _ _ (i + 1) ?_; (repeat' simp (maxDischargeDepth := 9) -implicitDefEqProofs -dsimp only [go_sem, seval, *]) <;> (repeat' refine And.intro ?_ ?_) <;> (first | omega | skip)
  ·have hv := all_true (p := fun s : Sg => holds s.w s.init) fun j hj => hok j hj (by omega)
   clear con hok
   repeat' simp (maxDischargeDepth := 9) -implicitDefEqProofs -dsimp only [go_sem, seval, *]
   refine fin_eq ?_
   (repeat' simp (maxDischargeDepth := 9) -implicitDefEqProofs -dsimp only [go_sem, seval, *])
theorem rf_shaped (d : Flat) (σ : Sig) (hd : Sm d) (hw : WfD d) : ACalls Try.prog 52 [encD d] σ (fun r σ' => r = .ret (.bool (shapedD d)) ∧ σ' = σ) := by
 have l1 := hd.1
 have l2 := hd.2.1
 have l3 := hd.2.2.1
 have c1 := fun τ => rf_Signals d.sigs τ (by omega)
 have con2 := fun (p : Pr) (hp : p ∈ d.procs) τ => rf_statements d.sigs (by omega) p.l (by have h := sm_pr hd hp; unfold nodesP at h; omega) (hw.procs p hp) τ
 have con3 := fun (x : Ck) (hx : x ∈ d.chks) τ => rf_Shape d.sigs (by omega) x.e τ (sm_ck hd hx) (hw.chks x hx)
 have hs : shapedD d = (d.procs.all (fun p => p.l.all (shpT d.sigs)) && (d.chks.all (fun x => shp d.sigs x.e) && sigsOk d.sigs)) := by
  unfold shapedD
  rw [Bool.and_assoc, Bool.and_comm, Bool.and_assoc]
 obtain ⟨A, hA⟩ : ∃ A, sigsOk d.sigs = A := ⟨_, rfl⟩
 rw [hA] at c1 hs
 obtain ⟨R, hR⟩ : ∃ R, shapedD d = R := ⟨_, rfl⟩
 rw [hR] at hs ⊢
 clear hA hw hd hR
 refine calls_x mixed Try.func52 b52 n52 rfl q52 (by simp) ?_; unfold c52 r52
 repeat' simp (maxDischargeDepth := 9) -implicitDefEqProofs -dsimp only [go_sem, seval, *]
 refine loop_rule (fun i : Nat => [(3, some (.int .i64 i)), (1, some (.cptr (dL d)))]) (fun _ => σ) (fun i => i ≤ d.procs.length ∧ ∀ j, (h : j < d.procs.length) → j < i → (fun p : Pr => p.l.all (shpT d.sigs)) d.procs[j] = true) (fun i => d.procs.length - i) 0 ?_ ?_
 ·clear c1 con2 con3 hs
  (repeat' simp (maxDischargeDepth := 9) -implicitDefEqProofs -dsimp only [go_sem, seval, *]) <;> (repeat' refine And.intro ?_ ?_) <;> (first | omega | skip)
 ·rintro i ⟨hi, hok⟩
  by_cases hlt : i < d.procs.length
  ·have hc := con2 d.procs[i] (List.getElem_mem hlt)
   have hn := all_next (p := fun p : Pr => p.l.all (shpT d.sigs)) hlt hok
   have hf := all_false (p := fun p : Pr => p.l.all (shpT d.sigs)) hlt
   obtain ⟨b, hb⟩ : ∃ b, d.procs[i].l.all (shpT d.sigs) = b := ⟨_, rfl⟩
   rw [hb] at hc
   cases b with
   | false =>
    have hv := hf hb
    rw [hv, Bool.false_and] at hs
    clear c1 con2 con3 hok hn hf hb hv
    repeat' (first | simp (maxDischargeDepth := 9) -implicitDefEqProofs -dsimp only [go_sem, seval, *] | simp (disch := omega) only [wrap64] | ((with_reducible refine Zu ?_ ?_); focus omega) | ((with_reducible apply id_one0); (focus (intro tS hS; ((with_reducible refine hc _) <;> (first | (simp (maxDischargeDepth := 9) -implicitDefEqProofs -dsimp only [go_sem, seval, *]; done) | omega | ((with_reducible refine Sub.get hS ?_); simp (maxDischargeDepth := 9) -implicitDefEqProofs -dsimp only [go_sem, seval, *]; done))))); (focus (first | trivial | (simp (maxDischargeDepth := 9) -implicitDefEqProofs -dsimp only [go_sem, seval, *]; done)))))
    refine fin_eq ?_
    (repeat' simp (maxDischargeDepth := 9) -implicitDefEqProofs -dsimp only [go_sem, seval, *])
   | true =>
    have hn := hn hb
    clear c1 con2 con3 hok hf hb hs
    repeat' (first | simp (maxDischargeDepth := 9) -implicitDefEqProofs -dsimp only [go_sem, seval, *] | simp (disch := omega) only [wrap64] | ((with_reducible refine Zu ?_ ?_); focus omega) | ((with_reducible apply id_one0); (focus (intro tS hS; ((with_reducible refine hc _) <;> (first | (simp (maxDischargeDepth := 9) -implicitDefEqProofs -dsimp only [go_sem, seval, *]; done) | omega | ((with_reducible refine Sub.get hS ?_); simp (maxDischargeDepth := 9) -implicitDefEqProofs -dsimp only [go_sem, seval, *]; done))))); (focus (first | trivial | (simp (maxDischargeDepth := 9) -implicitDefEqProofs -dsimp only [go_sem, seval, *]; done)))))
    refine loop_next _ _ _ _ (i + 1) ?_; (repeat' simp (maxDischargeDepth := 9) -implicitDefEqProofs -dsimp only [go_sem, seval, *]) <;> (repeat' refine And.intro ?_ ?_) <;> (first | omega | skip)
  ·have hv := all_true (p := fun p : Pr => p.l.all (shpT d.sigs)) fun j hj => hok j hj (by omega)
   rw [hv, Bool.true_and] at hs
   clear con2 hok hv
   repeat' simp (maxDischargeDepth := 9) -implicitDefEqProofs -dsimp only [go_sem, seval, *]
   refine loop_rule (fun k : Nat => [(4, some (.int .i64 k)), (1, some (.cptr (dL d)))]) (fun _ => σ) (fun k => k ≤ d.chks.length ∧ ∀ j, (h : j < d.chks.length) → j < k → (fun x : Ck => shp d.sigs x.e) d.chks[j] = true) (fun k => d.chks.length - k) 0 ?_ ?_
   ·clear c1 con3 hs
    (repeat' simp (maxDischargeDepth := 9) -implicitDefEqProofs -dsimp only [go_sem, seval, *]) <;> (repeat' refine And.intro ?_ ?_) <;> (first | omega | skip)
   ·rintro k ⟨hk, hok⟩
    by_cases hkt : k < d.chks.length
    ·have hx := encEs_eq d.chks[k].e
     have hc := con3 d.chks[k] (List.getElem_mem hkt)
     have hn := all_next (p := fun x : Ck => shp d.sigs x.e) hkt hok
     have hf := all_false (p := fun x : Ck => shp d.sigs x.e) hkt
     obtain ⟨b, hb⟩ : ∃ b, shp d.sigs d.chks[k].e = b := ⟨_, rfl⟩
     rw [hb] at hc
     cases b with
     | false =>
      have hv := hf hb
      rw [hv, Bool.false_and] at hs
      clear c1 con3 hok hn hf hb hv hx
      repeat' (first | simp (maxDischargeDepth := 9) -implicitDefEqProofs -dsimp only [go_sem, seval, *] | simp (disch := omega) only [wrap64] | ((with_reducible refine Zu ?_ ?_); focus omega) | ((with_reducible apply id_one0); (focus (intro tS hS; ((with_reducible refine hc _) <;> (first | (simp (maxDischargeDepth := 9) -implicitDefEqProofs -dsimp only [go_sem, seval, *]; done) | omega | ((with_reducible refine Sub.get hS ?_); simp (maxDischargeDepth := 9) -implicitDefEqProofs -dsimp only [go_sem, seval, *]; done))))); (focus (first | trivial | (simp (maxDischargeDepth := 9) -implicitDefEqProofs -dsimp only [go_sem, seval, *]; done)))))
      refine fin_eq ?_
      (repeat' simp (maxDischargeDepth := 9) -implicitDefEqProofs -dsimp only [go_sem, seval, *])
     | true =>
      have hn := hn hb
      clear c1 con3 hok hf hb hs hx
      repeat' (first | simp (maxDischargeDepth := 9) -implicitDefEqProofs -dsimp only [go_sem, seval, *] | simp (disch := omega) only [wrap64] | ((with_reducible refine Zu ?_ ?_); focus omega) | ((with_reducible apply id_one0); (focus (intro tS hS; ((with_reducible refine hc _) <;> (first | (simp (maxDischargeDepth := 9) -implicitDefEqProofs -dsimp only [go_sem, seval, *]; done) | omega | ((with_reducible refine Sub.get hS ?_); simp (maxDischargeDepth := 9) -implicitDefEqProofs -dsimp only [go_sem, seval, *]; done))))); (focus (first | trivial | (simp (maxDischargeDepth := 9) -implicitDefEqProofs -dsimp only [go_sem, seval, *]; done)))))
      refine loop_next _ _ _ _ (k + 1) ?_; (repeat' simp (maxDischargeDepth := 9) -implicitDefEqProofs -dsimp only [go_sem, seval, *]) <;> (repeat' refine And.intro ?_ ?_) <;> (first | omega | skip)
    ·have hv := all_true (p := fun x : Ck => shp d.sigs x.e) fun j hj => hok j hj (by omega)
     rw [hv, Bool.true_and] at hs
     clear con3 hok hv
     repeat' (first | simp (maxDischargeDepth := 9) -implicitDefEqProofs -dsimp only [go_sem, seval, *] | ((with_reducible apply ACalls.one1); (focus ((with_reducible refine c1 _) <;> (first | (simp (maxDischargeDepth := 9) -implicitDefEqProofs -dsimp only [go_sem, seval, *]; done) | omega))); (focus (first | trivial | with_reducible exact rfl | (simp (maxDischargeDepth := 9) -implicitDefEqProofs -dsimp only [go_sem, seval]; done)))))
     refine fin_eq ?_
     (repeat' simp (maxDischargeDepth := 9) -implicitDefEqProofs -dsimp only [go_sem, seval, *])
end Go.Proofs.Ytdiebjnjhgbklaa

namespace Go.Proofs.Ytdiebjnjhgbklaa
open Abs Fil Fil.Sz
abbrev szrC (g : List Sg) (e : Int) : AObj := .cells [.slice (g.map encS) .no, .int .i64 e]
theorem sz_expr (o : Nat) (g : List Sg) (hg : SgOk g) (e0 : Int) (x : E) (w : Int) (σ : Sig) (h : σ o = some (szrC g e0)) (hs : shp g x = true) (hn : nodes x ≤ 16777216) (hw : WfE x) (hw0 : -1 ≤ w) :
  ACalls Try.prog 50 [.ptr o 0, encE x, .int .i64 w] σ (fun r σ' => r = .ret (encE (exprS x w e0).1) ∧ σ' = upd σ o (szrC g (exprS x w e0).2)) := by
 have c1 := fun τ => sz_size g hg x w τ hs hn hw hw0
 have hv : exprS x w e0 = if e0 ≠ 0 then (zE, e0) else size x w := rfl
 have hu : upd σ o (szrC g e0) = σ := by
  funext k
  by_cases hk : k = o
  ·subst hk; simp [upd, h]
  ·simp [upd, hk]
 refine calls_x mixed Try.func50 b50 n50 rfl q50 (by simp) ?_; unfold c50 r50
 by_cases he : e0 = 0
 ·rw [if_neg (by omega)] at hv
  obtain ⟨⟨y, f⟩, hR⟩ : ∃ R, size x w = R := ⟨_, rfl⟩
  rw [hR] at c1 hv
  rw [hv]
  clear hv hR hs hn hw hw0 hu
  subst he
  repeat' (first | simp (maxDischargeDepth := 9) -implicitDefEqProofs -dsimp only [go_sem, seval, *] | ((with_reducible refine Zt (fun oF hoF hnF hnF' => ?_)); (try simp only [upd_none, ne_eq, not_and] at hoF)) | ((with_reducible apply ACalls.one1); (focus ((with_reducible refine c1 _) <;> (first | (simp (maxDischargeDepth := 9) -implicitDefEqProofs -dsimp only [go_sem, seval, *]; done) | omega))); (focus (first | trivial | with_reducible exact rfl | (simp (maxDischargeDepth := 9) -implicitDefEqProofs -dsimp only [go_sem, seval]; done)))))
  refine fin_eq ?_
  (repeat' simp (maxDischargeDepth := 9) -implicitDefEqProofs -dsimp only [go_sem, seval, *])
 ·rw [if_pos he] at hv
  rw [hv, encE_zero, hu]
  have hb : (e0 != 0) = true := by simp [he]
  clear hv hs hn hw hw0 hu c1 he
  repeat' (first | simp (maxDischargeDepth := 9) -implicitDefEqProofs -dsimp only [go_sem, seval, *] | ((with_reducible refine Zt (fun oF hoF hnF hnF' => ?_)); (try simp only [upd_none, ne_eq, not_and] at hoF)))
  refine fin_eq ?_
  (repeat' simp (maxDischargeDepth := 9) -implicitDefEqProofs -dsimp only [go_sem, seval, *])
end Go.Proofs.Ytdiebjnjhgbklaa

namespace Fil.Sz
open Abs
def oneG : List Sg := [⟨⟨#[97]⟩, 8, 1, 0⟩]
def oneD : Flat := ⟨oneG, [], []⟩
def sigE (hi lo : Int) : E := .mk 2 0 0 0 hi lo 0 []
def numE (v : Int) : E := .mk 1 0 v 0 0 0 0 []
def binE (op : Int) (a b : E) : E := .mk 5 0 0 0 0 0 op [a, b]
def liveX : E := .mk 5 8 0 0 0 0 14 [.mk 2 8 0 0 7 0 0 [], .mk 1 8 1 0 0 0 0 []]
theorem oneG_ok : sigsOk oneG = true := by
 rw [sigsOk_iff]
 intro j hj _
 have : j = 0 := by simp [oneG] at hj; omega
 subst this
 refine ⟨⟨?_, by simp [oneG], by simp [oneG], by simp [oneG], by simp [oneG], .inr rfl⟩, fun k hk => absurd hk (Nat.not_lt_zero _)⟩
 intro h
 have := congrArg (fun b : ByteArray => b.data.size) h
 simp [oneG, noName] at this
theorem exprD_do {d : Flat} {e x : E} {w f : Int} (h1 : sigsOk d.sigs = true) (h2 : 0 ≤ w ∧ w ≤ 64) (h3 : shp d.sigs e = true) (h4 : nodes e ≤ 65536 ∧ deep e ≤ 64) (h5 : size e w = (x, f)) : exprD d e w = (x, f) := by
 unfold exprD
 rw [if_neg (by rw [h1, h3]; simp; omega), if_neg (by omega), h5]
theorem live_a : exprD oneD (binE 14 (sigE 7 0) (numE 1)) 0 = (liveX, 0) := exprD_do oneG_ok (by omega) (by simp [shp_eq, node, place, holds, oneG, oneD, sigE, numE, binE, liveX, nodes_eq, deep_eq, maxL, size_eq, own_eq, wide, told, wants, fst0, cat0, runL, sizeK, part0, E.set, E.op, E.w, E.v, E.sig, E.hi, E.lo, E.n, E.l, zS, zE]) (by constructor <;> simp [shp_eq, node, place, holds, oneG, oneD, sigE, numE, binE, liveX, nodes_eq, deep_eq, maxL, size_eq, own_eq, wide, told, wants, fst0, cat0, runL, sizeK, part0, E.set, E.op, E.w, E.v, E.sig, E.hi, E.lo, E.n, E.l, zS, zE]) (by simp [shp_eq, node, place, holds, oneG, oneD, sigE, numE, binE, liveX, nodes_eq, deep_eq, maxL, size_eq, own_eq, wide, told, wants, fst0, cat0, runL, sizeK, part0, E.set, E.op, E.w, E.v, E.sig, E.hi, E.lo, E.n, E.l, zS, zE])
theorem live_b : exprD oneD (binE 19 (sigE 7 0) (numE 300)) 0 = (zE, 92) := exprD_do oneG_ok (by omega) (by simp [shp_eq, node, place, holds, oneG, oneD, sigE, numE, binE, liveX, nodes_eq, deep_eq, maxL, size_eq, own_eq, wide, told, wants, fst0, cat0, runL, sizeK, part0, E.set, E.op, E.w, E.v, E.sig, E.hi, E.lo, E.n, E.l, zS, zE]) (by constructor <;> simp [shp_eq, node, place, holds, oneG, oneD, sigE, numE, binE, liveX, nodes_eq, deep_eq, maxL, size_eq, own_eq, wide, told, wants, fst0, cat0, runL, sizeK, part0, E.set, E.op, E.w, E.v, E.sig, E.hi, E.lo, E.n, E.l, zS, zE]) (by simp [shp_eq, node, place, holds, oneG, oneD, sigE, numE, binE, liveX, nodes_eq, deep_eq, maxL, size_eq, own_eq, wide, told, wants, fst0, cat0, runL, sizeK, part0, E.set, E.op, E.w, E.v, E.sig, E.hi, E.lo, E.n, E.l, zS, zE])
theorem live_c : exprD oneD (binE 14 (sigE 2 0) (sigE 7 0)) 0 = (zE, 90) := exprD_do oneG_ok (by omega) (by simp [shp_eq, node, place, holds, oneG, oneD, sigE, numE, binE, liveX, nodes_eq, deep_eq, maxL, size_eq, own_eq, wide, told, wants, fst0, cat0, runL, sizeK, part0, E.set, E.op, E.w, E.v, E.sig, E.hi, E.lo, E.n, E.l, zS, zE]) (by constructor <;> simp [shp_eq, node, place, holds, oneG, oneD, sigE, numE, binE, liveX, nodes_eq, deep_eq, maxL, size_eq, own_eq, wide, told, wants, fst0, cat0, runL, sizeK, part0, E.set, E.op, E.w, E.v, E.sig, E.hi, E.lo, E.n, E.l, zS, zE]) (by simp [shp_eq, node, place, holds, oneG, oneD, sigE, numE, binE, liveX, nodes_eq, deep_eq, maxL, size_eq, own_eq, wide, told, wants, fst0, cat0, runL, sizeK, part0, E.set, E.op, E.w, E.v, E.sig, E.hi, E.lo, E.n, E.l, zS, zE])
theorem live_x : exprD oneD liveX 8 = (liveX, 0) := exprD_do oneG_ok (by omega) (by simp [shp_eq, node, place, holds, oneG, oneD, sigE, numE, binE, liveX, nodes_eq, deep_eq, maxL, size_eq, own_eq, wide, told, wants, fst0, cat0, runL, sizeK, part0, E.set, E.op, E.w, E.v, E.sig, E.hi, E.lo, E.n, E.l, zS, zE]) (by constructor <;> simp [shp_eq, node, place, holds, oneG, oneD, sigE, numE, binE, liveX, nodes_eq, deep_eq, maxL, size_eq, own_eq, wide, told, wants, fst0, cat0, runL, sizeK, part0, E.set, E.op, E.w, E.v, E.sig, E.hi, E.lo, E.n, E.l, zS, zE]) (by simp [shp_eq, node, place, holds, oneG, oneD, sigE, numE, binE, liveX, nodes_eq, deep_eq, maxL, size_eq, own_eq, wide, told, wants, fst0, cat0, runL, sizeK, part0, E.set, E.op, E.w, E.v, E.sig, E.hi, E.lo, E.n, E.l, zS, zE])
theorem live_n : exprD oneD (numE 1) 0 = (.mk 1 32 1 0 0 0 0 [], 0) := exprD_do oneG_ok (by omega) (by simp [shp_eq, node, place, holds, oneG, oneD, sigE, numE, binE, liveX, nodes_eq, deep_eq, maxL, size_eq, own_eq, wide, told, wants, fst0, cat0, runL, sizeK, part0, E.set, E.op, E.w, E.v, E.sig, E.hi, E.lo, E.n, E.l, zS, zE]) (by constructor <;> simp [shp_eq, node, place, holds, oneG, oneD, sigE, numE, binE, liveX, nodes_eq, deep_eq, maxL, size_eq, own_eq, wide, told, wants, fst0, cat0, runL, sizeK, part0, E.set, E.op, E.w, E.v, E.sig, E.hi, E.lo, E.n, E.l, zS, zE]) (by simp [shp_eq, node, place, holds, oneG, oneD, sigE, numE, binE, liveX, nodes_eq, deep_eq, maxL, size_eq, own_eq, wide, told, wants, fst0, cat0, runL, sizeK, part0, E.set, E.op, E.w, E.v, E.sig, E.hi, E.lo, E.n, E.l, zS, zE])
theorem live_d : checkE oneD liveX = 0 := by
 unfold checkE
 rw [show liveX.w = 8 from rfl, live_x]
 simp
theorem live_e : checkE oneD (numE 1) = 90 := by
 unfold checkE
 rw [show (numE 1).w = 0 from rfl, live_n]
 simp
theorem live_f : same liveX (numE 1) = false := by
 rw [same_false]; intro h; have := congrArg E.op h; simp [liveX, numE, E.op] at this
theorem one_fits : fitsD oneD = true := by
 simp [fitsD, oneD, oneG, bitsD, bitN, nodesD, deepD, maxL]
 omega
theorem one_shaped : shapedD oneD = true := by
 unfold shapedD
 rw [show oneD.sigs = oneG from rfl, oneG_ok]; rfl
theorem one_fills : fillsD oneD = true := by
 simp [fillsD, oneD, oneG, holds]
theorem one_wf : ∀ s ∈ oneG, WfS s := by
 simp [oneG, WfS, I64, U64]
end Fil.Sz

namespace Fil.Sz
open Abs
theorem size_bad {e : E} {w : Int} (h : (size e w).2 ≠ 0) : (size e w).1 = zE := by
 rw [size_eq] at h ⊢
 split
 ·rfl
 rename_i q1
 rw [if_neg q1] at h
 split
 ·rename_i q2
  rw [if_pos q2] at h
  split
  ·rename_i q3; rw [if_pos q3] at h; simp at h
  ·rfl
 ·rename_i q2
  rw [if_neg q2] at h
  split
  ·rfl
  ·rename_i ws hws
   rw [hws] at h
   simp only [sizeK] at h ⊢
   split
   ·rfl
   rename_i q3
   rw [if_neg q3] at h
   split
   ·rfl
   ·rename_i q4; rw [if_neg q4] at h; simp at h
end Fil.Sz

namespace Fil.Sz
open Abs
theorem size_wf {g : List Sg} (hg : SgOk g) (e : E) : ∀ (w : Int) (x : E), shp g e = true → -1 ≤ w → w ≤ 64 → WfE e → size e w = (x, 0) → WfE x := by
 refine E.ind (P := fun e => ∀ (w : Int) (x : E), shp g e = true → -1 ≤ w → w ≤ 64 → WfE e → size e w = (x, 0) → WfE x) (fun e ih w x hs h0 h64 hwf h => ?_) e
 have ok := size_main hg e w x hs h0 h
 obtain ⟨h2, h3⟩ := ok.shp h64
 have hpos := ok.pos
 obtain ⟨⟨f1, f2, f3, f4, f5, f6, f7⟩, fl⟩ := (WfE_iff e).1 hwf
 obtain ⟨hbit, hc⟩ := size_ok h
 obtain ⟨W, hW⟩ : ∃ W, wide e w = W := ⟨_, rfl⟩
 rw [hW] at hpos hc h2
 have wW : I64 W := ⟨by omega, by omega⟩
 have z0 : I64 0 := ⟨by omega, by omega⟩
 rcases hc with ⟨ho, hw0, hh, hx⟩ | ⟨hnum, ws, hws, hr, hbad, hx⟩
 ·rw [hx, WfE_iff]
  exact ⟨⟨⟨by show (-9223372036854775808 : Int) ≤ 1; omega, by show (1 : Int) ≤ _; omega⟩, wW, f3, z0, z0, z0, z0⟩, fun y hy => by cases hy⟩
 ·have hwt := wants_wt hs hws
  have hwl := wt_len hs hwt
  obtain ⟨hl, hget⟩ := runL_ok e.l ws hwl.symm hr
  have hge := wt_ge hg hs hpos hwt
  obtain ⟨X, hX⟩ : ∃ X, (runL (e.l.map size) ws).1 = X := ⟨_, rfl⟩
  have hp : Pts g e ws X := fun i h1 h2 h3 => by
   refine size_main hg _ _ _ (shp_part hs (List.getElem_mem h1)) (hge _ (List.getElem_mem h2)) ?_
   rw [hget i h1 h2]
   simp only [hX]
  rw [hX] at hbad hx hl
  have hfew := fun v hv => wt_few hg hs hpos h2 hwt hl hp v hv
  rw [hx, WfE_iff]
  refine ⟨⟨f1, wW, f3, f4, f5, f6, f7⟩, fun y hy => ?_⟩
  rw [set_l] at hy
  obtain ⟨i, hi, rfl⟩ := List.getElem_of_mem hy
  refine ih _ (List.getElem_mem (by omega : i < e.l.length)) (ws[i]'(by omega)) _ (shp_part hs (List.getElem_mem _)) (hge _ (List.getElem_mem _)) (hfew _ (List.getElem_mem _)) (fl _ (List.getElem_mem _)) ?_
  rw [hget i (by omega) (by omega)]
  simp only [hX]
end Fil.Sz

namespace Fil.Sz
open Abs
theorem thrL_err {β : Type} : ∀ (l : List (Int → β × Int)), (∀ f ∈ l, ∀ e, e ≠ 0 → (f e).2 = e) → ∀ e, e ≠ 0 → (thrL l e).2 = e
 | [], _, _, _ => rfl
 | f :: l, h, e, he => by
  simp only [thrL]
  have h1 := h f (by simp) e he
  rw [h1]
  exact thrL_err l (fun f' hf => h f' (by simp [hf])) e he
theorem exprS_err (x : E) (w e : Int) (he : e ≠ 0) : (exprS x w e).2 = e := by simp [exprS, he]
theorem esT_err (g : List Sg) (clk : Bool) (t : T) (lab e : Int) (he : e ≠ 0) : (esT g clk t lab e).2 = e := by
 unfold esT
 have hr : roleE g clk t e = e := by simp [roleE, he]
 rw [hr]
 refine thrL_err _ (fun f hf e' he' => ?_) e he
 obtain ⟨x, _, rfl⟩ := List.mem_map.1 hf
 exact exprS_err _ _ _ he'
theorem stT_err (g : List Sg) (clk : Bool) (t : T) : ∀ (lab e : Int), e ≠ 0 → (stT g clk t lab e).2 = e := by
 refine T.ind (P := fun t => ∀ (lab e : Int), e ≠ 0 → (stT g clk t lab e).2 = e) (fun t ih lab e he => ?_) t
 rw [stT_eq]
 have h1 := esT_err g clk t lab e he
 simp only
 rw [h1]
 unfold lsT
 refine thrL_err _ (fun f hf e' he' => ?_) e he
 obtain ⟨x, hx, rfl⟩ := List.mem_map.1 hf
 exact ih x hx _ e' he'
theorem lsT_err (g : List Sg) (clk : Bool) (l : List T) (lab e : Int) (he : e ≠ 0) : (lsT g clk l lab e).2 = e := by
 unfold lsT
 refine thrL_err _ (fun f hf e' he' => ?_) e he
 obtain ⟨x, hx, rfl⟩ := List.mem_map.1 hf
 exact stT_err g clk x _ e' he'
def resV {α : Type} (z : α) (r : α × Int) : α × Int := if r.2 = 0 then r else (z, r.2)
theorem thrL_take {β : Type} {l : List (Int → β × Int)} {i : Nat} (h : i < l.length) (e : Int) : thrL (l.take (i + 1)) e = ((thrL (l.take i) e).1 ++ [(l[i] (thrL (l.take i) e).2).1], (l[i] (thrL (l.take i) e).2).2) := by
 rw [List.take_add_one, List.getElem?_eq_getElem h, Option.toList_some, thrL_snoc]
theorem thrL_to {β : Type} {l : List (Int → β × Int)} (hl : ∀ f ∈ l, ∀ e, e ≠ 0 → (f e).2 = e) {i : Nat} {e : Int} (h : (thrL (l.take i) e).2 ≠ 0) : (thrL l e).2 = (thrL (l.take i) e).2 := by
 conv => lhs; rw [← List.take_append_drop i l]
 rw [thrL_app]
 exact thrL_err _ (fun f hf => hl f (List.mem_of_mem_drop hf)) _ h
end Fil.Sz

namespace Fil.Sz
open Abs
def ShT (g : List Sg) (t : T) : Prop := ((∀ x ∈ t.e, shp g x = true) ∧ (t.op = 1 → place g t.sig t.hi t.lo = true) ∧ (t.op = 3 → 0 < t.e.length)) ∧ ∀ x, (h : x ∈ t.l) → ShT g x
termination_by t
decreasing_by exact T.lt h
theorem ShT_iff (g : List Sg) (t : T) : ShT g t ↔ ((∀ x ∈ t.e, shp g x = true) ∧ (t.op = 1 → place g t.sig t.hi t.lo = true) ∧ (t.op = 3 → 0 < t.e.length)) ∧ ∀ x ∈ t.l, ShT g x := by rw [ShT]
theorem shpT_sh (g : List Sg) (t : T) : (shpT g t = true ∨ armT g t = true) → ShT g t := by
 refine T.ind (P := fun t => (shpT g t = true ∨ armT g t = true) → ShT g t) (fun t ih h => ?_) t
 rw [ShT_iff]
 rcases h with h | h
 ·rw [shpT_eq] at h
  split at h
  ·rename_i ho
   simp only [Bool.and_eq_true, List.all_eq_true, decide_eq_true_eq] at h
   obtain ⟨⟨h1, h2, h3⟩, h4⟩ := h
   refine ⟨⟨h1, fun _ => h4, fun _ => by omega⟩, fun x hx => ?_⟩
   have := List.length_pos_of_mem hx; omega
  rename_i ho
  simp only [Bool.and_eq_true, List.all_eq_true] at h
  obtain ⟨⟨_, h1⟩, h⟩ := h
  split at h
  ·simp only [Bool.and_eq_true, List.all_eq_true, decide_eq_true_eq] at h
   exact ⟨⟨h1, fun q => (ho q).elim, fun _ => by omega⟩, fun x hx => ih x hx (.inl (h.2 x hx))⟩
  split at h
  ·simp only [Bool.and_eq_true, decide_eq_true_eq, armsT, List.all_eq_true] at h
   exact ⟨⟨h1, fun q => (ho q).elim, fun _ => by omega⟩, fun x hx => ih x hx (.inr (h.2.2 x hx))⟩
  rename_i q3
  split at h
  ·simp only [Bool.and_eq_true, decide_eq_true_eq, List.all_eq_true] at h
   exact ⟨⟨h1, fun q => (ho q).elim, fun q => (q3 q).elim⟩, fun x hx => ih x hx (.inl (h.2 x hx))⟩
  ·simp at h
 ·rw [armT_eq] at h
  simp only [Bool.and_eq_true, List.all_eq_true, decide_eq_true_eq] at h
  exact ⟨⟨fun x hx => (h.1.2 x hx).2, fun q => by omega, fun q => by omega⟩, fun x hx => ih x hx (.inl (h.2 x hx))⟩
theorem zE_w : zE.w = 0 := rfl
theorem size_w {g : List Sg} (hg : SgOk g) {e : E} {w : Int} (hs : shp g e = true) (h0 : -1 ≤ w) : 0 ≤ (size e w).1.w := by
 by_cases hf : (size e w).2 = 0
 ·have ok := size_main hg e w (size e w).1 hs h0 (by rw [← hf])
  rw [ok.wd]
  have := ok.pos; omega
 ·rw [size_bad hf, zE_w]; omega
theorem exprS_w {g : List Sg} (hg : SgOk g) {e : E} {w e0 : Int} (hs : shp g e = true) (h0 : -1 ≤ w) : 0 ≤ (exprS e w e0).1.w := by
 unfold exprS
 split
 ·rw [zE_w]; omega
 ·exact size_w hg hs h0
theorem thrL_mem {β : Type} {p : β → Prop} : ∀ (l : List (Int → β × Int)), (∀ f ∈ l, ∀ e, p (f e).1) → ∀ e, ∀ x ∈ (thrL l e).1, p x
 | [], _, _, x, hx => by simp [thrL] at hx
 | f :: l, h, e, x, hx => by
  simp only [thrL, List.mem_cons] at hx
  rcases hx with rfl | hx
  ·exact h f (by simp) e
  ·exact thrL_mem l (fun f' hf => h f' (by simp [hf])) _ x hx
theorem wantT_ge {g : List Sg} {t : T} {lab : Int} (h : t.op = 1 → place g t.sig t.hi t.lo = true) (hl : -1 ≤ lab) : -1 ≤ wantT t lab := by
 unfold wantT
 split
 ·rename_i ho
  have := place_iff.1 (h ho); omega
 split
 ·omega
 split
 ·omega
 ·exact hl
theorem labT_ge {g : List Sg} (hg : SgOk g) {clk : Bool} {t : T} {lab e0 : Int} (hsh : ∀ x ∈ t.e, shp g x = true) (h : t.op = 1 → place g t.sig t.hi t.lo = true) (hl : -1 ≤ lab) : -1 ≤ labT t lab (esT g clk t lab e0).1 := by
 unfold labT
 split
 ·unfold part0
  have hm := thrL_mem (p := fun x : E => 0 ≤ x.w) (t.e.map fun x => exprS x (wantT t lab)) (fun f hf e => by
   obtain ⟨x, hx, rfl⟩ := List.mem_map.1 hf
   exact exprS_w hg (hsh x hx) (wantT_ge h hl)) (roleE g clk t e0)
  unfold esT
  cases hq : (thrL (t.e.map fun x => exprS x (wantT t lab)) (roleE g clk t e0)).1 with
  | nil => simp [zE_w]
  | cons a l =>
   rw [hq] at hm
   have := hm a (by simp)
   simp only [List.headD_cons]; omega
 ·exact hl
end Fil.Sz

namespace Go.Proofs.Ytdiebjnjhgbklaa
open Abs Fil Fil.Sz
theorem thr_len {β : Type} {l : List (Int → β × Int)} {i : Nat} (h : i ≤ l.length) (e : Int) : (thrL (l.take i) e).1.length = i := by
 rw [thrL_len, List.length_take]; omega
theorem encT_mk (a b c d : Int) (X : List E) (Y : List T) : encT (T.mk a b c d X Y) = .agg [.int .i64 a, .int .i64 b, .int .i64 c, .int .i64 d, .slice (X.map encE) .no, .slice (Y.map encT) .no] := by
 unfold encT tL; rw [encTs_eq]; rfl
theorem role_cases {K : Int} {clk c1 c4 : Bool} {e0 R : Int} (h4 : (K == 4) = c4) (h1 : (K == 1) = c1) (h : (e0 = 0 ∧ (K = 1 ∨ clk ≠ decide (K = 4)) ∧ R = 85) ∨ ((e0 = 0 ∧ ¬ K = 1 ∧ clk = decide (K = 4)) ∧ R = e0) ∨ (¬ e0 = 0 ∧ R = e0)) :
  ((e0 == 0) = true ∧ c1 = true ∧ R = 85) ∨ ((e0 == 0) = true ∧ c1 = false ∧ (clk == c4) = false ∧ R = 85) ∨ ((e0 == 0) = true ∧ c1 = false ∧ (clk == c4) = true ∧ R = e0) ∨ ((e0 == 0) = false ∧ R = e0) := by
 have e4 : decide (K = 4) = c4 := h4
 have e1 : K = 1 ↔ c1 = true := by rw [← h1]; simp
 rw [e4, e1] at h
 clear e4 e1 h4 h1
 rcases h with ⟨q1, q2, q3⟩ | ⟨⟨q1, q2, q3⟩, q4⟩ | ⟨q1, q2⟩
 ·cases c1 <;> cases clk <;> cases c4 <;> simp_all
 ·cases c1 <;> cases clk <;> cases c4 <;> simp_all
 ·simp [q1, q2]
theorem headD_w {l : List E} (h : 0 < l.length) : part0 l = (l[0]).w := by
 cases l with
 | nil => simp at h
 | cons a l => simp [part0]
set_option maxRecDepth 20000 in
set_option maxHeartbeats 8000000 in
theorem sz_statement_step (g : List Sg) (hg : SgOk g) (hgl : g.length ≤ 1000000000000) (clk : Bool) (t : T) (o : Nat) (lab e0 : Int) (σ : Sig) (h : σ o = some (szrC g e0)) (hs : ShT g t) (hn : nodesT t ≤ 16777216) (hw : WfT t) (hlab : -1 ≤ lab)
  (ih : ∀ x ∈ t.l, ∀ (lab e0 : Int) (σ : Sig), σ o = some (szrC g e0) → -1 ≤ lab → ACalls Try.prog 49 [.ptr o 0, encT x, .bool clk, .int .i64 lab] σ (fun r σ' => r = .ret (encT (stT g clk x lab e0).1) ∧ σ' = upd σ o (szrC g (stT g clk x lab e0).2))) :
  ACalls Try.prog 49 [.ptr o 0, encT t, .bool clk, .int .i64 lab] σ (fun r σ' => r = .ret (encT (stT g clk t lab e0).1) ∧ σ' = upd σ o (szrC g (stT g clk t lab e0).2)) := by
 have h1 := encTs_eq t
 have l1 := lenE_nodes t
 have l2 := lenL_nodes t
 obtain ⟨⟨s1, s2, s3⟩, _⟩ := (ShT_iff g t).1 hs
 have w8 := (WfT_iff t).1 hw
 have hwg := wantT_ge (lab := lab) s2 hlab
 have hlg := labT_ge (clk := clk) (e0 := e0) hg s1 s2 hlab
 have hst := stT_eq g clk t lab e0
 obtain ⟨W, hW⟩ : ∃ W, wantT t lab = W := ⟨_, rfl⟩
 obtain ⟨R, hR⟩ : ∃ R, roleE g clk t e0 = R := ⟨_, rfl⟩
 have hes : esT g clk t lab e0 = thrL (t.e.map fun x => exprS x W) R := by unfold esT; rw [hW, hR]
 rw [hes] at hst hlg
 have cE := fun (x : E) (hx : x ∈ t.e) (e1 : Int) (τ : Sig) (hτ : τ o = some (szrC g e1)) => sz_expr o g hg e1 x W τ hτ (s1 x hx) (by have := partE_nodes hx; omega) (w8.2.1 x hx) (by omega)
 have hsort : (t.op = 1 ∧ W = t.hi - t.lo + 1 ∧ (e0 = 0 ∧ (kindOf g t = 1 ∨ clk ≠ decide (kindOf g t = 4)) ∧ R = 85 ∨ (e0 = 0 ∧ ¬ kindOf g t = 1 ∧ clk = decide (kindOf g t = 4)) ∧ R = e0 ∨ ¬ e0 = 0 ∧ R = e0)) ∨
   (t.op = 2 ∧ W = -1 ∧ R = e0) ∨ (t.op = 3 ∧ W = 0 ∧ R = e0) ∨ (¬ t.op = 1 ∧ ¬ t.op = 2 ∧ ¬ t.op = 3 ∧ W = lab ∧ R = e0) := by
  rw [← hW, ← hR]
  unfold wantT roleE
  by_cases o1 : t.op = 1
  ·refine .inl ⟨o1, by rw [if_pos o1], ?_⟩
   by_cases e1 : e0 = 0
   ·by_cases k1 : kindOf g t = 1 ∨ clk ≠ decide (kindOf g t = 4)
    ·exact .inl ⟨e1, k1, by rw [if_pos ⟨o1, e1, k1⟩]⟩
    ·refine .inr (.inl ⟨⟨e1, fun q => k1 (.inl q), Classical.byContradiction fun q => k1 (.inr q)⟩, by rw [if_neg (fun q => k1 q.2.2)]⟩)
   ·exact .inr (.inr ⟨e1, by rw [if_neg (fun q => e1 q.2.1)]⟩)
  ·have q1 : (if t.op = 1 ∧ e0 = 0 ∧ (kindOf g t = 1 ∨ clk ≠ decide (kindOf g t = 4)) then (85 : Int) else e0) = e0 := by rw [if_neg (fun q => o1 q.1)]
   rw [q1]
   by_cases o2 : t.op = 2
   ·exact .inr (.inl ⟨o2, by rw [if_neg o1, if_pos o2], rfl⟩)
   ·by_cases o3 : t.op = 3
    ·exact .inr (.inr (.inl ⟨o3, by rw [if_neg o1, if_neg o2, if_pos o3], rfl⟩))
    ·exact .inr (.inr (.inr ⟨o1, o2, o3, by rw [if_neg o1, if_neg o2, if_neg o3], rfl⟩))
 have hlt : labT t lab (thrL (t.e.map fun x => exprS x W) R).1 = if t.op = 3 then part0 (thrL (t.e.map fun x => exprS x W) R).1 else lab := rfl
 clear hs hw hW hR hes w8 hlab
 -- what is made of the expressions, up to one of them
 obtain ⟨P, hP⟩ : ∃ P : Nat → List E × Int, ∀ i, P i = thrL ((t.e.map fun x => exprS x W).take i) R := ⟨_, fun _ => rfl⟩
 have hP0 : P 0 = ([], R) := by rw [hP]; rfl
 have hPs : ∀ i, (hi : i < t.e.length) → P (i + 1) = ((P i).1 ++ [(exprS t.e[i] W (P i).2).1], (exprS t.e[i] W (P i).2).2) := fun i hi => by
  rw [hP, hP, thrL_take (by simpa using hi), List.getElem_map]
 have hPl : ∀ i, i ≤ t.e.length → (P i).1.length = i := fun i hi => by rw [hP, thr_len (by simpa using hi)]
 have hPe : P t.e.length = thrL (t.e.map fun x => exprS x W) R := by
  rw [hP]; congr 1; exact List.take_of_length_le (by simp)
 rw [← hPe] at hst hlg hlt
 clear hP hPe
 obtain ⟨L, hL⟩ : ∃ L, labT t lab (P t.e.length).1 = L := ⟨_, rfl⟩
 rw [hL] at hst hlg hlt
 obtain ⟨Q, hQ⟩ : ∃ Q : Nat → List T × Int, ∀ i, Q i = thrL ((t.l.map fun x => stT g clk x L).take i) (P t.e.length).2 := ⟨_, fun _ => rfl⟩
 have hQ0 : Q 0 = ([], (P t.e.length).2) := by rw [hQ]; rfl
 have hQs : ∀ i, (hi : i < t.l.length) → Q (i + 1) = ((Q i).1 ++ [(stT g clk t.l[i] L (Q i).2).1], (stT g clk t.l[i] L (Q i).2).2) := fun i hi => by
  rw [hQ, hQ, thrL_take (by simpa using hi), List.getElem_map]
 have hQl : ∀ i, i ≤ t.l.length → (Q i).1.length = i := fun i hi => by rw [hQ, thr_len (by simpa using hi)]
 have hQe : Q t.l.length = lsT g clk t.l L (P t.e.length).2 := by
  rw [hQ]; unfold lsT; congr 1; exact List.take_of_length_le (by simp)
 rw [← hQe] at hst
 clear hQ hQe hL
 have cT := fun (x : T) (hx : x ∈ t.l) (e1 : Int) (τ : Sig) (hτ : τ o = some (szrC g e1)) => ih x hx L e1 τ hτ hlg
 clear ih hlg hwg
 obtain ⟨S, hS⟩ : ∃ S, stT g clk t lab e0 = S := ⟨_, rfl⟩
 rw [hS] at hst ⊢
 subst hst
 clear hS
 rw [encT_mk]
 refine ACalls.virt (callable_of Try.func49 b49 n49) 8 (fun oV1 hoV1 hnV1 hnV1' => ?_); (try simp only [upd_none, ne_eq, not_and] at hoV1); refine ACalls.virt (callable_of Try.func49 b49 n49) 6 (fun oV2 hoV2 hnV2 hnV2' => ?_); (try simp only [upd_none, ne_eq, not_and] at hoV2); refine calls_x mixed Try.func49 b49 n49 rfl q49 (by simp) ?_; unfold c49 r49
 have n1 : ¬ oV1 = o := fun e => by rw [e, h] at hoV1; cases hoV1
 have n2 : ¬ oV2 = o := fun e => by
  have := hoV2
  simp_all
 have hlo : t.op = 3 → (h : 0 < (P t.e.length).1.length) → L = ((P t.e.length).1[0]).w := fun o3 hh => by
  rw [hlt, if_pos o3]
  exact headD_w hh
 have hln : ¬ t.op = 3 → L = lab := fun o3 => by rw [hlt, if_neg o3]
 have hPL := hPl t.e.length (Nat.le_refl _)
 clear hlt
 rcases hsort with ⟨o1, hWv, hr⟩ | ⟨o2, hWv, hRv⟩ | ⟨o3, hWv, hRv⟩ | ⟨o1, o2, o3, hWv, hRv⟩
 case' inl =>
  obtain ⟨p1, p2, p3, p4, p5⟩ := place_iff.1 (s2 o1)
  have p6 : t.sig.toNat < g.length := by omega
  have hgs : g.getD t.sig.toNat zS = g[t.sig.toNat] := by rw [List.getD_eq_getElem?_getD, List.getElem?_eq_getElem p6]; rfl
  have p7 := hg _ (List.getElem_mem p6)
  have hk : kindOf g t = (g[t.sig.toNat]).kind := by unfold Fil.Sz.kindOf; rw [hgs]
  rw [hgs] at p5
  rw [hk] at hr
  clear hk hgs
  obtain ⟨K, hK⟩ : ∃ K, (g[t.sig.toNat]).kind = K := ⟨_, rfl⟩
  rw [hK] at hr
  replace hln := hln (by omega)
  subst hln
  obtain ⟨LB, hLB⟩ : ∃ x, x = L := ⟨_, rfl⟩
  have hob : (t.op == 3) = false := by simp [o1]
  obtain ⟨c4, hc4⟩ : ∃ c, (K == 4) = c := ⟨_, rfl⟩
  obtain ⟨c1, hc1⟩ : ∃ c, (K == 1) = c := ⟨_, rfl⟩
  have hcase := role_cases (clk := clk) hc4 hc1 hr
  clear hr hlo
  rcases hcase with ⟨q1, q2, q5⟩ | ⟨q1, q2, q3, q5⟩ | ⟨q1, q2, q3, q5⟩ | ⟨q1, q5⟩
 case' inr.inl =>
  replace hln := hln (by omega)
  subst hln
  obtain ⟨LB, hLB⟩ : ∃ x, x = L := ⟨_, rfl⟩
  have hob : (t.op == 3) = false := by simp [o2]
  clear hlo
 case' inr.inr.inl =>
  have hle := s3 o3
  have hlx : 0 < (P t.e.length).1.length := by omega
  replace hlo := hlo o3 hlx
  obtain ⟨LB, hLB⟩ : ∃ x, x = lab := ⟨_, rfl⟩
  clear hln
 case' inr.inr.inr =>
  replace hln := hln o3
  subst hln
  obtain ⟨LB, hLB⟩ : ∃ x, x = L := ⟨_, rfl⟩
  have ob1 : (t.op == 1) = false := by simp [o1]
  have ob2 : (t.op == 2) = false := by simp [o2]
  have ob3 : (t.op == 3) = false := by simp [o3]
  clear hlo o1 o2 o3
 all_goals
  repeat' (first | simp (maxDischargeDepth := 9) -implicitDefEqProofs -dsimp only [go_sem, seval, *] | simp (disch := omega) only [wrap64] | ((with_reducible refine Zu ?_ ?_); focus omega) | ((with_reducible refine Zt (fun oF hoF hnF hnF' => ?_)); (try simp only [upd_none, ne_eq, not_and] at hoF)))
  rename_i oT nx1 nx2 hoT
  obtain ⟨oR, eR⟩ : ∃ x, x = oF := ⟨oF, rfl⟩
  subst eR
  obtain ⟨a1, a2, a3⟩ := hoT
  obtain ⟨a4, a5, a6, a7⟩ := hoF
  obtain ⟨a8, a9⟩ := hoV2
  have n3 : ¬ oT = o := fun e => by rw [e, h] at a3; cases a3
  have n4 : ¬ oR = o := fun e => by rw [e, h] at a7; cases a7
  have m1 : ¬ o = oV1 := fun e => n1 e.symm
  have m2 : ¬ o = oV2 := fun e => n2 e.symm
  have m3 : ¬ o = oT := fun e => n3 e.symm
  have m4 : ¬ o = oR := fun e => n4 e.symm
  have b1 : ¬ oV2 = oT := fun e => a1 e.symm
  have b2 : ¬ oV1 = oT := fun e => a2 e.symm
  have b4 : ¬ oT = oR := fun e => a4 e.symm
  have b5 : ¬ oV2 = oR := fun e => a5 e.symm
  have b6 : ¬ oV1 = oR := fun e => a6 e.symm
  have b8 : ¬ oV1 = oV2 := fun e => a8 e.symm
  clear nx1 nx2 hnF hnF' hnV1 hnV1' hnV2 hnV2'
  refine loop_rule (fun i : Nat => [(62, some (.int .i64 i)), (61, some (.int .i64 t.e.length)), (60, some (.slice (t.e.map encE) .no)), (11, some (.slice ((P i).1.map encE) (.own oV1))), (0, some (.ptr o 0)), (9, some (.int .i64 W)), (5, some (.ptr oT 0)), (2, some (.bool clk)), (8, some (.ptr oR 0)), (3, some (.int .i64 LB))])
   (fun i => upd (upd (upd (upd (upd σ oV1 (.grow 8 i)) oV2 (.virt 6)) oT (.cells [.int .i64 t.op, .int .i64 t.sig, .int .i64 t.hi, .int .i64 t.lo, .slice (t.e.map encE) .no, .slice (t.l.map encT) .no])) oR (.cells [.int .i64 0, .int .i64 0, .int .i64 0, .int .i64 0, .slice [] .nil, .slice [] .nil])) o (szrC g (P i).2))
   (fun i => i ≤ t.e.length) (fun i => t.e.length - i) 0 ?_ ?_
  ·(try clear hlo); clear cE cT hPs hQs hPl hQl hQ0
   (repeat' simp (maxDischargeDepth := 9) -implicitDefEqProofs -dsimp only [go_sem, seval, List.map_nil, *]) <;> (first | omega | skip)
  ·intro i hi
   by_cases hlt : i < t.e.length
   ·have hc := cE t.e[i] (List.getElem_mem hlt)
    have hps := hPs i hlt
    have hpl := hPl i (by omega)
    (try clear hlo); clear hWv hLB cE cT hPs hQs hPl hQl hQ0 hP0 hPL
    obtain ⟨⟨X, e1⟩, hX⟩ : ∃ X, P i = X := ⟨_, rfl⟩
    rw [hX] at hps hpl ⊢
    clear hX
    simp only at hps hpl
    replace hc := hc e1
    repeat' (first | simp (maxDischargeDepth := 9) -implicitDefEqProofs -dsimp only [go_sem, seval, *] | simp (disch := omega) only [wrap64] | ((with_reducible refine Zv ?_ ?_); focus (first | omega | exact rfl)) | ((with_reducible refine Zu ?_ ?_); focus omega) | ((with_reducible refine Zt (fun oF hoF hnF hnF' => ?_)); (try simp only [upd_none, ne_eq, not_and] at hoF)) | ((with_reducible apply ACalls.one1); (focus ((with_reducible refine hc _ ?_) <;> (first | (simp (maxDischargeDepth := 9) -implicitDefEqProofs -dsimp only [go_sem, seval, *]; done) | omega))); (focus (first | trivial | with_reducible exact rfl | (simp (maxDischargeDepth := 9) -implicitDefEqProofs -dsimp only [go_sem, seval]; done)))))
    refine loop_next _ _ _ _ (i + 1) ?_; (repeat' simp (maxDischargeDepth := 9) -implicitDefEqProofs -dsimp only [go_sem, seval, *]) <;> (repeat' refine And.intro ?_ ?_) <;> (first | omega | skip)
   ·have ei : i = t.e.length := by omega
    subst ei
    clear cE hPs hP0 hPl
    repeat' (first | simp (maxDischargeDepth := 9) -implicitDefEqProofs -dsimp only [go_sem, seval, *] | ((with_reducible refine Zu ?_ ?_); focus omega))
    refine loop_rule (fun k : Nat => [(84, some (.int .i64 k)), (83, some (.int .i64 t.l.length)), (82, some (.slice (t.l.map encT) .no)), (14, some (.slice ((Q k).1.map encT) (.own oV2))), (0, some (.ptr o 0)), (2, some (.bool clk)), (3, some (.int .i64 L)), (11, some (.slice ((P t.e.length).1.map encE) (.own oV1))), (5, some (.ptr oT 0)), (8, some (.ptr oR 0))])
     (fun k => upd (upd (upd (upd (upd σ oV1 (.grow 8 t.e.length)) oV2 (.grow 6 k)) oT (.cells [.int .i64 t.op, .int .i64 t.sig, .int .i64 t.hi, .int .i64 t.lo, .slice (t.e.map encE) .no, .slice (t.l.map encT) .no])) oR (.cells [.int .i64 0, .int .i64 0, .int .i64 0, .int .i64 0, .slice [] .nil, .slice [] .nil])) o (szrC g (Q k).2))
     (fun k => k ≤ t.l.length) (fun k => t.l.length - k) 0 ?_ ?_
    ·clear cT hQs hQl
     (repeat' simp (maxDischargeDepth := 9) -implicitDefEqProofs -dsimp only [go_sem, seval, List.map_nil, *]) <;> (first | omega | skip)
    ·intro k hk
     by_cases hkt : k < t.l.length
     ·have hx := encTs_eq t.l[k]
      have hc := cT t.l[k] (List.getElem_mem hkt)
      have hqs := hQs k hkt
      have hql := hQl k (by omega)
      clear cT hQs hQl hQ0 hx
      obtain ⟨⟨X, e1⟩, hX⟩ : ∃ X, Q k = X := ⟨_, rfl⟩
      rw [hX] at hqs hql ⊢
      clear hX
      simp only at hqs hql
      replace hc := hc e1
      repeat' (first | simp (maxDischargeDepth := 9) -implicitDefEqProofs -dsimp only [go_sem, seval, *] | simp (disch := omega) only [wrap64] | ((with_reducible refine Zv ?_ ?_); focus (first | omega | exact rfl)) | ((with_reducible refine Zu ?_ ?_); focus omega) | ((with_reducible refine Zt (fun oF hoF hnF hnF' => ?_)); (try simp only [upd_none, ne_eq, not_and] at hoF)) | ((with_reducible apply ACalls.one1); (focus ((first | with_reducible refine hc _ ?_ | with_reducible refine ACalls.flA (hc _ ?_) ?_) <;> (first | (simp (maxDischargeDepth := 9) -implicitDefEqProofs -dsimp only [go_sem, seval, *]; done) | omega))); (focus (first | trivial | with_reducible exact rfl | (simp (maxDischargeDepth := 9) -implicitDefEqProofs -dsimp only [go_sem, seval]; done)))))
      refine loop_next _ _ _ _ (k + 1) ?_; (repeat' simp (maxDischargeDepth := 9) -implicitDefEqProofs -dsimp only [go_sem, seval, *]) <;> (repeat' refine And.intro ?_ ?_) <;> (first | omega | skip)
     ·have ek : k = t.l.length := by omega
      subst ek
      clear cT hQs hQ0
      replace hQl := hQl t.l.length (Nat.le_refl _)
      repeat' simp (maxDischargeDepth := 9) -implicitDefEqProofs -dsimp only [go_sem, seval, *]
      refine fin_eq ?_
      (repeat' simp (maxDischargeDepth := 9) -implicitDefEqProofs -dsimp only [go_sem, seval, *])
 
theorem sz_statement (g : List Sg) (hg : SgOk g) (hgl : g.length ≤ 1000000000000) (clk : Bool) (o : Nat) (t : T) : ∀ (lab e0 : Int) (σ : Sig), σ o = some (szrC g e0) → ShT g t → nodesT t ≤ 16777216 → WfT t → -1 ≤ lab →
  ACalls Try.prog 49 [.ptr o 0, encT t, .bool clk, .int .i64 lab] σ (fun r σ' => r = .ret (encT (stT g clk t lab e0).1) ∧ σ' = upd σ o (szrC g (stT g clk t lab e0).2)) := by
 refine T.ind (P := fun t => ∀ (lab e0 : Int) (σ : Sig), σ o = some (szrC g e0) → ShT g t → nodesT t ≤ 16777216 → WfT t → -1 ≤ lab →
  ACalls Try.prog 49 [.ptr o 0, encT t, .bool clk, .int .i64 lab] σ (fun r σ' => r = .ret (encT (stT g clk t lab e0).1) ∧ σ' = upd σ o (szrC g (stT g clk t lab e0).2))) (fun t ih lab e0 σ h hs hn hw hl => ?_) t
 exact sz_statement_step g hg hgl clk t o lab e0 σ h hs hn hw hl fun x hx lab e0 σ h hl => ih x hx lab e0 σ h (((ShT_iff g t).1 hs).2 x hx) (by have := partT_nodes hx; omega) (((WfT_iff t).1 hw).2.2 x hx) hl
end Go.Proofs.Ytdiebjnjhgbklaa

