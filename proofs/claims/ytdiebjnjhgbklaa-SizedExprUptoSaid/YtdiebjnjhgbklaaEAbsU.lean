/- The abstraction layer, part U: a statement's arguments by the shapes of their types. Over any program. -/
import Derived.Test.YtdiebjnjhgbklaaESizSizP
set_option linter.unusedSimpArgs false
set_option linter.unusedVariables false
namespace Go.Proofs.Ytdiebjnjhgbklaa
open Abs Fil Fil.Sz
theorem sl_indexT (p : T → Bool) (l : List T) (hl : l.length ≤ 1000000000000) (σ : Sig) {F : Nat} {caps : List AV} (hF : ∀ x ∈ l, ACalls Try.prog F (encT x :: caps) σ (fun r σ' => r = .ret (.bool (p x)) ∧ σ' = σ)) :
    ACalls Try.prog 103 [.slice (l.map encT) .no, .fn F [] caps] σ (fun r σ' => r = .ret (.int .i64 (idxF p l)) ∧ σ' = σ) :=
  lib_indexFunc (sz := 6) (g := true) mixed Try.func103 b103 n103 rfl q103 (fun _ => rfl) (fun _ => rfl) p l hl hF
theorem sl_containsT (p : T → Bool) (l : List T) (hl : l.length ≤ 1000000000000) (σ : Sig) {F : Nat} {caps : List AV} (hF : ∀ x ∈ l, ACalls Try.prog F (encT x :: caps) σ (fun r σ' => r = .ret (.bool (p x)) ∧ σ' = σ)) :
    ACalls Try.prog 87 [.slice (l.map encT) .no, .fn F [] caps] σ (fun r σ' => r = .ret (.bool (l.any p)) ∧ σ' = σ) :=
  lib_containsFunc mixed Try.func87 b87 n87 rfl q87 p l (sl_indexT p l hl σ hF)
theorem sl_indexP (p : Pr → Bool) (l : List Pr) (hl : l.length ≤ 1000000000000) (σ : Sig) {F : Nat} {caps : List AV} (hF : ∀ x ∈ l, ACalls Try.prog F (encP x :: caps) σ (fun r σ' => r = .ret (.bool (p x)) ∧ σ' = σ)) :
    ACalls Try.prog 104 [.slice (l.map encP) .no, .fn F [] caps] σ (fun r σ' => r = .ret (.int .i64 (idxF p l)) ∧ σ' = σ) :=
  lib_indexFunc (sz := 2) (g := true) mixed Try.func104 b104 n104 rfl q104 (fun _ => rfl) (fun _ => rfl) p l hl hF
theorem sl_containsP (p : Pr → Bool) (l : List Pr) (hl : l.length ≤ 1000000000000) (σ : Sig) {F : Nat} {caps : List AV} (hF : ∀ x ∈ l, ACalls Try.prog F (encP x :: caps) σ (fun r σ' => r = .ret (.bool (p x)) ∧ σ' = σ)) :
    ACalls Try.prog 89 [.slice (l.map encP) .no, .fn F [] caps] σ (fun r σ' => r = .ret (.bool (l.any p)) ∧ σ' = σ) :=
  lib_containsFunc mixed Try.func89 b89 n89 rfl q89 p l (sl_indexP p l hl σ hF)
theorem sl_indexC (p : Ck → Bool) (l : List Ck) (hl : l.length ≤ 1000000000000) (σ : Sig) {F : Nat} {caps : List AV} (hF : ∀ x ∈ l, ACalls Try.prog F (encC x :: caps) σ (fun r σ' => r = .ret (.bool (p x)) ∧ σ' = σ)) :
    ACalls Try.prog 105 [.slice (l.map encC) .no, .fn F [] caps] σ (fun r σ' => r = .ret (.int .i64 (idxF p l)) ∧ σ' = σ) :=
  lib_indexFunc (sz := 9) (g := true) mixed Try.func105 b105 n105 rfl q105 (fun _ => rfl) (fun _ => rfl) p l hl hF
theorem sl_containsC (p : Ck → Bool) (l : List Ck) (hl : l.length ≤ 1000000000000) (σ : Sig) {F : Nat} {caps : List AV} (hF : ∀ x ∈ l, ACalls Try.prog F (encC x :: caps) σ (fun r σ' => r = .ret (.bool (p x)) ∧ σ' = σ)) :
    ACalls Try.prog 90 [.slice (l.map encC) .no, .fn F [] caps] σ (fun r σ' => r = .ret (.bool (l.any p)) ∧ σ' = σ) :=
  lib_containsFunc mixed Try.func90 b90 n90 rfl q90 p l (sl_indexC p l hl σ hF)
theorem all_any {α : Type} (l : List α) (p : α → Bool) : l.all p = !l.any fun x => !p x := by
  rw [Bool.eq_iff_iff]; simp [List.any_eq_true, List.all_eq_true]
theorem armT_any (g : List Sg) (t : T) : armT g t = (decide (t.op = 4 ∧ t.sig = 0 ∧ t.hi = 0 ∧ t.lo = 0) && (!(t.e.any fun x => !(decide (x.op = 1) && shp g x)) && !(t.l.any fun s => !shpT g s))) := by
  rw [armT_eq, all_any t.e, all_any t.l, Bool.and_assoc]
set_option maxRecDepth 20000 in
set_option maxHeartbeats 1000000 in
theorem sz_arms_step (g : List Sg) (hg : g.length ≤ 1000000000000) (l : List T) (hn : (l.map nodesT).sum ≤ 16777216) (hw : ∀ t ∈ l, WfT t)
    (ih : ∀ a ∈ l, ∀ s ∈ a.l, ∀ τ, ACalls Try.prog 85 [.slice (g.map encS) .no, encT s] τ (fun r σ' => r = .ret (.bool (shpT g s)) ∧ σ' = τ)) (σ : Sig) :
    ACalls Try.prog 102 [.slice (g.map encS) .no, .slice (l.map encT) .no] σ (fun r σ' => r = .ret (.bool (armsT g l)) ∧ σ' = σ) := by
  have l1 := len_sum nodesT_pos l
  have clo1 : ∀ a ∈ l, ∀ (b : Nat) (τ : Sig), τ b = some (.cells [.slice (g.map encS) .no]) → ∀ x ∈ a.e, ACalls Try.prog 108 (encE x :: [.ptr b 0]) τ (fun r σ' => r = .ret (.bool (!(decide (x.op = 1) && shp g x))) ∧ σ' = τ) := fun a ha b τ hb x hx => by
    have hc := fun τ => sz_shape g hg x τ (by have := mem_sum (f := nodesT) ha; have := partE_nodes hx; omega) (((WfT_iff a).1 (hw a ha)).2.1 x hx)
    refine calls_x mixed Try.func108 b108 n108 rfl q108 (by simp) ?_; unfold c108 r108
    by_cases ho : x.op = 1
    · have hob : (x.op != 1) = false := by simp [ho]
      have hd : decide (x.op = 1) = true := by simp [ho]
      rw [hd, Bool.true_and]
      clear ho hd
      repeat' (first | simp (maxDischargeDepth := 9) -implicitDefEqProofs -dsimp only [go_sem, seval, *] | simp (disch := omega) only [wrap64] | (with_reducible (first | apply Zh | apply Zp | apply Zq | apply Zr) <;> intro hq) | ((with_reducible refine Zu ?_ ?_); focus omega) | ((with_reducible refine Zt (fun oF hoF hnF hnF' => ?_)); (try simp only [upd_none, ne_eq, not_and] at hoF)) | ((with_reducible apply ACalls.one1); (focus ((first | with_reducible refine hc _) <;> (first | (simp (maxDischargeDepth := 9) -implicitDefEqProofs -dsimp only [go_sem, seval, *]; done) | omega))); (focus (first | trivial | with_reducible exact rfl | (simp (maxDischargeDepth := 9) -implicitDefEqProofs -dsimp only [go_sem, seval]; done)))))
      refine fin_eq ?_
      (repeat' (first | simp (maxDischargeDepth := 9) -implicitDefEqProofs -dsimp only [go_sem, seval, *] | simp (disch := omega) only [wrap64])) <;> (repeat' refine And.intro ?_ ?_) <;> (first | omega | rfl | assumption | skip)
    · have hob : (x.op != 1) = true := by simp [ho]
      have hd : decide (x.op = 1) = false := by simp [ho]
      rw [hd, Bool.false_and]
      clear ho hd
      repeat' (first | simp (maxDischargeDepth := 9) -implicitDefEqProofs -dsimp only [go_sem, seval, *] | simp (disch := omega) only [wrap64] | (with_reducible (first | apply Zh | apply Zp | apply Zq | apply Zr) <;> intro hq) | ((with_reducible refine Zu ?_ ?_); focus omega) | ((with_reducible refine Zt (fun oF hoF hnF hnF' => ?_)); (try simp only [upd_none, ne_eq, not_and] at hoF)) | ((with_reducible apply ACalls.one1); (focus ((first | with_reducible refine hc _) <;> (first | (simp (maxDischargeDepth := 9) -implicitDefEqProofs -dsimp only [go_sem, seval, *]; done) | omega))); (focus (first | trivial | with_reducible exact rfl | (simp (maxDischargeDepth := 9) -implicitDefEqProofs -dsimp only [go_sem, seval]; done)))))
      refine fin_eq ?_
      (repeat' (first | simp (maxDischargeDepth := 9) -implicitDefEqProofs -dsimp only [go_sem, seval, *] | simp (disch := omega) only [wrap64])) <;> (repeat' refine And.intro ?_ ?_) <;> (first | omega | rfl | assumption | skip)
  have clo2 : ∀ a ∈ l, ∀ (b : Nat) (τ : Sig), τ b = some (.cells [.slice (g.map encS) .no]) → ∀ x ∈ a.l, ACalls Try.prog 109 (encT x :: [.ptr b 0]) τ (fun r σ' => r = .ret (.bool (!shpT g x)) ∧ σ' = τ) := fun a ha b τ hb x hx => by
    have hc := fun τ => ih a ha x hx τ
    refine calls_x mixed Try.func109 b109 n109 rfl q109 (by simp) ?_; unfold c109 r109
    repeat' (first | simp (maxDischargeDepth := 9) -implicitDefEqProofs -dsimp only [go_sem, seval, *] | simp (disch := omega) only [wrap64] | (with_reducible (first | apply Zh | apply Zp | apply Zq | apply Zr) <;> intro hq) | ((with_reducible refine Zu ?_ ?_); focus omega) | ((with_reducible refine Zt (fun oF hoF hnF hnF' => ?_)); (try simp only [upd_none, ne_eq, not_and] at hoF)) | ((with_reducible apply ACalls.one1); (focus ((first | with_reducible refine hc _) <;> (first | (simp (maxDischargeDepth := 9) -implicitDefEqProofs -dsimp only [go_sem, seval, *]; done) | omega))); (focus (first | trivial | with_reducible exact rfl | (simp (maxDischargeDepth := 9) -implicitDefEqProofs -dsimp only [go_sem, seval]; done)))))
    refine fin_eq ?_
    (repeat' (first | simp (maxDischargeDepth := 9) -implicitDefEqProofs -dsimp only [go_sem, seval, *] | simp (disch := omega) only [wrap64])) <;> (repeat' refine And.intro ?_ ?_) <;> (first | omega | rfl | assumption | skip)
  have con1 := fun (a : T) (ha : a ∈ l) (b : Nat) (τ : Sig) (hb : τ b = some (.cells [.slice (g.map encS) .no])) => sl_containsE (fun x => !(decide (x.op = 1) && shp g x)) a.e (by have := mem_sum (f := nodesT) ha; have := lenE_nodes a; omega) τ (clo1 a ha b τ hb)
  have con2 := fun (a : T) (ha : a ∈ l) (b : Nat) (τ : Sig) (hb : τ b = some (.cells [.slice (g.map encS) .no])) => sl_containsT (fun x => !shpT g x) a.l (by have := mem_sum (f := nodesT) ha; have := lenL_nodes a; omega) τ (clo2 a ha b τ hb)
  clear clo1 clo2 ih hw
  refine calls_x mixed Try.func102 b102 n102 rfl q102 (by simp) ?_; unfold c102 r102
  repeat' (first | simp (maxDischargeDepth := 9) -implicitDefEqProofs -dsimp only [go_sem, seval, *] | simp (disch := omega) only [wrap64] | (with_reducible (first | apply Zh | apply Zp | apply Zq | apply Zr) <;> intro hq) | ((with_reducible refine Zu ?_ ?_); focus omega) | ((with_reducible refine Zt (fun oF hoF hnF hnF' => ?_)); (try simp only [upd_none, ne_eq, not_and] at hoF)))
  obtain ⟨o, eo⟩ : ∃ x, x = oF := ⟨oF, rfl⟩
  subst eo
  have ho : σ o = none := hoF
  clear hoF hnF hnF'
  refine loop_rule (fun i : Nat => [(11, some (.int .i64 i)), (10, some (.int .i64 l.length)), (9, some (.slice (l.map encT) .no)), (2, some (.ptr o 0)), (1, some (.slice (l.map encT) .no))])
    (fun _ => upd σ o (.cells [.slice (g.map encS) .no])) (fun i => i ≤ l.length ∧ ∀ j, (h : j < l.length) → j < i → armT g l[j] = true ∧ (l[j].e.length = 0 ↔ j + 1 = l.length)) (fun i => l.length - i) 0 ?_ ?_
  · clear con1 con2
    (repeat' (first | simp (maxDischargeDepth := 9) -implicitDefEqProofs -dsimp only [go_sem, seval, *] | simp (disch := omega) only [wrap64])) <;> (repeat' refine And.intro ?_ ?_) <;> (first | omega | rfl | assumption | skip)
  · rintro i ⟨hi, hok⟩
    by_cases hlt : i < l.length
    · have hx := encTs_eq l[i]
      have hbad : ¬ (armT g l[i] = true ∧ (l[i].e.length = 0 ↔ i + 1 = l.length)) → armsT g l = false := fun h => by
        cases hh : armsT g l with
        | false => rfl
        | true =>
          unfold armsT at hh
          rw [Bool.and_eq_true, decide_eq_true_eq, List.all_eq_true] at hh
          exact (h ⟨hh.2 _ (List.getElem_mem hlt), hh.1.2 i hlt⟩).elim
      have hstep : (armT g l[i] = true ∧ (l[i].e.length = 0 ↔ i + 1 = l.length)) → ∀ j, (h : j < l.length) → j < i + 1 → armT g l[j] = true ∧ (l[j].e.length = 0 ↔ j + 1 = l.length) := fun hp j h1 h => by
        rcases Nat.lt_or_ge j i with h' | h'
        · exact hok j h1 h'
        · obtain rfl : j = i := by omega
          exact hp
      have c1 := con1 l[i] (List.getElem_mem hlt)
      have c2 := con2 l[i] (List.getElem_mem hlt)
      have ha := armT_any g l[i]
      clear con1 con2 hok
      obtain ⟨A, hA⟩ : ∃ A, (l[i].e.any fun x => !(decide (x.op = 1) && shp g x)) = A := ⟨_, rfl⟩
      obtain ⟨B, hB⟩ : ∃ A, (l[i].l.any fun s => !shpT g s) = A := ⟨_, rfl⟩
      rw [hA] at c1 ha
      rw [hB] at c2 ha
      clear hA hB
      obtain ⟨p1, hp1⟩ : ∃ p, ((l[i].e.length : Int) == 0) = p := ⟨_, rfl⟩
      obtain ⟨p2, hp2⟩ : ∃ p, ((i : Int) + 1 == l.length) = p := ⟨_, rfl⟩
      have hpos : (l[i].e.length = 0 ↔ i + 1 = l.length) ↔ p1 = p2 := by
        rw [← hp1, ← hp2, Bool.eq_iff_iff]; simp; omega
      rw [hpos] at hbad hstep
      clear hpos
      have bft : ((false : Bool) == true) = false := rfl
      have btf : ((true : Bool) == false) = false := rfl
      by_cases hf : l[i].op = 4 ∧ l[i].sig = 0 ∧ l[i].hi = 0 ∧ l[i].lo = 0
      · rw [show decide (l[i].op = 4 ∧ l[i].sig = 0 ∧ l[i].hi = 0 ∧ l[i].lo = 0) = true from decide_eq_true hf, Bool.true_and] at ha
        obtain ⟨f1, f2, f3, f4⟩ := hf
        by_cases hpp : p1 = p2
        · subst hpp
          have hpp : (p1 == p1) = true := by simp
          cases A
          · cases B
            · have hn := hstep ⟨by rw [ha]; rfl, rfl⟩
              clear hbad hstep ha
              repeat' (first | simp (maxDischargeDepth := 9) -implicitDefEqProofs -dsimp only [go_sem, seval, *] | simp (disch := omega) only [wrap64] | (with_reducible (first | apply Zh | apply Zp | apply Zq | apply Zr) <;> intro hq) | ((with_reducible refine Zu ?_ ?_); focus omega) | ((with_reducible refine Zt (fun oF hoF hnF hnF' => ?_)); (try simp only [upd_none, ne_eq, not_and] at hoF)) | ((with_reducible apply ACalls.one1); (focus ((first | with_reducible refine c1 _ _ ?_ | with_reducible refine c2 _ _ ?_) <;> (first | (simp (maxDischargeDepth := 9) -implicitDefEqProofs -dsimp only [go_sem, seval, *]; done) | omega))); (focus (first | trivial | with_reducible exact rfl | (simp (maxDischargeDepth := 9) -implicitDefEqProofs -dsimp only [go_sem, seval]; done)))))
              refine loop_next _ _ _ _ (i + 1) ?_; (repeat' (first | simp (maxDischargeDepth := 9) -implicitDefEqProofs -dsimp only [go_sem, seval, *] | simp (disch := omega) only [wrap64])) <;> (repeat' refine And.intro ?_ ?_) <;> (first | omega | rfl | assumption | skip)
            · rw [hbad (fun h => by rw [ha] at h; simp at h)]
              clear hbad hstep ha
              repeat' (first | simp (maxDischargeDepth := 9) -implicitDefEqProofs -dsimp only [go_sem, seval, *] | simp (disch := omega) only [wrap64] | (with_reducible (first | apply Zh | apply Zp | apply Zq | apply Zr) <;> intro hq) | ((with_reducible refine Zu ?_ ?_); focus omega) | ((with_reducible refine Zt (fun oF hoF hnF hnF' => ?_)); (try simp only [upd_none, ne_eq, not_and] at hoF)) | ((with_reducible apply ACalls.one1); (focus ((first | with_reducible refine c1 _ _ ?_ | with_reducible refine c2 _ _ ?_) <;> (first | (simp (maxDischargeDepth := 9) -implicitDefEqProofs -dsimp only [go_sem, seval, *]; done) | omega))); (focus (first | trivial | with_reducible exact rfl | (simp (maxDischargeDepth := 9) -implicitDefEqProofs -dsimp only [go_sem, seval]; done)))))
              refine fin_eq ?_
              (repeat' (first | simp (maxDischargeDepth := 9) -implicitDefEqProofs -dsimp only [go_sem, seval, *] | simp (disch := omega) only [wrap64])) <;> (repeat' refine And.intro ?_ ?_) <;> (first | omega | rfl | assumption | skip)
          · rw [hbad (fun h => by rw [ha] at h; simp at h)]
            clear hbad hstep ha
            repeat' (first | simp (maxDischargeDepth := 9) -implicitDefEqProofs -dsimp only [go_sem, seval, *] | simp (disch := omega) only [wrap64] | (with_reducible (first | apply Zh | apply Zp | apply Zq | apply Zr) <;> intro hq) | ((with_reducible refine Zu ?_ ?_); focus omega) | ((with_reducible refine Zt (fun oF hoF hnF hnF' => ?_)); (try simp only [upd_none, ne_eq, not_and] at hoF)) | ((with_reducible apply ACalls.one1); (focus ((first | with_reducible refine c1 _ _ ?_ | with_reducible refine c2 _ _ ?_) <;> (first | (simp (maxDischargeDepth := 9) -implicitDefEqProofs -dsimp only [go_sem, seval, *]; done) | omega))); (focus (first | trivial | with_reducible exact rfl | (simp (maxDischargeDepth := 9) -implicitDefEqProofs -dsimp only [go_sem, seval]; done)))))
            refine fin_eq ?_
            (repeat' (first | simp (maxDischargeDepth := 9) -implicitDefEqProofs -dsimp only [go_sem, seval, *] | simp (disch := omega) only [wrap64])) <;> (repeat' refine And.intro ?_ ?_) <;> (first | omega | rfl | assumption | skip)
        · rw [hbad (fun h => hpp h.2)]
          have hpb : (p1 == p2) = false := by simpa using hpp
          clear hbad hstep hpp
          repeat' (first | simp (maxDischargeDepth := 9) -implicitDefEqProofs -dsimp only [go_sem, seval, *] | simp (disch := omega) only [wrap64] | (with_reducible (first | apply Zh | apply Zp | apply Zq | apply Zr) <;> intro hq) | ((with_reducible refine Zu ?_ ?_); focus omega) | ((with_reducible refine Zt (fun oF hoF hnF hnF' => ?_)); (try simp only [upd_none, ne_eq, not_and] at hoF)) | ((with_reducible apply ACalls.one1); (focus ((first | with_reducible refine c1 _ _ ?_ | with_reducible refine c2 _ _ ?_) <;> (first | (simp (maxDischargeDepth := 9) -implicitDefEqProofs -dsimp only [go_sem, seval, *]; done) | omega))); (focus (first | trivial | with_reducible exact rfl | (simp (maxDischargeDepth := 9) -implicitDefEqProofs -dsimp only [go_sem, seval]; done)))))
          refine fin_eq ?_
          (repeat' (first | simp (maxDischargeDepth := 9) -implicitDefEqProofs -dsimp only [go_sem, seval, *] | simp (disch := omega) only [wrap64])) <;> (repeat' refine And.intro ?_ ?_) <;> (first | omega | rfl | assumption | skip)
      · rw [show decide (l[i].op = 4 ∧ l[i].sig = 0 ∧ l[i].hi = 0 ∧ l[i].lo = 0) = false from decide_eq_false hf, Bool.false_and] at ha
        rw [hbad (fun h => by rw [ha] at h; simp at h)]
        clear hbad hstep ha
        repeat' (first | simp (maxDischargeDepth := 9) -implicitDefEqProofs -dsimp only [go_sem, seval, *] | simp (disch := omega) only [wrap64] | (with_reducible (first | apply Zh | apply Zp | apply Zq | apply Zr) <;> intro hq) | ((with_reducible refine Zu ?_ ?_); focus omega) | ((with_reducible refine Zt (fun oF hoF hnF hnF' => ?_)); (try simp only [upd_none, ne_eq, not_and] at hoF)) | ((with_reducible apply ACalls.one1); (focus ((first | with_reducible refine c1 _ _ ?_ | with_reducible refine c2 _ _ ?_) <;> (first | (simp (maxDischargeDepth := 9) -implicitDefEqProofs -dsimp only [go_sem, seval, *]; done) | omega))); (focus (first | trivial | with_reducible exact rfl | (simp (maxDischargeDepth := 9) -implicitDefEqProofs -dsimp only [go_sem, seval]; done)))))
        all_goals first | (exfalso; apply hf; clear c1 c2; omega) | skip
        all_goals
          refine fin_eq ?_
          (repeat' (first | simp (maxDischargeDepth := 9) -implicitDefEqProofs -dsimp only [go_sem, seval, *] | simp (disch := omega) only [wrap64])) <;> (repeat' refine And.intro ?_ ?_) <;> (first | omega | rfl | assumption | skip)
    · have ei : i = l.length := by omega
      subst ei
      have hv : armsT g l = decide (0 < (l.length : Int)) := by
        by_cases h0 : 0 < l.length
        · rw [decide_eq_true (by omega)]
          unfold armsT
          rw [Bool.and_eq_true, decide_eq_true_eq, List.all_eq_true]
          refine ⟨⟨h0, fun j hj => (hok j hj hj).2⟩, fun x hx => ?_⟩
          obtain ⟨j, hj, rfl⟩ := List.getElem_of_mem hx
          exact (hok j hj hj).1
        · rw [decide_eq_false (by omega)]
          unfold armsT
          rw [Bool.and_eq_false_iff]
          exact .inl (decide_eq_false fun h => h0 h.1)
      clear con1 con2 hok
      repeat' (first | simp (maxDischargeDepth := 9) -implicitDefEqProofs -dsimp only [go_sem, seval, gt_iff_lt, *] | simp (disch := omega) only [wrap64] | (with_reducible (first | apply Zh | apply Zp | apply Zq | apply Zr) <;> intro hq) | ((with_reducible refine Zu ?_ ?_); focus omega) | ((with_reducible refine Zt (fun oF hoF hnF hnF' => ?_)); (try simp only [upd_none, ne_eq, not_and] at hoF)))
      refine fin_eq ?_
      (repeat' (first | simp (maxDischargeDepth := 9) -implicitDefEqProofs -dsimp only [go_sem, seval, *] | simp (disch := omega) only [wrap64])) <;> (repeat' refine And.intro ?_ ?_) <;> (first | omega | rfl | assumption | skip)
set_option maxRecDepth 20000 in
set_option maxHeartbeats 2000000 in
theorem sz_shapeT_step (g : List Sg) (hg : g.length ≤ 1000000000000) (t : T) (hn : nodesT t ≤ 16777216) (hw : WfT t)
    (ih : ∀ s ∈ t.l, ∀ τ, ACalls Try.prog 85 [.slice (g.map encS) .no, encT s] τ (fun r σ' => r = .ret (.bool (shpT g s)) ∧ σ' = τ))
    (ih2 : ∀ a ∈ t.l, ∀ s ∈ a.l, ∀ τ, ACalls Try.prog 85 [.slice (g.map encS) .no, encT s] τ (fun r σ' => r = .ret (.bool (shpT g s)) ∧ σ' = τ)) (σ : Sig) :
    ACalls Try.prog 85 [.slice (g.map encS) .no, encT t] σ (fun r σ' => r = .ret (.bool (shpT g t)) ∧ σ' = σ) := by
  have h1 := encTs_eq t
  have l1 := lenE_nodes t
  have l2 := lenL_nodes t
  have l3 := sub_nodesT t
  have w8 := (WfT_iff t).1 hw
  have clo1 : ∀ (b : Nat) (τ : Sig), τ b = some (.cells [.slice (g.map encS) .no]) → ∀ x ∈ t.e, ACalls Try.prog 100 (encE x :: [.ptr b 0]) τ (fun r σ' => r = .ret (.bool (!shp g x)) ∧ σ' = τ) := fun b τ hb x hx => by
    have hc := fun τ => sz_shape g hg x τ (by have := partE_nodes hx; omega) (w8.2.1 x hx)
    refine calls_x mixed Try.func100 b100 n100 rfl q100 (by simp) ?_; unfold c100 r100
    repeat' (first | simp (maxDischargeDepth := 9) -implicitDefEqProofs -dsimp only [go_sem, seval, *] | (with_reducible (first | apply Zc | apply Zd | apply Zf | apply Zh | apply Zi) <;> intro hq) | ((with_reducible refine Zu ?_ ?_); focus omega) | ((with_reducible refine Zt (fun oF hoF hnF hnF' => ?_)); (try simp only [upd_none, ne_eq, not_and] at hoF)) | ((with_reducible apply ACalls.one1); (focus ((first | with_reducible refine hc _) <;> (first | (simp (maxDischargeDepth := 9) -implicitDefEqProofs -dsimp only [go_sem, seval, *]; done) | omega))); (focus (first | trivial | with_reducible exact rfl | (simp (maxDischargeDepth := 9) -implicitDefEqProofs -dsimp only [go_sem, seval]; done)))))
    refine fin_eq ?_
    (repeat' (first | simp (maxDischargeDepth := 9) -implicitDefEqProofs -dsimp only [go_sem, seval, *])) <;> (repeat' refine And.intro ?_ ?_) <;> (first | omega | rfl | assumption | skip)
  have clo2 : ∀ (b : Nat) (τ : Sig), τ b = some (.cells [.slice (g.map encS) .no]) → ∀ x ∈ t.l, ACalls Try.prog 101 (encT x :: [.ptr b 0]) τ (fun r σ' => r = .ret (.bool (!shpT g x)) ∧ σ' = τ) := fun b τ hb x hx => by
    have hc := fun τ => ih x hx τ
    refine calls_x mixed Try.func101 b101 n101 rfl q101 (by simp) ?_; unfold c101 r101
    repeat' (first | simp (maxDischargeDepth := 9) -implicitDefEqProofs -dsimp only [go_sem, seval, *] | (with_reducible (first | apply Zc | apply Zd | apply Zf | apply Zh | apply Zi) <;> intro hq) | ((with_reducible refine Zu ?_ ?_); focus omega) | ((with_reducible refine Zt (fun oF hoF hnF hnF' => ?_)); (try simp only [upd_none, ne_eq, not_and] at hoF)) | ((with_reducible apply ACalls.one1); (focus ((first | with_reducible refine hc _) <;> (first | (simp (maxDischargeDepth := 9) -implicitDefEqProofs -dsimp only [go_sem, seval, *]; done) | omega))); (focus (first | trivial | with_reducible exact rfl | (simp (maxDischargeDepth := 9) -implicitDefEqProofs -dsimp only [go_sem, seval]; done)))))
    refine fin_eq ?_
    (repeat' (first | simp (maxDischargeDepth := 9) -implicitDefEqProofs -dsimp only [go_sem, seval, *])) <;> (repeat' refine And.intro ?_ ?_) <;> (first | omega | rfl | assumption | skip)
  have c1 := fun (b : Nat) (τ : Sig) (hb : τ b = some (.cells [.slice (g.map encS) .no])) => sl_containsE (fun x => !shp g x) t.e (by omega) τ (clo1 b τ hb)
  have c2 := fun (b : Nat) (τ : Sig) (hb : τ b = some (.cells [.slice (g.map encS) .no])) => sl_containsT (fun x => !shpT g x) t.l (by omega) τ (clo2 b τ hb)
  have c3 := fun τ => sz_arms_step g hg t.l (by omega) w8.2.2 ih2 τ
  have c4 := fun τ => sz_slice g t.sig t.hi t.lo τ hg
  have hs := shpT_eq g t
  rw [all_any t.e, all_any t.l (shpT g)] at hs
  obtain ⟨A, hA⟩ : ∃ A, (t.e.any fun x => !shp g x) = A := ⟨_, rfl⟩
  obtain ⟨B, hB⟩ : ∃ A, (t.l.any fun s => !shpT g s) = A := ⟨_, rfl⟩
  obtain ⟨C, hC⟩ : ∃ A, armsT g t.l = A := ⟨_, rfl⟩
  obtain ⟨D, hD⟩ : ∃ A, place g t.sig t.hi t.lo = A := ⟨_, rfl⟩
  rw [hA] at c1 hs
  rw [hB] at c2 hs
  rw [hC] at c3 hs
  rw [hD] at c4 hs
  clear clo1 clo2 ih ih2 w8 hw hA hB hC hD
  refine calls_x mixed Try.func85 b85 n85 rfl q85 (by simp) ?_; unfold c85 r85
  cases A
  case true =>
    have hv : shpT g t = false := by rw [hs]; simp
    clear hs c2 c3 c4
    repeat' (first | simp (maxDischargeDepth := 9) -implicitDefEqProofs -dsimp only [go_sem, seval, *] | (with_reducible (first | apply Zc | apply Zd | apply Zf | apply Zh | apply Zi) <;> intro hq) | ((with_reducible refine Zu ?_ ?_); focus omega) | ((with_reducible refine Zt (fun oF hoF hnF hnF' => ?_)); (try simp only [upd_none, ne_eq, not_and] at hoF)) | ((with_reducible apply ACalls.one1); (focus ((first | with_reducible refine c1 _ _ ?_) <;> (first | (simp (maxDischargeDepth := 9) -implicitDefEqProofs -dsimp only [go_sem, seval, *]; done) | omega))); (focus (first | trivial | with_reducible exact rfl | (simp (maxDischargeDepth := 9) -implicitDefEqProofs -dsimp only [go_sem, seval]; done)))))
    refine fin_eq ?_
    (repeat' (first | simp (maxDischargeDepth := 9) -implicitDefEqProofs -dsimp only [go_sem, seval, *])) <;> (repeat' refine And.intro ?_ ?_) <;> (first | omega | rfl | assumption | skip)
  by_cases o1 : t.op = 1
  · rw [if_pos o1] at hs
    by_cases hb : t.e.length = 1 ∧ t.l.length = 0
    · rw [decide_eq_true hb] at hs
      simp only [Bool.not_false, Bool.true_and] at hs
      obtain ⟨b1, b2⟩ := hb
      clear c2 c3
      repeat' (first | simp (maxDischargeDepth := 9) -implicitDefEqProofs -dsimp only [go_sem, seval, *] | (with_reducible (first | apply Zc | apply Zd | apply Zf | apply Zh | apply Zi) <;> intro hq) | ((with_reducible refine Zu ?_ ?_); focus omega) | ((with_reducible refine Zt (fun oF hoF hnF hnF' => ?_)); (try simp only [upd_none, ne_eq, not_and] at hoF)) | ((with_reducible apply ACalls.one1); (focus ((first | with_reducible refine c1 _ _ ?_ | with_reducible refine c4 _) <;> (first | (simp (maxDischargeDepth := 9) -implicitDefEqProofs -dsimp only [go_sem, seval, *]; done) | omega))); (focus (first | trivial | with_reducible exact rfl | (simp (maxDischargeDepth := 9) -implicitDefEqProofs -dsimp only [go_sem, seval]; done)))))
      refine fin_eq ?_
      (repeat' (first | simp (maxDischargeDepth := 9) -implicitDefEqProofs -dsimp only [go_sem, seval, *])) <;> (repeat' refine And.intro ?_ ?_) <;> (first | omega | rfl | assumption | skip)
    · rw [decide_eq_false hb] at hs
      simp only [Bool.not_false, Bool.true_and, Bool.false_and] at hs
      clear c2 c3
      repeat' (first | simp (maxDischargeDepth := 9) -implicitDefEqProofs -dsimp only [go_sem, seval, *] | (with_reducible (first | apply Zc | apply Zd | apply Zf | apply Zh | apply Zi) <;> intro hq) | ((with_reducible refine Zu ?_ ?_); focus omega) | ((with_reducible refine Zt (fun oF hoF hnF hnF' => ?_)); (try simp only [upd_none, ne_eq, not_and] at hoF)) | ((with_reducible apply ACalls.one1); (focus ((first | with_reducible refine c1 _ _ ?_ | with_reducible refine c4 _) <;> (first | (simp (maxDischargeDepth := 9) -implicitDefEqProofs -dsimp only [go_sem, seval, *]; done) | omega))); (focus (first | trivial | with_reducible exact rfl | (simp (maxDischargeDepth := 9) -implicitDefEqProofs -dsimp only [go_sem, seval]; done)))))
      all_goals first | (exfalso; apply hb; clear c1 c4; omega) | skip
      all_goals
        refine fin_eq ?_
        (repeat' (first | simp (maxDischargeDepth := 9) -implicitDefEqProofs -dsimp only [go_sem, seval, *])) <;> (repeat' refine And.intro ?_ ?_) <;> (first | omega | rfl | assumption | skip)
  rw [if_neg o1] at hs
  have ob1 : (t.op != 1) = true := by simp [o1]
  by_cases hz : t.sig = 0 ∧ t.hi = 0 ∧ t.lo = 0
  case neg =>
    have hv : shpT g t = false := by rw [hs, decide_eq_false hz]; simp
    clear hs c2 c3 c4
    repeat' (first | simp (maxDischargeDepth := 9) -implicitDefEqProofs -dsimp only [go_sem, seval, *] | (with_reducible (first | apply Zc | apply Zd | apply Zf | apply Zh | apply Zi) <;> intro hq) | ((with_reducible refine Zu ?_ ?_); focus omega) | ((with_reducible refine Zt (fun oF hoF hnF hnF' => ?_)); (try simp only [upd_none, ne_eq, not_and] at hoF)) | ((with_reducible apply ACalls.one1); (focus ((first | with_reducible refine c1 _ _ ?_) <;> (first | (simp (maxDischargeDepth := 9) -implicitDefEqProofs -dsimp only [go_sem, seval, *]; done) | omega))); (focus (first | trivial | with_reducible exact rfl | (simp (maxDischargeDepth := 9) -implicitDefEqProofs -dsimp only [go_sem, seval]; done)))))
    all_goals first | (exfalso; apply hz; clear c1; omega) | skip
    all_goals
      refine fin_eq ?_
      (repeat' (first | simp (maxDischargeDepth := 9) -implicitDefEqProofs -dsimp only [go_sem, seval, *])) <;> (repeat' refine And.intro ?_ ?_) <;> (first | omega | rfl | assumption | skip)
  rw [decide_eq_true hz] at hs
  simp only [Bool.not_false, Bool.true_and] at hs
  obtain ⟨z1, z2, z3⟩ := hz
  by_cases o2 : t.op = 2
  · rw [if_pos o2] at hs
    clear c3 c4
    by_cases hb : t.e.length = 1 ∧ t.l.length = 2
    · obtain ⟨b1, b2⟩ := hb
      have b3 : (0 : Int) < t.l.length := by omega
      have b4 : (1 : Int) < t.l.length := by omega
      have b5 : 0 < t.l.length := by omega
      have b6 : 1 < t.l.length := by omega
      have hall : (t.l.all fun x => decide (x.op = 5)) = (decide (t.l[0].op = 5) && decide (t.l[1].op = 5)) := by
        obtain ⟨x, y, hxy⟩ := len2 b2
        simp [hxy]
      rw [decide_eq_true ⟨b1, b2⟩, Bool.true_and, hall] at hs
      clear hall
      obtain ⟨u, hu⟩ : ∃ u, (t.l[0].op != 5) = u := ⟨_, rfl⟩
      obtain ⟨v, hv⟩ : ∃ u, (t.l[1].op != 5) = u := ⟨_, rfl⟩
      have hu2 : decide (t.l[0].op = 5) = !u := by rw [← hu, bne, Bool.not_not]; rfl
      have hv2 : decide (t.l[1].op = 5) = !v := by rw [← hv, bne, Bool.not_not]; rfl
      rw [hu2, hv2] at hs
      clear hu2 hv2
      cases u <;> cases v <;> simp only [Bool.not_false, Bool.not_true, Bool.true_and, Bool.false_and, Bool.and_false] at hs
      all_goals
        repeat' (first | simp (maxDischargeDepth := 9) -implicitDefEqProofs -dsimp only [go_sem, seval, *] | (with_reducible (first | apply Zc | apply Zd | apply Zf | apply Zh | apply Zi) <;> intro hq) | ((with_reducible refine Zu ?_ ?_); focus omega) | ((with_reducible refine Zt (fun oF hoF hnF hnF' => ?_)); (try simp only [upd_none, ne_eq, not_and] at hoF)) | ((with_reducible apply ACalls.one1); (focus ((first | with_reducible refine c1 _ _ ?_ | with_reducible refine c2 _ _ ?_) <;> (first | (simp (maxDischargeDepth := 9) -implicitDefEqProofs -dsimp only [go_sem, seval, *]; done) | omega))); (focus (first | trivial | with_reducible exact rfl | (simp (maxDischargeDepth := 9) -implicitDefEqProofs -dsimp only [go_sem, seval]; done)))))
        refine fin_eq ?_
        (repeat' (first | simp (maxDischargeDepth := 9) -implicitDefEqProofs -dsimp only [go_sem, seval, *])) <;> (repeat' refine And.intro ?_ ?_) <;> (first | omega | rfl | assumption | skip)
    · rw [decide_eq_false hb] at hs
      simp only [Bool.false_and] at hs
      repeat' (first | simp (maxDischargeDepth := 9) -implicitDefEqProofs -dsimp only [go_sem, seval, *] | (with_reducible (first | apply Zc | apply Zd | apply Zf | apply Zh | apply Zi) <;> intro hq) | ((with_reducible refine Zu ?_ ?_); focus omega) | ((with_reducible refine Zt (fun oF hoF hnF hnF' => ?_)); (try simp only [upd_none, ne_eq, not_and] at hoF)) | ((with_reducible apply ACalls.one1); (focus ((first | with_reducible refine c1 _ _ ?_ | with_reducible refine c2 _ _ ?_) <;> (first | (simp (maxDischargeDepth := 9) -implicitDefEqProofs -dsimp only [go_sem, seval, *]; done) | omega))); (focus (first | trivial | with_reducible exact rfl | (simp (maxDischargeDepth := 9) -implicitDefEqProofs -dsimp only [go_sem, seval]; done)))))
      all_goals first | (exfalso; apply hb; clear c1 c2; omega) | skip
      all_goals
        refine fin_eq ?_
        (repeat' (first | simp (maxDischargeDepth := 9) -implicitDefEqProofs -dsimp only [go_sem, seval, *])) <;> (repeat' refine And.intro ?_ ?_) <;> (first | omega | rfl | assumption | skip)
  rw [if_neg o2] at hs
  by_cases o3 : t.op = 3
  · rw [if_pos o3] at hs
    by_cases hb : t.e.length = 1
    · rw [decide_eq_true hb, Bool.true_and] at hs
      clear c2 c4
      repeat' (first | simp (maxDischargeDepth := 9) -implicitDefEqProofs -dsimp only [go_sem, seval, *] | (with_reducible (first | apply Zc | apply Zd | apply Zf | apply Zh | apply Zi) <;> intro hq) | ((with_reducible refine Zu ?_ ?_); focus omega) | ((with_reducible refine Zt (fun oF hoF hnF hnF' => ?_)); (try simp only [upd_none, ne_eq, not_and] at hoF)) | ((with_reducible apply ACalls.one1); (focus ((first | with_reducible refine c1 _ _ ?_ | with_reducible refine c3 _) <;> (first | (simp (maxDischargeDepth := 9) -implicitDefEqProofs -dsimp only [go_sem, seval, *]; done) | omega))); (focus (first | trivial | with_reducible exact rfl | (simp (maxDischargeDepth := 9) -implicitDefEqProofs -dsimp only [go_sem, seval]; done)))))
      refine fin_eq ?_
      (repeat' (first | simp (maxDischargeDepth := 9) -implicitDefEqProofs -dsimp only [go_sem, seval, *])) <;> (repeat' refine And.intro ?_ ?_) <;> (first | omega | rfl | assumption | skip)
    · rw [decide_eq_false hb, Bool.false_and] at hs
      have hb2 : ((t.e.length : Int) == 1) = false := by simp; omega
      clear c2 c4 hb
      repeat' (first | simp (maxDischargeDepth := 9) -implicitDefEqProofs -dsimp only [go_sem, seval, *] | (with_reducible (first | apply Zc | apply Zd | apply Zf | apply Zh | apply Zi) <;> intro hq) | ((with_reducible refine Zu ?_ ?_); focus omega) | ((with_reducible refine Zt (fun oF hoF hnF hnF' => ?_)); (try simp only [upd_none, ne_eq, not_and] at hoF)) | ((with_reducible apply ACalls.one1); (focus ((first | with_reducible refine c1 _ _ ?_ | with_reducible refine c3 _) <;> (first | (simp (maxDischargeDepth := 9) -implicitDefEqProofs -dsimp only [go_sem, seval, *]; done) | omega))); (focus (first | trivial | with_reducible exact rfl | (simp (maxDischargeDepth := 9) -implicitDefEqProofs -dsimp only [go_sem, seval]; done)))))
      refine fin_eq ?_
      (repeat' (first | simp (maxDischargeDepth := 9) -implicitDefEqProofs -dsimp only [go_sem, seval, *])) <;> (repeat' refine And.intro ?_ ?_) <;> (first | omega | rfl | assumption | skip)
  rw [if_neg o3] at hs
  by_cases o5 : t.op = 5
  · rw [if_pos o5] at hs
    clear c3 c4
    by_cases hb : t.e.length = 0
    · rw [decide_eq_true hb, Bool.true_and] at hs
      repeat' (first | simp (maxDischargeDepth := 9) -implicitDefEqProofs -dsimp only [go_sem, seval, gt_iff_lt, *] | (with_reducible (first | apply Zc | apply Zd | apply Zf | apply Zh | apply Zi) <;> intro hq) | ((with_reducible refine Zu ?_ ?_); focus omega) | ((with_reducible refine Zt (fun oF hoF hnF hnF' => ?_)); (try simp only [upd_none, ne_eq, not_and] at hoF)) | ((with_reducible apply ACalls.one1); (focus ((first | with_reducible refine c1 _ _ ?_ | with_reducible refine c2 _ _ ?_) <;> (first | (simp (maxDischargeDepth := 9) -implicitDefEqProofs -dsimp only [go_sem, seval, *]; done) | omega))); (focus (first | trivial | with_reducible exact rfl | (simp (maxDischargeDepth := 9) -implicitDefEqProofs -dsimp only [go_sem, seval]; done)))))
      all_goals first | (exfalso; clear c1 c2; omega) | skip
      all_goals
        refine fin_eq ?_
        (repeat' (first | simp (maxDischargeDepth := 9) -implicitDefEqProofs -dsimp only [go_sem, seval, *])) <;> (repeat' refine And.intro ?_ ?_) <;> (first | omega | rfl | assumption | skip)
    · rw [decide_eq_false hb, Bool.false_and] at hs
      repeat' (first | simp (maxDischargeDepth := 9) -implicitDefEqProofs -dsimp only [go_sem, seval, gt_iff_lt, *] | (with_reducible (first | apply Zc | apply Zd | apply Zf | apply Zh | apply Zi) <;> intro hq) | ((with_reducible refine Zu ?_ ?_); focus omega) | ((with_reducible refine Zt (fun oF hoF hnF hnF' => ?_)); (try simp only [upd_none, ne_eq, not_and] at hoF)) | ((with_reducible apply ACalls.one1); (focus ((first | with_reducible refine c1 _ _ ?_ | with_reducible refine c2 _ _ ?_) <;> (first | (simp (maxDischargeDepth := 9) -implicitDefEqProofs -dsimp only [go_sem, seval, *]; done) | omega))); (focus (first | trivial | with_reducible exact rfl | (simp (maxDischargeDepth := 9) -implicitDefEqProofs -dsimp only [go_sem, seval]; done)))))
      all_goals first | (exfalso; clear c1 c2; omega) | skip
      all_goals
        refine fin_eq ?_
        (repeat' (first | simp (maxDischargeDepth := 9) -implicitDefEqProofs -dsimp only [go_sem, seval, *])) <;> (repeat' refine And.intro ?_ ?_) <;> (first | omega | rfl | assumption | skip)
  rw [if_neg o5] at hs
  have ob2 : (t.op == 2) = false := by simp [o2]
  have ob3 : (t.op == 3) = false := by simp [o3]
  have ob5 : (t.op == 5) = false := by simp [o5]
  have ob6 : (t.op == 1) = false := by simp [o1]
  clear o1 o2 o3 o5 c2 c3 c4
  repeat' (first | simp (maxDischargeDepth := 9) -implicitDefEqProofs -dsimp only [go_sem, seval, *] | (with_reducible (first | apply Zc | apply Zd | apply Zf | apply Zh | apply Zi) <;> intro hq) | ((with_reducible refine Zu ?_ ?_); focus omega) | ((with_reducible refine Zt (fun oF hoF hnF hnF' => ?_)); (try simp only [upd_none, ne_eq, not_and] at hoF)) | ((with_reducible apply ACalls.one1); (focus ((first | with_reducible refine c1 _ _ ?_) <;> (first | (simp (maxDischargeDepth := 9) -implicitDefEqProofs -dsimp only [go_sem, seval, *]; done) | omega))); (focus (first | trivial | with_reducible exact rfl | (simp (maxDischargeDepth := 9) -implicitDefEqProofs -dsimp only [go_sem, seval]; done)))))
  refine fin_eq ?_
  (repeat' (first | simp (maxDischargeDepth := 9) -implicitDefEqProofs -dsimp only [go_sem, seval, *])) <;> (repeat' refine And.intro ?_ ?_) <;> (first | omega | rfl | assumption | skip)
theorem sz_shapeT (g : List Sg) (hg : g.length ≤ 1000000000000) (t : T) (σ : Sig) (hn : nodesT t ≤ 16777216) (hw : WfT t) :
    ACalls Try.prog 85 [.slice (g.map encS) .no, encT t] σ (fun r σ' => r = .ret (.bool (shpT g t)) ∧ σ' = σ) := by
  have key : nodesT t ≤ 16777216 → WfT t → (∀ τ, ACalls Try.prog 85 [.slice (g.map encS) .no, encT t] τ (fun r σ' => r = .ret (.bool (shpT g t)) ∧ σ' = τ)) ∧
      ∀ s ∈ t.l, ∀ τ, ACalls Try.prog 85 [.slice (g.map encS) .no, encT s] τ (fun r σ' => r = .ret (.bool (shpT g s)) ∧ σ' = τ) := by
    refine T.ind (P := fun t => nodesT t ≤ 16777216 → WfT t → (∀ τ, ACalls Try.prog 85 [.slice (g.map encS) .no, encT t] τ (fun r σ' => r = .ret (.bool (shpT g t)) ∧ σ' = τ)) ∧
      ∀ s ∈ t.l, ∀ τ, ACalls Try.prog 85 [.slice (g.map encS) .no, encT s] τ (fun r σ' => r = .ret (.bool (shpT g s)) ∧ σ' = τ)) (fun t ih hn hw => ?_) t
    have h := fun (x : T) (hx : x ∈ t.l) => ih x hx (by have := partT_nodes hx; omega) (((WfT_iff t).1 hw).2.2 x hx)
    exact ⟨fun τ => sz_shapeT_step g hg t hn hw (fun s hs τ => (h s hs).1 τ) (fun a ha s hs τ => (h a ha).2 s hs τ) τ, fun s hs τ => (h s hs).1 τ⟩
  exact (key hn hw).1 σ
theorem sz_shaped (d : Flat) (σ : Sig) (hd : Sm d) (hw : WfD d) : ACalls Try.prog 44 [encD d] σ (fun r σ' => r = .ret (.bool (shapedD d)) ∧ σ' = σ) := by
  have l1 := hd.1
  have l2 := hd.2.1
  have l3 := hd.2.2.1
  have c1 := fun τ => sz_signals d.sigs τ (by omega)
  have clo1 : ∀ (b : Nat) (τ : Sig), τ b = some (.cells (dL d)) → ∀ p ∈ d.procs, ∀ x ∈ p.l, ACalls Try.prog 84 (encT x :: [.ptr b 0]) τ (fun r σ' => r = .ret (.bool (!shpT d.sigs x)) ∧ σ' = τ) := fun b τ hb p hp x hx => by
    have hc := fun τ => sz_shapeT d.sigs (by omega) x τ (by have h := sm_pr hd hp; unfold nodesP at h; have := mem_sum (f := nodesT) hx; omega) (hw.procs p hp x hx)
    refine calls_x mixed Try.func84 b84 n84 rfl q84 (by simp) ?_; unfold c84 r84
    repeat' (first | simp (maxDischargeDepth := 9) -implicitDefEqProofs -dsimp only [go_sem, seval, *] | ((with_reducible refine Zt (fun oF hoF hnF hnF' => ?_)); (try simp only [upd_none, ne_eq, not_and] at hoF)) | ((with_reducible apply ACalls.one1); (focus ((first | with_reducible refine hc _) <;> (first | (simp (maxDischargeDepth := 9) -implicitDefEqProofs -dsimp only [go_sem, seval, *]; done) | omega))); (focus (first | trivial | with_reducible exact rfl | (simp (maxDischargeDepth := 9) -implicitDefEqProofs -dsimp only [go_sem, seval]; done)))))
    refine fin_eq ?_
    (repeat' (first | simp (maxDischargeDepth := 9) -implicitDefEqProofs -dsimp only [go_sem, seval, *])) <;> (repeat' refine And.intro ?_ ?_) <;> (first | omega | rfl | assumption | skip)
  have clo2 : ∀ (b c : Nat) (τ : Sig), τ b = some (.cells (dL d)) → τ c = some (.cells [.fn 84 [] [.ptr b 0]]) → ∀ p ∈ d.procs, ACalls Try.prog 86 (encP p :: [.ptr c 0]) τ (fun r σ' => r = .ret (.bool (p.l.any fun x => !shpT d.sigs x)) ∧ σ' = τ) := fun b c τ hb hcc p hp => by
    have hc := fun τ (hb : τ b = some (.cells (dL d))) => sl_containsT (fun x => !shpT d.sigs x) p.l (by have h := sm_pr hd hp; unfold nodesP at h; have := len_sum nodesT_pos p.l; omega) τ (clo1 b τ hb p hp)
    refine calls_x mixed Try.func86 b86 n86 rfl q86 (by simp) ?_; unfold c86 r86
    repeat' (first | simp (maxDischargeDepth := 9) -implicitDefEqProofs -dsimp only [go_sem, seval, *] | ((with_reducible refine Zt (fun oF hoF hnF hnF' => ?_)); (try simp only [upd_none, ne_eq, not_and] at hoF)) | ((with_reducible apply ACalls.one1); (focus ((first | with_reducible refine hc _ ?_) <;> (first | (simp (maxDischargeDepth := 9) -implicitDefEqProofs -dsimp only [go_sem, seval, *]; done) | omega))); (focus (first | trivial | with_reducible exact rfl | (simp (maxDischargeDepth := 9) -implicitDefEqProofs -dsimp only [go_sem, seval]; done)))))
    refine fin_eq ?_
    (repeat' (first | simp (maxDischargeDepth := 9) -implicitDefEqProofs -dsimp only [go_sem, seval, *])) <;> (repeat' refine And.intro ?_ ?_) <;> (first | omega | rfl | assumption | skip)
  have clo3 : ∀ (b : Nat) (τ : Sig), τ b = some (.cells (dL d)) → ∀ x ∈ d.chks, ACalls Try.prog 88 (encC x :: [.ptr b 0]) τ (fun r σ' => r = .ret (.bool (!shp d.sigs x.e)) ∧ σ' = τ) := fun b τ hb x hx => by
    have hc := fun τ => sz_shape d.sigs (by omega) x.e τ (sm_ck hd hx) (hw.chks x hx)
    refine calls_x mixed Try.func88 b88 n88 rfl q88 (by simp) ?_; unfold c88 r88
    repeat' (first | simp (maxDischargeDepth := 9) -implicitDefEqProofs -dsimp only [go_sem, seval, *] | ((with_reducible refine Zt (fun oF hoF hnF hnF' => ?_)); (try simp only [upd_none, ne_eq, not_and] at hoF)) | ((with_reducible apply ACalls.one1); (focus ((first | with_reducible refine hc _) <;> (first | (simp (maxDischargeDepth := 9) -implicitDefEqProofs -dsimp only [go_sem, seval, *]; done) | omega))); (focus (first | trivial | with_reducible exact rfl | (simp (maxDischargeDepth := 9) -implicitDefEqProofs -dsimp only [go_sem, seval]; done)))))
    refine fin_eq ?_
    (repeat' (first | simp (maxDischargeDepth := 9) -implicitDefEqProofs -dsimp only [go_sem, seval, *])) <;> (repeat' refine And.intro ?_ ?_) <;> (first | omega | rfl | assumption | skip)
  have c2 := fun (b c : Nat) (τ : Sig) (hb : τ b = some (.cells (dL d))) (hc : τ c = some (.cells [.fn 84 [] [.ptr b 0]])) => sl_containsP (fun p => p.l.any fun x => !shpT d.sigs x) d.procs (by omega) τ (clo2 b c τ hb hc)
  have c3 := fun (b : Nat) (τ : Sig) (hb : τ b = some (.cells (dL d))) => sl_containsC (fun x => !shp d.sigs x.e) d.chks (by omega) τ (clo3 b τ hb)
  have hs : shapedD d = (sigsOk d.sigs && !(d.procs.any fun p => p.l.any fun x => !shpT d.sigs x) && !(d.chks.any fun x => !shp d.sigs x.e)) := by
    unfold shapedD
    rw [all_any d.procs, all_any d.chks]
    congr 3
    congr 1
    funext p
    rw [all_any p.l, Bool.not_not]
  obtain ⟨A, hA⟩ : ∃ A, sigsOk d.sigs = A := ⟨_, rfl⟩
  obtain ⟨B, hB⟩ : ∃ A, (d.procs.any fun p => p.l.any fun x => !shpT d.sigs x) = A := ⟨_, rfl⟩
  obtain ⟨C, hC⟩ : ∃ A, (d.chks.any fun x => !shp d.sigs x.e) = A := ⟨_, rfl⟩
  rw [hA] at c1 hs
  rw [hB] at c2 hs
  rw [hC] at c3 hs
  clear clo1 clo2 clo3 hA hB hC hw hd
  refine calls_x mixed Try.func44 b44 n44 rfl q44 (by simp) ?_; unfold c44 r44
  cases A <;> cases B <;> simp only [Bool.not_false, Bool.not_true, Bool.true_and, Bool.false_and, Bool.and_false] at hs
  all_goals
    repeat' (first | simp (maxDischargeDepth := 9) -implicitDefEqProofs -dsimp only [go_sem, seval, *] | ((with_reducible refine Zt (fun oF hoF hnF hnF' => ?_)); (try simp only [upd_none, ne_eq, not_and] at hoF)))
    rename_i o1 ho1 nx1 nx2
    obtain ⟨o3, e3⟩ : ∃ x, x = oF := ⟨oF, rfl⟩
    subst e3
    obtain ⟨q1, q2⟩ := hoF
    have q3 : ¬ o1 = o3 := fun e => q1 e.symm
    clear nx1 nx2 hnF hnF'
    repeat' (first | simp (maxDischargeDepth := 9) -implicitDefEqProofs -dsimp only [go_sem, seval, *] | ((with_reducible refine Zt (fun oF hoF hnF hnF' => ?_)); (try simp only [upd_none, ne_eq, not_and] at hoF)) | ((with_reducible apply ACalls.one1); (focus ((first | with_reducible refine c1 _ | with_reducible refine c2 o1 o3 _ ?_ ?_ | with_reducible refine c3 o1 _ ?_) <;> (first | (simp (maxDischargeDepth := 9) -implicitDefEqProofs -dsimp only [go_sem, seval, *]; done) | omega))); (focus (first | trivial | with_reducible exact rfl | (simp (maxDischargeDepth := 9) -implicitDefEqProofs -dsimp only [go_sem, seval]; done)))))
    refine fin_eq ?_
    (repeat' (first | simp (maxDischargeDepth := 9) -implicitDefEqProofs -dsimp only [go_sem, seval, *])) <;> (repeat' refine And.intro ?_ ?_) <;> (first | omega | rfl | assumption | skip)
end Go.Proofs.Ytdiebjnjhgbklaa

namespace Fil.Sz
open Abs
def oneG : List Sg := [⟨⟨#[97]⟩, 8, 1, 0⟩]
def oneD : Flat := ⟨oneG, [], []⟩
def sigE (hi lo : Int) : E := .mk 2 0 0 0 hi lo 0 []
def numE (v : Int) : E := .mk 1 0 v 0 0 0 0 []
def binE (op : Int) (a b : E) : E := .mk 5 0 0 0 0 0 op [a, b]
def liveX : E := .mk 5 8 0 0 0 0 14 [.mk 2 8 0 0 7 0 0 [], .mk 1 8 1 0 0 0 0 []]
theorem oneG_ok : sigsOk oneG = true := by
  rw [sigsOk_iff]
  intro j hj _
  have : j = 0 := by simp [oneG] at hj; omega
  subst this
  refine ⟨⟨?_, by simp [oneG], by simp [oneG], by simp [oneG], by simp [oneG], .inr rfl⟩, fun k hk => absurd hk (Nat.not_lt_zero _)⟩
  intro h
  have := congrArg (fun b : ByteArray => b.data.size) h
  simp [oneG, noName] at this
theorem exprD_do {d : Flat} {e x : E} {w f : Int} (h1 : sigsOk d.sigs = true) (h2 : 0 ≤ w ∧ w ≤ 64) (h3 : shp d.sigs e = true) (h4 : nodes e ≤ 65536 ∧ deep e ≤ 64) (h5 : size e w = (x, f)) : exprD d e w = (x, f) := by
  unfold exprD
  rw [if_neg (by rw [h1, h3]; simp; omega), if_neg (by omega), h5]
theorem live_a : exprD oneD (binE 14 (sigE 7 0) (numE 1)) 0 = (liveX, 0) := exprD_do oneG_ok (by omega) (by simp [shp_eq, node, place, holds, oneG, oneD, sigE, numE, binE, liveX, nodes_eq, deep_eq, maxL, size_eq, own_eq, wide, told, wants, fst0, cat0, runL, sizeK, part0, E.set, E.op, E.w, E.v, E.sig, E.hi, E.lo, E.n, E.l, zS, zE]) (by constructor <;> simp [shp_eq, node, place, holds, oneG, oneD, sigE, numE, binE, liveX, nodes_eq, deep_eq, maxL, size_eq, own_eq, wide, told, wants, fst0, cat0, runL, sizeK, part0, E.set, E.op, E.w, E.v, E.sig, E.hi, E.lo, E.n, E.l, zS, zE]) (by simp [shp_eq, node, place, holds, oneG, oneD, sigE, numE, binE, liveX, nodes_eq, deep_eq, maxL, size_eq, own_eq, wide, told, wants, fst0, cat0, runL, sizeK, part0, E.set, E.op, E.w, E.v, E.sig, E.hi, E.lo, E.n, E.l, zS, zE])
theorem live_b : exprD oneD (binE 19 (sigE 7 0) (numE 300)) 0 = (zE, 92) := exprD_do oneG_ok (by omega) (by simp [shp_eq, node, place, holds, oneG, oneD, sigE, numE, binE, liveX, nodes_eq, deep_eq, maxL, size_eq, own_eq, wide, told, wants, fst0, cat0, runL, sizeK, part0, E.set, E.op, E.w, E.v, E.sig, E.hi, E.lo, E.n, E.l, zS, zE]) (by constructor <;> simp [shp_eq, node, place, holds, oneG, oneD, sigE, numE, binE, liveX, nodes_eq, deep_eq, maxL, size_eq, own_eq, wide, told, wants, fst0, cat0, runL, sizeK, part0, E.set, E.op, E.w, E.v, E.sig, E.hi, E.lo, E.n, E.l, zS, zE]) (by simp [shp_eq, node, place, holds, oneG, oneD, sigE, numE, binE, liveX, nodes_eq, deep_eq, maxL, size_eq, own_eq, wide, told, wants, fst0, cat0, runL, sizeK, part0, E.set, E.op, E.w, E.v, E.sig, E.hi, E.lo, E.n, E.l, zS, zE])
theorem live_c : exprD oneD (binE 14 (sigE 2 0) (sigE 7 0)) 0 = (zE, 90) := exprD_do oneG_ok (by omega) (by simp [shp_eq, node, place, holds, oneG, oneD, sigE, numE, binE, liveX, nodes_eq, deep_eq, maxL, size_eq, own_eq, wide, told, wants, fst0, cat0, runL, sizeK, part0, E.set, E.op, E.w, E.v, E.sig, E.hi, E.lo, E.n, E.l, zS, zE]) (by constructor <;> simp [shp_eq, node, place, holds, oneG, oneD, sigE, numE, binE, liveX, nodes_eq, deep_eq, maxL, size_eq, own_eq, wide, told, wants, fst0, cat0, runL, sizeK, part0, E.set, E.op, E.w, E.v, E.sig, E.hi, E.lo, E.n, E.l, zS, zE]) (by simp [shp_eq, node, place, holds, oneG, oneD, sigE, numE, binE, liveX, nodes_eq, deep_eq, maxL, size_eq, own_eq, wide, told, wants, fst0, cat0, runL, sizeK, part0, E.set, E.op, E.w, E.v, E.sig, E.hi, E.lo, E.n, E.l, zS, zE])
theorem live_x : exprD oneD liveX 8 = (liveX, 0) := exprD_do oneG_ok (by omega) (by simp [shp_eq, node, place, holds, oneG, oneD, sigE, numE, binE, liveX, nodes_eq, deep_eq, maxL, size_eq, own_eq, wide, told, wants, fst0, cat0, runL, sizeK, part0, E.set, E.op, E.w, E.v, E.sig, E.hi, E.lo, E.n, E.l, zS, zE]) (by constructor <;> simp [shp_eq, node, place, holds, oneG, oneD, sigE, numE, binE, liveX, nodes_eq, deep_eq, maxL, size_eq, own_eq, wide, told, wants, fst0, cat0, runL, sizeK, part0, E.set, E.op, E.w, E.v, E.sig, E.hi, E.lo, E.n, E.l, zS, zE]) (by simp [shp_eq, node, place, holds, oneG, oneD, sigE, numE, binE, liveX, nodes_eq, deep_eq, maxL, size_eq, own_eq, wide, told, wants, fst0, cat0, runL, sizeK, part0, E.set, E.op, E.w, E.v, E.sig, E.hi, E.lo, E.n, E.l, zS, zE])
theorem live_n : exprD oneD (numE 1) 0 = (.mk 1 32 1 0 0 0 0 [], 0) := exprD_do oneG_ok (by omega) (by simp [shp_eq, node, place, holds, oneG, oneD, sigE, numE, binE, liveX, nodes_eq, deep_eq, maxL, size_eq, own_eq, wide, told, wants, fst0, cat0, runL, sizeK, part0, E.set, E.op, E.w, E.v, E.sig, E.hi, E.lo, E.n, E.l, zS, zE]) (by constructor <;> simp [shp_eq, node, place, holds, oneG, oneD, sigE, numE, binE, liveX, nodes_eq, deep_eq, maxL, size_eq, own_eq, wide, told, wants, fst0, cat0, runL, sizeK, part0, E.set, E.op, E.w, E.v, E.sig, E.hi, E.lo, E.n, E.l, zS, zE]) (by simp [shp_eq, node, place, holds, oneG, oneD, sigE, numE, binE, liveX, nodes_eq, deep_eq, maxL, size_eq, own_eq, wide, told, wants, fst0, cat0, runL, sizeK, part0, E.set, E.op, E.w, E.v, E.sig, E.hi, E.lo, E.n, E.l, zS, zE])
theorem live_d : checkE oneD liveX = 0 := by
  unfold checkE
  rw [show liveX.w = 8 from rfl, live_x]
  simp
theorem live_e : checkE oneD (numE 1) = 90 := by
  unfold checkE
  rw [show (numE 1).w = 0 from rfl, live_n]
  simp
theorem live_f : same liveX (numE 1) = false := by
  rw [same_false]; intro h; have := congrArg E.op h; simp [liveX, numE, E.op] at this
theorem one_fits : fitsD oneD = true := by
  simp [fitsD, oneD, oneG, bitsD, bitN, nodesD, deepD, maxL]
  omega
theorem one_shaped : shapedD oneD = true := by
  unfold shapedD
  rw [show oneD.sigs = oneG from rfl, oneG_ok]; rfl
theorem one_fills : fillsD oneD = true := by
  simp [fillsD, oneD, oneG, holds]
theorem one_wf : ∀ s ∈ oneG, WfS s := by
  simp [oneG, WfS, I64, U64]
end Fil.Sz

namespace Go.Proofs.Ytdiebjnjhgbklaa
open Abs Fil Fil.Sz
theorem sl_indexS (p : Sg → Bool) (l : List Sg) (hl : l.length ≤ 1000000000000) (σ : Sig) {F : Nat} {caps : List AV} (hF : ∀ x ∈ l, ACalls Try.prog F (encS x :: caps) σ (fun r σ' => r = .ret (.bool (p x)) ∧ σ' = σ)) :
    ACalls Try.prog 91 [.slice (l.map encS) .no, .fn F [] caps] σ (fun r σ' => r = .ret (.int .i64 (idxF p l)) ∧ σ' = σ) :=
  lib_indexFunc (sz := 4) (g := true) mixed Try.func91 b91 n91 rfl q91 (fun _ => rfl) (fun _ => rfl) p l hl hF
theorem sl_containsS (p : Sg → Bool) (l : List Sg) (hl : l.length ≤ 1000000000000) (σ : Sig) {F : Nat} {caps : List AV} (hF : ∀ x ∈ l, ACalls Try.prog F (encS x :: caps) σ (fun r σ' => r = .ret (.bool (p x)) ∧ σ' = σ)) :
    ACalls Try.prog 45 [.slice (l.map encS) .no, .fn F [] caps] σ (fun r σ' => r = .ret (.bool (l.any p)) ∧ σ' = σ) :=
  lib_containsFunc mixed Try.func45 b45 n45 rfl q45 p l (sl_indexS p l hl σ hF)
theorem sl_Clone (l : List Sg) (σ : Sig) (h : l.length ≤ 1000000) :
    ACalls Try.prog 48 [.slice (l.map encS) .no] σ (fun r σ' => r = .ret (.slice (l.map encS) .no) ∧ σ' = σ) := by
  refine calls_x mixed Try.func48 b48 n48 rfl q48 (by simp) ?_; unfold c48 r48
  cases l with
  | nil =>
    repeat' (first | simp (maxDischargeDepth := 9) -implicitDefEqProofs -dsimp only [go_sem, seval, List.map_nil, *] | ((with_reducible refine Zv ?_ ?_); focus (first | omega | exact rfl)) | ((with_reducible refine Zt (fun oF hoF hnF hnF' => ?_)); (try simp only [upd_none, ne_eq, not_and] at hoF)))
    refine ⟨?_, ?_⟩
    · refine fin_eq ?_
      (repeat' (first | simp (maxDischargeDepth := 9) -implicitDefEqProofs -dsimp only [go_sem, seval, List.map_nil, *])) <;> (repeat' refine And.intro ?_ ?_) <;> (first | omega | rfl | assumption | skip)
    · refine fin_eq ?_
      (repeat' (first | simp (maxDischargeDepth := 9) -implicitDefEqProofs -dsimp only [go_sem, seval, List.map_nil, *])) <;> (repeat' refine And.intro ?_ ?_) <;> (first | omega | rfl | assumption | skip)
  | cons x l =>
    have h' : l.length ≤ 999999 := by simp only [List.length_cons] at h; omega
    repeat' (first | simp (maxDischargeDepth := 9) -implicitDefEqProofs -dsimp only [go_sem, seval, List.map_cons, *] | ((with_reducible refine Zv ?_ ?_); focus (first | omega | exact rfl)) | ((with_reducible refine Zt (fun oF hoF hnF hnF' => ?_)); (try simp only [upd_none, ne_eq, not_and] at hoF)))
    all_goals first | (exfalso; simp at hq; done) | skip
    refine fin_eq ?_
    (repeat' (first | simp (maxDischargeDepth := 9) -implicitDefEqProofs -dsimp only [go_sem, seval, List.map_cons, List.nil_append, *])) <;> (repeat' refine And.intro ?_ ?_) <;> (first | omega | rfl | assumption | skip)
theorem sz_Size1 (s : Sg) (σ : Sig) (h : 1 ≤ s.w ∧ s.w ≤ 64) (hw : WfS s) : ACalls Try.prog 46 [encS s] σ (fun r σ' => r = .ret (.bool (!holds s.w s.init)) ∧ σ' = σ) := by
  have hc := fun τ => sz_holds s.w s.init τ (by omega) hw.2.2
  clear hw
  refine calls_x mixed Try.func46 b46 n46 rfl q46 (by simp) ?_; unfold c46 r46
  repeat' (first | simp (maxDischargeDepth := 9) -implicitDefEqProofs -dsimp only [go_sem, seval, *] | ((with_reducible apply ACalls.one1); (focus ((first | with_reducible refine hc _) <;> (first | (simp (maxDischargeDepth := 9) -implicitDefEqProofs -dsimp only [go_sem, seval, *]; done) | omega))); (focus (first | trivial | with_reducible exact rfl | (simp (maxDischargeDepth := 9) -implicitDefEqProofs -dsimp only [go_sem, seval]; done)))))
  refine fin_eq ?_
  (repeat' (first | simp (maxDischargeDepth := 9) -implicitDefEqProofs -dsimp only [go_sem, seval, *])) <;> (repeat' refine And.intro ?_ ?_) <;> (first | omega | rfl | assumption | skip)
theorem sz_Size0 (g : List Sg) (σ : Sig) (hg : g.length ≤ 1000000) (hw : ∀ s ∈ g, WfS s) (hn : fitsD ⟨g, [], []⟩ = true) (hs : shapedD ⟨g, [], []⟩ = true) (hf : fillsD ⟨g, [], []⟩ = true) :
    ACalls Try.prog 21 [encD ⟨g, [], []⟩] σ (fun r σ' => r = .ret (.tup [encD ⟨g, [], []⟩, .int .i64 0]) ∧ σ' = σ) := by
  have hd : Sm ⟨g, [], []⟩ := ⟨by show g.length ≤ _; omega, by simp, by simp, by simp [nodesD]⟩
  have hwd : WfD ⟨g, [], []⟩ := ⟨hw, by simp, by simp⟩
  have c1 := fun τ => sz_fits ⟨g, [], []⟩ τ hd
  have c2 := fun τ => sz_shaped ⟨g, [], []⟩ τ hd hwd
  have hso : SgOk g := sigsOk_ok (by
    unfold shapedD at hs
    simp only [Bool.and_eq_true] at hs
    exact hs.1.1)
  have c3 := fun τ => sl_containsS (fun s => !holds s.w s.init) g (by omega) τ (F := 46) (caps := []) fun x hx => sz_Size1 x τ (hso x hx) (hw x hx)
  have c4 := fun τ => sl_Clone g τ hg
  have hb : (g.any fun s => !holds s.w s.init) = false := by
    unfold fillsD at hf
    rw [all_any] at hf
    simpa using hf
  rw [hn] at c1
  rw [hs] at c2
  rw [hb] at c3
  clear hn hs hf hb hso hd hwd hw
  refine calls_x mixed Try.func21 b21 n21 rfl q21 (by simp) ?_; unfold c21 r21
  repeat' (first | simp (maxDischargeDepth := 9) -implicitDefEqProofs -dsimp only [go_sem, seval, *] | ((with_reducible refine Zt (fun oF hoF hnF hnF' => ?_)); (try simp only [upd_none, ne_eq, not_and] at hoF)) | ((with_reducible apply ACalls.one1); (focus ((first | with_reducible refine c1 _ | with_reducible refine c2 _ | with_reducible refine c3 _ | with_reducible refine c4 _ | with_reducible refine ACalls.flA (c1 _) ?_ | with_reducible refine ACalls.flA (c2 _) ?_ | with_reducible refine ACalls.flA (c3 _) ?_ | with_reducible refine ACalls.flA (c4 _) ?_) <;> (first | (simp (maxDischargeDepth := 9) -implicitDefEqProofs -dsimp only [go_sem, seval, *]; done) | omega))); (focus (first | trivial | with_reducible exact rfl | (simp (maxDischargeDepth := 9) -implicitDefEqProofs -dsimp only [go_sem, seval]; done)))))
  rename_i oA hoA _ _ oB _ _ hoB
  obtain ⟨oC, eo⟩ : ∃ x, x = oF := ⟨oF, rfl⟩
  subst eo
  have ho : ¬ oC = oB ∧ ¬ oC = oA ∧ σ oC = none := hoF
  obtain ⟨q1, q2, q3⟩ := ho
  have p1 : ¬ oB = oC := fun e => q1 e.symm
  have p2 : ¬ oA = oC := fun e => q2 e.symm
  have p3 : ¬ oB = oA := hoB.1
  have p4 : ¬ oA = oB := fun e => p3 e.symm
  clear hoF hnF hnF'
  refine loop_rule (fun _ : Nat => [(39, some (.int .i64 0)), (38, some (.int .i64 0)), (37, some (.slice [] .no)), (4, some (.ptr oB 0)), (5, some (.ptr oC 0)), (1, some (.cptr (dL ⟨g, [], []⟩))), (2, some (.ptr oA 0))])
    (fun _ => upd (upd (upd σ oA (.cells [.slice [] .nil, .slice [] .nil, .slice [] .nil])) oB (.cells [.slice (g.map encS) .no, .int .i64 0])) oC (.cells [.slice (g.map encS) .no, .slice [] .nil, .slice [] .nil])) (fun _ => True) (fun _ => 0) 0 ?_ ?_
  · (repeat' (first | simp (maxDischargeDepth := 9) -implicitDefEqProofs -dsimp only [go_sem, seval, *])) <;> (repeat' refine And.intro ?_ ?_) <;> (first | omega | rfl | assumption | skip)
  · intro i _
    repeat' (first | simp (maxDischargeDepth := 9) -implicitDefEqProofs -dsimp only [go_sem, seval, *] | ((with_reducible refine Zt (fun oF hoF hnF hnF' => ?_)); (try simp only [upd_none, ne_eq, not_and] at hoF)))
    refine loop_rule (fun _ : Nat => [(74, some (.int .i64 0)), (73, some (.int .i64 0)), (72, some (.slice [] .no)), (5, some (.ptr oC 0)), (4, some (.ptr oB 0)), (2, some (.ptr oA 0))])
      (fun _ => upd (upd (upd σ oA (.cells [.slice [] .nil, .slice [] .nil, .slice [] .nil])) oB (.cells [.slice (g.map encS) .no, .int .i64 0])) oC (.cells [.slice (g.map encS) .no, .slice [] .nil, .slice [] .nil])) (fun _ => True) (fun _ => 0) 0 ?_ ?_
    · (repeat' (first | simp (maxDischargeDepth := 9) -implicitDefEqProofs -dsimp only [go_sem, seval, *])) <;> (repeat' refine And.intro ?_ ?_) <;> (first | omega | rfl | assumption | skip)
    · intro i _
      repeat' (first | simp (maxDischargeDepth := 9) -implicitDefEqProofs -dsimp only [go_sem, seval, *] | ((with_reducible refine Zt (fun oF hoF hnF hnF' => ?_)); (try simp only [upd_none, ne_eq, not_and] at hoF)))
      refine fin_eq ?_
      (repeat' (first | simp (maxDischargeDepth := 9) -implicitDefEqProofs -dsimp only [go_sem, seval, *])) <;> (repeat' refine And.intro ?_ ?_) <;> (first | omega | rfl | assumption | skip)
theorem sz_Check0 (g : List Sg) (σ : Sig) (hg : g.length ≤ 1000000) (hw : ∀ s ∈ g, WfS s) (hn : fitsD ⟨g, [], []⟩ = true) (hs : shapedD ⟨g, [], []⟩ = true) (hf : fillsD ⟨g, [], []⟩ = true) :
    ACalls Try.prog 24 [encD ⟨g, [], []⟩] σ (fun r σ' => r = .ret (.int .i64 0) ∧ σ' = σ) := by
  have hd : Sm ⟨g, [], []⟩ := ⟨by show g.length ≤ _; omega, by simp, by simp, by simp [nodesD]⟩
  have c1 := fun τ => sz_Size0 g τ hg hw hn hs hf
  have c2 := fun τ => sz_Same ⟨g, [], []⟩ ⟨g, [], []⟩ τ hd hd
  rw [same_self] at c2
  clear hd hw hn hs hf
  refine calls_x mixed Try.func24 b24 n24 rfl q24 (by simp) ?_; unfold c24 r24
  repeat' (first | simp (maxDischargeDepth := 9) -implicitDefEqProofs -dsimp only [go_sem, seval, *] | ((with_reducible refine Zt (fun oF hoF hnF hnF' => ?_)); (try simp only [upd_none, ne_eq, not_and] at hoF)) | ((with_reducible apply ACalls.one1); (focus ((first | with_reducible refine c1 _ | with_reducible refine c2 _ | with_reducible refine ACalls.flA (c1 _) ?_ | with_reducible refine ACalls.flA (c2 _) ?_) <;> (first | (simp (maxDischargeDepth := 9) -implicitDefEqProofs -dsimp only [go_sem, seval, *]; done) | omega))); (focus (first | trivial | with_reducible exact rfl | (simp (maxDischargeDepth := 9) -implicitDefEqProofs -dsimp only [go_sem, seval]; done)))))
  refine fin_eq ?_
  (repeat' (first | simp (maxDischargeDepth := 9) -implicitDefEqProofs -dsimp only [go_sem, seval, *])) <;> (repeat' refine And.intro ?_ ?_) <;> (first | omega | rfl | assumption | skip)
theorem encE_bin (op : Int) (a b : E) : encE (binE op a b) = .agg [.int .i64 5, .int .i64 0, .int .u64 0, .int .i64 0, .int .i64 0, .int .i64 0, .int .i64 op, .slice [encE a, encE b] .no] := by
  unfold encE eL; rw [encEs_eq]; rfl
theorem encE_sig (hi lo : Int) : encE (sigE hi lo) = .agg [.int .i64 2, .int .i64 0, .int .u64 0, .int .i64 0, .int .i64 hi, .int .i64 lo, .int .i64 0, .slice [] .no] := by
  unfold encE eL; rw [encEs_eq]; rfl
theorem encE_numE (v : Int) : encE (numE v) = .agg [.int .i64 1, .int .i64 0, .int .u64 v, .int .i64 0, .int .i64 0, .int .i64 0, .int .i64 0, .slice [] .no] := by
  unfold encE eL; rw [encEs_eq]; rfl
theorem encD_one : encD oneD = .agg [.slice [.agg [.str ⟨#[97]⟩, .int .i64 8, .int .i64 1, .int .u64 0]] .no, .slice [] .no, .slice [] .no] := rfl
theorem lw_one (σ : Sig) : ACalls Try.prog 28 [] σ (fun r σ' => r = .ret (encD oneD) ∧ σ' = σ) := by
  rw [encD_one]
  refine calls_x mixed Try.func28 b28 n28 rfl q28 (by simp) ?_; unfold c28 r28
  repeat' (first | simp (maxDischargeDepth := 9) -implicitDefEqProofs -dsimp only [go_sem, seval, *] | ((with_reducible refine Zt (fun oF hoF hnF hnF' => ?_)); (try simp only [upd_none, ne_eq, not_and] at hoF)))
  refine fin_eq ?_
  (repeat' (first | simp (maxDischargeDepth := 9) -implicitDefEqProofs -dsimp only [go_sem, seval, *])) <;> (repeat' refine And.intro ?_ ?_) <;> (first | omega | rfl | assumption | skip)
theorem lw_num (v : Int) (σ : Sig) : ACalls Try.prog 29 [.int .u64 v] σ (fun r σ' => r = .ret (encE (numE v)) ∧ σ' = σ) := by
  rw [encE_numE]
  refine calls_x mixed Try.func29 b29 n29 rfl q29 (by simp) ?_; unfold c29 r29
  repeat' (first | simp (maxDischargeDepth := 9) -implicitDefEqProofs -dsimp only [go_sem, seval, *] | ((with_reducible refine Zt (fun oF hoF hnF hnF' => ?_)); (try simp only [upd_none, ne_eq, not_and] at hoF)))
  refine fin_eq ?_
  (repeat' (first | simp (maxDischargeDepth := 9) -implicitDefEqProofs -dsimp only [go_sem, seval, *])) <;> (repeat' refine And.intro ?_ ?_) <;> (first | omega | rfl | assumption | skip)
theorem lw_sig (hi lo : Int) (σ : Sig) : ACalls Try.prog 32 [.int .i64 hi, .int .i64 lo] σ (fun r σ' => r = .ret (encE (sigE hi lo)) ∧ σ' = σ) := by
  rw [encE_sig]
  refine calls_x mixed Try.func32 b32 n32 rfl q32 (by simp) ?_; unfold c32 r32
  repeat' (first | simp (maxDischargeDepth := 9) -implicitDefEqProofs -dsimp only [go_sem, seval, *] | ((with_reducible refine Zt (fun oF hoF hnF hnF' => ?_)); (try simp only [upd_none, ne_eq, not_and] at hoF)))
  refine fin_eq ?_
  (repeat' (first | simp (maxDischargeDepth := 9) -implicitDefEqProofs -dsimp only [go_sem, seval, *])) <;> (repeat' refine And.intro ?_ ?_) <;> (first | omega | rfl | assumption | skip)
theorem lw_bin (op : Int) (a b : E) (σ : Sig) : ACalls Try.prog 31 [.int .i64 op, encE a, encE b] σ (fun r σ' => r = .ret (encE (binE op a b)) ∧ σ' = σ) := by
  rw [encE_bin]
  refine calls_x mixed Try.func31 b31 n31 rfl q31 (by simp) ?_; unfold c31 r31
  repeat' (first | simp (maxDischargeDepth := 9) -implicitDefEqProofs -dsimp only [go_sem, seval, *] | ((with_reducible refine Zt (fun oF hoF hnF hnF' => ?_)); (try simp only [upd_none, ne_eq, not_and] at hoF)))
  refine fin_eq ?_
  (repeat' (first | simp (maxDischargeDepth := 9) -implicitDefEqProofs -dsimp only [go_sem, seval, *])) <;> (repeat' refine And.intro ?_ ?_) <;> (first | omega | rfl | assumption | skip)
def fewE (e : E) : Bool := decide (nodes e ≤ 1000) && decide (deep e ≤ 100)
theorem lw_few (e : E) (σ : Sig) (he : nodes e ≤ 16777216) : ACalls Try.prog 14 [encE e] σ (fun r σ' => r = .ret (.bool (fewE e)) ∧ σ' = σ) := by
  have c1 := fun τ => rf_Nodes e τ he
  have c2 := fun τ => rf_Deep e τ he
  have hv : fewE e = (decide ((nodes e : Int) ≤ 1000) && decide ((deep e : Int) ≤ 100)) := by
    unfold fewE; congr 1 <;> (rw [Bool.eq_iff_iff, decide_eq_true_eq, decide_eq_true_eq]; omega)
  clear he
  refine calls_x mixed Try.func14 b14 n14 rfl q14 (by simp) ?_; unfold c14 r14
  obtain ⟨p, hp⟩ : ∃ p, decide ((nodes e : Int) ≤ 1000) = p := ⟨_, rfl⟩
  rw [hp] at hv
  cases p
  all_goals
    repeat' (first | simp (maxDischargeDepth := 9) -implicitDefEqProofs -dsimp only [go_sem, seval, *] | ((with_reducible apply ACalls.one1); (focus ((first | with_reducible refine c1 _ | with_reducible refine c2 _) <;> (first | (simp (maxDischargeDepth := 9) -implicitDefEqProofs -dsimp only [go_sem, seval, *]; done) | omega))); (focus (first | trivial | with_reducible exact rfl | (simp (maxDischargeDepth := 9) -implicitDefEqProofs -dsimp only [go_sem, seval]; done)))))
    refine fin_eq ?_
    (repeat' (first | simp (maxDischargeDepth := 9) -implicitDefEqProofs -dsimp only [go_sem, seval, *])) <;> (repeat' refine And.intro ?_ ?_) <;> (first | omega | rfl | assumption | skip)
end Go.Proofs.Ytdiebjnjhgbklaa

namespace Go.Proofs.Ytdiebjnjhgbklaa
open Abs Fil Fil.Sz
theorem one_sm : Sm oneD := ⟨by simp [oneD, oneG], by simp [oneD], by simp [oneD], by simp [oneD, nodesD]⟩
def liveP : E := .mk 2 8 0 0 7 0 0 []
def liveQ : E := .mk 1 8 1 0 0 0 0 []
theorem wfE_do {e : E} (h : (I64 e.op ∧ I64 e.w ∧ U64 e.v ∧ I64 e.sig ∧ I64 e.hi ∧ I64 e.lo ∧ I64 e.n) ∧ ∀ x ∈ e.l, WfE x) : WfE e := (WfE_iff e).2 h
theorem i0 : I64 0 := by unfold I64; omega
theorem i1 : I64 1 := by unfold I64; omega
theorem i2 : I64 2 := by unfold I64; omega
theorem i5 : I64 5 := by unfold I64; omega
theorem u0 : U64 0 := by unfold U64; omega
theorem wf_sig (hi lo : Int) (h : I64 hi ∧ I64 lo) : WfE (sigE hi lo) := wfE_do ⟨⟨i2, i0, u0, i0, h.1, h.2, i0⟩, fun x hx => by cases hx⟩
theorem wf_num (v : Int) (h : U64 v) : WfE (numE v) := wfE_do ⟨⟨i1, i0, h, i0, i0, i0, i0⟩, fun x hx => by cases hx⟩
theorem wf_bin (op : Int) {a b : E} (h : I64 op) (ha : WfE a) (hb : WfE b) : WfE (binE op a b) := wfE_do ⟨⟨i5, i0, u0, i0, i0, i0, h⟩, fun x hx => by
  rcases List.mem_cons.1 hx with rfl | hx
  · exact ha
  rcases List.mem_cons.1 hx with rfl | hx
  · exact hb
  · cases hx⟩
theorem nodes_sig (hi lo : Int) : nodes (sigE hi lo) = 1 := by rw [nodes_eq]; rfl
theorem nodes_num (v : Int) : nodes (numE v) = 1 := by rw [nodes_eq]; rfl
theorem nodes_bin (op : Int) (a b : E) : nodes (binE op a b) = 1 + nodes a + nodes b := by
  rw [nodes_eq]
  show 1 + (nodes a + (nodes b + 0)) = _
  omega
set_option maxRecDepth 20000 in
set_option maxHeartbeats 2000000 in
theorem lw_live (σ : Sig) : ACalls Try.prog 13 [] σ (fun r σ' => r = .ret (.bool true) ∧ σ' = σ) := by
  have hd : oneD.sigs.length ≤ 1000000000000 := by simp [oneD, oneG]
  have hs := fun h l (q : I64 h ∧ I64 l) => wf_sig h l q
  have c1 := fun τ => lw_one τ
  have c2 := fun τ => lw_sig 7 0 τ
  have c2' := fun τ => lw_sig 2 0 τ
  have c3 := fun τ => lw_num 1 τ
  have c4 := fun τ => lw_num 300 τ
  have c5 := fun τ => lw_bin 14 (sigE 7 0) (numE 1) τ
  have c6 := fun τ => lw_bin 19 (sigE 7 0) (numE 300) τ
  have c7 := fun τ => lw_bin 14 (sigE 2 0) (sigE 7 0) τ
  have w1 := wf_sig 7 0 (by unfold I64; omega)
  have w2 := wf_sig 2 0 (by unfold I64; omega)
  have w3 := wf_num 1 (by unfold U64; omega)
  have w4 := wf_num 300 (by unfold U64; omega)
  have k1 := fun τ => sz_Expr oneD (binE 14 (sigE 7 0) (numE 1)) 0 τ hd (by rw [nodes_bin, nodes_sig, nodes_num]; omega) (wf_bin 14 (by unfold I64; omega) w1 w3)
  have k2 := fun τ => sz_Expr oneD (binE 19 (sigE 7 0) (numE 300)) 0 τ hd (by rw [nodes_bin, nodes_sig, nodes_num]; omega) (wf_bin 19 (by unfold I64; omega) w1 w4)
  have k3 := fun τ => sz_Expr oneD (binE 14 (sigE 2 0) (sigE 7 0)) 0 τ hd (by rw [nodes_bin, nodes_sig, nodes_sig]; omega) (wf_bin 14 (by unfold I64; omega) w2 w1)
  have w5 : WfE liveX := wfE_do ⟨by simp [I64, U64, liveX, liveP, liveQ, E.op, E.w, E.v, E.sig, E.hi, E.lo, E.n], fun x hx => by
    have hx : x ∈ [liveP, liveQ] := hx
    rcases List.mem_cons.1 hx with rfl | hx
    · exact wfE_do ⟨by simp [I64, U64, liveX, liveP, liveQ, E.op, E.w, E.v, E.sig, E.hi, E.lo, E.n], fun x hx => by cases hx⟩
    rcases List.mem_cons.1 hx with rfl | hx
    · exact wfE_do ⟨by simp [I64, U64, liveX, liveP, liveQ, E.op, E.w, E.v, E.sig, E.hi, E.lo, E.n], fun x hx => by cases hx⟩
    · cases hx⟩
  have n5 : nodes liveX ≤ 16777216 := by simp [liveX, nodes_eq, E.l]
  have k4 := fun τ => sz_CheckE oneD liveX τ hd n5 w5
  have k5 := fun τ => sz_CheckE oneD (numE 1) τ hd (by rw [nodes_num]; omega) w3
  have k6 := fun τ => sz_SameE liveX liveX τ n5 n5
  have k7 := fun τ => sz_SameE liveX (numE 1) τ n5 (by rw [nodes_num]; omega)
  have k8 := fun τ => sz_Size0 oneG τ (by simp [oneG]) one_wf one_fits one_shaped one_fills
  have k9 := fun τ => sz_Check0 oneG τ (by simp [oneG]) one_wf one_fits one_shaped one_fills
  have k10 := fun τ => sz_Same oneD oneD τ one_sm one_sm
  rw [live_a] at k1
  rw [live_b] at k2
  rw [live_c] at k3
  rw [live_d] at k4
  rw [live_e] at k5
  rw [same_self] at k6 k10
  rw [live_f] at k7
  rw [show (⟨oneG, [], []⟩ : Flat) = oneD from rfl] at k8 k9
  have hx : encE liveX = .agg [.int .i64 5, .int .i64 8, .int .u64 0, .int .i64 0, .int .i64 0, .int .i64 0, .int .i64 14, .slice [encE liveP, encE liveQ] .no] := by
    unfold encE eL; rw [encEs_eq]; rfl
  rw [hx] at k1 k4 k6 k7
  rw [encE_zero] at k2 k3
  have hq : liveQ.w = 8 := rfl
  have hlen : (oneD.sigs.length : Int) = 1 := rfl
  clear hx hd hs w1 w2 w3 w4 w5 n5
  refine calls_x mixed Try.func13 b13 n13 rfl q13 (by simp) ?_; unfold c13 r13
  repeat' (first | simp (maxDischargeDepth := 9) -implicitDefEqProofs -dsimp only [go_sem, seval, *] | ((with_reducible refine Zt (fun oF hoF hnF hnF' => ?_)); (try simp only [upd_none, ne_eq, not_and] at hoF)) | ((with_reducible apply ACalls.one1); (focus ((first | with_reducible refine c1 _ | with_reducible refine c2 _ | with_reducible refine c2' _ | with_reducible refine c3 _ | with_reducible refine c4 _ | with_reducible refine c5 _ | with_reducible refine c6 _ | with_reducible refine c7 _ | with_reducible refine k1 _ | with_reducible refine k2 _ | with_reducible refine k3 _ | with_reducible refine k4 _ | with_reducible refine k5 _ | with_reducible refine k6 _ | with_reducible refine k7 _ | with_reducible refine k8 _ | with_reducible refine k9 _ | with_reducible refine k10 _) <;> (first | (simp (maxDischargeDepth := 9) -implicitDefEqProofs -dsimp only [go_sem, seval, *]; done) | omega))); (focus (first | trivial | with_reducible exact rfl | (simp (maxDischargeDepth := 9) -implicitDefEqProofs -dsimp only [go_sem, seval]; done)))) | ((with_reducible apply id_one0); (focus (intro tS hS; ((first | with_reducible refine c1 _ | with_reducible refine c2 _ | with_reducible refine c2' _ | with_reducible refine c3 _ | with_reducible refine c4 _ | with_reducible refine c5 _ | with_reducible refine c6 _ | with_reducible refine c7 _ | with_reducible refine k1 _ | with_reducible refine k2 _ | with_reducible refine k3 _ | with_reducible refine k4 _ | with_reducible refine k5 _ | with_reducible refine k6 _ | with_reducible refine k7 _ | with_reducible refine k8 _ | with_reducible refine k9 _ | with_reducible refine k10 _) <;> (first | (simp (maxDischargeDepth := 9) -implicitDefEqProofs -dsimp only [go_sem, seval, *]; done) | omega | ((with_reducible refine Sub.get hS ?_); simp (maxDischargeDepth := 9) -implicitDefEqProofs -dsimp only [go_sem, seval, *]; done))))); (focus (first | trivial | (simp (maxDischargeDepth := 9) -implicitDefEqProofs -dsimp only [go_sem, seval, *]; done)))))
  refine fin_eq ?_
  (repeat' (first | simp (maxDischargeDepth := 9) -implicitDefEqProofs -dsimp only [go_sem, seval, *])) <;> (repeat' refine And.intro ?_ ?_) <;> (first | omega | rfl | assumption | skip)
end Go.Proofs.Ytdiebjnjhgbklaa

namespace Abs
open Go
inductive Sh where
  | bool
  | int (k : IntKind)
  | str
  | slice (agg : Bool) (e : Sh)
  | row (l : List Sh)
end Abs

