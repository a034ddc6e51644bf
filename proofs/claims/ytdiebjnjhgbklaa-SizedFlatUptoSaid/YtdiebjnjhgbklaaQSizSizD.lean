/- sized: contracts: how many nodes there are, and how deep. -/
import Derived.Test.YtdiebjnjhgbklaaQSizSizA
set_option linter.unusedSimpArgs false
set_option linter.unusedVariables false
namespace Go.Proofs.Ytdiebjnjhgbklaa
open Abs Fil Fil.Sz
def FldT (a b : T) : Prop := b.op = a.op ∧ b.sig = a.sig ∧ b.hi = a.hi ∧ b.lo = a.lo
theorem fldT_yes {a b : T} (h : FldT a b) : same a b = (same a.e b.e && same a.l b.l) := by
 obtain ⟨h1, h2, h3, h4⟩ := h
 rw [same_T]; simp [h1, h2, h3, h4]
theorem fldT_no {a b : T} (h : ¬ FldT a b) : same a b = false := by
 rw [same_false]
 rintro rfl
 exact h ⟨rfl, rfl, rfl, rfl⟩
set_option maxRecDepth 20000 in
theorem sz_sameT (a : T) : ∀ (b : T) (σ : Sig), nodesT a ≤ 16777216 → nodesT b ≤ 16777216 → ACalls Try.prog 59 [encT a, encT b] σ (fun r σ' => r = .ret (.bool (same a b)) ∧ σ' = σ) := by
 refine T.ind (P := fun a => ∀ (b : T) (σ : Sig), nodesT a ≤ 16777216 → nodesT b ≤ 16777216 → ACalls Try.prog 59 [encT a, encT b] σ (fun r σ' => r = .ret (.bool (same a b)) ∧ σ' = σ)) (fun a ih b σ ha hb => ?_) a
 have h1 := encTs_eq a
 have h2 := encTs_eq b
 have l1 := lenE_nodes a
 have l2 := lenE_nodes b
 have l3 := lenL_nodes a
 have l4 := lenL_nodes b
 have hE := fun τ => sl_eqE a.e b.e (by omega) (by omega) τ (F := 27) (fun x hx y hy τ => sz_SameE x y τ (by have := partE_nodes hx; omega) (by have := partE_nodes hy; omega))
 have hT := fun τ => sl_eqT a.l b.l (by omega) (by omega) τ (F := 59) (fun x hx y hy τ => ih x hx y τ (by have := partT_nodes hx; omega) (by have := partT_nodes hy; omega))
 clear ih
 refine calls_x mixed Try.func59 b59 n59 rfl q59 (by simp) ?_; unfold c59 r59
 by_cases h : FldT a b
 ·have hs := fldT_yes h
  obtain ⟨e1, e2, e3, e4⟩ := h
  obtain ⟨p, hp⟩ : ∃ p, same a.e b.e = p := ⟨_, rfl⟩
  obtain ⟨q, hq⟩ : ∃ p, same a.l b.l = p := ⟨_, rfl⟩
  rw [hp] at hs hE
  rw [hq] at hs hT
  cases p
  all_goals
   repeat' (first | simp (maxDischargeDepth := 9) -implicitDefEqProofs -dsimp only [go_sem, seval, beq_self_eq_true, *] | ((with_reducible apply ACalls.one1); (focus ((first | with_reducible refine hE _ | with_reducible refine hT _) <;> (first | (simp (maxDischargeDepth := 9) -implicitDefEqProofs -dsimp only [go_sem, seval, *]; done) | omega))); (focus (first | trivial | with_reducible exact rfl | (simp (maxDischargeDepth := 9) -implicitDefEqProofs -dsimp only [go_sem, seval]; done)))))
   refine fin_eq ?_
   (repeat' simp (maxDischargeDepth := 9) -implicitDefEqProofs -dsimp only [go_sem, seval, Bool.true_and, Bool.false_and, *])
 ·have hs := fldT_no h
  unfold FldT at h
  repeat' (first | simp (maxDischargeDepth := 9) -implicitDefEqProofs -dsimp only [go_sem, seval, *] | (with_reducible (first | apply Zj | apply Zp) <;> intro hq) | ((with_reducible apply ACalls.one1); (focus ((first | with_reducible refine hE _ | with_reducible refine hT _) <;> (first | (simp (maxDischargeDepth := 9) -implicitDefEqProofs -dsimp only [go_sem, seval, *]; done) | omega))); (focus (first | trivial | with_reducible exact rfl | (simp (maxDischargeDepth := 9) -implicitDefEqProofs -dsimp only [go_sem, seval]; done)))))
  all_goals first | (exfalso; apply h; omega) | skip
  all_goals
   refine fin_eq ?_
   (repeat' simp (maxDischargeDepth := 9) -implicitDefEqProofs -dsimp only [go_sem, seval, *])
theorem sz_Same1 (p q : Pr) (σ : Sig) (hp : nodesP p ≤ 16777216) (hq : nodesP q ≤ 16777216) : ACalls Try.prog 57 [encP p, encP q] σ (fun r σ' => r = .ret (.bool (same p q)) ∧ σ' = σ) := by
 have l1 := len_sum nodesT_pos p.l
 have l2 := len_sum nodesT_pos q.l
 unfold nodesP at hp hq
 have hT := fun τ => sl_eqT p.l q.l (by omega) (by omega) τ (F := 59) (fun x hx y hy τ => sz_sameT x y τ (by have := mem_sum (f := nodesT) hx; omega) (by have := mem_sum (f := nodesT) hy; omega))
 have hs := same_P p q
 refine calls_x mixed Try.func57 b57 n57 rfl q57 (by simp) ?_; unfold c57 r57
 have hb : (p.clk == q.clk) = decide (p.clk = q.clk) := by
  rw [Bool.eq_iff_iff]; simp
 obtain ⟨c, hc⟩ : ∃ c, decide (p.clk = q.clk) = c := ⟨_, rfl⟩
 rw [hc] at hs hb
 cases c <;> simp only [Bool.true_and, Bool.false_and] at hs
 all_goals
  repeat' (first | simp (maxDischargeDepth := 9) -implicitDefEqProofs -dsimp only [go_sem, seval, *] | ((with_reducible apply ACalls.one1); (focus ((with_reducible refine hT _) <;> (first | (simp (maxDischargeDepth := 9) -implicitDefEqProofs -dsimp only [go_sem, seval, *]; done) | omega))); (focus (first | trivial | with_reducible exact rfl | (simp (maxDischargeDepth := 9) -implicitDefEqProofs -dsimp only [go_sem, seval]; done)))))
  refine fin_eq ?_
  (repeat' simp (maxDischargeDepth := 9) -implicitDefEqProofs -dsimp only [go_sem, seval, *])
theorem sz_Same2 (p q : Ck) (σ : Sig) (hp : nodes p.e ≤ 16777216) (hq : nodes q.e ≤ 16777216) : ACalls Try.prog 60 [encC p, encC q] σ (fun r σ' => r = .ret (.bool (same p q)) ∧ σ' = σ) := by
 have hE := fun τ => sz_SameE p.e q.e τ hp hq
 have hs := same_C p q
 have hb : (p.name.toList == q.name.toList) = decide (p.name = q.name) := by
  rw [Bool.eq_iff_iff]; simp [bytes_eq]
 refine calls_x mixed Try.func60 b60 n60 rfl q60 (by simp) ?_; unfold c60 r60
 obtain ⟨c, hc⟩ : ∃ c, decide (p.name = q.name) = c := ⟨_, rfl⟩
 rw [hc] at hs hb
 cases c <;> simp only [Bool.true_and, Bool.false_and] at hs
 all_goals
  repeat' (first | simp (maxDischargeDepth := 9) -implicitDefEqProofs -dsimp only [go_sem, seval, *] | ((with_reducible apply ACalls.one1); (focus ((with_reducible refine hE _) <;> (first | (simp (maxDischargeDepth := 9) -implicitDefEqProofs -dsimp only [go_sem, seval, *]; done) | omega))); (focus (first | trivial | with_reducible exact rfl | (simp (maxDischargeDepth := 9) -implicitDefEqProofs -dsimp only [go_sem, seval]; done)))))
  refine fin_eq ?_
  (repeat' simp (maxDischargeDepth := 9) -implicitDefEqProofs -dsimp only [go_sem, seval, *])
theorem sg_eqs (s t : Sg) : (s.name.toList == t.name.toList && (s.w == t.w && (s.kind == t.kind && s.init == t.init))) = same s t := by
 rw [same_S]
 have : (s.name.toList == t.name.toList) = decide (s.name = t.name) := by rw [Bool.eq_iff_iff]; simp [bytes_eq]
 rw [this]
 simp only [Bool.and_assoc]
 rfl
set_option maxRecDepth 20000 in
theorem sl_equalS (l m : List Sg) (σ : Sig) (hl : l.length ≤ 1000000000000) (hm : m.length ≤ 1000000000000) : ACalls Try.prog 61 [.slice (l.map encS) .no, .slice (m.map encS) .no] σ (fun r σ' => r = .ret (.bool (same l m)) ∧ σ' = σ) := by
 rw [← eqF_same]
 refine calls_x mixed Try.func61 b61 n61 rfl q61 (by simp) ?_; unfold c61 r61
 by_cases hlen : m.length = l.length
 ·have hb : ((l.length : Int) != (m.length : Int)) = false := by simp [hlen]
  have hyes := eqF_true (p := same) hlen.symm
  repeat' simp (maxDischargeDepth := 9) -implicitDefEqProofs -dsimp only [go_sem, seval, *]
  refine loop_rule (fun i : Nat => [(13, some (.int .i64 i)), (12, some (.int .i64 l.length)), (0, some (.slice (l.map encS) .no)), (1, some (.slice (m.map encS) .no))]) (fun _ => σ)
   (fun i => i ≤ l.length ∧ ∀ j, (h1 : j < l.length) → (h2 : j < m.length) → j < i → same l[j] m[j] = true) (fun i => l.length - i) 0 ?_ ?_
  ·clear hyes
   (repeat' simp (maxDischargeDepth := 9) -implicitDefEqProofs -dsimp only [go_sem, seval, *]) <;> (repeat' refine And.intro ?_ ?_) <;> (first | omega | skip)
  ·rintro i ⟨hi, hok⟩
   by_cases hlt : i < l.length
   ·have hlt2 : i < m.length := by omega
    have he := sg_eqs l[i] m[i]
    have hf := eqF_false (p := same) hlt hlt2
    have hstep : same l[i] m[i] = true → ∀ j, (h1 : j < l.length) → (h2 : j < m.length) → j < i + 1 → same l[j] m[j] = true := fun hp j h1 h2 h => by
     rcases Nat.lt_or_ge j i with h' | h'
     ·exact hok j h1 h2 h'
     ·obtain rfl : j = i := by omega
      exact hp
    clear hok hyes
    repeat' (first | simp (maxDischargeDepth := 9) -implicitDefEqProofs -dsimp only [go_sem, seval, *] | simp (disch := omega) only [wrap64] | (with_reducible (first | apply Zr) <;> intro hq) | ((with_reducible refine Zu ?_ ?_); focus omega))
    ·have hn := hstep hq
     refine loop_next _ _ _ _ (i + 1) ?_; (repeat' simp (maxDischargeDepth := 9) -implicitDefEqProofs -dsimp only [go_sem, seval, *]) <;> (repeat' refine And.intro ?_ ?_) <;> (first | omega | skip)
     exact fun j h1 h2 h => hn j h1 (by omega) h
    ·have he := hf hq
     refine fin_eq ?_
     (repeat' simp (maxDischargeDepth := 9) -implicitDefEqProofs -dsimp only [go_sem, seval, *])
   ·have he := hyes fun j h1 h2 => hok j h1 h2 (by omega)
    repeat' simp (maxDischargeDepth := 9) -implicitDefEqProofs -dsimp only [go_sem, seval, *]
    refine fin_eq ?_
    (repeat' simp (maxDischargeDepth := 9) -implicitDefEqProofs -dsimp only [go_sem, seval, *])
 ·have hb : ((l.length : Int) != (m.length : Int)) = true := by simp only [bne_iff_ne, ne_eq]; omega
  have he := eqF_len (p := same) (fun h : l.length = m.length => hlen h.symm)
  repeat' simp (maxDischargeDepth := 9) -implicitDefEqProofs -dsimp only [go_sem, seval, *]
  refine fin_eq ?_
  (repeat' simp (maxDischargeDepth := 9) -implicitDefEqProofs -dsimp only [go_sem, seval, *])
def Sm (d : Flat) : Prop := d.sigs.length ≤ 16777216 ∧ d.procs.length ≤ 16777216 ∧ d.chks.length ≤ 16777216 ∧ nodesD d ≤ 16777216
theorem sm_pr {d : Flat} (h : Sm d) {p : Pr} (hp : p ∈ d.procs) : nodesP p ≤ 16777216 := by
 obtain ⟨_, _, _, h⟩ := h
 unfold nodesD at h
 have := mem_sum (f := nodesP) hp; omega
theorem sm_ck {d : Flat} (h : Sm d) {c : Ck} (hc : c ∈ d.chks) : nodes c.e ≤ 16777216 := by
 obtain ⟨_, _, _, h⟩ := h
 unfold nodesD at h
 have := mem_sum (f := fun c : Ck => nodes c.e) hc; omega
set_option maxRecDepth 20000 in
theorem sz_Same (a b : Flat) (σ : Sig) (ha : Sm a) (hb : Sm b) : ACalls Try.prog 26 [encD a, encD b] σ (fun r σ' => r = .ret (.bool (same a b)) ∧ σ' = σ) := by
 have c1 := fun τ => sl_equalS a.sigs b.sigs τ (by have := ha.1; omega) (by have := hb.1; omega)
 have c2 := fun τ => sl_eqP a.procs b.procs (by have := ha.2.1; omega) (by have := hb.2.1; omega) τ (F := 57) (fun x hx y hy τ => sz_Same1 x y τ (sm_pr ha hx) (sm_pr hb hy))
 have c3 := fun τ => sl_eqC a.chks b.chks (by have := ha.2.2.1; omega) (by have := hb.2.2.1; omega) τ (F := 60) (fun x hx y hy τ => sz_Same2 x y τ (sm_ck ha hx) (sm_ck hb hy))
 have hs := same_D a b
 obtain ⟨p, hp⟩ : ∃ p, same a.sigs b.sigs = p := ⟨_, rfl⟩
 obtain ⟨q, hq⟩ : ∃ p, same a.procs b.procs = p := ⟨_, rfl⟩
 rw [hp] at hs c1
 rw [hq] at hs c2
 clear ha hb hp hq
 refine calls_x mixed Try.func26 b26 n26 rfl q26 (by simp) ?_; unfold c26 r26
 cases p <;> cases q <;> simp only [Bool.true_and, Bool.false_and] at hs
 all_goals
  repeat' (first | simp (maxDischargeDepth := 9) -implicitDefEqProofs -dsimp only [go_sem, seval, *] | ((with_reducible apply ACalls.one1); (focus ((first | with_reducible refine c1 _ | with_reducible refine c2 _ | with_reducible refine c3 _) <;> (first | (simp (maxDischargeDepth := 9) -implicitDefEqProofs -dsimp only [go_sem, seval, *]; done) | omega))); (focus (first | trivial | with_reducible exact rfl | (simp (maxDischargeDepth := 9) -implicitDefEqProofs -dsimp only [go_sem, seval]; done)))))
  refine fin_eq ?_
  (repeat' simp (maxDischargeDepth := 9) -implicitDefEqProofs -dsimp only [go_sem, seval, *])
def FldT2 (a b : T) : Prop := FldT a b ∧ b.e.length = a.e.length
theorem bne_len {α β : Type} {l : List α} {m : List β} (h : m.length = l.length) : ((l.length : Int) != (m.length : Int)) = false := by simp [h]
theorem bne_len' {α β : Type} {l : List α} {m : List β} (h : ¬ m.length = l.length) : ((l.length : Int) != (m.length : Int)) = true := by simp only [bne_iff_ne, ne_eq]; omega
theorem up_to {α β : Type} {l : List α} {m : List β} {p : α → β → Prop} {i : Nat} (hi : i < l.length) (hm : m.length = l.length)
  (hok : ∀ j, (h1 : j < l.length) → (h2 : j < m.length) → j < i → p l[j] m[j]) (hp : p l[i] (m[i]'(by omega))) : ∀ j, (h1 : j < l.length) → (h2 : j < m.length) → j < i + 1 → p l[j] m[j] := fun j h1 h2 h => by
 rcases Nat.lt_or_ge j i with h' | h'
 ·exact hok j h1 h2 h'
 ·obtain rfl : j = i := by omega
  exact hp
set_option maxRecDepth 20000 in
set_option maxHeartbeats 1000000 in
theorem rf_sameT_step (l : List T) (hl : (l.map nodesT).sum ≤ 16777216) (ih : ∀ t ∈ l, ∀ (m : List T) (τ : Sig), (m.map nodesT).sum ≤ 16777216 → ACalls Try.prog 56 [.slice (t.l.map encT) .no, .slice (m.map encT) .no] τ (fun r σ' => r = .ret (.bool (same t.l m)) ∧ σ' = τ))
  (m : List T) (hm : (m.map nodesT).sum ≤ 16777216) (σ : Sig) : ACalls Try.prog 56 [.slice (l.map encT) .no, .slice (m.map encT) .no] σ (fun r σ' => r = .ret (.bool (same l m)) ∧ σ' = σ) := by
 have l1 := len_sum nodesT_pos l
 have l2 := len_sum nodesT_pos m
 rw [← eqF_same]
 refine calls_x mixed Try.func56 b56 n56 rfl q56 (by simp) ?_; unfold c56 r56
 by_cases hlen : m.length = l.length
 ·have hb := bne_len hlen
  have hyes := eqF_true (p := same) hlen.symm
  repeat' (first | simp (maxDischargeDepth := 9) -implicitDefEqProofs -dsimp only [go_sem, seval, *] | simp (disch := omega) only [wrap64])
  refine loop_rule (fun i : Nat => [(5, some (.int .i64 i)), (0, some (.slice (l.map encT) .no)), (1, some (.slice (m.map encT) .no))]) (fun _ => σ)
   (fun i => i ≤ l.length ∧ ∀ j, (h1 : j < l.length) → (h2 : j < m.length) → j < i → same l[j] m[j] = true) (fun i => l.length - i) 0 ?_ ?_
  ·clear hyes ih
   (repeat' simp (maxDischargeDepth := 9) -implicitDefEqProofs -dsimp only [go_sem, seval, *]) <;> (repeat' refine And.intro ?_ ?_) <;> (first | omega | skip)
  ·rintro i ⟨hi, hok⟩
   by_cases hlt : i < l.length
   ·have hlt2 : i < m.length := by omega
    have hx := encTs_eq l[i]
    have hy := encTs_eq m[i]
    have nx := mem_sum (f := nodesT) (List.getElem_mem hlt)
    have ny := mem_sum (f := nodesT) (List.getElem_mem hlt2)
    have x1 := lenE_nodes l[i]
    have y1 := lenE_nodes m[i]
    have hc := fun τ => ih l[i] (List.getElem_mem hlt) m[i].l τ (by have := nodesT_eq m[i]; omega)
    have hE := fun (a : E) (ha : a ∈ l[i].e) (b : E) (hb : b ∈ m[i].e) τ => rf_SameE a b τ (by have := partE_nodes ha; omega) (by have := partE_nodes hb; omega)
    have hf := eqF_false (p := same) hlt hlt2
    have hstep := fun h => up_to (p := fun a b => same a b = true) hlt hlen hok h
    clear hok hyes ih
    by_cases hF : FldT2 l[i] m[i]
    ·obtain ⟨hF, hle⟩ := hF
     have hs := fldT_yes hF
     rw [← eqF_same l[i].e] at hs
     have hb2 := bne_len hle
     obtain ⟨e1, e2, e3, e4⟩ := hF
     obtain ⟨q, hq⟩ : ∃ p, same l[i].l m[i].l = p := ⟨_, rfl⟩
     rw [hq] at hs hc
     cases q with
     | false =>
      rw [Bool.and_false] at hs
      have he := hf hs
      repeat' (first | simp (maxDischargeDepth := 9) -implicitDefEqProofs -dsimp only [go_sem, seval, bne_self_eq_false, *] | ((with_reducible refine Zu ?_ ?_); focus omega) | ((with_reducible refine Zt (fun oF hoF hnF hnF' => ?_)); (try simp only [upd_none, ne_eq, not_and] at hoF)) | ((with_reducible apply ACalls.one1); (focus ((with_reducible refine hc _) <;> (first | (simp (maxDischargeDepth := 9) -implicitDefEqProofs -dsimp only [go_sem, seval, *]; done) | omega))); (focus (first | trivial | with_reducible exact rfl | (simp (maxDischargeDepth := 9) -implicitDefEqProofs -dsimp only [go_sem, seval]; done)))))
      refine fin_eq ?_
      (repeat' simp (maxDischargeDepth := 9) -implicitDefEqProofs -dsimp only [go_sem, seval, *])
     | true =>
      rw [Bool.and_true] at hs
      have eyes := eqF_true (p := same) hle.symm
      repeat' (first | simp (maxDischargeDepth := 9) -implicitDefEqProofs -dsimp only [go_sem, seval, bne_self_eq_false, *] | ((with_reducible refine Zu ?_ ?_); focus omega) | ((with_reducible refine Zt (fun oF hoF hnF hnF' => ?_)); (try simp only [upd_none, ne_eq, not_and] at hoF)) | ((with_reducible apply ACalls.one1); (focus ((with_reducible refine hc _) <;> (first | (simp (maxDischargeDepth := 9) -implicitDefEqProofs -dsimp only [go_sem, seval, *]; done) | omega))); (focus (first | trivial | with_reducible exact rfl | (simp (maxDischargeDepth := 9) -implicitDefEqProofs -dsimp only [go_sem, seval]; done)))))
      rename_i ox hox nx1 nx2
      obtain ⟨oy, eoy⟩ : ∃ x, x = oF := ⟨oF, rfl⟩
      subst eoy
      obtain ⟨n1, hoy⟩ := hoF
      have n2 : ¬ ox = oy := fun e => n1 e.symm
      clear nx1 nx2 hnF hnF' hc
      refine loop_rule (fun k : Nat => [(8, some (.int .i64 k)), (6, some (.ptr ox 0)), (7, some (.ptr oy 0)), (5, some (.int .i64 i)), (0, some (.slice (l.map encT) .no)), (1, some (.slice (m.map encT) .no))])
       (fun _ => upd (upd σ ox (.cells [.int .i64 l[i].op, .int .i64 l[i].sig, .int .i64 l[i].hi, .int .i64 l[i].lo, .slice (l[i].e.map encE) .no, .slice (l[i].l.map encT) .no])) oy (.cells [.int .i64 m[i].op, .int .i64 m[i].sig, .int .i64 m[i].hi, .int .i64 m[i].lo, .slice (m[i].e.map encE) .no, .slice (m[i].l.map encT) .no]))
       (fun k => k ≤ l[i].e.length ∧ ∀ j, (h1 : j < l[i].e.length) → (h2 : j < m[i].e.length) → j < k → same l[i].e[j] m[i].e[j] = true) (fun k => l[i].e.length - k) 0 ?_ ?_
      ·clear hE eyes hstep hf
       (repeat' simp (maxDischargeDepth := 9) -implicitDefEqProofs -dsimp only [go_sem, seval, *]) <;> (repeat' refine And.intro ?_ ?_) <;> (first | omega | skip)
      ·rintro k ⟨hk, hokk⟩
       by_cases hkt : k < l[i].e.length
       ·have hkt2 : k < m[i].e.length := by omega
        have hc := fun τ => hE l[i].e[k] (List.getElem_mem hkt) m[i].e[k] (List.getElem_mem hkt2) τ
        have hf2 := eqF_false (p := same) hkt hkt2
        have hstep2 := fun h => up_to (p := fun a b => same a b = true) hkt hle hokk h
        clear hE hokk eyes hstep
        repeat' (first | simp (maxDischargeDepth := 9) -implicitDefEqProofs -dsimp only [go_sem, seval, *] | simp (disch := omega) only [wrap64] | (with_reducible (first | apply Zn | apply Zr) <;> intro hq) | ((with_reducible refine Zu ?_ ?_); focus omega) | ((with_reducible apply id_one0); (focus (intro tS hS; ((with_reducible refine hc _) <;> (first | (simp (maxDischargeDepth := 9) -implicitDefEqProofs -dsimp only [go_sem, seval, *]; done) | omega | ((with_reducible refine Sub.get hS ?_); simp (maxDischargeDepth := 9) -implicitDefEqProofs -dsimp only [go_sem, seval, *]; done))))); (focus (first | trivial | (simp (maxDischargeDepth := 9) -implicitDefEqProofs -dsimp only [go_sem, seval, *]; done)))))
        ·have hn := hstep2 hq
         refine loop_next _ _ _ _ (k + 1) ?_; (repeat' simp (maxDischargeDepth := 9) -implicitDefEqProofs -dsimp only [go_sem, seval, *]) <;> (repeat' refine And.intro ?_ ?_) <;> (first | omega | skip)
         exact fun j h1 h2 h => hn j h1 (by omega) h
        ·have he := hf (by rw [hs]; exact hf2 hq)
         refine fin_eq ?_
         (repeat' simp (maxDischargeDepth := 9) -implicitDefEqProofs -dsimp only [go_sem, seval, *])
       ·have hn := hstep (by rw [hs]; exact eyes fun j h1 h2 => hokk j h1 h2 (by omega))
        clear hE hokk eyes hstep hf
        repeat' (first | simp (maxDischargeDepth := 9) -implicitDefEqProofs -dsimp only [go_sem, seval, *] | simp (disch := omega) only [wrap64])
        refine loop_next _ _ _ _ (i + 1) ?_; (repeat' simp (maxDischargeDepth := 9) -implicitDefEqProofs -dsimp only [go_sem, seval, *]) <;> (repeat' refine And.intro ?_ ?_) <;> (first | omega | skip)
        exact fun j h1 h2 h => hn j h1 (by omega) h
    ·have hs : same l[i] m[i] = false := by
      by_cases hF2 : FldT l[i] m[i]
      ·rw [fldT_yes hF2, ← eqF_same, eqF_len (fun hl => hF ⟨hF2, hl.symm⟩), Bool.false_and]
      ·exact fldT_no hF2
     have he := hf hs
     unfold FldT2 FldT at hF
     repeat' (first | simp (maxDischargeDepth := 9) -implicitDefEqProofs -dsimp only [go_sem, seval, *] | (with_reducible (first | apply Zn | apply Zr) <;> intro hq) | ((with_reducible refine Zu ?_ ?_); focus omega) | ((with_reducible refine Zt (fun oF hoF hnF hnF' => ?_)); (try simp only [upd_none, ne_eq, not_and] at hoF)) | ((with_reducible apply ACalls.one1); (focus ((with_reducible refine hc _) <;> (first | (simp (maxDischargeDepth := 9) -implicitDefEqProofs -dsimp only [go_sem, seval, *]; done) | omega))); (focus (first | trivial | with_reducible exact rfl | (simp (maxDischargeDepth := 9) -implicitDefEqProofs -dsimp only [go_sem, seval]; done)))))
     all_goals first | (exfalso; apply hF; clear hc hE; omega) | skip
     all_goals
      refine fin_eq ?_
      (repeat' simp (maxDischargeDepth := 9) -implicitDefEqProofs -dsimp only [go_sem, seval, *])
   ·have he := hyes fun j h1 h2 => hok j h1 h2 (by omega)
    repeat' simp (maxDischargeDepth := 9) -implicitDefEqProofs -dsimp only [go_sem, seval, *]
    refine fin_eq ?_
    (repeat' simp (maxDischargeDepth := 9) -implicitDefEqProofs -dsimp only [go_sem, seval, *])
 ·have hb := bne_len' hlen
  have he := eqF_len (p := same) (fun h : l.length = m.length => hlen h.symm)
  repeat' simp (maxDischargeDepth := 9) -implicitDefEqProofs -dsimp only [go_sem, seval, *]
  refine fin_eq ?_
  (repeat' simp (maxDischargeDepth := 9) -implicitDefEqProofs -dsimp only [go_sem, seval, *])
theorem sub_nodesT (t : T) : (t.l.map nodesT).sum < nodesT t := by rw [nodesT_eq t]; omega
theorem rf_sameT (l m : List T) (σ : Sig) (hl : (l.map nodesT).sum ≤ 16777216) (hm : (m.map nodesT).sum ≤ 16777216) :
  ACalls Try.prog 56 [.slice (l.map encT) .no, .slice (m.map encT) .no] σ (fun r σ' => r = .ret (.bool (same l m)) ∧ σ' = σ) := by
 have key : ∀ t : T, nodesT t ≤ 16777216 → ∀ (m : List T) (τ : Sig), (m.map nodesT).sum ≤ 16777216 → ACalls Try.prog 56 [.slice (t.l.map encT) .no, .slice (m.map encT) .no] τ (fun r σ' => r = .ret (.bool (same t.l m)) ∧ σ' = τ) := fun t => by
  refine T.ind (P := fun t => nodesT t ≤ 16777216 → ∀ (m : List T) (τ : Sig), (m.map nodesT).sum ≤ 16777216 → ACalls Try.prog 56 [.slice (t.l.map encT) .no, .slice (m.map encT) .no] τ (fun r σ' => r = .ret (.bool (same t.l m)) ∧ σ' = τ)) (fun t ih ht m τ hm => ?_) t
  exact rf_sameT_step t.l (by have := sub_nodesT t; omega) (fun x hx => ih x hx (by have := partT_nodes hx; omega)) m hm τ
 exact rf_sameT_step l hl (fun t ht => key t (by have := mem_sum (f := nodesT) ht; omega)) m hm σ
set_option maxRecDepth 20000 in
set_option maxHeartbeats 1000000 in
theorem rf_Same (a b : Flat) (σ : Sig) (ha : Sm a) (hb : Sm b) : ACalls Try.prog 23 [encD a, encD b] σ (fun r σ' => r = .ret (.bool (same a b)) ∧ σ' = σ) := by
 have c2 := fun (x : Pr) (hx : x ∈ a.procs) (y : Pr) (hy : y ∈ b.procs) τ => rf_sameT x.l y.l τ (by have := sm_pr ha hx; exact this) (by have := sm_pr hb hy; exact this)
 have c3 := fun (x : Ck) (hx : x ∈ a.chks) (y : Ck) (hy : y ∈ b.chks) τ => rf_SameE x.e y.e τ (sm_ck ha hx) (sm_ck hb hy)
 have hs := same_D a b
 obtain ⟨a1, a2, a3, _⟩ := ha
 obtain ⟨b1, b2, b3, _⟩ := hb
 rw [← eqF_same a.sigs, ← eqF_same a.procs, ← eqF_same a.chks] at hs
 refine calls_x mixed Try.func23 b23 n23 rfl q23 (by simp) ?_; unfold c23 r23
 by_cases hlen : b.sigs.length = a.sigs.length ∧ b.procs.length = a.procs.length ∧ b.chks.length = a.chks.length
 ·obtain ⟨h1, h2, h3⟩ := hlen
  have q1 := bne_len h1
  have q2 := bne_len h2
  have q3 := bne_len h3
  repeat' simp (maxDischargeDepth := 9) -implicitDefEqProofs -dsimp only [go_sem, seval, *]
  refine loop_rule (fun i : Nat => [(5, some (.int .i64 i)), (2, some (.cptr (dL a))), (3, some (.cptr (dL b)))]) (fun _ => σ)
   (fun i => i ≤ a.sigs.length ∧ ∀ j, (h1 : j < a.sigs.length) → (h2 : j < b.sigs.length) → j < i → same a.sigs[j] b.sigs[j] = true) (fun i => a.sigs.length - i) 0 ?_ ?_
  ·clear c2 c3
   (repeat' simp (maxDischargeDepth := 9) -implicitDefEqProofs -dsimp only [go_sem, seval, *]) <;> (repeat' refine And.intro ?_ ?_) <;> (first | omega | skip)
  ·rintro i ⟨hi, hok⟩
   by_cases hlt : i < a.sigs.length
   ·have hlt2 : i < b.sigs.length := by omega
    have he := sg_eqs a.sigs[i] b.sigs[i]
    have hf := eqF_false (p := same) hlt hlt2
    have hstep := fun h => up_to (p := fun a b => same a b = true) hlt h1 hok h
    clear hok c2 c3
    repeat' (first | simp (maxDischargeDepth := 9) -implicitDefEqProofs -dsimp only [go_sem, seval, *] | simp (disch := omega) only [wrap64] | (with_reducible (first | apply Zn | apply Zo | apply Zr) <;> intro hq) | ((with_reducible refine Zu ?_ ?_); focus omega))
    ·have hn := hstep hq
     refine loop_next _ _ _ _ (i + 1) ?_; (repeat' simp (maxDischargeDepth := 9) -implicitDefEqProofs -dsimp only [go_sem, seval, *]) <;> (repeat' refine And.intro ?_ ?_) <;> (first | omega | skip)
     exact fun j h1 h2 h => hn j h1 (by omega) h
    ·rw [hf hq, Bool.false_and, Bool.false_and] at hs
     refine fin_eq ?_
     (repeat' simp (maxDischargeDepth := 9) -implicitDefEqProofs -dsimp only [go_sem, seval, *])
   ·have e1 := eqF_true (p := same) h1.symm fun j h1 h2 => hok j h1 h2 (by omega)
    rw [e1, Bool.true_and] at hs
    clear hok
    repeat' simp (maxDischargeDepth := 9) -implicitDefEqProofs -dsimp only [go_sem, seval, *]
    refine loop_rule (fun i : Nat => [(6, some (.int .i64 i)), (2, some (.cptr (dL a))), (3, some (.cptr (dL b)))]) (fun _ => σ)
     (fun i => i ≤ a.procs.length ∧ ∀ j, (h1 : j < a.procs.length) → (h2 : j < b.procs.length) → j < i → same a.procs[j] b.procs[j] = true) (fun i => a.procs.length - i) 0 ?_ ?_
    ·clear c2 c3
     (repeat' simp (maxDischargeDepth := 9) -implicitDefEqProofs -dsimp only [go_sem, seval, *]) <;> (repeat' refine And.intro ?_ ?_) <;> (first | omega | skip)
    ·rintro k ⟨hk, hok⟩
     by_cases hkt : k < a.procs.length
     ·have hkt2 : k < b.procs.length := by omega
      have hc := fun τ => c2 a.procs[k] (List.getElem_mem hkt) b.procs[k] (List.getElem_mem hkt2) τ
      have hp := same_P a.procs[k] b.procs[k]
      have hbn : (a.procs[k].clk == b.procs[k].clk) = decide (a.procs[k].clk = b.procs[k].clk) := by rw [Bool.eq_iff_iff]; simp
      have hf := eqF_false (p := same) hkt hkt2
      have hstep := fun h => up_to (p := fun a b => same a b = true) hkt h2 hok h
      obtain ⟨c, hcc⟩ : ∃ c, decide (a.procs[k].clk = b.procs[k].clk) = c := ⟨_, rfl⟩
      rw [hcc] at hbn hp
      clear hok c2 c3 hcc
      cases c
      ·rw [Bool.false_and] at hp
       rw [hf hp, Bool.false_and] at hs
       clear hstep
       repeat' (first | simp (maxDischargeDepth := 9) -implicitDefEqProofs -dsimp only [go_sem, seval, *] | ((with_reducible refine Zu ?_ ?_); focus omega))
       refine fin_eq ?_
       (repeat' simp (maxDischargeDepth := 9) -implicitDefEqProofs -dsimp only [go_sem, seval, *])
      ·rw [Bool.true_and] at hp
       rw [hp] at hstep hf
       repeat' (first | simp (maxDischargeDepth := 9) -implicitDefEqProofs -dsimp only [go_sem, seval, *] | simp (disch := omega) only [wrap64] | (with_reducible (first | apply Zn | apply Zo | apply Zr) <;> intro hq) | ((with_reducible refine Zu ?_ ?_); focus omega) | ((with_reducible apply id_one0); (focus (intro tS hS; ((with_reducible refine hc _) <;> (first | (simp (maxDischargeDepth := 9) -implicitDefEqProofs -dsimp only [go_sem, seval, *]; done) | omega | ((with_reducible refine Sub.get hS ?_); simp (maxDischargeDepth := 9) -implicitDefEqProofs -dsimp only [go_sem, seval, *]; done))))); (focus (first | trivial | (simp (maxDischargeDepth := 9) -implicitDefEqProofs -dsimp only [go_sem, seval, *]; done)))))
       ·have hn := hstep (by assumption)
        refine loop_next _ _ _ _ (k + 1) ?_; (repeat' simp (maxDischargeDepth := 9) -implicitDefEqProofs -dsimp only [go_sem, seval, *]) <;> (repeat' refine And.intro ?_ ?_) <;> (first | omega | skip)
        exact fun j h1 h2 h => hn j h1 (by omega) h
       ·rw [hf (by assumption), Bool.false_and] at hs
        refine fin_eq ?_
        (repeat' simp (maxDischargeDepth := 9) -implicitDefEqProofs -dsimp only [go_sem, seval, *])
     ·have e2 := eqF_true (p := same) h2.symm fun j h1 h2 => hok j h1 h2 (by omega)
      rw [e2, Bool.true_and] at hs
      clear hok
      repeat' simp (maxDischargeDepth := 9) -implicitDefEqProofs -dsimp only [go_sem, seval, *]
      refine loop_rule (fun i : Nat => [(7, some (.int .i64 i)), (2, some (.cptr (dL a))), (3, some (.cptr (dL b)))]) (fun _ => σ)
       (fun i => i ≤ a.chks.length ∧ ∀ j, (h1 : j < a.chks.length) → (h2 : j < b.chks.length) → j < i → same a.chks[j] b.chks[j] = true) (fun i => a.chks.length - i) 0 ?_ ?_
      ·clear c2 c3
       (repeat' simp (maxDischargeDepth := 9) -implicitDefEqProofs -dsimp only [go_sem, seval, *]) <;> (repeat' refine And.intro ?_ ?_) <;> (first | omega | skip)
      ·rintro m ⟨hm, hok⟩
       by_cases hmt : m < a.chks.length
       ·have hmt2 : m < b.chks.length := by omega
        have hc := fun τ => c3 a.chks[m] (List.getElem_mem hmt) b.chks[m] (List.getElem_mem hmt2) τ
        have hp := same_C a.chks[m] b.chks[m]
        have hbn : (a.chks[m].name.toList == b.chks[m].name.toList) = decide (a.chks[m].name = b.chks[m].name) := by rw [Bool.eq_iff_iff]; simp [bytes_eq]
        have hf := eqF_false (p := same) hmt hmt2
        have hstep := fun h => up_to (p := fun a b => same a b = true) hmt h3 hok h
        obtain ⟨c, hcc⟩ : ∃ c, decide (a.chks[m].name = b.chks[m].name) = c := ⟨_, rfl⟩
        rw [hcc] at hbn hp
        clear hok c2 c3 hcc
        cases c
        ·rw [Bool.false_and] at hp
         rw [hf hp] at hs
         clear hstep
         repeat' (first | simp (maxDischargeDepth := 9) -implicitDefEqProofs -dsimp only [go_sem, seval, *] | ((with_reducible refine Zu ?_ ?_); focus omega))
         refine fin_eq ?_
         (repeat' simp (maxDischargeDepth := 9) -implicitDefEqProofs -dsimp only [go_sem, seval, *])
        ·rw [Bool.true_and] at hp
         rw [hp] at hstep hf
         repeat' (first | simp (maxDischargeDepth := 9) -implicitDefEqProofs -dsimp only [go_sem, seval, *] | simp (disch := omega) only [wrap64] | (with_reducible (first | apply Zn | apply Zo | apply Zr) <;> intro hq) | ((with_reducible refine Zu ?_ ?_); focus omega) | ((with_reducible apply id_one0); (focus (intro tS hS; ((with_reducible refine hc _) <;> (first | (simp (maxDischargeDepth := 9) -implicitDefEqProofs -dsimp only [go_sem, seval, *]; done) | omega | ((with_reducible refine Sub.get hS ?_); simp (maxDischargeDepth := 9) -implicitDefEqProofs -dsimp only [go_sem, seval, *]; done))))); (focus (first | trivial | (simp (maxDischargeDepth := 9) -implicitDefEqProofs -dsimp only [go_sem, seval, *]; done)))))
         ·have hn := hstep (by assumption)
          refine loop_next _ _ _ _ (m + 1) ?_; (repeat' simp (maxDischargeDepth := 9) -implicitDefEqProofs -dsimp only [go_sem, seval, *]) <;> (repeat' refine And.intro ?_ ?_) <;> (first | omega | skip)
          exact fun j h1 h2 h => hn j h1 (by omega) h
         ·rw [hf (by assumption)] at hs
          refine fin_eq ?_
          (repeat' simp (maxDischargeDepth := 9) -implicitDefEqProofs -dsimp only [go_sem, seval, *])
       ·have e3 := eqF_true (p := same) h3.symm fun j h1 h2 => hok j h1 h2 (by omega)
        rw [e3] at hs
        clear hok c2 c3
        repeat' simp (maxDischargeDepth := 9) -implicitDefEqProofs -dsimp only [go_sem, seval, *]
        refine fin_eq ?_
        (repeat' simp (maxDischargeDepth := 9) -implicitDefEqProofs -dsimp only [go_sem, seval, *])
 ·have hs' : same a b = false := by
   rw [same_false]
   rintro rfl
   exact hlen ⟨rfl, rfl, rfl⟩
  clear hs c2 c3
  repeat' (first | simp (maxDischargeDepth := 9) -implicitDefEqProofs -dsimp only [go_sem, seval, *] | (with_reducible (first | apply Zn | apply Zo | apply Zr) <;> intro hq))
  all_goals first | (exfalso; apply hlen; omega) | skip
  all_goals
   refine fin_eq ?_
   (repeat' simp (maxDischargeDepth := 9) -implicitDefEqProofs -dsimp only [go_sem, seval, *])
end Go.Proofs.Ytdiebjnjhgbklaa

namespace Fil.Sz
open Abs
def sumTo {α : Type} (f : α → Nat) (l : List α) (i : Nat) : Nat := ((l.take i).map f).sum
def maxTo {α : Type} (f : α → Nat) (l : List α) (i : Nat) : Nat := maxL ((l.take i).map f)
theorem maxL_append (l m : List Nat) : maxL (l ++ m) = max (maxL l) (maxL m) := by
 unfold maxL
 induction l with
 | nil => simp
 | cons a l ih => simp only [List.cons_append, List.foldr_cons, ih]; omega
section
variable {α : Type} {f : α → Nat} {l : List α} {i : Nat}
theorem sumTo_zero : sumTo f l 0 = 0 := by simp [sumTo]
theorem maxTo_zero : maxTo f l 0 = 0 := by simp [maxTo, maxL]
theorem sumTo_succ (h : i < l.length) : sumTo f l (i + 1) = sumTo f l i + f l[i] := by
 unfold sumTo; rw [List.take_add_one, List.getElem?_eq_getElem h, List.map_append, List.sum_append, Option.toList_some, List.map_cons, List.map_nil, List.sum_cons, List.sum_nil, Nat.add_zero]
theorem maxTo_succ (h : i < l.length) : maxTo f l (i + 1) = max (maxTo f l i) (f l[i]) := by
 unfold maxTo; rw [List.take_add_one, List.getElem?_eq_getElem h, List.map_append, maxL_append]; simp [maxL]
theorem sumTo_all : sumTo f l l.length = (l.map f).sum := by simp [sumTo]
theorem maxTo_all : maxTo f l l.length = maxL (l.map f) := by simp [maxTo]
theorem sumTo_le : sumTo f l i ≤ (l.map f).sum := by
 unfold sumTo
 conv => rhs; rw [← List.take_append_drop i l]
 rw [List.map_append, List.sum_append]; omega
theorem maxL_le {l : List Nat} {n : Nat} (h : ∀ a ∈ l, a ≤ n) : maxL l ≤ n := by
 unfold maxL
 induction l with
 | nil => simp
 | cons a l ih =>
  have := h a (by simp); have := ih fun b hb => h b (by simp [hb])
  simp only [List.foldr_cons]; omega
theorem le_maxL {l : List Nat} {a : Nat} (h : a ∈ l) : a ≤ maxL l := by
 unfold maxL
 induction l with
 | nil => cases h
 | cons b l ih =>
  simp only [List.foldr_cons]
  rcases List.mem_cons.1 h with rfl | h
  ·omega
  ·have := ih h; omega
theorem maxTo_le : maxTo f l i ≤ maxL (l.map f) := by
 unfold maxTo
 refine maxL_le fun a ha => ?_
 obtain ⟨x, hx, rfl⟩ := List.mem_map.1 ha
 exact le_maxL (List.mem_map_of_mem (List.mem_of_mem_take hx))
end
theorem maxL_sum (l : List Nat) : maxL l ≤ l.sum := by
 unfold maxL
 induction l with
 | nil => simp
 | cons a l ih => simp only [List.foldr_cons, List.sum_cons]; omega
theorem sum_mono {α : Type} {f g : α → Nat} {l : List α} (h : ∀ x ∈ l, f x ≤ g x) : (l.map f).sum ≤ (l.map g).sum := by
 induction l with
 | nil => simp
 | cons a l ih =>
  have := h a (by simp); have := ih fun b hb => h b (by simp [hb])
  simp only [List.map_cons, List.sum_cons]; omega
theorem deep_le (e : E) : deep e ≤ nodes e := by
 refine E.ind (P := fun e => deep e ≤ nodes e) (fun e ih => ?_) e
 rw [deep_eq, nodes_eq]
 have := maxL_sum (e.l.map deep)
 have := sum_mono (f := deep) (g := nodes) ih
 omega
theorem deepT_le (t : T) : deepT t ≤ nodesT t := by
 refine T.ind (P := fun t => deepT t ≤ nodesT t) (fun t ih => ?_) t
 rw [deepT_eq, nodesT_eq]
 have := maxL_sum (t.e.map deep)
 have := sum_mono (f := deep) (g := nodes) (l := t.e) fun x _ => deep_le x
 have := maxL_sum (t.l.map deepT)
 have := sum_mono (f := deepT) (g := nodesT) ih
 omega
theorem deepP_le (p : Pr) : deepP p ≤ nodesP p := by
 unfold deepP nodesP
 have := maxL_sum (p.l.map deepT)
 have := sum_mono (f := deepT) (g := nodesT) (l := p.l) fun x _ => deepT_le x
 omega
theorem deepD_le (d : Flat) : deepD d ≤ nodesD d := by
 unfold deepD nodesD
 have := maxL_sum (d.procs.map deepP)
 have := sum_mono (f := deepP) (g := nodesP) (l := d.procs) fun x _ => deepP_le x
 have := maxL_sum (d.chks.map fun c => deep c.e)
 have := sum_mono (f := fun c : Ck => deep c.e) (g := fun c => nodes c.e) (l := d.chks) fun x _ => deep_le x.e
 omega
theorem bits_iff (l : List Sg) : bitsD 5000 l ≤ 4096 ↔ bitsD 4097 l ≤ 4096 := by
 by_cases h : ∀ s ∈ l, s.w ≤ 4096
 ·have : l.map (bitN 5000) = l.map (bitN 4097) := List.map_congr_left fun s hs => by
   have := h s hs; unfold bitN; omega
  unfold bitsD
  rw [this]
 ·have ⟨s, hs, hw⟩ : ∃ s ∈ l, ¬ s.w ≤ 4096 := by
   simp only [Classical.not_forall] at h
   obtain ⟨s, hs, hw⟩ := h
   exact ⟨s, hs, hw⟩
  have h1 := mem_sum (f := bitN 5000) hs
  have h2 := mem_sum (f := bitN 4097) hs
  unfold bitsD
  unfold bitN at h1 h2 ⊢
  omega
theorem bits_bound (c : Nat) (l : List Sg) : bitsD c l ≤ c * l.length := by
 unfold bitsD
 induction l with
 | nil => simp
 | cons a l ih =>
  have : bitN c a ≤ c := by unfold bitN; omega
  simp only [List.map_cons, List.sum_cons, List.length_cons]
  rw [Nat.mul_succ]; omega
end Fil.Sz

namespace Go.Proofs.Ytdiebjnjhgbklaa
open Abs Fil Fil.Sz
theorem rf_Nodes (e : E) : ∀ (σ : Sig), nodes e ≤ 16777216 → ACalls Try.prog 33 [encE e] σ (fun r σ' => r = .ret (.int .i64 (nodes e)) ∧ σ' = σ) := by
 refine E.ind (P := fun e => ∀ (σ : Sig), nodes e ≤ 16777216 → ACalls Try.prog 33 [encE e] σ (fun r σ' => r = .ret (.int .i64 (nodes e)) ∧ σ' = σ)) (fun e ih σ he => ?_) e
 have h1 := encEs_eq e
 have l1 := len_nodes e
 have hn := nodes_eq e
 have hE := fun (x : E) (hx : x ∈ e.l) τ => ih x hx τ (by have := part_nodes hx; omega)
 clear ih
 refine calls_x mixed Try.func33 b33 n33 rfl q33 (by simp) ?_; unfold c33 r33
 repeat' simp (maxDischargeDepth := 9) -implicitDefEqProofs -dsimp only [go_sem, seval, *]
 refine loop_rule (fun i : Nat => [(4, some (.int .i64 i)), (1, some (.cptr (eL e))), (3, some (.int .i64 ((1 + sumTo nodes e.l i : Nat) : Int)))]) (fun _ => σ) (fun i => i ≤ e.l.length) (fun i => e.l.length - i) 0 ?_ ?_
 ·clear hE
  have e0 := sumTo_zero (f := nodes) (l := e.l)
  (repeat' simp (maxDischargeDepth := 9) -implicitDefEqProofs -dsimp only [go_sem, seval, *]) <;> (first | omega | skip)
 ·intro i hi
  have hle := sumTo_le (f := nodes) (l := e.l) (i := i)
  by_cases hlt : i < e.l.length
  ·have hs := sumTo_succ (f := nodes) hlt
   have hc := fun τ => hE e.l[i] (List.getElem_mem hlt) τ
   have hm := part_nodes (List.getElem_mem hlt)
   clear hE
   repeat' (first | simp (maxDischargeDepth := 9) -implicitDefEqProofs -dsimp only [go_sem, seval, *] | simp (disch := omega) only [wrap64] | ((with_reducible refine Zu ?_ ?_); focus omega) | ((with_reducible apply ACalls.one1); (focus ((with_reducible refine hc _) <;> (first | (simp (maxDischargeDepth := 9) -implicitDefEqProofs -dsimp only [go_sem, seval, *]; done) | omega))); (focus (first | trivial | with_reducible exact rfl | (simp (maxDischargeDepth := 9) -implicitDefEqProofs -dsimp only [go_sem, seval]; done)))))
   refine loop_next _ _ _ _ (i + 1) ?_; (repeat' simp (maxDischargeDepth := 9) -implicitDefEqProofs -dsimp only [go_sem, seval, *]) <;> (repeat' refine And.intro ?_ ?_) <;> (first | omega | skip)
  ·have ei : i = e.l.length := by omega
   subst ei
   rw [sumTo_all, ← hn]
   clear hE
   repeat' simp (maxDischargeDepth := 9) -implicitDefEqProofs -dsimp only [go_sem, seval, *]
   refine fin_eq ?_
   (repeat' simp (maxDischargeDepth := 9) -implicitDefEqProofs -dsimp only [go_sem, seval, *])
theorem rf_Deep (e : E) : ∀ (σ : Sig), nodes e ≤ 16777216 → ACalls Try.prog 30 [encE e] σ (fun r σ' => r = .ret (.int .i64 (deep e)) ∧ σ' = σ) := by
 refine E.ind (P := fun e => ∀ (σ : Sig), nodes e ≤ 16777216 → ACalls Try.prog 30 [encE e] σ (fun r σ' => r = .ret (.int .i64 (deep e)) ∧ σ' = σ)) (fun e ih σ he => ?_) e
 have h1 := encEs_eq e
 have l1 := len_nodes e
 have hn := deep_eq e
 have hd := deep_le e
 have hE := fun (x : E) (hx : x ∈ e.l) τ => ih x hx τ (by have := part_nodes hx; omega)
 clear ih
 refine calls_x mixed Try.func30 b30 n30 rfl q30 (by simp) ?_; unfold c30 r30
 repeat' simp (maxDischargeDepth := 9) -implicitDefEqProofs -dsimp only [go_sem, seval, *]
 refine loop_rule (fun i : Nat => [(4, some (.int .i64 i)), (1, some (.cptr (eL e))), (3, some (.int .i64 (maxTo deep e.l i : Nat)))]) (fun _ => σ) (fun i => i ≤ e.l.length) (fun i => e.l.length - i) 0 ?_ ?_
 ·clear hE
  have e0 := maxTo_zero (f := deep) (l := e.l)
  (repeat' simp (maxDischargeDepth := 9) -implicitDefEqProofs -dsimp only [go_sem, seval, *]) <;> (first | omega | skip)
 ·intro i hi
  have hle := maxTo_le (f := deep) (l := e.l) (i := i)
  by_cases hlt : i < e.l.length
  ·have hs := maxTo_succ (f := deep) hlt
   have hc := fun τ => hE e.l[i] (List.getElem_mem hlt) τ
   clear hE
   repeat' (first | simp (maxDischargeDepth := 9) -implicitDefEqProofs -dsimp only [go_sem, seval, *] | simp (disch := omega) only [wrap64] | ((with_reducible refine Zu ?_ ?_); focus omega) | ((with_reducible apply ACalls.one1); (focus ((with_reducible refine hc _) <;> (first | (simp (maxDischargeDepth := 9) -implicitDefEqProofs -dsimp only [go_sem, seval, *]; done) | omega))); (focus (first | trivial | with_reducible exact rfl | (simp (maxDischargeDepth := 9) -implicitDefEqProofs -dsimp only [go_sem, seval]; done)))))
   refine loop_next _ _ _ _ (i + 1) ?_; (repeat' simp (maxDischargeDepth := 9) -implicitDefEqProofs -dsimp only [go_sem, seval, *]) <;> (repeat' refine And.intro ?_ ?_) <;> (first | omega | skip)
  ·have ei : i = e.l.length := by omega
   subst ei
   rw [maxTo_all] at hle ⊢
   clear hE
   repeat' (first | simp (maxDischargeDepth := 9) -implicitDefEqProofs -dsimp only [go_sem, seval, *] | simp (disch := omega) only [wrap64])
   refine fin_eq ?_
   (repeat' simp (maxDischargeDepth := 9) -implicitDefEqProofs -dsimp only [go_sem, seval, *]) <;> (first | omega | skip)
theorem rf_NodesT_step (l : List T) (hl : (l.map nodesT).sum ≤ 16777216) (ih : ∀ t ∈ l, ∀ τ, ACalls Try.prog 65 [.slice (t.l.map encT) .no] τ (fun r σ' => r = .ret (.int .i64 ((t.l.map nodesT).sum : Nat)) ∧ σ' = τ)) (σ : Sig) :
  ACalls Try.prog 65 [.slice (l.map encT) .no] σ (fun r σ' => r = .ret (.int .i64 ((l.map nodesT).sum : Nat)) ∧ σ' = σ) := by
 have l1 := len_sum nodesT_pos l
 have e0 := sumTo_zero (f := nodesT) (l := l)
 refine calls_x mixed Try.func65 b65 n65 rfl q65 (by simp) ?_; unfold c65 r65
 repeat' simp (maxDischargeDepth := 9) -implicitDefEqProofs -dsimp only [go_sem, seval, *]
 refine loop_rule (fun i : Nat => [(4, some (.int .i64 i)), (0, some (.slice (l.map encT) .no)), (3, some (.int .i64 (sumTo nodesT l i : Nat)))]) (fun _ => σ) (fun i => i ≤ l.length) (fun i => l.length - i) 0 ?_ ?_
 ·clear ih
  (repeat' simp (maxDischargeDepth := 9) -implicitDefEqProofs -dsimp only [go_sem, seval, *]) <;> (first | omega | skip)
 ·intro i hi
  have hle := sumTo_le (f := nodesT) (l := l) (i := i)
  by_cases hlt : i < l.length
  ·have hx := encTs_eq l[i]
   have hs := sumTo_succ (f := nodesT) hlt
   have hc := fun τ => ih l[i] (List.getElem_mem hlt) τ
   have hm := mem_sum (f := nodesT) (List.getElem_mem hlt)
   have hn := nodesT_eq l[i]
   have hE := fun (x : E) (hx : x ∈ l[i].e) τ => rf_Nodes x τ (by have := partE_nodes hx; omega)
   have f0 := sumTo_zero (f := nodes) (l := l[i].e)
   have hb := sumTo_le (f := nodesT) (l := l) (i := i + 1)
   clear ih
   repeat' (first | simp (maxDischargeDepth := 9) -implicitDefEqProofs -dsimp only [go_sem, seval, *] | simp (disch := omega) only [wrap64] | ((with_reducible refine Zu ?_ ?_); focus omega) | ((with_reducible apply ACalls.one1); (focus ((with_reducible refine hc _) <;> (first | (simp (maxDischargeDepth := 9) -implicitDefEqProofs -dsimp only [go_sem, seval, *]; done) | omega))); (focus (first | trivial | with_reducible exact rfl | (simp (maxDischargeDepth := 9) -implicitDefEqProofs -dsimp only [go_sem, seval]; done)))))
   refine loop_rule (fun k : Nat => [(5, some (.int .i64 k)), (0, some (.slice (l.map encT) .no)), (4, some (.int .i64 i)), (3, some (.int .i64 ((sumTo nodesT l i + 1 + (l[i].l.map nodesT).sum + sumTo nodes l[i].e k : Nat) : Int)))]) (fun _ => σ) (fun k => k ≤ l[i].e.length) (fun k => l[i].e.length - k) 0 ?_ ?_
   ·clear hc hE
    (repeat' simp (maxDischargeDepth := 9) -implicitDefEqProofs -dsimp only [go_sem, seval, *]) <;> (repeat' refine And.intro ?_ ?_) <;> (first | omega | skip)
   ·intro k hk
    have gle := sumTo_le (f := nodes) (l := l[i].e) (i := k)
    have hel := lenE_nodes l[i]
    by_cases hkt : k < l[i].e.length
    ·have gs := sumTo_succ (f := nodes) hkt
     have gb := sumTo_le (f := nodes) (l := l[i].e) (i := k + 1)
     have ge := fun τ => hE l[i].e[k] (List.getElem_mem hkt) τ
     clear hc hE
     repeat' (first | simp (maxDischargeDepth := 9) -implicitDefEqProofs -dsimp only [go_sem, seval, *] | simp (disch := omega) only [wrap64] | ((with_reducible refine Zu ?_ ?_); focus omega) | ((with_reducible apply ACalls.one1); (focus ((with_reducible refine ge _) <;> (first | (simp (maxDischargeDepth := 9) -implicitDefEqProofs -dsimp only [go_sem, seval, *]; done) | omega))); (focus (first | trivial | with_reducible exact rfl | (simp (maxDischargeDepth := 9) -implicitDefEqProofs -dsimp only [go_sem, seval]; done)))))
     refine loop_next _ _ _ _ (k + 1) ?_; (repeat' simp (maxDischargeDepth := 9) -implicitDefEqProofs -dsimp only [go_sem, seval, *]) <;> (repeat' refine And.intro ?_ ?_) <;> (first | omega | skip)
    ·have ek : k = l[i].e.length := by omega
     subst ek
     have ga := sumTo_all (f := nodes) (l := l[i].e)
     clear hc hE
     repeat' (first | simp (maxDischargeDepth := 9) -implicitDefEqProofs -dsimp only [go_sem, seval, *] | simp (disch := omega) only [wrap64] | ((with_reducible refine Zu ?_ ?_); focus omega))
     refine loop_next _ _ _ _ (i + 1) ?_; (repeat' simp (maxDischargeDepth := 9) -implicitDefEqProofs -dsimp only [go_sem, seval, *]) <;> (repeat' refine And.intro ?_ ?_) <;> (first | omega | skip)
  ·have ei : i = l.length := by omega
   subst ei
   rw [sumTo_all] at hle ⊢
   clear ih
   repeat' simp (maxDischargeDepth := 9) -implicitDefEqProofs -dsimp only [go_sem, seval, *]
   refine fin_eq ?_
   (repeat' simp (maxDischargeDepth := 9) -implicitDefEqProofs -dsimp only [go_sem, seval, *])
theorem rf_NodesT (l : List T) (σ : Sig) (hl : (l.map nodesT).sum ≤ 16777216) : ACalls Try.prog 65 [.slice (l.map encT) .no] σ (fun r σ' => r = .ret (.int .i64 ((l.map nodesT).sum : Nat)) ∧ σ' = σ) := by
 have key : ∀ t : T, nodesT t ≤ 16777216 → ∀ τ, ACalls Try.prog 65 [.slice (t.l.map encT) .no] τ (fun r σ' => r = .ret (.int .i64 ((t.l.map nodesT).sum : Nat)) ∧ σ' = τ) := fun t => by
  refine T.ind (P := fun t => nodesT t ≤ 16777216 → ∀ τ, ACalls Try.prog 65 [.slice (t.l.map encT) .no] τ (fun r σ' => r = .ret (.int .i64 ((t.l.map nodesT).sum : Nat)) ∧ σ' = τ)) (fun t ih ht τ => ?_) t
  exact rf_NodesT_step t.l (by have := sub_nodesT t; omega) (fun x hx => ih x hx (by have := partT_nodes hx; omega)) τ
 exact rf_NodesT_step l hl (fun t ht => key t (by have := mem_sum (f := nodesT) ht; omega)) σ
theorem rf_deepT_step (l : List T) (hl : (l.map nodesT).sum ≤ 16777216) (ih : ∀ t ∈ l, ∀ τ, ACalls Try.prog 66 [.slice (t.l.map encT) .no] τ (fun r σ' => r = .ret (.int .i64 (maxL (t.l.map deepT) : Nat)) ∧ σ' = τ)) (σ : Sig) :
  ACalls Try.prog 66 [.slice (l.map encT) .no] σ (fun r σ' => r = .ret (.int .i64 (maxL (l.map deepT) : Nat)) ∧ σ' = σ) := by
 have l1 := len_sum nodesT_pos l
 have e0 := maxTo_zero (f := deepT) (l := l)
 have hall : maxL (l.map deepT) ≤ 16777216 := by
  have := maxL_sum (l.map deepT)
  have := sum_mono (f := deepT) (g := nodesT) (l := l) fun x _ => deepT_le x
  omega
 refine calls_x mixed Try.func66 b66 n66 rfl q66 (by simp) ?_; unfold c66 r66
 repeat' simp (maxDischargeDepth := 9) -implicitDefEqProofs -dsimp only [go_sem, seval, *]
 refine loop_rule (fun i : Nat => [(4, some (.int .i64 i)), (0, some (.slice (l.map encT) .no)), (3, some (.int .i64 (maxTo deepT l i : Nat)))]) (fun _ => σ) (fun i => i ≤ l.length) (fun i => l.length - i) 0 ?_ ?_
 ·clear ih
  (repeat' simp (maxDischargeDepth := 9) -implicitDefEqProofs -dsimp only [go_sem, seval, *]) <;> (first | omega | skip)
 ·intro i hi
  have hle := maxTo_le (f := deepT) (l := l) (i := i)
  by_cases hlt : i < l.length
  ·have hx := encTs_eq l[i]
   have hs := maxTo_succ (f := deepT) hlt
   have hc := fun τ => ih l[i] (List.getElem_mem hlt) τ
   have hm := mem_sum (f := nodesT) (List.getElem_mem hlt)
   have hd := deepT_le l[i]
   have hn := deepT_eq l[i]
   have hE := fun (x : E) (hx : x ∈ l[i].e) τ => rf_Deep x τ (by have := partE_nodes hx; omega)
   have f0 := maxTo_zero (f := deep) (l := l[i].e)
   clear ih
   repeat' (first | simp (maxDischargeDepth := 9) -implicitDefEqProofs -dsimp only [go_sem, seval, *] | simp (disch := omega) only [wrap64] | ((with_reducible refine Zu ?_ ?_); focus omega) | ((with_reducible apply ACalls.one1); (focus ((with_reducible refine hc _) <;> (first | (simp (maxDischargeDepth := 9) -implicitDefEqProofs -dsimp only [go_sem, seval, *]; done) | omega))); (focus (first | trivial | with_reducible exact rfl | (simp (maxDischargeDepth := 9) -implicitDefEqProofs -dsimp only [go_sem, seval]; done)))))
   refine loop_rule (fun k : Nat => [(5, some (.int .i64 k)), (0, some (.slice (l.map encT) .no)), (4, some (.int .i64 i)), (3, some (.int .i64 ((max (maxTo deepT l i) (1 + max (maxL (l[i].l.map deepT)) (maxTo deep l[i].e k)) : Nat) : Int)))]) (fun _ => σ) (fun k => k ≤ l[i].e.length) (fun k => l[i].e.length - k) 0 ?_ ?_
   ·clear hc hE
    (repeat' simp (maxDischargeDepth := 9) -implicitDefEqProofs -dsimp only [go_sem, seval, *]) <;> (repeat' refine And.intro ?_ ?_) <;> (first | omega | skip)
   ·intro k hk
    have gle := maxTo_le (f := deep) (l := l[i].e) (i := k)
    have hel := lenE_nodes l[i]
    by_cases hkt : k < l[i].e.length
    ·have gs := maxTo_succ (f := deep) hkt
     have gb := maxTo_le (f := deep) (l := l[i].e) (i := k + 1)
     have ge := fun τ => hE l[i].e[k] (List.getElem_mem hkt) τ
     clear hc hE
     repeat' (first | simp (maxDischargeDepth := 9) -implicitDefEqProofs -dsimp only [go_sem, seval, *] | simp (disch := omega) only [wrap64] | ((with_reducible refine Zu ?_ ?_); focus omega) | ((with_reducible apply ACalls.one1); (focus ((with_reducible refine ge _) <;> (first | (simp (maxDischargeDepth := 9) -implicitDefEqProofs -dsimp only [go_sem, seval, *]; done) | omega))); (focus (first | trivial | with_reducible exact rfl | (simp (maxDischargeDepth := 9) -implicitDefEqProofs -dsimp only [go_sem, seval]; done)))))
     refine loop_next _ _ _ _ (k + 1) ?_; (repeat' simp (maxDischargeDepth := 9) -implicitDefEqProofs -dsimp only [go_sem, seval, *]) <;> (repeat' refine And.intro ?_ ?_) <;> (first | omega | skip)
    ·have ek : k = l[i].e.length := by omega
     subst ek
     have ga := maxTo_all (f := deep) (l := l[i].e)
     clear hc hE
     repeat' (first | simp (maxDischargeDepth := 9) -implicitDefEqProofs -dsimp only [go_sem, seval, *] | simp (disch := omega) only [wrap64] | ((with_reducible refine Zu ?_ ?_); focus omega))
     refine loop_next _ _ _ _ (i + 1) ?_; (repeat' simp (maxDischargeDepth := 9) -implicitDefEqProofs -dsimp only [go_sem, seval, *]) <;> (repeat' refine And.intro ?_ ?_) <;> (first | omega | skip)
  ·have ei : i = l.length := by omega
   subst ei
   rw [maxTo_all] at hle ⊢
   clear ih
   repeat' simp (maxDischargeDepth := 9) -implicitDefEqProofs -dsimp only [go_sem, seval, *]
   refine fin_eq ?_
   (repeat' simp (maxDischargeDepth := 9) -implicitDefEqProofs -dsimp only [go_sem, seval, *])
theorem rf_deepT (l : List T) (σ : Sig) (hl : (l.map nodesT).sum ≤ 16777216) : ACalls Try.prog 66 [.slice (l.map encT) .no] σ (fun r σ' => r = .ret (.int .i64 (maxL (l.map deepT) : Nat)) ∧ σ' = σ) := by
 have key : ∀ t : T, nodesT t ≤ 16777216 → ∀ τ, ACalls Try.prog 66 [.slice (t.l.map encT) .no] τ (fun r σ' => r = .ret (.int .i64 (maxL (t.l.map deepT) : Nat)) ∧ σ' = τ) := fun t => by
  refine T.ind (P := fun t => nodesT t ≤ 16777216 → ∀ τ, ACalls Try.prog 66 [.slice (t.l.map encT) .no] τ (fun r σ' => r = .ret (.int .i64 (maxL (t.l.map deepT) : Nat)) ∧ σ' = τ)) (fun t ih ht τ => ?_) t
  exact rf_deepT_step t.l (by have := sub_nodesT t; omega) (fun x hx => ih x hx (by have := partT_nodes hx; omega)) τ
 exact rf_deepT_step l hl (fun t ht => key t (by have := mem_sum (f := nodesT) ht; omega)) σ
theorem rf_measure (d : Flat) (σ : Sig) (hd : Sm d) : ACalls Try.prog 34 [encD d] σ (fun r σ' => r = .ret (.tup [.int .i64 (nodesD d), .int .i64 (deepD d)]) ∧ σ' = σ) := by
 have p1 := fun (p : Pr) (hp : p ∈ d.procs) τ => rf_NodesT p.l τ (sm_pr hd hp)
 have p2 := fun (p : Pr) (hp : p ∈ d.procs) τ => rf_deepT p.l τ (sm_pr hd hp)
 have p3 := fun (c : Ck) (hc : c ∈ d.chks) τ => rf_Nodes c.e τ (sm_ck hd hc)
 have p4 := fun (c : Ck) (hc : c ∈ d.chks) τ => rf_Deep c.e τ (sm_ck hd hc)
 have l1 := hd.2.1
 have l2 := hd.2.2.1
 have hN : nodesD d = (d.procs.map nodesP).sum + (d.chks.map fun c => nodes c.e).sum := rfl
 have hD : deepD d = max (maxL (d.procs.map deepP)) (maxL (d.chks.map fun c => deep c.e)) := rfl
 have hNb := hd.2.2.2
 have hDb := deepD_le d
 have e0 := sumTo_zero (f := nodesP) (l := d.procs)
 have e1 := maxTo_zero (f := deepP) (l := d.procs)
 have e2 := sumTo_zero (f := fun c : Ck => nodes c.e) (l := d.chks)
 have e3 := maxTo_zero (f := fun c : Ck => deep c.e) (l := d.chks)
 clear hd
 refine calls_x mixed Try.func34 b34 n34 rfl q34 (by simp) ?_; unfold c34 r34
 repeat' simp (maxDischargeDepth := 9) -implicitDefEqProofs -dsimp only [go_sem, seval, *]
 refine loop_rule (fun i : Nat => [(6, some (.int .i64 i)), (1, some (.cptr (dL d))), (4, some (.int .i64 (sumTo nodesP d.procs i : Nat))), (5, some (.int .i64 (maxTo deepP d.procs i : Nat)))]) (fun _ => σ) (fun i => i ≤ d.procs.length) (fun i => d.procs.length - i) 0 ?_ ?_
 ·clear p1 p2 p3 p4
  (repeat' simp (maxDischargeDepth := 9) -implicitDefEqProofs -dsimp only [go_sem, seval, *]) <;> (first | omega | skip)
 ·intro i hi
  have hle := sumTo_le (f := nodesP) (l := d.procs) (i := i)
  have hle2 := maxTo_le (f := deepP) (l := d.procs) (i := i)
  by_cases hlt : i < d.procs.length
  ·have hs := sumTo_succ (f := nodesP) hlt
   have hs2 := maxTo_succ (f := deepP) hlt
   have hb := sumTo_le (f := nodesP) (l := d.procs) (i := i + 1)
   have c1 := fun τ => p1 d.procs[i] (List.getElem_mem hlt) τ
   have c2 := fun τ => p2 d.procs[i] (List.getElem_mem hlt) τ
   have u1 : (d.procs[i].l.map nodesT).sum = nodesP d.procs[i] := rfl
   have u2 : maxL (d.procs[i].l.map deepT) = deepP d.procs[i] := rfl
   rw [u1] at c1
   rw [u2] at c2
   clear p1 p2 p3 p4
   repeat' (first | simp (maxDischargeDepth := 9) -implicitDefEqProofs -dsimp only [go_sem, seval, *] | simp (disch := omega) only [wrap64] | ((with_reducible refine Zu ?_ ?_); focus omega) | ((with_reducible apply ACalls.one1); (focus ((first | with_reducible refine c1 _ | with_reducible refine c2 _) <;> (first | (simp (maxDischargeDepth := 9) -implicitDefEqProofs -dsimp only [go_sem, seval, *]; done) | omega))); (focus (first | trivial | with_reducible exact rfl | (simp (maxDischargeDepth := 9) -implicitDefEqProofs -dsimp only [go_sem, seval]; done)))))
   refine loop_next _ _ _ _ (i + 1) ?_; (repeat' simp (maxDischargeDepth := 9) -implicitDefEqProofs -dsimp only [go_sem, seval, *]) <;> (repeat' refine And.intro ?_ ?_) <;> (first | omega | skip)
  ·have ei : i = d.procs.length := by omega
   subst ei
   have a1 := sumTo_all (f := nodesP) (l := d.procs)
   have a2 := maxTo_all (f := deepP) (l := d.procs)
   rw [a1, a2]
   clear p1 p2 a1 a2
   repeat' simp (maxDischargeDepth := 9) -implicitDefEqProofs -dsimp only [go_sem, seval, *]
   refine loop_rule (fun i : Nat => [(7, some (.int .i64 i)), (1, some (.cptr (dL d))), (4, some (.int .i64 (((d.procs.map nodesP).sum + sumTo (fun c : Ck => nodes c.e) d.chks i : Nat) : Int))), (5, some (.int .i64 ((max (maxL (d.procs.map deepP)) (maxTo (fun c : Ck => deep c.e) d.chks i) : Nat) : Int)))]) (fun _ => σ) (fun i => i ≤ d.chks.length) (fun i => d.chks.length - i) 0 ?_ ?_
   ·clear p3 p4
    (repeat' simp (maxDischargeDepth := 9) -implicitDefEqProofs -dsimp only [go_sem, seval, *]) <;> (repeat' refine And.intro ?_ ?_) <;> (first | omega | skip)
   ·intro k hk
    have gle := sumTo_le (f := fun c : Ck => nodes c.e) (l := d.chks) (i := k)
    have gle2 := maxTo_le (f := fun c : Ck => deep c.e) (l := d.chks) (i := k)
    by_cases hkt : k < d.chks.length
    ·have gs := sumTo_succ (f := fun c : Ck => nodes c.e) hkt
     have gs2 := maxTo_succ (f := fun c : Ck => deep c.e) hkt
     have gb := sumTo_le (f := fun c : Ck => nodes c.e) (l := d.chks) (i := k + 1)
     have c1 := fun τ => p3 d.chks[k] (List.getElem_mem hkt) τ
     have c2 := fun τ => p4 d.chks[k] (List.getElem_mem hkt) τ
     clear p3 p4
     repeat' (first | simp (maxDischargeDepth := 9) -implicitDefEqProofs -dsimp only [go_sem, seval, *] | simp (disch := omega) only [wrap64] | ((with_reducible refine Zu ?_ ?_); focus omega) | ((with_reducible apply ACalls.one1); (focus ((first | with_reducible refine c1 _ | with_reducible refine c2 _) <;> (first | (simp (maxDischargeDepth := 9) -implicitDefEqProofs -dsimp only [go_sem, seval, *]; done) | omega))); (focus (first | trivial | with_reducible exact rfl | (simp (maxDischargeDepth := 9) -implicitDefEqProofs -dsimp only [go_sem, seval]; done)))))
     refine loop_next _ _ _ _ (k + 1) ?_; (repeat' simp (maxDischargeDepth := 9) -implicitDefEqProofs -dsimp only [go_sem, seval, *]) <;> (repeat' refine And.intro ?_ ?_) <;> (first | omega | skip)
    ·have ek : k = d.chks.length := by omega
     subst ek
     have b1 := sumTo_all (f := fun c : Ck => nodes c.e) (l := d.chks)
     have b2 := maxTo_all (f := fun c : Ck => deep c.e) (l := d.chks)
     rw [b1, b2]
     clear p3 p4 b1 b2
     repeat' simp (maxDischargeDepth := 9) -implicitDefEqProofs -dsimp only [go_sem, seval, *]
     refine fin_eq ?_
     (repeat' simp (maxDischargeDepth := 9) -implicitDefEqProofs -dsimp only [go_sem, seval, *])
def smallD (d : Flat) : Bool := decide (nodesD d ≤ 2000 ∧ deepD d ≤ 100 ∧ d.sigs.length ≤ 100 ∧ d.procs.length ≤ 200 ∧ d.chks.length ≤ 100)
theorem rf_Small (d : Flat) (σ : Sig) (hd : Sm d) : ACalls Try.prog 15 [encD d] σ (fun r σ' => r = .ret (.bool (smallD d)) ∧ σ' = σ) := by
 have hc := fun τ => rf_measure d τ hd
 refine calls_x mixed Try.func15 b15 n15 rfl q15 (by simp) ?_; unfold c15 r15
 obtain ⟨x, hx⟩ : ∃ x, smallD d = x := ⟨_, rfl⟩
 unfold smallD at hx
 cases x with
 | true =>
  simp only [decide_eq_true_eq] at hx
  obtain ⟨h1, h2, h3, h4, h5⟩ := hx
  have hv : smallD d = true := by simp only [smallD, decide_eq_true_eq]; exact ⟨h1, h2, h3, h4, h5⟩
  have i1 : (nodesD d : Int) ≤ 2000 := by omega
  have i2 : (deepD d : Int) ≤ 100 := by omega
  have i3 : (d.sigs.length : Int) ≤ 100 := by omega
  have i4 : (d.procs.length : Int) ≤ 200 := by omega
  have i5 : (d.chks.length : Int) ≤ 100 := by omega
  repeat' (first | simp (maxDischargeDepth := 9) -implicitDefEqProofs -dsimp only [go_sem, seval, decide_true, *] | ((with_reducible apply ACalls.one1); (focus ((with_reducible refine hc _) <;> (first | (simp (maxDischargeDepth := 9) -implicitDefEqProofs -dsimp only [go_sem, seval, *]; done) | omega))); (focus (first | trivial | with_reducible exact rfl | (simp (maxDischargeDepth := 9) -implicitDefEqProofs -dsimp only [go_sem, seval]; done)))))
  refine fin_eq ?_
  (repeat' simp (maxDischargeDepth := 9) -implicitDefEqProofs -dsimp only [go_sem, seval, *])
 | false =>
  simp only [decide_eq_false_iff_not] at hx
  have hv : smallD d = false := by simp only [smallD, decide_eq_false_iff_not]; exact hx
  repeat' (first | simp (maxDischargeDepth := 9) -implicitDefEqProofs -dsimp only [go_sem, seval, *] | (with_reducible (first | apply Za) <;> intro hq) | ((with_reducible apply ACalls.one1); (focus ((with_reducible refine hc _) <;> (first | (simp (maxDischargeDepth := 9) -implicitDefEqProofs -dsimp only [go_sem, seval, *]; done) | omega))); (focus (first | trivial | with_reducible exact rfl | (simp (maxDischargeDepth := 9) -implicitDefEqProofs -dsimp only [go_sem, seval]; done)))))
  all_goals first | (exfalso; omega) | skip
  all_goals
   refine fin_eq ?_
   (repeat' simp (maxDischargeDepth := 9) -implicitDefEqProofs -dsimp only [go_sem, seval, *])
  all_goals
   rw [eq_comm, decide_eq_false_iff_not]; omega
end Go.Proofs.Ytdiebjnjhgbklaa

