/- equiv: contracts of the document's Miter and Trace. -/
import Derived.Test.YtjichkelfhcbcaaAbsU
import Derived.Test.YtjichkelfhcbcaaEqTrace
set_option linter.unusedSimpArgs false
set_option linter.unusedVariables false
namespace Go.Proofs.Ytjichkelfhcbcaa
open Abs Fil Fil.Eqv
open Bd (D encB encF)
theorem eq_Same_arg (g h : Aig) (hg : Wf g) (hh : Wf h) (he : chk2 g h = 0) (h0 : ¬ (g.ins = h.ins ∧ g.flops.length = h.flops.length ∧ g.outs.length = h.outs.length)) (σ : Sig) :
    ACalls Try.prog 23 [encAig g, encAig h] σ (fun r σ' => r = .ret (.tup [.bool false, .slice [] .no, .slice [] .no, .int .i64 1]) ∧ σ' = σ) := by
  refine calls_x mixed Try.func23 b23 n23 rfl q23 (by simp) ?_; unfold c23 r23; try dsimp only [Yi, Yj]
  have hb : ((1 : Int) != 0) = true := by decide
  repeat' (first | simp (maxDischargeDepth := 9) -implicitDefEqProofs -dsimp only [go_sem, seval, List.map_nil, *] | ((with_reducible refine Zt (fun oF hoF hnF hnF' => ?_)); clear hnF hnF'; (try simp only [Zw, ne_eq] at hoF)) | ((with_reducible apply ACalls.one1); (focus ((first | with_reducible refine eq_Miter_arg g h hg hh he h0 _) <;> (first | (simp (maxDischargeDepth := 9) -implicitDefEqProofs -dsimp only [go_sem, seval, *]; done) | omega))); (focus (first | trivial | with_reducible exact rfl | (simp (maxDischargeDepth := 9) -implicitDefEqProofs -dsimp only [go_sem, seval]; done)))))
  refine fin_eq ?_
  (repeat' (first | simp (maxDischargeDepth := 9) -implicitDefEqProofs -dsimp only [go_sem, seval, *])) <;> (repeat' refine And.intro ?_ ?_) <;> (first | omega | rfl | assumption | skip)
theorem eq_Same (g h : Aig) (t : Two g h) (σ : Sig) :
    ACalls Try.prog 23 [encAig g, encAig h] σ (fun r σ' => r = .ret (.tup [.bool (sameS g h).1, .slice ((sameS g h).2.1.map encBool) .no, .slice ((sameS g h).2.2.map encBool) .no, .int .i64 0]) ∧ σ' = σ) := by
  refine calls_x mixed Try.func23 b23 n23 rfl q23 (by simp) ?_; unfold c23 r23; try dsimp only [Yi, Yj]
  have ez : ((0 : Int) != 0) = false := by decide
  have hm := (miter_ok t).1
  have hfl : (forksS (miterM g h)).2.length = 1 + g.flops.length := by
    rw [forks_len, (miter_ok t).2.2.2.1, (miter_ok t).2.2.1]; simp
  have hlo := t.gg.lo
  have h8 := t.gg.eight
  have hn := node_ok t (w := List.replicate (g.ins + g.flops.length).toNat false) (by rw [zeros]; omega)
  have hroom := (hn.1.room (by omega)).2.2.2
  have hM := fun τ => eq_Miter g h t τ
  have hF := fun τ => eq_Forks (miterM g h) hm τ
  obtain ⟨l, hl⟩ : ∃ l, (forksS (miterM g h)).2 = l := ⟨_, rfl⟩
  obtain ⟨b, hb⟩ : ∃ b, (forksS (miterM g h)).1 = b := ⟨_, rfl⟩
  have hnode : nodeS g h = (b, l.getD 0 0) := by unfold nodeS; rw [hl, hb]
  rw [hl] at hfl
  rw [hl, hb] at hF
  rw [hnode] at hroom
  have hl0 : 0 < l.length := by omega
  have hg0 : l[0] = l.getD 0 0 := by simp [List.getD_eq_getElem?_getD, hl0]
  have hll : l.length ≤ 10 := by omega
  obtain ⟨x, hx⟩ : ∃ x, l.getD 0 0 = x := ⟨_, rfl⟩
  rw [hx] at hnode hg0
  have hO := fun τ => B.bdd_One b x τ hroom
  by_cases hy : x = 0
  · have hs : sameS g h = (true, [], []) := by unfold sameS; rw [hnode, if_pos hy]
    have h1 := (same_yes t (by rw [hnode]; exact hy)).1
    rw [hnode] at h1
    simp only at h1
    rw [h1] at hO
    rw [hs]
    clear h1 hs hn hm hl hb hnode hx hfl
    repeat' (first | simp (maxDischargeDepth := 9) -implicitDefEqProofs -dsimp only [go_sem, seval, List.map_nil, *] | ((with_reducible refine Zv ?_ ?_); focus (first | omega | exact rfl)) | ((with_reducible refine Zu ?_ ?_); focus omega) | ((with_reducible refine Zt (fun oF hoF hnF hnF' => ?_)); clear hnF hnF'; (try simp only [Zw, ne_eq] at hoF)) | ((with_reducible apply ACalls.one1); (focus ((first | with_reducible refine hM _ | with_reducible refine hF _ | with_reducible refine hO _ | with_reducible refine ACalls.flA (hM _) ?_ | with_reducible refine ACalls.flA (hF _) ?_ | with_reducible refine ACalls.flA (hO _) ?_) <;> (first | (simp (maxDischargeDepth := 9) -implicitDefEqProofs -dsimp only [go_sem, seval, *]; done) | omega))); (focus (first | trivial | with_reducible exact rfl | (simp (maxDischargeDepth := 9) -implicitDefEqProofs -dsimp only [go_sem, seval]; done)))) | ((with_reducible apply id_one0); (focus (intro tS hS; ((first | with_reducible refine hM _ | with_reducible refine hF _ | with_reducible refine hO _ | with_reducible refine ACalls.flA (hM _) ?_ | with_reducible refine ACalls.flA (hF _) ?_ | with_reducible refine ACalls.flA (hO _) ?_) <;> (first | (simp (maxDischargeDepth := 9) -implicitDefEqProofs -dsimp only [go_sem, seval, *]; done) | omega | ((with_reducible refine Sub.get hS ?_); simp (maxDischargeDepth := 9) -implicitDefEqProofs -dsimp only [go_sem, seval, *]; done))))); (focus (first | trivial | (simp (maxDischargeDepth := 9) -implicitDefEqProofs -dsimp only [go_sem, seval, *]; done)))))
    refine fin_eq ?_
    (repeat' (first | simp (maxDischargeDepth := 9) -implicitDefEqProofs -dsimp only [go_sem, seval, *])) <;> (repeat' refine And.intro ?_ ?_) <;> (first | omega | rfl | assumption | skip)
  · obtain ⟨w, h1, h2, _⟩ := same_no t (by rw [hnode]; exact hy)
    have hs : sameS g h = (false, w.take g.ins.toNat, w.drop g.ins.toNat) := by
      unfold sameS
      rw [hnode, if_neg hy]
      rw [hnode] at h1
      simp only at h1 ⊢
      rw [h1]
    rw [hnode] at h1
    simp only at h1
    rw [h1] at hO
    rw [hs]
    have hw : g.ins ≤ w.length := by omega
    have m1 : List.take g.ins.toNat (w.map encBool) = (w.take g.ins.toNat).map encBool := List.map_take.symm
    have m2 : List.drop g.ins.toNat (w.map encBool) = (w.drop g.ins.toNat).map encBool := List.map_drop.symm
    clear h1 hs hn hm hl hb hnode hx hfl
    repeat' (first | simp (maxDischargeDepth := 9) -implicitDefEqProofs -dsimp only [go_sem, seval, *] | ((with_reducible refine Zv ?_ ?_); focus (first | omega | exact rfl)) | ((with_reducible refine Zu ?_ ?_); focus omega) | ((with_reducible refine Zt (fun oF hoF hnF hnF' => ?_)); clear hnF hnF'; (try simp only [Zw, ne_eq] at hoF)) | ((with_reducible apply ACalls.one1); (focus ((first | with_reducible refine hM _ | with_reducible refine hF _ | with_reducible refine hO _ | with_reducible refine ACalls.flA (hM _) ?_ | with_reducible refine ACalls.flA (hF _) ?_ | with_reducible refine ACalls.flA (hO _) ?_) <;> (first | (simp (maxDischargeDepth := 9) -implicitDefEqProofs -dsimp only [go_sem, seval, *]; done) | omega))); (focus (first | trivial | with_reducible exact rfl | (simp (maxDischargeDepth := 9) -implicitDefEqProofs -dsimp only [go_sem, seval]; done)))) | ((with_reducible apply id_one0); (focus (intro tS hS; ((first | with_reducible refine hM _ | with_reducible refine hF _ | with_reducible refine hO _ | with_reducible refine ACalls.flA (hM _) ?_ | with_reducible refine ACalls.flA (hF _) ?_ | with_reducible refine ACalls.flA (hO _) ?_) <;> (first | (simp (maxDischargeDepth := 9) -implicitDefEqProofs -dsimp only [go_sem, seval, *]; done) | omega | ((with_reducible refine Sub.get hS ?_); simp (maxDischargeDepth := 9) -implicitDefEqProofs -dsimp only [go_sem, seval, *]; done))))); (focus (first | trivial | (simp (maxDischargeDepth := 9) -implicitDefEqProofs -dsimp only [go_sem, seval, *]; done)))))
    refine fin_eq ?_
    (repeat' (first | simp (maxDischargeDepth := 9) -implicitDefEqProofs -dsimp only [go_sem, seval, *])) <;> (repeat' refine And.intro ?_ ?_) <;> (first | omega | rfl | assumption | skip)
theorem sl_equalBool (a b : List Bool) (σ : Sig) (ha : a.length ≤ 1000000000) :
    ACalls Try.prog 60 [.slice (a.map encBool) .no, .slice (b.map encBool) .no] σ (fun r σ' => r = .ret (.bool (decide (a = b))) ∧ σ' = σ) := by
  refine calls_x mixed Try.func60 b60 n60 rfl q60 (by simp) ?_; unfold c60 r60; try dsimp only [Yi, Yj]
  by_cases hl : a.length = b.length
  · have hlb : ((a.length : Int) != b.length) = false := by simp [hl]
    have hl' := And.intro (Nat.le_of_eq hl) (Nat.le_of_eq hl.symm)
    clear hl
    repeat' (first | simp (maxDischargeDepth := 9) -implicitDefEqProofs -dsimp only [go_sem, seval, *] | simp (disch := omega) only [wrap64] | ((with_reducible refine Zu ?_ ?_); focus omega))
    refine loop_rule (fun i : Nat => [(13, some (.int .i64 i)), (12, some (.int .i64 a.length)), (0, some (.slice (a.map encBool) .no)), (1, some (.slice (b.map encBool) .no))]) (fun _ => σ) (fun i => i ≤ a.length ∧ ∀ j, (hj : j < a.length) → j < i → a[j] = b[j]) (fun i => a.length - i) 0 ?_ ?_
    · (repeat' (first | simp (maxDischargeDepth := 9) -implicitDefEqProofs -dsimp only [go_sem, seval, *] | simp (disch := omega) only [wrap64])) <;> (repeat' refine And.intro ?_ ?_) <;> (first | omega | rfl | assumption | skip)
    · rintro i ⟨hi, hok⟩
      by_cases hlt : i < a.length
      · have hlt' : i < b.length := by omega
        obtain ⟨x, hx⟩ : ∃ x, a[i] = x := ⟨_, rfl⟩
        obtain ⟨y, hy⟩ : ∃ y, b[i] = y := ⟨_, rfl⟩
        by_cases he : x = y
        · subst he
          have hok' : ∀ j : Nat, (hj : j < a.length) → j < i + 1 → a[j] = b[j] := fun j hj hji => by
            rcases Nat.lt_or_ge j i with c | c
            · exact hok j hj c
            · obtain rfl : j = i := by omega
              rw [hx, hy]
          clear hok
          repeat' (first | simp (maxDischargeDepth := 9) -implicitDefEqProofs -dsimp only [go_sem, seval, *] | simp (disch := omega) only [wrap64] | ((with_reducible refine Zu ?_ ?_); focus omega))
          refine loop_next _ _ _ _ (i + 1) ⟨?_, ?_, ⟨by omega, hok'⟩, by omega⟩
          · (repeat' (first | simp (maxDischargeDepth := 9) -implicitDefEqProofs -dsimp only [go_sem, seval, *] | simp (disch := omega) only [wrap64])) <;> (repeat' refine And.intro ?_ ?_) <;> (first | omega | rfl | assumption | skip)
          · (repeat' (first | simp (maxDischargeDepth := 9) -implicitDefEqProofs -dsimp only [go_sem, seval, *] | simp (disch := omega) only [wrap64])) <;> (repeat' refine And.intro ?_ ?_) <;> (first | omega | rfl | assumption | skip)
        · have hv : decide (a = b) = false := by simp; intro e; exact he (by rw [← hx, ← hy]; simp only [e])
          have hb : (x == y) = false := by simpa using he
          rw [hv]
          clear hok
          repeat' (first | simp (maxDischargeDepth := 9) -implicitDefEqProofs -dsimp only [go_sem, seval, *] | simp (disch := omega) only [wrap64] | ((with_reducible refine Zu ?_ ?_); focus omega))
          refine fin_eq ?_
          (repeat' (first | simp (maxDischargeDepth := 9) -implicitDefEqProofs -dsimp only [go_sem, seval, *] | simp (disch := omega) only [wrap64])) <;> (repeat' refine And.intro ?_ ?_) <;> (first | omega | rfl | assumption | skip)
      · have hv : decide (a = b) = true := by simp; exact List.ext_getElem (by omega) fun j hj _ => hok j hj (by omega)
        rw [hv]
        clear hok
        repeat' (first | simp (maxDischargeDepth := 9) -implicitDefEqProofs -dsimp only [go_sem, seval, *] | simp (disch := omega) only [wrap64] | ((with_reducible refine Zu ?_ ?_); focus omega))
        refine fin_eq ?_
        (repeat' (first | simp (maxDischargeDepth := 9) -implicitDefEqProofs -dsimp only [go_sem, seval, *] | simp (disch := omega) only [wrap64])) <;> (repeat' refine And.intro ?_ ?_) <;> (first | omega | rfl | assumption | skip)
  · have hb : ((a.length : Int) != b.length) = true := by simp; omega
    have hv : decide (a = b) = false := by simp; intro e; exact hl (by rw [e])
    rw [hv]
    repeat' (first | simp (maxDischargeDepth := 9) -implicitDefEqProofs -dsimp only [go_sem, seval, *] | simp (disch := omega) only [wrap64] | ((with_reducible refine Zu ?_ ?_); focus omega))
    refine fin_eq ?_
    (repeat' (first | simp (maxDischargeDepth := 9) -implicitDefEqProofs -dsimp only [go_sem, seval, *] | simp (disch := omega) only [wrap64])) <;> (repeat' refine And.intro ?_ ?_) <;> (first | omega | rfl | assumption | skip)
theorem eq_Trace (g h : Aig) (ins : List (List Bool)) (σ : Sig) (hg : Wf g) (hh : Wf h) (hi : ins.length ≤ 1000000) (he : chk2 g h = 0) (h1 : g.ins = h.ins) (h2 : g.outs.length = h.outs.length)
    (hlen : (g.Run ins).2 = 0 → (g.Run ins).1.length ≤ (h.Run ins).1.length) (hal : (g.Run ins).1.length ≤ 1000000) (har : ∀ x ∈ (g.Run ins).1, x.length ≤ 1000000000) :
    ACalls Try.prog 20 [encAig g, encAig h, .slice (ins.map (encRow encBool)) .no] σ (fun r σ' => r = .ret (.tup [.int .i64 (traceS g h ins).1, .int .i64 (traceS g h ins).2]) ∧ σ' = σ) := by
  refine calls_x mixed Try.func20 b20 n20 rfl q20 (by simp) ?_; unfold c20 r20; try dsimp only [Yi, Yj]
  have ez : ((0 : Int) != 0) = false := by decide
  have hb1 : (g.ins != h.ins) = false := by simpa using h1
  have hb2 : ((g.outs.length : Int) != h.outs.length) = false := by simp [h2]
  have c1 := fun τ => A.aig_Run g ins τ hg hi
  have c2 := fun τ => A.aig_Run h ins τ hh hi
  obtain ⟨⟨a, e1⟩, ha⟩ : ∃ p, g.Run ins = p := ⟨_, rfl⟩
  obtain ⟨⟨b, e2⟩, hb⟩ : ∃ p, h.Run ins = p := ⟨_, rfl⟩
  have htr : traceS g h ins = if e1 ≠ 0 then (0, e1) else (firstNe a b 0, 0) := by unfold traceS; rw [ha, hb]
  rw [ha] at c1 hlen hal har
  rw [hb] at c2 hlen
  simp only at hlen hal har
  rw [htr]
  clear ha hb htr h1 h2
  by_cases h0 : e1 = 0
  · subst h0
    have hab := hlen rfl
    rw [if_neg (by simp)]
    simp only
    clear hlen
    repeat' (first | simp (maxDischargeDepth := 9) -implicitDefEqProofs -dsimp only [go_sem, seval, *] | simp (disch := omega) only [wrap64] | ((with_reducible refine Zu ?_ ?_); focus omega) | ((with_reducible apply ACalls.one1); (focus ((first | with_reducible refine eq_checked g h _ hg hh | with_reducible refine c1 _ | with_reducible refine c2 _ | with_reducible refine ACalls.flA (eq_checked g h _ hg hh) ?_ | with_reducible refine ACalls.flA (c1 _) ?_ | with_reducible refine ACalls.flA (c2 _) ?_) <;> (first | (simp (maxDischargeDepth := 9) -implicitDefEqProofs -dsimp only [go_sem, seval, *]; done) | omega))); (focus (first | trivial | with_reducible exact rfl | (simp (maxDischargeDepth := 9) -implicitDefEqProofs -dsimp only [go_sem, seval]; done)))))
    refine loop_rule (fun i : Nat => [(53, some (.int .i64 i)), (52, some (.int .i64 a.length)), (51, some (.slice (a.map (encRow encBool)) .no)), (11, some (.slice (b.map (encRow encBool)) .no)), (10, some (.int .i64 0))])
      (fun _ => σ) (fun i => i ≤ a.length ∧ ∀ j, (hj : j < a.length) → (hj' : j < b.length) → j < i → a[j] = b[j]) (fun i => a.length - i) 0 ?_ ?_
    · (repeat' (first | simp (maxDischargeDepth := 9) -implicitDefEqProofs -dsimp only [go_sem, seval, *] | simp (disch := omega) only [wrap64])) <;> (repeat' refine And.intro ?_ ?_) <;> (first | omega | rfl | assumption | skip)
    · rintro i ⟨hi', hok⟩
      by_cases hlt : i < a.length
      · have hlt' : i < b.length := by omega
        have hx : a[i].length ≤ 1000000000 := har _ (List.getElem_mem hlt)
        by_cases hxy : a[i] = b[i]
        · have hok' : ∀ j, (hj : j < a.length) → (hj' : j < b.length) → j < i + 1 → a[j] = b[j] := fun j hj hj' hji => by
            rcases Nat.lt_or_ge j i with c | c
            · exact hok j hj hj' c
            · obtain rfl : j = i := by omega
              exact hxy
          have heq := fun τ => sl_equalBool a[i] b[i] τ hx
          rw [show decide (a[i] = b[i]) = true by simpa using hxy] at heq
          clear hok hxy har
          repeat' (first | simp (maxDischargeDepth := 9) -implicitDefEqProofs -dsimp only [go_sem, seval, List.getElem_map, *] | simp (disch := omega) only [wrap64] | ((with_reducible refine Zu ?_ ?_); focus omega) | ((with_reducible apply ACalls.one1); (focus ((first | with_reducible refine heq _ | with_reducible refine ACalls.flA (heq _) ?_) <;> (first | (simp (maxDischargeDepth := 9) -implicitDefEqProofs -dsimp only [go_sem, seval, *]; done) | omega))); (focus (first | trivial | with_reducible exact rfl | (simp (maxDischargeDepth := 9) -implicitDefEqProofs -dsimp only [go_sem, seval]; done)))))
          refine loop_next _ _ _ _ (i + 1) ⟨?_, ?_, ⟨by omega, hok'⟩, by omega⟩
          · (repeat' (first | simp (maxDischargeDepth := 9) -implicitDefEqProofs -dsimp only [go_sem, seval, *] | simp (disch := omega) only [wrap64])) <;> (repeat' refine And.intro ?_ ?_) <;> (first | omega | rfl | assumption | skip)
          · (repeat' (first | simp (maxDischargeDepth := 9) -implicitDefEqProofs -dsimp only [go_sem, seval, *] | simp (disch := omega) only [wrap64])) <;> (repeat' refine And.intro ?_ ?_) <;> (first | omega | rfl | assumption | skip)
        · have hv : firstNe a b 0 = (i : Int) := by
            have := first_at a b 0 i hlt hlt' (fun j hj => hok j (by omega) (by omega) hj) hxy
            omega
          have heq := fun τ => sl_equalBool a[i] b[i] τ hx
          rw [show decide (a[i] = b[i]) = false by simpa using hxy] at heq
          rw [hv]
          clear hok hxy har
          repeat' (first | simp (maxDischargeDepth := 9) -implicitDefEqProofs -dsimp only [go_sem, seval, List.getElem_map, *] | simp (disch := omega) only [wrap64] | ((with_reducible refine Zu ?_ ?_); focus omega) | ((with_reducible apply ACalls.one1); (focus ((first | with_reducible refine heq _ | with_reducible refine ACalls.flA (heq _) ?_) <;> (first | (simp (maxDischargeDepth := 9) -implicitDefEqProofs -dsimp only [go_sem, seval, *]; done) | omega))); (focus (first | trivial | with_reducible exact rfl | (simp (maxDischargeDepth := 9) -implicitDefEqProofs -dsimp only [go_sem, seval]; done)))))
          refine fin_eq ?_
          (repeat' (first | simp (maxDischargeDepth := 9) -implicitDefEqProofs -dsimp only [go_sem, seval, *] | simp (disch := omega) only [wrap64])) <;> (repeat' refine And.intro ?_ ?_) <;> (first | omega | rfl | assumption | skip)
      · have hv : firstNe a b 0 = -1 := first_no a b 0 hab fun j hj => hok j hj (by omega) (by omega)
        rw [hv]
        clear hok har
        repeat' (first | simp (maxDischargeDepth := 9) -implicitDefEqProofs -dsimp only [go_sem, seval, *] | simp (disch := omega) only [wrap64] | ((with_reducible refine Zu ?_ ?_); focus omega))
        refine fin_eq ?_
        (repeat' (first | simp (maxDischargeDepth := 9) -implicitDefEqProofs -dsimp only [go_sem, seval, *] | simp (disch := omega) only [wrap64])) <;> (repeat' refine And.intro ?_ ?_) <;> (first | omega | rfl | assumption | skip)
  · rw [if_pos h0]
    have hb' : (e1 != 0) = true := by simpa using h0
    simp only
    clear hlen
    repeat' (first | simp (maxDischargeDepth := 9) -implicitDefEqProofs -dsimp only [go_sem, seval, *] | simp (disch := omega) only [wrap64] | ((with_reducible refine Zu ?_ ?_); focus omega) | ((with_reducible apply ACalls.one1); (focus ((first | with_reducible refine eq_checked g h _ hg hh | with_reducible refine c1 _ | with_reducible refine ACalls.flA (eq_checked g h _ hg hh) ?_ | with_reducible refine ACalls.flA (c1 _) ?_) <;> (first | (simp (maxDischargeDepth := 9) -implicitDefEqProofs -dsimp only [go_sem, seval, *]; done) | omega))); (focus (first | trivial | with_reducible exact rfl | (simp (maxDischargeDepth := 9) -implicitDefEqProofs -dsimp only [go_sem, seval]; done)))))
    refine fin_eq ?_
    (repeat' (first | simp (maxDischargeDepth := 9) -implicitDefEqProofs -dsimp only [go_sem, seval, *] | simp (disch := omega) only [wrap64])) <;> (repeat' refine And.intro ?_ ?_) <;> (first | omega | rfl | assumption | skip)
end Go.Proofs.Ytjichkelfhcbcaa

namespace Go.Proofs.Ytjichkelfhcbcaa
open Abs Fil Fil.Eqv
open Bd (D encB encF)
abbrev xAnd : Aig := ⟨2, [], [(2, 4)], [6]⟩
abbrev xAgain : Aig := ⟨2, [], [(4, 2)], [6]⟩
abbrev xOr : Aig := ⟨2, [], [(3, 5)], [7]⟩
abbrev xNone : Aig := ⟨2, [], [], []⟩
theorem x_wf1 : Wf xAnd := ⟨by simp [I64], by simp, by simp, by simp, by simp, by simp [I64], by simp [I64]⟩
theorem x_wf2 : Wf xAgain := ⟨by simp [I64], by simp, by simp, by simp, by simp, by simp [I64], by simp [I64]⟩
theorem x_wf3 : Wf xOr := ⟨by simp [I64], by simp, by simp, by simp, by simp, by simp [I64], by simp [I64]⟩
theorem x_wf4 : Wf xNone := ⟨by simp [I64], by simp, by simp, by simp, by simp, by simp, by simp⟩
theorem x_ok1 : Ok xAnd := ⟨x_wf1, by decide, by simp, by simp, by simp⟩
theorem x_ok2 : Ok xAgain := ⟨x_wf2, by decide, by simp, by simp, by simp⟩
theorem x_ok3 : Ok xOr := ⟨x_wf3, by decide, by simp, by simp, by simp⟩
theorem x_two12 : Two xAnd xAgain := ⟨x_ok1, x_ok2, rfl, rfl, rfl, by simp⟩
theorem x_two13 : Two xAnd xOr := ⟨x_ok1, x_ok3, rfl, rfl, rfl, by simp⟩
theorem x1 : sameS xAnd xAgain = (true, [], []) := by decide
set_option maxRecDepth 100000 in
theorem x2 : sameS xAnd xOr = (false, [false, true], []) := by decide
theorem x3 : forksS xAnd = ((2, [(-1, 0, 0), (-1, 0, 0), (0, 0, 1), (1, 0, 1), (0, 0, 3)]), [4]) := by decide
theorem x4 : miterM xAnd xAgain = ⟨2, [], [(2, 4)], [0]⟩ := by decide
theorem x5 : traceS xAnd xOr [[true, true], [true, false]] = (1, 0) := by decide
theorem x6 : traceS xAnd xAgain [[true, true], [true, false]] = (-1, 0) := by decide
theorem x7 : traceS xAnd xOr [[true]] = (0, 1) := by decide
set_option maxRecDepth 20000 in
set_option maxHeartbeats 8000000 in
theorem law_live (σ : Sig) : ACalls Try.prog 11 [] σ (fun r σ' => r = .ret (.bool true) ∧ σ' = σ) := by
  refine calls_x mixed Try.func11 b11 n11 rfl q11 (by simp) ?_; unfold c11 r11; try dsimp only [Yi, Yj]
  have c1 := fun τ => eq_Same xAnd xAgain x_two12 τ
  have c2 := fun τ => eq_Same xAnd xOr x_two13 τ
  have c3 := fun τ => eq_Forks xAnd x_ok1 τ
  have c4 := fun τ => eq_Miter xAnd xAgain x_two12 τ
  have c5 := fun τ => eq_Trace xAnd xOr [[true, true], [true, false]] τ x_wf1 x_wf3 (by simp) (by decide) rfl rfl (fun _ => by decide) (by decide) (by decide)
  have c6 := fun τ => eq_Trace xAnd xAgain [[true, true], [true, false]] τ x_wf1 x_wf2 (by simp) (by decide) rfl rfl (fun _ => by decide) (by decide) (by decide)
  have c7 := fun τ => eq_Trace xAnd xOr [[true]] τ x_wf1 x_wf3 (by simp) (by decide) rfl rfl (fun h => by revert h; decide) (by decide) (by decide)
  have c8 := fun τ => eq_Same_arg xAnd xNone x_wf1 x_wf4 (by decide) (by simp) τ
  rw [x1] at c1
  rw [x2] at c2
  rw [x3] at c3
  rw [x4] at c4
  rw [x5] at c5
  rw [x6] at c6
  rw [x7] at c7
  repeat' (first | simp (maxDischargeDepth := 9) -implicitDefEqProofs -dsimp only [go_sem, seval, List.map_cons, List.map_nil, *] | ((with_reducible refine Zt (fun oF hoF hnF hnF' => ?_)); clear hnF hnF'; (try simp only [Zw, ne_eq] at hoF)) | ((with_reducible apply ACalls.one1); (focus (first | ((first | with_reducible refine c1 _ | with_reducible refine c2 _ | with_reducible refine c3 _ | with_reducible refine c4 _ | with_reducible refine c5 _ | with_reducible refine c6 _ | with_reducible refine c7 _ | with_reducible refine c8 _) <;> (first | (simp (maxDischargeDepth := 9) -implicitDefEqProofs -dsimp only [go_sem, seval, *]; done) | omega)) | (with_reducible refine ACalls.flA (c1 _) ?_ <;> (first | (simp (maxDischargeDepth := 9) -implicitDefEqProofs -dsimp only [go_sem, seval, *]; done) | omega)) | (with_reducible refine ACalls.flA (c2 _) ?_ <;> (first | (simp (maxDischargeDepth := 9) -implicitDefEqProofs -dsimp only [go_sem, seval, *]; done) | omega)) | (with_reducible refine ACalls.flA (c3 _) ?_ <;> (first | (simp (maxDischargeDepth := 9) -implicitDefEqProofs -dsimp only [go_sem, seval, *]; done) | omega)) | (with_reducible refine ACalls.flA (c4 _) ?_ <;> (first | (simp (maxDischargeDepth := 9) -implicitDefEqProofs -dsimp only [go_sem, seval, *]; done) | omega)) | (with_reducible refine ACalls.flA (c5 _) ?_ <;> (first | (simp (maxDischargeDepth := 9) -implicitDefEqProofs -dsimp only [go_sem, seval, *]; done) | omega)) | (with_reducible refine ACalls.flA (c6 _) ?_ <;> (first | (simp (maxDischargeDepth := 9) -implicitDefEqProofs -dsimp only [go_sem, seval, *]; done) | omega)) | (with_reducible refine ACalls.flA (c7 _) ?_ <;> (first | (simp (maxDischargeDepth := 9) -implicitDefEqProofs -dsimp only [go_sem, seval, *]; done) | omega)) | (with_reducible refine ACalls.flA (c8 _) ?_ <;> (first | (simp (maxDischargeDepth := 9) -implicitDefEqProofs -dsimp only [go_sem, seval, *]; done) | omega)))); (focus (first | trivial | with_reducible exact rfl | (simp (maxDischargeDepth := 9) -implicitDefEqProofs -dsimp only [go_sem, seval]; done)))))
  refine fin_eq ?_
  (repeat' (first | simp (maxDischargeDepth := 9) -implicitDefEqProofs -dsimp only [go_sem, seval, *])) <;> (repeat' refine And.intro ?_ ?_) <;> (first | omega | rfl | assumption | skip)
end Go.Proofs.Ytjichkelfhcbcaa

namespace Fil
open Abs Go
theorem i64_min : IntKind.i64.min = -9223372036854775808 := by decide
theorem i64_max : IntKind.i64.max = 9223372036854775807 := by decide
theorem I64_of {n : Int} (h : IntKind.i64.min ≤ n ∧ n ≤ IntKind.i64.max) : I64 n := by rw [i64_min, i64_max] at h; exact h
theorem arg_int {a : AV} (h : ShV false (.int .i64) a) : ∃ n, a = encInt n ∧ I64 n := by
  obtain ⟨n, e, hn⟩ := shv_int h
  exact ⟨n, e, I64_of hn⟩
theorem arg_bool {a : AV} (h : ShV false .bool a) : ∃ b, a = encBool b ∧ True := by
  obtain ⟨b, e⟩ := shv_bool h
  exact ⟨b, e, trivial⟩
theorem arg_bools {a : AV} (h : ShV false (.slice false .bool) a) : ∃ l : List Bool, a = .slice (l.map encBool) .no ∧ l.length ≤ maxLen := by
  obtain ⟨m, e, h1, _⟩ := shv_slice (f := encBool) (p := fun _ => True) h fun x hx => arg_bool hx
  exact ⟨m, e, h1⟩
theorem arg_rows {a : AV} (h : ShV false (.slice false (.slice false .bool)) a) : ∃ l : List (List Bool), a = .slice (l.map (encRow encBool)) .no ∧ l.length ≤ maxLen ∧ ∀ x ∈ l, x.length ≤ maxLen := by
  obtain ⟨m, e, h1, h2⟩ := shv_slice (f := encRow encBool) (p := fun l : List Bool => l.length ≤ maxLen) h fun x hx => by
    obtain ⟨l, e, hl⟩ := arg_bools hx
    exact ⟨l, e, hl⟩
  exact ⟨m, e, h1, h2⟩
theorem arg_gate {a : AV} (h : ShV true (.row [.int .i64, .int .i64]) a) : ∃ x : Int × Int, a = encGate x ∧ I64 x.1 ∧ I64 x.2 := by
  obtain ⟨es, e, p, q, rfl, ⟨n, rfl, hn⟩, p', q', rfl, ⟨m, rfl, hm⟩, rfl⟩ := h
  simp [mkv] at e
  exact ⟨(n, m), e.symm, I64_of hn, I64_of hm⟩
theorem arg_flop {a : AV} (h : ShV true (.row [.int .i64, .bool]) a) : ∃ x : Flop, a = encFlop x ∧ I64 x.next := by
  obtain ⟨es, e, p, q, rfl, ⟨n, rfl, hn⟩, p', q', rfl, ⟨m, rfl⟩, rfl⟩ := h
  simp [mkv] at e
  exact ⟨⟨n, m⟩, e.symm, I64_of hn⟩
structure Wide (g : Aig) : Prop where
  ins : I64 g.ins
  nexts : ∀ f ∈ g.flops, I64 f.next
  gates : ∀ x ∈ g.ands, I64 x.1 ∧ I64 x.2
  lits : ∀ a ∈ g.outs, I64 a
theorem arg_aig {a : AV} (h : ShV true (.row [.int .i64, .slice true (.row [.int .i64, .bool]), .slice true (.row [.int .i64, .int .i64]), .slice false (.int .i64)]) a) : ∃ g : Aig, a = encAig g ∧ Wide g := by
  obtain ⟨es, e, p, q, rfl, ⟨n, rfl, hn⟩, p1, q1, rfl, h1, p2, q2, rfl, h2, p3, q3, rfl, h3, rfl⟩ := h
  obtain ⟨fl, rfl, _, k1⟩ := shc_slice (f := encFlop) (p := fun x : Flop => I64 x.next) h1 fun x hx => arg_flop hx
  obtain ⟨an, rfl, _, k2⟩ := shc_slice (f := encGate) (p := fun x : Int × Int => I64 x.1 ∧ I64 x.2) h2 fun x hx => arg_gate hx
  obtain ⟨ou, rfl, _, k3⟩ := shc_slice (f := encInt) (p := I64) h3 fun x hx => arg_int hx
  simp [mkv] at e
  exact ⟨⟨n, fl, an, ou⟩, e.symm, I64_of hn, k1, k2, k3⟩
def Few (g : Aig) : Prop := g.ins ≤ 200 ∧ g.flops.length ≤ 200 ∧ g.ands.length ≤ 1000 ∧ g.outs.length ≤ 200
end Fil

namespace Fil.Eqv
open Abs Go
def fewB (g : Aig) : Bool := decide (IntKind.i64.wrap (g.ins + g.flops.length) ≤ 8) && decide (-1 ≤ g.ins) && decide (g.flops.length ≤ 8) && decide (g.ands.length ≤ 40) && decide (g.outs.length ≤ 10)
theorem few_spec {g : Aig} (h : fewB g = true) (hw : Wide g) : Wf g ∧ g.flops.length ≤ 8 ∧ g.ands.length ≤ 40 ∧ g.outs.length ≤ 10 ∧ (g.check = 0 → Ok g) := by
  simp only [fewB, Bool.and_eq_true, decide_eq_true_eq] at h
  obtain ⟨⟨⟨⟨h1, h2⟩, h3⟩, h4⟩, h5⟩ := h
  have hwf : Wf g := ⟨hw.ins, by omega, by omega, by omega, hw.nexts, hw.gates, hw.lits⟩
  refine ⟨hwf, h3, h4, h5, fun hc => ⟨hwf, hc, ?_, by omega, by omega⟩⟩
  have hs := check_small hwf hc
  have := hs.hi
  have := hs.lo
  rw [wrap64 _ (by omega) (by omega)] at h1
  exact h1
def chk2' (g h : Aig) : Int := if g.check ≠ 0 then g.check else h.check
theorem two_cases {g h : Aig} (hg : fewB g = true) (hh : fewB h = true) (wg : Wide g) (wh : Wide h) :
    chk2' g h ≠ 0 ∨ (chk2' g h = 0 ∧ ¬ (g.ins = h.ins ∧ g.flops.length = h.flops.length ∧ g.outs.length = h.outs.length)) ∨ Two g h := by
  obtain ⟨_, _, a1, _, g1⟩ := few_spec hg wg
  obtain ⟨_, _, a2, _, h1⟩ := few_spec hh wh
  by_cases c : chk2' g h = 0
  · by_cases s : g.ins = h.ins ∧ g.flops.length = h.flops.length ∧ g.outs.length = h.outs.length
    · right; right
      unfold chk2' at c
      split at c
      · rename_i hne; exact absurd c hne
      · rename_i hz
        exact ⟨g1 (by simpa using hz), h1 c, s.1, s.2.1, s.2.2, by omega⟩
    · exact .inr (.inl ⟨c, s⟩)
  · exact .inl c
theorem eval_ok {g : Aig} (hc : g.check = 0) {inp st : List Bool} (h1 : (inp.length : Int) = g.ins) (h2 : st.length = g.flops.length) :
    g.Eval inp st = (g.outs.map (at_ g (inp ++ st)), (g.flops.map (·.next)).map (at_ g (inp ++ st)), 0) := by
  unfold Aig.Eval
  rw [nodes_eq hc h1 h2, if_neg (by simp), List.map_map]
  rfl
end Fil.Eqv

namespace Go.Proofs.Ytjichkelfhcbcaa
open Abs Fil Fil.Eqv
open Bd (D encB encF)
theorem law_few (g : Aig) (σ : Sig) : ACalls Try.prog 12 [encAig g] σ (fun r σ' => r = .ret (.bool (fewB g)) ∧ σ' = σ) := by
  refine calls_x mixed Try.func12 b12 n12 rfl q12 (by simp) ?_; unfold c12 r12; try dsimp only [Yi, Yj]
  unfold fewB
  obtain ⟨w, hw⟩ : ∃ w, IntKind.i64.wrap (g.ins + g.flops.length) = w := ⟨_, rfl⟩
  rw [hw]
  repeat' (first | simp (maxDischargeDepth := 9) -implicitDefEqProofs -dsimp only [go_sem, seval, ge_iff_le, *] | (with_reducible (first | apply Za) <;> intro hq))
  all_goals refine fin_eq ?_
  all_goals (repeat' (first | simp (maxDischargeDepth := 9) -implicitDefEqProofs -dsimp only [go_sem, seval, *])) <;> (repeat' refine And.intro ?_ ?_) <;> (first | omega | rfl | assumption | skip)
  all_goals (rw [Bool.eq_iff_iff]; simp only [Bool.and_eq_true, decide_eq_true_eq, Bool.false_eq_true]; constructor <;> intro hh <;> first | exact hh.elim | omega)
end Go.Proofs.Ytjichkelfhcbcaa

namespace Fil.Eqv
open Abs Go
theorem nodes_bad {g : Aig} (hc : g.check = 0) {inp st : List Bool} (h1 : (inp.length : Int) ≠ g.ins) : (g.Nodes inp st).2 = 1 := by
  unfold Aig.Nodes
  rw [if_neg (by simp [hc]), if_pos (.inl h1)]
theorem runs_ok {g : Aig} (hc : g.check = 0) : ∀ (ins : List (List Bool)) (st : List Bool) (out : List (List Bool)), st.length = g.flops.length → (∀ x ∈ ins, (x.length : Int) = g.ins) →
    ∃ rows, g.runs st out ins = (out ++ rows, 0) ∧ rows.length = ins.length ∧ ∀ r ∈ rows, r.length = g.outs.length
  | [], st, out, _, _ => ⟨[], by simp [Aig.runs], rfl, by simp⟩
  | x :: ins, st, out, hs, hx => by
    have he := eval_ok hc (hx x (by simp)) hs
    simp only [Aig.runs, he, ne_eq, not_true_eq_false, if_false]
    obtain ⟨rows, h1, h2, h3⟩ := runs_ok hc ins ((g.flops.map (·.next)).map (at_ g (x ++ st))) (out ++ [g.outs.map (at_ g (x ++ st))]) (by simp) fun y hy => hx y (by simp [hy])
    refine ⟨g.outs.map (at_ g (x ++ st)) :: rows, by rw [h1]; simp, by simp [h2], fun r hr => ?_⟩
    rcases List.mem_cons.1 hr with rfl | hr
    · simp
    · exact h3 r hr
theorem runs_bad {g : Aig} (hc : g.check = 0) : ∀ (ins : List (List Bool)) (st : List Bool) (out : List (List Bool)), st.length = g.flops.length → (g.runs st out ins).2 = 0 → ∀ x ∈ ins, (x.length : Int) = g.ins
  | [], _, _, _, _, x, hx => by simp at hx
  | y :: ins, st, out, hs, h, x, hx => by
    by_cases hy : (y.length : Int) = g.ins
    · have he := eval_ok hc hy hs
      simp only [Aig.runs, he, ne_eq, not_true_eq_false, if_false] at h
      rcases List.mem_cons.1 hx with rfl | hx
      · exact hy
      · exact runs_bad hc ins _ _ (by simp) h x hx
    · exfalso
      have hb := nodes_bad (st := st) hc hy
      have he : (g.Eval y st).2.2 = 1 := by
        unfold Aig.Eval
        rw [if_pos (by simp [hb])]; exact hb
      simp only [Aig.runs, he] at h
      simp at h
theorem run_iff {g : Aig} (hc : g.check = 0) (ins : List (List Bool)) : ((g.Run ins).2 = 0 ↔ ∀ x ∈ ins, (x.length : Int) = g.ins) ∧ ((g.Run ins).2 = 0 → (g.Run ins).1.length = ins.length ∧ ∀ r ∈ (g.Run ins).1, r.length = g.outs.length) := by
  have e : g.Run ins = g.runs (g.flops.map (·.init)) [] ins := by unfold Aig.Run; rw [if_neg (by simp [hc])]
  rw [e]
  have hs : (g.flops.map (·.init)).length = g.flops.length := by simp
  refine ⟨⟨fun h => runs_bad hc ins _ _ hs h, fun h => ?_⟩, fun h => ?_⟩
  · obtain ⟨rows, h1, _⟩ := runs_ok hc ins _ [] hs h
    rw [h1]
  · obtain ⟨rows, h1, h2, h3⟩ := runs_ok hc ins _ [] hs (runs_bad hc ins _ _ hs h)
    rw [h1]
    exact ⟨by simp [h2], by simpa using h3⟩
end Fil.Eqv

namespace Fil
open Abs Go
def Aig.stAt (g : Aig) (st : List Bool) (ins : List (List Bool)) (i : Nat) : List Bool := (ins.take i).foldl (fun s inp => (g.Eval inp s).2.1) st
theorem runs_err {g : Aig} : ∀ {ins : List (List Bool)} {st : List Bool} {out : List (List Bool)}, (g.runs st out ins).2 ≠ 0 → (g.runs st out ins).1 = []
  | [], st, out, h => by simp [Aig.runs] at h
  | inp :: ins, st, out, h => by
    simp only [Aig.runs] at h ⊢
    split
    · rfl
    · rename_i he; rw [if_neg he] at h; exact runs_err h
theorem run_err {g : Aig} {ins : List (List Bool)} (h : (g.Run ins).2 ≠ 0) : (g.Run ins).1 = [] := by
  unfold Aig.Run at h ⊢
  split
  · rfl
  · rename_i hc; rw [if_neg hc] at h; exact runs_err h
end Fil

namespace Go.Proofs.Ytjichkelfhcbcaa
open Abs Fil Fil.Eqv
open Bd (D encB encF)
def rowsB (ins : List (List Bool)) : Bool := ((ins.take 30).all fun x => decide (x.length ≤ 20)) && decide (ins.length ≤ 20)
theorem law_rows (ins : List (List Bool)) (σ : Sig) (hi : ins.length ≤ 9223372036854775807) (hr : ∀ x ∈ ins, x.length ≤ 9223372036854775807) :
    ACalls Try.prog 17 [.slice (ins.map (encRow encBool)) .no] σ (fun r σ' => r = .ret (.bool (rowsB ins)) ∧ σ' = σ) := by
  refine calls_x mixed Try.func17 b17 n17 rfl q17 (by simp) ?_; unfold c17 r17; try dsimp only [Yi, Yj]
  repeat' (first | simp (maxDischargeDepth := 9) -implicitDefEqProofs -dsimp only [go_sem, seval, *] | simp (disch := omega) only [wrap64] | ((with_reducible refine Zu ?_ ?_); focus omega))
  refine loop_rule (fun i : Nat => [(3, some (.int .i64 i)), (0, some (.slice (ins.map (encRow encBool)) .no))]) (fun _ => σ) (fun i => i ≤ ins.length ∧ i ≤ 30 ∧ ∀ j (hj : j < ins.length), j < i → ins[j].length ≤ 20) (fun i => ins.length - i) 0 ?_ ?_
  · (repeat' (first | simp (maxDischargeDepth := 9) -implicitDefEqProofs -dsimp only [go_sem, seval, *] | simp (disch := omega) only [wrap64])) <;> (repeat' refine And.intro ?_ ?_) <;> (first | omega | rfl | assumption | skip)
  · rintro i ⟨h1, h2, h3⟩
    by_cases hlt : i < ins.length
    · by_cases h30 : i < 30
      · have hlt' : (i : Int) < ins.length := by omega
        have h30' : (i : Int) < 30 := by omega
        have hx := hr _ (List.getElem_mem hlt)
        by_cases hl : ins[i].length ≤ 20
        · have h3' : ∀ j (hj : j < ins.length), j < i + 1 → ins[j].length ≤ 20 := fun j hj hji => by
            rcases Nat.lt_or_ge j i with c | c
            · exact h3 j hj c
            · obtain rfl : j = i := by omega
              exact hl
          have hl' : ¬ (20 : Int) < ins[i].length := by omega
          clear h3 hr
          repeat' (first | simp (maxDischargeDepth := 9) -implicitDefEqProofs -dsimp only [go_sem, seval, gt_iff_lt, List.getElem_map, *] | simp (disch := omega) only [wrap64] | ((with_reducible refine Zu ?_ ?_); focus omega))
          refine loop_next _ _ _ _ (i + 1) ⟨?_, ?_, ⟨by omega, by omega, h3'⟩, by omega⟩
          · (repeat' (first | simp (maxDischargeDepth := 9) -implicitDefEqProofs -dsimp only [go_sem, seval, *] | simp (disch := omega) only [wrap64])) <;> (repeat' refine And.intro ?_ ?_) <;> (first | omega | rfl | assumption | skip)
          · (repeat' (first | simp (maxDischargeDepth := 9) -implicitDefEqProofs -dsimp only [go_sem, seval, *] | simp (disch := omega) only [wrap64])) <;> (repeat' refine And.intro ?_ ?_) <;> (first | omega | rfl | assumption | skip)
        · have hv : rowsB ins = false := by
            unfold rowsB
            rw [Bool.and_eq_false_iff]
            left
            rw [List.all_eq_false]
            refine ⟨ins[i], ?_, by simpa using hl⟩
            rw [List.mem_take_iff_getElem]
            exact ⟨i, by omega, rfl⟩
          have hl' : (20 : Int) < ins[i].length := by omega
          rw [hv]
          clear h3 hr
          repeat' (first | simp (maxDischargeDepth := 9) -implicitDefEqProofs -dsimp only [go_sem, seval, gt_iff_lt, List.getElem_map, *] | simp (disch := omega) only [wrap64] | ((with_reducible refine Zu ?_ ?_); focus omega))
          refine fin_eq ?_
          (repeat' (first | simp (maxDischargeDepth := 9) -implicitDefEqProofs -dsimp only [go_sem, seval, *] | simp (disch := omega) only [wrap64])) <;> (repeat' refine And.intro ?_ ?_) <;> (first | omega | rfl | assumption | skip)
      · have h30' : ¬ (i : Int) < 30 := by omega
        have hlt' : (i : Int) < ins.length := by omega
        have hv : rowsB ins = false := by
          unfold rowsB
          rw [Bool.and_eq_false_iff]
          right; simp; omega
        have hn : ¬ (ins.length : Int) ≤ 20 := by omega
        rw [hv]
        clear h3 hr
        repeat' (first | simp (maxDischargeDepth := 9) -implicitDefEqProofs -dsimp only [go_sem, seval, *] | simp (disch := omega) only [wrap64] | ((with_reducible refine Zu ?_ ?_); focus omega))
        refine fin_eq ?_
        (repeat' (first | simp (maxDischargeDepth := 9) -implicitDefEqProofs -dsimp only [go_sem, seval, *] | simp (disch := omega) only [wrap64])) <;> (repeat' refine And.intro ?_ ?_) <;> (first | omega | rfl | assumption | skip)
    · have hlt' : ¬ (i : Int) < ins.length := by omega
      have hv : rowsB ins = decide ((ins.length : Int) ≤ 20) := by
        unfold rowsB
        have : ((ins.take 30).all fun x => decide (x.length ≤ 20)) = true := by
          rw [List.all_eq_true]
          intro x hx
          obtain ⟨j, hj, rfl⟩ := List.mem_take_iff_getElem.1 hx
          simpa using h3 j (by omega) (by omega)
        rw [this, Bool.true_and, decide_eq_decide]; omega
      rw [hv]
      clear h3 hr
      repeat' (first | simp (maxDischargeDepth := 9) -implicitDefEqProofs -dsimp only [go_sem, seval, *] | simp (disch := omega) only [wrap64] | ((with_reducible refine Zu ?_ ?_); focus omega))
      refine fin_eq ?_
      (repeat' (first | simp (maxDischargeDepth := 9) -implicitDefEqProofs -dsimp only [go_sem, seval, *] | simp (disch := omega) only [wrap64])) <;> (repeat' refine And.intro ?_ ?_) <;> (first | omega | rfl | assumption | skip)
theorem eq_Trace_err (g h : Aig) (ins : AV) (e : Int) (hg : Wf g) (hh : Wf h) (he : chk2 g h = e) (h0 : e ≠ 0) (σ : Sig) :
    ACalls Try.prog 20 [encAig g, encAig h, ins] σ (fun r σ' => r = .ret (.tup [.int .i64 0, .int .i64 e]) ∧ σ' = σ) := by
  refine calls_x mixed Try.func20 b20 n20 rfl q20 (by simp) ?_; unfold c20 r20; try dsimp only [Yi, Yj]
  have hb : (e != 0) = true := by simpa using h0
  repeat' (first | simp (maxDischargeDepth := 9) -implicitDefEqProofs -dsimp only [go_sem, seval, *] | ((with_reducible apply ACalls.one1); (focus ((first | with_reducible refine eq_checked g h _ hg hh | with_reducible refine ACalls.flA (eq_checked g h _ hg hh) ?_) <;> (first | (simp (maxDischargeDepth := 9) -implicitDefEqProofs -dsimp only [go_sem, seval, *]; done) | omega))); (focus (first | trivial | with_reducible exact rfl | (simp (maxDischargeDepth := 9) -implicitDefEqProofs -dsimp only [go_sem, seval]; done)))))
  refine fin_eq ?_
  (repeat' (first | simp (maxDischargeDepth := 9) -implicitDefEqProofs -dsimp only [go_sem, seval, *])) <;> (repeat' refine And.intro ?_ ?_) <;> (first | omega | rfl | assumption | skip)
theorem eq_Trace_arg (g h : Aig) (ins : AV) (hg : Wf g) (hh : Wf h) (he : chk2 g h = 0) (h0 : ¬ (g.ins = h.ins ∧ g.outs.length = h.outs.length)) (σ : Sig) :
    ACalls Try.prog 20 [encAig g, encAig h, ins] σ (fun r σ' => r = .ret (.tup [.int .i64 0, .int .i64 1]) ∧ σ' = σ) := by
  refine calls_x mixed Try.func20 b20 n20 rfl q20 (by simp) ?_; unfold c20 r20; try dsimp only [Yi, Yj]
  have ez : ((0 : Int) != 0) = false := by decide
  by_cases h1 : g.ins = h.ins
  · have hb1 : (g.ins != h.ins) = false := by simpa using h1
    have hb2 : ((g.outs.length : Int) != h.outs.length) = true := by simp; omega
    clear h1 h0
    repeat' (first | simp (maxDischargeDepth := 9) -implicitDefEqProofs -dsimp only [go_sem, seval, *] | ((with_reducible apply ACalls.one1); (focus ((first | with_reducible refine eq_checked g h _ hg hh | with_reducible refine ACalls.flA (eq_checked g h _ hg hh) ?_) <;> (first | (simp (maxDischargeDepth := 9) -implicitDefEqProofs -dsimp only [go_sem, seval, *]; done) | omega))); (focus (first | trivial | with_reducible exact rfl | (simp (maxDischargeDepth := 9) -implicitDefEqProofs -dsimp only [go_sem, seval]; done)))))
    refine fin_eq ?_
    (repeat' (first | simp (maxDischargeDepth := 9) -implicitDefEqProofs -dsimp only [go_sem, seval, *])) <;> (repeat' refine And.intro ?_ ?_) <;> (first | omega | rfl | assumption | skip)
  · have hb1 : (g.ins != h.ins) = true := by simpa using h1
    clear h1 h0
    repeat' (first | simp (maxDischargeDepth := 9) -implicitDefEqProofs -dsimp only [go_sem, seval, *] | ((with_reducible apply ACalls.one1); (focus ((first | with_reducible refine eq_checked g h _ hg hh | with_reducible refine ACalls.flA (eq_checked g h _ hg hh) ?_) <;> (first | (simp (maxDischargeDepth := 9) -implicitDefEqProofs -dsimp only [go_sem, seval, *]; done) | omega))); (focus (first | trivial | with_reducible exact rfl | (simp (maxDischargeDepth := 9) -implicitDefEqProofs -dsimp only [go_sem, seval]; done)))))
    refine fin_eq ?_
    (repeat' (first | simp (maxDischargeDepth := 9) -implicitDefEqProofs -dsimp only [go_sem, seval, *])) <;> (repeat' refine And.intro ?_ ?_) <;> (first | omega | rfl | assumption | skip)
theorem run_facts {g h : Aig} {ins : List (List Bool)} (hg : Wf g) (hh : Wf h) (hc : chk2 g h = 0) (h1 : g.ins = h.ins) (h2 : g.outs.length = h.outs.length) :
    g.check = 0 ∧ h.check = 0 ∧ ((g.Run ins).2 = 0 ↔ (h.Run ins).2 = 0) ∧ ((g.Run ins).2 = 0 → (g.Run ins).1.length = ins.length ∧ (h.Run ins).1.length = ins.length) ∧
    (∀ x ∈ (g.Run ins).1, x.length ≤ 1000000) ∧ (∀ x ∈ (h.Run ins).1, x.length ≤ 1000000) ∧ (ins.length ≤ 20 → (g.Run ins).1.length ≤ 20 ∧ (h.Run ins).1.length ≤ 20) := by
  have hgc : g.check = 0 := by
    unfold chk2 at hc
    split at hc
    · rename_i hne; exact absurd hc hne
    · rename_i hz; simpa using hz
  have hhc : h.check = 0 := by
    unfold chk2 at hc
    rw [if_neg (by simp [hgc])] at hc
    exact hc
  obtain ⟨a1, a2⟩ := run_iff hgc ins
  obtain ⟨b1, b2⟩ := run_iff hhc ins
  have hiff : (g.Run ins).2 = 0 ↔ (h.Run ins).2 = 0 := by rw [a1, b1, h1]
  refine ⟨hgc, hhc, hiff, fun h0 => ⟨(a2 h0).1, (b2 (hiff.1 h0)).1⟩, fun x hx => ?_, fun x hx => ?_, fun hi => ?_⟩
  · by_cases h0 : (g.Run ins).2 = 0
    · have := (a2 h0).2 x hx
      have := hg.outs
      omega
    · rw [run_err h0] at hx; simp at hx
  · by_cases h0 : (h.Run ins).2 = 0
    · have := (b2 h0).2 x hx
      have := hh.outs
      omega
    · rw [run_err h0] at hx; simp at hx
  · constructor
    · by_cases h0 : (g.Run ins).2 = 0
      · rw [(a2 h0).1]; exact hi
      · rw [run_err h0]; simp
    · by_cases h0 : (h.Run ins).2 = 0
      · rw [(b2 h0).1]; exact hi
      · rw [run_err h0]; simp
end Go.Proofs.Ytjichkelfhcbcaa

namespace Go.Proofs.Ytjichkelfhcbcaa
open Abs Fil Fil.Eqv
theorem ref_checks (g h : Aig) (σ : Sig) (hg : Wf g) (hh : Wf h) : ACalls Try.prog 55 [encAig g, encAig h] σ (fun r σ' => r = .ret (.int .i64 (chk2 g h)) ∧ σ' = σ) := by
  refine calls_x mixed Try.func55 b55 n55 rfl q55 (by simp) ?_; unfold c55 r55; try dsimp only [Yi, Yj]
  have ez : ((0 : Int) != 0) = false := by decide
  by_cases hc : g.check = 0
  · have e : chk2 g h = h.check := by unfold chk2; rw [if_neg (by simp [hc])]
    rw [e]
    repeat' (first | simp (maxDischargeDepth := 9) -implicitDefEqProofs -dsimp only [go_sem, seval, *] | ((with_reducible apply ACalls.one1); (focus ((first | with_reducible refine A.ref_Check g _ hg | with_reducible refine A.ref_Check h _ hh) <;> (first | (simp (maxDischargeDepth := 9) -implicitDefEqProofs -dsimp only [go_sem, seval, *]; done) | omega))); (focus (first | trivial | with_reducible exact rfl | (simp (maxDischargeDepth := 9) -implicitDefEqProofs -dsimp only [go_sem, seval]; done)))))
    refine fin_eq ?_
    (repeat' (first | simp (maxDischargeDepth := 9) -implicitDefEqProofs -dsimp only [go_sem, seval, *])) <;> (repeat' refine And.intro ?_ ?_) <;> (first | omega | rfl | assumption | skip)
  · have e : chk2 g h = g.check := by unfold chk2; rw [if_pos hc]
    have hb : (g.check != 0) = true := by simpa using hc
    rw [e]
    clear hc
    repeat' (first | simp (maxDischargeDepth := 9) -implicitDefEqProofs -dsimp only [go_sem, seval, *] | ((with_reducible apply ACalls.one1); (focus ((first | with_reducible refine A.ref_Check g _ hg) <;> (first | (simp (maxDischargeDepth := 9) -implicitDefEqProofs -dsimp only [go_sem, seval, *]; done) | omega))); (focus (first | trivial | with_reducible exact rfl | (simp (maxDischargeDepth := 9) -implicitDefEqProofs -dsimp only [go_sem, seval]; done)))))
    refine fin_eq ?_
    (repeat' (first | simp (maxDischargeDepth := 9) -implicitDefEqProofs -dsimp only [go_sem, seval, *])) <;> (repeat' refine And.intro ?_ ?_) <;> (first | omega | rfl | assumption | skip)
theorem ref_stands (to : List Int) (l : Int) (σ : Sig) (h : Std to l) :
    ACalls Try.prog 57 [.slice (to.map encInt) .no, .int .i64 l] σ (fun r σ' => r = .ret (.int .i64 (moveL to l)) ∧ σ' = σ) := by
  refine calls_x mixed Try.func57 b57 n57 rfl q57 (by simp) ?_; unfold c57 r57; try dsimp only [Yi, Yj]
  obtain ⟨h0, h1, h2, h3, h4⟩ := h
  have hg : to[(l / 2).toNat] = to.getD (l / 2).toNat 0 := by simp [List.getD_eq_getElem?_getD, h1]
  obtain ⟨f, hf⟩ : ∃ f, to.getD (l / 2).toNat 0 = f := ⟨_, rfl⟩
  rw [hf] at hg h3 h4
  by_cases c : l % 2 = 0
  · have hw : moveL to l = f := by unfold moveL; rw [if_pos c, hf]
    rw [hw]
    repeat' (first | simp (maxDischargeDepth := 9) -implicitDefEqProofs -dsimp only [go_sem, seval, List.getElem_map, List.length_map, *] | simp (disch := omega) only [wrap64, tdiv2, tmod2] | ((with_reducible refine Zv ?_ ?_); focus (first | omega | exact rfl)) | ((with_reducible refine Zu ?_ ?_); focus omega))
    refine fin_eq ?_
    (repeat' (first | simp (maxDischargeDepth := 9) -implicitDefEqProofs -dsimp only [go_sem, seval, *] | simp (disch := omega) only [wrap64, tdiv2, tmod2])) <;> (repeat' refine And.intro ?_ ?_) <;> (first | omega | rfl | assumption | skip)
  · have c1 : l % 2 = 1 := by omega
    by_cases d : f % 2 = 0
    · have hw : moveL to l = f + 1 := by unfold moveL turn; rw [if_neg c, hf]; omega
      rw [hw]
      repeat' (first | simp (maxDischargeDepth := 9) -implicitDefEqProofs -dsimp only [go_sem, seval, List.getElem_map, List.length_map, *] | simp (disch := omega) only [wrap64, tdiv2, tmod2] | ((with_reducible refine Zv ?_ ?_); focus (first | omega | exact rfl)) | ((with_reducible refine Zu ?_ ?_); focus omega))
      refine fin_eq ?_
      (repeat' (first | simp (maxDischargeDepth := 9) -implicitDefEqProofs -dsimp only [go_sem, seval, *] | simp (disch := omega) only [wrap64, tdiv2, tmod2])) <;> (repeat' refine And.intro ?_ ?_) <;> (first | omega | rfl | assumption | skip)
    · have d1 : f % 2 = 1 := by omega
      have hw : moveL to l = f - 1 := by unfold moveL turn; rw [if_neg c, hf]; omega
      rw [hw]
      repeat' (first | simp (maxDischargeDepth := 9) -implicitDefEqProofs -dsimp only [go_sem, seval, List.getElem_map, List.length_map, *] | simp (disch := omega) only [wrap64, tdiv2, tmod2] | ((with_reducible refine Zv ?_ ?_); focus (first | omega | exact rfl)) | ((with_reducible refine Zu ?_ ?_); focus omega))
      refine fin_eq ?_
      (repeat' (first | simp (maxDischargeDepth := 9) -implicitDefEqProofs -dsimp only [go_sem, seval, *] | simp (disch := omega) only [wrap64, tdiv2, tmod2])) <;> (repeat' refine And.intro ?_ ?_) <;> (first | omega | rfl | assumption | skip)
theorem ref_differ (b m m' : Aig) (l u v d l' : Int) (σ : Sig) (hb : Wf b) (hu : I64 u) (hv : I64 v) (hm : Wf m) (hx : b.Xor u v = (m, d, 0)) (ho : m.Or l d = (m', l', 0)) :
    ACalls Try.prog 58 [encAig b, .int .i64 l, .int .i64 u, .int .i64 v] σ (fun r σ' => r = .ret (.tup [encAig m', .int .i64 l', .int .i64 0]) ∧ σ' = σ) := by
  refine calls_x mixed Try.func58 b58 n58 rfl q58 (by simp) ?_; unfold c58 r58; try dsimp only [Yi, Yj]
  have ez : ((0 : Int) != 0) = false := by decide
  have hX := fun τ => A.ref_Xor b u v τ hb hu hv
  have hO := fun τ => A.ref_Or m l d τ hm
  rw [hx] at hX
  rw [ho] at hO
  repeat' (first | simp (maxDischargeDepth := 9) -implicitDefEqProofs -dsimp only [go_sem, seval, *] | ((with_reducible refine Zt (fun oF hoF hnF hnF' => ?_)); (try simp only [upd_none, ne_eq, not_and] at hoF)) | ((with_reducible apply ACalls.one1); (focus ((first | with_reducible refine hX _ | with_reducible refine hO _) <;> (first | (simp (maxDischargeDepth := 9) -implicitDefEqProofs -dsimp only [go_sem, seval, *]; done) | omega))); (focus (first | trivial | with_reducible exact rfl | (simp (maxDischargeDepth := 9) -implicitDefEqProofs -dsimp only [go_sem, seval]; done)))))
  refine fin_eq ?_
  (repeat' (first | simp (maxDischargeDepth := 9) -implicitDefEqProofs -dsimp only [go_sem, seval, *])) <;> (repeat' refine And.intro ?_ ?_) <;> (first | omega | rfl | assumption | skip)
theorem ref_Miter_err (g h : Aig) (e : Int) (hg : Wf g) (hh : Wf h) (he : chk2 g h = e) (h0 : e ≠ 0) (σ : Sig) :
    ACalls Try.prog 19 [encAig g, encAig h] σ (fun r σ' => r = .ret (.tup [encAig noAig, .int .i64 e]) ∧ σ' = σ) := by
  refine calls_x mixed Try.func19 b19 n19 rfl q19 (by simp) ?_; unfold c19 r19; try dsimp only [Yi, Yj]
  have hb : (e != 0) = true := by simpa using h0
  repeat' (first | simp (maxDischargeDepth := 9) -implicitDefEqProofs -dsimp only [go_sem, seval, *] | ((with_reducible refine Zt (fun oF hoF hnF hnF' => ?_)); (try simp only [upd_none, ne_eq, not_and] at hoF)) | ((with_reducible apply ACalls.one1); (focus ((first | with_reducible refine ref_checks g h _ hg hh) <;> (first | (simp (maxDischargeDepth := 9) -implicitDefEqProofs -dsimp only [go_sem, seval, *]; done) | omega))); (focus (first | trivial | with_reducible exact rfl | (simp (maxDischargeDepth := 9) -implicitDefEqProofs -dsimp only [go_sem, seval]; done)))))
  refine fin_eq ?_
  (repeat' (first | simp (maxDischargeDepth := 9) -implicitDefEqProofs -dsimp only [go_sem, seval, List.map_nil, *])) <;> (repeat' refine And.intro ?_ ?_) <;> (first | omega | rfl | assumption | skip)
theorem ref_Miter_arg (g h : Aig) (hg : Wf g) (hh : Wf h) (he : chk2 g h = 0) (h0 : ¬ (g.ins = h.ins ∧ g.flops.length = h.flops.length ∧ g.outs.length = h.outs.length)) (σ : Sig) :
    ACalls Try.prog 19 [encAig g, encAig h] σ (fun r σ' => r = .ret (.tup [encAig noAig, .int .i64 1]) ∧ σ' = σ) := by
  refine calls_x mixed Try.func19 b19 n19 rfl q19 (by simp) ?_; unfold c19 r19; try dsimp only [Yi, Yj]
  have ez : ((0 : Int) != 0) = false := by decide
  by_cases h1 : g.ins = h.ins
  · have b1 : (g.ins != h.ins) = false := by simpa using h1
    by_cases h2 : g.flops.length = h.flops.length
    · have b2 : ((g.flops.length : Int) != h.flops.length) = false := by simp; omega
      have b3 : ((g.outs.length : Int) != h.outs.length) = true := by simp; omega
      clear h0 h1 h2
      repeat' (first | simp (maxDischargeDepth := 9) -implicitDefEqProofs -dsimp only [go_sem, seval, *] | ((with_reducible refine Zt (fun oF hoF hnF hnF' => ?_)); (try simp only [upd_none, ne_eq, not_and] at hoF)) | ((with_reducible apply ACalls.one1); (focus ((first | with_reducible refine ref_checks g h _ hg hh) <;> (first | (simp (maxDischargeDepth := 9) -implicitDefEqProofs -dsimp only [go_sem, seval, *]; done) | omega))); (focus (first | trivial | with_reducible exact rfl | (simp (maxDischargeDepth := 9) -implicitDefEqProofs -dsimp only [go_sem, seval]; done)))))
      refine fin_eq ?_
      (repeat' (first | simp (maxDischargeDepth := 9) -implicitDefEqProofs -dsimp only [go_sem, seval, List.map_nil, *])) <;> (repeat' refine And.intro ?_ ?_) <;> (first | omega | rfl | assumption | skip)
    · have b2 : ((g.flops.length : Int) != h.flops.length) = true := by simp; omega
      clear h0 h1 h2
      repeat' (first | simp (maxDischargeDepth := 9) -implicitDefEqProofs -dsimp only [go_sem, seval, *] | ((with_reducible refine Zt (fun oF hoF hnF hnF' => ?_)); (try simp only [upd_none, ne_eq, not_and] at hoF)) | ((with_reducible apply ACalls.one1); (focus ((first | with_reducible refine ref_checks g h _ hg hh) <;> (first | (simp (maxDischargeDepth := 9) -implicitDefEqProofs -dsimp only [go_sem, seval, *]; done) | omega))); (focus (first | trivial | with_reducible exact rfl | (simp (maxDischargeDepth := 9) -implicitDefEqProofs -dsimp only [go_sem, seval]; done)))))
      refine fin_eq ?_
      (repeat' (first | simp (maxDischargeDepth := 9) -implicitDefEqProofs -dsimp only [go_sem, seval, List.map_nil, *])) <;> (repeat' refine And.intro ?_ ?_) <;> (first | omega | rfl | assumption | skip)
  · have b1 : (g.ins != h.ins) = true := by simpa using h1
    clear h0 h1
    repeat' (first | simp (maxDischargeDepth := 9) -implicitDefEqProofs -dsimp only [go_sem, seval, *] | ((with_reducible refine Zt (fun oF hoF hnF hnF' => ?_)); (try simp only [upd_none, ne_eq, not_and] at hoF)) | ((with_reducible apply ACalls.one1); (focus ((first | with_reducible refine ref_checks g h _ hg hh) <;> (first | (simp (maxDischargeDepth := 9) -implicitDefEqProofs -dsimp only [go_sem, seval, *]; done) | omega))); (focus (first | trivial | with_reducible exact rfl | (simp (maxDischargeDepth := 9) -implicitDefEqProofs -dsimp only [go_sem, seval]; done)))))
    refine fin_eq ?_
    (repeat' (first | simp (maxDischargeDepth := 9) -implicitDefEqProofs -dsimp only [go_sem, seval, List.map_nil, *])) <;> (repeat' refine And.intro ?_ ?_) <;> (first | omega | rfl | assumption | skip)
theorem ref_Trace_err (g h : Aig) (ins : AV) (e : Int) (hg : Wf g) (hh : Wf h) (he : chk2 g h = e) (h0 : e ≠ 0) (σ : Sig) :
    ACalls Try.prog 21 [encAig g, encAig h, ins] σ (fun r σ' => r = .ret (.tup [.int .i64 0, .int .i64 e]) ∧ σ' = σ) := by
  refine calls_x mixed Try.func21 b21 n21 rfl q21 (by simp) ?_; unfold c21 r21; try dsimp only [Yi, Yj]
  have hb : (e != 0) = true := by simpa using h0
  repeat' (first | simp (maxDischargeDepth := 9) -implicitDefEqProofs -dsimp only [go_sem, seval, *] | ((with_reducible apply ACalls.one1); (focus ((first | with_reducible refine ref_checks g h _ hg hh) <;> (first | (simp (maxDischargeDepth := 9) -implicitDefEqProofs -dsimp only [go_sem, seval, *]; done) | omega))); (focus (first | trivial | with_reducible exact rfl | (simp (maxDischargeDepth := 9) -implicitDefEqProofs -dsimp only [go_sem, seval]; done)))))
  refine fin_eq ?_
  (repeat' (first | simp (maxDischargeDepth := 9) -implicitDefEqProofs -dsimp only [go_sem, seval, *])) <;> (repeat' refine And.intro ?_ ?_) <;> (first | omega | rfl | assumption | skip)
theorem ref_Trace_arg (g h : Aig) (ins : AV) (hg : Wf g) (hh : Wf h) (he : chk2 g h = 0) (h0 : ¬ (g.ins = h.ins ∧ g.outs.length = h.outs.length)) (σ : Sig) :
    ACalls Try.prog 21 [encAig g, encAig h, ins] σ (fun r σ' => r = .ret (.tup [.int .i64 0, .int .i64 1]) ∧ σ' = σ) := by
  refine calls_x mixed Try.func21 b21 n21 rfl q21 (by simp) ?_; unfold c21 r21; try dsimp only [Yi, Yj]
  have ez : ((0 : Int) != 0) = false := by decide
  by_cases h1 : g.ins = h.ins
  · have hb1 : (g.ins != h.ins) = false := by simpa using h1
    have hb2 : ((g.outs.length : Int) != h.outs.length) = true := by simp; omega
    clear h1 h0
    repeat' (first | simp (maxDischargeDepth := 9) -implicitDefEqProofs -dsimp only [go_sem, seval, *] | ((with_reducible apply ACalls.one1); (focus ((first | with_reducible refine ref_checks g h _ hg hh) <;> (first | (simp (maxDischargeDepth := 9) -implicitDefEqProofs -dsimp only [go_sem, seval, *]; done) | omega))); (focus (first | trivial | with_reducible exact rfl | (simp (maxDischargeDepth := 9) -implicitDefEqProofs -dsimp only [go_sem, seval]; done)))))
    refine fin_eq ?_
    (repeat' (first | simp (maxDischargeDepth := 9) -implicitDefEqProofs -dsimp only [go_sem, seval, *])) <;> (repeat' refine And.intro ?_ ?_) <;> (first | omega | rfl | assumption | skip)
  · have hb1 : (g.ins != h.ins) = true := by simpa using h1
    clear h1 h0
    repeat' (first | simp (maxDischargeDepth := 9) -implicitDefEqProofs -dsimp only [go_sem, seval, *] | ((with_reducible apply ACalls.one1); (focus ((first | with_reducible refine ref_checks g h _ hg hh) <;> (first | (simp (maxDischargeDepth := 9) -implicitDefEqProofs -dsimp only [go_sem, seval, *]; done) | omega))); (focus (first | trivial | with_reducible exact rfl | (simp (maxDischargeDepth := 9) -implicitDefEqProofs -dsimp only [go_sem, seval]; done)))))
    refine fin_eq ?_
    (repeat' (first | simp (maxDischargeDepth := 9) -implicitDefEqProofs -dsimp only [go_sem, seval, *])) <;> (repeat' refine And.intro ?_ ?_) <;> (first | omega | rfl | assumption | skip)
theorem ref_Trace (g h : Aig) (ins : List (List Bool)) (σ : Sig) (hg : Wf g) (hh : Wf h) (hi : ins.length ≤ 1000000) (he : chk2 g h = 0) (h1 : g.ins = h.ins) (h2 : g.outs.length = h.outs.length)
    (hlen : (g.Run ins).2 = 0 → (g.Run ins).1.length ≤ (h.Run ins).1.length) (hal : (g.Run ins).1.length ≤ 1000000) (har : ∀ x ∈ (g.Run ins).1, x.length ≤ 1000000000) :
    ACalls Try.prog 21 [encAig g, encAig h, .slice (ins.map (encRow encBool)) .no] σ (fun r σ' => r = .ret (.tup [.int .i64 (traceS g h ins).1, .int .i64 (traceS g h ins).2]) ∧ σ' = σ) := by
  refine calls_x mixed Try.func21 b21 n21 rfl q21 (by simp) ?_; unfold c21 r21; try dsimp only [Yi, Yj]
  have ez : ((0 : Int) != 0) = false := by decide
  have hb1 : (g.ins != h.ins) = false := by simpa using h1
  have hb2 : ((g.outs.length : Int) != h.outs.length) = false := by simp [h2]
  have c1 := fun τ => A.ref_Run g ins τ hg hi
  have c2 := fun τ => A.ref_Run h ins τ hh hi
  obtain ⟨⟨a, e1⟩, ha⟩ : ∃ p, g.Run ins = p := ⟨_, rfl⟩
  obtain ⟨⟨b, e2⟩, hb⟩ : ∃ p, h.Run ins = p := ⟨_, rfl⟩
  have htr : traceS g h ins = if e1 ≠ 0 then (0, e1) else (firstNe a b 0, 0) := by unfold traceS; rw [ha, hb]
  rw [ha] at c1 hlen hal har
  rw [hb] at c2 hlen
  simp only at hlen hal har
  rw [htr]
  clear ha hb htr h1 h2
  by_cases h0 : e1 = 0
  · subst h0
    have hab := hlen rfl
    rw [if_neg (by simp)]
    simp only
    clear hlen
    repeat' (first | simp (maxDischargeDepth := 9) -implicitDefEqProofs -dsimp only [go_sem, seval, *] | simp (disch := omega) only [wrap64] | ((with_reducible refine Zu ?_ ?_); focus omega) | ((with_reducible apply ACalls.one1); (focus ((first | with_reducible refine ref_checks g h _ hg hh | with_reducible refine c1 _ | with_reducible refine c2 _) <;> (first | (simp (maxDischargeDepth := 9) -implicitDefEqProofs -dsimp only [go_sem, seval, *]; done) | omega))); (focus (first | trivial | with_reducible exact rfl | (simp (maxDischargeDepth := 9) -implicitDefEqProofs -dsimp only [go_sem, seval]; done)))))
    refine loop_rule (fun i : Nat => [(13, some (.int .i64 i)), (9, some (.slice (a.map (encRow encBool)) .no)), (11, some (.slice (b.map (encRow encBool)) .no))])
      (fun _ => σ) (fun i => i ≤ a.length ∧ ∀ j, (hj : j < a.length) → (hj' : j < b.length) → j < i → a[j] = b[j]) (fun i => a.length - i) 0 ?_ ?_
    · (repeat' (first | simp (maxDischargeDepth := 9) -implicitDefEqProofs -dsimp only [go_sem, seval, *] | simp (disch := omega) only [wrap64])) <;> (repeat' refine And.intro ?_ ?_) <;> (first | omega | rfl | assumption | skip)
    · rintro i ⟨hi', hok⟩
      by_cases hlt : i < a.length
      · have hlt' : i < b.length := by omega
        have hx : a[i].length ≤ 1000000000 := har _ (List.getElem_mem hlt)
        by_cases hxy : a[i] = b[i]
        · have hok' : ∀ j, (hj : j < a.length) → (hj' : j < b.length) → j < i + 1 → a[j] = b[j] := fun j hj hj' hji => by
            rcases Nat.lt_or_ge j i with c | c
            · exact hok j hj hj' c
            · obtain rfl : j = i := by omega
              exact hxy
          have heq := fun τ => A.ref_Bools a[i] b[i] τ hx
          rw [show decide (a[i] = b[i]) = true by simpa using hxy] at heq
          clear hok hxy har
          repeat' (first | simp (maxDischargeDepth := 9) -implicitDefEqProofs -dsimp only [go_sem, seval, List.getElem_map, List.length_map, encRow, *] | simp (disch := omega) only [wrap64] | ((with_reducible refine Zu ?_ ?_); focus omega) | ((with_reducible apply ACalls.one1); (focus ((first | with_reducible refine heq _) <;> (first | (simp (maxDischargeDepth := 9) -implicitDefEqProofs -dsimp only [go_sem, seval, *]; done) | omega))); (focus (first | trivial | with_reducible exact rfl | (simp (maxDischargeDepth := 9) -implicitDefEqProofs -dsimp only [go_sem, seval]; done)))) | ((with_reducible apply id_one0); (focus (intro tS hS; ((first | with_reducible refine heq _) <;> (first | (simp (maxDischargeDepth := 9) -implicitDefEqProofs -dsimp only [go_sem, seval, *]; done) | omega | ((with_reducible refine Sub.get hS ?_); simp (maxDischargeDepth := 9) -implicitDefEqProofs -dsimp only [go_sem, seval, *]; done))))); (focus (first | trivial | (simp (maxDischargeDepth := 9) -implicitDefEqProofs -dsimp only [go_sem, seval, *]; done)))))
          refine loop_next _ _ _ _ (i + 1) ⟨?_, ?_, ⟨by omega, hok'⟩, by omega⟩
          · (repeat' (first | simp (maxDischargeDepth := 9) -implicitDefEqProofs -dsimp only [go_sem, seval, *] | simp (disch := omega) only [wrap64])) <;> (repeat' refine And.intro ?_ ?_) <;> (first | omega | rfl | assumption | skip)
          · (repeat' (first | simp (maxDischargeDepth := 9) -implicitDefEqProofs -dsimp only [go_sem, seval, *] | simp (disch := omega) only [wrap64])) <;> (repeat' refine And.intro ?_ ?_) <;> (first | omega | rfl | assumption | skip)
        · have hv : firstNe a b 0 = (i : Int) := by
            have := first_at a b 0 i hlt hlt' (fun j hj => hok j (by omega) (by omega) hj) hxy
            omega
          have heq := fun τ => A.ref_Bools a[i] b[i] τ hx
          rw [show decide (a[i] = b[i]) = false by simpa using hxy] at heq
          rw [hv]
          clear hok hxy har
          repeat' (first | simp (maxDischargeDepth := 9) -implicitDefEqProofs -dsimp only [go_sem, seval, List.getElem_map, List.length_map, encRow, *] | simp (disch := omega) only [wrap64] | ((with_reducible refine Zu ?_ ?_); focus omega) | ((with_reducible apply ACalls.one1); (focus ((first | with_reducible refine heq _) <;> (first | (simp (maxDischargeDepth := 9) -implicitDefEqProofs -dsimp only [go_sem, seval, *]; done) | omega))); (focus (first | trivial | with_reducible exact rfl | (simp (maxDischargeDepth := 9) -implicitDefEqProofs -dsimp only [go_sem, seval]; done)))) | ((with_reducible apply id_one0); (focus (intro tS hS; ((first | with_reducible refine heq _) <;> (first | (simp (maxDischargeDepth := 9) -implicitDefEqProofs -dsimp only [go_sem, seval, *]; done) | omega | ((with_reducible refine Sub.get hS ?_); simp (maxDischargeDepth := 9) -implicitDefEqProofs -dsimp only [go_sem, seval, *]; done))))); (focus (first | trivial | (simp (maxDischargeDepth := 9) -implicitDefEqProofs -dsimp only [go_sem, seval, *]; done)))))
          refine fin_eq ?_
          (repeat' (first | simp (maxDischargeDepth := 9) -implicitDefEqProofs -dsimp only [go_sem, seval, *] | simp (disch := omega) only [wrap64])) <;> (repeat' refine And.intro ?_ ?_) <;> (first | omega | rfl | assumption | skip)
      · have hv : firstNe a b 0 = -1 := first_no a b 0 hab fun j hj => hok j hj (by omega) (by omega)
        rw [hv]
        clear hok har
        repeat' (first | simp (maxDischargeDepth := 9) -implicitDefEqProofs -dsimp only [go_sem, seval, *] | simp (disch := omega) only [wrap64] | ((with_reducible refine Zu ?_ ?_); focus omega))
        refine fin_eq ?_
        (repeat' (first | simp (maxDischargeDepth := 9) -implicitDefEqProofs -dsimp only [go_sem, seval, *] | simp (disch := omega) only [wrap64])) <;> (repeat' refine And.intro ?_ ?_) <;> (first | omega | rfl | assumption | skip)
  · rw [if_pos h0]
    have hb' : (e1 != 0) = true := by simpa using h0
    simp only
    clear hlen
    repeat' (first | simp (maxDischargeDepth := 9) -implicitDefEqProofs -dsimp only [go_sem, seval, *] | simp (disch := omega) only [wrap64] | ((with_reducible refine Zu ?_ ?_); focus omega) | ((with_reducible apply ACalls.one1); (focus ((first | with_reducible refine ref_checks g h _ hg hh | with_reducible refine c1 _) <;> (first | (simp (maxDischargeDepth := 9) -implicitDefEqProofs -dsimp only [go_sem, seval, *]; done) | omega))); (focus (first | trivial | with_reducible exact rfl | (simp (maxDischargeDepth := 9) -implicitDefEqProofs -dsimp only [go_sem, seval]; done)))))
    refine fin_eq ?_
    (repeat' (first | simp (maxDischargeDepth := 9) -implicitDefEqProofs -dsimp only [go_sem, seval, *] | simp (disch := omega) only [wrap64])) <;> (repeat' refine And.intro ?_ ?_) <;> (first | omega | rfl | assumption | skip)
end Go.Proofs.Ytjichkelfhcbcaa

