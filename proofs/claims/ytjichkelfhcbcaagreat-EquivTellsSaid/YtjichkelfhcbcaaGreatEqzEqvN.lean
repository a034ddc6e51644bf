/- equiv: contract of the document's Forks. -/
import Derived.Test.YtjichkelfhcbcaaGreatEqTrace
set_option linter.unusedSimpArgs false
set_option linter.unusedVariables false
namespace Go.Proofs.YtjichkelfhcbcaaGreat
open Abs Fil Fil.Eqv
open Bd (D encB encF)
theorem eq_Same_err (g h : Aig) (e : Int) (hg : Wf g) (hh : Wf h) (he : chk2 g h = e) (h0 : e ≠ 0) (σ : Sig) :
    ACalls Tryz.prog 6 [encAig g, encAig h] σ (fun r σ' => r = .ret (.tup [.bool false, .slice [] .no, .slice [] .no, .int .i64 e]) ∧ σ' = σ) := by
  refine calls_x mixed Tryz.func6 b6 n6 rfl q6 (by simp) ?_; unfold c6 r6
  have hb : (e != 0) = true := by simpa using h0
  repeat' (first | simp (maxDischargeDepth := 9) -implicitDefEqProofs -dsimp only [go_sem, seval, List.map_nil, *] | ((with_reducible refine Zt (fun oF hoF hnF hnF' => ?_)); clear hnF hnF'; (try simp only [Zw, ne_eq] at hoF)) | ((with_reducible apply ACalls.one1); (focus ((first | with_reducible refine eq_Miter_err g h e hg hh he h0 _) <;> (first | (simp (maxDischargeDepth := 9) -implicitDefEqProofs -dsimp only [go_sem, seval, *]; done) | omega))); (focus (first | trivial | with_reducible exact rfl | (simp (maxDischargeDepth := 9) -implicitDefEqProofs -dsimp only [go_sem, seval]; done)))))
  refine fin_eq ?_
  (repeat' (first | simp (maxDischargeDepth := 9) -implicitDefEqProofs -dsimp only [go_sem, seval, *])) <;> (repeat' refine And.intro ?_ ?_) <;> (first | omega | rfl | assumption | skip)
theorem eq_Same_arg (g h : Aig) (hg : Wf g) (hh : Wf h) (he : chk2 g h = 0) (h0 : ¬ (g.ins = h.ins ∧ g.flops.length = h.flops.length ∧ g.outs.length = h.outs.length)) (σ : Sig) :
    ACalls Tryz.prog 6 [encAig g, encAig h] σ (fun r σ' => r = .ret (.tup [.bool false, .slice [] .no, .slice [] .no, .int .i64 1]) ∧ σ' = σ) := by
  refine calls_x mixed Tryz.func6 b6 n6 rfl q6 (by simp) ?_; unfold c6 r6
  have hb : ((1 : Int) != 0) = true := by decide
  repeat' (first | simp (maxDischargeDepth := 9) -implicitDefEqProofs -dsimp only [go_sem, seval, List.map_nil, *] | ((with_reducible refine Zt (fun oF hoF hnF hnF' => ?_)); clear hnF hnF'; (try simp only [Zw, ne_eq] at hoF)) | ((with_reducible apply ACalls.one1); (focus ((first | with_reducible refine eq_Miter_arg g h hg hh he h0 _) <;> (first | (simp (maxDischargeDepth := 9) -implicitDefEqProofs -dsimp only [go_sem, seval, *]; done) | omega))); (focus (first | trivial | with_reducible exact rfl | (simp (maxDischargeDepth := 9) -implicitDefEqProofs -dsimp only [go_sem, seval]; done)))))
  refine fin_eq ?_
  (repeat' (first | simp (maxDischargeDepth := 9) -implicitDefEqProofs -dsimp only [go_sem, seval, *])) <;> (repeat' refine And.intro ?_ ?_) <;> (first | omega | rfl | assumption | skip)
theorem eq_Same (g h : Aig) (t : Two g h) (σ : Sig) :
    ACalls Tryz.prog 6 [encAig g, encAig h] σ (fun r σ' => r = .ret (.tup [.bool (sameS g h).1, .slice ((sameS g h).2.1.map encBool) .no, .slice ((sameS g h).2.2.map encBool) .no, .int .i64 0]) ∧ σ' = σ) := by
  refine calls_x mixed Tryz.func6 b6 n6 rfl q6 (by simp) ?_; unfold c6 r6
  have ez : ((0 : Int) != 0) = false := by decide
  have hm := (miter_ok t).1
  have hfl : (forksS (miterM g h)).2.length = 1 + g.flops.length := by
    rw [forks_len, (miter_ok t).2.2.2.1, (miter_ok t).2.2.1]; simp
  have hlo := t.gg.lo
  have h8 := t.gg.eight
  have hn := node_ok t (w := List.replicate (g.ins + g.flops.length).toNat false) (by rw [zeros]; omega)
  have hroom := (hn.1.room (by omega)).2.2.2
  have hM := fun τ => eq_Miter g h t τ
  have hF := fun τ => eq_Forks (miterM g h) hm τ
  obtain ⟨l, hl⟩ : ∃ l, (forksS (miterM g h)).2 = l := ⟨_, rfl⟩
  obtain ⟨b, hb⟩ : ∃ b, (forksS (miterM g h)).1 = b := ⟨_, rfl⟩
  have hnode : nodeS g h = (b, l.getD 0 0) := by unfold nodeS; rw [hl, hb]
  rw [hl] at hfl
  rw [hl, hb] at hF
  rw [hnode] at hroom
  have hl0 : 0 < l.length := by omega
  have hg0 : l[0] = l.getD 0 0 := by simp [List.getD_eq_getElem?_getD, hl0]
  have hll : l.length ≤ 10 := by omega
  obtain ⟨x, hx⟩ : ∃ x, l.getD 0 0 = x := ⟨_, rfl⟩
  rw [hx] at hnode hg0
  have hO := fun τ => B.bdd_One b x τ hroom
  by_cases hy : x = 0
  · have hs : sameS g h = (true, [], []) := by unfold sameS; rw [hnode, if_pos hy]
    have h1 := (same_yes t (by rw [hnode]; exact hy)).1
    rw [hnode] at h1
    simp only at h1
    rw [h1] at hO
    rw [hs]
    clear h1 hs hn hm hl hb hnode hx hfl
    repeat' (first | simp (maxDischargeDepth := 9) -implicitDefEqProofs -dsimp only [go_sem, seval, List.map_nil, *] | ((with_reducible refine Zv ?_ ?_); focus (first | omega | exact rfl)) | ((with_reducible refine Zu ?_ ?_); focus omega) | ((with_reducible refine Zt (fun oF hoF hnF hnF' => ?_)); clear hnF hnF'; (try simp only [Zw, ne_eq] at hoF)) | ((with_reducible apply ACalls.one1); (focus ((first | with_reducible refine hM _ | with_reducible refine hF _ | with_reducible refine hO _ | with_reducible refine ACalls.flA (hM _) ?_ | with_reducible refine ACalls.flA (hF _) ?_ | with_reducible refine ACalls.flA (hO _) ?_) <;> (first | (simp (maxDischargeDepth := 9) -implicitDefEqProofs -dsimp only [go_sem, seval, *]; done) | omega))); (focus (first | trivial | with_reducible exact rfl | (simp (maxDischargeDepth := 9) -implicitDefEqProofs -dsimp only [go_sem, seval]; done)))) | ((with_reducible apply id_one0); (focus (intro tS hS; ((first | with_reducible refine hM _ | with_reducible refine hF _ | with_reducible refine hO _ | with_reducible refine ACalls.flA (hM _) ?_ | with_reducible refine ACalls.flA (hF _) ?_ | with_reducible refine ACalls.flA (hO _) ?_) <;> (first | (simp (maxDischargeDepth := 9) -implicitDefEqProofs -dsimp only [go_sem, seval, *]; done) | omega | ((with_reducible refine Sub.get hS ?_); simp (maxDischargeDepth := 9) -implicitDefEqProofs -dsimp only [go_sem, seval, *]; done))))); (focus (first | trivial | (simp (maxDischargeDepth := 9) -implicitDefEqProofs -dsimp only [go_sem, seval, *]; done)))))
    refine fin_eq ?_
    (repeat' (first | simp (maxDischargeDepth := 9) -implicitDefEqProofs -dsimp only [go_sem, seval, *])) <;> (repeat' refine And.intro ?_ ?_) <;> (first | omega | rfl | assumption | skip)
  · obtain ⟨w, h1, h2, _⟩ := same_no t (by rw [hnode]; exact hy)
    have hs : sameS g h = (false, w.take g.ins.toNat, w.drop g.ins.toNat) := by
      unfold sameS
      rw [hnode, if_neg hy]
      rw [hnode] at h1
      simp only at h1 ⊢
      rw [h1]
    rw [hnode] at h1
    simp only at h1
    rw [h1] at hO
    rw [hs]
    have hw : g.ins ≤ w.length := by omega
    have m1 : List.take g.ins.toNat (w.map encBool) = (w.take g.ins.toNat).map encBool := List.map_take.symm
    have m2 : List.drop g.ins.toNat (w.map encBool) = (w.drop g.ins.toNat).map encBool := List.map_drop.symm
    clear h1 hs hn hm hl hb hnode hx hfl
    repeat' (first | simp (maxDischargeDepth := 9) -implicitDefEqProofs -dsimp only [go_sem, seval, *] | ((with_reducible refine Zv ?_ ?_); focus (first | omega | exact rfl)) | ((with_reducible refine Zu ?_ ?_); focus omega) | ((with_reducible refine Zt (fun oF hoF hnF hnF' => ?_)); clear hnF hnF'; (try simp only [Zw, ne_eq] at hoF)) | ((with_reducible apply ACalls.one1); (focus ((first | with_reducible refine hM _ | with_reducible refine hF _ | with_reducible refine hO _ | with_reducible refine ACalls.flA (hM _) ?_ | with_reducible refine ACalls.flA (hF _) ?_ | with_reducible refine ACalls.flA (hO _) ?_) <;> (first | (simp (maxDischargeDepth := 9) -implicitDefEqProofs -dsimp only [go_sem, seval, *]; done) | omega))); (focus (first | trivial | with_reducible exact rfl | (simp (maxDischargeDepth := 9) -implicitDefEqProofs -dsimp only [go_sem, seval]; done)))) | ((with_reducible apply id_one0); (focus (intro tS hS; ((first | with_reducible refine hM _ | with_reducible refine hF _ | with_reducible refine hO _ | with_reducible refine ACalls.flA (hM _) ?_ | with_reducible refine ACalls.flA (hF _) ?_ | with_reducible refine ACalls.flA (hO _) ?_) <;> (first | (simp (maxDischargeDepth := 9) -implicitDefEqProofs -dsimp only [go_sem, seval, *]; done) | omega | ((with_reducible refine Sub.get hS ?_); simp (maxDischargeDepth := 9) -implicitDefEqProofs -dsimp only [go_sem, seval, *]; done))))); (focus (first | trivial | (simp (maxDischargeDepth := 9) -implicitDefEqProofs -dsimp only [go_sem, seval, *]; done)))))
    refine fin_eq ?_
    (repeat' (first | simp (maxDischargeDepth := 9) -implicitDefEqProofs -dsimp only [go_sem, seval, *])) <;> (repeat' refine And.intro ?_ ?_) <;> (first | omega | rfl | assumption | skip)
theorem sl_equalBool (a b : List Bool) (σ : Sig) (ha : a.length ≤ 1000000000) :
    ACalls Tryz.prog 35 [.slice (a.map encBool) .no, .slice (b.map encBool) .no] σ (fun r σ' => r = .ret (.bool (decide (a = b))) ∧ σ' = σ) := by
  refine calls_x mixed Tryz.func35 b35 n35 rfl q35 (by simp) ?_; unfold c35 r35
  by_cases hl : a.length = b.length
  · have hlb : ((a.length : Int) != b.length) = false := by simp [hl]
    have hl' := And.intro (Nat.le_of_eq hl) (Nat.le_of_eq hl.symm)
    clear hl
    repeat' (first | simp (maxDischargeDepth := 9) -implicitDefEqProofs -dsimp only [go_sem, seval, *] | simp (disch := omega) only [wrap64] | ((with_reducible refine Zu ?_ ?_); focus omega))
    refine loop_rule (fun i : Nat => [(13, some (.int .i64 i)), (12, some (.int .i64 a.length)), (0, some (.slice (a.map encBool) .no)), (1, some (.slice (b.map encBool) .no))]) (fun _ => σ) (fun i => i ≤ a.length ∧ ∀ j, (hj : j < a.length) → j < i → a[j] = b[j]) (fun i => a.length - i) 0 ?_ ?_
    · (repeat' (first | simp (maxDischargeDepth := 9) -implicitDefEqProofs -dsimp only [go_sem, seval, *] | simp (disch := omega) only [wrap64])) <;> (repeat' refine And.intro ?_ ?_) <;> (first | omega | rfl | assumption | skip)
    · rintro i ⟨hi, hok⟩
      by_cases hlt : i < a.length
      · have hlt' : i < b.length := by omega
        obtain ⟨x, hx⟩ : ∃ x, a[i] = x := ⟨_, rfl⟩
        obtain ⟨y, hy⟩ : ∃ y, b[i] = y := ⟨_, rfl⟩
        by_cases he : x = y
        · subst he
          have hok' : ∀ j : Nat, (hj : j < a.length) → j < i + 1 → a[j] = b[j] := fun j hj hji => by
            rcases Nat.lt_or_ge j i with c | c
            · exact hok j hj c
            · obtain rfl : j = i := by omega
              rw [hx, hy]
          clear hok
          repeat' (first | simp (maxDischargeDepth := 9) -implicitDefEqProofs -dsimp only [go_sem, seval, *] | simp (disch := omega) only [wrap64] | ((with_reducible refine Zu ?_ ?_); focus omega))
          refine loop_next _ _ _ _ (i + 1) ⟨?_, ?_, ⟨by omega, hok'⟩, by omega⟩
          · (repeat' (first | simp (maxDischargeDepth := 9) -implicitDefEqProofs -dsimp only [go_sem, seval, *] | simp (disch := omega) only [wrap64])) <;> (repeat' refine And.intro ?_ ?_) <;> (first | omega | rfl | assumption | skip)
          · (repeat' (first | simp (maxDischargeDepth := 9) -implicitDefEqProofs -dsimp only [go_sem, seval, *] | simp (disch := omega) only [wrap64])) <;> (repeat' refine And.intro ?_ ?_) <;> (first | omega | rfl | assumption | skip)
        · have hv : decide (a = b) = false := by simp; intro e; exact he (by rw [← hx, ← hy]; simp only [e])
          have hb : (x == y) = false := by simpa using he
          rw [hv]
          clear hok
          repeat' (first | simp (maxDischargeDepth := 9) -implicitDefEqProofs -dsimp only [go_sem, seval, *] | simp (disch := omega) only [wrap64] | ((with_reducible refine Zu ?_ ?_); focus omega))
          refine fin_eq ?_
          (repeat' (first | simp (maxDischargeDepth := 9) -implicitDefEqProofs -dsimp only [go_sem, seval, *] | simp (disch := omega) only [wrap64])) <;> (repeat' refine And.intro ?_ ?_) <;> (first | omega | rfl | assumption | skip)
      · have hv : decide (a = b) = true := by simp; exact List.ext_getElem (by omega) fun j hj _ => hok j hj (by omega)
        rw [hv]
        clear hok
        repeat' (first | simp (maxDischargeDepth := 9) -implicitDefEqProofs -dsimp only [go_sem, seval, *] | simp (disch := omega) only [wrap64] | ((with_reducible refine Zu ?_ ?_); focus omega))
        refine fin_eq ?_
        (repeat' (first | simp (maxDischargeDepth := 9) -implicitDefEqProofs -dsimp only [go_sem, seval, *] | simp (disch := omega) only [wrap64])) <;> (repeat' refine And.intro ?_ ?_) <;> (first | omega | rfl | assumption | skip)
  · have hb : ((a.length : Int) != b.length) = true := by simp; omega
    have hv : decide (a = b) = false := by simp; intro e; exact hl (by rw [e])
    rw [hv]
    repeat' (first | simp (maxDischargeDepth := 9) -implicitDefEqProofs -dsimp only [go_sem, seval, *] | simp (disch := omega) only [wrap64] | ((with_reducible refine Zu ?_ ?_); focus omega))
    refine fin_eq ?_
    (repeat' (first | simp (maxDischargeDepth := 9) -implicitDefEqProofs -dsimp only [go_sem, seval, *] | simp (disch := omega) only [wrap64])) <;> (repeat' refine And.intro ?_ ?_) <;> (first | omega | rfl | assumption | skip)
theorem eq_Trace (g h : Aig) (ins : List (List Bool)) (σ : Sig) (hg : Wf g) (hh : Wf h) (hi : ins.length ≤ 1000000) (he : chk2 g h = 0) (h1 : g.ins = h.ins) (h2 : g.outs.length = h.outs.length)
    (hlen : (g.Run ins).2 = 0 → (g.Run ins).1.length ≤ (h.Run ins).1.length) (hal : (g.Run ins).1.length ≤ 1000000) (har : ∀ x ∈ (g.Run ins).1, x.length ≤ 1000000000) :
    ACalls Tryz.prog 11 [encAig g, encAig h, .slice (ins.map (encRow encBool)) .no] σ (fun r σ' => r = .ret (.tup [.int .i64 (traceS g h ins).1, .int .i64 (traceS g h ins).2]) ∧ σ' = σ) := by
  refine calls_x mixed Tryz.func11 b11 n11 rfl q11 (by simp) ?_; unfold c11 r11
  have ez : ((0 : Int) != 0) = false := by decide
  have hb1 : (g.ins != h.ins) = false := by simpa using h1
  have hb2 : ((g.outs.length : Int) != h.outs.length) = false := by simp [h2]
  have c1 := fun τ => A.aig_Run g ins τ hg hi
  have c2 := fun τ => A.aig_Run h ins τ hh hi
  obtain ⟨⟨a, e1⟩, ha⟩ : ∃ p, g.Run ins = p := ⟨_, rfl⟩
  obtain ⟨⟨b, e2⟩, hb⟩ : ∃ p, h.Run ins = p := ⟨_, rfl⟩
  have htr : traceS g h ins = if e1 ≠ 0 then (0, e1) else (firstNe a b 0, 0) := by unfold traceS; rw [ha, hb]
  rw [ha] at c1 hlen hal har
  rw [hb] at c2 hlen
  simp only at hlen hal har
  rw [htr]
  clear ha hb htr h1 h2
  by_cases h0 : e1 = 0
  · subst h0
    have hab := hlen rfl
    rw [if_neg (by simp)]
    simp only
    clear hlen
    repeat' (first | simp (maxDischargeDepth := 9) -implicitDefEqProofs -dsimp only [go_sem, seval, *] | simp (disch := omega) only [wrap64] | ((with_reducible refine Zu ?_ ?_); focus omega) | ((with_reducible apply ACalls.one1); (focus ((first | with_reducible refine eq_checked g h _ hg hh | with_reducible refine c1 _ | with_reducible refine c2 _ | with_reducible refine ACalls.flA (eq_checked g h _ hg hh) ?_ | with_reducible refine ACalls.flA (c1 _) ?_ | with_reducible refine ACalls.flA (c2 _) ?_) <;> (first | (simp (maxDischargeDepth := 9) -implicitDefEqProofs -dsimp only [go_sem, seval, *]; done) | omega))); (focus (first | trivial | with_reducible exact rfl | (simp (maxDischargeDepth := 9) -implicitDefEqProofs -dsimp only [go_sem, seval]; done)))))
    refine loop_rule (fun i : Nat => [(53, some (.int .i64 i)), (52, some (.int .i64 a.length)), (51, some (.slice (a.map (encRow encBool)) .no)), (11, some (.slice (b.map (encRow encBool)) .no)), (10, some (.int .i64 0))])
      (fun _ => σ) (fun i => i ≤ a.length ∧ ∀ j, (hj : j < a.length) → (hj' : j < b.length) → j < i → a[j] = b[j]) (fun i => a.length - i) 0 ?_ ?_
    · (repeat' (first | simp (maxDischargeDepth := 9) -implicitDefEqProofs -dsimp only [go_sem, seval, *] | simp (disch := omega) only [wrap64])) <;> (repeat' refine And.intro ?_ ?_) <;> (first | omega | rfl | assumption | skip)
    · rintro i ⟨hi', hok⟩
      by_cases hlt : i < a.length
      · have hlt' : i < b.length := by omega
        have hx : a[i].length ≤ 1000000000 := har _ (List.getElem_mem hlt)
        by_cases hxy : a[i] = b[i]
        · have hok' : ∀ j, (hj : j < a.length) → (hj' : j < b.length) → j < i + 1 → a[j] = b[j] := fun j hj hj' hji => by
            rcases Nat.lt_or_ge j i with c | c
            · exact hok j hj hj' c
            · obtain rfl : j = i := by omega
              exact hxy
          have heq := fun τ => sl_equalBool a[i] b[i] τ hx
          rw [show decide (a[i] = b[i]) = true by simpa using hxy] at heq
          clear hok hxy har
          repeat' (first | simp (maxDischargeDepth := 9) -implicitDefEqProofs -dsimp only [go_sem, seval, List.getElem_map, *] | simp (disch := omega) only [wrap64] | ((with_reducible refine Zu ?_ ?_); focus omega) | ((with_reducible apply ACalls.one1); (focus ((first | with_reducible refine heq _ | with_reducible refine ACalls.flA (heq _) ?_) <;> (first | (simp (maxDischargeDepth := 9) -implicitDefEqProofs -dsimp only [go_sem, seval, *]; done) | omega))); (focus (first | trivial | with_reducible exact rfl | (simp (maxDischargeDepth := 9) -implicitDefEqProofs -dsimp only [go_sem, seval]; done)))))
          refine loop_next _ _ _ _ (i + 1) ⟨?_, ?_, ⟨by omega, hok'⟩, by omega⟩
          · (repeat' (first | simp (maxDischargeDepth := 9) -implicitDefEqProofs -dsimp only [go_sem, seval, *] | simp (disch := omega) only [wrap64])) <;> (repeat' refine And.intro ?_ ?_) <;> (first | omega | rfl | assumption | skip)
          · (repeat' (first | simp (maxDischargeDepth := 9) -implicitDefEqProofs -dsimp only [go_sem, seval, *] | simp (disch := omega) only [wrap64])) <;> (repeat' refine And.intro ?_ ?_) <;> (first | omega | rfl | assumption | skip)
        · have hv : firstNe a b 0 = (i : Int) := by
            have := first_at a b 0 i hlt hlt' (fun j hj => hok j (by omega) (by omega) hj) hxy
            omega
          have heq := fun τ => sl_equalBool a[i] b[i] τ hx
          rw [show decide (a[i] = b[i]) = false by simpa using hxy] at heq
          rw [hv]
          clear hok hxy har
          repeat' (first | simp (maxDischargeDepth := 9) -implicitDefEqProofs -dsimp only [go_sem, seval, List.getElem_map, *] | simp (disch := omega) only [wrap64] | ((with_reducible refine Zu ?_ ?_); focus omega) | ((with_reducible apply ACalls.one1); (focus ((first | with_reducible refine heq _ | with_reducible refine ACalls.flA (heq _) ?_) <;> (first | (simp (maxDischargeDepth := 9) -implicitDefEqProofs -dsimp only [go_sem, seval, *]; done) | omega))); (focus (first | trivial | with_reducible exact rfl | (simp (maxDischargeDepth := 9) -implicitDefEqProofs -dsimp only [go_sem, seval]; done)))))
          refine fin_eq ?_
          (repeat' (first | simp (maxDischargeDepth := 9) -implicitDefEqProofs -dsimp only [go_sem, seval, *] | simp (disch := omega) only [wrap64])) <;> (repeat' refine And.intro ?_ ?_) <;> (first | omega | rfl | assumption | skip)
      · have hv : firstNe a b 0 = -1 := first_no a b 0 hab fun j hj => hok j hj (by omega) (by omega)
        rw [hv]
        clear hok har
        repeat' (first | simp (maxDischargeDepth := 9) -implicitDefEqProofs -dsimp only [go_sem, seval, *] | simp (disch := omega) only [wrap64] | ((with_reducible refine Zu ?_ ?_); focus omega))
        refine fin_eq ?_
        (repeat' (first | simp (maxDischargeDepth := 9) -implicitDefEqProofs -dsimp only [go_sem, seval, *] | simp (disch := omega) only [wrap64])) <;> (repeat' refine And.intro ?_ ?_) <;> (first | omega | rfl | assumption | skip)
  · rw [if_pos h0]
    have hb' : (e1 != 0) = true := by simpa using h0
    simp only
    clear hlen
    repeat' (first | simp (maxDischargeDepth := 9) -implicitDefEqProofs -dsimp only [go_sem, seval, *] | simp (disch := omega) only [wrap64] | ((with_reducible refine Zu ?_ ?_); focus omega) | ((with_reducible apply ACalls.one1); (focus ((first | with_reducible refine eq_checked g h _ hg hh | with_reducible refine c1 _ | with_reducible refine ACalls.flA (eq_checked g h _ hg hh) ?_ | with_reducible refine ACalls.flA (c1 _) ?_) <;> (first | (simp (maxDischargeDepth := 9) -implicitDefEqProofs -dsimp only [go_sem, seval, *]; done) | omega))); (focus (first | trivial | with_reducible exact rfl | (simp (maxDischargeDepth := 9) -implicitDefEqProofs -dsimp only [go_sem, seval]; done)))))
    refine fin_eq ?_
    (repeat' (first | simp (maxDischargeDepth := 9) -implicitDefEqProofs -dsimp only [go_sem, seval, *] | simp (disch := omega) only [wrap64])) <;> (repeat' refine And.intro ?_ ?_) <;> (first | omega | rfl | assumption | skip)
end Go.Proofs.YtjichkelfhcbcaaGreat

namespace Go.Proofs.YtjichkelfhcbcaaGreat
open Abs Fil Fil.Eqv
open Bd (D encB encF)
abbrev xAnd : Aig := ⟨2, [], [(2, 4)], [6]⟩
abbrev xAgain : Aig := ⟨2, [], [(4, 2)], [6]⟩
abbrev xOr : Aig := ⟨2, [], [(3, 5)], [7]⟩
abbrev xNone : Aig := ⟨2, [], [], []⟩
theorem x_wf1 : Wf xAnd := ⟨by simp [I64], by simp, by simp, by simp, by simp, by simp [I64], by simp [I64]⟩
theorem x_wf2 : Wf xAgain := ⟨by simp [I64], by simp, by simp, by simp, by simp, by simp [I64], by simp [I64]⟩
theorem x_wf3 : Wf xOr := ⟨by simp [I64], by simp, by simp, by simp, by simp, by simp [I64], by simp [I64]⟩
theorem x_wf4 : Wf xNone := ⟨by simp [I64], by simp, by simp, by simp, by simp, by simp, by simp⟩
theorem x_ok1 : Ok xAnd := ⟨x_wf1, by decide, by simp, by simp, by simp⟩
theorem x_ok2 : Ok xAgain := ⟨x_wf2, by decide, by simp, by simp, by simp⟩
theorem x_ok3 : Ok xOr := ⟨x_wf3, by decide, by simp, by simp, by simp⟩
theorem x_two12 : Two xAnd xAgain := ⟨x_ok1, x_ok2, rfl, rfl, rfl, by simp⟩
theorem x_two13 : Two xAnd xOr := ⟨x_ok1, x_ok3, rfl, rfl, rfl, by simp⟩
theorem x1 : sameS xAnd xAgain = (true, [], []) := by decide
set_option maxRecDepth 100000 in
theorem x2 : sameS xAnd xOr = (false, [false, true], []) := by decide
theorem x3 : forksS xAnd = ((2, [(-1, 0, 0), (-1, 0, 0), (0, 0, 1), (1, 0, 1), (0, 0, 3)]), [4]) := by decide
theorem x4 : miterM xAnd xAgain = ⟨2, [], [(2, 4)], [0]⟩ := by decide
theorem x5 : traceS xAnd xOr [[true, true], [true, false]] = (1, 0) := by decide
theorem x6 : traceS xAnd xAgain [[true, true], [true, false]] = (-1, 0) := by decide
theorem x7 : traceS xAnd xOr [[true]] = (0, 1) := by decide
set_option maxRecDepth 20000 in
set_option maxHeartbeats 8000000 in
theorem law_live (σ : Sig) : ACalls Tryz.prog 4 [] σ (fun r σ' => r = .ret (.bool true) ∧ σ' = σ) := by
  refine calls_x mixed Tryz.func4 b4 n4 rfl q4 (by simp) ?_; unfold c4 r4
  have c1 := fun τ => eq_Same xAnd xAgain x_two12 τ
  have c2 := fun τ => eq_Same xAnd xOr x_two13 τ
  have c3 := fun τ => eq_Forks xAnd x_ok1 τ
  have c4 := fun τ => eq_Miter xAnd xAgain x_two12 τ
  have c5 := fun τ => eq_Trace xAnd xOr [[true, true], [true, false]] τ x_wf1 x_wf3 (by simp) (by decide) rfl rfl (fun _ => by decide) (by decide) (by decide)
  have c6 := fun τ => eq_Trace xAnd xAgain [[true, true], [true, false]] τ x_wf1 x_wf2 (by simp) (by decide) rfl rfl (fun _ => by decide) (by decide) (by decide)
  have c7 := fun τ => eq_Trace xAnd xOr [[true]] τ x_wf1 x_wf3 (by simp) (by decide) rfl rfl (fun h => by revert h; decide) (by decide) (by decide)
  have c8 := fun τ => eq_Same_arg xAnd xNone x_wf1 x_wf4 (by decide) (by simp) τ
  rw [x1] at c1
  rw [x2] at c2
  rw [x3] at c3
  rw [x4] at c4
  rw [x5] at c5
  rw [x6] at c6
  rw [x7] at c7
  repeat' (first | simp (maxDischargeDepth := 9) -implicitDefEqProofs -dsimp only [go_sem, seval, List.map_cons, List.map_nil, *] | ((with_reducible refine Zt (fun oF hoF hnF hnF' => ?_)); clear hnF hnF'; (try simp only [Zw, ne_eq] at hoF)) | ((with_reducible apply ACalls.one1); (focus (first | ((first | with_reducible refine c1 _ | with_reducible refine c2 _ | with_reducible refine c3 _ | with_reducible refine c4 _ | with_reducible refine c5 _ | with_reducible refine c6 _ | with_reducible refine c7 _ | with_reducible refine c8 _) <;> (first | (simp (maxDischargeDepth := 9) -implicitDefEqProofs -dsimp only [go_sem, seval, *]; done) | omega)) | (with_reducible refine ACalls.flA (c1 _) ?_ <;> (first | (simp (maxDischargeDepth := 9) -implicitDefEqProofs -dsimp only [go_sem, seval, *]; done) | omega)) | (with_reducible refine ACalls.flA (c2 _) ?_ <;> (first | (simp (maxDischargeDepth := 9) -implicitDefEqProofs -dsimp only [go_sem, seval, *]; done) | omega)) | (with_reducible refine ACalls.flA (c3 _) ?_ <;> (first | (simp (maxDischargeDepth := 9) -implicitDefEqProofs -dsimp only [go_sem, seval, *]; done) | omega)) | (with_reducible refine ACalls.flA (c4 _) ?_ <;> (first | (simp (maxDischargeDepth := 9) -implicitDefEqProofs -dsimp only [go_sem, seval, *]; done) | omega)) | (with_reducible refine ACalls.flA (c5 _) ?_ <;> (first | (simp (maxDischargeDepth := 9) -implicitDefEqProofs -dsimp only [go_sem, seval, *]; done) | omega)) | (with_reducible refine ACalls.flA (c6 _) ?_ <;> (first | (simp (maxDischargeDepth := 9) -implicitDefEqProofs -dsimp only [go_sem, seval, *]; done) | omega)) | (with_reducible refine ACalls.flA (c7 _) ?_ <;> (first | (simp (maxDischargeDepth := 9) -implicitDefEqProofs -dsimp only [go_sem, seval, *]; done) | omega)) | (with_reducible refine ACalls.flA (c8 _) ?_ <;> (first | (simp (maxDischargeDepth := 9) -implicitDefEqProofs -dsimp only [go_sem, seval, *]; done) | omega)))); (focus (first | trivial | with_reducible exact rfl | (simp (maxDischargeDepth := 9) -implicitDefEqProofs -dsimp only [go_sem, seval]; done)))))
  refine fin_eq ?_
  (repeat' (first | simp (maxDischargeDepth := 9) -implicitDefEqProofs -dsimp only [go_sem, seval, *])) <;> (repeat' refine And.intro ?_ ?_) <;> (first | omega | rfl | assumption | skip)
end Go.Proofs.YtjichkelfhcbcaaGreat

namespace Fil
open Abs Go
theorem i64_min : IntKind.i64.min = -9223372036854775808 := by decide
theorem i64_max : IntKind.i64.max = 9223372036854775807 := by decide
theorem I64_of {n : Int} (h : IntKind.i64.min ≤ n ∧ n ≤ IntKind.i64.max) : I64 n := by rw [i64_min, i64_max] at h; exact h
theorem arg_int {a : AV} (h : ShV false (.int .i64) a) : ∃ n, a = encInt n ∧ I64 n := by
  obtain ⟨n, e, hn⟩ := shv_int h
  exact ⟨n, e, I64_of hn⟩
theorem arg_gate {a : AV} (h : ShV true (.row [.int .i64, .int .i64]) a) : ∃ x : Int × Int, a = encGate x ∧ I64 x.1 ∧ I64 x.2 := by
  obtain ⟨es, e, p, q, rfl, ⟨n, rfl, hn⟩, p', q', rfl, ⟨m, rfl, hm⟩, rfl⟩ := h
  simp [mkv] at e
  exact ⟨(n, m), e.symm, I64_of hn, I64_of hm⟩
theorem arg_flop {a : AV} (h : ShV true (.row [.int .i64, .bool]) a) : ∃ x : Flop, a = encFlop x ∧ I64 x.next := by
  obtain ⟨es, e, p, q, rfl, ⟨n, rfl, hn⟩, p', q', rfl, ⟨m, rfl⟩, rfl⟩ := h
  simp [mkv] at e
  exact ⟨⟨n, m⟩, e.symm, I64_of hn⟩
structure Wide (g : Aig) : Prop where
  ins : I64 g.ins
  nexts : ∀ f ∈ g.flops, I64 f.next
  gates : ∀ x ∈ g.ands, I64 x.1 ∧ I64 x.2
  lits : ∀ a ∈ g.outs, I64 a
theorem arg_aig {a : AV} (h : ShV true (.row [.int .i64, .slice true (.row [.int .i64, .bool]), .slice true (.row [.int .i64, .int .i64]), .slice false (.int .i64)]) a) : ∃ g : Aig, a = encAig g ∧ Wide g := by
  obtain ⟨es, e, p, q, rfl, ⟨n, rfl, hn⟩, p1, q1, rfl, h1, p2, q2, rfl, h2, p3, q3, rfl, h3, rfl⟩ := h
  obtain ⟨fl, rfl, _, k1⟩ := shc_slice (f := encFlop) (p := fun x : Flop => I64 x.next) h1 fun x hx => arg_flop hx
  obtain ⟨an, rfl, _, k2⟩ := shc_slice (f := encGate) (p := fun x : Int × Int => I64 x.1 ∧ I64 x.2) h2 fun x hx => arg_gate hx
  obtain ⟨ou, rfl, _, k3⟩ := shc_slice (f := encInt) (p := I64) h3 fun x hx => arg_int hx
  simp [mkv] at e
  exact ⟨⟨n, fl, an, ou⟩, e.symm, I64_of hn, k1, k2, k3⟩
def Few (g : Aig) : Prop := g.ins ≤ 200 ∧ g.flops.length ≤ 200 ∧ g.ands.length ≤ 1000 ∧ g.outs.length ≤ 200
end Fil

namespace Fil.Eqv
open Abs Go
def fewB (g : Aig) : Bool := decide (IntKind.i64.wrap (g.ins + g.flops.length) ≤ 8) && decide (-1 ≤ g.ins) && decide (g.flops.length ≤ 8) && decide (g.ands.length ≤ 40) && decide (g.outs.length ≤ 10)
theorem few_spec {g : Aig} (h : fewB g = true) (hw : Wide g) : Wf g ∧ g.flops.length ≤ 8 ∧ g.ands.length ≤ 40 ∧ g.outs.length ≤ 10 ∧ (g.check = 0 → Ok g) := by
  simp only [fewB, Bool.and_eq_true, decide_eq_true_eq] at h
  obtain ⟨⟨⟨⟨h1, h2⟩, h3⟩, h4⟩, h5⟩ := h
  have hwf : Wf g := ⟨hw.ins, by omega, by omega, by omega, hw.nexts, hw.gates, hw.lits⟩
  refine ⟨hwf, h3, h4, h5, fun hc => ⟨hwf, hc, ?_, by omega, by omega⟩⟩
  have hs := check_small hwf hc
  have := hs.hi
  have := hs.lo
  rw [wrap64 _ (by omega) (by omega)] at h1
  exact h1
def chk2' (g h : Aig) : Int := if g.check ≠ 0 then g.check else h.check
theorem two_cases {g h : Aig} (hg : fewB g = true) (hh : fewB h = true) (wg : Wide g) (wh : Wide h) :
    chk2' g h ≠ 0 ∨ (chk2' g h = 0 ∧ ¬ (g.ins = h.ins ∧ g.flops.length = h.flops.length ∧ g.outs.length = h.outs.length)) ∨ Two g h := by
  obtain ⟨_, _, a1, _, g1⟩ := few_spec hg wg
  obtain ⟨_, _, a2, _, h1⟩ := few_spec hh wh
  by_cases c : chk2' g h = 0
  · by_cases s : g.ins = h.ins ∧ g.flops.length = h.flops.length ∧ g.outs.length = h.outs.length
    · right; right
      unfold chk2' at c
      split at c
      · rename_i hne; exact absurd c hne
      · rename_i hz
        exact ⟨g1 (by simpa using hz), h1 c, s.1, s.2.1, s.2.2, by omega⟩
    · exact .inr (.inl ⟨c, s⟩)
  · exact .inl c
end Fil.Eqv

namespace Go.Proofs.YtjichkelfhcbcaaGreat
open Abs Fil Fil.Eqv
open Bd (D encB encF)
theorem law_few (g : Aig) (σ : Sig) : ACalls Tryz.prog 5 [encAig g] σ (fun r σ' => r = .ret (.bool (fewB g)) ∧ σ' = σ) := by
  refine calls_x mixed Tryz.func5 b5 n5 rfl q5 (by simp) ?_; unfold c5 r5
  unfold fewB
  obtain ⟨w, hw⟩ : ∃ w, IntKind.i64.wrap (g.ins + g.flops.length) = w := ⟨_, rfl⟩
  rw [hw]
  repeat' (first | simp (maxDischargeDepth := 9) -implicitDefEqProofs -dsimp only [go_sem, seval, ge_iff_le, *] | (with_reducible (first | apply Za) <;> intro hq))
  all_goals refine fin_eq ?_
  all_goals (repeat' (first | simp (maxDischargeDepth := 9) -implicitDefEqProofs -dsimp only [go_sem, seval, *])) <;> (repeat' refine And.intro ?_ ?_) <;> (first | omega | rfl | assumption | skip)
  all_goals (rw [Bool.eq_iff_iff]; simp only [Bool.and_eq_true, decide_eq_true_eq, Bool.false_eq_true]; constructor <;> intro hh <;> first | exact hh.elim | omega)
end Go.Proofs.YtjichkelfhcbcaaGreat

namespace Go.Proofs.YtjichkelfhcbcaaGreat.B
open Abs Fil Fil.Bd
theorem ref_same' (a b : List Bool) (B : Bool) (hB : decide (a = b) = B) (σ : Sig) (h : a.length = b.length) (hl : a.length ≤ 9223372036854775807) :
    ACalls Tryz.prog 108 [.slice (a.map encBool) .no, .slice (b.map encBool) .no] σ (fun r σ' => r = .ret (.bool B) ∧ σ' = σ) := by
  subst hB
  exact ref_same a b σ h hl
set_option maxHeartbeats 1000000 in
theorem ref_put : ∀ (k : Nat) (vars : Int) (F : List T3) (v : Int) (t : List Bool) (σ : Sig), t.length = 2 ^ k → 2 ≤ F.length → F.length + 2 ^ k ≤ 1099511627776 → 0 ≤ v → v + k ≤ 1000 →
    ACalls Tryz.prog 105 [encB vars F, .slice (t.map encBool) .no, .int .i64 v] σ (fun r σ' => r = .ret (.tup [encB vars (put k F v t).1, .int .i64 (put k F v t).2]) ∧ σ' = σ)
  | 0, vars, F, v, t, σ, ht, h2, hF, hv, hv1 => by
    obtain ⟨x, rfl⟩ : ∃ x, t = [x] := by
      match t, ht with
      | [x], _ => exact ⟨x, rfl⟩
    refine calls_x mixed Tryz.func105 b105 n105 rfl q105 (by simp) ?_; unfold c105 r105
    clear ht
    cases x with
    | true =>
      have hw : put 0 F v [true] = (F, 1) := rfl
      rw [hw]
      repeat' (first | simp (maxDischargeDepth := 9) -implicitDefEqProofs -dsimp only [go_sem, seval, List.map_cons, List.map_nil, *] | simp (disch := omega) only [wrap64, tdiv2] | (with_reducible (first | apply Zs) <;> intro hq) | ((with_reducible refine Zv ?_ ?_); focus (first | omega | exact rfl)) | ((with_reducible refine Zt (fun oF hoF hnF hnF' => ?_)); clear hnF hnF'; (try simp only [Zw, ne_eq] at hoF)))
      refine fin_eq ?_
      (repeat' (first | simp (maxDischargeDepth := 9) -implicitDefEqProofs -dsimp only [go_sem, seval, *] | simp (disch := omega) only [wrap64, tdiv2])) <;> (repeat' refine And.intro ?_ ?_) <;> (first | omega | rfl | assumption | skip)
    | false =>
      have hw : put 0 F v [false] = (F, 0) := rfl
      rw [hw]
      repeat' (first | simp (maxDischargeDepth := 9) -implicitDefEqProofs -dsimp only [go_sem, seval, List.map_cons, List.map_nil, *] | simp (disch := omega) only [wrap64, tdiv2] | (with_reducible (first | apply Zs) <;> intro hq) | ((with_reducible refine Zv ?_ ?_); focus (first | omega | exact rfl)) | ((with_reducible refine Zt (fun oF hoF hnF hnF' => ?_)); clear hnF hnF'; (try simp only [Zw, ne_eq] at hoF)))
      refine fin_eq ?_
      (repeat' (first | simp (maxDischargeDepth := 9) -implicitDefEqProofs -dsimp only [go_sem, seval, *] | simp (disch := omega) only [wrap64, tdiv2])) <;> (repeat' refine And.intro ?_ ?_) <;> (first | omega | rfl | assumption | skip)
  | k + 1, vars, F, v, t, σ, ht, h2, hF, hv, hv1 => by
    refine calls_x mixed Tryz.func105 b105 n105 rfl q105 (by simp) ?_; unfold c105 r105
    have hk1 : v + 1 + k ≤ 1000 := by omega
    have hv0 : 0 ≤ v + 1 := by omega
    have hpos := Nat.two_pow_pos k
    have ih := fun G s τ => ref_put k vars G (v + 1) s τ
    have hput1 := @put_1 k F v t
    have hput2 := @put_2 k F v t
    have p1 := put_len k F (v + 1)
    have p2 := put_grow k F (v + 1)
    have p3 := fun C => put_len k C (v + 1)
    have p4 := fun C => put_grow k C (v + 1)
    rw [Nat.pow_succ] at ht hF
    obtain ⟨P, hP⟩ : ∃ P, 2 ^ k = P := ⟨_, rfl⟩
    simp only [hP] at ht hF hpos ih hput1 hput2 p1 p2 p3 p4
    have e1 : (t.take P).length = P := by simp; omega
    have e2 : (t.drop P).length = P := by simp; omega
    have hb1 : ((t.length : Int) == 1) = false := by
      rw [beq_eq_false_iff_ne]; omega
    have htl : t.length ≤ 2 * P ∧ 2 * P ≤ t.length := by omega
    have htd : (t.length : Int) / 2 = P := by omega
    have m1 : List.take P (t.map encBool) = (t.take P).map encBool := List.map_take.symm
    have m2 : List.drop P (t.map encBool) = (t.drop P).map encBool := List.map_drop.symm
    have hP1 : F.length + P ≤ 1099511627776 := by omega
    clear hP ht
    by_cases hs : t.take (P) = t.drop (P)
    · have hw := hput1 hs
      have hd : decide (t.take (P) = t.drop (P)) = true := by simpa using hs
      have hsame := fun τ => ref_same' _ _ _ hd τ (by omega) (by omega)
      rw [hw]
      clear hw hd hs hput1 hput2 p1 p2 p3 p4
      have ih' := fun τ => ih F (t.take (P)) τ e1 h2 hP1 hv0 hk1
      generalize t.take P = s1 at *
      generalize t.drop P = s2 at *
      clear ih
      repeat' (first | simp (maxDischargeDepth := 9) -implicitDefEqProofs -dsimp only [go_sem, seval, *] | simp (disch := omega) only [wrap64, tdiv2] | (with_reducible (first | apply Zs) <;> intro hq) | ((with_reducible refine Zv ?_ ?_); focus (first | omega | exact rfl)) | ((with_reducible refine Zt (fun oF hoF hnF hnF' => ?_)); clear hnF hnF'; (try simp only [Zw, ne_eq] at hoF)) | ((with_reducible apply ACalls.one1); (focus ((first | with_reducible refine hsame _ | with_reducible refine ih' _) <;> (first | (simp (maxDischargeDepth := 9) -implicitDefEqProofs -dsimp only [go_sem, seval, *]; done) | omega))); (focus (first | trivial | with_reducible exact rfl | (simp (maxDischargeDepth := 9) -implicitDefEqProofs -dsimp only [go_sem, seval]; done)))) | ((with_reducible apply id_one0); (focus (intro tS hS; ((first | with_reducible refine hsame _ | with_reducible refine ih' _) <;> (first | (simp (maxDischargeDepth := 9) -implicitDefEqProofs -dsimp only [go_sem, seval, *]; done) | omega | ((with_reducible refine Sub.get hS ?_); simp (maxDischargeDepth := 9) -implicitDefEqProofs -dsimp only [go_sem, seval, *]; done))))); (focus (first | trivial | (simp (maxDischargeDepth := 9) -implicitDefEqProofs -dsimp only [go_sem, seval, *]; done)))))
      refine fin_eq ?_
      (repeat' (first | simp (maxDischargeDepth := 9) -implicitDefEqProofs -dsimp only [go_sem, seval, *] | simp (disch := omega) only [wrap64, tdiv2])) <;> (repeat' refine And.intro ?_ ?_) <;> (first | omega | rfl | assumption | skip)
    · have hd : decide (t.take (P) = t.drop (P)) = false := by simpa using hs
      have hsame := fun τ => ref_same' _ _ _ hd τ (by omega) (by omega)
      obtain ⟨⟨C, lo⟩, hC⟩ : ∃ c, put k F (v + 1) (t.take (P)) = c := ⟨_, rfl⟩
      have p1 := p1 (t.take P)
      have p2 := p2 (t.take P)
      have p3 := p3 C (t.drop P)
      have p4 := p4 C (t.drop P)
      obtain ⟨⟨G, hi⟩, hG⟩ : ∃ c, put k C (v + 1) (t.drop (P)) = c := ⟨_, rfl⟩
      have hw := hput2 hs hC hG
      rw [hC] at p1 p2
      rw [hG] at p3 p4
      simp only at p1 p2 p3 p4
      have ih1 := fun τ => ih F (t.take (P)) τ e1 h2 hP1 hv0 hk1
      have ih2 := fun τ => ih C (t.drop (P)) τ e2 (by omega) (by omega) hv0 hk1
      rw [hC] at ih1
      rw [hG] at ih2
      clear ih hC hG hd hs hput1 hput2
      generalize t.take P = s1 at *
      generalize t.drop P = s2 at *
      have hGl : G.length ≤ 1099511627776 := by omega
      have hG0 : ¬ G.length = 0 := by omega
      obtain ⟨q, hq⟩ : ∃ q, findI G (v, lo, hi) = q := ⟨_, rfl⟩
      have hfind := fun τ => ref_find vars G (v, lo, hi) τ hGl
      rw [hq] at hfind hw
      clear hq
      rcases hw with ⟨hq0, hw⟩ | ⟨hq0, hw⟩
      · rw [hw]
        repeat' (first | simp (maxDischargeDepth := 9) -implicitDefEqProofs -dsimp only [go_sem, seval, *] | simp (disch := omega) only [wrap64, tdiv2] | (with_reducible (first | apply Zs) <;> intro hq) | ((with_reducible refine Zv ?_ ?_); focus (first | omega | exact rfl)) | ((with_reducible refine Zt (fun oF hoF hnF hnF' => ?_)); clear hnF hnF'; (try simp only [Zw, ne_eq] at hoF)) | ((with_reducible apply ACalls.one1); (focus ((first | with_reducible refine hsame _ | with_reducible refine ih1 _ | with_reducible refine ih2 _ | with_reducible refine hfind _) <;> (first | (simp (maxDischargeDepth := 9) -implicitDefEqProofs -dsimp only [go_sem, seval, *]; done) | omega))); (focus (first | trivial | with_reducible exact rfl | (simp (maxDischargeDepth := 9) -implicitDefEqProofs -dsimp only [go_sem, seval]; done)))) | ((with_reducible apply id_one0); (focus (intro tS hS; ((first | with_reducible refine hsame _ | with_reducible refine ih1 _ | with_reducible refine ih2 _ | with_reducible refine hfind _) <;> (first | (simp (maxDischargeDepth := 9) -implicitDefEqProofs -dsimp only [go_sem, seval, *]; done) | omega | ((with_reducible refine Sub.get hS ?_); simp (maxDischargeDepth := 9) -implicitDefEqProofs -dsimp only [go_sem, seval, *]; done))))); (focus (first | trivial | (simp (maxDischargeDepth := 9) -implicitDefEqProofs -dsimp only [go_sem, seval, *]; done)))))
        refine fin_eq ?_
        (repeat' (first | simp (maxDischargeDepth := 9) -implicitDefEqProofs -dsimp only [go_sem, seval, *] | simp (disch := omega) only [wrap64, tdiv2])) <;> (repeat' refine And.intro ?_ ?_) <;> (first | omega | rfl | assumption | skip)
      · rw [hw]
        subst hq0
        repeat' (first | simp (maxDischargeDepth := 9) -implicitDefEqProofs -dsimp only [go_sem, seval, *] | simp (disch := omega) only [wrap64, tdiv2] | (with_reducible (first | apply Zs) <;> intro hq) | ((with_reducible refine Zv ?_ ?_); focus (first | omega | exact rfl)) | ((with_reducible refine Zt (fun oF hoF hnF hnF' => ?_)); clear hnF hnF'; (try simp only [Zw, ne_eq] at hoF)) | ((with_reducible apply ACalls.one1); (focus ((first | with_reducible refine hsame _ | with_reducible refine ih1 _ | with_reducible refine ih2 _ | with_reducible refine hfind _) <;> (first | (simp (maxDischargeDepth := 9) -implicitDefEqProofs -dsimp only [go_sem, seval, *]; done) | omega))); (focus (first | trivial | with_reducible exact rfl | (simp (maxDischargeDepth := 9) -implicitDefEqProofs -dsimp only [go_sem, seval]; done)))) | ((with_reducible apply id_one0); (focus (intro tS hS; ((first | with_reducible refine hsame _ | with_reducible refine ih1 _ | with_reducible refine ih2 _ | with_reducible refine hfind _) <;> (first | (simp (maxDischargeDepth := 9) -implicitDefEqProofs -dsimp only [go_sem, seval, *]; done) | omega | ((with_reducible refine Sub.get hS ?_); simp (maxDischargeDepth := 9) -implicitDefEqProofs -dsimp only [go_sem, seval, *]; done))))); (focus (first | trivial | (simp (maxDischargeDepth := 9) -implicitDefEqProofs -dsimp only [go_sem, seval, *]; done)))))
        all_goals first | (exfalso; exact hG0 (by have := congrArg List.length hq; rwa [List.length_map] at this)) | (refine fin_eq ?_; (repeat' (first | simp (maxDischargeDepth := 9) -implicitDefEqProofs -dsimp only [go_sem, seval, List.map_append, List.map_cons, List.map_nil, *] | simp (disch := omega) only [wrap64, tdiv2])) <;> (repeat' refine And.intro ?_ ?_) <;> (first | omega | rfl | assumption | skip))
theorem ref_told (n : Nat) (F : List T3) (t : List Bool) (σ : Sig) (ht : t.length = 2 ^ n) (h2 : 2 ≤ F.length) (hF : F.length ≤ 65536) (hn : n ≤ 32) :
    ACalls Tryz.prog 98 [encB n F, .slice (t.map encBool) .no] σ (fun r σ' => r = .ret (.tup [encB n (put n F 0 t).1, .int .i64 (put n F 0 t).2, .int .i64 0]) ∧ σ' = σ) := by
  refine calls_x mixed Tryz.func98 b98 n98 rfl q98 (by simp) ?_; unfold c98 r98
  have hp : 2 ^ n ≤ 2 ^ 32 := Nat.pow_le_pow_right (by decide) hn
  have hput := fun τ => ref_put n n F 0 t τ ht h2 (by omega) (by omega) (by omega)
  clear hp ht
  repeat' (first | simp (maxDischargeDepth := 9) -implicitDefEqProofs -dsimp only [go_sem, seval, *] | ((with_reducible refine Zt (fun oF hoF hnF hnF' => ?_)); clear hnF hnF'; (try simp only [Zw, ne_eq] at hoF)) | ((with_reducible apply ACalls.one1); (focus ((first | with_reducible refine hput _) <;> (first | (simp (maxDischargeDepth := 9) -implicitDefEqProofs -dsimp only [go_sem, seval, *]; done) | omega))); (focus (first | trivial | with_reducible exact rfl | (simp (maxDischargeDepth := 9) -implicitDefEqProofs -dsimp only [go_sem, seval]; done)))))
  refine fin_eq ?_
  (repeat' (first | simp (maxDischargeDepth := 9) -implicitDefEqProofs -dsimp only [go_sem, seval, *])) <;> (repeat' refine And.intro ?_ ?_) <;> (first | omega | rfl | assumption | skip)
end Go.Proofs.YtjichkelfhcbcaaGreat.B

namespace Go.Proofs.YtjichkelfhcbcaaGreat.B
open Abs Fil Fil.Bd
set_option maxHeartbeats 2000000 in
theorem ref_Ite (b : D) (f g h : Int) (σ : Sig) (hl : b.2.length ≤ 9223372036854775807) :
    ACalls Tryz.prog 76 [encB b.1 b.2, .int .i64 f, .int .i64 g, .int .i64 h] σ (fun r σ' => r = .ret (.tup [encB (iteW b f g h).1.1 (iteW b f g h).1.2, .int .i64 (iteW b f g h).2.1, .int .i64 (iteW b f g h).2.2]) ∧ σ' = σ) := by
  refine ACalls.virt (callable_of Tryz.func76 b76 n76) 1 (fun oV1 hoV1 hnV1 hnV1' => ?_); (try simp only [upd_none, ne_eq, not_and] at hoV1); refine calls_x mixed Tryz.func76 b76 n76 rfl q76 (by simp) ?_; unfold c76 r76
  obtain ⟨e, he⟩ : ∃ e, chk b.1 b.2 = e := ⟨_, rfl⟩
  by_cases h0 : e = 0
  · subst h0
    have ez : ((0 : Int) != 0) = false := by decide
    have hf := chk_fine.1 he
    by_cases hout : ([f, g, h].any (outside b.2) || false) = true
    · have hw : iteW b f g h = ((0, []), 0, 1) := by unfold iteW; rw [ask_arg hf hout, op_err (by decide)]
      rw [hw]
      simp only [List.any_cons, List.any_nil, Bool.or_false, Bool.or_eq_true] at hout
      clear hw
      repeat' (first | simp (maxDischargeDepth := 9) -implicitDefEqProofs -dsimp only [go_sem, seval, List.map_nil, *] | simp (disch := omega) only [wrap64] | (with_reducible (first | apply Zq | apply Zr) <;> intro hq) | ((with_reducible refine Zv ?_ ?_); focus (first | omega | exact rfl)) | ((with_reducible refine Zu ?_ ?_); focus omega) | ((with_reducible refine Zt (fun oF hoF hnF hnF' => ?_)); clear hnF hnF'; (try simp only [Zw, ne_eq] at hoF)) | ((with_reducible apply ACalls.one1); (focus ((first | with_reducible refine ref_Check b.1 b.2 _ hl | with_reducible refine ref_node b f _ | with_reducible refine ref_node b g _ | with_reducible refine ref_node b h _ | with_reducible refine ACalls.flA (ref_Check b.1 b.2 _ hl) ?_ | with_reducible refine ACalls.flA (ref_node b f _) ?_ | with_reducible refine ACalls.flA (ref_node b g _) ?_ | with_reducible refine ACalls.flA (ref_node b h _) ?_) <;> (first | (simp (maxDischargeDepth := 9) -implicitDefEqProofs -dsimp only [go_sem, seval, *]; done) | omega))); (focus (first | trivial | with_reducible exact rfl | (simp (maxDischargeDepth := 9) -implicitDefEqProofs -dsimp only [go_sem, seval]; done)))))
      all_goals first | (refine fin_eq ?_; (repeat' (first | simp (maxDischargeDepth := 9) -implicitDefEqProofs -dsimp only [go_sem, seval, List.map_nil, *] | simp (disch := omega) only [wrap64])) <;> (repeat' refine And.intro ?_ ?_) <;> (first | omega | rfl | assumption | skip); done) | (exfalso; simp_all; done)
    · have hout' : ([f, g, h].any (outside b.2) || false) = false := by simpa using hout
      have hw : iteW b f g h = ((b.1, (put b.1.toNat b.2 0 (iteT (T b f) (T b g) (T b h))).1), (put b.1.toNat b.2 0 (iteT (T b f) (T b g) (T b h))).2, 0) := by
        unfold iteW opW; rw [ask_ok hf hout']; rfl
      rw [hw]
      simp only [List.any_cons, List.any_nil, Bool.or_false, Bool.or_eq_false_iff] at hout'
      obtain ⟨o1, o2, o3⟩ := hout'
      have i1 := out_In o1 hf.toOk
      have i2 := out_In o2 hf.toOk
      have i3 := out_In o3 hf.toOk
      have hlo := hf.lo
      clear hw hout
      obtain ⟨vars, F⟩ := b
      simp only at *
      obtain ⟨n, rfl⟩ : ∃ n : Nat, vars = n := ⟨vars.toNat, by omega⟩
      rw [Int.toNat_natCast]
      have n32 := hf.few
      have hp : 2 ^ n ≤ 2 ^ 32 := Nat.pow_le_pow_right (by decide) (by omega)
      have t1 : (T ((n : Int), F) f).length = 2 ^ n := T_len ((n : Int), F) f
      have t2 : (T ((n : Int), F) g).length = 2 ^ n := T_len ((n : Int), F) g
      have t3 : (T ((n : Int), F) h).length = 2 ^ n := T_len ((n : Int), F) h
      have c1 := fun τ => ref_table n F f τ hf i1
      have c2 := fun τ => ref_table n F g τ hf i2
      have c3 := fun τ => ref_table n F h τ hf i3
      generalize T ((n : Int), F) f = X at *
      generalize T ((n : Int), F) g = Y at *
      generalize T ((n : Int), F) h = Z at *
      have hWl := iteT_len t1 t2 t3
      have hW := fun i => iteT_getD i X Y Z (by rw [t1, t2]) (by rw [t1, t3])
      generalize iteT X Y Z = W at *
      have ct := fun τ => ref_told n F W τ hWl hf.two hf.all (by omega)
      have kX : X.length ≤ 4294967296 := by omega
      have kl : (W.length ≤ X.length ∧ X.length ≤ W.length) ∧ (Y.length ≤ X.length ∧ X.length ≤ Y.length) ∧ (Z.length ≤ X.length ∧ X.length ≤ Z.length) := by omega
      obtain ⟨kW, kY, kZ⟩ := kl
      have q1 : (!outside F f) = true := by simp [o1]
      clear hp t1 t2 t3 hWl i1 i2 i3 hf
      repeat' (first | simp (maxDischargeDepth := 9) -implicitDefEqProofs -dsimp only [go_sem, seval, *] | simp (disch := omega) only [wrap64] | (with_reducible (first | apply Zq | apply Zr) <;> intro hq) | ((with_reducible refine Zv ?_ ?_); focus (first | omega | exact rfl)) | ((with_reducible refine Zu ?_ ?_); focus omega) | ((with_reducible refine Zt (fun oF hoF hnF hnF' => ?_)); clear hnF hnF'; (try simp only [Zw, ne_eq] at hoF)) | ((with_reducible apply ACalls.one1); (focus ((first | with_reducible refine ref_Check n F _ hl | with_reducible refine ref_node (n, F) f _ | with_reducible refine ref_node (n, F) g _ | with_reducible refine ref_node (n, F) h _ | with_reducible refine c1 _ | with_reducible refine c2 _ | with_reducible refine c3 _ | with_reducible refine ACalls.flA (ref_Check n F _ hl) ?_ | with_reducible refine ACalls.flA (ref_node (n, F) f _) ?_ | with_reducible refine ACalls.flA (ref_node (n, F) g _) ?_ | with_reducible refine ACalls.flA (ref_node (n, F) h _) ?_ | with_reducible refine ACalls.flA (c1 _) ?_ | with_reducible refine ACalls.flA (c2 _) ?_ | with_reducible refine ACalls.flA (c3 _) ?_) <;> (first | (simp (maxDischargeDepth := 9) -implicitDefEqProofs -dsimp only [go_sem, seval, *]; done) | omega))); (focus (first | trivial | with_reducible exact rfl | (simp (maxDischargeDepth := 9) -implicitDefEqProofs -dsimp only [go_sem, seval]; done)))) | ((with_reducible apply id_one0); (focus (intro tS hS; ((first | with_reducible refine ref_Check n F _ hl | with_reducible refine ref_node (n, F) f _ | with_reducible refine ref_node (n, F) g _ | with_reducible refine ref_node (n, F) h _ | with_reducible refine c1 _ | with_reducible refine c2 _ | with_reducible refine c3 _ | with_reducible refine ACalls.flA (ref_Check n F _ hl) ?_ | with_reducible refine ACalls.flA (ref_node (n, F) f _) ?_ | with_reducible refine ACalls.flA (ref_node (n, F) g _) ?_ | with_reducible refine ACalls.flA (ref_node (n, F) h _) ?_ | with_reducible refine ACalls.flA (c1 _) ?_ | with_reducible refine ACalls.flA (c2 _) ?_ | with_reducible refine ACalls.flA (c3 _) ?_) <;> (first | (simp (maxDischargeDepth := 9) -implicitDefEqProofs -dsimp only [go_sem, seval, *]; done) | omega | ((with_reducible refine Sub.get hS ?_); simp (maxDischargeDepth := 9) -implicitDefEqProofs -dsimp only [go_sem, seval, *]; done))))); (focus (first | trivial | (simp (maxDischargeDepth := 9) -implicitDefEqProofs -dsimp only [go_sem, seval, *]; done)))))
      refine loop_rule (fun i : Nat => [(16, some (.int .i64 i)), (12, some (.slice (X.map encBool) .no)), (13, some (.slice (Y.map encBool) .no)), (14, some (.slice (Z.map encBool) .no)), (4, some (.cptr [.int .i64 n, .slice (F.map encF) .no])), (8, some (.ptr oF 0)), (15, some (.slice ((W.take i).map encBool) (.own oV1)))])
        (fun i => upd (upd σ oV1 (.grow 1 i)) oF (.cells [.int .i64 0, .slice [] .nil])) (fun i => i ≤ X.length) (fun i => X.length - i) 0 ?_ ?_
      · (repeat' (first | simp (maxDischargeDepth := 9) -implicitDefEqProofs -dsimp only [go_sem, seval, *] | simp (disch := omega) only [wrap64])) <;> (repeat' refine And.intro ?_ ?_) <;> (first | omega | rfl | assumption | skip)
      · intro i hi
        by_cases hlt : i < X.length
        · have hlY : i < Y.length := by omega
          have hlZ : i < Z.length := by omega
          have hs' := take_getD (t := W) (i := i) (by omega)
          have hlen : (W.take i).length = i := by simp; omega
          have hWi := hW i
          clear hW c1 c2 c3 ct
          obtain ⟨x, hx⟩ : ∃ x, X.getD i false = x := ⟨_, rfl⟩
          obtain ⟨y, hy⟩ : ∃ y, Y.getD i false = y := ⟨_, rfl⟩
          obtain ⟨z, hz⟩ : ∃ z, Z.getD i false = z := ⟨_, rfl⟩
          rw [hx, hy, hz] at hWi
          cases x <;> cases y <;> cases z <;> simp only [Bool.false_eq_true, if_false, if_true] at hWi <;> rw [hWi] at hs' <;> clear hWi
          all_goals
            repeat' (first | simp (maxDischargeDepth := 9) -implicitDefEqProofs -dsimp only [go_sem, seval, szs_bool, getD_b, *] | simp (disch := omega) only [wrap64] | (with_reducible (first | apply Zq | apply Zr) <;> intro hq) | ((with_reducible refine Zv ?_ ?_); focus (first | omega | exact rfl)) | ((with_reducible refine Zu ?_ ?_); focus omega) | ((with_reducible refine Zt (fun oF hoF hnF hnF' => ?_)); clear hnF hnF'; (try simp only [Zw, ne_eq] at hoF)))
            refine loop_next _ _ _ _ (i + 1) ?_; (repeat' (first | simp (maxDischargeDepth := 9) -implicitDefEqProofs -dsimp only [go_sem, seval,  List.map_append, List.map_cons, List.map_nil, *] | simp (disch := omega) only [wrap64])) <;> (repeat' refine And.intro ?_ ?_) <;> (first | omega | rfl | assumption | skip)
        · have e0 : W.take i = W := List.take_of_length_le (by omega)
          clear hW c1 c2 c3
          repeat' (first | simp (maxDischargeDepth := 9) -implicitDefEqProofs -dsimp only [go_sem, seval, *] | simp (disch := omega) only [wrap64] | (with_reducible (first | apply Zq | apply Zr) <;> intro hq) | ((with_reducible refine Zv ?_ ?_); focus (first | omega | exact rfl)) | ((with_reducible refine Zu ?_ ?_); focus omega) | ((with_reducible refine Zt (fun oF hoF hnF hnF' => ?_)); clear hnF hnF'; (try simp only [Zw, ne_eq] at hoF)) | ((with_reducible apply ACalls.one1); (focus ((first | with_reducible refine ct _ | with_reducible refine ACalls.flA (ct _) ?_) <;> (first | (simp (maxDischargeDepth := 9) -implicitDefEqProofs -dsimp only [go_sem, seval, *]; done) | omega))); (focus (first | trivial | with_reducible exact rfl | (simp (maxDischargeDepth := 9) -implicitDefEqProofs -dsimp only [go_sem, seval]; done)))))
          refine fin_eq ?_
          (repeat' (first | simp (maxDischargeDepth := 9) -implicitDefEqProofs -dsimp only [go_sem, seval, *] | simp (disch := omega) only [wrap64])) <;> (repeat' refine And.intro ?_ ?_) <;> (first | omega | rfl | assumption | skip)
  · have hb : (e != 0) = true := by simpa using h0
    have hw : iteW b f g h = ((0, []), 0, e) := by unfold iteW; rw [ask_err he h0, op_err h0]
    rw [hw]
    repeat' (first | simp (maxDischargeDepth := 9) -implicitDefEqProofs -dsimp only [go_sem, seval, List.map_nil, *] | simp (disch := omega) only [wrap64] | (with_reducible (first | apply Zq | apply Zr) <;> intro hq) | ((with_reducible refine Zv ?_ ?_); focus (first | omega | exact rfl)) | ((with_reducible refine Zu ?_ ?_); focus omega) | ((with_reducible refine Zt (fun oF hoF hnF hnF' => ?_)); clear hnF hnF'; (try simp only [Zw, ne_eq] at hoF)) | ((with_reducible apply ACalls.one1); (focus ((first | with_reducible refine ref_Check b.1 b.2 _ hl | with_reducible refine ACalls.flA (ref_Check b.1 b.2 _ hl) ?_) <;> (first | (simp (maxDischargeDepth := 9) -implicitDefEqProofs -dsimp only [go_sem, seval, *]; done) | omega))); (focus (first | trivial | with_reducible exact rfl | (simp (maxDischargeDepth := 9) -implicitDefEqProofs -dsimp only [go_sem, seval]; done)))))
    refine fin_eq ?_
    (repeat' (first | simp (maxDischargeDepth := 9) -implicitDefEqProofs -dsimp only [go_sem, seval, List.map_nil, *] | simp (disch := omega) only [wrap64])) <;> (repeat' refine And.intro ?_ ?_) <;> (first | omega | rfl | assumption | skip)
theorem ref_Not (b : D) (f : Int) (σ : Sig) (hl : b.2.length ≤ 9223372036854775807) :
    ACalls Tryz.prog 75 [encB b.1 b.2, .int .i64 f] σ (fun r σ' => r = .ret (.tup [encB (notW b f).1.1 (notW b f).1.2, .int .i64 (notW b f).2.1, .int .i64 (notW b f).2.2]) ∧ σ' = σ) := by
  refine calls_x mixed Tryz.func75 b75 n75 rfl q75 (by simp) ?_; unfold c75 r75
  unfold notW
  repeat' (first | simp (maxDischargeDepth := 9) -implicitDefEqProofs -dsimp only [go_sem, seval, *] | ((with_reducible refine Zt (fun oF hoF hnF hnF' => ?_)); clear hnF hnF'; (try simp only [Zw, ne_eq] at hoF)) | ((with_reducible apply ACalls.one1); (focus ((first | with_reducible refine ref_Ite b f 0 1 _ hl) <;> (first | (simp (maxDischargeDepth := 9) -implicitDefEqProofs -dsimp only [go_sem, seval, *]; done) | omega))); (focus (first | trivial | with_reducible exact rfl | (simp (maxDischargeDepth := 9) -implicitDefEqProofs -dsimp only [go_sem, seval]; done)))))
  refine fin_eq ?_
  (repeat' (first | simp (maxDischargeDepth := 9) -implicitDefEqProofs -dsimp only [go_sem, seval, *])) <;> (repeat' refine And.intro ?_ ?_) <;> (first | omega | rfl | assumption | skip)
end Go.Proofs.YtjichkelfhcbcaaGreat.B

namespace Go.Proofs.YtjichkelfhcbcaaGreat.B
open Abs Fil Fil.Bd
set_option maxHeartbeats 2000000 in
theorem ref_Var (b : D) (v : Int) (σ : Sig) (hl : b.2.length ≤ 9223372036854775807) :
    ACalls Tryz.prog 73 [encB b.1 b.2, .int .i64 v] σ (fun r σ' => r = .ret (.tup [encB (varW b v).1.1 (varW b v).1.2, .int .i64 (varW b v).2.1, .int .i64 (varW b v).2.2]) ∧ σ' = σ) := by
  refine ACalls.virt (callable_of Tryz.func73 b73 n73) 1 (fun oV1 hoV1 hnV1 hnV1' => ?_); (try simp only [upd_none, ne_eq, not_and] at hoV1); refine calls_x mixed Tryz.func73 b73 n73 rfl q73 (by simp) ?_; unfold c73 r73
  obtain ⟨e, he⟩ : ∃ e, chk b.1 b.2 = e := ⟨_, rfl⟩
  by_cases h0 : e = 0
  · subst h0
    have ez : ((0 : Int) != 0) = false := by decide
    have hf := chk_fine.1 he
    cases hout : off b v with
    | true =>
      have hw : varW b v = ((0, []), 0, 1) := by unfold varW; rw [ask_arg hf (by simp [hout]), op_err (by decide)]
      rw [hw]
      simp only [off, Bool.or_eq_true, decide_eq_true_eq] at hout
      clear hw
      repeat' (first | simp (maxDischargeDepth := 9) -implicitDefEqProofs -dsimp only [go_sem, seval, List.map_nil, ge_iff_le, *] | simp (disch := omega) only [wrap64, tmod2] | (with_reducible (first | apply Zb | apply Zc) <;> intro hq) | ((with_reducible refine Zv ?_ ?_); focus (first | omega | exact rfl)) | ((with_reducible refine Zt (fun oF hoF hnF hnF' => ?_)); clear hnF hnF'; (try simp only [Zw, ne_eq] at hoF)) | ((with_reducible apply ACalls.one1); (focus ((first | with_reducible refine ref_Check b.1 b.2 _ hl | with_reducible refine ACalls.flA (ref_Check b.1 b.2 _ hl) ?_) <;> (first | (simp (maxDischargeDepth := 9) -implicitDefEqProofs -dsimp only [go_sem, seval, *]; done) | omega))); (focus (first | trivial | with_reducible exact rfl | (simp (maxDischargeDepth := 9) -implicitDefEqProofs -dsimp only [go_sem, seval]; done)))))
      all_goals first | (exfalso; omega) | (refine fin_eq ?_; (repeat' (first | simp (maxDischargeDepth := 9) -implicitDefEqProofs -dsimp only [go_sem, seval, List.map_nil, *] | simp (disch := omega) only [wrap64, tmod2])) <;> (repeat' refine And.intro ?_ ?_) <;> (first | omega | rfl | assumption | skip); done)
    | false =>
      have hw : varW b v = ((b.1, (put b.1.toNat b.2 0 (varT b.1.toNat v.toNat)).1), (put b.1.toNat b.2 0 (varT b.1.toNat v.toNat)).2, 0) := by
        unfold varW opW; rw [ask_ok hf (by simp [hout])]; rfl
      rw [hw]
      simp only [off, Bool.or_eq_false_iff, decide_eq_false_iff_not] at hout
      obtain ⟨o1, o2⟩ := hout
      have hlo := hf.lo
      clear hw
      obtain ⟨vars, F⟩ := b
      simp only at *
      obtain ⟨n, rfl⟩ : ∃ n : Nat, vars = n := ⟨vars.toNat, by omega⟩
      obtain ⟨d, rfl⟩ : ∃ d : Nat, v = d := ⟨v.toNat, by omega⟩
      rw [Int.toNat_natCast, Int.toNat_natCast]
      have n32 := hf.few
      have hp : 2 ^ n ≤ 2 ^ 32 := Nat.pow_le_pow_right (by decide) (by omega)
      have hWl := varT_len n d (by omega)
      have hW := fun i => varT_getD n d i (by omega)
      generalize varT n d = W at *
      have ct := fun τ => ref_told n F W τ hWl hf.two hf.all (by omega)
      have hs := shl_one (n := n) (by omega)
      have hku := u64_id (k := n) (by omega)
      have hkm : Nat.min n 64 = n := Nat.min_eq_left (by omega)
      have hd0 : ¬ (n : Int) < 0 := by omega
      obtain ⟨m, hm⟩ : ∃ m : Nat, (n : Int) - 1 - d = m := ⟨((n : Int) - 1 - d).toNat, by omega⟩
      have hm' : n - 1 - d = m := by omega
      have hmu := u64_id (k := m) (by omega)
      have hmm : Nat.min m 64 = m := Nat.min_eq_left (by omega)
      have hm0 : ¬ (m : Int) < 0 := by omega
      rw [hm'] at hW
      obtain ⟨P, hP⟩ : ∃ P : Nat, 2 ^ n = P := ⟨_, rfl⟩
      rw [hP] at hWl hs hp hW
      have kW : W.length ≤ P ∧ P ≤ W.length := by omega
      clear hf hWl
      repeat' (first | simp (maxDischargeDepth := 9) -implicitDefEqProofs -dsimp only [go_sem, seval, ge_iff_le, *] | simp (disch := omega) only [wrap64, tmod2] | (with_reducible (first | apply Zb | apply Zc) <;> intro hq) | ((with_reducible refine Zv ?_ ?_); focus (first | omega | exact rfl)) | ((with_reducible refine Zt (fun oF hoF hnF hnF' => ?_)); clear hnF hnF'; (try simp only [Zw, ne_eq] at hoF)) | ((with_reducible apply ACalls.one1); (focus ((first | with_reducible refine ref_Check n F _ hl | with_reducible refine ACalls.flA (ref_Check n F _ hl) ?_) <;> (first | (simp (maxDischargeDepth := 9) -implicitDefEqProofs -dsimp only [go_sem, seval, *]; done) | omega))); (focus (first | trivial | with_reducible exact rfl | (simp (maxDischargeDepth := 9) -implicitDefEqProofs -dsimp only [go_sem, seval]; done)))))
      refine loop_rule (fun i : Nat => [(9, some (.int .i64 i)), (2, some (.cptr [.int .i64 n, .slice (F.map encF) .no])), (4, some (.ptr oF 0)), (1, some (.int .i64 d)), (8, some (.slice ((W.take i).map encBool) (.own oV1)))])
        (fun i => upd (upd σ oV1 (.grow 1 i)) oF (.cells [.int .i64 0, .slice [] .nil])) (fun i => i ≤ P) (fun i => P - i) 0 ?_ ?_
      · (repeat' (first | simp (maxDischargeDepth := 9) -implicitDefEqProofs -dsimp only [go_sem, seval, *] | simp (disch := omega) only [wrap64, tmod2])) <;> (repeat' refine And.intro ?_ ?_) <;> (first | omega | rfl | assumption | skip)
      · intro i hi
        by_cases hlt : i < P
        · have hlt' : (i : Int) < P := by omega
          have hs' := take_getD (t := W) (i := i) (by omega)
          have hlen : (W.take i).length = i := by simp; omega
          rw [hW i hlt] at hs'
          obtain ⟨q, hq1, hq2⟩ := @shr_bit i m
          clear hW ct
          repeat' (first | simp (maxDischargeDepth := 9) -implicitDefEqProofs -dsimp only [go_sem, seval, szs_bool, *] | simp (disch := omega) only [wrap64, tmod2] | (with_reducible (first | apply Zb | apply Zc) <;> intro hq) | ((with_reducible refine Zv ?_ ?_); focus (first | omega | exact rfl)) | ((with_reducible refine Zt (fun oF hoF hnF hnF' => ?_)); clear hnF hnF'; (try simp only [Zw, ne_eq] at hoF)))
          refine loop_next _ _ _ _ (i + 1) ?_; (repeat' (first | simp (maxDischargeDepth := 9) -implicitDefEqProofs -dsimp only [go_sem, seval,  List.map_append, List.map_cons, List.map_nil, *] | simp (disch := omega) only [wrap64, tmod2])) <;> (repeat' refine And.intro ?_ ?_) <;> (first | omega | rfl | assumption | skip)
        · have hlt' : ¬ (i : Int) < P := by omega
          have e0 : W.take i = W := List.take_of_length_le (by omega)
          clear hW
          repeat' (first | simp (maxDischargeDepth := 9) -implicitDefEqProofs -dsimp only [go_sem, seval, *] | simp (disch := omega) only [wrap64, tmod2] | (with_reducible (first | apply Zb | apply Zc) <;> intro hq) | ((with_reducible refine Zv ?_ ?_); focus (first | omega | exact rfl)) | ((with_reducible refine Zt (fun oF hoF hnF hnF' => ?_)); clear hnF hnF'; (try simp only [Zw, ne_eq] at hoF)) | ((with_reducible apply ACalls.one1); (focus ((first | with_reducible refine ct _ | with_reducible refine ACalls.flA (ct _) ?_) <;> (first | (simp (maxDischargeDepth := 9) -implicitDefEqProofs -dsimp only [go_sem, seval, *]; done) | omega))); (focus (first | trivial | with_reducible exact rfl | (simp (maxDischargeDepth := 9) -implicitDefEqProofs -dsimp only [go_sem, seval]; done)))))
          refine fin_eq ?_
          (repeat' (first | simp (maxDischargeDepth := 9) -implicitDefEqProofs -dsimp only [go_sem, seval, *] | simp (disch := omega) only [wrap64, tmod2])) <;> (repeat' refine And.intro ?_ ?_) <;> (first | omega | rfl | assumption | skip)
  · have hb : (e != 0) = true := by simpa using h0
    have hw : varW b v = ((0, []), 0, e) := by unfold varW; rw [ask_err he h0, op_err h0]
    rw [hw]
    repeat' (first | simp (maxDischargeDepth := 9) -implicitDefEqProofs -dsimp only [go_sem, seval, List.map_nil, *] | simp (disch := omega) only [wrap64, tmod2] | (with_reducible (first | apply Zb | apply Zc) <;> intro hq) | ((with_reducible refine Zv ?_ ?_); focus (first | omega | exact rfl)) | ((with_reducible refine Zt (fun oF hoF hnF hnF' => ?_)); clear hnF hnF'; (try simp only [Zw, ne_eq] at hoF)) | ((with_reducible apply ACalls.one1); (focus ((first | with_reducible refine ref_Check b.1 b.2 _ hl | with_reducible refine ACalls.flA (ref_Check b.1 b.2 _ hl) ?_) <;> (first | (simp (maxDischargeDepth := 9) -implicitDefEqProofs -dsimp only [go_sem, seval, *]; done) | omega))); (focus (first | trivial | with_reducible exact rfl | (simp (maxDischargeDepth := 9) -implicitDefEqProofs -dsimp only [go_sem, seval]; done)))))
    refine fin_eq ?_
    (repeat' (first | simp (maxDischargeDepth := 9) -implicitDefEqProofs -dsimp only [go_sem, seval, List.map_nil, *] | simp (disch := omega) only [wrap64, tmod2])) <;> (repeat' refine And.intro ?_ ?_) <;> (first | omega | rfl | assumption | skip)
end Go.Proofs.YtjichkelfhcbcaaGreat.B

namespace Fil.Eqv
open Abs
open Bd (D T3 In T varW notW iteW)
theorem out_next {g : Aig} {i : Nat} (hi : i < (lits g).length) : outAt g (i + 1) = ((litM (outAt g i).1 (bodyS g).2 (lits g)[i]).1, (outAt g i).2 ++ [(litM (outAt g i).1 (bodyS g).2 (lits g)[i]).2]) := by
  unfold outAt
  rw [take_succ hi, List.foldl_append]; rfl
theorem out_two {g : Aig} {i : Nat} (hi : i ≤ (lits g).length) : (outAt g i).2.length = i := by
  unfold outAt
  rw [out_len]
  simp; omega
theorem lits_outs {g : Aig} {i : Nat} (h : i < g.outs.length) : ∃ h2 : i < (lits g).length, (lits g)[i] = g.outs[i] := by
  have h2 : i < (lits g).length := by rw [lits_len]; omega
  refine ⟨h2, ?_⟩
  simp only [lits]
  rw [List.getElem_append_left h]
theorem lits_next {g : Aig} {i : Nat} (h : i < g.flops.length) : ∃ h2 : g.outs.length + i < (lits g).length, (lits g)[g.outs.length + i] = g.flops[i].next := by
  have h2 : g.outs.length + i < (lits g).length := by rw [lits_len]; omega
  refine ⟨h2, ?_⟩
  simp only [lits]
  rw [List.getElem_append_right (by omega)]
  simp
end Fil.Eqv

namespace Go.Proofs.YtjichkelfhcbcaaGreat
open Abs Fil Fil.Eqv
open Bd (D encB encF)
theorem ref_new_ok {n : Nat} (h : n ≤ 8) : B.newW (n : Int) = (newB n, 0) := by
  unfold B.newW newB
  rw [if_neg (by omega), if_neg (by omega)]
abbrev madC (b : D) : AObj := .cells [.int .i64 b.1, .slice (b.2.map encF) .no, .int .i64 0]
theorem ref_keep (m : Nat) (b c : D) (x : Int) (σ : Sig) (h : σ m = some (madC b)) :
    ACalls Tryz.prog 74 [.ptr m 0, encB c.1 c.2, .int .i64 x, .int .i64 0] σ (fun r σ' => r = .ret (.int .i64 x) ∧ σ' = upd σ m (madC c)) := by
  refine calls_x mixed Tryz.func74 b74 n74 rfl q74 (by simp) ?_; unfold c74 r74
  have ez : ((0 : Int) != 0) = false := by decide
  repeat' (first | simp (maxDischargeDepth := 9) -implicitDefEqProofs -dsimp only [go_sem, seval, *])
  refine fin_eq ?_
  (repeat' (first | simp (maxDischargeDepth := 9) -implicitDefEqProofs -dsimp only [go_sem, seval, *])) <;> (repeat' refine And.intro ?_ ?_) <;> (first | omega | rfl | assumption | skip)
theorem ref_variable (m : Nat) (b c : D) (i x : Int) (σ : Sig) (h : σ m = some (madC b)) (hl : b.2.length ≤ 9223372036854775807) (hc : Bd.varW b i = (c, x, 0)) :
    ACalls Tryz.prog 43 [.ptr m 0, .int .i64 i] σ (fun r σ' => r = .ret (.int .i64 x) ∧ σ' = upd σ m (madC c)) := by
  refine calls_x mixed Tryz.func43 b43 n43 rfl q43 (by simp) ?_; unfold c43 r43
  have ez : ((0 : Int) != 0) = false := by decide
  have hv := fun τ => B.ref_Var b i τ hl
  rw [hc] at hv
  repeat' (first | simp (maxDischargeDepth := 9) -implicitDefEqProofs -dsimp only [go_sem, seval, *] | ((with_reducible refine Zt (fun oF hoF hnF hnF' => ?_)); (try simp only [upd_none, ne_eq, not_and] at hoF)) | ((with_reducible apply ACalls.one1); (focus ((first | with_reducible refine hv _ | with_reducible refine ref_keep m b c x _ ?_) <;> (first | (simp (maxDischargeDepth := 9) -implicitDefEqProofs -dsimp only [go_sem, seval, *]; done) | omega))); (focus (first | trivial | with_reducible exact rfl | (simp (maxDischargeDepth := 9) -implicitDefEqProofs -dsimp only [go_sem, seval]; done)))))
  refine fin_eq ?_
  (repeat' (first | simp (maxDischargeDepth := 9) -implicitDefEqProofs -dsimp only [go_sem, seval, *])) <;> (repeat' refine And.intro ?_ ?_) <;> (first | omega | rfl | assumption | skip)
theorem ref_and (m : Nat) (b c : D) (f g x : Int) (σ : Sig) (h : σ m = some (madC b)) (hl : b.2.length ≤ 9223372036854775807) (hc : Bd.iteW b f g 0 = (c, x, 0)) :
    ACalls Tryz.prog 45 [.ptr m 0, .int .i64 f, .int .i64 g] σ (fun r σ' => r = .ret (.int .i64 x) ∧ σ' = upd σ m (madC c)) := by
  refine calls_x mixed Tryz.func45 b45 n45 rfl q45 (by simp) ?_; unfold c45 r45
  have ez : ((0 : Int) != 0) = false := by decide
  have hv := fun τ => B.ref_Ite b f g 0 τ hl
  rw [hc] at hv
  repeat' (first | simp (maxDischargeDepth := 9) -implicitDefEqProofs -dsimp only [go_sem, seval, *] | simp (disch := omega) only [wrap64, xor_is1] | (with_reducible (first | apply Zc | apply Ze | apply Zl | apply Zs) <;> intro hq) | ((with_reducible refine Zv ?_ ?_); focus (first | omega | exact rfl)) | ((with_reducible refine Zt (fun oF hoF hnF hnF' => ?_)); (try simp only [upd_none, ne_eq, not_and] at hoF)) | ((with_reducible apply ACalls.one1); (focus ((first | with_reducible refine hv _ | with_reducible refine ref_keep m b c x _ ?_ | with_reducible refine ACalls.flA (hv _) ?_ | with_reducible refine ACalls.flA (ref_keep m b c x _ ?_) ?_) <;> (first | (simp (maxDischargeDepth := 9) -implicitDefEqProofs -dsimp only [go_sem, seval, *]; done) | omega))); (focus (first | trivial | with_reducible exact rfl | (simp (maxDischargeDepth := 9) -implicitDefEqProofs -dsimp only [go_sem, seval]; done)))))
  refine fin_eq ?_
  (repeat' (first | simp (maxDischargeDepth := 9) -implicitDefEqProofs -dsimp only [go_sem, seval, *] | simp (disch := omega) only [wrap64, xor_is1])) <;> (repeat' refine And.intro ?_ ?_) <;> (first | omega | rfl | assumption | skip)
theorem ref_lit (m : Nat) (b : D) (nodes : List Int) (l : Int) (σ : Sig) (h : σ m = some (madC b)) (h0 : 0 ≤ l) (h1 : (l / 2).toNat < nodes.length) (hl64 : l ≤ 4611686018427387904)
    (hl : b.2.length ≤ 9223372036854775807) (hok : l % 2 ≠ 0 → Bd.notW b (nodes.getD (l / 2).toNat 0) = ((litM b nodes l).1, (litM b nodes l).2, 0)) :
    ACalls Tryz.prog 44 [.ptr m 0, .slice (nodes.map encInt) .no, .int .i64 l] σ (fun r σ' => r = .ret (.int .i64 (litM b nodes l).2) ∧ σ' = upd σ m (madC (litM b nodes l).1)) := by
  refine calls_x mixed Tryz.func44 b44 n44 rfl q44 (by simp) ?_; unfold c44 r44
  have ez : ((0 : Int) != 0) = false := by decide
  have hg : nodes[(l / 2).toNat] = nodes.getD (l / 2).toNat 0 := by simp [List.getD_eq_getElem?_getD, h1]
  obtain ⟨f, hf⟩ : ∃ f, nodes.getD (l / 2).toNat 0 = f := ⟨_, rfl⟩
  rw [hf] at hg
  by_cases c : l % 2 = 0
  · have hw : litM b nodes l = (b, f) := by unfold litM; rw [if_pos c, hf]
    rw [hw]
    rw [upd_self h]
    clear hok hw
    repeat' (first | simp (maxDischargeDepth := 9) -implicitDefEqProofs -dsimp only [go_sem, seval, List.getElem_map, List.length_map, *] | simp (disch := omega) only [wrap64, tdiv2, tmod2] | ((with_reducible refine Zv ?_ ?_); focus (first | omega | exact rfl)) | ((with_reducible refine Zu ?_ ?_); focus omega) | ((with_reducible refine Zt (fun oF hoF hnF hnF' => ?_)); (try simp only [upd_none, ne_eq, not_and] at hoF)))
    refine fin_eq ?_
    (repeat' (first | simp (maxDischargeDepth := 9) -implicitDefEqProofs -dsimp only [go_sem, seval, *] | simp (disch := omega) only [wrap64, tdiv2, tmod2])) <;> (repeat' refine And.intro ?_ ?_) <;> (first | omega | rfl | assumption | skip)
  · have c1 : l % 2 = 1 := by omega
    have ho := hok c
    rw [hf] at ho
    obtain ⟨⟨d, x⟩, hd⟩ : ∃ p, litM b nodes l = p := ⟨_, rfl⟩
    rw [hd] at ho ⊢
    clear hok hd
    have hv := fun τ => B.ref_Not b f τ hl
    rw [ho] at hv
    repeat' (first | simp (maxDischargeDepth := 9) -implicitDefEqProofs -dsimp only [go_sem, seval, List.getElem_map, List.length_map, *] | simp (disch := omega) only [wrap64, tdiv2, tmod2] | ((with_reducible refine Zv ?_ ?_); focus (first | omega | exact rfl)) | ((with_reducible refine Zu ?_ ?_); focus omega) | ((with_reducible refine Zt (fun oF hoF hnF hnF' => ?_)); (try simp only [upd_none, ne_eq, not_and] at hoF)) | ((with_reducible apply ACalls.one1); (focus ((first | with_reducible refine hv _ | with_reducible refine ref_keep m b d x _ ?_) <;> (first | (simp (maxDischargeDepth := 9) -implicitDefEqProofs -dsimp only [go_sem, seval, *]; done) | omega))); (focus (first | trivial | with_reducible exact rfl | (simp (maxDischargeDepth := 9) -implicitDefEqProofs -dsimp only [go_sem, seval]; done)))))
    refine fin_eq ?_
    (repeat' (first | simp (maxDischargeDepth := 9) -implicitDefEqProofs -dsimp only [go_sem, seval, *] | simp (disch := omega) only [wrap64, tdiv2, tmod2])) <;> (repeat' refine And.intro ?_ ?_) <;> (first | omega | rfl | assumption | skip)
end Go.Proofs.YtjichkelfhcbcaaGreat

