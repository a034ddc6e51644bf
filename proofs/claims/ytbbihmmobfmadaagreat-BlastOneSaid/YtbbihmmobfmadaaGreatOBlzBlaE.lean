/- blast: contracts: other widths, choices, and what the program looks at. -/
import Derived.Test.YtbbihmmobfmadaaGreatOBlzAigR
set_option linter.unusedSimpArgs false
set_option linter.unusedVariables false
namespace Go.Proofs.YtbbihmmobfmadaaGreat.A
open Abs Fil
theorem ref_gate (g : Aig) (a b : Int) (σ : Sig) (hs : g.ands.length ≤ 1000000) (h : a ≤ b) :
    ACalls Tryz.prog 243 [encAig g, .int .i64 a, .int .i64 b] σ (fun r σ' => r = .ret (.int .i64 (g.find a b)) ∧ σ' = σ) := by
  refine calls_x mixed Tryz.func243 b243 n243 rfl q243 (by simp) ?_; unfold c243 r243
  rw [find_eq h]
  repeat' (first | simp (maxDischargeDepth := 9) -implicitDefEqProofs -dsimp only [go_sem, seval, *] | simp (disch := omega) only [wrap64] | (with_reducible (first | apply Zj | apply Zk | apply Zl) <;> intro hq) | ((with_reducible refine Zu ?_ ?_); focus omega) | ((with_reducible refine Zt (fun oF hoF hnF hnF' => ?_)); (try simp only [upd_none, ne_eq, not_and] at hoF)))
  refine loop_rule (fun i : Nat => [(7, some (.int .i64 i)), (3, some (.cptr (aigL g))), (1, some (.int .i64 a)), (2, some (.int .i64 b))]) (fun _ => σ)
    (fun i => i ≤ g.ands.length ∧ ∀ j, (hj : j < g.ands.length) → j < i → ((decide (g.ands[j].1 = a) && decide (g.ands[j].2 = b)) || (decide (g.ands[j].1 = b) && decide (g.ands[j].2 = a))) = false) (fun i => g.ands.length - i) 0 ?_ ?_
  · (repeat' (first | simp (maxDischargeDepth := 9) -implicitDefEqProofs -dsimp only [go_sem, seval, *] | simp (disch := omega) only [wrap64])) <;> (repeat' refine And.intro ?_ ?_) <;> (first | omega | rfl | assumption | skip)
  · rintro i ⟨hi, hb⟩
    by_cases hlt : i < g.ands.length
    · obtain ⟨x, hx⟩ : ∃ x, g.ands[i] = x := ⟨_, rfl⟩
      by_cases hp : ((decide (x.1 = a) && decide (x.2 = b)) || (decide (x.1 = b) && decide (x.2 = a))) = true
      · have hv := idxF_some (p := fun x : Int × Int => (decide (x.1 = a) && decide (x.2 = b)) || (decide (x.1 = b) && decide (x.2 = a))) hlt (fun j hj => hb j (by omega) hj) (by rw [hx]; exact hp)
        rw [hv]
        clear hv
        simp only [Bool.or_eq_true, Bool.and_eq_true, decide_eq_true_eq] at hp
        repeat' (first | simp (maxDischargeDepth := 9) -implicitDefEqProofs -dsimp only [go_sem, seval, *] | simp (disch := omega) only [wrap64] | (with_reducible (first | apply Zj | apply Zk | apply Zl) <;> intro hq) | ((with_reducible refine Zu ?_ ?_); focus omega) | ((with_reducible refine Zt (fun oF hoF hnF hnF' => ?_)); (try simp only [upd_none, ne_eq, not_and] at hoF)))
        all_goals first | (exfalso; omega) | (refine fin_eq ?_; (repeat' (first | simp (maxDischargeDepth := 9) -implicitDefEqProofs -dsimp only [go_sem, seval, *] | simp (disch := omega) only [wrap64])) <;> (repeat' refine And.intro ?_ ?_) <;> (first | omega | rfl | assumption | skip); done)
      · have hp' := hp
        simp only [Bool.or_eq_true, Bool.and_eq_true, decide_eq_true_eq] at hp
        repeat' (first | simp (maxDischargeDepth := 9) -implicitDefEqProofs -dsimp only [go_sem, seval, *] | simp (disch := omega) only [wrap64] | (with_reducible (first | apply Zj | apply Zk | apply Zl) <;> intro hq) | ((with_reducible refine Zu ?_ ?_); focus omega) | ((with_reducible refine Zt (fun oF hoF hnF hnF' => ?_)); (try simp only [upd_none, ne_eq, not_and] at hoF)))
        all_goals first | (exfalso; omega) | skip
        all_goals
          refine loop_next _ _ _ _ (i + 1) ?_; (repeat' (first | simp (maxDischargeDepth := 9) -implicitDefEqProofs -dsimp only [go_sem, seval, *] | simp (disch := omega) only [wrap64])) <;> (repeat' refine And.intro ?_ ?_) <;> (first | omega | rfl | assumption | skip)
          intro j hj h
          rcases Nat.lt_or_ge j i with h' | h'
          · exact hb j hj h'
          · obtain rfl : j = i := by omega
            rw [hx]; simpa using hp'
    · rw [idxF_none (fun a' ha' => by
        obtain ⟨j, hj, rfl⟩ := List.getElem_of_mem ha'
        exact hb j hj (by omega))]
      repeat' (first | simp (maxDischargeDepth := 9) -implicitDefEqProofs -dsimp only [go_sem, seval, *] | simp (disch := omega) only [wrap64] | (with_reducible (first | apply Zj | apply Zk | apply Zl) <;> intro hq) | ((with_reducible refine Zu ?_ ?_); focus omega) | ((with_reducible refine Zt (fun oF hoF hnF hnF' => ?_)); (try simp only [upd_none, ne_eq, not_and] at hoF)))
      refine fin_eq ?_
      (repeat' (first | simp (maxDischargeDepth := 9) -implicitDefEqProofs -dsimp only [go_sem, seval, *] | simp (disch := omega) only [wrap64])) <;> (repeat' refine And.intro ?_ ?_) <;> (first | omega | rfl | assumption | skip)
end Go.Proofs.YtbbihmmobfmadaaGreat.A

namespace Go.Proofs.YtbbihmmobfmadaaGreat.A
open Abs Fil
theorem ref_Same (g h : Aig) (σ : Sig) (l1 : g.flops.length ≤ 1000000) (l2 : g.ands.length ≤ 1000000) (l3 : g.outs.length ≤ 1000000) :
    ACalls Tryz.prog 13 [encAig g, encAig h] σ (fun r σ' => r = .ret (.bool (decide (g = h))) ∧ σ' = σ) := by
  refine calls_x mixed Tryz.func13 b13 n13 rfl q13 (by simp) ?_; unfold c13 r13
  have ne1 : g.ins ≠ h.ins → decide (g = h) = false := fun hn => by simp; intro e; exact hn (by rw [e])
  have ne2 : g.flops ≠ h.flops → decide (g = h) = false := fun hn => by simp; intro e; exact hn (by rw [e])
  have ne3 : g.ands ≠ h.ands → decide (g = h) = false := fun hn => by simp; intro e; exact hn (by rw [e])
  have ne4 : g.outs ≠ h.outs → decide (g = h) = false := fun hn => by simp; intro e; exact hn (by rw [e])
  by_cases hi : g.ins = h.ins
  · by_cases h1 : g.flops.length = h.flops.length
    · by_cases h2 : g.ands.length = h.ands.length
      · by_cases h3 : g.outs.length = h.outs.length
        · have b0 : (h.ins != h.ins) = false := by simp
          repeat' (first | simp (maxDischargeDepth := 9) -implicitDefEqProofs -dsimp only [go_sem, seval, *] | simp (disch := omega) only [wrap64] | (with_reducible (first | apply Zn | apply Zo) <;> intro hq) | ((with_reducible refine Zu ?_ ?_); focus omega))
          have h1' := And.intro (Nat.le_of_eq h1) (Nat.le_of_eq h1.symm)
          have h2' := And.intro (Nat.le_of_eq h2) (Nat.le_of_eq h2.symm)
          have h3' := And.intro (Nat.le_of_eq h3) (Nat.le_of_eq h3.symm)
          clear h1 h2 h3
          refine loop_rule (fun i : Nat => [(5, some (.int .i64 i)), (2, some (.cptr (aigL g))), (3, some (.cptr (aigL h)))]) (fun _ => σ) (fun i => i ≤ g.flops.length ∧ ∀ j, (hj : j < g.flops.length) → j < i → g.flops[j] = h.flops[j]) (fun i => g.flops.length - i) 0 ?_ ?_
          · (repeat' (first | simp (maxDischargeDepth := 9) -implicitDefEqProofs -dsimp only [go_sem, seval, *] | simp (disch := omega) only [wrap64])) <;> (repeat' refine And.intro ?_ ?_) <;> (first | omega | rfl | assumption | skip)
          · rintro i ⟨hi', hok1⟩
            by_cases hlt : i < g.flops.length
            · have hlt' : i < h.flops.length := by omega
              obtain ⟨x, hx⟩ : ∃ x, g.flops[i] = x := ⟨_, rfl⟩
              obtain ⟨y, hy⟩ : ∃ y, h.flops[i] = y := ⟨_, rfl⟩
              by_cases he : x = y
              · clear ne1 ne2 ne3 ne4
                subst he
                repeat' (first | simp (maxDischargeDepth := 9) -implicitDefEqProofs -dsimp only [go_sem, seval, *] | simp (disch := omega) only [wrap64] | (with_reducible (first | apply Zn | apply Zo) <;> intro hq) | ((with_reducible refine Zu ?_ ?_); focus omega))
                refine loop_next _ _ _ _ (i + 1) ?_; (repeat' (first | simp (maxDischargeDepth := 9) -implicitDefEqProofs -dsimp only [go_sem, seval, *] | simp (disch := omega) only [wrap64])) <;> (repeat' refine And.intro ?_ ?_) <;> (first | omega | rfl | assumption | skip)
                intro j hj hji
                rcases Nat.lt_or_ge j i with h' | h'
                · exact hok1 j hj h'
                · obtain rfl : j = i := by omega
                  rw [hx, hy]
              · have hv := ne2 (fun e => he (by rw [← hx, ← hy]; simp only [e]))
                have hb : ((x.next == y.next) && (x.init == y.init)) = false := by
                  cases x; cases y; simp at he ⊢; exact he
                clear ne1 ne2 ne3 ne4
                repeat' (first | simp (maxDischargeDepth := 9) -implicitDefEqProofs -dsimp only [go_sem, seval, *] | simp (disch := omega) only [wrap64] | (with_reducible (first | apply Zn | apply Zo) <;> intro hq) | ((with_reducible refine Zu ?_ ?_); focus omega))
                refine fin_eq ?_
                (repeat' (first | simp (maxDischargeDepth := 9) -implicitDefEqProofs -dsimp only [go_sem, seval, *] | simp (disch := omega) only [wrap64])) <;> (repeat' refine And.intro ?_ ?_) <;> (first | omega | rfl | assumption | skip)
            · repeat' (first | simp (maxDischargeDepth := 9) -implicitDefEqProofs -dsimp only [go_sem, seval, *] | simp (disch := omega) only [wrap64] | (with_reducible (first | apply Zn | apply Zo) <;> intro hq) | ((with_reducible refine Zu ?_ ?_); focus omega))
              refine loop_rule (fun i : Nat => [(6, some (.int .i64 i)), (2, some (.cptr (aigL g))), (3, some (.cptr (aigL h)))]) (fun _ => σ) (fun i => i ≤ g.ands.length ∧ ∀ j, (hj : j < g.ands.length) → j < i → g.ands[j] = h.ands[j]) (fun i => g.ands.length - i) 0 ?_ ?_
              · (repeat' (first | simp (maxDischargeDepth := 9) -implicitDefEqProofs -dsimp only [go_sem, seval, *] | simp (disch := omega) only [wrap64])) <;> (repeat' refine And.intro ?_ ?_) <;> (first | omega | rfl | assumption | skip)
              · rintro k ⟨hk', hok2⟩
                by_cases hlt2 : k < g.ands.length
                · have hlt' : k < h.ands.length := by omega
                  obtain ⟨x, hx⟩ : ∃ x, g.ands[k] = x := ⟨_, rfl⟩
                  obtain ⟨y, hy⟩ : ∃ y, h.ands[k] = y := ⟨_, rfl⟩
                  by_cases he : x = y
                  · clear ne1 ne2 ne3 ne4
                    subst he
                    repeat' (first | simp (maxDischargeDepth := 9) -implicitDefEqProofs -dsimp only [go_sem, seval, *] | simp (disch := omega) only [wrap64] | (with_reducible (first | apply Zn | apply Zo) <;> intro hq) | ((with_reducible refine Zu ?_ ?_); focus omega))
                    refine loop_next _ _ _ _ (k + 1) ?_; (repeat' (first | simp (maxDischargeDepth := 9) -implicitDefEqProofs -dsimp only [go_sem, seval, *] | simp (disch := omega) only [wrap64])) <;> (repeat' refine And.intro ?_ ?_) <;> (first | omega | rfl | assumption | skip)
                    intro j hj hji
                    rcases Nat.lt_or_ge j k with h' | h'
                    · exact hok2 j hj h'
                    · obtain rfl : j = k := by omega
                      rw [hx, hy]
                  · have hv := ne3 (fun e => he (by rw [← hx, ← hy]; simp only [e]))
                    have hb : ((x.1 == y.1) && (x.2 == y.2)) = false := by
                      cases x; cases y; simp at he ⊢; exact he
                    clear ne1 ne2 ne3 ne4
                    repeat' (first | simp (maxDischargeDepth := 9) -implicitDefEqProofs -dsimp only [go_sem, seval, *] | simp (disch := omega) only [wrap64] | (with_reducible (first | apply Zn | apply Zo) <;> intro hq) | ((with_reducible refine Zu ?_ ?_); focus omega))
                    refine fin_eq ?_
                    (repeat' (first | simp (maxDischargeDepth := 9) -implicitDefEqProofs -dsimp only [go_sem, seval, *] | simp (disch := omega) only [wrap64])) <;> (repeat' refine And.intro ?_ ?_) <;> (first | omega | rfl | assumption | skip)
                · repeat' (first | simp (maxDischargeDepth := 9) -implicitDefEqProofs -dsimp only [go_sem, seval, *] | simp (disch := omega) only [wrap64] | (with_reducible (first | apply Zn | apply Zo) <;> intro hq) | ((with_reducible refine Zu ?_ ?_); focus omega))
                  refine loop_rule (fun i : Nat => [(7, some (.int .i64 i)), (2, some (.cptr (aigL g))), (3, some (.cptr (aigL h)))]) (fun _ => σ) (fun i => i ≤ g.outs.length ∧ ∀ j, (hj : j < g.outs.length) → j < i → g.outs[j] = h.outs[j]) (fun i => g.outs.length - i) 0 ?_ ?_
                  · (repeat' (first | simp (maxDischargeDepth := 9) -implicitDefEqProofs -dsimp only [go_sem, seval, *] | simp (disch := omega) only [wrap64])) <;> (repeat' refine And.intro ?_ ?_) <;> (first | omega | rfl | assumption | skip)
                  · rintro m ⟨hm', hok3⟩
                    by_cases hlt3 : m < g.outs.length
                    · have hlt' : m < h.outs.length := by omega
                      obtain ⟨x, hx⟩ : ∃ x, g.outs[m] = x := ⟨_, rfl⟩
                      obtain ⟨y, hy⟩ : ∃ y, h.outs[m] = y := ⟨_, rfl⟩
                      by_cases he : x = y
                      · clear ne1 ne2 ne3 ne4
                        subst he
                        repeat' (first | simp (maxDischargeDepth := 9) -implicitDefEqProofs -dsimp only [go_sem, seval, *] | simp (disch := omega) only [wrap64] | (with_reducible (first | apply Zn | apply Zo) <;> intro hq) | ((with_reducible refine Zu ?_ ?_); focus omega))
                        refine loop_next _ _ _ _ (m + 1) ?_; (repeat' (first | simp (maxDischargeDepth := 9) -implicitDefEqProofs -dsimp only [go_sem, seval, *] | simp (disch := omega) only [wrap64])) <;> (repeat' refine And.intro ?_ ?_) <;> (first | omega | rfl | assumption | skip)
                        intro j hj hji
                        rcases Nat.lt_or_ge j m with h' | h'
                        · exact hok3 j hj h'
                        · obtain rfl : j = m := by omega
                          rw [hx, hy]
                      · have hv := ne4 (fun e => he (by rw [← hx, ← hy]; simp only [e]))
                        have hb : (x != y) = true := by simpa using he
                        clear ne1 ne2 ne3 ne4
                        repeat' (first | simp (maxDischargeDepth := 9) -implicitDefEqProofs -dsimp only [go_sem, seval, *] | simp (disch := omega) only [wrap64] | (with_reducible (first | apply Zn | apply Zo) <;> intro hq) | ((with_reducible refine Zu ?_ ?_); focus omega))
                        refine fin_eq ?_
                        (repeat' (first | simp (maxDischargeDepth := 9) -implicitDefEqProofs -dsimp only [go_sem, seval, *] | simp (disch := omega) only [wrap64])) <;> (repeat' refine And.intro ?_ ?_) <;> (first | omega | rfl | assumption | skip)
                    · have hv : decide (g = h) = true := by
                        have q1 : g.flops = h.flops := List.ext_getElem (by omega) fun j hj _ => hok1 j hj (by omega)
                        have q2 : g.ands = h.ands := List.ext_getElem (by omega) fun j hj _ => hok2 j hj (by omega)
                        have q3 : g.outs = h.outs := List.ext_getElem (by omega) fun j hj _ => hok3 j hj (by omega)
                        cases g; cases h; simp_all
                      clear ne1 ne2 ne3 ne4
                      repeat' (first | simp (maxDischargeDepth := 9) -implicitDefEqProofs -dsimp only [go_sem, seval, *] | simp (disch := omega) only [wrap64] | (with_reducible (first | apply Zn | apply Zo) <;> intro hq) | ((with_reducible refine Zu ?_ ?_); focus omega))
                      refine fin_eq ?_
                      (repeat' (first | simp (maxDischargeDepth := 9) -implicitDefEqProofs -dsimp only [go_sem, seval, *] | simp (disch := omega) only [wrap64])) <;> (repeat' refine And.intro ?_ ?_) <;> (first | omega | rfl | assumption | skip)
        · have hv := ne4 (fun e => h3 (by rw [e]))
          clear ne1 ne2 ne3 ne4
          repeat' (first | simp (maxDischargeDepth := 9) -implicitDefEqProofs -dsimp only [go_sem, seval, *] | simp (disch := omega) only [wrap64] | (with_reducible (first | apply Zn | apply Zo) <;> intro hq) | ((with_reducible refine Zu ?_ ?_); focus omega))
          all_goals first | (exfalso; omega) | (refine fin_eq ?_; (repeat' (first | simp (maxDischargeDepth := 9) -implicitDefEqProofs -dsimp only [go_sem, seval, *] | simp (disch := omega) only [wrap64])) <;> (repeat' refine And.intro ?_ ?_) <;> (first | omega | rfl | assumption | skip))
      · have hv := ne3 (fun e => h2 (by rw [e]))
        clear ne1 ne2 ne3 ne4
        repeat' (first | simp (maxDischargeDepth := 9) -implicitDefEqProofs -dsimp only [go_sem, seval, *] | simp (disch := omega) only [wrap64] | (with_reducible (first | apply Zn | apply Zo) <;> intro hq) | ((with_reducible refine Zu ?_ ?_); focus omega))
        all_goals first | (exfalso; omega) | (refine fin_eq ?_; (repeat' (first | simp (maxDischargeDepth := 9) -implicitDefEqProofs -dsimp only [go_sem, seval, *] | simp (disch := omega) only [wrap64])) <;> (repeat' refine And.intro ?_ ?_) <;> (first | omega | rfl | assumption | skip))
    · have hv := ne2 (fun e => h1 (by rw [e]))
      clear ne1 ne2 ne3 ne4
      repeat' (first | simp (maxDischargeDepth := 9) -implicitDefEqProofs -dsimp only [go_sem, seval, *] | simp (disch := omega) only [wrap64] | (with_reducible (first | apply Zn | apply Zo) <;> intro hq) | ((with_reducible refine Zu ?_ ?_); focus omega))
      all_goals first | (exfalso; omega) | (refine fin_eq ?_; (repeat' (first | simp (maxDischargeDepth := 9) -implicitDefEqProofs -dsimp only [go_sem, seval, *] | simp (disch := omega) only [wrap64])) <;> (repeat' refine And.intro ?_ ?_) <;> (first | omega | rfl | assumption | skip))
  · have hv := ne1 hi
    clear ne1 ne2 ne3 ne4
    repeat' (first | simp (maxDischargeDepth := 9) -implicitDefEqProofs -dsimp only [go_sem, seval, *] | simp (disch := omega) only [wrap64] | (with_reducible (first | apply Zn | apply Zo) <;> intro hq) | ((with_reducible refine Zu ?_ ?_); focus omega))
    all_goals first | (exfalso; omega) | (refine fin_eq ?_; (repeat' (first | simp (maxDischargeDepth := 9) -implicitDefEqProofs -dsimp only [go_sem, seval, *] | simp (disch := omega) only [wrap64])) <;> (repeat' refine And.intro ?_ ?_) <;> (first | omega | rfl | assumption | skip))
end Go.Proofs.YtbbihmmobfmadaaGreat.A

namespace Go.Proofs.YtbbihmmobfmadaaGreat.A
open Abs Fil
theorem ref_and (g : Aig) (p q : Int) (σ : Sig) (hf : Fine g) (hp : g.lit p = true) (hq : g.lit q = true) :
    ACalls Tryz.prog 220 [encAig g, .int .i64 p, .int .i64 q] σ (fun r σ' => r = .ret (.tup [encAig (Aig.endW (g.andW 0 p q)).1, .int .i64 (Aig.endW (g.andW 0 p q)).2.1, .int .i64 (Aig.endW (g.andW 0 p q)).2.2]) ∧ σ' = σ) := by
  refine calls_x mixed Tryz.func220 b220 n220 rfl q220 (by simp) ?_; unfold c220 r220
  have hs := hf.toSmall
  have hcn := hf.cnt
  have hlo := hf.lo
  have hhi := hf.hi
  have hfl := hs.flops
  have hal := hs.ands
  have hp' := litN_iff.1 hp
  have hq' := litN_iff.1 hq
  have hcd : g.ins + g.flops.length + g.ands.length ≤ 65536 := hcn
  have hc0 : 0 ≤ g.count := by unfold Aig.count; omega
  have hfb := idxF_bounds (fun x : Int × Int => decide (min x.1 x.2 = min p q) && decide (max x.1 x.2 = max p q)) g.ands
  have hfe : g.find (min p q) (max p q) = idxF (fun x : Int × Int => decide (min x.1 x.2 = min p q) && decide (max x.1 x.2 = max p q)) g.ands := rfl
  rw [← hfe] at hfb
  by_cases c1 : min p q = 0 ∨ min p q = turn (max p q)
  · rw [andW1 c1]
    clear hfe hcd
    repeat' (first | simp (maxDischargeDepth := 9) -implicitDefEqProofs -dsimp only [go_sem, seval, *] | simp (disch := omega) only [wrap64, xor_is1] | (with_reducible (first | apply Zc | apply Ze | apply Zl | apply Zs) <;> intro hq) | ((with_reducible refine Zv ?_ ?_); focus (first | omega | exact rfl)) | ((with_reducible refine Zt (fun oF hoF hnF hnF' => ?_)); (try simp only [upd_none, ne_eq, not_and] at hoF)))
    all_goals first | (exfalso; omega) | (refine fin_eq ?_; (repeat' (first | simp (maxDischargeDepth := 9) -implicitDefEqProofs -dsimp only [go_sem, seval, Aig.endW, *] | simp (disch := omega) only [wrap64, xor_is1])) <;> (repeat' refine And.intro ?_ ?_) <;> (first | omega | rfl | assumption | skip); done)
  by_cases c2 : min p q = 1 ∨ min p q = max p q
  · rw [andW2 c1 c2]
    clear hfe hcd
    repeat' (first | simp (maxDischargeDepth := 9) -implicitDefEqProofs -dsimp only [go_sem, seval, *] | simp (disch := omega) only [wrap64, xor_is1] | (with_reducible (first | apply Zc | apply Ze | apply Zl | apply Zs) <;> intro hq) | ((with_reducible refine Zv ?_ ?_); focus (first | omega | exact rfl)) | ((with_reducible refine Zt (fun oF hoF hnF hnF' => ?_)); (try simp only [upd_none, ne_eq, not_and] at hoF)))
    all_goals first | (exfalso; omega) | (refine fin_eq ?_; (repeat' (first | simp (maxDischargeDepth := 9) -implicitDefEqProofs -dsimp only [go_sem, seval, Aig.endW, *] | simp (disch := omega) only [wrap64, xor_is1])) <;> (repeat' refine And.intro ?_ ?_) <;> (first | omega | rfl | assumption | skip); done)
  by_cases c3 : 0 ≤ g.find (min p q) (max p q)
  · rw [andW3 c1 c2 c3]
    clear hfe hcd
    repeat' (first | simp (maxDischargeDepth := 9) -implicitDefEqProofs -dsimp only [go_sem, seval, ge_iff_le, *] | simp (disch := omega) only [wrap64, xor_is1] | (with_reducible (first | apply Zc | apply Ze | apply Zl | apply Zs) <;> intro hq) | ((with_reducible refine Zv ?_ ?_); focus (first | omega | exact rfl)) | ((with_reducible refine Zt (fun oF hoF hnF hnF' => ?_)); (try simp only [upd_none, ne_eq, not_and] at hoF)) | ((with_reducible apply ACalls.one1); (focus ((first | with_reducible refine ref_gate g (min p q) (max p q) _ hal ?_ | with_reducible refine ACalls.flA (ref_gate g (min p q) (max p q) _ hal ?_) ?_) <;> (first | (simp (maxDischargeDepth := 9) -implicitDefEqProofs -dsimp only [go_sem, seval, *]; done) | omega))); (focus (first | trivial | with_reducible exact rfl | (simp (maxDischargeDepth := 9) -implicitDefEqProofs -dsimp only [go_sem, seval]; done)))))
    all_goals first | (exfalso; omega) | skip
    refine fin_eq ?_
    (repeat' (first | simp (maxDischargeDepth := 9) -implicitDefEqProofs -dsimp only [go_sem, seval, Aig.endW, Aig.first, *] | simp (disch := omega) only [wrap64, xor_is1])) <;> (repeat' refine And.intro ?_ ?_) <;> (first | omega | rfl | assumption | skip)
  by_cases c4 : g.count = 65536
  · rw [andW4 c1 c2 c3 c4]
    have c4' : g.ins + g.flops.length + g.ands.length = 65536 := c4
    clear hfe hcd
    repeat' (first | simp (maxDischargeDepth := 9) -implicitDefEqProofs -dsimp only [go_sem, seval, ge_iff_le, *] | simp (disch := omega) only [wrap64, xor_is1] | (with_reducible (first | apply Zc | apply Ze | apply Zl | apply Zs) <;> intro hq) | ((with_reducible refine Zv ?_ ?_); focus (first | omega | exact rfl)) | ((with_reducible refine Zt (fun oF hoF hnF hnF' => ?_)); (try simp only [upd_none, ne_eq, not_and] at hoF)) | ((with_reducible apply ACalls.one1); (focus ((first | with_reducible refine ref_gate g (min p q) (max p q) _ hal ?_ | with_reducible refine ACalls.flA (ref_gate g (min p q) (max p q) _ hal ?_) ?_) <;> (first | (simp (maxDischargeDepth := 9) -implicitDefEqProofs -dsimp only [go_sem, seval, *]; done) | omega))); (focus (first | trivial | with_reducible exact rfl | (simp (maxDischargeDepth := 9) -implicitDefEqProofs -dsimp only [go_sem, seval]; done)))))
    all_goals first | (exfalso; omega) | (refine fin_eq ?_; (repeat' (first | simp (maxDischargeDepth := 9) -implicitDefEqProofs -dsimp only [go_sem, seval, Aig.endW, *] | simp (disch := omega) only [wrap64, xor_is1])) <;> (repeat' refine And.intro ?_ ?_) <;> (first | omega | rfl | assumption | skip); done)
  · rw [andW5 c1 c2 c3 c4]
    have c4' : g.ins + g.flops.length + g.ands.length < 65536 := by unfold Aig.count at c4; omega
    have hsm := (andO_some hf hp hq (g' := { g with ands := g.ands ++ [(min p q, max p q)] }) (x := 2 * (g.count + 1)) (by simp only [Aig.andO, c1, c2, c3, c4, if_false])).1.toSmall
    have hcp := count_push (g := g) (min p q, max p q)
    clear hfe hcd
    repeat' (first | simp (maxDischargeDepth := 9) -implicitDefEqProofs -dsimp only [go_sem, seval, ge_iff_le, *] | simp (disch := omega) only [wrap64, xor_is1] | (with_reducible (first | apply Zc | apply Ze | apply Zl | apply Zs) <;> intro hq) | ((with_reducible refine Zv ?_ ?_); focus (first | omega | exact rfl)) | ((with_reducible refine Zt (fun oF hoF hnF hnF' => ?_)); (try simp only [upd_none, ne_eq, not_and] at hoF)) | ((with_reducible apply ACalls.one1); (focus ((first | with_reducible refine ref_gate g (min p q) (max p q) _ hal ?_ | with_reducible refine ref_Count { g with ands := g.ands ++ [(min p q, max p q)] } _ hsm | with_reducible refine ACalls.flA (ref_gate g (min p q) (max p q) _ hal ?_) ?_ | with_reducible refine ACalls.flA (ref_Count { g with ands := g.ands ++ [(min p q, max p q)] } _ hsm) ?_) <;> (first | (simp (maxDischargeDepth := 9) -implicitDefEqProofs -dsimp only [go_sem, seval, *]; done) | omega))); (focus (first | trivial | with_reducible exact rfl | (simp (maxDischargeDepth := 9) -implicitDefEqProofs -dsimp only [go_sem, seval]; done)))) | ((with_reducible apply id_one0); (focus (intro tS hS; ((first | with_reducible refine ref_gate g (min p q) (max p q) _ hal ?_ | with_reducible refine ref_Count { g with ands := g.ands ++ [(min p q, max p q)] } _ hsm | with_reducible refine ACalls.flA (ref_gate g (min p q) (max p q) _ hal ?_) ?_ | with_reducible refine ACalls.flA (ref_Count { g with ands := g.ands ++ [(min p q, max p q)] } _ hsm) ?_) <;> (first | (simp (maxDischargeDepth := 9) -implicitDefEqProofs -dsimp only [go_sem, seval, *]; done) | omega | ((with_reducible refine Sub.get hS ?_); simp (maxDischargeDepth := 9) -implicitDefEqProofs -dsimp only [go_sem, seval, *]; done))))); (focus (first | trivial | (simp (maxDischargeDepth := 9) -implicitDefEqProofs -dsimp only [go_sem, seval, *]; done)))))
    all_goals first | (exfalso; omega) | skip
    all_goals
      refine fin_eq ?_
      (repeat' (first | simp (maxDischargeDepth := 9) -implicitDefEqProofs -dsimp only [go_sem, seval, Aig.endW, *] | simp (disch := omega) only [wrap64, xor_is1])) <;> (repeat' refine And.intro ?_ ?_) <;> (first | omega | rfl | assumption | skip)
theorem ref_or (g : Aig) (a b : Int) (σ : Sig) (hf : Fine g) (ha : g.lit a = true) (hb : g.lit b = true) :
    ACalls Tryz.prog 221 [encAig g, .int .i64 a, .int .i64 b] σ (fun r σ' => r = .ret (.tup [encAig (Aig.endW (g.orW 0 a b)).1, .int .i64 (Aig.endW (g.orW 0 a b)).2.1, .int .i64 (Aig.endW (g.orW 0 a b)).2.2]) ∧ σ' = σ) := by
  refine calls_x mixed Tryz.func221 b221 n221 rfl q221 (by simp) ?_; unfold c221 r221
  have hcn := hf.cnt
  have ha' := litN_iff.1 ha
  have hb' := litN_iff.1 hb
  have hr := andW_range (g := g) (e := 0) (p := turn a) (q := turn b) (fun _ => ⟨hf, turn_lit ha, turn_lit hb⟩)
  obtain ⟨hr1, hr2⟩ := hr
  have ta : g.lit (turn a) = true := turn_lit ha
  have tb : g.lit (turn b) = true := turn_lit hb
  by_cases he : (g.andW 0 (turn a) (turn b)).2.1 = 0
  · have e1 := endW_ok he
    have e2 := endW_or (g := g) (a := a) (b := b) he
    repeat' (first | simp (maxDischargeDepth := 9) -implicitDefEqProofs -dsimp only [go_sem, seval, *] | simp (disch := omega) only [xor1] | ((with_reducible refine Zt (fun oF hoF hnF hnF' => ?_)); (try simp only [upd_none, ne_eq, not_and] at hoF)) | ((with_reducible apply ACalls.one1); (focus ((first | with_reducible refine ref_and g (turn a) (turn b) _ hf ta tb) <;> (first | (simp (maxDischargeDepth := 9) -implicitDefEqProofs -dsimp only [go_sem, seval, *]; done) | omega))); (focus (first | trivial | with_reducible exact rfl | (simp (maxDischargeDepth := 9) -implicitDefEqProofs -dsimp only [go_sem, seval]; done)))))
    refine fin_eq ?_
    (repeat' (first | simp (maxDischargeDepth := 9) -implicitDefEqProofs -dsimp only [go_sem, seval, *] | simp (disch := omega) only [xor1])) <;> (repeat' refine And.intro ?_ ?_) <;> (first | omega | rfl | assumption | skip)
  · have e1 := endW_err he
    have e2 := endW_or' (g := g) (a := a) (b := b) he
    have hb : ((g.andW 0 (turn a) (turn b)).2.1 != 0) = true := by simpa using he
    repeat' (first | simp (maxDischargeDepth := 9) -implicitDefEqProofs -dsimp only [go_sem, seval, *] | simp (disch := omega) only [xor1] | ((with_reducible refine Zt (fun oF hoF hnF hnF' => ?_)); (try simp only [upd_none, ne_eq, not_and] at hoF)) | ((with_reducible apply ACalls.one1); (focus ((first | with_reducible refine ref_and g (turn a) (turn b) _ hf ta tb) <;> (first | (simp (maxDischargeDepth := 9) -implicitDefEqProofs -dsimp only [go_sem, seval, *]; done) | omega))); (focus (first | trivial | with_reducible exact rfl | (simp (maxDischargeDepth := 9) -implicitDefEqProofs -dsimp only [go_sem, seval]; done)))))
    refine fin_eq ?_
    (repeat' (first | simp (maxDischargeDepth := 9) -implicitDefEqProofs -dsimp only [go_sem, seval, *] | simp (disch := omega) only [xor1])) <;> (repeat' refine And.intro ?_ ?_) <;> (first | omega | rfl | assumption | skip)
theorem ref_pairs (g : Aig) (a b c d : Int) (σ : Sig) (hf : Fine g) (ha : g.lit a = true) (hb : g.lit b = true) (hc : g.lit c = true) (hd : g.lit d = true) :
    ACalls Tryz.prog 217 [encAig g, .int .i64 a, .int .i64 b, .int .i64 c, .int .i64 d] σ (fun r σ' => r = .ret (.tup [encAig (Aig.endW (g.pairs 0 a b c d)).1, .int .i64 (Aig.endW (g.pairs 0 a b c d)).2.1, .int .i64 (Aig.endW (g.pairs 0 a b c d)).2.2]) ∧ σ' = σ) := by
  refine calls_x mixed Tryz.func217 b217 n217 rfl q217 (by simp) ?_; unfold c217 r217
  obtain ⟨k1, k2, _⟩ := andW_ok (g := g) (e := 0) (p := a) (q := b) (fun _ => ⟨hf, ha, hb⟩)
  obtain ⟨r, hr⟩ : ∃ r, g.andW 0 a b = r := ⟨_, rfl⟩
  rw [hr] at k1 k2
  by_cases he : r.2.1 = 0
  · have e1 := endW_ok he
    have hfr := (k1 he).1
    have lc := k2.lit hc
    have ld := k2.lit hd
    obtain ⟨m1, m2, _⟩ := andW_ok (g := r.1) (e := 0) (p := c) (q := d) (fun _ => ⟨hfr, lc, ld⟩)
    obtain ⟨s, hs⟩ : ∃ s, r.1.andW 0 c d = s := ⟨_, rfl⟩
    rw [hs] at m1 m2
    have hp : g.pairs 0 a b c d = s.1.orW s.2.1 r.2.2 s.2.2 := by simp only [Aig.pairs, hr, he, hs]
    by_cases he2 : s.2.1 = 0
    · have e2 := endW_ok he2
      have hfs := (m1 he2).1
      have l1 := m2.lit (k1 he).2
      have l2 := (m1 he2).2
      have ez : ((0 : Int) != 0) = false := by decide
      repeat' (first | simp (maxDischargeDepth := 9) -implicitDefEqProofs -dsimp only [go_sem, seval, *] | ((with_reducible refine Zt (fun oF hoF hnF hnF' => ?_)); (try simp only [upd_none, ne_eq, not_and] at hoF)) | ((with_reducible apply ACalls.one1); (focus ((first | with_reducible refine ref_and g a b _ hf ha hb | with_reducible refine ref_and r.1 c d _ hfr lc ld | with_reducible refine ref_or s.1 r.2.2 s.2.2 _ hfs l1 l2) <;> (first | (simp (maxDischargeDepth := 9) -implicitDefEqProofs -dsimp only [go_sem, seval, *]; done) | omega))); (focus (first | trivial | with_reducible exact rfl | (simp (maxDischargeDepth := 9) -implicitDefEqProofs -dsimp only [go_sem, seval]; done)))))
      refine fin_eq ?_
      (repeat' (first | simp (maxDischargeDepth := 9) -implicitDefEqProofs -dsimp only [go_sem, seval, *])) <;> (repeat' refine And.intro ?_ ?_) <;> (first | omega | rfl | assumption | skip)
    · have e2 := endW_err he2
      have hp2 : Aig.endW (s.1.orW s.2.1 r.2.2 s.2.2) = (⟨0, [], [], []⟩, 0, s.2.1) := by
        have h' : s.1.orW s.2.1 r.2.2 s.2.2 = (s.1, s.2.1, turn 0) := by simp only [Aig.orW, andW_none he2]
        rw [h']; exact endW_err he2
      have hb2 : (s.2.1 != 0) = true := by simpa using he2
      have ez : ((0 : Int) != 0) = false := by decide
      repeat' (first | simp (maxDischargeDepth := 9) -implicitDefEqProofs -dsimp only [go_sem, seval, *] | ((with_reducible refine Zt (fun oF hoF hnF hnF' => ?_)); (try simp only [upd_none, ne_eq, not_and] at hoF)) | ((with_reducible apply ACalls.one1); (focus ((first | with_reducible refine ref_and g a b _ hf ha hb | with_reducible refine ref_and r.1 c d _ hfr lc ld) <;> (first | (simp (maxDischargeDepth := 9) -implicitDefEqProofs -dsimp only [go_sem, seval, *]; done) | omega))); (focus (first | trivial | with_reducible exact rfl | (simp (maxDischargeDepth := 9) -implicitDefEqProofs -dsimp only [go_sem, seval]; done)))))
      refine fin_eq ?_
      (repeat' (first | simp (maxDischargeDepth := 9) -implicitDefEqProofs -dsimp only [go_sem, seval, *])) <;> (repeat' refine And.intro ?_ ?_) <;> (first | omega | rfl | assumption | skip)
  · have e1 := endW_err he
    have hp : Aig.endW (g.pairs 0 a b c d) = (⟨0, [], [], []⟩, 0, r.2.1) := by
      have : g.pairs 0 a b c d = (r.1, r.2.1, turn 0) := by
        simp only [Aig.pairs, hr, andW_none he, Aig.orW]
      rw [this]
      exact endW_err he
    have hb2 : (r.2.1 != 0) = true := by simpa using he
    repeat' (first | simp (maxDischargeDepth := 9) -implicitDefEqProofs -dsimp only [go_sem, seval, *] | ((with_reducible refine Zt (fun oF hoF hnF hnF' => ?_)); (try simp only [upd_none, ne_eq, not_and] at hoF)) | ((with_reducible apply ACalls.one1); (focus ((first | with_reducible refine ref_and g a b _ hf ha hb) <;> (first | (simp (maxDischargeDepth := 9) -implicitDefEqProofs -dsimp only [go_sem, seval, *]; done) | omega))); (focus (first | trivial | with_reducible exact rfl | (simp (maxDischargeDepth := 9) -implicitDefEqProofs -dsimp only [go_sem, seval]; done)))))
    refine fin_eq ?_
    (repeat' (first | simp (maxDischargeDepth := 9) -implicitDefEqProofs -dsimp only [go_sem, seval, *])) <;> (repeat' refine And.intro ?_ ?_) <;> (first | omega | rfl | assumption | skip)
theorem ref_And (g : Aig) (a b : Int) (σ : Sig) (hs : Wf g) :
    ACalls Tryz.prog 177 [encAig g, .int .i64 a, .int .i64 b] σ (fun r σ' => r = .ret (.tup [encAig (g.And a b).1, .int .i64 (g.And a b).2.1, .int .i64 (g.And a b).2.2]) ∧ σ' = σ) := by
  refine calls_x mixed Tryz.func177 b177 n177 rfl q177 (by simp) ?_; unfold c177 r177
  obtain ⟨e, he⟩ : ∃ e, g.checkL g.check [a, b] = e := ⟨_, rfl⟩
  have hd : g.And a b = Aig.endW (g.andW e a b) := by rw [← he]; rfl
  by_cases h0 : e = 0
  · subst h0
    obtain ⟨hf, hl⟩ := checkL_fine hs he
    have ha := hl a (by simp)
    have hb := hl b (by simp)
    have ez : ((0 : Int) != 0) = false := by decide
    clear hl
    repeat' (first | simp (maxDischargeDepth := 9) -implicitDefEqProofs -dsimp only [go_sem, seval, *] | ((with_reducible refine Zt (fun oF hoF hnF hnF' => ?_)); (try simp only [upd_none, ne_eq, not_and] at hoF)) | ((with_reducible apply ACalls.one1); (focus ((first | with_reducible refine ref_may g [a, b] _ hs ?_ | with_reducible refine ref_and g a b _ hf ha hb | with_reducible refine ACalls.flA (ref_may g [a, b] _ hs ?_) ?_ | with_reducible refine ACalls.flA (ref_and g a b _ hf ha hb) ?_) <;> (first | (simp (maxDischargeDepth := 9) -implicitDefEqProofs -dsimp only [go_sem, seval, *]; done) | omega))); (focus (first | trivial | with_reducible exact rfl | (simp (maxDischargeDepth := 9) -implicitDefEqProofs -dsimp only [go_sem, seval]; done)))))
    refine fin_eq ?_
    (repeat' (first | simp (maxDischargeDepth := 9) -implicitDefEqProofs -dsimp only [go_sem, seval, *])) <;> (repeat' refine And.intro ?_ ?_) <;> (first | omega | rfl | assumption | skip)
  · have hv : Aig.endW (g.andW e a b) = (⟨0, [], [], []⟩, 0, e) := by rw [andW_none h0]; exact endW_err h0
    have hb2 : (e != 0) = true := by simpa using h0
    repeat' (first | simp (maxDischargeDepth := 9) -implicitDefEqProofs -dsimp only [go_sem, seval, *] | ((with_reducible refine Zt (fun oF hoF hnF hnF' => ?_)); (try simp only [upd_none, ne_eq, not_and] at hoF)) | ((with_reducible apply ACalls.one1); (focus ((first | with_reducible refine ref_may g [a, b] _ hs ?_ | with_reducible refine ACalls.flA (ref_may g [a, b] _ hs ?_) ?_) <;> (first | (simp (maxDischargeDepth := 9) -implicitDefEqProofs -dsimp only [go_sem, seval, *]; done) | omega))); (focus (first | trivial | with_reducible exact rfl | (simp (maxDischargeDepth := 9) -implicitDefEqProofs -dsimp only [go_sem, seval]; done)))))
    refine fin_eq ?_
    (repeat' (first | simp (maxDischargeDepth := 9) -implicitDefEqProofs -dsimp only [go_sem, seval, *])) <;> (repeat' refine And.intro ?_ ?_) <;> (first | omega | rfl | assumption | skip)
theorem ref_Or (g : Aig) (a b : Int) (σ : Sig) (hs : Wf g) :
    ACalls Tryz.prog 178 [encAig g, .int .i64 a, .int .i64 b] σ (fun r σ' => r = .ret (.tup [encAig (g.Or a b).1, .int .i64 (g.Or a b).2.1, .int .i64 (g.Or a b).2.2]) ∧ σ' = σ) := by
  refine calls_x mixed Tryz.func178 b178 n178 rfl q178 (by simp) ?_; unfold c178 r178
  obtain ⟨e, he⟩ : ∃ e, g.checkL g.check [a, b] = e := ⟨_, rfl⟩
  have hd : g.Or a b = Aig.endW (g.orW e a b) := by rw [← he]; rfl
  by_cases h0 : e = 0
  · subst h0
    obtain ⟨hf, hl⟩ := checkL_fine hs he
    have ha := hl a (by simp)
    have hb := hl b (by simp)
    have ez : ((0 : Int) != 0) = false := by decide
    clear hl
    repeat' (first | simp (maxDischargeDepth := 9) -implicitDefEqProofs -dsimp only [go_sem, seval, *] | ((with_reducible refine Zt (fun oF hoF hnF hnF' => ?_)); (try simp only [upd_none, ne_eq, not_and] at hoF)) | ((with_reducible apply ACalls.one1); (focus ((first | with_reducible refine ref_may g [a, b] _ hs ?_ | with_reducible refine ref_or g a b _ hf ha hb | with_reducible refine ACalls.flA (ref_may g [a, b] _ hs ?_) ?_ | with_reducible refine ACalls.flA (ref_or g a b _ hf ha hb) ?_) <;> (first | (simp (maxDischargeDepth := 9) -implicitDefEqProofs -dsimp only [go_sem, seval, *]; done) | omega))); (focus (first | trivial | with_reducible exact rfl | (simp (maxDischargeDepth := 9) -implicitDefEqProofs -dsimp only [go_sem, seval]; done)))))
    refine fin_eq ?_
    (repeat' (first | simp (maxDischargeDepth := 9) -implicitDefEqProofs -dsimp only [go_sem, seval, *])) <;> (repeat' refine And.intro ?_ ?_) <;> (first | omega | rfl | assumption | skip)
  · have hv : Aig.endW (g.orW e a b) = (⟨0, [], [], []⟩, 0, e) := by
      have h' : g.orW e a b = (g, e, turn 0) := by simp only [Aig.orW, andW_none h0]
      rw [h']; exact endW_err h0
    have hb2 : (e != 0) = true := by simpa using h0
    repeat' (first | simp (maxDischargeDepth := 9) -implicitDefEqProofs -dsimp only [go_sem, seval, *] | ((with_reducible refine Zt (fun oF hoF hnF hnF' => ?_)); (try simp only [upd_none, ne_eq, not_and] at hoF)) | ((with_reducible apply ACalls.one1); (focus ((first | with_reducible refine ref_may g [a, b] _ hs ?_ | with_reducible refine ACalls.flA (ref_may g [a, b] _ hs ?_) ?_) <;> (first | (simp (maxDischargeDepth := 9) -implicitDefEqProofs -dsimp only [go_sem, seval, *]; done) | omega))); (focus (first | trivial | with_reducible exact rfl | (simp (maxDischargeDepth := 9) -implicitDefEqProofs -dsimp only [go_sem, seval]; done)))))
    refine fin_eq ?_
    (repeat' (first | simp (maxDischargeDepth := 9) -implicitDefEqProofs -dsimp only [go_sem, seval, *])) <;> (repeat' refine And.intro ?_ ?_) <;> (first | omega | rfl | assumption | skip)
theorem pairs_err {g : Aig} {e a b c d : Int} (h : e ≠ 0) : Aig.endW (g.pairs e a b c d) = (⟨0, [], [], []⟩, 0, e) := by
  have : g.pairs e a b c d = (g, e, turn 0) := by simp only [Aig.pairs, andW_none h, Aig.orW]
  rw [this]; exact endW_err h
theorem ref_Xor (g : Aig) (a b : Int) (σ : Sig) (hs : Wf g) (ia : I64 a) (ib : I64 b) :
    ACalls Tryz.prog 169 [encAig g, .int .i64 a, .int .i64 b] σ (fun r σ' => r = .ret (.tup [encAig (g.Xor a b).1, .int .i64 (g.Xor a b).2.1, .int .i64 (g.Xor a b).2.2]) ∧ σ' = σ) := by
  refine calls_x mixed Tryz.func169 b169 n169 rfl q169 (by simp) ?_; unfold c169 r169
  obtain ⟨ia1, ia2⟩ := ia
  obtain ⟨ib1, ib2⟩ := ib
  obtain ⟨e, he⟩ : ∃ e, g.checkL g.check [a, b] = e := ⟨_, rfl⟩
  have hd : g.Xor a b = Aig.endW (g.pairs e a (turn b) (turn a) b) := by rw [← he]; rfl
  by_cases h0 : e = 0
  · subst h0
    obtain ⟨hf, hl⟩ := checkL_fine hs he
    have ha := hl a (by simp)
    have hb := hl b (by simp)
    have ta : g.lit (turn a) = true := turn_lit ha
    have tb : g.lit (turn b) = true := turn_lit hb
    have ez : ((0 : Int) != 0) = false := by decide
    clear hl
    repeat' (first | simp (maxDischargeDepth := 9) -implicitDefEqProofs -dsimp only [go_sem, seval, *] | simp (disch := omega) only [xor1] | ((with_reducible refine Zt (fun oF hoF hnF hnF' => ?_)); (try simp only [upd_none, ne_eq, not_and] at hoF)) | ((with_reducible apply ACalls.one1); (focus ((first | with_reducible refine ref_may g [a, b] _ hs ?_ | with_reducible refine ref_pairs g a (turn b) (turn a) b _ hf ha tb ta hb | with_reducible refine ACalls.flA (ref_may g [a, b] _ hs ?_) ?_ | with_reducible refine ACalls.flA (ref_pairs g a (turn b) (turn a) b _ hf ha tb ta hb) ?_) <;> (first | (simp (maxDischargeDepth := 9) -implicitDefEqProofs -dsimp only [go_sem, seval, *]; done) | omega))); (focus (first | trivial | with_reducible exact rfl | (simp (maxDischargeDepth := 9) -implicitDefEqProofs -dsimp only [go_sem, seval]; done)))))
    refine fin_eq ?_
    (repeat' (first | simp (maxDischargeDepth := 9) -implicitDefEqProofs -dsimp only [go_sem, seval, *] | simp (disch := omega) only [xor1])) <;> (repeat' refine And.intro ?_ ?_) <;> (first | omega | rfl | assumption | skip)
  · have hv := pairs_err (g := g) (a := a) (b := turn b) (c := turn a) (d := b) h0
    have hb2 : (e != 0) = true := by simpa using h0
    repeat' (first | simp (maxDischargeDepth := 9) -implicitDefEqProofs -dsimp only [go_sem, seval, *] | simp (disch := omega) only [xor1] | ((with_reducible refine Zt (fun oF hoF hnF hnF' => ?_)); (try simp only [upd_none, ne_eq, not_and] at hoF)) | ((with_reducible apply ACalls.one1); (focus ((first | with_reducible refine ref_may g [a, b] _ hs ?_ | with_reducible refine ACalls.flA (ref_may g [a, b] _ hs ?_) ?_) <;> (first | (simp (maxDischargeDepth := 9) -implicitDefEqProofs -dsimp only [go_sem, seval, *]; done) | omega))); (focus (first | trivial | with_reducible exact rfl | (simp (maxDischargeDepth := 9) -implicitDefEqProofs -dsimp only [go_sem, seval]; done)))))
    refine fin_eq ?_
    (repeat' (first | simp (maxDischargeDepth := 9) -implicitDefEqProofs -dsimp only [go_sem, seval, *] | simp (disch := omega) only [xor1])) <;> (repeat' refine And.intro ?_ ?_) <;> (first | omega | rfl | assumption | skip)
theorem ref_Mux (g : Aig) (c a b : Int) (σ : Sig) (hs : Wf g) (ic : I64 c) :
    ACalls Tryz.prog 181 [encAig g, .int .i64 c, .int .i64 a, .int .i64 b] σ (fun r σ' => r = .ret (.tup [encAig (g.Mux c a b).1, .int .i64 (g.Mux c a b).2.1, .int .i64 (g.Mux c a b).2.2]) ∧ σ' = σ) := by
  refine calls_x mixed Tryz.func181 b181 n181 rfl q181 (by simp) ?_; unfold c181 r181
  obtain ⟨ic1, ic2⟩ := ic
  obtain ⟨e, he⟩ : ∃ e, g.checkL g.check [c, a, b] = e := ⟨_, rfl⟩
  have hd : g.Mux c a b = Aig.endW (g.pairs e c a (turn c) b) := by rw [← he]; rfl
  by_cases h0 : e = 0
  · subst h0
    obtain ⟨hf, hl⟩ := checkL_fine hs he
    have ha := hl a (by simp)
    have hb := hl b (by simp)
    have hc := hl c (by simp)
    have tc : g.lit (turn c) = true := turn_lit hc
    have ez : ((0 : Int) != 0) = false := by decide
    clear hl
    repeat' (first | simp (maxDischargeDepth := 9) -implicitDefEqProofs -dsimp only [go_sem, seval, *] | simp (disch := omega) only [xor1] | ((with_reducible refine Zt (fun oF hoF hnF hnF' => ?_)); (try simp only [upd_none, ne_eq, not_and] at hoF)) | ((with_reducible apply ACalls.one1); (focus ((first | with_reducible refine ref_may g [c, a, b] _ hs ?_ | with_reducible refine ref_pairs g c a (turn c) b _ hf hc ha tc hb | with_reducible refine ACalls.flA (ref_may g [c, a, b] _ hs ?_) ?_ | with_reducible refine ACalls.flA (ref_pairs g c a (turn c) b _ hf hc ha tc hb) ?_) <;> (first | (simp (maxDischargeDepth := 9) -implicitDefEqProofs -dsimp only [go_sem, seval, *]; done) | omega))); (focus (first | trivial | with_reducible exact rfl | (simp (maxDischargeDepth := 9) -implicitDefEqProofs -dsimp only [go_sem, seval]; done)))))
    refine fin_eq ?_
    (repeat' (first | simp (maxDischargeDepth := 9) -implicitDefEqProofs -dsimp only [go_sem, seval, *] | simp (disch := omega) only [xor1])) <;> (repeat' refine And.intro ?_ ?_) <;> (first | omega | rfl | assumption | skip)
  · have hv := pairs_err (g := g) (a := c) (b := a) (c := turn c) (d := b) h0
    have hb2 : (e != 0) = true := by simpa using h0
    repeat' (first | simp (maxDischargeDepth := 9) -implicitDefEqProofs -dsimp only [go_sem, seval, *] | simp (disch := omega) only [xor1] | ((with_reducible refine Zt (fun oF hoF hnF hnF' => ?_)); (try simp only [upd_none, ne_eq, not_and] at hoF)) | ((with_reducible apply ACalls.one1); (focus ((first | with_reducible refine ref_may g [c, a, b] _ hs ?_ | with_reducible refine ACalls.flA (ref_may g [c, a, b] _ hs ?_) ?_) <;> (first | (simp (maxDischargeDepth := 9) -implicitDefEqProofs -dsimp only [go_sem, seval, *]; done) | omega))); (focus (first | trivial | with_reducible exact rfl | (simp (maxDischargeDepth := 9) -implicitDefEqProofs -dsimp only [go_sem, seval]; done)))))
    refine fin_eq ?_
    (repeat' (first | simp (maxDischargeDepth := 9) -implicitDefEqProofs -dsimp only [go_sem, seval, *] | simp (disch := omega) only [xor1])) <;> (repeat' refine And.intro ?_ ?_) <;> (first | omega | rfl | assumption | skip)
end Go.Proofs.YtbbihmmobfmadaaGreat.A

namespace Go.Proofs.YtbbihmmobfmadaaGreat.A
open Abs Fil
theorem ref_Ints (a b : List Int) (σ : Sig) (ha : a.length ≤ 1000000000) :
    ACalls Tryz.prog 14 [.slice (a.map encInt) .no, .slice (b.map encInt) .no] σ (fun r σ' => r = .ret (.bool (decide (a = b))) ∧ σ' = σ) := by
  refine calls_x mixed Tryz.func14 b14 n14 rfl q14 (by simp) ?_; unfold c14 r14
  by_cases hl : a.length = b.length
  · repeat' (first | simp (maxDischargeDepth := 9) -implicitDefEqProofs -dsimp only [go_sem, seval, *] | simp (disch := omega) only [wrap64] | ((with_reducible refine Zu ?_ ?_); focus omega))
    have hl' := And.intro (Nat.le_of_eq hl) (Nat.le_of_eq hl.symm)
    clear hl
    refine loop_rule (fun i : Nat => [(0, some (.slice (a.map encInt) .no)), (1, some (.slice (b.map encInt) .no)), (5, some (.int .i64 i))]) (fun _ => σ) (fun i => i ≤ a.length ∧ ∀ j, (hj : j < a.length) → j < i → a[j] = b[j]) (fun i => a.length - i) 0 ?_ ?_
    · (repeat' (first | simp (maxDischargeDepth := 9) -implicitDefEqProofs -dsimp only [go_sem, seval, *] | simp (disch := omega) only [wrap64])) <;> (repeat' refine And.intro ?_ ?_) <;> (first | omega | rfl | assumption | skip)
    · rintro i ⟨hi, hok⟩
      by_cases hlt : i < a.length
      · have hlt' : i < b.length := by omega
        obtain ⟨x, hx⟩ : ∃ x, a[i] = x := ⟨_, rfl⟩
        obtain ⟨y, hy⟩ : ∃ y, b[i] = y := ⟨_, rfl⟩
        by_cases he : x = y
        · subst he
          repeat' (first | simp (maxDischargeDepth := 9) -implicitDefEqProofs -dsimp only [go_sem, seval, *] | simp (disch := omega) only [wrap64] | ((with_reducible refine Zu ?_ ?_); focus omega))
          refine loop_next _ _ _ _ (i + 1) ?_; (repeat' (first | simp (maxDischargeDepth := 9) -implicitDefEqProofs -dsimp only [go_sem, seval, *] | simp (disch := omega) only [wrap64])) <;> (repeat' refine And.intro ?_ ?_) <;> (first | omega | rfl | assumption | skip)
          intro j hj hji
          rcases Nat.lt_or_ge j i with h' | h'
          · exact hok j hj h'
          · obtain rfl : j = i := by omega
            rw [hx, hy]
        · have hv : decide (a = b) = false := by simp; intro e; exact he (by rw [← hx, ← hy]; simp only [e])
          have hb : (x != y) = true := by simpa using he
          repeat' (first | simp (maxDischargeDepth := 9) -implicitDefEqProofs -dsimp only [go_sem, seval, *] | simp (disch := omega) only [wrap64] | ((with_reducible refine Zu ?_ ?_); focus omega))
          refine fin_eq ?_
          (repeat' (first | simp (maxDischargeDepth := 9) -implicitDefEqProofs -dsimp only [go_sem, seval, *] | simp (disch := omega) only [wrap64])) <;> (repeat' refine And.intro ?_ ?_) <;> (first | omega | rfl | assumption | skip)
      · have hv : decide (a = b) = true := by simp; exact List.ext_getElem (by omega) fun j hj _ => hok j hj (by omega)
        repeat' (first | simp (maxDischargeDepth := 9) -implicitDefEqProofs -dsimp only [go_sem, seval, *] | simp (disch := omega) only [wrap64] | ((with_reducible refine Zu ?_ ?_); focus omega))
        refine fin_eq ?_
        (repeat' (first | simp (maxDischargeDepth := 9) -implicitDefEqProofs -dsimp only [go_sem, seval, *] | simp (disch := omega) only [wrap64])) <;> (repeat' refine And.intro ?_ ?_) <;> (first | omega | rfl | assumption | skip)
  · have hb : ((a.length : Int) != b.length) = true := by simp; omega
    have hv : decide (a = b) = false := by simp; intro e; exact hl (by rw [e])
    repeat' (first | simp (maxDischargeDepth := 9) -implicitDefEqProofs -dsimp only [go_sem, seval, *] | simp (disch := omega) only [wrap64] | ((with_reducible refine Zu ?_ ?_); focus omega))
    refine fin_eq ?_
    (repeat' (first | simp (maxDischargeDepth := 9) -implicitDefEqProofs -dsimp only [go_sem, seval, *] | simp (disch := omega) only [wrap64])) <;> (repeat' refine And.intro ?_ ?_) <;> (first | omega | rfl | assumption | skip)
end Go.Proofs.YtbbihmmobfmadaaGreat.A

namespace Fil
open Abs
def Res (g : Aig) (n : Nat) (l : List Int) (r : Aig × Int × Int) : Prop :=
  (r.2.2 = 0 ∧ g.check = 0 ∧ (∀ a ∈ l, g.lit a = true) ∧ Fine r.1 ∧ Ext g r.1 ∧ r.1.lit r.2.1 = true ∧ r.1.ands.length ≤ g.ands.length + n) ∨ (r.2.2 ≠ 0 ∧ r.1 = ⟨0, [], [], []⟩ ∧ r.2.1 = 0)
theorem andO_len {g g' : Aig} {p q x : Int} (h : g.andO p q = some (g', x)) : g'.ands.length ≤ g.ands.length + 1 := by
  unfold Aig.andO at h
  simp only at h
  split at h
  · simp at h; obtain ⟨rfl, _⟩ := h; omega
  · split at h
    · simp at h; obtain ⟨rfl, _⟩ := h; omega
    · split at h
      · simp at h; obtain ⟨rfl, _⟩ := h; omega
      · split at h
        · simp at h
        · simp at h; obtain ⟨rfl, _⟩ := h; simp
theorem andW_len (g : Aig) (e p q : Int) : (g.andW e p q).1.ands.length ≤ g.ands.length + 1 := by
  unfold Aig.andW
  split
  · simp
  · cases h : g.andO p q with
    | none => simp
    | some r => exact andO_len h
theorem orW_ok {g : Aig} {e p q : Int} (hf : e = 0 → Fine g ∧ g.lit p = true ∧ g.lit q = true) :
    ((g.orW e p q).2.1 = 0 → Fine (g.orW e p q).1 ∧ (g.orW e p q).1.lit (g.orW e p q).2.2 = true) ∧ Ext g (g.orW e p q).1 := by
  obtain ⟨h1, h2, _⟩ := andW_ok (g := g) (e := e) (p := turn p) (q := turn q) fun h => ⟨(hf h).1, turn_lit (hf h).2.1, turn_lit (hf h).2.2⟩
  exact ⟨fun h => ⟨(h1 h).1, turn_lit (h1 h).2⟩, h2⟩
theorem pairsW_ok {g : Aig} {e a b c d : Int} (hf : e = 0 → Fine g ∧ g.lit a = true ∧ g.lit b = true ∧ g.lit c = true ∧ g.lit d = true) :
    ((g.pairs e a b c d).2.1 = 0 → e = 0 ∧ Fine (g.pairs e a b c d).1 ∧ (g.pairs e a b c d).1.lit (g.pairs e a b c d).2.2 = true) ∧ Ext g (g.pairs e a b c d).1 ∧ (g.pairs e a b c d).1.ands.length ≤ g.ands.length + 3 := by
  obtain ⟨h1, h2, _⟩ := andW_ok (g := g) (e := e) (p := a) (q := b) fun h => ⟨(hf h).1, (hf h).2.1, (hf h).2.2.1⟩
  obtain ⟨k1, k2, _⟩ := andW_ok (g := (g.andW e a b).1) (e := (g.andW e a b).2.1) (p := c) (q := d) fun h => by
    obtain ⟨_, _, _, hc, hd⟩ := hf (andW_err h)
    exact ⟨(h1 h).1, h2.lit hc, h2.lit hd⟩
  obtain ⟨m1, m2⟩ := orW_ok (g := ((g.andW e a b).1.andW (g.andW e a b).2.1 c d).1) (e := ((g.andW e a b).1.andW (g.andW e a b).2.1 c d).2.1) (p := (g.andW e a b).2.2) (q := ((g.andW e a b).1.andW (g.andW e a b).2.1 c d).2.2) fun h =>
    ⟨(k1 h).1, k2.lit (h1 (andW_err h)).2, (k1 h).2⟩
  have l1 := andW_len g e a b
  have l2 := andW_len (g.andW e a b).1 (g.andW e a b).2.1 c d
  have l3 := andW_len ((g.andW e a b).1.andW (g.andW e a b).2.1 c d).1 ((g.andW e a b).1.andW (g.andW e a b).2.1 c d).2.1 (turn (g.andW e a b).2.2) (turn ((g.andW e a b).1.andW (g.andW e a b).2.1 c d).2.2)
  exact ⟨fun h => ⟨andW_err (andW_err (andW_err h)), m1 h⟩, (h2.trans k2).trans m2, by
    show ((_ : Aig).andW _ _ _).1.ands.length ≤ _
    omega⟩
theorem and_res {g : Aig} (hs : Wf g) (a b : Int) : Res g 1 [a, b] (g.And a b) := by
  unfold Aig.And
  have hk : g.checkL g.check [a, b] = 0 → Fine g ∧ g.lit a = true ∧ g.lit b = true := fun h => by
    obtain ⟨h1, h2⟩ := checkL_fine hs h
    exact ⟨h1, h2 _ (by simp), h2 _ (by simp)⟩
  have ok := andW_ok hk
  by_cases h : (g.andW (g.checkL g.check [a, b]) a b).2.1 = 0
  · left
    rw [endW_ok h]
    have h0 := andW_err h
    obtain ⟨k1, k2⟩ := hk h0
    exact ⟨rfl, (checkL_zero.1 h0).1, (checkL_zero.1 h0).2, (ok.1 h).1, ok.2.1, (ok.1 h).2, andW_len _ _ _ _⟩
  · right
    rw [endW_err h]
    exact ⟨h, rfl, rfl⟩
theorem or_res {g : Aig} (hs : Wf g) (a b : Int) : Res g 1 [a, b] (g.Or a b) := by
  unfold Aig.Or
  have hk : g.checkL g.check [a, b] = 0 → Fine g ∧ g.lit a = true ∧ g.lit b = true := fun h => by
    obtain ⟨h1, h2⟩ := checkL_fine hs h
    exact ⟨h1, h2 _ (by simp), h2 _ (by simp)⟩
  have ok := orW_ok hk
  by_cases h : (g.orW (g.checkL g.check [a, b]) a b).2.1 = 0
  · left
    rw [endW_ok h]
    have h0 : g.checkL g.check [a, b] = 0 := andW_err h
    exact ⟨rfl, (checkL_zero.1 h0).1, (checkL_zero.1 h0).2, (ok.1 h).1, ok.2, (ok.1 h).2, andW_len _ _ _ _⟩
  · right
    rw [endW_err h]
    exact ⟨h, rfl, rfl⟩
theorem xor_res {g : Aig} (hs : Wf g) (a b : Int) : Res g 3 [a, b] (g.Xor a b) := by
  unfold Aig.Xor
  have ok := pairsW_ok (g := g) (e := g.checkL g.check [a, b]) (a := a) (b := turn b) (c := turn a) (d := b) fun h => by
    obtain ⟨h1, h2⟩ := checkL_fine hs h
    exact ⟨h1, h2 _ (by simp), turn_lit (h2 _ (by simp)), turn_lit (h2 _ (by simp)), h2 _ (by simp)⟩
  by_cases h : (g.pairs (g.checkL g.check [a, b]) a (turn b) (turn a) b).2.1 = 0
  · left
    rw [endW_ok h]
    obtain ⟨h0, k1, k2⟩ := ok.1 h
    exact ⟨rfl, (checkL_zero.1 h0).1, (checkL_zero.1 h0).2, k1, ok.2.1, k2, ok.2.2⟩
  · right
    rw [endW_err h]
    exact ⟨h, rfl, rfl⟩
theorem mux_res {g : Aig} (hs : Wf g) (c a b : Int) : Res g 3 [c, a, b] (g.Mux c a b) := by
  unfold Aig.Mux
  have ok := pairsW_ok (g := g) (e := g.checkL g.check [c, a, b]) (a := c) (b := a) (c := turn c) (d := b) fun h => by
    obtain ⟨h1, h2⟩ := checkL_fine hs h
    exact ⟨h1, h2 _ (by simp), h2 _ (by simp), turn_lit (h2 _ (by simp)), h2 _ (by simp)⟩
  by_cases h : (g.pairs (g.checkL g.check [c, a, b]) c a (turn c) b).2.1 = 0
  · left
    rw [endW_ok h]
    obtain ⟨h0, k1, k2⟩ := ok.1 h
    exact ⟨rfl, (checkL_zero.1 h0).1, (checkL_zero.1 h0).2, k1, ok.2.1, k2, ok.2.2⟩
  · right
    rw [endW_err h]
    exact ⟨h, rfl, rfl⟩
theorem zero_wf : Wf ⟨0, [], [], []⟩ := ⟨by simp [I64], by simp, by simp, by simp, by simp, by simp, by simp⟩
theorem Res.wf {g : Aig} {n : Nat} {l : List Int} {r : Aig × Int × Int} (h : Res g n l r) : Wf r.1 ∧ I64 r.2.1 := by
  rcases h with ⟨_, _, _, h, _, hl, _⟩ | ⟨_, h, h'⟩
  · have := litN_iff.1 hl
    have := h.cnt
    exact ⟨h.toWf, by omega, by omega⟩
  · rw [h, h']; exact ⟨zero_wf, by simp [I64]⟩
end Fil

namespace Fil
open Abs
theorem ext_check {g h : Aig} (hs : Wf g) (hc : g.check = 0) (hx : Ext g h) (hf : Fine h) : h.check = 0 := by
  have hcn := hf.cnt
  have hlo := hf.lo
  unfold Aig.check at hc ⊢
  split at hc
  · simp at hc
  · split at hc
    · simp at hc
    · split at hc
      · rename_i h1 h2 h3
        rw [if_neg (by omega), if_neg (by rw [hx.ins, hx.outs]; omega), if_pos]
        simp only [Aig.good, Bool.and_eq_true, Bool.not_eq_true', List.any_eq_false, Bool.not_eq_true, Bool.not_eq_false'] at h3 ⊢
        refine ⟨⟨hf.gok, fun f hm => ?_⟩, fun a hm => ?_⟩
        · rw [hx.flops] at hm; exact fun hn => by have := hx.lit (by simpa using h3.1.2 f hm : g.lit f.next = true); rw [hn] at this; simp at this
        · rw [hx.outs] at hm; exact fun hn => by have := hx.lit (by simpa using h3.2 a hm : g.lit a = true); rw [hn] at this; simp at this
      · simp at hc
theorem Res.check {g : Aig} (hs : Wf g) {n : Nat} {l : List Int} {r : Aig × Int × Int} (h : Res g n l r) (h0 : r.2.2 = 0) : r.1.check = 0 ∧ Fine r.1 ∧ Ext g r.1 ∧ r.1.lit r.2.1 = true ∧ r.1.ands.length ≤ g.ands.length + n ∧ (∀ a ∈ l, g.lit a = true) ∧ g.check = 0 := by
  rcases h with ⟨_, hc, hl, hf, hx, hl', hn⟩ | ⟨h, _⟩
  · exact ⟨ext_check hs hc hx hf, hf, hx, hl', hn, hl, hc⟩
  · exact (h h0).elim
theorem Res.checkL {g : Aig} (hs : Wf g) {n : Nat} {l m : List Int} {r : Aig × Int × Int} (h : Res g n l r) (h0 : r.2.2 = 0) (hm : ∀ a ∈ m, a ∈ l) : r.1.checkL r.1.check m = 0 := by
  obtain ⟨h1, _, hx, _, _, hl, _⟩ := h.check hs h0
  exact checkL_zero.2 ⟨h1, fun a ha => hx.lit (hl a (hm a ha))⟩
end Fil

namespace Fil
open Abs
section
variable {s : List Bool}
end
def Aig.value (g : Aig) (a : Int) (inp st : List Bool) : Bool := Aig.val (Aig.vals (false :: (inp ++ st)) g.ands) a
section
variable {g : Aig} {a b c : Int} {inp st : List Bool} (hs : Wf g) (l1 : (inp.length : Int) = g.ins) (l2 : st.length = g.flops.length)
include hs l1 l2
end
end Fil

namespace Fil.Bl
open Abs
inductive Op where
  | and | or | xor | mux
def Op.ev : Op → Bool → Bool → Bool → Bool
  | .and, a, b, _ => a && b
  | .or, a, b, _ => a || b
  | .xor, a, b, _ => a != b
  | .mux, a, b, c => if a then b else c
def Op.ap : Op → Aig → Int → Int → Int → Aig × Int × Int
  | .and, g, x, y, _ => g.And x y
  | .or, g, x, y, _ => g.Or x y
  | .xor, g, x, y, _ => g.Xor x y
  | .mux, g, x, y, z => g.Mux x y z
inductive Pg (α : Type) where
  | ret (a : α)
  | op (o : Op) (x y z : Int) (k : Int → Pg α)
def Pg.bind {α β : Type} : Pg α → (α → Pg β) → Pg β
  | .ret a, f => f a
  | .op o x y z k, f => .op o x y z fun r => (k r).bind f
structure Bu where
  g : Aig
  e : Int
def Bu.op (b : Bu) (o : Op) (x y z : Int) : Int × Bu :=
  if b.e ≠ 0 then (0, b) else if (o.ap b.g x y z).2.2 ≠ 0 then (0, ⟨b.g, (o.ap b.g x y z).2.2⟩) else ((o.ap b.g x y z).2.1, ⟨(o.ap b.g x y z).1, 0⟩)
def Pg.run {α : Type} : Pg α → Bu → α × Bu
  | .ret a, b => (a, b)
  | .op o x y z k, b => (k (b.op o x y z).1).run (b.op o x y z).2
theorem run_bind {α β : Type} (f : α → Pg β) : ∀ (p : Pg α) (b : Bu), (p.bind f).run b = (f (p.run b).1).run (p.run b).2
  | .ret a, b => rfl
  | .op o x y z k, b => by simp only [Pg.bind, Pg.run]; exact run_bind f _ _
theorem run_ret {α : Type} (a : α) (b : Bu) : (Pg.ret a).run b = (a, b) := rfl
def iter {α : Type} (f : Nat → α → Pg α) (a : α) : Nat → Pg α
  | 0 => .ret a
  | n + 1 => (iter f a n).bind (f n)
theorem iter_run {α : Type} (f : Nat → α → Pg α) (a : α) (n : Nat) (b : Bu) : (iter f a (n + 1)).run b = (f n ((iter f a n).run b).1).run ((iter f a n).run b).2 := run_bind _ _ _

/-! ### Words -/
def gt (l : List Int) (i : Nat) : Int := l.getD i 0
def andP (x y : Int) : Pg Int := .op .and x y 0 .ret
def orP (x y : Int) : Pg Int := .op .or x y 0 .ret
def xorP (x y : Int) : Pg Int := .op .xor x y 0 .ret
def muxP (c x y : Int) : Pg Int := .op .mux c x y .ret
def notW (x : List Int) : List Int := x.map turn
def zipP (f : Int → Int → Pg Int) (x y : List Int) : Nat → Pg (List Int) := iter (fun i out => (f (gt x i) (gt y i)).bind fun r => .ret (out ++ [r])) []
def foldP (f : Int → Int → Pg Int) (a : Int) (l : List Int) : Nat → Pg Int := iter (fun i a => f a (gt l i)) a
def fullP (p q c : Int) : Pg (Int × Int) :=
  (xorP p q).bind fun e => (xorP e c).bind fun s => (andP p q).bind fun both => (andP e c).bind fun on => (orP both on).bind fun c => .ret (s, c)
def sumP (x y : List Int) (c : Int) : Nat → Pg (List Int × Int) := iter (fun i r => (fullP (gt x i) (gt y i) r.2).bind fun s => .ret (r.1 ++ [s.1], s.2)) ([], c)
def sumW (x y : List Int) (c : Int) : Pg (List Int × Int) := sumP x y c x.length
def rowP (x : List Int) (bit : Int) (i : Nat) : Nat → Pg (List Int) := iter (fun j row => (andP (gt x j) bit).bind fun r => .ret (row ++ [r])) (List.replicate i 0)
def mulP (x y : List Int) : Nat → Pg (List Int) := iter (fun i out => (rowP x (gt y i) i (x.length - i)).bind fun row => (sumW out row 0).bind fun r => .ret r.1) (List.replicate x.length 0)
def far (x : List Int) (k : Int) : Int := if 0 ≤ k ∧ k < x.length then gt x k.toNat else 0
def farI (up : Bool) (i j : Nat) : Int := if up then j - 2 ^ (min i 8) else j + 2 ^ (min i 8)
def shift1 (x : List Int) (bit : Int) (up : Bool) (i : Nat) : Nat → Pg (List Int) := iter (fun j out => (muxP bit (far x (farI up i j)) (gt x j)).bind fun r => .ret (out ++ [r])) []
def shiftP (x y : List Int) (up : Bool) : Nat → Pg (List Int) := iter (fun i x => shift1 x (gt y i) up i x.length) x
def allW (l : List Int) : Pg Int := foldP andP 1 l l.length
def lessW (x y : List Int) : Pg Int := (sumW x (notW y) 1).bind fun r => .ret (turn r.2)
def eqW (x y : List Int) : Pg Int := (zipP xorP x y x.length).bind fun l => allW (notW l)
def unP (op : Int) (a : List Int) : Pg (List Int) :=
  if op = 1 then .ret (notW a)
  else if op = 2 then (sumW (notW a) (List.replicate a.length 0) 1).bind fun r => .ret r.1
  else if op = 3 then (allW a).bind fun r => .ret [r]
  else if op = 4 then (allW (notW a)).bind fun r => .ret [turn r]
  else if op = 5 then (foldP xorP 0 a a.length).bind fun r => .ret [r]
  else .ret [turn (gt a 0)]
def binP (op : Int) (x y : List Int) : Pg (List Int) :=
  if op = 11 ∨ op = 25 then zipP andP x y x.length
  else if op = 12 ∨ op = 26 then zipP orP x y x.length
  else if op = 13 then zipP xorP x y x.length
  else if op = 14 then (sumW x y 0).bind fun r => .ret r.1
  else if op = 15 then (sumW x (notW y) 1).bind fun r => .ret r.1
  else if op = 16 then mulP x y y.length
  else if op = 17 then shiftP x y true y.length
  else if op = 18 then shiftP x y false y.length
  else if op = 19 then (eqW x y).bind fun r => .ret [r]
  else if op = 20 then (eqW x y).bind fun r => .ret [turn r]
  else if op = 21 then (lessW x y).bind fun r => .ret [r]
  else if op = 23 then (lessW y x).bind fun r => .ret [r]
  else if op = 22 then (lessW y x).bind fun r => .ret [turn r]
  else (lessW x y).bind fun r => .ret [turn r]
def condP (c : Int) (x y : List Int) : Pg (List Int) := zipP (fun p q => muxP c p q) x y x.length
def extW (op w : Int) (a : List Int) : List Int :=
  if op = 33 then a.take w.toNat else a ++ List.replicate (w.toNat - a.length) (if op = 32 then gt a (a.length - 1) else 0)
def numW (w v : Int) : List Int := (List.range w.toNat).map fun i => v / 2 ^ i % 2
def word (g : Aig) (a : List Int) : Bool := decide (0 < a.length) && decide (a.length ≤ 64) && a.all g.lit
def zG : Aig := ⟨0, [], [], []⟩
def told (r : List Int × Bu) : Aig × List Int × Int := if r.2.e ≠ 0 then (zG, [], r.2.e) else (r.2.g, r.1, 0)
def made (g : Aig) (may : Bool) (p : Pg (List Int)) : Aig × List Int × Int :=
  if g.check ≠ 0 then (zG, [], g.check) else if may = false then (zG, [], 1) else told (p.run ⟨g, 0⟩)
def mayUn (g : Aig) (op : Int) (a : List Int) : Bool := word g a && decide (1 ≤ op ∧ op ≤ 6 ∧ (op ≠ 6 ∨ a.length = 1))
def mayBin (g : Aig) (op : Int) (a b : List Int) : Bool := word g a && word g b && decide (11 ≤ op ∧ op ≤ 26 ∧ (op = 17 ∨ op = 18 ∨ (a.length = b.length ∧ (op < 25 ∨ a.length = 1))))
def mayCond (g : Aig) (c : Int) (a b : List Int) : Bool := word g a && word g b && word g [c] && decide (a.length = b.length)
def mayExt (g : Aig) (op w : Int) (a : List Int) : Bool := word g a && decide (1 ≤ w ∧ w ≤ 64 ∧ 31 ≤ op ∧ op ≤ 33 ∧ (w = a.length ∨ (w < a.length ↔ op = 33)))
def Un (g : Aig) (op : Int) (a : List Int) := made g (mayUn g op a) (unP op a)
def Bin (g : Aig) (op : Int) (a b : List Int) := made g (mayBin g op a b) (binP op a b)
def Cond (g : Aig) (c : Int) (a b : List Int) := made g (mayCond g c a b) (condP c a b)
def Ext (g : Aig) (op w : Int) (a : List Int) := made g (mayExt g op w a) (.ret (extW op w a))
end Fil.Bl

namespace Fil.Bl
open Abs

/-! ### One operation -/
structure Ok (g : Aig) : Prop where
  wf : Wf g
  chk : g.check = 0
theorem Ok.fine {g : Aig} (h : Ok g) : Fine g := check_fine h.wf h.chk
def Op.lits : Op → Int → Int → Int → List Int
  | .mux, x, y, z => [x, y, z]
  | _, x, y, _ => [x, y]
theorem op_res {g : Aig} (hs : Wf g) (o : Op) (x y z : Int) : Res g 3 (o.lits x y z) (o.ap g x y z) := by
  have up : ∀ {l : List Int} {r : Aig × Int × Int}, Res g 1 l r → Res g 3 l r := fun h => by
    rcases h with ⟨h1, h2, h3, h4, h5, h6, h7⟩ | h
    · exact .inl ⟨h1, h2, h3, h4, h5, h6, by omega⟩
    · exact .inr h
  cases o with
  | and => exact up (and_res hs x y)
  | or => exact up (or_res hs x y)
  | xor => exact xor_res hs x y
  | mux => exact mux_res hs x y z
theorem op_ok {g : Aig} (hs : Wf g) {o : Op} {x y z : Int} (h : (o.ap g x y z).2.2 = 0) : Ok g ∧ Ok (o.ap g x y z).1 ∧ Fil.Ext g (o.ap g x y z).1 ∧ (o.ap g x y z).1.lit (o.ap g x y z).2.1 = true ∧ (o.ap g x y z).1.ands.length ≤ g.ands.length + 3 ∧ ∀ a ∈ o.lits x y z, g.lit a = true := by
  obtain ⟨h1, h2, h3, h4, h5, h6, h7⟩ := (op_res hs o x y z).check hs h
  exact ⟨⟨hs, h7⟩, ⟨h2.toWf, h1⟩, h3, h4, h5, h6⟩
theorem res_wf {g : Aig} (hs : Wf g) (o : Op) (x y z : Int) : Wf (o.ap g x y z).1 ∧ I64 (o.ap g x y z).2.1 := (op_res hs o x y z).wf
theorem bu_wf {b : Bu} (hs : Wf b.g) (o : Op) (x y z : Int) : Wf (b.op o x y z).2.g ∧ I64 (b.op o x y z).1 := by
  unfold Bu.op
  split
  · exact ⟨hs, by unfold I64; omega⟩
  split
  · exact ⟨hs, by unfold I64; omega⟩
  · exact res_wf hs o x y z

/-! ### Operations one behind the other -/
def b2 (b : Bool) : Int := if b then 1 else 0
end Fil.Bl

namespace Fil.Bl
open Abs

/-! ### Rows of bits as_ numbers -/
structure Lits (W : Int → Prop) (V : Int → Bool) : Prop where
  w0 : W 0
  w1 : W 1
  v0 : V 0 = false
  v1 : V 1 = true
  wt : ∀ a, W a → W (turn a)
  vt : ∀ a, W a → V (turn a) = !V a
section
variable {W : Int → Prop} {V : Int → Bool} (L : Lits W V)
include L
end
end Fil.Bl

namespace Fil.Bl
open Abs
def n1 (p : Prop) [Decidable p] : Nat := if p then 1 else 0
section
variable {W : Int → Prop} {V : Int → Bool} (L : Lits W V)
include L
end
end Fil.Bl

namespace Fil.Bl
open Abs Go
theorem wrapU (n : Int) (h : 0 ≤ n) (h2 : n < 18446744073709551616) : IntKind.u64.wrap n = n := by
  simp [IntKind.wrap, IntKind.signed, IntKind.bits]; omega
theorem wrapU_mod (n : Int) : IntKind.u64.wrap n = n % 18446744073709551616 := by
  simp [IntKind.wrap, IntKind.signed, IntKind.bits]
theorem ofU (a : Nat) : (BitVec.ofInt 64 (a : Int)).toNat = a % 18446744073709551616 := by
  rw [BitVec.toNat_ofInt]; omega
theorem andU (a b : Nat) (ha : a < 18446744073709551616) (hb : b < 18446744073709551616) : IntKind.u64.wrap ((BitVec.ofInt IntKind.u64.bits (a : Int) &&& BitVec.ofInt IntKind.u64.bits (b : Int)).toNat : Nat) = ((a &&& b : Nat) : Int) := by
  have e : (BitVec.ofInt 64 (a : Int) &&& BitVec.ofInt 64 (b : Int)).toNat = a &&& b := by
    rw [BitVec.toNat_and, ofU, ofU, Nat.mod_eq_of_lt ha, Nat.mod_eq_of_lt hb]
  show IntKind.u64.wrap ((BitVec.ofInt 64 (a : Int) &&& BitVec.ofInt 64 (b : Int)).toNat : Nat) = _
  rw [e]
  have := Nat.and_le_left (n := a) (m := b)
  exact wrapU _ (by omega) (by omega)
theorem and1U (a : Nat) (ha : a < 18446744073709551616) : IntKind.u64.wrap ((BitVec.ofInt IntKind.u64.bits (a : Int) &&& BitVec.ofInt IntKind.u64.bits 1).toNat : Nat) = ((a % 2 : Nat) : Int) := by
  have := andU a 1 ha (by omega)
  rw [Nat.and_one_is_mod] at this
  exact this
theorem fdivU (a k : Nat) : ((a : Int).fdiv (2 ^ k)) = ((a / 2 ^ k : Nat) : Int) := by
  have e : (2 : Int) ^ k = ((2 ^ k : Nat) : Int) := by simp
  rw [e, Int.fdiv_eq_ediv_of_nonneg _ (Int.natCast_nonneg _), Int.natCast_ediv]
theorem shlU (a k : Nat) : IntKind.u64.wrap ((a : Int) * 2 ^ k) = ((a * 2 ^ k % 18446744073709551616 : Nat) : Int) := by
  have e : (2 : Int) ^ k = ((2 ^ k : Nat) : Int) := by simp
  rw [wrapU_mod, e]
  simp

/-! ### Masks -/
def maskN (w : Int) : Nat := if w < 1 then 0 else if 63 < w then 18446744073709551615 else 2 ^ w.toNat - 1
theorem maskN_of {w : Int} (h : 1 ≤ w ∧ w ≤ 64) : maskN w = 2 ^ w.toNat - 1 := by
  unfold maskN
  rw [if_neg (by omega)]
  split
  · have : w = 64 := by omega
    subst this; rfl
  · rfl
theorem maskN_lt (w : Int) : maskN w < 18446744073709551616 := by
  unfold maskN
  split
  · omega
  split
  · omega
  · have : 2 ^ w.toNat ≤ 2 ^ 63 := Nat.pow_le_pow_right (by omega) (by omega)
    have e : (2 : Nat) ^ 63 = 9223372036854775808 := by decide
    omega
def bitsN (w : Int) (v : Nat) : Bool := decide (1 ≤ w ∧ w ≤ 64 ∧ v ≤ maskN w)
theorem bitsN_iff {w : Int} {v : Nat} : bitsN w v = true ↔ (1 ≤ w ∧ w ≤ 64) ∧ v < 2 ^ w.toNat := by
  unfold bitsN
  rw [decide_eq_true_eq]
  constructor
  · rintro ⟨h1, h2, h3⟩
    rw [maskN_of ⟨h1, h2⟩] at h3
    have := Nat.two_pow_pos w.toNat
    exact ⟨⟨h1, h2⟩, by omega⟩
  · rintro ⟨h1, h2⟩
    refine ⟨h1.1, h1.2, ?_⟩
    rw [maskN_of h1]; omega
end Fil.Bl

namespace Go.Proofs.YtbbihmmobfmadaaGreat
open Abs Fil Fil.Bl
abbrev encB (w : Int) (v : Nat) : AV := .agg [.int .i64 w, .int .u64 v]
theorem rf_Mask (w : Int) (σ : Sig) : ACalls Tryz.prog 87 [.int .i64 w] σ (fun r σ' => r = .ret (.int .u64 (maskN w)) ∧ σ' = σ) := by
  have hv : (w < 1 ∧ maskN w = 0) ∨ (¬ w < 1 ∧ 63 < w ∧ maskN w = 18446744073709551615) ∨ (¬ w < 1 ∧ ¬ 63 < w ∧ maskN w = 2 ^ w.toNat - 1) := by
    unfold maskN
    by_cases h1 : w < 1
    · exact .inl ⟨h1, by rw [if_pos h1]⟩
    · by_cases h2 : 63 < w
      · exact .inr (.inl ⟨h1, h2, by rw [if_neg h1, if_pos h2]⟩)
      · exact .inr (.inr ⟨h1, h2, by rw [if_neg h1, if_neg h2]⟩)
  refine calls_x mixed Tryz.func87 b87 n87 rfl q87 (by simp) ?_; unfold c87 r87
  rcases hv with ⟨h1, h2⟩ | ⟨h1, h2, h3⟩ | ⟨h1, h2, h3⟩
  · rw [h2]
    clear h2
    repeat' (first | simp (maxDischargeDepth := 9) -implicitDefEqProofs -dsimp only [go_sem, seval, *])
    refine fin_eq ?_
    (repeat' (first | simp (maxDischargeDepth := 9) -implicitDefEqProofs -dsimp only [go_sem, seval, Int.natCast_zero, *])) <;> (repeat' refine And.intro ?_ ?_) <;> (first | omega | rfl | assumption | skip)
  · rw [h3]
    clear h3
    repeat' (first | simp (maxDischargeDepth := 9) -implicitDefEqProofs -dsimp only [go_sem, seval, gt_iff_lt, *])
    refine fin_eq ?_
    (repeat' (first | simp (maxDischargeDepth := 9) -implicitDefEqProofs -dsimp only [go_sem, seval, *])) <;> (repeat' refine And.intro ?_ ?_) <;> (first | omega | rfl | assumption | skip)
  · have h0 : ¬ w < 0 := by omega
    have hm : Nat.min w.toNat 64 = w.toNat := Nat.min_eq_left (by omega)
    have hlt : 2 ^ w.toNat ≤ 2 ^ 63 := Nat.pow_le_pow_right (by omega) (by omega)
    have e63 : (2 : Nat) ^ 63 = 9223372036854775808 := by decide
    have hs : IntKind.u64.wrap (1 * 2 ^ w.toNat) = ((2 ^ w.toNat : Nat) : Int) := by
      have := shlU 1 w.toNat
      rw [Nat.one_mul, Nat.mod_eq_of_lt (by omega)] at this
      exact this
    have hp := Nat.two_pow_pos w.toNat
    have hsb : IntKind.u64.wrap (((2 ^ w.toNat : Nat) : Int) - 1) = ((2 ^ w.toNat - 1 : Nat) : Int) := by
      rw [wrapU _ (by omega) (by omega)]; omega
    rw [h3]
    obtain ⟨M, hM⟩ : ∃ M, 2 ^ w.toNat - 1 = M := ⟨_, rfl⟩
    rw [hM] at hsb ⊢
    obtain ⟨N, hN⟩ : ∃ M, 2 ^ w.toNat = M := ⟨_, rfl⟩
    rw [hN] at hs hsb
    clear h3 hlt e63 hp hM hN
    repeat' (first | simp (maxDischargeDepth := 9) -implicitDefEqProofs -dsimp only [go_sem, seval, gt_iff_lt, *])
    refine fin_eq ?_
    (repeat' (first | simp (maxDischargeDepth := 9) -implicitDefEqProofs -dsimp only [go_sem, seval, *])) <;> (repeat' refine And.intro ?_ ?_) <;> (first | omega | rfl | assumption | skip)
theorem rf_Check01 (w : Int) (v : Nat) (σ : Sig) : ACalls Tryz.prog 59 [encB w v] σ (fun r σ' => r = .ret (.int .i64 (if bitsN w v then 0 else 1)) ∧ σ' = σ) := by
  have c1 := fun τ => rf_Mask w τ
  have hv : bitsN w v = decide (1 ≤ w ∧ w ≤ 64 ∧ v ≤ maskN w) := rfl
  obtain ⟨B, hB⟩ : ∃ B, bitsN w v = B := ⟨_, rfl⟩
  rw [hB] at hv ⊢
  obtain ⟨M, hM⟩ : ∃ M, maskN w = M := ⟨_, rfl⟩
  rw [hM] at c1 hv
  clear hB hM
  refine calls_x mixed Tryz.func59 b59 n59 rfl q59 (by simp) ?_; unfold c59 r59
  by_cases h1 : w < 1
  · have hb : B = false := by rw [hv]; exact decide_eq_false (by omega)
    subst hb
    clear hv
    repeat' (first | simp (maxDischargeDepth := 9) -implicitDefEqProofs -dsimp only [go_sem, seval, *] | ((with_reducible apply id_one0); (focus (intro tS hS; ((first | with_reducible refine c1 _) <;> (first | (simp (maxDischargeDepth := 9) -implicitDefEqProofs -dsimp only [go_sem, seval, *]; done) | omega | ((with_reducible refine Sub.get hS ?_); simp (maxDischargeDepth := 9) -implicitDefEqProofs -dsimp only [go_sem, seval, *]; done))))); (focus (first | trivial | (simp (maxDischargeDepth := 9) -implicitDefEqProofs -dsimp only [go_sem, seval, *]; done)))))
    refine fin_eq ?_
    (repeat' (first | simp (maxDischargeDepth := 9) -implicitDefEqProofs -dsimp only [go_sem, seval, *])) <;> (repeat' refine And.intro ?_ ?_) <;> (first | omega | rfl | assumption | skip)
  by_cases h2 : 64 < w
  · have hb : B = false := by rw [hv]; exact decide_eq_false (by omega)
    subst hb
    clear hv
    repeat' (first | simp (maxDischargeDepth := 9) -implicitDefEqProofs -dsimp only [go_sem, seval, gt_iff_lt, *] | ((with_reducible apply id_one0); (focus (intro tS hS; ((first | with_reducible refine c1 _) <;> (first | (simp (maxDischargeDepth := 9) -implicitDefEqProofs -dsimp only [go_sem, seval, *]; done) | omega | ((with_reducible refine Sub.get hS ?_); simp (maxDischargeDepth := 9) -implicitDefEqProofs -dsimp only [go_sem, seval, *]; done))))); (focus (first | trivial | (simp (maxDischargeDepth := 9) -implicitDefEqProofs -dsimp only [go_sem, seval, *]; done)))))
    refine fin_eq ?_
    (repeat' (first | simp (maxDischargeDepth := 9) -implicitDefEqProofs -dsimp only [go_sem, seval, *])) <;> (repeat' refine And.intro ?_ ?_) <;> (first | omega | rfl | assumption | skip)
  by_cases h3 : (M : Int) < v
  · have hb : B = false := by rw [hv]; exact decide_eq_false (by omega)
    subst hb
    clear hv
    repeat' (first | simp (maxDischargeDepth := 9) -implicitDefEqProofs -dsimp only [go_sem, seval, gt_iff_lt, *] | ((with_reducible apply id_one0); (focus (intro tS hS; ((first | with_reducible refine c1 _) <;> (first | (simp (maxDischargeDepth := 9) -implicitDefEqProofs -dsimp only [go_sem, seval, *]; done) | omega | ((with_reducible refine Sub.get hS ?_); simp (maxDischargeDepth := 9) -implicitDefEqProofs -dsimp only [go_sem, seval, *]; done))))); (focus (first | trivial | (simp (maxDischargeDepth := 9) -implicitDefEqProofs -dsimp only [go_sem, seval, *]; done)))))
    refine fin_eq ?_
    (repeat' (first | simp (maxDischargeDepth := 9) -implicitDefEqProofs -dsimp only [go_sem, seval, *])) <;> (repeat' refine And.intro ?_ ?_) <;> (first | omega | rfl | assumption | skip)
  · have hb : B = true := by rw [hv]; exact decide_eq_true (by omega)
    subst hb
    clear hv
    repeat' (first | simp (maxDischargeDepth := 9) -implicitDefEqProofs -dsimp only [go_sem, seval, gt_iff_lt, *] | ((with_reducible apply id_one0); (focus (intro tS hS; ((first | with_reducible refine c1 _) <;> (first | (simp (maxDischargeDepth := 9) -implicitDefEqProofs -dsimp only [go_sem, seval, *]; done) | omega | ((with_reducible refine Sub.get hS ?_); simp (maxDischargeDepth := 9) -implicitDefEqProofs -dsimp only [go_sem, seval, *]; done))))); (focus (first | trivial | (simp (maxDischargeDepth := 9) -implicitDefEqProofs -dsimp only [go_sem, seval, *]; done)))))
    refine fin_eq ?_
    (repeat' (first | simp (maxDischargeDepth := 9) -implicitDefEqProofs -dsimp only [go_sem, seval, *])) <;> (repeat' refine And.intro ?_ ?_) <;> (first | omega | rfl | assumption | skip)
end Go.Proofs.YtbbihmmobfmadaaGreat

namespace Go.Proofs.YtbbihmmobfmadaaGreat
open Abs Fil Fil.Bl
theorem andNot_mask {w : Int} {v : Nat} (hw : 1 ≤ w ∧ w ≤ 64) (hv : v < 18446744073709551616) :
    (IntKind.u64.wrap ((BitVec.ofInt IntKind.u64.bits (v : Int) &&& ~~~ BitVec.ofInt IntKind.u64.bits (maskN w : Int)).toNat : Nat) == 0) = decide (v ≤ maskN w) := by
  have hm := maskN_of hw
  have hml := maskN_lt w
  have hp := Nat.two_pow_pos w.toNat
  have e : (BitVec.ofInt 64 (v : Int) &&& ~~~ BitVec.ofInt 64 (maskN w : Int)).toNat = v - v % 2 ^ w.toNat := by
    have e1 : BitVec.ofInt 64 (v : Int) = BitVec.ofNat 64 v := by simp
    have e2 : BitVec.ofInt 64 (maskN w : Int) = BitVec.ofNat 64 (maskN w) := by simp
    rw [e1, e2]
    apply Nat.eq_of_testBit_eq
    intro i
    rw [BitVec.testBit_toNat, BitVec.getLsbD_and, BitVec.getLsbD_not, BitVec.getLsbD_ofNat, BitVec.getLsbD_ofNat, hm, Nat.testBit_two_pow_sub_one]
    have hd : v - v % 2 ^ w.toNat = v / 2 ^ w.toNat * 2 ^ w.toNat := by
      have := Nat.div_add_mod v (2 ^ w.toNat)
      rw [Nat.mul_comm] at this; omega
    rw [hd, Nat.testBit_mul_two_pow, Nat.testBit_div_two_pow]
    by_cases h1 : i < 64
    · by_cases h2 : w.toNat ≤ i
      · have h3 : ¬ i < w.toNat := by omega
        simp [h1, h2, h3, Nat.sub_add_cancel h2]
      · have h3 : i < w.toNat := by omega
        simp [h1, h2, h3]
    · have hvb : v.testBit i = false := Nat.testBit_lt_two_pow (Nat.lt_of_lt_of_le hv (by
        have : 2 ^ 64 ≤ 2 ^ i := Nat.pow_le_pow_right (by omega) (by omega)
        have e : (2 : Nat) ^ 64 = 18446744073709551616 := by decide
        omega))
      by_cases h2 : w.toNat ≤ i
      · simp [h1, h2, Nat.sub_add_cancel h2, hvb]
      · simp [h1, h2]
  show (IntKind.u64.wrap ((BitVec.ofInt 64 (v : Int) &&& ~~~ BitVec.ofInt 64 (maskN w : Int)).toNat : Nat) == 0) = _
  have hle := Nat.mod_le v (2 ^ w.toNat)
  rw [e, wrapU _ (by omega) (by omega), Bool.eq_iff_iff, beq_iff_eq, decide_eq_true_eq, hm]
  have hmod := Nat.mod_lt v hp
  constructor
  · intro h; omega
  · intro h
    have : v % 2 ^ w.toNat = v := Nat.mod_eq_of_lt (by omega)
    omega
theorem bv_Mask (w : Int) (σ : Sig) : ACalls Tryz.prog 172 [.int .i64 w] σ (fun r σ' => r = .ret (.int .u64 (maskN w)) ∧ σ' = σ) := by
  refine calls_x mixed Tryz.func172 b172 n172 rfl q172 (by simp) ?_; unfold c172 r172
  by_cases h1 : w ≤ 0
  · have e : maskN w = 0 := by unfold maskN; rw [if_pos (by omega)]
    rw [e]
    clear e
    repeat' (first | simp (maxDischargeDepth := 9) -implicitDefEqProofs -dsimp only [go_sem, seval, *])
    refine fin_eq ?_
    (repeat' (first | simp (maxDischargeDepth := 9) -implicitDefEqProofs -dsimp only [go_sem, seval, Int.natCast_zero, *])) <;> (repeat' refine And.intro ?_ ?_) <;> (first | omega | rfl | assumption | skip)
  by_cases h2 : w < 64
  case neg =>
    have e : maskN w = 18446744073709551615 := by unfold maskN; rw [if_neg (by omega), if_pos (by omega)]
    rw [e]
    clear e
    repeat' (first | simp (maxDischargeDepth := 9) -implicitDefEqProofs -dsimp only [go_sem, seval, *])
    refine fin_eq ?_
    (repeat' (first | simp (maxDischargeDepth := 9) -implicitDefEqProofs -dsimp only [go_sem, seval, *])) <;> (repeat' refine And.intro ?_ ?_) <;> (first | omega | rfl | assumption | skip)
  have h0 : ¬ w < 0 := by omega
  have hm : Nat.min w.toNat 64 = w.toNat := Nat.min_eq_left (by omega)
  have hlt : 2 ^ w.toNat ≤ 2 ^ 63 := Nat.pow_le_pow_right (by omega) (by omega)
  have e63 : (2 : Nat) ^ 63 = 9223372036854775808 := by decide
  have hp := Nat.two_pow_pos w.toNat
  have hs : IntKind.u64.wrap (18446744073709551615 * 2 ^ w.toNat) = ((18446744073709551616 - 2 ^ w.toNat : Nat) : Int) := by
    have := shlU 18446744073709551615 w.toNat
    have e : 18446744073709551615 * 2 ^ w.toNat = (18446744073709551616 - 2 ^ w.toNat) + 18446744073709551616 * (2 ^ w.toNat - 1) := by
      obtain ⟨N, hN⟩ : ∃ N, 2 ^ w.toNat = N := ⟨_, rfl⟩
      rw [hN] at hp hlt ⊢
      omega
    rw [e, Nat.add_mul_mod_self_left, Nat.mod_eq_of_lt (by omega)] at this
    exact this
  have e : maskN w = 2 ^ w.toNat - 1 := maskN_of (by omega)
  rw [e]
  obtain ⟨N, hN⟩ : ∃ N, 2 ^ w.toNat = N := ⟨_, rfl⟩
  rw [hN] at hs hp hlt ⊢
  clear e hN
  repeat' (first | simp (maxDischargeDepth := 9) -implicitDefEqProofs -dsimp only [go_sem, seval, *])
  refine fin_eq ?_
  (repeat' (first | simp (maxDischargeDepth := 9) -implicitDefEqProofs -dsimp only [go_sem, seval, *])) <;> (repeat' refine And.intro ?_ ?_) <;> (first | omega | rfl | assumption | skip)
  all_goals
    have ex : (BitVec.ofInt IntKind.u64.bits 18446744073709551615 ^^^ BitVec.ofInt IntKind.u64.bits ((18446744073709551616 - N : Nat) : Int)).toNat = N - 1 := by
      show (BitVec.ofInt 64 18446744073709551615 ^^^ BitVec.ofInt 64 ((18446744073709551616 - N : Nat) : Int)).toNat = N - 1
      have e1 : BitVec.ofInt 64 18446744073709551615 = BitVec.allOnes 64 := by decide
      rw [e1, BitVec.allOnes_xor, BitVec.ofInt_natCast, BitVec.toNat_not, BitVec.toNat_ofNat, Nat.mod_eq_of_lt (by omega)]
      omega
    rw [ex, wrapU_mod]; omega
theorem bv_may (w : Int) (v : Nat) (hv : v < 18446744073709551616) (σ : Sig) : ACalls Tryz.prog 108 [encB w v] σ (fun r σ' => r = .ret (.bool (bitsN w v)) ∧ σ' = σ) := by
  have c1 := fun τ => bv_Mask w τ
  have hb : bitsN w v = decide (1 ≤ w ∧ w ≤ 64 ∧ v ≤ maskN w) := rfl
  have hn := fun h => andNot_mask (w := w) (v := v) h hv
  obtain ⟨B, hB⟩ : ∃ B, bitsN w v = B := ⟨_, rfl⟩
  rw [hB] at hb ⊢
  obtain ⟨M, hM⟩ : ∃ M, maskN w = M := ⟨_, rfl⟩
  rw [hM] at c1 hb hn
  clear hB hM
  refine calls_x mixed Tryz.func108 b108 n108 rfl q108 (by simp) ?_; unfold c108 r108
  by_cases h1 : 0 < w
  case neg =>
    have hB : B = false := by rw [hb]; exact decide_eq_false (by omega)
    subst hB
    clear hb hn
    repeat' (first | simp (maxDischargeDepth := 9) -implicitDefEqProofs -dsimp only [go_sem, seval, *] | ((with_reducible apply id_one0); (focus (intro tS hS; ((first | with_reducible refine c1 _) <;> (first | (simp (maxDischargeDepth := 9) -implicitDefEqProofs -dsimp only [go_sem, seval, *]; done) | omega | ((with_reducible refine Sub.get hS ?_); simp (maxDischargeDepth := 9) -implicitDefEqProofs -dsimp only [go_sem, seval, *]; done))))); (focus (first | trivial | (simp (maxDischargeDepth := 9) -implicitDefEqProofs -dsimp only [go_sem, seval, *]; done)))))
    refine fin_eq ?_
    (repeat' (first | simp (maxDischargeDepth := 9) -implicitDefEqProofs -dsimp only [go_sem, seval, *])) <;> (repeat' refine And.intro ?_ ?_) <;> (first | omega | rfl | assumption | skip)
  by_cases h2 : w ≤ 64
  case neg =>
    have hB : B = false := by rw [hb]; exact decide_eq_false (by omega)
    subst hB
    clear hb hn
    repeat' (first | simp (maxDischargeDepth := 9) -implicitDefEqProofs -dsimp only [go_sem, seval, *] | ((with_reducible apply id_one0); (focus (intro tS hS; ((first | with_reducible refine c1 _) <;> (first | (simp (maxDischargeDepth := 9) -implicitDefEqProofs -dsimp only [go_sem, seval, *]; done) | omega | ((with_reducible refine Sub.get hS ?_); simp (maxDischargeDepth := 9) -implicitDefEqProofs -dsimp only [go_sem, seval, *]; done))))); (focus (first | trivial | (simp (maxDischargeDepth := 9) -implicitDefEqProofs -dsimp only [go_sem, seval, *]; done)))))
    refine fin_eq ?_
    (repeat' (first | simp (maxDischargeDepth := 9) -implicitDefEqProofs -dsimp only [go_sem, seval, *])) <;> (repeat' refine And.intro ?_ ?_) <;> (first | omega | rfl | assumption | skip)
  have hn := hn (by omega)
  have hB : decide (v ≤ M) = B := by rw [hb]; congr 1; simp only [eq_iff_iff]; omega
  rw [hB] at hn
  clear hb hB
  repeat' (first | simp (maxDischargeDepth := 9) -implicitDefEqProofs -dsimp only [go_sem, seval, *] | ((with_reducible apply id_one0); (focus (intro tS hS; ((first | with_reducible refine c1 _) <;> (first | (simp (maxDischargeDepth := 9) -implicitDefEqProofs -dsimp only [go_sem, seval, *]; done) | omega | ((with_reducible refine Sub.get hS ?_); simp (maxDischargeDepth := 9) -implicitDefEqProofs -dsimp only [go_sem, seval, *]; done))))); (focus (first | trivial | (simp (maxDischargeDepth := 9) -implicitDefEqProofs -dsimp only [go_sem, seval, *]; done)))))
  refine fin_eq ?_
  (repeat' (first | simp (maxDischargeDepth := 9) -implicitDefEqProofs -dsimp only [go_sem, seval, *])) <;> (repeat' refine And.intro ?_ ?_) <;> (first | omega | rfl | assumption | skip)
theorem bv_Check (w : Int) (v : Nat) (hv : v < 18446744073709551616) (σ : Sig) : ACalls Tryz.prog 58 [encB w v] σ (fun r σ' => r = .ret (.int .i64 (if bitsN w v then 0 else 1)) ∧ σ' = σ) := by
  have c1 := fun τ => bv_may w v hv τ
  obtain ⟨B, hB⟩ : ∃ B, bitsN w v = B := ⟨_, rfl⟩
  rw [hB] at c1 ⊢
  clear hB
  refine calls_x mixed Tryz.func58 b58 n58 rfl q58 (by simp) ?_; unfold c58 r58
  cases B
  all_goals
    repeat' (first | simp (maxDischargeDepth := 9) -implicitDefEqProofs -dsimp only [go_sem, seval, *] | ((with_reducible apply ACalls.one1); (focus ((first | with_reducible refine c1 _) <;> (first | (simp (maxDischargeDepth := 9) -implicitDefEqProofs -dsimp only [go_sem, seval, *]; done) | omega))); (focus (first | trivial | with_reducible exact rfl | (simp (maxDischargeDepth := 9) -implicitDefEqProofs -dsimp only [go_sem, seval]; done)))))
    refine fin_eq ?_
    (repeat' (first | simp (maxDischargeDepth := 9) -implicitDefEqProofs -dsimp only [go_sem, seval, *])) <;> (repeat' refine And.intro ?_ ?_) <;> (first | omega | rfl | assumption | skip)
end Go.Proofs.YtbbihmmobfmadaaGreat

