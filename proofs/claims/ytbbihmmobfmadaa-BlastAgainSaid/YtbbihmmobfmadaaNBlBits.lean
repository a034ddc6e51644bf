/- Plain laws of layer 19: words as_ numbers; what each operation makes of them. -/
import Derived.Test.YtbbihmmobfmadaaNBlaAigD
set_option linter.unusedSimpArgs false
set_option linter.unusedVariables false
namespace Go.Proofs.Ytbbihmmobfmadaa.A
open Abs Fil
theorem ref_Same (g h : Aig) (σ : Sig) (l1 : g.flops.length ≤ 1000000) (l2 : g.ands.length ≤ 1000000) (l3 : g.outs.length ≤ 1000000) :
    ACalls Try.prog 16 [encAig g, encAig h] σ (fun r σ' => r = .ret (.bool (decide (g = h))) ∧ σ' = σ) := by
  refine calls_x mixed Try.func16 b16 n16 rfl q16 (by simp) ?_; unfold c16 r16
  have ne1 : g.ins ≠ h.ins → decide (g = h) = false := fun hn => by simp; intro e; exact hn (by rw [e])
  have ne2 : g.flops ≠ h.flops → decide (g = h) = false := fun hn => by simp; intro e; exact hn (by rw [e])
  have ne3 : g.ands ≠ h.ands → decide (g = h) = false := fun hn => by simp; intro e; exact hn (by rw [e])
  have ne4 : g.outs ≠ h.outs → decide (g = h) = false := fun hn => by simp; intro e; exact hn (by rw [e])
  by_cases hi : g.ins = h.ins
  · by_cases h1 : g.flops.length = h.flops.length
    · by_cases h2 : g.ands.length = h.ands.length
      · by_cases h3 : g.outs.length = h.outs.length
        · have b0 : (h.ins != h.ins) = false := by simp
          repeat' (first | simp (maxDischargeDepth := 9) -implicitDefEqProofs -dsimp only [go_sem, seval, *] | simp (disch := omega) only [wrap64] | (with_reducible (first | apply Zn | apply Zo) <;> intro hq) | ((with_reducible refine Zu ?_ ?_); focus omega))
          have h1' := And.intro (Nat.le_of_eq h1) (Nat.le_of_eq h1.symm)
          have h2' := And.intro (Nat.le_of_eq h2) (Nat.le_of_eq h2.symm)
          have h3' := And.intro (Nat.le_of_eq h3) (Nat.le_of_eq h3.symm)
          clear h1 h2 h3
          refine loop_rule (fun i : Nat => [(5, some (.int .i64 i)), (2, some (.cptr (aigL g))), (3, some (.cptr (aigL h)))]) (fun _ => σ) (fun i => i ≤ g.flops.length ∧ ∀ j, (hj : j < g.flops.length) → j < i → g.flops[j] = h.flops[j]) (fun i => g.flops.length - i) 0 ?_ ?_
          · (repeat' (first | simp (maxDischargeDepth := 9) -implicitDefEqProofs -dsimp only [go_sem, seval, *] | simp (disch := omega) only [wrap64])) <;> (repeat' refine And.intro ?_ ?_) <;> (first | omega | rfl | assumption | skip)
          · rintro i ⟨hi', hok1⟩
            by_cases hlt : i < g.flops.length
            · have hlt' : i < h.flops.length := by omega
              obtain ⟨x, hx⟩ : ∃ x, g.flops[i] = x := ⟨_, rfl⟩
              obtain ⟨y, hy⟩ : ∃ y, h.flops[i] = y := ⟨_, rfl⟩
              by_cases he : x = y
              · clear ne1 ne2 ne3 ne4
                subst he
                repeat' (first | simp (maxDischargeDepth := 9) -implicitDefEqProofs -dsimp only [go_sem, seval, *] | simp (disch := omega) only [wrap64] | (with_reducible (first | apply Zn | apply Zo) <;> intro hq) | ((with_reducible refine Zu ?_ ?_); focus omega))
                refine loop_next _ _ _ _ (i + 1) ?_; (repeat' (first | simp (maxDischargeDepth := 9) -implicitDefEqProofs -dsimp only [go_sem, seval, *] | simp (disch := omega) only [wrap64])) <;> (repeat' refine And.intro ?_ ?_) <;> (first | omega | rfl | assumption | skip)
                intro j hj hji
                rcases Nat.lt_or_ge j i with h' | h'
                · exact hok1 j hj h'
                · obtain rfl : j = i := by omega
                  rw [hx, hy]
              · have hv := ne2 (fun e => he (by rw [← hx, ← hy]; simp only [e]))
                have hb : ((x.next == y.next) && (x.init == y.init)) = false := by
                  cases x; cases y; simp at he ⊢; exact he
                clear ne1 ne2 ne3 ne4
                repeat' (first | simp (maxDischargeDepth := 9) -implicitDefEqProofs -dsimp only [go_sem, seval, *] | simp (disch := omega) only [wrap64] | (with_reducible (first | apply Zn | apply Zo) <;> intro hq) | ((with_reducible refine Zu ?_ ?_); focus omega))
                refine fin_eq ?_
                (repeat' (first | simp (maxDischargeDepth := 9) -implicitDefEqProofs -dsimp only [go_sem, seval, *] | simp (disch := omega) only [wrap64])) <;> (repeat' refine And.intro ?_ ?_) <;> (first | omega | rfl | assumption | skip)
            · repeat' (first | simp (maxDischargeDepth := 9) -implicitDefEqProofs -dsimp only [go_sem, seval, *] | simp (disch := omega) only [wrap64] | (with_reducible (first | apply Zn | apply Zo) <;> intro hq) | ((with_reducible refine Zu ?_ ?_); focus omega))
              refine loop_rule (fun i : Nat => [(6, some (.int .i64 i)), (2, some (.cptr (aigL g))), (3, some (.cptr (aigL h)))]) (fun _ => σ) (fun i => i ≤ g.ands.length ∧ ∀ j, (hj : j < g.ands.length) → j < i → g.ands[j] = h.ands[j]) (fun i => g.ands.length - i) 0 ?_ ?_
              · (repeat' (first | simp (maxDischargeDepth := 9) -implicitDefEqProofs -dsimp only [go_sem, seval, *] | simp (disch := omega) only [wrap64])) <;> (repeat' refine And.intro ?_ ?_) <;> (first | omega | rfl | assumption | skip)
              · rintro k ⟨hk', hok2⟩
                by_cases hlt2 : k < g.ands.length
                · have hlt' : k < h.ands.length := by omega
                  obtain ⟨x, hx⟩ : ∃ x, g.ands[k] = x := ⟨_, rfl⟩
                  obtain ⟨y, hy⟩ : ∃ y, h.ands[k] = y := ⟨_, rfl⟩
                  by_cases he : x = y
                  · clear ne1 ne2 ne3 ne4
                    subst he
                    repeat' (first | simp (maxDischargeDepth := 9) -implicitDefEqProofs -dsimp only [go_sem, seval, *] | simp (disch := omega) only [wrap64] | (with_reducible (first | apply Zn | apply Zo) <;> intro hq) | ((with_reducible refine Zu ?_ ?_); focus omega))
                    refine loop_next _ _ _ _ (k + 1) ?_; (repeat' (first | simp (maxDischargeDepth := 9) -implicitDefEqProofs -dsimp only [go_sem, seval, *] | simp (disch := omega) only [wrap64])) <;> (repeat' refine And.intro ?_ ?_) <;> (first | omega | rfl | assumption | skip)
                    intro j hj hji
                    rcases Nat.lt_or_ge j k with h' | h'
                    · exact hok2 j hj h'
                    · obtain rfl : j = k := by omega
                      rw [hx, hy]
                  · have hv := ne3 (fun e => he (by rw [← hx, ← hy]; simp only [e]))
                    have hb : ((x.1 == y.1) && (x.2 == y.2)) = false := by
                      cases x; cases y; simp at he ⊢; exact he
                    clear ne1 ne2 ne3 ne4
                    repeat' (first | simp (maxDischargeDepth := 9) -implicitDefEqProofs -dsimp only [go_sem, seval, *] | simp (disch := omega) only [wrap64] | (with_reducible (first | apply Zn | apply Zo) <;> intro hq) | ((with_reducible refine Zu ?_ ?_); focus omega))
                    refine fin_eq ?_
                    (repeat' (first | simp (maxDischargeDepth := 9) -implicitDefEqProofs -dsimp only [go_sem, seval, *] | simp (disch := omega) only [wrap64])) <;> (repeat' refine And.intro ?_ ?_) <;> (first | omega | rfl | assumption | skip)
                · repeat' (first | simp (maxDischargeDepth := 9) -implicitDefEqProofs -dsimp only [go_sem, seval, *] | simp (disch := omega) only [wrap64] | (with_reducible (first | apply Zn | apply Zo) <;> intro hq) | ((with_reducible refine Zu ?_ ?_); focus omega))
                  refine loop_rule (fun i : Nat => [(7, some (.int .i64 i)), (2, some (.cptr (aigL g))), (3, some (.cptr (aigL h)))]) (fun _ => σ) (fun i => i ≤ g.outs.length ∧ ∀ j, (hj : j < g.outs.length) → j < i → g.outs[j] = h.outs[j]) (fun i => g.outs.length - i) 0 ?_ ?_
                  · (repeat' (first | simp (maxDischargeDepth := 9) -implicitDefEqProofs -dsimp only [go_sem, seval, *] | simp (disch := omega) only [wrap64])) <;> (repeat' refine And.intro ?_ ?_) <;> (first | omega | rfl | assumption | skip)
                  · rintro m ⟨hm', hok3⟩
                    by_cases hlt3 : m < g.outs.length
                    · have hlt' : m < h.outs.length := by omega
                      obtain ⟨x, hx⟩ : ∃ x, g.outs[m] = x := ⟨_, rfl⟩
                      obtain ⟨y, hy⟩ : ∃ y, h.outs[m] = y := ⟨_, rfl⟩
                      by_cases he : x = y
                      · clear ne1 ne2 ne3 ne4
                        subst he
                        repeat' (first | simp (maxDischargeDepth := 9) -implicitDefEqProofs -dsimp only [go_sem, seval, *] | simp (disch := omega) only [wrap64] | (with_reducible (first | apply Zn | apply Zo) <;> intro hq) | ((with_reducible refine Zu ?_ ?_); focus omega))
                        refine loop_next _ _ _ _ (m + 1) ?_; (repeat' (first | simp (maxDischargeDepth := 9) -implicitDefEqProofs -dsimp only [go_sem, seval, *] | simp (disch := omega) only [wrap64])) <;> (repeat' refine And.intro ?_ ?_) <;> (first | omega | rfl | assumption | skip)
                        intro j hj hji
                        rcases Nat.lt_or_ge j m with h' | h'
                        · exact hok3 j hj h'
                        · obtain rfl : j = m := by omega
                          rw [hx, hy]
                      · have hv := ne4 (fun e => he (by rw [← hx, ← hy]; simp only [e]))
                        have hb : (x != y) = true := by simpa using he
                        clear ne1 ne2 ne3 ne4
                        repeat' (first | simp (maxDischargeDepth := 9) -implicitDefEqProofs -dsimp only [go_sem, seval, *] | simp (disch := omega) only [wrap64] | (with_reducible (first | apply Zn | apply Zo) <;> intro hq) | ((with_reducible refine Zu ?_ ?_); focus omega))
                        refine fin_eq ?_
                        (repeat' (first | simp (maxDischargeDepth := 9) -implicitDefEqProofs -dsimp only [go_sem, seval, *] | simp (disch := omega) only [wrap64])) <;> (repeat' refine And.intro ?_ ?_) <;> (first | omega | rfl | assumption | skip)
                    · have hv : decide (g = h) = true := by
                        have q1 : g.flops = h.flops := List.ext_getElem (by omega) fun j hj _ => hok1 j hj (by omega)
                        have q2 : g.ands = h.ands := List.ext_getElem (by omega) fun j hj _ => hok2 j hj (by omega)
                        have q3 : g.outs = h.outs := List.ext_getElem (by omega) fun j hj _ => hok3 j hj (by omega)
                        cases g; cases h; simp_all
                      clear ne1 ne2 ne3 ne4
                      repeat' (first | simp (maxDischargeDepth := 9) -implicitDefEqProofs -dsimp only [go_sem, seval, *] | simp (disch := omega) only [wrap64] | (with_reducible (first | apply Zn | apply Zo) <;> intro hq) | ((with_reducible refine Zu ?_ ?_); focus omega))
                      refine fin_eq ?_
                      (repeat' (first | simp (maxDischargeDepth := 9) -implicitDefEqProofs -dsimp only [go_sem, seval, *] | simp (disch := omega) only [wrap64])) <;> (repeat' refine And.intro ?_ ?_) <;> (first | omega | rfl | assumption | skip)
        · have hv := ne4 (fun e => h3 (by rw [e]))
          clear ne1 ne2 ne3 ne4
          repeat' (first | simp (maxDischargeDepth := 9) -implicitDefEqProofs -dsimp only [go_sem, seval, *] | simp (disch := omega) only [wrap64] | (with_reducible (first | apply Zn | apply Zo) <;> intro hq) | ((with_reducible refine Zu ?_ ?_); focus omega))
          all_goals first | (exfalso; omega) | (refine fin_eq ?_; (repeat' (first | simp (maxDischargeDepth := 9) -implicitDefEqProofs -dsimp only [go_sem, seval, *] | simp (disch := omega) only [wrap64])) <;> (repeat' refine And.intro ?_ ?_) <;> (first | omega | rfl | assumption | skip))
      · have hv := ne3 (fun e => h2 (by rw [e]))
        clear ne1 ne2 ne3 ne4
        repeat' (first | simp (maxDischargeDepth := 9) -implicitDefEqProofs -dsimp only [go_sem, seval, *] | simp (disch := omega) only [wrap64] | (with_reducible (first | apply Zn | apply Zo) <;> intro hq) | ((with_reducible refine Zu ?_ ?_); focus omega))
        all_goals first | (exfalso; omega) | (refine fin_eq ?_; (repeat' (first | simp (maxDischargeDepth := 9) -implicitDefEqProofs -dsimp only [go_sem, seval, *] | simp (disch := omega) only [wrap64])) <;> (repeat' refine And.intro ?_ ?_) <;> (first | omega | rfl | assumption | skip))
    · have hv := ne2 (fun e => h1 (by rw [e]))
      clear ne1 ne2 ne3 ne4
      repeat' (first | simp (maxDischargeDepth := 9) -implicitDefEqProofs -dsimp only [go_sem, seval, *] | simp (disch := omega) only [wrap64] | (with_reducible (first | apply Zn | apply Zo) <;> intro hq) | ((with_reducible refine Zu ?_ ?_); focus omega))
      all_goals first | (exfalso; omega) | (refine fin_eq ?_; (repeat' (first | simp (maxDischargeDepth := 9) -implicitDefEqProofs -dsimp only [go_sem, seval, *] | simp (disch := omega) only [wrap64])) <;> (repeat' refine And.intro ?_ ?_) <;> (first | omega | rfl | assumption | skip))
  · have hv := ne1 hi
    clear ne1 ne2 ne3 ne4
    repeat' (first | simp (maxDischargeDepth := 9) -implicitDefEqProofs -dsimp only [go_sem, seval, *] | simp (disch := omega) only [wrap64] | (with_reducible (first | apply Zn | apply Zo) <;> intro hq) | ((with_reducible refine Zu ?_ ?_); focus omega))
    all_goals first | (exfalso; omega) | (refine fin_eq ?_; (repeat' (first | simp (maxDischargeDepth := 9) -implicitDefEqProofs -dsimp only [go_sem, seval, *] | simp (disch := omega) only [wrap64])) <;> (repeat' refine And.intro ?_ ?_) <;> (first | omega | rfl | assumption | skip))
end Go.Proofs.Ytbbihmmobfmadaa.A

namespace Go.Proofs.Ytbbihmmobfmadaa.A
open Abs Fil
theorem ref_Ints (a b : List Int) (σ : Sig) (ha : a.length ≤ 1000000000) :
    ACalls Try.prog 17 [.slice (a.map encInt) .no, .slice (b.map encInt) .no] σ (fun r σ' => r = .ret (.bool (decide (a = b))) ∧ σ' = σ) := by
  refine calls_x mixed Try.func17 b17 n17 rfl q17 (by simp) ?_; unfold c17 r17
  by_cases hl : a.length = b.length
  · repeat' (first | simp (maxDischargeDepth := 9) -implicitDefEqProofs -dsimp only [go_sem, seval, *] | simp (disch := omega) only [wrap64] | ((with_reducible refine Zu ?_ ?_); focus omega))
    have hl' := And.intro (Nat.le_of_eq hl) (Nat.le_of_eq hl.symm)
    clear hl
    refine loop_rule (fun i : Nat => [(0, some (.slice (a.map encInt) .no)), (1, some (.slice (b.map encInt) .no)), (5, some (.int .i64 i))]) (fun _ => σ) (fun i => i ≤ a.length ∧ ∀ j, (hj : j < a.length) → j < i → a[j] = b[j]) (fun i => a.length - i) 0 ?_ ?_
    · (repeat' (first | simp (maxDischargeDepth := 9) -implicitDefEqProofs -dsimp only [go_sem, seval, *] | simp (disch := omega) only [wrap64])) <;> (repeat' refine And.intro ?_ ?_) <;> (first | omega | rfl | assumption | skip)
    · rintro i ⟨hi, hok⟩
      by_cases hlt : i < a.length
      · have hlt' : i < b.length := by omega
        obtain ⟨x, hx⟩ : ∃ x, a[i] = x := ⟨_, rfl⟩
        obtain ⟨y, hy⟩ : ∃ y, b[i] = y := ⟨_, rfl⟩
        by_cases he : x = y
        · subst he
          repeat' (first | simp (maxDischargeDepth := 9) -implicitDefEqProofs -dsimp only [go_sem, seval, *] | simp (disch := omega) only [wrap64] | ((with_reducible refine Zu ?_ ?_); focus omega))
          refine loop_next _ _ _ _ (i + 1) ?_; (repeat' (first | simp (maxDischargeDepth := 9) -implicitDefEqProofs -dsimp only [go_sem, seval, *] | simp (disch := omega) only [wrap64])) <;> (repeat' refine And.intro ?_ ?_) <;> (first | omega | rfl | assumption | skip)
          intro j hj hji
          rcases Nat.lt_or_ge j i with h' | h'
          · exact hok j hj h'
          · obtain rfl : j = i := by omega
            rw [hx, hy]
        · have hv : decide (a = b) = false := by simp; intro e; exact he (by rw [← hx, ← hy]; simp only [e])
          have hb : (x != y) = true := by simpa using he
          repeat' (first | simp (maxDischargeDepth := 9) -implicitDefEqProofs -dsimp only [go_sem, seval, *] | simp (disch := omega) only [wrap64] | ((with_reducible refine Zu ?_ ?_); focus omega))
          refine fin_eq ?_
          (repeat' (first | simp (maxDischargeDepth := 9) -implicitDefEqProofs -dsimp only [go_sem, seval, *] | simp (disch := omega) only [wrap64])) <;> (repeat' refine And.intro ?_ ?_) <;> (first | omega | rfl | assumption | skip)
      · have hv : decide (a = b) = true := by simp; exact List.ext_getElem (by omega) fun j hj _ => hok j hj (by omega)
        repeat' (first | simp (maxDischargeDepth := 9) -implicitDefEqProofs -dsimp only [go_sem, seval, *] | simp (disch := omega) only [wrap64] | ((with_reducible refine Zu ?_ ?_); focus omega))
        refine fin_eq ?_
        (repeat' (first | simp (maxDischargeDepth := 9) -implicitDefEqProofs -dsimp only [go_sem, seval, *] | simp (disch := omega) only [wrap64])) <;> (repeat' refine And.intro ?_ ?_) <;> (first | omega | rfl | assumption | skip)
  · have hb : ((a.length : Int) != b.length) = true := by simp; omega
    have hv : decide (a = b) = false := by simp; intro e; exact hl (by rw [e])
    repeat' (first | simp (maxDischargeDepth := 9) -implicitDefEqProofs -dsimp only [go_sem, seval, *] | simp (disch := omega) only [wrap64] | ((with_reducible refine Zu ?_ ?_); focus omega))
    refine fin_eq ?_
    (repeat' (first | simp (maxDischargeDepth := 9) -implicitDefEqProofs -dsimp only [go_sem, seval, *] | simp (disch := omega) only [wrap64])) <;> (repeat' refine And.intro ?_ ?_) <;> (first | omega | rfl | assumption | skip)
end Go.Proofs.Ytbbihmmobfmadaa.A

namespace Fil
open Abs
def Res (g : Aig) (n : Nat) (l : List Int) (r : Aig × Int × Int) : Prop :=
  (r.2.2 = 0 ∧ g.check = 0 ∧ (∀ a ∈ l, g.lit a = true) ∧ Fine r.1 ∧ Ext g r.1 ∧ r.1.lit r.2.1 = true ∧ r.1.ands.length ≤ g.ands.length + n) ∨ (r.2.2 ≠ 0 ∧ r.1 = ⟨0, [], [], []⟩ ∧ r.2.1 = 0)
theorem andO_len {g g' : Aig} {p q x : Int} (h : g.andO p q = some (g', x)) : g'.ands.length ≤ g.ands.length + 1 := by
  unfold Aig.andO at h
  simp only at h
  split at h
  · simp at h; obtain ⟨rfl, _⟩ := h; omega
  · split at h
    · simp at h; obtain ⟨rfl, _⟩ := h; omega
    · split at h
      · simp at h; obtain ⟨rfl, _⟩ := h; omega
      · split at h
        · simp at h
        · simp at h; obtain ⟨rfl, _⟩ := h; simp
theorem andW_len (g : Aig) (e p q : Int) : (g.andW e p q).1.ands.length ≤ g.ands.length + 1 := by
  unfold Aig.andW
  split
  · simp
  · cases h : g.andO p q with
    | none => simp
    | some r => exact andO_len h
theorem orW_ok {g : Aig} {e p q : Int} (hf : e = 0 → Fine g ∧ g.lit p = true ∧ g.lit q = true) :
    ((g.orW e p q).2.1 = 0 → Fine (g.orW e p q).1 ∧ (g.orW e p q).1.lit (g.orW e p q).2.2 = true) ∧ Ext g (g.orW e p q).1 := by
  obtain ⟨h1, h2, _⟩ := andW_ok (g := g) (e := e) (p := turn p) (q := turn q) fun h => ⟨(hf h).1, turn_lit (hf h).2.1, turn_lit (hf h).2.2⟩
  exact ⟨fun h => ⟨(h1 h).1, turn_lit (h1 h).2⟩, h2⟩
theorem pairsW_ok {g : Aig} {e a b c d : Int} (hf : e = 0 → Fine g ∧ g.lit a = true ∧ g.lit b = true ∧ g.lit c = true ∧ g.lit d = true) :
    ((g.pairs e a b c d).2.1 = 0 → e = 0 ∧ Fine (g.pairs e a b c d).1 ∧ (g.pairs e a b c d).1.lit (g.pairs e a b c d).2.2 = true) ∧ Ext g (g.pairs e a b c d).1 ∧ (g.pairs e a b c d).1.ands.length ≤ g.ands.length + 3 := by
  obtain ⟨h1, h2, _⟩ := andW_ok (g := g) (e := e) (p := a) (q := b) fun h => ⟨(hf h).1, (hf h).2.1, (hf h).2.2.1⟩
  obtain ⟨k1, k2, _⟩ := andW_ok (g := (g.andW e a b).1) (e := (g.andW e a b).2.1) (p := c) (q := d) fun h => by
    obtain ⟨_, _, _, hc, hd⟩ := hf (andW_err h)
    exact ⟨(h1 h).1, h2.lit hc, h2.lit hd⟩
  obtain ⟨m1, m2⟩ := orW_ok (g := ((g.andW e a b).1.andW (g.andW e a b).2.1 c d).1) (e := ((g.andW e a b).1.andW (g.andW e a b).2.1 c d).2.1) (p := (g.andW e a b).2.2) (q := ((g.andW e a b).1.andW (g.andW e a b).2.1 c d).2.2) fun h =>
    ⟨(k1 h).1, k2.lit (h1 (andW_err h)).2, (k1 h).2⟩
  have l1 := andW_len g e a b
  have l2 := andW_len (g.andW e a b).1 (g.andW e a b).2.1 c d
  have l3 := andW_len ((g.andW e a b).1.andW (g.andW e a b).2.1 c d).1 ((g.andW e a b).1.andW (g.andW e a b).2.1 c d).2.1 (turn (g.andW e a b).2.2) (turn ((g.andW e a b).1.andW (g.andW e a b).2.1 c d).2.2)
  exact ⟨fun h => ⟨andW_err (andW_err (andW_err h)), m1 h⟩, (h2.trans k2).trans m2, by
    show ((_ : Aig).andW _ _ _).1.ands.length ≤ _
    omega⟩
theorem and_res {g : Aig} (hs : Wf g) (a b : Int) : Res g 1 [a, b] (g.And a b) := by
  unfold Aig.And
  have hk : g.checkL g.check [a, b] = 0 → Fine g ∧ g.lit a = true ∧ g.lit b = true := fun h => by
    obtain ⟨h1, h2⟩ := checkL_fine hs h
    exact ⟨h1, h2 _ (by simp), h2 _ (by simp)⟩
  have ok := andW_ok hk
  by_cases h : (g.andW (g.checkL g.check [a, b]) a b).2.1 = 0
  · left
    rw [endW_ok h]
    have h0 := andW_err h
    obtain ⟨k1, k2⟩ := hk h0
    exact ⟨rfl, (checkL_zero.1 h0).1, (checkL_zero.1 h0).2, (ok.1 h).1, ok.2.1, (ok.1 h).2, andW_len _ _ _ _⟩
  · right
    rw [endW_err h]
    exact ⟨h, rfl, rfl⟩
theorem or_res {g : Aig} (hs : Wf g) (a b : Int) : Res g 1 [a, b] (g.Or a b) := by
  unfold Aig.Or
  have hk : g.checkL g.check [a, b] = 0 → Fine g ∧ g.lit a = true ∧ g.lit b = true := fun h => by
    obtain ⟨h1, h2⟩ := checkL_fine hs h
    exact ⟨h1, h2 _ (by simp), h2 _ (by simp)⟩
  have ok := orW_ok hk
  by_cases h : (g.orW (g.checkL g.check [a, b]) a b).2.1 = 0
  · left
    rw [endW_ok h]
    have h0 : g.checkL g.check [a, b] = 0 := andW_err h
    exact ⟨rfl, (checkL_zero.1 h0).1, (checkL_zero.1 h0).2, (ok.1 h).1, ok.2, (ok.1 h).2, andW_len _ _ _ _⟩
  · right
    rw [endW_err h]
    exact ⟨h, rfl, rfl⟩
theorem xor_res {g : Aig} (hs : Wf g) (a b : Int) : Res g 3 [a, b] (g.Xor a b) := by
  unfold Aig.Xor
  have ok := pairsW_ok (g := g) (e := g.checkL g.check [a, b]) (a := a) (b := turn b) (c := turn a) (d := b) fun h => by
    obtain ⟨h1, h2⟩ := checkL_fine hs h
    exact ⟨h1, h2 _ (by simp), turn_lit (h2 _ (by simp)), turn_lit (h2 _ (by simp)), h2 _ (by simp)⟩
  by_cases h : (g.pairs (g.checkL g.check [a, b]) a (turn b) (turn a) b).2.1 = 0
  · left
    rw [endW_ok h]
    obtain ⟨h0, k1, k2⟩ := ok.1 h
    exact ⟨rfl, (checkL_zero.1 h0).1, (checkL_zero.1 h0).2, k1, ok.2.1, k2, ok.2.2⟩
  · right
    rw [endW_err h]
    exact ⟨h, rfl, rfl⟩
theorem mux_res {g : Aig} (hs : Wf g) (c a b : Int) : Res g 3 [c, a, b] (g.Mux c a b) := by
  unfold Aig.Mux
  have ok := pairsW_ok (g := g) (e := g.checkL g.check [c, a, b]) (a := c) (b := a) (c := turn c) (d := b) fun h => by
    obtain ⟨h1, h2⟩ := checkL_fine hs h
    exact ⟨h1, h2 _ (by simp), h2 _ (by simp), turn_lit (h2 _ (by simp)), h2 _ (by simp)⟩
  by_cases h : (g.pairs (g.checkL g.check [c, a, b]) c a (turn c) b).2.1 = 0
  · left
    rw [endW_ok h]
    obtain ⟨h0, k1, k2⟩ := ok.1 h
    exact ⟨rfl, (checkL_zero.1 h0).1, (checkL_zero.1 h0).2, k1, ok.2.1, k2, ok.2.2⟩
  · right
    rw [endW_err h]
    exact ⟨h, rfl, rfl⟩
theorem zero_wf : Wf ⟨0, [], [], []⟩ := ⟨by simp [I64], by simp, by simp, by simp, by simp, by simp, by simp⟩
theorem Res.wf {g : Aig} {n : Nat} {l : List Int} {r : Aig × Int × Int} (h : Res g n l r) : Wf r.1 ∧ I64 r.2.1 := by
  rcases h with ⟨_, _, _, h, _, hl, _⟩ | ⟨_, h, h'⟩
  · have := litN_iff.1 hl
    have := h.cnt
    exact ⟨h.toWf, by omega, by omega⟩
  · rw [h, h']; exact ⟨zero_wf, by simp [I64]⟩
end Fil

namespace Fil
open Abs
theorem idxF_app {α : Type} (p : α → Bool) : ∀ (l m : List α), 0 ≤ idxF p l → idxF p (l ++ m) = idxF p l
  | [], m, h => by simp [idxF] at h
  | a :: l, m, h => by
    simp only [List.cons_append, idxF] at h ⊢
    split
    · rfl
    · rename_i hp
      rw [if_neg hp] at h
      have : 0 ≤ idxF p l := by
        by_cases h' : idxF p l < 0
        · rw [if_pos h'] at h; simp at h
        · omega
      rw [idxF_app p l m this]
theorem idxF_last {α : Type} (p : α → Bool) : ∀ (l : List α) (x : α), ¬ 0 ≤ idxF p l → p x = true → idxF p (l ++ [x]) = l.length
  | [], x, _, hx => by simp [idxF, hx]
  | a :: l, x, h, hx => by
    simp only [List.cons_append, idxF] at h ⊢
    split
    · rename_i hp; rw [if_pos hp] at h; simp at h
    · rename_i hp
      rw [if_neg hp] at h
      have hn : ¬ 0 ≤ idxF p l := by
        intro h'
        have h2 : ¬ idxF p l < 0 := by omega
        rw [if_neg h2] at h; omega
      rw [idxF_last p l x hn hx]
      rw [if_neg (by omega)]
      simp
theorem find_ext {g h : Aig} (hx : Ext g h) {a b : Int} (hf : 0 ≤ g.find a b) : h.find a b = g.find a b := by
  obtain ⟨_, _, _, l, hl⟩ := hx
  unfold Aig.find at *
  rw [hl]
  exact idxF_app _ _ _ hf
theorem andO_stable {g h k : Aig} {p q x : Int} (ho : g.andO p q = some (h, x)) (hx : Ext h k) : k.andO p q = some (k, x) := by
  unfold Aig.andO at ho ⊢
  simp only at ho ⊢
  split at ho
  · rename_i c; rw [if_pos c]; simp at ho; rw [ho.2]
  · rename_i c; rw [if_neg c]
    split at ho
    · rename_i c; rw [if_pos c]; simp at ho; rw [ho.2]
    · rename_i c; rw [if_neg c]
      split at ho
      · rename_i c
        simp at ho; obtain ⟨rfl, rfl⟩ := ho
        have e := find_ext hx c
        rw [e, if_pos c, hx.first]
      · rename_i c
        split at ho
        · simp at ho
        · simp at ho; obtain ⟨rfl, rfl⟩ := ho
          have e : ({ g with ands := g.ands ++ [(min p q, max p q)] } : Aig).find (min p q) (max p q) = g.ands.length := by
            unfold Aig.find at *
            exact idxF_last _ _ _ c (by simp; omega)
          have e' := find_ext hx (a := min p q) (b := max p q) (by rw [e]; omega)
          have cf := count_first g
          have hfst : k.first = g.first := hx.first
          rw [e', e, if_pos (by omega), hfst]
          congr 2; omega
theorem andW_stable {g k : Aig} {e p q : Int} (h : (g.andW e p q).2.1 = 0) (hx : Ext (g.andW e p q).1 k) : k.andW 0 p q = (k, 0, (g.andW e p q).2.2) := by
  have he := andW_err h
  subst he
  unfold Aig.andW at h hx ⊢
  simp only [ne_eq, not_true_eq_false, if_false] at h hx ⊢
  cases ho : g.andO p q with
  | none => rw [ho] at h; simp at h
  | some r =>
    rw [ho] at hx
    rw [andO_stable ho hx]
theorem orW_stable {g k : Aig} {e p q : Int} (h : (g.orW e p q).2.1 = 0) (hx : Ext (g.orW e p q).1 k) : k.orW 0 p q = (k, 0, (g.orW e p q).2.2) := by
  unfold Aig.orW at h hx ⊢
  rw [andW_stable h hx]
theorem ext_check {g h : Aig} (hs : Wf g) (hc : g.check = 0) (hx : Ext g h) (hf : Fine h) : h.check = 0 := by
  have hcn := hf.cnt
  have hlo := hf.lo
  unfold Aig.check at hc ⊢
  split at hc
  · simp at hc
  · split at hc
    · simp at hc
    · split at hc
      · rename_i h1 h2 h3
        rw [if_neg (by omega), if_neg (by rw [hx.ins, hx.outs]; omega), if_pos]
        simp only [Aig.good, Bool.and_eq_true, Bool.not_eq_true', List.any_eq_false, Bool.not_eq_true, Bool.not_eq_false'] at h3 ⊢
        refine ⟨⟨hf.gok, fun f hm => ?_⟩, fun a hm => ?_⟩
        · rw [hx.flops] at hm; exact fun hn => by have := hx.lit (by simpa using h3.1.2 f hm : g.lit f.next = true); rw [hn] at this; simp at this
        · rw [hx.outs] at hm; exact fun hn => by have := hx.lit (by simpa using h3.2 a hm : g.lit a = true); rw [hn] at this; simp at this
      · simp at hc
theorem Res.check {g : Aig} (hs : Wf g) {n : Nat} {l : List Int} {r : Aig × Int × Int} (h : Res g n l r) (h0 : r.2.2 = 0) : r.1.check = 0 ∧ Fine r.1 ∧ Ext g r.1 ∧ r.1.lit r.2.1 = true ∧ r.1.ands.length ≤ g.ands.length + n ∧ (∀ a ∈ l, g.lit a = true) ∧ g.check = 0 := by
  rcases h with ⟨_, hc, hl, hf, hx, hl', hn⟩ | ⟨h, _⟩
  · exact ⟨ext_check hs hc hx hf, hf, hx, hl', hn, hl, hc⟩
  · exact (h h0).elim
theorem Res.checkL {g : Aig} (hs : Wf g) {n : Nat} {l m : List Int} {r : Aig × Int × Int} (h : Res g n l r) (h0 : r.2.2 = 0) (hm : ∀ a ∈ m, a ∈ l) : r.1.checkL r.1.check m = 0 := by
  obtain ⟨h1, _, hx, _, _, hl, _⟩ := h.check hs h0
  exact checkL_zero.2 ⟨h1, fun a ha => hx.lit (hl a (hm a ha))⟩
end Fil

namespace Fil
open Abs
theorem vals_prefix : ∀ (l : List (Int × Int)) (v : List Bool), ∃ m, Aig.vals v l = v ++ m
  | [], v => ⟨[], by simp [Aig.vals]⟩
  | x :: l, v => by
    obtain ⟨m, hm⟩ := vals_prefix l (v ++ [Aig.val v x.1 && Aig.val v x.2])
    exact ⟨_ :: m, by rw [Aig.vals, hm, List.append_assoc]; rfl⟩
theorem val_app {v m : List Bool} {a : Int} (h : (a / 2).toNat < v.length) : Aig.val (v ++ m) a = Aig.val v a := by
  unfold Aig.val
  rw [List.getD_eq_getElem?_getD, List.getD_eq_getElem?_getD, List.getElem?_append_left h]
theorem val_turn {v : List Bool} {a : Int} (h : 0 ≤ a) : Aig.val v (turn a) = !Aig.val v a := by
  unfold Aig.val
  have e : (turn a / 2).toNat = (a / 2).toNat := by unfold turn; omega
  rw [e]
  by_cases h1 : a % 2 = 1
  · have h2 : ¬ turn a % 2 = 1 := by unfold turn; omega
    cases v.getD (a / 2).toNat false <;> simp [h1, h2]
  · have h2 : turn a % 2 = 1 := by unfold turn; omega
    cases v.getD (a / 2).toNat false <;> simp [h1, h2]
section
variable {s : List Bool}
theorem V_length {g : Aig} (hf : Fine g) (hb : ((s.length + 1 : Nat) : Int) = g.first) : ((Aig.vals (false :: s) g.ands).length : Int) = 1 + g.count := by
  rw [vals_length, count_first, List.length_cons]; omega
theorem V_ext {g h : Aig} (hx : Ext g h) : ∃ m, Aig.vals (false :: s) h.ands = Aig.vals (false :: s) g.ands ++ m := by
  obtain ⟨_, _, _, l, e⟩ := hx
  rw [e, vals_append]
  exact vals_prefix _ _
theorem val_ext {g h : Aig} (hf : Fine g) (hb : ((s.length + 1 : Nat) : Int) = g.first) (hx : Ext g h) {a : Int} (ha : g.lit a = true) : Aig.val (Aig.vals (false :: s) h.ands) a = Aig.val (Aig.vals (false :: s) g.ands) a := by
  obtain ⟨m, e⟩ := V_ext (s := s) hx
  rw [e, val_app]
  have := V_length hf hb
  have := litN_iff.1 ha
  omega
theorem val_zero {g : Aig} : Aig.val (Aig.vals (false :: s) g.ands) 0 = false := by
  obtain ⟨m, e⟩ := vals_prefix g.ands (false :: s)
  rw [e]; rfl
theorem val_one {g : Aig} : Aig.val (Aig.vals (false :: s) g.ands) 1 = true := by
  obtain ⟨m, e⟩ := vals_prefix g.ands (false :: s)
  rw [e]; rfl
theorem idxF_get {α : Type} (p : α → Bool) : ∀ (l : List α), 0 ≤ idxF p l → ∃ h : (idxF p l).toNat < l.length, p l[(idxF p l).toNat] = true
  | [], h => by simp [idxF] at h
  | a :: l, h => by
    by_cases hp : p a = true
    · have e : idxF p (a :: l) = 0 := by simp [idxF, hp]
      simp [e, hp]
    · by_cases h' : idxF p l < 0
      · have e : idxF p (a :: l) = -1 := by simp [idxF, hp, h']
        omega
      · have e : idxF p (a :: l) = idxF p l + 1 := by simp [idxF, hp, h']
        obtain ⟨k, hk⟩ := idxF_get p l (by omega)
        have e2 : (idxF p (a :: l)).toNat = (idxF p l).toNat + 1 := by omega
        have k2 : (idxF p (a :: l)).toNat < (a :: l).length := by rw [e2, List.length_cons]; omega
        refine ⟨k2, ?_⟩
        simp only [e2, List.getElem_cons_succ]
        exact hk
theorem gate_val {g : Aig} (hf : Fine g) (hb : ((s.length + 1 : Nat) : Int) = g.first) {i : Nat} (hi : i < g.ands.length) :
    Aig.val (Aig.vals (false :: s) g.ands) (2 * (g.first + i)) = (Aig.val (Aig.vals (false :: s) g.ands) g.ands[i].1 && Aig.val (Aig.vals (false :: s) g.ands) g.ands[i].2) := by
  have hg := gatesOk_iff.1 hf.gok i hi
  have st := vals_step (v := false :: s) hi
  have ln := vals_len (v := false :: s) (l := g.ands) (i := i) (by omega)
  have sp : g.ands = g.ands.take (i + 1) ++ g.ands.drop (i + 1) := (List.take_append_drop _ _).symm
  have sp' : g.ands = g.ands.take i ++ g.ands.drop i := (List.take_append_drop _ _).symm
  obtain ⟨m, e⟩ := vals_prefix (g.ands.drop (i + 1)) (Aig.vals (false :: s) (g.ands.take (i + 1)))
  obtain ⟨m', e'⟩ := vals_prefix (g.ands.drop i) (Aig.vals (false :: s) (g.ands.take i))
  rw [← vals_append, ← sp, st] at e
  rw [← vals_append, ← sp'] at e'
  rw [List.length_cons] at ln
  have a1 : (g.ands[i].1 / 2).toNat < (Aig.vals (false :: s) (g.ands.take i)).length := by omega
  have a2 : (g.ands[i].2 / 2).toNat < (Aig.vals (false :: s) (g.ands.take i)).length := by omega
  have q1 : Aig.val (Aig.vals (false :: s) g.ands) g.ands[i].1 = Aig.val (Aig.vals (false :: s) (g.ands.take i)) g.ands[i].1 := by rw [e', val_app a1]
  have q2 : Aig.val (Aig.vals (false :: s) g.ands) g.ands[i].2 = Aig.val (Aig.vals (false :: s) (g.ands.take i)) g.ands[i].2 := by rw [e', val_app a2]
  rw [q1, q2, e]
  have ix : (2 * (g.first + i) / 2).toNat = (Aig.vals (false :: s) (g.ands.take i)).length := by omega
  have od : ¬ (2 * (g.first + (i : Int))) % 2 = 1 := by omega
  unfold Aig.val
  rw [ix, List.getD_eq_getElem?_getD, List.append_assoc, List.getElem?_append_right (Nat.le_refl _)]
  simp [od]
theorem min_max_val {v : List Bool} {p q : Int} : (Aig.val v (min p q) && Aig.val v (max p q)) = (Aig.val v p && Aig.val v q) := by
  rcases Int.le_total p q with h | h
  · rw [Int.min_eq_left h, Int.max_eq_right h]
  · rw [Int.min_eq_right h, Int.max_eq_left h, Bool.and_comm]
theorem andO_val {g h : Aig} {p q x : Int} (hf : Fine g) (hb : ((s.length + 1 : Nat) : Int) = g.first) (hp : g.lit p = true) (hq : g.lit q = true) (ho : g.andO p q = some (h, x)) :
    Aig.val (Aig.vals (false :: s) h.ands) x = (Aig.val (Aig.vals (false :: s) g.ands) p && Aig.val (Aig.vals (false :: s) g.ands) q) := by
  have hp' := litN_iff.1 hp
  have hq' := litN_iff.1 hq
  rw [← min_max_val]
  unfold Aig.andO at ho
  simp only at ho
  split at ho
  · rename_i c
    simp at ho; obtain ⟨rfl, rfl⟩ := ho
    rw [val_zero]
    rcases c with c | c
    · rw [c, val_zero]; rfl
    · rw [c, val_turn (by omega)]; cases Aig.val (Aig.vals (false :: s) g.ands) (max p q) <;> rfl
  · split at ho
    · rename_i c
      simp at ho; obtain ⟨rfl, rfl⟩ := ho
      rcases c with c | c
      · rw [c, val_one, Bool.true_and]
      · rw [c, Bool.and_self]
    · split at ho
      · rename_i c
        simp at ho; obtain ⟨rfl, rfl⟩ := ho
        obtain ⟨k, hk⟩ := idxF_get _ _ c
        have e := gate_val (s := s) hf hb k
        have e2 : (((g.find (min p q) (max p q)).toNat : Nat) : Int) = g.find (min p q) (max p q) := by omega
        have e4 : (((idxF (fun x : Int × Int => decide (min x.1 x.2 = min p q) && decide (max x.1 x.2 = max p q)) g.ands).toNat : Nat) : Int) = g.find (min p q) (max p q) := e2
        rw [e4] at e
        rw [e, ← min_max_val]
        simp only [Bool.and_eq_true, decide_eq_true_eq] at hk
        rw [hk.1, hk.2]
      · split at ho
        · simp at ho
        · simp at ho; obtain ⟨rfl, rfl⟩ := ho
          have ln := V_length (s := s) hf hb
          have ix : (2 * (g.count + 1) / 2).toNat = (Aig.vals (false :: s) g.ands).length := by omega
          have od : ¬ (2 * (g.count + 1)) % 2 = 1 := by omega
          simp only [vals_snoc]
          generalize hv : (Aig.val (Aig.vals (false :: s) g.ands) (min p q) && Aig.val (Aig.vals (false :: s) g.ands) (max p q)) = w
          unfold Aig.val
          rw [ix, List.getD_eq_getElem?_getD, List.getElem?_append_right (Nat.le_refl _)]
          simp [od]
theorem andW_val {g : Aig} {e p q : Int} (hf : e = 0 → Fine g ∧ g.lit p = true ∧ g.lit q = true) (hb : ((s.length + 1 : Nat) : Int) = g.first) (h : (g.andW e p q).2.1 = 0) :
    Aig.val (Aig.vals (false :: s) (g.andW e p q).1.ands) (g.andW e p q).2.2 = (Aig.val (Aig.vals (false :: s) g.ands) p && Aig.val (Aig.vals (false :: s) g.ands) q) := by
  have he := andW_err h
  obtain ⟨h1, h2, h3⟩ := hf he
  subst he
  unfold Aig.andW at h ⊢
  simp only [ne_eq, not_true_eq_false, if_false] at h ⊢
  cases ho : g.andO p q with
  | none => rw [ho] at h; simp at h
  | some r => exact andO_val h1 hb h2 h3 ho
theorem orW_val {g : Aig} {e p q : Int} (hf : e = 0 → Fine g ∧ g.lit p = true ∧ g.lit q = true) (hb : ((s.length + 1 : Nat) : Int) = g.first) (h : (g.orW e p q).2.1 = 0) :
    Aig.val (Aig.vals (false :: s) (g.orW e p q).1.ands) (g.orW e p q).2.2 = (Aig.val (Aig.vals (false :: s) g.ands) p || Aig.val (Aig.vals (false :: s) g.ands) q) := by
  have he : e = 0 := andW_err h
  have hf' : e = 0 → Fine g ∧ g.lit (turn p) = true ∧ g.lit (turn q) = true := fun he => ⟨(hf he).1, turn_lit (hf he).2.1, turn_lit (hf he).2.2⟩
  have k := andW_val (s := s) hf' hb h
  have ok := (andW_ok hf').2.2.1
  show Aig.val _ (turn _) = _
  rw [val_turn ok]
  obtain ⟨_, h2, h3⟩ := hf he
  have k' : Aig.val (Aig.vals (false :: s) (g.orW e p q).1.ands) (g.andW e (turn p) (turn q)).2.2 = _ := k
  rw [k', val_turn (litN_iff.1 h2).1, val_turn (litN_iff.1 h3).1]
  cases Aig.val (Aig.vals (false :: s) g.ands) p <;> cases Aig.val (Aig.vals (false :: s) g.ands) q <;> rfl
theorem pairs_val {g : Aig} {e a b c d : Int} (hf : e = 0 → Fine g ∧ g.lit a = true ∧ g.lit b = true ∧ g.lit c = true ∧ g.lit d = true) (hb : ((s.length + 1 : Nat) : Int) = g.first) (h : (g.pairs e a b c d).2.1 = 0) :
    Aig.val (Aig.vals (false :: s) (g.pairs e a b c d).1.ands) (g.pairs e a b c d).2.2 = ((Aig.val (Aig.vals (false :: s) g.ands) a && Aig.val (Aig.vals (false :: s) g.ands) b) || (Aig.val (Aig.vals (false :: s) g.ands) c && Aig.val (Aig.vals (false :: s) g.ands) d)) := by
  have f1 : e = 0 → Fine g ∧ g.lit a = true ∧ g.lit b = true := fun h => ⟨(hf h).1, (hf h).2.1, (hf h).2.2.1⟩
  obtain ⟨h1, h2, _⟩ := andW_ok f1
  have f2 : (g.andW e a b).2.1 = 0 → Fine (g.andW e a b).1 ∧ (g.andW e a b).1.lit c = true ∧ (g.andW e a b).1.lit d = true := fun h => by
    obtain ⟨_, _, _, hc, hd⟩ := hf (andW_err h)
    exact ⟨(h1 h).1, h2.lit hc, h2.lit hd⟩
  obtain ⟨k1, k2, _⟩ := andW_ok f2
  have f3 : ((g.andW e a b).1.andW (g.andW e a b).2.1 c d).2.1 = 0 → Fine ((g.andW e a b).1.andW (g.andW e a b).2.1 c d).1 ∧ ((g.andW e a b).1.andW (g.andW e a b).2.1 c d).1.lit (g.andW e a b).2.2 = true ∧ ((g.andW e a b).1.andW (g.andW e a b).2.1 c d).1.lit ((g.andW e a b).1.andW (g.andW e a b).2.1 c d).2.2 = true := fun h =>
    ⟨(k1 h).1, k2.lit (h1 (andW_err h)).2, (k1 h).2⟩
  have e2 : ((g.andW e a b).1.andW (g.andW e a b).2.1 c d).2.1 = 0 := andW_err h
  have e1 : (g.andW e a b).2.1 = 0 := andW_err e2
  have v1 := andW_val (s := s) f1 hb e1
  have v2 := andW_val (s := s) f2 (by rw [h2.first]; exact hb) e2
  have v3 := orW_val (s := s) f3 (by rw [k2.first, h2.first]; exact hb) h
  obtain ⟨hg, _, _, hc, hd⟩ := hf (andW_err e1)
  have x1 := val_ext (s := s) (h1 e1).1 (by rw [h2.first]; exact hb) k2 (h1 e1).2
  have x2 := val_ext (s := s) hg hb h2 hc
  have x3 := val_ext (s := s) hg hb h2 hd
  rw [x1, v1, v2, x2, x3] at v3
  exact v3
end
def Aig.value (g : Aig) (a : Int) (inp st : List Bool) : Bool := Aig.val (Aig.vals (false :: (inp ++ st)) g.ands) a
section
variable {g : Aig} {a b c : Int} {inp st : List Bool} (hs : Wf g) (l1 : (inp.length : Int) = g.ins) (l2 : st.length = g.flops.length)
include hs l1 l2
theorem and_val (h : (g.And a b).2.2 = 0) : (g.And a b).1.value (g.And a b).2.1 inp st = (g.value a inp st && g.value b inp st) := by
  have hb : (((inp ++ st).length + 1 : Nat) : Int) = g.first := by rw [List.length_append]; unfold Aig.first; omega
  unfold Aig.And at h ⊢
  by_cases h' : (g.andW (g.checkL g.check [a, b]) a b).2.1 = 0
  · rw [endW_ok h']
    exact andW_val (fun h => ⟨(checkL_fine hs h).1, (checkL_fine hs h).2 _ (by simp), (checkL_fine hs h).2 _ (by simp)⟩) hb h'
  · rw [endW_err h'] at h; exact (h' h).elim
theorem or_val (h : (g.Or a b).2.2 = 0) : (g.Or a b).1.value (g.Or a b).2.1 inp st = (g.value a inp st || g.value b inp st) := by
  have hb : (((inp ++ st).length + 1 : Nat) : Int) = g.first := by rw [List.length_append]; unfold Aig.first; omega
  unfold Aig.Or at h ⊢
  by_cases h' : (g.orW (g.checkL g.check [a, b]) a b).2.1 = 0
  · rw [endW_ok h']
    exact orW_val (fun h => ⟨(checkL_fine hs h).1, (checkL_fine hs h).2 _ (by simp), (checkL_fine hs h).2 _ (by simp)⟩) hb h'
  · rw [endW_err h'] at h; exact (h' h).elim
theorem xor_val (h : (g.Xor a b).2.2 = 0) : (g.Xor a b).1.value (g.Xor a b).2.1 inp st = (g.value a inp st != g.value b inp st) := by
  have hb : (((inp ++ st).length + 1 : Nat) : Int) = g.first := by rw [List.length_append]; unfold Aig.first; omega
  have hl := (xor_res hs a b).check hs h
  have pa := (litN_iff.1 (hl.2.2.2.2.2.1 a (by simp))).1
  have pb := (litN_iff.1 (hl.2.2.2.2.2.1 b (by simp))).1
  unfold Aig.Xor at h ⊢
  by_cases h' : (g.pairs (g.checkL g.check [a, b]) a (turn b) (turn a) b).2.1 = 0
  · rw [endW_ok h']
    have := pairs_val (s := inp ++ st) (fun h => ⟨(checkL_fine hs h).1, (checkL_fine hs h).2 _ (by simp), turn_lit ((checkL_fine hs h).2 _ (by simp)), turn_lit ((checkL_fine hs h).2 _ (by simp)), (checkL_fine hs h).2 _ (by simp)⟩) hb h'
    rw [val_turn pa, val_turn pb] at this
    refine this.trans ?_
    unfold Aig.value
    cases Aig.val (Aig.vals (false :: (inp ++ st)) g.ands) a <;> cases Aig.val (Aig.vals (false :: (inp ++ st)) g.ands) b <;> rfl
  · rw [endW_err h'] at h; exact (h' h).elim
theorem mux_val (h : (g.Mux c a b).2.2 = 0) : (g.Mux c a b).1.value (g.Mux c a b).2.1 inp st = if g.value c inp st then g.value a inp st else g.value b inp st := by
  have hb : (((inp ++ st).length + 1 : Nat) : Int) = g.first := by rw [List.length_append]; unfold Aig.first; omega
  have hl := (mux_res hs c a b).check hs h
  have pc := (litN_iff.1 (hl.2.2.2.2.2.1 c (by simp))).1
  unfold Aig.Mux at h ⊢
  by_cases h' : (g.pairs (g.checkL g.check [c, a, b]) c a (turn c) b).2.1 = 0
  · rw [endW_ok h']
    have := pairs_val (s := inp ++ st) (fun h => ⟨(checkL_fine hs h).1, (checkL_fine hs h).2 _ (by simp), (checkL_fine hs h).2 _ (by simp), turn_lit ((checkL_fine hs h).2 _ (by simp)), (checkL_fine hs h).2 _ (by simp)⟩) hb h'
    rw [val_turn pc] at this
    refine this.trans ?_
    unfold Aig.value
    cases Aig.val (Aig.vals (false :: (inp ++ st)) g.ands) c <;> simp
  · rw [endW_err h'] at h; exact (h' h).elim
end
end Fil

namespace Fil.Bl
open Abs
inductive Op where
  | and | or | xor | mux
def Op.ev : Op → Bool → Bool → Bool → Bool
  | .and, a, b, _ => a && b
  | .or, a, b, _ => a || b
  | .xor, a, b, _ => a != b
  | .mux, a, b, c => if a then b else c
def Op.ap : Op → Aig → Int → Int → Int → Aig × Int × Int
  | .and, g, x, y, _ => g.And x y
  | .or, g, x, y, _ => g.Or x y
  | .xor, g, x, y, _ => g.Xor x y
  | .mux, g, x, y, z => g.Mux x y z
inductive Pg (α : Type) where
  | ret (a : α)
  | op (o : Op) (x y z : Int) (k : Int → Pg α)
def Pg.bind {α β : Type} : Pg α → (α → Pg β) → Pg β
  | .ret a, f => f a
  | .op o x y z k, f => .op o x y z fun r => (k r).bind f
structure Bu where
  g : Aig
  e : Int
def Bu.op (b : Bu) (o : Op) (x y z : Int) : Int × Bu :=
  if b.e ≠ 0 then (0, b) else if (o.ap b.g x y z).2.2 ≠ 0 then (0, ⟨b.g, (o.ap b.g x y z).2.2⟩) else ((o.ap b.g x y z).2.1, ⟨(o.ap b.g x y z).1, 0⟩)
def Pg.run {α : Type} : Pg α → Bu → α × Bu
  | .ret a, b => (a, b)
  | .op o x y z k, b => (k (b.op o x y z).1).run (b.op o x y z).2
theorem run_bind {α β : Type} (f : α → Pg β) : ∀ (p : Pg α) (b : Bu), (p.bind f).run b = (f (p.run b).1).run (p.run b).2
  | .ret a, b => rfl
  | .op o x y z k, b => by simp only [Pg.bind, Pg.run]; exact run_bind f _ _
def iter {α : Type} (f : Nat → α → Pg α) (a : α) : Nat → Pg α
  | 0 => .ret a
  | n + 1 => (iter f a n).bind (f n)
theorem iter_run {α : Type} (f : Nat → α → Pg α) (a : α) (n : Nat) (b : Bu) : (iter f a (n + 1)).run b = (f n ((iter f a n).run b).1).run ((iter f a n).run b).2 := run_bind _ _ _

/-! ### Words -/
def gt (l : List Int) (i : Nat) : Int := l.getD i 0
def andP (x y : Int) : Pg Int := .op .and x y 0 .ret
def orP (x y : Int) : Pg Int := .op .or x y 0 .ret
def xorP (x y : Int) : Pg Int := .op .xor x y 0 .ret
def muxP (c x y : Int) : Pg Int := .op .mux c x y .ret
def notW (x : List Int) : List Int := x.map turn
def zipP (f : Int → Int → Pg Int) (x y : List Int) : Nat → Pg (List Int) := iter (fun i out => (f (gt x i) (gt y i)).bind fun r => .ret (out ++ [r])) []
def foldP (f : Int → Int → Pg Int) (a : Int) (l : List Int) : Nat → Pg Int := iter (fun i a => f a (gt l i)) a
def fullP (p q c : Int) : Pg (Int × Int) :=
  (xorP p q).bind fun e => (xorP e c).bind fun s => (andP p q).bind fun both => (andP e c).bind fun on => (orP both on).bind fun c => .ret (s, c)
def sumP (x y : List Int) (c : Int) : Nat → Pg (List Int × Int) := iter (fun i r => (fullP (gt x i) (gt y i) r.2).bind fun s => .ret (r.1 ++ [s.1], s.2)) ([], c)
def sumW (x y : List Int) (c : Int) : Pg (List Int × Int) := sumP x y c x.length
def rowP (x : List Int) (bit : Int) (i : Nat) : Nat → Pg (List Int) := iter (fun j row => (andP (gt x j) bit).bind fun r => .ret (row ++ [r])) (List.replicate i 0)
def mulP (x y : List Int) : Nat → Pg (List Int) := iter (fun i out => (rowP x (gt y i) i (x.length - i)).bind fun row => (sumW out row 0).bind fun r => .ret r.1) (List.replicate x.length 0)
def far (x : List Int) (k : Int) : Int := if 0 ≤ k ∧ k < x.length then gt x k.toNat else 0
def farI (up : Bool) (i j : Nat) : Int := if up then j - 2 ^ (min i 8) else j + 2 ^ (min i 8)
def shift1 (x : List Int) (bit : Int) (up : Bool) (i : Nat) : Nat → Pg (List Int) := iter (fun j out => (muxP bit (far x (farI up i j)) (gt x j)).bind fun r => .ret (out ++ [r])) []
def shiftP (x y : List Int) (up : Bool) : Nat → Pg (List Int) := iter (fun i x => shift1 x (gt y i) up i x.length) x
def allW (l : List Int) : Pg Int := foldP andP 1 l l.length
def lessW (x y : List Int) : Pg Int := (sumW x (notW y) 1).bind fun r => .ret (turn r.2)
def eqW (x y : List Int) : Pg Int := (zipP xorP x y x.length).bind fun l => allW (notW l)
def unP (op : Int) (a : List Int) : Pg (List Int) :=
  if op = 1 then .ret (notW a)
  else if op = 2 then (sumW (notW a) (List.replicate a.length 0) 1).bind fun r => .ret r.1
  else if op = 3 then (allW a).bind fun r => .ret [r]
  else if op = 4 then (allW (notW a)).bind fun r => .ret [turn r]
  else if op = 5 then (foldP xorP 0 a a.length).bind fun r => .ret [r]
  else .ret [turn (gt a 0)]
def binP (op : Int) (x y : List Int) : Pg (List Int) :=
  if op = 11 ∨ op = 25 then zipP andP x y x.length
  else if op = 12 ∨ op = 26 then zipP orP x y x.length
  else if op = 13 then zipP xorP x y x.length
  else if op = 14 then (sumW x y 0).bind fun r => .ret r.1
  else if op = 15 then (sumW x (notW y) 1).bind fun r => .ret r.1
  else if op = 16 then mulP x y y.length
  else if op = 17 then shiftP x y true y.length
  else if op = 18 then shiftP x y false y.length
  else if op = 19 then (eqW x y).bind fun r => .ret [r]
  else if op = 20 then (eqW x y).bind fun r => .ret [turn r]
  else if op = 21 then (lessW x y).bind fun r => .ret [r]
  else if op = 23 then (lessW y x).bind fun r => .ret [r]
  else if op = 22 then (lessW y x).bind fun r => .ret [turn r]
  else (lessW x y).bind fun r => .ret [turn r]
def extW (op w : Int) (a : List Int) : List Int :=
  if op = 33 then a.take w.toNat else a ++ List.replicate (w.toNat - a.length) (if op = 32 then gt a (a.length - 1) else 0)
def numW (w v : Int) : List Int := (List.range w.toNat).map fun i => v / 2 ^ i % 2
def word (g : Aig) (a : List Int) : Bool := decide (0 < a.length) && decide (a.length ≤ 64) && a.all g.lit
def zG : Aig := ⟨0, [], [], []⟩
def told (r : List Int × Bu) : Aig × List Int × Int := if r.2.e ≠ 0 then (zG, [], r.2.e) else (r.2.g, r.1, 0)
def made (g : Aig) (may : Bool) (p : Pg (List Int)) : Aig × List Int × Int :=
  if g.check ≠ 0 then (zG, [], g.check) else if may = false then (zG, [], 1) else told (p.run ⟨g, 0⟩)
def mayUn (g : Aig) (op : Int) (a : List Int) : Bool := word g a && decide (1 ≤ op ∧ op ≤ 6 ∧ (op ≠ 6 ∨ a.length = 1))
def mayBin (g : Aig) (op : Int) (a b : List Int) : Bool := word g a && word g b && decide (11 ≤ op ∧ op ≤ 26 ∧ (op = 17 ∨ op = 18 ∨ (a.length = b.length ∧ (op < 25 ∨ a.length = 1))))
def mayExt (g : Aig) (op w : Int) (a : List Int) : Bool := word g a && decide (1 ≤ w ∧ w ≤ 64 ∧ 31 ≤ op ∧ op ≤ 33 ∧ (w = a.length ∨ (w < a.length ↔ op = 33)))
def Un (g : Aig) (op : Int) (a : List Int) := made g (mayUn g op a) (unP op a)
def Bin (g : Aig) (op : Int) (a b : List Int) := made g (mayBin g op a b) (binP op a b)
def Ext (g : Aig) (op w : Int) (a : List Int) := made g (mayExt g op w a) (.ret (extW op w a))
end Fil.Bl

namespace Fil.Bl
open Abs

/-! ### One operation -/
structure Ok (g : Aig) : Prop where
  wf : Wf g
  chk : g.check = 0
theorem Ok.fine {g : Aig} (h : Ok g) : Fine g := check_fine h.wf h.chk
def Op.lits : Op → Int → Int → Int → List Int
  | .mux, x, y, z => [x, y, z]
  | _, x, y, _ => [x, y]
theorem op_res {g : Aig} (hs : Wf g) (o : Op) (x y z : Int) : Res g 3 (o.lits x y z) (o.ap g x y z) := by
  have up : ∀ {l : List Int} {r : Aig × Int × Int}, Res g 1 l r → Res g 3 l r := fun h => by
    rcases h with ⟨h1, h2, h3, h4, h5, h6, h7⟩ | h
    · exact .inl ⟨h1, h2, h3, h4, h5, h6, by omega⟩
    · exact .inr h
  cases o with
  | and => exact up (and_res hs x y)
  | or => exact up (or_res hs x y)
  | xor => exact xor_res hs x y
  | mux => exact mux_res hs x y z
theorem op_ok {g : Aig} (hs : Wf g) {o : Op} {x y z : Int} (h : (o.ap g x y z).2.2 = 0) : Ok g ∧ Ok (o.ap g x y z).1 ∧ Fil.Ext g (o.ap g x y z).1 ∧ (o.ap g x y z).1.lit (o.ap g x y z).2.1 = true ∧ (o.ap g x y z).1.ands.length ≤ g.ands.length + 3 ∧ ∀ a ∈ o.lits x y z, g.lit a = true := by
  obtain ⟨h1, h2, h3, h4, h5, h6, h7⟩ := (op_res hs o x y z).check hs h
  exact ⟨⟨hs, h7⟩, ⟨h2.toWf, h1⟩, h3, h4, h5, h6⟩
theorem op_val {g : Aig} (hs : Wf g) {inp st : List Bool} (l1 : (inp.length : Int) = g.ins) (l2 : st.length = g.flops.length) {o : Op} {x y z : Int} (h : (o.ap g x y z).2.2 = 0) :
    (o.ap g x y z).1.value (o.ap g x y z).2.1 inp st = o.ev (g.value x inp st) (g.value y inp st) (g.value z inp st) := by
  cases o with
  | and => exact and_val hs l1 l2 h
  | or => exact or_val hs l1 l2 h
  | xor => exact xor_val hs l1 l2 h
  | mux => exact mux_val hs l1 l2 h
theorem value_ext {g h : Aig} (hf : Fine g) {inp st : List Bool} (l1 : (inp.length : Int) = g.ins) (l2 : st.length = g.flops.length) (hx : Fil.Ext g h) {a : Int} (ha : g.lit a = true) : h.value a inp st = g.value a inp st := by
  have hb : (((inp ++ st).length + 1 : Nat) : Int) = g.first := by rw [List.length_append]; unfold Aig.first; omega
  exact val_ext hf hb hx ha
theorem value_turn {g : Aig} {inp st : List Bool} {a : Int} (h : 0 ≤ a) : g.value (turn a) inp st = !g.value a inp st := val_turn h
theorem res_wf {g : Aig} (hs : Wf g) (o : Op) (x y z : Int) : Wf (o.ap g x y z).1 ∧ I64 (o.ap g x y z).2.1 := (op_res hs o x y z).wf
theorem bu_wf {b : Bu} (hs : Wf b.g) (o : Op) (x y z : Int) : Wf (b.op o x y z).2.g ∧ I64 (b.op o x y z).1 := by
  unfold Bu.op
  split
  · exact ⟨hs, by unfold I64; omega⟩
  split
  · exact ⟨hs, by unfold I64; omega⟩
  · exact res_wf hs o x y z

/-! ### Operations one behind the other -/
theorem op_err {b : Bu} (o : Op) (x y z : Int) (h : (b.op o x y z).2.e = 0) : b.e = 0 ∧ (o.ap b.g x y z).2.2 = 0 ∧ b.op o x y z = ((o.ap b.g x y z).2.1, ⟨(o.ap b.g x y z).1, 0⟩) := by
  unfold Bu.op at h ⊢
  split at h
  · rename_i q; exact (q h).elim
  rename_i q
  split at h
  · rename_i q2; exact (q2 h).elim
  rename_i q2
  rw [if_neg q, if_neg q2]
  exact ⟨by omega, by omega, rfl⟩
theorem run_err {α : Type} : ∀ (p : Pg α) (b : Bu), (p.run b).2.e = 0 → b.e = 0
  | .ret a, b, h => h
  | .op o x y z k, b, h => (op_err o x y z (run_err _ _ h)).1
theorem run_ok {α : Type} : ∀ (p : Pg α) (b : Bu), Wf b.g → Ok b.g → (p.run b).2.e = 0 → Ok (p.run b).2.g ∧ Fil.Ext b.g (p.run b).2.g
  | .ret a, b, _, ho, h => ⟨ho, .refl _⟩
  | .op o x y z k, b, hs, ho, h => by
    simp only [Pg.run] at h ⊢
    obtain ⟨h0, h1, h2⟩ := op_err o x y z (run_err _ _ h)
    obtain ⟨k1, k2, k3, _⟩ := op_ok hs h1
    rw [h2] at h ⊢
    obtain ⟨m1, m2⟩ := run_ok _ _ k2.wf k2 h
    exact ⟨m1, k3.trans m2⟩
def wpG (W : Int → Prop) (V : Int → Bool) {α : Type} : Pg α → (Nat → α → Prop) → Prop
  | .ret a, Q => Q 0 a
  | .op o x y z k, Q => (W x ∧ W y ∧ W z) ∧ ∀ r, W r → V r = o.ev (V x) (V y) (V z) → wpG W V (k r) fun n a => Q (n + 1) a
theorem wpG_mono {W : Int → Prop} {V : Int → Bool} {α : Type} : ∀ {p : Pg α} {Q Q' : Nat → α → Prop}, wpG W V p Q → (∀ n a, Q n a → Q' n a) → wpG W V p Q'
  | .ret a, Q, Q', h, k => k 0 a h
  | .op o x y z f, Q, Q', h, k => ⟨h.1, fun r h1 h2 => wpG_mono (h.2 r h1 h2) fun n a => k (n + 1) a⟩
theorem wpG_bind {W : Int → Prop} {V : Int → Bool} {α β : Type} {f : α → Pg β} : ∀ {p : Pg α} {Q : Nat → β → Prop}, wpG W V p (fun n a => wpG W V (f a) fun m b => Q (n + m) b) → wpG W V (p.bind f) Q
  | .ret a, Q, h => by
    have h : wpG W V (f a) (fun m b => Q (0 + m) b) := h
    exact wpG_mono h fun n a q => by rw [Nat.zero_add] at q; exact q
  | .op o x y z k, Q, h => ⟨h.1, fun r h1 h2 => wpG_bind (wpG_mono (h.2 r h1 h2) fun n a q => wpG_mono q fun m b q => by
      have e : n + 1 + m = n + m + 1 := by omega
      rw [e] at q; exact q)⟩
theorem run_sem {α : Type} {inp st : List Bool} {K : Aig} : ∀ (p : Pg α) (b : Bu) (Q : Nat → α → Prop), Wf b.g → (inp.length : Int) = b.g.ins → st.length = b.g.flops.length → (p.run b).2.e = 0 → Fil.Ext (p.run b).2.g K →
    wpG (fun a => K.lit a = true) (fun a => K.value a inp st) p Q → ∃ n, Q n (p.run b).1 ∧ (p.run b).2.g.ands.length ≤ b.g.ands.length + 3 * n
  | .ret a, b, Q, _, _, _, _, _, hq => ⟨0, hq, by simp [Pg.run]⟩
  | .op o x y z k, b, Q, hs, l1, l2, h, hx, hq => by
    simp only [Pg.run] at h hx ⊢
    obtain ⟨h0, h1, h2⟩ := op_err o x y z (run_err _ _ h)
    obtain ⟨k1, k2, k3, k4, k5, k6⟩ := op_ok hs h1
    rw [h2] at h hx ⊢
    obtain ⟨m1, m2⟩ := run_ok _ _ k2.wf k2 h
    have hv := op_val hs l1 l2 h1
    have e1 := k3.ins
    have e2 := k3.flops
    have hr : K.lit (o.ap b.g x y z).2.1 = true := (m2.trans hx).lit k4
    have vx : ∀ a, b.g.lit a = true → K.value a inp st = b.g.value a inp st := fun a ha => value_ext k1.fine l1 l2 (k3.trans (m2.trans hx)) ha
    have vr : K.value (o.ap b.g x y z).2.1 inp st = (o.ap b.g x y z).1.value (o.ap b.g x y z).2.1 inp st := value_ext k2.fine (by rw [e1]; exact l1) (by rw [e2]; exact l2) (m2.trans hx) k4
    have hev : K.value (o.ap b.g x y z).2.1 inp st = o.ev (K.value x inp st) (K.value y inp st) (K.value z inp st) := by
      rw [vr, hv]
      cases o with
      | mux => rw [vx x (k6 x (by simp [Op.lits])), vx y (k6 y (by simp [Op.lits])), vx z (k6 z (by simp [Op.lits]))]
      | and => simp only [Op.ev]; rw [vx x (k6 x (by simp [Op.lits])), vx y (k6 y (by simp [Op.lits]))]
      | or => simp only [Op.ev]; rw [vx x (k6 x (by simp [Op.lits])), vx y (k6 y (by simp [Op.lits]))]
      | xor => simp only [Op.ev]; rw [vx x (k6 x (by simp [Op.lits])), vx y (k6 y (by simp [Op.lits]))]
    obtain ⟨n, q1, q2⟩ := run_sem (K := K) (k (o.ap b.g x y z).2.1) ⟨(o.ap b.g x y z).1, 0⟩ (fun n a => Q (n + 1) a) k2.wf (by rw [e1]; exact l1) (by rw [e2]; exact l2) h hx (hq.2 _ hr hev)
    refine ⟨n + 1, q1, ?_⟩
    simp only at q2 ⊢
    omega

/-! ### Numbers -/
def b2 (b : Bool) : Int := if b then 1 else 0
theorem pairs_again {g K : Aig} {e a b c d : Int} (hf : e = 0 → Fine g ∧ g.lit a = true ∧ g.lit b = true ∧ g.lit c = true ∧ g.lit d = true) (h : (g.pairs e a b c d).2.1 = 0) (hx : Fil.Ext (g.pairs e a b c d).1 K) :
    K.pairs 0 a b c d = (K, 0, (g.pairs e a b c d).2.2) := by
  obtain ⟨h1, h2, _⟩ := andW_ok (g := g) (e := e) (p := a) (q := b) fun h => ⟨(hf h).1, (hf h).2.1, (hf h).2.2.1⟩
  obtain ⟨k1, k2, _⟩ := andW_ok (g := (g.andW e a b).1) (e := (g.andW e a b).2.1) (p := c) (q := d) fun h => by
    obtain ⟨_, _, _, hc, hd⟩ := hf (andW_err h)
    exact ⟨(h1 h).1, h2.lit hc, h2.lit hd⟩
  obtain ⟨m1, m2⟩ := orW_ok (g := ((g.andW e a b).1.andW (g.andW e a b).2.1 c d).1) (e := ((g.andW e a b).1.andW (g.andW e a b).2.1 c d).2.1) (p := (g.andW e a b).2.2) (q := ((g.andW e a b).1.andW (g.andW e a b).2.1 c d).2.2) fun h =>
    ⟨(k1 h).1, k2.lit (h1 (andW_err h)).2, (k1 h).2⟩
  have e2 : ((g.andW e a b).1.andW (g.andW e a b).2.1 c d).2.1 = 0 := andW_err h
  have e1 : (g.andW e a b).2.1 = 0 := andW_err e2
  have s1 := andW_stable (k := K) e1 (k2.trans (m2.trans hx))
  have s2 := andW_stable (k := K) e2 (m2.trans hx)
  have s3 := orW_stable (k := K) h hx
  show ((_ : Aig).andW _ _ _ |>.1.andW _ _ _ |>.1.orW _ _ _) = _
  rw [s1]
  simp only
  rw [s2]
  exact s3
theorem op_again {g K : Aig} (hs : Wf g) {o : Op} {x y z : Int} (h : (o.ap g x y z).2.2 = 0) (hx : Fil.Ext (o.ap g x y z).1 K) (hK : Ok K) : o.ap K x y z = (K, (o.ap g x y z).2.1, 0) := by
  obtain ⟨k1, k2, k3, k4, k5, k6⟩ := op_ok hs h
  have hc : K.checkL K.check (o.lits x y z) = 0 := checkL_zero.2 ⟨hK.chk, fun a ha => (k3.trans hx).lit (k6 a ha)⟩
  have hg : g.checkL g.check (o.lits x y z) = 0 := checkL_zero.2 ⟨k1.chk, k6⟩
  have hf := k1.fine
  cases o with
  | and =>
    change (g.And x y).2.2 = 0 at h
    change Fil.Ext (g.And x y).1 K at hx
    show K.And x y = (K, (g.And x y).2.1, 0)
    unfold Aig.And at h hx ⊢
    simp only [Op.lits] at hc hg
    rw [hg] at h hx ⊢
    rw [hc]
    by_cases h' : (g.andW 0 x y).2.1 = 0
    · rw [endW_ok h'] at hx ⊢
      rw [andW_stable h' hx]; rfl
    · rw [endW_err h'] at h; exact (h' h).elim
  | or =>
    change (g.Or x y).2.2 = 0 at h
    change Fil.Ext (g.Or x y).1 K at hx
    show K.Or x y = (K, (g.Or x y).2.1, 0)
    unfold Aig.Or at h hx ⊢
    simp only [Op.lits] at hc hg
    rw [hg] at h hx ⊢
    rw [hc]
    by_cases h' : (g.orW 0 x y).2.1 = 0
    · rw [endW_ok h'] at hx ⊢
      rw [orW_stable h' hx]; rfl
    · rw [endW_err h'] at h; exact (h' h).elim
  | xor =>
    change (g.Xor x y).2.2 = 0 at h
    change Fil.Ext (g.Xor x y).1 K at hx
    show K.Xor x y = (K, (g.Xor x y).2.1, 0)
    unfold Aig.Xor at h hx ⊢
    simp only [Op.lits] at hc hg k6
    rw [hg] at h hx ⊢
    rw [hc]
    by_cases h' : (g.pairs 0 x (turn y) (turn x) y).2.1 = 0
    · rw [endW_ok h'] at hx ⊢
      rw [pairs_again (fun _ => ⟨hf, k6 _ (by simp), turn_lit (k6 _ (by simp)), turn_lit (k6 _ (by simp)), k6 _ (by simp)⟩) h' hx]; rfl
    · rw [endW_err h'] at h; exact (h' h).elim
  | mux =>
    change (g.Mux x y z).2.2 = 0 at h
    change Fil.Ext (g.Mux x y z).1 K at hx
    show K.Mux x y z = (K, (g.Mux x y z).2.1, 0)
    unfold Aig.Mux at h hx ⊢
    simp only [Op.lits] at hc hg k6
    rw [hg] at h hx ⊢
    rw [hc]
    by_cases h' : (g.pairs 0 x y (turn x) z).2.1 = 0
    · rw [endW_ok h'] at hx ⊢
      rw [pairs_again (fun _ => ⟨hf, k6 _ (by simp), k6 _ (by simp), turn_lit (k6 _ (by simp)), k6 _ (by simp)⟩) h' hx]; rfl
    · rw [endW_err h'] at h; exact (h' h).elim
theorem run_again {α : Type} {K : Aig} (hK : Ok K) : ∀ (p : Pg α) (b : Bu), Wf b.g → (p.run b).2.e = 0 → Fil.Ext (p.run b).2.g K → p.run ⟨K, 0⟩ = ((p.run b).1, ⟨K, 0⟩)
  | .ret a, b, _, _, _ => rfl
  | .op o x y z k, b, hs, h, hx => by
    simp only [Pg.run] at h hx ⊢
    obtain ⟨h0, h1, h2⟩ := op_err o x y z (run_err _ _ h)
    obtain ⟨k1, k2, k3, k4, k5, k6⟩ := op_ok hs h1
    rw [h2] at h hx ⊢
    obtain ⟨m1, m2⟩ := run_ok _ _ k2.wf k2 h
    have ha := op_again hs h1 (m2.trans hx) hK
    have hop : (⟨K, 0⟩ : Bu).op o x y z = ((o.ap b.g x y z).2.1, ⟨K, 0⟩) := by
      unfold Bu.op
      rw [if_neg (by simp), ha]
      simp
    rw [hop]
    exact run_again hK _ _ k2.wf h hx
end Fil.Bl

namespace Fil.Bl
open Abs

/-! ### Rows of bits as_ numbers -/
def toN : List Bool → Nat
  | [] => 0
  | b :: l => b.toNat + 2 * toN l
theorem toN_lt : ∀ l, toN l < 2 ^ l.length
  | [] => by simp [toN]
  | b :: l => by
    have := toN_lt l
    have hb : b.toNat ≤ 1 := Bool.toNat_le b
    simp only [toN, List.length_cons, Nat.pow_succ]; omega
theorem toN_snoc (b : Bool) : ∀ l, toN (l ++ [b]) = toN l + 2 ^ l.length * b.toNat
  | [] => by simp [toN]
  | a :: l => by
    simp only [List.cons_append, toN, toN_snoc b l, List.length_cons, Nat.pow_succ]
    have : 2 ^ l.length * 2 * b.toNat = 2 * (2 ^ l.length * b.toNat) := by rw [Nat.mul_comm (2 ^ l.length) 2, Nat.mul_assoc]
    omega
theorem toN_bit : ∀ (l : List Bool) (i : Nat), (toN l).testBit i = l.getD i false
  | [], i => by simp [toN]
  | b :: l, 0 => by
    rw [Nat.testBit_zero]
    cases b <;> simp [toN]
  | b :: l, i + 1 => by
    have hb : b.toNat ≤ 1 := Bool.toNat_le b
    rw [Nat.testBit_succ]
    have : toN (b :: l) / 2 = toN l := by simp only [toN]; omega
    rw [this, toN_bit l i]; rfl
theorem toN_rep0 : ∀ n, toN (List.replicate n false) = 0
  | 0 => rfl
  | n + 1 => by simp [List.replicate_succ, toN, toN_rep0 n]
theorem toN_of {l : List Bool} {n : Nat} (h : ∀ i, n.testBit i = l.getD i false) : toN l = n := Nat.eq_of_testBit_eq fun i => by rw [toN_bit, h]
theorem toN_take (l : List Bool) (i : Nat) : toN (l.take i) = toN l % 2 ^ i := by
  refine toN_of fun j => ?_
  rw [Nat.testBit_mod_two_pow, toN_bit]
  by_cases h : j < i
  · simp [List.getD_eq_getElem?_getD, List.getElem?_take, h]
  · simp [List.getD_eq_getElem?_getD, List.getElem?_take, h]
theorem toN_not : ∀ l : List Bool, toN (l.map (!·)) + toN l + 1 = 2 ^ l.length
  | [] => rfl
  | b :: l => by
    have := toN_not l
    simp only [List.map_cons, toN, List.length_cons, Nat.pow_succ]
    cases b <;> simp only [Bool.not_true, Bool.not_false, Bool.toNat_true, Bool.toNat_false] <;> omega
theorem toN_zero {l : List Bool} : toN l = 0 ↔ ∀ b ∈ l, b = false := by
  induction l with
  | nil => simp [toN]
  | cons a l ih =>
    simp only [toN, List.mem_cons, forall_eq_or_imp, ← ih]
    cases a <;> simp only [Bool.toNat_true, Bool.toNat_false, reduceCtorEq, true_and, false_and, iff_false] <;> omega

/-! ### Literals, and what is known of them -/
structure Lits (W : Int → Prop) (V : Int → Bool) : Prop where
  w0 : W 0
  w1 : W 1
  v0 : V 0 = false
  v1 : V 1 = true
  wt : ∀ a, W a → W (turn a)
  vt : ∀ a, W a → V (turn a) = !V a
def Ws (W : Int → Prop) (l : List Int) : Prop := ∀ a ∈ l, W a
theorem gt_lt {l : List Int} {i : Nat} (h : i < l.length) : gt l i = l[i] := by simp [gt, List.getD_eq_getElem?_getD, h]
theorem gt_ge {l : List Int} {i : Nat} (h : l.length ≤ i) : gt l i = 0 := by simp [gt, List.getD_eq_getElem?_getD, h]
theorem gt_snoc_lt {l : List Int} {r : Int} {j : Nat} (h : j < l.length) : gt (l ++ [r]) j = gt l j := by
  rw [gt_lt (by simp; omega), gt_lt h, List.getElem_append_left h]
theorem gt_snoc_eq (l : List Int) (r : Int) : gt (l ++ [r]) l.length = r := by
  rw [gt_lt (by simp)]; simp
theorem take_snoc {l : List Int} {i : Nat} (h : i < l.length) : l.take (i + 1) = l.take i ++ [gt l i] := by
  rw [gt_lt h, List.take_add_one, List.getElem?_eq_getElem h]; rfl
section
variable {W : Int → Prop} {V : Int → Bool} (L : Lits W V)
include L
theorem gt_W {l : List Int} (h : Ws W l) (i : Nat) : W (gt l i) := by
  rcases Nat.lt_or_ge i l.length with q | q
  · rw [gt_lt q]; exact h _ (List.getElem_mem q)
  · rw [gt_ge q]; exact L.w0
theorem gt_V (l : List Int) (i : Nat) : (l.map V).getD i false = V (gt l i) := by
  rcases Nat.lt_or_ge i l.length with q | q
  · rw [gt_lt q]; simp [List.getD_eq_getElem?_getD, q]
  · rw [gt_ge q, L.v0]; simp [List.getD_eq_getElem?_getD, q]
theorem bit_V (l : List Int) (i : Nat) : (toN (l.map V)).testBit i = V (gt l i) := by rw [toN_bit, gt_V L]
omit L in
theorem ws_snoc {l : List Int} {r : Int} (h : Ws W l) (hr : W r) : Ws W (l ++ [r]) := fun a ha => by
  rcases List.mem_append.1 ha with h' | h'
  · exact h a h'
  · rw [List.mem_singleton] at h'; subst h'; exact hr
theorem ws_not {l : List Int} (h : Ws W l) : Ws W (notW l) := fun a ha => by
  obtain ⟨x, hx, rfl⟩ := List.mem_map.1 ha
  exact L.wt x (h x hx)
theorem bits_not {l : List Int} (h : Ws W l) : (notW l).map V = (l.map V).map (!·) := by
  unfold notW
  rw [List.map_map, List.map_map]
  exact List.map_congr_left fun x hx => L.vt x (h x hx)
theorem ws_rep (n : Nat) : Ws W (List.replicate n 0) := fun a ha => by rw [(List.mem_replicate.1 ha).2]; exact L.w0
theorem bits_rep (n : Nat) : (List.replicate n (0 : Int)).map V = List.replicate n false := by rw [List.map_replicate, L.v0]
theorem and_wp {x y : Int} (hx : W x) (hy : W y) : wpG W V (andP x y) (fun n r => n = 1 ∧ W r ∧ V r = (V x && V y)) := ⟨⟨hx, hy, L.w0⟩, fun _ h1 h2 => ⟨rfl, h1, h2⟩⟩
theorem or_wp {x y : Int} (hx : W x) (hy : W y) : wpG W V (orP x y) (fun n r => n = 1 ∧ W r ∧ V r = (V x || V y)) := ⟨⟨hx, hy, L.w0⟩, fun _ h1 h2 => ⟨rfl, h1, h2⟩⟩
theorem xor_wp {x y : Int} (hx : W x) (hy : W y) : wpG W V (xorP x y) (fun n r => n = 1 ∧ W r ∧ V r = (V x != V y)) := ⟨⟨hx, hy, L.w0⟩, fun _ h1 h2 => ⟨rfl, h1, h2⟩⟩
omit L in
theorem mux_wp {c x y : Int} (hc : W c) (hx : W x) (hy : W y) : wpG W V (muxP c x y) (fun n r => n = 1 ∧ W r ∧ V r = if V c then V x else V y) := ⟨⟨hc, hx, hy⟩, fun _ h1 h2 => ⟨rfl, h1, h2⟩⟩

omit L in
theorem wpG_iter {α : Type} {f : Nat → α → Pg α} {a : α} (I : Nat → Nat → α → Prop) (h0 : I 0 0 a) : ∀ N, (∀ i n x, i < N → I i n x → wpG W V (f i x) (fun m y => I (i + 1) (n + m) y)) → wpG W V (iter f a N) (I N)
  | 0, _ => h0
  | N + 1, h => wpG_bind (wpG_mono (wpG_iter I h0 N fun i n x hi => h i n x (by omega)) fun n x hx => h N n x (by omega) hx)
theorem zip_wp {f : Int → Int → Pg Int} {fb : Bool → Bool → Bool} (hf : ∀ p q, W p → W q → wpG W V (f p q) (fun n r => n = 1 ∧ W r ∧ V r = fb (V p) (V q))) {x y : List Int} (hx : Ws W x) (hy : Ws W y) (N : Nat) :
    wpG W V (zipP f x y N) (fun n out => n = N ∧ Ws W out ∧ out.length = N ∧ ∀ j, j < N → V (gt out j) = fb (V (gt x j)) (V (gt y j))) := by
  refine wpG_iter (fun i n (out : List Int) => n = i ∧ Ws W out ∧ out.length = i ∧ ∀ j, j < i → V (gt out j) = fb (V (gt x j)) (V (gt y j))) ⟨rfl, fun a ha => by simp at ha, rfl, fun j hj => by omega⟩ N fun i n out hi ⟨h1, h2, h3, h4⟩ => ?_
  refine wpG_bind (wpG_mono (hf _ _ (gt_W L hx i) (gt_W L hy i)) ?_)
  rintro m r ⟨rfl, hr, hv⟩
  refine ⟨by omega, ws_snoc h2 hr, by rw [List.length_append, h3]; rfl, fun j hj => ?_⟩
  rcases Nat.lt_or_ge j i with q | q
  · rw [gt_snoc_lt (by omega)]; exact h4 j q
  · have e : j = out.length := by omega
    subst e
    rw [gt_snoc_eq, hv, h3]
theorem fold_wp {f : Int → Int → Pg Int} {fb : Bool → Bool → Bool} (hf : ∀ p q, W p → W q → wpG W V (f p q) (fun n r => n = 1 ∧ W r ∧ V r = fb (V p) (V q))) {a : Int} {l : List Int} (ha : W a) (hl : Ws W l) :
    ∀ N, N ≤ l.length → wpG W V (foldP f a l N) (fun n r => n = N ∧ W r ∧ V r = ((l.take N).map V).foldl fb (V a)) := fun N hN => by
  refine wpG_iter (fun i n (r : Int) => n = i ∧ W r ∧ V r = ((l.take i).map V).foldl fb (V a)) ⟨rfl, ha, by simp⟩ N fun i n r hi ⟨h1, h2, h3⟩ => ?_
  refine wpG_mono (hf _ _ h2 (gt_W L hl i)) ?_
  rintro m r' ⟨rfl, hr, hv⟩
  refine ⟨by omega, hr, ?_⟩
  rw [take_snoc (by omega), List.map_append, List.foldl_append, hv, h3]; rfl
theorem full_wp {p q c : Int} (hp : W p) (hq : W q) (hc : W c) : wpG W V (fullP p q c) (fun n r => n = 5 ∧ W r.1 ∧ W r.2 ∧ (V r.1).toNat + 2 * (V r.2).toNat = (V p).toNat + (V q).toNat + (V c).toNat) := by
  refine ⟨⟨hp, hq, L.w0⟩, fun e he ve => ⟨⟨he, hc, L.w0⟩, fun s hs vs => ⟨⟨hp, hq, L.w0⟩, fun b hb vb => ⟨⟨he, hc, L.w0⟩, fun o ho vo => ⟨⟨hb, ho, L.w0⟩, fun k hk vk => ⟨rfl, hs, hk, ?_⟩⟩⟩⟩⟩⟩
  simp only [Op.ev] at ve vs vb vo vk
  rw [vs, vk, vb, vo, ve]
  cases V p <;> cases V q <;> cases V c <;> rfl
theorem sum_wp {x y : List Int} {c : Int} (hx : Ws W x) (hy : Ws W y) (hc : W c) (N : Nat) (h1 : N ≤ x.length) (h2 : N ≤ y.length) :
    wpG W V (sumP x y c N) (fun n r => n = 5 * N ∧ Ws W r.1 ∧ W r.2 ∧ r.1.length = N ∧ toN (r.1.map V) + 2 ^ N * (V r.2).toNat = toN ((x.take N).map V) + toN ((y.take N).map V) + (V c).toNat) := by
  refine wpG_iter (fun i n (r : List Int × Int) => n = 5 * i ∧ Ws W r.1 ∧ W r.2 ∧ r.1.length = i ∧ toN (r.1.map V) + 2 ^ i * (V r.2).toNat = toN ((x.take i).map V) + toN ((y.take i).map V) + (V c).toNat)
    ⟨rfl, fun a ha => by simp at ha, hc, rfl, by simp [toN]⟩ N fun i n r hi ⟨k1, k2, k3, k4, k5⟩ => ?_
  refine wpG_bind (wpG_mono (full_wp L (gt_W L hx i) (gt_W L hy i) k3) ?_)
  rintro m s ⟨rfl, m1, m2, m3⟩
  refine ⟨by omega, ws_snoc k2 m1, m2, by rw [List.length_append, k4]; rfl, ?_⟩
  simp only
  rw [take_snoc (by omega), take_snoc (l := y) (by omega), List.map_append, List.map_append, List.map_append]
  simp only [List.map_cons, List.map_nil]
  rw [toN_snoc, toN_snoc, toN_snoc, List.length_map, k4, List.length_map, List.length_map, List.length_take, List.length_take, Nat.min_eq_left (by omega), Nat.min_eq_left (by omega), Nat.pow_succ, Nat.mul_assoc]
  have h3 := congrArg (2 ^ i * ·) m3
  simp only [Nat.mul_add] at h3
  omega
theorem sumW_wp {x y : List Int} {c : Int} (hx : Ws W x) (hy : Ws W y) (hc : W c) (hl : y.length = x.length) :
    wpG W V (sumW x y c) (fun n r => n = 5 * x.length ∧ Ws W r.1 ∧ W r.2 ∧ r.1.length = x.length ∧ toN (r.1.map V) + 2 ^ x.length * (V r.2).toNat = toN (x.map V) + toN (y.map V) + (V c).toNat) := by
  refine wpG_mono (sum_wp L hx hy hc x.length (Nat.le_refl _) (by omega)) ?_
  rintro n r ⟨k1, k2, k3, k4, k5⟩
  rw [List.take_of_length_le (by omega), List.take_of_length_le (by omega)] at k5
  exact ⟨k1, k2, k3, k4, k5⟩
theorem row_wp {x : List Int} {bit : Int} (hx : Ws W x) (hb : W bit) (i N : Nat) (hN : N ≤ x.length) :
    wpG W V (rowP x bit i N) (fun n row => n = N ∧ Ws W row ∧ row.length = i + N ∧ toN (row.map V) = 2 ^ i * (toN ((x.take N).map V) * (V bit).toNat)) := by
  refine wpG_iter (fun j n (row : List Int) => n = j ∧ Ws W row ∧ row.length = i + j ∧ toN (row.map V) = 2 ^ i * (toN ((x.take j).map V) * (V bit).toNat))
    ⟨rfl, ws_rep L i, by simp, by rw [bits_rep L, toN_rep0]; simp [toN]⟩ N fun j n row hj ⟨k1, k2, k3, k4⟩ => ?_
  refine wpG_bind (wpG_mono (and_wp L (gt_W L hx j) hb) ?_)
  rintro m r ⟨rfl, m1, m2⟩
  refine ⟨by omega, ws_snoc k2 m1, by rw [List.length_append, k3]; simp only [List.length_cons, List.length_nil]; omega, ?_⟩
  rw [take_snoc (by omega), List.map_append, List.map_append]
  simp only [List.map_cons, List.map_nil]
  rw [toN_snoc, toN_snoc, List.length_map, List.length_map, k3, List.length_take, Nat.min_eq_left (by omega), k4, m2, Nat.pow_add]
  cases V bit <;> cases V (gt x j) <;> simp [Nat.mul_add]
theorem mul_wp {x y : List Int} (hx : Ws W x) (hy : Ws W y) : ∀ N, N ≤ y.length → N ≤ x.length →
    wpG W V (mulP x y N) (fun n out => n ≤ 6 * x.length * N ∧ Ws W out ∧ out.length = x.length ∧ toN (out.map V) = toN (x.map V) * toN ((y.take N).map V) % 2 ^ x.length) := fun N h1 h2 => by
  refine wpG_iter (fun i n (out : List Int) => n ≤ 6 * x.length * i ∧ Ws W out ∧ out.length = x.length ∧ toN (out.map V) = toN (x.map V) * toN ((y.take i).map V) % 2 ^ x.length)
    ⟨by simp, ws_rep L _, by simp, by rw [bits_rep L, toN_rep0]; simp [toN]⟩ N fun i n out hi ⟨k1, k2, k3, k4⟩ => ?_
  refine wpG_bind (wpG_mono (row_wp L hx (gt_W L hy i) i (x.length - i) (by omega)) ?_)
  rintro m row ⟨rfl, m1, m2, m3⟩
  refine wpG_bind (wpG_mono (sumW_wp L k2 m1 L.w0 (by omega)) ?_)
  rintro m' r ⟨rfl, q1, q2, q3, q4⟩
  refine ⟨?_, q1, by omega, ?_⟩
  · have e : 6 * x.length * (i + 1) = 6 * x.length * i + 6 * x.length := by rw [Nat.mul_add, Nat.mul_one]
    omega
  · have hlt := toN_lt (r.1.map V)
    rw [List.length_map, q3, k3] at hlt
    rw [k3, L.v0] at q4
    have e1 : toN (r.1.map V) = (toN (out.map V) + toN (row.map V)) % 2 ^ x.length := by
      have : toN (out.map V) + toN (row.map V) = toN (r.1.map V) + 2 ^ x.length * (V r.2).toNat := by simp only [Bool.toNat_false] at q4; omega
      rw [this, Nat.add_mul_mod_self_left, Nat.mod_eq_of_lt hlt]
    have e2 : toN (row.map V) % 2 ^ x.length = 2 ^ i * (toN (x.map V) * (V (gt y i)).toNat) % 2 ^ x.length := by
      have hp : 2 ^ x.length = 2 ^ i * 2 ^ (x.length - i) := by rw [← Nat.pow_add]; congr 1; omega
      rw [m3, List.map_take, toN_take]
      cases V (gt y i)
      · simp
      · simp only [Bool.toNat_true, Nat.mul_one]
        rw [hp, Nat.mul_mod_mul_left, Nat.mul_mod_mul_left, Nat.mod_mod]
    rw [e1, k4, Nat.add_mod, Nat.mod_mod, e2, ← Nat.add_mod, take_snoc (by omega), List.map_append]
    simp only [List.map_cons, List.map_nil]
    rw [toN_snoc, List.length_map, List.length_take, Nat.min_eq_left (by omega), Nat.mul_add]
    congr 2
    rw [← Nat.mul_assoc, ← Nat.mul_assoc, Nat.mul_comm (toN (x.map V)) (2 ^ i)]
theorem far_W {x : List Int} (hx : Ws W x) (k : Int) : W (far x k) := by
  unfold far; split
  · exact gt_W L hx _
  · exact L.w0
theorem shift1_wp {x : List Int} {bit : Int} (hx : Ws W x) (hb : W bit) (up : Bool) (i : Nat) (N : Nat) :
    wpG W V (shift1 x bit up i N) (fun n out => n = N ∧ Ws W out ∧ out.length = N ∧ ∀ j, j < N → V (gt out j) = if V bit then V (far x (farI up i j)) else V (gt x j)) := by
  refine wpG_iter (fun j n (out : List Int) => n = j ∧ Ws W out ∧ out.length = j ∧ ∀ k, k < j → V (gt out k) = if V bit then V (far x (farI up i k)) else V (gt x k)) ⟨rfl, fun a ha => by simp at ha, rfl, fun j hj => by omega⟩ N fun j n out hj ⟨h1, h2, h3, h4⟩ => ?_
  refine wpG_bind (wpG_mono (mux_wp hb (far_W L hx _) (gt_W L hx j)) ?_)
  rintro m r ⟨rfl, hr, hv⟩
  refine ⟨by omega, ws_snoc h2 hr, by rw [List.length_append, h3]; rfl, fun k hk => ?_⟩
  rcases Nat.lt_or_ge k j with q | q
  · rw [gt_snoc_lt (by omega)]; exact h4 k q
  · have e : k = out.length := by omega
    subst e
    rw [gt_snoc_eq, hv, h3]
theorem far_up {x : List Int} {i j : Nat} : V (far x (farI true i j)) = (decide (2 ^ (min i 8) ≤ j) && (toN (x.map V)).testBit (j - 2 ^ (min i 8))) ∨ x.length ≤ j := by
  rcases Nat.lt_or_ge j x.length with q | q
  · refine .inl ?_
    obtain ⟨f, hf⟩ : ∃ f, 2 ^ (min i 8) = f := ⟨_, rfl⟩
    have hf' : (2 : Int) ^ (min i 8) = (f : Int) := by rw [← hf]; simp
    unfold far farI
    simp only [↓reduceIte]
    rw [hf, hf', bit_V L]
    by_cases h : f ≤ j
    · have e : ((j : Int) - f).toNat = j - f := by omega
      rw [if_pos (by omega), e]; simp [h]
    · rw [if_neg (by omega), L.v0]; simp [h]
  · exact .inr q
theorem far_down {x : List Int} {i j : Nat} : V (far x (farI false i j)) = (toN (x.map V)).testBit (j + 2 ^ (min i 8)) := by
  obtain ⟨f, hf⟩ : ∃ f, 2 ^ (min i 8) = f := ⟨_, rfl⟩
  have hf' : (2 : Int) ^ (min i 8) = (f : Int) := by rw [← hf]; simp
  unfold far farI
  simp only [Bool.false_eq_true, ↓reduceIte]
  rw [hf, hf', bit_V L]
  by_cases h : j + f < x.length
  · have e : ((j : Int) + f).toNat = j + f := by omega
    rw [if_pos (by omega), e]
  · rw [if_neg (by omega), L.v0, gt_ge (by omega), L.v0]
theorem shift1_num {x out : List Int} {bit : Int} {up : Bool} {i : Nat} (hl : out.length = x.length) (hx64 : x.length ≤ 64) (h : ∀ j, j < x.length → V (gt out j) = if V bit then V (far x (farI up i j)) else V (gt x j)) :
    toN (out.map V) = if V bit then (if up then toN (x.map V) * 2 ^ (2 ^ i) % 2 ^ x.length else toN (x.map V) / 2 ^ (2 ^ i)) else toN (x.map V) := by
  have hxlt := toN_lt (x.map V)
  rw [List.length_map] at hxlt
  -- so far, or out of sight
  have hmin : 2 ^ (min i 8) = 2 ^ i ∨ (x.length ≤ 2 ^ (min i 8) ∧ x.length ≤ 2 ^ i) := by
    rcases Nat.lt_or_ge i 8 with q | q
    · exact .inl (by rw [Nat.min_eq_left (by omega)])
    · refine .inr ⟨?_, ?_⟩
      · rw [Nat.min_eq_right (by omega)]; omega
      · have := Nat.pow_le_pow_right (n := 2) (by omega) q; omega
  refine toN_of fun j => ?_
  rw [gt_V L]
  rcases Nat.lt_or_ge j x.length with q | q
  · rw [h j q]
    cases hb : V bit
    · simp only [Bool.false_eq_true, ↓reduceIte]; rw [bit_V L]
    · simp only [↓reduceIte]
      cases up
      · simp only [Bool.false_eq_true, ↓reduceIte]
        rw [far_down L, Nat.testBit_div_two_pow]
        rcases hmin with e | ⟨e1, e2⟩
        · rw [e]
        · rw [bit_V L, bit_V L, gt_ge (by omega), gt_ge (by omega)]
      · simp only [↓reduceIte]
        have := (far_up L (x := x) (i := i) (j := j)).resolve_right (by omega)
        rw [this, Nat.testBit_mod_two_pow, Nat.testBit_mul_two_pow]
        rcases hmin with e | ⟨e1, e2⟩
        · rw [e]; simp [q]
        · have n1 : ¬ 2 ^ (min i 8) ≤ j := by omega
          have n2 : ¬ 2 ^ i ≤ j := by omega
          simp [n1, n2]
  · rw [gt_ge (by omega), L.v0]
    have hlt : ∀ n, n < 2 ^ x.length → n.testBit j = false := fun n hn => Nat.testBit_lt_two_pow (Nat.lt_of_lt_of_le hn (Nat.pow_le_pow_right (by omega) q))
    refine hlt _ ?_
    split
    · split
      · exact Nat.mod_lt _ (Nat.two_pow_pos _)
      · exact Nat.lt_of_le_of_lt (Nat.div_le_self _ _) hxlt
    · exact hxlt
theorem shift_wp {x y : List Int} (hx : Ws W x) (hy : Ws W y) (up : Bool) (hx64 : x.length ≤ 64) (N : Nat) (hN : N ≤ y.length) :
    wpG W V (shiftP x y up N) (fun n out => n = x.length * N ∧ Ws W out ∧ out.length = x.length ∧
      toN (out.map V) = if up then toN (x.map V) * 2 ^ toN ((y.take N).map V) % 2 ^ x.length else toN (x.map V) / 2 ^ toN ((y.take N).map V)) := by
  have hxlt := toN_lt (x.map V)
  rw [List.length_map] at hxlt
  refine wpG_iter (fun i n (out : List Int) => n = x.length * i ∧ Ws W out ∧ out.length = x.length ∧
      toN (out.map V) = if up then toN (x.map V) * 2 ^ toN ((y.take i).map V) % 2 ^ x.length else toN (x.map V) / 2 ^ toN ((y.take i).map V))
    ⟨by simp, hx, rfl, by cases up <;> simp [toN, Nat.mod_eq_of_lt hxlt]⟩ N fun i n out hi ⟨k1, k2, k3, k4⟩ => ?_
  refine wpG_mono (shift1_wp L k2 (gt_W L hy i) up i out.length) ?_
  rintro m out' ⟨rfl, m1, m2, m3⟩
  refine ⟨by rw [k1, k3, Nat.mul_add, Nat.mul_one], m1, by omega, ?_⟩
  rw [shift1_num L m2 (by omega) m3, take_snoc (by omega), List.map_append]
  simp only [List.map_cons, List.map_nil]
  rw [toN_snoc, List.length_map, List.length_take, Nat.min_eq_left (by omega), k3, k4, Nat.pow_add]
  cases V (gt y i)
  · simp
  · simp only [↓reduceIte, Bool.toNat_true, Nat.mul_one]
    cases up
    · simp only [Bool.false_eq_true, ↓reduceIte]
      rw [Nat.div_div_eq_div_mul]
    · simp only [↓reduceIte]
      rw [Nat.mod_mul_mod, Nat.mul_assoc]
end
end Fil.Bl

