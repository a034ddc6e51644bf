/- blast: contracts: the document's operations of values. -/
import Derived.Test.YtbbihmmobfmadaaMBlaAigD
set_option linter.unusedSimpArgs false
set_option linter.unusedVariables false
namespace Go.Proofs.Ytbbihmmobfmadaa.A
open Abs Fil
theorem ref_Same (g h : Aig) (σ : Sig) (l1 : g.flops.length ≤ 1000000) (l2 : g.ands.length ≤ 1000000) (l3 : g.outs.length ≤ 1000000) :
    ACalls Try.prog 16 [encAig g, encAig h] σ (fun r σ' => r = .ret (.bool (decide (g = h))) ∧ σ' = σ) := by
  refine calls_x mixed Try.func16 b16 n16 rfl q16 (by simp) ?_; unfold c16 r16
  have ne1 : g.ins ≠ h.ins → decide (g = h) = false := fun hn => by simp; intro e; exact hn (by rw [e])
  have ne2 : g.flops ≠ h.flops → decide (g = h) = false := fun hn => by simp; intro e; exact hn (by rw [e])
  have ne3 : g.ands ≠ h.ands → decide (g = h) = false := fun hn => by simp; intro e; exact hn (by rw [e])
  have ne4 : g.outs ≠ h.outs → decide (g = h) = false := fun hn => by simp; intro e; exact hn (by rw [e])
  by_cases hi : g.ins = h.ins
  · by_cases h1 : g.flops.length = h.flops.length
    · by_cases h2 : g.ands.length = h.ands.length
      · by_cases h3 : g.outs.length = h.outs.length
        · have b0 : (h.ins != h.ins) = false := by simp
          repeat' (first | simp (maxDischargeDepth := 9) -implicitDefEqProofs -dsimp only [go_sem, seval, *] | simp (disch := omega) only [wrap64] | (with_reducible (first | apply Zn | apply Zo) <;> intro hq) | ((with_reducible refine Zu ?_ ?_); focus omega))
          have h1' := And.intro (Nat.le_of_eq h1) (Nat.le_of_eq h1.symm)
          have h2' := And.intro (Nat.le_of_eq h2) (Nat.le_of_eq h2.symm)
          have h3' := And.intro (Nat.le_of_eq h3) (Nat.le_of_eq h3.symm)
          clear h1 h2 h3
          refine loop_rule (fun i : Nat => [(5, some (.int .i64 i)), (2, some (.cptr (aigL g))), (3, some (.cptr (aigL h)))]) (fun _ => σ) (fun i => i ≤ g.flops.length ∧ ∀ j, (hj : j < g.flops.length) → j < i → g.flops[j] = h.flops[j]) (fun i => g.flops.length - i) 0 ?_ ?_
          · (repeat' (first | simp (maxDischargeDepth := 9) -implicitDefEqProofs -dsimp only [go_sem, seval, *] | simp (disch := omega) only [wrap64])) <;> (repeat' refine And.intro ?_ ?_) <;> (first | omega | rfl | assumption | skip)
          · rintro i ⟨hi', hok1⟩
            by_cases hlt : i < g.flops.length
            · have hlt' : i < h.flops.length := by omega
              obtain ⟨x, hx⟩ : ∃ x, g.flops[i] = x := ⟨_, rfl⟩
              obtain ⟨y, hy⟩ : ∃ y, h.flops[i] = y := ⟨_, rfl⟩
              by_cases he : x = y
              · clear ne1 ne2 ne3 ne4
                subst he
                repeat' (first | simp (maxDischargeDepth := 9) -implicitDefEqProofs -dsimp only [go_sem, seval, *] | simp (disch := omega) only [wrap64] | (with_reducible (first | apply Zn | apply Zo) <;> intro hq) | ((with_reducible refine Zu ?_ ?_); focus omega))
                refine loop_next _ _ _ _ (i + 1) ?_; (repeat' (first | simp (maxDischargeDepth := 9) -implicitDefEqProofs -dsimp only [go_sem, seval, *] | simp (disch := omega) only [wrap64])) <;> (repeat' refine And.intro ?_ ?_) <;> (first | omega | rfl | assumption | skip)
                intro j hj hji
                rcases Nat.lt_or_ge j i with h' | h'
                · exact hok1 j hj h'
                · obtain rfl : j = i := by omega
                  rw [hx, hy]
              · have hv := ne2 (fun e => he (by rw [← hx, ← hy]; simp only [e]))
                have hb : ((x.next == y.next) && (x.init == y.init)) = false := by
                  cases x; cases y; simp at he ⊢; exact he
                clear ne1 ne2 ne3 ne4
                repeat' (first | simp (maxDischargeDepth := 9) -implicitDefEqProofs -dsimp only [go_sem, seval, *] | simp (disch := omega) only [wrap64] | (with_reducible (first | apply Zn | apply Zo) <;> intro hq) | ((with_reducible refine Zu ?_ ?_); focus omega))
                refine fin_eq ?_
                (repeat' (first | simp (maxDischargeDepth := 9) -implicitDefEqProofs -dsimp only [go_sem, seval, *] | simp (disch := omega) only [wrap64])) <;> (repeat' refine And.intro ?_ ?_) <;> (first | omega | rfl | assumption | skip)
            · repeat' (first | simp (maxDischargeDepth := 9) -implicitDefEqProofs -dsimp only [go_sem, seval, *] | simp (disch := omega) only [wrap64] | (with_reducible (first | apply Zn | apply Zo) <;> intro hq) | ((with_reducible refine Zu ?_ ?_); focus omega))
              refine loop_rule (fun i : Nat => [(6, some (.int .i64 i)), (2, some (.cptr (aigL g))), (3, some (.cptr (aigL h)))]) (fun _ => σ) (fun i => i ≤ g.ands.length ∧ ∀ j, (hj : j < g.ands.length) → j < i → g.ands[j] = h.ands[j]) (fun i => g.ands.length - i) 0 ?_ ?_
              · (repeat' (first | simp (maxDischargeDepth := 9) -implicitDefEqProofs -dsimp only [go_sem, seval, *] | simp (disch := omega) only [wrap64])) <;> (repeat' refine And.intro ?_ ?_) <;> (first | omega | rfl | assumption | skip)
              · rintro k ⟨hk', hok2⟩
                by_cases hlt2 : k < g.ands.length
                · have hlt' : k < h.ands.length := by omega
                  obtain ⟨x, hx⟩ : ∃ x, g.ands[k] = x := ⟨_, rfl⟩
                  obtain ⟨y, hy⟩ : ∃ y, h.ands[k] = y := ⟨_, rfl⟩
                  by_cases he : x = y
                  · clear ne1 ne2 ne3 ne4
                    subst he
                    repeat' (first | simp (maxDischargeDepth := 9) -implicitDefEqProofs -dsimp only [go_sem, seval, *] | simp (disch := omega) only [wrap64] | (with_reducible (first | apply Zn | apply Zo) <;> intro hq) | ((with_reducible refine Zu ?_ ?_); focus omega))
                    refine loop_next _ _ _ _ (k + 1) ?_; (repeat' (first | simp (maxDischargeDepth := 9) -implicitDefEqProofs -dsimp only [go_sem, seval, *] | simp (disch := omega) only [wrap64])) <;> (repeat' refine And.intro ?_ ?_) <;> (first | omega | rfl | assumption | skip)
                    intro j hj hji
                    rcases Nat.lt_or_ge j k with h' | h'
                    · exact hok2 j hj h'
                    · obtain rfl : j = k := by omega
                      rw [hx, hy]
                  · have hv := ne3 (fun e => he (by rw [← hx, ← hy]; simp only [e]))
                    have hb : ((x.1 == y.1) && (x.2 == y.2)) = false := by
                      cases x; cases y; simp at he ⊢; exact he
                    clear ne1 ne2 ne3 ne4
                    repeat' (first | simp (maxDischargeDepth := 9) -implicitDefEqProofs -dsimp only [go_sem, seval, *] | simp (disch := omega) only [wrap64] | (with_reducible (first | apply Zn | apply Zo) <;> intro hq) | ((with_reducible refine Zu ?_ ?_); focus omega))
                    refine fin_eq ?_
                    (repeat' (first | simp (maxDischargeDepth := 9) -implicitDefEqProofs -dsimp only [go_sem, seval, *] | simp (disch := omega) only [wrap64])) <;> (repeat' refine And.intro ?_ ?_) <;> (first | omega | rfl | assumption | skip)
                · repeat' (first | simp (maxDischargeDepth := 9) -implicitDefEqProofs -dsimp only [go_sem, seval, *] | simp (disch := omega) only [wrap64] | (with_reducible (first | apply Zn | apply Zo) <;> intro hq) | ((with_reducible refine Zu ?_ ?_); focus omega))
                  refine loop_rule (fun i : Nat => [(7, some (.int .i64 i)), (2, some (.cptr (aigL g))), (3, some (.cptr (aigL h)))]) (fun _ => σ) (fun i => i ≤ g.outs.length ∧ ∀ j, (hj : j < g.outs.length) → j < i → g.outs[j] = h.outs[j]) (fun i => g.outs.length - i) 0 ?_ ?_
                  · (repeat' (first | simp (maxDischargeDepth := 9) -implicitDefEqProofs -dsimp only [go_sem, seval, *] | simp (disch := omega) only [wrap64])) <;> (repeat' refine And.intro ?_ ?_) <;> (first | omega | rfl | assumption | skip)
                  · rintro m ⟨hm', hok3⟩
                    by_cases hlt3 : m < g.outs.length
                    · have hlt' : m < h.outs.length := by omega
                      obtain ⟨x, hx⟩ : ∃ x, g.outs[m] = x := ⟨_, rfl⟩
                      obtain ⟨y, hy⟩ : ∃ y, h.outs[m] = y := ⟨_, rfl⟩
                      by_cases he : x = y
                      · clear ne1 ne2 ne3 ne4
                        subst he
                        repeat' (first | simp (maxDischargeDepth := 9) -implicitDefEqProofs -dsimp only [go_sem, seval, *] | simp (disch := omega) only [wrap64] | (with_reducible (first | apply Zn | apply Zo) <;> intro hq) | ((with_reducible refine Zu ?_ ?_); focus omega))
                        refine loop_next _ _ _ _ (m + 1) ?_; (repeat' (first | simp (maxDischargeDepth := 9) -implicitDefEqProofs -dsimp only [go_sem, seval, *] | simp (disch := omega) only [wrap64])) <;> (repeat' refine And.intro ?_ ?_) <;> (first | omega | rfl | assumption | skip)
                        intro j hj hji
                        rcases Nat.lt_or_ge j m with h' | h'
                        · exact hok3 j hj h'
                        · obtain rfl : j = m := by omega
                          rw [hx, hy]
                      · have hv := ne4 (fun e => he (by rw [← hx, ← hy]; simp only [e]))
                        have hb : (x != y) = true := by simpa using he
                        clear ne1 ne2 ne3 ne4
                        repeat' (first | simp (maxDischargeDepth := 9) -implicitDefEqProofs -dsimp only [go_sem, seval, *] | simp (disch := omega) only [wrap64] | (with_reducible (first | apply Zn | apply Zo) <;> intro hq) | ((with_reducible refine Zu ?_ ?_); focus omega))
                        refine fin_eq ?_
                        (repeat' (first | simp (maxDischargeDepth := 9) -implicitDefEqProofs -dsimp only [go_sem, seval, *] | simp (disch := omega) only [wrap64])) <;> (repeat' refine And.intro ?_ ?_) <;> (first | omega | rfl | assumption | skip)
                    · have hv : decide (g = h) = true := by
                        have q1 : g.flops = h.flops := List.ext_getElem (by omega) fun j hj _ => hok1 j hj (by omega)
                        have q2 : g.ands = h.ands := List.ext_getElem (by omega) fun j hj _ => hok2 j hj (by omega)
                        have q3 : g.outs = h.outs := List.ext_getElem (by omega) fun j hj _ => hok3 j hj (by omega)
                        cases g; cases h; simp_all
                      clear ne1 ne2 ne3 ne4
                      repeat' (first | simp (maxDischargeDepth := 9) -implicitDefEqProofs -dsimp only [go_sem, seval, *] | simp (disch := omega) only [wrap64] | (with_reducible (first | apply Zn | apply Zo) <;> intro hq) | ((with_reducible refine Zu ?_ ?_); focus omega))
                      refine fin_eq ?_
                      (repeat' (first | simp (maxDischargeDepth := 9) -implicitDefEqProofs -dsimp only [go_sem, seval, *] | simp (disch := omega) only [wrap64])) <;> (repeat' refine And.intro ?_ ?_) <;> (first | omega | rfl | assumption | skip)
        · have hv := ne4 (fun e => h3 (by rw [e]))
          clear ne1 ne2 ne3 ne4
          repeat' (first | simp (maxDischargeDepth := 9) -implicitDefEqProofs -dsimp only [go_sem, seval, *] | simp (disch := omega) only [wrap64] | (with_reducible (first | apply Zn | apply Zo) <;> intro hq) | ((with_reducible refine Zu ?_ ?_); focus omega))
          all_goals first | (exfalso; omega) | (refine fin_eq ?_; (repeat' (first | simp (maxDischargeDepth := 9) -implicitDefEqProofs -dsimp only [go_sem, seval, *] | simp (disch := omega) only [wrap64])) <;> (repeat' refine And.intro ?_ ?_) <;> (first | omega | rfl | assumption | skip))
      · have hv := ne3 (fun e => h2 (by rw [e]))
        clear ne1 ne2 ne3 ne4
        repeat' (first | simp (maxDischargeDepth := 9) -implicitDefEqProofs -dsimp only [go_sem, seval, *] | simp (disch := omega) only [wrap64] | (with_reducible (first | apply Zn | apply Zo) <;> intro hq) | ((with_reducible refine Zu ?_ ?_); focus omega))
        all_goals first | (exfalso; omega) | (refine fin_eq ?_; (repeat' (first | simp (maxDischargeDepth := 9) -implicitDefEqProofs -dsimp only [go_sem, seval, *] | simp (disch := omega) only [wrap64])) <;> (repeat' refine And.intro ?_ ?_) <;> (first | omega | rfl | assumption | skip))
    · have hv := ne2 (fun e => h1 (by rw [e]))
      clear ne1 ne2 ne3 ne4
      repeat' (first | simp (maxDischargeDepth := 9) -implicitDefEqProofs -dsimp only [go_sem, seval, *] | simp (disch := omega) only [wrap64] | (with_reducible (first | apply Zn | apply Zo) <;> intro hq) | ((with_reducible refine Zu ?_ ?_); focus omega))
      all_goals first | (exfalso; omega) | (refine fin_eq ?_; (repeat' (first | simp (maxDischargeDepth := 9) -implicitDefEqProofs -dsimp only [go_sem, seval, *] | simp (disch := omega) only [wrap64])) <;> (repeat' refine And.intro ?_ ?_) <;> (first | omega | rfl | assumption | skip))
  · have hv := ne1 hi
    clear ne1 ne2 ne3 ne4
    repeat' (first | simp (maxDischargeDepth := 9) -implicitDefEqProofs -dsimp only [go_sem, seval, *] | simp (disch := omega) only [wrap64] | (with_reducible (first | apply Zn | apply Zo) <;> intro hq) | ((with_reducible refine Zu ?_ ?_); focus omega))
    all_goals first | (exfalso; omega) | (refine fin_eq ?_; (repeat' (first | simp (maxDischargeDepth := 9) -implicitDefEqProofs -dsimp only [go_sem, seval, *] | simp (disch := omega) only [wrap64])) <;> (repeat' refine And.intro ?_ ?_) <;> (first | omega | rfl | assumption | skip))
end Go.Proofs.Ytbbihmmobfmadaa.A

namespace Go.Proofs.Ytbbihmmobfmadaa.A
open Abs Fil
theorem ref_Ints (a b : List Int) (σ : Sig) (ha : a.length ≤ 1000000000) :
    ACalls Try.prog 17 [.slice (a.map encInt) .no, .slice (b.map encInt) .no] σ (fun r σ' => r = .ret (.bool (decide (a = b))) ∧ σ' = σ) := by
  refine calls_x mixed Try.func17 b17 n17 rfl q17 (by simp) ?_; unfold c17 r17
  by_cases hl : a.length = b.length
  · repeat' (first | simp (maxDischargeDepth := 9) -implicitDefEqProofs -dsimp only [go_sem, seval, *] | simp (disch := omega) only [wrap64] | ((with_reducible refine Zu ?_ ?_); focus omega))
    have hl' := And.intro (Nat.le_of_eq hl) (Nat.le_of_eq hl.symm)
    clear hl
    refine loop_rule (fun i : Nat => [(0, some (.slice (a.map encInt) .no)), (1, some (.slice (b.map encInt) .no)), (5, some (.int .i64 i))]) (fun _ => σ) (fun i => i ≤ a.length ∧ ∀ j, (hj : j < a.length) → j < i → a[j] = b[j]) (fun i => a.length - i) 0 ?_ ?_
    · (repeat' (first | simp (maxDischargeDepth := 9) -implicitDefEqProofs -dsimp only [go_sem, seval, *] | simp (disch := omega) only [wrap64])) <;> (repeat' refine And.intro ?_ ?_) <;> (first | omega | rfl | assumption | skip)
    · rintro i ⟨hi, hok⟩
      by_cases hlt : i < a.length
      · have hlt' : i < b.length := by omega
        obtain ⟨x, hx⟩ : ∃ x, a[i] = x := ⟨_, rfl⟩
        obtain ⟨y, hy⟩ : ∃ y, b[i] = y := ⟨_, rfl⟩
        by_cases he : x = y
        · subst he
          repeat' (first | simp (maxDischargeDepth := 9) -implicitDefEqProofs -dsimp only [go_sem, seval, *] | simp (disch := omega) only [wrap64] | ((with_reducible refine Zu ?_ ?_); focus omega))
          refine loop_next _ _ _ _ (i + 1) ?_; (repeat' (first | simp (maxDischargeDepth := 9) -implicitDefEqProofs -dsimp only [go_sem, seval, *] | simp (disch := omega) only [wrap64])) <;> (repeat' refine And.intro ?_ ?_) <;> (first | omega | rfl | assumption | skip)
          intro j hj hji
          rcases Nat.lt_or_ge j i with h' | h'
          · exact hok j hj h'
          · obtain rfl : j = i := by omega
            rw [hx, hy]
        · have hv : decide (a = b) = false := by simp; intro e; exact he (by rw [← hx, ← hy]; simp only [e])
          have hb : (x != y) = true := by simpa using he
          repeat' (first | simp (maxDischargeDepth := 9) -implicitDefEqProofs -dsimp only [go_sem, seval, *] | simp (disch := omega) only [wrap64] | ((with_reducible refine Zu ?_ ?_); focus omega))
          refine fin_eq ?_
          (repeat' (first | simp (maxDischargeDepth := 9) -implicitDefEqProofs -dsimp only [go_sem, seval, *] | simp (disch := omega) only [wrap64])) <;> (repeat' refine And.intro ?_ ?_) <;> (first | omega | rfl | assumption | skip)
      · have hv : decide (a = b) = true := by simp; exact List.ext_getElem (by omega) fun j hj _ => hok j hj (by omega)
        repeat' (first | simp (maxDischargeDepth := 9) -implicitDefEqProofs -dsimp only [go_sem, seval, *] | simp (disch := omega) only [wrap64] | ((with_reducible refine Zu ?_ ?_); focus omega))
        refine fin_eq ?_
        (repeat' (first | simp (maxDischargeDepth := 9) -implicitDefEqProofs -dsimp only [go_sem, seval, *] | simp (disch := omega) only [wrap64])) <;> (repeat' refine And.intro ?_ ?_) <;> (first | omega | rfl | assumption | skip)
  · have hb : ((a.length : Int) != b.length) = true := by simp; omega
    have hv : decide (a = b) = false := by simp; intro e; exact hl (by rw [e])
    repeat' (first | simp (maxDischargeDepth := 9) -implicitDefEqProofs -dsimp only [go_sem, seval, *] | simp (disch := omega) only [wrap64] | ((with_reducible refine Zu ?_ ?_); focus omega))
    refine fin_eq ?_
    (repeat' (first | simp (maxDischargeDepth := 9) -implicitDefEqProofs -dsimp only [go_sem, seval, *] | simp (disch := omega) only [wrap64])) <;> (repeat' refine And.intro ?_ ?_) <;> (first | omega | rfl | assumption | skip)
end Go.Proofs.Ytbbihmmobfmadaa.A

namespace Fil
open Abs
def Res (g : Aig) (n : Nat) (l : List Int) (r : Aig × Int × Int) : Prop :=
  (r.2.2 = 0 ∧ g.check = 0 ∧ (∀ a ∈ l, g.lit a = true) ∧ Fine r.1 ∧ Ext g r.1 ∧ r.1.lit r.2.1 = true ∧ r.1.ands.length ≤ g.ands.length + n) ∨ (r.2.2 ≠ 0 ∧ r.1 = ⟨0, [], [], []⟩ ∧ r.2.1 = 0)
theorem andO_len {g g' : Aig} {p q x : Int} (h : g.andO p q = some (g', x)) : g'.ands.length ≤ g.ands.length + 1 := by
  unfold Aig.andO at h
  simp only at h
  split at h
  · simp at h; obtain ⟨rfl, _⟩ := h; omega
  · split at h
    · simp at h; obtain ⟨rfl, _⟩ := h; omega
    · split at h
      · simp at h; obtain ⟨rfl, _⟩ := h; omega
      · split at h
        · simp at h
        · simp at h; obtain ⟨rfl, _⟩ := h; simp
theorem andW_len (g : Aig) (e p q : Int) : (g.andW e p q).1.ands.length ≤ g.ands.length + 1 := by
  unfold Aig.andW
  split
  · simp
  · cases h : g.andO p q with
    | none => simp
    | some r => exact andO_len h
theorem orW_ok {g : Aig} {e p q : Int} (hf : e = 0 → Fine g ∧ g.lit p = true ∧ g.lit q = true) :
    ((g.orW e p q).2.1 = 0 → Fine (g.orW e p q).1 ∧ (g.orW e p q).1.lit (g.orW e p q).2.2 = true) ∧ Ext g (g.orW e p q).1 := by
  obtain ⟨h1, h2, _⟩ := andW_ok (g := g) (e := e) (p := turn p) (q := turn q) fun h => ⟨(hf h).1, turn_lit (hf h).2.1, turn_lit (hf h).2.2⟩
  exact ⟨fun h => ⟨(h1 h).1, turn_lit (h1 h).2⟩, h2⟩
theorem pairsW_ok {g : Aig} {e a b c d : Int} (hf : e = 0 → Fine g ∧ g.lit a = true ∧ g.lit b = true ∧ g.lit c = true ∧ g.lit d = true) :
    ((g.pairs e a b c d).2.1 = 0 → e = 0 ∧ Fine (g.pairs e a b c d).1 ∧ (g.pairs e a b c d).1.lit (g.pairs e a b c d).2.2 = true) ∧ Ext g (g.pairs e a b c d).1 ∧ (g.pairs e a b c d).1.ands.length ≤ g.ands.length + 3 := by
  obtain ⟨h1, h2, _⟩ := andW_ok (g := g) (e := e) (p := a) (q := b) fun h => ⟨(hf h).1, (hf h).2.1, (hf h).2.2.1⟩
  obtain ⟨k1, k2, _⟩ := andW_ok (g := (g.andW e a b).1) (e := (g.andW e a b).2.1) (p := c) (q := d) fun h => by
    obtain ⟨_, _, _, hc, hd⟩ := hf (andW_err h)
    exact ⟨(h1 h).1, h2.lit hc, h2.lit hd⟩
  obtain ⟨m1, m2⟩ := orW_ok (g := ((g.andW e a b).1.andW (g.andW e a b).2.1 c d).1) (e := ((g.andW e a b).1.andW (g.andW e a b).2.1 c d).2.1) (p := (g.andW e a b).2.2) (q := ((g.andW e a b).1.andW (g.andW e a b).2.1 c d).2.2) fun h =>
    ⟨(k1 h).1, k2.lit (h1 (andW_err h)).2, (k1 h).2⟩
  have l1 := andW_len g e a b
  have l2 := andW_len (g.andW e a b).1 (g.andW e a b).2.1 c d
  have l3 := andW_len ((g.andW e a b).1.andW (g.andW e a b).2.1 c d).1 ((g.andW e a b).1.andW (g.andW e a b).2.1 c d).2.1 (turn (g.andW e a b).2.2) (turn ((g.andW e a b).1.andW (g.andW e a b).2.1 c d).2.2)
  exact ⟨fun h => ⟨andW_err (andW_err (andW_err h)), m1 h⟩, (h2.trans k2).trans m2, by
    show ((_ : Aig).andW _ _ _).1.ands.length ≤ _
    omega⟩
theorem and_res {g : Aig} (hs : Wf g) (a b : Int) : Res g 1 [a, b] (g.And a b) := by
  unfold Aig.And
  have hk : g.checkL g.check [a, b] = 0 → Fine g ∧ g.lit a = true ∧ g.lit b = true := fun h => by
    obtain ⟨h1, h2⟩ := checkL_fine hs h
    exact ⟨h1, h2 _ (by simp), h2 _ (by simp)⟩
  have ok := andW_ok hk
  by_cases h : (g.andW (g.checkL g.check [a, b]) a b).2.1 = 0
  · left
    rw [endW_ok h]
    have h0 := andW_err h
    obtain ⟨k1, k2⟩ := hk h0
    exact ⟨rfl, (checkL_zero.1 h0).1, (checkL_zero.1 h0).2, (ok.1 h).1, ok.2.1, (ok.1 h).2, andW_len _ _ _ _⟩
  · right
    rw [endW_err h]
    exact ⟨h, rfl, rfl⟩
theorem or_res {g : Aig} (hs : Wf g) (a b : Int) : Res g 1 [a, b] (g.Or a b) := by
  unfold Aig.Or
  have hk : g.checkL g.check [a, b] = 0 → Fine g ∧ g.lit a = true ∧ g.lit b = true := fun h => by
    obtain ⟨h1, h2⟩ := checkL_fine hs h
    exact ⟨h1, h2 _ (by simp), h2 _ (by simp)⟩
  have ok := orW_ok hk
  by_cases h : (g.orW (g.checkL g.check [a, b]) a b).2.1 = 0
  · left
    rw [endW_ok h]
    have h0 : g.checkL g.check [a, b] = 0 := andW_err h
    exact ⟨rfl, (checkL_zero.1 h0).1, (checkL_zero.1 h0).2, (ok.1 h).1, ok.2, (ok.1 h).2, andW_len _ _ _ _⟩
  · right
    rw [endW_err h]
    exact ⟨h, rfl, rfl⟩
theorem xor_res {g : Aig} (hs : Wf g) (a b : Int) : Res g 3 [a, b] (g.Xor a b) := by
  unfold Aig.Xor
  have ok := pairsW_ok (g := g) (e := g.checkL g.check [a, b]) (a := a) (b := turn b) (c := turn a) (d := b) fun h => by
    obtain ⟨h1, h2⟩ := checkL_fine hs h
    exact ⟨h1, h2 _ (by simp), turn_lit (h2 _ (by simp)), turn_lit (h2 _ (by simp)), h2 _ (by simp)⟩
  by_cases h : (g.pairs (g.checkL g.check [a, b]) a (turn b) (turn a) b).2.1 = 0
  · left
    rw [endW_ok h]
    obtain ⟨h0, k1, k2⟩ := ok.1 h
    exact ⟨rfl, (checkL_zero.1 h0).1, (checkL_zero.1 h0).2, k1, ok.2.1, k2, ok.2.2⟩
  · right
    rw [endW_err h]
    exact ⟨h, rfl, rfl⟩
theorem mux_res {g : Aig} (hs : Wf g) (c a b : Int) : Res g 3 [c, a, b] (g.Mux c a b) := by
  unfold Aig.Mux
  have ok := pairsW_ok (g := g) (e := g.checkL g.check [c, a, b]) (a := c) (b := a) (c := turn c) (d := b) fun h => by
    obtain ⟨h1, h2⟩ := checkL_fine hs h
    exact ⟨h1, h2 _ (by simp), h2 _ (by simp), turn_lit (h2 _ (by simp)), h2 _ (by simp)⟩
  by_cases h : (g.pairs (g.checkL g.check [c, a, b]) c a (turn c) b).2.1 = 0
  · left
    rw [endW_ok h]
    obtain ⟨h0, k1, k2⟩ := ok.1 h
    exact ⟨rfl, (checkL_zero.1 h0).1, (checkL_zero.1 h0).2, k1, ok.2.1, k2, ok.2.2⟩
  · right
    rw [endW_err h]
    exact ⟨h, rfl, rfl⟩
theorem zero_wf : Wf ⟨0, [], [], []⟩ := ⟨by simp [I64], by simp, by simp, by simp, by simp, by simp, by simp⟩
theorem Res.wf {g : Aig} {n : Nat} {l : List Int} {r : Aig × Int × Int} (h : Res g n l r) : Wf r.1 ∧ I64 r.2.1 := by
  rcases h with ⟨_, _, _, h, _, hl, _⟩ | ⟨_, h, h'⟩
  · have := litN_iff.1 hl
    have := h.cnt
    exact ⟨h.toWf, by omega, by omega⟩
  · rw [h, h']; exact ⟨zero_wf, by simp [I64]⟩
end Fil

namespace Fil
open Abs
theorem ext_check {g h : Aig} (hs : Wf g) (hc : g.check = 0) (hx : Ext g h) (hf : Fine h) : h.check = 0 := by
  have hcn := hf.cnt
  have hlo := hf.lo
  unfold Aig.check at hc ⊢
  split at hc
  · simp at hc
  · split at hc
    · simp at hc
    · split at hc
      · rename_i h1 h2 h3
        rw [if_neg (by omega), if_neg (by rw [hx.ins, hx.outs]; omega), if_pos]
        simp only [Aig.good, Bool.and_eq_true, Bool.not_eq_true', List.any_eq_false, Bool.not_eq_true, Bool.not_eq_false'] at h3 ⊢
        refine ⟨⟨hf.gok, fun f hm => ?_⟩, fun a hm => ?_⟩
        · rw [hx.flops] at hm; exact fun hn => by have := hx.lit (by simpa using h3.1.2 f hm : g.lit f.next = true); rw [hn] at this; simp at this
        · rw [hx.outs] at hm; exact fun hn => by have := hx.lit (by simpa using h3.2 a hm : g.lit a = true); rw [hn] at this; simp at this
      · simp at hc
theorem Res.check {g : Aig} (hs : Wf g) {n : Nat} {l : List Int} {r : Aig × Int × Int} (h : Res g n l r) (h0 : r.2.2 = 0) : r.1.check = 0 ∧ Fine r.1 ∧ Ext g r.1 ∧ r.1.lit r.2.1 = true ∧ r.1.ands.length ≤ g.ands.length + n ∧ (∀ a ∈ l, g.lit a = true) ∧ g.check = 0 := by
  rcases h with ⟨_, hc, hl, hf, hx, hl', hn⟩ | ⟨h, _⟩
  · exact ⟨ext_check hs hc hx hf, hf, hx, hl', hn, hl, hc⟩
  · exact (h h0).elim
theorem Res.checkL {g : Aig} (hs : Wf g) {n : Nat} {l m : List Int} {r : Aig × Int × Int} (h : Res g n l r) (h0 : r.2.2 = 0) (hm : ∀ a ∈ m, a ∈ l) : r.1.checkL r.1.check m = 0 := by
  obtain ⟨h1, _, hx, _, _, hl, _⟩ := h.check hs h0
  exact checkL_zero.2 ⟨h1, fun a ha => hx.lit (hl a (hm a ha))⟩
end Fil

namespace Fil
open Abs
section
variable {s : List Bool}
end
def Aig.value (g : Aig) (a : Int) (inp st : List Bool) : Bool := Aig.val (Aig.vals (false :: (inp ++ st)) g.ands) a
section
variable {g : Aig} {a b c : Int} {inp st : List Bool} (hs : Wf g) (l1 : (inp.length : Int) = g.ins) (l2 : st.length = g.flops.length)
include hs l1 l2
end
end Fil

namespace Fil.Bl
open Abs
inductive Op where
  | and | or | xor | mux
def Op.ev : Op → Bool → Bool → Bool → Bool
  | .and, a, b, _ => a && b
  | .or, a, b, _ => a || b
  | .xor, a, b, _ => a != b
  | .mux, a, b, c => if a then b else c
def Op.ap : Op → Aig → Int → Int → Int → Aig × Int × Int
  | .and, g, x, y, _ => g.And x y
  | .or, g, x, y, _ => g.Or x y
  | .xor, g, x, y, _ => g.Xor x y
  | .mux, g, x, y, z => g.Mux x y z
inductive Pg (α : Type) where
  | ret (a : α)
  | op (o : Op) (x y z : Int) (k : Int → Pg α)
def Pg.bind {α β : Type} : Pg α → (α → Pg β) → Pg β
  | .ret a, f => f a
  | .op o x y z k, f => .op o x y z fun r => (k r).bind f
structure Bu where
  g : Aig
  e : Int
def Bu.op (b : Bu) (o : Op) (x y z : Int) : Int × Bu :=
  if b.e ≠ 0 then (0, b) else if (o.ap b.g x y z).2.2 ≠ 0 then (0, ⟨b.g, (o.ap b.g x y z).2.2⟩) else ((o.ap b.g x y z).2.1, ⟨(o.ap b.g x y z).1, 0⟩)
def Pg.run {α : Type} : Pg α → Bu → α × Bu
  | .ret a, b => (a, b)
  | .op o x y z k, b => (k (b.op o x y z).1).run (b.op o x y z).2
theorem run_bind {α β : Type} (f : α → Pg β) : ∀ (p : Pg α) (b : Bu), (p.bind f).run b = (f (p.run b).1).run (p.run b).2
  | .ret a, b => rfl
  | .op o x y z k, b => by simp only [Pg.bind, Pg.run]; exact run_bind f _ _
def iter {α : Type} (f : Nat → α → Pg α) (a : α) : Nat → Pg α
  | 0 => .ret a
  | n + 1 => (iter f a n).bind (f n)
theorem iter_run {α : Type} (f : Nat → α → Pg α) (a : α) (n : Nat) (b : Bu) : (iter f a (n + 1)).run b = (f n ((iter f a n).run b).1).run ((iter f a n).run b).2 := run_bind _ _ _

/-! ### Words -/
def gt (l : List Int) (i : Nat) : Int := l.getD i 0
def andP (x y : Int) : Pg Int := .op .and x y 0 .ret
def orP (x y : Int) : Pg Int := .op .or x y 0 .ret
def xorP (x y : Int) : Pg Int := .op .xor x y 0 .ret
def muxP (c x y : Int) : Pg Int := .op .mux c x y .ret
def notW (x : List Int) : List Int := x.map turn
def zipP (f : Int → Int → Pg Int) (x y : List Int) : Nat → Pg (List Int) := iter (fun i out => (f (gt x i) (gt y i)).bind fun r => .ret (out ++ [r])) []
def foldP (f : Int → Int → Pg Int) (a : Int) (l : List Int) : Nat → Pg Int := iter (fun i a => f a (gt l i)) a
def fullP (p q c : Int) : Pg (Int × Int) :=
  (xorP p q).bind fun e => (xorP e c).bind fun s => (andP p q).bind fun both => (andP e c).bind fun on => (orP both on).bind fun c => .ret (s, c)
def sumP (x y : List Int) (c : Int) : Nat → Pg (List Int × Int) := iter (fun i r => (fullP (gt x i) (gt y i) r.2).bind fun s => .ret (r.1 ++ [s.1], s.2)) ([], c)
def sumW (x y : List Int) (c : Int) : Pg (List Int × Int) := sumP x y c x.length
def rowP (x : List Int) (bit : Int) (i : Nat) : Nat → Pg (List Int) := iter (fun j row => (andP (gt x j) bit).bind fun r => .ret (row ++ [r])) (List.replicate i 0)
def mulP (x y : List Int) : Nat → Pg (List Int) := iter (fun i out => (rowP x (gt y i) i (x.length - i)).bind fun row => (sumW out row 0).bind fun r => .ret r.1) (List.replicate x.length 0)
def far (x : List Int) (k : Int) : Int := if 0 ≤ k ∧ k < x.length then gt x k.toNat else 0
def farI (up : Bool) (i j : Nat) : Int := if up then j - 2 ^ (min i 8) else j + 2 ^ (min i 8)
def shift1 (x : List Int) (bit : Int) (up : Bool) (i : Nat) : Nat → Pg (List Int) := iter (fun j out => (muxP bit (far x (farI up i j)) (gt x j)).bind fun r => .ret (out ++ [r])) []
def shiftP (x y : List Int) (up : Bool) : Nat → Pg (List Int) := iter (fun i x => shift1 x (gt y i) up i x.length) x
def allW (l : List Int) : Pg Int := foldP andP 1 l l.length
def lessW (x y : List Int) : Pg Int := (sumW x (notW y) 1).bind fun r => .ret (turn r.2)
def eqW (x y : List Int) : Pg Int := (zipP xorP x y x.length).bind fun l => allW (notW l)
def unP (op : Int) (a : List Int) : Pg (List Int) :=
  if op = 1 then .ret (notW a)
  else if op = 2 then (sumW (notW a) (List.replicate a.length 0) 1).bind fun r => .ret r.1
  else if op = 3 then (allW a).bind fun r => .ret [r]
  else if op = 4 then (allW (notW a)).bind fun r => .ret [turn r]
  else if op = 5 then (foldP xorP 0 a a.length).bind fun r => .ret [r]
  else .ret [turn (gt a 0)]
def binP (op : Int) (x y : List Int) : Pg (List Int) :=
  if op = 11 ∨ op = 25 then zipP andP x y x.length
  else if op = 12 ∨ op = 26 then zipP orP x y x.length
  else if op = 13 then zipP xorP x y x.length
  else if op = 14 then (sumW x y 0).bind fun r => .ret r.1
  else if op = 15 then (sumW x (notW y) 1).bind fun r => .ret r.1
  else if op = 16 then mulP x y y.length
  else if op = 17 then shiftP x y true y.length
  else if op = 18 then shiftP x y false y.length
  else if op = 19 then (eqW x y).bind fun r => .ret [r]
  else if op = 20 then (eqW x y).bind fun r => .ret [turn r]
  else if op = 21 then (lessW x y).bind fun r => .ret [r]
  else if op = 23 then (lessW y x).bind fun r => .ret [r]
  else if op = 22 then (lessW y x).bind fun r => .ret [turn r]
  else (lessW x y).bind fun r => .ret [turn r]
def extW (op w : Int) (a : List Int) : List Int :=
  if op = 33 then a.take w.toNat else a ++ List.replicate (w.toNat - a.length) (if op = 32 then gt a (a.length - 1) else 0)
def numW (w v : Int) : List Int := (List.range w.toNat).map fun i => v / 2 ^ i % 2
def word (g : Aig) (a : List Int) : Bool := decide (0 < a.length) && decide (a.length ≤ 64) && a.all g.lit
def zG : Aig := ⟨0, [], [], []⟩
def told (r : List Int × Bu) : Aig × List Int × Int := if r.2.e ≠ 0 then (zG, [], r.2.e) else (r.2.g, r.1, 0)
def made (g : Aig) (may : Bool) (p : Pg (List Int)) : Aig × List Int × Int :=
  if g.check ≠ 0 then (zG, [], g.check) else if may = false then (zG, [], 1) else told (p.run ⟨g, 0⟩)
def mayUn (g : Aig) (op : Int) (a : List Int) : Bool := word g a && decide (1 ≤ op ∧ op ≤ 6 ∧ (op ≠ 6 ∨ a.length = 1))
def mayBin (g : Aig) (op : Int) (a b : List Int) : Bool := word g a && word g b && decide (11 ≤ op ∧ op ≤ 26 ∧ (op = 17 ∨ op = 18 ∨ (a.length = b.length ∧ (op < 25 ∨ a.length = 1))))
def mayExt (g : Aig) (op w : Int) (a : List Int) : Bool := word g a && decide (1 ≤ w ∧ w ≤ 64 ∧ 31 ≤ op ∧ op ≤ 33 ∧ (w = a.length ∨ (w < a.length ↔ op = 33)))
def Un (g : Aig) (op : Int) (a : List Int) := made g (mayUn g op a) (unP op a)
def Bin (g : Aig) (op : Int) (a b : List Int) := made g (mayBin g op a b) (binP op a b)
def Ext (g : Aig) (op w : Int) (a : List Int) := made g (mayExt g op w a) (.ret (extW op w a))
end Fil.Bl

namespace Fil.Bl
open Abs

/-! ### One operation -/
structure Ok (g : Aig) : Prop where
  wf : Wf g
  chk : g.check = 0
theorem Ok.fine {g : Aig} (h : Ok g) : Fine g := check_fine h.wf h.chk
def Op.lits : Op → Int → Int → Int → List Int
  | .mux, x, y, z => [x, y, z]
  | _, x, y, _ => [x, y]
theorem op_res {g : Aig} (hs : Wf g) (o : Op) (x y z : Int) : Res g 3 (o.lits x y z) (o.ap g x y z) := by
  have up : ∀ {l : List Int} {r : Aig × Int × Int}, Res g 1 l r → Res g 3 l r := fun h => by
    rcases h with ⟨h1, h2, h3, h4, h5, h6, h7⟩ | h
    · exact .inl ⟨h1, h2, h3, h4, h5, h6, by omega⟩
    · exact .inr h
  cases o with
  | and => exact up (and_res hs x y)
  | or => exact up (or_res hs x y)
  | xor => exact xor_res hs x y
  | mux => exact mux_res hs x y z
theorem op_ok {g : Aig} (hs : Wf g) {o : Op} {x y z : Int} (h : (o.ap g x y z).2.2 = 0) : Ok g ∧ Ok (o.ap g x y z).1 ∧ Fil.Ext g (o.ap g x y z).1 ∧ (o.ap g x y z).1.lit (o.ap g x y z).2.1 = true ∧ (o.ap g x y z).1.ands.length ≤ g.ands.length + 3 ∧ ∀ a ∈ o.lits x y z, g.lit a = true := by
  obtain ⟨h1, h2, h3, h4, h5, h6, h7⟩ := (op_res hs o x y z).check hs h
  exact ⟨⟨hs, h7⟩, ⟨h2.toWf, h1⟩, h3, h4, h5, h6⟩
theorem res_wf {g : Aig} (hs : Wf g) (o : Op) (x y z : Int) : Wf (o.ap g x y z).1 ∧ I64 (o.ap g x y z).2.1 := (op_res hs o x y z).wf
theorem bu_wf {b : Bu} (hs : Wf b.g) (o : Op) (x y z : Int) : Wf (b.op o x y z).2.g ∧ I64 (b.op o x y z).1 := by
  unfold Bu.op
  split
  · exact ⟨hs, by unfold I64; omega⟩
  split
  · exact ⟨hs, by unfold I64; omega⟩
  · exact res_wf hs o x y z

/-! ### Operations one behind the other -/
def wpG (W : Int → Prop) (V : Int → Bool) {α : Type} : Pg α → (Nat → α → Prop) → Prop
  | .ret a, Q => Q 0 a
  | .op o x y z k, Q => (W x ∧ W y ∧ W z) ∧ ∀ r, W r → V r = o.ev (V x) (V y) (V z) → wpG W V (k r) fun n a => Q (n + 1) a
theorem wpG_mono {W : Int → Prop} {V : Int → Bool} {α : Type} : ∀ {p : Pg α} {Q Q' : Nat → α → Prop}, wpG W V p Q → (∀ n a, Q n a → Q' n a) → wpG W V p Q'
  | .ret a, Q, Q', h, k => k 0 a h
  | .op o x y z f, Q, Q', h, k => ⟨h.1, fun r h1 h2 => wpG_mono (h.2 r h1 h2) fun n a => k (n + 1) a⟩
theorem wpG_bind {W : Int → Prop} {V : Int → Bool} {α β : Type} {f : α → Pg β} : ∀ {p : Pg α} {Q : Nat → β → Prop}, wpG W V p (fun n a => wpG W V (f a) fun m b => Q (n + m) b) → wpG W V (p.bind f) Q
  | .ret a, Q, h => by
    have h : wpG W V (f a) (fun m b => Q (0 + m) b) := h
    exact wpG_mono h fun n a q => by rw [Nat.zero_add] at q; exact q
  | .op o x y z k, Q, h => ⟨h.1, fun r h1 h2 => wpG_bind (wpG_mono (h.2 r h1 h2) fun n a q => wpG_mono q fun m b q => by
      have e : n + 1 + m = n + m + 1 := by omega
      rw [e] at q; exact q)⟩
theorem lit01 {g : Aig} (h : Ok g) {a : Int} (ha : a = 0 ∨ a = 1) : g.lit a = true := by
  have := h.fine.cnt
  have hc : 0 ≤ g.count := by have := h.fine.lo; unfold Aig.count; omega
  rw [Aig.lit, litN_iff]; omega
theorem chk01 {g : Aig} (h : Ok g) {l : List Int} (hl : ∀ a ∈ l, a = 0 ∨ a = 1) : g.checkL g.check l = 0 := checkL_zero.2 ⟨h.chk, fun a ha => lit01 h (hl a ha)⟩
theorem turn0 : turn 0 = 1 := by decide
theorem turn1 : turn 1 = 0 := by decide
theorem andW01 {g : Aig} {x y : Int} (hx : x = 0 ∨ x = 1) (hy : y = 0 ∨ y = 1) : g.andW 0 x y = (g, 0, if x = 1 ∧ y = 1 then 1 else 0) := by
  have m1 : min (0 : Int) 1 = 0 := by decide
  have m2 : max (0 : Int) 1 = 1 := by decide
  have m3 : min (1 : Int) 0 = 0 := by decide
  have m4 : max (1 : Int) 0 = 1 := by decide
  have m5 : min (1 : Int) 1 = 1 := by decide
  have m6 : max (1 : Int) 1 = 1 := by decide
  have m7 : min (0 : Int) 0 = 0 := by decide
  rcases hx with rfl | rfl <;> rcases hy with rfl | rfl <;> simp [Aig.andW, Aig.andO, turn0, turn1, m1, m2, m3, m4, m5, m6, m7]
theorem orW01 {g : Aig} {x y : Int} (hx : x = 0 ∨ x = 1) (hy : y = 0 ∨ y = 1) : g.orW 0 x y = (g, 0, if x = 1 ∨ y = 1 then 1 else 0) := by
  unfold Aig.orW
  have tx : turn x = 0 ∨ turn x = 1 := by rcases hx with rfl | rfl <;> simp [turn0, turn1]
  have ty : turn y = 0 ∨ turn y = 1 := by rcases hy with rfl | rfl <;> simp [turn0, turn1]
  rw [andW01 tx ty]
  rcases hx with rfl | rfl <;> rcases hy with rfl | rfl <;> simp [turn0, turn1]
def b2 (b : Bool) : Int := if b then 1 else 0
theorem b2_01 (b : Bool) : b2 b = 0 ∨ b2 b = 1 := by cases b <;> simp [b2]
theorem b2_dec (b : Bool) : decide (b2 b = 1) = b := by cases b <;> rfl
theorem op_const {g : Aig} (h : Ok g) {o : Op} {x y z : Int} (hx : x = 0 ∨ x = 1) (hy : y = 0 ∨ y = 1) (hz : z = 0 ∨ z = 1) : o.ap g x y z = (g, b2 (o.ev (decide (x = 1)) (decide (y = 1)) (decide (z = 1))), 0) := by
  have c2 : g.checkL g.check [x, y] = 0 := chk01 h (by simp [hx, hy])
  have c3 : g.checkL g.check [x, y, z] = 0 := chk01 h (by simp [hx, hy, hz])
  have tx : turn x = 0 ∨ turn x = 1 := by rcases hx with rfl | rfl <;> simp [turn0, turn1]
  have ty : turn y = 0 ∨ turn y = 1 := by rcases hy with rfl | rfl <;> simp [turn0, turn1]
  cases o with
  | and =>
    show g.And x y = _
    unfold Aig.And
    rw [c2, andW01 hx hy, endW_ok rfl]
    rcases hx with rfl | rfl <;> rcases hy with rfl | rfl <;> rfl
  | or =>
    show g.Or x y = _
    unfold Aig.Or
    rw [c2, orW01 hx hy, endW_ok rfl]
    rcases hx with rfl | rfl <;> rcases hy with rfl | rfl <;> rfl
  | xor =>
    show g.Xor x y = _
    unfold Aig.Xor Aig.pairs
    rw [c2, andW01 hx ty]
    simp only
    rw [andW01 tx hy]
    simp only
    rw [orW01 (by split <;> simp) (by split <;> simp), endW_ok rfl]
    rcases hx with rfl | rfl <;> rcases hy with rfl | rfl <;> rfl
  | mux =>
    show g.Mux x y z = _
    unfold Aig.Mux Aig.pairs
    rw [c3, andW01 hx hy]
    simp only
    rw [andW01 tx hz]
    simp only
    rw [orW01 (by split <;> simp) (by split <;> simp), endW_ok rfl]
    rcases hx with rfl | rfl <;> rcases hy with rfl | rfl <;> rcases hz with rfl | rfl <;> rfl
theorem run_const {α : Type} : ∀ (p : Pg α) (b : Bu) (Q : Nat → α → Prop), b.e = 0 → Ok b.g → wpG (fun a => a = 0 ∨ a = 1) (fun a => decide (a = 1)) p Q → (p.run b).2 = b ∧ ∃ n, Q n (p.run b).1
  | .ret a, b, Q, _, _, h => ⟨rfl, 0, h⟩
  | .op o x y z k, b, Q, he, ho, h => by
    obtain ⟨⟨hx, hy, hz⟩, hk⟩ := h
    have hop : b.op o x y z = (b2 (o.ev (decide (x = 1)) (decide (y = 1)) (decide (z = 1))), b) := by
      unfold Bu.op
      rw [if_neg (by omega), op_const ho hx hy hz]
      simp only [ne_eq, not_true_eq_false, ↓reduceIte]
      cases b; simp only at he; subst he; rfl
    simp only [Pg.run]
    rw [hop]
    obtain ⟨h1, n, h2⟩ := run_const (k _) b (fun n a => Q (n + 1) a) he ho (hk _ (b2_01 _) (b2_dec _))
    exact ⟨h1, n + 1, h2⟩

/-! ### Once more -/
end Fil.Bl

namespace Fil.Bl
open Abs

/-! ### Rows of bits as_ numbers -/
def toN : List Bool → Nat
  | [] => 0
  | b :: l => b.toNat + 2 * toN l
theorem toN_lt : ∀ l, toN l < 2 ^ l.length
  | [] => by simp [toN]
  | b :: l => by
    have := toN_lt l
    have hb : b.toNat ≤ 1 := Bool.toNat_le b
    simp only [toN, List.length_cons, Nat.pow_succ]; omega
theorem toN_snoc (b : Bool) : ∀ l, toN (l ++ [b]) = toN l + 2 ^ l.length * b.toNat
  | [] => by simp [toN]
  | a :: l => by
    simp only [List.cons_append, toN, toN_snoc b l, List.length_cons, Nat.pow_succ]
    have : 2 ^ l.length * 2 * b.toNat = 2 * (2 ^ l.length * b.toNat) := by rw [Nat.mul_comm (2 ^ l.length) 2, Nat.mul_assoc]
    omega
theorem toN_bit : ∀ (l : List Bool) (i : Nat), (toN l).testBit i = l.getD i false
  | [], i => by simp [toN]
  | b :: l, 0 => by
    rw [Nat.testBit_zero]
    cases b <;> simp [toN]
  | b :: l, i + 1 => by
    have hb : b.toNat ≤ 1 := Bool.toNat_le b
    rw [Nat.testBit_succ]
    have : toN (b :: l) / 2 = toN l := by simp only [toN]; omega
    rw [this, toN_bit l i]; rfl
theorem toN_rep0 : ∀ n, toN (List.replicate n false) = 0
  | 0 => rfl
  | n + 1 => by simp [List.replicate_succ, toN, toN_rep0 n]
theorem toN_of {l : List Bool} {n : Nat} (h : ∀ i, n.testBit i = l.getD i false) : toN l = n := Nat.eq_of_testBit_eq fun i => by rw [toN_bit, h]
theorem toN_take (l : List Bool) (i : Nat) : toN (l.take i) = toN l % 2 ^ i := by
  refine toN_of fun j => ?_
  rw [Nat.testBit_mod_two_pow, toN_bit]
  by_cases h : j < i
  · simp [List.getD_eq_getElem?_getD, List.getElem?_take, h]
  · simp [List.getD_eq_getElem?_getD, List.getElem?_take, h]
theorem toN_not : ∀ l : List Bool, toN (l.map (!·)) + toN l + 1 = 2 ^ l.length
  | [] => rfl
  | b :: l => by
    have := toN_not l
    simp only [List.map_cons, toN, List.length_cons, Nat.pow_succ]
    cases b <;> simp only [Bool.not_true, Bool.not_false, Bool.toNat_true, Bool.toNat_false] <;> omega
theorem toN_zero {l : List Bool} : toN l = 0 ↔ ∀ b ∈ l, b = false := by
  induction l with
  | nil => simp [toN]
  | cons a l ih =>
    simp only [toN, List.mem_cons, forall_eq_or_imp, ← ih]
    cases a <;> simp only [Bool.toNat_true, Bool.toNat_false, reduceCtorEq, true_and, false_and, iff_false] <;> omega

/-! ### Literals, and what is known of them -/
structure Lits (W : Int → Prop) (V : Int → Bool) : Prop where
  w0 : W 0
  w1 : W 1
  v0 : V 0 = false
  v1 : V 1 = true
  wt : ∀ a, W a → W (turn a)
  vt : ∀ a, W a → V (turn a) = !V a
def Ws (W : Int → Prop) (l : List Int) : Prop := ∀ a ∈ l, W a
theorem gt_lt {l : List Int} {i : Nat} (h : i < l.length) : gt l i = l[i] := by simp [gt, List.getD_eq_getElem?_getD, h]
theorem gt_ge {l : List Int} {i : Nat} (h : l.length ≤ i) : gt l i = 0 := by simp [gt, List.getD_eq_getElem?_getD, h]
theorem gt_snoc_lt {l : List Int} {r : Int} {j : Nat} (h : j < l.length) : gt (l ++ [r]) j = gt l j := by
  rw [gt_lt (by simp; omega), gt_lt h, List.getElem_append_left h]
theorem gt_snoc_eq (l : List Int) (r : Int) : gt (l ++ [r]) l.length = r := by
  rw [gt_lt (by simp)]; simp
theorem take_snoc {l : List Int} {i : Nat} (h : i < l.length) : l.take (i + 1) = l.take i ++ [gt l i] := by
  rw [gt_lt h, List.take_add_one, List.getElem?_eq_getElem h]; rfl
section
variable {W : Int → Prop} {V : Int → Bool} (L : Lits W V)
include L
theorem gt_W {l : List Int} (h : Ws W l) (i : Nat) : W (gt l i) := by
  rcases Nat.lt_or_ge i l.length with q | q
  · rw [gt_lt q]; exact h _ (List.getElem_mem q)
  · rw [gt_ge q]; exact L.w0
theorem gt_V (l : List Int) (i : Nat) : (l.map V).getD i false = V (gt l i) := by
  rcases Nat.lt_or_ge i l.length with q | q
  · rw [gt_lt q]; simp [List.getD_eq_getElem?_getD, q]
  · rw [gt_ge q, L.v0]; simp [List.getD_eq_getElem?_getD, q]
theorem bit_V (l : List Int) (i : Nat) : (toN (l.map V)).testBit i = V (gt l i) := by rw [toN_bit, gt_V L]
omit L in
theorem ws_snoc {l : List Int} {r : Int} (h : Ws W l) (hr : W r) : Ws W (l ++ [r]) := fun a ha => by
  rcases List.mem_append.1 ha with h' | h'
  · exact h a h'
  · rw [List.mem_singleton] at h'; subst h'; exact hr
theorem ws_not {l : List Int} (h : Ws W l) : Ws W (notW l) := fun a ha => by
  obtain ⟨x, hx, rfl⟩ := List.mem_map.1 ha
  exact L.wt x (h x hx)
theorem bits_not {l : List Int} (h : Ws W l) : (notW l).map V = (l.map V).map (!·) := by
  unfold notW
  rw [List.map_map, List.map_map]
  exact List.map_congr_left fun x hx => L.vt x (h x hx)
theorem ws_rep (n : Nat) : Ws W (List.replicate n 0) := fun a ha => by rw [(List.mem_replicate.1 ha).2]; exact L.w0
theorem bits_rep (n : Nat) : (List.replicate n (0 : Int)).map V = List.replicate n false := by rw [List.map_replicate, L.v0]
theorem and_wp {x y : Int} (hx : W x) (hy : W y) : wpG W V (andP x y) (fun n r => n = 1 ∧ W r ∧ V r = (V x && V y)) := ⟨⟨hx, hy, L.w0⟩, fun _ h1 h2 => ⟨rfl, h1, h2⟩⟩
theorem or_wp {x y : Int} (hx : W x) (hy : W y) : wpG W V (orP x y) (fun n r => n = 1 ∧ W r ∧ V r = (V x || V y)) := ⟨⟨hx, hy, L.w0⟩, fun _ h1 h2 => ⟨rfl, h1, h2⟩⟩
theorem xor_wp {x y : Int} (hx : W x) (hy : W y) : wpG W V (xorP x y) (fun n r => n = 1 ∧ W r ∧ V r = (V x != V y)) := ⟨⟨hx, hy, L.w0⟩, fun _ h1 h2 => ⟨rfl, h1, h2⟩⟩
omit L in
theorem mux_wp {c x y : Int} (hc : W c) (hx : W x) (hy : W y) : wpG W V (muxP c x y) (fun n r => n = 1 ∧ W r ∧ V r = if V c then V x else V y) := ⟨⟨hc, hx, hy⟩, fun _ h1 h2 => ⟨rfl, h1, h2⟩⟩

omit L in
theorem wpG_iter {α : Type} {f : Nat → α → Pg α} {a : α} (I : Nat → Nat → α → Prop) (h0 : I 0 0 a) : ∀ N, (∀ i n x, i < N → I i n x → wpG W V (f i x) (fun m y => I (i + 1) (n + m) y)) → wpG W V (iter f a N) (I N)
  | 0, _ => h0
  | N + 1, h => wpG_bind (wpG_mono (wpG_iter I h0 N fun i n x hi => h i n x (by omega)) fun n x hx => h N n x (by omega) hx)
theorem zip_wp {f : Int → Int → Pg Int} {fb : Bool → Bool → Bool} (hf : ∀ p q, W p → W q → wpG W V (f p q) (fun n r => n = 1 ∧ W r ∧ V r = fb (V p) (V q))) {x y : List Int} (hx : Ws W x) (hy : Ws W y) (N : Nat) :
    wpG W V (zipP f x y N) (fun n out => n = N ∧ Ws W out ∧ out.length = N ∧ ∀ j, j < N → V (gt out j) = fb (V (gt x j)) (V (gt y j))) := by
  refine wpG_iter (fun i n (out : List Int) => n = i ∧ Ws W out ∧ out.length = i ∧ ∀ j, j < i → V (gt out j) = fb (V (gt x j)) (V (gt y j))) ⟨rfl, fun a ha => by simp at ha, rfl, fun j hj => by omega⟩ N fun i n out hi ⟨h1, h2, h3, h4⟩ => ?_
  refine wpG_bind (wpG_mono (hf _ _ (gt_W L hx i) (gt_W L hy i)) ?_)
  rintro m r ⟨rfl, hr, hv⟩
  refine ⟨by omega, ws_snoc h2 hr, by rw [List.length_append, h3]; rfl, fun j hj => ?_⟩
  rcases Nat.lt_or_ge j i with q | q
  · rw [gt_snoc_lt (by omega)]; exact h4 j q
  · have e : j = out.length := by omega
    subst e
    rw [gt_snoc_eq, hv, h3]
theorem fold_wp {f : Int → Int → Pg Int} {fb : Bool → Bool → Bool} (hf : ∀ p q, W p → W q → wpG W V (f p q) (fun n r => n = 1 ∧ W r ∧ V r = fb (V p) (V q))) {a : Int} {l : List Int} (ha : W a) (hl : Ws W l) :
    ∀ N, N ≤ l.length → wpG W V (foldP f a l N) (fun n r => n = N ∧ W r ∧ V r = ((l.take N).map V).foldl fb (V a)) := fun N hN => by
  refine wpG_iter (fun i n (r : Int) => n = i ∧ W r ∧ V r = ((l.take i).map V).foldl fb (V a)) ⟨rfl, ha, by simp⟩ N fun i n r hi ⟨h1, h2, h3⟩ => ?_
  refine wpG_mono (hf _ _ h2 (gt_W L hl i)) ?_
  rintro m r' ⟨rfl, hr, hv⟩
  refine ⟨by omega, hr, ?_⟩
  rw [take_snoc (by omega), List.map_append, List.foldl_append, hv, h3]; rfl
theorem full_wp {p q c : Int} (hp : W p) (hq : W q) (hc : W c) : wpG W V (fullP p q c) (fun n r => n = 5 ∧ W r.1 ∧ W r.2 ∧ (V r.1).toNat + 2 * (V r.2).toNat = (V p).toNat + (V q).toNat + (V c).toNat) := by
  refine ⟨⟨hp, hq, L.w0⟩, fun e he ve => ⟨⟨he, hc, L.w0⟩, fun s hs vs => ⟨⟨hp, hq, L.w0⟩, fun b hb vb => ⟨⟨he, hc, L.w0⟩, fun o ho vo => ⟨⟨hb, ho, L.w0⟩, fun k hk vk => ⟨rfl, hs, hk, ?_⟩⟩⟩⟩⟩⟩
  simp only [Op.ev] at ve vs vb vo vk
  rw [vs, vk, vb, vo, ve]
  cases V p <;> cases V q <;> cases V c <;> rfl
theorem sum_wp {x y : List Int} {c : Int} (hx : Ws W x) (hy : Ws W y) (hc : W c) (N : Nat) (h1 : N ≤ x.length) (h2 : N ≤ y.length) :
    wpG W V (sumP x y c N) (fun n r => n = 5 * N ∧ Ws W r.1 ∧ W r.2 ∧ r.1.length = N ∧ toN (r.1.map V) + 2 ^ N * (V r.2).toNat = toN ((x.take N).map V) + toN ((y.take N).map V) + (V c).toNat) := by
  refine wpG_iter (fun i n (r : List Int × Int) => n = 5 * i ∧ Ws W r.1 ∧ W r.2 ∧ r.1.length = i ∧ toN (r.1.map V) + 2 ^ i * (V r.2).toNat = toN ((x.take i).map V) + toN ((y.take i).map V) + (V c).toNat)
    ⟨rfl, fun a ha => by simp at ha, hc, rfl, by simp [toN]⟩ N fun i n r hi ⟨k1, k2, k3, k4, k5⟩ => ?_
  refine wpG_bind (wpG_mono (full_wp L (gt_W L hx i) (gt_W L hy i) k3) ?_)
  rintro m s ⟨rfl, m1, m2, m3⟩
  refine ⟨by omega, ws_snoc k2 m1, m2, by rw [List.length_append, k4]; rfl, ?_⟩
  simp only
  rw [take_snoc (by omega), take_snoc (l := y) (by omega), List.map_append, List.map_append, List.map_append]
  simp only [List.map_cons, List.map_nil]
  rw [toN_snoc, toN_snoc, toN_snoc, List.length_map, k4, List.length_map, List.length_map, List.length_take, List.length_take, Nat.min_eq_left (by omega), Nat.min_eq_left (by omega), Nat.pow_succ, Nat.mul_assoc]
  have h3 := congrArg (2 ^ i * ·) m3
  simp only [Nat.mul_add] at h3
  omega
theorem sumW_wp {x y : List Int} {c : Int} (hx : Ws W x) (hy : Ws W y) (hc : W c) (hl : y.length = x.length) :
    wpG W V (sumW x y c) (fun n r => n = 5 * x.length ∧ Ws W r.1 ∧ W r.2 ∧ r.1.length = x.length ∧ toN (r.1.map V) + 2 ^ x.length * (V r.2).toNat = toN (x.map V) + toN (y.map V) + (V c).toNat) := by
  refine wpG_mono (sum_wp L hx hy hc x.length (Nat.le_refl _) (by omega)) ?_
  rintro n r ⟨k1, k2, k3, k4, k5⟩
  rw [List.take_of_length_le (by omega), List.take_of_length_le (by omega)] at k5
  exact ⟨k1, k2, k3, k4, k5⟩
theorem row_wp {x : List Int} {bit : Int} (hx : Ws W x) (hb : W bit) (i N : Nat) (hN : N ≤ x.length) :
    wpG W V (rowP x bit i N) (fun n row => n = N ∧ Ws W row ∧ row.length = i + N ∧ toN (row.map V) = 2 ^ i * (toN ((x.take N).map V) * (V bit).toNat)) := by
  refine wpG_iter (fun j n (row : List Int) => n = j ∧ Ws W row ∧ row.length = i + j ∧ toN (row.map V) = 2 ^ i * (toN ((x.take j).map V) * (V bit).toNat))
    ⟨rfl, ws_rep L i, by simp, by rw [bits_rep L, toN_rep0]; simp [toN]⟩ N fun j n row hj ⟨k1, k2, k3, k4⟩ => ?_
  refine wpG_bind (wpG_mono (and_wp L (gt_W L hx j) hb) ?_)
  rintro m r ⟨rfl, m1, m2⟩
  refine ⟨by omega, ws_snoc k2 m1, by rw [List.length_append, k3]; simp only [List.length_cons, List.length_nil]; omega, ?_⟩
  rw [take_snoc (by omega), List.map_append, List.map_append]
  simp only [List.map_cons, List.map_nil]
  rw [toN_snoc, toN_snoc, List.length_map, List.length_map, k3, List.length_take, Nat.min_eq_left (by omega), k4, m2, Nat.pow_add]
  cases V bit <;> cases V (gt x j) <;> simp [Nat.mul_add]
theorem mul_wp {x y : List Int} (hx : Ws W x) (hy : Ws W y) : ∀ N, N ≤ y.length → N ≤ x.length →
    wpG W V (mulP x y N) (fun n out => n ≤ 6 * x.length * N ∧ Ws W out ∧ out.length = x.length ∧ toN (out.map V) = toN (x.map V) * toN ((y.take N).map V) % 2 ^ x.length) := fun N h1 h2 => by
  refine wpG_iter (fun i n (out : List Int) => n ≤ 6 * x.length * i ∧ Ws W out ∧ out.length = x.length ∧ toN (out.map V) = toN (x.map V) * toN ((y.take i).map V) % 2 ^ x.length)
    ⟨by simp, ws_rep L _, by simp, by rw [bits_rep L, toN_rep0]; simp [toN]⟩ N fun i n out hi ⟨k1, k2, k3, k4⟩ => ?_
  refine wpG_bind (wpG_mono (row_wp L hx (gt_W L hy i) i (x.length - i) (by omega)) ?_)
  rintro m row ⟨rfl, m1, m2, m3⟩
  refine wpG_bind (wpG_mono (sumW_wp L k2 m1 L.w0 (by omega)) ?_)
  rintro m' r ⟨rfl, q1, q2, q3, q4⟩
  refine ⟨?_, q1, by omega, ?_⟩
  · have e : 6 * x.length * (i + 1) = 6 * x.length * i + 6 * x.length := by rw [Nat.mul_add, Nat.mul_one]
    omega
  · have hlt := toN_lt (r.1.map V)
    rw [List.length_map, q3, k3] at hlt
    rw [k3, L.v0] at q4
    have e1 : toN (r.1.map V) = (toN (out.map V) + toN (row.map V)) % 2 ^ x.length := by
      have : toN (out.map V) + toN (row.map V) = toN (r.1.map V) + 2 ^ x.length * (V r.2).toNat := by simp only [Bool.toNat_false] at q4; omega
      rw [this, Nat.add_mul_mod_self_left, Nat.mod_eq_of_lt hlt]
    have e2 : toN (row.map V) % 2 ^ x.length = 2 ^ i * (toN (x.map V) * (V (gt y i)).toNat) % 2 ^ x.length := by
      have hp : 2 ^ x.length = 2 ^ i * 2 ^ (x.length - i) := by rw [← Nat.pow_add]; congr 1; omega
      rw [m3, List.map_take, toN_take]
      cases V (gt y i)
      · simp
      · simp only [Bool.toNat_true, Nat.mul_one]
        rw [hp, Nat.mul_mod_mul_left, Nat.mul_mod_mul_left, Nat.mod_mod]
    rw [e1, k4, Nat.add_mod, Nat.mod_mod, e2, ← Nat.add_mod, take_snoc (by omega), List.map_append]
    simp only [List.map_cons, List.map_nil]
    rw [toN_snoc, List.length_map, List.length_take, Nat.min_eq_left (by omega), Nat.mul_add]
    congr 2
    rw [← Nat.mul_assoc, ← Nat.mul_assoc, Nat.mul_comm (toN (x.map V)) (2 ^ i)]
theorem far_W {x : List Int} (hx : Ws W x) (k : Int) : W (far x k) := by
  unfold far; split
  · exact gt_W L hx _
  · exact L.w0
theorem shift1_wp {x : List Int} {bit : Int} (hx : Ws W x) (hb : W bit) (up : Bool) (i : Nat) (N : Nat) :
    wpG W V (shift1 x bit up i N) (fun n out => n = N ∧ Ws W out ∧ out.length = N ∧ ∀ j, j < N → V (gt out j) = if V bit then V (far x (farI up i j)) else V (gt x j)) := by
  refine wpG_iter (fun j n (out : List Int) => n = j ∧ Ws W out ∧ out.length = j ∧ ∀ k, k < j → V (gt out k) = if V bit then V (far x (farI up i k)) else V (gt x k)) ⟨rfl, fun a ha => by simp at ha, rfl, fun j hj => by omega⟩ N fun j n out hj ⟨h1, h2, h3, h4⟩ => ?_
  refine wpG_bind (wpG_mono (mux_wp hb (far_W L hx _) (gt_W L hx j)) ?_)
  rintro m r ⟨rfl, hr, hv⟩
  refine ⟨by omega, ws_snoc h2 hr, by rw [List.length_append, h3]; rfl, fun k hk => ?_⟩
  rcases Nat.lt_or_ge k j with q | q
  · rw [gt_snoc_lt (by omega)]; exact h4 k q
  · have e : k = out.length := by omega
    subst e
    rw [gt_snoc_eq, hv, h3]
theorem far_up {x : List Int} {i j : Nat} : V (far x (farI true i j)) = (decide (2 ^ (min i 8) ≤ j) && (toN (x.map V)).testBit (j - 2 ^ (min i 8))) ∨ x.length ≤ j := by
  rcases Nat.lt_or_ge j x.length with q | q
  · refine .inl ?_
    obtain ⟨f, hf⟩ : ∃ f, 2 ^ (min i 8) = f := ⟨_, rfl⟩
    have hf' : (2 : Int) ^ (min i 8) = (f : Int) := by rw [← hf]; simp
    unfold far farI
    simp only [↓reduceIte]
    rw [hf, hf', bit_V L]
    by_cases h : f ≤ j
    · have e : ((j : Int) - f).toNat = j - f := by omega
      rw [if_pos (by omega), e]; simp [h]
    · rw [if_neg (by omega), L.v0]; simp [h]
  · exact .inr q
theorem far_down {x : List Int} {i j : Nat} : V (far x (farI false i j)) = (toN (x.map V)).testBit (j + 2 ^ (min i 8)) := by
  obtain ⟨f, hf⟩ : ∃ f, 2 ^ (min i 8) = f := ⟨_, rfl⟩
  have hf' : (2 : Int) ^ (min i 8) = (f : Int) := by rw [← hf]; simp
  unfold far farI
  simp only [Bool.false_eq_true, ↓reduceIte]
  rw [hf, hf', bit_V L]
  by_cases h : j + f < x.length
  · have e : ((j : Int) + f).toNat = j + f := by omega
    rw [if_pos (by omega), e]
  · rw [if_neg (by omega), L.v0, gt_ge (by omega), L.v0]
theorem shift1_num {x out : List Int} {bit : Int} {up : Bool} {i : Nat} (hl : out.length = x.length) (hx64 : x.length ≤ 64) (h : ∀ j, j < x.length → V (gt out j) = if V bit then V (far x (farI up i j)) else V (gt x j)) :
    toN (out.map V) = if V bit then (if up then toN (x.map V) * 2 ^ (2 ^ i) % 2 ^ x.length else toN (x.map V) / 2 ^ (2 ^ i)) else toN (x.map V) := by
  have hxlt := toN_lt (x.map V)
  rw [List.length_map] at hxlt
  -- so far, or out of sight
  have hmin : 2 ^ (min i 8) = 2 ^ i ∨ (x.length ≤ 2 ^ (min i 8) ∧ x.length ≤ 2 ^ i) := by
    rcases Nat.lt_or_ge i 8 with q | q
    · exact .inl (by rw [Nat.min_eq_left (by omega)])
    · refine .inr ⟨?_, ?_⟩
      · rw [Nat.min_eq_right (by omega)]; omega
      · have := Nat.pow_le_pow_right (n := 2) (by omega) q; omega
  refine toN_of fun j => ?_
  rw [gt_V L]
  rcases Nat.lt_or_ge j x.length with q | q
  · rw [h j q]
    cases hb : V bit
    · simp only [Bool.false_eq_true, ↓reduceIte]; rw [bit_V L]
    · simp only [↓reduceIte]
      cases up
      · simp only [Bool.false_eq_true, ↓reduceIte]
        rw [far_down L, Nat.testBit_div_two_pow]
        rcases hmin with e | ⟨e1, e2⟩
        · rw [e]
        · rw [bit_V L, bit_V L, gt_ge (by omega), gt_ge (by omega)]
      · simp only [↓reduceIte]
        have := (far_up L (x := x) (i := i) (j := j)).resolve_right (by omega)
        rw [this, Nat.testBit_mod_two_pow, Nat.testBit_mul_two_pow]
        rcases hmin with e | ⟨e1, e2⟩
        · rw [e]; simp [q]
        · have n1 : ¬ 2 ^ (min i 8) ≤ j := by omega
          have n2 : ¬ 2 ^ i ≤ j := by omega
          simp [n1, n2]
  · rw [gt_ge (by omega), L.v0]
    have hlt : ∀ n, n < 2 ^ x.length → n.testBit j = false := fun n hn => Nat.testBit_lt_two_pow (Nat.lt_of_lt_of_le hn (Nat.pow_le_pow_right (by omega) q))
    refine hlt _ ?_
    split
    · split
      · exact Nat.mod_lt _ (Nat.two_pow_pos _)
      · exact Nat.lt_of_le_of_lt (Nat.div_le_self _ _) hxlt
    · exact hxlt
theorem shift_wp {x y : List Int} (hx : Ws W x) (hy : Ws W y) (up : Bool) (hx64 : x.length ≤ 64) (N : Nat) (hN : N ≤ y.length) :
    wpG W V (shiftP x y up N) (fun n out => n = x.length * N ∧ Ws W out ∧ out.length = x.length ∧
      toN (out.map V) = if up then toN (x.map V) * 2 ^ toN ((y.take N).map V) % 2 ^ x.length else toN (x.map V) / 2 ^ toN ((y.take N).map V)) := by
  have hxlt := toN_lt (x.map V)
  rw [List.length_map] at hxlt
  refine wpG_iter (fun i n (out : List Int) => n = x.length * i ∧ Ws W out ∧ out.length = x.length ∧
      toN (out.map V) = if up then toN (x.map V) * 2 ^ toN ((y.take i).map V) % 2 ^ x.length else toN (x.map V) / 2 ^ toN ((y.take i).map V))
    ⟨by simp, hx, rfl, by cases up <;> simp [toN, Nat.mod_eq_of_lt hxlt]⟩ N fun i n out hi ⟨k1, k2, k3, k4⟩ => ?_
  refine wpG_mono (shift1_wp L k2 (gt_W L hy i) up i out.length) ?_
  rintro m out' ⟨rfl, m1, m2, m3⟩
  refine ⟨by rw [k1, k3, Nat.mul_add, Nat.mul_one], m1, by omega, ?_⟩
  rw [shift1_num L m2 (by omega) m3, take_snoc (by omega), List.map_append]
  simp only [List.map_cons, List.map_nil]
  rw [toN_snoc, List.length_map, List.length_take, Nat.min_eq_left (by omega), k3, k4, Nat.pow_add]
  cases V (gt y i)
  · simp
  · simp only [↓reduceIte, Bool.toNat_true, Nat.mul_one]
    cases up
    · simp only [Bool.false_eq_true, ↓reduceIte]
      rw [Nat.div_div_eq_div_mul]
    · simp only [↓reduceIte]
      rw [Nat.mod_mul_mod, Nat.mul_assoc]
end
end Fil.Bl

namespace Fil.Bl
open Abs
def n1 (p : Prop) [Decidable p] : Nat := if p then 1 else 0
def binN (op : Int) (w a b : Nat) : Nat × Nat :=
  if op = 11 then (w, a &&& b)
  else if op = 12 then (w, a ||| b)
  else if op = 13 then (w, a ^^^ b)
  else if op = 14 then (w, (a + b) % 2 ^ w)
  else if op = 15 then (w, (a + (2 ^ w - b)) % 2 ^ w)
  else if op = 16 then (w, a * b % 2 ^ w)
  else if op = 17 then (w, a * 2 ^ b % 2 ^ w)
  else if op = 18 then (w, a / 2 ^ b)
  else if op = 19 then (1, n1 (a = b))
  else if op = 20 then (1, n1 (a ≠ b))
  else if op = 21 then (1, n1 (a < b))
  else if op = 22 then (1, n1 (a ≤ b))
  else if op = 23 then (1, n1 (b < a))
  else if op = 24 then (1, n1 (b ≤ a))
  else if op = 25 then (1, n1 (a = 1 ∧ b = 1))
  else (1, n1 (a = 1 ∨ b = 1))
theorem foldl_and : ∀ (l : List Bool) (b : Bool), l.foldl (· && ·) b = (b && l.all id)
  | [], b => by simp
  | a :: l, b => by simp only [List.foldl_cons, foldl_and l, List.all_cons, id, Bool.and_assoc]
theorem all_true {l : List Bool} : l.all id = decide (toN l = 2 ^ l.length - 1) := by
  have h := toN_not l
  rw [Bool.eq_iff_iff, decide_eq_true_eq, List.all_eq_true]
  have hz := toN_zero (l := l.map (!·))
  constructor
  · intro k
    have : toN (l.map (!·)) = 0 := hz.2 fun b hb => by
      obtain ⟨a, ha, rfl⟩ := List.mem_map.1 hb
      have := k a ha
      simp only [id] at this; simp [this]
    omega
  · intro k a ha
    have h2 := hz.1 (by have := Nat.two_pow_pos l.length; omega) (!a) (List.mem_map_of_mem ha)
    simpa using h2
theorem toN1 (b : Bool) : toN [b] = b.toNat := by simp [toN]
theorem n1_dec (p : Prop) [Decidable p] : (decide p).toNat = n1 p := by unfold n1; by_cases h : p <;> simp [h]
section
variable {W : Int → Prop} {V : Int → Bool} (L : Lits W V)
include L
theorem all_wp {l : List Int} (hl : Ws W l) : wpG W V (allW l) (fun n r => n = l.length ∧ W r ∧ V r = decide (toN (l.map V) = 2 ^ l.length - 1)) := by
  refine wpG_mono (fold_wp L (fb := (· && ·)) (fun p q hp hq => and_wp L hp hq) L.w1 hl l.length (Nat.le_refl _)) ?_
  rintro n r ⟨h1, h2, h3⟩
  refine ⟨h1, h2, ?_⟩
  rw [h3, List.take_of_length_le (Nat.le_refl _), foldl_and, L.v1, Bool.true_and, all_true, List.length_map]
theorem less_wp {x y : List Int} (hx : Ws W x) (hy : Ws W y) (hl : y.length = x.length) : wpG W V (lessW x y) (fun n r => n = 5 * x.length ∧ W r ∧ V r = decide (toN (x.map V) < toN (y.map V))) := by
  refine wpG_bind (wpG_mono (sumW_wp L hx (ws_not L hy) L.w1 (by unfold notW; rw [List.length_map, hl])) ?_)
  rintro n r ⟨h1, h2, h3, h4, h5⟩
  refine ⟨by omega, L.wt _ h3, ?_⟩
  rw [L.vt _ h3]
  rw [bits_not L hy, L.v1] at h5
  have hn := toN_not (y.map V)
  rw [List.length_map, hl] at hn
  have hlt := toN_lt (r.1.map V)
  rw [List.length_map, h4] at hlt
  have hx' := toN_lt (x.map V)
  rw [List.length_map] at hx'
  simp only [Bool.toNat_true] at h5
  cases hc : V r.2
  · rw [hc] at h5
    simp only [Bool.toNat_false, Nat.mul_zero] at h5
    rw [decide_eq_true (by omega)]; rfl
  · rw [hc] at h5
    simp only [Bool.toNat_true, Nat.mul_one] at h5
    rw [decide_eq_false (by omega)]; rfl
theorem eq_wp {x y : List Int} (hx : Ws W x) (hy : Ws W y) (hl : y.length = x.length) : wpG W V (eqW x y) (fun n r => n = 2 * x.length ∧ W r ∧ V r = decide (toN (x.map V) = toN (y.map V))) := by
  refine wpG_bind (wpG_mono (zip_wp L (fb := (· != ·)) (fun p q hp hq => xor_wp L hp hq) hx hy x.length) ?_)
  rintro n l ⟨h1, h2, h3, h4⟩
  refine wpG_mono (all_wp L (ws_not L h2)) ?_
  rintro m r ⟨k1, k2, k3⟩
  have e : (notW l).length = l.length := by unfold notW; rw [List.length_map]
  rw [e] at k1 k3
  refine ⟨by omega, k2, ?_⟩
  rw [k3, bits_not L h2]
  have hn := toN_not (l.map V)
  rw [List.length_map] at hn
  have hz := toN_zero (l := l.map V)
  have key : toN (l.map V) = 0 ↔ toN (x.map V) = toN (y.map V) := by
    rw [hz]
    constructor
    · intro k
      refine Nat.eq_of_testBit_eq fun j => ?_
      rw [bit_V L, bit_V L]
      rcases Nat.lt_or_ge j x.length with q | q
      · have h5 := h4 j q
        have h6 := k (V (gt l j)) (by rw [gt_lt (by omega)]; exact List.mem_map_of_mem (List.getElem_mem _))
        rw [h6] at h5
        exact (show ∀ a b : Bool, false = (a != b) → a = b by decide) _ _ h5
      · rw [gt_ge (by omega), gt_ge (by omega)]
    · intro k b hb
      obtain ⟨a, ha, rfl⟩ := List.mem_map.1 hb
      obtain ⟨j, hj, rfl⟩ := List.getElem_of_mem ha
      have h5 := h4 j (by omega)
      rw [gt_lt hj] at h5
      have e1 := bit_V L x j
      have e2 := bit_V L y j
      rw [k, e2] at e1
      rw [h5, e1]; simp
  rw [Bool.eq_iff_iff, decide_eq_true_eq, decide_eq_true_eq, ← key]
  have := Nat.two_pow_pos l.length
  omega
theorem bin_wp {op : Int} {x y : List Int} (hx : Ws W x) (hy : Ws W y) (h : 11 ≤ op ∧ op ≤ 26) (hx64 : x.length ≤ 64) (hl : op = 17 ∨ op = 18 ∨ (x.length = y.length ∧ (op < 25 ∨ x.length = 1))) :
    wpG W V (binP op x y) (fun n out => n ≤ 6 * x.length * y.length + 5 * x.length ∧ Ws W out ∧ (out.length, toN (out.map V)) = binN op x.length (toN (x.map V)) (toN (y.map V))) := by
  have hlt := toN_lt (x.map V)
  have hlt2 := toN_lt (y.map V)
  rw [List.length_map] at hlt hlt2
  have one : ∀ {r : Int}, W r → Ws W [r] := fun hr x hx => by rw [List.mem_singleton] at hx; subst hx; exact hr
  have zip := fun {f : Int → Int → Pg Int} {fb : Bool → Bool → Bool} (hf : ∀ p q, W p → W q → wpG W V (f p q) (fun n r => n = 1 ∧ W r ∧ V r = fb (V p) (V q))) => zip_wp L hf hx hy x.length
  have bits : ∀ {out : List Int} {fb : Bool → Bool → Bool} {N : Nat}, out.length = x.length → (∀ j, j < x.length → V (gt out j) = fb (V (gt x j)) (V (gt y j))) → fb false false = false → (∀ j, N.testBit j = fb ((toN (x.map V)).testBit j) ((toN (y.map V)).testBit j)) → x.length = y.length → toN (out.map V) = N := fun {out fb N} h1 h2 h3 h4 h5 => by
    refine Nat.eq_of_testBit_eq fun j => ?_
    rw [bit_V L, h4, bit_V L, bit_V L]
    rcases Nat.lt_or_ge j x.length with q | q
    · exact h2 j q
    · rw [gt_ge (by omega), gt_ge (by omega), gt_ge (by omega), L.v0, h3]
  have cnt : ∀ n : Nat, n ≤ 5 * x.length → n ≤ 6 * x.length * y.length + 5 * x.length := fun n hn => by omega
  unfold binP
  by_cases oz1 : op = 11 ∨ op = 25
  · rw [if_pos oz1]
    have hlen : x.length = y.length := by omega
    refine wpG_mono (zip (fb := (· && ·)) fun p q hp hq => and_wp L hp hq) ?_
    rintro n out ⟨k1, k2, k3, k4⟩
    have hb := bits (fb := (· && ·)) (N := toN (x.map V) &&& toN (y.map V)) k3 k4 rfl (fun j => Nat.testBit_and _ _ _) hlen
    refine ⟨cnt _ (by omega), k2, ?_⟩
    rw [hb, k3]
    rcases oz1 with rfl | rfl
    · rfl
    · have h1 : x.length = 1 := by omega
      have h2 : y.length = 1 := by omega
      rw [h1] at hlt
      rw [h2] at hlt2
      rw [h1]
      have ea : toN (x.map V) = 0 ∨ toN (x.map V) = 1 := by omega
      have eb : toN (y.map V) = 0 ∨ toN (y.map V) = 1 := by omega
      rcases ea with ea | ea <;> rcases eb with eb | eb <;> rw [ea, eb] <;> rfl
  rw [if_neg oz1]
  by_cases oz2 : op = 12 ∨ op = 26
  · rw [if_pos oz2]
    have hlen : x.length = y.length := by omega
    refine wpG_mono (zip (fb := (· || ·)) fun p q hp hq => or_wp L hp hq) ?_
    rintro n out ⟨k1, k2, k3, k4⟩
    have hb := bits (fb := (· || ·)) (N := toN (x.map V) ||| toN (y.map V)) k3 k4 rfl (fun j => Nat.testBit_or _ _ _) hlen
    refine ⟨cnt _ (by omega), k2, ?_⟩
    rw [hb, k3]
    rcases oz2 with rfl | rfl
    · rfl
    · have h1 : x.length = 1 := by omega
      have h2 : y.length = 1 := by omega
      rw [h1] at hlt
      rw [h2] at hlt2
      rw [h1]
      have ea : toN (x.map V) = 0 ∨ toN (x.map V) = 1 := by omega
      have eb : toN (y.map V) = 0 ∨ toN (y.map V) = 1 := by omega
      rcases ea with ea | ea <;> rcases eb with eb | eb <;> rw [ea, eb] <;> rfl
  rw [if_neg oz2]
  by_cases o13 : op = 13
  · subst o13
    rw [if_pos rfl]
    have hlen : x.length = y.length := by omega
    refine wpG_mono (zip (fb := (· != ·)) fun p q hp hq => xor_wp L hp hq) ?_
    rintro n out ⟨k1, k2, k3, k4⟩
    have hb := bits (fb := (· != ·)) (N := toN (x.map V) ^^^ toN (y.map V)) k3 k4 rfl (fun j => by rw [Nat.testBit_xor]) hlen
    exact ⟨cnt _ (by omega), k2, by rw [hb, k3]; rfl⟩
  rw [if_neg o13]
  by_cases o14 : op = 14
  · subst o14
    rw [if_pos rfl]
    refine wpG_bind (wpG_mono (sumW_wp L hx hy L.w0 (by omega)) ?_)
    rintro n r ⟨k1, k2, k3, k4, k5⟩
    rw [L.v0] at k5
    refine ⟨cnt _ (by omega), k2, ?_⟩
    have hrl := toN_lt (r.1.map V)
    rw [List.length_map, k4] at hrl
    simp only [Bool.toNat_false, Nat.add_zero] at k5
    have e : toN (r.1.map V) = (toN (x.map V) + toN (y.map V)) % 2 ^ x.length := by rw [← k5, Nat.add_mul_mod_self_left, Nat.mod_eq_of_lt hrl]
    rw [k4, e]; rfl
  rw [if_neg o14]
  by_cases o15 : op = 15
  · subst o15
    rw [if_pos rfl]
    refine wpG_bind (wpG_mono (sumW_wp L hx (ws_not L hy) L.w1 (by unfold notW; rw [List.length_map]; omega)) ?_)
    rintro n r ⟨k1, k2, k3, k4, k5⟩
    rw [bits_not L hy, L.v1] at k5
    have hn := toN_not (y.map V)
    rw [List.length_map, show y.length = x.length by omega] at hn
    refine ⟨cnt _ (by omega), k2, ?_⟩
    have hrl := toN_lt (r.1.map V)
    rw [List.length_map, k4] at hrl
    simp only [Bool.toNat_true] at k5
    have e0 : toN (x.map V) + (2 ^ x.length - toN (y.map V)) = toN (r.1.map V) + 2 ^ x.length * (V r.2).toNat := by omega
    have e : toN (r.1.map V) = (toN (x.map V) + (2 ^ x.length - toN (y.map V))) % 2 ^ x.length := by rw [e0, Nat.add_mul_mod_self_left, Nat.mod_eq_of_lt hrl]
    rw [k4, e]; rfl
  rw [if_neg o15]
  by_cases o16 : op = 16
  · subst o16
    rw [if_pos rfl]
    refine wpG_mono (mul_wp L hx hy y.length (Nat.le_refl _) (by omega)) ?_
    rintro n out ⟨k1, k2, k3, k4⟩
    rw [List.take_of_length_le (Nat.le_refl _)] at k4
    exact ⟨by omega, k2, by rw [k3, k4]; rfl⟩
  rw [if_neg o16]
  have cnt2 : x.length * y.length ≤ 6 * x.length * y.length + 5 * x.length := by
    have : 6 * x.length * y.length = 6 * (x.length * y.length) := Nat.mul_assoc _ _ _
    omega
  by_cases o17 : op = 17
  · subst o17
    rw [if_pos rfl]
    refine wpG_mono (shift_wp L hx hy true hx64 y.length (Nat.le_refl _)) ?_
    rintro n out ⟨k1, k2, k3, k4⟩
    rw [List.take_of_length_le (Nat.le_refl _)] at k4
    exact ⟨by omega, k2, by rw [k3, k4]; rfl⟩
  rw [if_neg o17]
  by_cases o18 : op = 18
  · subst o18
    rw [if_pos rfl]
    refine wpG_mono (shift_wp L hx hy false hx64 y.length (Nat.le_refl _)) ?_
    rintro n out ⟨k1, k2, k3, k4⟩
    rw [List.take_of_length_le (Nat.le_refl _)] at k4
    exact ⟨by omega, k2, by rw [k3, k4]; rfl⟩
  rw [if_neg o18]
  have hlen : x.length = y.length := by omega
  have res : ∀ {r : Int} {b : Bool} {N : Nat}, V r = b → b.toNat = N → ([r].length, toN ([r].map V)) = (1, N) := fun {r b N} h1 h2 => by
    simp only [List.map_cons, List.map_nil, List.length_cons, List.length_nil]
    rw [toN1, h1, h2]
  by_cases o19 : op = 19
  · subst o19
    rw [if_pos rfl]
    refine wpG_bind (wpG_mono (eq_wp L hx hy (by omega)) ?_)
    rintro n r ⟨k1, k2, k3⟩
    exact ⟨cnt _ (by omega), one k2, res k3 (n1_dec _)⟩
  rw [if_neg o19]
  by_cases o20 : op = 20
  · subst o20
    rw [if_pos rfl]
    refine wpG_bind (wpG_mono (eq_wp L hx hy (by omega)) ?_)
    rintro n r ⟨k1, k2, k3⟩
    exact ⟨cnt _ (by omega), one (L.wt _ k2), res (by rw [L.vt _ k2, k3, ← decide_not]) (n1_dec _)⟩
  rw [if_neg o20]
  by_cases o21 : op = 21
  · subst o21
    rw [if_pos rfl]
    refine wpG_bind (wpG_mono (less_wp L hx hy (by omega)) ?_)
    rintro n r ⟨k1, k2, k3⟩
    exact ⟨cnt _ (by omega), one k2, res k3 (n1_dec _)⟩
  rw [if_neg o21]
  by_cases o23 : op = 23
  · subst o23
    rw [if_pos rfl]
    refine wpG_bind (wpG_mono (less_wp L hy hx (by omega)) ?_)
    rintro n r ⟨k1, k2, k3⟩
    exact ⟨cnt _ (by omega), one k2, res k3 (n1_dec _)⟩
  rw [if_neg o23]
  by_cases o22 : op = 22
  · subst o22
    rw [if_pos rfl]
    refine wpG_bind (wpG_mono (less_wp L hy hx (by omega)) ?_)
    rintro n r ⟨k1, k2, k3⟩
    refine ⟨cnt _ (by omega), one (L.wt _ k2), res (b := decide (toN (x.map V) ≤ toN (y.map V))) ?_ (n1_dec _)⟩
    rw [L.vt _ k2, k3, ← decide_not, decide_eq_decide]; omega
  rw [if_neg o22]
  have o24 : op = 24 := by omega
  subst o24
  refine wpG_bind (wpG_mono (less_wp L hx hy (by omega)) ?_)
  rintro n r ⟨k1, k2, k3⟩
  refine ⟨cnt _ (by omega), one (L.wt _ k2), res (b := decide (toN (y.map V) ≤ toN (x.map V))) ?_ (n1_dec _)⟩
  rw [L.vt _ k2, k3, ← decide_not, decide_eq_decide]; omega
end
end Fil.Bl

namespace Fil.Bl
open Abs Go
theorem wrapU (n : Int) (h : 0 ≤ n) (h2 : n < 18446744073709551616) : IntKind.u64.wrap n = n := by
  simp [IntKind.wrap, IntKind.signed, IntKind.bits]; omega
theorem wrapU_mod (n : Int) : IntKind.u64.wrap n = n % 18446744073709551616 := by
  simp [IntKind.wrap, IntKind.signed, IntKind.bits]
theorem ofU (a : Nat) : (BitVec.ofInt 64 (a : Int)).toNat = a % 18446744073709551616 := by
  rw [BitVec.toNat_ofInt]; omega
theorem andU (a b : Nat) (ha : a < 18446744073709551616) (hb : b < 18446744073709551616) : IntKind.u64.wrap ((BitVec.ofInt IntKind.u64.bits (a : Int) &&& BitVec.ofInt IntKind.u64.bits (b : Int)).toNat : Nat) = ((a &&& b : Nat) : Int) := by
  have e : (BitVec.ofInt 64 (a : Int) &&& BitVec.ofInt 64 (b : Int)).toNat = a &&& b := by
    rw [BitVec.toNat_and, ofU, ofU, Nat.mod_eq_of_lt ha, Nat.mod_eq_of_lt hb]
  show IntKind.u64.wrap ((BitVec.ofInt 64 (a : Int) &&& BitVec.ofInt 64 (b : Int)).toNat : Nat) = _
  rw [e]
  have := Nat.and_le_left (n := a) (m := b)
  exact wrapU _ (by omega) (by omega)
theorem orU (a b : Nat) (ha : a < 18446744073709551616) (hb : b < 18446744073709551616) : IntKind.u64.wrap ((BitVec.ofInt IntKind.u64.bits (a : Int) ||| BitVec.ofInt IntKind.u64.bits (b : Int)).toNat : Nat) = ((a ||| b : Nat) : Int) := by
  have e : (BitVec.ofInt 64 (a : Int) ||| BitVec.ofInt 64 (b : Int)).toNat = a ||| b := by
    rw [BitVec.toNat_or, ofU, ofU, Nat.mod_eq_of_lt ha, Nat.mod_eq_of_lt hb]
  show IntKind.u64.wrap ((BitVec.ofInt 64 (a : Int) ||| BitVec.ofInt 64 (b : Int)).toNat : Nat) = _
  rw [e]
  have : a ||| b < 2 ^ 64 := Nat.or_lt_two_pow (by omega) (by omega)
  exact wrapU _ (by omega) (by omega)
theorem xorU (a b : Nat) (ha : a < 18446744073709551616) (hb : b < 18446744073709551616) : IntKind.u64.wrap ((BitVec.ofInt IntKind.u64.bits (a : Int) ^^^ BitVec.ofInt IntKind.u64.bits (b : Int)).toNat : Nat) = ((a ^^^ b : Nat) : Int) := by
  have e : (BitVec.ofInt 64 (a : Int) ^^^ BitVec.ofInt 64 (b : Int)).toNat = a ^^^ b := by
    rw [BitVec.toNat_xor, ofU, ofU, Nat.mod_eq_of_lt ha, Nat.mod_eq_of_lt hb]
  show IntKind.u64.wrap ((BitVec.ofInt 64 (a : Int) ^^^ BitVec.ofInt 64 (b : Int)).toNat : Nat) = _
  rw [e]
  have : a ^^^ b < 2 ^ 64 := Nat.xor_lt_two_pow (by omega) (by omega)
  exact wrapU _ (by omega) (by omega)
theorem and1U (a : Nat) (ha : a < 18446744073709551616) : IntKind.u64.wrap ((BitVec.ofInt IntKind.u64.bits (a : Int) &&& BitVec.ofInt IntKind.u64.bits 1).toNat : Nat) = ((a % 2 : Nat) : Int) := by
  have := andU a 1 ha (by omega)
  rw [Nat.and_one_is_mod] at this
  exact this
theorem fdivU (a k : Nat) : ((a : Int).fdiv (2 ^ k)) = ((a / 2 ^ k : Nat) : Int) := by
  have e : (2 : Int) ^ k = ((2 ^ k : Nat) : Int) := by simp
  rw [e, Int.fdiv_eq_ediv_of_nonneg _ (Int.natCast_nonneg _), Int.natCast_ediv]
theorem shlU (a k : Nat) : IntKind.u64.wrap ((a : Int) * 2 ^ k) = ((a * 2 ^ k % 18446744073709551616 : Nat) : Int) := by
  have e : (2 : Int) ^ k = ((2 ^ k : Nat) : Int) := by simp
  rw [wrapU_mod, e]
  simp

/-! ### Masks -/
def maskN (w : Int) : Nat := if w < 1 then 0 else if 63 < w then 18446744073709551615 else 2 ^ w.toNat - 1
theorem maskN_of {w : Int} (h : 1 ≤ w ∧ w ≤ 64) : maskN w = 2 ^ w.toNat - 1 := by
  unfold maskN
  rw [if_neg (by omega)]
  split
  · have : w = 64 := by omega
    subst this; rfl
  · rfl
theorem maskN_lt (w : Int) : maskN w < 18446744073709551616 := by
  unfold maskN
  split
  · omega
  split
  · omega
  · have : 2 ^ w.toNat ≤ 2 ^ 63 := Nat.pow_le_pow_right (by omega) (by omega)
    have e : (2 : Nat) ^ 63 = 9223372036854775808 := by decide
    omega
theorem pow_lt64 {w : Int} (h : 1 ≤ w ∧ w ≤ 64) : 2 ^ w.toNat ≤ 18446744073709551616 := by
  have : 2 ^ w.toNat ≤ 2 ^ 64 := Nat.pow_le_pow_right (by omega) (by omega)
  have e : (2 : Nat) ^ 64 = 18446744073709551616 := by decide
  omega
def bitsN (w : Int) (v : Nat) : Bool := decide (1 ≤ w ∧ w ≤ 64 ∧ v ≤ maskN w)
theorem bitsN_iff {w : Int} {v : Nat} : bitsN w v = true ↔ (1 ≤ w ∧ w ≤ 64) ∧ v < 2 ^ w.toNat := by
  unfold bitsN
  rw [decide_eq_true_eq]
  constructor
  · rintro ⟨h1, h2, h3⟩
    rw [maskN_of ⟨h1, h2⟩] at h3
    have := Nat.two_pow_pos w.toNat
    exact ⟨⟨h1, h2⟩, by omega⟩
  · rintro ⟨h1, h2⟩
    refine ⟨h1.1, h1.2, ?_⟩
    rw [maskN_of h1]; omega
end Fil.Bl

namespace Go.Proofs.Ytbbihmmobfmadaa
open Abs Fil Fil.Bl
abbrev encB (w : Int) (v : Nat) : AV := .agg [.int .i64 w, .int .u64 v]
theorem rf_Mask (w : Int) (σ : Sig) : ACalls Try.prog 14 [.int .i64 w] σ (fun r σ' => r = .ret (.int .u64 (maskN w)) ∧ σ' = σ) := by
  have hv : (w < 1 ∧ maskN w = 0) ∨ (¬ w < 1 ∧ 63 < w ∧ maskN w = 18446744073709551615) ∨ (¬ w < 1 ∧ ¬ 63 < w ∧ maskN w = 2 ^ w.toNat - 1) := by
    unfold maskN
    by_cases h1 : w < 1
    · exact .inl ⟨h1, by rw [if_pos h1]⟩
    · by_cases h2 : 63 < w
      · exact .inr (.inl ⟨h1, h2, by rw [if_neg h1, if_pos h2]⟩)
      · exact .inr (.inr ⟨h1, h2, by rw [if_neg h1, if_neg h2]⟩)
  refine calls_x mixed Try.func14 b14 n14 rfl q14 (by simp) ?_; unfold c14 r14
  rcases hv with ⟨h1, h2⟩ | ⟨h1, h2, h3⟩ | ⟨h1, h2, h3⟩
  · rw [h2]
    clear h2
    repeat' (first | simp (maxDischargeDepth := 9) -implicitDefEqProofs -dsimp only [go_sem, seval, *])
    refine fin_eq ?_
    (repeat' (first | simp (maxDischargeDepth := 9) -implicitDefEqProofs -dsimp only [go_sem, seval, Int.natCast_zero, *])) <;> (repeat' refine And.intro ?_ ?_) <;> (first | omega | rfl | assumption | skip)
  · rw [h3]
    clear h3
    repeat' (first | simp (maxDischargeDepth := 9) -implicitDefEqProofs -dsimp only [go_sem, seval, gt_iff_lt, *])
    refine fin_eq ?_
    (repeat' (first | simp (maxDischargeDepth := 9) -implicitDefEqProofs -dsimp only [go_sem, seval, *])) <;> (repeat' refine And.intro ?_ ?_) <;> (first | omega | rfl | assumption | skip)
  · have h0 : ¬ w < 0 := by omega
    have hm : Nat.min w.toNat 64 = w.toNat := Nat.min_eq_left (by omega)
    have hlt : 2 ^ w.toNat ≤ 2 ^ 63 := Nat.pow_le_pow_right (by omega) (by omega)
    have e63 : (2 : Nat) ^ 63 = 9223372036854775808 := by decide
    have hs : IntKind.u64.wrap (1 * 2 ^ w.toNat) = ((2 ^ w.toNat : Nat) : Int) := by
      have := shlU 1 w.toNat
      rw [Nat.one_mul, Nat.mod_eq_of_lt (by omega)] at this
      exact this
    have hp := Nat.two_pow_pos w.toNat
    have hsb : IntKind.u64.wrap (((2 ^ w.toNat : Nat) : Int) - 1) = ((2 ^ w.toNat - 1 : Nat) : Int) := by
      rw [wrapU _ (by omega) (by omega)]; omega
    rw [h3]
    obtain ⟨M, hM⟩ : ∃ M, 2 ^ w.toNat - 1 = M := ⟨_, rfl⟩
    rw [hM] at hsb ⊢
    obtain ⟨N, hN⟩ : ∃ M, 2 ^ w.toNat = M := ⟨_, rfl⟩
    rw [hN] at hs hsb
    clear h3 hlt e63 hp hM hN
    repeat' (first | simp (maxDischargeDepth := 9) -implicitDefEqProofs -dsimp only [go_sem, seval, gt_iff_lt, *])
    refine fin_eq ?_
    (repeat' (first | simp (maxDischargeDepth := 9) -implicitDefEqProofs -dsimp only [go_sem, seval, *])) <;> (repeat' refine And.intro ?_ ?_) <;> (first | omega | rfl | assumption | skip)
theorem rf_Check01 (w : Int) (v : Nat) (σ : Sig) : ACalls Try.prog 33 [encB w v] σ (fun r σ' => r = .ret (.int .i64 (if bitsN w v then 0 else 1)) ∧ σ' = σ) := by
  have c1 := fun τ => rf_Mask w τ
  have hv : bitsN w v = decide (1 ≤ w ∧ w ≤ 64 ∧ v ≤ maskN w) := rfl
  obtain ⟨B, hB⟩ : ∃ B, bitsN w v = B := ⟨_, rfl⟩
  rw [hB] at hv ⊢
  obtain ⟨M, hM⟩ : ∃ M, maskN w = M := ⟨_, rfl⟩
  rw [hM] at c1 hv
  clear hB hM
  refine calls_x mixed Try.func33 b33 n33 rfl q33 (by simp) ?_; unfold c33 r33
  by_cases h1 : w < 1
  · have hb : B = false := by rw [hv]; exact decide_eq_false (by omega)
    subst hb
    clear hv
    repeat' (first | simp (maxDischargeDepth := 9) -implicitDefEqProofs -dsimp only [go_sem, seval, *] | ((with_reducible apply id_one0); (focus (intro tS hS; ((first | with_reducible refine c1 _) <;> (first | (simp (maxDischargeDepth := 9) -implicitDefEqProofs -dsimp only [go_sem, seval, *]; done) | omega | ((with_reducible refine Sub.get hS ?_); simp (maxDischargeDepth := 9) -implicitDefEqProofs -dsimp only [go_sem, seval, *]; done))))); (focus (first | trivial | (simp (maxDischargeDepth := 9) -implicitDefEqProofs -dsimp only [go_sem, seval, *]; done)))))
    refine fin_eq ?_
    (repeat' (first | simp (maxDischargeDepth := 9) -implicitDefEqProofs -dsimp only [go_sem, seval, *])) <;> (repeat' refine And.intro ?_ ?_) <;> (first | omega | rfl | assumption | skip)
  by_cases h2 : 64 < w
  · have hb : B = false := by rw [hv]; exact decide_eq_false (by omega)
    subst hb
    clear hv
    repeat' (first | simp (maxDischargeDepth := 9) -implicitDefEqProofs -dsimp only [go_sem, seval, gt_iff_lt, *] | ((with_reducible apply id_one0); (focus (intro tS hS; ((first | with_reducible refine c1 _) <;> (first | (simp (maxDischargeDepth := 9) -implicitDefEqProofs -dsimp only [go_sem, seval, *]; done) | omega | ((with_reducible refine Sub.get hS ?_); simp (maxDischargeDepth := 9) -implicitDefEqProofs -dsimp only [go_sem, seval, *]; done))))); (focus (first | trivial | (simp (maxDischargeDepth := 9) -implicitDefEqProofs -dsimp only [go_sem, seval, *]; done)))))
    refine fin_eq ?_
    (repeat' (first | simp (maxDischargeDepth := 9) -implicitDefEqProofs -dsimp only [go_sem, seval, *])) <;> (repeat' refine And.intro ?_ ?_) <;> (first | omega | rfl | assumption | skip)
  by_cases h3 : (M : Int) < v
  · have hb : B = false := by rw [hv]; exact decide_eq_false (by omega)
    subst hb
    clear hv
    repeat' (first | simp (maxDischargeDepth := 9) -implicitDefEqProofs -dsimp only [go_sem, seval, gt_iff_lt, *] | ((with_reducible apply id_one0); (focus (intro tS hS; ((first | with_reducible refine c1 _) <;> (first | (simp (maxDischargeDepth := 9) -implicitDefEqProofs -dsimp only [go_sem, seval, *]; done) | omega | ((with_reducible refine Sub.get hS ?_); simp (maxDischargeDepth := 9) -implicitDefEqProofs -dsimp only [go_sem, seval, *]; done))))); (focus (first | trivial | (simp (maxDischargeDepth := 9) -implicitDefEqProofs -dsimp only [go_sem, seval, *]; done)))))
    refine fin_eq ?_
    (repeat' (first | simp (maxDischargeDepth := 9) -implicitDefEqProofs -dsimp only [go_sem, seval, *])) <;> (repeat' refine And.intro ?_ ?_) <;> (first | omega | rfl | assumption | skip)
  · have hb : B = true := by rw [hv]; exact decide_eq_true (by omega)
    subst hb
    clear hv
    repeat' (first | simp (maxDischargeDepth := 9) -implicitDefEqProofs -dsimp only [go_sem, seval, gt_iff_lt, *] | ((with_reducible apply id_one0); (focus (intro tS hS; ((first | with_reducible refine c1 _) <;> (first | (simp (maxDischargeDepth := 9) -implicitDefEqProofs -dsimp only [go_sem, seval, *]; done) | omega | ((with_reducible refine Sub.get hS ?_); simp (maxDischargeDepth := 9) -implicitDefEqProofs -dsimp only [go_sem, seval, *]; done))))); (focus (first | trivial | (simp (maxDischargeDepth := 9) -implicitDefEqProofs -dsimp only [go_sem, seval, *]; done)))))
    refine fin_eq ?_
    (repeat' (first | simp (maxDischargeDepth := 9) -implicitDefEqProofs -dsimp only [go_sem, seval, *])) <;> (repeat' refine And.intro ?_ ?_) <;> (first | omega | rfl | assumption | skip)
theorem rf_bit (b : Bool) (σ : Sig) : ACalls Try.prog 36 [.bool b] σ (fun r σ' => r = .ret (encB 1 b.toNat) ∧ σ' = σ) := by
  refine calls_x mixed Try.func36 b36 n36 rfl q36 (by simp) ?_; unfold c36 r36
  cases b
  all_goals
    repeat' (first | simp (maxDischargeDepth := 9) -implicitDefEqProofs -dsimp only [go_sem, seval, Bool.toNat_true, Bool.toNat_false, *] | ((with_reducible refine Zt (fun oF hoF hnF hnF' => ?_)); (try simp only [upd_none, ne_eq, not_and] at hoF)))
    refine fin_eq ?_
    (repeat' (first | simp (maxDischargeDepth := 9) -implicitDefEqProofs -dsimp only [go_sem, seval, Bool.toNat_true, Bool.toNat_false, Int.natCast_zero, Int.natCast_one, *])) <;> (repeat' refine And.intro ?_ ?_) <;> (first | omega | rfl | assumption | skip)
theorem rf_up (v n : Nat) (σ : Sig) (hn : n < 18446744073709551616) : ACalls Try.prog 34 [.int .u64 v, .int .u64 n] σ (fun r σ' => r = .ret (.int .u64 ((if 63 < n then 0 else v * 2 ^ n % 18446744073709551616 : Nat))) ∧ σ' = σ) := by
  refine calls_x mixed Try.func34 b34 n34 rfl q34 (by simp) ?_; unfold c34 r34
  by_cases h : 63 < n
  · rw [if_pos h]
    have h2 : (63 : Int) < (n : Nat) := by omega
    repeat' (first | simp (maxDischargeDepth := 9) -implicitDefEqProofs -dsimp only [go_sem, seval, gt_iff_lt, *])
    refine fin_eq ?_
    (repeat' (first | simp (maxDischargeDepth := 9) -implicitDefEqProofs -dsimp only [go_sem, seval, Int.natCast_zero, *])) <;> (repeat' refine And.intro ?_ ?_) <;> (first | omega | rfl | assumption | skip)
  · rw [if_neg h]
    have h2 : ¬ (63 : Int) < (n : Nat) := by omega
    have h3 : ¬ (n : Int) < 0 := by omega
    have hm : Nat.min n 64 = n := Nat.min_eq_left (by omega)
    have hs := shlU v n
    obtain ⟨R, hR⟩ : ∃ R, v * 2 ^ n % 18446744073709551616 = R := ⟨_, rfl⟩
    rw [hR] at hs ⊢
    repeat' (first | simp (maxDischargeDepth := 9) -implicitDefEqProofs -dsimp only [go_sem, seval, gt_iff_lt, *])
    refine fin_eq ?_
    (repeat' (first | simp (maxDischargeDepth := 9) -implicitDefEqProofs -dsimp only [go_sem, seval, *])) <;> (repeat' refine And.intro ?_ ?_) <;> (first | omega | rfl | assumption | skip)
theorem rf_down (v n : Nat) (σ : Sig) (hn : n < 18446744073709551616) : ACalls Try.prog 35 [.int .u64 v, .int .u64 n] σ (fun r σ' => r = .ret (.int .u64 ((if 63 < n then 0 else v / 2 ^ n : Nat))) ∧ σ' = σ) := by
  refine calls_x mixed Try.func35 b35 n35 rfl q35 (by simp) ?_; unfold c35 r35
  by_cases h : 63 < n
  · rw [if_pos h]
    have h2 : (63 : Int) < (n : Nat) := by omega
    repeat' (first | simp (maxDischargeDepth := 9) -implicitDefEqProofs -dsimp only [go_sem, seval, gt_iff_lt, *])
    refine fin_eq ?_
    (repeat' (first | simp (maxDischargeDepth := 9) -implicitDefEqProofs -dsimp only [go_sem, seval, Int.natCast_zero, *])) <;> (repeat' refine And.intro ?_ ?_) <;> (first | omega | rfl | assumption | skip)
  · rw [if_neg h]
    have h2 : ¬ (63 : Int) < (n : Nat) := by omega
    have h3 : ¬ (n : Int) < 0 := by omega
    have hm : Nat.min n 64 = n := Nat.min_eq_left (by omega)
    have hs := fdivU v n
    obtain ⟨R, hR⟩ : ∃ R, v / 2 ^ n = R := ⟨_, rfl⟩
    rw [hR] at hs ⊢
    repeat' (first | simp (maxDischargeDepth := 9) -implicitDefEqProofs -dsimp only [go_sem, seval, gt_iff_lt, *])
    refine fin_eq ?_
    (repeat' (first | simp (maxDischargeDepth := 9) -implicitDefEqProofs -dsimp only [go_sem, seval, *])) <;> (repeat' refine And.intro ?_ ?_) <;> (first | omega | rfl | assumption | skip)
end Go.Proofs.Ytbbihmmobfmadaa

namespace Go.Proofs.Ytbbihmmobfmadaa
open Abs Fil Fil.Bl
theorem bits_ok {w a : Nat} (hw : 1 ≤ w ∧ w ≤ 64) (ha : a < 2 ^ w) : bitsN w a = true := bitsN_iff.2 ⟨by omega, by simpa using ha⟩
theorem lt64 {w a : Nat} (hw : 1 ≤ w ∧ w ≤ 64) (ha : a < 2 ^ w) : a < 18446744073709551616 := by
  have := pow_lt64 (w := w) (by omega)
  simp only [Int.toNat_natCast] at this
  omega
theorem mask_eq {w : Nat} (hw : 1 ≤ w ∧ w ≤ 64) : maskN w = 2 ^ w - 1 := by rw [maskN_of (by omega)]; simp
theorem pow_dvd64 {w : Nat} (hw : w ≤ 64) : ∃ k, 18446744073709551616 = 2 ^ w * k := ⟨2 ^ (64 - w), by
  rw [← Nat.pow_add, show w + (64 - w) = 64 by omega]⟩
theorem mod_pow {w : Nat} (hw : w ≤ 64) (n : Nat) : n % 18446744073709551616 % 2 ^ w = n % 2 ^ w := by
  obtain ⟨k, hk⟩ := pow_dvd64 hw
  exact Nat.mod_mod_of_dvd n ⟨k, hk⟩
end Go.Proofs.Ytbbihmmobfmadaa

