/- Plain laws of layer 19: what operations mean, one behind the other; of numbers; once more. -/
import Derived.Test.YtbbihmmobfmadaaSBlaAigD
set_option linter.unusedSimpArgs false
set_option linter.unusedVariables false
namespace Go.Proofs.Ytbbihmmobfmadaa.A
open Abs Fil
theorem ref_Lit (n a : Int) (σ : Sig) (h1 : -1000000000 ≤ n) (h2 : n ≤ 1000000000) : ACalls Try.prog 62 [.int .i64 n, .int .i64 a] σ (fun r σ' => r = .ret (.bool (Aig.litN n a)) ∧ σ' = σ) := by
  refine calls_x mixed Try.func62 b62 n62 rfl q62 (by simp) ?_; unfold c62 r62
  repeat' (first | simp (maxDischargeDepth := 9) -implicitDefEqProofs -dsimp only [go_sem, seval, ge_iff_le, *] | simp (disch := omega) only [wrap64] | (with_reducible (first | apply Za) <;> intro hq))
  · refine fin_eq ?_
    (repeat' (first | simp (maxDischargeDepth := 9) -implicitDefEqProofs -dsimp only [go_sem, seval, Aig.litN, *] | simp (disch := omega) only [wrap64])) <;> (repeat' refine And.intro ?_ ?_) <;> (first | omega | rfl | assumption | skip)
  · refine fin_eq ?_
    (repeat' (first | simp (maxDischargeDepth := 9) -implicitDefEqProofs -dsimp only [go_sem, seval, Aig.litN, *] | simp (disch := omega) only [wrap64])) <;> (repeat' refine And.intro ?_ ?_) <;> (first | omega | rfl | assumption | skip)
theorem ref_Count (g : Aig) (σ : Sig) (hs : Small g) : ACalls Try.prog 63 [encAig g] σ (fun r σ' => r = .ret (.int .i64 (1 + g.count)) ∧ σ' = σ) := by
  refine calls_x mixed Try.func63 b63 n63 rfl q63 (by simp) ?_; unfold c63 r63
  obtain ⟨⟨h0, h1, h2, h3, h4, h5, h6⟩, h7, h8⟩ := hs
  repeat' (first | simp (maxDischargeDepth := 9) -implicitDefEqProofs -dsimp only [go_sem, seval, *] | simp (disch := omega) only [wrap64])
  exact fin_id ⟨by simp only [Aig.count, Int.add_assoc], rfl⟩
theorem ref_Check (g : Aig) (σ : Sig) (hs : Wf g) : ACalls Try.prog 30 [encAig g] σ (fun r σ' => r = .ret (.int .i64 g.check) ∧ σ' = σ) := by
  refine calls_x mixed Try.func30 b30 n30 rfl q30 (by simp) ?_; unfold c30 r30
  have hfl := hs.flops
  have hal := hs.ands
  have hol := hs.outs
  by_cases hlo : g.ins < 0
  · have hv : g.check = 1 := by simp [Aig.check, hlo]
    repeat' (first | simp (maxDischargeDepth := 9) -implicitDefEqProofs -dsimp only [go_sem, seval, *] | simp (disch := omega) only [wrap64] | (with_reducible (first | apply Zb | apply Zc | apply Zp | apply Zr) <;> intro hq) | ((with_reducible refine Zu ?_ ?_); focus omega))
    refine fin_eq ?_
    (repeat' (first | simp (maxDischargeDepth := 9) -implicitDefEqProofs -dsimp only [go_sem, seval, *] | simp (disch := omega) only [wrap64])) <;> (repeat' refine And.intro ?_ ?_) <;> (first | omega | rfl | assumption | skip)
  by_cases hhi : 65536 < g.ins
  · have hv : g.check = 2 := by simp [Aig.check, hlo, hhi]
    repeat' (first | simp (maxDischargeDepth := 9) -implicitDefEqProofs -dsimp only [go_sem, seval, gt_iff_lt, *] | simp (disch := omega) only [wrap64] | (with_reducible (first | apply Zb | apply Zc | apply Zp | apply Zr) <;> intro hq) | ((with_reducible refine Zu ?_ ?_); focus omega))
    refine fin_eq ?_
    (repeat' (first | simp (maxDischargeDepth := 9) -implicitDefEqProofs -dsimp only [go_sem, seval, *] | simp (disch := omega) only [wrap64])) <;> (repeat' refine And.intro ?_ ?_) <;> (first | omega | rfl | assumption | skip)
  have hsm : Small g := ⟨hs, by omega, by omega⟩
  by_cases hb : 65536 < g.count ∨ 65536 < (g.outs.length : Int)
  · have hv : g.check = 2 := by simp [Aig.check, hlo, hhi, hb]
    have hb' : 65536 < g.ins + g.flops.length + g.ands.length ∨ 65536 < (g.outs.length : Int) := hb
    repeat' (first | simp (maxDischargeDepth := 9) -implicitDefEqProofs -dsimp only [go_sem, seval, gt_iff_lt, *] | simp (disch := omega) only [wrap64] | (with_reducible (first | apply Zb | apply Zc | apply Zp | apply Zr) <;> intro hq) | ((with_reducible refine Zu ?_ ?_); focus omega))
    all_goals first | (exfalso; omega) | (refine fin_eq ?_; (repeat' (first | simp (maxDischargeDepth := 9) -implicitDefEqProofs -dsimp only [go_sem, seval, *] | simp (disch := omega) only [wrap64])) <;> (repeat' refine And.intro ?_ ?_) <;> (first | omega | rfl | assumption | skip))
  have hv : g.check = if g.good then 0 else 1 := by simp [Aig.check, hlo, hhi, hb]
  have hcnt : g.ins + g.flops.length + g.ands.length ≤ 65536 ∧ (g.outs.length : Int) ≤ 65536 := by
    unfold Aig.count at hb; omega
  have hc1 : 0 ≤ g.count ∧ g.count ≤ 65536 := by unfold Aig.count; omega
  have bad1 : ∀ i, (h : i < g.ands.length) → ¬ (Aig.litN (1 + g.ins + g.flops.length + i) g.ands[i].1 = true ∧ Aig.litN (1 + g.ins + g.flops.length + i) g.ands[i].2 = true) → g.good = false := fun i h hn => by
    have : Aig.gatesOk g.first g.ands = false := gatesOk_false h (fun ⟨k1, k2⟩ => hn ⟨litN_iff.2 (by unfold Aig.first at k1; omega), litN_iff.2 (by unfold Aig.first at k2; omega)⟩)
    simp [Aig.good, this]
  have bad2 : ∀ i, (h : i < g.flops.length) → Aig.litN (1 + g.count) g.flops[i].next = false → g.good = false := fun i h hn => by
    have : (g.flops.any fun f => !g.lit f.next) = true := by simp only [List.any_eq_true]; exact ⟨_, List.getElem_mem h, by simp [Aig.lit, hn]⟩
    simp [Aig.good, this]
  have bad3 : ∀ i, (h : i < g.outs.length) → Aig.litN (1 + g.count) g.outs[i] = false → g.good = false := fun i h hn => by
    have : (g.outs.any fun a => !g.lit a) = true := by simp only [List.any_eq_true]; exact ⟨_, List.getElem_mem h, by simp [Aig.lit, hn]⟩
    simp [Aig.good, this]
  have hb2 : ¬ 65536 < (g.outs.length : Int) := by omega
  have hb3 : ¬ 65536 < g.ins + g.flops.length + g.ands.length := by omega
  repeat' (first | simp (maxDischargeDepth := 9) -implicitDefEqProofs -dsimp only [go_sem, seval, gt_iff_lt, *] | simp (disch := omega) only [wrap64] | (with_reducible (first | apply Zb | apply Zc | apply Zp | apply Zr) <;> intro hq) | ((with_reducible refine Zu ?_ ?_); focus omega))
  refine loop_rule (fun i : Nat => [(4, some (.int .i64 i)), (1, some (.cptr (aigL g))), (3, some (.int .i64 (1 + g.ins + g.flops.length)))]) (fun _ => σ)
    (fun i => i ≤ g.ands.length ∧ ∀ j, (hj : j < g.ands.length) → j < i → Aig.litN (1 + g.ins + g.flops.length + j) g.ands[j].1 = true ∧ Aig.litN (1 + g.ins + g.flops.length + j) g.ands[j].2 = true) (fun i => g.ands.length - i) 0 ?_ ?_
  · (repeat' (first | simp (maxDischargeDepth := 9) -implicitDefEqProofs -dsimp only [go_sem, seval, *] | simp (disch := omega) only [wrap64])) <;> (repeat' refine And.intro ?_ ?_) <;> (first | omega | rfl | assumption | skip)
  · rintro i ⟨hi, hok1⟩
    by_cases hlt : i < g.ands.length
    · have hgb := bad1 i hlt
      clear bad1 bad2 bad3
      repeat' (first | simp (maxDischargeDepth := 9) -implicitDefEqProofs -dsimp only [go_sem, seval, *] | simp (disch := omega) only [wrap64] | (with_reducible (first | apply Zb | apply Zc | apply Zp | apply Zr) <;> intro hq) | ((with_reducible refine Zu ?_ ?_); focus omega) | ((with_reducible apply ACalls.one1); (focus ((first | with_reducible refine ref_Lit (1 + g.ins + g.flops.length + i) g.ands[i].1 _ ?_ ?_ | with_reducible refine ref_Lit (1 + g.ins + g.flops.length + i) g.ands[i].2 _ ?_ ?_) <;> (first | (simp (maxDischargeDepth := 9) -implicitDefEqProofs -dsimp only [go_sem, seval, *]; done) | omega))); (focus (first | trivial | with_reducible exact rfl | (simp (maxDischargeDepth := 9) -implicitDefEqProofs -dsimp only [go_sem, seval]; done)))))
      all_goals first | (have hx : g.good = false := hgb (by simp [*]); refine fin_eq ?_; (repeat' (first | simp (maxDischargeDepth := 9) -implicitDefEqProofs -dsimp only [go_sem, seval, Bool.false_eq_true, *] | simp (disch := omega) only [wrap64])) <;> (repeat' refine And.intro ?_ ?_) <;> (first | omega | rfl | assumption | skip); done) | skip
      refine loop_next _ _ _ _ (i + 1) ?_; (repeat' (first | simp (maxDischargeDepth := 9) -implicitDefEqProofs -dsimp only [go_sem, seval, *] | simp (disch := omega) only [wrap64])) <;> (repeat' refine And.intro ?_ ?_) <;> (first | omega | rfl | assumption | skip)
      intro j hj h
      rcases Nat.lt_or_ge j i with h' | h'
      · exact hok1 j hj h'
      · obtain rfl : j = i := by omega
        exact ⟨by assumption, by assumption⟩
    · repeat' (first | simp (maxDischargeDepth := 9) -implicitDefEqProofs -dsimp only [go_sem, seval, *] | simp (disch := omega) only [wrap64] | (with_reducible (first | apply Zb | apply Zc | apply Zp | apply Zr) <;> intro hq) | ((with_reducible refine Zu ?_ ?_); focus omega))
      refine loop_rule (fun i : Nat => [(5, some (.int .i64 i)), (1, some (.cptr (aigL g)))]) (fun _ => σ) (fun i => i ≤ g.flops.length ∧ ∀ j, (hj : j < g.flops.length) → j < i → Aig.litN (1 + g.count) g.flops[j].next = true) (fun i => g.flops.length - i) 0 ?_ ?_
      · (repeat' (first | simp (maxDischargeDepth := 9) -implicitDefEqProofs -dsimp only [go_sem, seval, *] | simp (disch := omega) only [wrap64])) <;> (repeat' refine And.intro ?_ ?_) <;> (first | omega | rfl | assumption | skip)
      · rintro k ⟨hk, hok2⟩
        by_cases hlt2 : k < g.flops.length
        · have hgb := bad2 k hlt2
          clear bad1 bad2 bad3
          repeat' (first | simp (maxDischargeDepth := 9) -implicitDefEqProofs -dsimp only [go_sem, seval, *] | simp (disch := omega) only [wrap64] | (with_reducible (first | apply Zb | apply Zc | apply Zp | apply Zr) <;> intro hq) | ((with_reducible refine Zu ?_ ?_); focus omega) | ((with_reducible apply ACalls.one1); (focus ((first | with_reducible refine ref_Count g _ hsm | with_reducible refine ref_Lit (1 + g.count) g.flops[k].next _ ?_ ?_) <;> (first | (simp (maxDischargeDepth := 9) -implicitDefEqProofs -dsimp only [go_sem, seval, *]; done) | omega))); (focus (first | trivial | with_reducible exact rfl | (simp (maxDischargeDepth := 9) -implicitDefEqProofs -dsimp only [go_sem, seval]; done)))) | ((with_reducible apply id_one0); (focus (intro tS hS; ((first | with_reducible refine ref_Count g _ hsm | with_reducible refine ref_Lit (1 + g.count) g.flops[k].next _ ?_ ?_) <;> (first | (simp (maxDischargeDepth := 9) -implicitDefEqProofs -dsimp only [go_sem, seval, *]; done) | omega | ((with_reducible refine Sub.get hS ?_); simp (maxDischargeDepth := 9) -implicitDefEqProofs -dsimp only [go_sem, seval, *]; done))))); (focus (first | trivial | (simp (maxDischargeDepth := 9) -implicitDefEqProofs -dsimp only [go_sem, seval, *]; done)))))
          · refine loop_next _ _ _ _ (k + 1) ?_; (repeat' (first | simp (maxDischargeDepth := 9) -implicitDefEqProofs -dsimp only [go_sem, seval, *] | simp (disch := omega) only [wrap64])) <;> (repeat' refine And.intro ?_ ?_) <;> (first | omega | rfl | assumption | skip)
            intro j hj h
            rcases Nat.lt_or_ge j k with h' | h'
            · exact hok2 j hj h'
            · obtain rfl : j = k := by omega
              assumption
          · have hx := hgb hq
            refine fin_eq ?_
            (repeat' (first | simp (maxDischargeDepth := 9) -implicitDefEqProofs -dsimp only [go_sem, seval, Bool.false_eq_true, *] | simp (disch := omega) only [wrap64])) <;> (repeat' refine And.intro ?_ ?_) <;> (first | omega | rfl | assumption | skip)
        · repeat' (first | simp (maxDischargeDepth := 9) -implicitDefEqProofs -dsimp only [go_sem, seval, *] | simp (disch := omega) only [wrap64] | (with_reducible (first | apply Zb | apply Zc | apply Zp | apply Zr) <;> intro hq) | ((with_reducible refine Zu ?_ ?_); focus omega))
          refine loop_rule (fun i : Nat => [(6, some (.int .i64 i)), (1, some (.cptr (aigL g)))]) (fun _ => σ) (fun i => i ≤ g.outs.length ∧ ∀ j, (hj : j < g.outs.length) → j < i → Aig.litN (1 + g.count) g.outs[j] = true) (fun i => g.outs.length - i) 0 ?_ ?_
          · (repeat' (first | simp (maxDischargeDepth := 9) -implicitDefEqProofs -dsimp only [go_sem, seval, *] | simp (disch := omega) only [wrap64])) <;> (repeat' refine And.intro ?_ ?_) <;> (first | omega | rfl | assumption | skip)
          · rintro m ⟨hm, hok3⟩
            by_cases hlt3 : m < g.outs.length
            · have hgb := bad3 m hlt3
              clear bad1 bad2 bad3
              repeat' (first | simp (maxDischargeDepth := 9) -implicitDefEqProofs -dsimp only [go_sem, seval, *] | simp (disch := omega) only [wrap64] | (with_reducible (first | apply Zb | apply Zc | apply Zp | apply Zr) <;> intro hq) | ((with_reducible refine Zu ?_ ?_); focus omega) | ((with_reducible apply ACalls.one1); (focus ((first | with_reducible refine ref_Count g _ hsm | with_reducible refine ref_Lit (1 + g.count) g.outs[m] _ ?_ ?_) <;> (first | (simp (maxDischargeDepth := 9) -implicitDefEqProofs -dsimp only [go_sem, seval, *]; done) | omega))); (focus (first | trivial | with_reducible exact rfl | (simp (maxDischargeDepth := 9) -implicitDefEqProofs -dsimp only [go_sem, seval]; done)))) | ((with_reducible apply id_one0); (focus (intro tS hS; ((first | with_reducible refine ref_Count g _ hsm | with_reducible refine ref_Lit (1 + g.count) g.outs[m] _ ?_ ?_) <;> (first | (simp (maxDischargeDepth := 9) -implicitDefEqProofs -dsimp only [go_sem, seval, *]; done) | omega | ((with_reducible refine Sub.get hS ?_); simp (maxDischargeDepth := 9) -implicitDefEqProofs -dsimp only [go_sem, seval, *]; done))))); (focus (first | trivial | (simp (maxDischargeDepth := 9) -implicitDefEqProofs -dsimp only [go_sem, seval, *]; done)))))
              · refine loop_next _ _ _ _ (m + 1) ?_; (repeat' (first | simp (maxDischargeDepth := 9) -implicitDefEqProofs -dsimp only [go_sem, seval, *] | simp (disch := omega) only [wrap64])) <;> (repeat' refine And.intro ?_ ?_) <;> (first | omega | rfl | assumption | skip)
                intro j hj h
                rcases Nat.lt_or_ge j m with h' | h'
                · exact hok3 j hj h'
                · obtain rfl : j = m := by omega
                  assumption
              · have hx := hgb hq
                refine fin_eq ?_
                (repeat' (first | simp (maxDischargeDepth := 9) -implicitDefEqProofs -dsimp only [go_sem, seval, Bool.false_eq_true, *] | simp (disch := omega) only [wrap64])) <;> (repeat' refine And.intro ?_ ?_) <;> (first | omega | rfl | assumption | skip)
            · have hgood : g.good = true := by
                have q1 : Aig.gatesOk g.first g.ands = true := gatesOk_iff.2 fun j hj => by
                  obtain ⟨k1, k2⟩ := hok1 j hj (by omega)
                  have k1 := litN_iff.1 k1
                  have k2 := litN_iff.1 k2
                  unfold Aig.first
                  omega
                have q2 : (g.flops.any fun f => !g.lit f.next) = false := by
                  simp only [List.any_eq_false, Bool.not_eq_true, Bool.not_eq_false']
                  intro f hf
                  obtain ⟨j, hj, rfl⟩ := List.getElem_of_mem hf
                  exact hok2 j hj (by omega)
                have q3 : (g.outs.any fun a => !g.lit a) = false := by
                  simp only [List.any_eq_false, Bool.not_eq_true, Bool.not_eq_false']
                  intro f hf
                  obtain ⟨j, hj, rfl⟩ := List.getElem_of_mem hf
                  exact hok3 j hj (by omega)
                simp [Aig.good, q1, q2, q3]
              clear bad1 bad2 bad3
              repeat' (first | simp (maxDischargeDepth := 9) -implicitDefEqProofs -dsimp only [go_sem, seval, *] | simp (disch := omega) only [wrap64] | (with_reducible (first | apply Zb | apply Zc | apply Zp | apply Zr) <;> intro hq) | ((with_reducible refine Zu ?_ ?_); focus omega))
              refine fin_eq ?_
              (repeat' (first | simp (maxDischargeDepth := 9) -implicitDefEqProofs -dsimp only [go_sem, seval, *] | simp (disch := omega) only [wrap64])) <;> (repeat' refine And.intro ?_ ?_) <;> (first | omega | rfl | assumption | skip)
end Go.Proofs.Ytbbihmmobfmadaa.A

namespace Go.Proofs.Ytbbihmmobfmadaa.A
open Abs Fil
theorem ref_Value (v : List Bool) (a : Int) (σ : Sig) (h0 : 0 ≤ a) (h1 : (a / 2).toNat < v.length) (h2 : v.length ≤ 1000000000) :
    ACalls Try.prog 31 [.slice (v.map encBool) .no, .int .i64 a] σ (fun r σ' => r = .ret (.bool (Aig.val v a)) ∧ σ' = σ) := by
  refine calls_x mixed Try.func31 b31 n31 rfl q31 (by simp) ?_; unfold c31 r31
  repeat' (first | simp (maxDischargeDepth := 9) -implicitDefEqProofs -dsimp only [go_sem, seval, *] | simp (disch := omega) only [wrap64, tdiv2, tmod2] | ((with_reducible refine Zv ?_ ?_); focus (first | omega | exact rfl)) | ((with_reducible refine Zu ?_ ?_); focus omega))
  refine fin_eq ?_
  have : Aig.val v a = (v[(a / 2).toNat] != decide (a % 2 = 1)) := by simp [Aig.val, List.getD, h1]
  rw [this]
  (repeat' (first | simp (maxDischargeDepth := 9) -implicitDefEqProofs -dsimp only [go_sem, seval, bne, beq_dec, *] | simp (disch := omega) only [wrap64, tdiv2, tmod2])) <;> (repeat' refine And.intro ?_ ?_) <;> (first | omega | rfl | assumption | skip)
theorem ref_Same (g h : Aig) (σ : Sig) (l1 : g.flops.length ≤ 1000000) (l2 : g.ands.length ≤ 1000000) (l3 : g.outs.length ≤ 1000000) :
    ACalls Try.prog 16 [encAig g, encAig h] σ (fun r σ' => r = .ret (.bool (decide (g = h))) ∧ σ' = σ) := by
  refine calls_x mixed Try.func16 b16 n16 rfl q16 (by simp) ?_; unfold c16 r16
  have ne1 : g.ins ≠ h.ins → decide (g = h) = false := fun hn => by simp; intro e; exact hn (by rw [e])
  have ne2 : g.flops ≠ h.flops → decide (g = h) = false := fun hn => by simp; intro e; exact hn (by rw [e])
  have ne3 : g.ands ≠ h.ands → decide (g = h) = false := fun hn => by simp; intro e; exact hn (by rw [e])
  have ne4 : g.outs ≠ h.outs → decide (g = h) = false := fun hn => by simp; intro e; exact hn (by rw [e])
  by_cases hi : g.ins = h.ins
  · by_cases h1 : g.flops.length = h.flops.length
    · by_cases h2 : g.ands.length = h.ands.length
      · by_cases h3 : g.outs.length = h.outs.length
        · have b0 : (h.ins != h.ins) = false := by simp
          repeat' (first | simp (maxDischargeDepth := 9) -implicitDefEqProofs -dsimp only [go_sem, seval, *] | simp (disch := omega) only [wrap64] | (with_reducible (first | apply Zn | apply Zo) <;> intro hq) | ((with_reducible refine Zu ?_ ?_); focus omega))
          have h1' := And.intro (Nat.le_of_eq h1) (Nat.le_of_eq h1.symm)
          have h2' := And.intro (Nat.le_of_eq h2) (Nat.le_of_eq h2.symm)
          have h3' := And.intro (Nat.le_of_eq h3) (Nat.le_of_eq h3.symm)
          clear h1 h2 h3
          refine loop_rule (fun i : Nat => [(5, some (.int .i64 i)), (2, some (.cptr (aigL g))), (3, some (.cptr (aigL h)))]) (fun _ => σ) (fun i => i ≤ g.flops.length ∧ ∀ j, (hj : j < g.flops.length) → j < i → g.flops[j] = h.flops[j]) (fun i => g.flops.length - i) 0 ?_ ?_
          · (repeat' (first | simp (maxDischargeDepth := 9) -implicitDefEqProofs -dsimp only [go_sem, seval, *] | simp (disch := omega) only [wrap64])) <;> (repeat' refine And.intro ?_ ?_) <;> (first | omega | rfl | assumption | skip)
          · rintro i ⟨hi', hok1⟩
            by_cases hlt : i < g.flops.length
            · have hlt' : i < h.flops.length := by omega
              obtain ⟨x, hx⟩ : ∃ x, g.flops[i] = x := ⟨_, rfl⟩
              obtain ⟨y, hy⟩ : ∃ y, h.flops[i] = y := ⟨_, rfl⟩
              by_cases he : x = y
              · clear ne1 ne2 ne3 ne4
                subst he
                repeat' (first | simp (maxDischargeDepth := 9) -implicitDefEqProofs -dsimp only [go_sem, seval, *] | simp (disch := omega) only [wrap64] | (with_reducible (first | apply Zn | apply Zo) <;> intro hq) | ((with_reducible refine Zu ?_ ?_); focus omega))
                refine loop_next _ _ _ _ (i + 1) ?_; (repeat' (first | simp (maxDischargeDepth := 9) -implicitDefEqProofs -dsimp only [go_sem, seval, *] | simp (disch := omega) only [wrap64])) <;> (repeat' refine And.intro ?_ ?_) <;> (first | omega | rfl | assumption | skip)
                intro j hj hji
                rcases Nat.lt_or_ge j i with h' | h'
                · exact hok1 j hj h'
                · obtain rfl : j = i := by omega
                  rw [hx, hy]
              · have hv := ne2 (fun e => he (by rw [← hx, ← hy]; simp only [e]))
                have hb : ((x.next == y.next) && (x.init == y.init)) = false := by
                  cases x; cases y; simp at he ⊢; exact he
                clear ne1 ne2 ne3 ne4
                repeat' (first | simp (maxDischargeDepth := 9) -implicitDefEqProofs -dsimp only [go_sem, seval, *] | simp (disch := omega) only [wrap64] | (with_reducible (first | apply Zn | apply Zo) <;> intro hq) | ((with_reducible refine Zu ?_ ?_); focus omega))
                refine fin_eq ?_
                (repeat' (first | simp (maxDischargeDepth := 9) -implicitDefEqProofs -dsimp only [go_sem, seval, *] | simp (disch := omega) only [wrap64])) <;> (repeat' refine And.intro ?_ ?_) <;> (first | omega | rfl | assumption | skip)
            · repeat' (first | simp (maxDischargeDepth := 9) -implicitDefEqProofs -dsimp only [go_sem, seval, *] | simp (disch := omega) only [wrap64] | (with_reducible (first | apply Zn | apply Zo) <;> intro hq) | ((with_reducible refine Zu ?_ ?_); focus omega))
              refine loop_rule (fun i : Nat => [(6, some (.int .i64 i)), (2, some (.cptr (aigL g))), (3, some (.cptr (aigL h)))]) (fun _ => σ) (fun i => i ≤ g.ands.length ∧ ∀ j, (hj : j < g.ands.length) → j < i → g.ands[j] = h.ands[j]) (fun i => g.ands.length - i) 0 ?_ ?_
              · (repeat' (first | simp (maxDischargeDepth := 9) -implicitDefEqProofs -dsimp only [go_sem, seval, *] | simp (disch := omega) only [wrap64])) <;> (repeat' refine And.intro ?_ ?_) <;> (first | omega | rfl | assumption | skip)
              · rintro k ⟨hk', hok2⟩
                by_cases hlt2 : k < g.ands.length
                · have hlt' : k < h.ands.length := by omega
                  obtain ⟨x, hx⟩ : ∃ x, g.ands[k] = x := ⟨_, rfl⟩
                  obtain ⟨y, hy⟩ : ∃ y, h.ands[k] = y := ⟨_, rfl⟩
                  by_cases he : x = y
                  · clear ne1 ne2 ne3 ne4
                    subst he
                    repeat' (first | simp (maxDischargeDepth := 9) -implicitDefEqProofs -dsimp only [go_sem, seval, *] | simp (disch := omega) only [wrap64] | (with_reducible (first | apply Zn | apply Zo) <;> intro hq) | ((with_reducible refine Zu ?_ ?_); focus omega))
                    refine loop_next _ _ _ _ (k + 1) ?_; (repeat' (first | simp (maxDischargeDepth := 9) -implicitDefEqProofs -dsimp only [go_sem, seval, *] | simp (disch := omega) only [wrap64])) <;> (repeat' refine And.intro ?_ ?_) <;> (first | omega | rfl | assumption | skip)
                    intro j hj hji
                    rcases Nat.lt_or_ge j k with h' | h'
                    · exact hok2 j hj h'
                    · obtain rfl : j = k := by omega
                      rw [hx, hy]
                  · have hv := ne3 (fun e => he (by rw [← hx, ← hy]; simp only [e]))
                    have hb : ((x.1 == y.1) && (x.2 == y.2)) = false := by
                      cases x; cases y; simp at he ⊢; exact he
                    clear ne1 ne2 ne3 ne4
                    repeat' (first | simp (maxDischargeDepth := 9) -implicitDefEqProofs -dsimp only [go_sem, seval, *] | simp (disch := omega) only [wrap64] | (with_reducible (first | apply Zn | apply Zo) <;> intro hq) | ((with_reducible refine Zu ?_ ?_); focus omega))
                    refine fin_eq ?_
                    (repeat' (first | simp (maxDischargeDepth := 9) -implicitDefEqProofs -dsimp only [go_sem, seval, *] | simp (disch := omega) only [wrap64])) <;> (repeat' refine And.intro ?_ ?_) <;> (first | omega | rfl | assumption | skip)
                · repeat' (first | simp (maxDischargeDepth := 9) -implicitDefEqProofs -dsimp only [go_sem, seval, *] | simp (disch := omega) only [wrap64] | (with_reducible (first | apply Zn | apply Zo) <;> intro hq) | ((with_reducible refine Zu ?_ ?_); focus omega))
                  refine loop_rule (fun i : Nat => [(7, some (.int .i64 i)), (2, some (.cptr (aigL g))), (3, some (.cptr (aigL h)))]) (fun _ => σ) (fun i => i ≤ g.outs.length ∧ ∀ j, (hj : j < g.outs.length) → j < i → g.outs[j] = h.outs[j]) (fun i => g.outs.length - i) 0 ?_ ?_
                  · (repeat' (first | simp (maxDischargeDepth := 9) -implicitDefEqProofs -dsimp only [go_sem, seval, *] | simp (disch := omega) only [wrap64])) <;> (repeat' refine And.intro ?_ ?_) <;> (first | omega | rfl | assumption | skip)
                  · rintro m ⟨hm', hok3⟩
                    by_cases hlt3 : m < g.outs.length
                    · have hlt' : m < h.outs.length := by omega
                      obtain ⟨x, hx⟩ : ∃ x, g.outs[m] = x := ⟨_, rfl⟩
                      obtain ⟨y, hy⟩ : ∃ y, h.outs[m] = y := ⟨_, rfl⟩
                      by_cases he : x = y
                      · clear ne1 ne2 ne3 ne4
                        subst he
                        repeat' (first | simp (maxDischargeDepth := 9) -implicitDefEqProofs -dsimp only [go_sem, seval, *] | simp (disch := omega) only [wrap64] | (with_reducible (first | apply Zn | apply Zo) <;> intro hq) | ((with_reducible refine Zu ?_ ?_); focus omega))
                        refine loop_next _ _ _ _ (m + 1) ?_; (repeat' (first | simp (maxDischargeDepth := 9) -implicitDefEqProofs -dsimp only [go_sem, seval, *] | simp (disch := omega) only [wrap64])) <;> (repeat' refine And.intro ?_ ?_) <;> (first | omega | rfl | assumption | skip)
                        intro j hj hji
                        rcases Nat.lt_or_ge j m with h' | h'
                        · exact hok3 j hj h'
                        · obtain rfl : j = m := by omega
                          rw [hx, hy]
                      · have hv := ne4 (fun e => he (by rw [← hx, ← hy]; simp only [e]))
                        have hb : (x != y) = true := by simpa using he
                        clear ne1 ne2 ne3 ne4
                        repeat' (first | simp (maxDischargeDepth := 9) -implicitDefEqProofs -dsimp only [go_sem, seval, *] | simp (disch := omega) only [wrap64] | (with_reducible (first | apply Zn | apply Zo) <;> intro hq) | ((with_reducible refine Zu ?_ ?_); focus omega))
                        refine fin_eq ?_
                        (repeat' (first | simp (maxDischargeDepth := 9) -implicitDefEqProofs -dsimp only [go_sem, seval, *] | simp (disch := omega) only [wrap64])) <;> (repeat' refine And.intro ?_ ?_) <;> (first | omega | rfl | assumption | skip)
                    · have hv : decide (g = h) = true := by
                        have q1 : g.flops = h.flops := List.ext_getElem (by omega) fun j hj _ => hok1 j hj (by omega)
                        have q2 : g.ands = h.ands := List.ext_getElem (by omega) fun j hj _ => hok2 j hj (by omega)
                        have q3 : g.outs = h.outs := List.ext_getElem (by omega) fun j hj _ => hok3 j hj (by omega)
                        cases g; cases h; simp_all
                      clear ne1 ne2 ne3 ne4
                      repeat' (first | simp (maxDischargeDepth := 9) -implicitDefEqProofs -dsimp only [go_sem, seval, *] | simp (disch := omega) only [wrap64] | (with_reducible (first | apply Zn | apply Zo) <;> intro hq) | ((with_reducible refine Zu ?_ ?_); focus omega))
                      refine fin_eq ?_
                      (repeat' (first | simp (maxDischargeDepth := 9) -implicitDefEqProofs -dsimp only [go_sem, seval, *] | simp (disch := omega) only [wrap64])) <;> (repeat' refine And.intro ?_ ?_) <;> (first | omega | rfl | assumption | skip)
        · have hv := ne4 (fun e => h3 (by rw [e]))
          clear ne1 ne2 ne3 ne4
          repeat' (first | simp (maxDischargeDepth := 9) -implicitDefEqProofs -dsimp only [go_sem, seval, *] | simp (disch := omega) only [wrap64] | (with_reducible (first | apply Zn | apply Zo) <;> intro hq) | ((with_reducible refine Zu ?_ ?_); focus omega))
          all_goals first | (exfalso; omega) | (refine fin_eq ?_; (repeat' (first | simp (maxDischargeDepth := 9) -implicitDefEqProofs -dsimp only [go_sem, seval, *] | simp (disch := omega) only [wrap64])) <;> (repeat' refine And.intro ?_ ?_) <;> (first | omega | rfl | assumption | skip))
      · have hv := ne3 (fun e => h2 (by rw [e]))
        clear ne1 ne2 ne3 ne4
        repeat' (first | simp (maxDischargeDepth := 9) -implicitDefEqProofs -dsimp only [go_sem, seval, *] | simp (disch := omega) only [wrap64] | (with_reducible (first | apply Zn | apply Zo) <;> intro hq) | ((with_reducible refine Zu ?_ ?_); focus omega))
        all_goals first | (exfalso; omega) | (refine fin_eq ?_; (repeat' (first | simp (maxDischargeDepth := 9) -implicitDefEqProofs -dsimp only [go_sem, seval, *] | simp (disch := omega) only [wrap64])) <;> (repeat' refine And.intro ?_ ?_) <;> (first | omega | rfl | assumption | skip))
    · have hv := ne2 (fun e => h1 (by rw [e]))
      clear ne1 ne2 ne3 ne4
      repeat' (first | simp (maxDischargeDepth := 9) -implicitDefEqProofs -dsimp only [go_sem, seval, *] | simp (disch := omega) only [wrap64] | (with_reducible (first | apply Zn | apply Zo) <;> intro hq) | ((with_reducible refine Zu ?_ ?_); focus omega))
      all_goals first | (exfalso; omega) | (refine fin_eq ?_; (repeat' (first | simp (maxDischargeDepth := 9) -implicitDefEqProofs -dsimp only [go_sem, seval, *] | simp (disch := omega) only [wrap64])) <;> (repeat' refine And.intro ?_ ?_) <;> (first | omega | rfl | assumption | skip))
  · have hv := ne1 hi
    clear ne1 ne2 ne3 ne4
    repeat' (first | simp (maxDischargeDepth := 9) -implicitDefEqProofs -dsimp only [go_sem, seval, *] | simp (disch := omega) only [wrap64] | (with_reducible (first | apply Zn | apply Zo) <;> intro hq) | ((with_reducible refine Zu ?_ ?_); focus omega))
    all_goals first | (exfalso; omega) | (refine fin_eq ?_; (repeat' (first | simp (maxDischargeDepth := 9) -implicitDefEqProofs -dsimp only [go_sem, seval, *] | simp (disch := omega) only [wrap64])) <;> (repeat' refine And.intro ?_ ?_) <;> (first | omega | rfl | assumption | skip))
end Go.Proofs.Ytbbihmmobfmadaa.A

namespace Go.Proofs.Ytbbihmmobfmadaa.A
open Abs Fil
theorem ref_Nodes (g : Aig) (inp st : List Bool) (σ : Sig) (hs : Wf g) :
    ACalls Try.prog 10 [encAig g, .slice (inp.map encBool) .no, .slice (st.map encBool) .no] σ (fun r σ' => r = .ret (.tup [.slice ((g.Nodes inp st).1.map encBool) .no, .int .i64 (g.Nodes inp st).2]) ∧ σ' = σ) := by
  refine calls_x mixed Try.func10 b10 n10 rfl q10 (by simp) ?_; unfold c10 r10
  by_cases hc : g.check = 0
  · by_cases hin : (inp.length : Int) = g.ins
    · by_cases hst : st.length = g.flops.length
      · have hf := check_fine hs hc
        have hsm := hf.toSmall
        have hcn := hf.cnt
        have hlo := hf.lo
        have hgk := gatesOk_iff.1 hf.gok
        have hv : g.Nodes inp st = (Aig.vals (false :: (inp ++ st)) g.ands, 0) := by simp [Aig.Nodes, hc, hin, hst]
        have hb : g.first = 1 + inp.length + st.length ∧ g.first + g.ands.length = 1 + g.count := by unfold Aig.first Aig.count; omega
        have ez : ((0 : Int) != 0) = false := by decide
        have hin' : (inp.length : Int) ≤ g.ins ∧ g.ins ≤ inp.length := by omega
        have hst' : st.length ≤ g.flops.length ∧ g.flops.length ≤ st.length := by omega
        have hal := hs.ands
        have hfl := hs.flops
        have e1 : ((inp.length : Int) != g.ins) = false := by simp; omega
        have e2 : ((st.length : Int) != (g.flops.length : Int)) = false := by simp; omega
        have hlen : (false :: (inp ++ st)).length = 1 + inp.length + st.length := by simp; omega
        clear hin hst
        have key : ∀ i, (hi : i < g.ands.length) → ∀ v, Aig.vals (false :: (inp ++ st)) (g.ands.take i) = v → v.length = 1 + inp.length + st.length + i ∧ 0 ≤ g.ands[i].1 ∧ (g.ands[i].1 / 2).toNat < v.length ∧ 0 ≤ g.ands[i].2 ∧ (g.ands[i].2 / 2).toNat < v.length ∧ v.length ≤ 1000000 ∧
            Aig.vals (false :: (inp ++ st)) (g.ands.take (i + 1)) = v ++ [Aig.val v g.ands[i].1 && Aig.val v g.ands[i].2] := by
          intro i hi v hv
          have ln := vals_len (v := false :: (inp ++ st)) (l := g.ands) (i := i) (by omega)
          rw [hv, hlen] at ln
          have := hgk i hi
          have s := vals_step (v := false :: (inp ++ st)) hi
          rw [hv] at s
          refine ⟨ln, ?_, ?_, ?_, ?_, ?_, s⟩ <;> omega
        clear hgk hf hsm
        obtain ⟨w0, hw0⟩ : ∃ w, Aig.vals (false :: (inp ++ st)) = w := ⟨_, rfl⟩
        have w00 : w0 [] = false :: (inp ++ st) := by rw [← hw0]; rfl
        rw [hw0] at hv key
        repeat' (first | simp (maxDischargeDepth := 9) -implicitDefEqProofs -dsimp only [go_sem, seval, *] | simp (disch := omega) only [wrap64] | (with_reducible (first | apply Zp | apply Zs) <;> intro hq) | ((with_reducible refine Zv ?_ ?_); focus (first | omega | exact rfl)) | ((with_reducible refine Zu ?_ ?_); focus omega) | ((with_reducible refine Zt (fun oF hoF hnF hnF' => ?_)); (try simp only [upd_none, ne_eq, not_and] at hoF)) | ((with_reducible apply ACalls.one1); (focus (first | ((first | with_reducible refine ref_Check g _ hs) <;> (first | (simp (maxDischargeDepth := 9) -implicitDefEqProofs -dsimp only [go_sem, seval, *]; done) | omega)) | (with_reducible refine ACalls.flA (ref_Check g _ hs) ?_ <;> (first | (simp (maxDischargeDepth := 9) -implicitDefEqProofs -dsimp only [go_sem, seval, *]; done) | omega)))); (focus (first | trivial | with_reducible exact rfl | (simp (maxDischargeDepth := 9) -implicitDefEqProofs -dsimp only [go_sem, seval]; done)))))
        all_goals (first | (have hq0 : inp = [] := List.map_eq_nil_iff.1 (by assumption); subst hq0) | skip)
        all_goals (first | (have hq0 : st = [] := List.map_eq_nil_iff.1 (by assumption); subst hq0) | skip)
        all_goals
          first
          | refine loop_rule (fun x : Nat × Option Nat => [(10, some (.int .i64 x.1)), (3, some (.cptr (aigL g))), (9, some (.slice ((w0 (g.ands.take x.1)).map encBool) (tkF x.2)))]) (fun x => sgF σ 1 (w0 (g.ands.take x.1)).length x.2) (fun x => x.1 ≤ g.ands.length ∧ ∀ o, x.2 = some o → σ o = none) (fun x => g.ands.length - x.1) (0, some oF) ?_ ?_
          | refine loop_rule (fun x : Nat × Option Nat => [(10, some (.int .i64 x.1)), (3, some (.cptr (aigL g))), (9, some (.slice ((w0 (g.ands.take x.1)).map encBool) (tkF x.2)))]) (fun x => sgF σ 1 (w0 (g.ands.take x.1)).length x.2) (fun x => x.1 ≤ g.ands.length ∧ ∀ o, x.2 = some o → σ o = none) (fun x => g.ands.length - x.1) (0, none) ?_ ?_
          · (repeat' (first | simp (maxDischargeDepth := 9) -implicitDefEqProofs -dsimp only [go_sem, seval, w00, *] | simp (disch := omega) only [wrap64])) <;> (repeat' refine And.intro ?_ ?_) <;> (first | omega | rfl | assumption | skip)
            all_goals (intro o ho; simp at ho; try (subst ho; assumption))
          · rintro ⟨i, ot⟩ ⟨hi, ho⟩
            simp only at hi ho
            by_cases hlt : i < g.ands.length
            · obtain ⟨v, hv'⟩ : ∃ v, w0 (g.ands.take i) = v := ⟨_, rfl⟩
              obtain ⟨k1, k2, k3, k4, k5, k6, k7⟩ := key i hlt v hv'
              clear key
              cases ot with
              | none =>
                clear ho
                repeat' (first | simp (maxDischargeDepth := 9) -implicitDefEqProofs -dsimp only [go_sem, seval, *] | simp (disch := omega) only [wrap64] | (with_reducible (first | apply Zp | apply Zs) <;> intro hq) | ((with_reducible refine Zv ?_ ?_); focus (first | omega | exact rfl)) | ((with_reducible refine Zu ?_ ?_); focus omega) | ((with_reducible refine Zt (fun oF hoF hnF hnF' => ?_)); (try simp only [upd_none, ne_eq, not_and] at hoF)) | ((with_reducible apply ACalls.one1); (focus (first | ((first | with_reducible refine ref_Value v g.ands[i].1 _ ?_ ?_ ?_ | with_reducible refine ref_Value v g.ands[i].2 _ ?_ ?_ ?_) <;> (first | (simp (maxDischargeDepth := 9) -implicitDefEqProofs -dsimp only [go_sem, seval, *]; done) | omega)) | (with_reducible refine ACalls.flA (ref_Value v g.ands[i].1 _ ?_ ?_ ?_) ?_ <;> (first | (simp (maxDischargeDepth := 9) -implicitDefEqProofs -dsimp only [go_sem, seval, *]; done) | omega)) | (with_reducible refine ACalls.flA (ref_Value v g.ands[i].2 _ ?_ ?_ ?_) ?_ <;> (first | (simp (maxDischargeDepth := 9) -implicitDefEqProofs -dsimp only [go_sem, seval, *]; done) | omega)))); (focus (first | trivial | with_reducible exact rfl | (simp (maxDischargeDepth := 9) -implicitDefEqProofs -dsimp only [go_sem, seval]; done)))))
                all_goals
                  refine loop_next _ _ _ _ ((i + 1, some oF)) ?_; (repeat' (first | simp (maxDischargeDepth := 9) -implicitDefEqProofs -dsimp only [go_sem, seval, *] | simp (disch := omega) only [wrap64])) <;> (repeat' refine And.intro ?_ ?_) <;> (first | omega | rfl | assumption | skip)
                  all_goals (intro o ho'; simp at ho'; try (subst ho'; assumption))
              | some o1 =>
                have ho1 := ho o1 rfl
                clear ho
                repeat' (first | simp (maxDischargeDepth := 9) -implicitDefEqProofs -dsimp only [go_sem, seval, *] | simp (disch := omega) only [wrap64] | (with_reducible (first | apply Zp | apply Zs) <;> intro hq) | ((with_reducible refine Zv ?_ ?_); focus (first | omega | exact rfl)) | ((with_reducible refine Zu ?_ ?_); focus omega) | ((with_reducible refine Zt (fun oF hoF hnF hnF' => ?_)); (try simp only [upd_none, ne_eq, not_and] at hoF)) | ((with_reducible apply ACalls.one1); (focus (first | ((first | with_reducible refine ref_Value v g.ands[i].1 _ ?_ ?_ ?_ | with_reducible refine ref_Value v g.ands[i].2 _ ?_ ?_ ?_) <;> (first | (simp (maxDischargeDepth := 9) -implicitDefEqProofs -dsimp only [go_sem, seval, *]; done) | omega)) | (with_reducible refine ACalls.flA (ref_Value v g.ands[i].1 _ ?_ ?_ ?_) ?_ <;> (first | (simp (maxDischargeDepth := 9) -implicitDefEqProofs -dsimp only [go_sem, seval, *]; done) | omega)) | (with_reducible refine ACalls.flA (ref_Value v g.ands[i].2 _ ?_ ?_ ?_) ?_ <;> (first | (simp (maxDischargeDepth := 9) -implicitDefEqProofs -dsimp only [go_sem, seval, *]; done) | omega)))); (focus (first | trivial | with_reducible exact rfl | (simp (maxDischargeDepth := 9) -implicitDefEqProofs -dsimp only [go_sem, seval]; done)))))
                all_goals
                  refine loop_next _ _ _ _ ((i + 1, some o1)) ?_; (repeat' (first | simp (maxDischargeDepth := 9) -implicitDefEqProofs -dsimp only [go_sem, seval, *] | simp (disch := omega) only [wrap64])) <;> (repeat' refine And.intro ?_ ?_) <;> (first | omega | rfl | assumption | skip)
                  all_goals (intro o ho'; simp at ho'; try (subst ho'; assumption))
            · have e0 : g.ands.take i = g.ands := List.take_of_length_le (by omega)
              clear key
              cases ot with
              | none =>
                repeat' (first | simp (maxDischargeDepth := 9) -implicitDefEqProofs -dsimp only [go_sem, seval, *] | simp (disch := omega) only [wrap64] | (with_reducible (first | apply Zp | apply Zs) <;> intro hq) | ((with_reducible refine Zv ?_ ?_); focus (first | omega | exact rfl)) | ((with_reducible refine Zu ?_ ?_); focus omega) | ((with_reducible refine Zt (fun oF hoF hnF hnF' => ?_)); (try simp only [upd_none, ne_eq, not_and] at hoF)))
                refine fin_eq ?_
                (repeat' (first | simp (maxDischargeDepth := 9) -implicitDefEqProofs -dsimp only [go_sem, seval, e0, *] | simp (disch := omega) only [wrap64])) <;> (repeat' refine And.intro ?_ ?_) <;> (first | omega | rfl | assumption | skip)
              | some o1 =>
                have ho1 := ho o1 rfl
                clear ho
                repeat' (first | simp (maxDischargeDepth := 9) -implicitDefEqProofs -dsimp only [go_sem, seval, *] | simp (disch := omega) only [wrap64] | (with_reducible (first | apply Zp | apply Zs) <;> intro hq) | ((with_reducible refine Zv ?_ ?_); focus (first | omega | exact rfl)) | ((with_reducible refine Zu ?_ ?_); focus omega) | ((with_reducible refine Zt (fun oF hoF hnF hnF' => ?_)); (try simp only [upd_none, ne_eq, not_and] at hoF)))
                refine fin_eq ?_
                (repeat' (first | simp (maxDischargeDepth := 9) -implicitDefEqProofs -dsimp only [go_sem, seval, e0, *] | simp (disch := omega) only [wrap64])) <;> (repeat' refine And.intro ?_ ?_) <;> (first | omega | rfl | assumption | skip)
      · have hv : g.Nodes inp st = ([], 1) := by simp [Aig.Nodes, *]
        have hb : ((st.length : Int) != g.flops.length) = true := by simp; omega
        repeat' (first | simp (maxDischargeDepth := 9) -implicitDefEqProofs -dsimp only [go_sem, seval, *] | simp (disch := omega) only [wrap64] | (with_reducible (first | apply Zp | apply Zs) <;> intro hq) | ((with_reducible refine Zv ?_ ?_); focus (first | omega | exact rfl)) | ((with_reducible refine Zu ?_ ?_); focus omega) | ((with_reducible refine Zt (fun oF hoF hnF hnF' => ?_)); (try simp only [upd_none, ne_eq, not_and] at hoF)) | ((with_reducible apply ACalls.one1); (focus (first | ((first | with_reducible refine ref_Check g _ hs) <;> (first | (simp (maxDischargeDepth := 9) -implicitDefEqProofs -dsimp only [go_sem, seval, *]; done) | omega)) | (with_reducible refine ACalls.flA (ref_Check g _ hs) ?_ <;> (first | (simp (maxDischargeDepth := 9) -implicitDefEqProofs -dsimp only [go_sem, seval, *]; done) | omega)))); (focus (first | trivial | with_reducible exact rfl | (simp (maxDischargeDepth := 9) -implicitDefEqProofs -dsimp only [go_sem, seval]; done)))))
        refine fin_eq ?_
        (repeat' (first | simp (maxDischargeDepth := 9) -implicitDefEqProofs -dsimp only [go_sem, seval, *] | simp (disch := omega) only [wrap64])) <;> (repeat' refine And.intro ?_ ?_) <;> (first | omega | rfl | assumption | skip)
    · have hv : g.Nodes inp st = ([], 1) := by simp [Aig.Nodes, *]
      have hb : ((inp.length : Int) != g.ins) = true := by simpa using hin
      repeat' (first | simp (maxDischargeDepth := 9) -implicitDefEqProofs -dsimp only [go_sem, seval, *] | simp (disch := omega) only [wrap64] | (with_reducible (first | apply Zp | apply Zs) <;> intro hq) | ((with_reducible refine Zv ?_ ?_); focus (first | omega | exact rfl)) | ((with_reducible refine Zu ?_ ?_); focus omega) | ((with_reducible refine Zt (fun oF hoF hnF hnF' => ?_)); (try simp only [upd_none, ne_eq, not_and] at hoF)) | ((with_reducible apply ACalls.one1); (focus (first | ((first | with_reducible refine ref_Check g _ hs) <;> (first | (simp (maxDischargeDepth := 9) -implicitDefEqProofs -dsimp only [go_sem, seval, *]; done) | omega)) | (with_reducible refine ACalls.flA (ref_Check g _ hs) ?_ <;> (first | (simp (maxDischargeDepth := 9) -implicitDefEqProofs -dsimp only [go_sem, seval, *]; done) | omega)))); (focus (first | trivial | with_reducible exact rfl | (simp (maxDischargeDepth := 9) -implicitDefEqProofs -dsimp only [go_sem, seval]; done)))))
      refine fin_eq ?_
      (repeat' (first | simp (maxDischargeDepth := 9) -implicitDefEqProofs -dsimp only [go_sem, seval, *] | simp (disch := omega) only [wrap64])) <;> (repeat' refine And.intro ?_ ?_) <;> (first | omega | rfl | assumption | skip)
  · have hv : g.Nodes inp st = ([], g.check) := by simp [Aig.Nodes, *]
    have hb : (g.check != 0) = true := by simpa using hc
    repeat' (first | simp (maxDischargeDepth := 9) -implicitDefEqProofs -dsimp only [go_sem, seval, *] | simp (disch := omega) only [wrap64] | (with_reducible (first | apply Zp | apply Zs) <;> intro hq) | ((with_reducible refine Zv ?_ ?_); focus (first | omega | exact rfl)) | ((with_reducible refine Zu ?_ ?_); focus omega) | ((with_reducible refine Zt (fun oF hoF hnF hnF' => ?_)); (try simp only [upd_none, ne_eq, not_and] at hoF)) | ((with_reducible apply ACalls.one1); (focus (first | ((first | with_reducible refine ref_Check g _ hs) <;> (first | (simp (maxDischargeDepth := 9) -implicitDefEqProofs -dsimp only [go_sem, seval, *]; done) | omega)) | (with_reducible refine ACalls.flA (ref_Check g _ hs) ?_ <;> (first | (simp (maxDischargeDepth := 9) -implicitDefEqProofs -dsimp only [go_sem, seval, *]; done) | omega)))); (focus (first | trivial | with_reducible exact rfl | (simp (maxDischargeDepth := 9) -implicitDefEqProofs -dsimp only [go_sem, seval]; done)))))
    refine fin_eq ?_
    (repeat' (first | simp (maxDischargeDepth := 9) -implicitDefEqProofs -dsimp only [go_sem, seval, *] | simp (disch := omega) only [wrap64])) <;> (repeat' refine And.intro ?_ ?_) <;> (first | omega | rfl | assumption | skip)
end Go.Proofs.Ytbbihmmobfmadaa.A

namespace Fil
open Abs
def Res (g : Aig) (n : Nat) (l : List Int) (r : Aig × Int × Int) : Prop :=
  (r.2.2 = 0 ∧ g.check = 0 ∧ (∀ a ∈ l, g.lit a = true) ∧ Fine r.1 ∧ Ext g r.1 ∧ r.1.lit r.2.1 = true ∧ r.1.ands.length ≤ g.ands.length + n) ∨ (r.2.2 ≠ 0 ∧ r.1 = ⟨0, [], [], []⟩ ∧ r.2.1 = 0)
theorem andO_len {g g' : Aig} {p q x : Int} (h : g.andO p q = some (g', x)) : g'.ands.length ≤ g.ands.length + 1 := by
  unfold Aig.andO at h
  simp only at h
  split at h
  · simp at h; obtain ⟨rfl, _⟩ := h; omega
  · split at h
    · simp at h; obtain ⟨rfl, _⟩ := h; omega
    · split at h
      · simp at h; obtain ⟨rfl, _⟩ := h; omega
      · split at h
        · simp at h
        · simp at h; obtain ⟨rfl, _⟩ := h; simp
theorem andW_len (g : Aig) (e p q : Int) : (g.andW e p q).1.ands.length ≤ g.ands.length + 1 := by
  unfold Aig.andW
  split
  · simp
  · cases h : g.andO p q with
    | none => simp
    | some r => exact andO_len h
theorem orW_ok {g : Aig} {e p q : Int} (hf : e = 0 → Fine g ∧ g.lit p = true ∧ g.lit q = true) :
    ((g.orW e p q).2.1 = 0 → Fine (g.orW e p q).1 ∧ (g.orW e p q).1.lit (g.orW e p q).2.2 = true) ∧ Ext g (g.orW e p q).1 := by
  obtain ⟨h1, h2, _⟩ := andW_ok (g := g) (e := e) (p := turn p) (q := turn q) fun h => ⟨(hf h).1, turn_lit (hf h).2.1, turn_lit (hf h).2.2⟩
  exact ⟨fun h => ⟨(h1 h).1, turn_lit (h1 h).2⟩, h2⟩
theorem pairsW_ok {g : Aig} {e a b c d : Int} (hf : e = 0 → Fine g ∧ g.lit a = true ∧ g.lit b = true ∧ g.lit c = true ∧ g.lit d = true) :
    ((g.pairs e a b c d).2.1 = 0 → e = 0 ∧ Fine (g.pairs e a b c d).1 ∧ (g.pairs e a b c d).1.lit (g.pairs e a b c d).2.2 = true) ∧ Ext g (g.pairs e a b c d).1 ∧ (g.pairs e a b c d).1.ands.length ≤ g.ands.length + 3 := by
  obtain ⟨h1, h2, _⟩ := andW_ok (g := g) (e := e) (p := a) (q := b) fun h => ⟨(hf h).1, (hf h).2.1, (hf h).2.2.1⟩
  obtain ⟨k1, k2, _⟩ := andW_ok (g := (g.andW e a b).1) (e := (g.andW e a b).2.1) (p := c) (q := d) fun h => by
    obtain ⟨_, _, _, hc, hd⟩ := hf (andW_err h)
    exact ⟨(h1 h).1, h2.lit hc, h2.lit hd⟩
  obtain ⟨m1, m2⟩ := orW_ok (g := ((g.andW e a b).1.andW (g.andW e a b).2.1 c d).1) (e := ((g.andW e a b).1.andW (g.andW e a b).2.1 c d).2.1) (p := (g.andW e a b).2.2) (q := ((g.andW e a b).1.andW (g.andW e a b).2.1 c d).2.2) fun h =>
    ⟨(k1 h).1, k2.lit (h1 (andW_err h)).2, (k1 h).2⟩
  have l1 := andW_len g e a b
  have l2 := andW_len (g.andW e a b).1 (g.andW e a b).2.1 c d
  have l3 := andW_len ((g.andW e a b).1.andW (g.andW e a b).2.1 c d).1 ((g.andW e a b).1.andW (g.andW e a b).2.1 c d).2.1 (turn (g.andW e a b).2.2) (turn ((g.andW e a b).1.andW (g.andW e a b).2.1 c d).2.2)
  exact ⟨fun h => ⟨andW_err (andW_err (andW_err h)), m1 h⟩, (h2.trans k2).trans m2, by
    show ((_ : Aig).andW _ _ _).1.ands.length ≤ _
    omega⟩
theorem and_res {g : Aig} (hs : Wf g) (a b : Int) : Res g 1 [a, b] (g.And a b) := by
  unfold Aig.And
  have hk : g.checkL g.check [a, b] = 0 → Fine g ∧ g.lit a = true ∧ g.lit b = true := fun h => by
    obtain ⟨h1, h2⟩ := checkL_fine hs h
    exact ⟨h1, h2 _ (by simp), h2 _ (by simp)⟩
  have ok := andW_ok hk
  by_cases h : (g.andW (g.checkL g.check [a, b]) a b).2.1 = 0
  · left
    rw [endW_ok h]
    have h0 := andW_err h
    obtain ⟨k1, k2⟩ := hk h0
    exact ⟨rfl, (checkL_zero.1 h0).1, (checkL_zero.1 h0).2, (ok.1 h).1, ok.2.1, (ok.1 h).2, andW_len _ _ _ _⟩
  · right
    rw [endW_err h]
    exact ⟨h, rfl, rfl⟩
theorem or_res {g : Aig} (hs : Wf g) (a b : Int) : Res g 1 [a, b] (g.Or a b) := by
  unfold Aig.Or
  have hk : g.checkL g.check [a, b] = 0 → Fine g ∧ g.lit a = true ∧ g.lit b = true := fun h => by
    obtain ⟨h1, h2⟩ := checkL_fine hs h
    exact ⟨h1, h2 _ (by simp), h2 _ (by simp)⟩
  have ok := orW_ok hk
  by_cases h : (g.orW (g.checkL g.check [a, b]) a b).2.1 = 0
  · left
    rw [endW_ok h]
    have h0 : g.checkL g.check [a, b] = 0 := andW_err h
    exact ⟨rfl, (checkL_zero.1 h0).1, (checkL_zero.1 h0).2, (ok.1 h).1, ok.2, (ok.1 h).2, andW_len _ _ _ _⟩
  · right
    rw [endW_err h]
    exact ⟨h, rfl, rfl⟩
theorem xor_res {g : Aig} (hs : Wf g) (a b : Int) : Res g 3 [a, b] (g.Xor a b) := by
  unfold Aig.Xor
  have ok := pairsW_ok (g := g) (e := g.checkL g.check [a, b]) (a := a) (b := turn b) (c := turn a) (d := b) fun h => by
    obtain ⟨h1, h2⟩ := checkL_fine hs h
    exact ⟨h1, h2 _ (by simp), turn_lit (h2 _ (by simp)), turn_lit (h2 _ (by simp)), h2 _ (by simp)⟩
  by_cases h : (g.pairs (g.checkL g.check [a, b]) a (turn b) (turn a) b).2.1 = 0
  · left
    rw [endW_ok h]
    obtain ⟨h0, k1, k2⟩ := ok.1 h
    exact ⟨rfl, (checkL_zero.1 h0).1, (checkL_zero.1 h0).2, k1, ok.2.1, k2, ok.2.2⟩
  · right
    rw [endW_err h]
    exact ⟨h, rfl, rfl⟩
theorem mux_res {g : Aig} (hs : Wf g) (c a b : Int) : Res g 3 [c, a, b] (g.Mux c a b) := by
  unfold Aig.Mux
  have ok := pairsW_ok (g := g) (e := g.checkL g.check [c, a, b]) (a := c) (b := a) (c := turn c) (d := b) fun h => by
    obtain ⟨h1, h2⟩ := checkL_fine hs h
    exact ⟨h1, h2 _ (by simp), h2 _ (by simp), turn_lit (h2 _ (by simp)), h2 _ (by simp)⟩
  by_cases h : (g.pairs (g.checkL g.check [c, a, b]) c a (turn c) b).2.1 = 0
  · left
    rw [endW_ok h]
    obtain ⟨h0, k1, k2⟩ := ok.1 h
    exact ⟨rfl, (checkL_zero.1 h0).1, (checkL_zero.1 h0).2, k1, ok.2.1, k2, ok.2.2⟩
  · right
    rw [endW_err h]
    exact ⟨h, rfl, rfl⟩
theorem zero_wf : Wf ⟨0, [], [], []⟩ := ⟨by simp [I64], by simp, by simp, by simp, by simp, by simp, by simp⟩
theorem Res.wf {g : Aig} {n : Nat} {l : List Int} {r : Aig × Int × Int} (h : Res g n l r) : Wf r.1 ∧ I64 r.2.1 := by
  rcases h with ⟨_, _, _, h, _, hl, _⟩ | ⟨_, h, h'⟩
  · have := litN_iff.1 hl
    have := h.cnt
    exact ⟨h.toWf, by omega, by omega⟩
  · rw [h, h']; exact ⟨zero_wf, by simp [I64]⟩
end Fil

namespace Fil
open Abs
theorem ext_check {g h : Aig} (hs : Wf g) (hc : g.check = 0) (hx : Ext g h) (hf : Fine h) : h.check = 0 := by
  have hcn := hf.cnt
  have hlo := hf.lo
  unfold Aig.check at hc ⊢
  split at hc
  · simp at hc
  · split at hc
    · simp at hc
    · split at hc
      · rename_i h1 h2 h3
        rw [if_neg (by omega), if_neg (by rw [hx.ins, hx.outs]; omega), if_pos]
        simp only [Aig.good, Bool.and_eq_true, Bool.not_eq_true', List.any_eq_false, Bool.not_eq_true, Bool.not_eq_false'] at h3 ⊢
        refine ⟨⟨hf.gok, fun f hm => ?_⟩, fun a hm => ?_⟩
        · rw [hx.flops] at hm; exact fun hn => by have := hx.lit (by simpa using h3.1.2 f hm : g.lit f.next = true); rw [hn] at this; simp at this
        · rw [hx.outs] at hm; exact fun hn => by have := hx.lit (by simpa using h3.2 a hm : g.lit a = true); rw [hn] at this; simp at this
      · simp at hc
theorem Res.check {g : Aig} (hs : Wf g) {n : Nat} {l : List Int} {r : Aig × Int × Int} (h : Res g n l r) (h0 : r.2.2 = 0) : r.1.check = 0 ∧ Fine r.1 ∧ Ext g r.1 ∧ r.1.lit r.2.1 = true ∧ r.1.ands.length ≤ g.ands.length + n ∧ (∀ a ∈ l, g.lit a = true) ∧ g.check = 0 := by
  rcases h with ⟨_, hc, hl, hf, hx, hl', hn⟩ | ⟨h, _⟩
  · exact ⟨ext_check hs hc hx hf, hf, hx, hl', hn, hl, hc⟩
  · exact (h h0).elim
theorem Res.checkL {g : Aig} (hs : Wf g) {n : Nat} {l m : List Int} {r : Aig × Int × Int} (h : Res g n l r) (h0 : r.2.2 = 0) (hm : ∀ a ∈ m, a ∈ l) : r.1.checkL r.1.check m = 0 := by
  obtain ⟨h1, _, hx, _, _, hl, _⟩ := h.check hs h0
  exact checkL_zero.2 ⟨h1, fun a ha => hx.lit (hl a (hm a ha))⟩
end Fil

namespace Fil
open Abs
theorem vals_prefix : ∀ (l : List (Int × Int)) (v : List Bool), ∃ m, Aig.vals v l = v ++ m
  | [], v => ⟨[], by simp [Aig.vals]⟩
  | x :: l, v => by
    obtain ⟨m, hm⟩ := vals_prefix l (v ++ [Aig.val v x.1 && Aig.val v x.2])
    exact ⟨_ :: m, by rw [Aig.vals, hm, List.append_assoc]; rfl⟩
theorem val_app {v m : List Bool} {a : Int} (h : (a / 2).toNat < v.length) : Aig.val (v ++ m) a = Aig.val v a := by
  unfold Aig.val
  rw [List.getD_eq_getElem?_getD, List.getD_eq_getElem?_getD, List.getElem?_append_left h]
theorem val_turn {v : List Bool} {a : Int} (h : 0 ≤ a) : Aig.val v (turn a) = !Aig.val v a := by
  unfold Aig.val
  have e : (turn a / 2).toNat = (a / 2).toNat := by unfold turn; omega
  rw [e]
  by_cases h1 : a % 2 = 1
  · have h2 : ¬ turn a % 2 = 1 := by unfold turn; omega
    cases v.getD (a / 2).toNat false <;> simp [h1, h2]
  · have h2 : turn a % 2 = 1 := by unfold turn; omega
    cases v.getD (a / 2).toNat false <;> simp [h1, h2]
section
variable {s : List Bool}
theorem V_length {g : Aig} (hf : Fine g) (hb : ((s.length + 1 : Nat) : Int) = g.first) : ((Aig.vals (false :: s) g.ands).length : Int) = 1 + g.count := by
  rw [vals_length, count_first, List.length_cons]; omega
theorem V_ext {g h : Aig} (hx : Ext g h) : ∃ m, Aig.vals (false :: s) h.ands = Aig.vals (false :: s) g.ands ++ m := by
  obtain ⟨_, _, _, l, e⟩ := hx
  rw [e, vals_append]
  exact vals_prefix _ _
theorem val_ext {g h : Aig} (hf : Fine g) (hb : ((s.length + 1 : Nat) : Int) = g.first) (hx : Ext g h) {a : Int} (ha : g.lit a = true) : Aig.val (Aig.vals (false :: s) h.ands) a = Aig.val (Aig.vals (false :: s) g.ands) a := by
  obtain ⟨m, e⟩ := V_ext (s := s) hx
  rw [e, val_app]
  have := V_length hf hb
  have := litN_iff.1 ha
  omega
theorem val_zero {g : Aig} : Aig.val (Aig.vals (false :: s) g.ands) 0 = false := by
  obtain ⟨m, e⟩ := vals_prefix g.ands (false :: s)
  rw [e]; rfl
theorem val_one {g : Aig} : Aig.val (Aig.vals (false :: s) g.ands) 1 = true := by
  obtain ⟨m, e⟩ := vals_prefix g.ands (false :: s)
  rw [e]; rfl
theorem idxF_get {α : Type} (p : α → Bool) : ∀ (l : List α), 0 ≤ idxF p l → ∃ h : (idxF p l).toNat < l.length, p l[(idxF p l).toNat] = true
  | [], h => by simp [idxF] at h
  | a :: l, h => by
    by_cases hp : p a = true
    · have e : idxF p (a :: l) = 0 := by simp [idxF, hp]
      simp [e, hp]
    · by_cases h' : idxF p l < 0
      · have e : idxF p (a :: l) = -1 := by simp [idxF, hp, h']
        omega
      · have e : idxF p (a :: l) = idxF p l + 1 := by simp [idxF, hp, h']
        obtain ⟨k, hk⟩ := idxF_get p l (by omega)
        have e2 : (idxF p (a :: l)).toNat = (idxF p l).toNat + 1 := by omega
        have k2 : (idxF p (a :: l)).toNat < (a :: l).length := by rw [e2, List.length_cons]; omega
        refine ⟨k2, ?_⟩
        simp only [e2, List.getElem_cons_succ]
        exact hk
theorem gate_val {g : Aig} (hf : Fine g) (hb : ((s.length + 1 : Nat) : Int) = g.first) {i : Nat} (hi : i < g.ands.length) :
    Aig.val (Aig.vals (false :: s) g.ands) (2 * (g.first + i)) = (Aig.val (Aig.vals (false :: s) g.ands) g.ands[i].1 && Aig.val (Aig.vals (false :: s) g.ands) g.ands[i].2) := by
  have hg := gatesOk_iff.1 hf.gok i hi
  have st := vals_step (v := false :: s) hi
  have ln := vals_len (v := false :: s) (l := g.ands) (i := i) (by omega)
  have sp : g.ands = g.ands.take (i + 1) ++ g.ands.drop (i + 1) := (List.take_append_drop _ _).symm
  have sp' : g.ands = g.ands.take i ++ g.ands.drop i := (List.take_append_drop _ _).symm
  obtain ⟨m, e⟩ := vals_prefix (g.ands.drop (i + 1)) (Aig.vals (false :: s) (g.ands.take (i + 1)))
  obtain ⟨m', e'⟩ := vals_prefix (g.ands.drop i) (Aig.vals (false :: s) (g.ands.take i))
  rw [← vals_append, ← sp, st] at e
  rw [← vals_append, ← sp'] at e'
  rw [List.length_cons] at ln
  have a1 : (g.ands[i].1 / 2).toNat < (Aig.vals (false :: s) (g.ands.take i)).length := by omega
  have a2 : (g.ands[i].2 / 2).toNat < (Aig.vals (false :: s) (g.ands.take i)).length := by omega
  have q1 : Aig.val (Aig.vals (false :: s) g.ands) g.ands[i].1 = Aig.val (Aig.vals (false :: s) (g.ands.take i)) g.ands[i].1 := by rw [e', val_app a1]
  have q2 : Aig.val (Aig.vals (false :: s) g.ands) g.ands[i].2 = Aig.val (Aig.vals (false :: s) (g.ands.take i)) g.ands[i].2 := by rw [e', val_app a2]
  rw [q1, q2, e]
  have ix : (2 * (g.first + i) / 2).toNat = (Aig.vals (false :: s) (g.ands.take i)).length := by omega
  have od : ¬ (2 * (g.first + (i : Int))) % 2 = 1 := by omega
  unfold Aig.val
  rw [ix, List.getD_eq_getElem?_getD, List.append_assoc, List.getElem?_append_right (Nat.le_refl _)]
  simp [od]
theorem min_max_val {v : List Bool} {p q : Int} : (Aig.val v (min p q) && Aig.val v (max p q)) = (Aig.val v p && Aig.val v q) := by
  rcases Int.le_total p q with h | h
  · rw [Int.min_eq_left h, Int.max_eq_right h]
  · rw [Int.min_eq_right h, Int.max_eq_left h, Bool.and_comm]
theorem andO_val {g h : Aig} {p q x : Int} (hf : Fine g) (hb : ((s.length + 1 : Nat) : Int) = g.first) (hp : g.lit p = true) (hq : g.lit q = true) (ho : g.andO p q = some (h, x)) :
    Aig.val (Aig.vals (false :: s) h.ands) x = (Aig.val (Aig.vals (false :: s) g.ands) p && Aig.val (Aig.vals (false :: s) g.ands) q) := by
  have hp' := litN_iff.1 hp
  have hq' := litN_iff.1 hq
  rw [← min_max_val]
  unfold Aig.andO at ho
  simp only at ho
  split at ho
  · rename_i c
    simp at ho; obtain ⟨rfl, rfl⟩ := ho
    rw [val_zero]
    rcases c with c | c
    · rw [c, val_zero]; rfl
    · rw [c, val_turn (by omega)]; cases Aig.val (Aig.vals (false :: s) g.ands) (max p q) <;> rfl
  · split at ho
    · rename_i c
      simp at ho; obtain ⟨rfl, rfl⟩ := ho
      rcases c with c | c
      · rw [c, val_one, Bool.true_and]
      · rw [c, Bool.and_self]
    · split at ho
      · rename_i c
        simp at ho; obtain ⟨rfl, rfl⟩ := ho
        obtain ⟨k, hk⟩ := idxF_get _ _ c
        have e := gate_val (s := s) hf hb k
        have e2 : (((g.find (min p q) (max p q)).toNat : Nat) : Int) = g.find (min p q) (max p q) := by omega
        have e4 : (((idxF (fun x : Int × Int => decide (min x.1 x.2 = min p q) && decide (max x.1 x.2 = max p q)) g.ands).toNat : Nat) : Int) = g.find (min p q) (max p q) := e2
        rw [e4] at e
        rw [e, ← min_max_val]
        simp only [Bool.and_eq_true, decide_eq_true_eq] at hk
        rw [hk.1, hk.2]
      · split at ho
        · simp at ho
        · simp at ho; obtain ⟨rfl, rfl⟩ := ho
          have ln := V_length (s := s) hf hb
          have ix : (2 * (g.count + 1) / 2).toNat = (Aig.vals (false :: s) g.ands).length := by omega
          have od : ¬ (2 * (g.count + 1)) % 2 = 1 := by omega
          simp only [vals_snoc]
          generalize hv : (Aig.val (Aig.vals (false :: s) g.ands) (min p q) && Aig.val (Aig.vals (false :: s) g.ands) (max p q)) = w
          unfold Aig.val
          rw [ix, List.getD_eq_getElem?_getD, List.getElem?_append_right (Nat.le_refl _)]
          simp [od]
theorem andW_val {g : Aig} {e p q : Int} (hf : e = 0 → Fine g ∧ g.lit p = true ∧ g.lit q = true) (hb : ((s.length + 1 : Nat) : Int) = g.first) (h : (g.andW e p q).2.1 = 0) :
    Aig.val (Aig.vals (false :: s) (g.andW e p q).1.ands) (g.andW e p q).2.2 = (Aig.val (Aig.vals (false :: s) g.ands) p && Aig.val (Aig.vals (false :: s) g.ands) q) := by
  have he := andW_err h
  obtain ⟨h1, h2, h3⟩ := hf he
  subst he
  unfold Aig.andW at h ⊢
  simp only [ne_eq, not_true_eq_false, if_false] at h ⊢
  cases ho : g.andO p q with
  | none => rw [ho] at h; simp at h
  | some r => exact andO_val h1 hb h2 h3 ho
theorem orW_val {g : Aig} {e p q : Int} (hf : e = 0 → Fine g ∧ g.lit p = true ∧ g.lit q = true) (hb : ((s.length + 1 : Nat) : Int) = g.first) (h : (g.orW e p q).2.1 = 0) :
    Aig.val (Aig.vals (false :: s) (g.orW e p q).1.ands) (g.orW e p q).2.2 = (Aig.val (Aig.vals (false :: s) g.ands) p || Aig.val (Aig.vals (false :: s) g.ands) q) := by
  have he : e = 0 := andW_err h
  have hf' : e = 0 → Fine g ∧ g.lit (turn p) = true ∧ g.lit (turn q) = true := fun he => ⟨(hf he).1, turn_lit (hf he).2.1, turn_lit (hf he).2.2⟩
  have k := andW_val (s := s) hf' hb h
  have ok := (andW_ok hf').2.2.1
  show Aig.val _ (turn _) = _
  rw [val_turn ok]
  obtain ⟨_, h2, h3⟩ := hf he
  have k' : Aig.val (Aig.vals (false :: s) (g.orW e p q).1.ands) (g.andW e (turn p) (turn q)).2.2 = _ := k
  rw [k', val_turn (litN_iff.1 h2).1, val_turn (litN_iff.1 h3).1]
  cases Aig.val (Aig.vals (false :: s) g.ands) p <;> cases Aig.val (Aig.vals (false :: s) g.ands) q <;> rfl
theorem pairs_val {g : Aig} {e a b c d : Int} (hf : e = 0 → Fine g ∧ g.lit a = true ∧ g.lit b = true ∧ g.lit c = true ∧ g.lit d = true) (hb : ((s.length + 1 : Nat) : Int) = g.first) (h : (g.pairs e a b c d).2.1 = 0) :
    Aig.val (Aig.vals (false :: s) (g.pairs e a b c d).1.ands) (g.pairs e a b c d).2.2 = ((Aig.val (Aig.vals (false :: s) g.ands) a && Aig.val (Aig.vals (false :: s) g.ands) b) || (Aig.val (Aig.vals (false :: s) g.ands) c && Aig.val (Aig.vals (false :: s) g.ands) d)) := by
  have f1 : e = 0 → Fine g ∧ g.lit a = true ∧ g.lit b = true := fun h => ⟨(hf h).1, (hf h).2.1, (hf h).2.2.1⟩
  obtain ⟨h1, h2, _⟩ := andW_ok f1
  have f2 : (g.andW e a b).2.1 = 0 → Fine (g.andW e a b).1 ∧ (g.andW e a b).1.lit c = true ∧ (g.andW e a b).1.lit d = true := fun h => by
    obtain ⟨_, _, _, hc, hd⟩ := hf (andW_err h)
    exact ⟨(h1 h).1, h2.lit hc, h2.lit hd⟩
  obtain ⟨k1, k2, _⟩ := andW_ok f2
  have f3 : ((g.andW e a b).1.andW (g.andW e a b).2.1 c d).2.1 = 0 → Fine ((g.andW e a b).1.andW (g.andW e a b).2.1 c d).1 ∧ ((g.andW e a b).1.andW (g.andW e a b).2.1 c d).1.lit (g.andW e a b).2.2 = true ∧ ((g.andW e a b).1.andW (g.andW e a b).2.1 c d).1.lit ((g.andW e a b).1.andW (g.andW e a b).2.1 c d).2.2 = true := fun h =>
    ⟨(k1 h).1, k2.lit (h1 (andW_err h)).2, (k1 h).2⟩
  have e2 : ((g.andW e a b).1.andW (g.andW e a b).2.1 c d).2.1 = 0 := andW_err h
  have e1 : (g.andW e a b).2.1 = 0 := andW_err e2
  have v1 := andW_val (s := s) f1 hb e1
  have v2 := andW_val (s := s) f2 (by rw [h2.first]; exact hb) e2
  have v3 := orW_val (s := s) f3 (by rw [k2.first, h2.first]; exact hb) h
  obtain ⟨hg, _, _, hc, hd⟩ := hf (andW_err e1)
  have x1 := val_ext (s := s) (h1 e1).1 (by rw [h2.first]; exact hb) k2 (h1 e1).2
  have x2 := val_ext (s := s) hg hb h2 hc
  have x3 := val_ext (s := s) hg hb h2 hd
  rw [x1, v1, v2, x2, x3] at v3
  exact v3
end
def Aig.value (g : Aig) (a : Int) (inp st : List Bool) : Bool := Aig.val (Aig.vals (false :: (inp ++ st)) g.ands) a
section
variable {g : Aig} {a b c : Int} {inp st : List Bool} (hs : Wf g) (l1 : (inp.length : Int) = g.ins) (l2 : st.length = g.flops.length)
include hs l1 l2
theorem and_val (h : (g.And a b).2.2 = 0) : (g.And a b).1.value (g.And a b).2.1 inp st = (g.value a inp st && g.value b inp st) := by
  have hb : (((inp ++ st).length + 1 : Nat) : Int) = g.first := by rw [List.length_append]; unfold Aig.first; omega
  unfold Aig.And at h ⊢
  by_cases h' : (g.andW (g.checkL g.check [a, b]) a b).2.1 = 0
  · rw [endW_ok h']
    exact andW_val (fun h => ⟨(checkL_fine hs h).1, (checkL_fine hs h).2 _ (by simp), (checkL_fine hs h).2 _ (by simp)⟩) hb h'
  · rw [endW_err h'] at h; exact (h' h).elim
theorem or_val (h : (g.Or a b).2.2 = 0) : (g.Or a b).1.value (g.Or a b).2.1 inp st = (g.value a inp st || g.value b inp st) := by
  have hb : (((inp ++ st).length + 1 : Nat) : Int) = g.first := by rw [List.length_append]; unfold Aig.first; omega
  unfold Aig.Or at h ⊢
  by_cases h' : (g.orW (g.checkL g.check [a, b]) a b).2.1 = 0
  · rw [endW_ok h']
    exact orW_val (fun h => ⟨(checkL_fine hs h).1, (checkL_fine hs h).2 _ (by simp), (checkL_fine hs h).2 _ (by simp)⟩) hb h'
  · rw [endW_err h'] at h; exact (h' h).elim
theorem xor_val (h : (g.Xor a b).2.2 = 0) : (g.Xor a b).1.value (g.Xor a b).2.1 inp st = (g.value a inp st != g.value b inp st) := by
  have hb : (((inp ++ st).length + 1 : Nat) : Int) = g.first := by rw [List.length_append]; unfold Aig.first; omega
  have hl := (xor_res hs a b).check hs h
  have pa := (litN_iff.1 (hl.2.2.2.2.2.1 a (by simp))).1
  have pb := (litN_iff.1 (hl.2.2.2.2.2.1 b (by simp))).1
  unfold Aig.Xor at h ⊢
  by_cases h' : (g.pairs (g.checkL g.check [a, b]) a (turn b) (turn a) b).2.1 = 0
  · rw [endW_ok h']
    have := pairs_val (s := inp ++ st) (fun h => ⟨(checkL_fine hs h).1, (checkL_fine hs h).2 _ (by simp), turn_lit ((checkL_fine hs h).2 _ (by simp)), turn_lit ((checkL_fine hs h).2 _ (by simp)), (checkL_fine hs h).2 _ (by simp)⟩) hb h'
    rw [val_turn pa, val_turn pb] at this
    refine this.trans ?_
    unfold Aig.value
    cases Aig.val (Aig.vals (false :: (inp ++ st)) g.ands) a <;> cases Aig.val (Aig.vals (false :: (inp ++ st)) g.ands) b <;> rfl
  · rw [endW_err h'] at h; exact (h' h).elim
theorem mux_val (h : (g.Mux c a b).2.2 = 0) : (g.Mux c a b).1.value (g.Mux c a b).2.1 inp st = if g.value c inp st then g.value a inp st else g.value b inp st := by
  have hb : (((inp ++ st).length + 1 : Nat) : Int) = g.first := by rw [List.length_append]; unfold Aig.first; omega
  have hl := (mux_res hs c a b).check hs h
  have pc := (litN_iff.1 (hl.2.2.2.2.2.1 c (by simp))).1
  unfold Aig.Mux at h ⊢
  by_cases h' : (g.pairs (g.checkL g.check [c, a, b]) c a (turn c) b).2.1 = 0
  · rw [endW_ok h']
    have := pairs_val (s := inp ++ st) (fun h => ⟨(checkL_fine hs h).1, (checkL_fine hs h).2 _ (by simp), (checkL_fine hs h).2 _ (by simp), turn_lit ((checkL_fine hs h).2 _ (by simp)), (checkL_fine hs h).2 _ (by simp)⟩) hb h'
    rw [val_turn pc] at this
    refine this.trans ?_
    unfold Aig.value
    cases Aig.val (Aig.vals (false :: (inp ++ st)) g.ands) c <;> simp
  · rw [endW_err h'] at h; exact (h' h).elim
end
end Fil

namespace Fil.Bl
open Abs
inductive Op where
  | and | or | xor | mux
def Op.ev : Op → Bool → Bool → Bool → Bool
  | .and, a, b, _ => a && b
  | .or, a, b, _ => a || b
  | .xor, a, b, _ => a != b
  | .mux, a, b, c => if a then b else c
def Op.ap : Op → Aig → Int → Int → Int → Aig × Int × Int
  | .and, g, x, y, _ => g.And x y
  | .or, g, x, y, _ => g.Or x y
  | .xor, g, x, y, _ => g.Xor x y
  | .mux, g, x, y, z => g.Mux x y z
inductive Pg (α : Type) where
  | ret (a : α)
  | op (o : Op) (x y z : Int) (k : Int → Pg α)
def Pg.bind {α β : Type} : Pg α → (α → Pg β) → Pg β
  | .ret a, f => f a
  | .op o x y z k, f => .op o x y z fun r => (k r).bind f
structure Bu where
  g : Aig
  e : Int
def Bu.op (b : Bu) (o : Op) (x y z : Int) : Int × Bu :=
  if b.e ≠ 0 then (0, b) else if (o.ap b.g x y z).2.2 ≠ 0 then (0, ⟨b.g, (o.ap b.g x y z).2.2⟩) else ((o.ap b.g x y z).2.1, ⟨(o.ap b.g x y z).1, 0⟩)
def Pg.run {α : Type} : Pg α → Bu → α × Bu
  | .ret a, b => (a, b)
  | .op o x y z k, b => (k (b.op o x y z).1).run (b.op o x y z).2
theorem run_bind {α β : Type} (f : α → Pg β) : ∀ (p : Pg α) (b : Bu), (p.bind f).run b = (f (p.run b).1).run (p.run b).2
  | .ret a, b => rfl
  | .op o x y z k, b => by simp only [Pg.bind, Pg.run]; exact run_bind f _ _
def iter {α : Type} (f : Nat → α → Pg α) (a : α) : Nat → Pg α
  | 0 => .ret a
  | n + 1 => (iter f a n).bind (f n)
theorem iter_run {α : Type} (f : Nat → α → Pg α) (a : α) (n : Nat) (b : Bu) : (iter f a (n + 1)).run b = (f n ((iter f a n).run b).1).run ((iter f a n).run b).2 := run_bind _ _ _

/-! ### Words -/
def gt (l : List Int) (i : Nat) : Int := l.getD i 0
def andP (x y : Int) : Pg Int := .op .and x y 0 .ret
def orP (x y : Int) : Pg Int := .op .or x y 0 .ret
def xorP (x y : Int) : Pg Int := .op .xor x y 0 .ret
def muxP (c x y : Int) : Pg Int := .op .mux c x y .ret
def notW (x : List Int) : List Int := x.map turn
def zipP (f : Int → Int → Pg Int) (x y : List Int) : Nat → Pg (List Int) := iter (fun i out => (f (gt x i) (gt y i)).bind fun r => .ret (out ++ [r])) []
def foldP (f : Int → Int → Pg Int) (a : Int) (l : List Int) : Nat → Pg Int := iter (fun i a => f a (gt l i)) a
def fullP (p q c : Int) : Pg (Int × Int) :=
  (xorP p q).bind fun e => (xorP e c).bind fun s => (andP p q).bind fun both => (andP e c).bind fun on => (orP both on).bind fun c => .ret (s, c)
def sumP (x y : List Int) (c : Int) : Nat → Pg (List Int × Int) := iter (fun i r => (fullP (gt x i) (gt y i) r.2).bind fun s => .ret (r.1 ++ [s.1], s.2)) ([], c)
def sumW (x y : List Int) (c : Int) : Pg (List Int × Int) := sumP x y c x.length
def rowP (x : List Int) (bit : Int) (i : Nat) : Nat → Pg (List Int) := iter (fun j row => (andP (gt x j) bit).bind fun r => .ret (row ++ [r])) (List.replicate i 0)
def mulP (x y : List Int) : Nat → Pg (List Int) := iter (fun i out => (rowP x (gt y i) i (x.length - i)).bind fun row => (sumW out row 0).bind fun r => .ret r.1) (List.replicate x.length 0)
def far (x : List Int) (k : Int) : Int := if 0 ≤ k ∧ k < x.length then gt x k.toNat else 0
def farI (up : Bool) (i j : Nat) : Int := if up then j - 2 ^ (min i 8) else j + 2 ^ (min i 8)
def shift1 (x : List Int) (bit : Int) (up : Bool) (i : Nat) : Nat → Pg (List Int) := iter (fun j out => (muxP bit (far x (farI up i j)) (gt x j)).bind fun r => .ret (out ++ [r])) []
def shiftP (x y : List Int) (up : Bool) : Nat → Pg (List Int) := iter (fun i x => shift1 x (gt y i) up i x.length) x
def allW (l : List Int) : Pg Int := foldP andP 1 l l.length
def lessW (x y : List Int) : Pg Int := (sumW x (notW y) 1).bind fun r => .ret (turn r.2)
def eqW (x y : List Int) : Pg Int := (zipP xorP x y x.length).bind fun l => allW (notW l)
def unP (op : Int) (a : List Int) : Pg (List Int) :=
  if op = 1 then .ret (notW a)
  else if op = 2 then (sumW (notW a) (List.replicate a.length 0) 1).bind fun r => .ret r.1
  else if op = 3 then (allW a).bind fun r => .ret [r]
  else if op = 4 then (allW (notW a)).bind fun r => .ret [turn r]
  else if op = 5 then (foldP xorP 0 a a.length).bind fun r => .ret [r]
  else .ret [turn (gt a 0)]
def binP (op : Int) (x y : List Int) : Pg (List Int) :=
  if op = 11 ∨ op = 25 then zipP andP x y x.length
  else if op = 12 ∨ op = 26 then zipP orP x y x.length
  else if op = 13 then zipP xorP x y x.length
  else if op = 14 then (sumW x y 0).bind fun r => .ret r.1
  else if op = 15 then (sumW x (notW y) 1).bind fun r => .ret r.1
  else if op = 16 then mulP x y y.length
  else if op = 17 then shiftP x y true y.length
  else if op = 18 then shiftP x y false y.length
  else if op = 19 then (eqW x y).bind fun r => .ret [r]
  else if op = 20 then (eqW x y).bind fun r => .ret [turn r]
  else if op = 21 then (lessW x y).bind fun r => .ret [r]
  else if op = 23 then (lessW y x).bind fun r => .ret [r]
  else if op = 22 then (lessW y x).bind fun r => .ret [turn r]
  else (lessW x y).bind fun r => .ret [turn r]
def condP (c : Int) (x y : List Int) : Pg (List Int) := zipP (fun p q => muxP c p q) x y x.length
def extW (op w : Int) (a : List Int) : List Int :=
  if op = 33 then a.take w.toNat else a ++ List.replicate (w.toNat - a.length) (if op = 32 then gt a (a.length - 1) else 0)
def numW (w v : Int) : List Int := (List.range w.toNat).map fun i => v / 2 ^ i % 2
def word (g : Aig) (a : List Int) : Bool := decide (0 < a.length) && decide (a.length ≤ 64) && a.all g.lit
def zG : Aig := ⟨0, [], [], []⟩
def told (r : List Int × Bu) : Aig × List Int × Int := if r.2.e ≠ 0 then (zG, [], r.2.e) else (r.2.g, r.1, 0)
def made (g : Aig) (may : Bool) (p : Pg (List Int)) : Aig × List Int × Int :=
  if g.check ≠ 0 then (zG, [], g.check) else if may = false then (zG, [], 1) else told (p.run ⟨g, 0⟩)
def mayUn (g : Aig) (op : Int) (a : List Int) : Bool := word g a && decide (1 ≤ op ∧ op ≤ 6 ∧ (op ≠ 6 ∨ a.length = 1))
def mayBin (g : Aig) (op : Int) (a b : List Int) : Bool := word g a && word g b && decide (11 ≤ op ∧ op ≤ 26 ∧ (op = 17 ∨ op = 18 ∨ (a.length = b.length ∧ (op < 25 ∨ a.length = 1))))
def mayCond (g : Aig) (c : Int) (a b : List Int) : Bool := word g a && word g b && word g [c] && decide (a.length = b.length)
def mayExt (g : Aig) (op w : Int) (a : List Int) : Bool := word g a && decide (1 ≤ w ∧ w ≤ 64 ∧ 31 ≤ op ∧ op ≤ 33 ∧ (w = a.length ∨ (w < a.length ↔ op = 33)))
def Un (g : Aig) (op : Int) (a : List Int) := made g (mayUn g op a) (unP op a)
def Bin (g : Aig) (op : Int) (a b : List Int) := made g (mayBin g op a b) (binP op a b)
def Cond (g : Aig) (c : Int) (a b : List Int) := made g (mayCond g c a b) (condP c a b)
def Ext (g : Aig) (op w : Int) (a : List Int) := made g (mayExt g op w a) (.ret (extW op w a))
end Fil.Bl

namespace Fil.Bl
open Abs

/-! ### One operation -/
structure Ok (g : Aig) : Prop where
  wf : Wf g
  chk : g.check = 0
theorem Ok.fine {g : Aig} (h : Ok g) : Fine g := check_fine h.wf h.chk
def Op.lits : Op → Int → Int → Int → List Int
  | .mux, x, y, z => [x, y, z]
  | _, x, y, _ => [x, y]
theorem op_res {g : Aig} (hs : Wf g) (o : Op) (x y z : Int) : Res g 3 (o.lits x y z) (o.ap g x y z) := by
  have up : ∀ {l : List Int} {r : Aig × Int × Int}, Res g 1 l r → Res g 3 l r := fun h => by
    rcases h with ⟨h1, h2, h3, h4, h5, h6, h7⟩ | h
    · exact .inl ⟨h1, h2, h3, h4, h5, h6, by omega⟩
    · exact .inr h
  cases o with
  | and => exact up (and_res hs x y)
  | or => exact up (or_res hs x y)
  | xor => exact xor_res hs x y
  | mux => exact mux_res hs x y z
theorem op_ok {g : Aig} (hs : Wf g) {o : Op} {x y z : Int} (h : (o.ap g x y z).2.2 = 0) : Ok g ∧ Ok (o.ap g x y z).1 ∧ Fil.Ext g (o.ap g x y z).1 ∧ (o.ap g x y z).1.lit (o.ap g x y z).2.1 = true ∧ (o.ap g x y z).1.ands.length ≤ g.ands.length + 3 ∧ ∀ a ∈ o.lits x y z, g.lit a = true := by
  obtain ⟨h1, h2, h3, h4, h5, h6, h7⟩ := (op_res hs o x y z).check hs h
  exact ⟨⟨hs, h7⟩, ⟨h2.toWf, h1⟩, h3, h4, h5, h6⟩
theorem op_val {g : Aig} (hs : Wf g) {inp st : List Bool} (l1 : (inp.length : Int) = g.ins) (l2 : st.length = g.flops.length) {o : Op} {x y z : Int} (h : (o.ap g x y z).2.2 = 0) :
    (o.ap g x y z).1.value (o.ap g x y z).2.1 inp st = o.ev (g.value x inp st) (g.value y inp st) (g.value z inp st) := by
  cases o with
  | and => exact and_val hs l1 l2 h
  | or => exact or_val hs l1 l2 h
  | xor => exact xor_val hs l1 l2 h
  | mux => exact mux_val hs l1 l2 h
theorem value_ext {g h : Aig} (hf : Fine g) {inp st : List Bool} (l1 : (inp.length : Int) = g.ins) (l2 : st.length = g.flops.length) (hx : Fil.Ext g h) {a : Int} (ha : g.lit a = true) : h.value a inp st = g.value a inp st := by
  have hb : (((inp ++ st).length + 1 : Nat) : Int) = g.first := by rw [List.length_append]; unfold Aig.first; omega
  exact val_ext hf hb hx ha
theorem value_turn {g : Aig} {inp st : List Bool} {a : Int} (h : 0 ≤ a) : g.value (turn a) inp st = !g.value a inp st := val_turn h
theorem res_wf {g : Aig} (hs : Wf g) (o : Op) (x y z : Int) : Wf (o.ap g x y z).1 ∧ I64 (o.ap g x y z).2.1 := (op_res hs o x y z).wf
theorem bu_wf {b : Bu} (hs : Wf b.g) (o : Op) (x y z : Int) : Wf (b.op o x y z).2.g ∧ I64 (b.op o x y z).1 := by
  unfold Bu.op
  split
  · exact ⟨hs, by unfold I64; omega⟩
  split
  · exact ⟨hs, by unfold I64; omega⟩
  · exact res_wf hs o x y z

/-! ### Operations one behind the other -/
theorem op_err {b : Bu} (o : Op) (x y z : Int) (h : (b.op o x y z).2.e = 0) : b.e = 0 ∧ (o.ap b.g x y z).2.2 = 0 ∧ b.op o x y z = ((o.ap b.g x y z).2.1, ⟨(o.ap b.g x y z).1, 0⟩) := by
  unfold Bu.op at h ⊢
  split at h
  · rename_i q; exact (q h).elim
  rename_i q
  split at h
  · rename_i q2; exact (q2 h).elim
  rename_i q2
  rw [if_neg q, if_neg q2]
  exact ⟨by omega, by omega, rfl⟩
theorem run_err {α : Type} : ∀ (p : Pg α) (b : Bu), (p.run b).2.e = 0 → b.e = 0
  | .ret a, b, h => h
  | .op o x y z k, b, h => (op_err o x y z (run_err _ _ h)).1
theorem run_ok {α : Type} : ∀ (p : Pg α) (b : Bu), Wf b.g → Ok b.g → (p.run b).2.e = 0 → Ok (p.run b).2.g ∧ Fil.Ext b.g (p.run b).2.g
  | .ret a, b, _, ho, h => ⟨ho, .refl _⟩
  | .op o x y z k, b, hs, ho, h => by
    simp only [Pg.run] at h ⊢
    obtain ⟨h0, h1, h2⟩ := op_err o x y z (run_err _ _ h)
    obtain ⟨k1, k2, k3, _⟩ := op_ok hs h1
    rw [h2] at h ⊢
    obtain ⟨m1, m2⟩ := run_ok _ _ k2.wf k2 h
    exact ⟨m1, k3.trans m2⟩
def wpG (W : Int → Prop) (V : Int → Bool) {α : Type} : Pg α → (Nat → α → Prop) → Prop
  | .ret a, Q => Q 0 a
  | .op o x y z k, Q => (W x ∧ W y ∧ W z) ∧ ∀ r, W r → V r = o.ev (V x) (V y) (V z) → wpG W V (k r) fun n a => Q (n + 1) a
theorem wpG_mono {W : Int → Prop} {V : Int → Bool} {α : Type} : ∀ {p : Pg α} {Q Q' : Nat → α → Prop}, wpG W V p Q → (∀ n a, Q n a → Q' n a) → wpG W V p Q'
  | .ret a, Q, Q', h, k => k 0 a h
  | .op o x y z f, Q, Q', h, k => ⟨h.1, fun r h1 h2 => wpG_mono (h.2 r h1 h2) fun n a => k (n + 1) a⟩
theorem wpG_bind {W : Int → Prop} {V : Int → Bool} {α β : Type} {f : α → Pg β} : ∀ {p : Pg α} {Q : Nat → β → Prop}, wpG W V p (fun n a => wpG W V (f a) fun m b => Q (n + m) b) → wpG W V (p.bind f) Q
  | .ret a, Q, h => by
    have h : wpG W V (f a) (fun m b => Q (0 + m) b) := h
    exact wpG_mono h fun n a q => by rw [Nat.zero_add] at q; exact q
  | .op o x y z k, Q, h => ⟨h.1, fun r h1 h2 => wpG_bind (wpG_mono (h.2 r h1 h2) fun n a q => wpG_mono q fun m b q => by
      have e : n + 1 + m = n + m + 1 := by omega
      rw [e] at q; exact q)⟩
theorem run_sem {α : Type} {inp st : List Bool} {K : Aig} : ∀ (p : Pg α) (b : Bu) (Q : Nat → α → Prop), Wf b.g → (inp.length : Int) = b.g.ins → st.length = b.g.flops.length → (p.run b).2.e = 0 → Fil.Ext (p.run b).2.g K →
    wpG (fun a => K.lit a = true) (fun a => K.value a inp st) p Q → ∃ n, Q n (p.run b).1 ∧ (p.run b).2.g.ands.length ≤ b.g.ands.length + 3 * n
  | .ret a, b, Q, _, _, _, _, _, hq => ⟨0, hq, by simp [Pg.run]⟩
  | .op o x y z k, b, Q, hs, l1, l2, h, hx, hq => by
    simp only [Pg.run] at h hx ⊢
    obtain ⟨h0, h1, h2⟩ := op_err o x y z (run_err _ _ h)
    obtain ⟨k1, k2, k3, k4, k5, k6⟩ := op_ok hs h1
    rw [h2] at h hx ⊢
    obtain ⟨m1, m2⟩ := run_ok _ _ k2.wf k2 h
    have hv := op_val hs l1 l2 h1
    have e1 := k3.ins
    have e2 := k3.flops
    have hr : K.lit (o.ap b.g x y z).2.1 = true := (m2.trans hx).lit k4
    have vx : ∀ a, b.g.lit a = true → K.value a inp st = b.g.value a inp st := fun a ha => value_ext k1.fine l1 l2 (k3.trans (m2.trans hx)) ha
    have vr : K.value (o.ap b.g x y z).2.1 inp st = (o.ap b.g x y z).1.value (o.ap b.g x y z).2.1 inp st := value_ext k2.fine (by rw [e1]; exact l1) (by rw [e2]; exact l2) (m2.trans hx) k4
    have hev : K.value (o.ap b.g x y z).2.1 inp st = o.ev (K.value x inp st) (K.value y inp st) (K.value z inp st) := by
      rw [vr, hv]
      cases o with
      | mux => rw [vx x (k6 x (by simp [Op.lits])), vx y (k6 y (by simp [Op.lits])), vx z (k6 z (by simp [Op.lits]))]
      | and => simp only [Op.ev]; rw [vx x (k6 x (by simp [Op.lits])), vx y (k6 y (by simp [Op.lits]))]
      | or => simp only [Op.ev]; rw [vx x (k6 x (by simp [Op.lits])), vx y (k6 y (by simp [Op.lits]))]
      | xor => simp only [Op.ev]; rw [vx x (k6 x (by simp [Op.lits])), vx y (k6 y (by simp [Op.lits]))]
    obtain ⟨n, q1, q2⟩ := run_sem (K := K) (k (o.ap b.g x y z).2.1) ⟨(o.ap b.g x y z).1, 0⟩ (fun n a => Q (n + 1) a) k2.wf (by rw [e1]; exact l1) (by rw [e2]; exact l2) h hx (hq.2 _ hr hev)
    refine ⟨n + 1, q1, ?_⟩
    simp only at q2 ⊢
    omega

/-! ### Numbers -/
def b2 (b : Bool) : Int := if b then 1 else 0
end Fil.Bl

