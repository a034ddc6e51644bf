/- The abstraction layer, part Rf: a function with one range over a function that tells ints. Over any program. -/
import Derived.RangeFuncLeaves
import Derived.RangeFuncSeq
import Derived.RangeFuncRecord
import Derived.Test.YtbbihmmobfmadaaSBlaBlaB
set_option linter.unusedSimpArgs false
set_option linter.unusedVariables false
namespace Go.Proofs.Ytbbihmmobfmadaa
open Abs Fil Fil.Bl
def binR (op : Int) (w a b : Nat) : (Nat × Nat) × Int := if 11 ≤ op ∧ op ≤ 26 ∧ (op < 25 ∨ w = 1) then (binN op w a b, 0) else ((0, 0), 1)
theorem and_maskM {M w n : Nat} (hM : M = 2 ^ w - 1) (hw : w ≤ 64) : n % 18446744073709551616 &&& M = n % 2 ^ w := by
  rw [hM, Nat.and_two_pow_sub_one_eq_mod, mod_pow hw]
theorem sub_modM {a b w : Nat} (hw : w ≤ 64) (hb : b < 2 ^ w) : (a + (18446744073709551616 - b)) % 2 ^ w = (a + (2 ^ w - b)) % 2 ^ w := by
  obtain ⟨k, hk⟩ := pow_dvd64 hw
  have hk1 : 1 ≤ k := by
    rcases Nat.eq_zero_or_pos k with h | h
    · subst h; omega
    · exact h
  obtain ⟨j, rfl⟩ : ∃ j, k = j + 1 := ⟨k - 1, by omega⟩
  have e : a + (18446744073709551616 - b) = a + (2 ^ w - b) + 2 ^ w * j := by rw [hk, Nat.mul_add]; omega
  rw [e, Nat.add_mul_mod_self_left]
theorem up_mod {a b w : Nat} (hw : w ≤ 64) (h : 63 < b) : a * 2 ^ b % 2 ^ w = 0 := by
  have : b = w + (b - w) := by omega
  rw [this, Nat.pow_add, Nat.mul_comm, Nat.mul_assoc, Nat.mul_mod_right]
theorem down_div {a b : Nat} (ha : a < 18446744073709551616) (h : 63 < b) : a / 2 ^ b = 0 := by
  refine Nat.div_eq_of_lt (Nat.lt_of_lt_of_le ha ?_)
  have : 2 ^ 64 ≤ 2 ^ b := Nat.pow_le_pow_right (by omega) (by omega)
  have e : (2 : Nat) ^ 64 = 18446744073709551616 := by decide
  omega
set_option maxRecDepth 20000 in
set_option maxHeartbeats 8000000 in
theorem rf_Bin (op : Int) (w a v b : Nat) (σ : Sig) (hw : 1 ≤ w ∧ w ≤ 64) (ha : a < 2 ^ w) (hv : 1 ≤ v ∧ v ≤ 64) (hb : b < 2 ^ v) (hwv : op = 17 ∨ op = 18 ∨ w = v) :
    ACalls Try.prog 12 [.int .i64 op, encB w a, encB v b] σ (fun r σ' => r = .ret (.tup [encB (binR op w a b).1.1 (binR op w a b).1.2, .int .i64 (binR op w a b).2]) ∧ σ' = σ) := by
  have z1 := fun τ => rf_Check01 w a τ
  rw [bits_ok hw ha, if_pos rfl] at z1
  have z1b := fun τ => rf_Check01 v b τ
  rw [bits_ok hv hb, if_pos rfl] at z1b
  have z2 := fun τ => rf_Mask w τ
  have hm := mask_eq hw
  have hml := maskN_lt w
  have hal := lt64 hw ha
  have hbl := lt64 hv hb
  have z3 := fun b τ => rf_bit b τ
  have z6 := fun τ => rf_up a b τ hbl
  have z7 := fun τ => rf_down a b τ hbl
  obtain ⟨M, hM⟩ : ∃ M, maskN w = M := ⟨_, rfl⟩
  rw [hM] at z2 hm hml
  obtain ⟨R, hR⟩ : ∃ R, binR op w a b = R := ⟨_, rfl⟩
  rw [hR]
  have good : 11 ≤ op ∧ op ≤ 26 ∧ (op < 25 ∨ w = 1) → R = (binN op w a b, 0) := fun h => by rw [← hR]; unfold binR; rw [if_pos h]
  have bad : ¬ (11 ≤ op ∧ op ≤ 26 ∧ (op < 25 ∨ w = 1)) → R = ((0, 0), 1) := fun h => by rw [← hR]; unfold binR; rw [if_neg h]
  clear hM hR
  refine calls_x mixed Try.func12 b12 n12 rfl q12 (by simp) ?_; unfold c12 r12
  by_cases o17 : op = 17
  · have hR : R = ((w, a * 2 ^ b % 2 ^ w), 0) := by rw [good (by omega), o17]; rfl
    have hu : ((if 63 < b then 0 else a * 2 ^ b % 18446744073709551616 : Nat)) &&& M = a * 2 ^ b % 2 ^ w := by
      split
      · rename_i h; rw [up_mod hw.2 h]; simp
      · exact and_maskM hm hw.2
    have hul : (if 63 < b then 0 else a * 2 ^ b % 18446744073709551616 : Nat) < 18446744073709551616 := by
      split
      · omega
      · exact Nat.mod_lt _ (by omega)
    obtain ⟨U, hU⟩ : ∃ U, (if 63 < b then 0 else a * 2 ^ b % 18446744073709551616 : Nat) = U := ⟨_, rfl⟩
    rw [hU] at z6 hu hul
    have hand := andU U M hul hml
    rw [hu] at hand
    subst hR o17
    obtain ⟨N, hN⟩ : ∃ N, a * 2 ^ b % 2 ^ w = N := ⟨_, rfl⟩
    rw [hN] at hand ⊢
    clear z3 z7 good bad hU hu hN hm
    repeat' (first | simp (maxDischargeDepth := 9) -implicitDefEqProofs -dsimp only [go_sem, seval, *] | ((with_reducible refine Zt (fun oF hoF hnF hnF' => ?_)); (try simp only [upd_none, ne_eq, not_and] at hoF)) | ((with_reducible apply ACalls.one1); (focus ((first | with_reducible refine z1 _ | with_reducible refine z1b _ | with_reducible refine z2 _ | with_reducible refine z6 _ | with_reducible refine ACalls.flA (z1 _) ?_ | with_reducible refine ACalls.flA (z1b _) ?_ | with_reducible refine ACalls.flA (z2 _) ?_ | with_reducible refine ACalls.flA (z6 _) ?_) <;> (first | (simp (maxDischargeDepth := 9) -implicitDefEqProofs -dsimp only [go_sem, seval, *]; done) | omega))); (focus (first | trivial | with_reducible exact rfl | (simp (maxDischargeDepth := 9) -implicitDefEqProofs -dsimp only [go_sem, seval]; done)))) | ((with_reducible apply id_one0); (focus (intro tS hS; ((first | with_reducible refine z1 _ | with_reducible refine z1b _ | with_reducible refine z2 _ | with_reducible refine z6 _ | with_reducible refine ACalls.flA (z1 _) ?_ | with_reducible refine ACalls.flA (z1b _) ?_ | with_reducible refine ACalls.flA (z2 _) ?_ | with_reducible refine ACalls.flA (z6 _) ?_) <;> (first | (simp (maxDischargeDepth := 9) -implicitDefEqProofs -dsimp only [go_sem, seval, *]; done) | omega | ((with_reducible refine Sub.get hS ?_); simp (maxDischargeDepth := 9) -implicitDefEqProofs -dsimp only [go_sem, seval, *]; done))))); (focus (first | trivial | (simp (maxDischargeDepth := 9) -implicitDefEqProofs -dsimp only [go_sem, seval, *]; done)))))
    refine fin_eq ?_
    (repeat' (first | simp (maxDischargeDepth := 9) -implicitDefEqProofs -dsimp only [go_sem, seval, *])) <;> (repeat' refine And.intro ?_ ?_) <;> (first | omega | rfl | assumption | skip)
  have b17 : (op == 17) = false := by simp [o17]
  by_cases o18 : op = 18
  · have hR : R = ((w, a / 2 ^ b), 0) := by rw [good (by omega), o18]; rfl
    have hu : ((if 63 < b then 0 else a / 2 ^ b : Nat)) = a / 2 ^ b := by
      split
      · rename_i h; rw [down_div hal h]
      · rfl
    rw [hu] at z7
    subst hR o18
    obtain ⟨N, hN⟩ : ∃ N, a / 2 ^ b = N := ⟨_, rfl⟩
    rw [hN] at z7 ⊢
    clear z3 z6 good bad hu hN
    repeat' (first | simp (maxDischargeDepth := 9) -implicitDefEqProofs -dsimp only [go_sem, seval, *] | ((with_reducible refine Zt (fun oF hoF hnF hnF' => ?_)); (try simp only [upd_none, ne_eq, not_and] at hoF)) | ((with_reducible apply ACalls.one1); (focus ((first | with_reducible refine z1 _ | with_reducible refine z1b _ | with_reducible refine z2 _ | with_reducible refine z7 _ | with_reducible refine ACalls.flA (z1 _) ?_ | with_reducible refine ACalls.flA (z1b _) ?_ | with_reducible refine ACalls.flA (z2 _) ?_ | with_reducible refine ACalls.flA (z7 _) ?_) <;> (first | (simp (maxDischargeDepth := 9) -implicitDefEqProofs -dsimp only [go_sem, seval, *]; done) | omega))); (focus (first | trivial | with_reducible exact rfl | (simp (maxDischargeDepth := 9) -implicitDefEqProofs -dsimp only [go_sem, seval]; done)))) | ((with_reducible apply id_one0); (focus (intro tS hS; ((first | with_reducible refine z1 _ | with_reducible refine z1b _ | with_reducible refine z2 _ | with_reducible refine z7 _ | with_reducible refine ACalls.flA (z1 _) ?_ | with_reducible refine ACalls.flA (z1b _) ?_ | with_reducible refine ACalls.flA (z2 _) ?_ | with_reducible refine ACalls.flA (z7 _) ?_) <;> (first | (simp (maxDischargeDepth := 9) -implicitDefEqProofs -dsimp only [go_sem, seval, *]; done) | omega | ((with_reducible refine Sub.get hS ?_); simp (maxDischargeDepth := 9) -implicitDefEqProofs -dsimp only [go_sem, seval, *]; done))))); (focus (first | trivial | (simp (maxDischargeDepth := 9) -implicitDefEqProofs -dsimp only [go_sem, seval, *]; done)))))
    refine fin_eq ?_
    (repeat' (first | simp (maxDischargeDepth := 9) -implicitDefEqProofs -dsimp only [go_sem, seval, *])) <;> (repeat' refine And.intro ?_ ?_) <;> (first | omega | rfl | assumption | skip)
  have b18 : (op == 18) = false := by simp [o18]
  have hwe : w = v := by omega
  subst hwe
  clear z6 z7
  have bne : ((w : Int) != (w : Int)) = false := by simp
  by_cases o11 : op = 11
  · have hR : R = ((w, a &&& b), 0) := by rw [good (by omega), o11]; rfl
    have hand := andU a b hal hbl
    subst hR o11
    obtain ⟨N, hN⟩ : ∃ N, a &&& b = N := ⟨_, rfl⟩
    rw [hN] at hand ⊢
    clear z3 good bad hN hm
    repeat' (first | simp (maxDischargeDepth := 9) -implicitDefEqProofs -dsimp only [go_sem, seval, *] | ((with_reducible refine Zt (fun oF hoF hnF hnF' => ?_)); (try simp only [upd_none, ne_eq, not_and] at hoF)) | ((with_reducible apply ACalls.one1); (focus ((first | with_reducible refine z1 _ | with_reducible refine z1b _ | with_reducible refine z2 _ | with_reducible refine ACalls.flA (z1 _) ?_ | with_reducible refine ACalls.flA (z1b _) ?_ | with_reducible refine ACalls.flA (z2 _) ?_) <;> (first | (simp (maxDischargeDepth := 9) -implicitDefEqProofs -dsimp only [go_sem, seval, *]; done) | omega))); (focus (first | trivial | with_reducible exact rfl | (simp (maxDischargeDepth := 9) -implicitDefEqProofs -dsimp only [go_sem, seval]; done)))))
    refine fin_eq ?_
    (repeat' (first | simp (maxDischargeDepth := 9) -implicitDefEqProofs -dsimp only [go_sem, seval, *])) <;> (repeat' refine And.intro ?_ ?_) <;> (first | omega | rfl | assumption | skip)
  have b11 : (op == 11) = false := by simp [o11]
  by_cases o12 : op = 12
  · have hR : R = ((w, a ||| b), 0) := by rw [good (by omega), o12]; rfl
    have hand := orU a b hal hbl
    subst hR o12
    obtain ⟨N, hN⟩ : ∃ N, a ||| b = N := ⟨_, rfl⟩
    rw [hN] at hand ⊢
    clear z3 good bad hN hm
    repeat' (first | simp (maxDischargeDepth := 9) -implicitDefEqProofs -dsimp only [go_sem, seval, *] | ((with_reducible refine Zt (fun oF hoF hnF hnF' => ?_)); (try simp only [upd_none, ne_eq, not_and] at hoF)) | ((with_reducible apply ACalls.one1); (focus ((first | with_reducible refine z1 _ | with_reducible refine z1b _ | with_reducible refine z2 _ | with_reducible refine ACalls.flA (z1 _) ?_ | with_reducible refine ACalls.flA (z1b _) ?_ | with_reducible refine ACalls.flA (z2 _) ?_) <;> (first | (simp (maxDischargeDepth := 9) -implicitDefEqProofs -dsimp only [go_sem, seval, *]; done) | omega))); (focus (first | trivial | with_reducible exact rfl | (simp (maxDischargeDepth := 9) -implicitDefEqProofs -dsimp only [go_sem, seval]; done)))))
    refine fin_eq ?_
    (repeat' (first | simp (maxDischargeDepth := 9) -implicitDefEqProofs -dsimp only [go_sem, seval, *])) <;> (repeat' refine And.intro ?_ ?_) <;> (first | omega | rfl | assumption | skip)
  have b12 : (op == 12) = false := by simp [o12]
  by_cases o13 : op = 13
  · have hR : R = ((w, a ^^^ b), 0) := by rw [good (by omega), o13]; rfl
    have hand := xorU a b hal hbl
    subst hR o13
    obtain ⟨N, hN⟩ : ∃ N, a ^^^ b = N := ⟨_, rfl⟩
    rw [hN] at hand ⊢
    clear z3 good bad hN hm
    repeat' (first | simp (maxDischargeDepth := 9) -implicitDefEqProofs -dsimp only [go_sem, seval, *] | ((with_reducible refine Zt (fun oF hoF hnF hnF' => ?_)); (try simp only [upd_none, ne_eq, not_and] at hoF)) | ((with_reducible apply ACalls.one1); (focus ((first | with_reducible refine z1 _ | with_reducible refine z1b _ | with_reducible refine z2 _ | with_reducible refine ACalls.flA (z1 _) ?_ | with_reducible refine ACalls.flA (z1b _) ?_ | with_reducible refine ACalls.flA (z2 _) ?_) <;> (first | (simp (maxDischargeDepth := 9) -implicitDefEqProofs -dsimp only [go_sem, seval, *]; done) | omega))); (focus (first | trivial | with_reducible exact rfl | (simp (maxDischargeDepth := 9) -implicitDefEqProofs -dsimp only [go_sem, seval]; done)))))
    refine fin_eq ?_
    (repeat' (first | simp (maxDischargeDepth := 9) -implicitDefEqProofs -dsimp only [go_sem, seval, *])) <;> (repeat' refine And.intro ?_ ?_) <;> (first | omega | rfl | assumption | skip)
  have b13 : (op == 13) = false := by simp [o13]
  by_cases o14 : op = 14
  · have hR : R = ((w, (a + b) % 2 ^ w), 0) := by rw [good (by omega), o14]; rfl
    have hs : IntKind.u64.wrap ((a : Int) + (b : Int)) = (((a + b) % 18446744073709551616 : Nat) : Int) := by
      rw [wrapU_mod]
      omega
    have hand := andU ((a + b) % 18446744073709551616) M (Nat.mod_lt _ (by omega)) hml
    rw [and_maskM hm hw.2] at hand
    subst hR o14
    obtain ⟨N, hN⟩ : ∃ N, (a + b) % 2 ^ w = N := ⟨_, rfl⟩
    rw [hN] at hand ⊢
    obtain ⟨G, hG⟩ : ∃ N, (a + b) % 18446744073709551616 = N := ⟨_, rfl⟩
    rw [hG] at hs hand
    clear z3 good bad hN hG hm
    repeat' (first | simp (maxDischargeDepth := 9) -implicitDefEqProofs -dsimp only [go_sem, seval, *] | ((with_reducible refine Zt (fun oF hoF hnF hnF' => ?_)); (try simp only [upd_none, ne_eq, not_and] at hoF)) | ((with_reducible apply ACalls.one1); (focus ((first | with_reducible refine z1 _ | with_reducible refine z1b _ | with_reducible refine z2 _ | with_reducible refine ACalls.flA (z1 _) ?_ | with_reducible refine ACalls.flA (z1b _) ?_ | with_reducible refine ACalls.flA (z2 _) ?_) <;> (first | (simp (maxDischargeDepth := 9) -implicitDefEqProofs -dsimp only [go_sem, seval, *]; done) | omega))); (focus (first | trivial | with_reducible exact rfl | (simp (maxDischargeDepth := 9) -implicitDefEqProofs -dsimp only [go_sem, seval]; done)))))
    refine fin_eq ?_
    (repeat' (first | simp (maxDischargeDepth := 9) -implicitDefEqProofs -dsimp only [go_sem, seval, *])) <;> (repeat' refine And.intro ?_ ?_) <;> (first | omega | rfl | assumption | skip)
  have b14 : (op == 14) = false := by simp [o14]
  by_cases o15 : op = 15
  · have hR : R = ((w, (a + (2 ^ w - b)) % 2 ^ w), 0) := by rw [good (by omega), o15]; rfl
    have hs : IntKind.u64.wrap ((a : Int) - (b : Int)) = (((a + (18446744073709551616 - b)) % 18446744073709551616 : Nat) : Int) := by
      rw [wrapU_mod]
      omega
    have hand := andU ((a + (18446744073709551616 - b)) % 18446744073709551616) M (Nat.mod_lt _ (by omega)) hml
    rw [and_maskM hm hw.2, sub_modM hw.2 hb] at hand
    subst hR o15
    obtain ⟨N, hN⟩ : ∃ N, (a + (2 ^ w - b)) % 2 ^ w = N := ⟨_, rfl⟩
    rw [hN] at hand ⊢
    obtain ⟨G, hG⟩ : ∃ N, (a + (18446744073709551616 - b)) % 18446744073709551616 = N := ⟨_, rfl⟩
    rw [hG] at hs hand
    clear z3 good bad hN hG hm
    repeat' (first | simp (maxDischargeDepth := 9) -implicitDefEqProofs -dsimp only [go_sem, seval, *] | ((with_reducible refine Zt (fun oF hoF hnF hnF' => ?_)); (try simp only [upd_none, ne_eq, not_and] at hoF)) | ((with_reducible apply ACalls.one1); (focus ((first | with_reducible refine z1 _ | with_reducible refine z1b _ | with_reducible refine z2 _ | with_reducible refine ACalls.flA (z1 _) ?_ | with_reducible refine ACalls.flA (z1b _) ?_ | with_reducible refine ACalls.flA (z2 _) ?_) <;> (first | (simp (maxDischargeDepth := 9) -implicitDefEqProofs -dsimp only [go_sem, seval, *]; done) | omega))); (focus (first | trivial | with_reducible exact rfl | (simp (maxDischargeDepth := 9) -implicitDefEqProofs -dsimp only [go_sem, seval]; done)))))
    refine fin_eq ?_
    (repeat' (first | simp (maxDischargeDepth := 9) -implicitDefEqProofs -dsimp only [go_sem, seval, *])) <;> (repeat' refine And.intro ?_ ?_) <;> (first | omega | rfl | assumption | skip)
  have b15 : (op == 15) = false := by simp [o15]
  by_cases o16 : op = 16
  · have hR : R = ((w, a * b % 2 ^ w), 0) := by rw [good (by omega), o16]; rfl
    have hs : IntKind.u64.wrap ((a : Int) * (b : Int)) = (((a * b) % 18446744073709551616 : Nat) : Int) := by
      rw [wrapU_mod]
      simp
    have hand := andU ((a * b) % 18446744073709551616) M (Nat.mod_lt _ (by omega)) hml
    rw [and_maskM hm hw.2] at hand
    subst hR o16
    obtain ⟨N, hN⟩ : ∃ N, a * b % 2 ^ w = N := ⟨_, rfl⟩
    rw [hN] at hand ⊢
    obtain ⟨G, hG⟩ : ∃ N, (a * b) % 18446744073709551616 = N := ⟨_, rfl⟩
    rw [hG] at hs hand
    clear z3 good bad hN hG hm
    repeat' (first | simp (maxDischargeDepth := 9) -implicitDefEqProofs -dsimp only [go_sem, seval, *] | ((with_reducible refine Zt (fun oF hoF hnF hnF' => ?_)); (try simp only [upd_none, ne_eq, not_and] at hoF)) | ((with_reducible apply ACalls.one1); (focus ((first | with_reducible refine z1 _ | with_reducible refine z1b _ | with_reducible refine z2 _ | with_reducible refine ACalls.flA (z1 _) ?_ | with_reducible refine ACalls.flA (z1b _) ?_ | with_reducible refine ACalls.flA (z2 _) ?_) <;> (first | (simp (maxDischargeDepth := 9) -implicitDefEqProofs -dsimp only [go_sem, seval, *]; done) | omega))); (focus (first | trivial | with_reducible exact rfl | (simp (maxDischargeDepth := 9) -implicitDefEqProofs -dsimp only [go_sem, seval]; done)))))
    refine fin_eq ?_
    (repeat' (first | simp (maxDischargeDepth := 9) -implicitDefEqProofs -dsimp only [go_sem, seval, *])) <;> (repeat' refine And.intro ?_ ?_) <;> (first | omega | rfl | assumption | skip)
  have b16 : (op == 16) = false := by simp [o16]
  by_cases o19 : op = 19
  · have hR : R = ((1, n1 (a = b)), 0) := by rw [good (by omega), o19]; rfl
    have z5 := fun τ => z3 ((a : Int) == (b : Int)) τ
    have e : ((a : Int) == (b : Int)).toNat = n1 (a = b) := by rw [← n1_dec]; congr 1; rw [Bool.eq_iff_iff, beq_iff_eq, decide_eq_true_eq]; omega
    rw [e] at z5
    subst hR o19
    obtain ⟨N, hN⟩ : ∃ N, n1 (a = b) = N := ⟨_, rfl⟩
    rw [hN] at z5 ⊢
    clear z3 good bad e hN
    repeat' (first | simp (maxDischargeDepth := 9) -implicitDefEqProofs -dsimp only [go_sem, seval, gt_iff_lt, ge_iff_le, *] | ((with_reducible refine Zt (fun oF hoF hnF hnF' => ?_)); (try simp only [upd_none, ne_eq, not_and] at hoF)) | ((with_reducible apply ACalls.one1); (focus ((first | with_reducible refine z1 _ | with_reducible refine z1b _ | with_reducible refine z2 _ | with_reducible refine z5 _ | with_reducible refine ACalls.flA (z1 _) ?_ | with_reducible refine ACalls.flA (z1b _) ?_ | with_reducible refine ACalls.flA (z2 _) ?_ | with_reducible refine ACalls.flA (z5 _) ?_) <;> (first | (simp (maxDischargeDepth := 9) -implicitDefEqProofs -dsimp only [go_sem, seval, *]; done) | omega))); (focus (first | trivial | with_reducible exact rfl | (simp (maxDischargeDepth := 9) -implicitDefEqProofs -dsimp only [go_sem, seval]; done)))))
    refine fin_eq ?_
    (repeat' (first | simp (maxDischargeDepth := 9) -implicitDefEqProofs -dsimp only [go_sem, seval, Int.natCast_one, *])) <;> (repeat' refine And.intro ?_ ?_) <;> (first | omega | rfl | assumption | skip)
  have b19 : (op == 19) = false := by simp [o19]
  by_cases o20 : op = 20
  · have hR : R = ((1, n1 (a ≠ b)), 0) := by rw [good (by omega), o20]; rfl
    have z5 := fun τ => z3 ((a : Int) != (b : Int)) τ
    have e : ((a : Int) != (b : Int)).toNat = n1 (a ≠ b) := by rw [← n1_dec]; congr 1; rw [Bool.eq_iff_iff, bne_iff_ne, decide_eq_true_eq]; omega
    rw [e] at z5
    subst hR o20
    obtain ⟨N, hN⟩ : ∃ N, n1 (a ≠ b) = N := ⟨_, rfl⟩
    rw [hN] at z5 ⊢
    clear z3 good bad e hN
    repeat' (first | simp (maxDischargeDepth := 9) -implicitDefEqProofs -dsimp only [go_sem, seval, gt_iff_lt, ge_iff_le, *] | ((with_reducible refine Zt (fun oF hoF hnF hnF' => ?_)); (try simp only [upd_none, ne_eq, not_and] at hoF)) | ((with_reducible apply ACalls.one1); (focus ((first | with_reducible refine z1 _ | with_reducible refine z1b _ | with_reducible refine z2 _ | with_reducible refine z5 _ | with_reducible refine ACalls.flA (z1 _) ?_ | with_reducible refine ACalls.flA (z1b _) ?_ | with_reducible refine ACalls.flA (z2 _) ?_ | with_reducible refine ACalls.flA (z5 _) ?_) <;> (first | (simp (maxDischargeDepth := 9) -implicitDefEqProofs -dsimp only [go_sem, seval, *]; done) | omega))); (focus (first | trivial | with_reducible exact rfl | (simp (maxDischargeDepth := 9) -implicitDefEqProofs -dsimp only [go_sem, seval]; done)))))
    refine fin_eq ?_
    (repeat' (first | simp (maxDischargeDepth := 9) -implicitDefEqProofs -dsimp only [go_sem, seval, Int.natCast_one, *])) <;> (repeat' refine And.intro ?_ ?_) <;> (first | omega | rfl | assumption | skip)
  have b20 : (op == 20) = false := by simp [o20]
  by_cases o21 : op = 21
  · have hR : R = ((1, n1 (a < b)), 0) := by rw [good (by omega), o21]; rfl
    have z5 := fun τ => z3 (decide ((a : Int) < (b : Int))) τ
    have e : (decide ((a : Int) < (b : Int))).toNat = n1 (a < b) := by rw [← n1_dec]; congr 1; rw [Bool.eq_iff_iff, decide_eq_true_eq, decide_eq_true_eq]; omega
    rw [e] at z5
    subst hR o21
    obtain ⟨N, hN⟩ : ∃ N, n1 (a < b) = N := ⟨_, rfl⟩
    rw [hN] at z5 ⊢
    clear z3 good bad e hN
    repeat' (first | simp (maxDischargeDepth := 9) -implicitDefEqProofs -dsimp only [go_sem, seval, gt_iff_lt, ge_iff_le, *] | ((with_reducible refine Zt (fun oF hoF hnF hnF' => ?_)); (try simp only [upd_none, ne_eq, not_and] at hoF)) | ((with_reducible apply ACalls.one1); (focus ((first | with_reducible refine z1 _ | with_reducible refine z1b _ | with_reducible refine z2 _ | with_reducible refine z5 _ | with_reducible refine ACalls.flA (z1 _) ?_ | with_reducible refine ACalls.flA (z1b _) ?_ | with_reducible refine ACalls.flA (z2 _) ?_ | with_reducible refine ACalls.flA (z5 _) ?_) <;> (first | (simp (maxDischargeDepth := 9) -implicitDefEqProofs -dsimp only [go_sem, seval, *]; done) | omega))); (focus (first | trivial | with_reducible exact rfl | (simp (maxDischargeDepth := 9) -implicitDefEqProofs -dsimp only [go_sem, seval]; done)))))
    refine fin_eq ?_
    (repeat' (first | simp (maxDischargeDepth := 9) -implicitDefEqProofs -dsimp only [go_sem, seval, Int.natCast_one, *])) <;> (repeat' refine And.intro ?_ ?_) <;> (first | omega | rfl | assumption | skip)
  have b21 : (op == 21) = false := by simp [o21]
  by_cases o22 : op = 22
  · have hR : R = ((1, n1 (a ≤ b)), 0) := by rw [good (by omega), o22]; rfl
    have z5 := fun τ => z3 (decide ((a : Int) ≤ (b : Int))) τ
    have e : (decide ((a : Int) ≤ (b : Int))).toNat = n1 (a ≤ b) := by rw [← n1_dec]; congr 1; rw [Bool.eq_iff_iff, decide_eq_true_eq, decide_eq_true_eq]; omega
    rw [e] at z5
    subst hR o22
    obtain ⟨N, hN⟩ : ∃ N, n1 (a ≤ b) = N := ⟨_, rfl⟩
    rw [hN] at z5 ⊢
    clear z3 good bad e hN
    repeat' (first | simp (maxDischargeDepth := 9) -implicitDefEqProofs -dsimp only [go_sem, seval, gt_iff_lt, ge_iff_le, *] | ((with_reducible refine Zt (fun oF hoF hnF hnF' => ?_)); (try simp only [upd_none, ne_eq, not_and] at hoF)) | ((with_reducible apply ACalls.one1); (focus ((first | with_reducible refine z1 _ | with_reducible refine z1b _ | with_reducible refine z2 _ | with_reducible refine z5 _ | with_reducible refine ACalls.flA (z1 _) ?_ | with_reducible refine ACalls.flA (z1b _) ?_ | with_reducible refine ACalls.flA (z2 _) ?_ | with_reducible refine ACalls.flA (z5 _) ?_) <;> (first | (simp (maxDischargeDepth := 9) -implicitDefEqProofs -dsimp only [go_sem, seval, *]; done) | omega))); (focus (first | trivial | with_reducible exact rfl | (simp (maxDischargeDepth := 9) -implicitDefEqProofs -dsimp only [go_sem, seval]; done)))))
    refine fin_eq ?_
    (repeat' (first | simp (maxDischargeDepth := 9) -implicitDefEqProofs -dsimp only [go_sem, seval, Int.natCast_one, *])) <;> (repeat' refine And.intro ?_ ?_) <;> (first | omega | rfl | assumption | skip)
  have b22 : (op == 22) = false := by simp [o22]
  by_cases o23 : op = 23
  · have hR : R = ((1, n1 (b < a)), 0) := by rw [good (by omega), o23]; rfl
    have z5 := fun τ => z3 (decide ((b : Int) < (a : Int))) τ
    have e : (decide ((b : Int) < (a : Int))).toNat = n1 (b < a) := by rw [← n1_dec]; congr 1; rw [Bool.eq_iff_iff, decide_eq_true_eq, decide_eq_true_eq]; omega
    rw [e] at z5
    subst hR o23
    obtain ⟨N, hN⟩ : ∃ N, n1 (b < a) = N := ⟨_, rfl⟩
    rw [hN] at z5 ⊢
    clear z3 good bad e hN
    repeat' (first | simp (maxDischargeDepth := 9) -implicitDefEqProofs -dsimp only [go_sem, seval, gt_iff_lt, ge_iff_le, *] | ((with_reducible refine Zt (fun oF hoF hnF hnF' => ?_)); (try simp only [upd_none, ne_eq, not_and] at hoF)) | ((with_reducible apply ACalls.one1); (focus ((first | with_reducible refine z1 _ | with_reducible refine z1b _ | with_reducible refine z2 _ | with_reducible refine z5 _ | with_reducible refine ACalls.flA (z1 _) ?_ | with_reducible refine ACalls.flA (z1b _) ?_ | with_reducible refine ACalls.flA (z2 _) ?_ | with_reducible refine ACalls.flA (z5 _) ?_) <;> (first | (simp (maxDischargeDepth := 9) -implicitDefEqProofs -dsimp only [go_sem, seval, *]; done) | omega))); (focus (first | trivial | with_reducible exact rfl | (simp (maxDischargeDepth := 9) -implicitDefEqProofs -dsimp only [go_sem, seval]; done)))))
    refine fin_eq ?_
    (repeat' (first | simp (maxDischargeDepth := 9) -implicitDefEqProofs -dsimp only [go_sem, seval, Int.natCast_one, *])) <;> (repeat' refine And.intro ?_ ?_) <;> (first | omega | rfl | assumption | skip)
  have b23 : (op == 23) = false := by simp [o23]
  by_cases o24 : op = 24
  · have hR : R = ((1, n1 (b ≤ a)), 0) := by rw [good (by omega), o24]; rfl
    have z5 := fun τ => z3 (decide ((b : Int) ≤ (a : Int))) τ
    have e : (decide ((b : Int) ≤ (a : Int))).toNat = n1 (b ≤ a) := by rw [← n1_dec]; congr 1; rw [Bool.eq_iff_iff, decide_eq_true_eq, decide_eq_true_eq]; omega
    rw [e] at z5
    subst hR o24
    obtain ⟨N, hN⟩ : ∃ N, n1 (b ≤ a) = N := ⟨_, rfl⟩
    rw [hN] at z5 ⊢
    clear z3 good bad e hN
    repeat' (first | simp (maxDischargeDepth := 9) -implicitDefEqProofs -dsimp only [go_sem, seval, gt_iff_lt, ge_iff_le, *] | ((with_reducible refine Zt (fun oF hoF hnF hnF' => ?_)); (try simp only [upd_none, ne_eq, not_and] at hoF)) | ((with_reducible apply ACalls.one1); (focus ((first | with_reducible refine z1 _ | with_reducible refine z1b _ | with_reducible refine z2 _ | with_reducible refine z5 _ | with_reducible refine ACalls.flA (z1 _) ?_ | with_reducible refine ACalls.flA (z1b _) ?_ | with_reducible refine ACalls.flA (z2 _) ?_ | with_reducible refine ACalls.flA (z5 _) ?_) <;> (first | (simp (maxDischargeDepth := 9) -implicitDefEqProofs -dsimp only [go_sem, seval, *]; done) | omega))); (focus (first | trivial | with_reducible exact rfl | (simp (maxDischargeDepth := 9) -implicitDefEqProofs -dsimp only [go_sem, seval]; done)))))
    refine fin_eq ?_
    (repeat' (first | simp (maxDischargeDepth := 9) -implicitDefEqProofs -dsimp only [go_sem, seval, Int.natCast_one, *])) <;> (repeat' refine And.intro ?_ ?_) <;> (first | omega | rfl | assumption | skip)
  have b24 : (op == 24) = false := by simp [o24]
  by_cases hw1 : w = 1
  case neg =>
    have hR := bad (by omega)
    have hwb : ((w : Int) != 1) = true := by rw [bne_iff_ne]; omega
    subst hR
    clear z3 good bad
    repeat' (first | simp (maxDischargeDepth := 9) -implicitDefEqProofs -dsimp only [go_sem, seval, *] | ((with_reducible refine Zt (fun oF hoF hnF hnF' => ?_)); (try simp only [upd_none, ne_eq, not_and] at hoF)) | ((with_reducible apply ACalls.one1); (focus ((first | with_reducible refine z1 _ | with_reducible refine z1b _ | with_reducible refine z2 _ | with_reducible refine ACalls.flA (z1 _) ?_ | with_reducible refine ACalls.flA (z1b _) ?_ | with_reducible refine ACalls.flA (z2 _) ?_) <;> (first | (simp (maxDischargeDepth := 9) -implicitDefEqProofs -dsimp only [go_sem, seval, *]; done) | omega))); (focus (first | trivial | with_reducible exact rfl | (simp (maxDischargeDepth := 9) -implicitDefEqProofs -dsimp only [go_sem, seval]; done)))))
    refine fin_eq ?_
    (repeat' (first | simp (maxDischargeDepth := 9) -implicitDefEqProofs -dsimp only [go_sem, seval, Int.natCast_zero, *])) <;> (repeat' refine And.intro ?_ ?_) <;> (first | omega | rfl | assumption | skip)
  have hwi : ((w : Int) != 1) = false := by rw [hw1]; rfl
  by_cases o25 : op = 25
  · have hR : R = ((1, n1 (a = 1 ∧ b = 1)), 0) := by rw [good (by omega), o25]; rfl
    have z5 := fun τ => z3 (((a : Int) == 1) && ((b : Int) == 1)) τ
    subst hR o25
    clear good bad
    by_cases q1 : a = 1
    · by_cases q2 : b = 1
      · have e : n1 (a = 1 ∧ b = 1) = 1 := by unfold n1; rw [if_pos (by omega)]
        rw [e]
        have qa : ((a : Int) == 1) = true := by rw [beq_iff_eq]; omega
        have qb : ((b : Int) == 1) = true := by rw [beq_iff_eq]; omega
        clear e q1 q2 z5 hw1
        have z5 := fun τ => z3 true τ
        simp only [Bool.toNat_true] at z5
        clear z3
        repeat' (first | simp (maxDischargeDepth := 9) -implicitDefEqProofs -dsimp only [go_sem, seval, Int.natCast_one, Int.natCast_zero, *] | ((with_reducible refine Zt (fun oF hoF hnF hnF' => ?_)); (try simp only [upd_none, ne_eq, not_and] at hoF)) | ((with_reducible apply ACalls.one1); (focus ((first | with_reducible refine z1 _ | with_reducible refine z1b _ | with_reducible refine z2 _ | with_reducible refine z5 _ | with_reducible refine ACalls.flA (z1 _) ?_ | with_reducible refine ACalls.flA (z1b _) ?_ | with_reducible refine ACalls.flA (z2 _) ?_ | with_reducible refine ACalls.flA (z5 _) ?_) <;> (first | (simp (maxDischargeDepth := 9) -implicitDefEqProofs -dsimp only [go_sem, seval, *]; done) | omega))); (focus (first | trivial | with_reducible exact rfl | (simp (maxDischargeDepth := 9) -implicitDefEqProofs -dsimp only [go_sem, seval]; done)))))
        refine fin_eq ?_
        (repeat' (first | simp (maxDischargeDepth := 9) -implicitDefEqProofs -dsimp only [go_sem, seval, Int.natCast_one, Int.natCast_zero, *])) <;> (repeat' refine And.intro ?_ ?_) <;> (first | omega | rfl | assumption | skip)
      · have e : n1 (a = 1 ∧ b = 1) = 0 := by unfold n1; rw [if_neg (by omega)]
        rw [e]
        have qa : ((a : Int) == 1) = true := by rw [beq_iff_eq]; omega
        have qb : ((b : Int) == 1) = false := by rw [beq_eq_false_iff_ne]; omega
        clear e q1 q2 z5 hw1
        have z5 := fun τ => z3 false τ
        simp only [Bool.toNat_false] at z5
        clear z3
        repeat' (first | simp (maxDischargeDepth := 9) -implicitDefEqProofs -dsimp only [go_sem, seval, Int.natCast_one, Int.natCast_zero, *] | ((with_reducible refine Zt (fun oF hoF hnF hnF' => ?_)); (try simp only [upd_none, ne_eq, not_and] at hoF)) | ((with_reducible apply ACalls.one1); (focus ((first | with_reducible refine z1 _ | with_reducible refine z1b _ | with_reducible refine z2 _ | with_reducible refine z5 _ | with_reducible refine ACalls.flA (z1 _) ?_ | with_reducible refine ACalls.flA (z1b _) ?_ | with_reducible refine ACalls.flA (z2 _) ?_ | with_reducible refine ACalls.flA (z5 _) ?_) <;> (first | (simp (maxDischargeDepth := 9) -implicitDefEqProofs -dsimp only [go_sem, seval, *]; done) | omega))); (focus (first | trivial | with_reducible exact rfl | (simp (maxDischargeDepth := 9) -implicitDefEqProofs -dsimp only [go_sem, seval]; done)))))
        refine fin_eq ?_
        (repeat' (first | simp (maxDischargeDepth := 9) -implicitDefEqProofs -dsimp only [go_sem, seval, Int.natCast_one, Int.natCast_zero, *])) <;> (repeat' refine And.intro ?_ ?_) <;> (first | omega | rfl | assumption | skip)
    · by_cases q2 : b = 1
      · have e : n1 (a = 1 ∧ b = 1) = 0 := by unfold n1; rw [if_neg (by omega)]
        rw [e]
        have qa : ((a : Int) == 1) = false := by rw [beq_eq_false_iff_ne]; omega
        have qb : ((b : Int) == 1) = true := by rw [beq_iff_eq]; omega
        clear e q1 q2 z5 hw1
        have z5 := fun τ => z3 false τ
        simp only [Bool.toNat_false] at z5
        clear z3
        repeat' (first | simp (maxDischargeDepth := 9) -implicitDefEqProofs -dsimp only [go_sem, seval, Int.natCast_one, Int.natCast_zero, *] | ((with_reducible refine Zt (fun oF hoF hnF hnF' => ?_)); (try simp only [upd_none, ne_eq, not_and] at hoF)) | ((with_reducible apply ACalls.one1); (focus ((first | with_reducible refine z1 _ | with_reducible refine z1b _ | with_reducible refine z2 _ | with_reducible refine z5 _ | with_reducible refine ACalls.flA (z1 _) ?_ | with_reducible refine ACalls.flA (z1b _) ?_ | with_reducible refine ACalls.flA (z2 _) ?_ | with_reducible refine ACalls.flA (z5 _) ?_) <;> (first | (simp (maxDischargeDepth := 9) -implicitDefEqProofs -dsimp only [go_sem, seval, *]; done) | omega))); (focus (first | trivial | with_reducible exact rfl | (simp (maxDischargeDepth := 9) -implicitDefEqProofs -dsimp only [go_sem, seval]; done)))))
        refine fin_eq ?_
        (repeat' (first | simp (maxDischargeDepth := 9) -implicitDefEqProofs -dsimp only [go_sem, seval, Int.natCast_one, Int.natCast_zero, *])) <;> (repeat' refine And.intro ?_ ?_) <;> (first | omega | rfl | assumption | skip)
      · have e : n1 (a = 1 ∧ b = 1) = 0 := by unfold n1; rw [if_neg (by omega)]
        rw [e]
        have qa : ((a : Int) == 1) = false := by rw [beq_eq_false_iff_ne]; omega
        have qb : ((b : Int) == 1) = false := by rw [beq_eq_false_iff_ne]; omega
        clear e q1 q2 z5 hw1
        have z5 := fun τ => z3 false τ
        simp only [Bool.toNat_false] at z5
        clear z3
        repeat' (first | simp (maxDischargeDepth := 9) -implicitDefEqProofs -dsimp only [go_sem, seval, Int.natCast_one, Int.natCast_zero, *] | ((with_reducible refine Zt (fun oF hoF hnF hnF' => ?_)); (try simp only [upd_none, ne_eq, not_and] at hoF)) | ((with_reducible apply ACalls.one1); (focus ((first | with_reducible refine z1 _ | with_reducible refine z1b _ | with_reducible refine z2 _ | with_reducible refine z5 _ | with_reducible refine ACalls.flA (z1 _) ?_ | with_reducible refine ACalls.flA (z1b _) ?_ | with_reducible refine ACalls.flA (z2 _) ?_ | with_reducible refine ACalls.flA (z5 _) ?_) <;> (first | (simp (maxDischargeDepth := 9) -implicitDefEqProofs -dsimp only [go_sem, seval, *]; done) | omega))); (focus (first | trivial | with_reducible exact rfl | (simp (maxDischargeDepth := 9) -implicitDefEqProofs -dsimp only [go_sem, seval]; done)))))
        refine fin_eq ?_
        (repeat' (first | simp (maxDischargeDepth := 9) -implicitDefEqProofs -dsimp only [go_sem, seval, Int.natCast_one, Int.natCast_zero, *])) <;> (repeat' refine And.intro ?_ ?_) <;> (first | omega | rfl | assumption | skip)
  have b25 : (op == 25) = false := by simp [o25]
  by_cases o26 : op = 26
  · have hR : R = ((1, n1 (a = 1 ∨ b = 1)), 0) := by rw [good (by omega), o26]; rfl
    have z5 := fun τ => z3 (((a : Int) == 1) || ((b : Int) == 1)) τ
    subst hR o26
    clear good bad
    by_cases q1 : a = 1
    · by_cases q2 : b = 1
      · have e : n1 (a = 1 ∨ b = 1) = 1 := by unfold n1; rw [if_pos (by omega)]
        rw [e]
        have qa : ((a : Int) == 1) = true := by rw [beq_iff_eq]; omega
        have qb : ((b : Int) == 1) = true := by rw [beq_iff_eq]; omega
        clear e q1 q2 z5 hw1
        have z5 := fun τ => z3 true τ
        simp only [Bool.toNat_true] at z5
        clear z3
        repeat' (first | simp (maxDischargeDepth := 9) -implicitDefEqProofs -dsimp only [go_sem, seval, Int.natCast_one, Int.natCast_zero, *] | ((with_reducible refine Zt (fun oF hoF hnF hnF' => ?_)); (try simp only [upd_none, ne_eq, not_and] at hoF)) | ((with_reducible apply ACalls.one1); (focus ((first | with_reducible refine z1 _ | with_reducible refine z1b _ | with_reducible refine z2 _ | with_reducible refine z5 _ | with_reducible refine ACalls.flA (z1 _) ?_ | with_reducible refine ACalls.flA (z1b _) ?_ | with_reducible refine ACalls.flA (z2 _) ?_ | with_reducible refine ACalls.flA (z5 _) ?_) <;> (first | (simp (maxDischargeDepth := 9) -implicitDefEqProofs -dsimp only [go_sem, seval, *]; done) | omega))); (focus (first | trivial | with_reducible exact rfl | (simp (maxDischargeDepth := 9) -implicitDefEqProofs -dsimp only [go_sem, seval]; done)))))
        refine fin_eq ?_
        (repeat' (first | simp (maxDischargeDepth := 9) -implicitDefEqProofs -dsimp only [go_sem, seval, Int.natCast_one, Int.natCast_zero, *])) <;> (repeat' refine And.intro ?_ ?_) <;> (first | omega | rfl | assumption | skip)
      · have e : n1 (a = 1 ∨ b = 1) = 1 := by unfold n1; rw [if_pos (by omega)]
        rw [e]
        have qa : ((a : Int) == 1) = true := by rw [beq_iff_eq]; omega
        have qb : ((b : Int) == 1) = false := by rw [beq_eq_false_iff_ne]; omega
        clear e q1 q2 z5 hw1
        have z5 := fun τ => z3 true τ
        simp only [Bool.toNat_true] at z5
        clear z3
        repeat' (first | simp (maxDischargeDepth := 9) -implicitDefEqProofs -dsimp only [go_sem, seval, Int.natCast_one, Int.natCast_zero, *] | ((with_reducible refine Zt (fun oF hoF hnF hnF' => ?_)); (try simp only [upd_none, ne_eq, not_and] at hoF)) | ((with_reducible apply ACalls.one1); (focus ((first | with_reducible refine z1 _ | with_reducible refine z1b _ | with_reducible refine z2 _ | with_reducible refine z5 _ | with_reducible refine ACalls.flA (z1 _) ?_ | with_reducible refine ACalls.flA (z1b _) ?_ | with_reducible refine ACalls.flA (z2 _) ?_ | with_reducible refine ACalls.flA (z5 _) ?_) <;> (first | (simp (maxDischargeDepth := 9) -implicitDefEqProofs -dsimp only [go_sem, seval, *]; done) | omega))); (focus (first | trivial | with_reducible exact rfl | (simp (maxDischargeDepth := 9) -implicitDefEqProofs -dsimp only [go_sem, seval]; done)))))
        refine fin_eq ?_
        (repeat' (first | simp (maxDischargeDepth := 9) -implicitDefEqProofs -dsimp only [go_sem, seval, Int.natCast_one, Int.natCast_zero, *])) <;> (repeat' refine And.intro ?_ ?_) <;> (first | omega | rfl | assumption | skip)
    · by_cases q2 : b = 1
      · have e : n1 (a = 1 ∨ b = 1) = 1 := by unfold n1; rw [if_pos (by omega)]
        rw [e]
        have qa : ((a : Int) == 1) = false := by rw [beq_eq_false_iff_ne]; omega
        have qb : ((b : Int) == 1) = true := by rw [beq_iff_eq]; omega
        clear e q1 q2 z5 hw1
        have z5 := fun τ => z3 true τ
        simp only [Bool.toNat_true] at z5
        clear z3
        repeat' (first | simp (maxDischargeDepth := 9) -implicitDefEqProofs -dsimp only [go_sem, seval, Int.natCast_one, Int.natCast_zero, *] | ((with_reducible refine Zt (fun oF hoF hnF hnF' => ?_)); (try simp only [upd_none, ne_eq, not_and] at hoF)) | ((with_reducible apply ACalls.one1); (focus ((first | with_reducible refine z1 _ | with_reducible refine z1b _ | with_reducible refine z2 _ | with_reducible refine z5 _ | with_reducible refine ACalls.flA (z1 _) ?_ | with_reducible refine ACalls.flA (z1b _) ?_ | with_reducible refine ACalls.flA (z2 _) ?_ | with_reducible refine ACalls.flA (z5 _) ?_) <;> (first | (simp (maxDischargeDepth := 9) -implicitDefEqProofs -dsimp only [go_sem, seval, *]; done) | omega))); (focus (first | trivial | with_reducible exact rfl | (simp (maxDischargeDepth := 9) -implicitDefEqProofs -dsimp only [go_sem, seval]; done)))))
        refine fin_eq ?_
        (repeat' (first | simp (maxDischargeDepth := 9) -implicitDefEqProofs -dsimp only [go_sem, seval, Int.natCast_one, Int.natCast_zero, *])) <;> (repeat' refine And.intro ?_ ?_) <;> (first | omega | rfl | assumption | skip)
      · have e : n1 (a = 1 ∨ b = 1) = 0 := by unfold n1; rw [if_neg (by omega)]
        rw [e]
        have qa : ((a : Int) == 1) = false := by rw [beq_eq_false_iff_ne]; omega
        have qb : ((b : Int) == 1) = false := by rw [beq_eq_false_iff_ne]; omega
        clear e q1 q2 z5 hw1
        have z5 := fun τ => z3 false τ
        simp only [Bool.toNat_false] at z5
        clear z3
        repeat' (first | simp (maxDischargeDepth := 9) -implicitDefEqProofs -dsimp only [go_sem, seval, Int.natCast_one, Int.natCast_zero, *] | ((with_reducible refine Zt (fun oF hoF hnF hnF' => ?_)); (try simp only [upd_none, ne_eq, not_and] at hoF)) | ((with_reducible apply ACalls.one1); (focus ((first | with_reducible refine z1 _ | with_reducible refine z1b _ | with_reducible refine z2 _ | with_reducible refine z5 _ | with_reducible refine ACalls.flA (z1 _) ?_ | with_reducible refine ACalls.flA (z1b _) ?_ | with_reducible refine ACalls.flA (z2 _) ?_ | with_reducible refine ACalls.flA (z5 _) ?_) <;> (first | (simp (maxDischargeDepth := 9) -implicitDefEqProofs -dsimp only [go_sem, seval, *]; done) | omega))); (focus (first | trivial | with_reducible exact rfl | (simp (maxDischargeDepth := 9) -implicitDefEqProofs -dsimp only [go_sem, seval]; done)))))
        refine fin_eq ?_
        (repeat' (first | simp (maxDischargeDepth := 9) -implicitDefEqProofs -dsimp only [go_sem, seval, Int.natCast_one, Int.natCast_zero, *])) <;> (repeat' refine And.intro ?_ ?_) <;> (first | omega | rfl | assumption | skip)
  have b26 : (op == 26) = false := by simp [o26]
  have hR := bad (by omega)
  subst hR
  clear z3 good bad hw1
  repeat' (first | simp (maxDischargeDepth := 9) -implicitDefEqProofs -dsimp only [go_sem, seval, Int.natCast_one, *] | ((with_reducible refine Zt (fun oF hoF hnF hnF' => ?_)); (try simp only [upd_none, ne_eq, not_and] at hoF)) | ((with_reducible apply ACalls.one1); (focus ((first | with_reducible refine z1 _ | with_reducible refine z1b _ | with_reducible refine z2 _ | with_reducible refine ACalls.flA (z1 _) ?_ | with_reducible refine ACalls.flA (z1b _) ?_ | with_reducible refine ACalls.flA (z2 _) ?_) <;> (first | (simp (maxDischargeDepth := 9) -implicitDefEqProofs -dsimp only [go_sem, seval, *]; done) | omega))); (focus (first | trivial | with_reducible exact rfl | (simp (maxDischargeDepth := 9) -implicitDefEqProofs -dsimp only [go_sem, seval]; done)))))
  refine fin_eq ?_
  (repeat' (first | simp (maxDischargeDepth := 9) -implicitDefEqProofs -dsimp only [go_sem, seval, Int.natCast_zero, Int.natCast_one, *])) <;> (repeat' refine And.intro ?_ ?_) <;> (first | omega | rfl | assumption | skip)
end Go.Proofs.Ytbbihmmobfmadaa

namespace Go.Proofs.Ytbbihmmobfmadaa
open Abs Fil Fil.Bl
def extN (op : Int) (w v a : Nat) : Nat := if op = 31 then a else if op = 32 then (if a / 2 ^ (v - 1) = 1 then a ||| ((2 ^ w - 1) - (2 ^ v - 1)) else a) else a % 2 ^ w
set_option maxRecDepth 20000 in
set_option maxHeartbeats 4000000 in
theorem rf_Ext (op : Int) (w v a : Nat) (σ : Sig) (hw : 1 ≤ w ∧ w ≤ 64) (hv : 1 ≤ v ∧ v ≤ 64) (ha : a < 2 ^ v) (ho : (31 ≤ op ∧ op ≤ 32 ∧ v ≤ w) ∨ (op = 33 ∧ w ≤ v)) :
    ACalls Try.prog 22 [.int .i64 op, .int .i64 w, encB v a] σ (fun r σ' => r = .ret (.tup [encB w (extN op w v a), .int .i64 0]) ∧ σ' = σ) := by
  have z1 := fun τ => rf_Check01 v a τ
  rw [bits_ok hv ha, if_pos rfl] at z1
  have z2 := fun τ => rf_Mask w τ
  have z3 := fun τ => rf_Mask v τ
  have hm := mask_eq hw
  have hm2 := mask_eq hv
  have hml := maskN_lt w
  have hml2 := maskN_lt v
  have hal := lt64 hv ha
  have hpw := Nat.two_pow_pos w
  have hpv := Nat.two_pow_pos v
  have hle : v ≤ w → 2 ^ v ≤ 2 ^ w := fun h => Nat.pow_le_pow_right (by omega) h
  have hu : extN op w v a = if op = 31 then a else if op = 32 then (if a / 2 ^ (v - 1) = 1 then a ||| (maskN w - maskN v) else a) else a &&& maskN w := by
    unfold extN; rw [hm, hm2, Nat.and_two_pow_sub_one_eq_mod]
  obtain ⟨M, hM⟩ : ∃ M, maskN w = M := ⟨_, rfl⟩
  rw [hM] at z2 hm hml hu
  obtain ⟨Mv, hMv⟩ : ∃ M, maskN v = M := ⟨_, rfl⟩
  rw [hMv] at z3 hm2 hml2 hu
  obtain ⟨U, hU⟩ : ∃ U, extN op w v a = U := ⟨_, rfl⟩
  rw [hU] at hu ⊢
  clear hM hMv hU
  have w1 : ¬ (w : Int) < 1 := by omega
  have w2 : ¬ (64 : Int) < (w : Int) := by omega
  refine calls_x mixed Try.func22 b22 n22 rfl q22 (by simp) ?_; unfold c22 r22
  by_cases o31 : op = 31
  · rw [if_pos o31] at hu
    subst hu o31
    have hge : (v : Int) ≤ (w : Int) := by omega
    clear z2 z3 hm hm2 hle
    repeat' (first | simp (maxDischargeDepth := 9) -implicitDefEqProofs -dsimp only [go_sem, seval, gt_iff_lt, ge_iff_le, *] | simp (disch := omega) only [wrap64] | ((with_reducible refine Zt (fun oF hoF hnF hnF' => ?_)); (try simp only [upd_none, ne_eq, not_and] at hoF)) | ((with_reducible apply ACalls.one1); (focus ((first | with_reducible refine z1 _) <;> (first | (simp (maxDischargeDepth := 9) -implicitDefEqProofs -dsimp only [go_sem, seval, *]; done) | omega))); (focus (first | trivial | with_reducible exact rfl | (simp (maxDischargeDepth := 9) -implicitDefEqProofs -dsimp only [go_sem, seval]; done)))))
    refine fin_eq ?_
    (repeat' (first | simp (maxDischargeDepth := 9) -implicitDefEqProofs -dsimp only [go_sem, seval, *] | simp (disch := omega) only [wrap64])) <;> (repeat' refine And.intro ?_ ?_) <;> (first | omega | rfl | assumption | skip)
  rw [if_neg o31] at hu
  have b31 : (op == 31) = false := by simp [o31]
  by_cases o32 : op = 32
  · rw [if_pos o32] at hu
    have hge : (v : Int) ≤ (w : Int) := by omega
    have hs0 : IntKind.i64.wrap ((v : Int) - 1) = ((v - 1 : Nat) : Int) := by rw [wrap64 _ (by omega) (by omega)]; omega
    have hnn : ¬ ((v - 1 : Nat) : Int) < 0 := by omega
    have hmn : Nat.min (v - 1) 64 = v - 1 := Nat.min_eq_left (by omega)
    have hfd := fdivU a (v - 1)
    have hle2 := hle (by omega)
    have hsub : IntKind.u64.wrap ((M : Int) - (Mv : Int)) = ((M - Mv : Nat) : Int) := by rw [wrapU _ (by omega) (by omega)]; omega
    have hor := orU a (M - Mv) hal (by omega)
    have hge2 : (v : Int) - 1 = ((v - 1 : Nat) : Int) := by omega
    by_cases hq : a / 2 ^ (v - 1) = 1
    · rw [if_pos hq] at hu
      have hqb : (((a / 2 ^ (v - 1) : Nat) : Int) == 1) = true := by rw [hq]; rfl
      subst hu o32
      obtain ⟨N, hN⟩ : ∃ N, a ||| (M - Mv) = N := ⟨_, rfl⟩
      rw [hN] at hor ⊢
      obtain ⟨G, hG⟩ : ∃ N, M - Mv = N := ⟨_, rfl⟩
      rw [hG] at hor hsub
      obtain ⟨H, hH⟩ : ∃ N, a / 2 ^ (v - 1) = N := ⟨_, rfl⟩
      rw [hH] at hfd hqb
      obtain ⟨k, hk⟩ : ∃ N, v - 1 = N := ⟨_, rfl⟩
      rw [hk] at hs0 hnn hmn hfd hge2
      clear hm hm2 hle hN hG hH hq hk hle2
      repeat' (first | simp (maxDischargeDepth := 9) -implicitDefEqProofs -dsimp only [go_sem, seval, gt_iff_lt, ge_iff_le, *] | simp (disch := omega) only [wrap64] | ((with_reducible refine Zt (fun oF hoF hnF hnF' => ?_)); (try simp only [upd_none, ne_eq, not_and] at hoF)) | ((with_reducible apply ACalls.one1); (focus ((first | with_reducible refine z1 _ | with_reducible refine z2 _ | with_reducible refine z3 _) <;> (first | (simp (maxDischargeDepth := 9) -implicitDefEqProofs -dsimp only [go_sem, seval, *]; done) | omega))); (focus (first | trivial | with_reducible exact rfl | (simp (maxDischargeDepth := 9) -implicitDefEqProofs -dsimp only [go_sem, seval]; done)))) | ((with_reducible apply id_one0); (focus (intro tS hS; ((first | with_reducible refine z1 _ | with_reducible refine z2 _ | with_reducible refine z3 _) <;> (first | (simp (maxDischargeDepth := 9) -implicitDefEqProofs -dsimp only [go_sem, seval, *]; done) | omega | ((with_reducible refine Sub.get hS ?_); simp (maxDischargeDepth := 9) -implicitDefEqProofs -dsimp only [go_sem, seval, *]; done))))); (focus (first | trivial | (simp (maxDischargeDepth := 9) -implicitDefEqProofs -dsimp only [go_sem, seval, *]; done)))))
      refine fin_eq ?_
      (repeat' (first | simp (maxDischargeDepth := 9) -implicitDefEqProofs -dsimp only [go_sem, seval, *] | simp (disch := omega) only [wrap64])) <;> (repeat' refine And.intro ?_ ?_) <;> (first | omega | rfl | assumption | skip)
    · rw [if_neg hq] at hu
      have hqb : (((a / 2 ^ (v - 1) : Nat) : Int) == 1) = false := by rw [beq_eq_false_iff_ne]; omega
      rw [hu]
      subst o32
      clear hu
      obtain ⟨H, hH⟩ : ∃ N, a / 2 ^ (v - 1) = N := ⟨_, rfl⟩
      rw [hH] at hfd hqb
      obtain ⟨k, hk⟩ : ∃ N, v - 1 = N := ⟨_, rfl⟩
      rw [hk] at hs0 hnn hmn hfd hge2
      clear hm hm2 hle hH hq hk hle2 hor hsub z2 z3
      repeat' (first | simp (maxDischargeDepth := 9) -implicitDefEqProofs -dsimp only [go_sem, seval, gt_iff_lt, ge_iff_le, *] | simp (disch := omega) only [wrap64] | ((with_reducible refine Zt (fun oF hoF hnF hnF' => ?_)); (try simp only [upd_none, ne_eq, not_and] at hoF)) | ((with_reducible apply ACalls.one1); (focus ((first | with_reducible refine z1 _) <;> (first | (simp (maxDischargeDepth := 9) -implicitDefEqProofs -dsimp only [go_sem, seval, *]; done) | omega))); (focus (first | trivial | with_reducible exact rfl | (simp (maxDischargeDepth := 9) -implicitDefEqProofs -dsimp only [go_sem, seval]; done)))) | ((with_reducible apply id_one0); (focus (intro tS hS; ((first | with_reducible refine z1 _) <;> (first | (simp (maxDischargeDepth := 9) -implicitDefEqProofs -dsimp only [go_sem, seval, *]; done) | omega | ((with_reducible refine Sub.get hS ?_); simp (maxDischargeDepth := 9) -implicitDefEqProofs -dsimp only [go_sem, seval, *]; done))))); (focus (first | trivial | (simp (maxDischargeDepth := 9) -implicitDefEqProofs -dsimp only [go_sem, seval, *]; done)))))
      refine fin_eq ?_
      (repeat' (first | simp (maxDischargeDepth := 9) -implicitDefEqProofs -dsimp only [go_sem, seval, *] | simp (disch := omega) only [wrap64])) <;> (repeat' refine And.intro ?_ ?_) <;> (first | omega | rfl | assumption | skip)
  rw [if_neg o32] at hu
  have b32 : (op == 32) = false := by simp [o32]
  have o33 : op = 33 := by omega
  have hge : (w : Int) ≤ (v : Int) := by omega
  have hand := andU a M hal hml
  subst hu o33
  obtain ⟨N, hN⟩ : ∃ N, a &&& M = N := ⟨_, rfl⟩
  rw [hN] at hand ⊢
  clear hm hm2 hle hN z3
  repeat' (first | simp (maxDischargeDepth := 9) -implicitDefEqProofs -dsimp only [go_sem, seval, gt_iff_lt, ge_iff_le, *] | simp (disch := omega) only [wrap64] | ((with_reducible refine Zt (fun oF hoF hnF hnF' => ?_)); (try simp only [upd_none, ne_eq, not_and] at hoF)) | ((with_reducible apply ACalls.one1); (focus ((first | with_reducible refine z1 _ | with_reducible refine z2 _) <;> (first | (simp (maxDischargeDepth := 9) -implicitDefEqProofs -dsimp only [go_sem, seval, *]; done) | omega))); (focus (first | trivial | with_reducible exact rfl | (simp (maxDischargeDepth := 9) -implicitDefEqProofs -dsimp only [go_sem, seval]; done)))) | ((with_reducible apply id_one0); (focus (intro tS hS; ((first | with_reducible refine z1 _ | with_reducible refine z2 _) <;> (first | (simp (maxDischargeDepth := 9) -implicitDefEqProofs -dsimp only [go_sem, seval, *]; done) | omega | ((with_reducible refine Sub.get hS ?_); simp (maxDischargeDepth := 9) -implicitDefEqProofs -dsimp only [go_sem, seval, *]; done))))); (focus (first | trivial | (simp (maxDischargeDepth := 9) -implicitDefEqProofs -dsimp only [go_sem, seval, *]; done)))))
  refine fin_eq ?_
  (repeat' (first | simp (maxDischargeDepth := 9) -implicitDefEqProofs -dsimp only [go_sem, seval, *] | simp (disch := omega) only [wrap64])) <;> (repeat' refine And.intro ?_ ?_) <;> (first | omega | rfl | assumption | skip)
set_option maxRecDepth 20000 in
theorem rf_Cond (c : Nat) (w a b : Nat) (σ : Sig) (hc : c ≤ 1) (hw : 1 ≤ w ∧ w ≤ 64) (ha : a < 2 ^ w) (hb : b < 2 ^ w) :
    ACalls Try.prog 23 [encB 1 c, encB w a, encB w b] σ (fun r σ' => r = .ret (.tup [encB w (if c = 1 then a else b), .int .i64 0]) ∧ σ' = σ) := by
  have z1 := fun τ => rf_Check01 1 c τ
  have hc1 : bitsN 1 c = true := bitsN_iff.2 ⟨by omega, by simp; omega⟩
  rw [hc1, if_pos rfl] at z1
  have z2 := fun τ => rf_Check01 w a τ
  rw [bits_ok hw ha, if_pos rfl] at z2
  have z3 := fun τ => rf_Check01 w b τ
  rw [bits_ok hw hb, if_pos rfl] at z3
  have bne : ((w : Int) != (w : Int)) = false := by simp
  clear hc1
  refine calls_x mixed Try.func23 b23 n23 rfl q23 (by simp) ?_; unfold c23 r23
  by_cases h : c = 1
  · have hcb : ((c : Int) == 1) = true := by rw [h]; rfl
    rw [if_pos h]
    clear h
    repeat' (first | simp (maxDischargeDepth := 9) -implicitDefEqProofs -dsimp only [go_sem, seval, *] | ((with_reducible refine Zt (fun oF hoF hnF hnF' => ?_)); (try simp only [upd_none, ne_eq, not_and] at hoF)) | ((with_reducible apply ACalls.one1); (focus ((first | with_reducible refine z1 _ | with_reducible refine z2 _ | with_reducible refine z3 _) <;> (first | (simp (maxDischargeDepth := 9) -implicitDefEqProofs -dsimp only [go_sem, seval, *]; done) | omega))); (focus (first | trivial | with_reducible exact rfl | (simp (maxDischargeDepth := 9) -implicitDefEqProofs -dsimp only [go_sem, seval]; done)))))
    refine fin_eq ?_
    (repeat' (first | simp (maxDischargeDepth := 9) -implicitDefEqProofs -dsimp only [go_sem, seval, *])) <;> (repeat' refine And.intro ?_ ?_) <;> (first | omega | rfl | assumption | skip)
  · have hcb : ((c : Int) == 1) = false := by rw [beq_eq_false_iff_ne]; omega
    rw [if_neg h]
    clear h
    repeat' (first | simp (maxDischargeDepth := 9) -implicitDefEqProofs -dsimp only [go_sem, seval, *] | ((with_reducible refine Zt (fun oF hoF hnF hnF' => ?_)); (try simp only [upd_none, ne_eq, not_and] at hoF)) | ((with_reducible apply ACalls.one1); (focus ((first | with_reducible refine z1 _ | with_reducible refine z2 _ | with_reducible refine z3 _) <;> (first | (simp (maxDischargeDepth := 9) -implicitDefEqProofs -dsimp only [go_sem, seval, *]; done) | omega))); (focus (first | trivial | with_reducible exact rfl | (simp (maxDischargeDepth := 9) -implicitDefEqProofs -dsimp only [go_sem, seval]; done)))))
    refine fin_eq ?_
    (repeat' (first | simp (maxDischargeDepth := 9) -implicitDefEqProofs -dsimp only [go_sem, seval, *])) <;> (repeat' refine And.intro ?_ ?_) <;> (first | omega | rfl | assumption | skip)

/-! ### The program's -/
theorem andNot_mask {w : Int} {v : Nat} (hw : 1 ≤ w ∧ w ≤ 64) (hv : v < 18446744073709551616) :
    (IntKind.u64.wrap ((BitVec.ofInt IntKind.u64.bits (v : Int) &&& ~~~ BitVec.ofInt IntKind.u64.bits (maskN w : Int)).toNat : Nat) == 0) = decide (v ≤ maskN w) := by
  have hm := maskN_of hw
  have hml := maskN_lt w
  have hp := Nat.two_pow_pos w.toNat
  have e : (BitVec.ofInt 64 (v : Int) &&& ~~~ BitVec.ofInt 64 (maskN w : Int)).toNat = v - v % 2 ^ w.toNat := by
    have e1 : BitVec.ofInt 64 (v : Int) = BitVec.ofNat 64 v := by simp
    have e2 : BitVec.ofInt 64 (maskN w : Int) = BitVec.ofNat 64 (maskN w) := by simp
    rw [e1, e2]
    apply Nat.eq_of_testBit_eq
    intro i
    rw [BitVec.testBit_toNat, BitVec.getLsbD_and, BitVec.getLsbD_not, BitVec.getLsbD_ofNat, BitVec.getLsbD_ofNat, hm, Nat.testBit_two_pow_sub_one]
    have hd : v - v % 2 ^ w.toNat = v / 2 ^ w.toNat * 2 ^ w.toNat := by
      have := Nat.div_add_mod v (2 ^ w.toNat)
      rw [Nat.mul_comm] at this; omega
    rw [hd, Nat.testBit_mul_two_pow, Nat.testBit_div_two_pow]
    by_cases h1 : i < 64
    · by_cases h2 : w.toNat ≤ i
      · have h3 : ¬ i < w.toNat := by omega
        simp [h1, h2, h3, Nat.sub_add_cancel h2]
      · have h3 : i < w.toNat := by omega
        simp [h1, h2, h3]
    · have hvb : v.testBit i = false := Nat.testBit_lt_two_pow (Nat.lt_of_lt_of_le hv (by
        have : 2 ^ 64 ≤ 2 ^ i := Nat.pow_le_pow_right (by omega) (by omega)
        have e : (2 : Nat) ^ 64 = 18446744073709551616 := by decide
        omega))
      by_cases h2 : w.toNat ≤ i
      · simp [h1, h2, Nat.sub_add_cancel h2, hvb]
      · simp [h1, h2]
  show (IntKind.u64.wrap ((BitVec.ofInt 64 (v : Int) &&& ~~~ BitVec.ofInt 64 (maskN w : Int)).toNat : Nat) == 0) = _
  have hle := Nat.mod_le v (2 ^ w.toNat)
  rw [e, wrapU _ (by omega) (by omega), Bool.eq_iff_iff, beq_iff_eq, decide_eq_true_eq, hm]
  have hmod := Nat.mod_lt v hp
  constructor
  · intro h; omega
  · intro h
    have : v % 2 ^ w.toNat = v := Nat.mod_eq_of_lt (by omega)
    omega
theorem bv_Mask (w : Int) (σ : Sig) : ACalls Try.prog 83 [.int .i64 w] σ (fun r σ' => r = .ret (.int .u64 (maskN w)) ∧ σ' = σ) := by
  refine calls_x mixed Try.func83 b83 n83 rfl q83 (by simp) ?_; unfold c83 r83
  by_cases h1 : w ≤ 0
  · have e : maskN w = 0 := by unfold maskN; rw [if_pos (by omega)]
    rw [e]
    clear e
    repeat' (first | simp (maxDischargeDepth := 9) -implicitDefEqProofs -dsimp only [go_sem, seval, *])
    refine fin_eq ?_
    (repeat' (first | simp (maxDischargeDepth := 9) -implicitDefEqProofs -dsimp only [go_sem, seval, Int.natCast_zero, *])) <;> (repeat' refine And.intro ?_ ?_) <;> (first | omega | rfl | assumption | skip)
  by_cases h2 : w < 64
  case neg =>
    have e : maskN w = 18446744073709551615 := by unfold maskN; rw [if_neg (by omega), if_pos (by omega)]
    rw [e]
    clear e
    repeat' (first | simp (maxDischargeDepth := 9) -implicitDefEqProofs -dsimp only [go_sem, seval, *])
    refine fin_eq ?_
    (repeat' (first | simp (maxDischargeDepth := 9) -implicitDefEqProofs -dsimp only [go_sem, seval, *])) <;> (repeat' refine And.intro ?_ ?_) <;> (first | omega | rfl | assumption | skip)
  have h0 : ¬ w < 0 := by omega
  have hm : Nat.min w.toNat 64 = w.toNat := Nat.min_eq_left (by omega)
  have hlt : 2 ^ w.toNat ≤ 2 ^ 63 := Nat.pow_le_pow_right (by omega) (by omega)
  have e63 : (2 : Nat) ^ 63 = 9223372036854775808 := by decide
  have hp := Nat.two_pow_pos w.toNat
  have hs : IntKind.u64.wrap (18446744073709551615 * 2 ^ w.toNat) = ((18446744073709551616 - 2 ^ w.toNat : Nat) : Int) := by
    have := shlU 18446744073709551615 w.toNat
    have e : 18446744073709551615 * 2 ^ w.toNat = (18446744073709551616 - 2 ^ w.toNat) + 18446744073709551616 * (2 ^ w.toNat - 1) := by
      obtain ⟨N, hN⟩ : ∃ N, 2 ^ w.toNat = N := ⟨_, rfl⟩
      rw [hN] at hp hlt ⊢
      omega
    rw [e, Nat.add_mul_mod_self_left, Nat.mod_eq_of_lt (by omega)] at this
    exact this
  have e : maskN w = 2 ^ w.toNat - 1 := maskN_of (by omega)
  rw [e]
  obtain ⟨N, hN⟩ : ∃ N, 2 ^ w.toNat = N := ⟨_, rfl⟩
  rw [hN] at hs hp hlt ⊢
  clear e hN
  repeat' (first | simp (maxDischargeDepth := 9) -implicitDefEqProofs -dsimp only [go_sem, seval, *])
  refine fin_eq ?_
  (repeat' (first | simp (maxDischargeDepth := 9) -implicitDefEqProofs -dsimp only [go_sem, seval, *])) <;> (repeat' refine And.intro ?_ ?_) <;> (first | omega | rfl | assumption | skip)
  all_goals
    have ex : (BitVec.ofInt IntKind.u64.bits 18446744073709551615 ^^^ BitVec.ofInt IntKind.u64.bits ((18446744073709551616 - N : Nat) : Int)).toNat = N - 1 := by
      show (BitVec.ofInt 64 18446744073709551615 ^^^ BitVec.ofInt 64 ((18446744073709551616 - N : Nat) : Int)).toNat = N - 1
      have e1 : BitVec.ofInt 64 18446744073709551615 = BitVec.allOnes 64 := by decide
      rw [e1, BitVec.allOnes_xor, BitVec.ofInt_natCast, BitVec.toNat_not, BitVec.toNat_ofNat, Nat.mod_eq_of_lt (by omega)]
      omega
    rw [ex, wrapU_mod]; omega
theorem bv_may (w : Int) (v : Nat) (hv : v < 18446744073709551616) (σ : Sig) : ACalls Try.prog 64 [encB w v] σ (fun r σ' => r = .ret (.bool (bitsN w v)) ∧ σ' = σ) := by
  have c1 := fun τ => bv_Mask w τ
  have hb : bitsN w v = decide (1 ≤ w ∧ w ≤ 64 ∧ v ≤ maskN w) := rfl
  have hn := fun h => andNot_mask (w := w) (v := v) h hv
  obtain ⟨B, hB⟩ : ∃ B, bitsN w v = B := ⟨_, rfl⟩
  rw [hB] at hb ⊢
  obtain ⟨M, hM⟩ : ∃ M, maskN w = M := ⟨_, rfl⟩
  rw [hM] at c1 hb hn
  clear hB hM
  refine calls_x mixed Try.func64 b64 n64 rfl q64 (by simp) ?_; unfold c64 r64
  by_cases h1 : 0 < w
  case neg =>
    have hB : B = false := by rw [hb]; exact decide_eq_false (by omega)
    subst hB
    clear hb hn
    repeat' (first | simp (maxDischargeDepth := 9) -implicitDefEqProofs -dsimp only [go_sem, seval, *] | ((with_reducible apply id_one0); (focus (intro tS hS; ((first | with_reducible refine c1 _) <;> (first | (simp (maxDischargeDepth := 9) -implicitDefEqProofs -dsimp only [go_sem, seval, *]; done) | omega | ((with_reducible refine Sub.get hS ?_); simp (maxDischargeDepth := 9) -implicitDefEqProofs -dsimp only [go_sem, seval, *]; done))))); (focus (first | trivial | (simp (maxDischargeDepth := 9) -implicitDefEqProofs -dsimp only [go_sem, seval, *]; done)))))
    refine fin_eq ?_
    (repeat' (first | simp (maxDischargeDepth := 9) -implicitDefEqProofs -dsimp only [go_sem, seval, *])) <;> (repeat' refine And.intro ?_ ?_) <;> (first | omega | rfl | assumption | skip)
  by_cases h2 : w ≤ 64
  case neg =>
    have hB : B = false := by rw [hb]; exact decide_eq_false (by omega)
    subst hB
    clear hb hn
    repeat' (first | simp (maxDischargeDepth := 9) -implicitDefEqProofs -dsimp only [go_sem, seval, *] | ((with_reducible apply id_one0); (focus (intro tS hS; ((first | with_reducible refine c1 _) <;> (first | (simp (maxDischargeDepth := 9) -implicitDefEqProofs -dsimp only [go_sem, seval, *]; done) | omega | ((with_reducible refine Sub.get hS ?_); simp (maxDischargeDepth := 9) -implicitDefEqProofs -dsimp only [go_sem, seval, *]; done))))); (focus (first | trivial | (simp (maxDischargeDepth := 9) -implicitDefEqProofs -dsimp only [go_sem, seval, *]; done)))))
    refine fin_eq ?_
    (repeat' (first | simp (maxDischargeDepth := 9) -implicitDefEqProofs -dsimp only [go_sem, seval, *])) <;> (repeat' refine And.intro ?_ ?_) <;> (first | omega | rfl | assumption | skip)
  have hn := hn (by omega)
  have hB : decide (v ≤ M) = B := by rw [hb]; congr 1; simp only [eq_iff_iff]; omega
  rw [hB] at hn
  clear hb hB
  repeat' (first | simp (maxDischargeDepth := 9) -implicitDefEqProofs -dsimp only [go_sem, seval, *] | ((with_reducible apply id_one0); (focus (intro tS hS; ((first | with_reducible refine c1 _) <;> (first | (simp (maxDischargeDepth := 9) -implicitDefEqProofs -dsimp only [go_sem, seval, *]; done) | omega | ((with_reducible refine Sub.get hS ?_); simp (maxDischargeDepth := 9) -implicitDefEqProofs -dsimp only [go_sem, seval, *]; done))))); (focus (first | trivial | (simp (maxDischargeDepth := 9) -implicitDefEqProofs -dsimp only [go_sem, seval, *]; done)))))
  refine fin_eq ?_
  (repeat' (first | simp (maxDischargeDepth := 9) -implicitDefEqProofs -dsimp only [go_sem, seval, *])) <;> (repeat' refine And.intro ?_ ?_) <;> (first | omega | rfl | assumption | skip)
theorem bv_Check (w : Int) (v : Nat) (hv : v < 18446744073709551616) (σ : Sig) : ACalls Try.prog 37 [encB w v] σ (fun r σ' => r = .ret (.int .i64 (if bitsN w v then 0 else 1)) ∧ σ' = σ) := by
  have c1 := fun τ => bv_may w v hv τ
  obtain ⟨B, hB⟩ : ∃ B, bitsN w v = B := ⟨_, rfl⟩
  rw [hB] at c1 ⊢
  clear hB
  refine calls_x mixed Try.func37 b37 n37 rfl q37 (by simp) ?_; unfold c37 r37
  cases B
  all_goals
    repeat' (first | simp (maxDischargeDepth := 9) -implicitDefEqProofs -dsimp only [go_sem, seval, *] | ((with_reducible apply ACalls.one1); (focus ((first | with_reducible refine c1 _) <;> (first | (simp (maxDischargeDepth := 9) -implicitDefEqProofs -dsimp only [go_sem, seval, *]; done) | omega))); (focus (first | trivial | with_reducible exact rfl | (simp (maxDischargeDepth := 9) -implicitDefEqProofs -dsimp only [go_sem, seval]; done)))))
    refine fin_eq ?_
    (repeat' (first | simp (maxDischargeDepth := 9) -implicitDefEqProofs -dsimp only [go_sem, seval, *])) <;> (repeat' refine And.intro ?_ ?_) <;> (first | omega | rfl | assumption | skip)
end Go.Proofs.Ytbbihmmobfmadaa

namespace Go.Proofs.Ytbbihmmobfmadaa
open Abs Fil Fil.Bl
abbrev buC (b : Bu) : AObj := workC b.g b.e
theorem bu_do (o : Nat) (b : Bu) (g' : Aig) (l e' : Int) (F : Nat) (caps : List AV) (σ : Sig) (h : σ o = some (buC b))
    (hF : b.e = 0 → ACalls Try.prog F caps σ (fun r σ' => r = .ret (.tup [encAig g', .int .i64 l, .int .i64 e']) ∧ σ' = σ)) :
    ACalls Try.prog 73 [.ptr o 0, .fn F [] caps] σ (fun r σ' => r = .ret (.int .i64 (if b.e ≠ 0 then 0 else if e' ≠ 0 then 0 else l)) ∧ σ' = upd σ o (buC (if b.e ≠ 0 then b else if e' ≠ 0 then ⟨b.g, e'⟩ else ⟨g', 0⟩))) := by
  have hu : upd σ o (buC b) = σ := by
    funext k
    by_cases hk : k = o
    · subst hk; simp [upd, h]
    · simp [upd, hk]
  obtain ⟨L, hL⟩ : ∃ L, (if b.e ≠ 0 then (0 : Int) else if e' ≠ 0 then 0 else l) = L := ⟨_, rfl⟩
  obtain ⟨B, hB⟩ : ∃ B, (if b.e ≠ 0 then b else if e' ≠ 0 then ⟨b.g, e'⟩ else ⟨g', 0⟩ : Bu) = B := ⟨_, rfl⟩
  rw [hL, hB]
  by_cases hb : b.e = 0
  · simp only [hb, ne_eq, not_true_eq_false, if_false] at hL hB
    have hF := hF hb
    by_cases he : e' = 0
    · simp only [he, not_true_eq_false, if_false] at hL hB
      subst he hL hB
      clear hu
      refine calls_x mixed Try.func73 b73 n73 rfl q73 (by simp) ?_; unfold c73 r73
      repeat' (first | simp (maxDischargeDepth := 9) -implicitDefEqProofs -dsimp only [go_sem, seval, *] | ((with_reducible refine Zt (fun oF hoF hnF hnF' => ?_)); (try simp only [upd_none, ne_eq, not_and] at hoF)) | ((with_reducible apply ACalls.one1); (focus ((first | with_reducible refine hF) <;> (first | (simp (maxDischargeDepth := 9) -implicitDefEqProofs -dsimp only [go_sem, seval, *]; done) | omega))); (focus (first | trivial | with_reducible exact rfl | (simp (maxDischargeDepth := 9) -implicitDefEqProofs -dsimp only [go_sem, seval]; done)))))
      refine fin_eq ?_
      (repeat' (first | simp (maxDischargeDepth := 9) -implicitDefEqProofs -dsimp only [go_sem, seval, *])) <;> (repeat' refine And.intro ?_ ?_) <;> (first | omega | rfl | assumption | skip)
    · simp only [he, not_false_eq_true, if_true] at hL hB
      subst hL hB
      have heb : (e' != 0) = true := by simpa using he
      clear hu he
      refine calls_x mixed Try.func73 b73 n73 rfl q73 (by simp) ?_; unfold c73 r73
      repeat' (first | simp (maxDischargeDepth := 9) -implicitDefEqProofs -dsimp only [go_sem, seval, *] | ((with_reducible refine Zt (fun oF hoF hnF hnF' => ?_)); (try simp only [upd_none, ne_eq, not_and] at hoF)) | ((with_reducible apply ACalls.one1); (focus ((first | with_reducible refine hF) <;> (first | (simp (maxDischargeDepth := 9) -implicitDefEqProofs -dsimp only [go_sem, seval, *]; done) | omega))); (focus (first | trivial | with_reducible exact rfl | (simp (maxDischargeDepth := 9) -implicitDefEqProofs -dsimp only [go_sem, seval]; done)))))
      refine fin_eq ?_
      (repeat' (first | simp (maxDischargeDepth := 9) -implicitDefEqProofs -dsimp only [go_sem, seval, *])) <;> (repeat' refine And.intro ?_ ?_) <;> (first | omega | rfl | assumption | skip)
  · simp only [hb, ne_eq, not_false_eq_true, if_true] at hL hB
    subst hL hB
    rw [hu]
    have hbb : (b.e != 0) = true := by simpa using hb
    clear hF hu hb
    refine calls_x mixed Try.func73 b73 n73 rfl q73 (by simp) ?_; unfold c73 r73
    repeat' (first | simp (maxDischargeDepth := 9) -implicitDefEqProofs -dsimp only [go_sem, seval, *] | ((with_reducible refine Zt (fun oF hoF hnF hnF' => ?_)); (try simp only [upd_none, ne_eq, not_and] at hoF)))
    refine fin_eq ?_
    (repeat' (first | simp (maxDischargeDepth := 9) -implicitDefEqProofs -dsimp only [go_sem, seval, *])) <;> (repeat' refine And.intro ?_ ?_) <;> (first | omega | rfl | assumption | skip)
end Go.Proofs.Ytbbihmmobfmadaa

namespace Abs
open Go

/-! ### Pins -/
theorem pushed_alloc (w : World) (x : Obj) : Pushed w (w.alloc x) x := ⟨rfl, rfl, rfl, rfl⟩
theorem Sat.pinNew {K : Gh} {σ : Sig} {w : World} (h : Sat K σ w) {x : Obj} (hx : Obj.loose x) {o : Nat} (ho : K.own o = none) {S : Nat → Prop} (hS : ¬ S o) :
    ∃ K', K.leS S K' ∧ Sat K' (upd σ o (.pin x)) (w.alloc x) ∧ K'.own o = some (.pin w.heap.size) := by
  obtain ⟨h1, h2⟩ := h.pushName (pushed_alloc w x) hx (fun _ => none) (fun i v e => by simp at e) ho (.pin w.heap.size) rfl (.pin x) ⟨h.size, (pushed_alloc w x).new, fun i => by simp [Gh.claimed]⟩
  refine ⟨_, ⟨h1, fun o' hs hn => ?_⟩, h2, by simp [Gh.named]⟩
  have : o' ≠ o := fun e => hS (e ▸ hs)
  simp only [Gh.named, Gh.claimed, if_neg this]
  exact hn
theorem Sat.pinPut {K : Gh} {σ : Sig} {w : World} (h : Sat K σ w) {x x' : Obj} (hx' : Obj.loose x') {o r : Nat} (hs : σ o = some (.pin x)) (ho : K.own o = some (.pin r)) :
    Sat K (upd σ o (.pin x')) (w.putObj r x') := by
  obtain ⟨e, k1, k2⟩ := h.live o _ hs
  rw [ho] at k1
  cases k1
  simp only [ObjSat] at k2
  obtain ⟨q1, q2, q3⟩ := k2
  have hlt : r < w.heap.size := (Array.getElem?_eq_some_iff.1 q2).1
  refine h.write (Gh.le.refl K) hs ho rfl (fun _ _ => rfl) ho rfl rfl rfl rfl (by simp [World.putObj]) (fun b hb => World.putObj_heap_other hb) (fun i => ?_) (fun i v e => ?_) (fun _ _ _ => rfl) ⟨q1, World.putObj_heap_same hlt, q3⟩
  · exact frozen_loose (World.putObj_heap_same hlt) hx'
  · have := q3 i
    rw [show (Own.pin r).blk = r from rfl] at e
    rw [this] at e
    simp at e

/-! ### Regions in a round -/
theorem uponIn_round {P : Program} {o : Oper} {a : Act} {next next' : Act → World → Prop} {Q : Exit → Act → World → Prop} {r : Result Next} (l n : Nat) (hn : ∀ a w, next a w → next' a w)
    (h : o.upon P a next Q r) : o.uponIn (Fence.wide.inRound l) n P a next' Q r := by
  unfold Oper.upon at h
  unfold Oper.uponIn
  split at h
  · exact hn _ _ h
  · exact hn _ _ h
  · exact hn _ _ h
  · refine ⟨fun hd => by simp [Fence.wide] at hd, ?_⟩
    exact CallsIn.mono (callsIn_wide.2 h) fun e w' q => by
      cases e
      · exact hn _ _ q
      · exact q
      · exact q
  · refine ⟨fun hd => by simp [Fence.wide] at hd, ?_⟩
    intro c cs _
    obtain ⟨v, w', r, s⟩ := h c cs
    exact ⟨v, w', hn _ _ r, stepsIn_wide.2 s⟩
  · exact h
  · exact h.elim
theorem wpOps_round {P : Program} {ops : Array Oper} {Q : Exit → Act → World → Prop} (l n : Nat) (hd : ∀ (i : Nat) (o : Oper), ops[i]? = some o → ∀ c, o.op ≠ .defer c) (hl : ¬ LetsOut Q) :
    ∀ (is : List Nat) (a : Act) (w : World), wpOps P ops Q is a w → wpOpsIn (Fence.wide.inRound l) n P ops Q is a w
  | [], a, w, h => h
  | i :: is, a, w, h => by
    simp only [wpOps] at h
    simp only [wpOpsIn]
    cases ho : ops[i]? with
    | none =>
      rw [ho] at h
      exact wpOps_round l n hd hl is a w h
    | some o =>
      rw [ho] at h
      simp only at h ⊢
      split
      · rename_i hw
        rw [if_pos hw] at h
        rcases h with h | h
        · refine ⟨fun _ _ => trivial, ?_⟩
          rw [Oper.semAt_eq _ _ _ (hd i o ho)]
          exact uponIn_round l n (fun a w => wpOps_round l n hd hl is a w) h
        · exact absurd h.2 hl
      · rename_i hw
        rw [if_neg hw] at h
        exact ⟨fun _ _ => trivial, wpOps_round l n hd hl is _ _ h⟩

/-! ### The loop -/
theorem range_law {P : Program} {n : Nat} {t : Nat} {p : Tmp} {assign body : Code} {Q : Exit → Act → World → Prop} {a : Act} {w : World} {gf : Nat} {lb : Array Value}
    (hg : a.eval (.tmp t) = .func (.func gf) #[] lb) (hc : callable P gf = true) {xs : List Int} (I : Nat → Obj → World → Prop)
    (h0 : ∀ r, I 0 (.loop r) ((w.alloc (.deferred (some []))).alloc (.loop r)))
    (hrec : ∀ k o W, I k o W → W.heap[w.heap.size + 1]? = some o)
    (hput : ∀ k r r' W, I k (.loop r) W → I k (.loop r') (W.putObj (w.heap.size + 1) (.loop r')))
    (hit : ∀ (J : Nat → World → Prop) W, (∃ r, W = (w.alloc (.deferred (some []))).alloc (.loop r)) → (∀ k W, J k W → ∃ o, I k o W) → (∀ k x W1, xs[k]? = some x → J k W1 → YieldAt Fence.wide (n - 1 - 1) P (w.heap.size + 1) #[.int .i64 x] W1 fun e W' => e = .returned (.bool true) ∧ J (k + 1) W') →
      J 0 W → CallsIn Fence.wide (n - 1) P gf (#[.func (.yield (w.heap.size + 1)) #[] #[]] ++ lb) W fun e W' => (∃ v, e = .returned v) ∧ J xs.length W')
    (a₁ : Int → Act)
    (hassign : ∀ x W (K : Act → World → Prop), K (a₁ x) W → assign.wpIn (Fence.wide.inRound (w.heap.size + 1)) (n - 1 - 1) P (Exit.then K (fun _ _ _ => False)) { tmps := (#[p].zip #[Value.int .i64 x]).foldl (fun t (p, v) => t.setIfInBounds p v) a.tmps, defers := [] } W)
    (hbody : ∀ k x r W, xs[k]? = some x → I k (.loop r) W → body.wpIn (Fence.wide.inRound (w.heap.size + 1)) (n - 1 - 1) P (fun e _ W' => e = .normal ∧ I (k + 1) (.loop r) W') (a₁ x) W)
    (hdone : ∀ r W, I xs.length (.loop r) W → Q .normal { a with defers := { target := .collected w.heap.size, args := #[] } :: a.defers } W) :
    (Code.rangeFunc (.tmp t) #[p] assign body).wpIn Fence.wide n P Q a w := by
  refine wpIn_rangeFunc ?_
  intro fn hfn
  obtain ⟨rec, hrc⟩ : ∃ rec : LoopState → Option Code → Loop, rec = fun st pe => { state := st, pending := pe, fn, tmps := a.tmps, params := #[p], assign, body, defers := w.heap.size } := ⟨_, rfl⟩
  obtain ⟨W1, hW1⟩ : ∃ W1, (w.alloc (.deferred (some []))).alloc (.loop (rec .ready none)) = W1 := ⟨_, rfl⟩
  refine ⟨w.heap.size + 1, [{ target := .collected w.heap.size, args := #[] }], W1, { target := .fn (.func gf) lb, args := #[.func (.yield (w.heap.size + 1)) #[] #[]] }, W1, gf,
    #[.func (.yield (w.heap.size + 1)) #[] #[]] ++ lb, W1, ?_, ?_, fun _ _ => trivial, ?_, fun hd => by simp [Fence.wide] at hd, ?_⟩
  · rw [← hW1, hrc]; exact run_enterLoop_outer _ _ _ _ _
  · simp only [resolve, hg]
    simp [go_sem]
  · simp only [invoke]
    exact callFunc_run hc _ _
  · refine CallsIn.mono (hit (fun k W => I k (.loop (rec .ready none)) W) W1 ⟨_, hW1.symm⟩ (fun k W h => ⟨_, h⟩) ?_ (by rw [← hW1]; exact h0 _)) ?_
    · rintro k x W hx hi
      have hl := hrec _ _ _ hi
      have hy := run_yield (P := P) (args := #[Value.int .i64 x]) hl (by rw [hrc]; rfl)
      rw [hrc] at hy
      refine ⟨fn, _, assign, body, hy, roundIn_of_wpIn hfn ?_⟩
      refine hassign x W _ ?_
      refine ⟨_, run_beginRound hl (by rw [hrc]), ?_⟩
      have hi2 := hput k _ { rec .ready none with state := .busy } W hi
      refine wpIn_mono (hbody k x _ _ hx hi2) ?_
      rintro e a3 W3 ⟨rfl, hi3⟩
      have hl3 := hrec _ _ _ hi3
      refine ⟨_, _, run_endRound (P := P) none hl3, rfl, ?_⟩
      have := hput (k + 1) _ (rec .ready none) W3 hi3
      have e : ({ rec .ready none with state := .busy } : Loop) = { rec .ready none with state := .busy } := rfl
      rw [hrc] at this ⊢
      exact this
    · rintro e W2 ⟨⟨v, rfl⟩, hi⟩
      have hl := hrec _ _ _ hi
      refine ⟨none, _, ?_, hdone _ _ (hput _ _ { rec .ready none with state := .exhausted } _ hi)⟩
      have := run_endLoop (P := P) hl (by rw [hrc]; simp)
      rw [hrc] at this ⊢
      exact this

/-! ### A body with one range over a function -/
def rngOf (P : Program) (N : Nat) : Code → Option (List AInst × List AInst × Nat × Nat × Nat × List AInst × List AInst)
  | .seq (.region _ oa false) (.seq (.seq (.region _ ob false) (.block _ (.rangeFunc (.tmp t) ps (.region _ oc false) (.block _ (.region _ od false))))) (.seq (.region _ oe false) .ret)) =>
    match oc.toList, ps.toList with
    | [c], [p] =>
      match c.op, c.dst with
      | .assign (.tmp p'), some q =>
        if p' = p ∧ c.guard = none ∧ p < N ∧ q < N then
          match trInsts P N oa oa.toList, trInsts P N ob ob.toList, trInsts P N od od.toList, trInsts P N oe oe.toList with
          | some ia, some ib, some id, some ie => some (ia, ib, t, p, q, id, ie)
          | _, _, _, _ => none
        else none
      | _, _ => none
    | _, _ => none
  | _ => none
theorem rngOf_some {P N c ia ib t p q id ie} (h : rngOf P N c = some (ia, ib, t, p, q, id, ie)) : ∃ i1 oa i2 ob i3 ps i4 oc i5 i6 od i7 oe x, c = .seq (.region i1 oa false) (.seq (.seq (.region i2 ob false) (.block i3 (.rangeFunc (.tmp t) ps (.region i4 oc false) (.block i5 (.region i6 od false))))) (.seq (.region i7 oe false) .ret)) ∧
    oc.toList = [x] ∧ ps.toList = [p] ∧ x.op = .assign (.tmp p) ∧ x.dst = some q ∧ x.guard = none ∧ p < N ∧ q < N ∧ trInsts P N oa oa.toList = some ia ∧ trInsts P N ob ob.toList = some ib ∧ trInsts P N od od.toList = some id ∧ trInsts P N oe oe.toList = some ie := by
  unfold rngOf at h
  split at h <;> try (simp at h; done)
  rename_i i1 oa i2 ob i3 t' ps i4 oc i5 i6 od i7 oe
  split at h <;> try (simp at h; done)
  rename_i x p1 e1 e2
  split at h <;> try (simp at h; done)
  rename_i p2 q1 e3 e4
  split at h <;> try (simp at h; done)
  rename_i hc
  split at h <;> try (simp at h; done)
  rename_i a b d e h1 h2 h3 h4
  simp only [Option.some.injEq, Prod.mk.injEq] at h
  obtain ⟨rfl, rfl, rfl, rfl, rfl, rfl, rfl⟩ := h
  obtain ⟨rfl, g1, g2, g3⟩ := hc
  exact ⟨i1, oa, i2, ob, i3, ps, i4, oc, i5, i6, od, i7, oe, x, rfl, e1, e2, e3, e4, g1, g2, g3, h1, h2, h3, h4⟩
def thenI (k : Env → Sig → Prop) : AExit → Env → Sig → Prop
  | .normal, env, σ => k env σ
  | _, _, _ => False
def AIter (P : Program) (g : FuncId) (caps : List AV) (σ : Sig) (xs : List Int) : Prop :=
  callable P g = true ∧ ∀ K w (vals : Array Value), RelL K caps vals.toList → Sat K σ w → ∀ (l : Nat) (J : Nat → World → Prop) (W : World),
    (∀ b, b < w.heap.size → W.heap[b]? = w.heap[b]?) → (∀ k W, J k W → ∀ b o v, K.claim b o = some v → W.cell? ⟨b, o, none⟩ = some v) →
    (∀ k x W1, xs[k]? = some x → J k W1 → YieldAt Fence.wide 7 P l #[.int .i64 x] W1 fun e W' => e = .returned (.bool true) ∧ J (k + 1) W') →
    J 0 W → CallsIn Fence.wide 8 P g (#[.func (.yield l) #[] #[]] ++ vals) W fun e W' => (∃ v, e = .returned v) ∧ J xs.length W'
def Pins (τ τ' : Sig) : Prop := ∀ o y, τ o = some (.pin y) → τ' o = some (.pin y)
def exRng (P : Program) (rs : List ARV) (R : ARes → Sig → Prop) (t p q : Nat) (id ie : List AInst) (env : Env) (σ : Sig) (_ : Tg R := .mk) : Prop :=
  wth (lk env t) fun v => match v with
    | .fn g first caps => first = [] ∧ ∃ (xs : List Int) (S : Nat → Sig), AIter P g caps σ xs ∧ Sub (S 0) σ ∧ (∀ k o, σ o = none → S k o = none) ∧
      (∀ k x τ, xs[k]? = some x → Sub (S k) τ → exInsts P (thenI fun _ τ' => Sub (S (k + 1)) τ' ∧ Pins τ τ') id ((q, some (.int .i64 x)) :: (p, some (.int .i64 x)) :: env) τ) ∧
      (∀ τ, Sub (S xs.length) τ → exInsts P (thenI fun env τ' => (Sub (S xs.length) τ' ∧ Pins τ τ') ∧ exRes env (S xs.length) (fun l => fin R (one l) (S xs.length)) rs) ie env τ)
    | _ => False
theorem region_ok {P : Program} {N : Nat} {S : Nat → Prop} (hS : Bnd S) {ops : Array Oper} {is : List AInst} (ht : trInsts P N ops ops.toList = some (is.map AInst.bare)) {Q : AExit → Env → Sig → Prop} {env : Env} {σ : Sig} {K : Gh} {a : Act} {w : World}
    (h : exInsts P Q is env σ) (hf : Fr K N env a) (hs : Sat K σ w) : wpOps P ops (LiftQ N S K Q) (List.range ops.size) a w := by
  have := insts_ok (Q := Q) (ops := ops) hS (K0 := K) is 0 ops.toList (by simp) ht env σ K a w (Gh.leS.refl K) h hf hs
  rw [List.range_eq_range']
  simpa using this
theorem no_defer {P : Program} {N : Nat} {ops : Array Oper} : ∀ {l : List Oper} {is : List AInst}, trInsts P N ops l = some is → ∀ o ∈ l, ∀ c, o.op ≠ .defer c
  | [], is, _, o, ho, c => by simp at ho
  | x :: l, is, h, o, ho, c => by
    simp only [trInsts] at h
    split at h <;> try (simp at h; done)
    rename_i i is' h1 h2
    rcases List.mem_cons.1 ho with rfl | ho
    · intro hd
      have := (trInst_some h1).1
      rw [hd] at this
      simp [trOp] at this
    · exact no_defer h2 o ho c
theorem not_out {N : Nat} {S : Nat → Prop} {K : Gh} {Q : AExit → Env → Sig → Prop} : ¬ LetsOut (LiftQ N S K Q) := by
  rintro ⟨a, w, ae, K', env, σ, h1, h2, _⟩
  cases ae <;> exact h2.elim
theorem lift_I {N S K k e a w} (h : LiftQ N S K (thenI k) e a w) : e = .normal ∧ ∃ K' env σ, K.leS S K' ∧ Fr K' N env a ∧ Sat K' σ w ∧ k env σ := by
  obtain ⟨ae, K', env, σ, h1, h2, h3, h4, h5⟩ := h
  cases ae <;> first | exact h5.elim | skip
  cases e <;> first | exact h2.elim | skip
  exact ⟨rfl, K', env, σ, h1, h3, h4, h5⟩
theorem pin_own {K K' : Gh} (h : K.le K') {o r : Nat} (ho : K.own o = some (.pin r)) : K'.own o = some (.pin r) := by
  obtain ⟨x, h1, h2⟩ := h.own o _ ho
  simp only [Own.le] at h2
  rw [h1, ← h2]
theorem sub_upd {σ τ : Sig} {o : Nat} {x : AObj} (h : Sub σ τ) (ho : σ o = none) : Sub σ (upd τ o x) := fun i y e => by
  have : i ≠ o := fun e' => by subst e'; simp [ho] at e
  simp only [upd, if_neg this]
  exact h i y e
theorem calls_of_range {P : Program} {f : FuncId} {fn : Func} {N : Nat} {rs : List ARV} {ia ib id ie : List AInst} {t p q : Nat} {args : List AV} {σ : Sig} {R : ARes → Sig → Prop}
    (hfn : P.funcs[f]? = some fn) (hb : fn.body.bind (rngOf P N) = some (ia.map AInst.bare, ib.map AInst.bare, t, p, q, id.map AInst.bare, ie.map AInst.bare)) (hname : (fn.name == "runtime.NumGoroutine") = false) (hN : fn.ntmps = N)
    (hr : trRes P fn.results.toList = some rs) (hargs : args.length ≤ N)
    (h : exInsts P (thenI fun env σ => exInsts P (thenI fun env σ => exRng P rs R t p q id ie env σ) ib env σ) ia (argEnv 0 args) σ) :
    ACalls P f args σ R := by
  cases hc : fn.body with
  | none => simp [hc] at hb
  | some c =>
  rw [hc] at hb
  obtain ⟨i1, oa, i2, ob, i3, ps, i4, oc, i5, i6, od, i7, oe, x, rfl, ec, ep, x1, x2, x3, hp, hq, ta, tb, td, te⟩ := rngOf_some (by simpa using hb)
  obtain rfl := array_one ec
  obtain rfl := array_one ep
  refine ⟨by simp [callable, hfn, hc, hname], fun S K w vals hS hrel hs => callsIn_wide.1 (callsIn_of_wp_marks (F := Fence.wide) (n := 9) hfn hc trivial ?_ rfl)⟩
  have hf : Fr { K with ds := [] } N (argEnv 0 args) { tmps := vals ++ Array.replicate (fn.ntmps - vals.size) undef, defers := [] } := frame_enter hN hargs (hrel.ds []) rfl
  refine wpIn_seq (wpIn_mono (wpIn_wide.2 (wp_region (region_ok hS ta h hf (hs.ds [])))) fun e a1 w1 hq1 => ?_)
  obtain ⟨rfl, K1, env1, σ1, k1, k2, k3, k4⟩ := lift_I hq1
  show Code.wpIn _ _ _ _ _ a1 w1
  refine wpIn_seq (wpIn_seq (wpIn_mono (wpIn_wide.2 (wp_region (region_ok hS tb k4 k2 k3))) fun e a2 w2 hq2 => ?_))
  obtain ⟨rfl, K2, env2, σ2, m1, m2, m3, m4⟩ := lift_I hq2
  show Code.wpIn _ _ _ _ _ a2 w2
  obtain ⟨fv, l1, m5⟩ := wth_some m4
  cases fv <;> first | exact m5.elim | skip
  rename_i g first caps
  obtain ⟨rfl, xs, Z, ⟨hcal, hai⟩, z0, zd, zs, ze⟩ := m5
  obtain ⟨v, l2, l3⟩ := m2.rel t _ l1
  obtain ⟨fs, cs, rfl, l4, l5⟩ := rel_fn l3
  obtain rfl : fs = #[] := by have := l4.1; simp at this; exact Array.eq_empty_of_size_eq_zero (by simpa using this.symm)
  have hev : a2.eval (.tmp t) = .func (.func g) #[] cs := by simp [Act.eval, Array.getD_eq_getD_getElem?, l2]
  have hK02 := k1.trans m1
  have hds2 : K2.ds = [] := hK02.le.ds
  -- the two names
  obtain ⟨nd, d1, d2, d3⟩ := freshFor m3 hS
  obtain ⟨K3, n1, n2, n3⟩ := m3.pinNew (x := .deferred (some [])) trivial d1 d2
  obtain ⟨nl, e1, e2, e3⟩ := freshFor n2 hS
  have hne : nl ≠ nd := fun h => by rw [h, n3] at e1; simp at e1
  have e4 : σ2 nl = none := by simpa [upd, hne] using e3
  refine wpIn_block (range_law (w := w2) (xs := xs) hev hcal (fun k o W => ∃ K' τ, K2.leS S K' ∧ Sat K' τ W ∧ Sub (Z k) τ ∧ τ nd = some (.pin (.deferred (some []))) ∧ K'.own nd = some (.pin w2.heap.size) ∧ τ nl = some (.pin o) ∧ K'.own nl = some (.pin (w2.heap.size + 1)))
    (fun r => ?_) ?_ ?_ ?_ (fun y => ({ tmps := (#[p].zip #[Value.int .i64 y]).foldl (fun t (p, v) => t.setIfInBounds p v) a2.tmps, defers := [] } : Act).put (some q) (.int .i64 y)) ?_ ?_ ?_)
  · obtain ⟨K4, o1, o2, o3⟩ := n2.pinNew (x := .loop r) trivial e1 e2
    refine ⟨K4, _, n1.trans o1, o2, ?_, ?_, pin_own o1.le n3, by simp [upd], by rw [o3, World.size_alloc]⟩
    · exact sub_upd (sub_upd z0 (zd 0 nd d3)) (zd 0 nl e4)
    · simp [upd, Ne.symm hne]
  · rintro k o W ⟨K', τ, q1, q2, q3, q4, q5, q6, q7⟩
    obtain ⟨e, r1, r2⟩ := q2.live nl _ q6
    rw [q7] at r1; cases r1
    exact r2.2.1
  · rintro k r r' W ⟨K', τ, q1, q2, q3, q4, q5, q6, q7⟩
    refine ⟨K', _, q1, q2.pinPut (x' := .loop r') trivial q6 q7, sub_upd q3 (zd k nl e4), ?_, q5, by simp [upd], q7⟩
    simp only [upd, if_neg (Ne.symm hne)]; exact q4
  · rintro J W ⟨r, rfl⟩ hJ hy h0
    refine hai K2 w2 cs l5 m3 _ J _ (fun b hb => ?_) (fun k W hk b o v hcl => ?_) hy h0
    · rw [(pushed_alloc _ _).old b (by rw [World.size_alloc]; omega), (pushed_alloc _ _).old b hb]
    · obtain ⟨o', K', τ, q1, q2, _⟩ := hJ k W hk
      exact q2.claim b o v (q1.le.claim b o v hcl)
  · intro y W Kq hKq
    refine wpIn_region ?_
    have hsz : (#[x] : Array Oper).size = 1 := rfl
    rw [hsz, show List.range 1 = [0] from rfl]
    simp only [wpOpsIn, List.getElem?_toArray, List.getElem?_cons_zero, Region.wanted, x3, if_true]
    refine ⟨fun _ _ => trivial, ?_⟩
    rw [Oper.semAt_eq _ _ _ (by rw [x1]; intro c; simp)]
    have hpa : p < a2.tmps.size := by rw [m2.size]; exact hp
    have hv : ({ tmps := (#[p].zip #[Value.int .i64 y]).foldl (fun t (p, v) => t.setIfInBounds p v) a2.tmps, defers := [] } : Act).eval (.tmp p) = .int .i64 y := by
      simp [Act.eval, Array.getD_eq_getD_getElem?, hpa]
    simp only [execOp, x1, hv, Sem.run_pure, Oper.uponIn_value, x2]
    exact hKq
  · rintro k y r W hy ⟨K', τ, q1, q2, q3, q4, q5, q6, q7⟩
    have hf2 : Fr K' N ((q, some (.int .i64 y)) :: (p, some (.int .i64 y)) :: env2) (({ tmps := (#[p].zip #[Value.int .i64 y]).foldl (fun t (p, v) => t.setIfInBounds p v) a2.tmps, defers := [] } : Act).put (some q) (.int .i64 y)) := by
      have h1 := ((m2.mono q1.le).put hp (.int .i64 y)).put hq (.int .i64 y)
      have : a2.defers = [] := m2.defers.trans hds2
      simpa [Act.put, this] using h1
    have hw := wpOps_round (w2.heap.size + 1) (9 - 1 - 1) (fun i o ho c => no_defer td o (by
      rw [← Array.getElem?_toList] at ho
      exact List.mem_of_getElem? ho) c) not_out _ _ _ (region_ok hS td (zs k y τ hy q3) hf2 q2)
    refine wpIn_block (wpIn_mono (wpIn_region hw) fun e a w hq => ?_)
    obtain ⟨rfl, K6, env6, σ6, u1, u2, u3, u4, u5⟩ := lift_I hq
    exact ⟨rfl, K6, σ6, q1.trans u1, u3, u4, u5 _ _ q4, pin_own u1.le q5, u5 _ _ q6, pin_own u1.le q7⟩
  · rintro r W ⟨K', τ, q1, q2, q3, q4, q5, q6, q7⟩
    let dd : Deferred := { target := .collected w2.heap.size, args := #[] }
    have had : a2.defers = [] := m2.defers.trans hds2
    have hf3 : Fr { K' with ds := [dd] } N env2 { a2 with defers := dd :: a2.defers } := ⟨m2.size, by show dd :: a2.defers = [dd]; rw [had], fun i av e => by
      obtain ⟨v, e1, r⟩ := m2.rel i av e
      exact ⟨v, e1, (r.mono q1.le).ds _⟩⟩
    show Code.wpIn _ _ _ _ _ ({ a2 with defers := dd :: a2.defers } : Act) W
    refine wpIn_seq (wpIn_mono (wpIn_wide.2 (wp_region (region_ok hS te (ze τ q3) hf3 (q2.ds [dd])))) fun e a5 w5 hq5 => ?_)
    obtain ⟨rfl, K5, env5, σ5, v1, v2, v3, ⟨v4, v5⟩, v6⟩ := lift_I hq5
    show Code.wpIn _ _ _ _ _ a5 w5
    refine wpIn_ret ?_
    have hds5 : K5.ds = [dd] := v1.le.ds
    have hown5 : K5.own nd = some (.pin w2.heap.size) := pin_own v1.le (K := { K' with ds := [dd] }) q5
    have hpin5 := v5 _ _ q4
    have hheap : w5.heap[w2.heap.size]? = some (.deferred (some [])) := by
      obtain ⟨e, r1, r2⟩ := v3.live nd _ hpin5
      rw [hown5] at r1; cases r1
      exact r2.2.1
    show LeavesInM Fence.wide 9 P fn a5.tmps _ a5.defers .returning w5
    rw [v2.defers, hds5]
    refine ⟨by simp, .inl ⟨_, _, rfl, run_takeDeferred hheap, ?_⟩⟩
    have hs6 := (v3.pinPut (x' := .deferred none) trivial hpin5 hown5).sub (sub_upd v4 (zd _ nd d3))
    obtain ⟨l, v, w1', w2', v0, σ0, w3', w4'⟩ := results_ok v2 hs6 hr v6
    obtain ⟨K6, y1, y2, y3⟩ := w2'.view w3' hS hs6
    have hle : K.leS S { K6 with ds := K.ds } := by
      have h1 := (k1.trans m1).trans q1
      have h2 := v1.trans y1
      exact ⟨⟨h2.le.base.trans h1.le.base, fun b o v e => h2.le.claim b o v (h1.le.claim b o v e), fun o x e => by
        obtain ⟨x', e', l'⟩ := h1.le.own o x e
        obtain ⟨x'', e'', l''⟩ := h2.le.own o x' e'
        exact ⟨x'', e'', Own.le_trans l' l''⟩, rfl⟩, fun o hs hn => h2.free o hs (h1.free o hs hn)⟩
    exact ⟨v, w1', _, .ret _, σ0, hle, y3.ds _, EndRel.ds (e := .returned v) (r := .ret _) _ y2, w4'⟩
end Abs

