/- rewr: plain models. No program in sight. -/
import Derived.Test.YtapnlmhfacoceaaAbsU
import Derived.Test.YtapnlmhfacoceaaRewAigA
set_option linter.unusedSimpArgs false
set_option linter.unusedVariables false
namespace Go.Proofs.Ytapnlmhfacoceaa.A
open Abs Fil
theorem aig_begin (g : Aig) (l : List Int) (σ : Sig) (hs : Wf g) (hl : l.length ≤ 1000000) (hi : ∀ a ∈ l, I64 a) :
    ACalls Try.prog 59 [encAig g, .slice (l.map encInt) .no] σ (NewO σ (fun o => .ptr o 0) (workC g (g.checkL g.check l))) := by
  refine calls_x mixed Try.func59 b59 n59 rfl q59 (by simp) ?_; unfold c59 r59
  repeat' (first | simp (maxDischargeDepth := 9) -implicitDefEqProofs -dsimp only [go_sem, seval, *] | simp (disch := omega) only [wrap64] | (with_reducible (first | apply Zr) <;> intro hq) | ((with_reducible refine Zu ?_ ?_); focus omega) | ((with_reducible refine Zt (fun oF hoF hnF hnF' => ?_)); (try simp only [upd_none, ne_eq, not_and] at hoF)) | ((with_reducible apply ACalls.one1); (focus ((first | with_reducible refine aig_check _ g 0 _ ?_ hs) <;> (first | (simp (maxDischargeDepth := 9) -implicitDefEqProofs -dsimp only [go_sem, seval, *]; done) | omega))); (focus (first | trivial | with_reducible exact rfl | (simp (maxDischargeDepth := 9) -implicitDefEqProofs -dsimp only [go_sem, seval]; done)))))
  refine loop_rule (fun i : Nat => [(5, some (.ptr oF 0)), (16, some (.slice (l.map encInt) .no)), (17, some (.int .i64 l.length)), (18, some (.int .i64 i))]) (fun i => upd σ oF (workC g (g.checkL g.check (l.take i)))) (fun i => i ≤ l.length) (fun i => l.length - i) 0 ?_ ?_
  · (repeat' (first | simp (maxDischargeDepth := 9) -implicitDefEqProofs -dsimp only [go_sem, seval, Aig.checkL, *] | simp (disch := omega) only [wrap64])) <;> (repeat' refine And.intro ?_ ?_) <;> (first | omega | rfl | assumption | skip)
  · intro i hi'
    by_cases hlt : i < l.length
    · have hi2 := hi _ (List.getElem_mem hlt)
      have step : g.checkL g.check (l.take (i + 1)) = if g.checkL g.check (l.take i) = 0 ∧ g.lit l[i] = false then 1 else g.checkL g.check (l.take i) := by
        rw [List.take_add_one, List.getElem?_eq_getElem hlt]
        exact checkL_snoc g _ _ _
      by_cases he : g.checkL g.check (l.take i) = 0
      · have hsm : Small g := checkL_small hs he
        repeat' (first | simp (maxDischargeDepth := 9) -implicitDefEqProofs -dsimp only [go_sem, seval, *] | simp (disch := omega) only [wrap64] | (with_reducible (first | apply Zr) <;> intro hq) | ((with_reducible refine Zu ?_ ?_); focus omega) | ((with_reducible refine Zt (fun oF hoF hnF hnF' => ?_)); (try simp only [upd_none, ne_eq, not_and] at hoF)) | ((with_reducible apply ACalls.one1); (focus ((first | with_reducible refine aig_lit _ g 0 l[i] _ ?_ hsm hi2) <;> (first | (simp (maxDischargeDepth := 9) -implicitDefEqProofs -dsimp only [go_sem, seval, *]; done) | omega))); (focus (first | trivial | with_reducible exact rfl | (simp (maxDischargeDepth := 9) -implicitDefEqProofs -dsimp only [go_sem, seval]; done)))))
        · have st : g.checkL g.check (l.take (i + 1)) = 0 := by rw [step]; simp [*]
          refine loop_next _ _ _ _ (i + 1) ?_; (repeat' (first | simp (maxDischargeDepth := 9) -implicitDefEqProofs -dsimp only [go_sem, seval, *] | simp (disch := omega) only [wrap64])) <;> (repeat' refine And.intro ?_ ?_) <;> (first | omega | rfl | assumption | skip)
        · have st : g.checkL g.check (l.take (i + 1)) = 1 := by rw [step]; simp [*]
          refine loop_next _ _ _ _ (i + 1) ?_; (repeat' (first | simp (maxDischargeDepth := 9) -implicitDefEqProofs -dsimp only [go_sem, seval, *] | simp (disch := omega) only [wrap64])) <;> (repeat' refine And.intro ?_ ?_) <;> (first | omega | rfl | assumption | skip)
      · have st : g.checkL g.check (l.take (i + 1)) = g.checkL g.check (l.take i) := by rw [step]; simp [*]
        have hb : (g.checkL g.check (l.take i) == 0) = false := by simpa using he
        repeat' (first | simp (maxDischargeDepth := 9) -implicitDefEqProofs -dsimp only [go_sem, seval, *] | simp (disch := omega) only [wrap64] | (with_reducible (first | apply Zr) <;> intro hq) | ((with_reducible refine Zu ?_ ?_); focus omega) | ((with_reducible refine Zt (fun oF hoF hnF hnF' => ?_)); (try simp only [upd_none, ne_eq, not_and] at hoF)))
        refine loop_next _ _ _ _ (i + 1) ?_; (repeat' (first | simp (maxDischargeDepth := 9) -implicitDefEqProofs -dsimp only [go_sem, seval, *] | simp (disch := omega) only [wrap64])) <;> (repeat' refine And.intro ?_ ?_) <;> (first | omega | rfl | assumption | skip)
    · repeat' (first | simp (maxDischargeDepth := 9) -implicitDefEqProofs -dsimp only [go_sem, seval, *] | simp (disch := omega) only [wrap64] | (with_reducible (first | apply Zr) <;> intro hq) | ((with_reducible refine Zu ?_ ?_); focus omega) | ((with_reducible refine Zt (fun oF hoF hnF hnF' => ?_)); (try simp only [upd_none, ne_eq, not_and] at hoF)))
      refine fin_new oF hoF ?_
      have e0 : l.take i = l := List.take_of_length_le (by omega)
      (repeat' (first | simp (maxDischargeDepth := 9) -implicitDefEqProofs -dsimp only [go_sem, seval, e0, *] | simp (disch := omega) only [wrap64])) <;> (repeat' refine And.intro ?_ ?_) <;> (first | omega | rfl | assumption | skip)
theorem aig_and1 (pa pb : Nat) (x : Int × Int) (a b : Int) (σ : Sig) (ha : σ pa = some (.cells [.int .i64 a])) (hb : σ pb = some (.cells [.int .i64 b])) :
    ACalls Try.prog 97 [encGate x, .ptr pa 0, .ptr pb 0] σ (fun r σ' => r = .ret (.bool (decide (min x.1 x.2 = a) && decide (max x.1 x.2 = b))) ∧ σ' = σ) := by
  refine calls_x mixed Try.func97 b97 n97 rfl q97 (by simp) ?_; unfold c97 r97
  repeat' (first | simp (maxDischargeDepth := 9) -implicitDefEqProofs -dsimp only [go_sem, seval, *] | (with_reducible (first | apply Zj) <;> intro hq))
  · have e : min x.1 x.2 = a := by omega
    exact fin_id ⟨by simp [e, Bool.beq_eq_decide_eq], rfl⟩
  · exact fin_id ⟨by simp [hq], rfl⟩
end Go.Proofs.Ytapnlmhfacoceaa.A

namespace Go.Proofs.Ytapnlmhfacoceaa.A
open Abs Fil
theorem aig_Check (g : Aig) (σ : Sig) (hs : Wf g) : ACalls Try.prog 26 [encAig g] σ (fun r σ' => r = .ret (.int .i64 g.check) ∧ σ' = σ) := by
  refine calls_x mixed Try.func26 b26 n26 rfl q26 (by simp) ?_; unfold c26 r26
  repeat' (first | simp (maxDischargeDepth := 9) -implicitDefEqProofs -dsimp only [go_sem, seval, *] | ((with_reducible apply ACalls.newO); (focus (first | ((first | with_reducible refine aig_begin g [] _ hs ?_ (by simp)) <;> (first | (simp (maxDischargeDepth := 9) -implicitDefEqProofs -dsimp only [go_sem, seval, *]; done) | omega)) | (with_reducible refine ACalls.flA (aig_begin g [] _ hs ?_ (by simp)) ?_ <;> (first | (simp (maxDischargeDepth := 9) -implicitDefEqProofs -dsimp only [go_sem, seval, *]; done) | omega)))); (intro oF hoF hnF hnF'); (try simp only [upd_none, ne_eq, not_and] at hoF)))
  refine fin_eq ?_
  (repeat' (first | simp (maxDischargeDepth := 9) -implicitDefEqProofs -dsimp only [go_sem, seval, Aig.checkL, *])) <;> (repeat' refine And.intro ?_ ?_) <;> (first | omega | rfl | assumption | skip)
end Go.Proofs.Ytapnlmhfacoceaa.A

namespace Go.Proofs.Ytapnlmhfacoceaa.A
open Abs Fil
theorem ref_Lit (n a : Int) (σ : Sig) (h1 : -1000000000 ≤ n) (h2 : n ≤ 1000000000) : ACalls Try.prog 65 [.int .i64 n, .int .i64 a] σ (fun r σ' => r = .ret (.bool (Aig.litN n a)) ∧ σ' = σ) := by
  refine calls_x mixed Try.func65 b65 n65 rfl q65 (by simp) ?_; unfold c65 r65
  repeat' (first | simp (maxDischargeDepth := 9) -implicitDefEqProofs -dsimp only [go_sem, seval, ge_iff_le, *] | simp (disch := omega) only [wrap64] | (with_reducible (first | apply Za) <;> intro hq))
  · refine fin_eq ?_
    (repeat' (first | simp (maxDischargeDepth := 9) -implicitDefEqProofs -dsimp only [go_sem, seval, Aig.litN, *] | simp (disch := omega) only [wrap64])) <;> (repeat' refine And.intro ?_ ?_) <;> (first | omega | rfl | assumption | skip)
  · refine fin_eq ?_
    (repeat' (first | simp (maxDischargeDepth := 9) -implicitDefEqProofs -dsimp only [go_sem, seval, Aig.litN, *] | simp (disch := omega) only [wrap64])) <;> (repeat' refine And.intro ?_ ?_) <;> (first | omega | rfl | assumption | skip)
theorem ref_Count (g : Aig) (σ : Sig) (hs : Small g) : ACalls Try.prog 60 [encAig g] σ (fun r σ' => r = .ret (.int .i64 (1 + g.count)) ∧ σ' = σ) := by
  refine calls_x mixed Try.func60 b60 n60 rfl q60 (by simp) ?_; unfold c60 r60
  obtain ⟨⟨h0, h1, h2, h3, h4, h5, h6⟩, h7, h8⟩ := hs
  repeat' (first | simp (maxDischargeDepth := 9) -implicitDefEqProofs -dsimp only [go_sem, seval, *] | simp (disch := omega) only [wrap64])
  exact fin_id ⟨by simp only [Aig.count, Int.add_assoc], rfl⟩
theorem ref_Check (g : Aig) (σ : Sig) (hs : Wf g) : ACalls Try.prog 32 [encAig g] σ (fun r σ' => r = .ret (.int .i64 g.check) ∧ σ' = σ) := by
  refine calls_x mixed Try.func32 b32 n32 rfl q32 (by simp) ?_; unfold c32 r32
  have hfl := hs.flops
  have hal := hs.ands
  have hol := hs.outs
  by_cases hlo : g.ins < 0
  · have hv : g.check = 1 := by simp [Aig.check, hlo]
    repeat' (first | simp (maxDischargeDepth := 9) -implicitDefEqProofs -dsimp only [go_sem, seval, *] | simp (disch := omega) only [wrap64] | (with_reducible (first | apply Zb | apply Zc | apply Zp | apply Zr) <;> intro hq) | ((with_reducible refine Zu ?_ ?_); focus omega))
    refine fin_eq ?_
    (repeat' (first | simp (maxDischargeDepth := 9) -implicitDefEqProofs -dsimp only [go_sem, seval, *] | simp (disch := omega) only [wrap64])) <;> (repeat' refine And.intro ?_ ?_) <;> (first | omega | rfl | assumption | skip)
  by_cases hhi : 65536 < g.ins
  · have hv : g.check = 2 := by simp [Aig.check, hlo, hhi]
    repeat' (first | simp (maxDischargeDepth := 9) -implicitDefEqProofs -dsimp only [go_sem, seval, gt_iff_lt, *] | simp (disch := omega) only [wrap64] | (with_reducible (first | apply Zb | apply Zc | apply Zp | apply Zr) <;> intro hq) | ((with_reducible refine Zu ?_ ?_); focus omega))
    refine fin_eq ?_
    (repeat' (first | simp (maxDischargeDepth := 9) -implicitDefEqProofs -dsimp only [go_sem, seval, *] | simp (disch := omega) only [wrap64])) <;> (repeat' refine And.intro ?_ ?_) <;> (first | omega | rfl | assumption | skip)
  have hsm : Small g := ⟨hs, by omega, by omega⟩
  by_cases hb : 65536 < g.count ∨ 65536 < (g.outs.length : Int)
  · have hv : g.check = 2 := by simp [Aig.check, hlo, hhi, hb]
    have hb' : 65536 < g.ins + g.flops.length + g.ands.length ∨ 65536 < (g.outs.length : Int) := hb
    repeat' (first | simp (maxDischargeDepth := 9) -implicitDefEqProofs -dsimp only [go_sem, seval, gt_iff_lt, *] | simp (disch := omega) only [wrap64] | (with_reducible (first | apply Zb | apply Zc | apply Zp | apply Zr) <;> intro hq) | ((with_reducible refine Zu ?_ ?_); focus omega))
    all_goals first | (exfalso; omega) | (refine fin_eq ?_; (repeat' (first | simp (maxDischargeDepth := 9) -implicitDefEqProofs -dsimp only [go_sem, seval, *] | simp (disch := omega) only [wrap64])) <;> (repeat' refine And.intro ?_ ?_) <;> (first | omega | rfl | assumption | skip))
  have hv : g.check = if g.good then 0 else 1 := by simp [Aig.check, hlo, hhi, hb]
  have hcnt : g.ins + g.flops.length + g.ands.length ≤ 65536 ∧ (g.outs.length : Int) ≤ 65536 := by
    unfold Aig.count at hb; omega
  have hc1 : 0 ≤ g.count ∧ g.count ≤ 65536 := by unfold Aig.count; omega
  have bad1 : ∀ i, (h : i < g.ands.length) → ¬ (Aig.litN (1 + g.ins + g.flops.length + i) g.ands[i].1 = true ∧ Aig.litN (1 + g.ins + g.flops.length + i) g.ands[i].2 = true) → g.good = false := fun i h hn => by
    have : Aig.gatesOk g.first g.ands = false := gatesOk_false h (fun ⟨k1, k2⟩ => hn ⟨litN_iff.2 (by unfold Aig.first at k1; omega), litN_iff.2 (by unfold Aig.first at k2; omega)⟩)
    simp [Aig.good, this]
  have bad2 : ∀ i, (h : i < g.flops.length) → Aig.litN (1 + g.count) g.flops[i].next = false → g.good = false := fun i h hn => by
    have : (g.flops.any fun f => !g.lit f.next) = true := by simp only [List.any_eq_true]; exact ⟨_, List.getElem_mem h, by simp [Aig.lit, hn]⟩
    simp [Aig.good, this]
  have bad3 : ∀ i, (h : i < g.outs.length) → Aig.litN (1 + g.count) g.outs[i] = false → g.good = false := fun i h hn => by
    have : (g.outs.any fun a => !g.lit a) = true := by simp only [List.any_eq_true]; exact ⟨_, List.getElem_mem h, by simp [Aig.lit, hn]⟩
    simp [Aig.good, this]
  have hb2 : ¬ 65536 < (g.outs.length : Int) := by omega
  have hb3 : ¬ 65536 < g.ins + g.flops.length + g.ands.length := by omega
  repeat' (first | simp (maxDischargeDepth := 9) -implicitDefEqProofs -dsimp only [go_sem, seval, gt_iff_lt, *] | simp (disch := omega) only [wrap64] | (with_reducible (first | apply Zb | apply Zc | apply Zp | apply Zr) <;> intro hq) | ((with_reducible refine Zu ?_ ?_); focus omega))
  refine loop_rule (fun i : Nat => [(4, some (.int .i64 i)), (1, some (.cptr (aigL g))), (3, some (.int .i64 (1 + g.ins + g.flops.length)))]) (fun _ => σ)
    (fun i => i ≤ g.ands.length ∧ ∀ j, (hj : j < g.ands.length) → j < i → Aig.litN (1 + g.ins + g.flops.length + j) g.ands[j].1 = true ∧ Aig.litN (1 + g.ins + g.flops.length + j) g.ands[j].2 = true) (fun i => g.ands.length - i) 0 ?_ ?_
  · (repeat' (first | simp (maxDischargeDepth := 9) -implicitDefEqProofs -dsimp only [go_sem, seval, *] | simp (disch := omega) only [wrap64])) <;> (repeat' refine And.intro ?_ ?_) <;> (first | omega | rfl | assumption | skip)
  · rintro i ⟨hi, hok1⟩
    by_cases hlt : i < g.ands.length
    · have hgb := bad1 i hlt
      clear bad1 bad2 bad3
      repeat' (first | simp (maxDischargeDepth := 9) -implicitDefEqProofs -dsimp only [go_sem, seval, *] | simp (disch := omega) only [wrap64] | (with_reducible (first | apply Zb | apply Zc | apply Zp | apply Zr) <;> intro hq) | ((with_reducible refine Zu ?_ ?_); focus omega) | ((with_reducible apply ACalls.one1); (focus ((first | with_reducible refine ref_Lit (1 + g.ins + g.flops.length + i) g.ands[i].1 _ ?_ ?_ | with_reducible refine ref_Lit (1 + g.ins + g.flops.length + i) g.ands[i].2 _ ?_ ?_) <;> (first | (simp (maxDischargeDepth := 9) -implicitDefEqProofs -dsimp only [go_sem, seval, *]; done) | omega))); (focus (first | trivial | with_reducible exact rfl | (simp (maxDischargeDepth := 9) -implicitDefEqProofs -dsimp only [go_sem, seval]; done)))))
      all_goals first | (have hx : g.good = false := hgb (by simp [*]); refine fin_eq ?_; (repeat' (first | simp (maxDischargeDepth := 9) -implicitDefEqProofs -dsimp only [go_sem, seval, Bool.false_eq_true, *] | simp (disch := omega) only [wrap64])) <;> (repeat' refine And.intro ?_ ?_) <;> (first | omega | rfl | assumption | skip); done) | skip
      refine loop_next _ _ _ _ (i + 1) ?_; (repeat' (first | simp (maxDischargeDepth := 9) -implicitDefEqProofs -dsimp only [go_sem, seval, *] | simp (disch := omega) only [wrap64])) <;> (repeat' refine And.intro ?_ ?_) <;> (first | omega | rfl | assumption | skip)
      intro j hj h
      rcases Nat.lt_or_ge j i with h' | h'
      · exact hok1 j hj h'
      · obtain rfl : j = i := by omega
        exact ⟨by assumption, by assumption⟩
    · repeat' (first | simp (maxDischargeDepth := 9) -implicitDefEqProofs -dsimp only [go_sem, seval, *] | simp (disch := omega) only [wrap64] | (with_reducible (first | apply Zb | apply Zc | apply Zp | apply Zr) <;> intro hq) | ((with_reducible refine Zu ?_ ?_); focus omega))
      refine loop_rule (fun i : Nat => [(5, some (.int .i64 i)), (1, some (.cptr (aigL g)))]) (fun _ => σ) (fun i => i ≤ g.flops.length ∧ ∀ j, (hj : j < g.flops.length) → j < i → Aig.litN (1 + g.count) g.flops[j].next = true) (fun i => g.flops.length - i) 0 ?_ ?_
      · (repeat' (first | simp (maxDischargeDepth := 9) -implicitDefEqProofs -dsimp only [go_sem, seval, *] | simp (disch := omega) only [wrap64])) <;> (repeat' refine And.intro ?_ ?_) <;> (first | omega | rfl | assumption | skip)
      · rintro k ⟨hk, hok2⟩
        by_cases hlt2 : k < g.flops.length
        · have hgb := bad2 k hlt2
          clear bad1 bad2 bad3
          repeat' (first | simp (maxDischargeDepth := 9) -implicitDefEqProofs -dsimp only [go_sem, seval, *] | simp (disch := omega) only [wrap64] | (with_reducible (first | apply Zb | apply Zc | apply Zp | apply Zr) <;> intro hq) | ((with_reducible refine Zu ?_ ?_); focus omega) | ((with_reducible apply ACalls.one1); (focus ((first | with_reducible refine ref_Count g _ hsm | with_reducible refine ref_Lit (1 + g.count) g.flops[k].next _ ?_ ?_) <;> (first | (simp (maxDischargeDepth := 9) -implicitDefEqProofs -dsimp only [go_sem, seval, *]; done) | omega))); (focus (first | trivial | with_reducible exact rfl | (simp (maxDischargeDepth := 9) -implicitDefEqProofs -dsimp only [go_sem, seval]; done)))) | ((with_reducible apply id_one0); (focus (intro tS hS; ((first | with_reducible refine ref_Count g _ hsm | with_reducible refine ref_Lit (1 + g.count) g.flops[k].next _ ?_ ?_) <;> (first | (simp (maxDischargeDepth := 9) -implicitDefEqProofs -dsimp only [go_sem, seval, *]; done) | omega | ((with_reducible refine Sub.get hS ?_); simp (maxDischargeDepth := 9) -implicitDefEqProofs -dsimp only [go_sem, seval, *]; done))))); (focus (first | trivial | (simp (maxDischargeDepth := 9) -implicitDefEqProofs -dsimp only [go_sem, seval, *]; done)))))
          · refine loop_next _ _ _ _ (k + 1) ?_; (repeat' (first | simp (maxDischargeDepth := 9) -implicitDefEqProofs -dsimp only [go_sem, seval, *] | simp (disch := omega) only [wrap64])) <;> (repeat' refine And.intro ?_ ?_) <;> (first | omega | rfl | assumption | skip)
            intro j hj h
            rcases Nat.lt_or_ge j k with h' | h'
            · exact hok2 j hj h'
            · obtain rfl : j = k := by omega
              assumption
          · have hx := hgb hq
            refine fin_eq ?_
            (repeat' (first | simp (maxDischargeDepth := 9) -implicitDefEqProofs -dsimp only [go_sem, seval, Bool.false_eq_true, *] | simp (disch := omega) only [wrap64])) <;> (repeat' refine And.intro ?_ ?_) <;> (first | omega | rfl | assumption | skip)
        · repeat' (first | simp (maxDischargeDepth := 9) -implicitDefEqProofs -dsimp only [go_sem, seval, *] | simp (disch := omega) only [wrap64] | (with_reducible (first | apply Zb | apply Zc | apply Zp | apply Zr) <;> intro hq) | ((with_reducible refine Zu ?_ ?_); focus omega))
          refine loop_rule (fun i : Nat => [(6, some (.int .i64 i)), (1, some (.cptr (aigL g)))]) (fun _ => σ) (fun i => i ≤ g.outs.length ∧ ∀ j, (hj : j < g.outs.length) → j < i → Aig.litN (1 + g.count) g.outs[j] = true) (fun i => g.outs.length - i) 0 ?_ ?_
          · (repeat' (first | simp (maxDischargeDepth := 9) -implicitDefEqProofs -dsimp only [go_sem, seval, *] | simp (disch := omega) only [wrap64])) <;> (repeat' refine And.intro ?_ ?_) <;> (first | omega | rfl | assumption | skip)
          · rintro m ⟨hm, hok3⟩
            by_cases hlt3 : m < g.outs.length
            · have hgb := bad3 m hlt3
              clear bad1 bad2 bad3
              repeat' (first | simp (maxDischargeDepth := 9) -implicitDefEqProofs -dsimp only [go_sem, seval, *] | simp (disch := omega) only [wrap64] | (with_reducible (first | apply Zb | apply Zc | apply Zp | apply Zr) <;> intro hq) | ((with_reducible refine Zu ?_ ?_); focus omega) | ((with_reducible apply ACalls.one1); (focus ((first | with_reducible refine ref_Count g _ hsm | with_reducible refine ref_Lit (1 + g.count) g.outs[m] _ ?_ ?_) <;> (first | (simp (maxDischargeDepth := 9) -implicitDefEqProofs -dsimp only [go_sem, seval, *]; done) | omega))); (focus (first | trivial | with_reducible exact rfl | (simp (maxDischargeDepth := 9) -implicitDefEqProofs -dsimp only [go_sem, seval]; done)))) | ((with_reducible apply id_one0); (focus (intro tS hS; ((first | with_reducible refine ref_Count g _ hsm | with_reducible refine ref_Lit (1 + g.count) g.outs[m] _ ?_ ?_) <;> (first | (simp (maxDischargeDepth := 9) -implicitDefEqProofs -dsimp only [go_sem, seval, *]; done) | omega | ((with_reducible refine Sub.get hS ?_); simp (maxDischargeDepth := 9) -implicitDefEqProofs -dsimp only [go_sem, seval, *]; done))))); (focus (first | trivial | (simp (maxDischargeDepth := 9) -implicitDefEqProofs -dsimp only [go_sem, seval, *]; done)))))
              · refine loop_next _ _ _ _ (m + 1) ?_; (repeat' (first | simp (maxDischargeDepth := 9) -implicitDefEqProofs -dsimp only [go_sem, seval, *] | simp (disch := omega) only [wrap64])) <;> (repeat' refine And.intro ?_ ?_) <;> (first | omega | rfl | assumption | skip)
                intro j hj h
                rcases Nat.lt_or_ge j m with h' | h'
                · exact hok3 j hj h'
                · obtain rfl : j = m := by omega
                  assumption
              · have hx := hgb hq
                refine fin_eq ?_
                (repeat' (first | simp (maxDischargeDepth := 9) -implicitDefEqProofs -dsimp only [go_sem, seval, Bool.false_eq_true, *] | simp (disch := omega) only [wrap64])) <;> (repeat' refine And.intro ?_ ?_) <;> (first | omega | rfl | assumption | skip)
            · have hgood : g.good = true := by
                have q1 : Aig.gatesOk g.first g.ands = true := gatesOk_iff.2 fun j hj => by
                  obtain ⟨k1, k2⟩ := hok1 j hj (by omega)
                  have k1 := litN_iff.1 k1
                  have k2 := litN_iff.1 k2
                  unfold Aig.first
                  omega
                have q2 : (g.flops.any fun f => !g.lit f.next) = false := by
                  simp only [List.any_eq_false, Bool.not_eq_true, Bool.not_eq_false']
                  intro f hf
                  obtain ⟨j, hj, rfl⟩ := List.getElem_of_mem hf
                  exact hok2 j hj (by omega)
                have q3 : (g.outs.any fun a => !g.lit a) = false := by
                  simp only [List.any_eq_false, Bool.not_eq_true, Bool.not_eq_false']
                  intro f hf
                  obtain ⟨j, hj, rfl⟩ := List.getElem_of_mem hf
                  exact hok3 j hj (by omega)
                simp [Aig.good, q1, q2, q3]
              clear bad1 bad2 bad3
              repeat' (first | simp (maxDischargeDepth := 9) -implicitDefEqProofs -dsimp only [go_sem, seval, *] | simp (disch := omega) only [wrap64] | (with_reducible (first | apply Zb | apply Zc | apply Zp | apply Zr) <;> intro hq) | ((with_reducible refine Zu ?_ ?_); focus omega))
              refine fin_eq ?_
              (repeat' (first | simp (maxDischargeDepth := 9) -implicitDefEqProofs -dsimp only [go_sem, seval, *] | simp (disch := omega) only [wrap64])) <;> (repeat' refine And.intro ?_ ?_) <;> (first | omega | rfl | assumption | skip)
end Go.Proofs.Ytapnlmhfacoceaa.A

namespace Go.Proofs.Ytapnlmhfacoceaa.A
open Abs Fil
theorem aig_Levels (g : Aig) (σ : Sig) (hs : Wf g) :
    ACalls Try.prog 61 [encAig g] σ (fun r σ' => r = .ret (.tup [.slice (g.Levels.1.map encInt) .no, .int .i64 g.Levels.2]) ∧ σ' = σ) := by
  refine calls_x mixed Try.func61 b61 n61 rfl q61 (by simp) ?_; unfold c61 r61
  by_cases h0 : g.check = 0
  · have hf := check_fine hs h0
    have hsm := hf.toSmall
    have hc := hf.cnt
    have hlo := hf.lo
    have hgk := gatesOk_iff.1 hf.gok
    have hb : 1 ≤ g.first ∧ g.first + g.ands.length = 1 + g.count := by unfold Aig.first Aig.count; omega
    have hv : g.Levels = (Aig.levs (List.replicate g.first.toNat 0) g.ands, 0) := by simp [Aig.Levels, h0]
    have ez : ((0 : Int) != 0) = false := by decide
    have hle : g.checkL 0 [] = 0 := rfl
    repeat' (first | simp (maxDischargeDepth := 9) -implicitDefEqProofs -dsimp only [go_sem, seval, *] | simp (disch := omega) only [wrap64, tdiv2] | ((with_reducible refine Zv ?_ ?_); focus (first | omega | exact rfl)) | ((with_reducible refine Zu ?_ ?_); focus omega) | ((with_reducible refine Zt (fun oF hoF hnF hnF' => ?_)); (try simp only [upd_none, ne_eq, not_and] at hoF)) | ((with_reducible apply ACalls.one1); (focus ((first | with_reducible refine aig_first _ g 0 _ ?_ hsm | with_reducible refine aig_count _ g 0 _ ?_ hsm | with_reducible refine ACalls.flA (aig_first _ g 0 _ ?_ hsm) ?_ | with_reducible refine ACalls.flA (aig_count _ g 0 _ ?_ hsm) ?_) <;> (first | (simp (maxDischargeDepth := 9) -implicitDefEqProofs -dsimp only [go_sem, seval, *]; done) | omega))); (focus (first | trivial | with_reducible exact rfl | (simp (maxDischargeDepth := 9) -implicitDefEqProofs -dsimp only [go_sem, seval]; done)))) | ((with_reducible apply ACalls.newO); (focus ((first | with_reducible refine aig_begin g [] _ hs ?_ (by simp) | with_reducible refine ACalls.flA (aig_begin g [] _ hs ?_ (by simp)) ?_) <;> (first | (simp (maxDischargeDepth := 9) -implicitDefEqProofs -dsimp only [go_sem, seval, *]; done) | omega))); (intro oF hoF hnF hnF'); (try simp only [upd_none, ne_eq, not_and] at hoF)))
    have hfl := hs.flops
    have hal := hs.ands
    have l0 : (List.replicate g.first.toNat (0 : Int)).length = g.first.toNat := List.length_replicate
    have hr0 : List.replicate g.first.toNat (AV.int .i64 0) = (List.replicate g.first.toNat (0 : Int)).map encInt := by rw [List.map_replicate]
    have hbd : ∀ i, i ≤ g.ands.length → ∀ x ∈ Aig.levs (List.replicate g.first.toNat 0) (g.ands.take i), 0 ≤ x ∧ x ≤ (i : Int) := fun i hi x hx => by
      have := levs_bound (g.ands.take i) (List.replicate g.first.toNat 0) 0 (fun y hy => by simp at hy; omega) (by omega) x hx
      rw [List.length_take] at this
      omega
    refine loop_rule (fun i : Nat => [(31, some (.int .i64 i)), (30, some (.int .i64 g.ands.length)), (29, some (.slice (g.ands.map encGate) .no)), (5, some (.slice ((Aig.levs (List.replicate g.first.toNat 0) (g.ands.take i)).map encInt) (.own oF)))])
      (fun i => upd σ oF (.grow 1 (Aig.levs (List.replicate g.first.toNat 0) (g.ands.take i)).length)) (fun i => i ≤ g.ands.length) (fun i => g.ands.length - i) 0 ?_ ?_
    · (repeat' (first | simp (maxDischargeDepth := 9) -implicitDefEqProofs -dsimp only [go_sem, seval, Aig.levs, l0, *] | simp (disch := omega) only [wrap64, tdiv2])) <;> (repeat' refine And.intro ?_ ?_) <;> (first | omega | rfl | assumption | skip)
    · intro i hi
      by_cases hlt : i < g.ands.length
      · have hg := hgk i hlt
        have st' := levs_step (v := List.replicate g.first.toNat 0) hlt
        have ln := levs_len (v := List.replicate g.first.toNat 0) (l := g.ands) (i := i) (by omega)
        have hbi := hbd i (by omega)
        rw [l0] at ln
        clear hbd hgk
        obtain ⟨v, hv'⟩ : ∃ v, Aig.levs (List.replicate g.first.toNat 0) (g.ands.take i) = v := ⟨_, rfl⟩
        rw [hv'] at ln st' hbi
        have i1 : (g.ands[i].1 / 2).toNat < v.length := by omega
        have i2 : (g.ands[i].2 / 2).toNat < v.length := by omega
        have b1 := hbi _ (List.getElem_mem i1)
        have b2 := hbi _ (List.getElem_mem i2)
        have d1 : v.getD (g.ands[i].1 / 2).toNat 0 = v[(g.ands[i].1 / 2).toNat] := by simp [List.getD, i1]
        have d2 : v.getD (g.ands[i].2 / 2).toNat 0 = v[(g.ands[i].2 / 2).toNat] := by simp [List.getD, i2]
        rw [d1, d2] at st'
        clear hbi d1 d2
        repeat' (first | simp (maxDischargeDepth := 9) -implicitDefEqProofs -dsimp only [go_sem, seval, *] | simp (disch := omega) only [wrap64, tdiv2] | ((with_reducible refine Zv ?_ ?_); focus (first | omega | exact rfl)) | ((with_reducible refine Zu ?_ ?_); focus omega) | ((with_reducible refine Zt (fun oF hoF hnF hnF' => ?_)); (try simp only [upd_none, ne_eq, not_and] at hoF)))
        refine loop_next _ _ _ _ (i + 1) ?_; (repeat' (first | simp (maxDischargeDepth := 9) -implicitDefEqProofs -dsimp only [go_sem, seval, *] | simp (disch := omega) only [wrap64, tdiv2])) <;> (repeat' refine And.intro ?_ ?_) <;> (first | omega | rfl | assumption | skip)
      · repeat' (first | simp (maxDischargeDepth := 9) -implicitDefEqProofs -dsimp only [go_sem, seval, *] | simp (disch := omega) only [wrap64, tdiv2] | ((with_reducible refine Zv ?_ ?_); focus (first | omega | exact rfl)) | ((with_reducible refine Zu ?_ ?_); focus omega) | ((with_reducible refine Zt (fun oF hoF hnF hnF' => ?_)); (try simp only [upd_none, ne_eq, not_and] at hoF)))
        refine fin_eq ?_
        have e0 : g.ands.take i = g.ands := List.take_of_length_le (by omega)
        (repeat' (first | simp (maxDischargeDepth := 9) -implicitDefEqProofs -dsimp only [go_sem, seval, e0, *] | simp (disch := omega) only [wrap64, tdiv2])) <;> (repeat' refine And.intro ?_ ?_) <;> (first | omega | rfl | assumption | skip)
  · have hv : g.Levels = ([], g.check) := by simp [Aig.Levels, h0]
    have hb : (g.check != 0) = true := by simpa using h0
    have hle : g.checkL g.check [] = g.check := rfl
    repeat' (first | simp (maxDischargeDepth := 9) -implicitDefEqProofs -dsimp only [go_sem, seval, *] | simp (disch := omega) only [wrap64, tdiv2] | ((with_reducible refine Zv ?_ ?_); focus (first | omega | exact rfl)) | ((with_reducible refine Zu ?_ ?_); focus omega) | ((with_reducible refine Zt (fun oF hoF hnF hnF' => ?_)); (try simp only [upd_none, ne_eq, not_and] at hoF)) | ((with_reducible apply ACalls.newO); (focus ((first | with_reducible refine aig_begin g [] _ hs ?_ (by simp) | with_reducible refine ACalls.flA (aig_begin g [] _ hs ?_ (by simp)) ?_) <;> (first | (simp (maxDischargeDepth := 9) -implicitDefEqProofs -dsimp only [go_sem, seval, *]; done) | omega))); (intro oF hoF hnF hnF'); (try simp only [upd_none, ne_eq, not_and] at hoF)))
    refine fin_eq ?_
    (repeat' (first | simp (maxDischargeDepth := 9) -implicitDefEqProofs -dsimp only [go_sem, seval, *] | simp (disch := omega) only [wrap64, tdiv2])) <;> (repeat' refine And.intro ?_ ?_) <;> (first | omega | rfl | assumption | skip)
theorem ref_Same (g h : Aig) (σ : Sig) (l1 : g.flops.length ≤ 1000000) (l2 : g.ands.length ≤ 1000000) (l3 : g.outs.length ≤ 1000000) :
    ACalls Try.prog 19 [encAig g, encAig h] σ (fun r σ' => r = .ret (.bool (decide (g = h))) ∧ σ' = σ) := by
  refine calls_x mixed Try.func19 b19 n19 rfl q19 (by simp) ?_; unfold c19 r19
  have ne1 : g.ins ≠ h.ins → decide (g = h) = false := fun hn => by simp; intro e; exact hn (by rw [e])
  have ne2 : g.flops ≠ h.flops → decide (g = h) = false := fun hn => by simp; intro e; exact hn (by rw [e])
  have ne3 : g.ands ≠ h.ands → decide (g = h) = false := fun hn => by simp; intro e; exact hn (by rw [e])
  have ne4 : g.outs ≠ h.outs → decide (g = h) = false := fun hn => by simp; intro e; exact hn (by rw [e])
  by_cases hi : g.ins = h.ins
  · by_cases h1 : g.flops.length = h.flops.length
    · by_cases h2 : g.ands.length = h.ands.length
      · by_cases h3 : g.outs.length = h.outs.length
        · have b0 : (h.ins != h.ins) = false := by simp
          repeat' (first | simp (maxDischargeDepth := 9) -implicitDefEqProofs -dsimp only [go_sem, seval, *] | simp (disch := omega) only [wrap64] | (with_reducible (first | apply Zn | apply Zo) <;> intro hq) | ((with_reducible refine Zu ?_ ?_); focus omega))
          have h1' := And.intro (Nat.le_of_eq h1) (Nat.le_of_eq h1.symm)
          have h2' := And.intro (Nat.le_of_eq h2) (Nat.le_of_eq h2.symm)
          have h3' := And.intro (Nat.le_of_eq h3) (Nat.le_of_eq h3.symm)
          clear h1 h2 h3
          refine loop_rule (fun i : Nat => [(5, some (.int .i64 i)), (2, some (.cptr (aigL g))), (3, some (.cptr (aigL h)))]) (fun _ => σ) (fun i => i ≤ g.flops.length ∧ ∀ j, (hj : j < g.flops.length) → j < i → g.flops[j] = h.flops[j]) (fun i => g.flops.length - i) 0 ?_ ?_
          · (repeat' (first | simp (maxDischargeDepth := 9) -implicitDefEqProofs -dsimp only [go_sem, seval, *] | simp (disch := omega) only [wrap64])) <;> (repeat' refine And.intro ?_ ?_) <;> (first | omega | rfl | assumption | skip)
          · rintro i ⟨hi', hok1⟩
            by_cases hlt : i < g.flops.length
            · have hlt' : i < h.flops.length := by omega
              obtain ⟨x, hx⟩ : ∃ x, g.flops[i] = x := ⟨_, rfl⟩
              obtain ⟨y, hy⟩ : ∃ y, h.flops[i] = y := ⟨_, rfl⟩
              by_cases he : x = y
              · clear ne1 ne2 ne3 ne4
                subst he
                repeat' (first | simp (maxDischargeDepth := 9) -implicitDefEqProofs -dsimp only [go_sem, seval, *] | simp (disch := omega) only [wrap64] | (with_reducible (first | apply Zn | apply Zo) <;> intro hq) | ((with_reducible refine Zu ?_ ?_); focus omega))
                refine loop_next _ _ _ _ (i + 1) ?_; (repeat' (first | simp (maxDischargeDepth := 9) -implicitDefEqProofs -dsimp only [go_sem, seval, *] | simp (disch := omega) only [wrap64])) <;> (repeat' refine And.intro ?_ ?_) <;> (first | omega | rfl | assumption | skip)
                intro j hj hji
                rcases Nat.lt_or_ge j i with h' | h'
                · exact hok1 j hj h'
                · obtain rfl : j = i := by omega
                  rw [hx, hy]
              · have hv := ne2 (fun e => he (by rw [← hx, ← hy]; simp only [e]))
                have hb : ((x.next == y.next) && (x.init == y.init)) = false := by
                  cases x; cases y; simp at he ⊢; exact he
                clear ne1 ne2 ne3 ne4
                repeat' (first | simp (maxDischargeDepth := 9) -implicitDefEqProofs -dsimp only [go_sem, seval, *] | simp (disch := omega) only [wrap64] | (with_reducible (first | apply Zn | apply Zo) <;> intro hq) | ((with_reducible refine Zu ?_ ?_); focus omega))
                refine fin_eq ?_
                (repeat' (first | simp (maxDischargeDepth := 9) -implicitDefEqProofs -dsimp only [go_sem, seval, *] | simp (disch := omega) only [wrap64])) <;> (repeat' refine And.intro ?_ ?_) <;> (first | omega | rfl | assumption | skip)
            · repeat' (first | simp (maxDischargeDepth := 9) -implicitDefEqProofs -dsimp only [go_sem, seval, *] | simp (disch := omega) only [wrap64] | (with_reducible (first | apply Zn | apply Zo) <;> intro hq) | ((with_reducible refine Zu ?_ ?_); focus omega))
              refine loop_rule (fun i : Nat => [(6, some (.int .i64 i)), (2, some (.cptr (aigL g))), (3, some (.cptr (aigL h)))]) (fun _ => σ) (fun i => i ≤ g.ands.length ∧ ∀ j, (hj : j < g.ands.length) → j < i → g.ands[j] = h.ands[j]) (fun i => g.ands.length - i) 0 ?_ ?_
              · (repeat' (first | simp (maxDischargeDepth := 9) -implicitDefEqProofs -dsimp only [go_sem, seval, *] | simp (disch := omega) only [wrap64])) <;> (repeat' refine And.intro ?_ ?_) <;> (first | omega | rfl | assumption | skip)
              · rintro k ⟨hk', hok2⟩
                by_cases hlt2 : k < g.ands.length
                · have hlt' : k < h.ands.length := by omega
                  obtain ⟨x, hx⟩ : ∃ x, g.ands[k] = x := ⟨_, rfl⟩
                  obtain ⟨y, hy⟩ : ∃ y, h.ands[k] = y := ⟨_, rfl⟩
                  by_cases he : x = y
                  · clear ne1 ne2 ne3 ne4
                    subst he
                    repeat' (first | simp (maxDischargeDepth := 9) -implicitDefEqProofs -dsimp only [go_sem, seval, *] | simp (disch := omega) only [wrap64] | (with_reducible (first | apply Zn | apply Zo) <;> intro hq) | ((with_reducible refine Zu ?_ ?_); focus omega))
                    refine loop_next _ _ _ _ (k + 1) ?_; (repeat' (first | simp (maxDischargeDepth := 9) -implicitDefEqProofs -dsimp only [go_sem, seval, *] | simp (disch := omega) only [wrap64])) <;> (repeat' refine And.intro ?_ ?_) <;> (first | omega | rfl | assumption | skip)
                    intro j hj hji
                    rcases Nat.lt_or_ge j k with h' | h'
                    · exact hok2 j hj h'
                    · obtain rfl : j = k := by omega
                      rw [hx, hy]
                  · have hv := ne3 (fun e => he (by rw [← hx, ← hy]; simp only [e]))
                    have hb : ((x.1 == y.1) && (x.2 == y.2)) = false := by
                      cases x; cases y; simp at he ⊢; exact he
                    clear ne1 ne2 ne3 ne4
                    repeat' (first | simp (maxDischargeDepth := 9) -implicitDefEqProofs -dsimp only [go_sem, seval, *] | simp (disch := omega) only [wrap64] | (with_reducible (first | apply Zn | apply Zo) <;> intro hq) | ((with_reducible refine Zu ?_ ?_); focus omega))
                    refine fin_eq ?_
                    (repeat' (first | simp (maxDischargeDepth := 9) -implicitDefEqProofs -dsimp only [go_sem, seval, *] | simp (disch := omega) only [wrap64])) <;> (repeat' refine And.intro ?_ ?_) <;> (first | omega | rfl | assumption | skip)
                · repeat' (first | simp (maxDischargeDepth := 9) -implicitDefEqProofs -dsimp only [go_sem, seval, *] | simp (disch := omega) only [wrap64] | (with_reducible (first | apply Zn | apply Zo) <;> intro hq) | ((with_reducible refine Zu ?_ ?_); focus omega))
                  refine loop_rule (fun i : Nat => [(7, some (.int .i64 i)), (2, some (.cptr (aigL g))), (3, some (.cptr (aigL h)))]) (fun _ => σ) (fun i => i ≤ g.outs.length ∧ ∀ j, (hj : j < g.outs.length) → j < i → g.outs[j] = h.outs[j]) (fun i => g.outs.length - i) 0 ?_ ?_
                  · (repeat' (first | simp (maxDischargeDepth := 9) -implicitDefEqProofs -dsimp only [go_sem, seval, *] | simp (disch := omega) only [wrap64])) <;> (repeat' refine And.intro ?_ ?_) <;> (first | omega | rfl | assumption | skip)
                  · rintro m ⟨hm', hok3⟩
                    by_cases hlt3 : m < g.outs.length
                    · have hlt' : m < h.outs.length := by omega
                      obtain ⟨x, hx⟩ : ∃ x, g.outs[m] = x := ⟨_, rfl⟩
                      obtain ⟨y, hy⟩ : ∃ y, h.outs[m] = y := ⟨_, rfl⟩
                      by_cases he : x = y
                      · clear ne1 ne2 ne3 ne4
                        subst he
                        repeat' (first | simp (maxDischargeDepth := 9) -implicitDefEqProofs -dsimp only [go_sem, seval, *] | simp (disch := omega) only [wrap64] | (with_reducible (first | apply Zn | apply Zo) <;> intro hq) | ((with_reducible refine Zu ?_ ?_); focus omega))
                        refine loop_next _ _ _ _ (m + 1) ?_; (repeat' (first | simp (maxDischargeDepth := 9) -implicitDefEqProofs -dsimp only [go_sem, seval, *] | simp (disch := omega) only [wrap64])) <;> (repeat' refine And.intro ?_ ?_) <;> (first | omega | rfl | assumption | skip)
                        intro j hj hji
                        rcases Nat.lt_or_ge j m with h' | h'
                        · exact hok3 j hj h'
                        · obtain rfl : j = m := by omega
                          rw [hx, hy]
                      · have hv := ne4 (fun e => he (by rw [← hx, ← hy]; simp only [e]))
                        have hb : (x != y) = true := by simpa using he
                        clear ne1 ne2 ne3 ne4
                        repeat' (first | simp (maxDischargeDepth := 9) -implicitDefEqProofs -dsimp only [go_sem, seval, *] | simp (disch := omega) only [wrap64] | (with_reducible (first | apply Zn | apply Zo) <;> intro hq) | ((with_reducible refine Zu ?_ ?_); focus omega))
                        refine fin_eq ?_
                        (repeat' (first | simp (maxDischargeDepth := 9) -implicitDefEqProofs -dsimp only [go_sem, seval, *] | simp (disch := omega) only [wrap64])) <;> (repeat' refine And.intro ?_ ?_) <;> (first | omega | rfl | assumption | skip)
                    · have hv : decide (g = h) = true := by
                        have q1 : g.flops = h.flops := List.ext_getElem (by omega) fun j hj _ => hok1 j hj (by omega)
                        have q2 : g.ands = h.ands := List.ext_getElem (by omega) fun j hj _ => hok2 j hj (by omega)
                        have q3 : g.outs = h.outs := List.ext_getElem (by omega) fun j hj _ => hok3 j hj (by omega)
                        cases g; cases h; simp_all
                      clear ne1 ne2 ne3 ne4
                      repeat' (first | simp (maxDischargeDepth := 9) -implicitDefEqProofs -dsimp only [go_sem, seval, *] | simp (disch := omega) only [wrap64] | (with_reducible (first | apply Zn | apply Zo) <;> intro hq) | ((with_reducible refine Zu ?_ ?_); focus omega))
                      refine fin_eq ?_
                      (repeat' (first | simp (maxDischargeDepth := 9) -implicitDefEqProofs -dsimp only [go_sem, seval, *] | simp (disch := omega) only [wrap64])) <;> (repeat' refine And.intro ?_ ?_) <;> (first | omega | rfl | assumption | skip)
        · have hv := ne4 (fun e => h3 (by rw [e]))
          clear ne1 ne2 ne3 ne4
          repeat' (first | simp (maxDischargeDepth := 9) -implicitDefEqProofs -dsimp only [go_sem, seval, *] | simp (disch := omega) only [wrap64] | (with_reducible (first | apply Zn | apply Zo) <;> intro hq) | ((with_reducible refine Zu ?_ ?_); focus omega))
          all_goals first | (exfalso; omega) | (refine fin_eq ?_; (repeat' (first | simp (maxDischargeDepth := 9) -implicitDefEqProofs -dsimp only [go_sem, seval, *] | simp (disch := omega) only [wrap64])) <;> (repeat' refine And.intro ?_ ?_) <;> (first | omega | rfl | assumption | skip))
      · have hv := ne3 (fun e => h2 (by rw [e]))
        clear ne1 ne2 ne3 ne4
        repeat' (first | simp (maxDischargeDepth := 9) -implicitDefEqProofs -dsimp only [go_sem, seval, *] | simp (disch := omega) only [wrap64] | (with_reducible (first | apply Zn | apply Zo) <;> intro hq) | ((with_reducible refine Zu ?_ ?_); focus omega))
        all_goals first | (exfalso; omega) | (refine fin_eq ?_; (repeat' (first | simp (maxDischargeDepth := 9) -implicitDefEqProofs -dsimp only [go_sem, seval, *] | simp (disch := omega) only [wrap64])) <;> (repeat' refine And.intro ?_ ?_) <;> (first | omega | rfl | assumption | skip))
    · have hv := ne2 (fun e => h1 (by rw [e]))
      clear ne1 ne2 ne3 ne4
      repeat' (first | simp (maxDischargeDepth := 9) -implicitDefEqProofs -dsimp only [go_sem, seval, *] | simp (disch := omega) only [wrap64] | (with_reducible (first | apply Zn | apply Zo) <;> intro hq) | ((with_reducible refine Zu ?_ ?_); focus omega))
      all_goals first | (exfalso; omega) | (refine fin_eq ?_; (repeat' (first | simp (maxDischargeDepth := 9) -implicitDefEqProofs -dsimp only [go_sem, seval, *] | simp (disch := omega) only [wrap64])) <;> (repeat' refine And.intro ?_ ?_) <;> (first | omega | rfl | assumption | skip))
  · have hv := ne1 hi
    clear ne1 ne2 ne3 ne4
    repeat' (first | simp (maxDischargeDepth := 9) -implicitDefEqProofs -dsimp only [go_sem, seval, *] | simp (disch := omega) only [wrap64] | (with_reducible (first | apply Zn | apply Zo) <;> intro hq) | ((with_reducible refine Zu ?_ ?_); focus omega))
    all_goals first | (exfalso; omega) | (refine fin_eq ?_; (repeat' (first | simp (maxDischargeDepth := 9) -implicitDefEqProofs -dsimp only [go_sem, seval, *] | simp (disch := omega) only [wrap64])) <;> (repeat' refine And.intro ?_ ?_) <;> (first | omega | rfl | assumption | skip))
end Go.Proofs.Ytapnlmhfacoceaa.A

namespace Fil.Bd
abbrev T3 := Int × Int × Int
def frk (F : List T3) (n : Int) : T3 := F.getD n.toNat (0, 0, 0)
def top (vars : Int) (F : List T3) (n : Int) : Int := if n < 2 then vars else (frk F n).1
def tab (F : List T3) : Nat → Int → Int → List Bool
  | 0, _, n => [n == 1]
  | k + 1, v, n => if 2 ≤ n ∧ (frk F n).1 = v then tab F k (v + 1) (frk F n).2.1 ++ tab F k (v + 1) (frk F n).2.2 else tab F k (v + 1) n ++ tab F k (v + 1) n
structure Ok (vars : Int) (F : List T3) : Prop where
  two : 2 ≤ F.length
  lo : 0 ≤ vars
  var : ∀ i : Int, 2 ≤ i → i < F.length → 0 ≤ (frk F i).1 ∧ (frk F i).1 < vars
  ne : ∀ i : Int, 2 ≤ i → i < F.length → (frk F i).2.1 ≠ (frk F i).2.2
  low : ∀ i : Int, 2 ≤ i → i < F.length → 0 ≤ (frk F i).2.1 ∧ (frk F i).2.1 < i ∧ (frk F i).1 < top vars F (frk F i).2.1
  high : ∀ i : Int, 2 ≤ i → i < F.length → 0 ≤ (frk F i).2.2 ∧ (frk F i).2.2 < i ∧ (frk F i).1 < top vars F (frk F i).2.2
  uniq : ∀ i j : Int, 2 ≤ i → i < F.length → 2 ≤ j → j < F.length → frk F i = frk F j → i = j
def In (vars : Int) (F : List T3) (v n : Int) : Prop := 0 ≤ n ∧ n < F.length ∧ v ≤ top vars F n
theorem tab_len (F : List T3) : ∀ k v n, (tab F k v n).length = 2 ^ k
  | 0, v, n => rfl
  | k + 1, v, n => by
    simp only [tab]
    split <;> simp [tab_len F k] <;> omega
theorem tab_at {F : List T3} {k v n} (h : 2 ≤ n ∧ (frk F n).1 = v) : tab F (k + 1) v n = tab F k (v + 1) (frk F n).2.1 ++ tab F k (v + 1) (frk F n).2.2 := by rw [tab, if_pos h]
theorem tab_up {F : List T3} {k v n} (h : ¬ (2 ≤ n ∧ (frk F n).1 = v)) : tab F (k + 1) v n = tab F k (v + 1) n ++ tab F k (v + 1) n := by rw [tab, if_neg h]
theorem In.up {vars F v n} (h : In vars F v n) (ho : Ok vars F) {k : Nat} (hv : v + (k + 1 : Nat) = vars) (hn : ¬ (2 ≤ n ∧ (frk F n).1 = v)) : In vars F (v + 1) n := by
  obtain ⟨h1, h2, h3⟩ := h
  refine ⟨h1, h2, ?_⟩
  unfold top at h3 ⊢
  split
  · omega
  · rename_i h4
    rw [if_neg h4] at h3
    have : (frk F n).1 ≠ v := fun e => hn ⟨by omega, e⟩
    omega
theorem In.lo {vars F v n} (h : In vars F v n) (ho : Ok vars F) (hn : 2 ≤ n ∧ (frk F n).1 = v) : In vars F (v + 1) (frk F n).2.1 := by
  obtain ⟨h1, h2, h3⟩ := h
  obtain ⟨a, b, c⟩ := ho.low n hn.1 h2
  exact ⟨a, by omega, by omega⟩
theorem In.hi {vars F v n} (h : In vars F v n) (ho : Ok vars F) (hn : 2 ≤ n ∧ (frk F n).1 = v) : In vars F (v + 1) (frk F n).2.2 := by
  obtain ⟨h1, h2, h3⟩ := h
  obtain ⟨a, b, c⟩ := ho.high n hn.1 h2
  exact ⟨a, by omega, by omega⟩
theorem In.end {vars F n} (h : In vars F vars n) (ho : Ok vars F) : n = 0 ∨ n = 1 := by
  obtain ⟨h1, h2, h3⟩ := h
  unfold top at h3
  split at h3
  · omega
  · have := (ho.var n (by omega) h2).2
    omega
theorem canon {vars F} (ho : Ok vars F) : ∀ (k : Nat) (v n m : Int), v + k = vars → In vars F v n → In vars F v m → tab F k v n = tab F k v m → n = m
  | 0, v, n, m, hv, hn, hm, h => by
    have e : v = vars := by omega
    subst e
    rcases hn.end ho with rfl | rfl <;> rcases hm.end ho with rfl | rfl <;> first | rfl | (exfalso; revert h; simp [tab])
  | k + 1, v, n, m, hv, hn, hm, h => by
    have ih := canon ho k (v + 1)
    have hl : ∀ a b, (tab F k (v + 1) a).length = (tab F k (v + 1) b).length := fun a b => by rw [tab_len, tab_len]
    by_cases c1 : 2 ≤ n ∧ (frk F n).1 = v <;> by_cases c2 : 2 ≤ m ∧ (frk F m).1 = v
    · rw [tab_at c1, tab_at c2] at h
      obtain ⟨e1, e2⟩ := List.append_inj h (hl _ _)
      have q1 := ih _ _ (by omega) (hn.lo ho c1) (hm.lo ho c2) e1
      have q2 := ih _ _ (by omega) (hn.hi ho c1) (hm.hi ho c2) e2
      refine ho.uniq n m c1.1 hn.2.1 c2.1 hm.2.1 ?_
      exact Prod.ext (c1.2.trans c2.2.symm) (Prod.ext q1 q2)
    · rw [tab_at c1, tab_up c2] at h
      obtain ⟨e1, e2⟩ := List.append_inj h (hl _ _)
      have q1 := ih _ _ (by omega) (hn.lo ho c1) (hm.up ho hv c2) e1
      have q2 := ih _ _ (by omega) (hn.hi ho c1) (hm.up ho hv c2) e2
      exact absurd (q1.trans q2.symm) (ho.ne n c1.1 hn.2.1)
    · rw [tab_up c1, tab_at c2] at h
      obtain ⟨e1, e2⟩ := List.append_inj h (hl _ _)
      have q1 := ih _ _ (by omega) (hn.up ho hv c1) (hm.lo ho c2) e1
      have q2 := ih _ _ (by omega) (hn.up ho hv c1) (hm.hi ho c2) e2
      exact absurd (q1.symm.trans q2) (ho.ne m c2.1 hm.2.1)
    · rw [tab_up c1, tab_up c2] at h
      obtain ⟨e1, e2⟩ := List.append_inj h (hl _ _)
      exact ih _ _ (by omega) (hn.up ho hv c1) (hm.up ho hv c2) e1

/-! ### What is there stays -/
theorem frk_app {F l : List T3} {n : Int} (h0 : 0 ≤ n) (h : n < F.length) : frk (F ++ l) n = frk F n := by
  unfold frk
  rw [List.getD_eq_getElem?_getD, List.getD_eq_getElem?_getD, List.getElem?_append_left (by omega)]
theorem top_app {vars} {F l : List T3} {n : Int} (h : n < F.length) : top vars (F ++ l) n = top vars F n := by
  unfold top
  split
  · rfl
  · rw [frk_app (by omega) h]
theorem In.app {vars F v n} (l : List T3) (h : In vars F v n) : In vars (F ++ l) v n :=
  ⟨h.1, by have := h.2.1; simp; omega, by rw [top_app h.2.1]; exact h.2.2⟩
theorem tab_app {vars F} (ho : Ok vars F) (l : List T3) : ∀ (k : Nat) (v n : Int), 0 ≤ n → n < F.length → tab (F ++ l) k v n = tab F k v n
  | 0, v, n, _, _ => rfl
  | k + 1, v, n, h0, h => by
    simp only [tab, frk_app h0 h]
    split
    · rename_i c
      obtain ⟨a, b, _⟩ := ho.low n c.1 h
      obtain ⟨a', b', _⟩ := ho.high n c.1 h
      rw [tab_app ho l k _ _ a (by omega), tab_app ho l k _ _ a' (by omega)]
    · rw [tab_app ho l k _ _ h0 h]

/-! ### What is put -/
def fnd : List T3 → T3 → Int → Option Int
  | [], _, _ => none
  | y :: r, x, i => if y = x then some i else fnd r x (i + 1)
theorem fnd_some : ∀ {l : List T3} {x : T3} {i n : Int}, fnd l x i = some n → i ≤ n ∧ n < i + l.length ∧ l.getD (n - i).toNat (0, 0, 0) = x
  | [], x, i, n, h => by simp [fnd] at h
  | y :: r, x, i, n, h => by
    simp only [fnd] at h
    split at h
    · rename_i e
      simp at h; subst h
      simp [e]; omega
    · obtain ⟨a, b, c⟩ := fnd_some h
      refine ⟨by omega, by simp; omega, ?_⟩
      have : (n - i).toNat = (n - (i + 1)).toNat + 1 := by omega
      rw [this]; simpa using c
theorem fnd_none : ∀ {l : List T3} {x : T3} {i : Int}, fnd l x i = none → ∀ j : Nat, j < l.length → l.getD j (0, 0, 0) ≠ x
  | [], x, i, h, j, hj => by simp at hj
  | y :: r, x, i, h, j, hj => by
    simp only [fnd] at h
    split at h
    · simp at h
    · rename_i e
      cases j with
      | zero => simpa using e
      | succ j => simpa using fnd_none h j (by simpa using hj)
def find (F : List T3) (x : T3) : Option Int := fnd (F.drop 2) x 2
theorem getD_drop (F : List T3) (i : Nat) : (F.drop 2).getD i (0, 0, 0) = F.getD (2 + i) (0, 0, 0) := by
  simp [List.getD_eq_getElem?_getD]
theorem find_some {F x n} (h : find F x = some n) : 2 ≤ n ∧ n < F.length ∧ frk F n = x := by
  obtain ⟨a, b, c⟩ := fnd_some h
  rw [getD_drop] at c
  simp only [List.length_drop] at b
  refine ⟨a, by omega, ?_⟩
  unfold frk
  rw [← c]; congr 1; omega
theorem find_none {F x} (h : find F x = none) (n : Int) (h2 : 2 ≤ n) (hn : n < F.length) : frk F n ≠ x := by
  have := fnd_none h (n.toNat - 2) (by simp; omega)
  rw [getD_drop] at this
  unfold frk
  rwa [show 2 + (n.toNat - 2) = n.toNat by omega] at this
theorem find_eq {vars F} (ho : Ok vars F) {n : Int} (h2 : 2 ≤ n) (hn : n < F.length) {x} (hx : frk F n = x) : find F x = some n := by
  cases h : find F x with
  | none => exact absurd hx (find_none h n h2 hn)
  | some m =>
    obtain ⟨a, b, c⟩ := find_some h
    rw [ho.uniq n m h2 hn a b (hx.trans c.symm)]
def put : Nat → List T3 → Int → List Bool → List T3 × Int
  | 0, F, _, t => (F, if t.headD false then 1 else 0)
  | k + 1, F, v, t =>
    if t.take (2 ^ k) = t.drop (2 ^ k) then put k F (v + 1) (t.take (2 ^ k))
    else
      let a := put k F (v + 1) (t.take (2 ^ k))
      let b := put k a.1 (v + 1) (t.drop (2 ^ k))
      match find b.1 (v, a.2, b.2) with
      | some i => (b.1, i)
      | none => (b.1 ++ [(v, a.2, b.2)], b.1.length)
theorem put_same {k F v t} (h : t.length = 2 ^ k) : put (k + 1) F v (t ++ t) = put k F (v + 1) t := by
  simp only [put]
  rw [List.take_left' h, List.drop_left' h, if_pos rfl]
theorem put_two {k F v s t} (h : s.length = 2 ^ k) (hne : s ≠ t) : put (k + 1) F v (s ++ t) =
    (match find (put k (put k F (v + 1) s).1 (v + 1) t).1 (v, (put k F (v + 1) s).2, (put k (put k F (v + 1) s).1 (v + 1) t).2) with
      | some i => ((put k (put k F (v + 1) s).1 (v + 1) t).1, i)
      | none => ((put k (put k F (v + 1) s).1 (v + 1) t).1 ++ [(v, (put k F (v + 1) s).2, (put k (put k F (v + 1) s).1 (v + 1) t).2)], ((put k (put k F (v + 1) s).1 (v + 1) t).1.length : Int))) := by
  simp only [put]
  rw [List.take_left' h, List.drop_left' h, if_neg hne]
theorem put_present {vars F} (ho : Ok vars F) : ∀ (k : Nat) (v n : Int), v + k = vars → In vars F v n → put k F v (tab F k v n) = (F, n)
  | 0, v, n, hv, hn => by
    have e : v = vars := by omega
    subst e
    rcases hn.end ho with rfl | rfl <;> simp [put, tab]
  | k + 1, v, n, hv, hn => by
    by_cases c : 2 ≤ n ∧ (frk F n).1 = v
    · rw [tab_at c, put_two (tab_len ..)]
      · have h1 := put_present ho k (v + 1) _ (by omega) (hn.lo ho c)
        have h2 := put_present ho k (v + 1) _ (by omega) (hn.hi ho c)
        simp only [h1, h2]
        rw [find_eq ho c.1 hn.2.1 (x := (v, (frk F n).2.1, (frk F n).2.2)) (by rw [← c.2])]
      · intro e
        exact ho.ne n c.1 hn.2.1 (canon ho k (v + 1) _ _ (by omega) (hn.lo ho c) (hn.hi ho c) e)
    · rw [tab_up c, put_same (tab_len ..)]
      exact put_present ho k (v + 1) n (by omega) (hn.up ho hv c)
end Fil.Bd

namespace Fil.Bd
def get3 : List (T3 × Int) → T3 → Option Int
  | [], _ => none
  | p :: r, k => if p.1 = k then some p.2 else get3 r k
def set3 : List (T3 × Int) → T3 → Int → List (T3 × Int)
  | [], k, v => [(k, v)]
  | p :: r, k, v => if p.1 = k then (k, v) :: r else p :: set3 r k v
def get1 : List (Int × Int) → Int → Option Int
  | [], _ => none
  | p :: r, k => if p.1 = k then some p.2 else get1 r k
structure Mac where
  forks : List T3
  at_ : List (T3 × Int)
  done : List (T3 × Int)
def tops (vars : Int) (F : List T3) (f g h : Int) : Int := min (top vars F f) (min (top vars F g) (top vars F h))
def iteT : List Bool → List Bool → List Bool → List Bool
  | x :: a, y :: b, z :: c => (if x then y else z) :: iteT a b c
  | _, _, _ => []
def exT : Nat → Nat → List Bool → List Bool
  | 0, _, t => t
  | k + 1, 0, t => iteT (t.take (2 ^ k)) (List.replicate (2 ^ k) true) (t.drop (2 ^ k)) ++ iteT (t.take (2 ^ k)) (List.replicate (2 ^ k) true) (t.drop (2 ^ k))
  | k + 1, d + 1, t => exT k d (t.take (2 ^ k)) ++ exT k d (t.drop (2 ^ k))
def DoneOk (vars : Int) (F : List T3) (key : T3) (n : Int) : Prop :=
  (0 ≤ key.2.2 → (0 ≤ key.1 ∧ key.1 < F.length) ∧ (0 ≤ key.2.1 ∧ key.2.1 < F.length) ∧ (0 ≤ key.2.2 ∧ key.2.2 < F.length) ∧
    ∀ k : Nat, tops vars F key.1 key.2.1 key.2.2 + k = vars → In vars F (tops vars F key.1 key.2.1 key.2.2) n ∧
      tab F k (tops vars F key.1 key.2.1 key.2.2) n = iteT (tab F k (tops vars F key.1 key.2.1 key.2.2) key.1) (tab F k (tops vars F key.1 key.2.1 key.2.2) key.2.1) (tab F k (tops vars F key.1 key.2.1 key.2.2) key.2.2)) ∧
  (key.2.2 < 0 → (0 ≤ key.1 ∧ key.1 < F.length) ∧ ∀ k : Nat, top vars F key.1 + k = vars → In vars F (top vars F key.1) n ∧ tab F k (top vars F key.1) n = exT k (key.2.1 - top vars F key.1).toNat (tab F k (top vars F key.1) key.1))
structure MOk (vars : Int) (s : Mac) : Prop where
  ok : Ok vars s.forks
  at1 : ∀ x n, get3 s.at_ x = some n → 2 ≤ n ∧ n < s.forks.length ∧ frk s.forks n = x
  at2 : ∀ n : Int, 2 ≤ n → n < s.forks.length → get3 s.at_ (frk s.forks n) = some n
def Kept (P : List T3 → T3 → Int → Prop) (s : Mac) : Prop := ∀ k n, get3 s.done k = some n → P s.forks k n
theorem DoneOk.app {vars F key n} (ho : Ok vars F) (l : List T3) (h : DoneOk vars F key n) : DoneOk vars (F ++ l) key n := by
  refine ⟨fun hk => ?_, fun hk => ?_⟩
  rotate_left
  · obtain ⟨h1, h2⟩ := h.2 hk
    rw [top_app h1.2]
    refine ⟨⟨h1.1, by simp; omega⟩, fun k hv => ?_⟩
    obtain ⟨q1, q2⟩ := h2 k hv
    exact ⟨q1.app l, by rw [tab_app ho _ _ _ _ q1.1 q1.2.1, tab_app ho _ _ _ _ h1.1 h1.2, q2]⟩
  obtain ⟨h1, h2, h3, h4⟩ := h.1 hk
  have et : tops vars (F ++ l) key.1 key.2.1 key.2.2 = tops vars F key.1 key.2.1 key.2.2 := by unfold tops; rw [top_app h1.2, top_app h2.2, top_app h3.2]
  rw [et]
  refine ⟨⟨h1.1, by simp; omega⟩, ⟨h2.1, by simp; omega⟩, ⟨h3.1, by simp; omega⟩, fun k hv => ?_⟩
  obtain ⟨q1, q2⟩ := h4 k hv
  exact ⟨q1.app l, by rw [tab_app ho _ _ _ _ q1.1 q1.2.1, tab_app ho _ _ _ _ h1.1 h1.2, tab_app ho _ _ _ _ h2.1 h2.2, tab_app ho _ _ _ _ h3.1 h3.2, q2]⟩
structure Made (vars : Int) (s : Mac) (k : Nat) (v : Int) (t : List Bool) (r : Mac × Int) : Prop where
  ok : MOk vars r.1
  kept : Kept (DoneOk vars) r.1
  put : (r.1.forks, r.2) = put k s.forks v t
theorem Made.same {vars s k v t n} (h : MOk vars s) (hk : Kept (DoneOk vars) s) (hv : v + (k : Nat) = vars) (hn : In vars s.forks v n) (ht : tab s.forks k v n = t) : Made vars s k v t (s, n) :=
  ⟨h, hk, by rw [← ht, put_present h.ok k v n hv hn]⟩
end Fil.Bd

namespace Fil.Bd
def Seen (vars : Int) (from_ F : List T3) (seen : List (Int × Int)) : Prop := ∀ n a, get1 seen n = some a → (2 ≤ n ∧ n < from_.length) ∧ In vars F (top vars from_ n) a ∧ ∀ k : Nat, top vars from_ n + k = vars → tab F k (top vars from_ n) a = tab from_ k (top vars from_ n) n
theorem Seen.app {vars : Int} {G F : List T3} {seen} (h : Seen vars G F seen) (ho : Ok vars F) (l : List T3) : Seen vars G (F ++ l) seen := fun n a e => by
  obtain ⟨h1, h2, h3⟩ := h n a e
  exact ⟨h1, h2.app l, fun k hk => by rw [tab_app ho _ _ _ _ h2.1 h2.2.1, h3 k hk]⟩
end Fil.Bd

namespace Fil.Bd
def und (F : List T3) (n v i : Int) : Bool := decide (0 ≤ n ∧ n < i ∧ (n < 2 ∨ v < (frk F n).1))
def atL (F : List T3) : Nat → List (T3 × Int)
  | 0 => []
  | j + 1 => set3 (atL F j) (frk F (j + 2)) (j + 2)
def bad (vars : Int) (F : List T3) (j : Nat) : Bool :=
  (get3 (atL F j) (frk F (j + 2))).isSome || decide ((frk F (j + 2)).1 < 0) || decide (vars ≤ (frk F (j + 2)).1) || decide ((frk F (j + 2)).2.1 = (frk F (j + 2)).2.2) ||
    !und F (frk F (j + 2)).2.1 (frk F (j + 2)).1 (j + 2) || !und F (frk F (j + 2)).2.2 (frk F (j + 2)).1 (j + 2)
def head (vars : Int) (F : List T3) : Bool := decide (vars < 0) || decide (32 < vars) || decide (F.length < 2) || decide (frk F 0 ≠ (-1, 0, 0)) || decide (frk F 1 ≠ (-1, 0, 0))
def chk (vars : Int) (F : List T3) : Int :=
  if 65536 < F.length then 220 else if head vars F = true then 1 else if (List.range (F.length - 2)).any (bad vars F) = true then 1 else 0
structure Fine (vars : Int) (F : List T3) : Prop extends Ok vars F where
  few : vars ≤ 32
  all : F.length ≤ 65536
  end0 : frk F 0 = (-1, 0, 0)
  end1 : frk F 1 = (-1, 0, 0)
end Fil.Bd

namespace Fil.Bd
def outside (F : List T3) (n : Int) : Bool := decide (n < 0) || decide ((F.length : Int) ≤ n)
abbrev D := Int × List T3
def T (b : D) (f : Int) : List Bool := tab b.2 b.1.toNat 0 f
def askE (b : D) (l : List Int) (no : Bool) : Int := if chk b.1 b.2 ≠ 0 then chk b.1 b.2 else if (l.any (outside b.2) || no) = true then 1 else 0
def opW (b : D) (e : Int) (t : List Bool) : D × Int × Int := if e ≠ 0 then ((0, []), 0, e) else ((b.1, (put b.1.toNat b.2 0 t).1), (put b.1.toNat b.2 0 t).2, 0)
def iteW (b : D) (f g h : Int) : D × Int × Int := opW b (askE b [f, g, h] false) (iteT (T b f) (T b g) (T b h))
def notW (b : D) (f : Int) : D × Int × Int := iteW b f 0 1
def off (b : D) (n : Int) : Bool := decide (n < 0) || decide (b.1 ≤ n)
def varT : Nat → Nat → List Bool
  | 0, _ => []
  | k + 1, 0 => List.replicate (2 ^ k) false ++ List.replicate (2 ^ k) true
  | k + 1, d + 1 => varT k d ++ varT k d
def varW (b : D) (n : Int) : D × Int × Int := opW b (askE b [] (off b n)) (varT b.1.toNat n.toNat)
end Fil.Bd

namespace Fil.Bd
def one1 (F : List T3) : Nat → Int → List Bool → List Bool
  | 0, _, l => l
  | k + 1, n, l => if n < 2 then l else if (frk F n).2.1 = 0 then one1 F k (frk F n).2.2 (l.set (frk F n).1.toNat true) else one1 F k (frk F n).2.1 l
end Fil.Bd

namespace Fil.Bd
def cnt (t : List Bool) : Int := ((t.count true : Nat) : Int)
end Fil.Bd

namespace Fil.Bd
def lookT : List Bool → List Bool → Bool
  | t, [] => t.headD false
  | t, x :: w => lookT (if x then t.drop (2 ^ w.length) else t.take (2 ^ w.length)) w
end Fil.Bd

namespace Fil.Bd
def bit (i k : Nat) : Bool := (i / 2 ^ k % 2 == 1)
def row (k i : Nat) : List Bool := (List.range k).map fun j => bit i (k - 1 - j)
def findI (F : List T3) (x : T3) : Int := (find F x).getD (-1)
theorem put_2 {k : Nat} {F : List T3} {v : Int} {t : List Bool} (hs : t.take (2 ^ k) ≠ t.drop (2 ^ k)) {C G : List T3} {lo hi : Int} (h1 : put k F (v + 1) (t.take (2 ^ k)) = (C, lo)) (h2 : put k C (v + 1) (t.drop (2 ^ k)) = (G, hi)) :
    (0 ≤ findI G (v, lo, hi) ∧ put (k + 1) F v t = (G, findI G (v, lo, hi))) ∨ (findI G (v, lo, hi) = -1 ∧ put (k + 1) F v t = (G ++ [(v, lo, hi)], (G.length : Int))) := by
  simp only [put, if_neg hs, h1, h2]
  unfold findI
  cases hf : find G (v, lo, hi) with
  | some i =>
    have := (find_some hf).1
    exact .inl ⟨by show 0 ≤ i; omega, rfl⟩
  | none => exact .inr ⟨rfl, rfl⟩
end Fil.Bd

namespace Fil.Bd
theorem T_app {vars : Int} {F l : List T3} (ho : Ok vars F) {f : Int} (i : In vars F 0 f) : T (vars, F ++ l) f = T (vars, F) f := tab_app ho l _ _ _ i.1 i.2.1
end Fil.Bd

namespace Fil.Bd
theorem len_le_of_nodup {α : Type} [DecidableEq α] : ∀ (l m : List α), l.Nodup → (∀ x ∈ l, x ∈ m) → l.length ≤ m.length
  | [], m, _, _ => by simp
  | x :: l, m, h, hs => by
    have hx : x ∈ m := hs x (by simp)
    have hn := List.nodup_cons.1 h
    have := len_le_of_nodup l (m.erase x) hn.2 fun y hy => by
      have hne : y ≠ x := fun e => hn.1 (e ▸ hy)
      exact (List.mem_erase_of_ne hne).2 (hs y (by simp [hy]))
    rw [List.length_erase_of_mem hx] at this
    have hp := List.length_pos_of_mem hx
    simp only [List.length_cons]; omega
def allT : Nat → List (List Bool)
  | 0 => [[]]
  | n + 1 => (allT n).flatMap fun t => [false :: t, true :: t]
theorem allT_mem : ∀ (t : List Bool), t ∈ allT t.length
  | [] => by simp [allT]
  | x :: t => by
    simp only [List.length_cons, allT, List.mem_flatMap]
    exact ⟨t, allT_mem t, by cases x <;> simp⟩
theorem allT_len : ∀ n, (allT n).length = 2 ^ n
  | 0 => rfl
  | n + 1 => by
    have : ∀ l : List (List Bool), (l.flatMap fun t => [false :: t, true :: t]).length = 2 * l.length := fun l => by
      induction l with
      | nil => rfl
      | cons x l ih => simp only [List.flatMap_cons, List.length_append, List.length_cons, List.length_nil, ih]; omega
    rw [allT, this, allT_len n, Nat.pow_succ]; omega
def lowK (k : Nat) : List (Nat × List Bool) := (List.range k).flatMap fun j => (allT (2 ^ (j + 1))).map fun t => (j, t)
def isLow (vars : Int) (k : Nat) (F : List T3) (i : Nat) : Bool := decide (2 ≤ i) && decide (vars ≤ (frk F i).1 + k)
def isUp (vars : Int) (k : Nat) (F : List T3) (i : Nat) : Bool := decide (2 ≤ i) && !decide (vars ≤ (frk F i).1 + k)
theorem low_count {vars : Int} {F : List T3} (ho : Ok vars F) (k : Nat) : ((List.range F.length).filter (isLow vars k F)).length ≤ (lowK k).length := by
  have key : ((List.range F.length).filter (isLow vars k F)).length = (((List.range F.length).filter (isLow vars k F)).map fun i : Nat => ((vars - (frk F i).1).toNat - 1, tab F (vars - (frk F i).1).toNat (frk F i).1 i)).length := by simp
  rw [key]
  have hmem : ∀ i, i ∈ (List.range F.length).filter (isLow vars k F) → i < F.length ∧ 2 ≤ i ∧ vars ≤ (frk F i).1 + k := fun i h => by
    simp only [List.mem_filter, List.mem_range, isLow, Bool.and_eq_true, decide_eq_true_eq] at h
    exact ⟨h.1, h.2.1, h.2.2⟩
  refine len_le_of_nodup _ _ ?_ ?_
  · have hnd : ((List.range F.length).filter (isLow vars k F)).Nodup := List.nodup_range.filter _
    refine List.pairwise_map.2 (hnd.imp_of_mem ?_)
    intro i j hi hj hne he
    obtain ⟨i1, i2, i3⟩ := hmem i hi
    obtain ⟨j1, j2, j3⟩ := hmem j hj
    have vi := ho.var i (by omega) (by omega)
    have vj := ho.var j (by omega) (by omega)
    simp only [Prod.mk.injEq] at he
    have hv : (frk F i).1 = (frk F j).1 := by omega
    rw [hv] at he
    apply hne
    have := canon ho (vars - (frk F j).1).toNat (frk F j).1 i j (by omega) ⟨by omega, by omega, by unfold top; rw [if_neg (by omega)]; omega⟩ ⟨by omega, by omega, by unfold top; rw [if_neg (by omega)]; omega⟩ he.2
    omega
  · intro x hx
    simp only [List.mem_map] at hx
    obtain ⟨i, hi, rfl⟩ := hx
    obtain ⟨i1, i2, i3⟩ := hmem i hi
    have vi := ho.var i (by omega) (by omega)
    simp only [lowK, List.mem_flatMap, List.mem_range, List.mem_map]
    refine ⟨(vars - (frk F i).1).toNat - 1, by omega, _, ?_, rfl⟩
    have hl := tab_len F (vars - (frk F i).1).toNat (frk F i).1 i
    have := allT_mem (tab F (vars - (frk F i).1).toNat (frk F i).1 i)
    rw [hl] at this
    rwa [show (vars - (frk F i).1).toNat - 1 + 1 = (vars - (frk F i).1).toNat by omega]
def ups (vars : Int) (k : Nat) (F : List T3) : Nat := ((List.range F.length).filter (isUp vars k F)).length
theorem len_ups {vars : Int} {F : List T3} (ho : Ok vars F) (k : Nat) : F.length ≤ 2 + ups vars k F + (lowK k).length := by
  have h1 := low_count ho k
  have h2 : F.length = ((List.range F.length).filter fun i => decide (i < 2)).length + ups vars k F + ((List.range F.length).filter (isLow vars k F)).length := by
    have : ∀ l : List Nat, l.length = (l.filter fun i => decide (i < 2)).length + (l.filter (isUp vars k F)).length + (l.filter (isLow vars k F)).length := fun l => by
      induction l with
      | nil => rfl
      | cons x l ih =>
        have hc : (isUp vars k F x = true ∧ isLow vars k F x = false ∧ ¬ x < 2) ∨ (isUp vars k F x = false ∧ isLow vars k F x = true ∧ ¬ x < 2) ∨ (isUp vars k F x = false ∧ isLow vars k F x = false ∧ x < 2) := by
          unfold isUp isLow
          by_cases a : 2 ≤ x <;> by_cases b : vars ≤ (frk F x).1 + k <;> simp [a, b] <;> omega
        simp only [List.filter_cons, List.length_cons]
        rcases hc with ⟨a, b, c⟩ | ⟨a, b, c⟩ | ⟨a, b, c⟩ <;> simp [a, b, c] <;> omega
    have := this (List.range F.length)
    simpa [ups] using this
  have h3 : ((List.range F.length).filter fun i => decide (i < 2)).length ≤ 2 := by
    have := len_le_of_nodup ((List.range F.length).filter fun i => decide (i < 2)) [0, 1] (List.nodup_range.filter _) fun x hx => by
      simp only [List.mem_filter, decide_eq_true_eq] at hx
      have := hx.2
      simp; omega
    simpa using this
  omega
theorem low3 : (lowK 3).length = 276 := by
  simp only [lowK, List.length_flatMap, List.length_map, allT_len]
  rfl
end Fil.Bd

namespace Fil
open Abs
section
variable {g : Aig} {a b : Int}
theorem checkL_two (hc : g.check = 0) (ha : g.lit a = true) (hb : g.lit b = true) : g.checkL g.check [a, b] = 0 := checkL_zero.2 ⟨hc, by simp [ha, hb]⟩
end
end Fil

namespace Fil
open Abs
def Res (g : Aig) (n : Nat) (l : List Int) (r : Aig × Int × Int) : Prop :=
  (r.2.2 = 0 ∧ g.check = 0 ∧ (∀ a ∈ l, g.lit a = true) ∧ Fine r.1 ∧ Ext g r.1 ∧ r.1.lit r.2.1 = true ∧ r.1.ands.length ≤ g.ands.length + n) ∨ (r.2.2 ≠ 0 ∧ r.1 = ⟨0, [], [], []⟩ ∧ r.2.1 = 0)
theorem andO_len {g g' : Aig} {p q x : Int} (h : g.andO p q = some (g', x)) : g'.ands.length ≤ g.ands.length + 1 := by
  unfold Aig.andO at h
  simp only at h
  split at h
  · simp at h; obtain ⟨rfl, _⟩ := h; omega
  · split at h
    · simp at h; obtain ⟨rfl, _⟩ := h; omega
    · split at h
      · simp at h; obtain ⟨rfl, _⟩ := h; omega
      · split at h
        · simp at h
        · simp at h; obtain ⟨rfl, _⟩ := h; simp
theorem andW_len (g : Aig) (e p q : Int) : (g.andW e p q).1.ands.length ≤ g.ands.length + 1 := by
  unfold Aig.andW
  split
  · simp
  · cases h : g.andO p q with
    | none => simp
    | some r => exact andO_len h
theorem and_res {g : Aig} (hs : Wf g) (a b : Int) : Res g 1 [a, b] (g.And a b) := by
  unfold Aig.And
  have hk : g.checkL g.check [a, b] = 0 → Fine g ∧ g.lit a = true ∧ g.lit b = true := fun h => by
    obtain ⟨h1, h2⟩ := checkL_fine hs h
    exact ⟨h1, h2 _ (by simp), h2 _ (by simp)⟩
  have ok := andW_ok hk
  by_cases h : (g.andW (g.checkL g.check [a, b]) a b).2.1 = 0
  · left
    rw [endW_ok h]
    have h0 := andW_err h
    obtain ⟨k1, k2⟩ := hk h0
    exact ⟨rfl, (checkL_zero.1 h0).1, (checkL_zero.1 h0).2, (ok.1 h).1, ok.2.1, (ok.1 h).2, andW_len _ _ _ _⟩
  · right
    rw [endW_err h]
    exact ⟨h, rfl, rfl⟩
theorem zero_wf : Wf ⟨0, [], [], []⟩ := ⟨by simp [I64], by simp, by simp, by simp, by simp, by simp, by simp⟩
theorem Res.wf {g : Aig} {n : Nat} {l : List Int} {r : Aig × Int × Int} (h : Res g n l r) : Wf r.1 ∧ I64 r.2.1 := by
  rcases h with ⟨_, _, _, h, _, hl, _⟩ | ⟨_, h, h'⟩
  · have := litN_iff.1 hl
    have := h.cnt
    exact ⟨h.toWf, by omega, by omega⟩
  · rw [h, h']; exact ⟨zero_wf, by simp [I64]⟩
end Fil

namespace Fil
open Abs
theorem ext_check {g h : Aig} (hs : Wf g) (hc : g.check = 0) (hx : Ext g h) (hf : Fine h) : h.check = 0 := by
  have hcn := hf.cnt
  have hlo := hf.lo
  unfold Aig.check at hc ⊢
  split at hc
  · simp at hc
  · split at hc
    · simp at hc
    · split at hc
      · rename_i h1 h2 h3
        rw [if_neg (by omega), if_neg (by rw [hx.ins, hx.outs]; omega), if_pos]
        simp only [Aig.good, Bool.and_eq_true, Bool.not_eq_true', List.any_eq_false, Bool.not_eq_true, Bool.not_eq_false'] at h3 ⊢
        refine ⟨⟨hf.gok, fun f hm => ?_⟩, fun a hm => ?_⟩
        · rw [hx.flops] at hm; exact fun hn => by have := hx.lit (by simpa using h3.1.2 f hm : g.lit f.next = true); rw [hn] at this; simp at this
        · rw [hx.outs] at hm; exact fun hn => by have := hx.lit (by simpa using h3.2 a hm : g.lit a = true); rw [hn] at this; simp at this
      · simp at hc
theorem Res.check {g : Aig} (hs : Wf g) {n : Nat} {l : List Int} {r : Aig × Int × Int} (h : Res g n l r) (h0 : r.2.2 = 0) : r.1.check = 0 ∧ Fine r.1 ∧ Ext g r.1 ∧ r.1.lit r.2.1 = true ∧ r.1.ands.length ≤ g.ands.length + n ∧ (∀ a ∈ l, g.lit a = true) ∧ g.check = 0 := by
  rcases h with ⟨_, hc, hl, hf, hx, hl', hn⟩ | ⟨h, _⟩
  · exact ⟨ext_check hs hc hx hf, hf, hx, hl', hn, hl, hc⟩
  · exact (h h0).elim
theorem Res.checkL {g : Aig} (hs : Wf g) {n : Nat} {l m : List Int} {r : Aig × Int × Int} (h : Res g n l r) (h0 : r.2.2 = 0) (hm : ∀ a ∈ m, a ∈ l) : r.1.checkL r.1.check m = 0 := by
  obtain ⟨h1, _, hx, _, _, hl, _⟩ := h.check hs h0
  exact checkL_zero.2 ⟨h1, fun a ha => hx.lit (hl a (hm a ha))⟩
end Fil

namespace Fil
open Abs
theorem vals_prefix : ∀ (l : List (Int × Int)) (v : List Bool), ∃ m, Aig.vals v l = v ++ m
  | [], v => ⟨[], by simp [Aig.vals]⟩
  | x :: l, v => by
    obtain ⟨m, hm⟩ := vals_prefix l (v ++ [Aig.val v x.1 && Aig.val v x.2])
    exact ⟨_ :: m, by rw [Aig.vals, hm, List.append_assoc]; rfl⟩
theorem val_app {v m : List Bool} {a : Int} (h : (a / 2).toNat < v.length) : Aig.val (v ++ m) a = Aig.val v a := by
  unfold Aig.val
  rw [List.getD_eq_getElem?_getD, List.getD_eq_getElem?_getD, List.getElem?_append_left h]
theorem val_turn {v : List Bool} {a : Int} (h : 0 ≤ a) : Aig.val v (turn a) = !Aig.val v a := by
  unfold Aig.val
  have e : (turn a / 2).toNat = (a / 2).toNat := by unfold turn; omega
  rw [e]
  by_cases h1 : a % 2 = 1
  · have h2 : ¬ turn a % 2 = 1 := by unfold turn; omega
    cases v.getD (a / 2).toNat false <;> simp [h1, h2]
  · have h2 : turn a % 2 = 1 := by unfold turn; omega
    cases v.getD (a / 2).toNat false <;> simp [h1, h2]
section
variable {s : List Bool}
theorem V_length {g : Aig} (hf : Fine g) (hb : ((s.length + 1 : Nat) : Int) = g.first) : ((Aig.vals (false :: s) g.ands).length : Int) = 1 + g.count := by
  rw [vals_length, count_first, List.length_cons]; omega
theorem V_ext {g h : Aig} (hx : Ext g h) : ∃ m, Aig.vals (false :: s) h.ands = Aig.vals (false :: s) g.ands ++ m := by
  obtain ⟨_, _, _, l, e⟩ := hx
  rw [e, vals_append]
  exact vals_prefix _ _
theorem val_ext {g h : Aig} (hf : Fine g) (hb : ((s.length + 1 : Nat) : Int) = g.first) (hx : Ext g h) {a : Int} (ha : g.lit a = true) : Aig.val (Aig.vals (false :: s) h.ands) a = Aig.val (Aig.vals (false :: s) g.ands) a := by
  obtain ⟨m, e⟩ := V_ext (s := s) hx
  rw [e, val_app]
  have := V_length hf hb
  have := litN_iff.1 ha
  omega
theorem val_zero {g : Aig} : Aig.val (Aig.vals (false :: s) g.ands) 0 = false := by
  obtain ⟨m, e⟩ := vals_prefix g.ands (false :: s)
  rw [e]; rfl
theorem val_one {g : Aig} : Aig.val (Aig.vals (false :: s) g.ands) 1 = true := by
  obtain ⟨m, e⟩ := vals_prefix g.ands (false :: s)
  rw [e]; rfl
theorem idxF_get {α : Type} (p : α → Bool) : ∀ (l : List α), 0 ≤ idxF p l → ∃ h : (idxF p l).toNat < l.length, p l[(idxF p l).toNat] = true
  | [], h => by simp [idxF] at h
  | a :: l, h => by
    by_cases hp : p a = true
    · have e : idxF p (a :: l) = 0 := by simp [idxF, hp]
      simp [e, hp]
    · by_cases h' : idxF p l < 0
      · have e : idxF p (a :: l) = -1 := by simp [idxF, hp, h']
        omega
      · have e : idxF p (a :: l) = idxF p l + 1 := by simp [idxF, hp, h']
        obtain ⟨k, hk⟩ := idxF_get p l (by omega)
        have e2 : (idxF p (a :: l)).toNat = (idxF p l).toNat + 1 := by omega
        have k2 : (idxF p (a :: l)).toNat < (a :: l).length := by rw [e2, List.length_cons]; omega
        refine ⟨k2, ?_⟩
        simp only [e2, List.getElem_cons_succ]
        exact hk
theorem gate_val {g : Aig} (hf : Fine g) (hb : ((s.length + 1 : Nat) : Int) = g.first) {i : Nat} (hi : i < g.ands.length) :
    Aig.val (Aig.vals (false :: s) g.ands) (2 * (g.first + i)) = (Aig.val (Aig.vals (false :: s) g.ands) g.ands[i].1 && Aig.val (Aig.vals (false :: s) g.ands) g.ands[i].2) := by
  have hg := gatesOk_iff.1 hf.gok i hi
  have st := vals_step (v := false :: s) hi
  have ln := vals_len (v := false :: s) (l := g.ands) (i := i) (by omega)
  have sp : g.ands = g.ands.take (i + 1) ++ g.ands.drop (i + 1) := (List.take_append_drop _ _).symm
  have sp' : g.ands = g.ands.take i ++ g.ands.drop i := (List.take_append_drop _ _).symm
  obtain ⟨m, e⟩ := vals_prefix (g.ands.drop (i + 1)) (Aig.vals (false :: s) (g.ands.take (i + 1)))
  obtain ⟨m', e'⟩ := vals_prefix (g.ands.drop i) (Aig.vals (false :: s) (g.ands.take i))
  rw [← vals_append, ← sp, st] at e
  rw [← vals_append, ← sp'] at e'
  rw [List.length_cons] at ln
  have a1 : (g.ands[i].1 / 2).toNat < (Aig.vals (false :: s) (g.ands.take i)).length := by omega
  have a2 : (g.ands[i].2 / 2).toNat < (Aig.vals (false :: s) (g.ands.take i)).length := by omega
  have q1 : Aig.val (Aig.vals (false :: s) g.ands) g.ands[i].1 = Aig.val (Aig.vals (false :: s) (g.ands.take i)) g.ands[i].1 := by rw [e', val_app a1]
  have q2 : Aig.val (Aig.vals (false :: s) g.ands) g.ands[i].2 = Aig.val (Aig.vals (false :: s) (g.ands.take i)) g.ands[i].2 := by rw [e', val_app a2]
  rw [q1, q2, e]
  have ix : (2 * (g.first + i) / 2).toNat = (Aig.vals (false :: s) (g.ands.take i)).length := by omega
  have od : ¬ (2 * (g.first + (i : Int))) % 2 = 1 := by omega
  unfold Aig.val
  rw [ix, List.getD_eq_getElem?_getD, List.append_assoc, List.getElem?_append_right (Nat.le_refl _)]
  simp [od]
theorem min_max_val {v : List Bool} {p q : Int} : (Aig.val v (min p q) && Aig.val v (max p q)) = (Aig.val v p && Aig.val v q) := by
  rcases Int.le_total p q with h | h
  · rw [Int.min_eq_left h, Int.max_eq_right h]
  · rw [Int.min_eq_right h, Int.max_eq_left h, Bool.and_comm]
theorem andO_val {g h : Aig} {p q x : Int} (hf : Fine g) (hb : ((s.length + 1 : Nat) : Int) = g.first) (hp : g.lit p = true) (hq : g.lit q = true) (ho : g.andO p q = some (h, x)) :
    Aig.val (Aig.vals (false :: s) h.ands) x = (Aig.val (Aig.vals (false :: s) g.ands) p && Aig.val (Aig.vals (false :: s) g.ands) q) := by
  have hp' := litN_iff.1 hp
  have hq' := litN_iff.1 hq
  rw [← min_max_val]
  unfold Aig.andO at ho
  simp only at ho
  split at ho
  · rename_i c
    simp at ho; obtain ⟨rfl, rfl⟩ := ho
    rw [val_zero]
    rcases c with c | c
    · rw [c, val_zero]; rfl
    · rw [c, val_turn (by omega)]; cases Aig.val (Aig.vals (false :: s) g.ands) (max p q) <;> rfl
  · split at ho
    · rename_i c
      simp at ho; obtain ⟨rfl, rfl⟩ := ho
      rcases c with c | c
      · rw [c, val_one, Bool.true_and]
      · rw [c, Bool.and_self]
    · split at ho
      · rename_i c
        simp at ho; obtain ⟨rfl, rfl⟩ := ho
        obtain ⟨k, hk⟩ := idxF_get _ _ c
        have e := gate_val (s := s) hf hb k
        have e2 : (((g.find (min p q) (max p q)).toNat : Nat) : Int) = g.find (min p q) (max p q) := by omega
        have e4 : (((idxF (fun x : Int × Int => decide (min x.1 x.2 = min p q) && decide (max x.1 x.2 = max p q)) g.ands).toNat : Nat) : Int) = g.find (min p q) (max p q) := e2
        rw [e4] at e
        rw [e, ← min_max_val]
        simp only [Bool.and_eq_true, decide_eq_true_eq] at hk
        rw [hk.1, hk.2]
      · split at ho
        · simp at ho
        · simp at ho; obtain ⟨rfl, rfl⟩ := ho
          have ln := V_length (s := s) hf hb
          have ix : (2 * (g.count + 1) / 2).toNat = (Aig.vals (false :: s) g.ands).length := by omega
          have od : ¬ (2 * (g.count + 1)) % 2 = 1 := by omega
          simp only [vals_snoc]
          generalize hv : (Aig.val (Aig.vals (false :: s) g.ands) (min p q) && Aig.val (Aig.vals (false :: s) g.ands) (max p q)) = w
          unfold Aig.val
          rw [ix, List.getD_eq_getElem?_getD, List.getElem?_append_right (Nat.le_refl _)]
          simp [od]
end
def Aig.value (g : Aig) (a : Int) (inp st : List Bool) : Bool := Aig.val (Aig.vals (false :: (inp ++ st)) g.ands) a
section
variable {g : Aig} {a b c : Int} {inp st : List Bool} (hs : Wf g) (l1 : (inp.length : Int) = g.ins) (l2 : st.length = g.flops.length)
include hs l1 l2
end
end Fil

namespace Fil.Eqv
open Bd (D T3 In T varW notW iteW opW askE)
structure Good (n c : Nat) (b : D) : Prop where
  vars : b.1 = n
  few : n ≤ 8
  fine : Bd.Fine n b.2
  ups : Bd.ups n 3 b.2 ≤ 31 * c
theorem Good.len {n c : Nat} {b : D} (h : Good n c b) : b.2.length ≤ 278 + 31 * c := by
  have := Bd.len_ups h.fine.toOk 3
  have := h.ups
  have := Bd.low3
  omega
theorem Good.mono {n c d : Nat} {b : D} (h : Good n c b) (hd : c ≤ d) : Good n d b := ⟨h.vars, h.few, h.fine, by have := h.ups; omega⟩
theorem In.len {n : Int} {F : List T3} {v x : Int} (h : In n F v x) : 0 ≤ x ∧ x < F.length := ⟨h.1, h.2.1⟩
theorem T_pre {n c : Nat} {b r : D} (h : Good n c b) (hr : r.1 = n) {l : List T3} (hl : r.2 = b.2 ++ l) {f : Int} (i : In n b.2 0 f) : T r f = T b f ∧ In n r.2 0 f := by
  obtain ⟨v, F⟩ := b
  obtain ⟨w, G⟩ := r
  obtain rfl : v = n := h.vars
  obtain rfl : w = n := hr
  simp only at hl
  subst hl
  exact ⟨Bd.T_app h.fine.toOk i, i.app l⟩
end Fil.Eqv

namespace Fil.Eqv
open Bd (D T3 In T varW notW iteW opW askE lookT)
abbrev S := D × List Int
def lits (g : Aig) : List Int := g.outs ++ g.flops.map (·.next)
structure Rep (n c : Nat) (b : D) (nodes : List Int) (w v : List Bool) : Prop where
  good : Good n c b
  wl : w.length = n
  len : nodes.length = v.length
  inn : ∀ x ∈ nodes, In n b.2 0 x
  val : ∀ i, i < nodes.length → lookT (T b (nodes.getD i 0)) w = v.getD i false
theorem mem_getD {l : List Int} {i : Nat} (h : i < l.length) : l.getD i 0 ∈ l := by
  rw [List.getD_eq_getElem?_getD, List.getElem?_eq_getElem h]; exact List.getElem_mem h
theorem Rep.more {n c d : Nat} {b r : D} {nodes : List Int} {w v : List Bool} (h : Rep n c b nodes w v) (hg : Good n d r) (hp : ∃ l, r.2 = b.2 ++ l) : Rep n d r nodes w v := by
  obtain ⟨l, hl⟩ := hp
  have key : ∀ x ∈ nodes, T r x = T b x ∧ In n r.2 0 x := fun x hx => T_pre h.good hg.vars hl (h.inn x hx)
  exact ⟨hg, h.wl, h.len, fun x hx => (key x hx).2, fun i hi => by rw [(key _ (mem_getD hi)).1]; exact h.val i hi⟩
end Fil.Eqv

namespace Fil.Eqv
open Abs
theorem andW_fit {g : Aig} {p q : Int} (h : g.count < 65536) : (g.andW 0 p q).2.1 = 0 := by
  have hn : g.andO p q ≠ none := by
    unfold Aig.andO
    simp only
    split
    · simp
    · split
      · simp
      · split
        · simp
        · split
          · omega
          · simp
  unfold Aig.andW
  rw [if_neg (by simp)]
  cases ho : g.andO p q with
  | none => exact absurd ho hn
  | some r => rfl
theorem And_fit {g : Aig} {a b : Int} (hc : g.check = 0) (ha : g.lit a = true) (hb : g.lit b = true) (h : g.count < 65536) : (g.And a b).2.2 = 0 := by
  unfold Aig.And
  rw [checkL_two hc ha hb]
  have := andW_fit (p := a) (q := b) h
  unfold Aig.endW
  rw [if_neg (by simp [this])]
def moveL (to : List Int) (l : Int) : Int := if l % 2 = 0 then to.getD (l / 2).toNat 0 else turn (to.getD (l / 2).toNat 0)
def m0 (g : Aig) : Aig := ⟨g.ins, List.replicate g.flops.length ⟨0, false⟩, g.ands, []⟩
structure MI (g : Aig) (N : Nat) (m : Aig) : Prop where
  small : g.ins + g.flops.length ≤ 8
  check : m.check = 0
  fine : Fine m
  ext : Ext (m0 g) m
  len : m.ands.length ≤ N
theorem MI.count {g m : Aig} {N : Nat} (h : MI g N m) : m.count ≤ 8 + N := by
  have h1 := h.small
  have h2 := h.len
  unfold Aig.count
  rw [h.ext.ins, h.ext.flops]
  simp only [m0, List.length_replicate]; omega
theorem MI.first {g m : Aig} {N : Nat} (h : MI g N m) : m.first = g.first := by
  unfold Aig.first
  rw [h.ext.ins, h.ext.flops]; simp [m0]
abbrev at_ (m : Aig) (s : List Bool) (a : Int) : Bool := Aig.val (Aig.vals (false :: s) m.ands) a
end Fil.Eqv

namespace Fil.Rw
open Abs
open Eqv (moveL)
structure B where
  g : Aig
  lits : List Int
  lev : List Int
def evens (n : Nat) : List Int := (List.range n).map fun k : Nat => 2 * (k : Int)
def bit (v : Bool) : Int := if v then 1 else 0
def bgAt (g : Aig) (s : Nat → Option Bool) : Nat → List Int × List Flop
  | 0 => (evens (1 + g.ins).toNat, [])
  | i + 1 => match s i with
    | some v => ((bgAt g s i).1 ++ [bit v], (bgAt g s i).2)
    | none => ((bgAt g s i).1 ++ [2 * (g.ins + ((bgAt g s i).2.length + 1 : Nat))], (bgAt g s i).2 ++ [⟨0, (g.flops.getD i ⟨0, false⟩).init⟩])
def bgn (g : Aig) (s : Nat → Option Bool) : B :=
  ⟨⟨g.ins, (bgAt g s g.flops.length).2, [], []⟩, (bgAt g s g.flops.length).1, List.replicate (1 + g.ins + (bgAt g s g.flops.length).2.length).toNat 0⟩
def andB (b : B) (x y : Int) : B × Int :=
  (⟨(b.g.And x y).1, b.lits, if b.g.ands.length < (b.g.And x y).1.ands.length then b.lev ++ [1 + max (b.lev.getD (x / 2).toNat 0) (b.lev.getD (y / 2).toNat 0)] else b.lev⟩, (b.g.And x y).2.1)
def nextsAt (g : Aig) (s : Nat → Option Bool) (lits : List Int) : Nat → List Flop
  | 0 => []
  | i + 1 => match s i with
    | some _ => nextsAt g s lits i
    | none => nextsAt g s lits i ++ [⟨moveL lits (g.flops.getD i ⟨0, false⟩).next, (g.flops.getD i ⟨0, false⟩).init⟩]
def endB (g : Aig) (s : Nat → Option Bool) (b : B) : Aig := { b.g with flops := nextsAt g s b.lits g.flops.length, outs := b.g.outs ++ g.outs.map (moveL b.lits) }
def hashAt (g : Aig) (s : Nat → Option Bool) : Nat → B
  | 0 => bgn g s
  | i + 1 =>
    let b := hashAt g s i
    let x := g.ands.getD i (0, 0)
    let r := andB b (moveL b.lits x.1) (moveL b.lits x.2)
    { r.1 with lits := b.lits ++ [r.2] }
def hashed (g : Aig) (s : Nat → Option Bool) : Aig := endB g s (hashAt g s g.ands.length)
end Fil.Rw

