/- equiv: EquivForks. -/
import Derived.Test.YtjichkelfhcbcaaAbsU
import Derived.Test.YtjichkelfhcbcaaEqvEqvG
set_option linter.unusedSimpArgs false
set_option linter.unusedVariables false
namespace Go.Proofs.Ytjichkelfhcbcaa
open Abs Fil Fil.Eqv
open Bd (D encB encF)
abbrev xAnd : Aig := ⟨2, [], [(2, 4)], [6]⟩
abbrev xAgain : Aig := ⟨2, [], [(4, 2)], [6]⟩
abbrev xOr : Aig := ⟨2, [], [(3, 5)], [7]⟩
abbrev xNone : Aig := ⟨2, [], [], []⟩
theorem x_wf1 : Wf xAnd := ⟨by simp [I64], by simp, by simp, by simp, by simp, by simp [I64], by simp [I64]⟩
theorem x_wf2 : Wf xAgain := ⟨by simp [I64], by simp, by simp, by simp, by simp, by simp [I64], by simp [I64]⟩
theorem x_wf3 : Wf xOr := ⟨by simp [I64], by simp, by simp, by simp, by simp, by simp [I64], by simp [I64]⟩
theorem x_wf4 : Wf xNone := ⟨by simp [I64], by simp, by simp, by simp, by simp, by simp, by simp⟩
theorem x_ok1 : Ok xAnd := ⟨x_wf1, by decide, by simp, by simp, by simp⟩
theorem x_ok2 : Ok xAgain := ⟨x_wf2, by decide, by simp, by simp, by simp⟩
theorem x_ok3 : Ok xOr := ⟨x_wf3, by decide, by simp, by simp, by simp⟩
theorem x_two12 : Two xAnd xAgain := ⟨x_ok1, x_ok2, rfl, rfl, rfl, by simp⟩
theorem x_two13 : Two xAnd xOr := ⟨x_ok1, x_ok3, rfl, rfl, rfl, by simp⟩
theorem x1 : sameS xAnd xAgain = (true, [], []) := by decide
set_option maxRecDepth 100000 in
theorem x2 : sameS xAnd xOr = (false, [false, true], []) := by decide
theorem x3 : forksS xAnd = ((2, [(-1, 0, 0), (-1, 0, 0), (0, 0, 1), (1, 0, 1), (0, 0, 3)]), [4]) := by decide
theorem x4 : miterM xAnd xAgain = ⟨2, [], [(2, 4)], [0]⟩ := by decide
theorem x5 : traceS xAnd xOr [[true, true], [true, false]] = (1, 0) := by decide
theorem x6 : traceS xAnd xAgain [[true, true], [true, false]] = (-1, 0) := by decide
theorem x7 : traceS xAnd xOr [[true]] = (0, 1) := by decide
set_option maxRecDepth 20000 in
set_option maxHeartbeats 8000000 in
theorem law_live (σ : Sig) : ACalls Try.prog 11 [] σ (fun r σ' => r = .ret (.bool true) ∧ σ' = σ) := by
  refine calls_x mixed Try.func11 b11 n11 rfl q11 (by simp) ?_; unfold c11 r11
  have c1 := fun τ => eq_Same xAnd xAgain x_two12 τ
  have c2 := fun τ => eq_Same xAnd xOr x_two13 τ
  have c3 := fun τ => eq_Forks xAnd x_ok1 τ
  have c4 := fun τ => eq_Miter xAnd xAgain x_two12 τ
  have c5 := fun τ => eq_Trace xAnd xOr [[true, true], [true, false]] τ x_wf1 x_wf3 (by simp) (by decide) rfl rfl (fun _ => by decide) (by decide) (by decide)
  have c6 := fun τ => eq_Trace xAnd xAgain [[true, true], [true, false]] τ x_wf1 x_wf2 (by simp) (by decide) rfl rfl (fun _ => by decide) (by decide) (by decide)
  have c7 := fun τ => eq_Trace xAnd xOr [[true]] τ x_wf1 x_wf3 (by simp) (by decide) rfl rfl (fun h => by revert h; decide) (by decide) (by decide)
  have c8 := fun τ => eq_Same_arg xAnd xNone x_wf1 x_wf4 (by decide) (by simp) τ
  rw [x1] at c1
  rw [x2] at c2
  rw [x3] at c3
  rw [x4] at c4
  rw [x5] at c5
  rw [x6] at c6
  rw [x7] at c7
  repeat' (first | simp (maxDischargeDepth := 9) -implicitDefEqProofs -dsimp only [go_sem, seval, List.map_cons, List.map_nil, *] | ((with_reducible refine Zt (fun oF hoF hnF hnF' => ?_)); clear hnF hnF'; (try simp only [Zw, ne_eq] at hoF)) | ((with_reducible apply ACalls.one1); (focus (first | ((first | with_reducible refine c1 _ | with_reducible refine c2 _ | with_reducible refine c3 _ | with_reducible refine c4 _ | with_reducible refine c5 _ | with_reducible refine c6 _ | with_reducible refine c7 _ | with_reducible refine c8 _) <;> (first | (simp (maxDischargeDepth := 9) -implicitDefEqProofs -dsimp only [go_sem, seval, *]; done) | omega)) | (with_reducible refine ACalls.flA (c1 _) ?_ <;> (first | (simp (maxDischargeDepth := 9) -implicitDefEqProofs -dsimp only [go_sem, seval, *]; done) | omega)) | (with_reducible refine ACalls.flA (c2 _) ?_ <;> (first | (simp (maxDischargeDepth := 9) -implicitDefEqProofs -dsimp only [go_sem, seval, *]; done) | omega)) | (with_reducible refine ACalls.flA (c3 _) ?_ <;> (first | (simp (maxDischargeDepth := 9) -implicitDefEqProofs -dsimp only [go_sem, seval, *]; done) | omega)) | (with_reducible refine ACalls.flA (c4 _) ?_ <;> (first | (simp (maxDischargeDepth := 9) -implicitDefEqProofs -dsimp only [go_sem, seval, *]; done) | omega)) | (with_reducible refine ACalls.flA (c5 _) ?_ <;> (first | (simp (maxDischargeDepth := 9) -implicitDefEqProofs -dsimp only [go_sem, seval, *]; done) | omega)) | (with_reducible refine ACalls.flA (c6 _) ?_ <;> (first | (simp (maxDischargeDepth := 9) -implicitDefEqProofs -dsimp only [go_sem, seval, *]; done) | omega)) | (with_reducible refine ACalls.flA (c7 _) ?_ <;> (first | (simp (maxDischargeDepth := 9) -implicitDefEqProofs -dsimp only [go_sem, seval, *]; done) | omega)) | (with_reducible refine ACalls.flA (c8 _) ?_ <;> (first | (simp (maxDischargeDepth := 9) -implicitDefEqProofs -dsimp only [go_sem, seval, *]; done) | omega)))); (focus (first | trivial | with_reducible exact rfl | (simp (maxDischargeDepth := 9) -implicitDefEqProofs -dsimp only [go_sem, seval]; done)))))
  refine fin_eq ?_
  (repeat' (first | simp (maxDischargeDepth := 9) -implicitDefEqProofs -dsimp only [go_sem, seval, *])) <;> (repeat' refine And.intro ?_ ?_) <;> (first | omega | rfl | assumption | skip)
end Go.Proofs.Ytjichkelfhcbcaa

namespace Fil
open Abs Go
theorem i64_min : IntKind.i64.min = -9223372036854775808 := by decide
theorem i64_max : IntKind.i64.max = 9223372036854775807 := by decide
theorem I64_of {n : Int} (h : IntKind.i64.min ≤ n ∧ n ≤ IntKind.i64.max) : I64 n := by rw [i64_min, i64_max] at h; exact h
theorem arg_int {a : AV} (h : ShV false (.int .i64) a) : ∃ n, a = encInt n ∧ I64 n := by
  obtain ⟨n, e, hn⟩ := shv_int h
  exact ⟨n, e, I64_of hn⟩
theorem arg_gate {a : AV} (h : ShV true (.row [.int .i64, .int .i64]) a) : ∃ x : Int × Int, a = encGate x ∧ I64 x.1 ∧ I64 x.2 := by
  obtain ⟨es, e, p, q, rfl, ⟨n, rfl, hn⟩, p', q', rfl, ⟨m, rfl, hm⟩, rfl⟩ := h
  simp [mkv] at e
  exact ⟨(n, m), e.symm, I64_of hn, I64_of hm⟩
theorem arg_flop {a : AV} (h : ShV true (.row [.int .i64, .bool]) a) : ∃ x : Flop, a = encFlop x ∧ I64 x.next := by
  obtain ⟨es, e, p, q, rfl, ⟨n, rfl, hn⟩, p', q', rfl, ⟨m, rfl⟩, rfl⟩ := h
  simp [mkv] at e
  exact ⟨⟨n, m⟩, e.symm, I64_of hn⟩
structure Wide (g : Aig) : Prop where
  ins : I64 g.ins
  nexts : ∀ f ∈ g.flops, I64 f.next
  gates : ∀ x ∈ g.ands, I64 x.1 ∧ I64 x.2
  lits : ∀ a ∈ g.outs, I64 a
theorem arg_aig {a : AV} (h : ShV true (.row [.int .i64, .slice true (.row [.int .i64, .bool]), .slice true (.row [.int .i64, .int .i64]), .slice false (.int .i64)]) a) : ∃ g : Aig, a = encAig g ∧ Wide g := by
  obtain ⟨es, e, p, q, rfl, ⟨n, rfl, hn⟩, p1, q1, rfl, h1, p2, q2, rfl, h2, p3, q3, rfl, h3, rfl⟩ := h
  obtain ⟨fl, rfl, _, k1⟩ := shc_slice (f := encFlop) (p := fun x : Flop => I64 x.next) h1 fun x hx => arg_flop hx
  obtain ⟨an, rfl, _, k2⟩ := shc_slice (f := encGate) (p := fun x : Int × Int => I64 x.1 ∧ I64 x.2) h2 fun x hx => arg_gate hx
  obtain ⟨ou, rfl, _, k3⟩ := shc_slice (f := encInt) (p := I64) h3 fun x hx => arg_int hx
  simp [mkv] at e
  exact ⟨⟨n, fl, an, ou⟩, e.symm, I64_of hn, k1, k2, k3⟩
def Few (g : Aig) : Prop := g.ins ≤ 200 ∧ g.flops.length ≤ 200 ∧ g.ands.length ≤ 1000 ∧ g.outs.length ≤ 200
end Fil

namespace Fil.Eqv
open Abs Go
def fewB (g : Aig) : Bool := decide (IntKind.i64.wrap (g.ins + g.flops.length) ≤ 8) && decide (-1 ≤ g.ins) && decide (g.flops.length ≤ 8) && decide (g.ands.length ≤ 40) && decide (g.outs.length ≤ 10)
theorem few_spec {g : Aig} (h : fewB g = true) (hw : Wide g) : Wf g ∧ g.flops.length ≤ 8 ∧ g.ands.length ≤ 40 ∧ g.outs.length ≤ 10 ∧ (g.check = 0 → Ok g) := by
  simp only [fewB, Bool.and_eq_true, decide_eq_true_eq] at h
  obtain ⟨⟨⟨⟨h1, h2⟩, h3⟩, h4⟩, h5⟩ := h
  have hwf : Wf g := ⟨hw.ins, by omega, by omega, by omega, hw.nexts, hw.gates, hw.lits⟩
  refine ⟨hwf, h3, h4, h5, fun hc => ⟨hwf, hc, ?_, by omega, by omega⟩⟩
  have hs := check_small hwf hc
  have := hs.hi
  have := hs.lo
  rw [wrap64 _ (by omega) (by omega)] at h1
  exact h1
end Fil.Eqv

namespace Go.Proofs.Ytjichkelfhcbcaa
open Abs Fil Fil.Eqv
open Bd (D encB encF)
theorem law_few (g : Aig) (σ : Sig) : ACalls Try.prog 12 [encAig g] σ (fun r σ' => r = .ret (.bool (fewB g)) ∧ σ' = σ) := by
  refine calls_x mixed Try.func12 b12 n12 rfl q12 (by simp) ?_; unfold c12 r12
  unfold fewB
  obtain ⟨w, hw⟩ : ∃ w, IntKind.i64.wrap (g.ins + g.flops.length) = w := ⟨_, rfl⟩
  rw [hw]
  repeat' (first | simp (maxDischargeDepth := 9) -implicitDefEqProofs -dsimp only [go_sem, seval, ge_iff_le, *] | (with_reducible (first | apply Za) <;> intro hq))
  all_goals refine fin_eq ?_
  all_goals (repeat' (first | simp (maxDischargeDepth := 9) -implicitDefEqProofs -dsimp only [go_sem, seval, *])) <;> (repeat' refine And.intro ?_ ?_) <;> (first | omega | rfl | assumption | skip)
  all_goals (rw [Bool.eq_iff_iff]; simp only [Bool.and_eq_true, decide_eq_true_eq, Bool.false_eq_true]; constructor <;> intro hh <;> first | exact hh.elim | omega)
end Go.Proofs.Ytjichkelfhcbcaa

namespace Go.Proofs.Ytjichkelfhcbcaa.B
open Abs Fil Fil.Bd
theorem ref_same' (a b : List Bool) (B : Bool) (hB : decide (a = b) = B) (σ : Sig) (h : a.length = b.length) (hl : a.length ≤ 9223372036854775807) :
    ACalls Try.prog 125 [.slice (a.map encBool) .no, .slice (b.map encBool) .no] σ (fun r σ' => r = .ret (.bool B) ∧ σ' = σ) := by
  subst hB
  exact ref_same a b σ h hl
set_option maxHeartbeats 1000000 in
theorem ref_put : ∀ (k : Nat) (vars : Int) (F : List T3) (v : Int) (t : List Bool) (σ : Sig), t.length = 2 ^ k → 2 ≤ F.length → F.length + 2 ^ k ≤ 1099511627776 → 0 ≤ v → v + k ≤ 1000 →
    ACalls Try.prog 120 [encB vars F, .slice (t.map encBool) .no, .int .i64 v] σ (fun r σ' => r = .ret (.tup [encB vars (put k F v t).1, .int .i64 (put k F v t).2]) ∧ σ' = σ)
  | 0, vars, F, v, t, σ, ht, h2, hF, hv, hv1 => by
    obtain ⟨x, rfl⟩ : ∃ x, t = [x] := by
      match t, ht with
      | [x], _ => exact ⟨x, rfl⟩
    refine calls_x mixed Try.func120 b120 n120 rfl q120 (by simp) ?_; unfold c120 r120
    clear ht
    cases x with
    | true =>
      have hw : put 0 F v [true] = (F, 1) := rfl
      rw [hw]
      repeat' (first | simp (maxDischargeDepth := 9) -implicitDefEqProofs -dsimp only [go_sem, seval, List.map_cons, List.map_nil, *] | simp (disch := omega) only [wrap64, tdiv2] | (with_reducible (first | apply Zs) <;> intro hq) | ((with_reducible refine Zv ?_ ?_); focus (first | omega | exact rfl)) | ((with_reducible refine Zt (fun oF hoF hnF hnF' => ?_)); clear hnF hnF'; (try simp only [Zw, ne_eq] at hoF)))
      refine fin_eq ?_
      (repeat' (first | simp (maxDischargeDepth := 9) -implicitDefEqProofs -dsimp only [go_sem, seval, *] | simp (disch := omega) only [wrap64, tdiv2])) <;> (repeat' refine And.intro ?_ ?_) <;> (first | omega | rfl | assumption | skip)
    | false =>
      have hw : put 0 F v [false] = (F, 0) := rfl
      rw [hw]
      repeat' (first | simp (maxDischargeDepth := 9) -implicitDefEqProofs -dsimp only [go_sem, seval, List.map_cons, List.map_nil, *] | simp (disch := omega) only [wrap64, tdiv2] | (with_reducible (first | apply Zs) <;> intro hq) | ((with_reducible refine Zv ?_ ?_); focus (first | omega | exact rfl)) | ((with_reducible refine Zt (fun oF hoF hnF hnF' => ?_)); clear hnF hnF'; (try simp only [Zw, ne_eq] at hoF)))
      refine fin_eq ?_
      (repeat' (first | simp (maxDischargeDepth := 9) -implicitDefEqProofs -dsimp only [go_sem, seval, *] | simp (disch := omega) only [wrap64, tdiv2])) <;> (repeat' refine And.intro ?_ ?_) <;> (first | omega | rfl | assumption | skip)
  | k + 1, vars, F, v, t, σ, ht, h2, hF, hv, hv1 => by
    refine calls_x mixed Try.func120 b120 n120 rfl q120 (by simp) ?_; unfold c120 r120
    have hk1 : v + 1 + k ≤ 1000 := by omega
    have hv0 : 0 ≤ v + 1 := by omega
    have hpos := Nat.two_pow_pos k
    have ih := fun G s τ => ref_put k vars G (v + 1) s τ
    have hput1 := @put_1 k F v t
    have hput2 := @put_2 k F v t
    have p1 := put_len k F (v + 1)
    have p2 := put_grow k F (v + 1)
    have p3 := fun C => put_len k C (v + 1)
    have p4 := fun C => put_grow k C (v + 1)
    rw [Nat.pow_succ] at ht hF
    obtain ⟨P, hP⟩ : ∃ P, 2 ^ k = P := ⟨_, rfl⟩
    simp only [hP] at ht hF hpos ih hput1 hput2 p1 p2 p3 p4
    have e1 : (t.take P).length = P := by simp; omega
    have e2 : (t.drop P).length = P := by simp; omega
    have hb1 : ((t.length : Int) == 1) = false := by
      rw [beq_eq_false_iff_ne]; omega
    have htl : t.length ≤ 2 * P ∧ 2 * P ≤ t.length := by omega
    have htd : (t.length : Int) / 2 = P := by omega
    have m1 : List.take P (t.map encBool) = (t.take P).map encBool := List.map_take.symm
    have m2 : List.drop P (t.map encBool) = (t.drop P).map encBool := List.map_drop.symm
    have hP1 : F.length + P ≤ 1099511627776 := by omega
    clear hP ht
    by_cases hs : t.take (P) = t.drop (P)
    · have hw := hput1 hs
      have hd : decide (t.take (P) = t.drop (P)) = true := by simpa using hs
      have hsame := fun τ => ref_same' _ _ _ hd τ (by omega) (by omega)
      rw [hw]
      clear hw hd hs hput1 hput2 p1 p2 p3 p4
      have ih' := fun τ => ih F (t.take (P)) τ e1 h2 hP1 hv0 hk1
      generalize t.take P = s1 at *
      generalize t.drop P = s2 at *
      clear ih
      repeat' (first | simp (maxDischargeDepth := 9) -implicitDefEqProofs -dsimp only [go_sem, seval, *] | simp (disch := omega) only [wrap64, tdiv2] | (with_reducible (first | apply Zs) <;> intro hq) | ((with_reducible refine Zv ?_ ?_); focus (first | omega | exact rfl)) | ((with_reducible refine Zt (fun oF hoF hnF hnF' => ?_)); clear hnF hnF'; (try simp only [Zw, ne_eq] at hoF)) | ((with_reducible apply ACalls.one1); (focus ((first | with_reducible refine hsame _ | with_reducible refine ih' _) <;> (first | (simp (maxDischargeDepth := 9) -implicitDefEqProofs -dsimp only [go_sem, seval, *]; done) | omega))); (focus (first | trivial | with_reducible exact rfl | (simp (maxDischargeDepth := 9) -implicitDefEqProofs -dsimp only [go_sem, seval]; done)))) | ((with_reducible apply id_one0); (focus (intro tS hS; ((first | with_reducible refine hsame _ | with_reducible refine ih' _) <;> (first | (simp (maxDischargeDepth := 9) -implicitDefEqProofs -dsimp only [go_sem, seval, *]; done) | omega | ((with_reducible refine Sub.get hS ?_); simp (maxDischargeDepth := 9) -implicitDefEqProofs -dsimp only [go_sem, seval, *]; done))))); (focus (first | trivial | (simp (maxDischargeDepth := 9) -implicitDefEqProofs -dsimp only [go_sem, seval, *]; done)))))
      refine fin_eq ?_
      (repeat' (first | simp (maxDischargeDepth := 9) -implicitDefEqProofs -dsimp only [go_sem, seval, *] | simp (disch := omega) only [wrap64, tdiv2])) <;> (repeat' refine And.intro ?_ ?_) <;> (first | omega | rfl | assumption | skip)
    · have hd : decide (t.take (P) = t.drop (P)) = false := by simpa using hs
      have hsame := fun τ => ref_same' _ _ _ hd τ (by omega) (by omega)
      obtain ⟨⟨C, lo⟩, hC⟩ : ∃ c, put k F (v + 1) (t.take (P)) = c := ⟨_, rfl⟩
      have p1 := p1 (t.take P)
      have p2 := p2 (t.take P)
      have p3 := p3 C (t.drop P)
      have p4 := p4 C (t.drop P)
      obtain ⟨⟨G, hi⟩, hG⟩ : ∃ c, put k C (v + 1) (t.drop (P)) = c := ⟨_, rfl⟩
      have hw := hput2 hs hC hG
      rw [hC] at p1 p2
      rw [hG] at p3 p4
      simp only at p1 p2 p3 p4
      have ih1 := fun τ => ih F (t.take (P)) τ e1 h2 hP1 hv0 hk1
      have ih2 := fun τ => ih C (t.drop (P)) τ e2 (by omega) (by omega) hv0 hk1
      rw [hC] at ih1
      rw [hG] at ih2
      clear ih hC hG hd hs hput1 hput2
      generalize t.take P = s1 at *
      generalize t.drop P = s2 at *
      have hGl : G.length ≤ 1099511627776 := by omega
      have hG0 : ¬ G.length = 0 := by omega
      obtain ⟨q, hq⟩ : ∃ q, findI G (v, lo, hi) = q := ⟨_, rfl⟩
      have hfind := fun τ => ref_find vars G (v, lo, hi) τ hGl
      rw [hq] at hfind hw
      clear hq
      rcases hw with ⟨hq0, hw⟩ | ⟨hq0, hw⟩
      · rw [hw]
        repeat' (first | simp (maxDischargeDepth := 9) -implicitDefEqProofs -dsimp only [go_sem, seval, *] | simp (disch := omega) only [wrap64, tdiv2] | (with_reducible (first | apply Zs) <;> intro hq) | ((with_reducible refine Zv ?_ ?_); focus (first | omega | exact rfl)) | ((with_reducible refine Zt (fun oF hoF hnF hnF' => ?_)); clear hnF hnF'; (try simp only [Zw, ne_eq] at hoF)) | ((with_reducible apply ACalls.one1); (focus ((first | with_reducible refine hsame _ | with_reducible refine ih1 _ | with_reducible refine ih2 _ | with_reducible refine hfind _) <;> (first | (simp (maxDischargeDepth := 9) -implicitDefEqProofs -dsimp only [go_sem, seval, *]; done) | omega))); (focus (first | trivial | with_reducible exact rfl | (simp (maxDischargeDepth := 9) -implicitDefEqProofs -dsimp only [go_sem, seval]; done)))) | ((with_reducible apply id_one0); (focus (intro tS hS; ((first | with_reducible refine hsame _ | with_reducible refine ih1 _ | with_reducible refine ih2 _ | with_reducible refine hfind _) <;> (first | (simp (maxDischargeDepth := 9) -implicitDefEqProofs -dsimp only [go_sem, seval, *]; done) | omega | ((with_reducible refine Sub.get hS ?_); simp (maxDischargeDepth := 9) -implicitDefEqProofs -dsimp only [go_sem, seval, *]; done))))); (focus (first | trivial | (simp (maxDischargeDepth := 9) -implicitDefEqProofs -dsimp only [go_sem, seval, *]; done)))))
        refine fin_eq ?_
        (repeat' (first | simp (maxDischargeDepth := 9) -implicitDefEqProofs -dsimp only [go_sem, seval, *] | simp (disch := omega) only [wrap64, tdiv2])) <;> (repeat' refine And.intro ?_ ?_) <;> (first | omega | rfl | assumption | skip)
      · rw [hw]
        subst hq0
        repeat' (first | simp (maxDischargeDepth := 9) -implicitDefEqProofs -dsimp only [go_sem, seval, *] | simp (disch := omega) only [wrap64, tdiv2] | (with_reducible (first | apply Zs) <;> intro hq) | ((with_reducible refine Zv ?_ ?_); focus (first | omega | exact rfl)) | ((with_reducible refine Zt (fun oF hoF hnF hnF' => ?_)); clear hnF hnF'; (try simp only [Zw, ne_eq] at hoF)) | ((with_reducible apply ACalls.one1); (focus ((first | with_reducible refine hsame _ | with_reducible refine ih1 _ | with_reducible refine ih2 _ | with_reducible refine hfind _) <;> (first | (simp (maxDischargeDepth := 9) -implicitDefEqProofs -dsimp only [go_sem, seval, *]; done) | omega))); (focus (first | trivial | with_reducible exact rfl | (simp (maxDischargeDepth := 9) -implicitDefEqProofs -dsimp only [go_sem, seval]; done)))) | ((with_reducible apply id_one0); (focus (intro tS hS; ((first | with_reducible refine hsame _ | with_reducible refine ih1 _ | with_reducible refine ih2 _ | with_reducible refine hfind _) <;> (first | (simp (maxDischargeDepth := 9) -implicitDefEqProofs -dsimp only [go_sem, seval, *]; done) | omega | ((with_reducible refine Sub.get hS ?_); simp (maxDischargeDepth := 9) -implicitDefEqProofs -dsimp only [go_sem, seval, *]; done))))); (focus (first | trivial | (simp (maxDischargeDepth := 9) -implicitDefEqProofs -dsimp only [go_sem, seval, *]; done)))))
        all_goals first | (exfalso; exact hG0 (by have := congrArg List.length hq; rwa [List.length_map] at this)) | (refine fin_eq ?_; (repeat' (first | simp (maxDischargeDepth := 9) -implicitDefEqProofs -dsimp only [go_sem, seval, List.map_append, List.map_cons, List.map_nil, *] | simp (disch := omega) only [wrap64, tdiv2])) <;> (repeat' refine And.intro ?_ ?_) <;> (first | omega | rfl | assumption | skip))
theorem ref_told (n : Nat) (F : List T3) (t : List Bool) (σ : Sig) (ht : t.length = 2 ^ n) (h2 : 2 ≤ F.length) (hF : F.length ≤ 65536) (hn : n ≤ 32) :
    ACalls Try.prog 99 [encB n F, .slice (t.map encBool) .no] σ (fun r σ' => r = .ret (.tup [encB n (put n F 0 t).1, .int .i64 (put n F 0 t).2, .int .i64 0]) ∧ σ' = σ) := by
  refine calls_x mixed Try.func99 b99 n99 rfl q99 (by simp) ?_; unfold c99 r99
  have hp : 2 ^ n ≤ 2 ^ 32 := Nat.pow_le_pow_right (by decide) hn
  have hput := fun τ => ref_put n n F 0 t τ ht h2 (by omega) (by omega) (by omega)
  clear hp ht
  repeat' (first | simp (maxDischargeDepth := 9) -implicitDefEqProofs -dsimp only [go_sem, seval, *] | ((with_reducible refine Zt (fun oF hoF hnF hnF' => ?_)); clear hnF hnF'; (try simp only [Zw, ne_eq] at hoF)) | ((with_reducible apply ACalls.one1); (focus ((first | with_reducible refine hput _) <;> (first | (simp (maxDischargeDepth := 9) -implicitDefEqProofs -dsimp only [go_sem, seval, *]; done) | omega))); (focus (first | trivial | with_reducible exact rfl | (simp (maxDischargeDepth := 9) -implicitDefEqProofs -dsimp only [go_sem, seval]; done)))))
  refine fin_eq ?_
  (repeat' (first | simp (maxDischargeDepth := 9) -implicitDefEqProofs -dsimp only [go_sem, seval, *])) <;> (repeat' refine And.intro ?_ ?_) <;> (first | omega | rfl | assumption | skip)
end Go.Proofs.Ytjichkelfhcbcaa.B

namespace Go.Proofs.Ytjichkelfhcbcaa.B
open Abs Fil Fil.Bd
set_option maxHeartbeats 2000000 in
theorem ref_Ite (b : D) (f g h : Int) (σ : Sig) (hl : b.2.length ≤ 9223372036854775807) :
    ACalls Try.prog 79 [encB b.1 b.2, .int .i64 f, .int .i64 g, .int .i64 h] σ (fun r σ' => r = .ret (.tup [encB (iteW b f g h).1.1 (iteW b f g h).1.2, .int .i64 (iteW b f g h).2.1, .int .i64 (iteW b f g h).2.2]) ∧ σ' = σ) := by
  refine ACalls.virt (callable_of Try.func79 b79 n79) 1 (fun oV1 hoV1 hnV1 hnV1' => ?_); (try simp only [upd_none, ne_eq, not_and] at hoV1); refine calls_x mixed Try.func79 b79 n79 rfl q79 (by simp) ?_; unfold c79 r79
  obtain ⟨e, he⟩ : ∃ e, chk b.1 b.2 = e := ⟨_, rfl⟩
  by_cases h0 : e = 0
  · subst h0
    have ez : ((0 : Int) != 0) = false := by decide
    have hf := chk_fine.1 he
    by_cases hout : ([f, g, h].any (outside b.2) || false) = true
    · have hw : iteW b f g h = ((0, []), 0, 1) := by unfold iteW; rw [ask_arg hf hout, op_err (by decide)]
      rw [hw]
      simp only [List.any_cons, List.any_nil, Bool.or_false, Bool.or_eq_true] at hout
      clear hw
      repeat' (first | simp (maxDischargeDepth := 9) -implicitDefEqProofs -dsimp only [go_sem, seval, List.map_nil, *] | simp (disch := omega) only [wrap64] | (with_reducible (first | apply Zq | apply Zr) <;> intro hq) | ((with_reducible refine Zv ?_ ?_); focus (first | omega | exact rfl)) | ((with_reducible refine Zu ?_ ?_); focus omega) | ((with_reducible refine Zt (fun oF hoF hnF hnF' => ?_)); clear hnF hnF'; (try simp only [Zw, ne_eq] at hoF)) | ((with_reducible apply ACalls.one1); (focus ((first | with_reducible refine ref_Check b.1 b.2 _ hl | with_reducible refine ref_node b f _ | with_reducible refine ref_node b g _ | with_reducible refine ref_node b h _ | with_reducible refine ACalls.flA (ref_Check b.1 b.2 _ hl) ?_ | with_reducible refine ACalls.flA (ref_node b f _) ?_ | with_reducible refine ACalls.flA (ref_node b g _) ?_ | with_reducible refine ACalls.flA (ref_node b h _) ?_) <;> (first | (simp (maxDischargeDepth := 9) -implicitDefEqProofs -dsimp only [go_sem, seval, *]; done) | omega))); (focus (first | trivial | with_reducible exact rfl | (simp (maxDischargeDepth := 9) -implicitDefEqProofs -dsimp only [go_sem, seval]; done)))))
      all_goals first | (refine fin_eq ?_; (repeat' (first | simp (maxDischargeDepth := 9) -implicitDefEqProofs -dsimp only [go_sem, seval, List.map_nil, *] | simp (disch := omega) only [wrap64])) <;> (repeat' refine And.intro ?_ ?_) <;> (first | omega | rfl | assumption | skip); done) | (exfalso; simp_all; done)
    · have hout' : ([f, g, h].any (outside b.2) || false) = false := by simpa using hout
      have hw : iteW b f g h = ((b.1, (put b.1.toNat b.2 0 (iteT (T b f) (T b g) (T b h))).1), (put b.1.toNat b.2 0 (iteT (T b f) (T b g) (T b h))).2, 0) := by
        unfold iteW opW; rw [ask_ok hf hout']; rfl
      rw [hw]
      simp only [List.any_cons, List.any_nil, Bool.or_false, Bool.or_eq_false_iff] at hout'
      obtain ⟨o1, o2, o3⟩ := hout'
      have i1 := out_In o1 hf.toOk
      have i2 := out_In o2 hf.toOk
      have i3 := out_In o3 hf.toOk
      have hlo := hf.lo
      clear hw hout
      obtain ⟨vars, F⟩ := b
      simp only at *
      obtain ⟨n, rfl⟩ : ∃ n : Nat, vars = n := ⟨vars.toNat, by omega⟩
      rw [Int.toNat_natCast]
      have n32 := hf.few
      have hp : 2 ^ n ≤ 2 ^ 32 := Nat.pow_le_pow_right (by decide) (by omega)
      have t1 : (T ((n : Int), F) f).length = 2 ^ n := T_len ((n : Int), F) f
      have t2 : (T ((n : Int), F) g).length = 2 ^ n := T_len ((n : Int), F) g
      have t3 : (T ((n : Int), F) h).length = 2 ^ n := T_len ((n : Int), F) h
      have c1 := fun τ => ref_table n F f τ hf i1
      have c2 := fun τ => ref_table n F g τ hf i2
      have c3 := fun τ => ref_table n F h τ hf i3
      generalize T ((n : Int), F) f = X at *
      generalize T ((n : Int), F) g = Y at *
      generalize T ((n : Int), F) h = Z at *
      have hWl := iteT_len t1 t2 t3
      have hW := fun i => iteT_getD i X Y Z (by rw [t1, t2]) (by rw [t1, t3])
      generalize iteT X Y Z = W at *
      have ct := fun τ => ref_told n F W τ hWl hf.two hf.all (by omega)
      have kX : X.length ≤ 4294967296 := by omega
      have kl : (W.length ≤ X.length ∧ X.length ≤ W.length) ∧ (Y.length ≤ X.length ∧ X.length ≤ Y.length) ∧ (Z.length ≤ X.length ∧ X.length ≤ Z.length) := by omega
      obtain ⟨kW, kY, kZ⟩ := kl
      have q1 : (!outside F f) = true := by simp [o1]
      clear hp t1 t2 t3 hWl i1 i2 i3 hf
      repeat' (first | simp (maxDischargeDepth := 9) -implicitDefEqProofs -dsimp only [go_sem, seval, *] | simp (disch := omega) only [wrap64] | (with_reducible (first | apply Zq | apply Zr) <;> intro hq) | ((with_reducible refine Zv ?_ ?_); focus (first | omega | exact rfl)) | ((with_reducible refine Zu ?_ ?_); focus omega) | ((with_reducible refine Zt (fun oF hoF hnF hnF' => ?_)); clear hnF hnF'; (try simp only [Zw, ne_eq] at hoF)) | ((with_reducible apply ACalls.one1); (focus ((first | with_reducible refine ref_Check n F _ hl | with_reducible refine ref_node (n, F) f _ | with_reducible refine ref_node (n, F) g _ | with_reducible refine ref_node (n, F) h _ | with_reducible refine c1 _ | with_reducible refine c2 _ | with_reducible refine c3 _ | with_reducible refine ACalls.flA (ref_Check n F _ hl) ?_ | with_reducible refine ACalls.flA (ref_node (n, F) f _) ?_ | with_reducible refine ACalls.flA (ref_node (n, F) g _) ?_ | with_reducible refine ACalls.flA (ref_node (n, F) h _) ?_ | with_reducible refine ACalls.flA (c1 _) ?_ | with_reducible refine ACalls.flA (c2 _) ?_ | with_reducible refine ACalls.flA (c3 _) ?_) <;> (first | (simp (maxDischargeDepth := 9) -implicitDefEqProofs -dsimp only [go_sem, seval, *]; done) | omega))); (focus (first | trivial | with_reducible exact rfl | (simp (maxDischargeDepth := 9) -implicitDefEqProofs -dsimp only [go_sem, seval]; done)))) | ((with_reducible apply id_one0); (focus (intro tS hS; ((first | with_reducible refine ref_Check n F _ hl | with_reducible refine ref_node (n, F) f _ | with_reducible refine ref_node (n, F) g _ | with_reducible refine ref_node (n, F) h _ | with_reducible refine c1 _ | with_reducible refine c2 _ | with_reducible refine c3 _ | with_reducible refine ACalls.flA (ref_Check n F _ hl) ?_ | with_reducible refine ACalls.flA (ref_node (n, F) f _) ?_ | with_reducible refine ACalls.flA (ref_node (n, F) g _) ?_ | with_reducible refine ACalls.flA (ref_node (n, F) h _) ?_ | with_reducible refine ACalls.flA (c1 _) ?_ | with_reducible refine ACalls.flA (c2 _) ?_ | with_reducible refine ACalls.flA (c3 _) ?_) <;> (first | (simp (maxDischargeDepth := 9) -implicitDefEqProofs -dsimp only [go_sem, seval, *]; done) | omega | ((with_reducible refine Sub.get hS ?_); simp (maxDischargeDepth := 9) -implicitDefEqProofs -dsimp only [go_sem, seval, *]; done))))); (focus (first | trivial | (simp (maxDischargeDepth := 9) -implicitDefEqProofs -dsimp only [go_sem, seval, *]; done)))))
      refine loop_rule (fun i : Nat => [(16, some (.int .i64 i)), (12, some (.slice (X.map encBool) .no)), (13, some (.slice (Y.map encBool) .no)), (14, some (.slice (Z.map encBool) .no)), (4, some (.cptr [.int .i64 n, .slice (F.map encF) .no])), (8, some (.ptr oF 0)), (15, some (.slice ((W.take i).map encBool) (.own oV1)))])
        (fun i => upd (upd σ oV1 (.grow 1 i)) oF (.cells [.int .i64 0, .slice [] .nil])) (fun i => i ≤ X.length) (fun i => X.length - i) 0 ?_ ?_
      · (repeat' (first | simp (maxDischargeDepth := 9) -implicitDefEqProofs -dsimp only [go_sem, seval, *] | simp (disch := omega) only [wrap64])) <;> (repeat' refine And.intro ?_ ?_) <;> (first | omega | rfl | assumption | skip)
      · intro i hi
        by_cases hlt : i < X.length
        · have hlY : i < Y.length := by omega
          have hlZ : i < Z.length := by omega
          have hs' := take_getD (t := W) (i := i) (by omega)
          have hlen : (W.take i).length = i := by simp; omega
          have hWi := hW i
          clear hW c1 c2 c3 ct
          obtain ⟨x, hx⟩ : ∃ x, X.getD i false = x := ⟨_, rfl⟩
          obtain ⟨y, hy⟩ : ∃ y, Y.getD i false = y := ⟨_, rfl⟩
          obtain ⟨z, hz⟩ : ∃ z, Z.getD i false = z := ⟨_, rfl⟩
          rw [hx, hy, hz] at hWi
          cases x <;> cases y <;> cases z <;> simp only [Bool.false_eq_true, if_false, if_true] at hWi <;> rw [hWi] at hs' <;> clear hWi
          all_goals
            repeat' (first | simp (maxDischargeDepth := 9) -implicitDefEqProofs -dsimp only [go_sem, seval, szs_bool, getD_b, *] | simp (disch := omega) only [wrap64] | (with_reducible (first | apply Zq | apply Zr) <;> intro hq) | ((with_reducible refine Zv ?_ ?_); focus (first | omega | exact rfl)) | ((with_reducible refine Zu ?_ ?_); focus omega) | ((with_reducible refine Zt (fun oF hoF hnF hnF' => ?_)); clear hnF hnF'; (try simp only [Zw, ne_eq] at hoF)))
            refine loop_next _ _ _ _ (i + 1) ?_; (repeat' (first | simp (maxDischargeDepth := 9) -implicitDefEqProofs -dsimp only [go_sem, seval,  List.map_append, List.map_cons, List.map_nil, *] | simp (disch := omega) only [wrap64])) <;> (repeat' refine And.intro ?_ ?_) <;> (first | omega | rfl | assumption | skip)
        · have e0 : W.take i = W := List.take_of_length_le (by omega)
          clear hW c1 c2 c3
          repeat' (first | simp (maxDischargeDepth := 9) -implicitDefEqProofs -dsimp only [go_sem, seval, *] | simp (disch := omega) only [wrap64] | (with_reducible (first | apply Zq | apply Zr) <;> intro hq) | ((with_reducible refine Zv ?_ ?_); focus (first | omega | exact rfl)) | ((with_reducible refine Zu ?_ ?_); focus omega) | ((with_reducible refine Zt (fun oF hoF hnF hnF' => ?_)); clear hnF hnF'; (try simp only [Zw, ne_eq] at hoF)) | ((with_reducible apply ACalls.one1); (focus ((first | with_reducible refine ct _ | with_reducible refine ACalls.flA (ct _) ?_) <;> (first | (simp (maxDischargeDepth := 9) -implicitDefEqProofs -dsimp only [go_sem, seval, *]; done) | omega))); (focus (first | trivial | with_reducible exact rfl | (simp (maxDischargeDepth := 9) -implicitDefEqProofs -dsimp only [go_sem, seval]; done)))))
          refine fin_eq ?_
          (repeat' (first | simp (maxDischargeDepth := 9) -implicitDefEqProofs -dsimp only [go_sem, seval, *] | simp (disch := omega) only [wrap64])) <;> (repeat' refine And.intro ?_ ?_) <;> (first | omega | rfl | assumption | skip)
  · have hb : (e != 0) = true := by simpa using h0
    have hw : iteW b f g h = ((0, []), 0, e) := by unfold iteW; rw [ask_err he h0, op_err h0]
    rw [hw]
    repeat' (first | simp (maxDischargeDepth := 9) -implicitDefEqProofs -dsimp only [go_sem, seval, List.map_nil, *] | simp (disch := omega) only [wrap64] | (with_reducible (first | apply Zq | apply Zr) <;> intro hq) | ((with_reducible refine Zv ?_ ?_); focus (first | omega | exact rfl)) | ((with_reducible refine Zu ?_ ?_); focus omega) | ((with_reducible refine Zt (fun oF hoF hnF hnF' => ?_)); clear hnF hnF'; (try simp only [Zw, ne_eq] at hoF)) | ((with_reducible apply ACalls.one1); (focus ((first | with_reducible refine ref_Check b.1 b.2 _ hl | with_reducible refine ACalls.flA (ref_Check b.1 b.2 _ hl) ?_) <;> (first | (simp (maxDischargeDepth := 9) -implicitDefEqProofs -dsimp only [go_sem, seval, *]; done) | omega))); (focus (first | trivial | with_reducible exact rfl | (simp (maxDischargeDepth := 9) -implicitDefEqProofs -dsimp only [go_sem, seval]; done)))))
    refine fin_eq ?_
    (repeat' (first | simp (maxDischargeDepth := 9) -implicitDefEqProofs -dsimp only [go_sem, seval, List.map_nil, *] | simp (disch := omega) only [wrap64])) <;> (repeat' refine And.intro ?_ ?_) <;> (first | omega | rfl | assumption | skip)
theorem ref_Not (b : D) (f : Int) (σ : Sig) (hl : b.2.length ≤ 9223372036854775807) :
    ACalls Try.prog 78 [encB b.1 b.2, .int .i64 f] σ (fun r σ' => r = .ret (.tup [encB (notW b f).1.1 (notW b f).1.2, .int .i64 (notW b f).2.1, .int .i64 (notW b f).2.2]) ∧ σ' = σ) := by
  refine calls_x mixed Try.func78 b78 n78 rfl q78 (by simp) ?_; unfold c78 r78
  unfold notW
  repeat' (first | simp (maxDischargeDepth := 9) -implicitDefEqProofs -dsimp only [go_sem, seval, *] | ((with_reducible refine Zt (fun oF hoF hnF hnF' => ?_)); clear hnF hnF'; (try simp only [Zw, ne_eq] at hoF)) | ((with_reducible apply ACalls.one1); (focus ((first | with_reducible refine ref_Ite b f 0 1 _ hl) <;> (first | (simp (maxDischargeDepth := 9) -implicitDefEqProofs -dsimp only [go_sem, seval, *]; done) | omega))); (focus (first | trivial | with_reducible exact rfl | (simp (maxDischargeDepth := 9) -implicitDefEqProofs -dsimp only [go_sem, seval]; done)))))
  refine fin_eq ?_
  (repeat' (first | simp (maxDischargeDepth := 9) -implicitDefEqProofs -dsimp only [go_sem, seval, *])) <;> (repeat' refine And.intro ?_ ?_) <;> (first | omega | rfl | assumption | skip)
end Go.Proofs.Ytjichkelfhcbcaa.B

namespace Go.Proofs.Ytjichkelfhcbcaa.B
open Abs Fil Fil.Bd
set_option maxHeartbeats 2000000 in
theorem ref_Var (b : D) (v : Int) (σ : Sig) (hl : b.2.length ≤ 9223372036854775807) :
    ACalls Try.prog 76 [encB b.1 b.2, .int .i64 v] σ (fun r σ' => r = .ret (.tup [encB (varW b v).1.1 (varW b v).1.2, .int .i64 (varW b v).2.1, .int .i64 (varW b v).2.2]) ∧ σ' = σ) := by
  refine ACalls.virt (callable_of Try.func76 b76 n76) 1 (fun oV1 hoV1 hnV1 hnV1' => ?_); (try simp only [upd_none, ne_eq, not_and] at hoV1); refine calls_x mixed Try.func76 b76 n76 rfl q76 (by simp) ?_; unfold c76 r76
  obtain ⟨e, he⟩ : ∃ e, chk b.1 b.2 = e := ⟨_, rfl⟩
  by_cases h0 : e = 0
  · subst h0
    have ez : ((0 : Int) != 0) = false := by decide
    have hf := chk_fine.1 he
    cases hout : off b v with
    | true =>
      have hw : varW b v = ((0, []), 0, 1) := by unfold varW; rw [ask_arg hf (by simp [hout]), op_err (by decide)]
      rw [hw]
      simp only [off, Bool.or_eq_true, decide_eq_true_eq] at hout
      clear hw
      repeat' (first | simp (maxDischargeDepth := 9) -implicitDefEqProofs -dsimp only [go_sem, seval, List.map_nil, ge_iff_le, *] | simp (disch := omega) only [wrap64, tmod2] | (with_reducible (first | apply Zb | apply Zc) <;> intro hq) | ((with_reducible refine Zv ?_ ?_); focus (first | omega | exact rfl)) | ((with_reducible refine Zt (fun oF hoF hnF hnF' => ?_)); clear hnF hnF'; (try simp only [Zw, ne_eq] at hoF)) | ((with_reducible apply ACalls.one1); (focus ((first | with_reducible refine ref_Check b.1 b.2 _ hl | with_reducible refine ACalls.flA (ref_Check b.1 b.2 _ hl) ?_) <;> (first | (simp (maxDischargeDepth := 9) -implicitDefEqProofs -dsimp only [go_sem, seval, *]; done) | omega))); (focus (first | trivial | with_reducible exact rfl | (simp (maxDischargeDepth := 9) -implicitDefEqProofs -dsimp only [go_sem, seval]; done)))))
      all_goals first | (exfalso; omega) | (refine fin_eq ?_; (repeat' (first | simp (maxDischargeDepth := 9) -implicitDefEqProofs -dsimp only [go_sem, seval, List.map_nil, *] | simp (disch := omega) only [wrap64, tmod2])) <;> (repeat' refine And.intro ?_ ?_) <;> (first | omega | rfl | assumption | skip); done)
    | false =>
      have hw : varW b v = ((b.1, (put b.1.toNat b.2 0 (varT b.1.toNat v.toNat)).1), (put b.1.toNat b.2 0 (varT b.1.toNat v.toNat)).2, 0) := by
        unfold varW opW; rw [ask_ok hf (by simp [hout])]; rfl
      rw [hw]
      simp only [off, Bool.or_eq_false_iff, decide_eq_false_iff_not] at hout
      obtain ⟨o1, o2⟩ := hout
      have hlo := hf.lo
      clear hw
      obtain ⟨vars, F⟩ := b
      simp only at *
      obtain ⟨n, rfl⟩ : ∃ n : Nat, vars = n := ⟨vars.toNat, by omega⟩
      obtain ⟨d, rfl⟩ : ∃ d : Nat, v = d := ⟨v.toNat, by omega⟩
      rw [Int.toNat_natCast, Int.toNat_natCast]
      have n32 := hf.few
      have hp : 2 ^ n ≤ 2 ^ 32 := Nat.pow_le_pow_right (by decide) (by omega)
      have hWl := varT_len n d (by omega)
      have hW := fun i => varT_getD n d i (by omega)
      generalize varT n d = W at *
      have ct := fun τ => ref_told n F W τ hWl hf.two hf.all (by omega)
      have hs := shl_one (n := n) (by omega)
      have hku := u64_id (k := n) (by omega)
      have hkm : Nat.min n 64 = n := Nat.min_eq_left (by omega)
      have hd0 : ¬ (n : Int) < 0 := by omega
      obtain ⟨m, hm⟩ : ∃ m : Nat, (n : Int) - 1 - d = m := ⟨((n : Int) - 1 - d).toNat, by omega⟩
      have hm' : n - 1 - d = m := by omega
      have hmu := u64_id (k := m) (by omega)
      have hmm : Nat.min m 64 = m := Nat.min_eq_left (by omega)
      have hm0 : ¬ (m : Int) < 0 := by omega
      rw [hm'] at hW
      obtain ⟨P, hP⟩ : ∃ P : Nat, 2 ^ n = P := ⟨_, rfl⟩
      rw [hP] at hWl hs hp hW
      have kW : W.length ≤ P ∧ P ≤ W.length := by omega
      clear hf hWl
      repeat' (first | simp (maxDischargeDepth := 9) -implicitDefEqProofs -dsimp only [go_sem, seval, ge_iff_le, *] | simp (disch := omega) only [wrap64, tmod2] | (with_reducible (first | apply Zb | apply Zc) <;> intro hq) | ((with_reducible refine Zv ?_ ?_); focus (first | omega | exact rfl)) | ((with_reducible refine Zt (fun oF hoF hnF hnF' => ?_)); clear hnF hnF'; (try simp only [Zw, ne_eq] at hoF)) | ((with_reducible apply ACalls.one1); (focus ((first | with_reducible refine ref_Check n F _ hl | with_reducible refine ACalls.flA (ref_Check n F _ hl) ?_) <;> (first | (simp (maxDischargeDepth := 9) -implicitDefEqProofs -dsimp only [go_sem, seval, *]; done) | omega))); (focus (first | trivial | with_reducible exact rfl | (simp (maxDischargeDepth := 9) -implicitDefEqProofs -dsimp only [go_sem, seval]; done)))))
      refine loop_rule (fun i : Nat => [(9, some (.int .i64 i)), (2, some (.cptr [.int .i64 n, .slice (F.map encF) .no])), (4, some (.ptr oF 0)), (1, some (.int .i64 d)), (8, some (.slice ((W.take i).map encBool) (.own oV1)))])
        (fun i => upd (upd σ oV1 (.grow 1 i)) oF (.cells [.int .i64 0, .slice [] .nil])) (fun i => i ≤ P) (fun i => P - i) 0 ?_ ?_
      · (repeat' (first | simp (maxDischargeDepth := 9) -implicitDefEqProofs -dsimp only [go_sem, seval, *] | simp (disch := omega) only [wrap64, tmod2])) <;> (repeat' refine And.intro ?_ ?_) <;> (first | omega | rfl | assumption | skip)
      · intro i hi
        by_cases hlt : i < P
        · have hlt' : (i : Int) < P := by omega
          have hs' := take_getD (t := W) (i := i) (by omega)
          have hlen : (W.take i).length = i := by simp; omega
          rw [hW i hlt] at hs'
          obtain ⟨q, hq1, hq2⟩ := @shr_bit i m
          clear hW ct
          repeat' (first | simp (maxDischargeDepth := 9) -implicitDefEqProofs -dsimp only [go_sem, seval, szs_bool, *] | simp (disch := omega) only [wrap64, tmod2] | (with_reducible (first | apply Zb | apply Zc) <;> intro hq) | ((with_reducible refine Zv ?_ ?_); focus (first | omega | exact rfl)) | ((with_reducible refine Zt (fun oF hoF hnF hnF' => ?_)); clear hnF hnF'; (try simp only [Zw, ne_eq] at hoF)))
          refine loop_next _ _ _ _ (i + 1) ?_; (repeat' (first | simp (maxDischargeDepth := 9) -implicitDefEqProofs -dsimp only [go_sem, seval,  List.map_append, List.map_cons, List.map_nil, *] | simp (disch := omega) only [wrap64, tmod2])) <;> (repeat' refine And.intro ?_ ?_) <;> (first | omega | rfl | assumption | skip)
        · have hlt' : ¬ (i : Int) < P := by omega
          have e0 : W.take i = W := List.take_of_length_le (by omega)
          clear hW
          repeat' (first | simp (maxDischargeDepth := 9) -implicitDefEqProofs -dsimp only [go_sem, seval, *] | simp (disch := omega) only [wrap64, tmod2] | (with_reducible (first | apply Zb | apply Zc) <;> intro hq) | ((with_reducible refine Zv ?_ ?_); focus (first | omega | exact rfl)) | ((with_reducible refine Zt (fun oF hoF hnF hnF' => ?_)); clear hnF hnF'; (try simp only [Zw, ne_eq] at hoF)) | ((with_reducible apply ACalls.one1); (focus ((first | with_reducible refine ct _ | with_reducible refine ACalls.flA (ct _) ?_) <;> (first | (simp (maxDischargeDepth := 9) -implicitDefEqProofs -dsimp only [go_sem, seval, *]; done) | omega))); (focus (first | trivial | with_reducible exact rfl | (simp (maxDischargeDepth := 9) -implicitDefEqProofs -dsimp only [go_sem, seval]; done)))))
          refine fin_eq ?_
          (repeat' (first | simp (maxDischargeDepth := 9) -implicitDefEqProofs -dsimp only [go_sem, seval, *] | simp (disch := omega) only [wrap64, tmod2])) <;> (repeat' refine And.intro ?_ ?_) <;> (first | omega | rfl | assumption | skip)
  · have hb : (e != 0) = true := by simpa using h0
    have hw : varW b v = ((0, []), 0, e) := by unfold varW; rw [ask_err he h0, op_err h0]
    rw [hw]
    repeat' (first | simp (maxDischargeDepth := 9) -implicitDefEqProofs -dsimp only [go_sem, seval, List.map_nil, *] | simp (disch := omega) only [wrap64, tmod2] | (with_reducible (first | apply Zb | apply Zc) <;> intro hq) | ((with_reducible refine Zv ?_ ?_); focus (first | omega | exact rfl)) | ((with_reducible refine Zt (fun oF hoF hnF hnF' => ?_)); clear hnF hnF'; (try simp only [Zw, ne_eq] at hoF)) | ((with_reducible apply ACalls.one1); (focus ((first | with_reducible refine ref_Check b.1 b.2 _ hl | with_reducible refine ACalls.flA (ref_Check b.1 b.2 _ hl) ?_) <;> (first | (simp (maxDischargeDepth := 9) -implicitDefEqProofs -dsimp only [go_sem, seval, *]; done) | omega))); (focus (first | trivial | with_reducible exact rfl | (simp (maxDischargeDepth := 9) -implicitDefEqProofs -dsimp only [go_sem, seval]; done)))))
    refine fin_eq ?_
    (repeat' (first | simp (maxDischargeDepth := 9) -implicitDefEqProofs -dsimp only [go_sem, seval, List.map_nil, *] | simp (disch := omega) only [wrap64, tmod2])) <;> (repeat' refine And.intro ?_ ?_) <;> (first | omega | rfl | assumption | skip)
end Go.Proofs.Ytjichkelfhcbcaa.B

namespace Fil.Eqv
open Abs
open Bd (D T3 In T varW notW iteW)
theorem out_next {g : Aig} {i : Nat} (hi : i < (lits g).length) : outAt g (i + 1) = ((litM (outAt g i).1 (bodyS g).2 (lits g)[i]).1, (outAt g i).2 ++ [(litM (outAt g i).1 (bodyS g).2 (lits g)[i]).2]) := by
  unfold outAt
  rw [take_succ hi, List.foldl_append]; rfl
theorem out_two {g : Aig} {i : Nat} (hi : i ≤ (lits g).length) : (outAt g i).2.length = i := by
  unfold outAt
  rw [out_len]
  simp; omega
theorem lits_outs {g : Aig} {i : Nat} (h : i < g.outs.length) : ∃ h2 : i < (lits g).length, (lits g)[i] = g.outs[i] := by
  have h2 : i < (lits g).length := by rw [lits_len]; omega
  refine ⟨h2, ?_⟩
  simp only [lits]
  rw [List.getElem_append_left h]
theorem lits_next {g : Aig} {i : Nat} (h : i < g.flops.length) : ∃ h2 : g.outs.length + i < (lits g).length, (lits g)[g.outs.length + i] = g.flops[i].next := by
  have h2 : g.outs.length + i < (lits g).length := by rw [lits_len]; omega
  refine ⟨h2, ?_⟩
  simp only [lits]
  rw [List.getElem_append_right (by omega)]
  simp
end Fil.Eqv

namespace Go.Proofs.Ytjichkelfhcbcaa
open Abs Fil Fil.Eqv
open Bd (D encB encF)
theorem ref_new_ok {n : Nat} (h : n ≤ 8) : B.newW (n : Int) = (newB n, 0) := by
  unfold B.newW newB
  rw [if_neg (by omega), if_neg (by omega)]
abbrev madC (b : D) : AObj := .cells [.int .i64 b.1, .slice (b.2.map encF) .no, .int .i64 0]
theorem ref_keep (m : Nat) (b c : D) (x : Int) (σ : Sig) (h : σ m = some (madC b)) :
    ACalls Try.prog 77 [.ptr m 0, encB c.1 c.2, .int .i64 x, .int .i64 0] σ (fun r σ' => r = .ret (.int .i64 x) ∧ σ' = upd σ m (madC c)) := by
  refine calls_x mixed Try.func77 b77 n77 rfl q77 (by simp) ?_; unfold c77 r77
  have ez : ((0 : Int) != 0) = false := by decide
  repeat' (first | simp (maxDischargeDepth := 9) -implicitDefEqProofs -dsimp only [go_sem, seval, *])
  refine fin_eq ?_
  (repeat' (first | simp (maxDischargeDepth := 9) -implicitDefEqProofs -dsimp only [go_sem, seval, *])) <;> (repeat' refine And.intro ?_ ?_) <;> (first | omega | rfl | assumption | skip)
theorem ref_variable (m : Nat) (b c : D) (i x : Int) (σ : Sig) (h : σ m = some (madC b)) (hl : b.2.length ≤ 9223372036854775807) (hc : Bd.varW b i = (c, x, 0)) :
    ACalls Try.prog 44 [.ptr m 0, .int .i64 i] σ (fun r σ' => r = .ret (.int .i64 x) ∧ σ' = upd σ m (madC c)) := by
  refine calls_x mixed Try.func44 b44 n44 rfl q44 (by simp) ?_; unfold c44 r44
  have ez : ((0 : Int) != 0) = false := by decide
  have hv := fun τ => B.ref_Var b i τ hl
  rw [hc] at hv
  repeat' (first | simp (maxDischargeDepth := 9) -implicitDefEqProofs -dsimp only [go_sem, seval, *] | ((with_reducible refine Zt (fun oF hoF hnF hnF' => ?_)); (try simp only [upd_none, ne_eq, not_and] at hoF)) | ((with_reducible apply ACalls.one1); (focus ((first | with_reducible refine hv _ | with_reducible refine ref_keep m b c x _ ?_) <;> (first | (simp (maxDischargeDepth := 9) -implicitDefEqProofs -dsimp only [go_sem, seval, *]; done) | omega))); (focus (first | trivial | with_reducible exact rfl | (simp (maxDischargeDepth := 9) -implicitDefEqProofs -dsimp only [go_sem, seval]; done)))))
  refine fin_eq ?_
  (repeat' (first | simp (maxDischargeDepth := 9) -implicitDefEqProofs -dsimp only [go_sem, seval, *])) <;> (repeat' refine And.intro ?_ ?_) <;> (first | omega | rfl | assumption | skip)
theorem ref_and (m : Nat) (b c : D) (f g x : Int) (σ : Sig) (h : σ m = some (madC b)) (hl : b.2.length ≤ 9223372036854775807) (hc : Bd.iteW b f g 0 = (c, x, 0)) :
    ACalls Try.prog 46 [.ptr m 0, .int .i64 f, .int .i64 g] σ (fun r σ' => r = .ret (.int .i64 x) ∧ σ' = upd σ m (madC c)) := by
  refine calls_x mixed Try.func46 b46 n46 rfl q46 (by simp) ?_; unfold c46 r46
  have ez : ((0 : Int) != 0) = false := by decide
  have hv := fun τ => B.ref_Ite b f g 0 τ hl
  rw [hc] at hv
  repeat' (first | simp (maxDischargeDepth := 9) -implicitDefEqProofs -dsimp only [go_sem, seval, *] | simp (disch := omega) only [wrap64, xor_is1] | (with_reducible (first | apply Zc | apply Ze | apply Zl | apply Zs) <;> intro hq) | ((with_reducible refine Zv ?_ ?_); focus (first | omega | exact rfl)) | ((with_reducible refine Zt (fun oF hoF hnF hnF' => ?_)); (try simp only [upd_none, ne_eq, not_and] at hoF)) | ((with_reducible apply ACalls.one1); (focus ((first | with_reducible refine hv _ | with_reducible refine ref_keep m b c x _ ?_ | with_reducible refine ACalls.flA (hv _) ?_ | with_reducible refine ACalls.flA (ref_keep m b c x _ ?_) ?_) <;> (first | (simp (maxDischargeDepth := 9) -implicitDefEqProofs -dsimp only [go_sem, seval, *]; done) | omega))); (focus (first | trivial | with_reducible exact rfl | (simp (maxDischargeDepth := 9) -implicitDefEqProofs -dsimp only [go_sem, seval]; done)))))
  refine fin_eq ?_
  (repeat' (first | simp (maxDischargeDepth := 9) -implicitDefEqProofs -dsimp only [go_sem, seval, *] | simp (disch := omega) only [wrap64, xor_is1])) <;> (repeat' refine And.intro ?_ ?_) <;> (first | omega | rfl | assumption | skip)
theorem ref_lit (m : Nat) (b : D) (nodes : List Int) (l : Int) (σ : Sig) (h : σ m = some (madC b)) (h0 : 0 ≤ l) (h1 : (l / 2).toNat < nodes.length) (hl64 : l ≤ 4611686018427387904)
    (hl : b.2.length ≤ 9223372036854775807) (hok : l % 2 ≠ 0 → Bd.notW b (nodes.getD (l / 2).toNat 0) = ((litM b nodes l).1, (litM b nodes l).2, 0)) :
    ACalls Try.prog 45 [.ptr m 0, .slice (nodes.map encInt) .no, .int .i64 l] σ (fun r σ' => r = .ret (.int .i64 (litM b nodes l).2) ∧ σ' = upd σ m (madC (litM b nodes l).1)) := by
  refine calls_x mixed Try.func45 b45 n45 rfl q45 (by simp) ?_; unfold c45 r45
  have ez : ((0 : Int) != 0) = false := by decide
  have hg : nodes[(l / 2).toNat] = nodes.getD (l / 2).toNat 0 := by simp [List.getD_eq_getElem?_getD, h1]
  obtain ⟨f, hf⟩ : ∃ f, nodes.getD (l / 2).toNat 0 = f := ⟨_, rfl⟩
  rw [hf] at hg
  by_cases c : l % 2 = 0
  · have hw : litM b nodes l = (b, f) := by unfold litM; rw [if_pos c, hf]
    rw [hw]
    rw [upd_self h]
    clear hok hw
    repeat' (first | simp (maxDischargeDepth := 9) -implicitDefEqProofs -dsimp only [go_sem, seval, List.getElem_map, List.length_map, *] | simp (disch := omega) only [wrap64, tdiv2, tmod2] | ((with_reducible refine Zv ?_ ?_); focus (first | omega | exact rfl)) | ((with_reducible refine Zu ?_ ?_); focus omega) | ((with_reducible refine Zt (fun oF hoF hnF hnF' => ?_)); (try simp only [upd_none, ne_eq, not_and] at hoF)))
    refine fin_eq ?_
    (repeat' (first | simp (maxDischargeDepth := 9) -implicitDefEqProofs -dsimp only [go_sem, seval, *] | simp (disch := omega) only [wrap64, tdiv2, tmod2])) <;> (repeat' refine And.intro ?_ ?_) <;> (first | omega | rfl | assumption | skip)
  · have c1 : l % 2 = 1 := by omega
    have ho := hok c
    rw [hf] at ho
    obtain ⟨⟨d, x⟩, hd⟩ : ∃ p, litM b nodes l = p := ⟨_, rfl⟩
    rw [hd] at ho ⊢
    clear hok hd
    have hv := fun τ => B.ref_Not b f τ hl
    rw [ho] at hv
    repeat' (first | simp (maxDischargeDepth := 9) -implicitDefEqProofs -dsimp only [go_sem, seval, List.getElem_map, List.length_map, *] | simp (disch := omega) only [wrap64, tdiv2, tmod2] | ((with_reducible refine Zv ?_ ?_); focus (first | omega | exact rfl)) | ((with_reducible refine Zu ?_ ?_); focus omega) | ((with_reducible refine Zt (fun oF hoF hnF hnF' => ?_)); (try simp only [upd_none, ne_eq, not_and] at hoF)) | ((with_reducible apply ACalls.one1); (focus ((first | with_reducible refine hv _ | with_reducible refine ref_keep m b d x _ ?_) <;> (first | (simp (maxDischargeDepth := 9) -implicitDefEqProofs -dsimp only [go_sem, seval, *]; done) | omega))); (focus (first | trivial | with_reducible exact rfl | (simp (maxDischargeDepth := 9) -implicitDefEqProofs -dsimp only [go_sem, seval]; done)))))
    refine fin_eq ?_
    (repeat' (first | simp (maxDischargeDepth := 9) -implicitDefEqProofs -dsimp only [go_sem, seval, *] | simp (disch := omega) only [wrap64, tdiv2, tmod2])) <;> (repeat' refine And.intro ?_ ?_) <;> (first | omega | rfl | assumption | skip)
theorem ref_Forks_err (g : Aig) (e : Int) (hs : Wf g) (he : g.check = e) (h0 : e ≠ 0) (σ : Sig) :
    ACalls Try.prog 14 [encAig g] σ (fun r σ' => r = .ret (.tup [encB 0 [], .slice [] .no, .int .i64 e]) ∧ σ' = σ) := by
  refine calls_x mixed Try.func14 b14 n14 rfl q14 (by simp) ?_; unfold c14 r14
  have hb : (e != 0) = true := by simpa using h0
  repeat' (first | simp (maxDischargeDepth := 9) -implicitDefEqProofs -dsimp only [go_sem, seval, *] | ((with_reducible refine Zt (fun oF hoF hnF hnF' => ?_)); (try simp only [upd_none, ne_eq, not_and] at hoF)) | ((with_reducible apply ACalls.one1); (focus ((first | with_reducible refine A.ref_Check g _ hs) <;> (first | (simp (maxDischargeDepth := 9) -implicitDefEqProofs -dsimp only [go_sem, seval, *]; done) | omega))); (focus (first | trivial | with_reducible exact rfl | (simp (maxDischargeDepth := 9) -implicitDefEqProofs -dsimp only [go_sem, seval]; done)))))
  refine fin_eq ?_
  (repeat' (first | simp (maxDischargeDepth := 9) -implicitDefEqProofs -dsimp only [go_sem, seval, List.map_nil, *])) <;> (repeat' refine And.intro ?_ ?_) <;> (first | omega | rfl | assumption | skip)
end Go.Proofs.Ytjichkelfhcbcaa

namespace Go.Proofs.Ytjichkelfhcbcaa
open Abs Fil Fil.Eqv
open Bd (D encB encF)
set_option maxRecDepth 20000 in
set_option maxHeartbeats 4000000 in
theorem ref_Forks (g : Aig) (hg : Ok g) (σ : Sig) :
    ACalls Try.prog 14 [encAig g] σ (fun r σ' => r = .ret (.tup [encB (forksS g).1.1 (forksS g).1.2, .slice ((forksS g).2.map encInt) .no, .int .i64 0]) ∧ σ' = σ) := by
  refine calls_x mixed Try.func14 b14 n14 rfl q14 (by simp) ?_; unfold c14 r14
  have ez : ((0 : Int) != 0) = false := by decide
  have hlo := hg.lo
  have h8 := hg.eight
  have hck := hg.check
  have hwf := hg.wf
  obtain ⟨n, hn⟩ : ∃ n : Nat, (n : Int) = g.ins + g.flops.length := ⟨(g.ins + g.flops.length).toNat, by omega⟩
  have hn8 : n ≤ 8 := by omega
  have hnn : g.ins + g.flops.length = (n : Int) := hn.symm
  have hnew := fun τ => B.ref_New (n : Int) τ
  rw [ref_new_ok hn8] at hnew
  have hand : g.ands.length ≤ 300 := hg.ands
  clear hn
  repeat' (first | simp (maxDischargeDepth := 9) -implicitDefEqProofs -dsimp only [go_sem, seval, *] | simp (disch := omega) only [wrap64] | ((with_reducible refine Zv ?_ ?_); focus (first | omega | exact rfl)) | ((with_reducible refine Zu ?_ ?_); focus omega) | ((with_reducible refine Zt (fun oF hoF hnF hnF' => ?_)); clear hnF hnF'; (try simp only [Zw, ne_eq] at hoF)) | ((with_reducible apply ACalls.one1); (focus ((first | with_reducible refine A.ref_Check g _ hwf | with_reducible refine hnew _ | with_reducible refine ACalls.flA (A.ref_Check g _ hwf) ?_ | with_reducible refine ACalls.flA (hnew _) ?_) <;> (first | (simp (maxDischargeDepth := 9) -implicitDefEqProofs -dsimp only [go_sem, seval, *]; done) | omega))); (focus (first | trivial | with_reducible exact rfl | (simp (maxDischargeDepth := 9) -implicitDefEqProofs -dsimp only [go_sem, seval]; done)))))
  rename_i o2 h2 o7 h7 oM hM
  obtain ⟨oN, eN⟩ : ∃ x, x = oF := ⟨oF, rfl⟩
  subst eN
  obtain ⟨l0, l1⟩ := vars_len hn8 (Nat.zero_le n)
  refine loop_rule (fun i : Nat => [(11, some (.int .i64 i)), (6, some (.int .i64 n)), (10, some (.slice ((stVars n i).2.map encInt) (.own oN))), (9, some (.ptr oM 0)), (1, some (.cptr (aigL g))), (2, some (.ptr o2 0))])
    (fun i => upd (upd (upd (upd σ o2 (.cells [.int .i64 0, .slice [] .nil])) o7 (.cells [.int .i64 (newB n).1, .slice ((newB n).2.map encF) .no])) oM (madC (stVars n i).1)) oN (.grow 1 (i + 1))) (fun i => i ≤ n) (fun i => n - i) 0 ?_ ?_
  · have e1 : (stVars n 0).1 = newB n := rfl
    have e2 : (stVars n 0).2 = [0] := rfl
    (repeat' (first | simp (maxDischargeDepth := 9) -implicitDefEqProofs -dsimp only [go_sem, seval, e1, e2, List.map_cons, List.map_nil, *] | simp (disch := omega) only [wrap64])) <;> (repeat' refine And.intro ?_ ?_) <;> (first | omega | rfl | assumption | skip)
  · intro i hi
    by_cases hlt : i < n
    · have hlt' : (i : Int) < n := by omega
      obtain ⟨x, k1, k2, k3⟩ := var_step hn8 hlt
      obtain ⟨k4, k5⟩ := vars_len hn8 hi
      obtain ⟨k3l, k3r, k3f⟩ := k3
      obtain ⟨⟨b, ns⟩, hb⟩ : ∃ s, stVars n i = s := ⟨_, rfl⟩
      obtain ⟨⟨c, ms⟩, hc⟩ : ∃ s, stVars n (i + 1) = s := ⟨_, rfl⟩
      rw [hb] at k1 k2 k3l k3r k3f k4 k5 ⊢
      rw [hc] at k1 k2
      simp only at k1 k2 k3l k3r k3f k4 k5
      subst k2
      have hns : ns.length ≤ 9 := by omega
      repeat' (first | simp (maxDischargeDepth := 9) -implicitDefEqProofs -dsimp only [go_sem, seval, *] | simp (disch := omega) only [wrap64] | ((with_reducible refine Zv ?_ ?_); focus (first | omega | exact rfl)) | ((with_reducible refine Zu ?_ ?_); focus omega) | ((with_reducible refine Zt (fun oF hoF hnF hnF' => ?_)); clear hnF hnF'; (try simp only [Zw, ne_eq] at hoF)) | ((with_reducible apply ACalls.one1); (focus ((first | with_reducible refine ref_variable oM b c i x _ ?_ k3l k1 | with_reducible refine ACalls.flA (ref_variable oM b c i x _ ?_ k3l k1) ?_) <;> (first | (simp (maxDischargeDepth := 9) -implicitDefEqProofs -dsimp only [go_sem, seval, *]; done) | omega))); (focus (first | trivial | with_reducible exact rfl | (simp (maxDischargeDepth := 9) -implicitDefEqProofs -dsimp only [go_sem, seval]; done)))))
      refine loop_next _ _ _ _ (i + 1) ?_; (repeat' (first | simp (maxDischargeDepth := 9) -implicitDefEqProofs -dsimp only [go_sem, seval,  List.map_append, List.map_cons, List.map_nil, *] | simp (disch := omega) only [wrap64])) <;> (repeat' refine And.intro ?_ ?_) <;> (first | omega | rfl | assumption | skip)
    · have e : i = n := by omega
      subst e
      have hlt' : ¬ (i : Int) < i := by omega
      clear hlt hi l0 l1 hnew
      have z0 : stAt g i 0 = stVars i i := by simp [stAt]
      rw [← z0]
      repeat' (first | simp (maxDischargeDepth := 9) -implicitDefEqProofs -dsimp only [go_sem, seval, *] | simp (disch := omega) only [wrap64] | ((with_reducible refine Zv ?_ ?_); focus (first | omega | exact rfl)) | ((with_reducible refine Zu ?_ ?_); focus omega) | ((with_reducible refine Zt (fun oF hoF hnF hnF' => ?_)); clear hnF hnF'; (try simp only [Zw, ne_eq] at hoF)))
      refine loop_rule (fun j : Nat => [(12, some (.int .i64 j)), (1, some (.cptr (aigL g))), (10, some (.slice ((stAt g i j).2.map encInt) (.own oN))), (9, some (.ptr oM 0)), (2, some (.ptr o2 0))])
        (fun j => upd (upd (upd (upd σ o2 (.cells [.int .i64 0, .slice [] .nil])) o7 (.cells [.int .i64 (newB i).1, .slice ((newB i).2.map encF) .no])) oM (madC (stAt g i j).1)) oN (.grow 1 (i + 1 + j))) (fun j => j ≤ g.ands.length) (fun j => g.ands.length - j) 0 ?_ ?_
      · (repeat' (first | simp (maxDischargeDepth := 9) -implicitDefEqProofs -dsimp only [go_sem, seval, *] | simp (disch := omega) only [wrap64])) <;> (repeat' refine And.intro ?_ ?_) <;> (first | omega | rfl | assumption | skip)
      · intro j hj
        by_cases hlt : j < g.ands.length
        · have hlj : (j : Int) < g.ands.length := by omega
          obtain ⟨p, q, y, b1, b2, a1, a2, a3, a4, a5, a6, a7, a8, a9⟩ := and_step hg hnn.symm hlt
          have hl2 := (stAt_rep hg hnn.symm (w := List.replicate i false) zeros hj).2
          obtain ⟨⟨b, ns⟩, hb⟩ : ∃ s, stAt g i j = s := ⟨_, rfl⟩
          obtain ⟨⟨c, ms⟩, hc⟩ : ∃ s, stAt g i (j + 1) = s := ⟨_, rfl⟩
          rw [hb] at a1 a2 a3 a4 a6 hl2 ⊢
          rw [hc] at a5 a6
          simp only at a1 a2 a3 a4 a5 a6 hl2
          subst a6
          obtain ⟨u1, u2, u3, u4, u5⟩ := a1
          obtain ⟨v1, v2, v3, v4, v5⟩ := a3
          rw [a2] at u4
          rw [a4] at v4
          have cl1 := fun τ h => ref_lit oM b ns g.ands[j].1 τ h u1 u2 u3 u5.len (by rw [a2]; exact u4)
          have cl2 := fun τ h => ref_lit oM b1 ns g.ands[j].2 τ h v1 v2 v3 v5.len (by rw [a4]; exact v4)
          rw [a2] at cl1
          rw [a4] at cl2
          simp only at cl1 cl2
          have a7l := a7.len
          clear hb u1 u2 u3 u4 u5 v1 v2 v3 v4 v5 a2 a4 hj z0
          have hns : ns.length ≤ 400 := by omega
          repeat' (first | simp (maxDischargeDepth := 9) -implicitDefEqProofs -dsimp only [go_sem, seval, List.getElem_map, List.length_map, *] | simp (disch := omega) only [wrap64] | ((with_reducible refine Zv ?_ ?_); focus (first | omega | exact rfl)) | ((with_reducible refine Zu ?_ ?_); focus omega) | ((with_reducible refine Zt (fun oF hoF hnF hnF' => ?_)); clear hnF hnF'; (try simp only [Zw, ne_eq] at hoF)) | ((with_reducible apply ACalls.one1); (focus ((first | with_reducible refine cl1 _ ?_ | with_reducible refine ACalls.flA (cl1 _ ?_) ?_) <;> (first | (simp (maxDischargeDepth := 9) -implicitDefEqProofs -dsimp only [go_sem, seval, *]; done) | omega))); (focus (first | trivial | with_reducible exact rfl | (simp (maxDischargeDepth := 9) -implicitDefEqProofs -dsimp only [go_sem, seval]; done)))))
          repeat' (first | simp (maxDischargeDepth := 9) -implicitDefEqProofs -dsimp only [go_sem, seval, List.getElem_map, List.length_map, *] | simp (disch := omega) only [wrap64] | ((with_reducible refine Zv ?_ ?_); focus (first | omega | exact rfl)) | ((with_reducible refine Zu ?_ ?_); focus omega) | ((with_reducible refine Zt (fun oF hoF hnF hnF' => ?_)); clear hnF hnF'; (try simp only [Zw, ne_eq] at hoF)) | ((with_reducible apply ACalls.one1); (focus ((first | with_reducible refine cl2 _ ?_ | with_reducible refine ref_and oM b2 c p q y _ ?_ a7l a5 | with_reducible refine ACalls.flA (cl2 _ ?_) ?_ | with_reducible refine ACalls.flA (ref_and oM b2 c p q y _ ?_ a7l a5) ?_) <;> (first | (simp (maxDischargeDepth := 9) -implicitDefEqProofs -dsimp only [go_sem, seval, *]; done) | omega))); (focus (first | trivial | with_reducible exact rfl | (simp (maxDischargeDepth := 9) -implicitDefEqProofs -dsimp only [go_sem, seval]; done)))))
          refine loop_next _ _ _ _ (j + 1) ?_; (repeat' (first | simp (maxDischargeDepth := 9) -implicitDefEqProofs -dsimp only [go_sem, seval,  List.map_append, List.map_cons, List.map_nil, *] | simp (disch := omega) only [wrap64])) <;> (repeat' refine And.intro ?_ ?_) <;> (first | omega | rfl | assumption | skip)
        · have e : j = g.ands.length := by omega
          have hlj : ¬ (g.ands.length : Int) < g.ands.length := by omega
          have hbd := body_at hnn.symm
          rw [e, ← hbd]
          have hfl := hwf.flops
          have hol := hwf.outs
          have hgo := hg.outs
          have hbl : (bodyS g).2.length ≤ 1000 := by
            have := (stAt_rep hg hnn.symm (w := List.replicate i false) zeros (Nat.le_refl g.ands.length)).2
            rw [← hbd] at this; omega
          clear hlt hj z0 hbd e
          repeat' (first | simp (maxDischargeDepth := 9) -implicitDefEqProofs -dsimp only [go_sem, seval, *] | simp (disch := omega) only [wrap64] | ((with_reducible refine Zv ?_ ?_); focus (first | omega | exact rfl)) | ((with_reducible refine Zu ?_ ?_); focus omega) | ((with_reducible refine Zt (fun oF hoF hnF hnF' => ?_)); clear hnF hnF'; (try simp only [Zw, ne_eq] at hoF)))
          obtain ⟨oQ, eQ⟩ : ∃ x, x = oF := ⟨oF, rfl⟩
          subst eQ
          have hstep : ∀ k (hk : k < (lits g).length), ∃ x, (∀ τ, τ oM = some (madC (outAt g k).1) → ACalls Try.prog 45 [.ptr oM 0, .slice ((bodyS g).2.map encInt) .no, .int .i64 (lits g)[k]] τ (fun r σ' => r = .ret (.int .i64 x) ∧ σ' = upd τ oM (madC (outAt g (k + 1)).1))) ∧ (outAt g (k + 1)).2 = (outAt g k).2 ++ [x] ∧ (outAt g k).2.length = k := fun k hk => by
            obtain ⟨⟨u1, u2, u3, u4, u5⟩, _, _⟩ := out_step hg hnn.symm (i := k) hk
            have e := out_next hk
            refine ⟨(litM (outAt g k).1 (bodyS g).2 (lits g)[k]).2, fun τ hτ => ?_, by rw [e], out_two (Nat.le_of_lt hk)⟩
            have := ref_lit oM (outAt g k).1 (bodyS g).2 (lits g)[k] τ hτ u1 u2 u3 u5.len u4
            rw [e]
            exact this
          have hll := lits_len g
          have ho0 : outAt g 0 = ((bodyS g).1, []) := rfl
          have hoe := out_all g
          rw [hll] at hoe
          have hl0 := out_two (g := g) (i := g.outs.length) (by omega)
          refine loop_rule (fun k : Nat => [(16, some (.int .i64 k)), (1, some (.cptr (aigL g))), (15, some (.slice ((outAt g k).2.map encInt) (.own oQ))), (10, some (.slice ((bodyS g).2.map encInt) (.own oN))), (9, some (.ptr oM 0)), (2, some (.ptr o2 0))])
            (fun k => upd (upd (upd (upd (upd σ o2 (.cells [.int .i64 0, .slice [] .nil])) o7 (.cells [.int .i64 (newB i).1, .slice ((newB i).2.map encF) .no])) oM (madC (outAt g k).1)) oN (.grow 1 (i + 1 + g.ands.length))) oQ (.grow 1 k)) (fun k => k ≤ g.outs.length) (fun k => g.outs.length - k) 0 ?_ ?_
          · clear hstep hoe hl0
            (repeat' (first | simp (maxDischargeDepth := 9) -implicitDefEqProofs -dsimp only [go_sem, seval, ho0, List.map_nil, *] | simp (disch := omega) only [wrap64])) <;> (repeat' refine And.intro ?_ ?_) <;> (first | omega | rfl | assumption | skip)
          · intro k hk
            by_cases hkl : k < g.outs.length
            · have hkl' : (k : Int) < g.outs.length := by omega
              obtain ⟨hk2, hk3⟩ := lits_outs hkl
              obtain ⟨x, c1, c2, c3⟩ := hstep k hk2
              rw [hk3] at c1
              obtain ⟨⟨b, ns⟩, hb⟩ : ∃ s, outAt g k = s := ⟨_, rfl⟩
              obtain ⟨⟨c, ms⟩, hc⟩ : ∃ s, outAt g (k + 1) = s := ⟨_, rfl⟩
              rw [hb] at c1 c2 c3 ⊢
              rw [hc] at c1 c2
              simp only at c1 c2 c3
              subst c2
              have hns : ns.length ≤ 20 := by omega
              clear hstep hoe ho0 hl0 hb hk3
              repeat' (first | simp (maxDischargeDepth := 9) -implicitDefEqProofs -dsimp only [go_sem, seval, List.getElem_map, List.length_map, *] | simp (disch := omega) only [wrap64] | ((with_reducible refine Zv ?_ ?_); focus (first | omega | exact rfl)) | ((with_reducible refine Zu ?_ ?_); focus omega) | ((with_reducible refine Zt (fun oF hoF hnF hnF' => ?_)); clear hnF hnF'; (try simp only [Zw, ne_eq] at hoF)) | ((with_reducible apply ACalls.one1); (focus ((first | with_reducible refine c1 _ ?_ | with_reducible refine ACalls.flA (c1 _ ?_) ?_) <;> (first | (simp (maxDischargeDepth := 9) -implicitDefEqProofs -dsimp only [go_sem, seval, *]; done) | omega))); (focus (first | trivial | with_reducible exact rfl | (simp (maxDischargeDepth := 9) -implicitDefEqProofs -dsimp only [go_sem, seval]; done)))))
              refine loop_next _ _ _ _ (k + 1) ?_; (repeat' (first | simp (maxDischargeDepth := 9) -implicitDefEqProofs -dsimp only [go_sem, seval,  List.map_append, List.map_cons, List.map_nil, *] | simp (disch := omega) only [wrap64])) <;> (repeat' refine And.intro ?_ ?_) <;> (first | omega | rfl | assumption | skip)
            · have e : k = g.outs.length := by omega
              subst e
              have hkl' : ¬ (g.outs.length : Int) < g.outs.length := by omega
              clear hkl hk ho0
              repeat' (first | simp (maxDischargeDepth := 9) -implicitDefEqProofs -dsimp only [go_sem, seval, *] | simp (disch := omega) only [wrap64] | ((with_reducible refine Zv ?_ ?_); focus (first | omega | exact rfl)) | ((with_reducible refine Zu ?_ ?_); focus omega) | ((with_reducible refine Zt (fun oF hoF hnF hnF' => ?_)); clear hnF hnF'; (try simp only [Zw, ne_eq] at hoF)))
              refine loop_rule (fun m : Nat => [(17, some (.int .i64 m)), (1, some (.cptr (aigL g))), (15, some (.slice ((outAt g (g.outs.length + m)).2.map encInt) (.own oQ))), (10, some (.slice ((bodyS g).2.map encInt) (.own oN))), (9, some (.ptr oM 0)), (2, some (.ptr o2 0))])
                (fun m => upd (upd (upd (upd (upd σ o2 (.cells [.int .i64 0, .slice [] .nil])) o7 (.cells [.int .i64 (newB i).1, .slice ((newB i).2.map encF) .no])) oM (madC (outAt g (g.outs.length + m)).1)) oN (.grow 1 (i + 1 + g.ands.length))) oQ (.grow 1 (g.outs.length + m))) (fun m => m ≤ g.flops.length) (fun m => g.flops.length - m) 0 ?_ ?_
              · clear hstep hoe
                (repeat' (first | simp (maxDischargeDepth := 9) -implicitDefEqProofs -dsimp only [go_sem, seval, Nat.add_zero, *] | simp (disch := omega) only [wrap64])) <;> (repeat' refine And.intro ?_ ?_) <;> (first | omega | rfl | assumption | skip)
              · intro m hm
                by_cases hml : m < g.flops.length
                · have hml' : (m : Int) < g.flops.length := by omega
                  obtain ⟨hm2, hm3⟩ := lits_next hml
                  obtain ⟨x, c1, c2, c3⟩ := hstep _ hm2
                  rw [hm3] at c1
                  obtain ⟨⟨b, ns⟩, hb⟩ : ∃ s, outAt g (g.outs.length + m) = s := ⟨_, rfl⟩
                  obtain ⟨⟨c, ms⟩, hc⟩ : ∃ s, outAt g (g.outs.length + m + 1) = s := ⟨_, rfl⟩
                  have hc' : outAt g (g.outs.length + (m + 1)) = (c, ms) := hc
                  rw [hb] at c1 c2 c3 ⊢
                  rw [hc] at c1 c2
                  simp only at c1 c2 c3
                  subst c2
                  have hns : ns.length ≤ 40 := by omega
                  clear hstep hoe hl0 hb hm3 hc
                  repeat' (first | simp (maxDischargeDepth := 9) -implicitDefEqProofs -dsimp only [go_sem, seval, List.getElem_map, List.length_map, *] | simp (disch := omega) only [wrap64] | ((with_reducible refine Zv ?_ ?_); focus (first | omega | exact rfl)) | ((with_reducible refine Zu ?_ ?_); focus omega) | ((with_reducible refine Zt (fun oF hoF hnF hnF' => ?_)); clear hnF hnF'; (try simp only [Zw, ne_eq] at hoF)) | ((with_reducible apply ACalls.one1); (focus ((first | with_reducible refine c1 _ ?_ | with_reducible refine ACalls.flA (c1 _ ?_) ?_) <;> (first | (simp (maxDischargeDepth := 9) -implicitDefEqProofs -dsimp only [go_sem, seval, *]; done) | omega))); (focus (first | trivial | with_reducible exact rfl | (simp (maxDischargeDepth := 9) -implicitDefEqProofs -dsimp only [go_sem, seval]; done)))))
                  refine loop_next _ _ _ _ (m + 1) ?_; (repeat' (first | simp (maxDischargeDepth := 9) -implicitDefEqProofs -dsimp only [go_sem, seval,  List.map_append, List.map_cons, List.map_nil, *] | simp (disch := omega) only [wrap64])) <;> (repeat' refine And.intro ?_ ?_) <;> (first | omega | rfl | assumption | skip)
                · have e : m = g.flops.length := by omega
                  subst e
                  have hml' : ¬ (g.flops.length : Int) < g.flops.length := by omega
                  clear hstep hml hm hl0
                  rw [hoe]
                  repeat' (first | simp (maxDischargeDepth := 9) -implicitDefEqProofs -dsimp only [go_sem, seval, *] | simp (disch := omega) only [wrap64] | ((with_reducible refine Zv ?_ ?_); focus (first | omega | exact rfl)) | ((with_reducible refine Zu ?_ ?_); focus omega) | ((with_reducible refine Zt (fun oF hoF hnF hnF' => ?_)); clear hnF hnF'; (try simp only [Zw, ne_eq] at hoF)))
                  refine fin_eq ?_
                  (repeat' (first | simp (maxDischargeDepth := 9) -implicitDefEqProofs -dsimp only [go_sem, seval, *] | simp (disch := omega) only [wrap64])) <;> (repeat' refine And.intro ?_ ?_) <;> (first | omega | rfl | assumption | skip)
end Go.Proofs.Ytjichkelfhcbcaa

namespace Go.Proofs.Ytjichkelfhcbcaa
open Abs Fil Fil.Eqv
open Bd (D encB encF)
set_option maxHeartbeats 2000000 in
theorem forks_law (g : Aig) (σ : Sig) (wg : Wide g) : ACalls Try.prog 3 [encAig g] σ (fun r σ' => r = .ret (.bool true) ∧ σ' = σ) := by
  refine calls_x mixed Try.func3 b3 n3 rfl q3 (by simp) ?_; unfold c3 r3
  cases fg : fewB g with
  | false =>
    repeat' (first | simp (maxDischargeDepth := 9) -implicitDefEqProofs -dsimp only [go_sem, seval, *] | ((with_reducible refine Zt (fun oF hoF hnF hnF' => ?_)); clear hnF hnF'; (try simp only [Zw, ne_eq] at hoF)) | ((with_reducible apply ACalls.one1); (focus ((first | with_reducible refine law_live _ | with_reducible refine law_few g _ | with_reducible refine ACalls.flA (law_live _) ?_ | with_reducible refine ACalls.flA (law_few g _) ?_) <;> (first | (simp (maxDischargeDepth := 9) -implicitDefEqProofs -dsimp only [go_sem, seval, *]; done) | omega))); (focus (first | trivial | with_reducible exact rfl | (simp (maxDischargeDepth := 9) -implicitDefEqProofs -dsimp only [go_sem, seval]; done)))))
    refine fin_eq ?_
    (repeat' (first | simp (maxDischargeDepth := 9) -implicitDefEqProofs -dsimp only [go_sem, seval, *])) <;> (repeat' refine And.intro ?_ ?_) <;> (first | omega | rfl | assumption | skip)
  | true =>
  obtain ⟨hwg, f1, f2, f3, hok⟩ := few_spec fg wg
  by_cases hc : g.check = 0
  · have ok := hok hc
    have hE := fun τ => eq_Forks g ok τ
    have hR := fun τ => ref_Forks g ok τ
    have hl := forks_len g
    obtain ⟨n, hn⟩ : ∃ n : Nat, (n : Int) = g.ins + g.flops.length := ⟨(g.ins + g.flops.length).toNat, by have := ok.lo; omega⟩
    have hr := forks_rep ok (w := List.replicate n false) (by rw [zeros]; exact hn)
    have hgl := (hr.good.mono (d := 2000) (by have := ok.eight; have := lits_len g; rw [zeros]; omega)).len
    obtain ⟨⟨b, l⟩, hb⟩ : ∃ s, forksS g = s := ⟨_, rfl⟩
    rw [hb] at hE hR hl hgl
    simp only at hE hR hl hgl
    have hS := fun τ => B.ref_Same b b τ (by omega) (by omega)
    have hI := fun τ => A.ref_Ints l l τ (by omega)
    rw [show decide (b = b) = true by simp] at hS
    rw [show decide (l = l) = true by simp] at hI
    have ee : ((0 : Int) == 0) = true := by decide
    clear hok hr hb hn hl hgl
    repeat' (first | simp (maxDischargeDepth := 9) -implicitDefEqProofs -dsimp only [go_sem, seval, *] | ((with_reducible refine Zt (fun oF hoF hnF hnF' => ?_)); clear hnF hnF'; (try simp only [Zw, ne_eq] at hoF)) | ((with_reducible apply ACalls.one1); (focus ((first | with_reducible refine law_live _ | with_reducible refine law_few g _ | with_reducible refine hE _ | with_reducible refine hR _ | with_reducible refine hS _ | with_reducible refine hI _ | with_reducible refine ACalls.flA (law_live _) ?_ | with_reducible refine ACalls.flA (law_few g _) ?_ | with_reducible refine ACalls.flA (hE _) ?_ | with_reducible refine ACalls.flA (hR _) ?_ | with_reducible refine ACalls.flA (hS _) ?_ | with_reducible refine ACalls.flA (hI _) ?_) <;> (first | (simp (maxDischargeDepth := 9) -implicitDefEqProofs -dsimp only [go_sem, seval, *]; done) | omega))); (focus (first | trivial | with_reducible exact rfl | (simp (maxDischargeDepth := 9) -implicitDefEqProofs -dsimp only [go_sem, seval]; done)))))
    refine fin_eq ?_
    (repeat' (first | simp (maxDischargeDepth := 9) -implicitDefEqProofs -dsimp only [go_sem, seval, *])) <;> (repeat' refine And.intro ?_ ?_) <;> (first | omega | rfl | assumption | skip)
  · obtain ⟨e, he⟩ : ∃ e, g.check = e := ⟨_, rfl⟩
    rw [he] at hc
    have hE := fun τ => eq_Forks_err g e hwg he hc τ
    have hR := fun τ => ref_Forks_err g e hwg he hc τ
    have hS := fun τ => B.ref_Same (0, []) (0, []) τ (by simp) (by simp)
    have hI := fun τ => A.ref_Ints [] [] τ (by simp)
    rw [show decide (((0, []) : D) = (0, [])) = true by simp] at hS
    rw [show decide (([] : List Int) = []) = true by simp] at hI
    have ee : (e == e) = true := by simp
    clear hok
    repeat' (first | simp (maxDischargeDepth := 9) -implicitDefEqProofs -dsimp only [go_sem, seval, List.map_nil, *] | ((with_reducible refine Zt (fun oF hoF hnF hnF' => ?_)); clear hnF hnF'; (try simp only [Zw, ne_eq] at hoF)) | ((with_reducible apply ACalls.one1); (focus ((first | with_reducible refine law_live _ | with_reducible refine law_few g _ | with_reducible refine hE _ | with_reducible refine hR _ | with_reducible refine hS _ | with_reducible refine hI _ | with_reducible refine ACalls.flA (law_live _) ?_ | with_reducible refine ACalls.flA (law_few g _) ?_ | with_reducible refine ACalls.flA (hE _) ?_ | with_reducible refine ACalls.flA (hR _) ?_ | with_reducible refine ACalls.flA (hS _) ?_ | with_reducible refine ACalls.flA (hI _) ?_) <;> (first | (simp (maxDischargeDepth := 9) -implicitDefEqProofs -dsimp only [go_sem, seval, *]; done) | omega))); (focus (first | trivial | with_reducible exact rfl | (simp (maxDischargeDepth := 9) -implicitDefEqProofs -dsimp only [go_sem, seval]; done)))))
    refine fin_eq ?_
    (repeat' (first | simp (maxDischargeDepth := 9) -implicitDefEqProofs -dsimp only [go_sem, seval, *])) <;> (repeat' refine And.intro ?_ ?_) <;> (first | omega | rfl | assumption | skip)
end Go.Proofs.Ytjichkelfhcbcaa

